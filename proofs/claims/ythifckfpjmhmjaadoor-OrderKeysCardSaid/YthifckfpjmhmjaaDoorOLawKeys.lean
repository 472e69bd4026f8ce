/-
  The law OrderKeys.
-/
import Derived.Test.YthifckfpjmhmjaaDoorRKey2
import Derived.Test.YthifckfpjmhmjaaDoorOLawCmp
namespace Go.Proofs.YthifckfpjmhmjaaDoor
open Go.RowKit Go.TL
set_option maxRecDepth 100000

theorem wordL_le (s : List UInt8) : (wordL s).length ≤ 2 * s.length + 3 := by
  have := escL_len s
  rw [wordL, List.length_cons, List.length_append]
  show _ + 2 + 1 ≤ _
  omega
/-- A light value's key is not long. -/
theorem key_len : ∀ (N : Nat) (x : DV), dsz x ≤ N → ∀ (l : Int), l ≤ 1000 → 0 ≤ cnt x l → ((keyJ (toJ x)).length : Int) + 603 ≤ 2000 * (l - cnt x l)
  | 0, .mk .., h, _, _, _ => by rw [dsz] at h; omega
  | N + 1, .mk k b n s items names, h, l, hl, hc => by
    have IH := key_len N
    rw [dsz] at h
    rw [cnt] at hc ⊢
    by_cases hno : l - 1 < 0 ∨ 300 < s.length ∨ 300 < items.length ∨ (k = 5 ∧ names.length ≠ items.length)
    · rw [if_pos hno] at hc; omega
    rw [if_neg hno] at hc ⊢
    have H1 : ∀ (o : Bool) (r : List DV) (ns : List (List UInt8)) (m : Int), m ≤ 1000 → dszs r ≤ N → 0 ≤ cnts o ns r m → ((keyJs (r.map toJ)).length : Int) ≤ 2000 * (m - cnts o ns r m) ∧ (o = true → ((keyJo ns (r.map toJ)).length : Int) ≤ 2000 * (m - cnts o ns r m)) := by
      intro o r
      induction r with
      | nil =>
        intro ns m _ _ _
        rw [cnts, List.map_nil, keyJs, keyJo]
        simp
      | cons x r ih =>
        intro ns m hm hd hc
        rw [dszs] at hd
        rw [cnts] at hc ⊢
        by_cases h1 : o = true ∧ 300 < (ns.headD []).length
        · rw [if_pos h1] at hc; omega
        rw [if_neg h1] at hc ⊢
        by_cases h2 : cnt x m < 0
        · rw [if_pos h2] at hc; omega
        rw [if_neg h2] at hc ⊢
        have h3 := IH x (by omega) m hm (by omega)
        have h4 : cnt x m ≤ 1000 := by omega
        have h5 := ih ns.tail (cnt x m) h4 (by omega) hc
        rw [List.map_cons, keyJs, keyJo, List.length_append, List.length_append, List.length_append]
        refine ⟨by push_cast; omega, fun ho => ?_⟩
        have h6 := wordL_le (ns.headD [])
        have h7 : ¬ 300 < (ns.headD []).length := fun e => h1 ⟨ho, e⟩
        have h8 := h5.2 ho
        push_cast
        omega
    rw [toJ_eq]
    by_cases k0 : k = 0
    · rw [if_neg (show ¬ (k = 4 ∨ k = 5) by omega), if_pos k0, keyJ]; show ((1 : Nat) : Int) + 603 ≤ _; omega
    rw [if_neg k0]
    by_cases k1 : k = 1
    · rw [if_neg (show ¬ (k = 4 ∨ k = 5) by omega), if_pos k1, keyJ]; show ((1 : Nat) : Int) + 603 ≤ _; omega
    rw [if_neg k1]
    by_cases k2 : k = 2
    · rw [if_neg (show ¬ (k = 4 ∨ k = 5) by omega), if_pos k2, keyJ, List.length_cons, beL_len]; omega
    rw [if_neg k2]
    by_cases k3 : k = 3
    · have := wordL_le s
      rw [if_neg (show ¬ (k = 4 ∨ k = 5) by omega), if_pos k3, keyJ]; omega
    rw [if_neg k3]
    by_cases k4 : k = 4
    · rw [if_pos (show k = 4 ∨ k = 5 from .inl k4)] at hc ⊢
      have := H1 _ items names (l - 1) (by omega) (by omega) hc
      rw [if_pos k4, keyJ, List.length_cons, List.length_append, List.length_singleton]
      have := this.1
      push_cast
      omega
    rw [if_neg k4]
    by_cases k5 : k = 5
    · rw [if_pos (show k = 4 ∨ k = 5 from .inr k5)] at hc ⊢
      have := H1 _ items names (l - 1) (by omega) (by omega) hc
      rw [if_pos k5, keyJ, List.length_cons, List.length_append, List.length_singleton]
      have := this.2 (by simp [k5])
      push_cast
      omega
    rw [if_neg k5, if_neg (show ¬ (k = 4 ∨ k = 5) by omega), keyJ]; show ((1 : Nat) : Int) + 603 ≤ _; omega
theorem key_light {x : DV} (h : lightB x = true) : (keyJ (toJ x)).length ≤ 600000 := by
  have h0 : 0 ≤ cnt x 300 := of_decide_eq_true h
  have := key_len _ x (Nat.le_refl _) 300 (by decide) h0
  omega
/-- The key of what the program is told. -/
def keyV (x : DV) : List UInt8 := if mayV x 0 = 0 then keyJ (toJ x) else []
theorem key_told {x : DV} {v : Value} {g : Gh} (L : List Ent) (hx : lightB x = true) (j : IsJ g (toJ x) v) (hT : GTabs g) (hU : GU8 g) :
    Does Tryd.prog 16 #[v] g L fun r g' L1 => ∃ v', r = .returned (.tuple #[v', .int .i64 (mayV x 0 : Nat)]) ∧ g' = g ∧ L1 = .row 5 1 v' (keyV x).length (byteVals (keyV x)) :: L := by
  have h := oKey_does (toJ x) v g L j (sm_light hx) (by have := key_light hx; omega) hT hU
  unfold KeyR keyOf at h
  rw [look_toJ _ x (Nat.le_refl _)] at h
  exact h
set_option maxHeartbeats 16000000 in
theorem lawOrderKeys (x : DV) (cs : List Value) (g : Gh) (hX : IsV g x cs) (hT : GTabs g) (hU : GU8 g) : Gives Tryd.prog 4 #[.agg cs.toArray] g [] (.bool true) := by
  refine .of (Does.of1 Tryd.func4 rfl Tryd.ntmps4 rfl ?_)
  have L1 := fun L => light_gives x cs g L hX
  have l1 := hX.len
  cases hx : lightB x with
  | false =>
    rw [hx] at L1
    clear hX hT hU
    repeat' (first
    | ((with_reducible apply TL.pure); (· exact yV); (· rfl)) | ((with_reducible apply TW.pure); (· exact yV); (· rfl))
    | ((with_reducible apply TL.gives_plain); (· kernel_rfl); (· rfl); (· exact L1 _); (· rfl)) | ((with_reducible apply TW.gives_plain); (· kernel_rfl); (· rfl); (· exact L1 _); (· rfl))
    | ((with_reducible apply TL.pure); (· exact yA); (· rfl))
    | refine TC.seq ?_ | refine TC.region ?_ | refine TL.nil ?_ | refine TQ.then_normal ?_
    | ((with_reducible apply TL.storeE); (· rfl); (· rfl); (· rfl); (· exact pkA); (· infer_instance)) | ((with_reducible apply TL.store_whole); (· rfl); (· rfl); (· first | rfl | (first | rfl | ((try simp only [List.set_cons_zero, List.set_cons_succ]); refine all1 (by first | rfl | assumption) ?_; first | rfl | (refine all1 (by first | rfl | assumption) ?_; first | rfl | (refine all1 (by first | rfl | assumption) ?_; rfl))))); (· rfl); (· exact pkA); (· rfl))
    | refine TC.block ?_ | refine TC.ret ?_ | refine TC.skip ?_ | refine TC.exit ?_
    | ((with_reducible apply TC.cond_true); (· rfl)) | ((with_reducible apply TC.cond_false); (· rfl)) | refine TC.cond_ky rfl kpA ?_ | refine TC.cond_kn rfl kpA ?_ | refine TC.cond_nky rfl kpA ?_ | refine TC.cond_nkn rfl kpA ?_ | refine TC.cond_eq0 rfl (fun _ => ?_) (fun _ => ?_) | refine TC.cond_neq0 rfl (fun _ => ?_) (fun _ => ?_) | refine TC.cond_eq rfl (fun _ => ?_) (fun _ => ?_) | refine TC.cond_neq rfl (fun _ => ?_) (fun _ => ?_) | refine TC.cond_not rfl (fun _ => ?_) (fun _ => ?_) | refine TC.cond_dec rfl (fun _ => ?_) (fun _ => ?_) | refine TC.cond_bool rfl (fun _ => ?_) (fun _ => ?_)
    | refine TQ.then_ret ?_ | refine TQ.then_exit ?_ | refine TQ.then_panic ?_ | refine TQ.in_normal ?_ | refine TQ.in_ret ?_ | refine TQ.in_exit ?_ | refine TQ.in_exit' rfl ?_ | refine TQ.in_panic ?_
    | refine TQ.round_ret ?_ | refine TQ.round_exit ?_ | refine TQ.round_panic ?_ | refine TQ.cut_ret ?_ | refine TQ.cut_exit ?_ | refine TQ.cut_panic ?_
    | ((with_reducible apply TL.guard_yes); (· rfl); (· rfl)) | ((with_reducible apply TL.guard_no); (· rfl); (· rfl); (· rfl); (· rfl)) | ((with_reducible apply TL.guard_no0); (· rfl); (· rfl); (· rfl)) | ((with_reducible apply TL.guard_undef); (· rfl); (· rfl); (· rfl)) | ((with_reducible apply TL.guard_undef0); (· rfl); (· rfl))
    | refine TL.guard_ky rfl rfl kpA ?_ | refine TL.guard_kn rfl rfl kpA ?_ | refine TL.guard_nky rfl rfl kpA ?_ | refine TL.guard_nkn rfl rfl kpA ?_ | refine TL.guard_eq0 rfl rfl rfl (fun _ => ?_) (fun _ => ?_) | refine TL.guard_neq0 rfl rfl rfl (fun _ => ?_) (fun _ => ?_) | refine TL.guard_eq rfl rfl rfl (fun _ => ?_) (fun _ => ?_) | refine TL.guard_neq rfl rfl rfl (fun _ => ?_) (fun _ => ?_) | refine TL.guard_ndec rfl rfl rfl (fun _ => ?_) (fun _ => ?_) | refine TL.guard_dec rfl rfl rfl (fun _ => ?_) (fun _ => ?_) | refine TL.guard_split rfl rfl rfl (fun _ => ?_) (fun _ => ?_)
    | ((with_reducible apply TL.alloc_ag); (· rfl); intro _) | ((with_reducible apply TL.alloc_sc); (· rfl); (· rfl); intro _) | ((with_reducible apply TL.box_ag); (· rfl); (· rfl); intro _) | ((with_reducible apply TL.box_sc); (· rfl); (· rfl); (· rfl); intro _))
    refine TQ.endR1 (L' := []) Tryd.results4 (by first | exact RVal.tmp rfl | exact RVal.cells rfl pkA (by rfl) | exact RVal.cell rfl pkA rfl) rfl (.refl _) ?_ (by repeat (first | exact Sel.refl | exact Sel.nil | apply Sel.cons (by (repeat (first | exact Pick.here | apply Pick.there))) | apply Sel.drop))
    exact ⟨rfl, rfl, rfl⟩
  | true =>
  rw [hx] at L1
  have wx := wf_of_light hx
  by_cases m1 : mayV x 0 = 0
  · have kv : keyV x = keyJ (toJ x) := by unfold keyV; rw [if_pos m1]
    have ox := ok_may' x 0 m1
    have hkl := keyJ_pos (toJ x)
    have hlt := key_light hx
    have RK := fun g' L (h : g.le g') => rKey_rows _ x (Nat.le_refl _) cs g' L (IsV.le h _ _ hX) wx ox (by omega)
    repeat' (first
    | ((with_reducible apply TA.take_g 8 (v := .bool true)); (· decide +kernel); (· rfl); (· rfl); (· rfl); (· exact Y.eql_is (decide_eq_true rfl) rfl rfl); (· decide +kernel); (· decide +kernel); (· rfl); (· exact fun _ _ _ h => h); (· rfl))
    | ((with_reducible apply TL.pure); (· exact yV); (· rfl)) | ((with_reducible apply TW.pure); (· exact yV); (· rfl))
    | ((with_reducible apply TL.pure); (· exact Y.bytes_row rfl pkA); (· rfl)) | ((with_reducible apply TL.pure); (· exact Y.bytes_src rfl (Src.sl (by assumption)) rfl); (· rfl)) | ((with_reducible apply TW.pure); (· exact Y.bytes_row rfl pkA); (· rfl)) | ((with_reducible apply TW.pure); (· exact Y.bytes_src rfl (Src.sl (by assumption)) rfl); (· rfl))
    | (refine TL.makes (Enters.plain (by kernel_rfl) (by rfl)) (told_makes _ x (Nat.le_refl _) cs g _ hX wx) (by rfl) ?_; (rintro v1 g1 hg1 j1; have C := fun L => key_told L hx j1 (hT.le hg1) (hU.le hg1); rw [kv, m1] at C; have M1 := fun L => rMay_gives x cs g1 L (IsV.le hg1 _ _ hX) wx; rw [m1] at M1; have AW := fun L => awake05_gives (g := g1) (L := L) (hT.le hg1) (hU.le hg1); have R := fun L => RK g1 L hg1; generalize keyJ (toJ x) = K at C R hkl))
    | ((with_reducible apply TL.gives_plain); (· kernel_rfl); (· rfl); (· exact L1 _); (· rfl)) | ((with_reducible apply TW.gives_plain); (· kernel_rfl); (· rfl); (· exact L1 _); (· rfl))
    | (refine TL.call (Enters.plain (by kernel_rfl) (by rfl)) (by rfl) (C _) ?_; (rintro e g2 L2 _ ⟨vk, h1, h2, h3⟩; have h2 := h2.symm; subst h1; subst h2; subst h3; refine CallK.ret ?_; refine Go.TL.TL.row_slice (v := vk) pkA ?_; rintro ak ck rfl _))
    | ((with_reducible apply TL.gives_plain); (· kernel_rfl); (· rfl); (· exact M1 _); (· rfl)) | ((with_reducible apply TW.gives_plain); (· kernel_rfl); (· rfl); (· exact M1 _); (· rfl))
    | ((with_reducible apply TL.gives_plain); (· kernel_rfl); (· rfl); (· exact AW _); (· rfl)) | ((with_reducible apply TW.gives_plain); (· kernel_rfl); (· rfl); (· exact AW _); (· rfl))
    | (refine TL.rows (Enters.plain (by kernel_rfl) (by rfl)) (R _) (by repeat (first | exact List.Perm.refl _ | apply Pk.cons (by (repeat (first | exact Pick.here | apply Pick.there))))) (by rfl) (fun vr => ?_); refine Go.TL.TL.row_form (v := vr) pkA (hkl) ?_; rintro br cr rfl _)
    | ((with_reducible apply TA.take_g 0); (· decide +kernel); (· rfl); (· rfl); (· rfl); (· first | exact yA | exact yM | exact yV | exact Y.bytes_row rfl pkA); (· decide +kernel); (· decide +kernel); (· rfl); (· exact fun _ _ _ h => h); (· rfl))
    | ((with_reducible apply TA.take_g 1); (· decide +kernel); (· rfl); (· rfl); (· rfl); (· first | exact yA | exact yM | exact yV | exact Y.bytes_row rfl pkA); (· decide +kernel); (· decide +kernel); (· rfl); (· exact fun _ _ _ h => h); (· rfl))
    | ((with_reducible apply TA.take_g 2); (· decide +kernel); (· rfl); (· rfl); (· rfl); (· first | exact yA | exact yM | exact yV | exact Y.bytes_row rfl pkA); (· decide +kernel); (· decide +kernel); (· rfl); (· exact fun _ _ _ h => h); (· rfl))
    | ((with_reducible apply TA.take_g 3); (· decide +kernel); (· rfl); (· rfl); (· rfl); (· first | exact yA | exact yM | exact yV | exact Y.bytes_row rfl pkA); (· decide +kernel); (· decide +kernel); (· rfl); (· exact fun _ _ _ h => h); (· rfl))
    | ((with_reducible apply TA.take_g 4); (· decide +kernel); (· rfl); (· rfl); (· rfl); (· first | exact yA | exact yM | exact yV | exact Y.bytes_row rfl pkA); (· decide +kernel); (· decide +kernel); (· rfl); (· exact fun _ _ _ h => h); (· rfl))
    | ((with_reducible apply TA.take_g 5); (· decide +kernel); (· rfl); (· rfl); (· rfl); (· first | exact yA | exact yM | exact yV | exact Y.bytes_row rfl pkA); (· decide +kernel); (· decide +kernel); (· rfl); (· exact fun _ _ _ h => h); (· rfl))
    | ((with_reducible apply TA.take_g 6); (· decide +kernel); (· rfl); (· rfl); (· rfl); (· first | exact yA | exact yM | exact yV | exact Y.bytes_row rfl pkA); (· decide +kernel); (· decide +kernel); (· rfl); (· exact fun _ _ _ h => h); (· rfl))
    | ((with_reducible apply TA.take_g 7); (· decide +kernel); (· rfl); (· rfl); (· rfl); (· first | exact yA | exact yM | exact yV | exact Y.bytes_row rfl pkA); (· decide +kernel); (· decide +kernel); (· rfl); (· exact fun _ _ _ h => h); (· rfl))
    | ((with_reducible apply TA.take 0); (· decide +kernel); (· rfl); (· (first | exact yA | exact yB | exact yM | exact yV)); (· decide +kernel); (· decide +kernel); (· rfl); (· exact fun _ _ _ h => h); (· rfl))
    | ((with_reducible apply TA.take 1); (· decide +kernel); (· rfl); (· (first | exact yA | exact yB | exact yM | exact yV)); (· decide +kernel); (· decide +kernel); (· rfl); (· exact fun _ _ _ h => h); (· rfl))
    | ((with_reducible apply TA.take 2); (· decide +kernel); (· rfl); (· (first | exact yA | exact yB | exact yM | exact yV)); (· decide +kernel); (· decide +kernel); (· rfl); (· exact fun _ _ _ h => h); (· rfl))
    | ((with_reducible apply TA.take 3); (· decide +kernel); (· rfl); (· (first | exact yA | exact yB | exact yM | exact yV)); (· decide +kernel); (· decide +kernel); (· rfl); (· exact fun _ _ _ h => h); (· rfl))
    | ((with_reducible apply TA.take 4); (· decide +kernel); (· rfl); (· (first | exact yA | exact yB | exact yM | exact yV)); (· decide +kernel); (· decide +kernel); (· rfl); (· exact fun _ _ _ h => h); (· rfl))
    | ((with_reducible apply TA.take 5); (· decide +kernel); (· rfl); (· (first | exact yA | exact yB | exact yM | exact yV)); (· decide +kernel); (· decide +kernel); (· rfl); (· exact fun _ _ _ h => h); (· rfl))
    | ((with_reducible apply TA.take 6); (· decide +kernel); (· rfl); (· (first | exact yA | exact yB | exact yM | exact yV)); (· decide +kernel); (· decide +kernel); (· rfl); (· exact fun _ _ _ h => h); (· rfl))
    | ((with_reducible apply TA.take 7); (· decide +kernel); (· rfl); (· (first | exact yA | exact yB | exact yM | exact yV)); (· decide +kernel); (· decide +kernel); (· rfl); (· exact fun _ _ _ h => h); (· rfl))
    | ((with_reducible apply TA.take 8); (· decide +kernel); (· rfl); (· (first | exact yA | exact yB | exact yM | exact yV)); (· decide +kernel); (· decide +kernel); (· rfl); (· exact fun _ _ _ h => h); (· rfl))
    | ((with_reducible apply TA.take 9); (· decide +kernel); (· rfl); (· (first | exact yA | exact yB | exact yM | exact yV)); (· decide +kernel); (· decide +kernel); (· rfl); (· exact fun _ _ _ h => h); (· rfl))
    | ((with_reducible apply TA.take 10); (· decide +kernel); (· rfl); (· (first | exact yA | exact yB | exact yM | exact yV)); (· decide +kernel); (· decide +kernel); (· rfl); (· exact fun _ _ _ h => h); (· rfl))
    | ((with_reducible apply TA.take 11); (· decide +kernel); (· rfl); (· (first | exact yA | exact yB | exact yM | exact yV)); (· decide +kernel); (· decide +kernel); (· rfl); (· exact fun _ _ _ h => h); (· rfl))
    | ((with_reducible apply TA.take 12); (· decide +kernel); (· rfl); (· (first | exact yA | exact yB | exact yM | exact yV)); (· decide +kernel); (· decide +kernel); (· rfl); (· exact fun _ _ _ h => h); (· rfl))
    | ((with_reducible apply TA.take 13); (· decide +kernel); (· rfl); (· (first | exact yA | exact yB | exact yM | exact yV)); (· decide +kernel); (· decide +kernel); (· rfl); (· exact fun _ _ _ h => h); (· rfl))
    | ((with_reducible apply TA.one 0); (· rfl); (· decide +kernel); (· rfl))
    | ((with_reducible apply TA.one 1); (· rfl); (· decide +kernel); (· rfl))
    | ((with_reducible apply TA.one 2); (· rfl); (· decide +kernel); (· rfl))
    | ((with_reducible apply TA.one 3); (· rfl); (· decide +kernel); (· rfl))
    | ((with_reducible apply TA.one 4); (· rfl); (· decide +kernel); (· rfl))
    | ((with_reducible apply TA.one 5); (· rfl); (· decide +kernel); (· rfl))
    | ((with_reducible apply TA.one 6); (· rfl); (· decide +kernel); (· rfl))
    | ((with_reducible apply TA.one 7); (· rfl); (· decide +kernel); (· rfl))
    | ((with_reducible apply TA.one 8); (· rfl); (· decide +kernel); (· rfl))
    | ((with_reducible apply TA.one 9); (· rfl); (· decide +kernel); (· rfl))
    | ((with_reducible apply TA.one 10); (· rfl); (· decide +kernel); (· rfl))
    | ((with_reducible apply TA.one 11); (· rfl); (· decide +kernel); (· rfl))
    | ((with_reducible apply TA.one 12); (· rfl); (· decide +kernel); (· rfl))
    | ((with_reducible apply TA.one 13); (· rfl); (· decide +kernel); (· rfl))
    | refine TQ.any (by first | exact .refl _ | assumption) (by repeat (first | exact Sel.refl | exact Sel.nil | apply Sel.cons (by (repeat (first | exact Pick.here | apply Pick.there))) | apply Sel.drop)) ?_
    | refine TC.region_any 14 (_) (by kernel_rfl) rfl (by repeat (first | exact Sel.refl | exact Sel.nil | apply Sel.cons (by (repeat (first | exact Pick.here | apply Pick.there))) | apply Sel.drop)) ?_ | refine TA.done (by decide +kernel) ?_ | refine TQ.any_panic ?_
    | ((with_reducible apply TL.pure); (· exact yA); (· rfl))
    | refine TC.seq ?_ | refine TC.region ?_ | refine TL.nil ?_ | refine TQ.then_normal ?_
    | ((with_reducible apply TL.storeE); (· rfl); (· rfl); (· rfl); (· exact pkA); (· infer_instance)) | ((with_reducible apply TL.store_whole); (· rfl); (· rfl); (· first | rfl | (first | rfl | ((try simp only [List.set_cons_zero, List.set_cons_succ]); refine all1 (by first | rfl | assumption) ?_; first | rfl | (refine all1 (by first | rfl | assumption) ?_; first | rfl | (refine all1 (by first | rfl | assumption) ?_; rfl))))); (· rfl); (· exact pkA); (· rfl))
    | refine TC.block ?_ | refine TC.ret ?_ | refine TC.skip ?_ | refine TC.exit ?_
    | ((with_reducible apply TC.cond_true); (· rfl)) | ((with_reducible apply TC.cond_false); (· rfl)) | refine TC.cond_ky rfl kpA ?_ | refine TC.cond_kn rfl kpA ?_ | refine TC.cond_nky rfl kpA ?_ | refine TC.cond_nkn rfl kpA ?_ | refine TC.cond_eq0 rfl (fun _ => ?_) (fun _ => ?_) | refine TC.cond_neq0 rfl (fun _ => ?_) (fun _ => ?_) | refine TC.cond_eq rfl (fun _ => ?_) (fun _ => ?_) | refine TC.cond_neq rfl (fun _ => ?_) (fun _ => ?_) | refine TC.cond_not rfl (fun _ => ?_) (fun _ => ?_) | refine TC.cond_dec rfl (fun _ => ?_) (fun _ => ?_) | refine TC.cond_bool rfl (fun _ => ?_) (fun _ => ?_)
    | refine TQ.then_ret ?_ | refine TQ.then_exit ?_ | refine TQ.then_panic ?_ | refine TQ.in_normal ?_ | refine TQ.in_ret ?_ | refine TQ.in_exit ?_ | refine TQ.in_exit' rfl ?_ | refine TQ.in_panic ?_
    | refine TQ.round_ret ?_ | refine TQ.round_exit ?_ | refine TQ.round_panic ?_ | refine TQ.cut_ret ?_ | refine TQ.cut_exit ?_ | refine TQ.cut_panic ?_
    | ((with_reducible apply TL.guard_yes); (· rfl); (· rfl)) | ((with_reducible apply TL.guard_no); (· rfl); (· rfl); (· rfl); (· rfl)) | ((with_reducible apply TL.guard_no0); (· rfl); (· rfl); (· rfl)) | ((with_reducible apply TL.guard_undef); (· rfl); (· rfl); (· rfl)) | ((with_reducible apply TL.guard_undef0); (· rfl); (· rfl))
    | refine TL.guard_ky rfl rfl kpA ?_ | refine TL.guard_kn rfl rfl kpA ?_ | refine TL.guard_nky rfl rfl kpA ?_ | refine TL.guard_nkn rfl rfl kpA ?_ | refine TL.guard_eq0 rfl rfl rfl (fun _ => ?_) (fun _ => ?_) | refine TL.guard_neq0 rfl rfl rfl (fun _ => ?_) (fun _ => ?_) | refine TL.guard_eq rfl rfl rfl (fun _ => ?_) (fun _ => ?_) | refine TL.guard_neq rfl rfl rfl (fun _ => ?_) (fun _ => ?_) | refine TL.guard_ndec rfl rfl rfl (fun _ => ?_) (fun _ => ?_) | refine TL.guard_dec rfl rfl rfl (fun _ => ?_) (fun _ => ?_) | refine TL.guard_split rfl rfl rfl (fun _ => ?_) (fun _ => ?_)
    | ((with_reducible apply TL.alloc_ag); (· rfl); intro _) | ((with_reducible apply TL.alloc_sc); (· rfl); (· rfl); intro _) | ((with_reducible apply TL.box_ag); (· rfl); (· rfl); intro _) | ((with_reducible apply TL.box_sc); (· rfl); (· rfl); (· rfl); intro _))
    refine TQ.less hg1 ?_
    refine TQ.endR1 (L' := []) Tryd.results4 (by first | exact RVal.tmp rfl | exact RVal.cells rfl pkA (by rfl) | exact RVal.cell rfl pkA rfl) rfl (.refl _) ?_ (by repeat (first | exact Sel.refl | exact Sel.nil | apply Sel.cons (by (repeat (first | exact Pick.here | apply Pick.there))) | apply Sel.drop))
    exact ⟨rfl, rfl, rfl⟩
  · have kv : keyV x = [] := by unfold keyV; rw [if_neg m1]
    repeat' (first
    | ((with_reducible apply TL.pure); (· exact yV); (· rfl)) | ((with_reducible apply TW.pure); (· exact yV); (· rfl))
    | ((with_reducible apply TL.pure); (· exact Y.bytes_row rfl pkA); (· rfl)) | ((with_reducible apply TL.pure); (· exact Y.bytes_src rfl (Src.sl (by assumption)) rfl); (· rfl)) | ((with_reducible apply TW.pure); (· exact Y.bytes_row rfl pkA); (· rfl)) | ((with_reducible apply TW.pure); (· exact Y.bytes_src rfl (Src.sl (by assumption)) rfl); (· rfl))
    | (refine TL.makes (Enters.plain (by kernel_rfl) (by rfl)) (told_makes _ x (Nat.le_refl _) cs g _ hX wx) (by rfl) ?_; (rintro v1 g1 hg1 j1; have C := fun L => key_told L hx j1 (hT.le hg1) (hU.le hg1); rw [kv] at C; have M1 := fun L => rMay_gives x cs g1 L (IsV.le hg1 _ _ hX) wx; have AW := fun L => awake05_gives (g := g1) (L := L) (hT.le hg1) (hU.le hg1); have h2 : Hn (¬ ((mayV x 0 : Nat) : Int) = 0) := ⟨by omega⟩; generalize mayV x 0 = k at C M1 h2))
    | ((with_reducible apply TL.gives_plain); (· kernel_rfl); (· rfl); (· exact L1 _); (· rfl)) | ((with_reducible apply TW.gives_plain); (· kernel_rfl); (· rfl); (· exact L1 _); (· rfl))
    | (refine TL.call (Enters.plain (by kernel_rfl) (by rfl)) (by rfl) (C _) ?_; (rintro e g2 L2 _ ⟨vk, h1, h2, h3⟩; have h2 := h2.symm; subst h1; subst h2; subst h3; refine CallK.ret ?_; refine Go.TL.TL.row_slice (v := vk) pkA ?_; rintro ak ck rfl _))
    | ((with_reducible apply TL.gives_plain); (· kernel_rfl); (· rfl); (· exact M1 _); (· rfl)) | ((with_reducible apply TW.gives_plain); (· kernel_rfl); (· rfl); (· exact M1 _); (· rfl))
    | ((with_reducible apply TL.gives_plain); (· kernel_rfl); (· rfl); (· exact AW _); (· rfl)) | ((with_reducible apply TW.gives_plain); (· kernel_rfl); (· rfl); (· exact AW _); (· rfl))
    | ((with_reducible apply TL.pure); (· exact yA); (· rfl))
    | refine TC.seq ?_ | refine TC.region ?_ | refine TL.nil ?_ | refine TQ.then_normal ?_
    | ((with_reducible apply TL.storeE); (· rfl); (· rfl); (· rfl); (· exact pkA); (· infer_instance)) | ((with_reducible apply TL.store_whole); (· rfl); (· rfl); (· first | rfl | (first | rfl | ((try simp only [List.set_cons_zero, List.set_cons_succ]); refine all1 (by first | rfl | assumption) ?_; first | rfl | (refine all1 (by first | rfl | assumption) ?_; first | rfl | (refine all1 (by first | rfl | assumption) ?_; rfl))))); (· rfl); (· exact pkA); (· rfl))
    | refine TC.block ?_ | refine TC.ret ?_ | refine TC.skip ?_ | refine TC.exit ?_
    | ((with_reducible apply TC.cond_true); (· rfl)) | ((with_reducible apply TC.cond_false); (· rfl)) | refine TC.cond_ky rfl kpA ?_ | refine TC.cond_kn rfl kpA ?_ | refine TC.cond_nky rfl kpA ?_ | refine TC.cond_nkn rfl kpA ?_ | refine TC.cond_eq0 rfl (fun _ => ?_) (fun _ => ?_) | refine TC.cond_neq0 rfl (fun _ => ?_) (fun _ => ?_) | refine TC.cond_eq rfl (fun _ => ?_) (fun _ => ?_) | refine TC.cond_neq rfl (fun _ => ?_) (fun _ => ?_) | refine TC.cond_not rfl (fun _ => ?_) (fun _ => ?_) | refine TC.cond_dec rfl (fun _ => ?_) (fun _ => ?_) | refine TC.cond_bool rfl (fun _ => ?_) (fun _ => ?_)
    | refine TQ.then_ret ?_ | refine TQ.then_exit ?_ | refine TQ.then_panic ?_ | refine TQ.in_normal ?_ | refine TQ.in_ret ?_ | refine TQ.in_exit ?_ | refine TQ.in_exit' rfl ?_ | refine TQ.in_panic ?_
    | refine TQ.round_ret ?_ | refine TQ.round_exit ?_ | refine TQ.round_panic ?_ | refine TQ.cut_ret ?_ | refine TQ.cut_exit ?_ | refine TQ.cut_panic ?_
    | ((with_reducible apply TL.guard_yes); (· rfl); (· rfl)) | ((with_reducible apply TL.guard_no); (· rfl); (· rfl); (· rfl); (· rfl)) | ((with_reducible apply TL.guard_no0); (· rfl); (· rfl); (· rfl)) | ((with_reducible apply TL.guard_undef); (· rfl); (· rfl); (· rfl)) | ((with_reducible apply TL.guard_undef0); (· rfl); (· rfl))
    | refine TL.guard_ky rfl rfl kpA ?_ | refine TL.guard_kn rfl rfl kpA ?_ | refine TL.guard_nky rfl rfl kpA ?_ | refine TL.guard_nkn rfl rfl kpA ?_ | refine TL.guard_eq0 rfl rfl rfl (fun _ => ?_) (fun _ => ?_) | refine TL.guard_neq0 rfl rfl rfl (fun _ => ?_) (fun _ => ?_) | refine TL.guard_eq rfl rfl rfl (fun _ => ?_) (fun _ => ?_) | refine TL.guard_neq rfl rfl rfl (fun _ => ?_) (fun _ => ?_) | refine TL.guard_ndec rfl rfl rfl (fun _ => ?_) (fun _ => ?_) | refine TL.guard_dec rfl rfl rfl (fun _ => ?_) (fun _ => ?_) | refine TL.guard_split rfl rfl rfl (fun _ => ?_) (fun _ => ?_)
    | ((with_reducible apply TL.alloc_ag); (· rfl); intro _) | ((with_reducible apply TL.alloc_sc); (· rfl); (· rfl); intro _) | ((with_reducible apply TL.box_ag); (· rfl); (· rfl); intro _) | ((with_reducible apply TL.box_sc); (· rfl); (· rfl); (· rfl); intro _))
    refine TQ.less hg1 ?_
    refine TQ.endR1 (L' := []) Tryd.results4 (by first | exact RVal.tmp rfl | exact RVal.cells rfl pkA (by rfl) | exact RVal.cell rfl pkA rfl) rfl (.refl _) ?_ (by repeat (first | exact Sel.refl | exact Sel.nil | apply Sel.cons (by (repeat (first | exact Pick.here | apply Pick.there))) | apply Sel.drop))
    exact ⟨rfl, rfl, rfl⟩
end Go.Proofs.YthifckfpjmhmjaaDoor
