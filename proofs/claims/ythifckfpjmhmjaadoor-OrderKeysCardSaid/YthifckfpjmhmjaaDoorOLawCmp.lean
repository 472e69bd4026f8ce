/-
  The law OrderCompares.
-/
import Derived.Test.YthifckfpjmhmjaaDoorOTell
import Derived.Test.YthifckfpjmhmjaaDoorOAwake
namespace Go.Proofs.YthifckfpjmhmjaaDoor
open Go.RowKit Go.TL
set_option maxRecDepth 100000

/-- Why one of two may not be compared. -/
def errV (x y : DV) : Nat := if mayV x 0 ≠ 0 then mayV x 0 else mayV y 0
theorem sm_light {x : DV} (h : lightB x = true) : smJ (toJ x) := sm_toJ _ x (Nat.le_refl _) 300 (of_decide_eq_true h)
theorem cmp_told {x y : DV} {v1 v2 : Value} {g : Gh} (L : List Ent) (hx : lightB x = true) (hy : lightB y = true) (j1 : IsJ g (toJ x) v1) (j2 : IsJ g (toJ y) v2) (hT : GTabs g) (hU : GU8 g) :
    Gives Tryd.prog 11 #[v1, v2] g L (.tuple #[.int .i64 (if errV x y = 0 then cmpV x y else 0), .int .i64 (errV x y : Nat)]) := by
  have h := oCompare_gives (toJ x) (toJ y) v1 v2 g L j1 j2 (sm_light hx) (sm_light hy) hT hU
  have e : errJ (toJ x) (toJ y) = errV x y := by unfold errJ errV; rw [look_toJ _ x (Nat.le_refl _), look_toJ _ y (Nat.le_refl _)]
  rw [e] at h
  by_cases h0 : errV x y = 0
  · have h1 : mayV x 0 = 0 ∧ mayV y 0 = 0 := by
      unfold errV at h0
      split at h0 <;> omega
    rw [if_pos h0, cmp_toJ _ x (Nat.le_refl _) y (ok_may' x 0 h1.1) (ok_may' y 0 h1.2)] at h
    rw [if_pos h0]; exact h
  · rw [if_neg h0] at h
    rw [if_neg h0]; exact h
set_option maxHeartbeats 16000000 in
theorem lawOrderCompares (x y : DV) (cs ds : List Value) (g : Gh) (hX : IsV g x cs) (hY : IsV g y ds) (hT : GTabs g) (hU : GU8 g) : Gives Tryd.prog 3 #[.agg cs.toArray, .agg ds.toArray] g [] (.bool true) := by
  refine .of (Does.of2 Tryd.func3 rfl Tryd.ntmps3 rfl ?_)
  have L1 := fun L => light_gives x cs g L hX
  have L2 := fun L => light_gives y ds g L hY
  have l1 := hX.len
  have l2 := hY.len
  cases hx : lightB x with
  | false =>
    rw [hx] at L1
    clear hX hY hT hU
    repeat' (first
    | ((with_reducible apply TL.pure); (· exact yV); (· rfl)) | ((with_reducible apply TW.pure); (· exact yV); (· rfl))
    | ((with_reducible apply TL.gives_plain); (· kernel_rfl); (· rfl); (· exact L1 _); (· rfl)) | ((with_reducible apply TW.gives_plain); (· kernel_rfl); (· rfl); (· exact L1 _); (· rfl))
    | ((with_reducible apply TL.gives_plain); (· kernel_rfl); (· rfl); (· exact L2 _); (· rfl)) | ((with_reducible apply TW.gives_plain); (· kernel_rfl); (· rfl); (· exact L2 _); (· rfl))
    | ((with_reducible apply TL.pure); (· exact yA); (· rfl))
    | refine TC.seq ?_ | refine TC.region ?_ | refine TL.nil ?_ | refine TQ.then_normal ?_
    | ((with_reducible apply TL.storeE); (· rfl); (· rfl); (· rfl); (· exact pkA); (· infer_instance)) | ((with_reducible apply TL.store_whole); (· rfl); (· rfl); (· first | rfl | (first | rfl | ((try simp only [List.set_cons_zero, List.set_cons_succ]); refine all1 (by first | rfl | assumption) ?_; first | rfl | (refine all1 (by first | rfl | assumption) ?_; first | rfl | (refine all1 (by first | rfl | assumption) ?_; rfl))))); (· rfl); (· exact pkA); (· rfl))
    | refine TC.block ?_ | refine TC.ret ?_ | refine TC.skip ?_ | refine TC.exit ?_
    | ((with_reducible apply TC.cond_true); (· rfl)) | ((with_reducible apply TC.cond_false); (· rfl)) | refine TC.cond_ky rfl kpA ?_ | refine TC.cond_kn rfl kpA ?_ | refine TC.cond_nky rfl kpA ?_ | refine TC.cond_nkn rfl kpA ?_ | refine TC.cond_eq0 rfl (fun _ => ?_) (fun _ => ?_) | refine TC.cond_neq0 rfl (fun _ => ?_) (fun _ => ?_) | refine TC.cond_eq rfl (fun _ => ?_) (fun _ => ?_) | refine TC.cond_neq rfl (fun _ => ?_) (fun _ => ?_) | refine TC.cond_not rfl (fun _ => ?_) (fun _ => ?_) | refine TC.cond_dec rfl (fun _ => ?_) (fun _ => ?_) | refine TC.cond_bool rfl (fun _ => ?_) (fun _ => ?_)
    | refine TQ.then_ret ?_ | refine TQ.then_exit ?_ | refine TQ.then_panic ?_ | refine TQ.in_normal ?_ | refine TQ.in_ret ?_ | refine TQ.in_exit ?_ | refine TQ.in_exit' rfl ?_ | refine TQ.in_panic ?_
    | refine TQ.round_ret ?_ | refine TQ.round_exit ?_ | refine TQ.round_panic ?_ | refine TQ.cut_ret ?_ | refine TQ.cut_exit ?_ | refine TQ.cut_panic ?_
    | ((with_reducible apply TL.guard_yes); (· rfl); (· rfl)) | ((with_reducible apply TL.guard_no); (· rfl); (· rfl); (· rfl); (· rfl)) | ((with_reducible apply TL.guard_no0); (· rfl); (· rfl); (· rfl)) | ((with_reducible apply TL.guard_undef); (· rfl); (· rfl); (· rfl)) | ((with_reducible apply TL.guard_undef0); (· rfl); (· rfl))
    | refine TL.guard_ky rfl rfl kpA ?_ | refine TL.guard_kn rfl rfl kpA ?_ | refine TL.guard_nky rfl rfl kpA ?_ | refine TL.guard_nkn rfl rfl kpA ?_ | refine TL.guard_eq0 rfl rfl rfl (fun _ => ?_) (fun _ => ?_) | refine TL.guard_neq0 rfl rfl rfl (fun _ => ?_) (fun _ => ?_) | refine TL.guard_eq rfl rfl rfl (fun _ => ?_) (fun _ => ?_) | refine TL.guard_neq rfl rfl rfl (fun _ => ?_) (fun _ => ?_) | refine TL.guard_ndec rfl rfl rfl (fun _ => ?_) (fun _ => ?_) | refine TL.guard_dec rfl rfl rfl (fun _ => ?_) (fun _ => ?_) | refine TL.guard_split rfl rfl rfl (fun _ => ?_) (fun _ => ?_)
    | ((with_reducible apply TL.alloc_ag); (· rfl); intro _) | ((with_reducible apply TL.alloc_sc); (· rfl); (· rfl); intro _) | ((with_reducible apply TL.box_ag); (· rfl); (· rfl); intro _) | ((with_reducible apply TL.box_sc); (· rfl); (· rfl); (· rfl); intro _))
    refine TQ.endR1 (L' := []) Tryd.results3 (by first | exact RVal.tmp rfl | exact RVal.cells rfl pkA (by rfl) | exact RVal.cell rfl pkA rfl) rfl (.refl _) ?_ (by repeat (first | exact Sel.refl | exact Sel.nil | apply Sel.cons (by (repeat (first | exact Pick.here | apply Pick.there))) | apply Sel.drop))
    exact ⟨rfl, rfl, rfl⟩
  | true =>
  rw [hx] at L1
  cases hy : lightB y with
  | false =>
    rw [hy] at L2
    clear hX hY hT hU
    repeat' (first
    | ((with_reducible apply TL.pure); (· exact yV); (· rfl)) | ((with_reducible apply TW.pure); (· exact yV); (· rfl))
    | ((with_reducible apply TL.gives_plain); (· kernel_rfl); (· rfl); (· exact L1 _); (· rfl)) | ((with_reducible apply TW.gives_plain); (· kernel_rfl); (· rfl); (· exact L1 _); (· rfl))
    | ((with_reducible apply TL.gives_plain); (· kernel_rfl); (· rfl); (· exact L2 _); (· rfl)) | ((with_reducible apply TW.gives_plain); (· kernel_rfl); (· rfl); (· exact L2 _); (· rfl))
    | ((with_reducible apply TL.pure); (· exact yA); (· rfl))
    | refine TC.seq ?_ | refine TC.region ?_ | refine TL.nil ?_ | refine TQ.then_normal ?_
    | ((with_reducible apply TL.storeE); (· rfl); (· rfl); (· rfl); (· exact pkA); (· infer_instance)) | ((with_reducible apply TL.store_whole); (· rfl); (· rfl); (· first | rfl | (first | rfl | ((try simp only [List.set_cons_zero, List.set_cons_succ]); refine all1 (by first | rfl | assumption) ?_; first | rfl | (refine all1 (by first | rfl | assumption) ?_; first | rfl | (refine all1 (by first | rfl | assumption) ?_; rfl))))); (· rfl); (· exact pkA); (· rfl))
    | refine TC.block ?_ | refine TC.ret ?_ | refine TC.skip ?_ | refine TC.exit ?_
    | ((with_reducible apply TC.cond_true); (· rfl)) | ((with_reducible apply TC.cond_false); (· rfl)) | refine TC.cond_ky rfl kpA ?_ | refine TC.cond_kn rfl kpA ?_ | refine TC.cond_nky rfl kpA ?_ | refine TC.cond_nkn rfl kpA ?_ | refine TC.cond_eq0 rfl (fun _ => ?_) (fun _ => ?_) | refine TC.cond_neq0 rfl (fun _ => ?_) (fun _ => ?_) | refine TC.cond_eq rfl (fun _ => ?_) (fun _ => ?_) | refine TC.cond_neq rfl (fun _ => ?_) (fun _ => ?_) | refine TC.cond_not rfl (fun _ => ?_) (fun _ => ?_) | refine TC.cond_dec rfl (fun _ => ?_) (fun _ => ?_) | refine TC.cond_bool rfl (fun _ => ?_) (fun _ => ?_)
    | refine TQ.then_ret ?_ | refine TQ.then_exit ?_ | refine TQ.then_panic ?_ | refine TQ.in_normal ?_ | refine TQ.in_ret ?_ | refine TQ.in_exit ?_ | refine TQ.in_exit' rfl ?_ | refine TQ.in_panic ?_
    | refine TQ.round_ret ?_ | refine TQ.round_exit ?_ | refine TQ.round_panic ?_ | refine TQ.cut_ret ?_ | refine TQ.cut_exit ?_ | refine TQ.cut_panic ?_
    | ((with_reducible apply TL.guard_yes); (· rfl); (· rfl)) | ((with_reducible apply TL.guard_no); (· rfl); (· rfl); (· rfl); (· rfl)) | ((with_reducible apply TL.guard_no0); (· rfl); (· rfl); (· rfl)) | ((with_reducible apply TL.guard_undef); (· rfl); (· rfl); (· rfl)) | ((with_reducible apply TL.guard_undef0); (· rfl); (· rfl))
    | refine TL.guard_ky rfl rfl kpA ?_ | refine TL.guard_kn rfl rfl kpA ?_ | refine TL.guard_nky rfl rfl kpA ?_ | refine TL.guard_nkn rfl rfl kpA ?_ | refine TL.guard_eq0 rfl rfl rfl (fun _ => ?_) (fun _ => ?_) | refine TL.guard_neq0 rfl rfl rfl (fun _ => ?_) (fun _ => ?_) | refine TL.guard_eq rfl rfl rfl (fun _ => ?_) (fun _ => ?_) | refine TL.guard_neq rfl rfl rfl (fun _ => ?_) (fun _ => ?_) | refine TL.guard_ndec rfl rfl rfl (fun _ => ?_) (fun _ => ?_) | refine TL.guard_dec rfl rfl rfl (fun _ => ?_) (fun _ => ?_) | refine TL.guard_split rfl rfl rfl (fun _ => ?_) (fun _ => ?_)
    | ((with_reducible apply TL.alloc_ag); (· rfl); intro _) | ((with_reducible apply TL.alloc_sc); (· rfl); (· rfl); intro _) | ((with_reducible apply TL.box_ag); (· rfl); (· rfl); intro _) | ((with_reducible apply TL.box_sc); (· rfl); (· rfl); (· rfl); intro _))
    refine TQ.endR1 (L' := []) Tryd.results3 (by first | exact RVal.tmp rfl | exact RVal.cells rfl pkA (by rfl) | exact RVal.cell rfl pkA rfl) rfl (.refl _) ?_ (by repeat (first | exact Sel.refl | exact Sel.nil | apply Sel.cons (by (repeat (first | exact Pick.here | apply Pick.there))) | apply Sel.drop))
    exact ⟨rfl, rfl, rfl⟩
  | true =>
  rw [hy] at L2
  have wx := wf_of_light hx
  have wy := wf_of_light hy
  by_cases m1 : mayV x 0 = 0
  · by_cases m2 : mayV y 0 = 0
    · have e : errV x y = 0 := by unfold errV; rw [m1, m2]; rfl
      have ox := ok_may' x 0 m1
      have oy := ok_may' y 0 m2
      repeat' (first
    | ((with_reducible apply TL.pure); (· exact yV); (· rfl)) | ((with_reducible apply TW.pure); (· exact yV); (· rfl))
    | (refine TL.makes (Enters.plain (by kernel_rfl) (by rfl)) (told_makes _ x (Nat.le_refl _) cs g _ hX wx) (by rfl) ?_; (rintro v1 g1 hg1 j1))
    | (refine TL.makes (Enters.plain (by kernel_rfl) (by rfl)) (told_makes _ y (Nat.le_refl _) ds g1 _ (IsV.le hg1 _ _ hY) wy) (by rfl) ?_; (rintro v2 g2 hg2 j2; have hg12 := hg1.trans hg2; have C := fun L => cmp_told L hx hy (IsJ.le hg2 _ _ j1) j2 (hT.le hg12) (hU.le hg12); rw [e, if_pos rfl] at C; have M1 := fun L => rMay_gives x cs g2 L (IsV.le hg12 _ _ hX) wx; rw [m1] at M1; have M2 := fun L => rMay_gives y ds g2 L (IsV.le hg12 _ _ hY) wy; rw [m2] at M2; have D := fun L => rCompare_gives _ x y (Nat.le_refl _) cs ds g2 L (IsV.le hg12 _ _ hX) wx ox (IsV.le hg12 _ _ hY) wy oy; have AW := fun L => awake05_gives (g := g2) (L := L) (hT.le hg12) (hU.le hg12); generalize cmpV x y = r at C D))
    | ((with_reducible apply TL.gives_plain); (· kernel_rfl); (· rfl); (· exact L1 _); (· rfl)) | ((with_reducible apply TW.gives_plain); (· kernel_rfl); (· rfl); (· exact L1 _); (· rfl))
    | ((with_reducible apply TL.gives_plain); (· kernel_rfl); (· rfl); (· exact L2 _); (· rfl)) | ((with_reducible apply TW.gives_plain); (· kernel_rfl); (· rfl); (· exact L2 _); (· rfl))
    | ((with_reducible apply TL.gives_plain); (· kernel_rfl); (· rfl); (· exact C _); (· rfl)) | ((with_reducible apply TW.gives_plain); (· kernel_rfl); (· rfl); (· exact C _); (· rfl))
    | ((with_reducible apply TL.gives_plain); (· kernel_rfl); (· rfl); (· exact M1 _); (· rfl)) | ((with_reducible apply TW.gives_plain); (· kernel_rfl); (· rfl); (· exact M1 _); (· rfl))
    | ((with_reducible apply TL.gives_plain); (· kernel_rfl); (· rfl); (· exact M2 _); (· rfl)) | ((with_reducible apply TW.gives_plain); (· kernel_rfl); (· rfl); (· exact M2 _); (· rfl))
    | ((with_reducible apply TL.gives_plain); (· kernel_rfl); (· rfl); (· exact D _); (· rfl)) | ((with_reducible apply TW.gives_plain); (· kernel_rfl); (· rfl); (· exact D _); (· rfl))
    | ((with_reducible apply TL.gives_plain); (· kernel_rfl); (· rfl); (· exact AW _); (· rfl)) | ((with_reducible apply TW.gives_plain); (· kernel_rfl); (· rfl); (· exact AW _); (· rfl))
    | ((with_reducible apply TA.take 0); (· decide +kernel); (· rfl); (· (first | exact yA | exact yB | exact yM | exact yV)); (· decide +kernel); (· decide +kernel); (· rfl); (· exact fun _ _ _ h => h); (· rfl))
    | ((with_reducible apply TA.take 1); (· decide +kernel); (· rfl); (· (first | exact yA | exact yB | exact yM | exact yV)); (· decide +kernel); (· decide +kernel); (· rfl); (· exact fun _ _ _ h => h); (· rfl))
    | ((with_reducible apply TA.take 2); (· decide +kernel); (· rfl); (· (first | exact yA | exact yB | exact yM | exact yV)); (· decide +kernel); (· decide +kernel); (· rfl); (· exact fun _ _ _ h => h); (· rfl))
    | ((with_reducible apply TA.take 3); (· decide +kernel); (· rfl); (· (first | exact yA | exact yB | exact yM | exact yV)); (· decide +kernel); (· decide +kernel); (· rfl); (· exact fun _ _ _ h => h); (· rfl))
    | ((with_reducible apply TA.take 4); (· decide +kernel); (· rfl); (· (first | exact yA | exact yB | exact yM | exact yV)); (· decide +kernel); (· decide +kernel); (· rfl); (· exact fun _ _ _ h => h); (· rfl))
    | ((with_reducible apply TA.take 5); (· decide +kernel); (· rfl); (· (first | exact yA | exact yB | exact yM | exact yV)); (· decide +kernel); (· decide +kernel); (· rfl); (· exact fun _ _ _ h => h); (· rfl))
    | ((with_reducible apply TA.take 6); (· decide +kernel); (· rfl); (· (first | exact yA | exact yB | exact yM | exact yV)); (· decide +kernel); (· decide +kernel); (· rfl); (· exact fun _ _ _ h => h); (· rfl))
    | ((with_reducible apply TA.take 7); (· decide +kernel); (· rfl); (· (first | exact yA | exact yB | exact yM | exact yV)); (· decide +kernel); (· decide +kernel); (· rfl); (· exact fun _ _ _ h => h); (· rfl))
    | ((with_reducible apply TA.take 8); (· decide +kernel); (· rfl); (· (first | exact yA | exact yB | exact yM | exact yV)); (· decide +kernel); (· decide +kernel); (· rfl); (· exact fun _ _ _ h => h); (· rfl))
    | ((with_reducible apply TA.take 9); (· decide +kernel); (· rfl); (· (first | exact yA | exact yB | exact yM | exact yV)); (· decide +kernel); (· decide +kernel); (· rfl); (· exact fun _ _ _ h => h); (· rfl))
    | ((with_reducible apply TA.one 0); (· rfl); (· decide +kernel); (· rfl))
    | ((with_reducible apply TA.one 1); (· rfl); (· decide +kernel); (· rfl))
    | ((with_reducible apply TA.one 2); (· rfl); (· decide +kernel); (· rfl))
    | ((with_reducible apply TA.one 3); (· rfl); (· decide +kernel); (· rfl))
    | ((with_reducible apply TA.one 4); (· rfl); (· decide +kernel); (· rfl))
    | ((with_reducible apply TA.one 5); (· rfl); (· decide +kernel); (· rfl))
    | ((with_reducible apply TA.one 6); (· rfl); (· decide +kernel); (· rfl))
    | ((with_reducible apply TA.one 7); (· rfl); (· decide +kernel); (· rfl))
    | ((with_reducible apply TA.one 8); (· rfl); (· decide +kernel); (· rfl))
    | ((with_reducible apply TA.one 9); (· rfl); (· decide +kernel); (· rfl))
    | refine TQ.any (by first | exact .refl _ | assumption) (by repeat (first | exact Sel.refl | exact Sel.nil | apply Sel.cons (by (repeat (first | exact Pick.here | apply Pick.there))) | apply Sel.drop)) ?_
    | refine TC.region_any 10 (_) (by kernel_rfl) rfl (by repeat (first | exact Sel.refl | exact Sel.nil | apply Sel.cons (by (repeat (first | exact Pick.here | apply Pick.there))) | apply Sel.drop)) ?_ | refine TA.done (by decide +kernel) ?_ | refine TQ.any_panic ?_
    | ((with_reducible apply TL.pure); (· exact yA); (· rfl))
    | refine TC.seq ?_ | refine TC.region ?_ | refine TL.nil ?_ | refine TQ.then_normal ?_
    | ((with_reducible apply TL.storeE); (· rfl); (· rfl); (· rfl); (· exact pkA); (· infer_instance)) | ((with_reducible apply TL.store_whole); (· rfl); (· rfl); (· first | rfl | (first | rfl | ((try simp only [List.set_cons_zero, List.set_cons_succ]); refine all1 (by first | rfl | assumption) ?_; first | rfl | (refine all1 (by first | rfl | assumption) ?_; first | rfl | (refine all1 (by first | rfl | assumption) ?_; rfl))))); (· rfl); (· exact pkA); (· rfl))
    | refine TC.block ?_ | refine TC.ret ?_ | refine TC.skip ?_ | refine TC.exit ?_
    | ((with_reducible apply TC.cond_true); (· rfl)) | ((with_reducible apply TC.cond_false); (· rfl)) | refine TC.cond_ky rfl kpA ?_ | refine TC.cond_kn rfl kpA ?_ | refine TC.cond_nky rfl kpA ?_ | refine TC.cond_nkn rfl kpA ?_ | refine TC.cond_eq0 rfl (fun _ => ?_) (fun _ => ?_) | refine TC.cond_neq0 rfl (fun _ => ?_) (fun _ => ?_) | refine TC.cond_eq rfl (fun _ => ?_) (fun _ => ?_) | refine TC.cond_neq rfl (fun _ => ?_) (fun _ => ?_) | refine TC.cond_not rfl (fun _ => ?_) (fun _ => ?_) | refine TC.cond_dec rfl (fun _ => ?_) (fun _ => ?_) | refine TC.cond_bool rfl (fun _ => ?_) (fun _ => ?_)
    | refine TQ.then_ret ?_ | refine TQ.then_exit ?_ | refine TQ.then_panic ?_ | refine TQ.in_normal ?_ | refine TQ.in_ret ?_ | refine TQ.in_exit ?_ | refine TQ.in_exit' rfl ?_ | refine TQ.in_panic ?_
    | refine TQ.round_ret ?_ | refine TQ.round_exit ?_ | refine TQ.round_panic ?_ | refine TQ.cut_ret ?_ | refine TQ.cut_exit ?_ | refine TQ.cut_panic ?_
    | ((with_reducible apply TL.guard_yes); (· rfl); (· rfl)) | ((with_reducible apply TL.guard_no); (· rfl); (· rfl); (· rfl); (· rfl)) | ((with_reducible apply TL.guard_no0); (· rfl); (· rfl); (· rfl)) | ((with_reducible apply TL.guard_undef); (· rfl); (· rfl); (· rfl)) | ((with_reducible apply TL.guard_undef0); (· rfl); (· rfl))
    | refine TL.guard_ky rfl rfl kpA ?_ | refine TL.guard_kn rfl rfl kpA ?_ | refine TL.guard_nky rfl rfl kpA ?_ | refine TL.guard_nkn rfl rfl kpA ?_ | refine TL.guard_eq0 rfl rfl rfl (fun _ => ?_) (fun _ => ?_) | refine TL.guard_neq0 rfl rfl rfl (fun _ => ?_) (fun _ => ?_) | refine TL.guard_eq rfl rfl rfl (fun _ => ?_) (fun _ => ?_) | refine TL.guard_neq rfl rfl rfl (fun _ => ?_) (fun _ => ?_) | refine TL.guard_ndec rfl rfl rfl (fun _ => ?_) (fun _ => ?_) | refine TL.guard_dec rfl rfl rfl (fun _ => ?_) (fun _ => ?_) | refine TL.guard_split rfl rfl rfl (fun _ => ?_) (fun _ => ?_)
    | ((with_reducible apply TL.alloc_ag); (· rfl); intro _) | ((with_reducible apply TL.alloc_sc); (· rfl); (· rfl); intro _) | ((with_reducible apply TL.box_ag); (· rfl); (· rfl); intro _) | ((with_reducible apply TL.box_sc); (· rfl); (· rfl); (· rfl); intro _))
      refine TQ.less hg12 ?_
      refine TQ.endR1 (L' := []) Tryd.results3 (by first | exact RVal.tmp rfl | exact RVal.cells rfl pkA (by rfl) | exact RVal.cell rfl pkA rfl) rfl (.refl _) ?_ (by repeat (first | exact Sel.refl | exact Sel.nil | apply Sel.cons (by (repeat (first | exact Pick.here | apply Pick.there))) | apply Sel.drop))
      exact ⟨rfl, rfl, rfl⟩
    · have e : errV x y = mayV y 0 := by unfold errV; rw [m1]; rfl
      repeat' (first
    | ((with_reducible apply TL.pure); (· exact yV); (· rfl)) | ((with_reducible apply TW.pure); (· exact yV); (· rfl))
    | (refine TL.makes (Enters.plain (by kernel_rfl) (by rfl)) (told_makes _ x (Nat.le_refl _) cs g _ hX wx) (by rfl) ?_; (rintro v1 g1 hg1 j1))
    | (refine TL.makes (Enters.plain (by kernel_rfl) (by rfl)) (told_makes _ y (Nat.le_refl _) ds g1 _ (IsV.le hg1 _ _ hY) wy) (by rfl) ?_; (rintro v2 g2 hg2 j2; have hg12 := hg1.trans hg2; have C := fun L => cmp_told L hx hy (IsJ.le hg2 _ _ j1) j2 (hT.le hg12) (hU.le hg12); rw [e, if_neg m2] at C; have M1 := fun L => rMay_gives x cs g2 L (IsV.le hg12 _ _ hX) wx; rw [m1] at M1; have M2 := fun L => rMay_gives y ds g2 L (IsV.le hg12 _ _ hY) wy; have AW := fun L => awake05_gives (g := g2) (L := L) (hT.le hg12) (hU.le hg12); have h2 : Hn (¬ ((mayV y 0 : Nat) : Int) = 0) := ⟨by omega⟩; generalize mayV y 0 = k at C M2 h2))
    | ((with_reducible apply TL.gives_plain); (· kernel_rfl); (· rfl); (· exact L1 _); (· rfl)) | ((with_reducible apply TW.gives_plain); (· kernel_rfl); (· rfl); (· exact L1 _); (· rfl))
    | ((with_reducible apply TL.gives_plain); (· kernel_rfl); (· rfl); (· exact L2 _); (· rfl)) | ((with_reducible apply TW.gives_plain); (· kernel_rfl); (· rfl); (· exact L2 _); (· rfl))
    | ((with_reducible apply TL.gives_plain); (· kernel_rfl); (· rfl); (· exact C _); (· rfl)) | ((with_reducible apply TW.gives_plain); (· kernel_rfl); (· rfl); (· exact C _); (· rfl))
    | ((with_reducible apply TL.gives_plain); (· kernel_rfl); (· rfl); (· exact M1 _); (· rfl)) | ((with_reducible apply TW.gives_plain); (· kernel_rfl); (· rfl); (· exact M1 _); (· rfl))
    | ((with_reducible apply TL.gives_plain); (· kernel_rfl); (· rfl); (· exact M2 _); (· rfl)) | ((with_reducible apply TW.gives_plain); (· kernel_rfl); (· rfl); (· exact M2 _); (· rfl))
    | ((with_reducible apply TL.gives_plain); (· kernel_rfl); (· rfl); (· exact AW _); (· rfl)) | ((with_reducible apply TW.gives_plain); (· kernel_rfl); (· rfl); (· exact AW _); (· rfl))
    | ((with_reducible apply TA.take 0); (· decide +kernel); (· rfl); (· (first | exact yA | exact yB | exact yM | exact yV)); (· decide +kernel); (· decide +kernel); (· rfl); (· exact fun _ _ _ h => h); (· rfl))
    | ((with_reducible apply TA.take 1); (· decide +kernel); (· rfl); (· (first | exact yA | exact yB | exact yM | exact yV)); (· decide +kernel); (· decide +kernel); (· rfl); (· exact fun _ _ _ h => h); (· rfl))
    | ((with_reducible apply TA.take 2); (· decide +kernel); (· rfl); (· (first | exact yA | exact yB | exact yM | exact yV)); (· decide +kernel); (· decide +kernel); (· rfl); (· exact fun _ _ _ h => h); (· rfl))
    | ((with_reducible apply TA.take 3); (· decide +kernel); (· rfl); (· (first | exact yA | exact yB | exact yM | exact yV)); (· decide +kernel); (· decide +kernel); (· rfl); (· exact fun _ _ _ h => h); (· rfl))
    | ((with_reducible apply TA.take 4); (· decide +kernel); (· rfl); (· (first | exact yA | exact yB | exact yM | exact yV)); (· decide +kernel); (· decide +kernel); (· rfl); (· exact fun _ _ _ h => h); (· rfl))
    | ((with_reducible apply TA.take 5); (· decide +kernel); (· rfl); (· (first | exact yA | exact yB | exact yM | exact yV)); (· decide +kernel); (· decide +kernel); (· rfl); (· exact fun _ _ _ h => h); (· rfl))
    | ((with_reducible apply TA.take 6); (· decide +kernel); (· rfl); (· (first | exact yA | exact yB | exact yM | exact yV)); (· decide +kernel); (· decide +kernel); (· rfl); (· exact fun _ _ _ h => h); (· rfl))
    | ((with_reducible apply TA.take 7); (· decide +kernel); (· rfl); (· (first | exact yA | exact yB | exact yM | exact yV)); (· decide +kernel); (· decide +kernel); (· rfl); (· exact fun _ _ _ h => h); (· rfl))
    | ((with_reducible apply TA.take 8); (· decide +kernel); (· rfl); (· (first | exact yA | exact yB | exact yM | exact yV)); (· decide +kernel); (· decide +kernel); (· rfl); (· exact fun _ _ _ h => h); (· rfl))
    | ((with_reducible apply TA.take 9); (· decide +kernel); (· rfl); (· (first | exact yA | exact yB | exact yM | exact yV)); (· decide +kernel); (· decide +kernel); (· rfl); (· exact fun _ _ _ h => h); (· rfl))
    | ((with_reducible apply TA.one 0); (· rfl); (· decide +kernel); (· rfl))
    | ((with_reducible apply TA.one 1); (· rfl); (· decide +kernel); (· rfl))
    | ((with_reducible apply TA.one 2); (· rfl); (· decide +kernel); (· rfl))
    | ((with_reducible apply TA.one 3); (· rfl); (· decide +kernel); (· rfl))
    | ((with_reducible apply TA.one 4); (· rfl); (· decide +kernel); (· rfl))
    | ((with_reducible apply TA.one 5); (· rfl); (· decide +kernel); (· rfl))
    | ((with_reducible apply TA.one 6); (· rfl); (· decide +kernel); (· rfl))
    | ((with_reducible apply TA.one 7); (· rfl); (· decide +kernel); (· rfl))
    | ((with_reducible apply TA.one 8); (· rfl); (· decide +kernel); (· rfl))
    | ((with_reducible apply TA.one 9); (· rfl); (· decide +kernel); (· rfl))
    | refine TQ.any (by first | exact .refl _ | assumption) (by repeat (first | exact Sel.refl | exact Sel.nil | apply Sel.cons (by (repeat (first | exact Pick.here | apply Pick.there))) | apply Sel.drop)) ?_
    | refine TC.region_any 10 (_) (by kernel_rfl) rfl (by repeat (first | exact Sel.refl | exact Sel.nil | apply Sel.cons (by (repeat (first | exact Pick.here | apply Pick.there))) | apply Sel.drop)) ?_ | refine TA.done (by decide +kernel) ?_ | refine TQ.any_panic ?_
    | ((with_reducible apply TL.pure); (· exact yA); (· rfl))
    | refine TC.seq ?_ | refine TC.region ?_ | refine TL.nil ?_ | refine TQ.then_normal ?_
    | ((with_reducible apply TL.storeE); (· rfl); (· rfl); (· rfl); (· exact pkA); (· infer_instance)) | ((with_reducible apply TL.store_whole); (· rfl); (· rfl); (· first | rfl | (first | rfl | ((try simp only [List.set_cons_zero, List.set_cons_succ]); refine all1 (by first | rfl | assumption) ?_; first | rfl | (refine all1 (by first | rfl | assumption) ?_; first | rfl | (refine all1 (by first | rfl | assumption) ?_; rfl))))); (· rfl); (· exact pkA); (· rfl))
    | refine TC.block ?_ | refine TC.ret ?_ | refine TC.skip ?_ | refine TC.exit ?_
    | ((with_reducible apply TC.cond_true); (· rfl)) | ((with_reducible apply TC.cond_false); (· rfl)) | refine TC.cond_ky rfl kpA ?_ | refine TC.cond_kn rfl kpA ?_ | refine TC.cond_nky rfl kpA ?_ | refine TC.cond_nkn rfl kpA ?_ | refine TC.cond_eq0 rfl (fun _ => ?_) (fun _ => ?_) | refine TC.cond_neq0 rfl (fun _ => ?_) (fun _ => ?_) | refine TC.cond_eq rfl (fun _ => ?_) (fun _ => ?_) | refine TC.cond_neq rfl (fun _ => ?_) (fun _ => ?_) | refine TC.cond_not rfl (fun _ => ?_) (fun _ => ?_) | refine TC.cond_dec rfl (fun _ => ?_) (fun _ => ?_) | refine TC.cond_bool rfl (fun _ => ?_) (fun _ => ?_)
    | refine TQ.then_ret ?_ | refine TQ.then_exit ?_ | refine TQ.then_panic ?_ | refine TQ.in_normal ?_ | refine TQ.in_ret ?_ | refine TQ.in_exit ?_ | refine TQ.in_exit' rfl ?_ | refine TQ.in_panic ?_
    | refine TQ.round_ret ?_ | refine TQ.round_exit ?_ | refine TQ.round_panic ?_ | refine TQ.cut_ret ?_ | refine TQ.cut_exit ?_ | refine TQ.cut_panic ?_
    | ((with_reducible apply TL.guard_yes); (· rfl); (· rfl)) | ((with_reducible apply TL.guard_no); (· rfl); (· rfl); (· rfl); (· rfl)) | ((with_reducible apply TL.guard_no0); (· rfl); (· rfl); (· rfl)) | ((with_reducible apply TL.guard_undef); (· rfl); (· rfl); (· rfl)) | ((with_reducible apply TL.guard_undef0); (· rfl); (· rfl))
    | refine TL.guard_ky rfl rfl kpA ?_ | refine TL.guard_kn rfl rfl kpA ?_ | refine TL.guard_nky rfl rfl kpA ?_ | refine TL.guard_nkn rfl rfl kpA ?_ | refine TL.guard_eq0 rfl rfl rfl (fun _ => ?_) (fun _ => ?_) | refine TL.guard_neq0 rfl rfl rfl (fun _ => ?_) (fun _ => ?_) | refine TL.guard_eq rfl rfl rfl (fun _ => ?_) (fun _ => ?_) | refine TL.guard_neq rfl rfl rfl (fun _ => ?_) (fun _ => ?_) | refine TL.guard_ndec rfl rfl rfl (fun _ => ?_) (fun _ => ?_) | refine TL.guard_dec rfl rfl rfl (fun _ => ?_) (fun _ => ?_) | refine TL.guard_split rfl rfl rfl (fun _ => ?_) (fun _ => ?_)
    | ((with_reducible apply TL.alloc_ag); (· rfl); intro _) | ((with_reducible apply TL.alloc_sc); (· rfl); (· rfl); intro _) | ((with_reducible apply TL.box_ag); (· rfl); (· rfl); intro _) | ((with_reducible apply TL.box_sc); (· rfl); (· rfl); (· rfl); intro _))
      refine TQ.less hg12 ?_
      refine TQ.endR1 (L' := []) Tryd.results3 (by first | exact RVal.tmp rfl | exact RVal.cells rfl pkA (by rfl) | exact RVal.cell rfl pkA rfl) rfl (.refl _) ?_ (by repeat (first | exact Sel.refl | exact Sel.nil | apply Sel.cons (by (repeat (first | exact Pick.here | apply Pick.there))) | apply Sel.drop))
      exact ⟨rfl, rfl, rfl⟩
  · have e : errV x y = mayV x 0 := by unfold errV; rw [if_pos m1]
    repeat' (first
    | ((with_reducible apply TL.pure); (· exact yV); (· rfl)) | ((with_reducible apply TW.pure); (· exact yV); (· rfl))
    | (refine TL.makes (Enters.plain (by kernel_rfl) (by rfl)) (told_makes _ x (Nat.le_refl _) cs g _ hX wx) (by rfl) ?_; (rintro v1 g1 hg1 j1))
    | (refine TL.makes (Enters.plain (by kernel_rfl) (by rfl)) (told_makes _ y (Nat.le_refl _) ds g1 _ (IsV.le hg1 _ _ hY) wy) (by rfl) ?_; (rintro v2 g2 hg2 j2; have hg12 := hg1.trans hg2; have C := fun L => cmp_told L hx hy (IsJ.le hg2 _ _ j1) j2 (hT.le hg12) (hU.le hg12); rw [e, if_neg m1] at C; have M1 := fun L => rMay_gives x cs g2 L (IsV.le hg12 _ _ hX) wx; have AW := fun L => awake05_gives (g := g2) (L := L) (hT.le hg12) (hU.le hg12); have h2 : Hn (¬ ((mayV x 0 : Nat) : Int) = 0) := ⟨by omega⟩; generalize mayV x 0 = k at C M1 h2))
    | ((with_reducible apply TL.gives_plain); (· kernel_rfl); (· rfl); (· exact L1 _); (· rfl)) | ((with_reducible apply TW.gives_plain); (· kernel_rfl); (· rfl); (· exact L1 _); (· rfl))
    | ((with_reducible apply TL.gives_plain); (· kernel_rfl); (· rfl); (· exact L2 _); (· rfl)) | ((with_reducible apply TW.gives_plain); (· kernel_rfl); (· rfl); (· exact L2 _); (· rfl))
    | ((with_reducible apply TL.gives_plain); (· kernel_rfl); (· rfl); (· exact C _); (· rfl)) | ((with_reducible apply TW.gives_plain); (· kernel_rfl); (· rfl); (· exact C _); (· rfl))
    | ((with_reducible apply TL.gives_plain); (· kernel_rfl); (· rfl); (· exact M1 _); (· rfl)) | ((with_reducible apply TW.gives_plain); (· kernel_rfl); (· rfl); (· exact M1 _); (· rfl))
    | ((with_reducible apply TL.gives_plain); (· kernel_rfl); (· rfl); (· exact AW _); (· rfl)) | ((with_reducible apply TW.gives_plain); (· kernel_rfl); (· rfl); (· exact AW _); (· rfl))
    | ((with_reducible apply TA.take 0); (· decide +kernel); (· rfl); (· (first | exact yA | exact yB | exact yM | exact yV)); (· decide +kernel); (· decide +kernel); (· rfl); (· exact fun _ _ _ h => h); (· rfl))
    | ((with_reducible apply TA.take 1); (· decide +kernel); (· rfl); (· (first | exact yA | exact yB | exact yM | exact yV)); (· decide +kernel); (· decide +kernel); (· rfl); (· exact fun _ _ _ h => h); (· rfl))
    | ((with_reducible apply TA.take 2); (· decide +kernel); (· rfl); (· (first | exact yA | exact yB | exact yM | exact yV)); (· decide +kernel); (· decide +kernel); (· rfl); (· exact fun _ _ _ h => h); (· rfl))
    | ((with_reducible apply TA.take 3); (· decide +kernel); (· rfl); (· (first | exact yA | exact yB | exact yM | exact yV)); (· decide +kernel); (· decide +kernel); (· rfl); (· exact fun _ _ _ h => h); (· rfl))
    | ((with_reducible apply TA.take 4); (· decide +kernel); (· rfl); (· (first | exact yA | exact yB | exact yM | exact yV)); (· decide +kernel); (· decide +kernel); (· rfl); (· exact fun _ _ _ h => h); (· rfl))
    | ((with_reducible apply TA.take 5); (· decide +kernel); (· rfl); (· (first | exact yA | exact yB | exact yM | exact yV)); (· decide +kernel); (· decide +kernel); (· rfl); (· exact fun _ _ _ h => h); (· rfl))
    | ((with_reducible apply TA.take 6); (· decide +kernel); (· rfl); (· (first | exact yA | exact yB | exact yM | exact yV)); (· decide +kernel); (· decide +kernel); (· rfl); (· exact fun _ _ _ h => h); (· rfl))
    | ((with_reducible apply TA.take 7); (· decide +kernel); (· rfl); (· (first | exact yA | exact yB | exact yM | exact yV)); (· decide +kernel); (· decide +kernel); (· rfl); (· exact fun _ _ _ h => h); (· rfl))
    | ((with_reducible apply TA.take 8); (· decide +kernel); (· rfl); (· (first | exact yA | exact yB | exact yM | exact yV)); (· decide +kernel); (· decide +kernel); (· rfl); (· exact fun _ _ _ h => h); (· rfl))
    | ((with_reducible apply TA.take 9); (· decide +kernel); (· rfl); (· (first | exact yA | exact yB | exact yM | exact yV)); (· decide +kernel); (· decide +kernel); (· rfl); (· exact fun _ _ _ h => h); (· rfl))
    | ((with_reducible apply TA.one 0); (· rfl); (· decide +kernel); (· rfl))
    | ((with_reducible apply TA.one 1); (· rfl); (· decide +kernel); (· rfl))
    | ((with_reducible apply TA.one 2); (· rfl); (· decide +kernel); (· rfl))
    | ((with_reducible apply TA.one 3); (· rfl); (· decide +kernel); (· rfl))
    | ((with_reducible apply TA.one 4); (· rfl); (· decide +kernel); (· rfl))
    | ((with_reducible apply TA.one 5); (· rfl); (· decide +kernel); (· rfl))
    | ((with_reducible apply TA.one 6); (· rfl); (· decide +kernel); (· rfl))
    | ((with_reducible apply TA.one 7); (· rfl); (· decide +kernel); (· rfl))
    | ((with_reducible apply TA.one 8); (· rfl); (· decide +kernel); (· rfl))
    | ((with_reducible apply TA.one 9); (· rfl); (· decide +kernel); (· rfl))
    | refine TQ.any (by first | exact .refl _ | assumption) (by repeat (first | exact Sel.refl | exact Sel.nil | apply Sel.cons (by (repeat (first | exact Pick.here | apply Pick.there))) | apply Sel.drop)) ?_
    | refine TC.region_any 10 (_) (by kernel_rfl) rfl (by repeat (first | exact Sel.refl | exact Sel.nil | apply Sel.cons (by (repeat (first | exact Pick.here | apply Pick.there))) | apply Sel.drop)) ?_ | refine TA.done (by decide +kernel) ?_ | refine TQ.any_panic ?_
    | ((with_reducible apply TL.pure); (· exact yA); (· rfl))
    | refine TC.seq ?_ | refine TC.region ?_ | refine TL.nil ?_ | refine TQ.then_normal ?_
    | ((with_reducible apply TL.storeE); (· rfl); (· rfl); (· rfl); (· exact pkA); (· infer_instance)) | ((with_reducible apply TL.store_whole); (· rfl); (· rfl); (· first | rfl | (first | rfl | ((try simp only [List.set_cons_zero, List.set_cons_succ]); refine all1 (by first | rfl | assumption) ?_; first | rfl | (refine all1 (by first | rfl | assumption) ?_; first | rfl | (refine all1 (by first | rfl | assumption) ?_; rfl))))); (· rfl); (· exact pkA); (· rfl))
    | refine TC.block ?_ | refine TC.ret ?_ | refine TC.skip ?_ | refine TC.exit ?_
    | ((with_reducible apply TC.cond_true); (· rfl)) | ((with_reducible apply TC.cond_false); (· rfl)) | refine TC.cond_ky rfl kpA ?_ | refine TC.cond_kn rfl kpA ?_ | refine TC.cond_nky rfl kpA ?_ | refine TC.cond_nkn rfl kpA ?_ | refine TC.cond_eq0 rfl (fun _ => ?_) (fun _ => ?_) | refine TC.cond_neq0 rfl (fun _ => ?_) (fun _ => ?_) | refine TC.cond_eq rfl (fun _ => ?_) (fun _ => ?_) | refine TC.cond_neq rfl (fun _ => ?_) (fun _ => ?_) | refine TC.cond_not rfl (fun _ => ?_) (fun _ => ?_) | refine TC.cond_dec rfl (fun _ => ?_) (fun _ => ?_) | refine TC.cond_bool rfl (fun _ => ?_) (fun _ => ?_)
    | refine TQ.then_ret ?_ | refine TQ.then_exit ?_ | refine TQ.then_panic ?_ | refine TQ.in_normal ?_ | refine TQ.in_ret ?_ | refine TQ.in_exit ?_ | refine TQ.in_exit' rfl ?_ | refine TQ.in_panic ?_
    | refine TQ.round_ret ?_ | refine TQ.round_exit ?_ | refine TQ.round_panic ?_ | refine TQ.cut_ret ?_ | refine TQ.cut_exit ?_ | refine TQ.cut_panic ?_
    | ((with_reducible apply TL.guard_yes); (· rfl); (· rfl)) | ((with_reducible apply TL.guard_no); (· rfl); (· rfl); (· rfl); (· rfl)) | ((with_reducible apply TL.guard_no0); (· rfl); (· rfl); (· rfl)) | ((with_reducible apply TL.guard_undef); (· rfl); (· rfl); (· rfl)) | ((with_reducible apply TL.guard_undef0); (· rfl); (· rfl))
    | refine TL.guard_ky rfl rfl kpA ?_ | refine TL.guard_kn rfl rfl kpA ?_ | refine TL.guard_nky rfl rfl kpA ?_ | refine TL.guard_nkn rfl rfl kpA ?_ | refine TL.guard_eq0 rfl rfl rfl (fun _ => ?_) (fun _ => ?_) | refine TL.guard_neq0 rfl rfl rfl (fun _ => ?_) (fun _ => ?_) | refine TL.guard_eq rfl rfl rfl (fun _ => ?_) (fun _ => ?_) | refine TL.guard_neq rfl rfl rfl (fun _ => ?_) (fun _ => ?_) | refine TL.guard_ndec rfl rfl rfl (fun _ => ?_) (fun _ => ?_) | refine TL.guard_dec rfl rfl rfl (fun _ => ?_) (fun _ => ?_) | refine TL.guard_split rfl rfl rfl (fun _ => ?_) (fun _ => ?_)
    | ((with_reducible apply TL.alloc_ag); (· rfl); intro _) | ((with_reducible apply TL.alloc_sc); (· rfl); (· rfl); intro _) | ((with_reducible apply TL.box_ag); (· rfl); (· rfl); intro _) | ((with_reducible apply TL.box_sc); (· rfl); (· rfl); (· rfl); intro _))
    refine TQ.less hg12 ?_
    refine TQ.endR1 (L' := []) Tryd.results3 (by first | exact RVal.tmp rfl | exact RVal.cells rfl pkA (by rfl) | exact RVal.cell rfl pkA rfl) rfl (.refl _) ?_ (by repeat (first | exact Sel.refl | exact Sel.nil | apply Sel.cons (by (repeat (first | exact Pick.here | apply Pick.there))) | apply Sel.drop))
    exact ⟨rfl, rfl, rfl⟩
end Go.Proofs.YthifckfpjmhmjaaDoor
