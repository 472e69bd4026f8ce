/-
  The walks of the JSON writer's end, text.
-/
import Derived.Test.YthngolfabfijpaaGreatDoorHc2
import Derived.Test.YthngolfabfijpaaGreatDoorHc41
import Derived.Test.YthngolfabfijpaaGreatDoorHc42
namespace Go.TL
open Go Go.RowKit Go.Proofs.YthngolfabfijpaaGreatDoor
section
variable {P : Program} {n : Nat} {ds : List Deferred} {S : Slots} {g : Gh} {L : List Ent} {gd : Option (Nat × Bool)} {dst : Option Nat} {x y : Operand} {t t' ty : TypeId} {pos : String} {aft : Array Edge} {k k' : IntKind} {a m c j : Nat}
def hexDs : List UInt8 := [48, 49, 50, 51, 52, 53, 54, 55, 56, 57, 97, 98, 99, 100, 101, 102]
theorem hexDs_get {a : Nat} (h : a < 16) : hexDs.getD a 0 = hexC a := by
  have hh : ∀ i : Fin 16, hexDs.getD i.val 0 = hexC i.val := by decide +kernel
  exact hh ⟨a, h⟩
theorem Y.index_hex [ht : Und P t .string] (ha : a < 16) (hx : ev S x = some (.string ⟨hexDs.toArray⟩)) (hy : ev S y = some (.int k (a : Nat))) : Yields P n ds S g L ⟨dst, .index t x y, ty, pos, aft, gd⟩ (.int .u8 ((hexC a).toNat : Nat)) := by
  rw [← hexDs_get ha]
  exact Y.index_str hx hy rfl ha
theorem wrap_i32n (p : Nat) (_h : p < 2147483648) : IntKind.i32.wrap (p : Int) = p := IntWalk.i32_in _ (by omega)
theorem Y.and15 (hx : ev S x = some (.int .i32 (a : Nat))) (hy : ev S y = some (.int .i32 15)) (_ha : a < 256) (hm : m = a % 16) : Yields P n ds S g L ⟨dst, .binOp .and t x y t', ty, pos, aft, gd⟩ (.int .i32 (m : Nat)) :=
  Y.and (a := a) (b := 15) hx hy rfl rfl (by show a < 2 ^ 32; omega) (by decide) (by rw [show a &&& 15 = a % 16 from Nat.and_two_pow_sub_one_eq_mod a 4, hm]; exact wrap_i32n _ (by omega))
end
end Go.TL
namespace Go.Proofs.YthngolfabfijpaaGreatDoor
open Go.RowKit Go.TL
set_option maxRecDepth 100000

def WrR (b : Nat) (l : List UInt8) (g : Gh) (L : List Ent) : Ending → Gh → List Ent → Prop := fun r g' L1 => ∃ v', r = .returned (.tuple #[]) ∧ g' = g ∧ L1 = BwL b (.pointer (some ⟨b, 0, none⟩)) v' l L
set_option maxHeartbeats 4000000 in
theorem jwend_does (e : Bool) {b : Nat} {p : Value} (hp0 : BdP b p) (v : Value) (l : List UInt8) (c a b2 : UInt8) (he : decide (c = a) = e) (g : Gh) (L : List Ent) (_hl : l.length ≤ 90000000) : Does Tryz.prog 115 #[.pointer (some ⟨b, 0, none⟩), .int .u8 (c.toNat : Nat), str [a, b2]] g (BwL b p v l L) (WrR b (l ++ endL e a b2) g L) := by
  refine Does.of3 Tryz.func115 rfl Tryz.ntmps115 rfl ?_
  have hp : BdP b (.pointer (some ⟨b, 0, none⟩)) := .inr rfl
  have i0 : ([a, b2] : List UInt8)[0]? = some a := rfl
  have i1 : ([a, b2] : List UInt8)[1]? = some b2 := rfl
  cases e with
  | true =>
    obtain rfl : c = a := of_decide_eq_true he
    rw [show l ++ endL true c b2 = l ++ [c] ++ [b2] by unfold endL; simp]
    have W1 := fun L => wbdbyte_does hp0 v l c g L (by omega)
    have W2 := fun v L => wbdbyte_does hp v (l ++ [c]) b2 g L (by rw [List.length_append, List.length_singleton]; omega)
    unfold BwR at W1 W2
    unfold BwL at *
    repeat' (first
    | refine wkQ ?_
    | refine wkV ?_
    | ((with_reducible apply TL.pure (d := 8) (v := .int .u8 (c.toNat : Nat))); (· exact Y.index_str (s := [c, b2]) (j := 0) rfl rfl rfl (by simp)); (· rfl)) | ((with_reducible apply TW.pure (d := 8) (v := .int .u8 (c.toNat : Nat))); (· exact Y.index_str (s := [c, b2]) (j := 0) rfl rfl rfl (by simp)); (· rfl))
    | ((with_reducible apply TL.pure (d := 19) (v := .int .u8 (b2.toNat : Nat))); (· exact Y.index_str (s := [c, b2]) (j := 1) rfl rfl rfl (by simp)); (· rfl)) | ((with_reducible apply TW.pure (d := 19) (v := .int .u8 (b2.toNat : Nat))); (· exact Y.index_str (s := [c, b2]) (j := 1) rfl rfl rfl (by simp)); (· rfl))
    | ((with_reducible apply TL.pure (d := 9) (v := .bool true)); (· exact Y.eql_b (decide_eq_true rfl) rfl rfl); (· rfl)) | ((with_reducible apply TW.pure (d := 9) (v := .bool true)); (· exact Y.eql_b (decide_eq_true rfl) rfl rfl); (· rfl))
    | (refine TL.call (Enters.plain (by kernel_rfl) (by rfl)) (by rfl) (Does.perm (W1 _) permF) ?_; (rintro e gu Lu _ ⟨wv, k1, k2, k3⟩; have k2 := k2.symm; subst k1; subst k2; subst k3; refine CallK.ret ?_))
    | (refine TL.call (Enters.plain (by kernel_rfl) (by rfl)) (by rfl) (Does.perm (W2 _ _) permF) ?_; (rintro e gu Lu _ ⟨wv, k1, k2, k3⟩; have k2 := k2.symm; subst k1; subst k2; subst k3; refine CallK.ret ?_))
    | (refine TC.region_tail 5 (by kernel_rfl) (by kernel_rfl) ?_; simp only [List.take_succ_cons, List.take_zero, List.drop_succ_cons, List.drop_zero]) | refine TQ.tail ?_
    | refine stS ?_ | (refine stB ?_; intro _) | (refine stC ?_; refine And.intro (fun _ => ?_) (fun _ => ?_))
    | apply TC.region_draw (by kernel_rfl) (by kernel_rfl) | refine TW.nil ?_ | ((with_reducible apply TW.pure); (· exact yA); (· rfl)))
    refine TQ.end_normal ?_
    refine TQ.endR0 (L' := (BwO b (.pointer (some ⟨b, 0, none⟩)) wv :: .row 5 1 wv (l ++ [c] ++ [b2]).length (byteVals (l ++ [c] ++ [b2])) :: L)) Tryz.results115 rfl (.refl _) ?_ selF
    exact ⟨_, rfl, rfl, rfl⟩
  | false =>
    have hne := of_decide_eq_false he
    rw [show l ++ endL false a b2 = l ++ [b2] by unfold endL; simp]
    have HN := Hn.mk (show ¬ ((c.toNat : Nat) : Int) = (a.toNat : Nat) from fun h => hne (UInt8.toNat_inj.1 (by omega)))
    have W2 := fun v L => wbdbyte_does hp0 v l b2 g L (by omega)
    unfold BwR at W2
    unfold BwL at *
    repeat' (first
    | refine wkQ ?_
    | refine wkV ?_
    | ((with_reducible apply TL.pure (d := 8) (v := .int .u8 (a.toNat : Nat))); (· exact Y.index_str (s := [a, b2]) (j := 0) rfl rfl rfl (by simp)); (· rfl)) | ((with_reducible apply TW.pure (d := 8) (v := .int .u8 (a.toNat : Nat))); (· exact Y.index_str (s := [a, b2]) (j := 0) rfl rfl rfl (by simp)); (· rfl))
    | ((with_reducible apply TL.pure (d := 19) (v := .int .u8 (b2.toNat : Nat))); (· exact Y.index_str (s := [a, b2]) (j := 1) rfl rfl rfl (by simp)); (· rfl)) | ((with_reducible apply TW.pure (d := 19) (v := .int .u8 (b2.toNat : Nat))); (· exact Y.index_str (s := [a, b2]) (j := 1) rfl rfl rfl (by simp)); (· rfl))
    | ((with_reducible apply TL.pure (d := 9) (v := .bool false)); (· exact Y.eql_b (decide_eq_false HN.out) rfl rfl); (· rfl)) | ((with_reducible apply TW.pure (d := 9) (v := .bool false)); (· exact Y.eql_b (decide_eq_false HN.out) rfl rfl); (· rfl))
    | (refine TL.call (Enters.plain (by kernel_rfl) (by rfl)) (by rfl) (Does.perm (W2 _ _) permF) ?_; (rintro e gu Lu _ ⟨wv, k1, k2, k3⟩; have k2 := k2.symm; subst k1; subst k2; subst k3; refine CallK.ret ?_))
    | (refine TC.region_tail 5 (by kernel_rfl) (by kernel_rfl) ?_; simp only [List.take_succ_cons, List.take_zero, List.drop_succ_cons, List.drop_zero]) | refine TQ.tail ?_
    | refine stS ?_ | (refine stB ?_; intro _) | (refine stC ?_; refine And.intro (fun _ => ?_) (fun _ => ?_))
    | apply TC.region_draw (by kernel_rfl) (by kernel_rfl) | refine TW.nil ?_ | ((with_reducible apply TW.pure); (· exact yA); (· rfl)))
    refine TQ.end_normal ?_
    refine TQ.endR0 (L' := (BwO b (.pointer (some ⟨b, 0, none⟩)) wv :: .row 5 1 wv (l ++ [b2]).length (byteVals (l ++ [b2])) :: L)) Tryz.results115 rfl (.refl _) ?_ selF
    exact ⟨_, rfl, rfl, rfl⟩
structure QuS where
  j : Nat
  v : Value
  acc : List UInt8
theorem shortO_lt {c : Nat} {lt : UInt8} (h : shortO c = some lt) : c < 128 := by
  unfold shortO at h
  repeat' split at h
  all_goals first | omega | cases h
set_option maxHeartbeats 16000000 in
theorem jwtext_does {b : Nat} {p : Value} (hp : BdP b p) (v : Value) (l s : List UInt8) (g : Gh) (L : List Ent) (hu : utfL s = true) (_hl : l.length + 6 * s.length ≤ 6000000) : Does Tryz.prog 114 #[.pointer (some ⟨b, 0, none⟩), str s] g (BwL b p v l L) (WrR b (l ++ quo s) g L) := by
  refine Does.of2 Tryz.func114 rfl Tryz.ntmps114 rfl ?_
  have hp2 : BdP b (.pointer (some ⟨b, 0, none⟩)) := .inr rfl
  have W0 := fun L => wbdbyte_does hp v l 34 g L (by omega)
  have SH := fun L => jshort_does g L
  obtain ⟨R, hR⟩ : ∃ R, R = l ++ quo s := ⟨_, rfl⟩
  rw [← hR]
  have HR := Hn.mk hR
  clear hR
  unfold BwR at W0
  unfold ShortR at SH
  unfold BwL at *
  repeat' (first
    | refine wkQ ?_
    | refine wkV ?_
    | (refine TL.call (Enters.plain (by kernel_rfl) (by rfl)) (by rfl) (SH _) ?_; (rintro e gs Ln hgs ⟨bm, k1, k2, k3⟩; have k2 := k2.symm; subst k1; subst k2; subst k3; refine CallK.ret ?_))
    | (refine TL.call (Enters.plain (by kernel_rfl) (by rfl)) (by rfl) (Does.perm (W0 _) permF) ?_; (rintro e gu Lu _ ⟨wv, k1, k2, k3⟩; have k2 := k2.symm; subst k1; subst k2; subst k3; refine CallK.ret ?_))
    | ((with_reducible apply TL.range_str); (· rfl); (· rfl); intro _)
    | refine stS ?_ | (refine stB ?_; intro _) | (refine stC ?_; refine And.intro (fun _ => ?_) (fun _ => ?_)))
  rename_i br
  refine TC.loopL (α := QuS) (fun x => x.j ≤ s.length ∧ utfL (s.drop x.j) = true ∧ x.acc = l ++ 34 :: quoB (s.take x.j)) (fun x => s.length - x.j) (fun _ _ => [(15, .pointer (some ⟨br, 0, none⟩)), (4, .map (some bm)), (0, .pointer (some ⟨b, 0, none⟩))]) (fun x => .obj br (.stringIter ⟨s.toArray⟩ x.j) :: BwO b (.pointer (some ⟨b, 0, none⟩)) x.v :: .row 5 1 x.v x.acc.length (byteVals x.acc) :: .obj bm (.map shortEs 7) :: L) ⟨0, wv, l ++ [34]⟩ ⟨Nat.zero_le _, hu, by rw [List.take_zero, quoB]⟩ subA selF ?_
  rintro ⟨j, v1, acc⟩ ⟨hj, huj, hacc⟩
  dsimp only at hj huj hacc ⊢
  have hal : acc.length ≤ l.length + 1 + 6 * j := by
    have h1 := (quoB_len (s.take j)).2
    rw [List.length_take] at h1
    rw [hacc, List.length_append, List.length_cons]; omega
  have HA := Hn.mk hacc
  clear hacc
  by_cases hlt : j < s.length
  · obtain ⟨x, hx⟩ : ∃ x, s[j]? = some x := ⟨_, List.getElem?_eq_getElem hlt⟩
    obtain ⟨c, k, hck, hk1, hk2, hu2, hgc, hcase⟩ := quo_sign s j x hx huj
    have HU := Hn.mk hu2
    clear hu2 huj hu
    cases ho : shortO c with
    | some lt =>
      obtain ⟨ix, hfind⟩ := find_yes ho
      rcases hcase with ⟨hcx, hc8, hq⟩ | ⟨h128, _⟩
      · have he : escB x = [92, lt] := esc_short (by rw [← hcx]; exact ho)
        have HQ := Hn.mk (show acc ++ [92] ++ [lt] = l ++ 34 :: quoB (s.take (j + k)) by rw [hq, he, HA.out]; simp)
        have W1 := fun v L => wbdbyte_does hp2 v acc 92 g L (by omega)
        have W2 := fun v L => wbdbyte_does hp2 v (acc ++ [92]) lt g L (by rw [List.length_append, List.length_singleton]; omega)
        unfold BwR at W1 W2
        unfold BwL at *
        clear hq he hgc
        repeat' (first
    | refine wkQ ?_
    | refine wkV ?_
    | ((with_reducible apply TL.next_at); (· rfl); (· exact pkA); (· exact hlt); (· exact hck); (· rfl))
    | ((with_reducible apply TL.pure (d := 22) (v := .tuple #[.int .u8 (lt.toNat : Nat), .bool true])); (· exact Y.lookup_ok rfl rfl pkA hfind); (· rfl)) | ((with_reducible apply TW.pure (d := 22) (v := .tuple #[.int .u8 (lt.toNat : Nat), .bool true])); (· exact Y.lookup_ok rfl rfl pkA hfind); (· rfl))
    | (refine TL.call (Enters.plain (by kernel_rfl) (by rfl)) (by rfl) (Does.perm (W1 _ _) permF) ?_; (rintro e gu Lu _ ⟨wv, k1, k2, k3⟩; have k2 := k2.symm; subst k1; subst k2; subst k3; refine CallK.ret ?_))
    | (refine TL.call (Enters.plain (by kernel_rfl) (by rfl)) (by rfl) (Does.perm (W2 _ _) permF) ?_; (rintro e gu Lu _ ⟨wv, k1, k2, k3⟩; have k2 := k2.symm; subst k1; subst k2; subst k3; refine CallK.ret ?_))
    | refine stS ?_ | (refine stB ?_; intro _) | (refine stC ?_; refine And.intro (fun _ => ?_) (fun _ => ?_)))
        refine TQ.round ⟨j + k, wv, acc ++ [92] ++ [lt]⟩ ?_ ?_ rfl subA selF
        · exact ⟨by dsimp only; omega, HU.out, HQ.out⟩
        · show s.length - (j + k) < s.length - j
          omega
      · have := shortO_lt ho
        omega
    | none =>
      have hfind := find_no ho
      by_cases h32 : c < 32
      · rcases hcase with ⟨hcx, hc8, hq⟩ | ⟨h128, _⟩
        · have he : escB x = [92, 117, 48, 48, hexC (c / 16), hexC (c % 16)] := by rw [hcx] at ho h32 ⊢; exact esc_low ho h32
          have HQ := Hn.mk (show acc ++ [92, 117, 48, 48] ++ [hexC (c / 16)] ++ [hexC (c % 16)] = l ++ 34 :: quoB (s.take (j + k)) by rw [hq, he, HA.out]; simp)
          have H32 := Hn.mk (show ((c : Nat) : Int) < 32 by omega)
          have W1 := fun v L => wbdstr_does hp2 v acc [92, 117, 48, 48] g L (by simp only [List.length_cons, List.length_nil]; omega)
          have W2 := fun v L => wbdbyte_does hp2 v (acc ++ [92, 117, 48, 48]) (hexC (c / 16)) g L (by simp only [List.length_append, List.length_cons, List.length_nil]; omega)
          have W3 := fun v L => wbdbyte_does hp2 v (acc ++ [92, 117, 48, 48] ++ [hexC (c / 16)]) (hexC (c % 16)) g L (by simp only [List.length_append, List.length_cons, List.length_nil]; omega)
          unfold BwR at W2 W3
          unfold WstrR at W1
          unfold BwL at *
          clear hq he hgc
          repeat' (first
    | refine wkQ ?_
    | refine wkV ?_
    | ((with_reducible apply TL.next_at); (· rfl); (· exact pkA); (· exact hlt); (· exact hck); (· rfl))
    | ((with_reducible apply TL.pure (d := 22) (v := .tuple #[.int .u8 0, .bool false])); (· exact Y.lookup_no rfl rfl pkA hfind); (· rfl)) | ((with_reducible apply TW.pure (d := 22) (v := .tuple #[.int .u8 0, .bool false])); (· exact Y.lookup_no rfl rfl pkA hfind); (· rfl))
    | ((with_reducible apply TL.pure (d := 36) (v := .bool true)); (· exact Y.lss_b (decide_eq_true H32.out) rfl rfl); (· rfl)) | ((with_reducible apply TW.pure (d := 36) (v := .bool true)); (· exact Y.lss_b (decide_eq_true H32.out) rfl rfl); (· rfl))
    | ((with_reducible apply TL.pure (d := 45) (v := .int .i32 ((c / 16 : Nat) : Int))); (· exact Y.shr_n rfl rfl (show (4 : Int) = (4 : Nat) from rfl) (by decide) rfl); (· rfl)) | ((with_reducible apply TW.pure (d := 45) (v := .int .i32 ((c / 16 : Nat) : Int))); (· exact Y.shr_n rfl rfl (show (4 : Int) = (4 : Nat) from rfl) (by decide) rfl); (· rfl))
    | ((with_reducible apply TL.pure (d := 46) (v := .int .u8 ((hexC (c / 16)).toNat : Nat))); (· exact Y.index_hex (by omega) rfl rfl); (· rfl)) | ((with_reducible apply TW.pure (d := 46) (v := .int .u8 ((hexC (c / 16)).toNat : Nat))); (· exact Y.index_hex (by omega) rfl rfl); (· rfl))
    | ((with_reducible apply TL.pure (d := 52) (v := .int .i32 ((c % 16 : Nat) : Int))); (· exact Y.and15 rfl rfl (by omega) rfl); (· rfl)) | ((with_reducible apply TW.pure (d := 52) (v := .int .i32 ((c % 16 : Nat) : Int))); (· exact Y.and15 rfl rfl (by omega) rfl); (· rfl))
    | ((with_reducible apply TL.pure (d := 53) (v := .int .u8 ((hexC (c % 16)).toNat : Nat))); (· exact Y.index_hex (by omega) rfl rfl); (· rfl)) | ((with_reducible apply TW.pure (d := 53) (v := .int .u8 ((hexC (c % 16)).toNat : Nat))); (· exact Y.index_hex (by omega) rfl rfl); (· rfl))
    | (refine TL.call (Enters.plain (by kernel_rfl) (by rfl)) (by rfl) (Does.perm (W1 _ _) permF) ?_; (rintro e gu Lu _ ⟨wv, wk, k1, k2, k3⟩; have k2 := k2.symm; subst k1; subst k2; subst k3; refine CallK.ret ?_))
    | (refine TL.call (Enters.plain (by kernel_rfl) (by rfl)) (by rfl) (Does.perm (W2 _ _) permF) ?_; (rintro e gu Lu _ ⟨wv, k1, k2, k3⟩; have k2 := k2.symm; subst k1; subst k2; subst k3; refine CallK.ret ?_))
    | (refine TL.call (Enters.plain (by kernel_rfl) (by rfl)) (by rfl) (Does.perm (W3 _ _) permF) ?_; (rintro e gu Lu _ ⟨wv, k1, k2, k3⟩; have k2 := k2.symm; subst k1; subst k2; subst k3; refine CallK.ret ?_))
    | (refine TC.region_tail 6 (by kernel_rfl) (by kernel_rfl) ?_; simp only [List.take_succ_cons, List.take_zero, List.drop_succ_cons, List.drop_zero]) | refine TQ.tail ?_
    | refine stS ?_ | (refine stB ?_; intro _) | (refine stC ?_; refine And.intro (fun _ => ?_) (fun _ => ?_))
    | apply TC.region_draw (by kernel_rfl) (by kernel_rfl) | refine TW.nil ?_ | ((with_reducible apply TW.pure); (· exact yA); (· rfl)))
          refine TQ.round ⟨j + k, wv, acc ++ [92, 117, 48, 48] ++ [hexC (c / 16)] ++ [hexC (c % 16)]⟩ ?_ ?_ rfl subA selF
          · exact ⟨by dsimp only; omega, HU.out, HQ.out⟩
          · show s.length - (j + k) < s.length - j
            omega
        · omega
      · have H32 := Hn.mk (show ¬ ((c : Nat) : Int) < 32 by omega)
        have HQ := Hn.mk (show acc ++ signB c = l ++ 34 :: quoB (s.take (j + k)) by
          rcases hcase with ⟨hcx, hc8, hq⟩ | ⟨h128, hq⟩
          · have he : escB x = [x] := esc_plain (by rw [← hcx]; exact ho) (by omega)
            have hs1 : signB c = [x] := by unfold signB; rw [if_pos hc8, hcx, UInt8.ofNat_toNat]
            rw [hq, he, hs1, HA.out]; simp
          · rw [hq, HA.out]; simp)
        have W1 := fun v L => wbdrune_does hp2 v acc c hgc g L (by omega)
        unfold WuneR at W1
        unfold BwL at *
        clear hcase hgc
        repeat' (first
    | refine wkQ ?_
    | refine wkV ?_
    | ((with_reducible apply TL.next_at); (· rfl); (· exact pkA); (· exact hlt); (· exact hck); (· rfl))
    | ((with_reducible apply TL.pure (d := 22) (v := .tuple #[.int .u8 0, .bool false])); (· exact Y.lookup_no rfl rfl pkA hfind); (· rfl)) | ((with_reducible apply TW.pure (d := 22) (v := .tuple #[.int .u8 0, .bool false])); (· exact Y.lookup_no rfl rfl pkA hfind); (· rfl))
    | ((with_reducible apply TL.pure (d := 36) (v := .bool false)); (· exact Y.lss_b (decide_eq_false H32.out) rfl rfl); (· rfl)) | ((with_reducible apply TW.pure (d := 36) (v := .bool false)); (· exact Y.lss_b (decide_eq_false H32.out) rfl rfl); (· rfl))
    | (refine TL.call (Enters.plain (by kernel_rfl) (by rfl)) (by rfl) (Does.perm (W1 _ _) permF) ?_; (rintro e gu Lu _ ⟨ra, rc, rk, k1, k2, k3⟩; have k2 := k2.symm; subst k1; subst k2; subst k3; refine CallK.ret ?_))
    | refine stS ?_ | (refine stB ?_; intro _) | (refine stC ?_; refine And.intro (fun _ => ?_) (fun _ => ?_)))
        refine TQ.round ⟨j + k, .slice ra (acc ++ signB c).length rc, acc ++ signB c⟩ ?_ ?_ rfl subA selF
        · exact ⟨by dsimp only; omega, HU.out, HQ.out⟩
        · show s.length - (j + k) < s.length - j
          omega
  · obtain rfl : j = s.length := by omega
    obtain rfl : R = acc ++ [34] := by rw [HR.out, HA.out, List.take_length]; unfold quo; simp
    have W1 := fun v L => wbdbyte_does hp2 v acc 34 g L (by omega)
    unfold BwR at W1
    unfold BwL at *
    clear huj hu
    repeat' (first
    | refine wkQ ?_
    | refine wkV ?_
    | ((with_reducible apply TL.next_end); (· rfl); (· exact pkA); (· exact (Nat.le_refl _)); (· rfl))
    | (refine TL.call (Enters.plain (by kernel_rfl) (by rfl)) (by rfl) (Does.perm (W1 _ _) permF) ?_; (rintro e gu Lu _ ⟨wv, k1, k2, k3⟩; have k2 := k2.symm; subst k1; subst k2; subst k3; refine CallK.ret ?_))
    | refine stS ?_ | (refine stB ?_; intro _) | (refine stC ?_; refine And.intro (fun _ => ?_) (fun _ => ?_)))
    refine TQ.end_normal ?_
    refine TQ.endR0 (L' := (BwO b (.pointer (some ⟨b, 0, none⟩)) wv :: .row 5 1 wv (acc ++ [34]).length (byteVals (acc ++ [34])) :: L)) Tryz.results114 rfl (.refl _) ?_ selF
    exact ⟨_, rfl, rfl, rfl⟩
end Go.Proofs.YthngolfabfijpaaGreatDoor
