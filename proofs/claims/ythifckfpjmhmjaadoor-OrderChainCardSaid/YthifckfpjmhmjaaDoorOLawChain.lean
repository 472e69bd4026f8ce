/-
  The law OrderChain.
-/
import Derived.Test.YthifckfpjmhmjaaDoorOOrder
import Derived.Test.YthifckfpjmhmjaaDoorOTold
namespace Go.Proofs.YthifckfpjmhmjaaDoor
open Go.RowKit Go.TL
set_option maxRecDepth 100000

theorem cmpB_anti : ∀ (a b : List UInt8), cmpB b a = - cmpB a b
  | [], [] => by rw [cmpB_self]; rfl
  | [], _ :: _ => by rw [← cmpB_lib, ← cmpB_lib]; rfl
  | _ :: _, [] => by rw [← cmpB_lib, ← cmpB_lib]; rfl
  | x :: a, y :: b => by
    have ih := cmpB_anti a b
    rw [← cmpB_lib, ← cmpB_lib] at ih ⊢
    rw [Lib.compareBytes, Lib.compareBytes]
    by_cases h1 : x < y
    · have h2 : ¬ y < x := fun e => by rw [UInt8.lt_iff_toNat_lt] at h1 e; omega
      rw [if_neg h2, if_pos h1, if_pos h1]; rfl
    · by_cases h2 : y < x
      · rw [if_pos h2, if_neg h1, if_pos h2]
      · rw [if_neg h2, if_neg h1, if_neg h1, if_neg h2]; exact ih
theorem cmpB_trans : ∀ (a b c : List UInt8), cmpB a b ≤ 0 → cmpB b c ≤ 0 → cmpB a c ≤ 0
  | [], b, [], _, _ => by rw [cmpB_self]; omega
  | [], b, z :: c, _, _ => by
    have : cmpB [] (z :: c) = -1 := by rw [← cmpB_lib]; rfl
    omega
  | x :: a, [], c, h, _ => by
    have : cmpB (x :: a) [] = 1 := by rw [← cmpB_lib]; rfl
    omega
  | x :: a, y :: b, [], _, h => by
    have : cmpB (y :: b) [] = 1 := by rw [← cmpB_lib]; rfl
    omega
  | x :: a, y :: b, z :: c, h, h' => by
    have ih := cmpB_trans a b c
    rw [← cmpB_lib, ← cmpB_lib, ← cmpB_lib] at ih
    rw [← cmpB_lib] at h h' ⊢
    rw [Lib.compareBytes] at h h' ⊢
    simp only [UInt8.lt_iff_toNat_lt] at h h' ⊢
    by_cases h1 : x.toNat < y.toNat
    · by_cases h2 : y.toNat < z.toNat
      · rw [if_pos (by omega)]; omega
      · rw [if_neg h2] at h'
        by_cases h3 : z.toNat < y.toNat
        · rw [if_pos h3] at h'; omega
        · rw [if_pos (by omega)]; omega
    · rw [if_neg h1] at h
      by_cases h4 : y.toNat < x.toNat
      · rw [if_pos h4] at h; omega
      · rw [if_neg h4] at h
        by_cases h2 : y.toNat < z.toNat
        · rw [if_pos (by omega)]; omega
        · rw [if_neg h2] at h'
          by_cases h3 : z.toNat < y.toNat
          · rw [if_pos h3] at h'; omega
          · rw [if_neg h3] at h'
            rw [if_neg (by omega), if_neg (by omega)]
            exact ih h h'
theorem cmpV_anti {x y : DV} (hx : mayV x 0 = 0) (hy : mayV y 0 = 0) (bx : nbJ (toJ x)) (b2 : nbJ (toJ y)) : cmpV y x = - cmpV x y := by
  rw [cmp_keys hx hy bx b2, cmp_keys hy hx b2 bx]; exact cmpB_anti _ _
theorem cmpV_trans {x y z : DV} (hx : mayV x 0 = 0) (hy : mayV y 0 = 0) (hz : mayV z 0 = 0) (bx : nbJ (toJ x)) (b2 : nbJ (toJ y)) (bz : nbJ (toJ z)) : 0 < cmpV x y ∨ 0 < cmpV y z ∨ cmpV x z ≤ 0 := by
  have := cmpB_trans (keyJ (toJ x)) (keyJ (toJ y)) (keyJ (toJ z))
  rw [← cmp_keys hx hy bx b2, ← cmp_keys hy hz b2 bz, ← cmp_keys hx hz bx bz] at this
  omega
set_option maxHeartbeats 16000000 in
theorem lawOrderChain (x y z : DV) (cs ds es : List Value) (g : Gh) (hX : IsV g x cs) (hY : IsV g y ds) (hZ : IsV g z es) (hT : GTabs g) (hU : GU8 g) : Gives Tryd.prog 5 #[.agg cs.toArray, .agg ds.toArray, .agg es.toArray] g [] (.bool true) := by
  refine .of (Does.of3 Tryd.func5 rfl Tryd.ntmps5 rfl ?_)
  have L1 := fun L => light_gives x cs g L hX
  have L2 := fun L => light_gives y ds g L hY
  have L3 := fun L => light_gives z es g L hZ
  have l1 := hX.len
  have l2 := hY.len
  have l3 := hZ.len
  cases hx : lightB x with
  | false =>
    rw [hx] at L1
    clear hX hY hZ hT hU
    repeat' (first
    | ((with_reducible apply TL.pure); (· exact yV); (· rfl)) | ((with_reducible apply TW.pure); (· exact yV); (· rfl))
    | ((with_reducible apply TL.gives_plain); (· kernel_rfl); (· rfl); (· exact L1 _); (· rfl)) | ((with_reducible apply TW.gives_plain); (· kernel_rfl); (· rfl); (· exact L1 _); (· rfl))
    | ((with_reducible apply TL.gives_plain); (· kernel_rfl); (· rfl); (· exact L2 _); (· rfl)) | ((with_reducible apply TW.gives_plain); (· kernel_rfl); (· rfl); (· exact L2 _); (· rfl))
    | ((with_reducible apply TL.gives_plain); (· kernel_rfl); (· rfl); (· exact L3 _); (· rfl)) | ((with_reducible apply TW.gives_plain); (· kernel_rfl); (· rfl); (· exact L3 _); (· rfl))
    | ((with_reducible apply TL.pure); (· exact yA); (· rfl))
    | refine TC.seq ?_ | refine TC.region ?_ | refine TL.nil ?_ | refine TQ.then_normal ?_
    | ((with_reducible apply TL.storeE); (· rfl); (· rfl); (· rfl); (· exact pkA); (· infer_instance)) | ((with_reducible apply TL.store_whole); (· rfl); (· rfl); (· first | rfl | (first | rfl | ((try simp only [List.set_cons_zero, List.set_cons_succ]); refine all1 (by first | rfl | assumption) ?_; first | rfl | (refine all1 (by first | rfl | assumption) ?_; first | rfl | (refine all1 (by first | rfl | assumption) ?_; rfl))))); (· rfl); (· exact pkA); (· rfl))
    | refine TC.block ?_ | refine TC.ret ?_ | refine TC.skip ?_ | refine TC.exit ?_
    | ((with_reducible apply TC.cond_true); (· rfl)) | ((with_reducible apply TC.cond_false); (· rfl)) | refine TC.cond_ky rfl kpA ?_ | refine TC.cond_kn rfl kpA ?_ | refine TC.cond_nky rfl kpA ?_ | refine TC.cond_nkn rfl kpA ?_ | refine TC.cond_eq0 rfl (fun _ => ?_) (fun _ => ?_) | refine TC.cond_neq0 rfl (fun _ => ?_) (fun _ => ?_) | refine TC.cond_eq rfl (fun _ => ?_) (fun _ => ?_) | refine TC.cond_neq rfl (fun _ => ?_) (fun _ => ?_) | refine TC.cond_not rfl (fun _ => ?_) (fun _ => ?_) | refine TC.cond_dec rfl (fun _ => ?_) (fun _ => ?_) | refine TC.cond_bool rfl (fun _ => ?_) (fun _ => ?_)
    | refine TQ.then_ret ?_ | refine TQ.then_exit ?_ | refine TQ.then_panic ?_ | refine TQ.in_normal ?_ | refine TQ.in_ret ?_ | refine TQ.in_exit ?_ | refine TQ.in_exit' rfl ?_ | refine TQ.in_panic ?_
    | refine TQ.round_ret ?_ | refine TQ.round_exit ?_ | refine TQ.round_panic ?_ | refine TQ.cut_ret ?_ | refine TQ.cut_exit ?_ | refine TQ.cut_panic ?_
    | ((with_reducible apply TL.guard_yes); (· rfl); (· rfl)) | ((with_reducible apply TL.guard_no); (· rfl); (· rfl); (· rfl); (· rfl)) | ((with_reducible apply TL.guard_no0); (· rfl); (· rfl); (· rfl)) | ((with_reducible apply TL.guard_undef); (· rfl); (· rfl); (· rfl)) | ((with_reducible apply TL.guard_undef0); (· rfl); (· rfl))
    | refine TL.guard_ky rfl rfl kpA ?_ | refine TL.guard_kn rfl rfl kpA ?_ | refine TL.guard_nky rfl rfl kpA ?_ | refine TL.guard_nkn rfl rfl kpA ?_ | refine TL.guard_eq0 rfl rfl rfl (fun _ => ?_) (fun _ => ?_) | refine TL.guard_neq0 rfl rfl rfl (fun _ => ?_) (fun _ => ?_) | refine TL.guard_eq rfl rfl rfl (fun _ => ?_) (fun _ => ?_) | refine TL.guard_neq rfl rfl rfl (fun _ => ?_) (fun _ => ?_) | refine TL.guard_ndec rfl rfl rfl (fun _ => ?_) (fun _ => ?_) | refine TL.guard_dec rfl rfl rfl (fun _ => ?_) (fun _ => ?_) | refine TL.guard_split rfl rfl rfl (fun _ => ?_) (fun _ => ?_)
    | ((with_reducible apply TL.alloc_ag); (· rfl); intro _) | ((with_reducible apply TL.alloc_sc); (· rfl); (· rfl); intro _) | ((with_reducible apply TL.box_ag); (· rfl); (· rfl); intro _) | ((with_reducible apply TL.box_sc); (· rfl); (· rfl); (· rfl); intro _))
    refine TQ.endR1 (L' := []) Tryd.results5 (by first | exact RVal.tmp rfl | exact RVal.cells rfl pkA (by rfl) | exact RVal.cell rfl pkA rfl) rfl (.refl _) ?_ (by repeat (first | exact Sel.refl | exact Sel.nil | apply Sel.cons (by (repeat (first | exact Pick.here | apply Pick.there))) | apply Sel.drop))
    exact ⟨rfl, rfl, rfl⟩
  | true =>
  rw [hx] at L1
  cases hy : lightB y with
  | false =>
    rw [hy] at L2
    clear hX hY hZ hT hU
    repeat' (first
    | ((with_reducible apply TL.pure); (· exact yV); (· rfl)) | ((with_reducible apply TW.pure); (· exact yV); (· rfl))
    | ((with_reducible apply TL.gives_plain); (· kernel_rfl); (· rfl); (· exact L1 _); (· rfl)) | ((with_reducible apply TW.gives_plain); (· kernel_rfl); (· rfl); (· exact L1 _); (· rfl))
    | ((with_reducible apply TL.gives_plain); (· kernel_rfl); (· rfl); (· exact L2 _); (· rfl)) | ((with_reducible apply TW.gives_plain); (· kernel_rfl); (· rfl); (· exact L2 _); (· rfl))
    | ((with_reducible apply TL.gives_plain); (· kernel_rfl); (· rfl); (· exact L3 _); (· rfl)) | ((with_reducible apply TW.gives_plain); (· kernel_rfl); (· rfl); (· exact L3 _); (· rfl))
    | ((with_reducible apply TL.pure); (· exact yA); (· rfl))
    | refine TC.seq ?_ | refine TC.region ?_ | refine TL.nil ?_ | refine TQ.then_normal ?_
    | ((with_reducible apply TL.storeE); (· rfl); (· rfl); (· rfl); (· exact pkA); (· infer_instance)) | ((with_reducible apply TL.store_whole); (· rfl); (· rfl); (· first | rfl | (first | rfl | ((try simp only [List.set_cons_zero, List.set_cons_succ]); refine all1 (by first | rfl | assumption) ?_; first | rfl | (refine all1 (by first | rfl | assumption) ?_; first | rfl | (refine all1 (by first | rfl | assumption) ?_; rfl))))); (· rfl); (· exact pkA); (· rfl))
    | refine TC.block ?_ | refine TC.ret ?_ | refine TC.skip ?_ | refine TC.exit ?_
    | ((with_reducible apply TC.cond_true); (· rfl)) | ((with_reducible apply TC.cond_false); (· rfl)) | refine TC.cond_ky rfl kpA ?_ | refine TC.cond_kn rfl kpA ?_ | refine TC.cond_nky rfl kpA ?_ | refine TC.cond_nkn rfl kpA ?_ | refine TC.cond_eq0 rfl (fun _ => ?_) (fun _ => ?_) | refine TC.cond_neq0 rfl (fun _ => ?_) (fun _ => ?_) | refine TC.cond_eq rfl (fun _ => ?_) (fun _ => ?_) | refine TC.cond_neq rfl (fun _ => ?_) (fun _ => ?_) | refine TC.cond_not rfl (fun _ => ?_) (fun _ => ?_) | refine TC.cond_dec rfl (fun _ => ?_) (fun _ => ?_) | refine TC.cond_bool rfl (fun _ => ?_) (fun _ => ?_)
    | refine TQ.then_ret ?_ | refine TQ.then_exit ?_ | refine TQ.then_panic ?_ | refine TQ.in_normal ?_ | refine TQ.in_ret ?_ | refine TQ.in_exit ?_ | refine TQ.in_exit' rfl ?_ | refine TQ.in_panic ?_
    | refine TQ.round_ret ?_ | refine TQ.round_exit ?_ | refine TQ.round_panic ?_ | refine TQ.cut_ret ?_ | refine TQ.cut_exit ?_ | refine TQ.cut_panic ?_
    | ((with_reducible apply TL.guard_yes); (· rfl); (· rfl)) | ((with_reducible apply TL.guard_no); (· rfl); (· rfl); (· rfl); (· rfl)) | ((with_reducible apply TL.guard_no0); (· rfl); (· rfl); (· rfl)) | ((with_reducible apply TL.guard_undef); (· rfl); (· rfl); (· rfl)) | ((with_reducible apply TL.guard_undef0); (· rfl); (· rfl))
    | refine TL.guard_ky rfl rfl kpA ?_ | refine TL.guard_kn rfl rfl kpA ?_ | refine TL.guard_nky rfl rfl kpA ?_ | refine TL.guard_nkn rfl rfl kpA ?_ | refine TL.guard_eq0 rfl rfl rfl (fun _ => ?_) (fun _ => ?_) | refine TL.guard_neq0 rfl rfl rfl (fun _ => ?_) (fun _ => ?_) | refine TL.guard_eq rfl rfl rfl (fun _ => ?_) (fun _ => ?_) | refine TL.guard_neq rfl rfl rfl (fun _ => ?_) (fun _ => ?_) | refine TL.guard_ndec rfl rfl rfl (fun _ => ?_) (fun _ => ?_) | refine TL.guard_dec rfl rfl rfl (fun _ => ?_) (fun _ => ?_) | refine TL.guard_split rfl rfl rfl (fun _ => ?_) (fun _ => ?_)
    | ((with_reducible apply TL.alloc_ag); (· rfl); intro _) | ((with_reducible apply TL.alloc_sc); (· rfl); (· rfl); intro _) | ((with_reducible apply TL.box_ag); (· rfl); (· rfl); intro _) | ((with_reducible apply TL.box_sc); (· rfl); (· rfl); (· rfl); intro _))
    refine TQ.endR1 (L' := []) Tryd.results5 (by first | exact RVal.tmp rfl | exact RVal.cells rfl pkA (by rfl) | exact RVal.cell rfl pkA rfl) rfl (.refl _) ?_ (by repeat (first | exact Sel.refl | exact Sel.nil | apply Sel.cons (by (repeat (first | exact Pick.here | apply Pick.there))) | apply Sel.drop))
    exact ⟨rfl, rfl, rfl⟩
  | true =>
  rw [hy] at L2
  cases hz : lightB z with
  | false =>
    rw [hz] at L3
    clear hX hY hZ hT hU
    repeat' (first
    | ((with_reducible apply TL.pure); (· exact yV); (· rfl)) | ((with_reducible apply TW.pure); (· exact yV); (· rfl))
    | ((with_reducible apply TL.gives_plain); (· kernel_rfl); (· rfl); (· exact L1 _); (· rfl)) | ((with_reducible apply TW.gives_plain); (· kernel_rfl); (· rfl); (· exact L1 _); (· rfl))
    | ((with_reducible apply TL.gives_plain); (· kernel_rfl); (· rfl); (· exact L2 _); (· rfl)) | ((with_reducible apply TW.gives_plain); (· kernel_rfl); (· rfl); (· exact L2 _); (· rfl))
    | ((with_reducible apply TL.gives_plain); (· kernel_rfl); (· rfl); (· exact L3 _); (· rfl)) | ((with_reducible apply TW.gives_plain); (· kernel_rfl); (· rfl); (· exact L3 _); (· rfl))
    | ((with_reducible apply TL.pure); (· exact yA); (· rfl))
    | refine TC.seq ?_ | refine TC.region ?_ | refine TL.nil ?_ | refine TQ.then_normal ?_
    | ((with_reducible apply TL.storeE); (· rfl); (· rfl); (· rfl); (· exact pkA); (· infer_instance)) | ((with_reducible apply TL.store_whole); (· rfl); (· rfl); (· first | rfl | (first | rfl | ((try simp only [List.set_cons_zero, List.set_cons_succ]); refine all1 (by first | rfl | assumption) ?_; first | rfl | (refine all1 (by first | rfl | assumption) ?_; first | rfl | (refine all1 (by first | rfl | assumption) ?_; rfl))))); (· rfl); (· exact pkA); (· rfl))
    | refine TC.block ?_ | refine TC.ret ?_ | refine TC.skip ?_ | refine TC.exit ?_
    | ((with_reducible apply TC.cond_true); (· rfl)) | ((with_reducible apply TC.cond_false); (· rfl)) | refine TC.cond_ky rfl kpA ?_ | refine TC.cond_kn rfl kpA ?_ | refine TC.cond_nky rfl kpA ?_ | refine TC.cond_nkn rfl kpA ?_ | refine TC.cond_eq0 rfl (fun _ => ?_) (fun _ => ?_) | refine TC.cond_neq0 rfl (fun _ => ?_) (fun _ => ?_) | refine TC.cond_eq rfl (fun _ => ?_) (fun _ => ?_) | refine TC.cond_neq rfl (fun _ => ?_) (fun _ => ?_) | refine TC.cond_not rfl (fun _ => ?_) (fun _ => ?_) | refine TC.cond_dec rfl (fun _ => ?_) (fun _ => ?_) | refine TC.cond_bool rfl (fun _ => ?_) (fun _ => ?_)
    | refine TQ.then_ret ?_ | refine TQ.then_exit ?_ | refine TQ.then_panic ?_ | refine TQ.in_normal ?_ | refine TQ.in_ret ?_ | refine TQ.in_exit ?_ | refine TQ.in_exit' rfl ?_ | refine TQ.in_panic ?_
    | refine TQ.round_ret ?_ | refine TQ.round_exit ?_ | refine TQ.round_panic ?_ | refine TQ.cut_ret ?_ | refine TQ.cut_exit ?_ | refine TQ.cut_panic ?_
    | ((with_reducible apply TL.guard_yes); (· rfl); (· rfl)) | ((with_reducible apply TL.guard_no); (· rfl); (· rfl); (· rfl); (· rfl)) | ((with_reducible apply TL.guard_no0); (· rfl); (· rfl); (· rfl)) | ((with_reducible apply TL.guard_undef); (· rfl); (· rfl); (· rfl)) | ((with_reducible apply TL.guard_undef0); (· rfl); (· rfl))
    | refine TL.guard_ky rfl rfl kpA ?_ | refine TL.guard_kn rfl rfl kpA ?_ | refine TL.guard_nky rfl rfl kpA ?_ | refine TL.guard_nkn rfl rfl kpA ?_ | refine TL.guard_eq0 rfl rfl rfl (fun _ => ?_) (fun _ => ?_) | refine TL.guard_neq0 rfl rfl rfl (fun _ => ?_) (fun _ => ?_) | refine TL.guard_eq rfl rfl rfl (fun _ => ?_) (fun _ => ?_) | refine TL.guard_neq rfl rfl rfl (fun _ => ?_) (fun _ => ?_) | refine TL.guard_ndec rfl rfl rfl (fun _ => ?_) (fun _ => ?_) | refine TL.guard_dec rfl rfl rfl (fun _ => ?_) (fun _ => ?_) | refine TL.guard_split rfl rfl rfl (fun _ => ?_) (fun _ => ?_)
    | ((with_reducible apply TL.alloc_ag); (· rfl); intro _) | ((with_reducible apply TL.alloc_sc); (· rfl); (· rfl); intro _) | ((with_reducible apply TL.box_ag); (· rfl); (· rfl); intro _) | ((with_reducible apply TL.box_sc); (· rfl); (· rfl); (· rfl); intro _))
    refine TQ.endR1 (L' := []) Tryd.results5 (by first | exact RVal.tmp rfl | exact RVal.cells rfl pkA (by rfl) | exact RVal.cell rfl pkA rfl) rfl (.refl _) ?_ (by repeat (first | exact Sel.refl | exact Sel.nil | apply Sel.cons (by (repeat (first | exact Pick.here | apply Pick.there))) | apply Sel.drop))
    exact ⟨rfl, rfl, rfl⟩
  | true =>
  rw [hz] at L3
  have wx := wf_of_light hx
  have wy := wf_of_light hy
  have wz := wf_of_light hz
  have bx := IsV.nb _ x (Nat.le_refl _) cs hX wx
  have b2 := IsV.nb _ y (Nat.le_refl _) ds hY wy
  have bz := IsV.nb _ z (Nat.le_refl _) es hZ wz
  have ht0 := fun (m1 : mayV x 0 = 0) (m2 : mayV y 0 = 0) (m3 : mayV z 0 = 0) => cmpV_trans m1 m2 m3 bx b2 bz
  have ha0 := fun (m1 : mayV x 0 = 0) (m2 : mayV y 0 = 0) => cmpV_anti m1 m2 bx b2
  have bd1 := cmpV_bd x y
  have bd2 := cmpV_bd y z
  have bd3 := cmpV_bd x z
  clear bx b2 bz
  obtain ⟨p, hp⟩ : ∃ p, p = (if errV x y = 0 then cmpV x y else 0) := ⟨_, rfl⟩
  obtain ⟨q, hq⟩ : ∃ q, q = (if errV y z = 0 then cmpV y z else 0) := ⟨_, rfl⟩
  obtain ⟨r, hr⟩ : ∃ r, r = (if errV x z = 0 then cmpV x z else 0) := ⟨_, rfl⟩
  obtain ⟨t, ht⟩ : ∃ t, t = (if errV y x = 0 then cmpV y x else 0) := ⟨_, rfl⟩
  have HP := Hn.mk hp
  have HQ := Hn.mk hq
  have HR := Hn.mk hr
  have HT := Hn.mk ht
  have HT0 := Hn.mk ht0
  have HA0 := Hn.mk ha0
  have HB := Hn.mk (And.intro bd1 (And.intro bd2 bd3))
  clear ht0 ha0 bd1 bd2 bd3 hp hq hr ht
  repeat' (first
    | ((with_reducible apply TL.pure); (· exact yV); (· rfl)) | ((with_reducible apply TW.pure); (· exact yV); (· rfl))
    | (refine TL.makes (Enters.plain (by kernel_rfl) (by rfl)) (told_makes _ x (Nat.le_refl _) cs g _ hX wx) (by rfl) ?_; (rintro v1 g1 hg1 j1))
    | (refine TL.makes (Enters.plain (by kernel_rfl) (by rfl)) (told_makes _ y (Nat.le_refl _) ds g1 _ (IsV.le hg1 _ _ hY) wy) (by rfl) ?_; (rintro v2 g2 hg2 j2; have hg12 := hg1.trans hg2))
    | (refine TL.makes (Enters.plain (by kernel_rfl) (by rfl)) (told_makes _ z (Nat.le_refl _) es g2 _ (IsV.le hg12 _ _ hZ) wz) (by rfl) ?_; (rintro v3 g3 hg3 j3; have hg13 := hg12.trans hg3; have J1 := IsJ.le (hg2.trans hg3) _ _ j1; have J2 := IsJ.le hg3 _ _ j2; have T3 := hT.le hg13; have U3 := hU.le hg13; have C1 := fun L => cmp_told L hx hy J1 J2 T3 U3; have C2 := fun L => cmp_told L hy hz J2 j3 T3 U3; have C3 := fun L => cmp_told L hx hz J1 j3 T3 U3; have C4 := fun L => cmp_told L hy hx J2 J1 T3 U3; have M1 := fun L => rMay_gives x cs g3 L (IsV.le hg13 _ _ hX) wx; have M2 := fun L => rMay_gives y ds g3 L (IsV.le hg13 _ _ hY) wy; have M3 := fun L => rMay_gives z es g3 L (IsV.le hg13 _ _ hZ) wz; have AW := fun L => awake05_gives (g := g3) (L := L) T3 U3; rw [← HP.out] at C1; rw [← HQ.out] at C2; rw [← HR.out] at C3; rw [← HT.out] at C4))
    | ((with_reducible apply TL.gives_plain); (· kernel_rfl); (· rfl); (· exact L1 _); (· rfl)) | ((with_reducible apply TW.gives_plain); (· kernel_rfl); (· rfl); (· exact L1 _); (· rfl))
    | ((with_reducible apply TL.gives_plain); (· kernel_rfl); (· rfl); (· exact L2 _); (· rfl)) | ((with_reducible apply TW.gives_plain); (· kernel_rfl); (· rfl); (· exact L2 _); (· rfl))
    | ((with_reducible apply TL.gives_plain); (· kernel_rfl); (· rfl); (· exact L3 _); (· rfl)) | ((with_reducible apply TW.gives_plain); (· kernel_rfl); (· rfl); (· exact L3 _); (· rfl))
    | ((with_reducible apply TL.gives_plain); (· kernel_rfl); (· rfl); (· exact C1 _); (· rfl)) | ((with_reducible apply TW.gives_plain); (· kernel_rfl); (· rfl); (· exact C1 _); (· rfl))
    | ((with_reducible apply TL.gives_plain); (· kernel_rfl); (· rfl); (· exact C2 _); (· rfl)) | ((with_reducible apply TW.gives_plain); (· kernel_rfl); (· rfl); (· exact C2 _); (· rfl))
    | ((with_reducible apply TL.gives_plain); (· kernel_rfl); (· rfl); (· exact C3 _); (· rfl)) | ((with_reducible apply TW.gives_plain); (· kernel_rfl); (· rfl); (· exact C3 _); (· rfl))
    | ((with_reducible apply TA.take 0); (· decide +kernel); (· rfl); (· (first | exact yA | exact yB | exact yM | exact yV)); (· decide +kernel); (· decide +kernel); (· rfl); (· exact fun _ _ _ h => h); (· rfl))
    | ((with_reducible apply TA.take 1); (· decide +kernel); (· rfl); (· (first | exact yA | exact yB | exact yM | exact yV)); (· decide +kernel); (· decide +kernel); (· rfl); (· exact fun _ _ _ h => h); (· rfl))
    | ((with_reducible apply TA.take 2); (· decide +kernel); (· rfl); (· (first | exact yA | exact yB | exact yM | exact yV)); (· decide +kernel); (· decide +kernel); (· rfl); (· exact fun _ _ _ h => h); (· rfl))
    | ((with_reducible apply TA.take 3); (· decide +kernel); (· rfl); (· (first | exact yA | exact yB | exact yM | exact yV)); (· decide +kernel); (· decide +kernel); (· rfl); (· exact fun _ _ _ h => h); (· rfl))
    | ((with_reducible apply TA.take 4); (· decide +kernel); (· rfl); (· (first | exact yA | exact yB | exact yM | exact yV)); (· decide +kernel); (· decide +kernel); (· rfl); (· exact fun _ _ _ h => h); (· rfl))
    | ((with_reducible apply TA.take 5); (· decide +kernel); (· rfl); (· (first | exact yA | exact yB | exact yM | exact yV)); (· decide +kernel); (· decide +kernel); (· rfl); (· exact fun _ _ _ h => h); (· rfl))
    | ((with_reducible apply TA.take 6); (· decide +kernel); (· rfl); (· (first | exact yA | exact yB | exact yM | exact yV)); (· decide +kernel); (· decide +kernel); (· rfl); (· exact fun _ _ _ h => h); (· rfl))
    | ((with_reducible apply TA.take 7); (· decide +kernel); (· rfl); (· (first | exact yA | exact yB | exact yM | exact yV)); (· decide +kernel); (· decide +kernel); (· rfl); (· exact fun _ _ _ h => h); (· rfl))
    | ((with_reducible apply TA.take 8); (· decide +kernel); (· rfl); (· (first | exact yA | exact yB | exact yM | exact yV)); (· decide +kernel); (· decide +kernel); (· rfl); (· exact fun _ _ _ h => h); (· rfl))
    | ((with_reducible apply TA.one 0); (· rfl); (· decide +kernel); (· rfl))
    | ((with_reducible apply TA.one 1); (· rfl); (· decide +kernel); (· rfl))
    | ((with_reducible apply TA.one 2); (· rfl); (· decide +kernel); (· rfl))
    | ((with_reducible apply TA.one 3); (· rfl); (· decide +kernel); (· rfl))
    | ((with_reducible apply TA.one 4); (· rfl); (· decide +kernel); (· rfl))
    | ((with_reducible apply TA.one 5); (· rfl); (· decide +kernel); (· rfl))
    | ((with_reducible apply TA.one 6); (· rfl); (· decide +kernel); (· rfl))
    | ((with_reducible apply TA.one 7); (· rfl); (· decide +kernel); (· rfl))
    | ((with_reducible apply TA.one 8); (· rfl); (· decide +kernel); (· rfl))
    | refine TQ.any (by first | exact .refl _ | assumption) (by repeat (first | exact Sel.refl | exact Sel.nil | apply Sel.cons (by (repeat (first | exact Pick.here | apply Pick.there))) | apply Sel.drop)) ?_
    | refine TC.region_any 9 (_) (by kernel_rfl) rfl (by repeat (first | exact Sel.refl | exact Sel.nil | apply Sel.cons (by (repeat (first | exact Pick.here | apply Pick.there))) | apply Sel.drop)) ?_ | refine TA.done (by decide +kernel) ?_ | refine TQ.any_panic ?_
    | ((with_reducible apply TL.pure); (· exact yA); (· rfl))
    | refine TC.seq ?_ | refine TC.region ?_ | refine TL.nil ?_ | refine TQ.then_normal ?_
    | ((with_reducible apply TL.storeE); (· rfl); (· rfl); (· rfl); (· exact pkA); (· infer_instance)) | ((with_reducible apply TL.store_whole); (· rfl); (· rfl); (· first | rfl | (first | rfl | ((try simp only [List.set_cons_zero, List.set_cons_succ]); refine all1 (by first | rfl | assumption) ?_; first | rfl | (refine all1 (by first | rfl | assumption) ?_; first | rfl | (refine all1 (by first | rfl | assumption) ?_; rfl))))); (· rfl); (· exact pkA); (· rfl))
    | refine TC.block ?_ | refine TC.ret ?_ | refine TC.skip ?_ | refine TC.exit ?_
    | ((with_reducible apply TC.cond_true); (· rfl)) | ((with_reducible apply TC.cond_false); (· rfl)) | refine TC.cond_ky rfl kpA ?_ | refine TC.cond_kn rfl kpA ?_ | refine TC.cond_nky rfl kpA ?_ | refine TC.cond_nkn rfl kpA ?_ | refine TC.cond_eq0 rfl (fun _ => ?_) (fun _ => ?_) | refine TC.cond_neq0 rfl (fun _ => ?_) (fun _ => ?_) | refine TC.cond_eq rfl (fun _ => ?_) (fun _ => ?_) | refine TC.cond_neq rfl (fun _ => ?_) (fun _ => ?_) | refine TC.cond_not rfl (fun _ => ?_) (fun _ => ?_) | refine TC.cond_dec rfl (fun _ => ?_) (fun _ => ?_) | refine TC.cond_bool rfl (fun _ => ?_) (fun _ => ?_)
    | refine TQ.then_ret ?_ | refine TQ.then_exit ?_ | refine TQ.then_panic ?_ | refine TQ.in_normal ?_ | refine TQ.in_ret ?_ | refine TQ.in_exit ?_ | refine TQ.in_exit' rfl ?_ | refine TQ.in_panic ?_
    | refine TQ.round_ret ?_ | refine TQ.round_exit ?_ | refine TQ.round_panic ?_ | refine TQ.cut_ret ?_ | refine TQ.cut_exit ?_ | refine TQ.cut_panic ?_
    | ((with_reducible apply TL.guard_yes); (· rfl); (· rfl)) | ((with_reducible apply TL.guard_no); (· rfl); (· rfl); (· rfl); (· rfl)) | ((with_reducible apply TL.guard_no0); (· rfl); (· rfl); (· rfl)) | ((with_reducible apply TL.guard_undef); (· rfl); (· rfl); (· rfl)) | ((with_reducible apply TL.guard_undef0); (· rfl); (· rfl))
    | refine TL.guard_ky rfl rfl kpA ?_ | refine TL.guard_kn rfl rfl kpA ?_ | refine TL.guard_nky rfl rfl kpA ?_ | refine TL.guard_nkn rfl rfl kpA ?_ | refine TL.guard_eq0 rfl rfl rfl (fun _ => ?_) (fun _ => ?_) | refine TL.guard_neq0 rfl rfl rfl (fun _ => ?_) (fun _ => ?_) | refine TL.guard_eq rfl rfl rfl (fun _ => ?_) (fun _ => ?_) | refine TL.guard_neq rfl rfl rfl (fun _ => ?_) (fun _ => ?_) | refine TL.guard_ndec rfl rfl rfl (fun _ => ?_) (fun _ => ?_) | refine TL.guard_dec rfl rfl rfl (fun _ => ?_) (fun _ => ?_) | refine TL.guard_split rfl rfl rfl (fun _ => ?_) (fun _ => ?_)
    | ((with_reducible apply TL.alloc_ag); (· rfl); intro _) | ((with_reducible apply TL.alloc_sc); (· rfl); (· rfl); intro _) | ((with_reducible apply TL.box_ag); (· rfl); (· rfl); intro _) | ((with_reducible apply TL.box_sc); (· rfl); (· rfl); (· rfl); intro _))
  rename_i bb1 bb2 bb3
  refine Go.TL.TL.weak (S' := [(57, v1), (56, v2), (15, .int .i64 (errV x z : Nat)), (14, .int .i64 r), (13, .int .i64 (errV y z : Nat)), (12, .int .i64 q), (11, .int .i64 (errV x y : Nat)), (10, .int .i64 p), (5, .pointer (some ⟨bb3, 0, none⟩)), (4, .pointer (some ⟨bb2, 0, none⟩)), (3, .pointer (some ⟨bb1, 0, none⟩))]) ?_ (by repeat (first | exact trivial | refine ⟨rfl, ?_⟩)) Sel.refl
  have hp := HP.out
  have hq := HQ.out
  have hr := HR.out
  have ht := HT.out
  have ht0 := HT0.out
  have ha0 := HA0.out
  have hbd := HB.out
  clear HP HQ HR HT HT0 HA0 HB L1 L2 L3 C1 C2 C3 hX hY hZ hT hU T3 U3 J1 J2 wx wy wz
  have e12 : errV x y = if mayV x 0 ≠ 0 then mayV x 0 else mayV y 0 := rfl
  have e23 : errV y z = if mayV y 0 ≠ 0 then mayV y 0 else mayV z 0 := rfl
  have e13 : errV x z = if mayV x 0 ≠ 0 then mayV x 0 else mayV z 0 := rfl
  have e21 : errV y x = if mayV y 0 ≠ 0 then mayV y 0 else mayV x 0 := rfl
  by_cases m1 : mayV x 0 = 0
  · by_cases m2 : mayV y 0 = 0
    · by_cases m3 : mayV z 0 = 0
      · rw [m1, m2] at e12 e21
        rw [m2, m3] at e23
        rw [m1, m3] at e13
        rw [if_neg (by simp)] at e12 e23 e13 e21
        rw [e12, if_pos rfl] at hp
        rw [e23, if_pos rfl] at hq
        rw [e13, if_pos rfl] at hr
        rw [e21, if_pos rfl, ha0 m1 m2, ← hp] at ht
        have hc := ht0 m1 m2 m3
        rw [← hp, ← hq, ← hr] at hc
        rw [← hp, ← hq, ← hr] at hbd
        rw [e12, e23, e13]
        rw [e21] at C4
        subst ht
        clear hp hq hr ht0 ha0 M1 M2 M3 e12 e23 e13 e21
        have ZN : Hn (IntKind.i64.wrap (0 - p) = -p) := ⟨by rw [IntWalk.i64_in _ (by omega)]; omega⟩
        by_cases p0 : 0 < p
        · clear hc
          repeat' (first
    | ((with_reducible apply TL.pure (d := 92) (v := .int .i64 (-p))); (· exact Y.neg rfl ZN.out); (· rfl)) | ((with_reducible apply TW.pure (d := 92) (v := .int .i64 (-p))); (· exact Y.neg rfl ZN.out); (· rfl))
    | ((with_reducible apply TL.pure); (· exact yV); (· rfl)) | ((with_reducible apply TW.pure); (· exact yV); (· rfl))
    | ((with_reducible apply TL.gives_plain); (· kernel_rfl); (· rfl); (· exact C4 _); (· rfl)) | ((with_reducible apply TW.gives_plain); (· kernel_rfl); (· rfl); (· exact C4 _); (· rfl))
    | ((with_reducible apply TL.gives_plain); (· kernel_rfl); (· rfl); (· exact M1 _); (· rfl)) | ((with_reducible apply TW.gives_plain); (· kernel_rfl); (· rfl); (· exact M1 _); (· rfl))
    | ((with_reducible apply TL.gives_plain); (· kernel_rfl); (· rfl); (· exact M2 _); (· rfl)) | ((with_reducible apply TW.gives_plain); (· kernel_rfl); (· rfl); (· exact M2 _); (· rfl))
    | ((with_reducible apply TL.gives_plain); (· kernel_rfl); (· rfl); (· exact M3 _); (· rfl)) | ((with_reducible apply TW.gives_plain); (· kernel_rfl); (· rfl); (· exact M3 _); (· rfl))
    | ((with_reducible apply TL.gives_plain); (· kernel_rfl); (· rfl); (· exact AW _); (· rfl)) | ((with_reducible apply TW.gives_plain); (· kernel_rfl); (· rfl); (· exact AW _); (· rfl))
    | ((with_reducible apply TL.pure); (· exact yA); (· rfl))
    | refine TC.seq ?_ | refine TC.region ?_ | refine TL.nil ?_ | refine TQ.then_normal ?_
    | ((with_reducible apply TL.storeE); (· rfl); (· rfl); (· rfl); (· exact pkA); (· infer_instance)) | ((with_reducible apply TL.store_whole); (· rfl); (· rfl); (· first | rfl | (first | rfl | ((try simp only [List.set_cons_zero, List.set_cons_succ]); refine all1 (by first | rfl | assumption) ?_; first | rfl | (refine all1 (by first | rfl | assumption) ?_; first | rfl | (refine all1 (by first | rfl | assumption) ?_; rfl))))); (· rfl); (· exact pkA); (· rfl))
    | refine TC.block ?_ | refine TC.ret ?_ | refine TC.skip ?_ | refine TC.exit ?_
    | ((with_reducible apply TC.cond_true); (· rfl)) | ((with_reducible apply TC.cond_false); (· rfl)) | refine TC.cond_ky rfl kpA ?_ | refine TC.cond_kn rfl kpA ?_ | refine TC.cond_nky rfl kpA ?_ | refine TC.cond_nkn rfl kpA ?_ | refine TC.cond_eq0 rfl (fun _ => ?_) (fun _ => ?_) | refine TC.cond_neq0 rfl (fun _ => ?_) (fun _ => ?_) | refine TC.cond_eq rfl (fun _ => ?_) (fun _ => ?_) | refine TC.cond_neq rfl (fun _ => ?_) (fun _ => ?_) | refine TC.cond_not rfl (fun _ => ?_) (fun _ => ?_) | refine TC.cond_dec rfl (fun _ => ?_) (fun _ => ?_) | refine TC.cond_bool rfl (fun _ => ?_) (fun _ => ?_)
    | refine TQ.then_ret ?_ | refine TQ.then_exit ?_ | refine TQ.then_panic ?_ | refine TQ.in_normal ?_ | refine TQ.in_ret ?_ | refine TQ.in_exit ?_ | refine TQ.in_exit' rfl ?_ | refine TQ.in_panic ?_
    | refine TQ.round_ret ?_ | refine TQ.round_exit ?_ | refine TQ.round_panic ?_ | refine TQ.cut_ret ?_ | refine TQ.cut_exit ?_ | refine TQ.cut_panic ?_
    | ((with_reducible apply TL.guard_yes); (· rfl); (· rfl)) | ((with_reducible apply TL.guard_no); (· rfl); (· rfl); (· rfl); (· rfl)) | ((with_reducible apply TL.guard_no0); (· rfl); (· rfl); (· rfl)) | ((with_reducible apply TL.guard_undef); (· rfl); (· rfl); (· rfl)) | ((with_reducible apply TL.guard_undef0); (· rfl); (· rfl))
    | refine TL.guard_ky rfl rfl kpA ?_ | refine TL.guard_kn rfl rfl kpA ?_ | refine TL.guard_nky rfl rfl kpA ?_ | refine TL.guard_nkn rfl rfl kpA ?_ | refine TL.guard_eq0 rfl rfl rfl (fun _ => ?_) (fun _ => ?_) | refine TL.guard_neq0 rfl rfl rfl (fun _ => ?_) (fun _ => ?_) | refine TL.guard_eq rfl rfl rfl (fun _ => ?_) (fun _ => ?_) | refine TL.guard_neq rfl rfl rfl (fun _ => ?_) (fun _ => ?_) | refine TL.guard_ndec rfl rfl rfl (fun _ => ?_) (fun _ => ?_) | refine TL.guard_dec rfl rfl rfl (fun _ => ?_) (fun _ => ?_) | refine TL.guard_split rfl rfl rfl (fun _ => ?_) (fun _ => ?_)
    | ((with_reducible apply TL.alloc_ag); (· rfl); intro _) | ((with_reducible apply TL.alloc_sc); (· rfl); (· rfl); intro _) | ((with_reducible apply TL.box_ag); (· rfl); (· rfl); intro _) | ((with_reducible apply TL.box_sc); (· rfl); (· rfl); (· rfl); intro _))
          refine TQ.less hg13 ?_
          refine TQ.endR1 (L' := []) Tryd.results5 (by first | exact RVal.tmp rfl | exact RVal.cells rfl pkA (by rfl) | exact RVal.cell rfl pkA rfl) rfl (.refl _) ?_ (by repeat (first | exact Sel.refl | exact Sel.nil | apply Sel.cons (by (repeat (first | exact Pick.here | apply Pick.there))) | apply Sel.drop))
          exact ⟨rfl, rfl, rfl⟩
        by_cases q0 : 0 < q
        · clear hc
          repeat' (first
    | ((with_reducible apply TL.pure (d := 92) (v := .int .i64 (-p))); (· exact Y.neg rfl ZN.out); (· rfl)) | ((with_reducible apply TW.pure (d := 92) (v := .int .i64 (-p))); (· exact Y.neg rfl ZN.out); (· rfl))
    | ((with_reducible apply TL.pure); (· exact yV); (· rfl)) | ((with_reducible apply TW.pure); (· exact yV); (· rfl))
    | ((with_reducible apply TL.gives_plain); (· kernel_rfl); (· rfl); (· exact C4 _); (· rfl)) | ((with_reducible apply TW.gives_plain); (· kernel_rfl); (· rfl); (· exact C4 _); (· rfl))
    | ((with_reducible apply TL.gives_plain); (· kernel_rfl); (· rfl); (· exact M1 _); (· rfl)) | ((with_reducible apply TW.gives_plain); (· kernel_rfl); (· rfl); (· exact M1 _); (· rfl))
    | ((with_reducible apply TL.gives_plain); (· kernel_rfl); (· rfl); (· exact M2 _); (· rfl)) | ((with_reducible apply TW.gives_plain); (· kernel_rfl); (· rfl); (· exact M2 _); (· rfl))
    | ((with_reducible apply TL.gives_plain); (· kernel_rfl); (· rfl); (· exact M3 _); (· rfl)) | ((with_reducible apply TW.gives_plain); (· kernel_rfl); (· rfl); (· exact M3 _); (· rfl))
    | ((with_reducible apply TL.gives_plain); (· kernel_rfl); (· rfl); (· exact AW _); (· rfl)) | ((with_reducible apply TW.gives_plain); (· kernel_rfl); (· rfl); (· exact AW _); (· rfl))
    | ((with_reducible apply TL.pure); (· exact yA); (· rfl))
    | refine TC.seq ?_ | refine TC.region ?_ | refine TL.nil ?_ | refine TQ.then_normal ?_
    | ((with_reducible apply TL.storeE); (· rfl); (· rfl); (· rfl); (· exact pkA); (· infer_instance)) | ((with_reducible apply TL.store_whole); (· rfl); (· rfl); (· first | rfl | (first | rfl | ((try simp only [List.set_cons_zero, List.set_cons_succ]); refine all1 (by first | rfl | assumption) ?_; first | rfl | (refine all1 (by first | rfl | assumption) ?_; first | rfl | (refine all1 (by first | rfl | assumption) ?_; rfl))))); (· rfl); (· exact pkA); (· rfl))
    | refine TC.block ?_ | refine TC.ret ?_ | refine TC.skip ?_ | refine TC.exit ?_
    | ((with_reducible apply TC.cond_true); (· rfl)) | ((with_reducible apply TC.cond_false); (· rfl)) | refine TC.cond_ky rfl kpA ?_ | refine TC.cond_kn rfl kpA ?_ | refine TC.cond_nky rfl kpA ?_ | refine TC.cond_nkn rfl kpA ?_ | refine TC.cond_eq0 rfl (fun _ => ?_) (fun _ => ?_) | refine TC.cond_neq0 rfl (fun _ => ?_) (fun _ => ?_) | refine TC.cond_eq rfl (fun _ => ?_) (fun _ => ?_) | refine TC.cond_neq rfl (fun _ => ?_) (fun _ => ?_) | refine TC.cond_not rfl (fun _ => ?_) (fun _ => ?_) | refine TC.cond_dec rfl (fun _ => ?_) (fun _ => ?_) | refine TC.cond_bool rfl (fun _ => ?_) (fun _ => ?_)
    | refine TQ.then_ret ?_ | refine TQ.then_exit ?_ | refine TQ.then_panic ?_ | refine TQ.in_normal ?_ | refine TQ.in_ret ?_ | refine TQ.in_exit ?_ | refine TQ.in_exit' rfl ?_ | refine TQ.in_panic ?_
    | refine TQ.round_ret ?_ | refine TQ.round_exit ?_ | refine TQ.round_panic ?_ | refine TQ.cut_ret ?_ | refine TQ.cut_exit ?_ | refine TQ.cut_panic ?_
    | ((with_reducible apply TL.guard_yes); (· rfl); (· rfl)) | ((with_reducible apply TL.guard_no); (· rfl); (· rfl); (· rfl); (· rfl)) | ((with_reducible apply TL.guard_no0); (· rfl); (· rfl); (· rfl)) | ((with_reducible apply TL.guard_undef); (· rfl); (· rfl); (· rfl)) | ((with_reducible apply TL.guard_undef0); (· rfl); (· rfl))
    | refine TL.guard_ky rfl rfl kpA ?_ | refine TL.guard_kn rfl rfl kpA ?_ | refine TL.guard_nky rfl rfl kpA ?_ | refine TL.guard_nkn rfl rfl kpA ?_ | refine TL.guard_eq0 rfl rfl rfl (fun _ => ?_) (fun _ => ?_) | refine TL.guard_neq0 rfl rfl rfl (fun _ => ?_) (fun _ => ?_) | refine TL.guard_eq rfl rfl rfl (fun _ => ?_) (fun _ => ?_) | refine TL.guard_neq rfl rfl rfl (fun _ => ?_) (fun _ => ?_) | refine TL.guard_ndec rfl rfl rfl (fun _ => ?_) (fun _ => ?_) | refine TL.guard_dec rfl rfl rfl (fun _ => ?_) (fun _ => ?_) | refine TL.guard_split rfl rfl rfl (fun _ => ?_) (fun _ => ?_)
    | ((with_reducible apply TL.alloc_ag); (· rfl); intro _) | ((with_reducible apply TL.alloc_sc); (· rfl); (· rfl); intro _) | ((with_reducible apply TL.box_ag); (· rfl); (· rfl); intro _) | ((with_reducible apply TL.box_sc); (· rfl); (· rfl); (· rfl); intro _))
          refine TQ.less hg13 ?_
          refine TQ.endR1 (L' := []) Tryd.results5 (by first | exact RVal.tmp rfl | exact RVal.cells rfl pkA (by rfl) | exact RVal.cell rfl pkA rfl) rfl (.refl _) ?_ (by repeat (first | exact Sel.refl | exact Sel.nil | apply Sel.cons (by (repeat (first | exact Pick.here | apply Pick.there))) | apply Sel.drop))
          exact ⟨rfl, rfl, rfl⟩
        · have r0 : r ≤ 0 := by omega
          clear hc
          repeat' (first
    | ((with_reducible apply TL.pure (d := 92) (v := .int .i64 (-p))); (· exact Y.neg rfl ZN.out); (· rfl)) | ((with_reducible apply TW.pure (d := 92) (v := .int .i64 (-p))); (· exact Y.neg rfl ZN.out); (· rfl))
    | ((with_reducible apply TL.pure); (· exact yV); (· rfl)) | ((with_reducible apply TW.pure); (· exact yV); (· rfl))
    | ((with_reducible apply TL.gives_plain); (· kernel_rfl); (· rfl); (· exact C4 _); (· rfl)) | ((with_reducible apply TW.gives_plain); (· kernel_rfl); (· rfl); (· exact C4 _); (· rfl))
    | ((with_reducible apply TL.gives_plain); (· kernel_rfl); (· rfl); (· exact M1 _); (· rfl)) | ((with_reducible apply TW.gives_plain); (· kernel_rfl); (· rfl); (· exact M1 _); (· rfl))
    | ((with_reducible apply TL.gives_plain); (· kernel_rfl); (· rfl); (· exact M2 _); (· rfl)) | ((with_reducible apply TW.gives_plain); (· kernel_rfl); (· rfl); (· exact M2 _); (· rfl))
    | ((with_reducible apply TL.gives_plain); (· kernel_rfl); (· rfl); (· exact M3 _); (· rfl)) | ((with_reducible apply TW.gives_plain); (· kernel_rfl); (· rfl); (· exact M3 _); (· rfl))
    | ((with_reducible apply TL.gives_plain); (· kernel_rfl); (· rfl); (· exact AW _); (· rfl)) | ((with_reducible apply TW.gives_plain); (· kernel_rfl); (· rfl); (· exact AW _); (· rfl))
    | ((with_reducible apply TL.pure); (· exact yA); (· rfl))
    | refine TC.seq ?_ | refine TC.region ?_ | refine TL.nil ?_ | refine TQ.then_normal ?_
    | ((with_reducible apply TL.storeE); (· rfl); (· rfl); (· rfl); (· exact pkA); (· infer_instance)) | ((with_reducible apply TL.store_whole); (· rfl); (· rfl); (· first | rfl | (first | rfl | ((try simp only [List.set_cons_zero, List.set_cons_succ]); refine all1 (by first | rfl | assumption) ?_; first | rfl | (refine all1 (by first | rfl | assumption) ?_; first | rfl | (refine all1 (by first | rfl | assumption) ?_; rfl))))); (· rfl); (· exact pkA); (· rfl))
    | refine TC.block ?_ | refine TC.ret ?_ | refine TC.skip ?_ | refine TC.exit ?_
    | ((with_reducible apply TC.cond_true); (· rfl)) | ((with_reducible apply TC.cond_false); (· rfl)) | refine TC.cond_ky rfl kpA ?_ | refine TC.cond_kn rfl kpA ?_ | refine TC.cond_nky rfl kpA ?_ | refine TC.cond_nkn rfl kpA ?_ | refine TC.cond_eq0 rfl (fun _ => ?_) (fun _ => ?_) | refine TC.cond_neq0 rfl (fun _ => ?_) (fun _ => ?_) | refine TC.cond_eq rfl (fun _ => ?_) (fun _ => ?_) | refine TC.cond_neq rfl (fun _ => ?_) (fun _ => ?_) | refine TC.cond_not rfl (fun _ => ?_) (fun _ => ?_) | refine TC.cond_dec rfl (fun _ => ?_) (fun _ => ?_) | refine TC.cond_bool rfl (fun _ => ?_) (fun _ => ?_)
    | refine TQ.then_ret ?_ | refine TQ.then_exit ?_ | refine TQ.then_panic ?_ | refine TQ.in_normal ?_ | refine TQ.in_ret ?_ | refine TQ.in_exit ?_ | refine TQ.in_exit' rfl ?_ | refine TQ.in_panic ?_
    | refine TQ.round_ret ?_ | refine TQ.round_exit ?_ | refine TQ.round_panic ?_ | refine TQ.cut_ret ?_ | refine TQ.cut_exit ?_ | refine TQ.cut_panic ?_
    | ((with_reducible apply TL.guard_yes); (· rfl); (· rfl)) | ((with_reducible apply TL.guard_no); (· rfl); (· rfl); (· rfl); (· rfl)) | ((with_reducible apply TL.guard_no0); (· rfl); (· rfl); (· rfl)) | ((with_reducible apply TL.guard_undef); (· rfl); (· rfl); (· rfl)) | ((with_reducible apply TL.guard_undef0); (· rfl); (· rfl))
    | refine TL.guard_ky rfl rfl kpA ?_ | refine TL.guard_kn rfl rfl kpA ?_ | refine TL.guard_nky rfl rfl kpA ?_ | refine TL.guard_nkn rfl rfl kpA ?_ | refine TL.guard_eq0 rfl rfl rfl (fun _ => ?_) (fun _ => ?_) | refine TL.guard_neq0 rfl rfl rfl (fun _ => ?_) (fun _ => ?_) | refine TL.guard_eq rfl rfl rfl (fun _ => ?_) (fun _ => ?_) | refine TL.guard_neq rfl rfl rfl (fun _ => ?_) (fun _ => ?_) | refine TL.guard_ndec rfl rfl rfl (fun _ => ?_) (fun _ => ?_) | refine TL.guard_dec rfl rfl rfl (fun _ => ?_) (fun _ => ?_) | refine TL.guard_split rfl rfl rfl (fun _ => ?_) (fun _ => ?_)
    | ((with_reducible apply TL.alloc_ag); (· rfl); intro _) | ((with_reducible apply TL.alloc_sc); (· rfl); (· rfl); intro _) | ((with_reducible apply TL.box_ag); (· rfl); (· rfl); intro _) | ((with_reducible apply TL.box_sc); (· rfl); (· rfl); (· rfl); intro _))
          refine TQ.less hg13 ?_
          refine TQ.endR1 (L' := []) Tryd.results5 (by first | exact RVal.tmp rfl | exact RVal.cells rfl pkA (by rfl) | exact RVal.cell rfl pkA rfl) rfl (.refl _) ?_ (by repeat (first | exact Sel.refl | exact Sel.nil | apply Sel.cons (by (repeat (first | exact Pick.here | apply Pick.there))) | apply Sel.drop))
          exact ⟨rfl, rfl, rfl⟩
      · have n12 : errV x y = 0 := by rw [e12, m1, m2]; rfl
        have n23 : Hn (¬ ((errV y z : Nat) : Int) = 0) := ⟨by rw [e23, if_neg (by omega)]; omega⟩
        rw [n12]
        rw [m1] at M1
        rw [m2] at M2
        have n3 : Hn (¬ ((mayV z 0 : Nat) : Int) = 0) := ⟨by omega⟩
        clear hp hq hr ht ht0 ha0 hbd e12 e23 e13 e21
        generalize errV y z = k23 at *
        generalize mayV z 0 = k3 at *
        repeat' (first
    | ((with_reducible apply TL.pure); (· exact yV); (· rfl)) | ((with_reducible apply TW.pure); (· exact yV); (· rfl))
    | ((with_reducible apply TL.gives_plain); (· kernel_rfl); (· rfl); (· exact C4 _); (· rfl)) | ((with_reducible apply TW.gives_plain); (· kernel_rfl); (· rfl); (· exact C4 _); (· rfl))
    | ((with_reducible apply TL.gives_plain); (· kernel_rfl); (· rfl); (· exact M1 _); (· rfl)) | ((with_reducible apply TW.gives_plain); (· kernel_rfl); (· rfl); (· exact M1 _); (· rfl))
    | ((with_reducible apply TL.gives_plain); (· kernel_rfl); (· rfl); (· exact M2 _); (· rfl)) | ((with_reducible apply TW.gives_plain); (· kernel_rfl); (· rfl); (· exact M2 _); (· rfl))
    | ((with_reducible apply TL.gives_plain); (· kernel_rfl); (· rfl); (· exact M3 _); (· rfl)) | ((with_reducible apply TW.gives_plain); (· kernel_rfl); (· rfl); (· exact M3 _); (· rfl))
    | ((with_reducible apply TL.gives_plain); (· kernel_rfl); (· rfl); (· exact AW _); (· rfl)) | ((with_reducible apply TW.gives_plain); (· kernel_rfl); (· rfl); (· exact AW _); (· rfl))
    | ((with_reducible apply TL.pure); (· exact yA); (· rfl))
    | refine TC.seq ?_ | refine TC.region ?_ | refine TL.nil ?_ | refine TQ.then_normal ?_
    | ((with_reducible apply TL.storeE); (· rfl); (· rfl); (· rfl); (· exact pkA); (· infer_instance)) | ((with_reducible apply TL.store_whole); (· rfl); (· rfl); (· first | rfl | (first | rfl | ((try simp only [List.set_cons_zero, List.set_cons_succ]); refine all1 (by first | rfl | assumption) ?_; first | rfl | (refine all1 (by first | rfl | assumption) ?_; first | rfl | (refine all1 (by first | rfl | assumption) ?_; rfl))))); (· rfl); (· exact pkA); (· rfl))
    | refine TC.block ?_ | refine TC.ret ?_ | refine TC.skip ?_ | refine TC.exit ?_
    | ((with_reducible apply TC.cond_true); (· rfl)) | ((with_reducible apply TC.cond_false); (· rfl)) | refine TC.cond_ky rfl kpA ?_ | refine TC.cond_kn rfl kpA ?_ | refine TC.cond_nky rfl kpA ?_ | refine TC.cond_nkn rfl kpA ?_ | refine TC.cond_eq0 rfl (fun _ => ?_) (fun _ => ?_) | refine TC.cond_neq0 rfl (fun _ => ?_) (fun _ => ?_) | refine TC.cond_eq rfl (fun _ => ?_) (fun _ => ?_) | refine TC.cond_neq rfl (fun _ => ?_) (fun _ => ?_) | refine TC.cond_not rfl (fun _ => ?_) (fun _ => ?_) | refine TC.cond_dec rfl (fun _ => ?_) (fun _ => ?_) | refine TC.cond_bool rfl (fun _ => ?_) (fun _ => ?_)
    | refine TQ.then_ret ?_ | refine TQ.then_exit ?_ | refine TQ.then_panic ?_ | refine TQ.in_normal ?_ | refine TQ.in_ret ?_ | refine TQ.in_exit ?_ | refine TQ.in_exit' rfl ?_ | refine TQ.in_panic ?_
    | refine TQ.round_ret ?_ | refine TQ.round_exit ?_ | refine TQ.round_panic ?_ | refine TQ.cut_ret ?_ | refine TQ.cut_exit ?_ | refine TQ.cut_panic ?_
    | ((with_reducible apply TL.guard_yes); (· rfl); (· rfl)) | ((with_reducible apply TL.guard_no); (· rfl); (· rfl); (· rfl); (· rfl)) | ((with_reducible apply TL.guard_no0); (· rfl); (· rfl); (· rfl)) | ((with_reducible apply TL.guard_undef); (· rfl); (· rfl); (· rfl)) | ((with_reducible apply TL.guard_undef0); (· rfl); (· rfl))
    | refine TL.guard_ky rfl rfl kpA ?_ | refine TL.guard_kn rfl rfl kpA ?_ | refine TL.guard_nky rfl rfl kpA ?_ | refine TL.guard_nkn rfl rfl kpA ?_ | refine TL.guard_eq0 rfl rfl rfl (fun _ => ?_) (fun _ => ?_) | refine TL.guard_neq0 rfl rfl rfl (fun _ => ?_) (fun _ => ?_) | refine TL.guard_eq rfl rfl rfl (fun _ => ?_) (fun _ => ?_) | refine TL.guard_neq rfl rfl rfl (fun _ => ?_) (fun _ => ?_) | refine TL.guard_ndec rfl rfl rfl (fun _ => ?_) (fun _ => ?_) | refine TL.guard_dec rfl rfl rfl (fun _ => ?_) (fun _ => ?_) | refine TL.guard_split rfl rfl rfl (fun _ => ?_) (fun _ => ?_)
    | ((with_reducible apply TL.alloc_ag); (· rfl); intro _) | ((with_reducible apply TL.alloc_sc); (· rfl); (· rfl); intro _) | ((with_reducible apply TL.box_ag); (· rfl); (· rfl); intro _) | ((with_reducible apply TL.box_sc); (· rfl); (· rfl); (· rfl); intro _))
        refine TQ.less hg13 ?_
        refine TQ.endR1 (L' := []) Tryd.results5 (by first | exact RVal.tmp rfl | exact RVal.cells rfl pkA (by rfl) | exact RVal.cell rfl pkA rfl) rfl (.refl _) ?_ (by repeat (first | exact Sel.refl | exact Sel.nil | apply Sel.cons (by (repeat (first | exact Pick.here | apply Pick.there))) | apply Sel.drop))
        exact ⟨rfl, rfl, rfl⟩
    · have n12 : Hn (¬ ((errV x y : Nat) : Int) = 0) := ⟨by rw [e12, if_neg (by omega)]; omega⟩
      rw [m1] at M1
      have n2 : Hn (¬ ((mayV y 0 : Nat) : Int) = 0) := ⟨by omega⟩
      clear hp hq hr ht ht0 ha0 hbd e12 e23 e13 e21
      generalize errV x y = k12 at *
      generalize mayV y 0 = k2 at *
      repeat' (first
    | ((with_reducible apply TL.pure); (· exact yV); (· rfl)) | ((with_reducible apply TW.pure); (· exact yV); (· rfl))
    | ((with_reducible apply TL.gives_plain); (· kernel_rfl); (· rfl); (· exact C4 _); (· rfl)) | ((with_reducible apply TW.gives_plain); (· kernel_rfl); (· rfl); (· exact C4 _); (· rfl))
    | ((with_reducible apply TL.gives_plain); (· kernel_rfl); (· rfl); (· exact M1 _); (· rfl)) | ((with_reducible apply TW.gives_plain); (· kernel_rfl); (· rfl); (· exact M1 _); (· rfl))
    | ((with_reducible apply TL.gives_plain); (· kernel_rfl); (· rfl); (· exact M2 _); (· rfl)) | ((with_reducible apply TW.gives_plain); (· kernel_rfl); (· rfl); (· exact M2 _); (· rfl))
    | ((with_reducible apply TL.gives_plain); (· kernel_rfl); (· rfl); (· exact M3 _); (· rfl)) | ((with_reducible apply TW.gives_plain); (· kernel_rfl); (· rfl); (· exact M3 _); (· rfl))
    | ((with_reducible apply TL.gives_plain); (· kernel_rfl); (· rfl); (· exact AW _); (· rfl)) | ((with_reducible apply TW.gives_plain); (· kernel_rfl); (· rfl); (· exact AW _); (· rfl))
    | ((with_reducible apply TL.pure); (· exact yA); (· rfl))
    | refine TC.seq ?_ | refine TC.region ?_ | refine TL.nil ?_ | refine TQ.then_normal ?_
    | ((with_reducible apply TL.storeE); (· rfl); (· rfl); (· rfl); (· exact pkA); (· infer_instance)) | ((with_reducible apply TL.store_whole); (· rfl); (· rfl); (· first | rfl | (first | rfl | ((try simp only [List.set_cons_zero, List.set_cons_succ]); refine all1 (by first | rfl | assumption) ?_; first | rfl | (refine all1 (by first | rfl | assumption) ?_; first | rfl | (refine all1 (by first | rfl | assumption) ?_; rfl))))); (· rfl); (· exact pkA); (· rfl))
    | refine TC.block ?_ | refine TC.ret ?_ | refine TC.skip ?_ | refine TC.exit ?_
    | ((with_reducible apply TC.cond_true); (· rfl)) | ((with_reducible apply TC.cond_false); (· rfl)) | refine TC.cond_ky rfl kpA ?_ | refine TC.cond_kn rfl kpA ?_ | refine TC.cond_nky rfl kpA ?_ | refine TC.cond_nkn rfl kpA ?_ | refine TC.cond_eq0 rfl (fun _ => ?_) (fun _ => ?_) | refine TC.cond_neq0 rfl (fun _ => ?_) (fun _ => ?_) | refine TC.cond_eq rfl (fun _ => ?_) (fun _ => ?_) | refine TC.cond_neq rfl (fun _ => ?_) (fun _ => ?_) | refine TC.cond_not rfl (fun _ => ?_) (fun _ => ?_) | refine TC.cond_dec rfl (fun _ => ?_) (fun _ => ?_) | refine TC.cond_bool rfl (fun _ => ?_) (fun _ => ?_)
    | refine TQ.then_ret ?_ | refine TQ.then_exit ?_ | refine TQ.then_panic ?_ | refine TQ.in_normal ?_ | refine TQ.in_ret ?_ | refine TQ.in_exit ?_ | refine TQ.in_exit' rfl ?_ | refine TQ.in_panic ?_
    | refine TQ.round_ret ?_ | refine TQ.round_exit ?_ | refine TQ.round_panic ?_ | refine TQ.cut_ret ?_ | refine TQ.cut_exit ?_ | refine TQ.cut_panic ?_
    | ((with_reducible apply TL.guard_yes); (· rfl); (· rfl)) | ((with_reducible apply TL.guard_no); (· rfl); (· rfl); (· rfl); (· rfl)) | ((with_reducible apply TL.guard_no0); (· rfl); (· rfl); (· rfl)) | ((with_reducible apply TL.guard_undef); (· rfl); (· rfl); (· rfl)) | ((with_reducible apply TL.guard_undef0); (· rfl); (· rfl))
    | refine TL.guard_ky rfl rfl kpA ?_ | refine TL.guard_kn rfl rfl kpA ?_ | refine TL.guard_nky rfl rfl kpA ?_ | refine TL.guard_nkn rfl rfl kpA ?_ | refine TL.guard_eq0 rfl rfl rfl (fun _ => ?_) (fun _ => ?_) | refine TL.guard_neq0 rfl rfl rfl (fun _ => ?_) (fun _ => ?_) | refine TL.guard_eq rfl rfl rfl (fun _ => ?_) (fun _ => ?_) | refine TL.guard_neq rfl rfl rfl (fun _ => ?_) (fun _ => ?_) | refine TL.guard_ndec rfl rfl rfl (fun _ => ?_) (fun _ => ?_) | refine TL.guard_dec rfl rfl rfl (fun _ => ?_) (fun _ => ?_) | refine TL.guard_split rfl rfl rfl (fun _ => ?_) (fun _ => ?_)
    | ((with_reducible apply TL.alloc_ag); (· rfl); intro _) | ((with_reducible apply TL.alloc_sc); (· rfl); (· rfl); intro _) | ((with_reducible apply TL.box_ag); (· rfl); (· rfl); intro _) | ((with_reducible apply TL.box_sc); (· rfl); (· rfl); (· rfl); intro _))
      refine TQ.less hg13 ?_
      refine TQ.endR1 (L' := []) Tryd.results5 (by first | exact RVal.tmp rfl | exact RVal.cells rfl pkA (by rfl) | exact RVal.cell rfl pkA rfl) rfl (.refl _) ?_ (by repeat (first | exact Sel.refl | exact Sel.nil | apply Sel.cons (by (repeat (first | exact Pick.here | apply Pick.there))) | apply Sel.drop))
      exact ⟨rfl, rfl, rfl⟩
  · have n12 : Hn (¬ ((errV x y : Nat) : Int) = 0) := ⟨by rw [e12, if_pos (by omega)]; omega⟩
    have n1 : Hn (¬ ((mayV x 0 : Nat) : Int) = 0) := ⟨by omega⟩
    clear hp hq hr ht ht0 ha0 hbd e12 e23 e13 e21
    generalize errV x y = k12 at *
    generalize mayV x 0 = k1 at *
    repeat' (first
    | ((with_reducible apply TL.pure); (· exact yV); (· rfl)) | ((with_reducible apply TW.pure); (· exact yV); (· rfl))
    | ((with_reducible apply TL.gives_plain); (· kernel_rfl); (· rfl); (· exact C4 _); (· rfl)) | ((with_reducible apply TW.gives_plain); (· kernel_rfl); (· rfl); (· exact C4 _); (· rfl))
    | ((with_reducible apply TL.gives_plain); (· kernel_rfl); (· rfl); (· exact M1 _); (· rfl)) | ((with_reducible apply TW.gives_plain); (· kernel_rfl); (· rfl); (· exact M1 _); (· rfl))
    | ((with_reducible apply TL.gives_plain); (· kernel_rfl); (· rfl); (· exact M2 _); (· rfl)) | ((with_reducible apply TW.gives_plain); (· kernel_rfl); (· rfl); (· exact M2 _); (· rfl))
    | ((with_reducible apply TL.gives_plain); (· kernel_rfl); (· rfl); (· exact M3 _); (· rfl)) | ((with_reducible apply TW.gives_plain); (· kernel_rfl); (· rfl); (· exact M3 _); (· rfl))
    | ((with_reducible apply TL.gives_plain); (· kernel_rfl); (· rfl); (· exact AW _); (· rfl)) | ((with_reducible apply TW.gives_plain); (· kernel_rfl); (· rfl); (· exact AW _); (· rfl))
    | ((with_reducible apply TL.pure); (· exact yA); (· rfl))
    | refine TC.seq ?_ | refine TC.region ?_ | refine TL.nil ?_ | refine TQ.then_normal ?_
    | ((with_reducible apply TL.storeE); (· rfl); (· rfl); (· rfl); (· exact pkA); (· infer_instance)) | ((with_reducible apply TL.store_whole); (· rfl); (· rfl); (· first | rfl | (first | rfl | ((try simp only [List.set_cons_zero, List.set_cons_succ]); refine all1 (by first | rfl | assumption) ?_; first | rfl | (refine all1 (by first | rfl | assumption) ?_; first | rfl | (refine all1 (by first | rfl | assumption) ?_; rfl))))); (· rfl); (· exact pkA); (· rfl))
    | refine TC.block ?_ | refine TC.ret ?_ | refine TC.skip ?_ | refine TC.exit ?_
    | ((with_reducible apply TC.cond_true); (· rfl)) | ((with_reducible apply TC.cond_false); (· rfl)) | refine TC.cond_ky rfl kpA ?_ | refine TC.cond_kn rfl kpA ?_ | refine TC.cond_nky rfl kpA ?_ | refine TC.cond_nkn rfl kpA ?_ | refine TC.cond_eq0 rfl (fun _ => ?_) (fun _ => ?_) | refine TC.cond_neq0 rfl (fun _ => ?_) (fun _ => ?_) | refine TC.cond_eq rfl (fun _ => ?_) (fun _ => ?_) | refine TC.cond_neq rfl (fun _ => ?_) (fun _ => ?_) | refine TC.cond_not rfl (fun _ => ?_) (fun _ => ?_) | refine TC.cond_dec rfl (fun _ => ?_) (fun _ => ?_) | refine TC.cond_bool rfl (fun _ => ?_) (fun _ => ?_)
    | refine TQ.then_ret ?_ | refine TQ.then_exit ?_ | refine TQ.then_panic ?_ | refine TQ.in_normal ?_ | refine TQ.in_ret ?_ | refine TQ.in_exit ?_ | refine TQ.in_exit' rfl ?_ | refine TQ.in_panic ?_
    | refine TQ.round_ret ?_ | refine TQ.round_exit ?_ | refine TQ.round_panic ?_ | refine TQ.cut_ret ?_ | refine TQ.cut_exit ?_ | refine TQ.cut_panic ?_
    | ((with_reducible apply TL.guard_yes); (· rfl); (· rfl)) | ((with_reducible apply TL.guard_no); (· rfl); (· rfl); (· rfl); (· rfl)) | ((with_reducible apply TL.guard_no0); (· rfl); (· rfl); (· rfl)) | ((with_reducible apply TL.guard_undef); (· rfl); (· rfl); (· rfl)) | ((with_reducible apply TL.guard_undef0); (· rfl); (· rfl))
    | refine TL.guard_ky rfl rfl kpA ?_ | refine TL.guard_kn rfl rfl kpA ?_ | refine TL.guard_nky rfl rfl kpA ?_ | refine TL.guard_nkn rfl rfl kpA ?_ | refine TL.guard_eq0 rfl rfl rfl (fun _ => ?_) (fun _ => ?_) | refine TL.guard_neq0 rfl rfl rfl (fun _ => ?_) (fun _ => ?_) | refine TL.guard_eq rfl rfl rfl (fun _ => ?_) (fun _ => ?_) | refine TL.guard_neq rfl rfl rfl (fun _ => ?_) (fun _ => ?_) | refine TL.guard_ndec rfl rfl rfl (fun _ => ?_) (fun _ => ?_) | refine TL.guard_dec rfl rfl rfl (fun _ => ?_) (fun _ => ?_) | refine TL.guard_split rfl rfl rfl (fun _ => ?_) (fun _ => ?_)
    | ((with_reducible apply TL.alloc_ag); (· rfl); intro _) | ((with_reducible apply TL.alloc_sc); (· rfl); (· rfl); intro _) | ((with_reducible apply TL.box_ag); (· rfl); (· rfl); intro _) | ((with_reducible apply TL.box_sc); (· rfl); (· rfl); (· rfl); intro _))
    refine TQ.less hg13 ?_
    refine TQ.endR1 (L' := []) Tryd.results5 (by first | exact RVal.tmp rfl | exact RVal.cells rfl pkA (by rfl) | exact RVal.cell rfl pkA rfl) rfl (.refl _) ?_ (by repeat (first | exact Sel.refl | exact Sel.nil | apply Sel.cons (by (repeat (first | exact Pick.here | apply Pick.there))) | apply Sel.drop))
    exact ⟨rfl, rfl, rfl⟩
end Go.Proofs.YthifckfpjmhmjaaDoor
