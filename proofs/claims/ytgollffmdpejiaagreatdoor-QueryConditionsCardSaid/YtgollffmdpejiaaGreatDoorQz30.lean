/-
  The walk of shape's read: points, lines.
-/
import Derived.Test.YtgollffmdpejiaaGreatDoorQz3
import Derived.Test.YtgollffmdpejiaaGreatDoorQz29
namespace Go.Proofs.YtgollffmdpejiaaGreatDoor
open Go.RowKit Go.TL
set_option maxRecDepth 100000

theorem kindS_text {o : Option J} {k : Int} (h : kindS o = k) (hk : k ≠ -1) : ∃ t, o = some (.text t) ∧ idxL t kindsB 0 = k := by
  cases o with
  | none => exact absurd h.symm hk
  | some y =>
    cases y with
    | text t => exact ⟨t, rfl, h⟩
    | _ => exact absurd h.symm hk
set_option maxHeartbeats 32000000 in
theorem sread_point (ns : List (List UInt8)) (xs : List J) (w : J) (v : Value) (g : Gh) (L : List Ent) (hv : IsJ g (.obj ns xs) v) (hs : smJ (.obj ns xs)) (hx : xs.length = 2) (hc : fieldJ (.obj ns xs) coordB = some w) (hk : kindS (fieldJ (.obj ns xs) typeB) = 0) : Does Tryz.prog 253 #[v] g L (ReadR (readJ (.obj ns xs)) L) := by
  refine Does.of1 Tryz.func253 rfl Tryz.ntmps253 rfl ?_
  have NO := fun g L => sneed_no g L
  have NY := fun g L => sneed_yes g L
  have NA := fun g L => snames_gives g L
  obtain ⟨v1, b1, F1, o1, m1⟩ := field_gives (.obj ns xs) v g typeB hv hs
  obtain ⟨v2, b2, F2, o2, m2⟩ := field_gives (.obj ns xs) v g coordB hv hs
  rw [readJ_some hx hc, hk, shapeJ, if_pos rfl]
  obtain ⟨t, ht, hk⟩ := kindS_text hk (by decide)
  rw [ht] at m1
  rw [hc] at m2
  obtain ⟨rfl, hy⟩ := m1
  obtain ⟨rfl, hw⟩ := m2
  rw [IsJ] at hv
  replace hy : IsJ g (.text t) v1 := hy
  rw [IsJ] at hy
  subst hy
  obtain ⟨sl, fl, rfl, hS, _⟩ := hv
  obtain ⟨a, c, rfl⟩ := hS.slice
  have bl : decide (((xs.length : Nat) : Int) = 2) = true := decide_eq_true (by omega)
  have IX : ∀ g1 v, Sl g1 v 3 1 (strs kindsB) → ∀ L, Gives Tryz.prog 251 #[v, str t] g1 L (.int .i64 0) := fun g1 v h L => by
    have := indexS_gives kindsB t v g1 L h (by decide)
    rw [hk] at this; exact this
  clear hS hs hc hk ht
  cases hp : placeJ w with
  | none =>
    have PN := fun g1 (h : g.le g1) L => splace_no hp v2 g1 L (hw.le h _ _)
    clear hw
    rw [Option.map_none, okS]
    repeat' (first
    | refine wkQ ?_
    | (refine wkA 23 (v := .bool true) ?_ ?_; · exact Y.eql_b bl rfl rfl)
    | refine wkV ?_
    | ((with_reducible apply TL.slice_keep); (· rfl); (· exact pkA); (· rfl); (· decide); (· rfl); intro g1 hg1 SN)
    | ((with_reducible apply TL.storeK); (· rfl); (· rfl); (· exact rfl); (· exact pkA); (· exact Nat.le_of_ble_eq_true rfl))
    | refine wkD (F1 _) ?_
    | refine wkD (F2 _) ?_
    | refine wkD (NA _ _) ?_
    | refine wkD (IX _ _ SN _) ?_
    | refine wkD (NY _ _) ?_
    | refine TL.throws (Enters.plain (by kernel_rfl) (by rfl)) (PN _ (by assumption) _) (by rfl) ?_
    | refine stS ?_ | (refine stB ?_; intro _) | (refine stC ?_; constructor <;> intro _))
    refine TQ.end_panic (L' := L) rfl ((by assumption)) ?_ selF
    exact ⟨rfl, rfl⟩
  | some p =>
    have PY := fun g1 (h : g.le g1) L => splace_yes hp v2 g1 L (hw.le h _ _)
    clear hw
    have RI : ∀ (g2 g3 : Gh) (u v : Value), Sl g2 u 1 2 (flatP [p]) → g2.le g3 → Sl g3 v 1 1 [u] → ∀ L, Gives Tryz.prog 214 #[shV 0 v] g3 L (.bool (rightB 0 [[p]])) := fun g2 g3 u v h2 hg h3 L => sright_gives 0 [[p]] v g3 L (parts_one rfl h2 hg h3) (ok_one (by simp))
    rw [Option.map_some, okS]
    cases hr : rightB 0 [[p]] with
    | false =>
      rw [hr] at RI
      rw [if_neg (by decide)]
      repeat' (first
    | refine wkQ ?_
    | (refine wkA 23 (v := .bool true) ?_ ?_; · exact Y.eql_b bl rfl rfl)
    | refine wkV ?_
    | ((with_reducible apply TL.slice_keep); (· rfl); (· exact pkA); (· rfl); (· decide); (· rfl); intro g1 hg1 SN)
    | ((with_reducible apply TL.storeK); (· rfl); (· rfl); (· exact rfl); (· exact pkA); (· exact Nat.le_of_ble_eq_true rfl))
    | refine wkD (F1 _) ?_
    | refine wkD (F2 _) ?_
    | refine wkD (NA _ _) ?_
    | refine wkD (IX _ _ SN _) ?_
    | refine wkD (NY _ _) ?_
    | refine wkD (PY _ (by assumption) _) ?_
    | (refine TL.build_rows (d := 61) (len := 1) (sz := 2) [ptC p] (by rfl) (by rfl) (by rfl) (by rfl) (by rfl) (by rfl) (by rfl) (by rfl) (fun bb => ?_); refine TL.freeze_obj (k := 1) bb 2 .here rfl (by decide) ?_; rintro g2 hg2 s2)
    | (refine TL.build_slice (d := 62) (by rfl) (by rfl) (by exact oneA) (by rfl) (by rfl) (by rfl) (fun bb => ?_); refine TL.freeze_obj (k := 1) bb 1 .here rfl (by decide) ?_; rintro g3 hg3 s3; have RI1 := RI _ _ _ _ s2 hg3 s3)
    | refine wkD (RI1 _) ?_
    | refine TL.throws (Enters.plain (by kernel_rfl) (by rfl)) (NO _ _) (by rfl) ?_
    | refine stS ?_ | (refine stB ?_; intro _) | (refine stC ?_; constructor <;> intro _))
      refine TQ.end_panic (L' := L) rfl ((hg1.trans (hg2.trans hg3))) ?_ selF
      exact ⟨rfl, rfl⟩
    | true =>
      rw [hr] at RI
      rw [if_pos rfl]
      repeat' (first
    | refine wkQ ?_
    | (refine wkA 23 (v := .bool true) ?_ ?_; · exact Y.eql_b bl rfl rfl)
    | refine wkV ?_
    | ((with_reducible apply TL.slice_keep); (· rfl); (· exact pkA); (· rfl); (· decide); (· rfl); intro g1 hg1 SN)
    | ((with_reducible apply TL.storeK); (· rfl); (· rfl); (· exact rfl); (· exact pkA); (· exact Nat.le_of_ble_eq_true rfl))
    | refine wkD (F1 _) ?_
    | refine wkD (F2 _) ?_
    | refine wkD (NA _ _) ?_
    | refine wkD (IX _ _ SN _) ?_
    | refine wkD (NY _ _) ?_
    | refine wkD (PY _ (by assumption) _) ?_
    | (refine TL.build_rows (d := 61) (len := 1) (sz := 2) [ptC p] (by rfl) (by rfl) (by rfl) (by rfl) (by rfl) (by rfl) (by rfl) (by rfl) (fun bb => ?_); refine TL.freeze_obj (k := 1) bb 2 .here rfl (by decide) ?_; rintro g2 hg2 s2)
    | (refine TL.build_slice (d := 62) (by rfl) (by rfl) (by exact oneA) (by rfl) (by rfl) (by rfl) (fun bb => ?_); refine TL.freeze_obj (k := 1) bb 1 .here rfl (by decide) ?_; rintro g3 hg3 s3; have RI1 := RI _ _ _ _ s2 hg3 s3)
    | refine wkD (RI1 _) ?_
    | refine stS ?_ | (refine stB ?_; intro _) | (refine stC ?_; constructor <;> intro _))
      refine TQ.endR1 (L' := L) Tryz.results253 rvA rfl ((hg1.trans (hg2.trans hg3))) ?_ selF
      exact ⟨_, rfl, rfl, parts_one rfl s2 hg3 s3⟩
set_option maxHeartbeats 32000000 in
theorem sread_line (ns : List (List UInt8)) (xs : List J) (w : J) (v : Value) (g : Gh) (L : List Ent) (hv : IsJ g (.obj ns xs) v) (hs : smJ (.obj ns xs)) (hx : xs.length = 2) (hc : fieldJ (.obj ns xs) coordB = some w) (hk : kindS (fieldJ (.obj ns xs) typeB) = 1) : Does Tryz.prog 253 #[v] g L (ReadR (readJ (.obj ns xs)) L) := by
  refine Does.of1 Tryz.func253 rfl Tryz.ntmps253 rfl ?_
  have NO := fun g L => sneed_no g L
  have NY := fun g L => sneed_yes g L
  have NA := fun g L => snames_gives g L
  obtain ⟨v1, b1, F1, o1, m1⟩ := field_gives (.obj ns xs) v g typeB hv hs
  obtain ⟨v2, b2, F2, o2, m2⟩ := field_gives (.obj ns xs) v g coordB hv hs
  rw [readJ_some hx hc, hk, shapeJ, if_neg (by decide), if_pos rfl]
  obtain ⟨t, ht, hk⟩ := kindS_text hk (by decide)
  rw [ht] at m1
  rw [hc] at m2
  obtain ⟨rfl, hy⟩ := m1
  obtain ⟨rfl, hw⟩ := m2
  rw [IsJ] at hv
  replace hy : IsJ g (.text t) v1 := hy
  rw [IsJ] at hy
  subst hy
  obtain ⟨sl, fl, rfl, hS, _⟩ := hv
  obtain ⟨a, c, rfl⟩ := hS.slice
  have bl : decide (((xs.length : Nat) : Int) = 2) = true := decide_eq_true (by omega)
  have IX : ∀ g1 v, Sl g1 v 3 1 (strs kindsB) → ∀ L, Gives Tryz.prog 251 #[v, str t] g1 L (.int .i64 1) := fun g1 v h L => by
    have := indexS_gives kindsB t v g1 L h (by decide)
    rw [hk] at this; exact this
  clear hS hs hc hk ht
  have PS := fun g1 (h : g.le g1) L => splaces_does w v2 g1 L (hw.le h _ _)
  clear hw
  unfold PlacesR at PS
  cases hp : placesJ w with
  | none =>
    rw [hp] at PS
    rw [Option.map_none, okS]
    dsimp only at PS
    repeat' (first
    | refine wkQ ?_
    | (refine wkA 23 (v := .bool true) ?_ ?_; · exact Y.eql_b bl rfl rfl)
    | refine wkV ?_
    | ((with_reducible apply TL.slice_keep); (· rfl); (· exact pkA); (· rfl); (· decide); (· rfl); intro g1 hg1 SN)
    | ((with_reducible apply TL.storeK); (· rfl); (· rfl); (· exact rfl); (· exact pkA); (· exact Nat.le_of_ble_eq_true rfl))
    | refine wkD (F1 _) ?_
    | refine wkD (F2 _) ?_
    | refine wkD (NA _ _) ?_
    | refine wkD (IX _ _ SN _) ?_
    | refine wkD (NY _ _) ?_
    | (refine TL.call (Enters.plain (by kernel_rfl) (by rfl)) (by rfl) (PS _ (by assumption) _) ?_; (rintro e g2 Ln hg2 ⟨k1, k2⟩; have k2 := k2.symm; subst k1; subst k2; refine CallK.panic ?_))
    | refine stS ?_ | (refine stB ?_; intro _) | (refine stC ?_; constructor <;> intro _))
    refine TQ.end_panic (L' := L) rfl ((hg1.trans hg2)) ?_ selF
    exact ⟨rfl, rfl⟩
  | some l =>
    have hl := placesJ_le hp
    rw [hp] at PS
    have RI : ∀ (g2 g3 : Gh) (u v : Value), Sl g2 u l.length 2 (flatP l) → g2.le g3 → Sl g3 v 1 1 [u] → ∀ L, Gives Tryz.prog 214 #[shV 1 v] g3 L (.bool (rightB 1 [l])) := fun g2 g3 u v h2 hg h3 L => sright_gives 1 [l] v g3 L (parts_one rfl h2 hg h3) (ok_one (by omega))
    rw [Option.map_some, okS]
    dsimp only at PS
    cases hr : rightB 1 [l] with
    | false =>
      rw [hr] at RI
      rw [if_neg (by decide)]
      repeat' (first
    | refine wkQ ?_
    | (refine wkA 23 (v := .bool true) ?_ ?_; · exact Y.eql_b bl rfl rfl)
    | refine wkV ?_
    | ((with_reducible apply TL.slice_keep); (· rfl); (· exact pkA); (· rfl); (· decide); (· rfl); intro g1 hg1 SN)
    | ((with_reducible apply TL.storeK); (· rfl); (· rfl); (· exact rfl); (· exact pkA); (· exact Nat.le_of_ble_eq_true rfl))
    | refine wkD (F1 _) ?_
    | refine wkD (F2 _) ?_
    | refine wkD (NA _ _) ?_
    | refine wkD (IX _ _ SN _) ?_
    | refine wkD (NY _ _) ?_
    | (refine TL.call (Enters.plain (by kernel_rfl) (by rfl)) (by rfl) (PS _ (by assumption) _) ?_; (rintro e g2 Ln hg2 ⟨vl, k1, k2, k3⟩; have k2 := k2.symm; subst k1; subst k2; obtain ⟨a1, c1, rfl⟩ := k3.slice; have K3 := Hn.mk k3; clear k3; refine CallK.ret ?_))
    | (refine TL.build_slice (d := 68) (by rfl) (by rfl) (by exact oneA) (by rfl) (by rfl) (by rfl) (fun bb => ?_); refine TL.freeze_obj (k := 1) bb 1 .here rfl (by decide) ?_; rintro g3 hg3 s3; have RI1 := RI _ _ _ _ K3.out hg3 s3)
    | refine wkD (RI1 _) ?_
    | refine TL.throws (Enters.plain (by kernel_rfl) (by rfl)) (NO _ _) (by rfl) ?_
    | refine stS ?_ | (refine stB ?_; intro _) | (refine stC ?_; constructor <;> intro _))
      refine TQ.end_panic (L' := L) rfl ((hg1.trans (hg2.trans hg3))) ?_ selF
      exact ⟨rfl, rfl⟩
    | true =>
      rw [hr] at RI
      rw [if_pos rfl]
      repeat' (first
    | refine wkQ ?_
    | (refine wkA 23 (v := .bool true) ?_ ?_; · exact Y.eql_b bl rfl rfl)
    | refine wkV ?_
    | ((with_reducible apply TL.slice_keep); (· rfl); (· exact pkA); (· rfl); (· decide); (· rfl); intro g1 hg1 SN)
    | ((with_reducible apply TL.storeK); (· rfl); (· rfl); (· exact rfl); (· exact pkA); (· exact Nat.le_of_ble_eq_true rfl))
    | refine wkD (F1 _) ?_
    | refine wkD (F2 _) ?_
    | refine wkD (NA _ _) ?_
    | refine wkD (IX _ _ SN _) ?_
    | refine wkD (NY _ _) ?_
    | (refine TL.call (Enters.plain (by kernel_rfl) (by rfl)) (by rfl) (PS _ (by assumption) _) ?_; (rintro e g2 Ln hg2 ⟨vl, k1, k2, k3⟩; have k2 := k2.symm; subst k1; subst k2; obtain ⟨a1, c1, rfl⟩ := k3.slice; have K3 := Hn.mk k3; clear k3; refine CallK.ret ?_))
    | (refine TL.build_slice (d := 68) (by rfl) (by rfl) (by exact oneA) (by rfl) (by rfl) (by rfl) (fun bb => ?_); refine TL.freeze_obj (k := 1) bb 1 .here rfl (by decide) ?_; rintro g3 hg3 s3; have RI1 := RI _ _ _ _ K3.out hg3 s3)
    | refine wkD (RI1 _) ?_
    | refine stS ?_ | (refine stB ?_; intro _) | (refine stC ?_; constructor <;> intro _))
      refine TQ.endR1 (L' := L) Tryz.results253 rvA rfl ((hg1.trans (hg2.trans hg3))) ?_ selF
      exact ⟨_, rfl, rfl, parts_one rfl K3.out hg3 s3⟩
end Go.Proofs.YtgollffmdpejiaaGreatDoor
