/-
  The walk of path.drop: items, other values. The walk of path.drop.
-/
import Derived.Test.YthngolfabfijpaaGreatDoorHc2
import Derived.Test.YthngolfabfijpaaGreatDoorHc23
namespace Go.Proofs.YthngolfabfijpaaGreatDoor
open Go.RowKit Go.TL
set_option maxRecDepth 100000

set_option maxHeartbeats 32000000 in
theorem drop_list_no (s : List UInt8) (r : List (List UInt8)) (_IH0 : r ≠ [] → DropOk r) (hl : ∀ t ∈ s :: r, t.length ≤ 1000000) (hl2 : (s :: r).length ≤ 1000) (xs : List J) (v sv : Value) (M : List Ent) (g : Gh) (L : List Ent) (hM : TrJ (.list xs) v M) (hs : Sl g sv (s :: r).length 1 (strs (s :: r))) (hS : smJ (.list xs)) (hE : GErr g) (hT : GTabs g) (hi : itemL s = none) : Does Tryz.prog 159 #[v, sv] g (grp M :: L) (PutR (dropJ (s :: r) (.list xs)) g L) := by
  have hsl := hl s (by simp)
  have hl3 : ∀ t ∈ r, t.length ≤ 1000000 := fun t ht => hl t (by simp [ht])
  rw [List.length_cons] at hs hl2
  obtain ⟨ao, cap, rfl⟩ := hs.slice
  obtain ⟨bs, os, os', rfl, hcs, hos, hld0, hs1⟩ := Sl.from1 hs rfl
  have I := fun L => pitem_gives s g L hsl hE hT
  have HO := Hn.mk hos
  have hM1 := hM.one
  clear hos hs
  refine Does.of2 Tryz.func159 rfl Tryz.ntmps159 rfl ?_
  rw [TrJ] at hM
  obtain ⟨ai, ci, flat, Ms, rfl, rfl, hMs⟩ := hM
  rw [smJ] at hS
  obtain ⟨hxl, hS⟩ := hS
  refine TC.guncons pkA ?_
  rw [dropJ, hi]
  have hv : itemV s = -1 := by unfold itemV; rw [hi]
  rw [hv] at I
  clear _IH0 hs1 hMs hS
  repeat' (first
    | ((with_reducible apply TL.pure (d := 20) (v := .slice (some ⟨bs, os', none⟩) (r.length + 1 - 1) (cap - 1))); (· exact Y.slice_from rfl rfl (show (1 : Int) = (1 : Nat) from rfl) (by omega) hcs HO.out); (· rfl)) | ((with_reducible apply TW.pure (d := 20) (v := .slice (some ⟨bs, os', none⟩) (r.length + 1 - 1) (cap - 1))); (· exact Y.slice_from rfl rfl (show (1 : Int) = (1 : Nat) from rfl) (by omega) hcs HO.out); (· rfl))
    | refine wkV ?_
    | ((with_reducible apply TL.pure); (· exact yM); (· rfl)) | ((with_reducible apply TW.pure); (· exact yM); (· rfl))
    | ((with_reducible apply TL.gives_plain); (· kernel_rfl); (· rfl); (· exact I _); (· rfl)) | ((with_reducible apply TW.gives_plain); (· kernel_rfl); (· rfl); (· exact I _); (· rfl))
    | refine stS ?_ | (refine stB ?_; intro _) | (refine stC ?_; refine And.intro (fun _ => ?_) (fun _ => ?_))
    | apply TC.region_draw (by kernel_rfl) (by kernel_rfl) | refine TW.nil ?_ | ((with_reducible apply TW.pure); (· exact yA); (· rfl)))
  refine TQ.endR2 (L' := L) Tryz.results159 rvA rvA rfl (.refl _) ?_ selA
  exact ⟨_, false, rfl, rfl, rfl, rfl, rfl⟩
set_option maxHeartbeats 32000000 in
theorem drop_list_far (s : List UInt8) (r : List (List UInt8)) (_IH0 : r ≠ [] → DropOk r) (hl : ∀ t ∈ s :: r, t.length ≤ 1000000) (hl2 : (s :: r).length ≤ 1000) (xs : List J) (k : Nat) (v sv : Value) (M : List Ent) (g : Gh) (L : List Ent) (hM : TrJ (.list xs) v M) (hs : Sl g sv (s :: r).length 1 (strs (s :: r))) (hS : smJ (.list xs)) (hE : GErr g) (hT : GTabs g) (hi : itemL s = some k) (hkb : xs.length ≤ k) : Does Tryz.prog 159 #[v, sv] g (grp M :: L) (PutR (dropJ (s :: r) (.list xs)) g L) := by
  have hsl := hl s (by simp)
  have hl3 : ∀ t ∈ r, t.length ≤ 1000000 := fun t ht => hl t (by simp [ht])
  rw [List.length_cons] at hs hl2
  obtain ⟨ao, cap, rfl⟩ := hs.slice
  obtain ⟨bs, os, os', rfl, hcs, hos, hld0, hs1⟩ := Sl.from1 hs rfl
  have I := fun L => pitem_gives s g L hsl hE hT
  have HO := Hn.mk hos
  have hM1 := hM.one
  clear hos hs
  refine Does.of2 Tryz.func159 rfl Tryz.ntmps159 rfl ?_
  rw [TrJ] at hM
  obtain ⟨ai, ci, flat, Ms, rfl, rfl, hMs⟩ := hM
  rw [smJ] at hS
  obtain ⟨hxl, hS⟩ := hS
  refine TC.guncons pkA ?_
  rw [dropJ, hi]
  have hno : xs[k]? = none := List.getElem?_eq_none hkb
  try dsimp only
  rw [hno]
  try dsimp only
  by_cases hk6 : k ≤ 9223372036854775807
  · have hv : itemV s = (k : Nat) := by unfold itemV; rw [hi]; exact if_pos hk6
    rw [hv] at I
    clear _IH0 hs1 hMs hS
    repeat' (first
    | ((with_reducible apply TL.pure (d := 20) (v := .slice (some ⟨bs, os', none⟩) (r.length + 1 - 1) (cap - 1))); (· exact Y.slice_from rfl rfl (show (1 : Int) = (1 : Nat) from rfl) (by omega) hcs HO.out); (· rfl)) | ((with_reducible apply TW.pure (d := 20) (v := .slice (some ⟨bs, os', none⟩) (r.length + 1 - 1) (cap - 1))); (· exact Y.slice_from rfl rfl (show (1 : Int) = (1 : Nat) from rfl) (by omega) hcs HO.out); (· rfl))
    | refine wkV ?_
    | ((with_reducible apply TL.pure); (· exact yM); (· rfl)) | ((with_reducible apply TW.pure); (· exact yM); (· rfl))
    | ((with_reducible apply TL.gives_plain); (· kernel_rfl); (· rfl); (· exact I _); (· rfl)) | ((with_reducible apply TW.gives_plain); (· kernel_rfl); (· rfl); (· exact I _); (· rfl))
    | refine stS ?_ | (refine stB ?_; intro _) | (refine stC ?_; refine And.intro (fun _ => ?_) (fun _ => ?_))
    | apply TC.region_draw (by kernel_rfl) (by kernel_rfl) | refine TW.nil ?_ | ((with_reducible apply TW.pure); (· exact yA); (· rfl)))
    refine TQ.endR2 (L' := L) Tryz.results159 rvA rvA rfl (.refl _) ?_ selA
    exact ⟨_, false, rfl, rfl, rfl, rfl, rfl⟩
  · have hv : itemV s = -1 := by unfold itemV; rw [hi]; exact if_neg hk6
    rw [hv] at I
    clear _IH0 hs1 hMs hS
    repeat' (first
    | ((with_reducible apply TL.pure (d := 20) (v := .slice (some ⟨bs, os', none⟩) (r.length + 1 - 1) (cap - 1))); (· exact Y.slice_from rfl rfl (show (1 : Int) = (1 : Nat) from rfl) (by omega) hcs HO.out); (· rfl)) | ((with_reducible apply TW.pure (d := 20) (v := .slice (some ⟨bs, os', none⟩) (r.length + 1 - 1) (cap - 1))); (· exact Y.slice_from rfl rfl (show (1 : Int) = (1 : Nat) from rfl) (by omega) hcs HO.out); (· rfl))
    | refine wkV ?_
    | ((with_reducible apply TL.pure); (· exact yM); (· rfl)) | ((with_reducible apply TW.pure); (· exact yM); (· rfl))
    | ((with_reducible apply TL.gives_plain); (· kernel_rfl); (· rfl); (· exact I _); (· rfl)) | ((with_reducible apply TW.gives_plain); (· kernel_rfl); (· rfl); (· exact I _); (· rfl))
    | refine stS ?_ | (refine stB ?_; intro _) | (refine stC ?_; refine And.intro (fun _ => ?_) (fun _ => ?_))
    | apply TC.region_draw (by kernel_rfl) (by kernel_rfl) | refine TW.nil ?_ | ((with_reducible apply TW.pure); (· exact yA); (· rfl)))
    refine TQ.endR2 (L' := L) Tryz.results159 rvA rvA rfl (.refl _) ?_ selA
    exact ⟨_, false, rfl, rfl, rfl, rfl, rfl⟩
set_option maxHeartbeats 32000000 in
theorem drop_list_yes (s : List UInt8) (r : List (List UInt8)) (IH0 : r ≠ [] → DropOk r) (hl : ∀ t ∈ s :: r, t.length ≤ 1000000) (hl2 : (s :: r).length ≤ 1000) (xs : List J) (k : Nat) (v sv : Value) (M : List Ent) (g : Gh) (L : List Ent) (hM : TrJ (.list xs) v M) (hs : Sl g sv (s :: r).length 1 (strs (s :: r))) (hS : smJ (.list xs)) (hE : GErr g) (hT : GTabs g) (hi : itemL s = some k) (hkb : k < xs.length) : Does Tryz.prog 159 #[v, sv] g (grp M :: L) (PutR (dropJ (s :: r) (.list xs)) g L) := by
  have hsl := hl s (by simp)
  have hl3 : ∀ t ∈ r, t.length ≤ 1000000 := fun t ht => hl t (by simp [ht])
  rw [List.length_cons] at hs hl2
  obtain ⟨ao, cap, rfl⟩ := hs.slice
  obtain ⟨bs, os, os', rfl, hcs, hos, hld0, hs1⟩ := Sl.from1 hs rfl
  have I := fun L => pitem_gives s g L hsl hE hT
  have HO := Hn.mk hos
  have hM1 := hM.one
  clear hos hs
  refine Does.of2 Tryz.func159 rfl Tryz.ntmps159 rfl ?_
  rw [TrJ] at hM
  obtain ⟨ai, ci, flat, Ms, rfl, rfl, hMs⟩ := hM
  rw [smJ] at hS
  obtain ⟨hxl, hS⟩ := hS
  refine TC.guncons pkA ?_
  rw [dropJ, hi]
  have hv : itemV s = (k : Nat) := by unfold itemV; rw [hi]; exact if_pos (by omega)
  rw [hv] at I
  obtain ⟨y', hy'⟩ : ∃ y', xs[k]? = some y' := ⟨_, List.getElem?_eq_getElem hkb⟩
  have hones := hMs.ones
  obtain ⟨v', MA, MB, MC, rfl, e3, e2, hdel, e4⟩ := hMs.delE hy'
  try dsimp only
  rw [hy']
  try dsimp only
  have ho' := e3.one
  refine TC.part3 (M1 := MA) (M2 := MB) (M3 := MC) pkA ?_
  refine TC.row_form (v := .slice ai xs.length ci) pkA (by omega) ?_
  intro bv cv e hfl
  obtain ⟨rfl, rfl⟩ : ai = some ⟨bv, 0, none⟩ ∧ ci = cv := by simpa using e
  by_cases hr : r = []
  · have hrl : r.length = 0 := by rw [hr]; rfl
    rw [if_pos hr]
    clear hr
    have D := fun L => delL_does bv xs.length ci k flat g L hkb (by omega) hones
    have HD := Hn.mk hdel
    clear IH0 hs1 hMs hS e4 e3 e2 e hi hones hdel
    repeat' (first
    | ((with_reducible apply TL.pure (d := 20) (v := .slice (some ⟨bs, os', none⟩) (r.length + 1 - 1) (cap - 1))); (· exact Y.slice_from rfl rfl (show (1 : Int) = (1 : Nat) from rfl) (by omega) hcs HO.out); (· rfl)) | ((with_reducible apply TW.pure (d := 20) (v := .slice (some ⟨bs, os', none⟩) (r.length + 1 - 1) (cap - 1))); (· exact Y.slice_from rfl rfl (show (1 : Int) = (1 : Nat) from rfl) (by omega) hcs HO.out); (· rfl))
    | refine wkV ?_
    | ((with_reducible apply TL.pure); (· exact yM); (· rfl)) | ((with_reducible apply TW.pure); (· exact yM); (· rfl))
    | ((with_reducible apply TL.gives_plain); (· kernel_rfl); (· rfl); (· exact I _); (· rfl)) | ((with_reducible apply TW.gives_plain); (· kernel_rfl); (· rfl); (· exact I _); (· rfl))
    | (refine TL.call (Enters.plain (by kernel_rfl) (by rfl)) (by rfl) (Does.perm (D _) (Pk.cons pkA (List.Perm.refl _))) ?_; (rintro e g1 Ln _ ⟨k1, k2, k3⟩; have k2 := k2.symm; have k3 := k3.symm; subst k1; subst k2; subst k3; refine CallK.ret ?_))
    | refine stS ?_ | (refine stB ?_; intro _) | (refine stC ?_; refine And.intro (fun _ => ?_) (fun _ => ?_))
    | apply TC.region_draw (by kernel_rfl) (by kernel_rfl) | refine TW.nil ?_ | ((with_reducible apply TW.pure); (· exact yA); (· rfl)))
    refine TQ.rowE (ys := flat.take k ++ flat.drop (k + 1)) pkA (by rw [Nat.mul_one, Nat.mul_one]) ?_
    refine TQ.join (M1 := MC) (M2 := MA) pkA pkA ?_
    refine TQ.gcons (e := .row 20 1 (.slice (some ⟨bv, 0, none⟩) (xs.length - 1) ci) (xs.length - 1) (flat.take k ++ flat.drop (k + 1))) (M := MA ++ MC) pkA pkA ?_
    refine TQ.endR2 (L' := (grp (.row 20 1 (.slice (some ⟨bv, 0, none⟩) (xs.length - 1) ci) (xs.length - 1) (flat.take k ++ flat.drop (k + 1)) :: (MA ++ MC)) :: L)) Tryz.results159 rvA rvA rfl (.refl _) ?_ selA
    refine ⟨_, true, rfl, rfl, rfl, rfl, _, rfl, ?_⟩
    rw [TrJ, List.length_eraseIdx, if_pos hkb]
    exact ⟨_, _, _, _, rfl, rfl, HD.out⟩
  · rw [if_neg hr]
    have IH := IH0 hr hl3 (by omega)
    have hrp := List.length_pos_iff.2 hr
    have A := fun L0 => IH y' v' (.slice (some ⟨bs, os', none⟩) r.length (cap - 1)) MB g L0 e3 hs1 (smJs_get hS hy') hE hT
    unfold PutR at A
    have hld : flat[0 + k * 1]? = some v' := by rw [Nat.zero_add, Nat.mul_one]; exact e2
    have hne : Hn (¬ ((r.length + 1 - 1 : Nat) : Int) = 0) := ⟨by omega⟩
    clear hr
    cases hp : dropJ r y' with
    | none =>
      rw [hp] at A
      clear IH IH0 hs1 hMs hS e4 e3 e2 e hi hones hdel
      repeat' (first
    | ((with_reducible apply TL.pure (d := 20) (v := .slice (some ⟨bs, os', none⟩) (r.length + 1 - 1) (cap - 1))); (· exact Y.slice_from rfl rfl (show (1 : Int) = (1 : Nat) from rfl) (by omega) hcs HO.out); (· rfl)) | ((with_reducible apply TW.pure (d := 20) (v := .slice (some ⟨bs, os', none⟩) (r.length + 1 - 1) (cap - 1))); (· exact Y.slice_from rfl rfl (show (1 : Int) = (1 : Nat) from rfl) (by omega) hcs HO.out); (· rfl))
    | refine wkV ?_
    | ((with_reducible apply TL.pure); (· exact yM); (· rfl)) | ((with_reducible apply TW.pure); (· exact yM); (· rfl))
    | ((with_reducible apply TL.gives_plain); (· kernel_rfl); (· rfl); (· exact I _); (· rfl)) | ((with_reducible apply TW.gives_plain); (· kernel_rfl); (· rfl); (· exact I _); (· rfl))
    | (refine TL.call (Enters.plain (by kernel_rfl) (by rfl)) (by rfl) (Does.perm (A _) (Pk.cons pkA (List.Perm.refl _))) ?_; (rintro e g1 Ln _ ⟨vz, bz, k1, k2, hz1, hz⟩; have k2 := k2.symm; subst k1; subst k2; (obtain ⟨rfl, rfl⟩ := hz); refine CallK.ret ?_))
    | ((with_reducible apply TL.store_row); (· rfl); (· rfl); (· first | rfl | assumption); (· exact pkA); (· omega))
    | refine stS ?_ | (refine stB ?_; intro _) | (refine stC ?_; refine And.intro (fun _ => ?_) (fun _ => ?_))
    | apply TC.region_draw (by kernel_rfl) (by kernel_rfl) | refine TW.nil ?_ | ((with_reducible apply TW.pure); (· exact yA); (· rfl)))
      refine TQ.endR2 (L' := L) Tryz.results159 rvA rvA rfl (.refl _) ?_ selA
      exact ⟨_, false, rfl, rfl, rfl, rfl, rfl⟩
    | some z =>
      rw [hp] at A
      have HM := Hn.mk e4
      clear IH IH0 hs1 hMs hS e4 e3 e2 e hi hones hdel
      repeat' (first
    | ((with_reducible apply TL.pure (d := 20) (v := .slice (some ⟨bs, os', none⟩) (r.length + 1 - 1) (cap - 1))); (· exact Y.slice_from rfl rfl (show (1 : Int) = (1 : Nat) from rfl) (by omega) hcs HO.out); (· rfl)) | ((with_reducible apply TW.pure (d := 20) (v := .slice (some ⟨bs, os', none⟩) (r.length + 1 - 1) (cap - 1))); (· exact Y.slice_from rfl rfl (show (1 : Int) = (1 : Nat) from rfl) (by omega) hcs HO.out); (· rfl))
    | refine wkV ?_
    | ((with_reducible apply TL.pure); (· exact yM); (· rfl)) | ((with_reducible apply TW.pure); (· exact yM); (· rfl))
    | ((with_reducible apply TL.gives_plain); (· kernel_rfl); (· rfl); (· exact I _); (· rfl)) | ((with_reducible apply TW.gives_plain); (· kernel_rfl); (· rfl); (· exact I _); (· rfl))
    | (refine TL.call (Enters.plain (by kernel_rfl) (by rfl)) (by rfl) (Does.perm (A _) (Pk.cons pkA (List.Perm.refl _))) ?_; (rintro e g1 Ln _ ⟨vz, bz, k1, k2, hz1, hz⟩; have k2 := k2.symm; subst k1; subst k2; (obtain ⟨rfl, Mz, rfl, hz⟩ := hz); refine CallK.ret ?_))
    | ((with_reducible apply TL.store_row); (· rfl); (· rfl); (· first | rfl | assumption); (· exact pkA); (· omega))
    | refine stS ?_ | (refine stB ?_; intro _) | (refine stC ?_; refine And.intro (fun _ => ?_) (fun _ => ?_))
    | apply TC.region_draw (by kernel_rfl) (by kernel_rfl) | refine TW.nil ?_ | ((with_reducible apply TW.pure); (· exact yA); (· rfl)))
      refine TQ.rowE (xs := flat.set (0 + k * 1) vz) (ys := flat.set k vz) pkA (by rw [show 0 + k * 1 = k by omega]) ?_
      refine TQ.unpart3 (M1 := MA) (M2 := Mz) (M3 := MC) pkA pkA pkA ?_
      refine TQ.gcons (e := .row 20 1 (.slice (some ⟨bv, 0, none⟩) xs.length ci) xs.length (flat.set k vz)) (M := MA ++ (Mz ++ MC)) pkA pkA ?_
      refine TQ.endR2 (L' := (grp (.row 20 1 (.slice (some ⟨bv, 0, none⟩) xs.length ci) xs.length (flat.set k vz) :: (MA ++ (Mz ++ MC))) :: L)) Tryz.results159 rvA rvA rfl (.refl _) ?_ selA
      refine ⟨_, true, rfl, rfl, rfl, rfl, _, rfl, ?_⟩
      rw [TrJ, List.length_set]
      exact ⟨_, _, _, _, rfl, rfl, HM.out _ _ _ hz⟩
set_option maxHeartbeats 32000000 in
theorem drop_flat (s : List UInt8) (r : List (List UInt8)) (_IH0 : r ≠ [] → DropOk r) (hl : ∀ t ∈ s :: r, t.length ≤ 1000000) (hl2 : (s :: r).length ≤ 1000) (x : J) (hx1 : ∀ xs, x ≠ .list xs) (hx2 : ∀ ns xs, x ≠ .obj ns xs) (v sv : Value) (M : List Ent) (g : Gh) (L : List Ent) (hM : TrJ x v M) (hs : Sl g sv (s :: r).length 1 (strs (s :: r))) (hS : smJ x) (hE : GErr g) (hT : GTabs g) : Does Tryz.prog 159 #[v, sv] g (grp M :: L) (PutR (dropJ (s :: r) x) g L) := by
  have hsl := hl s (by simp)
  have hl3 : ∀ t ∈ r, t.length ≤ 1000000 := fun t ht => hl t (by simp [ht])
  rw [List.length_cons] at hs hl2
  obtain ⟨ao, cap, rfl⟩ := hs.slice
  obtain ⟨bs, os, os', rfl, hcs, hos, hld0, hs1⟩ := Sl.from1 hs rfl
  have I := fun L => pitem_gives s g L hsl hE hT
  have HO := Hn.mk hos
  have hM1 := hM.one
  clear hos hs
  refine Does.of2 Tryz.func159 rfl Tryz.ntmps159 rfl ?_
  cases x with
  | obj ns xs => exact absurd rfl (hx2 ns xs)
  | list xs => exact absurd rfl (hx1 xs)
  | _ =>
    rw [TrJ] at hM
    first | (obtain ⟨rfl, _, _⟩ := hM) | (obtain ⟨rfl, _⟩ := hM)
    rw [dropJ] <;> first | (intro _ _ h; cases h; done) | (intro _ h; cases h; done) | skip
    clear _IH0 hs1 I hS
    repeat' (first
    | ((with_reducible apply TL.pure (d := 20) (v := .slice (some ⟨bs, os', none⟩) (r.length + 1 - 1) (cap - 1))); (· exact Y.slice_from rfl rfl (show (1 : Int) = (1 : Nat) from rfl) (by omega) hcs HO.out); (· rfl)) | ((with_reducible apply TW.pure (d := 20) (v := .slice (some ⟨bs, os', none⟩) (r.length + 1 - 1) (cap - 1))); (· exact Y.slice_from rfl rfl (show (1 : Int) = (1 : Nat) from rfl) (by omega) hcs HO.out); (· rfl))
    | refine wkV ?_
    | ((with_reducible apply TL.pure); (· exact yM); (· rfl)) | ((with_reducible apply TW.pure); (· exact yM); (· rfl))
    | refine stS ?_ | (refine stB ?_; intro _) | (refine stC ?_; refine And.intro (fun _ => ?_) (fun _ => ?_))
    | apply TC.region_draw (by kernel_rfl) (by kernel_rfl) | refine TW.nil ?_ | ((with_reducible apply TW.pure); (· exact yA); (· rfl)))
    refine TQ.endR2 (L' := L) Tryz.results159 rvA rvA rfl (.refl _) ?_ selA
    exact ⟨_, false, rfl, rfl, rfl, rfl, rfl⟩
end Go.Proofs.YthngolfabfijpaaGreatDoor
namespace Go.Proofs.YthngolfabfijpaaGreatDoor
open Go.RowKit Go.TL
set_option maxRecDepth 100000

theorem drop_does : ∀ (l : List (List UInt8)), l ≠ [] → DropOk l
  | [], h => absurd rfl h
  | s :: r, _ => fun hl hl2 x v sv M g L hM hs hS hE hT => by
    have IH := drop_does r
    cases x with
    | obj ns xs =>
      cases hk : idxN ns s with
      | none => exact drop_obj_no s r IH hl hl2 ns xs v sv M g L hM hs hS hE hT hk
      | some k => exact drop_obj_yes s r IH hl hl2 ns xs k v sv M g L hM hs hS hE hT hk
    | list xs =>
      cases hi : itemL s with
      | none => exact drop_list_no s r IH hl hl2 xs v sv M g L hM hs hS hE hT hi
      | some k =>
        by_cases h1 : k < xs.length
        · exact drop_list_yes s r IH hl hl2 xs k v sv M g L hM hs hS hE hT hi h1
        · exact drop_list_far s r IH hl hl2 xs k v sv M g L hM hs hS hE hT hi (by omega)
    | _ => exact drop_flat s r IH hl hl2 _ (fun _ e => by cases e) (fun _ _ e => by cases e) v sv M g L hM hs hS hE hT
end Go.Proofs.YthngolfabfijpaaGreatDoor
