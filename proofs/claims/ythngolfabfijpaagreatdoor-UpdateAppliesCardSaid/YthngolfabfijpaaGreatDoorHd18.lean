/-
  The walk of path.put: no item; an item that there is. The walk of path.put: an item more; other values.
-/
import Derived.Test.YthngolfabfijpaaGreatDoorHd2
import Derived.Test.YthngolfabfijpaaGreatDoorHd14
namespace Go.Proofs.YthngolfabfijpaaGreatDoor
open Go.RowKit Go.TL
set_option maxRecDepth 100000

set_option maxHeartbeats 32000000 in
theorem put_list_no (s : List UInt8) (r : List (List UInt8)) (IH0 : PutOk r) (hl : ∀ t ∈ s :: r, t.length ≤ 1000000) (hl2 : (s :: r).length ≤ 1000) (xs : List J) (y : J) (v u sv : Value) (M N : List Ent) (g : Gh) (L : List Ent) (hM : TrJ (.list xs) v M) (hN : TrJ y u N) (hs : Sl g sv (s :: r).length 1 (strs (s :: r))) (hS : smJ (.list xs)) (hE : GErr g) (hT : GTabs g) (hi : itemL s = none) : Does Tryz.prog 132 #[v, sv, u] g (grp M :: grp N :: L) (PutR (putJ (s :: r) (.list xs) y) g L) := by
  have IH := IH0 (fun s hs => hl s (by simp [hs])) (by simp at hl2; omega)
  have hsl := hl s (by simp)
  rw [List.length_cons] at hs hl2
  obtain ⟨ao, cap, rfl⟩ := hs.slice
  obtain ⟨bs, os, os', rfl, hcs, hos, hld0, hs1⟩ := Sl.from1 hs rfl
  have I := fun L => pitem_gives s g L hsl hE hT
  have HO := Hn.mk hos
  have hN1 := hN.one
  have hM1 := hM.one
  clear hos hs
  refine Does.of3 Tryz.func132 rfl Tryz.ntmps132 rfl ?_
  rw [TrJ] at hM
  obtain ⟨ai, ci, flat, Ms, rfl, rfl, hMs⟩ := hM
  rw [smJ] at hS
  obtain ⟨hxl, hS⟩ := hS
  refine TC.guncons pkA ?_
  rw [putJ]
  rw [hi]
  try dsimp only
  have hv : itemV s = -1 := by unfold itemV; rw [hi]
  rw [hv] at I
  clear hs1 IH hN hMs hS
  repeat' (first | refine wkV ?_ | ((with_reducible apply TL.gives_plain); (· kernel_rfl); (· rfl); (· exact I _); (· rfl)) | refine stS ?_ | fail)
  refine TQ.endR2 (L' := L) Tryz.results132 rvA rvA rfl (.refl _) ?_ selA
  exact ⟨_, false, rfl, rfl, rfl, rfl, rfl⟩
set_option maxHeartbeats 32000000 in
theorem put_list_far (s : List UInt8) (r : List (List UInt8)) (IH0 : PutOk r) (hl : ∀ t ∈ s :: r, t.length ≤ 1000000) (hl2 : (s :: r).length ≤ 1000) (xs : List J) (k : Nat) (y : J) (v u sv : Value) (M N : List Ent) (g : Gh) (L : List Ent) (hM : TrJ (.list xs) v M) (hN : TrJ y u N) (hs : Sl g sv (s :: r).length 1 (strs (s :: r))) (hS : smJ (.list xs)) (hE : GErr g) (hT : GTabs g) (hi : itemL s = some k) (_hkb : xs.length < k) : Does Tryz.prog 132 #[v, sv, u] g (grp M :: grp N :: L) (PutR (putJ (s :: r) (.list xs) y) g L) := by
  have IH := IH0 (fun s hs => hl s (by simp [hs])) (by simp at hl2; omega)
  have hsl := hl s (by simp)
  rw [List.length_cons] at hs hl2
  obtain ⟨ao, cap, rfl⟩ := hs.slice
  obtain ⟨bs, os, os', rfl, hcs, hos, hld0, hs1⟩ := Sl.from1 hs rfl
  have I := fun L => pitem_gives s g L hsl hE hT
  have HO := Hn.mk hos
  have hN1 := hN.one
  have hM1 := hM.one
  clear hos hs
  refine Does.of3 Tryz.func132 rfl Tryz.ntmps132 rfl ?_
  rw [TrJ] at hM
  obtain ⟨ai, ci, flat, Ms, rfl, rfl, hMs⟩ := hM
  rw [smJ] at hS
  obtain ⟨hxl, hS⟩ := hS
  refine TC.guncons pkA ?_
  rw [putJ]
  rw [hi]
  have hno : xs[k]? = none := List.getElem?_eq_none (by omega)
  try dsimp only
  rw [hno]
  try dsimp only
  rw [if_neg (by omega)]
  by_cases hk6 : k ≤ 9223372036854775807
  · have hv : itemV s = (k : Nat) := by unfold itemV; rw [hi]; exact if_pos hk6
    rw [hv] at I
    clear hs1 IH hN hMs hS
    repeat' (first | refine wkV ?_ | ((with_reducible apply TL.gives_plain); (· kernel_rfl); (· rfl); (· exact I _); (· rfl)) | refine stS ?_ | fail)
    refine TQ.endR2 (L' := L) Tryz.results132 rvA rvA rfl (.refl _) ?_ selA
    exact ⟨_, false, rfl, rfl, rfl, rfl, rfl⟩
  · have hv : itemV s = -1 := by unfold itemV; rw [hi]; exact if_neg hk6
    rw [hv] at I
    clear hs1 IH hN hMs hS
    repeat' (first | refine wkV ?_ | ((with_reducible apply TL.gives_plain); (· kernel_rfl); (· rfl); (· exact I _); (· rfl)) | refine stS ?_ | fail)
    refine TQ.endR2 (L' := L) Tryz.results132 rvA rvA rfl (.refl _) ?_ selA
    exact ⟨_, false, rfl, rfl, rfl, rfl, rfl⟩
set_option maxHeartbeats 32000000 in
theorem put_list_old (s : List UInt8) (r : List (List UInt8)) (IH0 : PutOk r) (hl : ∀ t ∈ s :: r, t.length ≤ 1000000) (hl2 : (s :: r).length ≤ 1000) (xs : List J) (k : Nat) (y : J) (v u sv : Value) (M N : List Ent) (g : Gh) (L : List Ent) (hM : TrJ (.list xs) v M) (hN : TrJ y u N) (hs : Sl g sv (s :: r).length 1 (strs (s :: r))) (hS : smJ (.list xs)) (hE : GErr g) (hT : GTabs g) (hi : itemL s = some k) (hkl : k < xs.length) : Does Tryz.prog 132 #[v, sv, u] g (grp M :: grp N :: L) (PutR (putJ (s :: r) (.list xs) y) g L) := by
  have IH := IH0 (fun s hs => hl s (by simp [hs])) (by simp at hl2; omega)
  have hsl := hl s (by simp)
  rw [List.length_cons] at hs hl2
  obtain ⟨ao, cap, rfl⟩ := hs.slice
  obtain ⟨bs, os, os', rfl, hcs, hos, hld0, hs1⟩ := Sl.from1 hs rfl
  have I := fun L => pitem_gives s g L hsl hE hT
  have HO := Hn.mk hos
  have hN1 := hN.one
  have hM1 := hM.one
  clear hos hs
  refine Does.of3 Tryz.func132 rfl Tryz.ntmps132 rfl ?_
  rw [TrJ] at hM
  obtain ⟨ai, ci, flat, Ms, rfl, rfl, hMs⟩ := hM
  rw [smJ] at hS
  obtain ⟨hxl, hS⟩ := hS
  refine TC.guncons pkA ?_
  rw [putJ]
  rw [hi]
  have hv : itemV s = (k : Nat) := by unfold itemV; rw [hi]; exact if_pos (by omega)
  rw [hv] at I
  obtain ⟨y', hy'⟩ : ∃ y', xs[k]? = some y' := ⟨_, List.getElem?_eq_getElem hkl⟩
  obtain ⟨v', MA, MB, MC, e2, rfl, e3, e4⟩ := hMs.at hy'
  try dsimp only
  rw [hy']
  have A := fun L0 => IH y' y v' u (.slice (some ⟨bs, os', none⟩) r.length (cap - 1)) MB N g L0 e3 hN hs1 (smJs_get hS hy') hE hT
  unfold PutR at A
  have ho' := e3.one
  refine TC.part3 (M1 := MA) (M2 := MB) (M3 := MC) pkA ?_
  refine TC.row_form (v := .slice ai xs.length ci) pkA (by omega) ?_
  intro bv cv e hfl
  obtain ⟨rfl, rfl⟩ : ai = some ⟨bv, 0, none⟩ ∧ ci = cv := by simpa using e
  have hld : flat[0 + k * 1]? = some v' := by rw [Nat.zero_add, Nat.mul_one]; exact e2
  have hne : Hn (¬ ((k : Nat) : Int) = (xs.length : Nat)) := ⟨by omega⟩
  try dsimp only
  cases hp : putJ r y' y with
  | none =>
    rw [hp] at A
    clear hs1 IH hN hMs hS e4 e3 e2 e hi
    repeat' (first | refine wkV ?_ | ((with_reducible apply TL.gives_plain); (· kernel_rfl); (· rfl); (· exact I _); (· rfl)) | (refine TL.call (Enters.plain (by kernel_rfl) (by rfl)) (by rfl) (Does.perm (A _) (Pk.cons pkA (Pk.cons pkA (List.Perm.refl _)))) ?_; (rintro e g1 Ln _ ⟨vz, bz, k1, k2, hz1, hz⟩; have k2 := k2.symm; subst k1; subst k2; (obtain ⟨rfl, rfl⟩ := hz); refine CallK.ret ?_)) | ((with_reducible apply TA.take 0); (· decide +kernel); (· rfl); (· first | (first | exact yA | exact yB | exact yM | exact yV) | exact Y.slice_from rfl rfl (show (1 : Int) = (1 : Nat) from rfl) (by omega) hcs HO.out); (· decide +kernel); (· decide +kernel); (· rfl); (· exact fun _ _ _ h => h); (· rfl)) | ((with_reducible apply TA.take 1); (· decide +kernel); (· rfl); (· first | (first | exact yA | exact yB | exact yM | exact yV) | exact Y.slice_from rfl rfl (show (1 : Int) = (1 : Nat) from rfl) (by omega) hcs HO.out); (· decide +kernel); (· decide +kernel); (· rfl); (· exact fun _ _ _ h => h); (· rfl)) | ((with_reducible apply TA.take 2); (· decide +kernel); (· rfl); (· first | (first | exact yA | exact yB | exact yM | exact yV) | exact Y.slice_from rfl rfl (show (1 : Int) = (1 : Nat) from rfl) (by omega) hcs HO.out); (· decide +kernel); (· decide +kernel); (· rfl); (· exact fun _ _ _ h => h); (· rfl)) | ((with_reducible apply TA.take 3); (· decide +kernel); (· rfl); (· first | (first | exact yA | exact yB | exact yM | exact yV) | exact Y.slice_from rfl rfl (show (1 : Int) = (1 : Nat) from rfl) (by omega) hcs HO.out); (· decide +kernel); (· decide +kernel); (· rfl); (· exact fun _ _ _ h => h); (· rfl)) | ((with_reducible apply TA.take 4); (· decide +kernel); (· rfl); (· first | (first | exact yA | exact yB | exact yM | exact yV) | exact Y.slice_from rfl rfl (show (1 : Int) = (1 : Nat) from rfl) (by omega) hcs HO.out); (· decide +kernel); (· decide +kernel); (· rfl); (· exact fun _ _ _ h => h); (· rfl)) | ((with_reducible apply TA.take 5); (· decide +kernel); (· rfl); (· first | (first | exact yA | exact yB | exact yM | exact yV) | exact Y.slice_from rfl rfl (show (1 : Int) = (1 : Nat) from rfl) (by omega) hcs HO.out); (· decide +kernel); (· decide +kernel); (· rfl); (· exact fun _ _ _ h => h); (· rfl)) | ((with_reducible apply TA.take 6); (· decide +kernel); (· rfl); (· first | (first | exact yA | exact yB | exact yM | exact yV) | exact Y.slice_from rfl rfl (show (1 : Int) = (1 : Nat) from rfl) (by omega) hcs HO.out); (· decide +kernel); (· decide +kernel); (· rfl); (· exact fun _ _ _ h => h); (· rfl)) | ((with_reducible apply TA.take 8); (· decide +kernel); (· rfl); (· first | (first | exact yA | exact yB | exact yM | exact yV) | exact Y.slice_from rfl rfl (show (1 : Int) = (1 : Nat) from rfl) (by omega) hcs HO.out); (· decide +kernel); (· decide +kernel); (· rfl); (· exact fun _ _ _ h => h); (· rfl)) | ((with_reducible apply TA.take 9); (· decide +kernel); (· rfl); (· first | (first | exact yA | exact yB | exact yM | exact yV) | exact Y.slice_from rfl rfl (show (1 : Int) = (1 : Nat) from rfl) (by omega) hcs HO.out); (· decide +kernel); (· decide +kernel); (· rfl); (· exact fun _ _ _ h => h); (· rfl)) | ((with_reducible apply TA.take 10); (· decide +kernel); (· rfl); (· first | (first | exact yA | exact yB | exact yM | exact yV) | exact Y.slice_from rfl rfl (show (1 : Int) = (1 : Nat) from rfl) (by omega) hcs HO.out); (· decide +kernel); (· decide +kernel); (· rfl); (· exact fun _ _ _ h => h); (· rfl)) | ((with_reducible apply TA.take 11); (· decide +kernel); (· rfl); (· first | (first | exact yA | exact yB | exact yM | exact yV) | exact Y.slice_from rfl rfl (show (1 : Int) = (1 : Nat) from rfl) (by omega) hcs HO.out); (· decide +kernel); (· decide +kernel); (· rfl); (· exact fun _ _ _ h => h); (· rfl)) | ((with_reducible apply TA.take 12); (· decide +kernel); (· rfl); (· first | (first | exact yA | exact yB | exact yM | exact yV) | exact Y.slice_from rfl rfl (show (1 : Int) = (1 : Nat) from rfl) (by omega) hcs HO.out); (· decide +kernel); (· decide +kernel); (· rfl); (· exact fun _ _ _ h => h); (· rfl)) | ((with_reducible apply TA.one 7); (· rfl); (· decide +kernel); (· rfl)) | refine TQ.any leA selA ?_ | refine TC.region_any 13 (.row 20 1 (.slice (some ⟨bv, 0, none⟩) xs.length ci) xs.length flat :: L) (by kernel_rfl) rfl selA ?_ | refine TA.done (by decide +kernel) ?_ | ((with_reducible apply TL.store_row); (· rfl); (· rfl); (· first | rfl | assumption); (· exact pkA); (· omega)) | refine stS ?_ | fail)
    refine TQ.endR2 (L' := L) Tryz.results132 rvA rvA rfl (.refl _) ?_ selA
    exact ⟨_, false, rfl, rfl, rfl, rfl, rfl⟩
  | some z =>
    rw [hp] at A
    have HM := Hn.mk e4
    clear hs1 IH hN hMs hS e4 e3 e2 e hi
    repeat' (first | refine wkV ?_ | ((with_reducible apply TL.gives_plain); (· kernel_rfl); (· rfl); (· exact I _); (· rfl)) | (refine TL.call (Enters.plain (by kernel_rfl) (by rfl)) (by rfl) (Does.perm (A _) (Pk.cons pkA (Pk.cons pkA (List.Perm.refl _)))) ?_; (rintro e g1 Ln _ ⟨vz, bz, k1, k2, hz1, hz⟩; have k2 := k2.symm; subst k1; subst k2; (obtain ⟨rfl, Mz, rfl, hz⟩ := hz); refine CallK.ret ?_)) | ((with_reducible apply TA.take 0); (· decide +kernel); (· rfl); (· first | (first | exact yA | exact yB | exact yM | exact yV) | exact Y.slice_from rfl rfl (show (1 : Int) = (1 : Nat) from rfl) (by omega) hcs HO.out); (· decide +kernel); (· decide +kernel); (· rfl); (· exact fun _ _ _ h => h); (· rfl)) | ((with_reducible apply TA.take 1); (· decide +kernel); (· rfl); (· first | (first | exact yA | exact yB | exact yM | exact yV) | exact Y.slice_from rfl rfl (show (1 : Int) = (1 : Nat) from rfl) (by omega) hcs HO.out); (· decide +kernel); (· decide +kernel); (· rfl); (· exact fun _ _ _ h => h); (· rfl)) | ((with_reducible apply TA.take 2); (· decide +kernel); (· rfl); (· first | (first | exact yA | exact yB | exact yM | exact yV) | exact Y.slice_from rfl rfl (show (1 : Int) = (1 : Nat) from rfl) (by omega) hcs HO.out); (· decide +kernel); (· decide +kernel); (· rfl); (· exact fun _ _ _ h => h); (· rfl)) | ((with_reducible apply TA.take 3); (· decide +kernel); (· rfl); (· first | (first | exact yA | exact yB | exact yM | exact yV) | exact Y.slice_from rfl rfl (show (1 : Int) = (1 : Nat) from rfl) (by omega) hcs HO.out); (· decide +kernel); (· decide +kernel); (· rfl); (· exact fun _ _ _ h => h); (· rfl)) | ((with_reducible apply TA.take 4); (· decide +kernel); (· rfl); (· first | (first | exact yA | exact yB | exact yM | exact yV) | exact Y.slice_from rfl rfl (show (1 : Int) = (1 : Nat) from rfl) (by omega) hcs HO.out); (· decide +kernel); (· decide +kernel); (· rfl); (· exact fun _ _ _ h => h); (· rfl)) | ((with_reducible apply TA.take 5); (· decide +kernel); (· rfl); (· first | (first | exact yA | exact yB | exact yM | exact yV) | exact Y.slice_from rfl rfl (show (1 : Int) = (1 : Nat) from rfl) (by omega) hcs HO.out); (· decide +kernel); (· decide +kernel); (· rfl); (· exact fun _ _ _ h => h); (· rfl)) | ((with_reducible apply TA.take 6); (· decide +kernel); (· rfl); (· first | (first | exact yA | exact yB | exact yM | exact yV) | exact Y.slice_from rfl rfl (show (1 : Int) = (1 : Nat) from rfl) (by omega) hcs HO.out); (· decide +kernel); (· decide +kernel); (· rfl); (· exact fun _ _ _ h => h); (· rfl)) | ((with_reducible apply TA.take 8); (· decide +kernel); (· rfl); (· first | (first | exact yA | exact yB | exact yM | exact yV) | exact Y.slice_from rfl rfl (show (1 : Int) = (1 : Nat) from rfl) (by omega) hcs HO.out); (· decide +kernel); (· decide +kernel); (· rfl); (· exact fun _ _ _ h => h); (· rfl)) | ((with_reducible apply TA.take 9); (· decide +kernel); (· rfl); (· first | (first | exact yA | exact yB | exact yM | exact yV) | exact Y.slice_from rfl rfl (show (1 : Int) = (1 : Nat) from rfl) (by omega) hcs HO.out); (· decide +kernel); (· decide +kernel); (· rfl); (· exact fun _ _ _ h => h); (· rfl)) | ((with_reducible apply TA.take 10); (· decide +kernel); (· rfl); (· first | (first | exact yA | exact yB | exact yM | exact yV) | exact Y.slice_from rfl rfl (show (1 : Int) = (1 : Nat) from rfl) (by omega) hcs HO.out); (· decide +kernel); (· decide +kernel); (· rfl); (· exact fun _ _ _ h => h); (· rfl)) | ((with_reducible apply TA.take 11); (· decide +kernel); (· rfl); (· first | (first | exact yA | exact yB | exact yM | exact yV) | exact Y.slice_from rfl rfl (show (1 : Int) = (1 : Nat) from rfl) (by omega) hcs HO.out); (· decide +kernel); (· decide +kernel); (· rfl); (· exact fun _ _ _ h => h); (· rfl)) | ((with_reducible apply TA.take 12); (· decide +kernel); (· rfl); (· first | (first | exact yA | exact yB | exact yM | exact yV) | exact Y.slice_from rfl rfl (show (1 : Int) = (1 : Nat) from rfl) (by omega) hcs HO.out); (· decide +kernel); (· decide +kernel); (· rfl); (· exact fun _ _ _ h => h); (· rfl)) | ((with_reducible apply TA.one 7); (· rfl); (· decide +kernel); (· rfl)) | refine TQ.any leA selA ?_ | refine TC.region_any 13 (.row 20 1 (.slice (some ⟨bv, 0, none⟩) xs.length ci) xs.length flat :: L) (by kernel_rfl) rfl selA ?_ | refine TA.done (by decide +kernel) ?_ | ((with_reducible apply TL.store_row); (· rfl); (· rfl); (· first | rfl | assumption); (· exact pkA); (· omega)) | refine stS ?_ | fail)
    refine TQ.rowE (xs := flat.set (0 + k * 1) vz) (ys := flat.set k vz) pkA (by rw [show 0 + k * 1 = k by omega]) ?_
    refine TQ.unpart3 (M1 := MA) (M2 := Mz) (M3 := MC) pkA pkA pkA ?_
    refine TQ.gcons (e := .row 20 1 (.slice (some ⟨bv, 0, none⟩) xs.length ci) xs.length (flat.set k vz)) (M := MA ++ (Mz ++ MC)) pkA pkA ?_
    refine TQ.endR2 (L' := (grp (.row 20 1 (.slice (some ⟨bv, 0, none⟩) xs.length ci) xs.length (flat.set k vz) :: (MA ++ (Mz ++ MC))) :: L)) Tryz.results132 rvA rvA rfl (.refl _) ?_ selA
    refine ⟨_, true, rfl, rfl, rfl, rfl, _, rfl, ?_⟩
    rw [TrJ, List.length_set]
    exact ⟨_, _, _, _, rfl, rfl, HM.out _ _ _ hz⟩
end Go.Proofs.YthngolfabfijpaaGreatDoor
namespace Go.Proofs.YthngolfabfijpaaGreatDoor
open Go.RowKit Go.TL
set_option maxRecDepth 100000

set_option maxHeartbeats 32000000 in
theorem put_list_new (s : List UInt8) (r : List (List UInt8)) (IH0 : PutOk r) (hl : ∀ t ∈ s :: r, t.length ≤ 1000000) (hl2 : (s :: r).length ≤ 1000) (xs : List J) (k : Nat) (y : J) (v u sv : Value) (M N : List Ent) (g : Gh) (L : List Ent) (hM : TrJ (.list xs) v M) (hN : TrJ y u N) (hs : Sl g sv (s :: r).length 1 (strs (s :: r))) (hS : smJ (.list xs)) (hE : GErr g) (hT : GTabs g) (hi : itemL s = some k) (_hkb : k = xs.length) : Does Tryz.prog 132 #[v, sv, u] g (grp M :: grp N :: L) (PutR (putJ (s :: r) (.list xs) y) g L) := by
  have IH := IH0 (fun s hs => hl s (by simp [hs])) (by simp at hl2; omega)
  have hsl := hl s (by simp)
  rw [List.length_cons] at hs hl2
  obtain ⟨ao, cap, rfl⟩ := hs.slice
  obtain ⟨bs, os, os', rfl, hcs, hos, hld0, hs1⟩ := Sl.from1 hs rfl
  have I := fun L => pitem_gives s g L hsl hE hT
  have HO := Hn.mk hos
  have hN1 := hN.one
  have hM1 := hM.one
  clear hos hs
  refine Does.of3 Tryz.func132 rfl Tryz.ntmps132 rfl ?_
  rw [TrJ] at hM
  obtain ⟨ai, ci, flat, Ms, rfl, rfl, hMs⟩ := hM
  rw [smJ] at hS
  obtain ⟨hxl, hS⟩ := hS
  refine TC.guncons pkA ?_
  rw [putJ]
  rw [hi]
  have hv : itemV s = (k : Nat) := by unfold itemV; rw [hi]; exact if_pos (by omega)
  rw [hv] at I
  obtain rfl : k = xs.length := by omega
  have hno : xs[xs.length]? = none := List.getElem?_eq_none (by omega)
  try dsimp only
  rw [hno]
  try dsimp only
  rw [if_pos rfl]
  repeat' (first | refine wkV ?_ | ((with_reducible apply TL.gives_plain); (· kernel_rfl); (· rfl); (· exact I _); (· rfl)) | ((with_reducible apply TL.build_slice); (· rfl); (· rfl); (· exact oneA); (· rfl); (· rfl); (· rfl); intro _) | refine TL.build_empty (by rfl) (fun _ => ?_) | ((with_reducible apply TL.append); (· rfl); (· rfl); (· rfl); (· rfl); (· exact pkA); (· first | exact Src.obj pkA | exact Src.sl (by assumption) | exact Src.row pkA); (· first | rfl | exact (byteVals_length _).trans (Nat.mul_one _).symm); (· first | exact byteVals_all _ | exact oneA); (· exact ⟨by unfold maxLen; omega, by omega⟩); (· rfl); intro _) | refine stS ?_ | fail)
  rename_i b0 b1 v'
  clear I
  refine TC.row_form (v := v') pkA (by omega) ?_
  rintro bv cv rfl hfl
  refine TC.obj_row (b := b0) (k := 0) (sz := 2) pkA rfl (by decide) ?_
  refine TC.grp_nil ?_
  refine TC.gcons (e := .row 47 2 (.slice (some ⟨b0, 0, none⟩) 0 0) 0 []) (M := []) pkA pkA ?_
  rw [List.length_append] at hfl
  have hfl : flat.length = xs.length := by simp at hfl; omega
  have A := fun L0 => IH (.obj [] []) y (.iface 43 (.slice (some ⟨b0, 0, none⟩) 0 0)) u (.slice (some ⟨bs, os', none⟩) r.length (cap - 1)) [.row 47 2 (.slice (some ⟨b0, 0, none⟩) 0 0) 0 []] N g L0 (by rw [TrJ]; exact ⟨_, _, [], [], rfl, rfl, by rw [TrMs]; exact ⟨rfl, rfl⟩⟩) hN hs1 (by rw [smJ]; exact ⟨by simp, by simp, by rw [smJs]; trivial⟩) hE hT
  unfold PutR at A
  have hll : (flat ++ [Value.iface 43 (.slice (some ⟨b0, 0, none⟩) 0 0)]).length = xs.length + 1 := by simp [hfl]
  have hld : (flat ++ [Value.iface 43 (.slice (some ⟨b0, 0, none⟩) 0 0)])[0 + xs.length * 1]? = some (.iface 43 (.slice (some ⟨b0, 0, none⟩) 0 0)) := by rw [Nat.zero_add, Nat.mul_one, ← hfl, List.getElem?_append_right (by omega)]; simp
  cases hp : putJ r (.obj [] []) y with
  | none =>
    rw [hp] at A
    clear hs1 IH hN hMs hS
    repeat' (first | refine wkV ?_ | (refine TL.call (Enters.plain (by kernel_rfl) (by rfl)) (by rfl) (Does.perm (A _) (Pk.cons pkA (Pk.cons pkA (List.Perm.refl _)))) ?_; (rintro e g1 Ln _ ⟨vz, bz, k1, k2, hz1, hz⟩; have k2 := k2.symm; subst k1; subst k2; (obtain ⟨rfl, rfl⟩ := hz); refine CallK.ret ?_)) | ((with_reducible apply TA.take 0); (· decide +kernel); (· rfl); (· first | (first | exact yA | exact yB | exact yM | exact yV) | exact Y.slice_from rfl rfl (show (1 : Int) = (1 : Nat) from rfl) (by omega) hcs HO.out); (· decide +kernel); (· decide +kernel); (· rfl); (· exact fun _ _ _ h => h); (· rfl)) | ((with_reducible apply TA.take 1); (· decide +kernel); (· rfl); (· first | (first | exact yA | exact yB | exact yM | exact yV) | exact Y.slice_from rfl rfl (show (1 : Int) = (1 : Nat) from rfl) (by omega) hcs HO.out); (· decide +kernel); (· decide +kernel); (· rfl); (· exact fun _ _ _ h => h); (· rfl)) | ((with_reducible apply TA.take 2); (· decide +kernel); (· rfl); (· first | (first | exact yA | exact yB | exact yM | exact yV) | exact Y.slice_from rfl rfl (show (1 : Int) = (1 : Nat) from rfl) (by omega) hcs HO.out); (· decide +kernel); (· decide +kernel); (· rfl); (· exact fun _ _ _ h => h); (· rfl)) | ((with_reducible apply TA.take 3); (· decide +kernel); (· rfl); (· first | (first | exact yA | exact yB | exact yM | exact yV) | exact Y.slice_from rfl rfl (show (1 : Int) = (1 : Nat) from rfl) (by omega) hcs HO.out); (· decide +kernel); (· decide +kernel); (· rfl); (· exact fun _ _ _ h => h); (· rfl)) | ((with_reducible apply TA.take 4); (· decide +kernel); (· rfl); (· first | (first | exact yA | exact yB | exact yM | exact yV) | exact Y.slice_from rfl rfl (show (1 : Int) = (1 : Nat) from rfl) (by omega) hcs HO.out); (· decide +kernel); (· decide +kernel); (· rfl); (· exact fun _ _ _ h => h); (· rfl)) | ((with_reducible apply TA.take 5); (· decide +kernel); (· rfl); (· first | (first | exact yA | exact yB | exact yM | exact yV) | exact Y.slice_from rfl rfl (show (1 : Int) = (1 : Nat) from rfl) (by omega) hcs HO.out); (· decide +kernel); (· decide +kernel); (· rfl); (· exact fun _ _ _ h => h); (· rfl)) | ((with_reducible apply TA.take 6); (· decide +kernel); (· rfl); (· first | (first | exact yA | exact yB | exact yM | exact yV) | exact Y.slice_from rfl rfl (show (1 : Int) = (1 : Nat) from rfl) (by omega) hcs HO.out); (· decide +kernel); (· decide +kernel); (· rfl); (· exact fun _ _ _ h => h); (· rfl)) | ((with_reducible apply TA.take 8); (· decide +kernel); (· rfl); (· first | (first | exact yA | exact yB | exact yM | exact yV) | exact Y.slice_from rfl rfl (show (1 : Int) = (1 : Nat) from rfl) (by omega) hcs HO.out); (· decide +kernel); (· decide +kernel); (· rfl); (· exact fun _ _ _ h => h); (· rfl)) | ((with_reducible apply TA.take 9); (· decide +kernel); (· rfl); (· first | (first | exact yA | exact yB | exact yM | exact yV) | exact Y.slice_from rfl rfl (show (1 : Int) = (1 : Nat) from rfl) (by omega) hcs HO.out); (· decide +kernel); (· decide +kernel); (· rfl); (· exact fun _ _ _ h => h); (· rfl)) | ((with_reducible apply TA.take 10); (· decide +kernel); (· rfl); (· first | (first | exact yA | exact yB | exact yM | exact yV) | exact Y.slice_from rfl rfl (show (1 : Int) = (1 : Nat) from rfl) (by omega) hcs HO.out); (· decide +kernel); (· decide +kernel); (· rfl); (· exact fun _ _ _ h => h); (· rfl)) | ((with_reducible apply TA.take 11); (· decide +kernel); (· rfl); (· first | (first | exact yA | exact yB | exact yM | exact yV) | exact Y.slice_from rfl rfl (show (1 : Int) = (1 : Nat) from rfl) (by omega) hcs HO.out); (· decide +kernel); (· decide +kernel); (· rfl); (· exact fun _ _ _ h => h); (· rfl)) | ((with_reducible apply TA.take 12); (· decide +kernel); (· rfl); (· first | (first | exact yA | exact yB | exact yM | exact yV) | exact Y.slice_from rfl rfl (show (1 : Int) = (1 : Nat) from rfl) (by omega) hcs HO.out); (· decide +kernel); (· decide +kernel); (· rfl); (· exact fun _ _ _ h => h); (· rfl)) | ((with_reducible apply TA.one 7); (· rfl); (· decide +kernel); (· rfl)) | refine TQ.any leA selA ?_ | refine TC.region_any 13 (.row 20 1 (.slice (some ⟨bv, 0, none⟩) (xs.length + 1) cv) (xs.length + 1) (flat ++ [Value.iface 43 (.slice (some ⟨b0, 0, none⟩) 0 0)]) :: L) (by kernel_rfl) rfl selA ?_ | refine TA.done (by decide +kernel) ?_ | ((with_reducible apply TL.store_row); (· rfl); (· rfl); (· first | rfl | assumption); (· exact pkA); (· omega)) | refine stS ?_ | fail)
    refine TQ.endR2 (L' := L) Tryz.results132 rvA rvA rfl (.refl _) ?_ selA
    exact ⟨_, false, rfl, rfl, rfl, rfl, rfl⟩
  | some z =>
    rw [hp] at A
    have HM := Hn.mk (And.intro hMs hfl)
    clear hs1 IH hN hMs hS hfl
    repeat' (first | refine wkV ?_ | (refine TL.call (Enters.plain (by kernel_rfl) (by rfl)) (by rfl) (Does.perm (A _) (Pk.cons pkA (Pk.cons pkA (List.Perm.refl _)))) ?_; (rintro e g1 Ln _ ⟨vz, bz, k1, k2, hz1, hz⟩; have k2 := k2.symm; subst k1; subst k2; (obtain ⟨rfl, Mz, rfl, hz⟩ := hz); refine CallK.ret ?_)) | ((with_reducible apply TA.take 0); (· decide +kernel); (· rfl); (· first | (first | exact yA | exact yB | exact yM | exact yV) | exact Y.slice_from rfl rfl (show (1 : Int) = (1 : Nat) from rfl) (by omega) hcs HO.out); (· decide +kernel); (· decide +kernel); (· rfl); (· exact fun _ _ _ h => h); (· rfl)) | ((with_reducible apply TA.take 1); (· decide +kernel); (· rfl); (· first | (first | exact yA | exact yB | exact yM | exact yV) | exact Y.slice_from rfl rfl (show (1 : Int) = (1 : Nat) from rfl) (by omega) hcs HO.out); (· decide +kernel); (· decide +kernel); (· rfl); (· exact fun _ _ _ h => h); (· rfl)) | ((with_reducible apply TA.take 2); (· decide +kernel); (· rfl); (· first | (first | exact yA | exact yB | exact yM | exact yV) | exact Y.slice_from rfl rfl (show (1 : Int) = (1 : Nat) from rfl) (by omega) hcs HO.out); (· decide +kernel); (· decide +kernel); (· rfl); (· exact fun _ _ _ h => h); (· rfl)) | ((with_reducible apply TA.take 3); (· decide +kernel); (· rfl); (· first | (first | exact yA | exact yB | exact yM | exact yV) | exact Y.slice_from rfl rfl (show (1 : Int) = (1 : Nat) from rfl) (by omega) hcs HO.out); (· decide +kernel); (· decide +kernel); (· rfl); (· exact fun _ _ _ h => h); (· rfl)) | ((with_reducible apply TA.take 4); (· decide +kernel); (· rfl); (· first | (first | exact yA | exact yB | exact yM | exact yV) | exact Y.slice_from rfl rfl (show (1 : Int) = (1 : Nat) from rfl) (by omega) hcs HO.out); (· decide +kernel); (· decide +kernel); (· rfl); (· exact fun _ _ _ h => h); (· rfl)) | ((with_reducible apply TA.take 5); (· decide +kernel); (· rfl); (· first | (first | exact yA | exact yB | exact yM | exact yV) | exact Y.slice_from rfl rfl (show (1 : Int) = (1 : Nat) from rfl) (by omega) hcs HO.out); (· decide +kernel); (· decide +kernel); (· rfl); (· exact fun _ _ _ h => h); (· rfl)) | ((with_reducible apply TA.take 6); (· decide +kernel); (· rfl); (· first | (first | exact yA | exact yB | exact yM | exact yV) | exact Y.slice_from rfl rfl (show (1 : Int) = (1 : Nat) from rfl) (by omega) hcs HO.out); (· decide +kernel); (· decide +kernel); (· rfl); (· exact fun _ _ _ h => h); (· rfl)) | ((with_reducible apply TA.take 8); (· decide +kernel); (· rfl); (· first | (first | exact yA | exact yB | exact yM | exact yV) | exact Y.slice_from rfl rfl (show (1 : Int) = (1 : Nat) from rfl) (by omega) hcs HO.out); (· decide +kernel); (· decide +kernel); (· rfl); (· exact fun _ _ _ h => h); (· rfl)) | ((with_reducible apply TA.take 9); (· decide +kernel); (· rfl); (· first | (first | exact yA | exact yB | exact yM | exact yV) | exact Y.slice_from rfl rfl (show (1 : Int) = (1 : Nat) from rfl) (by omega) hcs HO.out); (· decide +kernel); (· decide +kernel); (· rfl); (· exact fun _ _ _ h => h); (· rfl)) | ((with_reducible apply TA.take 10); (· decide +kernel); (· rfl); (· first | (first | exact yA | exact yB | exact yM | exact yV) | exact Y.slice_from rfl rfl (show (1 : Int) = (1 : Nat) from rfl) (by omega) hcs HO.out); (· decide +kernel); (· decide +kernel); (· rfl); (· exact fun _ _ _ h => h); (· rfl)) | ((with_reducible apply TA.take 11); (· decide +kernel); (· rfl); (· first | (first | exact yA | exact yB | exact yM | exact yV) | exact Y.slice_from rfl rfl (show (1 : Int) = (1 : Nat) from rfl) (by omega) hcs HO.out); (· decide +kernel); (· decide +kernel); (· rfl); (· exact fun _ _ _ h => h); (· rfl)) | ((with_reducible apply TA.take 12); (· decide +kernel); (· rfl); (· first | (first | exact yA | exact yB | exact yM | exact yV) | exact Y.slice_from rfl rfl (show (1 : Int) = (1 : Nat) from rfl) (by omega) hcs HO.out); (· decide +kernel); (· decide +kernel); (· rfl); (· exact fun _ _ _ h => h); (· rfl)) | ((with_reducible apply TA.one 7); (· rfl); (· decide +kernel); (· rfl)) | refine TQ.any leA selA ?_ | refine TC.region_any 13 (.row 20 1 (.slice (some ⟨bv, 0, none⟩) (xs.length + 1) cv) (xs.length + 1) (flat ++ [Value.iface 43 (.slice (some ⟨b0, 0, none⟩) 0 0)]) :: L) (by kernel_rfl) rfl selA ?_ | refine TA.done (by decide +kernel) ?_ | ((with_reducible apply TL.store_row); (· rfl); (· rfl); (· first | rfl | assumption); (· exact pkA); (· omega)) | refine stS ?_ | fail)
    obtain ⟨hMs, hfl⟩ := HM.out
    have hset : (flat ++ [Value.iface 43 (.slice (some ⟨b0, 0, none⟩) 0 0)]).set (0 + xs.length * 1) vz = flat ++ [vz] := by rw [Nat.zero_add, Nat.mul_one, ← hfl, List.set_append_right _ _ (by omega), Nat.sub_self]; rfl
    refine TQ.rowE (xs := (flat ++ [Value.iface 43 (.slice (some ⟨b0, 0, none⟩) 0 0)]).set (0 + xs.length * 1) vz) pkA hset ?_
    refine TQ.join (M1 := Mz) (M2 := Ms) pkA pkA ?_
    refine TQ.gcons (e := .row 20 1 (.slice (some ⟨bv, 0, none⟩) (xs.length + 1) cv) (xs.length + 1) (flat ++ [vz])) (M := Ms ++ Mz) pkA pkA ?_
    refine TQ.endR2 (L' := (grp (.row 20 1 (.slice (some ⟨bv, 0, none⟩) (xs.length + 1) cv) (xs.length + 1) (flat ++ [vz]) :: (Ms ++ Mz)) :: L)) Tryz.results132 rvA rvA rfl (.refl _) ?_ selA
    refine ⟨_, true, rfl, rfl, rfl, rfl, _, rfl, ?_⟩
    rw [TrJ, show (xs ++ [z]).length = xs.length + 1 by simp]
    exact ⟨_, _, _, _, rfl, rfl, hMs.snoc hz⟩
set_option maxHeartbeats 32000000 in
theorem put_flat (s : List UInt8) (r : List (List UInt8)) (IH0 : PutOk r) (hl : ∀ t ∈ s :: r, t.length ≤ 1000000) (hl2 : (s :: r).length ≤ 1000) (x : J) (hx1 : ∀ xs, x ≠ .list xs) (hx2 : ∀ ns xs, x ≠ .obj ns xs) (y : J) (v u sv : Value) (M N : List Ent) (g : Gh) (L : List Ent) (hM : TrJ x v M) (hN : TrJ y u N) (hs : Sl g sv (s :: r).length 1 (strs (s :: r))) (hS : smJ x) (hE : GErr g) (hT : GTabs g) : Does Tryz.prog 132 #[v, sv, u] g (grp M :: grp N :: L) (PutR (putJ (s :: r) x y) g L) := by
  have IH := IH0 (fun s hs => hl s (by simp [hs])) (by simp at hl2; omega)
  have hsl := hl s (by simp)
  rw [List.length_cons] at hs hl2
  obtain ⟨ao, cap, rfl⟩ := hs.slice
  obtain ⟨bs, os, os', rfl, hcs, hos, hld0, hs1⟩ := Sl.from1 hs rfl
  have I := fun L => pitem_gives s g L hsl hE hT
  have HO := Hn.mk hos
  have hN1 := hN.one
  have hM1 := hM.one
  clear hos hs
  refine Does.of3 Tryz.func132 rfl Tryz.ntmps132 rfl ?_
  cases x with
  | obj ns xs => exact absurd rfl (hx2 ns xs)
  | list xs => exact absurd rfl (hx1 xs)
  | _ =>
    rw [TrJ] at hM
    first | (obtain ⟨rfl, _, _⟩ := hM) | (obtain ⟨rfl, _⟩ := hM)
    rw [putJ] <;> first | (intro _ _ h; cases h; done) | (intro _ h; cases h; done) | skip
    clear hs1 IH hN I hS
    repeat' (first | refine wkV ?_ | refine stS ?_ | fail)
    refine TQ.endR2 (L' := L) Tryz.results132 rvA rvA rfl (.refl _) ?_ selA
    exact ⟨_, false, rfl, rfl, rfl, rfl, rfl⟩
end Go.Proofs.YthngolfabfijpaaGreatDoor
