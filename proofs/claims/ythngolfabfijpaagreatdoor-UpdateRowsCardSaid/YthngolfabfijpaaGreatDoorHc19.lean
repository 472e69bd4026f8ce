/-
  The walk of path.put: a member that there is.
-/
import Derived.Test.YthngolfabfijpaaGreatDoorHc2
import Derived.Test.YthngolfabfijpaaGreatDoorHc17
namespace Go.Proofs.YthngolfabfijpaaGreatDoor
open Go.RowKit Go.TL
set_option maxRecDepth 100000

set_option maxHeartbeats 32000000 in
theorem put_obj_old (s : List UInt8) (r : List (List UInt8)) (IH0 : PutOk r) (hl : ∀ t ∈ s :: r, t.length ≤ 1000000) (hl2 : (s :: r).length ≤ 1000) (ns : List (List UInt8)) (xs : List J) (k : Nat) (y : J) (v u sv : Value) (M N : List Ent) (g : Gh) (L : List Ent) (hM : TrJ (.obj ns xs) v M) (hN : TrJ y u N) (hs : Sl g sv (s :: r).length 1 (strs (s :: r))) (hS : smJ (.obj ns xs)) (hE : GErr g) (hT : GTabs g) (hk : idxN ns s = some k) : Does Tryz.prog 132 #[v, sv, u] g (grp M :: grp N :: L) (PutR (putJ (s :: r) (.obj ns xs) y) g L) := by
  have IH := IH0 (fun s hs => hl s (by simp [hs])) (by simp at hl2; omega)
  have hsl := hl s (by simp)
  rw [List.length_cons] at hs hl2
  obtain ⟨ao, cap, rfl⟩ := hs.slice
  obtain ⟨bs, os, os', rfl, hcs, hos, hld0, hs1⟩ := Sl.from1 hs rfl
  have I := fun L => pitem_gives s g L hsl hE hT
  have HO := Hn.mk hos
  have hN1 := hN.one
  have hM1 := hM.one
  clear hos hs
  refine Does.of3 Tryz.func132 rfl Tryz.ntmps132 rfl ?_
  rw [TrJ] at hM
  obtain ⟨ai, ci, flat, Ms, rfl, rfl, hMs⟩ := hM
  have hnx := hMs.len
  have hMem := hMs.mem
  rw [smJ] at hS
  obtain ⟨hxl, hnl, hS⟩ := hS
  have P := fun L L' (pk : Pick (.row 47 2 (.slice ai xs.length ci) xs.length flat) L L') => Gives.borrow_row' (g := g) (fun g' L _ hsl => pmember_gives ns s ai xs.length ci flat g' L hnx (by omega) hsl hMem) pk
  refine TC.guncons pkA ?_
  rw [putJ]
  rw [hk]
  try dsimp only
  have hv : idxV ns s = (k : Nat) := by unfold idxV; rw [hk]
  rw [hv] at P
  have hkl := idxN_lt hk
  obtain ⟨y', hy'⟩ : ∃ y', xs[k]? = some y' := ⟨_, List.getElem?_eq_getElem (by omega)⟩
  obtain ⟨s', v', MA, MB, MC, e0, e1, e2, rfl, e3, e4⟩ := hMs.at hy'
  try dsimp only
  rw [hy']
  have A := fun L0 => IH y' y v' u (.slice (some ⟨bs, os', none⟩) r.length (cap - 1)) MB N g L0 e3 hN hs1 (smJs_get hS hy') hE hT
  unfold PutR at A
  have ho' := e3.one
  refine TC.part3 (M1 := MA) (M2 := MB) (M3 := MC) pkA ?_
  refine TC.row_form (v := .slice ai xs.length ci) pkA (by omega) ?_
  intro bv cv e hfl
  obtain ⟨rfl, rfl⟩ : ai = some ⟨bv, 0, none⟩ ∧ ci = cv := by simpa using e
  have hld : flat[0 + k * 2 + 1]? = some v' := by rw [Nat.zero_add]; exact e2
  have hkb : k < xs.length := by omega
  try dsimp only
  cases hp : putJ r y' y with
  | none =>
    rw [hp] at A
    clear hs1 IH hN hMs hMem hS hnl e4 e3 e2 e1 e0 e hk
    repeat' (first
    | refine wkV ?_
    | ((with_reducible apply TL.gives_plain); (· kernel_rfl); (· rfl); (· exact P _ _ pkA); (· rfl))
    | (refine TL.call (Enters.plain (by kernel_rfl) (by rfl)) (by rfl) (Does.perm (A _) (Pk.cons pkA (Pk.cons pkA (List.Perm.refl _)))) ?_; (rintro e g1 Ln _ ⟨vz, bz, k1, k2, hz1, hz⟩; have k2 := k2.symm; subst k1; subst k2; (obtain ⟨rfl, rfl⟩ := hz); refine CallK.ret ?_))
    | ((with_reducible apply TA.take 0); (· decide +kernel); (· rfl); (· first | (first | exact yA | exact yB | exact yM | exact yV) | exact Y.slice_from rfl rfl (show (1 : Int) = (1 : Nat) from rfl) (by omega) hcs HO.out); (· decide +kernel); (· decide +kernel); (· rfl); (· exact fun _ _ _ h => h); (· rfl))
    | ((with_reducible apply TA.take 1); (· decide +kernel); (· rfl); (· first | (first | exact yA | exact yB | exact yM | exact yV) | exact Y.slice_from rfl rfl (show (1 : Int) = (1 : Nat) from rfl) (by omega) hcs HO.out); (· decide +kernel); (· decide +kernel); (· rfl); (· exact fun _ _ _ h => h); (· rfl))
    | ((with_reducible apply TA.take 2); (· decide +kernel); (· rfl); (· first | (first | exact yA | exact yB | exact yM | exact yV) | exact Y.slice_from rfl rfl (show (1 : Int) = (1 : Nat) from rfl) (by omega) hcs HO.out); (· decide +kernel); (· decide +kernel); (· rfl); (· exact fun _ _ _ h => h); (· rfl))
    | ((with_reducible apply TA.take 3); (· decide +kernel); (· rfl); (· first | (first | exact yA | exact yB | exact yM | exact yV) | exact Y.slice_from rfl rfl (show (1 : Int) = (1 : Nat) from rfl) (by omega) hcs HO.out); (· decide +kernel); (· decide +kernel); (· rfl); (· exact fun _ _ _ h => h); (· rfl))
    | ((with_reducible apply TA.take 4); (· decide +kernel); (· rfl); (· first | (first | exact yA | exact yB | exact yM | exact yV) | exact Y.slice_from rfl rfl (show (1 : Int) = (1 : Nat) from rfl) (by omega) hcs HO.out); (· decide +kernel); (· decide +kernel); (· rfl); (· exact fun _ _ _ h => h); (· rfl))
    | ((with_reducible apply TA.take 5); (· decide +kernel); (· rfl); (· first | (first | exact yA | exact yB | exact yM | exact yV) | exact Y.slice_from rfl rfl (show (1 : Int) = (1 : Nat) from rfl) (by omega) hcs HO.out); (· decide +kernel); (· decide +kernel); (· rfl); (· exact fun _ _ _ h => h); (· rfl))
    | ((with_reducible apply TA.take 6); (· decide +kernel); (· rfl); (· first | (first | exact yA | exact yB | exact yM | exact yV) | exact Y.slice_from rfl rfl (show (1 : Int) = (1 : Nat) from rfl) (by omega) hcs HO.out); (· decide +kernel); (· decide +kernel); (· rfl); (· exact fun _ _ _ h => h); (· rfl))
    | ((with_reducible apply TA.take 7); (· decide +kernel); (· rfl); (· first | (first | exact yA | exact yB | exact yM | exact yV) | exact Y.slice_from rfl rfl (show (1 : Int) = (1 : Nat) from rfl) (by omega) hcs HO.out); (· decide +kernel); (· decide +kernel); (· rfl); (· exact fun _ _ _ h => h); (· rfl))
    | ((with_reducible apply TA.take 8); (· decide +kernel); (· rfl); (· first | (first | exact yA | exact yB | exact yM | exact yV) | exact Y.slice_from rfl rfl (show (1 : Int) = (1 : Nat) from rfl) (by omega) hcs HO.out); (· decide +kernel); (· decide +kernel); (· rfl); (· exact fun _ _ _ h => h); (· rfl))
    | ((with_reducible apply TA.take 9); (· decide +kernel); (· rfl); (· first | (first | exact yA | exact yB | exact yM | exact yV) | exact Y.slice_from rfl rfl (show (1 : Int) = (1 : Nat) from rfl) (by omega) hcs HO.out); (· decide +kernel); (· decide +kernel); (· rfl); (· exact fun _ _ _ h => h); (· rfl))
    | ((with_reducible apply TA.take 10); (· decide +kernel); (· rfl); (· first | (first | exact yA | exact yB | exact yM | exact yV) | exact Y.slice_from rfl rfl (show (1 : Int) = (1 : Nat) from rfl) (by omega) hcs HO.out); (· decide +kernel); (· decide +kernel); (· rfl); (· exact fun _ _ _ h => h); (· rfl))
    | ((with_reducible apply TA.take 11); (· decide +kernel); (· rfl); (· first | (first | exact yA | exact yB | exact yM | exact yV) | exact Y.slice_from rfl rfl (show (1 : Int) = (1 : Nat) from rfl) (by omega) hcs HO.out); (· decide +kernel); (· decide +kernel); (· rfl); (· exact fun _ _ _ h => h); (· rfl))
    | ((with_reducible apply TA.take 12); (· decide +kernel); (· rfl); (· first | (first | exact yA | exact yB | exact yM | exact yV) | exact Y.slice_from rfl rfl (show (1 : Int) = (1 : Nat) from rfl) (by omega) hcs HO.out); (· decide +kernel); (· decide +kernel); (· rfl); (· exact fun _ _ _ h => h); (· rfl))
    | ((with_reducible apply TA.take 13); (· decide +kernel); (· rfl); (· first | (first | exact yA | exact yB | exact yM | exact yV) | exact Y.slice_from rfl rfl (show (1 : Int) = (1 : Nat) from rfl) (by omega) hcs HO.out); (· decide +kernel); (· decide +kernel); (· rfl); (· exact fun _ _ _ h => h); (· rfl))
    | ((with_reducible apply TA.one 0); (· rfl); (· decide +kernel); (· rfl))
    | ((with_reducible apply TA.one 1); (· rfl); (· decide +kernel); (· rfl))
    | ((with_reducible apply TA.one 2); (· rfl); (· decide +kernel); (· rfl))
    | ((with_reducible apply TA.one 3); (· rfl); (· decide +kernel); (· rfl))
    | ((with_reducible apply TA.one 4); (· rfl); (· decide +kernel); (· rfl))
    | ((with_reducible apply TA.one 5); (· rfl); (· decide +kernel); (· rfl))
    | ((with_reducible apply TA.one 6); (· rfl); (· decide +kernel); (· rfl))
    | ((with_reducible apply TA.one 7); (· rfl); (· decide +kernel); (· rfl))
    | ((with_reducible apply TA.one 8); (· rfl); (· decide +kernel); (· rfl))
    | ((with_reducible apply TA.one 9); (· rfl); (· decide +kernel); (· rfl))
    | ((with_reducible apply TA.one 10); (· rfl); (· decide +kernel); (· rfl))
    | ((with_reducible apply TA.one 11); (· rfl); (· decide +kernel); (· rfl))
    | ((with_reducible apply TA.one 12); (· rfl); (· decide +kernel); (· rfl))
    | ((with_reducible apply TA.one 13); (· rfl); (· decide +kernel); (· rfl))
    | refine TQ.any leA selA ?_
    | refine TC.region_any 14 (.row 47 2 (.slice (some ⟨bv, 0, none⟩) xs.length ci) xs.length flat :: L) (by kernel_rfl) rfl selA ?_ | refine TA.done (by decide +kernel) ?_ | refine TQ.any_panic ?_
    | ((with_reducible apply TL.store_row); (· rfl); (· rfl); (· first | rfl | assumption); (· exact pkA); (· omega))
    | refine stS ?_ | (refine stB ?_; intro _) | (refine stC ?_; refine And.intro (fun _ => ?_) (fun _ => ?_)))
    refine TQ.endR2 (L' := L) Tryz.results132 rvA rvA rfl (.refl _) ?_ selA
    exact ⟨_, false, rfl, rfl, rfl, rfl, rfl⟩
  | some z =>
    rw [hp] at A
    have HM := Hn.mk e4
    clear hs1 IH hN hMs hMem hS hnl e4 e3 e2 e1 e0 e hk
    repeat' (first
    | refine wkV ?_
    | ((with_reducible apply TL.gives_plain); (· kernel_rfl); (· rfl); (· exact P _ _ pkA); (· rfl))
    | (refine TL.call (Enters.plain (by kernel_rfl) (by rfl)) (by rfl) (Does.perm (A _) (Pk.cons pkA (Pk.cons pkA (List.Perm.refl _)))) ?_; (rintro e g1 Ln _ ⟨vz, bz, k1, k2, hz1, hz⟩; have k2 := k2.symm; subst k1; subst k2; (obtain ⟨rfl, Mz, rfl, hz⟩ := hz); refine CallK.ret ?_))
    | ((with_reducible apply TA.take 0); (· decide +kernel); (· rfl); (· first | (first | exact yA | exact yB | exact yM | exact yV) | exact Y.slice_from rfl rfl (show (1 : Int) = (1 : Nat) from rfl) (by omega) hcs HO.out); (· decide +kernel); (· decide +kernel); (· rfl); (· exact fun _ _ _ h => h); (· rfl))
    | ((with_reducible apply TA.take 1); (· decide +kernel); (· rfl); (· first | (first | exact yA | exact yB | exact yM | exact yV) | exact Y.slice_from rfl rfl (show (1 : Int) = (1 : Nat) from rfl) (by omega) hcs HO.out); (· decide +kernel); (· decide +kernel); (· rfl); (· exact fun _ _ _ h => h); (· rfl))
    | ((with_reducible apply TA.take 2); (· decide +kernel); (· rfl); (· first | (first | exact yA | exact yB | exact yM | exact yV) | exact Y.slice_from rfl rfl (show (1 : Int) = (1 : Nat) from rfl) (by omega) hcs HO.out); (· decide +kernel); (· decide +kernel); (· rfl); (· exact fun _ _ _ h => h); (· rfl))
    | ((with_reducible apply TA.take 3); (· decide +kernel); (· rfl); (· first | (first | exact yA | exact yB | exact yM | exact yV) | exact Y.slice_from rfl rfl (show (1 : Int) = (1 : Nat) from rfl) (by omega) hcs HO.out); (· decide +kernel); (· decide +kernel); (· rfl); (· exact fun _ _ _ h => h); (· rfl))
    | ((with_reducible apply TA.take 4); (· decide +kernel); (· rfl); (· first | (first | exact yA | exact yB | exact yM | exact yV) | exact Y.slice_from rfl rfl (show (1 : Int) = (1 : Nat) from rfl) (by omega) hcs HO.out); (· decide +kernel); (· decide +kernel); (· rfl); (· exact fun _ _ _ h => h); (· rfl))
    | ((with_reducible apply TA.take 5); (· decide +kernel); (· rfl); (· first | (first | exact yA | exact yB | exact yM | exact yV) | exact Y.slice_from rfl rfl (show (1 : Int) = (1 : Nat) from rfl) (by omega) hcs HO.out); (· decide +kernel); (· decide +kernel); (· rfl); (· exact fun _ _ _ h => h); (· rfl))
    | ((with_reducible apply TA.take 6); (· decide +kernel); (· rfl); (· first | (first | exact yA | exact yB | exact yM | exact yV) | exact Y.slice_from rfl rfl (show (1 : Int) = (1 : Nat) from rfl) (by omega) hcs HO.out); (· decide +kernel); (· decide +kernel); (· rfl); (· exact fun _ _ _ h => h); (· rfl))
    | ((with_reducible apply TA.take 7); (· decide +kernel); (· rfl); (· first | (first | exact yA | exact yB | exact yM | exact yV) | exact Y.slice_from rfl rfl (show (1 : Int) = (1 : Nat) from rfl) (by omega) hcs HO.out); (· decide +kernel); (· decide +kernel); (· rfl); (· exact fun _ _ _ h => h); (· rfl))
    | ((with_reducible apply TA.take 8); (· decide +kernel); (· rfl); (· first | (first | exact yA | exact yB | exact yM | exact yV) | exact Y.slice_from rfl rfl (show (1 : Int) = (1 : Nat) from rfl) (by omega) hcs HO.out); (· decide +kernel); (· decide +kernel); (· rfl); (· exact fun _ _ _ h => h); (· rfl))
    | ((with_reducible apply TA.take 9); (· decide +kernel); (· rfl); (· first | (first | exact yA | exact yB | exact yM | exact yV) | exact Y.slice_from rfl rfl (show (1 : Int) = (1 : Nat) from rfl) (by omega) hcs HO.out); (· decide +kernel); (· decide +kernel); (· rfl); (· exact fun _ _ _ h => h); (· rfl))
    | ((with_reducible apply TA.take 10); (· decide +kernel); (· rfl); (· first | (first | exact yA | exact yB | exact yM | exact yV) | exact Y.slice_from rfl rfl (show (1 : Int) = (1 : Nat) from rfl) (by omega) hcs HO.out); (· decide +kernel); (· decide +kernel); (· rfl); (· exact fun _ _ _ h => h); (· rfl))
    | ((with_reducible apply TA.take 11); (· decide +kernel); (· rfl); (· first | (first | exact yA | exact yB | exact yM | exact yV) | exact Y.slice_from rfl rfl (show (1 : Int) = (1 : Nat) from rfl) (by omega) hcs HO.out); (· decide +kernel); (· decide +kernel); (· rfl); (· exact fun _ _ _ h => h); (· rfl))
    | ((with_reducible apply TA.take 12); (· decide +kernel); (· rfl); (· first | (first | exact yA | exact yB | exact yM | exact yV) | exact Y.slice_from rfl rfl (show (1 : Int) = (1 : Nat) from rfl) (by omega) hcs HO.out); (· decide +kernel); (· decide +kernel); (· rfl); (· exact fun _ _ _ h => h); (· rfl))
    | ((with_reducible apply TA.take 13); (· decide +kernel); (· rfl); (· first | (first | exact yA | exact yB | exact yM | exact yV) | exact Y.slice_from rfl rfl (show (1 : Int) = (1 : Nat) from rfl) (by omega) hcs HO.out); (· decide +kernel); (· decide +kernel); (· rfl); (· exact fun _ _ _ h => h); (· rfl))
    | ((with_reducible apply TA.one 0); (· rfl); (· decide +kernel); (· rfl))
    | ((with_reducible apply TA.one 1); (· rfl); (· decide +kernel); (· rfl))
    | ((with_reducible apply TA.one 2); (· rfl); (· decide +kernel); (· rfl))
    | ((with_reducible apply TA.one 3); (· rfl); (· decide +kernel); (· rfl))
    | ((with_reducible apply TA.one 4); (· rfl); (· decide +kernel); (· rfl))
    | ((with_reducible apply TA.one 5); (· rfl); (· decide +kernel); (· rfl))
    | ((with_reducible apply TA.one 6); (· rfl); (· decide +kernel); (· rfl))
    | ((with_reducible apply TA.one 7); (· rfl); (· decide +kernel); (· rfl))
    | ((with_reducible apply TA.one 8); (· rfl); (· decide +kernel); (· rfl))
    | ((with_reducible apply TA.one 9); (· rfl); (· decide +kernel); (· rfl))
    | ((with_reducible apply TA.one 10); (· rfl); (· decide +kernel); (· rfl))
    | ((with_reducible apply TA.one 11); (· rfl); (· decide +kernel); (· rfl))
    | ((with_reducible apply TA.one 12); (· rfl); (· decide +kernel); (· rfl))
    | ((with_reducible apply TA.one 13); (· rfl); (· decide +kernel); (· rfl))
    | refine TQ.any leA selA ?_
    | refine TC.region_any 14 (.row 47 2 (.slice (some ⟨bv, 0, none⟩) xs.length ci) xs.length flat :: L) (by kernel_rfl) rfl selA ?_ | refine TA.done (by decide +kernel) ?_ | refine TQ.any_panic ?_
    | ((with_reducible apply TL.store_row); (· rfl); (· rfl); (· first | rfl | assumption); (· exact pkA); (· omega))
    | refine stS ?_ | (refine stB ?_; intro _) | (refine stC ?_; refine And.intro (fun _ => ?_) (fun _ => ?_)))
    refine TQ.rowE (xs := flat.set (0 + k * 2 + 1) vz) (ys := flat.set (k * 2 + 1) vz) pkA (by rw [show 0 + k * 2 + 1 = k * 2 + 1 by omega]) ?_
    refine TQ.unpart3 (M1 := MA) (M2 := Mz) (M3 := MC) pkA pkA pkA ?_
    refine TQ.gcons (e := .row 47 2 (.slice (some ⟨bv, 0, none⟩) xs.length ci) xs.length (flat.set (k * 2 + 1) vz)) (M := MA ++ (Mz ++ MC)) pkA pkA ?_
    refine TQ.endR2 (L' := (grp (.row 47 2 (.slice (some ⟨bv, 0, none⟩) xs.length ci) xs.length (flat.set (k * 2 + 1) vz) :: (MA ++ (Mz ++ MC))) :: L)) Tryz.results132 rvA rvA rfl (.refl _) ?_ selA
    refine ⟨_, true, rfl, rfl, rfl, rfl, _, rfl, ?_⟩
    rw [TrJ, List.length_set]
    exact ⟨_, _, _, _, rfl, rfl, HM.out _ _ _ hz⟩
end Go.Proofs.YthngolfabfijpaaGreatDoor
