/-
  The walk of path.put: an item more; other values.
-/
import Derived.Test.YthngolfabfijpaaGreatDoorHc2
import Derived.Test.YthngolfabfijpaaGreatDoorHc17
namespace Go.Proofs.YthngolfabfijpaaGreatDoor
open Go.RowKit Go.TL
set_option maxRecDepth 100000

set_option maxHeartbeats 32000000 in
theorem put_list_new (s : List UInt8) (r : List (List UInt8)) (IH0 : PutOk r) (hl : ∀ t ∈ s :: r, t.length ≤ 1000000) (hl2 : (s :: r).length ≤ 1000) (xs : List J) (k : Nat) (y : J) (v u sv : Value) (M N : List Ent) (g : Gh) (L : List Ent) (hM : TrJ (.list xs) v M) (hN : TrJ y u N) (hs : Sl g sv (s :: r).length 1 (strs (s :: r))) (hS : smJ (.list xs)) (hE : GErr g) (hT : GTabs g) (hi : itemL s = some k) (_hkb : k = xs.length) : Does Tryz.prog 132 #[v, sv, u] g (grp M :: grp N :: L) (PutR (putJ (s :: r) (.list xs) y) g L) := by
  have IH := IH0 (fun s hs => hl s (by simp [hs])) (by simp at hl2; omega)
  have hsl := hl s (by simp)
  rw [List.length_cons] at hs hl2
  obtain ⟨ao, cap, rfl⟩ := hs.slice
  obtain ⟨bs, os, os', rfl, hcs, hos, hld0, hs1⟩ := Sl.from1 hs rfl
  have I := fun L => pitem_gives s g L hsl hE hT
  have HO := Hn.mk hos
  have hN1 := hN.one
  have hM1 := hM.one
  clear hos hs
  refine Does.of3 Tryz.func132 rfl Tryz.ntmps132 rfl ?_
  rw [TrJ] at hM
  obtain ⟨ai, ci, flat, Ms, rfl, rfl, hMs⟩ := hM
  rw [smJ] at hS
  obtain ⟨hxl, hS⟩ := hS
  refine TC.guncons pkA ?_
  rw [putJ]
  rw [hi]
  have hv : itemV s = (k : Nat) := by unfold itemV; rw [hi]; exact if_pos (by omega)
  rw [hv] at I
  obtain rfl : k = xs.length := by omega
  have hno : xs[xs.length]? = none := List.getElem?_eq_none (by omega)
  try dsimp only
  rw [hno]
  try dsimp only
  rw [if_pos rfl]
  repeat' (first
    | refine wkV ?_
    | ((with_reducible apply TL.gives_plain); (· kernel_rfl); (· rfl); (· exact I _); (· rfl)) | ((with_reducible apply TW.gives_plain); (· kernel_rfl); (· rfl); (· exact I _); (· rfl))
    | ((with_reducible apply TL.build_slice); (· rfl); (· rfl); (· exact oneA); (· rfl); (· rfl); (· rfl); intro _) | refine TL.build_one (by rfl) (by first | rfl | assumption) (by rfl) (by rfl) (by rfl) (by rfl) (fun _ => ?_) | refine TL.build_empty (by rfl) (fun _ => ?_)
    | ((with_reducible apply TL.append); (· rfl); (· rfl); (· rfl); (· rfl); (· exact pkA); (· first | exact Src.obj pkA | exact Src.sl (by assumption) | exact Src.row pkA); (· first | rfl | exact (byteVals_length _).trans (Nat.mul_one _).symm); (· first | exact byteVals_all _ | exact oneA); (· exact ⟨by unfold maxLen; omega, by omega⟩); (· rfl); intro _)
    | refine stS ?_ | (refine stB ?_; intro _) | (refine stC ?_; refine And.intro (fun _ => ?_) (fun _ => ?_)))
  rename_i b0 b1 v'
  clear I
  refine TC.row_form (v := v') pkA (by omega) ?_
  rintro bv cv rfl hfl
  refine TC.obj_row (b := b0) (k := 0) (sz := 2) pkA rfl (by decide) ?_
  refine TC.grp_nil ?_
  refine TC.gcons (e := .row 47 2 (.slice (some ⟨b0, 0, none⟩) 0 0) 0 []) (M := []) pkA pkA ?_
  rw [List.length_append] at hfl
  have hfl : flat.length = xs.length := by simp at hfl; omega
  have A := fun L0 => IH (.obj [] []) y (.iface 43 (.slice (some ⟨b0, 0, none⟩) 0 0)) u (.slice (some ⟨bs, os', none⟩) r.length (cap - 1)) [.row 47 2 (.slice (some ⟨b0, 0, none⟩) 0 0) 0 []] N g L0 (by rw [TrJ]; exact ⟨_, _, [], [], rfl, rfl, by rw [TrMs]; exact ⟨rfl, rfl⟩⟩) hN hs1 (by rw [smJ]; exact ⟨by simp, by simp, by rw [smJs]; trivial⟩) hE hT
  unfold PutR at A
  have hll : (flat ++ [Value.iface 43 (.slice (some ⟨b0, 0, none⟩) 0 0)]).length = xs.length + 1 := by simp [hfl]
  have hld : (flat ++ [Value.iface 43 (.slice (some ⟨b0, 0, none⟩) 0 0)])[0 + xs.length * 1]? = some (.iface 43 (.slice (some ⟨b0, 0, none⟩) 0 0)) := by rw [Nat.zero_add, Nat.mul_one, ← hfl, List.getElem?_append_right (by omega)]; simp
  cases hp : putJ r (.obj [] []) y with
  | none =>
    rw [hp] at A
    clear hs1 IH hN hMs hS
    repeat' (first
    | refine wkV ?_
    | (refine TL.call (Enters.plain (by kernel_rfl) (by rfl)) (by rfl) (Does.perm (A _) (Pk.cons pkA (Pk.cons pkA (List.Perm.refl _)))) ?_; (rintro e g1 Ln _ ⟨vz, bz, k1, k2, hz1, hz⟩; have k2 := k2.symm; subst k1; subst k2; (obtain ⟨rfl, rfl⟩ := hz); refine CallK.ret ?_))
    | ((with_reducible apply TA.take 0); (· decide +kernel); (· rfl); (· first | (first | exact yA | exact yB | exact yM | exact yV) | exact Y.slice_from rfl rfl (show (1 : Int) = (1 : Nat) from rfl) (by omega) hcs HO.out); (· decide +kernel); (· decide +kernel); (· rfl); (· exact fun _ _ _ h => h); (· rfl))
    | ((with_reducible apply TA.take 1); (· decide +kernel); (· rfl); (· first | (first | exact yA | exact yB | exact yM | exact yV) | exact Y.slice_from rfl rfl (show (1 : Int) = (1 : Nat) from rfl) (by omega) hcs HO.out); (· decide +kernel); (· decide +kernel); (· rfl); (· exact fun _ _ _ h => h); (· rfl))
    | ((with_reducible apply TA.take 2); (· decide +kernel); (· rfl); (· first | (first | exact yA | exact yB | exact yM | exact yV) | exact Y.slice_from rfl rfl (show (1 : Int) = (1 : Nat) from rfl) (by omega) hcs HO.out); (· decide +kernel); (· decide +kernel); (· rfl); (· exact fun _ _ _ h => h); (· rfl))
    | ((with_reducible apply TA.take 3); (· decide +kernel); (· rfl); (· first | (first | exact yA | exact yB | exact yM | exact yV) | exact Y.slice_from rfl rfl (show (1 : Int) = (1 : Nat) from rfl) (by omega) hcs HO.out); (· decide +kernel); (· decide +kernel); (· rfl); (· exact fun _ _ _ h => h); (· rfl))
    | ((with_reducible apply TA.take 4); (· decide +kernel); (· rfl); (· first | (first | exact yA | exact yB | exact yM | exact yV) | exact Y.slice_from rfl rfl (show (1 : Int) = (1 : Nat) from rfl) (by omega) hcs HO.out); (· decide +kernel); (· decide +kernel); (· rfl); (· exact fun _ _ _ h => h); (· rfl))
    | ((with_reducible apply TA.take 5); (· decide +kernel); (· rfl); (· first | (first | exact yA | exact yB | exact yM | exact yV) | exact Y.slice_from rfl rfl (show (1 : Int) = (1 : Nat) from rfl) (by omega) hcs HO.out); (· decide +kernel); (· decide +kernel); (· rfl); (· exact fun _ _ _ h => h); (· rfl))
    | ((with_reducible apply TA.take 6); (· decide +kernel); (· rfl); (· first | (first | exact yA | exact yB | exact yM | exact yV) | exact Y.slice_from rfl rfl (show (1 : Int) = (1 : Nat) from rfl) (by omega) hcs HO.out); (· decide +kernel); (· decide +kernel); (· rfl); (· exact fun _ _ _ h => h); (· rfl))
    | ((with_reducible apply TA.take 7); (· decide +kernel); (· rfl); (· first | (first | exact yA | exact yB | exact yM | exact yV) | exact Y.slice_from rfl rfl (show (1 : Int) = (1 : Nat) from rfl) (by omega) hcs HO.out); (· decide +kernel); (· decide +kernel); (· rfl); (· exact fun _ _ _ h => h); (· rfl))
    | ((with_reducible apply TA.take 8); (· decide +kernel); (· rfl); (· first | (first | exact yA | exact yB | exact yM | exact yV) | exact Y.slice_from rfl rfl (show (1 : Int) = (1 : Nat) from rfl) (by omega) hcs HO.out); (· decide +kernel); (· decide +kernel); (· rfl); (· exact fun _ _ _ h => h); (· rfl))
    | ((with_reducible apply TA.take 9); (· decide +kernel); (· rfl); (· first | (first | exact yA | exact yB | exact yM | exact yV) | exact Y.slice_from rfl rfl (show (1 : Int) = (1 : Nat) from rfl) (by omega) hcs HO.out); (· decide +kernel); (· decide +kernel); (· rfl); (· exact fun _ _ _ h => h); (· rfl))
    | ((with_reducible apply TA.take 10); (· decide +kernel); (· rfl); (· first | (first | exact yA | exact yB | exact yM | exact yV) | exact Y.slice_from rfl rfl (show (1 : Int) = (1 : Nat) from rfl) (by omega) hcs HO.out); (· decide +kernel); (· decide +kernel); (· rfl); (· exact fun _ _ _ h => h); (· rfl))
    | ((with_reducible apply TA.take 11); (· decide +kernel); (· rfl); (· first | (first | exact yA | exact yB | exact yM | exact yV) | exact Y.slice_from rfl rfl (show (1 : Int) = (1 : Nat) from rfl) (by omega) hcs HO.out); (· decide +kernel); (· decide +kernel); (· rfl); (· exact fun _ _ _ h => h); (· rfl))
    | ((with_reducible apply TA.take 12); (· decide +kernel); (· rfl); (· first | (first | exact yA | exact yB | exact yM | exact yV) | exact Y.slice_from rfl rfl (show (1 : Int) = (1 : Nat) from rfl) (by omega) hcs HO.out); (· decide +kernel); (· decide +kernel); (· rfl); (· exact fun _ _ _ h => h); (· rfl))
    | ((with_reducible apply TA.one 0); (· rfl); (· decide +kernel); (· rfl))
    | ((with_reducible apply TA.one 1); (· rfl); (· decide +kernel); (· rfl))
    | ((with_reducible apply TA.one 2); (· rfl); (· decide +kernel); (· rfl))
    | ((with_reducible apply TA.one 3); (· rfl); (· decide +kernel); (· rfl))
    | ((with_reducible apply TA.one 4); (· rfl); (· decide +kernel); (· rfl))
    | ((with_reducible apply TA.one 5); (· rfl); (· decide +kernel); (· rfl))
    | ((with_reducible apply TA.one 6); (· rfl); (· decide +kernel); (· rfl))
    | ((with_reducible apply TA.one 7); (· rfl); (· decide +kernel); (· rfl))
    | ((with_reducible apply TA.one 8); (· rfl); (· decide +kernel); (· rfl))
    | ((with_reducible apply TA.one 9); (· rfl); (· decide +kernel); (· rfl))
    | ((with_reducible apply TA.one 10); (· rfl); (· decide +kernel); (· rfl))
    | ((with_reducible apply TA.one 11); (· rfl); (· decide +kernel); (· rfl))
    | ((with_reducible apply TA.one 12); (· rfl); (· decide +kernel); (· rfl))
    | refine TQ.any leA selA ?_
    | refine TC.region_any 13 (.row 20 1 (.slice (some ⟨bv, 0, none⟩) (xs.length + 1) cv) (xs.length + 1) (flat ++ [Value.iface 43 (.slice (some ⟨b0, 0, none⟩) 0 0)]) :: L) (by kernel_rfl) rfl selA ?_ | refine TA.done (by decide +kernel) ?_ | refine TQ.any_panic ?_
    | ((with_reducible apply TL.store_row); (· rfl); (· rfl); (· first | rfl | assumption); (· exact pkA); (· omega))
    | refine stS ?_ | (refine stB ?_; intro _) | (refine stC ?_; refine And.intro (fun _ => ?_) (fun _ => ?_)))
    refine TQ.endR2 (L' := L) Tryz.results132 rvA rvA rfl (.refl _) ?_ selA
    exact ⟨_, false, rfl, rfl, rfl, rfl, rfl⟩
  | some z =>
    rw [hp] at A
    have HM := Hn.mk (And.intro hMs hfl)
    clear hs1 IH hN hMs hS hfl
    repeat' (first
    | refine wkV ?_
    | (refine TL.call (Enters.plain (by kernel_rfl) (by rfl)) (by rfl) (Does.perm (A _) (Pk.cons pkA (Pk.cons pkA (List.Perm.refl _)))) ?_; (rintro e g1 Ln _ ⟨vz, bz, k1, k2, hz1, hz⟩; have k2 := k2.symm; subst k1; subst k2; (obtain ⟨rfl, Mz, rfl, hz⟩ := hz); refine CallK.ret ?_))
    | ((with_reducible apply TA.take 0); (· decide +kernel); (· rfl); (· first | (first | exact yA | exact yB | exact yM | exact yV) | exact Y.slice_from rfl rfl (show (1 : Int) = (1 : Nat) from rfl) (by omega) hcs HO.out); (· decide +kernel); (· decide +kernel); (· rfl); (· exact fun _ _ _ h => h); (· rfl))
    | ((with_reducible apply TA.take 1); (· decide +kernel); (· rfl); (· first | (first | exact yA | exact yB | exact yM | exact yV) | exact Y.slice_from rfl rfl (show (1 : Int) = (1 : Nat) from rfl) (by omega) hcs HO.out); (· decide +kernel); (· decide +kernel); (· rfl); (· exact fun _ _ _ h => h); (· rfl))
    | ((with_reducible apply TA.take 2); (· decide +kernel); (· rfl); (· first | (first | exact yA | exact yB | exact yM | exact yV) | exact Y.slice_from rfl rfl (show (1 : Int) = (1 : Nat) from rfl) (by omega) hcs HO.out); (· decide +kernel); (· decide +kernel); (· rfl); (· exact fun _ _ _ h => h); (· rfl))
    | ((with_reducible apply TA.take 3); (· decide +kernel); (· rfl); (· first | (first | exact yA | exact yB | exact yM | exact yV) | exact Y.slice_from rfl rfl (show (1 : Int) = (1 : Nat) from rfl) (by omega) hcs HO.out); (· decide +kernel); (· decide +kernel); (· rfl); (· exact fun _ _ _ h => h); (· rfl))
    | ((with_reducible apply TA.take 4); (· decide +kernel); (· rfl); (· first | (first | exact yA | exact yB | exact yM | exact yV) | exact Y.slice_from rfl rfl (show (1 : Int) = (1 : Nat) from rfl) (by omega) hcs HO.out); (· decide +kernel); (· decide +kernel); (· rfl); (· exact fun _ _ _ h => h); (· rfl))
    | ((with_reducible apply TA.take 5); (· decide +kernel); (· rfl); (· first | (first | exact yA | exact yB | exact yM | exact yV) | exact Y.slice_from rfl rfl (show (1 : Int) = (1 : Nat) from rfl) (by omega) hcs HO.out); (· decide +kernel); (· decide +kernel); (· rfl); (· exact fun _ _ _ h => h); (· rfl))
    | ((with_reducible apply TA.take 6); (· decide +kernel); (· rfl); (· first | (first | exact yA | exact yB | exact yM | exact yV) | exact Y.slice_from rfl rfl (show (1 : Int) = (1 : Nat) from rfl) (by omega) hcs HO.out); (· decide +kernel); (· decide +kernel); (· rfl); (· exact fun _ _ _ h => h); (· rfl))
    | ((with_reducible apply TA.take 7); (· decide +kernel); (· rfl); (· first | (first | exact yA | exact yB | exact yM | exact yV) | exact Y.slice_from rfl rfl (show (1 : Int) = (1 : Nat) from rfl) (by omega) hcs HO.out); (· decide +kernel); (· decide +kernel); (· rfl); (· exact fun _ _ _ h => h); (· rfl))
    | ((with_reducible apply TA.take 8); (· decide +kernel); (· rfl); (· first | (first | exact yA | exact yB | exact yM | exact yV) | exact Y.slice_from rfl rfl (show (1 : Int) = (1 : Nat) from rfl) (by omega) hcs HO.out); (· decide +kernel); (· decide +kernel); (· rfl); (· exact fun _ _ _ h => h); (· rfl))
    | ((with_reducible apply TA.take 9); (· decide +kernel); (· rfl); (· first | (first | exact yA | exact yB | exact yM | exact yV) | exact Y.slice_from rfl rfl (show (1 : Int) = (1 : Nat) from rfl) (by omega) hcs HO.out); (· decide +kernel); (· decide +kernel); (· rfl); (· exact fun _ _ _ h => h); (· rfl))
    | ((with_reducible apply TA.take 10); (· decide +kernel); (· rfl); (· first | (first | exact yA | exact yB | exact yM | exact yV) | exact Y.slice_from rfl rfl (show (1 : Int) = (1 : Nat) from rfl) (by omega) hcs HO.out); (· decide +kernel); (· decide +kernel); (· rfl); (· exact fun _ _ _ h => h); (· rfl))
    | ((with_reducible apply TA.take 11); (· decide +kernel); (· rfl); (· first | (first | exact yA | exact yB | exact yM | exact yV) | exact Y.slice_from rfl rfl (show (1 : Int) = (1 : Nat) from rfl) (by omega) hcs HO.out); (· decide +kernel); (· decide +kernel); (· rfl); (· exact fun _ _ _ h => h); (· rfl))
    | ((with_reducible apply TA.take 12); (· decide +kernel); (· rfl); (· first | (first | exact yA | exact yB | exact yM | exact yV) | exact Y.slice_from rfl rfl (show (1 : Int) = (1 : Nat) from rfl) (by omega) hcs HO.out); (· decide +kernel); (· decide +kernel); (· rfl); (· exact fun _ _ _ h => h); (· rfl))
    | ((with_reducible apply TA.one 0); (· rfl); (· decide +kernel); (· rfl))
    | ((with_reducible apply TA.one 1); (· rfl); (· decide +kernel); (· rfl))
    | ((with_reducible apply TA.one 2); (· rfl); (· decide +kernel); (· rfl))
    | ((with_reducible apply TA.one 3); (· rfl); (· decide +kernel); (· rfl))
    | ((with_reducible apply TA.one 4); (· rfl); (· decide +kernel); (· rfl))
    | ((with_reducible apply TA.one 5); (· rfl); (· decide +kernel); (· rfl))
    | ((with_reducible apply TA.one 6); (· rfl); (· decide +kernel); (· rfl))
    | ((with_reducible apply TA.one 7); (· rfl); (· decide +kernel); (· rfl))
    | ((with_reducible apply TA.one 8); (· rfl); (· decide +kernel); (· rfl))
    | ((with_reducible apply TA.one 9); (· rfl); (· decide +kernel); (· rfl))
    | ((with_reducible apply TA.one 10); (· rfl); (· decide +kernel); (· rfl))
    | ((with_reducible apply TA.one 11); (· rfl); (· decide +kernel); (· rfl))
    | ((with_reducible apply TA.one 12); (· rfl); (· decide +kernel); (· rfl))
    | refine TQ.any leA selA ?_
    | refine TC.region_any 13 (.row 20 1 (.slice (some ⟨bv, 0, none⟩) (xs.length + 1) cv) (xs.length + 1) (flat ++ [Value.iface 43 (.slice (some ⟨b0, 0, none⟩) 0 0)]) :: L) (by kernel_rfl) rfl selA ?_ | refine TA.done (by decide +kernel) ?_ | refine TQ.any_panic ?_
    | ((with_reducible apply TL.store_row); (· rfl); (· rfl); (· first | rfl | assumption); (· exact pkA); (· omega))
    | refine stS ?_ | (refine stB ?_; intro _) | (refine stC ?_; refine And.intro (fun _ => ?_) (fun _ => ?_)))
    obtain ⟨hMs, hfl⟩ := HM.out
    have hset : (flat ++ [Value.iface 43 (.slice (some ⟨b0, 0, none⟩) 0 0)]).set (0 + xs.length * 1) vz = flat ++ [vz] := by rw [Nat.zero_add, Nat.mul_one, ← hfl, List.set_append_right _ _ (by omega), Nat.sub_self]; rfl
    refine TQ.rowE (xs := (flat ++ [Value.iface 43 (.slice (some ⟨b0, 0, none⟩) 0 0)]).set (0 + xs.length * 1) vz) pkA hset ?_
    refine TQ.join (M1 := Mz) (M2 := Ms) pkA pkA ?_
    refine TQ.gcons (e := .row 20 1 (.slice (some ⟨bv, 0, none⟩) (xs.length + 1) cv) (xs.length + 1) (flat ++ [vz])) (M := Ms ++ Mz) pkA pkA ?_
    refine TQ.endR2 (L' := (grp (.row 20 1 (.slice (some ⟨bv, 0, none⟩) (xs.length + 1) cv) (xs.length + 1) (flat ++ [vz]) :: (Ms ++ Mz)) :: L)) Tryz.results132 rvA rvA rfl (.refl _) ?_ selA
    refine ⟨_, true, rfl, rfl, rfl, rfl, _, rfl, ?_⟩
    rw [TrJ, show (xs ++ [z]).length = xs.length + 1 by simp]
    exact ⟨_, _, _, _, rfl, rfl, hMs.snoc hz⟩
set_option maxHeartbeats 32000000 in
theorem put_flat (s : List UInt8) (r : List (List UInt8)) (IH0 : PutOk r) (hl : ∀ t ∈ s :: r, t.length ≤ 1000000) (hl2 : (s :: r).length ≤ 1000) (x : J) (hx1 : ∀ xs, x ≠ .list xs) (hx2 : ∀ ns xs, x ≠ .obj ns xs) (y : J) (v u sv : Value) (M N : List Ent) (g : Gh) (L : List Ent) (hM : TrJ x v M) (hN : TrJ y u N) (hs : Sl g sv (s :: r).length 1 (strs (s :: r))) (hS : smJ x) (hE : GErr g) (hT : GTabs g) : Does Tryz.prog 132 #[v, sv, u] g (grp M :: grp N :: L) (PutR (putJ (s :: r) x y) g L) := by
  have IH := IH0 (fun s hs => hl s (by simp [hs])) (by simp at hl2; omega)
  have hsl := hl s (by simp)
  rw [List.length_cons] at hs hl2
  obtain ⟨ao, cap, rfl⟩ := hs.slice
  obtain ⟨bs, os, os', rfl, hcs, hos, hld0, hs1⟩ := Sl.from1 hs rfl
  have I := fun L => pitem_gives s g L hsl hE hT
  have HO := Hn.mk hos
  have hN1 := hN.one
  have hM1 := hM.one
  clear hos hs
  refine Does.of3 Tryz.func132 rfl Tryz.ntmps132 rfl ?_
  cases x with
  | obj ns xs => exact absurd rfl (hx2 ns xs)
  | list xs => exact absurd rfl (hx1 xs)
  | _ =>
    rw [TrJ] at hM
    first | (obtain ⟨rfl, _, _⟩ := hM) | (obtain ⟨rfl, _⟩ := hM)
    rw [putJ] <;> first | (intro _ _ h; cases h; done) | (intro _ h; cases h; done) | skip
    clear hs1 IH hN I hS
    repeat' (first
    | refine wkV ?_
    | refine stS ?_ | (refine stB ?_; intro _) | (refine stC ?_; refine And.intro (fun _ => ?_) (fun _ => ?_)))
    refine TQ.endR2 (L' := L) Tryz.results132 rvA rvA rfl (.refl _) ?_ selA
    exact ⟨_, false, rfl, rfl, rfl, rfl, rfl⟩
end Go.Proofs.YthngolfabfijpaaGreatDoor
