/-
  What drop does; trees without a part. The walk of path.drop: members.
-/
import Derived.Test.YthngolfabfijpaaGreatDoorHc22
import Derived.Test.YthngolfabfijpaaGreatDoorHc2
namespace Go.Proofs.YthngolfabfijpaaGreatDoor
open Go.RowKit Go.TL
set_option maxRecDepth 100000

def DropOk (l : List (List UInt8)) : Prop := (∀ s ∈ l, s.length ≤ 1000000) → l.length ≤ 1000 → ∀ (x : J) (v sv : Value) (M : List Ent) (g : Gh) (L : List Ent), TrJ x v M → Sl g sv l.length 1 (strs l) → smJ x → GErr g → GTabs g → Does Tryz.prog 159 #[v, sv] g (grp M :: L) (PutR (dropJ l x) g L)
theorem TrJs.ones : ∀ {l : List J} {flat : List Value} {M : List Ent}, TrJs l flat M → ∀ u ∈ flat, u.one = true
  | [], flat, M, h, u, hu => by rw [TrJs] at h; obtain ⟨rfl, _⟩ := h; cases hu
  | x :: r, flat, M, h, u, hu => by
    rw [TrJs] at h
    obtain ⟨v, fl, M1, M2, rfl, rfl, h1, h2⟩ := h
    rcases List.mem_cons.1 hu with rfl | hu
    · exact h1.one
    · exact h2.ones u hu
theorem TrMs.ones : ∀ {ns : List (List UInt8)} {l : List J} {flat : List Value} {M : List Ent}, TrMs ns l flat M → ∀ u ∈ flat, u.one = true
  | [], [], flat, M, h, u, hu => by rw [TrMs] at h; obtain ⟨rfl, _⟩ := h; cases hu
  | n :: ns, x :: r, flat, M, h, u, hu => by
    rw [TrMs] at h
    obtain ⟨v, fl, M1, M2, rfl, rfl, h1, h2⟩ := h
    rcases List.mem_cons.1 hu with rfl | hu
    · rfl
    rcases List.mem_cons.1 hu with rfl | hu
    · exact h1.one
    · exact h2.ones u hu
  | [], _ :: _, _, _, h, _, _ => by rw [TrMs] at h; exact h.elim
  | _ :: _, [], _, _, h, _, _ => by rw [TrMs] at h; exact h.elim
theorem TrJs.delE : ∀ {l : List J} {flat : List Value} {M : List Ent} {i : Nat} {x : J}, TrJs l flat M → l[i]? = some x → ∃ v A B C, M = A ++ (B ++ C) ∧ TrJ x v B ∧ flat[i]? = some v ∧ TrJs (l.eraseIdx i) (flat.take i ++ flat.drop (i + 1)) (A ++ C) ∧ (∀ x' v' M', TrJ x' v' M' → TrJs (l.set i x') (flat.set i v') (A ++ (M' ++ C)))
  | [], _, _, _, _, _, h => by simp at h
  | y :: r, flat, M, 0, x, h, hx => by
    rw [TrJs] at h
    obtain ⟨u, fl, M1, M2, rfl, rfl, h1, h2⟩ := h
    obtain rfl : y = x := by simpa using hx
    refine ⟨u, [], M1, M2, rfl, h1, rfl, by simpa using h2, fun x' v' M' h' => ?_⟩
    rw [List.set_cons_zero, List.set_cons_zero, TrJs]
    exact ⟨v', fl, M', M2, rfl, rfl, h', h2⟩
  | y :: r, flat, M, i + 1, x, h, hx => by
    rw [TrJs] at h
    obtain ⟨u, fl, M1, M2, rfl, rfl, h1, h2⟩ := h
    obtain ⟨v, A, B, C, rfl, e3, e4, e5, e6⟩ := h2.delE (i := i) (by simpa using hx)
    refine ⟨v, M1 ++ A, B, C, by rw [List.append_assoc], e3, by simpa using e4, ?_, fun x' v' M' h' => ?_⟩
    · rw [List.eraseIdx_cons_succ, List.take_succ_cons, List.drop_succ_cons, List.cons_append, TrJs]
      exact ⟨u, _, M1, _, rfl, by rw [List.append_assoc], h1, e5⟩
    · rw [List.set_cons_succ, List.set_cons_succ, TrJs]
      exact ⟨u, _, M1, _, rfl, by rw [List.append_assoc], h1, e6 x' v' M' h'⟩
theorem TrMs.delE : ∀ {ns : List (List UInt8)} {l : List J} {flat : List Value} {M : List Ent} {i : Nat} {x : J}, TrMs ns l flat M → l[i]? = some x → ∃ v A B C, M = A ++ (B ++ C) ∧ TrJ x v B ∧ flat[i * 2 + 1]? = some v ∧ TrMs (ns.eraseIdx i) (l.eraseIdx i) (flat.take (i * 2) ++ flat.drop ((i + 1) * 2)) (A ++ C) ∧ (∀ x' v' M', TrJ x' v' M' → TrMs ns (l.set i x') (flat.set (i * 2 + 1) v') (A ++ (M' ++ C)))
  | [], [], _, _, _, _, _, h => by simp at h
  | n :: ns, y :: r, flat, M, 0, x, h, hx => by
    rw [TrMs] at h
    obtain ⟨u, fl, M1, M2, rfl, rfl, h1, h2⟩ := h
    obtain rfl : y = x := by simpa using hx
    refine ⟨u, [], M1, M2, rfl, h1, rfl, by simpa using h2, fun x' v' M' h' => ?_⟩
    show TrMs (n :: ns) (x' :: r) (str n :: v' :: fl) (M' ++ M2)
    rw [TrMs]
    exact ⟨v', fl, M', M2, rfl, rfl, h', h2⟩
  | n :: ns, y :: r, flat, M, i + 1, x, h, hx => by
    rw [TrMs] at h
    obtain ⟨u, fl, M1, M2, rfl, rfl, h1, h2⟩ := h
    obtain ⟨v, A, B, C, rfl, e3, e4, e5, e6⟩ := h2.delE (i := i) (by simpa using hx)
    refine ⟨v, M1 ++ A, B, C, by rw [List.append_assoc], e3, ?_, ?_, fun x' v' M' h' => ?_⟩
    · rw [show (i + 1) * 2 + 1 = i * 2 + 1 + 1 + 1 by omega]; simpa using e4
    · rw [show (i + 1) * 2 = i * 2 + 1 + 1 by omega, show (i + 1 + 1) * 2 = (i + 1) * 2 + 1 + 1 by omega, List.eraseIdx_cons_succ, List.eraseIdx_cons_succ, List.take_succ_cons, List.take_succ_cons, List.drop_succ_cons, List.drop_succ_cons, List.cons_append, List.cons_append, TrMs]
      exact ⟨u, _, M1, _, rfl, by rw [List.append_assoc], h1, e5⟩
    · rw [show (i + 1) * 2 + 1 = i * 2 + 1 + 1 + 1 by omega, List.set_cons_succ, List.set_cons_succ, List.set_cons_succ, TrMs]
      exact ⟨u, _, M1, _, rfl, by rw [List.append_assoc], h1, e6 x' v' M' h'⟩
  | [], _ :: _, _, _, _, _, h, _ => by rw [TrMs] at h; exact h.elim
  | _ :: _, [], _, _, _, _, h, _ => by rw [TrMs] at h; exact h.elim
end Go.Proofs.YthngolfabfijpaaGreatDoor
namespace Go.Proofs.YthngolfabfijpaaGreatDoor
open Go.RowKit Go.TL
set_option maxRecDepth 100000

set_option maxHeartbeats 32000000 in
theorem drop_obj_no (s : List UInt8) (r : List (List UInt8)) (_IH0 : r ≠ [] → DropOk r) (hl : ∀ t ∈ s :: r, t.length ≤ 1000000) (hl2 : (s :: r).length ≤ 1000) (ns : List (List UInt8)) (xs : List J) (v sv : Value) (M : List Ent) (g : Gh) (L : List Ent) (hM : TrJ (.obj ns xs) v M) (hs : Sl g sv (s :: r).length 1 (strs (s :: r))) (hS : smJ (.obj ns xs)) (hE : GErr g) (hT : GTabs g) (hk : idxN ns s = none) : Does Tryz.prog 159 #[v, sv] g (grp M :: L) (PutR (dropJ (s :: r) (.obj ns xs)) g L) := by
  have hsl := hl s (by simp)
  have hl3 : ∀ t ∈ r, t.length ≤ 1000000 := fun t ht => hl t (by simp [ht])
  rw [List.length_cons] at hs hl2
  obtain ⟨ao, cap, rfl⟩ := hs.slice
  obtain ⟨bs, os, os', rfl, hcs, hos, hld0, hs1⟩ := Sl.from1 hs rfl
  have I := fun L => pitem_gives s g L hsl hE hT
  have HO := Hn.mk hos
  have hM1 := hM.one
  clear hos hs
  refine Does.of2 Tryz.func159 rfl Tryz.ntmps159 rfl ?_
  rw [TrJ] at hM
  obtain ⟨ai, ci, flat, Ms, rfl, rfl, hMs⟩ := hM
  have hnx := hMs.len
  have hMem := hMs.mem
  rw [smJ] at hS
  obtain ⟨hxl, hnl, hS⟩ := hS
  have P := fun L L' (pk : Pick (.row 47 2 (.slice ai xs.length ci) xs.length flat) L L') => Gives.borrow_row' (g := g) (fun g' L _ hsl => pmember_gives ns s ai xs.length ci flat g' L hnx (by omega) hsl hMem) pk
  refine TC.guncons pkA ?_
  rw [dropJ, hk]
  have hv : idxV ns s = -1 := by unfold idxV; rw [hk]
  rw [hv] at P
  clear _IH0 hs1 hMs hMem hS hnl I
  repeat' (first
    | ((with_reducible apply TL.pure (d := 20) (v := .slice (some ⟨bs, os', none⟩) (r.length + 1 - 1) (cap - 1))); (· exact Y.slice_from rfl rfl (show (1 : Int) = (1 : Nat) from rfl) (by omega) hcs HO.out); (· rfl)) | ((with_reducible apply TW.pure (d := 20) (v := .slice (some ⟨bs, os', none⟩) (r.length + 1 - 1) (cap - 1))); (· exact Y.slice_from rfl rfl (show (1 : Int) = (1 : Nat) from rfl) (by omega) hcs HO.out); (· rfl))
    | refine wkV ?_
    | ((with_reducible apply TL.pure); (· exact yM); (· rfl)) | ((with_reducible apply TW.pure); (· exact yM); (· rfl))
    | ((with_reducible apply TL.gives_plain); (· kernel_rfl); (· rfl); (· exact P _ _ pkA); (· rfl))
    | refine stS ?_ | (refine stB ?_; intro _) | (refine stC ?_; refine And.intro (fun _ => ?_) (fun _ => ?_))
    | apply TC.region_draw (by kernel_rfl) (by kernel_rfl) | refine TW.nil ?_ | ((with_reducible apply TW.pure); (· exact yA); (· rfl)))
  refine TQ.endR2 (L' := L) Tryz.results159 rvA rvA rfl (.refl _) ?_ selA
  exact ⟨_, false, rfl, rfl, rfl, rfl, rfl⟩
set_option maxHeartbeats 32000000 in
theorem drop_obj_yes (s : List UInt8) (r : List (List UInt8)) (IH0 : r ≠ [] → DropOk r) (hl : ∀ t ∈ s :: r, t.length ≤ 1000000) (hl2 : (s :: r).length ≤ 1000) (ns : List (List UInt8)) (xs : List J) (k : Nat) (v sv : Value) (M : List Ent) (g : Gh) (L : List Ent) (hM : TrJ (.obj ns xs) v M) (hs : Sl g sv (s :: r).length 1 (strs (s :: r))) (hS : smJ (.obj ns xs)) (hE : GErr g) (hT : GTabs g) (hk : idxN ns s = some k) : Does Tryz.prog 159 #[v, sv] g (grp M :: L) (PutR (dropJ (s :: r) (.obj ns xs)) g L) := by
  have hsl := hl s (by simp)
  have hl3 : ∀ t ∈ r, t.length ≤ 1000000 := fun t ht => hl t (by simp [ht])
  rw [List.length_cons] at hs hl2
  obtain ⟨ao, cap, rfl⟩ := hs.slice
  obtain ⟨bs, os, os', rfl, hcs, hos, hld0, hs1⟩ := Sl.from1 hs rfl
  have I := fun L => pitem_gives s g L hsl hE hT
  have HO := Hn.mk hos
  have hM1 := hM.one
  clear hos hs
  refine Does.of2 Tryz.func159 rfl Tryz.ntmps159 rfl ?_
  rw [TrJ] at hM
  obtain ⟨ai, ci, flat, Ms, rfl, rfl, hMs⟩ := hM
  have hnx := hMs.len
  have hMem := hMs.mem
  rw [smJ] at hS
  obtain ⟨hxl, hnl, hS⟩ := hS
  have P := fun L L' (pk : Pick (.row 47 2 (.slice ai xs.length ci) xs.length flat) L L') => Gives.borrow_row' (g := g) (fun g' L _ hsl => pmember_gives ns s ai xs.length ci flat g' L hnx (by omega) hsl hMem) pk
  refine TC.guncons pkA ?_
  rw [dropJ, hk]
  have hv : idxV ns s = (k : Nat) := by unfold idxV; rw [hk]
  rw [hv] at P
  have hkl := idxN_lt hk
  have hkb : k < xs.length := by omega
  obtain ⟨y', hy'⟩ : ∃ y', xs[k]? = some y' := ⟨_, List.getElem?_eq_getElem hkb⟩
  have hones := hMs.ones
  obtain ⟨v', MA, MB, MC, rfl, e3, e2, hdel, e4⟩ := hMs.delE hy'
  try dsimp only
  rw [hy']
  try dsimp only
  have ho' := e3.one
  refine TC.part3 (M1 := MA) (M2 := MB) (M3 := MC) pkA ?_
  refine TC.row_form (v := .slice ai xs.length ci) pkA (by omega) ?_
  intro bv cv e hfl
  obtain ⟨rfl, rfl⟩ : ai = some ⟨bv, 0, none⟩ ∧ ci = cv := by simpa using e
  by_cases hr : r = []
  · have hrl : r.length = 0 := by rw [hr]; rfl
    rw [if_pos hr]
    clear hr
    have D := fun L => delM_does bv xs.length ci k flat g L hkb (by omega) hones
    have HD := Hn.mk hdel
    clear IH0 hs1 hMs hMem hS hnl e4 e3 e2 e hk I hones hdel
    repeat' (first
    | ((with_reducible apply TL.pure (d := 20) (v := .slice (some ⟨bs, os', none⟩) (r.length + 1 - 1) (cap - 1))); (· exact Y.slice_from rfl rfl (show (1 : Int) = (1 : Nat) from rfl) (by omega) hcs HO.out); (· rfl)) | ((with_reducible apply TW.pure (d := 20) (v := .slice (some ⟨bs, os', none⟩) (r.length + 1 - 1) (cap - 1))); (· exact Y.slice_from rfl rfl (show (1 : Int) = (1 : Nat) from rfl) (by omega) hcs HO.out); (· rfl))
    | refine wkV ?_
    | ((with_reducible apply TL.pure); (· exact yM); (· rfl)) | ((with_reducible apply TW.pure); (· exact yM); (· rfl))
    | ((with_reducible apply TL.gives_plain); (· kernel_rfl); (· rfl); (· exact P _ _ pkA); (· rfl))
    | (refine TL.call (Enters.plain (by kernel_rfl) (by rfl)) (by rfl) (Does.perm (D _) (Pk.cons pkA (List.Perm.refl _))) ?_; (rintro e g1 Ln _ ⟨k1, k2, k3⟩; have k2 := k2.symm; have k3 := k3.symm; subst k1; subst k2; subst k3; refine CallK.ret ?_))
    | refine stS ?_ | (refine stB ?_; intro _) | (refine stC ?_; refine And.intro (fun _ => ?_) (fun _ => ?_))
    | apply TC.region_draw (by kernel_rfl) (by kernel_rfl) | refine TW.nil ?_ | ((with_reducible apply TW.pure); (· exact yA); (· rfl)))
    refine TQ.join (M1 := MC) (M2 := MA) pkA pkA ?_
    refine TQ.gcons (e := .row 47 2 (.slice (some ⟨bv, 0, none⟩) (xs.length - 1) ci) (xs.length - 1) (flat.take (k * 2) ++ flat.drop ((k + 1) * 2))) (M := MA ++ MC) pkA pkA ?_
    refine TQ.endR2 (L' := (grp (.row 47 2 (.slice (some ⟨bv, 0, none⟩) (xs.length - 1) ci) (xs.length - 1) (flat.take (k * 2) ++ flat.drop ((k + 1) * 2)) :: (MA ++ MC)) :: L)) Tryz.results159 rvA rvA rfl (.refl _) ?_ selA
    refine ⟨_, true, rfl, rfl, rfl, rfl, _, rfl, ?_⟩
    rw [TrJ, List.length_eraseIdx, if_pos hkb]
    exact ⟨_, _, _, _, rfl, rfl, HD.out⟩
  · rw [if_neg hr]
    have IH := IH0 hr hl3 (by omega)
    have hrp := List.length_pos_iff.2 hr
    have A := fun L0 => IH y' v' (.slice (some ⟨bs, os', none⟩) r.length (cap - 1)) MB g L0 e3 hs1 (smJs_get hS hy') hE hT
    unfold PutR at A
    have hld : flat[0 + k * 2 + 1]? = some v' := by rw [Nat.zero_add]; exact e2
    have hne : Hn (¬ ((r.length + 1 - 1 : Nat) : Int) = 0) := ⟨by omega⟩
    clear hr
    cases hp : dropJ r y' with
    | none =>
      rw [hp] at A
      clear IH IH0 hs1 hMs hMem hS hnl e4 e3 e2 e hk I hones hdel
      repeat' (first
    | ((with_reducible apply TL.pure (d := 20) (v := .slice (some ⟨bs, os', none⟩) (r.length + 1 - 1) (cap - 1))); (· exact Y.slice_from rfl rfl (show (1 : Int) = (1 : Nat) from rfl) (by omega) hcs HO.out); (· rfl)) | ((with_reducible apply TW.pure (d := 20) (v := .slice (some ⟨bs, os', none⟩) (r.length + 1 - 1) (cap - 1))); (· exact Y.slice_from rfl rfl (show (1 : Int) = (1 : Nat) from rfl) (by omega) hcs HO.out); (· rfl))
    | refine wkV ?_
    | ((with_reducible apply TL.pure); (· exact yM); (· rfl)) | ((with_reducible apply TW.pure); (· exact yM); (· rfl))
    | ((with_reducible apply TL.gives_plain); (· kernel_rfl); (· rfl); (· exact P _ _ pkA); (· rfl))
    | (refine TL.call (Enters.plain (by kernel_rfl) (by rfl)) (by rfl) (Does.perm (A _) (Pk.cons pkA (List.Perm.refl _))) ?_; (rintro e g1 Ln _ ⟨vz, bz, k1, k2, hz1, hz⟩; have k2 := k2.symm; subst k1; subst k2; (obtain ⟨rfl, rfl⟩ := hz); refine CallK.ret ?_))
    | ((with_reducible apply TL.store_row); (· rfl); (· rfl); (· first | rfl | assumption); (· exact pkA); (· omega))
    | refine stS ?_ | (refine stB ?_; intro _) | (refine stC ?_; refine And.intro (fun _ => ?_) (fun _ => ?_))
    | apply TC.region_draw (by kernel_rfl) (by kernel_rfl) | refine TW.nil ?_ | ((with_reducible apply TW.pure); (· exact yA); (· rfl)))
      refine TQ.endR2 (L' := L) Tryz.results159 rvA rvA rfl (.refl _) ?_ selA
      exact ⟨_, false, rfl, rfl, rfl, rfl, rfl⟩
    | some z =>
      rw [hp] at A
      have HM := Hn.mk e4
      clear IH IH0 hs1 hMs hMem hS hnl e4 e3 e2 e hk I hones hdel
      repeat' (first
    | ((with_reducible apply TL.pure (d := 20) (v := .slice (some ⟨bs, os', none⟩) (r.length + 1 - 1) (cap - 1))); (· exact Y.slice_from rfl rfl (show (1 : Int) = (1 : Nat) from rfl) (by omega) hcs HO.out); (· rfl)) | ((with_reducible apply TW.pure (d := 20) (v := .slice (some ⟨bs, os', none⟩) (r.length + 1 - 1) (cap - 1))); (· exact Y.slice_from rfl rfl (show (1 : Int) = (1 : Nat) from rfl) (by omega) hcs HO.out); (· rfl))
    | refine wkV ?_
    | ((with_reducible apply TL.pure); (· exact yM); (· rfl)) | ((with_reducible apply TW.pure); (· exact yM); (· rfl))
    | ((with_reducible apply TL.gives_plain); (· kernel_rfl); (· rfl); (· exact P _ _ pkA); (· rfl))
    | (refine TL.call (Enters.plain (by kernel_rfl) (by rfl)) (by rfl) (Does.perm (A _) (Pk.cons pkA (List.Perm.refl _))) ?_; (rintro e g1 Ln _ ⟨vz, bz, k1, k2, hz1, hz⟩; have k2 := k2.symm; subst k1; subst k2; (obtain ⟨rfl, Mz, rfl, hz⟩ := hz); refine CallK.ret ?_))
    | ((with_reducible apply TL.store_row); (· rfl); (· rfl); (· first | rfl | assumption); (· exact pkA); (· omega))
    | refine stS ?_ | (refine stB ?_; intro _) | (refine stC ?_; refine And.intro (fun _ => ?_) (fun _ => ?_))
    | apply TC.region_draw (by kernel_rfl) (by kernel_rfl) | refine TW.nil ?_ | ((with_reducible apply TW.pure); (· exact yA); (· rfl)))
      refine TQ.rowE (xs := flat.set (0 + k * 2 + 1) vz) (ys := flat.set (k * 2 + 1) vz) pkA (by rw [show 0 + k * 2 + 1 = k * 2 + 1 by omega]) ?_
      refine TQ.unpart3 (M1 := MA) (M2 := Mz) (M3 := MC) pkA pkA pkA ?_
      refine TQ.gcons (e := .row 47 2 (.slice (some ⟨bv, 0, none⟩) xs.length ci) xs.length (flat.set (k * 2 + 1) vz)) (M := MA ++ (Mz ++ MC)) pkA pkA ?_
      refine TQ.endR2 (L' := (grp (.row 47 2 (.slice (some ⟨bv, 0, none⟩) xs.length ci) xs.length (flat.set (k * 2 + 1) vz) :: (MA ++ (Mz ++ MC))) :: L)) Tryz.results159 rvA rvA rfl (.refl _) ?_ selA
      refine ⟨_, true, rfl, rfl, rfl, rfl, _, rfl, ?_⟩
      rw [TrJ, List.length_set]
      exact ⟨_, _, _, _, rfl, rfl, HM.out _ _ _ hz⟩
end Go.Proofs.YthngolfabfijpaaGreatDoor
