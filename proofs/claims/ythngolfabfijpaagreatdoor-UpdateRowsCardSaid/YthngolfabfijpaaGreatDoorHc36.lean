/-
  The walk of update's Apply.
-/
import Derived.Test.YthngolfabfijpaaGreatDoorHc2
import Derived.Test.YthngolfabfijpaaGreatDoorHc35
namespace Go.Proofs.YthngolfabfijpaaGreatDoor
open Go.RowKit Go.TL
set_option maxRecDepth 100000

def ApplyR (o : Nat × Option J) (L : List Ent) : Ending → Gh → List Ent → Prop := fun e g' L1 => ∃ w, L1 = L ∧ w.one = true ∧ (match o with
  | (_, some z) => e = .returned (.tuple #[w, .int .i64 0]) ∧ IsJ g' z w
  | (k, none) => e = .returned (.tuple #[w, .int .i64 (k : Nat)]) ∧ w = .nilIface)
theorem many_unset {cmp : J → J → Int} {plus times : Int → Int → Int × Int} : ∀ (ps : List (List UInt8)) (vs ws : List J) (x : J), ps.length = vs.length → ps.length = ws.length → manyU cmp plus times unsetB x ps vs = manyU cmp plus times unsetB x ps ws
  | [], vs, ws, x, _, _ => by rw [many_nil, many_nil]
  | p :: ps, [], _, _, h, _ => by cases h
  | p :: ps, _ :: _, [], _, _, h => by cases h
  | p :: ps, v :: vs, w :: ws, x, h, k => by
    have e : ∀ y, oneU cmp plus times unsetB x p y = unsetU x p := fun y => by
      unfold oneU; rw [if_neg (by decide), if_pos rfl]
    rw [manyU, manyU, e, e]
    generalize unsetU x p = q
    obtain ⟨a, o⟩ := q
    cases o with
    | none => rfl
    | some z => exact many_unset ps vs ws z (by simpa using h) (by simpa using k)
theorem parts_many {cmp : J → J → Int} {plus times : Int → Int → Int × Int} {nm : List UInt8} {y x : J} {ps : List (List UInt8)} {ws vs : List J} (ly : lenJ y) (h : partsP nm y = some (ps, ws)) (hu : partsU nm y = some (ps, vs)) : manyU cmp plus times nm x ps vs = manyU cmp plus times nm x ps ws := by
  obtain ⟨vs', h1, _, h3, h4, h5⟩ := parts_some ly h
  rw [hu] at h1
  obtain ⟨_, rfl⟩ := Prod.mk.inj (Option.some.inj h1)
  by_cases hn : nm = unsetB
  · subst hn; exact many_unset ps vs ws x h3 h4
  · rw [h5 hn]
theorem many_at {cmp : J → J → Int} {plus times : Int → Int → Int × Int} {nm : List UInt8} {x : J} {ps : List (List UInt8)} {vs : List J} {i : Nat} {p : List UInt8} {v : J} (h1 : ps[i]? = some p) (h2 : vs[i]? = some v) : manyU cmp plus times nm x (ps.drop i) (vs.drop i) = match oneU cmp plus times nm x p v with
    | (_, some z) => manyU cmp plus times nm z (ps.drop (i + 1)) (vs.drop (i + 1))
    | (e, none) => (e, none) := by
  rw [drop_of_get h1, drop_of_get h2, manyU]
  generalize oneU cmp plus times nm x p v = q
  obtain ⟨a, o⟩ := q
  cases o <;> rfl
theorem all_at {cmp : J → J → Int} {plus times : Int → Int → Int × Int} {x : J} {ns : List (List UInt8)} {us : List J} {i : Nat} {n : List UInt8} {u : J} (h1 : ns[i]? = some n) (h2 : us[i]? = some u) : allU cmp plus times x (ns.drop i) (us.drop i) = match partsU n u with
    | none => (0, none)
    | some (ps, vs) => match manyU cmp plus times n x ps vs with
      | (_, some z) => allU cmp plus times z (ns.drop (i + 1)) (us.drop (i + 1))
      | (e, none) => (e, none) := by
  rw [drop_of_get h1, drop_of_get h2, allU]
  cases partsU n u with
  | none => rfl
  | some r =>
    obtain ⟨ps, vs⟩ := r
    dsimp only
    generalize manyU cmp plus times n x ps vs = q
    obtain ⟨a, o⟩ := q
    cases o <;> rfl
def thenU (ns : List (List UInt8)) (us : List J) : Nat × Option J → Nat × Option J
  | (_, some z) => allU cmpJ plusL timesL z ns us
  | (e, none) => (e, none)
structure ApS where
  i : Nat
  z : J
  w : Value
  g : Gh
structure ApI (m : Nat) (ns : List (List UInt8)) (us : List J) (g0 : Gh) (R : Nat × Option J) (x : ApS) : Prop where
  le : x.i ≤ us.length
  gl : g0.le x.g
  iv : UInv (m + 2 * (100 - countU (ns.drop x.i) (us.drop x.i))) x.z
  ct : countU (ns.drop x.i) (us.drop x.i) ≤ 100
  rt : rightsU (ns.drop x.i) (us.drop x.i) = true
  js : IsJ x.g x.z x.w
  re : allU cmpJ plusL timesL x.z (ns.drop x.i) (us.drop x.i) = R
structure AkI (m : Nat) (nm : List UInt8) (ps : List (List UInt8)) (ws : List J) (ns : List (List UInt8)) (us : List J) (g0 : Gh) (R : Nat × Option J) (x : ApS) : Prop where
  le : x.i ≤ ps.length
  gl : g0.le x.g
  iv : UInv (m + 2 * x.i) x.z
  ok : partsOk nm (ps.drop x.i) (ws.drop x.i) = true
  js : IsJ x.g x.z x.w
  re : thenU ns us (manyU cmpJ plusL timesL nm x.z (ps.drop x.i) (ws.drop x.i)) = R
theorem look_part {nm : List UInt8} {y z : J} {ps : List (List UInt8)} {ws : List J} {k w : Nat} (h : partsP nm y = some (ps, ws)) (hl : lookJ y w = 0) (hz : ws[k]? = some z) : lookJ z 0 = 0 := by
  unfold partsP at h
  split at h
  · split at h
    · obtain ⟨l, _, he⟩ := Option.map_eq_some_iff.1 h
      obtain ⟨_, rfl⟩ := Prod.mk.inj he
      rw [List.getElem?_map] at hz
      obtain ⟨s, _, rfl⟩ := Option.map_eq_some_iff.1 hz
      rw [lookJ]
    · cases h
  · split at h
    · obtain ⟨rfl, rfl⟩ := Prod.mk.inj (Option.some.inj h)
      rw [lookJ] at hl
      split at hl
      · omega
      · exact look_down z (w + 1) 0 (by rw [Nat.zero_add]; exact looko_get hl hz)
    · cases h
theorem sz_part {nm : List UInt8} {y z : J} {ps : List (List UInt8)} {ws : List J} {k m : Nat} (h : partsP nm y = some (ps, ws)) (hl : szJ m y) (hz : ws[k]? = some z) : szJ m z := by
  unfold partsP at h
  split at h
  · split at h
    · obtain ⟨l, _, he⟩ := Option.map_eq_some_iff.1 h
      obtain ⟨_, rfl⟩ := Prod.mk.inj he
      rw [List.getElem?_map] at hz
      obtain ⟨s, _, rfl⟩ := Option.map_eq_some_iff.1 hz
      rw [szJ]; trivial
    · cases h
  · split at h
    · obtain ⟨rfl, rfl⟩ := Prod.mk.inj (Option.some.inj h)
      rw [szJ] at hl
      exact szJs_get hl.2.2 hz
    · cases h
theorem deed_field {n : Nat} {ds : List Deferred} {S : Slots} {g : Gh} {L : List Ent} {x : Operand} {dst : Option Nat} {ty : TypeId} {pos : String} {aft : Array Edge} {gd : Option (Nat × Bool)} {d t : FuncId} (hx : ev S x = some (deedV d t)) : Go.TL.Yields Tryz.prog n ds S g L ⟨dst, .field 78 x 0, ty, pos, aft, gd⟩ (fnV d) := .mk fun a w hf _ => by
  have h : (Instr.field 78 (deedV d t) 0).run Tryz.prog w = .ok (fnV d) w := by kernel_rfl
  simp [execOp, hf.ev hx, h]
theorem JL (x : J) (v : Value) (g : Gh) (h : IsJ g x v) : lenJ x := IsJ.len x v h
set_option maxHeartbeats 64000000 in
theorem uApply_does (m : Nat) (x y : J) (v u : Value) (g : Gh) (L : List Ent) (_hm : 128 ≤ m) (_hm2 : m ≤ 1000) (hx : IsJ g x v) (hy : IsJ g y u) (zx : szJ m x) (zy : szJ m y) (lx : lenJ x) (ly : lenJ y) (hE : GErr g) (hT : GTabs g) (hU : GU8 g) : Does Tryz.prog 17 #[v, u] g L (ApplyR (applyU cmpJ plusL timesL x y) L) := by
  refine Does.ofD2 Tryz.func17 rfl Tryz.ntmps17 rfl ?_
  have sx := sm_of_sz x m zx (by omega)
  have sy := sm_of_sz y m zy (by omega)
  have ov := hx.one
  have ou := hy.one
  have RI := fun L => uRight_does y u g L hy sy ly hT hU
  have MA := fun g1 (h : g.le g1) L => may_gives x v g1 L (hx.le h _ _) sx (hT.le h) (hU.le h)
  unfold ApplyR applyU
  cases hr : rightU y with
  | false =>
    rw [hr] at RI
    rw [if_pos rfl]
    dsimp only
    clear MA
    repeat' (first
    | refine wkQ ?_
    | refine wkV ?_
    | (refine TL.call (Enters.plain (by kernel_rfl) (by rfl)) (by rfl) (RI _) ?_; (rintro e gr Ln hgr ⟨k1, k2⟩; have k2 := k2.symm; subst k1; subst k2; skip; refine CallK.ret ?_))
    | ((with_reducible apply TL.storeK); (· rfl); (· rfl); (· exact rfl); (· exact pkA); (· exact Nat.le_of_ble_eq_true rfl))
    | refine stS ?_ | (refine stB ?_; intro _) | (refine stC ?_; refine And.intro (fun _ => ?_) (fun _ => ?_)))
    refine TQ.endD_ret_none (L' := L) rfl Tryz.results17 rvA rvA hgr ?_ selF
    exact ⟨_, rfl, rfl, rfl, rfl⟩
  | true =>
  rw [hr] at RI
  rw [if_neg (by decide)]
  by_cases h0 : lookJ x 0 ≠ 0
  · rw [if_pos h0]
    dsimp only
    have HK := Hn.mk (show ¬ ((lookJ x 0 : Nat) : Int) = 0 by omega)
    generalize lookJ x 0 = k at *
    clear h0
    repeat' (first
    | refine wkQ ?_
    | refine wkV ?_
    | (refine TL.call (Enters.plain (by kernel_rfl) (by rfl)) (by rfl) (RI _) ?_; (rintro e gr Ln hgr ⟨k1, k2⟩; have k2 := k2.symm; subst k1; subst k2; (have M1 := MA gr hgr; clear MA); refine CallK.ret ?_))
    | ((with_reducible apply TL.gives_plain); (· kernel_rfl); (· rfl); (· exact M1 _); (· rfl)) | ((with_reducible apply TW.gives_plain); (· kernel_rfl); (· rfl); (· exact M1 _); (· rfl))
    | ((with_reducible apply TL.storeK); (· rfl); (· rfl); (· exact rfl); (· exact pkA); (· exact Nat.le_of_ble_eq_true rfl))
    | refine stS ?_ | (refine stB ?_; intro _) | (refine stC ?_; refine And.intro (fun _ => ?_) (fun _ => ?_)))
    refine TQ.endD_ret_none (L' := L) rfl Tryz.results17 rvA rvA hgr ?_ selF
    exact ⟨_, rfl, rfl, rfl, rfl⟩
  rw [if_neg h0]
  have h0 : lookJ x 0 = 0 := by omega
  rw [h0] at MA
  cases x with
  | obj ms xs =>
    obtain ⟨ns, us, rfl, hly, hrs, hct⟩ := right_obj hr
    dsimp only
    have iv : UInv m (.obj ms xs) := ⟨h0, lx, rfl, zx⟩
    have hxg := fun g1 (h : g.le g1) => hx.le h _ _
    have CP := fun g1 (h : g.le g1) L => jCopy_does (.obj ms xs) v g1 L (hx.le h _ _) sx h0 (hT.le h) (hU.le h)
    unfold CopyR at CP
    have hx2 := hx
    rw [IsJ] at hx2
    obtain ⟨slx, flx, rfl, hSx, _⟩ := hx2
    obtain ⟨ax, cx, rfl⟩ := hSx.slice
    have hy2 := hy
    rw [IsJ] at hy2
    obtain ⟨sl, flat, rfl, hS, hM⟩ := hy2
    obtain ⟨ao, cap, rfl⟩ := hS.slice
    have HS := Hn.mk hS
    have HM := Hn.mk hM
    have hz2 := zy
    rw [szJ] at hz2
    have hl2 := ly
    rw [lenJ] at hl2
    obtain ⟨R, hR⟩ : ∃ R, R = allU cmpJ plusL timesL (.obj ms xs) ns us := ⟨_, rfl⟩
    rw [← hR]
    have HR := Hn.mk hR.symm
    clear hSx hS hM hR hx hy
    repeat' (first
    | refine wkQ ?_
    | refine wkV ?_
    | (refine TL.call (Enters.plain (by kernel_rfl) (by rfl)) (by rfl) (RI _) ?_; (rintro e gr Ln hgr ⟨k1, k2⟩; have k2 := k2.symm; subst k1; subst k2; (have M1 := MA gr hgr; have C1 := CP gr hgr; clear MA CP RI); refine CallK.ret ?_))
    | ((with_reducible apply TL.gives_plain); (· kernel_rfl); (· rfl); (· exact M1 _); (· rfl)) | ((with_reducible apply TW.gives_plain); (· kernel_rfl); (· rfl); (· exact M1 _); (· rfl))
      | refine TL.defer_v (by rfl) (by rfl) ?_
      
    | (refine TL.call (Enters.plain (by kernel_rfl) (by rfl)) (by rfl) (C1 _) ?_; (rintro e gc Ln hgc ⟨vj, Mj, k1, k2, k3, htj⟩; have k2 := k2.symm; subst k1; subst k2; subst k3; have hoc := TrJ.one htj; refine CallK.ret ?_; refine Go.TL.TL.freeze_tree (M := Mj) pkA htj ?_; intro gf hgf jf))
    | ((with_reducible apply TL.pure); (· exact yA); (· rfl))
    | refine TC.seq ?_ | refine TC.region ?_ | refine TL.nil ?_ | refine TQ.then_normal ?_
    | ((with_reducible apply TL.storeE); (· rfl); (· rfl); (· rfl); (· exact pkA); (· infer_instance)) | ((with_reducible apply TL.store_whole); (· rfl); (· rfl); (· exact oneA); (· rfl); (· exact pkA); (· rfl))
    | refine TC.block ?_ | refine TC.ret ?_ | refine TC.skip ?_ | refine TC.exit ?_ | refine TC.cond rfl ?_
    | refine TQ.down ?_ | refine TQ.in_exit' rfl ?_
    | refine TL.guard_yes rfl rfl ?_ | refine TL.guard_no rfl rfl rfl rfl ?_ | refine TL.guard_no0 rfl rfl rfl ?_ | refine TL.guard_undef rfl rfl rfl ?_ | refine TL.guard_undef0 rfl rfl ?_ | refine TL.guard rfl rfl rfl ?_
    | refine Br.t rfl ?_ | refine Br.f rfl ?_ | refine Br.ky kpA ?_ | refine Br.kn kpA ?_ | refine Br.nky kpA ?_ | refine Br.nkn kpA ?_
    | refine Br.eq0 (fun _ => ?_) (fun _ => ?_) | refine Br.neq0 (fun _ => ?_) (fun _ => ?_) | refine Br.eq (fun _ => ?_) (fun _ => ?_) | refine Br.neq (fun _ => ?_) (fun _ => ?_) | refine Br.not (fun _ => ?_) (fun _ => ?_) | refine Br.dec (fun _ => ?_) (fun _ => ?_) | refine Br.bool (fun _ => ?_) (fun _ => ?_)
    | ((with_reducible apply TL.alloc_ag); (· rfl); intro _) | ((with_reducible apply TL.alloc_sc); (· rfl); (· rfl); intro _) | ((with_reducible apply TL.box_ag); (· rfl); (· rfl); intro _) | ((with_reducible apply TL.box_sc); (· rfl); (· rfl); (· rfl); intro _))
    rename_i b4 b5 _ b9
    refine TC.loop (ApI m ns us g R) (fun x => us.length - x.i) (fun x => [(39, .int .i64 (x.i : Nat)), (38, .int .i64 (us.length : Nat)), (37, .slice ao us.length cap), (9, .pointer (some ⟨b9, 0, none⟩)), (4, .pointer (some ⟨b4, 0, none⟩)), (5, .pointer (some ⟨b5, 0, none⟩))]) (fun x => x.g) (fun x => Wk b9 x.w :: .obj b5 (.cells [.int .i64 0].toArray 23 (0, 0)) :: .obj b4 (.cells [.nilIface].toArray 20 (0, 0)) :: L) ⟨0, .obj ms xs, vj, gf⟩ ⟨Nat.zero_le _, hgr.trans hgf, iv.up (by omega), by rw [List.drop_zero, List.drop_zero]; exact hct, by rw [List.drop_zero, List.drop_zero]; exact hrs, jf, by rw [List.drop_zero, List.drop_zero]; exact HR.out⟩ rfl subA selF ?_
    clear M1 C1 htj jf HR hxg iv hrs hct hr hgc hgr hgf hoc
    rintro ⟨i, z, w, gx⟩ ⟨hi, hgx, hiv, hct, hrt, hj, hre⟩
    dsimp only at hi hgx hiv hct hrt hj hre ⊢
    have ow := hj.one
    by_cases hlt : i < us.length
    case neg =>
      have hR : R = (0, some z) := by
        rw [← hre, List.drop_eq_nil_of_le (by omega), List.drop_eq_nil_of_le (by omega), all_nil]
      subst hR
      clear hre hrt hiv
      repeat' (first
    | refine wkQ ?_
    | refine wkV ?_
    | ((with_reducible apply TL.storeK); (· rfl); (· rfl); (· exact ow); (· exact pkA); (· exact Nat.le_of_ble_eq_true rfl))
    | ((with_reducible apply TL.storeK); (· rfl); (· rfl); (· exact rfl); (· exact pkA); (· exact Nat.le_of_ble_eq_true rfl))
    | refine stS ?_ | (refine stB ?_; intro _) | (refine stC ?_; refine And.intro (fun _ => ?_) (fun _ => ?_)))
      refine TQ.only (Wk b9 w :: .obj b4 (.cells [w].toArray 20 (0, 0)) :: .obj b5 (.cells [.int .i64 0].toArray 23 (0, 0)) :: L) selF ?_
      refine TQ.endD_ret2 (L' := L) (vs := []) (caps := [.pointer (some ⟨b4, 0, none⟩), .pointer (some ⟨b5, 0, none⟩)]) (late_u_idle b4 b5 gx _) rfl (by kernel_rfl) Tryz.results17 rvA rvA hgx ?_ (.refl _) selF
      exact ⟨w, rfl, ow, rfl, hj⟩
    obtain ⟨x, hx⟩ : ∃ x, us[i]? = some x := ⟨_, List.getElem?_eq_getElem hlt⟩
    obtain ⟨n, w1, e1, hf1, hf2, jx⟩ := (HM.out).get hx
    obtain ⟨b1, o1, rfl, hg1⟩ := HS.out.elem hlt (by decide)
    have ld1 : ∀ j u, [str n, w1][j]? = some u → gx.cell b1 (o1 + i * 2 + j) = some u := fun j u hu => by
      match j, hu with
      | 0, hu => simp at hu; subst hu; exact hgx.cell (hg1 0 _ hf1)
      | 1, hu => simp at hu; subst hu; exact hgx.cell (hg1 1 _ hf2)
      | j + 2, hu => simp at hu
    have ll1 : [str n, w1].length = 2 := rfl
    have jx := jx.le hgx _ _
    have ow1 := jx.one
    rw [szJ] at zy
    have zxx := szJs_get zy.2.2 hx
    have sxx := sm_of_sz x m zxx (by omega)
    have lxx := lenJs_get hl2.2 hx
    rw [lookJ] at hly
    split at hly
    · omega
    have lkx : lookJ x 1 = 0 := looko_get hly hx
    rw [rights_at e1 hx, Bool.and_eq_true] at hrt
    rw [count_at e1 hx] at hct hiv
    rw [all_at e1 hx] at hre
    obtain ⟨hrm, hrt⟩ := hrt
    unfold rightM at hrm
    rw [Bool.and_eq_true] at hrm
    obtain ⟨hkn, hpk⟩ := hrm
    cases hp : partsP n x with
    | none => rw [parts_none hp] at hpk; cases hpk
    | some q =>
    obtain ⟨ps, ws⟩ := q
    obtain ⟨vs, hpu, hpo, hpl, hwl, _⟩ := parts_some lxx hp
    rw [hpu] at hpk hre
    dsimp only at hpk hre
    rw [parts_many lxx hp hpu] at hre
    have hlu : lenU n x = ps.length := by unfold lenU; rw [hpu]
    rw [hlu] at hct hiv
    rw [← hpo] at hpk
    have hre2 : thenU (ns.drop (i + 1)) (us.drop (i + 1)) (manyU cmpJ plusL timesL n z ps ws) = R := by
      rw [← hre]
      generalize manyU cmpJ plusL timesL n z ps ws = q
      obtain ⟨a, o⟩ := q
      cases o <;> rfl
    cases hd : deedF n with
    | none => rw [← deed_known, hd] at hkn; cases hkn
    | some q =>
    obtain ⟨d, t⟩ := q
    obtain ⟨hcd, hdo⟩ := deed_does hd
    obtain ⟨i0, hfd⟩ := find_deed n
    rw [hd] at hfd
    dsimp only at hfd
    have PP := fun L => uparts_does n x w1 gx L jx sxx
    unfold PartsR at PP
    rw [hp] at PP
    have hEx := hE.le hgx
    have hTx := hT.le hgx
    have hUx := hU.le hgx
    obtain ⟨M, hM⟩ : ∃ M, M = m + 2 * (100 - (1 + ps.length + countU (ns.drop (i + 1)) (us.drop (i + 1)))) := ⟨_, rfl⟩
    rw [← hM] at hiv
    have HRE := Hn.mk hre2
    clear hre hre2 hg1 hf1 hf2 jx hd hly
    repeat' (first
    | refine wkQ ?_
    | ((with_reducible apply TL.pure (d := 42) (v := .agg #[str n, w1])); (· exact Y.load_cells rfl ld1 ll1); (· rfl)) | ((with_reducible apply TW.pure (d := 42) (v := .agg #[str n, w1])); (· exact Y.load_cells rfl ld1 ll1); (· rfl))
    | refine wkV ?_
    | ((with_reducible apply TL.pure); (· exact yM); (· rfl)) | ((with_reducible apply TW.pure); (· exact yM); (· rfl))
    | (refine TL.call (Enters.plain (by kernel_rfl) (by rfl)) (by rfl) (PP _) ?_; (rintro e g1 Ln h1 ⟨v1, k1, k2, r1⟩; have k2 := k2.symm; subst k1; subst k2; (obtain ⟨fl2, hS2, hM2, hl2'⟩ := r1; obtain ⟨a2, c2, rfl⟩ := hS2.slice; have HS2 := Hn.mk hS2; have HM2 := Hn.mk hM2; clear hS2 hM2); refine CallK.ret ?_))
    | refine wkP ?_
    | refine TC.seq ?_ | refine TC.region ?_ | refine TL.nil ?_ | refine TQ.then_normal ?_
    | ((with_reducible apply TL.storeE); (· rfl); (· rfl); (· rfl); (· exact pkA); (· infer_instance)) | ((with_reducible apply TL.store_whole); (· rfl); (· rfl); (· exact oneA); (· rfl); (· exact pkA); (· rfl))
    | refine TC.block ?_ | refine TC.ret ?_ | refine TC.skip ?_ | refine TC.exit ?_ | refine TC.cond rfl ?_
    | refine TQ.down ?_ | refine TQ.in_exit' rfl ?_
    | refine TL.guard_yes rfl rfl ?_ | refine TL.guard_no rfl rfl rfl rfl ?_ | refine TL.guard_no0 rfl rfl rfl ?_ | refine TL.guard_undef rfl rfl rfl ?_ | refine TL.guard_undef0 rfl rfl ?_ | refine TL.guard rfl rfl rfl ?_
    | refine Br.t rfl ?_ | refine Br.f rfl ?_ | refine Br.ky kpA ?_ | refine Br.kn kpA ?_ | refine Br.nky kpA ?_ | refine Br.nkn kpA ?_
    | refine Br.eq0 (fun _ => ?_) (fun _ => ?_) | refine Br.neq0 (fun _ => ?_) (fun _ => ?_) | refine Br.eq (fun _ => ?_) (fun _ => ?_) | refine Br.neq (fun _ => ?_) (fun _ => ?_) | refine Br.not (fun _ => ?_) (fun _ => ?_) | refine Br.dec (fun _ => ?_) (fun _ => ?_) | refine Br.bool (fun _ => ?_) (fun _ => ?_)
    | ((with_reducible apply TL.alloc_ag); (· rfl); intro _) | ((with_reducible apply TL.alloc_sc); (· rfl); (· rfl); intro _) | ((with_reducible apply TL.box_ag); (· rfl); (· rfl); intro _) | ((with_reducible apply TL.box_sc); (· rfl); (· rfl); (· rfl); intro _))
    rename_i b11
    refine TC.loop (AkI M n ps ws (ns.drop (i + 1)) (us.drop (i + 1)) g1 R) (fun z => ps.length - z.i) (fun z => [(50, .int .i64 (z.i : Nat)), (49, .int .i64 (ps.length : Nat)), (48, .slice a2 ps.length c2), (11, .pointer (some ⟨b11, 0, none⟩)), (39, .int .i64 (i : Nat)), (38, .int .i64 (us.length : Nat)), (37, .slice (some ⟨b1, o1, none⟩) us.length cap), (9, .pointer (some ⟨b9, 0, none⟩)), (4, .pointer (some ⟨b4, 0, none⟩)), (5, .pointer (some ⟨b5, 0, none⟩))]) (fun z => z.g) (fun z => Wk b9 z.w :: .obj b11 (.cells [str n, w1].toArray 47 (0, 0)) :: .obj b5 (.cells [.int .i64 0].toArray 23 (0, 0)) :: .obj b4 (.cells [.nilIface].toArray 20 (0, 0)) :: L) ⟨0, z, w, g1⟩ ⟨Nat.zero_le _, .refl _, hiv, by rw [List.drop_zero, List.drop_zero]; exact hpk, hj.le h1 _ _, by rw [List.drop_zero, List.drop_zero]; exact HRE.out⟩ rfl subA selF ?_
    have hp2 := hp
    clear PP hp hpu hpo HRE hiv hj ld1 ll1
    rintro ⟨k, zk, wk, gz⟩ ⟨hk1, hgz, hiv, hok, hj, hre⟩
    dsimp only at hk1 hgz hiv hok hj hre ⊢
    have owk := hj.one
    by_cases hkl : k < ps.length
    case neg =>
      have hre2 : allU cmpJ plusL timesL zk (ns.drop (i + 1)) (us.drop (i + 1)) = R := by
        have h0 : ps.drop k = [] := List.drop_eq_nil_of_le (by omega)
        rw [← hre, h0, many_nil]; rfl
      have HRE := Hn.mk hre2
      clear hre hre2 hok
      repeat' (first
    | refine wkQ ?_
    | refine wkV ?_
    | refine stS ?_ | (refine stB ?_; intro _) | (refine stC ?_; refine And.intro (fun _ => ?_) (fun _ => ?_)))
      refine TQ.round ⟨i + 1, zk, wk, gz⟩ ?_ ?_ rfl subA selF
      · exact ⟨by dsimp only; omega, (hgx.trans h1).trans hgz, hiv.up (by dsimp only; omega), by dsimp only; omega, hrt, hj, HRE.out⟩
      · dsimp only; omega
    obtain ⟨zv, hz⟩ : ∃ zv, ws[k]? = some zv := ⟨_, List.getElem?_eq_getElem (by omega)⟩
    obtain ⟨p, w2, ep, q1, q2, jz⟩ := HM2.out.get hz
    obtain ⟨b2, o2, rfl, hg2⟩ := HS2.out.elem hkl (by decide)
    have ld2 : ∀ j u, [str p, w2][j]? = some u → gz.cell b2 (o2 + k * 2 + j) = some u := fun j u hu => by
      match j, hu with
      | 0, hu => simp at hu; subst hu; exact hgz.cell (hg2 0 _ q1)
      | 1, hu => simp at hu; subst hu; exact hgz.cell (hg2 1 _ q2)
      | j + 2, hu => simp at hu
    have ll2 : [str p, w2].length = 2 := rfl
    have jz := jz.le hgz _ _
    have oz := jz.one
    rw [partsOk_at ep hz, Bool.and_eq_true, Bool.and_eq_true] at hok
    obtain ⟨⟨hps, hmy⟩, hok⟩ := hok
    rw [many_at ep hz] at hre
    have DD := fun L => udeeds_does gz L
    have KA : AtOk (M + 2 * k) p zk wk gz := ⟨by omega, by omega, hps, hiv, hj, (hEx.le h1).le hgz, (hTx.le h1).le hgz, (hUx.le h1).le hgz⟩
    have DO := fun L => hdo (M + 2 * k) b9 p zk zv wk w2 gz L KA (by omega) (fun _ => ⟨jz, sz_up zv m _ (sz_part hp2 zxx hz) (by omega), look_part hp2 lkx hz⟩) hmy
    have hinv := fun e z' (h : oneU cmpJ plusL timesL n zk p zv = (e, some z')) => one_inv hiv (by omega) (JL zv w2 gz jz) (sz_up zv m _ (sz_part hp2 zxx hz) (by omega)) h
    clear hg2 q1 q2 hdo KA hj
    obtain ⟨e0, o0, ho⟩ : ∃ e0 o0, oneU cmpJ plusL timesL n zk p zv = (e0, o0) := ⟨_, _, rfl⟩
    rw [ho] at DO hre
    unfold WorkR at DO
    cases o0 with
    | none =>
      have hR : R = (e0, none) := hre.symm
      subst hR
      dsimp only at DO
      clear hinv hok hiv ho hre
      repeat' (first
    | refine wkQ ?_
    | ((with_reducible apply TL.pure (d := 53) (v := .agg #[str p, w2])); (· exact Y.load_cells rfl ld2 ll2); (· rfl)) | ((with_reducible apply TW.pure (d := 53) (v := .agg #[str p, w2])); (· exact Y.load_cells rfl ld2 ll2); (· rfl))
    | refine wkV ?_
    | ((with_reducible apply TL.pure); (· exact yM); (· rfl)) | ((with_reducible apply TW.pure); (· exact yM); (· rfl))
    | (refine TL.call (Enters.plain (by kernel_rfl) (by rfl)) (by rfl) (DD _) ?_; (rintro e gd Ln hgd ⟨bd, k1, k2, k3⟩; have k2 := k2.symm; subst k1; subst k2; subst k3; refine CallK.ret ?_))
        | ((with_reducible apply TL.pure); (· exact Y.lookupS_one rfl rfl pkA hfd); (· rfl)) | ((with_reducible apply TL.pure); (· exact deed_field rfl); (· rfl))
        
    | (refine TL.call (Enters.func (by rfl) hcd (by rfl)) (by rfl) (Does.perm (DO _) permU) ?_; (rintro e g2 Ln h2 ⟨k1, k2⟩; have k2 := k2.symm; subst k1; subst k2; refine CallK.panic ?_))
    | ((with_reducible apply TA.takeN 0); (· rfl); (· decide +kernel); (· rfl); (· (first | exact yQ | exact yA | exact yB | exact yM | exact yV)); (· decide +kernel); (· decide +kernel); (· rfl); (· exact fun _ _ _ h => endD_put Tryz.results17 (by decide) (by decide) h); (· rfl))
    | ((with_reducible apply TA.takeN 1); (· rfl); (· decide +kernel); (· rfl); (· (first | exact yQ | exact yA | exact yB | exact yM | exact yV)); (· decide +kernel); (· decide +kernel); (· rfl); (· exact fun _ _ _ h => endD_put Tryz.results17 (by decide) (by decide) h); (· rfl))
    | ((with_reducible apply TA.takeN 2); (· rfl); (· decide +kernel); (· rfl); (· (first | exact yQ | exact yA | exact yB | exact yM | exact yV)); (· decide +kernel); (· decide +kernel); (· rfl); (· exact fun _ _ _ h => endD_put Tryz.results17 (by decide) (by decide) h); (· rfl))
    | ((with_reducible apply TA.takeN 3); (· rfl); (· decide +kernel); (· rfl); (· (first | exact yQ | exact yA | exact yB | exact yM | exact yV)); (· decide +kernel); (· decide +kernel); (· rfl); (· exact fun _ _ _ h => endD_put Tryz.results17 (by decide) (by decide) h); (· rfl))
    | ((with_reducible apply TA.takeN 0); (· rfl); (· decide +kernel); (· rfl); (· (first | exact yQ | exact yA | exact yB | exact yM | exact yV)); (· decide +kernel); (· decide +kernel); (· rfl); (· exact fun _ _ _ h => h); (· rfl))
    | ((with_reducible apply TA.takeN 1); (· rfl); (· decide +kernel); (· rfl); (· (first | exact yQ | exact yA | exact yB | exact yM | exact yV)); (· decide +kernel); (· decide +kernel); (· rfl); (· exact fun _ _ _ h => h); (· rfl))
    | ((with_reducible apply TA.takeN 2); (· rfl); (· decide +kernel); (· rfl); (· (first | exact yQ | exact yA | exact yB | exact yM | exact yV)); (· decide +kernel); (· decide +kernel); (· rfl); (· exact fun _ _ _ h => h); (· rfl))
    | ((with_reducible apply TA.takeN 3); (· rfl); (· decide +kernel); (· rfl); (· (first | exact yQ | exact yA | exact yB | exact yM | exact yV)); (· decide +kernel); (· decide +kernel); (· rfl); (· exact fun _ _ _ h => h); (· rfl))
    | ((with_reducible apply TA.oneN 0); (· rfl); (· rfl); (· decide +kernel); (· rfl))
    | ((with_reducible apply TA.oneN 1); (· rfl); (· rfl); (· decide +kernel); (· rfl))
    | ((with_reducible apply TA.oneN 2); (· rfl); (· rfl); (· decide +kernel); (· rfl))
    | ((with_reducible apply TA.oneN 3); (· rfl); (· rfl); (· decide +kernel); (· rfl))
    | refine TQ.any leF selF ?_
    | refine TC.region_any 11 ([.obj _ (.cells [str n, w1].toArray 47 (0, 0)), .obj _ (.cells [str p, w2].toArray 47 (0, 0))]) (by kernel_rfl) rfl selF ?_ | refine TA.done (by decide +kernel) ?_ | refine TQ.any_panic ?_
    | ((with_reducible apply TL.pure); (· exact yA); (· rfl))
    | refine TC.seq ?_ | refine TC.region ?_ | refine TL.nil ?_ | refine TQ.then_normal ?_
    | ((with_reducible apply TL.storeE); (· rfl); (· rfl); (· rfl); (· exact pkA); (· infer_instance)) | ((with_reducible apply TL.store_whole); (· rfl); (· rfl); (· exact oneA); (· rfl); (· exact pkA); (· rfl))
    | refine TC.block ?_ | refine TC.ret ?_ | refine TC.skip ?_ | refine TC.exit ?_ | refine TC.cond rfl ?_
    | refine TQ.down ?_ | refine TQ.in_exit' rfl ?_
    | refine TL.guard_yes rfl rfl ?_ | refine TL.guard_no rfl rfl rfl rfl ?_ | refine TL.guard_no0 rfl rfl rfl ?_ | refine TL.guard_undef rfl rfl rfl ?_ | refine TL.guard_undef0 rfl rfl ?_ | refine TL.guard rfl rfl rfl ?_
    | refine Br.t rfl ?_ | refine Br.f rfl ?_ | refine Br.ky kpA ?_ | refine Br.kn kpA ?_ | refine Br.nky kpA ?_ | refine Br.nkn kpA ?_
    | refine Br.eq0 (fun _ => ?_) (fun _ => ?_) | refine Br.neq0 (fun _ => ?_) (fun _ => ?_) | refine Br.eq (fun _ => ?_) (fun _ => ?_) | refine Br.neq (fun _ => ?_) (fun _ => ?_) | refine Br.not (fun _ => ?_) (fun _ => ?_) | refine Br.dec (fun _ => ?_) (fun _ => ?_) | refine Br.bool (fun _ => ?_) (fun _ => ?_)
    | ((with_reducible apply TL.alloc_ag); (· rfl); intro _) | ((with_reducible apply TL.alloc_sc); (· rfl); (· rfl); intro _) | ((with_reducible apply TL.box_ag); (· rfl); (· rfl); intro _) | ((with_reducible apply TL.box_sc); (· rfl); (· rfl); (· rfl); intro _)
    | apply TC.region_draw (by kernel_rfl) (by kernel_rfl) | refine TW.nil ?_ | ((with_reducible apply TW.pure); (· exact yA); (· rfl)))
      refine TQ.only (.obj b4 (.cells [.nilIface].toArray 20 (0, 0)) :: .obj b5 (.cells [.int .i64 0].toArray 23 (0, 0)) :: L) selF ?_
      refine TQ.endD_panic2 (L' := L) (vs := []) (caps := [.pointer (some ⟨b4, 0, none⟩), .pointer (some ⟨b5, 0, none⟩)]) (late_u_stop b4 b5 e0 .nilIface (.int .i64 0) g2 _) rfl rfl (by kernel_rfl) Tryz.results17 rvA rvA (((hgx.trans h1).trans hgz).trans h2) ?_ (.refl _) selF
      exact ⟨_, rfl, rfl, rfl, rfl⟩
    | some z' =>
      dsimp only at DO hre
      have iv2 := (hinv _ _ ho).2
      have HRE := Hn.mk hre
      clear hinv hiv ho hre
      repeat' (first
    | refine wkQ ?_
    | ((with_reducible apply TL.pure (d := 53) (v := .agg #[str p, w2])); (· exact Y.load_cells rfl ld2 ll2); (· rfl)) | ((with_reducible apply TW.pure (d := 53) (v := .agg #[str p, w2])); (· exact Y.load_cells rfl ld2 ll2); (· rfl))
    | refine wkV ?_
    | ((with_reducible apply TL.pure); (· exact yM); (· rfl)) | ((with_reducible apply TW.pure); (· exact yM); (· rfl))
    | (refine TL.call (Enters.plain (by kernel_rfl) (by rfl)) (by rfl) (DD _) ?_; (rintro e gd Ln hgd ⟨bd, k1, k2, k3⟩; have k2 := k2.symm; subst k1; subst k2; subst k3; refine CallK.ret ?_))
        | ((with_reducible apply TL.pure); (· exact Y.lookupS_one rfl rfl pkA hfd); (· rfl)) | ((with_reducible apply TL.pure); (· exact deed_field rfl); (· rfl))
        
    | (refine TL.call (Enters.func (by rfl) hcd (by rfl)) (by rfl) (Does.perm (DO _) permU) ?_; (rintro e g2 Ln h2 ⟨v2, k1, k2, o2, j2⟩; subst k1; subst k2; refine CallK.ret ?_))
    | ((with_reducible apply TA.takeN 0); (· rfl); (· decide +kernel); (· rfl); (· (first | exact yQ | exact yA | exact yB | exact yM | exact yV)); (· decide +kernel); (· decide +kernel); (· rfl); (· exact fun _ _ _ h => endD_put Tryz.results17 (by decide) (by decide) h); (· rfl))
    | ((with_reducible apply TA.takeN 1); (· rfl); (· decide +kernel); (· rfl); (· (first | exact yQ | exact yA | exact yB | exact yM | exact yV)); (· decide +kernel); (· decide +kernel); (· rfl); (· exact fun _ _ _ h => endD_put Tryz.results17 (by decide) (by decide) h); (· rfl))
    | ((with_reducible apply TA.takeN 2); (· rfl); (· decide +kernel); (· rfl); (· (first | exact yQ | exact yA | exact yB | exact yM | exact yV)); (· decide +kernel); (· decide +kernel); (· rfl); (· exact fun _ _ _ h => endD_put Tryz.results17 (by decide) (by decide) h); (· rfl))
    | ((with_reducible apply TA.takeN 3); (· rfl); (· decide +kernel); (· rfl); (· (first | exact yQ | exact yA | exact yB | exact yM | exact yV)); (· decide +kernel); (· decide +kernel); (· rfl); (· exact fun _ _ _ h => endD_put Tryz.results17 (by decide) (by decide) h); (· rfl))
    | ((with_reducible apply TA.takeN 0); (· rfl); (· decide +kernel); (· rfl); (· (first | exact yQ | exact yA | exact yB | exact yM | exact yV)); (· decide +kernel); (· decide +kernel); (· rfl); (· exact fun _ _ _ h => h); (· rfl))
    | ((with_reducible apply TA.takeN 1); (· rfl); (· decide +kernel); (· rfl); (· (first | exact yQ | exact yA | exact yB | exact yM | exact yV)); (· decide +kernel); (· decide +kernel); (· rfl); (· exact fun _ _ _ h => h); (· rfl))
    | ((with_reducible apply TA.takeN 2); (· rfl); (· decide +kernel); (· rfl); (· (first | exact yQ | exact yA | exact yB | exact yM | exact yV)); (· decide +kernel); (· decide +kernel); (· rfl); (· exact fun _ _ _ h => h); (· rfl))
    | ((with_reducible apply TA.takeN 3); (· rfl); (· decide +kernel); (· rfl); (· (first | exact yQ | exact yA | exact yB | exact yM | exact yV)); (· decide +kernel); (· decide +kernel); (· rfl); (· exact fun _ _ _ h => h); (· rfl))
    | ((with_reducible apply TA.oneN 0); (· rfl); (· rfl); (· decide +kernel); (· rfl))
    | ((with_reducible apply TA.oneN 1); (· rfl); (· rfl); (· decide +kernel); (· rfl))
    | ((with_reducible apply TA.oneN 2); (· rfl); (· rfl); (· decide +kernel); (· rfl))
    | ((with_reducible apply TA.oneN 3); (· rfl); (· rfl); (· decide +kernel); (· rfl))
    | refine TQ.any leF selF ?_
    | refine TC.region_any 11 ([.obj _ (.cells [str n, w1].toArray 47 (0, 0)), .obj _ (.cells [str p, w2].toArray 47 (0, 0))]) (by kernel_rfl) rfl selF ?_ | refine TA.done (by decide +kernel) ?_ | refine TQ.any_panic ?_
    | ((with_reducible apply TL.pure); (· exact yA); (· rfl))
    | refine TC.seq ?_ | refine TC.region ?_ | refine TL.nil ?_ | refine TQ.then_normal ?_
    | ((with_reducible apply TL.storeE); (· rfl); (· rfl); (· rfl); (· exact pkA); (· infer_instance)) | ((with_reducible apply TL.store_whole); (· rfl); (· rfl); (· exact oneA); (· rfl); (· exact pkA); (· rfl))
    | refine TC.block ?_ | refine TC.ret ?_ | refine TC.skip ?_ | refine TC.exit ?_ | refine TC.cond rfl ?_
    | refine TQ.down ?_ | refine TQ.in_exit' rfl ?_
    | refine TL.guard_yes rfl rfl ?_ | refine TL.guard_no rfl rfl rfl rfl ?_ | refine TL.guard_no0 rfl rfl rfl ?_ | refine TL.guard_undef rfl rfl rfl ?_ | refine TL.guard_undef0 rfl rfl ?_ | refine TL.guard rfl rfl rfl ?_
    | refine Br.t rfl ?_ | refine Br.f rfl ?_ | refine Br.ky kpA ?_ | refine Br.kn kpA ?_ | refine Br.nky kpA ?_ | refine Br.nkn kpA ?_
    | refine Br.eq0 (fun _ => ?_) (fun _ => ?_) | refine Br.neq0 (fun _ => ?_) (fun _ => ?_) | refine Br.eq (fun _ => ?_) (fun _ => ?_) | refine Br.neq (fun _ => ?_) (fun _ => ?_) | refine Br.not (fun _ => ?_) (fun _ => ?_) | refine Br.dec (fun _ => ?_) (fun _ => ?_) | refine Br.bool (fun _ => ?_) (fun _ => ?_)
    | ((with_reducible apply TL.alloc_ag); (· rfl); intro _) | ((with_reducible apply TL.alloc_sc); (· rfl); (· rfl); intro _) | ((with_reducible apply TL.box_ag); (· rfl); (· rfl); intro _) | ((with_reducible apply TL.box_sc); (· rfl); (· rfl); (· rfl); intro _)
    | apply TC.region_draw (by kernel_rfl) (by kernel_rfl) | refine TW.nil ?_ | ((with_reducible apply TW.pure); (· exact yA); (· rfl)))
      refine TQ.round ⟨k + 1, z', v2, g2⟩ ?_ ?_ rfl subA selF
      · exact ⟨by dsimp only; omega, hgz.trans h2, iv2.up (by dsimp only; omega), hok, j2, HRE.out⟩
      · dsimp only; omega
  | list xs =>
    rw [IsJ] at hx
    obtain ⟨sl, flat, rfl, hS, _⟩ := hx
    obtain ⟨ao, cap, rfl⟩ := hS.slice
    clear hS
    dsimp only
    repeat' (first
    | refine wkQ ?_
    | refine wkV ?_
    | (refine TL.call (Enters.plain (by kernel_rfl) (by rfl)) (by rfl) (RI _) ?_; (rintro e gr Ln hgr ⟨k1, k2⟩; have k2 := k2.symm; subst k1; subst k2; (have M1 := MA gr hgr; clear MA); refine CallK.ret ?_))
    | ((with_reducible apply TL.gives_plain); (· kernel_rfl); (· rfl); (· exact M1 _); (· rfl)) | ((with_reducible apply TW.gives_plain); (· kernel_rfl); (· rfl); (· exact M1 _); (· rfl))
    | ((with_reducible apply TL.storeK); (· rfl); (· rfl); (· exact rfl); (· exact pkA); (· exact Nat.le_of_ble_eq_true rfl))
    | refine stS ?_ | (refine stB ?_; intro _) | (refine stC ?_; refine And.intro (fun _ => ?_) (fun _ => ?_)))
    refine TQ.endD_ret_none (L' := L) rfl Tryz.results17 rvA rvA hgr ?_ selF
    exact ⟨_, rfl, rfl, rfl, rfl⟩
  | num n =>
    rw [IsJ] at hx
    obtain ⟨rfl, _⟩ := hx
    dsimp only
    repeat' (first
    | refine wkQ ?_
    | refine wkV ?_
    | (refine TL.call (Enters.plain (by kernel_rfl) (by rfl)) (by rfl) (RI _) ?_; (rintro e gr Ln hgr ⟨k1, k2⟩; have k2 := k2.symm; subst k1; subst k2; (have M1 := MA gr hgr; clear MA); refine CallK.ret ?_))
    | ((with_reducible apply TL.gives_plain); (· kernel_rfl); (· rfl); (· exact M1 _); (· rfl)) | ((with_reducible apply TW.gives_plain); (· kernel_rfl); (· rfl); (· exact M1 _); (· rfl))
    | ((with_reducible apply TL.storeK); (· rfl); (· rfl); (· exact rfl); (· exact pkA); (· exact Nat.le_of_ble_eq_true rfl))
    | refine stS ?_ | (refine stB ?_; intro _) | (refine stC ?_; refine And.intro (fun _ => ?_) (fun _ => ?_)))
    refine TQ.endD_ret_none (L' := L) rfl Tryz.results17 rvA rvA hgr ?_ selF
    exact ⟨_, rfl, rfl, rfl, rfl⟩
  | _ =>
    rw [IsJ] at hx
    subst hx
    dsimp only
    repeat' (first
    | refine wkQ ?_
    | refine wkV ?_
    | (refine TL.call (Enters.plain (by kernel_rfl) (by rfl)) (by rfl) (RI _) ?_; (rintro e gr Ln hgr ⟨k1, k2⟩; have k2 := k2.symm; subst k1; subst k2; (have M1 := MA gr hgr; clear MA); refine CallK.ret ?_))
    | ((with_reducible apply TL.gives_plain); (· kernel_rfl); (· rfl); (· exact M1 _); (· rfl)) | ((with_reducible apply TW.gives_plain); (· kernel_rfl); (· rfl); (· exact M1 _); (· rfl))
    | ((with_reducible apply TL.storeK); (· rfl); (· rfl); (· exact rfl); (· exact pkA); (· exact Nat.le_of_ble_eq_true rfl))
    | refine stS ?_ | (refine stB ?_; intro _) | (refine stC ?_; refine And.intro (fun _ => ?_) (fun _ => ?_)))
    refine TQ.endD_ret_none (L' := L) rfl Tryz.results17 rvA rvA hgr ?_ selF
    exact ⟨_, rfl, rfl, rfl, rfl⟩
end Go.Proofs.YthngolfabfijpaaGreatDoor
