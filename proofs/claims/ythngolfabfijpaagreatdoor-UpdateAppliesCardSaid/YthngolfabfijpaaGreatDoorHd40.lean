/-
  The walk of the document's Apply.
-/
import Derived.Test.YthngolfabfijpaaGreatDoorHd2
import Derived.Test.YthngolfabfijpaaGreatDoorHd35
import Derived.Test.YthngolfabfijpaaGreatDoorHd38
import Derived.Test.YthngolfabfijpaaGreatDoorHd39
namespace Go.Proofs.YthngolfabfijpaaGreatDoor
open Go.RowKit Go.TL
set_option maxRecDepth 100000

theorem look_partU {nm : List UInt8} {y z : J} {ps : List (List UInt8)} {vs : List J} {k w : Nat} (h : partsU nm y = some (ps, vs)) (hl : lookJ y w = 0) (hz : vs[k]? = some z) : lookJ z 0 = 0 := by
  unfold partsU at h
  split at h
  · split at h
    · obtain ⟨l, _, he⟩ := Option.map_eq_some_iff.1 h
      obtain ⟨_, rfl⟩ := Prod.mk.inj he
      rw [lookJ] at hl
      split at hl
      · omega
      · exact look_down z (w + 1) 0 (by rw [Nat.zero_add]; exact looks_get hl hz)
    · cases h
  · split at h
    · obtain ⟨rfl, rfl⟩ := Prod.mk.inj (Option.some.inj h)
      rw [lookJ] at hl
      split at hl
      · omega
      · exact look_down z (w + 1) 0 (by rw [Nat.zero_add]; exact looko_get hl hz)
    · cases h
theorem wfN_part {nm : List UInt8} {x : DV} {ps : List (List UInt8)} {ws : List DV} {m : Nat} (hw : wfN m x) (h : partsD nm x = some (ps, ws)) : wfNs m ws := by
  obtain ⟨k, b, n, s, items, names⟩ := x
  rw [wfN] at hw
  unfold partsD at h
  dsimp only at h
  split at h
  · split at h
    · rename_i hk
      obtain ⟨l, hl, he⟩ := Option.map_eq_some_iff.1 h
      obtain ⟨rfl, rfl⟩ := Prod.mk.inj he
      exact hw.2.2.2 (.inl hk)
    · cases h
  · split at h
    · rename_i hk
      obtain ⟨rfl, rfl⟩ := Prod.mk.inj (Option.some.inj h)
      exact hw.2.2.2 (.inr hk)
    · cases h
def zeroU : DV := .mk 0 false 0 [] [] []
theorem isV_zeroU {g : Gh} : IsV g zeroU [.int .i64 0, .bool false, .int .i64 0, .string ⟨#[]⟩, .slice none 0 0, .slice none 0 0] := by
  unfold zeroU
  rw [IsV]
  exact ⟨_, _, [], rfl, ⟨by decide, by decide⟩, ⟨by decide, by decide⟩, by decide, .nil, by simp, by rw [IsVs], .nil, by simp, fun x hx => by cases hx⟩
theorem puts_no {k e : Nat} {L : List Ent} {g : Gh} {cs : List Value} {z : DV} (h : IsV g z cs) (he : e ≠ 0) : PutsDR k (e, none) L (.returned (.tuple #[.agg cs.toArray, .int .i64 (e : Nat)])) g L := ⟨cs, e, z, rfl, rfl, h, rfl, he⟩
theorem puts_yes {k : Nat} {L : List Ent} {g : Gh} {cs : List Value} {z : DV} (h : IsV g z cs) (hw : wfN k z) : PutsDR k (0, some (toJ z)) L (.returned (.tuple #[.agg cs.toArray, .int .i64 0])) g L := ⟨cs, 0, z, rfl, rfl, h, rfl, rfl, hw⟩
theorem toJ_objK {x : DV} {ns : List (List UInt8)} {l : List J} (h : toJ x = .obj ns l) : ∃ b n s items, x = .mk 5 b n s items ns ∧ l = items.map toJ := by
  obtain ⟨k, b, m, t, items, names⟩ := x
  rw [toJ_eq] at h
  split at h
  · cases h
  split at h
  · cases h
  split at h
  · cases h
  split at h
  · cases h
  split at h
  · cases h
  split at h
  · rename_i e
    injection h with h1 h2
    subst h1; subst h2; subst e
    exact ⟨b, m, t, items, rfl, rfl⟩
  · cases h
theorem apply_18 {x u : J} (h : rightU u = false) : applyU cmpJ plusL timesL x u = (18, none) := by
  unfold applyU; rw [if_pos h]
theorem apply_dark {x u : J} (h : rightU u = true) (h0 : lookJ x 0 ≠ 0) : applyU cmpJ plusL timesL x u = (lookJ x 0, none) := by
  unfold applyU; rw [if_neg (by rw [h]; decide), if_pos h0]
theorem apply_low {x u : J} (h : rightU u = true) (_h0 : lookJ x 0 = 0) (hx : ∀ ns xs, x ≠ .obj ns xs) : applyU cmpJ plusL timesL x u = (14, none) := by
  unfold applyU; rw [if_neg (by rw [h]; decide), if_neg (by omega)]
  cases x with
  | obj ns xs => exact absurd rfl (hx ns xs)
  | _ => rfl
theorem apply_all {x u : J} {ns ms : List (List UInt8)} {xs ys : List J} (h : rightU u = true) (_h0 : lookJ x 0 = 0) (hx : x = .obj ms ys) (hu : u = .obj ns xs) : applyU cmpJ plusL timesL x u = allU cmpJ plusL timesL x ns xs := by
  unfold applyU; rw [if_neg (by rw [h]; decide), if_neg (by omega)]
  subst hx; subst hu; rfl
structure BpS where
  i : Nat
  z : DV
  c : List Value
  g : Gh
structure BpI (m : Nat) (ns : List (List UInt8)) (us : List J) (g0 : Gh) (R : Nat × Option J) (x : BpS) : Prop where
  le : x.i ≤ us.length
  gl : g0.le x.g
  iv : UInv (m + 2 * (100 - countU (ns.drop x.i) (us.drop x.i))) (toJ x.z)
  wf : wfN (m + 2 * (100 - countU (ns.drop x.i) (us.drop x.i))) x.z
  ct : countU (ns.drop x.i) (us.drop x.i) ≤ 100
  rt : rightsU (ns.drop x.i) (us.drop x.i) = true
  js : IsV x.g x.z x.c
  re : allU cmpJ plusL timesL (toJ x.z) (ns.drop x.i) (us.drop x.i) = R
structure BkI (m : Nat) (nm : List UInt8) (ps : List (List UInt8)) (ws : List J) (ns : List (List UInt8)) (us : List J) (g0 : Gh) (R : Nat × Option J) (x : BpS) : Prop where
  le : x.i ≤ ps.length
  gl : g0.le x.g
  iv : UInv (m + 2 * x.i) (toJ x.z)
  wf : wfN (m + 2 * x.i) x.z
  ok : partsOk nm (ps.drop x.i) (ws.drop x.i) = true
  js : IsV x.g x.z x.c
  re : thenU ns us (manyU cmpJ plusL timesL nm (toJ x.z) (ps.drop x.i) (ws.drop x.i)) = R
set_option maxHeartbeats 64000000 in
theorem rApply22_does (m : Nat) (x y : DV) (cs us : List Value) (g : Gh) (L : List Ent) (_hm : 128 ≤ m) (_hm2 : m ≤ 1000) (hX : IsV g x cs) (hY : IsV g y us) (wx : wfN m x) (wy : wfN m y) : Does Tryz.prog 18 #[.agg cs.toArray, .agg us.toArray] g L (PutsDR (m + 200) (applyU cmpJ plusL timesL (toJ x) (toJ y)) L) := by
  refine Does.of2 Tryz.func18 rfl Tryz.ntmps18 rfl ?_
  have wvx := wf_of_N x m wx (by omega)
  have wvy := wf_of_N y m wy (by omega)
  have RI := fun L => rRight22_does y us g L hY wvy
  have MA := fun g1 (h : g.le g1) L => rMay_gives x cs g1 L (IsV.le h _ _ hX) wvx
  rw [← look_toJ _ x (Nat.le_refl _)] at MA
  have HX := Hn.mk hX
  have zx := sz_toJ _ x (Nat.le_refl _) m wx
  cases hr : rightU (toJ y) with
  | false =>
    rw [hr] at RI
    rw [apply_18 hr]
    obtain ⟨x0, x1, x2, x3, xi, xil, xic, xn, xnl, xnc, rfl⟩ := hX.form
    obtain ⟨y0, y1, y2, y3, yi, yil, yic, yn, ynl, ync, rfl⟩ := hY.form
    clear MA hX hY
    repeat' (first | refine wkQ ?_ | refine wkV ?_ | (refine TL.call (Enters.plain (by kernel_rfl) (by rfl)) (by rfl) (RI _) ?_; (rintro e gr Ln hgr ⟨k1, k2⟩; have k2 := k2.symm; subst k1; subst k2; skip; refine CallK.ret ?_)) | refine stS ?_ | (refine stB ?_; intro _) | fail)
    refine TQ.endR2 (L' := L) Tryz.results18 rvA rvA rfl (hgr) ?_ selF
    exact puts_no (e := 18) isV_zeroU (by decide)
  | true =>
  rw [hr] at RI
  by_cases h0 : lookJ (toJ x) 0 = 0
  case neg =>
    rw [apply_dark hr h0]
    have HK := Hn.mk (show ¬ ((lookJ (toJ x) 0 : Nat) : Int) = 0 by omega)
    generalize lookJ (toJ x) 0 = k at *
    obtain ⟨x0, x1, x2, x3, xi, xil, xic, xn, xnl, xnc, rfl⟩ := hX.form
    obtain ⟨y0, y1, y2, y3, yi, yil, yic, yn, ynl, ync, rfl⟩ := hY.form
    clear hX hY
    repeat' (first | refine wkQ ?_ | refine wkV ?_ | (refine TL.call (Enters.plain (by kernel_rfl) (by rfl)) (by rfl) (RI _) ?_; (rintro e gr Ln hgr ⟨k1, k2⟩; have k2 := k2.symm; subst k1; subst k2; (have M1 := MA gr hgr; clear MA); refine CallK.ret ?_)) | ((with_reducible apply TL.gives_plain); (· kernel_rfl); (· rfl); (· exact M1 _); (· rfl)) | refine stS ?_ | (refine stB ?_; intro _) | fail)
    refine TQ.endR2 (L' := L) Tryz.results18 rvA rvA rfl (hgr) ?_ selF
    exact puts_no (e := k) isV_zeroU h0
  rw [h0] at MA
  obtain ⟨ns, uj, hyj, hly, hrs, hct⟩ := right_obj hr
  obtain ⟨yb, yn, ys, items, rfl, rfl⟩ := toJ_objK hyj
  obtain ⟨xk, xb, xn, xs, xit, xnm⟩ := x
  have hX0 := hX
  rw [IsV] at hX
  obtain ⟨xv, xw, xf, rfl, _, _, _, xS, _, _, xT, _⟩ := hX
  obtain ⟨xa, xc, rfl⟩ := xS.slice
  obtain ⟨xa1, xc1, rfl⟩ := xT.slice
  have hY0 := hY
  rw [IsV] at hY
  obtain ⟨yv, yw, yf, rfl, _, _, _, yS, _, yI, yT, _, _⟩ := hY
  obtain ⟨ya, yic, rfl⟩ := yS.slice
  obtain ⟨ym, ync, rfl⟩ := yT.slice
  by_cases hk : xk = 5
  case neg =>
    rw [apply_low hr h0 (fun a l hj => by
      obtain ⟨_, _, _, _, e, _⟩ := toJ_objK hj
      injection e with e1
      exact absurd e1 hk)]
    have HK := Hn.mk hk
    clear xS xT yS yT yI hX0 hY0
    repeat' (first | refine wkQ ?_ | refine wkV ?_ | (refine TL.call (Enters.plain (by kernel_rfl) (by rfl)) (by rfl) (RI _) ?_; (rintro e gr Ln hgr ⟨k1, k2⟩; have k2 := k2.symm; subst k1; subst k2; (have M1 := MA gr hgr; clear MA); refine CallK.ret ?_)) | ((with_reducible apply TL.gives_plain); (· kernel_rfl); (· rfl); (· exact M1 _); (· rfl)) | refine stS ?_ | (refine stB ?_; intro _) | fail)
    refine TQ.endR2 (L' := L) Tryz.results18 rvA rvA rfl (hgr) ?_ selF
    exact puts_no (e := 14) isV_zeroU (by decide)
  subst hk
  have hxj := toJ_obj (k := 5) rfl xb xn xs xit xnm
  have iv : UInv m (toJ (.mk 5 xb xn xs xit xnm)) := ⟨h0, zx.2, by rw [hxj]; rfl, zx.1⟩
  rw [apply_all hr h0 hxj hyj]
  obtain ⟨R, hR⟩ : ∃ R, R = allU cmpJ plusL timesL (toJ (.mk 5 xb xn xs xit xnm)) ns (items.map toJ) := ⟨_, rfl⟩
  rw [← hR]
  have HI := Hn.mk yS
  have HF := Hn.mk yI
  have HN := Hn.mk yT
  rw [wfN] at wy
  rw [wfV] at wvy
  have w3 := wvy.2.2.1 rfl
  clear xS xT yS yT yI hY0 hxj
  repeat' (first | refine wkQ ?_ | (refine TL.call (Enters.plain (by kernel_rfl) (by rfl)) (by rfl) (RI _) ?_; (rintro e gr Ln hgr ⟨k1, k2⟩; have k2 := k2.symm; subst k1; subst k2; (have M1 := MA gr hgr; clear MA RI); refine CallK.ret ?_)) | ((with_reducible apply TL.gives_plain); (· kernel_rfl); (· rfl); (· exact M1 _); (· rfl)) | refine stS ?_ | (refine stB ?_; intro _) | fail)
  rename_i b2 b3 b4
  refine TC.loop (BpI m ns (items.map toJ) g R) (fun x => items.length - x.i) (fun x => [(7, .int .i64 (x.i : Nat)), (5, .int .i64 0), (4, .pointer (some ⟨b4, 0, none⟩)), (3, .pointer (some ⟨b3, 0, none⟩)), (2, .pointer (some ⟨b2, 0, none⟩))]) (fun x => x.g) (fun x => .obj b2 (.cells (x.c).toArray 29 (0, 0)) :: .obj b4 (.cells [.int .i64 0, .bool false, .int .i64 0, .string ⟨#[]⟩, .slice none 0 0, .slice none 0 0].toArray 29 (0, 0)) :: .obj b3 (.cells [.int .i64 5, .bool yb, .int .i64 yn, str ys, .slice (ya) items.length yic, .slice (ym) ns.length ync].toArray 29 (0, 0)) :: L) ⟨0, .mk 5 xb xn xs xit xnm, [.int .i64 5, .bool xb, .int .i64 xn, str xs, .slice xa xit.length xc, .slice xa1 xnm.length xc1], gr⟩ ⟨Nat.zero_le _, hgr, iv.up (by omega), wfN_up _ m _ wx (by omega), by rw [List.drop_zero, List.drop_zero]; exact hct, by rw [List.drop_zero, List.drop_zero]; exact hrs, IsV.le hgr _ _ hX0, by rw [List.drop_zero, List.drop_zero]; exact hR.symm⟩ rfl subA selF ?_
  clear M1 HX iv hrs hct hr hR hX0 zx h0 wx wvx
  rintro ⟨i, z, cz, gx⟩ ⟨hi, hgx, hiv, hwz, hct, hrt, hj, hre⟩
  dsimp only at hi hgx hiv hwz hct hrt hj hre ⊢
  rw [List.length_map] at hi
  by_cases hlt : i < items.length
  case neg =>
    have hR : R = (0, some (toJ z)) := by
      rw [← hre, List.drop_eq_nil_of_le (by omega), List.drop_eq_nil_of_le (by rw [List.length_map]; omega), all_nil]
    subst hR
    obtain ⟨z0, z1, z2, z3, zi, zil, zic, zn, znl, znc, rfl⟩ := hj.form
    have HJ := Hn.mk hj
    clear hre hrt hiv hj
    repeat' (first | refine wkQ ?_ | refine stS ?_ | fail)
    refine TQ.endR2 (L' := L) Tryz.results18 rvA rvA rfl (hgx) ?_ selF
    exact puts_yes HJ.out (wfN_up _ _ _ hwz (by omega))
  obtain ⟨nm, e1⟩ : ∃ nm, ns[i]? = some nm := ⟨_, List.getElem?_eq_getElem (by rw [w3.1]; omega)⟩
  obtain ⟨v, hv⟩ : ∃ v, items[i]? = some v := ⟨_, List.getElem?_eq_getElem hlt⟩
  have hvj : (items.map toJ)[i]? = some (toJ v) := by rw [List.getElem?_map, hv]; rfl
  obtain ⟨bn, on, rfl, hgn⟩ := HN.out.elem (show i < ns.length by rw [w3.1]; omega) (by decide)
  have ldn : gx.cell bn (on + i * 1) = some (str nm) := hgx.cell (hgn 0 _ (by rw [Nat.mul_one]; exact strs_get e1))
  obtain ⟨us, hV, hl6, hcs⟩ := HF.out.get hv
  obtain ⟨bi, oi, rfl, hgi⟩ := HI.out.elem hlt (by decide)
  have ld1 : ∀ j u, us[j]? = some u → gx.cell bi (oi + i * 6 + j) = some u := fun j u hu => hgx.cell (hgi j _ (hcs j _ hu))
  have ll1 := hl6
  have wxv := (wy.2.2.2 (.inr rfl)).get hv
  have wvv := wf_of_N v m wxv (by omega)
  have PA := fun L => rpaths22_does nm v us gx L (IsV.le hgx _ _ hV) wvv
  unfold PathsR at PA
  have hpu := parts_toJ nm v
  rw [rights_at e1 hvj, Bool.and_eq_true] at hrt
  rw [count_at e1 hvj] at hct hiv hwz
  rw [all_at e1 hvj] at hre
  obtain ⟨hrm, hrt⟩ := hrt
  unfold rightM at hrm
  rw [Bool.and_eq_true] at hrm
  obtain ⟨hkn, hpk⟩ := hrm
  cases hp : partsD nm v with
  | none => rw [hp] at hpu; rw [hpu] at hpk; cases hpk
  | some q =>
  obtain ⟨ps, ws⟩ := q
  rw [hp] at PA hpu
  dsimp only [Option.map] at hpu
  rw [hpu] at hpk hre
  dsimp only at hpk hre
  obtain ⟨hpl, hwl, hww, hpn⟩ := parts_in wvv hp
  have hwn := wfN_part wxv hp
  have hlu : lenU nm (toJ v) = ps.length := by unfold lenU; rw [hpu]
  rw [hlu] at hct hiv hwz
  have lkv : lookJ (toJ v) 1 = 0 := by
    rw [hyj, lookJ] at hly
    split at hly
    · omega
    · exact looko_get hly hvj
  have hre2 : thenU (ns.drop (i + 1)) ((items.map toJ).drop (i + 1)) (manyU cmpJ plusL timesL nm (toJ z) ps (ws.map toJ)) = R := by
    rw [← hre]
    generalize manyU cmpJ plusL timesL nm (toJ z) ps (ws.map toJ) = q
    obtain ⟨a, o⟩ := q
    cases o <;> rfl
  obtain ⟨M, hM⟩ : ∃ M, M = m + 2 * (100 - (1 + ps.length + countU (ns.drop (i + 1)) ((items.map toJ).drop (i + 1)))) := ⟨_, rfl⟩
  rw [← hM] at hiv hwz
  have HRE := Hn.mk hre2
  have HJ := Hn.mk hj
  obtain ⟨z0, z1, z2, z3, zi, zil, zic, zn, znl, znc, rfl⟩ := hj.form
  clear hre hre2 hgi hgn hcs hV hj hly hyj
  repeat' (first | refine wkQ ?_ | (refine TL.call (Enters.plain (by kernel_rfl) (by rfl)) (by rfl) (PA _) ?_; (rintro e g1 Ln h1 ⟨v1, u1, k1, k2, s1, s2, r1⟩; have k2 := k2.symm; subst k1; subst k2; (clear s1 s2; obtain ⟨fl2, hS1, hS2, hI2, _⟩ := r1; obtain ⟨pa, pc, rfl⟩ := hS1.slice; obtain ⟨qa, qc, rfl⟩ := hS2.slice; have HS1 := Hn.mk hS1; have HS2 := Hn.mk hS2; have HI2 := Hn.mk hI2; clear hS1 hS2 hI2); refine CallK.ret ?_)) | ((with_reducible apply TA.takeN 0); (· rfl); (· decide +kernel); (· rfl); (· first | (first | exact yQ | exact yA | exact yB | exact yM | exact yV) | exact Y.load_cells rfl ld1 ll1); (· decide +kernel); (· decide +kernel); (· rfl); (· exact fun _ _ _ h => h); (· rfl)) | ((with_reducible apply TA.oneN 0); (· rfl); (· rfl); (· decide +kernel); (· rfl)) | refine TQ.any leF selF ?_ | refine TC.region_any 18 (_) (by kernel_rfl) rfl selF ?_ | refine TA.done (by decide +kernel) ?_ | refine stS ?_ | fail)
  refine TC.loop (BkI M nm ps (ws.map toJ) (ns.drop (i + 1)) ((items.map toJ).drop (i + 1)) g1 R) (fun z => ps.length - z.i) (fun z => [(11, .int .i64 (z.i : Nat)), (9, .slice qa ws.length qc), (8, .slice pa ps.length pc), (7, .int .i64 (i : Nat)), (5, .int .i64 0), (4, .pointer (some ⟨b4, 0, none⟩)), (3, .pointer (some ⟨b3, 0, none⟩)), (2, .pointer (some ⟨b2, 0, none⟩))]) (fun z => z.g) (fun z => .obj b2 (.cells (z.c).toArray 29 (0, 0)) :: .obj b4 (.cells [.int .i64 0, .bool false, .int .i64 0, .string ⟨#[]⟩, .slice none 0 0, .slice none 0 0].toArray 29 (0, 0)) :: .obj b3 (.cells [.int .i64 5, .bool yb, .int .i64 yn, str ys, .slice (some ⟨bi, oi, none⟩) items.length yic, .slice (some ⟨bn, on, none⟩) ns.length ync].toArray 29 (0, 0)) :: L) ⟨0, z, [.int .i64 z0, .bool z1, .int .i64 z2, str z3, .slice zi zil zic, .slice zn znl znc], g1⟩ ⟨Nat.zero_le _, .refl _, hiv, hwz, by dsimp only; rw [List.drop_zero, List.drop_zero]; exact hpk, IsV.le h1 _ _ HJ.out, by dsimp only; rw [List.drop_zero, List.drop_zero]; exact HRE.out⟩ rfl subA selF ?_
  clear PA HRE hiv hwz HJ ld1
  rintro ⟨k, zk, ck, gz⟩ ⟨hk1, hgz, hiv, hwz, hok, hj, hre⟩
  dsimp only at hk1 hgz hiv hwz hok hj hre ⊢
  have HJ := Hn.mk hj
  obtain ⟨z0, z1, z2, z3, zi, zil, zic, zn, znl, znc, rfl⟩ := hj.form
  by_cases hkl : k < ps.length
  case neg =>
    have hre2 : allU cmpJ plusL timesL (toJ zk) (ns.drop (i + 1)) ((items.map toJ).drop (i + 1)) = R := by
      have h0 : ps.drop k = [] := List.drop_eq_nil_of_le (by omega)
      rw [← hre, h0, many_nil]; rfl
    have HRE := Hn.mk hre2
    clear hre hre2 hok hj
    repeat' (first | refine wkQ ?_ | refine stS ?_ | fail)
    refine TQ.round ⟨i + 1, zk, [.int .i64 z0, .bool z1, .int .i64 z2, str z3, .slice zi zil zic, .slice zn znl znc], gz⟩ ?_ ?_ rfl subA selF
    · exact ⟨by rw [List.length_map]; dsimp only; omega, (hgx.trans h1).trans hgz, hiv.up (by dsimp only; omega), wfN_up _ _ _ hwz (by dsimp only; omega), by dsimp only; omega, hrt, HJ.out, HRE.out⟩
    · dsimp only; omega
  obtain ⟨p, ep⟩ : ∃ p, ps[k]? = some p := ⟨_, List.getElem?_eq_getElem hkl⟩
  obtain ⟨w, hw⟩ : ∃ w, ws[k]? = some w := ⟨_, List.getElem?_eq_getElem (by omega)⟩
  have hwj : (ws.map toJ)[k]? = some (toJ w) := by rw [List.getElem?_map, hw]; rfl
  obtain ⟨bp, op, rfl, hgp⟩ := HS1.out.elem hkl (by decide)
  obtain ⟨bw, ow, rfl, hgw⟩ := HS2.out.elem (show k < ws.length by omega) (by decide)
  obtain ⟨cw, hVw, hcw, hcf⟩ := HI2.out.get hw
  have ldn2 : gz.cell bn (on + i * 1) = some (str nm) := hgz.cell (h1.cell ldn)
  have ldp : gz.cell bp (op + k * 1) = some (str p) := hgz.cell (hgp 0 _ (by rw [Nat.mul_one]; exact strs_get ep))
  have ld2 : ∀ j u, cw[j]? = some u → gz.cell bw (ow + k * 6 + j) = some u := fun j u hu => hgz.cell (hgw j _ (hcf j _ hu))
  have ll2 := hcw
  rw [partsOk_at ep hwj, Bool.and_eq_true, Bool.and_eq_true] at hok
  obtain ⟨⟨hps, hmy⟩, hok⟩ := hok
  rw [many_at ep hwj] at hre
  obtain ⟨l, hl⟩ := Option.isSome_iff_exists.1 hps
  have wnw := hwn.get hw
  have zw := sz_toJ _ w (Nat.le_refl _) m wnw
  have K : OneOk (M + 2 * k) p l zk w _ cw gz := ⟨by omega, by omega, hl, HJ.out, IsV.le hgz _ _ hVw, hwz, wfN_up w m _ wnw (by omega), hiv.look, look_partU hpu lkv hwj⟩
  have OD := fun L => rone_does nm hkn (M + 2 * k) p l zk w _ cw gz L K hmy
  have OI : ∀ {e z}, oneU cmpJ plusL timesL nm (toJ zk) p (toJ w) = (e, some z) → e = 0 ∧ UInv (M + 2 * k + 2) z := fun h => one_inv hiv (by omega) zw.2 (sz_up _ m _ zw.1 (by omega)) h
  obtain ⟨e0, o0, ho⟩ : ∃ e0 o0, oneU cmpJ plusL timesL nm (toJ zk) p (toJ w) = (e0, o0) := ⟨_, _, rfl⟩
  rw [ho] at OD hre
  unfold PutsDR at OD
  have HKK := Hn.mk hgx
  cases o0 with
  | none =>
    dsimp only at OD hre
    have hR : R = (e0, none) := by rw [← hre]; rfl
    subst hR
    clear hre hgp hgw hcf hVw K OI ho hok HJ hj hiv
    repeat' (first | refine wkQ ?_ | refine wkV ?_ | (refine TL.call (Enters.plain (by kernel_rfl) (by rfl)) (by rfl) (OD _) ?_; (rintro e g2 Ln h2 ⟨cd, ed, zd, k1, k2, hd, hd2⟩; have k2 := k2.symm; subst k1; subst k2; (obtain ⟨rfl, hne⟩ := hd2; have HE := Hn.mk (show ¬ ((ed : Nat) : Int) = 0 by omega); obtain ⟨dk, db, dn, ds, di, dil, dic, dm, dml, dmc, rfl⟩ := hd.form; clear hd); refine CallK.ret ?_)) | ((with_reducible apply TA.takeN 0); (· rfl); (· decide +kernel); (· rfl); (· first | (first | exact yQ | exact yA | exact yB | exact yM | exact yV) | exact Y.load_cells rfl ld2 ll2); (· decide +kernel); (· decide +kernel); (· rfl); (· exact fun _ _ _ h => h); (· rfl)) | ((with_reducible apply TA.two 14 18); (· rfl); (· rfl); (· decide +kernel); (· rfl); (· rfl)) | ((with_reducible apply TA.oneN 0); (· rfl); (· rfl); (· decide +kernel); (· rfl)) | refine TQ.any leF selF ?_ | refine TC.region_any 21 (_) (by kernel_rfl) rfl selF ?_ | refine TA.done (by decide +kernel) ?_ | refine stS ?_ | (refine stB ?_; intro _) | fail)
    all_goals
      refine TQ.less ((((hgx.trans h1).trans hgz)).trans h2) ?_
      refine TQ.endR2 (L' := L) Tryz.results18 rvA rvA rfl (.refl _) ?_ selF
      exact puts_no isV_zeroU hne
  | some zj =>
    dsimp only at OD hre
    obtain ⟨rfl, hiv2⟩ := OI ho
    have HRE := Hn.mk hre
    clear hre hgp hgw hcf hVw K OI ho HJ hj hiv
    repeat' (first | refine wkQ ?_ | (refine TL.call (Enters.plain (by kernel_rfl) (by rfl)) (by rfl) (OD _) ?_; (rintro e g2 Ln h2 ⟨cd, ed, zd, k1, k2, hd, hd2⟩; have k2 := k2.symm; subst k1; subst k2; (obtain ⟨rfl, hzj, hwd⟩ := hd2; have HD := Hn.mk hd; obtain ⟨dk, db, dn, ds, di, dil, dic, dm, dml, dmc, rfl⟩ := hd.form; clear hd); refine CallK.ret ?_)) | ((with_reducible apply TA.takeN 0); (· rfl); (· decide +kernel); (· rfl); (· first | (first | exact yQ | exact yA | exact yB | exact yM | exact yV) | exact Y.load_cells rfl ld2 ll2); (· decide +kernel); (· decide +kernel); (· rfl); (· exact fun _ _ _ h => h); (· rfl)) | ((with_reducible apply TA.two 14 18); (· rfl); (· rfl); (· decide +kernel); (· rfl); (· rfl)) | ((with_reducible apply TA.oneN 0); (· rfl); (· rfl); (· decide +kernel); (· rfl)) | refine TQ.any leF selF ?_ | refine TC.region_any 21 (_) (by kernel_rfl) rfl selF ?_ | refine TA.done (by decide +kernel) ?_ | refine stS ?_ | (refine stB ?_; intro _) | fail)
    all_goals
      refine TQ.round ⟨k + 1, zd, [.int .i64 dk, .bool db, .int .i64 dn, str ds, .slice di dil dic, .slice dm dml dmc], g2⟩ ?_ ?_ rfl subA selF
      · subst hzj
        exact ⟨by dsimp only; omega, hgz.trans h2, hiv2.up (by dsimp only; omega), wfN_up _ _ _ hwd (by dsimp only; omega), hok, HD.out, HRE.out⟩
      · dsimp only; omega
end Go.Proofs.YthngolfabfijpaaGreatDoor
