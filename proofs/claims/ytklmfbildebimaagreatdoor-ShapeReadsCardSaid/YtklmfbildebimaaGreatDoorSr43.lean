/-
  The document's Read, walked: polygons; all of it.
-/
import Derived.Test.YtklmfbildebimaaGreatDoorSr2
import Derived.Test.YtklmfbildebimaaGreatDoorSr41
import Derived.Test.YtklmfbildebimaaGreatDoorSr42
import Derived.Test.YtklmfbildebimaaGreatDoorSr31
namespace Go.Proofs.YtklmfbildebimaaGreatDoor
open Go.RowKit Go.TL
set_option maxRecDepth 100000

structure RpS where
  i : Nat
  acc : List (List Pt)
  fl : List Value
  v : Value
  g : Gh
structure RpI (items : List DV) (g : Gh) (x : RpS) : Prop where
  le : x.i ≤ items.length
  al : x.acc.length = x.i
  fll : x.fl.length = x.i
  hg : g.le x.g
  pt : ∀ (j : Nat) (q : List Pt), x.acc[j]? = some q → ∃ u, x.fl[j]? = some u ∧ Sl x.g u q.length 2 (flatP q)
  sm : ∀ q ∈ x.acc, q.length ≤ 1000000
  re : mapRD items = (mapRD (items.drop x.i)).map (x.acc ++ ·)
set_option maxHeartbeats 64000000 in
theorem rRead9_poly (z : DV) (cs : List Value) (g : Gh) (L : List Ent) (nm w : DV) (hV : IsV g z cs) (hW : wfV z) (h0 : mayV z 0 = 0) (hf1 : fieldD z typeB = some nm) (hf2 : fieldD z coordB = some w) (h2 : z.items.length = 2) (h3 : nm.kind = 3) (n1 : nm.s = polyB) (hfw : FewD w) : Does Tryz.prog 8 #[.agg cs.toArray] g L (RdR (okD (if w.kind = 4 then (mapRD w.items).map fun l => (2, l) else none)) L) := by
  refine Does.of1 Tryz.func8 rfl Tryz.ntmps8 rfl ?_
  obtain ⟨zs, ys, hR⟩ := rds_of hV hW hf1 hf2
  have F1 := hR.f1
  have F2 := hR.f2
  have MY := fun L => rMay_gives z cs g L hV hW
  rw [h0] at MY
  obtain ⟨k, b, n, s, items, ns⟩ := z
  obtain ⟨ai, ci, an, cn, rfl⟩ := isV_six hV
  obtain ⟨kt, bt, nt, t, it, mt⟩ := nm
  obtain ⟨at4, ct4, at5, ct5, rfl⟩ := isV_six hR.v1
  replace h3 : kt = 3 := h3
  replace h2 : items.length = 2 := h2
  subst h3
  have d0 : (!decide (((0 : Nat) : Int) = 0)) = false := rfl
  have d2 : (!decide (((items.length : Nat) : Int) = 2)) = false := by rw [decide_eq_true (by omega)]; rfl
  have d3 : (!decide ((3 : Int) = 3)) = false := rfl
  have hw := hR.v2
  have e0 := Hn.mk (decide_eq_false (show ¬ t = pointB by rw [show t = polyB from n1]; decide))
  have e1 := Hn.mk (decide_eq_false (show ¬ t = lineB by rw [show t = polyB from n1]; decide))
  have e2 := Hn.mk (decide_eq_true (show t = polyB from n1))
  obtain ⟨wk, wb, wn, ws, wi, wm⟩ := w
  have hlw : wi.length ≤ 1000000 := hfw.len
  obtain ⟨aw, cw, aw2, cw2, rfl⟩ := isV_six hw
  rw [show (DV.mk wk wb wn ws wi wm).kind = wk from rfl, show (DV.mk wk wb wn ws wi wm).items = wi from rfl]
  by_cases h4 : wk = 4
  case neg =>
    have d4 : (!decide (wk = 4)) = true := by rw [decide_eq_false h4]; rfl
    rw [if_neg h4]
    clear hR hV hw n1 hf1 hf2 hfw
    repeat' (first
    | refine wkQ ?_
    | ((with_reducible apply TL.pure (d := 53) (v := .bool false)); (· exact Y.eql_is e0.out rfl rfl); (· rfl)) | ((with_reducible apply TW.pure (d := 53) (v := .bool false)); (· exact Y.eql_is e0.out rfl rfl); (· rfl))
    | ((with_reducible apply TL.pure (d := 67) (v := .bool false)); (· exact Y.eql_is e1.out rfl rfl); (· rfl)) | ((with_reducible apply TW.pure (d := 67) (v := .bool false)); (· exact Y.eql_is e1.out rfl rfl); (· rfl))
    | ((with_reducible apply TL.pure (d := 80) (v := .bool true)); (· exact Y.eql_is e2.out rfl rfl); (· rfl)) | ((with_reducible apply TW.pure (d := 80) (v := .bool true)); (· exact Y.eql_is e2.out rfl rfl); (· rfl))
    | ((with_reducible apply TL.pure (d := 83) (v := .bool true)); (· exact Y.neq_b d4 rfl rfl); (· rfl)) | ((with_reducible apply TW.pure (d := 83) (v := .bool true)); (· exact Y.neq_b d4 rfl rfl); (· rfl))
    | ((with_reducible apply TL.pure (d := 28) (v := .bool false)); (· exact Y.neq_b d0 rfl rfl); (· rfl)) | ((with_reducible apply TW.pure (d := 28) (v := .bool false)); (· exact Y.neq_b d0 rfl rfl); (· rfl))
    | ((with_reducible apply TL.pure (d := 41) (v := .bool false)); (· exact Y.neq_b d2 rfl rfl); (· rfl)) | ((with_reducible apply TW.pure (d := 41) (v := .bool false)); (· exact Y.neq_b d2 rfl rfl); (· rfl))
    | ((with_reducible apply TL.pure (d := 46) (v := .bool false)); (· exact Y.neq_b d3 rfl rfl); (· rfl)) | ((with_reducible apply TW.pure (d := 46) (v := .bool false)); (· exact Y.neq_b d3 rfl rfl); (· rfl))
    | refine wkV ?_
    | ((with_reducible apply TL.gives_plain); (· kernel_rfl); (· rfl); (· exact F1 _); (· rfl)) | ((with_reducible apply TW.gives_plain); (· kernel_rfl); (· rfl); (· exact F1 _); (· rfl))
    | ((with_reducible apply TL.gives_plain); (· kernel_rfl); (· rfl); (· exact F2 _); (· rfl)) | ((with_reducible apply TW.gives_plain); (· kernel_rfl); (· rfl); (· exact F2 _); (· rfl))
    | ((with_reducible apply TL.gives_plain); (· kernel_rfl); (· rfl); (· exact MY _); (· rfl)) | ((with_reducible apply TW.gives_plain); (· kernel_rfl); (· rfl); (· exact MY _); (· rfl))
    | refine stS ?_ | (refine stB ?_; intro _) | (refine stC ?_; refine And.intro (fun _ => ?_) (fun _ => ?_)))
    refine TQ.endR2 (L' := L) Tryz.results8 rvA rvA rfl (.refl _) ?_ selF
    exact ⟨_, rfl, rfl, rfl⟩
  subst h4
  rw [if_pos rfl]
  have hsw : ∀ x ∈ wi, x.items.length ≤ 1000000 := hfw.sub rfl
  have d4 : (!decide ((4 : Int) = 4)) = false := rfl
  have hw2 := hw
  rw [IsV] at hw2
  obtain ⟨vi, vn, flat, ew, _, _, _, hSw, _, hIw, _⟩ := hw2
  obtain ⟨rfl, rfl⟩ : vi = .slice aw wi.length cw ∧ vn = .slice aw2 wm.length cw2 := by simpa using ew.symm
  have HS := Hn.mk hSw
  have HI := Hn.mk hIw
  clear hR hV hw n1 hf1 hf2 hfw ew hSw hIw
  refine TC.row_nil 73 1 ?_
  repeat' (first
    | refine wkQ ?_
    | ((with_reducible apply TL.pure (d := 53) (v := .bool false)); (· exact Y.eql_is e0.out rfl rfl); (· rfl)) | ((with_reducible apply TW.pure (d := 53) (v := .bool false)); (· exact Y.eql_is e0.out rfl rfl); (· rfl))
    | ((with_reducible apply TL.pure (d := 67) (v := .bool false)); (· exact Y.eql_is e1.out rfl rfl); (· rfl)) | ((with_reducible apply TW.pure (d := 67) (v := .bool false)); (· exact Y.eql_is e1.out rfl rfl); (· rfl))
    | ((with_reducible apply TL.pure (d := 80) (v := .bool true)); (· exact Y.eql_is e2.out rfl rfl); (· rfl)) | ((with_reducible apply TW.pure (d := 80) (v := .bool true)); (· exact Y.eql_is e2.out rfl rfl); (· rfl))
    | ((with_reducible apply TL.pure (d := 83) (v := .bool false)); (· exact Y.neq_b d4 rfl rfl); (· rfl)) | ((with_reducible apply TW.pure (d := 83) (v := .bool false)); (· exact Y.neq_b d4 rfl rfl); (· rfl))
    | ((with_reducible apply TL.pure (d := 28) (v := .bool false)); (· exact Y.neq_b d0 rfl rfl); (· rfl)) | ((with_reducible apply TW.pure (d := 28) (v := .bool false)); (· exact Y.neq_b d0 rfl rfl); (· rfl))
    | ((with_reducible apply TL.pure (d := 41) (v := .bool false)); (· exact Y.neq_b d2 rfl rfl); (· rfl)) | ((with_reducible apply TW.pure (d := 41) (v := .bool false)); (· exact Y.neq_b d2 rfl rfl); (· rfl))
    | ((with_reducible apply TL.pure (d := 46) (v := .bool false)); (· exact Y.neq_b d3 rfl rfl); (· rfl)) | ((with_reducible apply TW.pure (d := 46) (v := .bool false)); (· exact Y.neq_b d3 rfl rfl); (· rfl))
    | refine wkV ?_
    | ((with_reducible apply TL.gives_plain); (· kernel_rfl); (· rfl); (· exact F1 _); (· rfl)) | ((with_reducible apply TW.gives_plain); (· kernel_rfl); (· rfl); (· exact F1 _); (· rfl))
    | ((with_reducible apply TL.gives_plain); (· kernel_rfl); (· rfl); (· exact F2 _); (· rfl)) | ((with_reducible apply TW.gives_plain); (· kernel_rfl); (· rfl); (· exact F2 _); (· rfl))
    | ((with_reducible apply TL.gives_plain); (· kernel_rfl); (· rfl); (· exact MY _); (· rfl)) | ((with_reducible apply TW.gives_plain); (· kernel_rfl); (· rfl); (· exact MY _); (· rfl))
    | ((with_reducible apply TL.storeK); (· rfl); (· rfl); (· exact rfl); (· exact pkA); (· exact Nat.le_of_ble_eq_true rfl))
    | refine stS ?_ | (refine stB ?_; intro _) | (refine stC ?_; refine And.intro (fun _ => ?_) (fun _ => ?_)))
  rename_i b1 b2 b4 b5 b7
  clear F1 F2 MY
  refine TC.loop (RpI wi g) (fun x => wi.length - x.i) (fun x => [(13, .int .i64 (x.i : Nat)), (7, .pointer (some ⟨b7, 0, none⟩)), (4, .pointer (some ⟨b4, 0, none⟩)), (2, .pointer (some ⟨b2, 0, none⟩))]) (fun x => x.g) (fun x => .obj b4 (.cells [.int .i64 2, x.v].toArray 36 (0, 0)) :: .row 73 1 x.v x.acc.length x.fl :: .obj b7 (.cells [.int .i64 4, .bool wb, .int .i64 wn, str ws, .slice aw wi.length cw, .slice aw2 wm.length cw2].toArray 25 (0, 0)) :: .obj b2 (.cells [.int .i64 0, .slice none 0 0].toArray 36 (0, 0)) :: L) ⟨0, [], [], .slice none 0 0, g⟩ ⟨Nat.zero_le _, rfl, rfl, .refl g, fun j q h => by simp at h, fun q h => by simp at h, by rw [List.drop_zero]; cases mapRD wi <;> rfl⟩ rfl subA selF ?_
  rintro ⟨i, acc, fl2, v, gx⟩ ⟨hi, ha, hfl, hgx, hpt, hsm, hre⟩
  dsimp only at hi ha hfl hgx hpt hsm hre ⊢
  refine TC.row_slice (v := v) (.there .here) ?_
  rintro av cv rfl _
  by_cases hlt : i < wi.length
  · obtain ⟨x, hx⟩ : ∃ x, wi[i]? = some x := ⟨_, List.getElem?_eq_getElem hlt⟩
    obtain ⟨cs', hV', hl6, hcs⟩ := HI.out.get hx
    obtain ⟨b8, o8, rfl, hg8⟩ := (HS.out.le hgx).elem hlt (by decide)
    have hld : ∀ j u, cs'[j]? = some u → gx.cell b8 (o8 + i * 6 + j) = some u := fun j u hu => hg8 j u (hcs j u hu)
    have hxs := hsw x (List.mem_of_getElem? hx)
    have PL := fun L => rplaces9_does x cs' gx L (hV'.le hgx) hxs
    unfold PlsR at PL
    rw [drop_of_get hx, mapRD] at hre
    have hP := Hn.mk hpt
    have hM := Hn.mk hsm
    clear hg8 hcs hx HI HS hV' hpt hsm hsw
    cases hp : placesD x with
    | none =>
      rw [show ringD2 x = none by unfold ringD2; rw [hp]] at hre
      rw [hp] at PL
      dsimp only at PL hre
      rw [hre, Option.map_none, Option.map_none]
      clear hre
      repeat' (first
    | refine wkQ ?_
    | refine wkV ?_
    | ((with_reducible apply TL.pure); (· exact yM); (· rfl)) | ((with_reducible apply TW.pure); (· exact yM); (· rfl))
    | (refine TL.call (Enters.plain (by kernel_rfl) (by rfl)) (by rfl) (PL _) ?_; (rintro e g2 Ln hg2 ⟨k2, k1⟩; have k2 := k2.symm; subst k1; subst k2; have hgx2 := hgx.trans hg2; refine CallK.ret ?_))
    | refine stS ?_ | (refine stB ?_; intro _) | (refine stC ?_; refine And.intro (fun _ => ?_) (fun _ => ?_))
    | refine wkN0 ?_
    | refine wkN1 ?_
    | refine wkN2 ?_
    | refine wkN3 ?_
    | refine wkG0 ?_
    | refine wkG1 ?_
    | refine wkG2 ?_
    | refine wkG3 ?_
    | refine wkX0 ?_
    | refine wkX1 ?_
    | refine wkX2 ?_
    | refine wkX3 ?_
    | refine wkN0 ?_
    | refine wkN1 ?_
    | refine wkN2 ?_
    | refine wkN3 ?_
    | ((with_reducible apply TA.oneN 0); (· rfl); (· rfl); (· decide +kernel); (· rfl))
    | ((with_reducible apply TA.oneN 1); (· rfl); (· rfl); (· decide +kernel); (· rfl))
    | ((with_reducible apply TA.oneN 2); (· rfl); (· rfl); (· decide +kernel); (· rfl))
    | ((with_reducible apply TA.oneN 3); (· rfl); (· rfl); (· decide +kernel); (· rfl))
    | refine TQ.any leF selF ?_
    | refine TC.region_any 19 (_) (by kernel_rfl) rfl selF ?_ | refine TA.done (by decide +kernel) ?_ | refine TQ.any_panic ?_)
      refine TQ.endR2 (L' := L) Tryz.results8 rvA rvA rfl hgx2 ?_ selF
      exact ⟨_, rfl, rfl, rfl⟩
    | some l =>
      have hll := placesD_le hp
      rw [hp] at PL
      dsimp only at PL
      by_cases h5 : 4 ≤ l.length
      case neg =>
        have d5 : decide (((l.length : Nat) : Int) < 4) = true := decide_eq_true (by omega)
        rw [show ringD2 x = none by unfold ringD2; rw [hp]; dsimp only; rw [decide_eq_false h5, if_neg (by simp)]] at hre
        dsimp only at hre
        rw [hre, Option.map_none, Option.map_none]
        clear hre
        repeat' (first
    | refine wkQ ?_
    | refine wkV ?_
    | ((with_reducible apply TL.pure); (· exact yM); (· rfl)) | ((with_reducible apply TW.pure); (· exact yM); (· rfl))
    | (refine TL.call (Enters.plain (by kernel_rfl) (by rfl)) (by rfl) (PL _) ?_; (rintro e g2 Ln hg2 ⟨k2, vl, k1, k3⟩; have k2 := k2.symm; subst k1; subst k2; obtain ⟨a1, c1, rfl⟩ := k3.slice; have K3 := Hn.mk k3; have hgx2 := hgx.trans hg2; clear k3; refine CallK.ret ?_))
    | refine stS ?_ | (refine stB ?_; intro _) | (refine stC ?_; refine And.intro (fun _ => ?_) (fun _ => ?_))
    | ((with_reducible apply TA.takeN 0); (· rfl); (· decide +kernel); (· rfl); (· first | exact Y.lss_b d5 rfl rfl | (first | exact yQ | exact yA | exact yB | exact yM | exact yV)); (· decide +kernel); (· decide +kernel); (· rfl); (· exact fun _ _ _ h => h); (· rfl))
    | ((with_reducible apply TA.takeN 1); (· rfl); (· decide +kernel); (· rfl); (· first | exact Y.lss_b d5 rfl rfl | (first | exact yQ | exact yA | exact yB | exact yM | exact yV)); (· decide +kernel); (· decide +kernel); (· rfl); (· exact fun _ _ _ h => h); (· rfl))
    | ((with_reducible apply TA.takeN 2); (· rfl); (· decide +kernel); (· rfl); (· first | exact Y.lss_b d5 rfl rfl | (first | exact yQ | exact yA | exact yB | exact yM | exact yV)); (· decide +kernel); (· decide +kernel); (· rfl); (· exact fun _ _ _ h => h); (· rfl))
    | ((with_reducible apply TA.takeN 3); (· rfl); (· decide +kernel); (· rfl); (· first | exact Y.lss_b d5 rfl rfl | (first | exact yQ | exact yA | exact yB | exact yM | exact yV)); (· decide +kernel); (· decide +kernel); (· rfl); (· exact fun _ _ _ h => h); (· rfl))
    | ((with_reducible apply TA.take_gN 0); (· rfl); (· decide +kernel); (· rfl); (· rfl); (· rfl); (· (first | exact Y.lss_b d5 rfl rfl | (first | exact yQ | exact yA | exact yB | exact yM | exact yV))); (· decide +kernel); (· decide +kernel); (· rfl); (· exact fun _ _ _ h => h); (· rfl))
    | ((with_reducible apply TA.take_gN 1); (· rfl); (· decide +kernel); (· rfl); (· rfl); (· rfl); (· (first | exact Y.lss_b d5 rfl rfl | (first | exact yQ | exact yA | exact yB | exact yM | exact yV))); (· decide +kernel); (· decide +kernel); (· rfl); (· exact fun _ _ _ h => h); (· rfl))
    | ((with_reducible apply TA.take_gN 2); (· rfl); (· decide +kernel); (· rfl); (· rfl); (· rfl); (· (first | exact Y.lss_b d5 rfl rfl | (first | exact yQ | exact yA | exact yB | exact yM | exact yV))); (· decide +kernel); (· decide +kernel); (· rfl); (· exact fun _ _ _ h => h); (· rfl))
    | ((with_reducible apply TA.take_gN 3); (· rfl); (· decide +kernel); (· rfl); (· rfl); (· rfl); (· (first | exact Y.lss_b d5 rfl rfl | (first | exact yQ | exact yA | exact yB | exact yM | exact yV))); (· decide +kernel); (· decide +kernel); (· rfl); (· exact fun _ _ _ h => h); (· rfl))
    | refine wkX0 ?_
    | refine wkX1 ?_
    | refine wkX2 ?_
    | refine wkX3 ?_
    | ((with_reducible apply TA.oneN 0); (· rfl); (· rfl); (· decide +kernel); (· rfl))
    | ((with_reducible apply TA.oneN 1); (· rfl); (· rfl); (· decide +kernel); (· rfl))
    | ((with_reducible apply TA.oneN 2); (· rfl); (· rfl); (· decide +kernel); (· rfl))
    | ((with_reducible apply TA.oneN 3); (· rfl); (· rfl); (· decide +kernel); (· rfl))
    | refine TQ.any leF selF ?_
    | refine TC.region_any 19 (_) (by kernel_rfl) rfl selF ?_ | refine TA.done (by decide +kernel) ?_ | refine TQ.any_panic ?_)
        refine TQ.endR2 (L' := L) Tryz.results8 rvA rvA rfl hgx2 ?_ selF
        exact ⟨_, rfl, rfl, rfl⟩
      have d5 : decide (((l.length : Nat) : Int) < 4) = false := decide_eq_false (by omega)
      obtain ⟨p0, hp0⟩ : ∃ p, l[0]? = some p := ⟨_, List.getElem?_eq_getElem (by omega)⟩
      obtain ⟨p1, hp1⟩ : ∃ p, l[l.length - 1]? = some p := ⟨_, List.getElem?_eq_getElem (by omega)⟩
      have hee : endsE l = decide (p0 = p1) := by unfold endsE; rw [hp0, hp1]; simp
      have HSb := Hn.mk (show IntKind.i64.wrap (((l.length : Nat) : Int) - 1) = ((l.length - 1 : Nat) : Int) by rw [IntWalk.i64_in _ (by omega)]; omega)
      have CELL : ∀ (g1 : Gh) (a1 : Option Addr) (c1 : Nat), Sl g1 (.slice a1 l.length c1) l.length 2 (flatP l) → ∃ b5 o5, a1 = some ⟨b5, o5, none⟩ ∧ (∀ j u, [Value.int .i64 p0.1, .int .i64 p0.2][j]? = some u → g1.cell b5 (o5 + 0 * 2 + j) = some u) ∧ (∀ j u, [Value.int .i64 p1.1, .int .i64 p1.2][j]? = some u → g1.cell b5 (o5 + (l.length - 1) * 2 + j) = some u) := fun g1 a1 c1 h => by
        obtain ⟨b5, o5, rfl, hgA⟩ := h.elem (i := 0) (by omega) (by decide)
        obtain ⟨b6, o6, he2, hgB⟩ := h.elem (i := l.length - 1) (by omega) (by decide)
        obtain ⟨rfl, rfl⟩ : b5 = b6 ∧ o5 = o6 := by simpa using he2
        exact ⟨b5, o5, rfl, pt_cells hgA (flatP_get hp0).1 (flatP_get hp0).2, pt_cells hgB (flatP_get hp1).1 (flatP_get hp1).2⟩
      have hq1 : [Value.int .i64 p0.1, .int .i64 p0.2].length = 2 := rfl
      have hq2 : [Value.int .i64 p1.1, .int .i64 p1.2].length = 2 := rfl
      clear hp0 hp1
      by_cases he : p0 = p1
      case neg =>
        have d6 : (!decide (p0 = p1)) = true := by rw [decide_eq_false he]; rfl
        rw [show ringD2 x = none by unfold ringD2; rw [hp]; dsimp only; rw [hee, decide_eq_false he, if_neg (by simp)]] at hre
        dsimp only at hre
        rw [hre, Option.map_none, Option.map_none]
        clear hre
        repeat' (first
    | refine wkQ ?_
    | refine wkV ?_
    | ((with_reducible apply TL.pure); (· exact yM); (· rfl)) | ((with_reducible apply TW.pure); (· exact yM); (· rfl))
    | (refine TL.call (Enters.plain (by kernel_rfl) (by rfl)) (by rfl) (PL _) ?_; (rintro e g2 Ln hg2 ⟨k2, vl, k1, k3⟩; have k2 := k2.symm; subst k1; subst k2; obtain ⟨a1, c1, rfl⟩ := k3.slice; obtain ⟨b6, o6, rfl, hl1, hl2⟩ := CELL _ _ _ k3; have K3 := Hn.mk (Sl.take k3 (show l.length - 1 ≤ l.length by omega)); have HC := K3.out.2; have hgx2 := hgx.trans hg2; clear k3 CELL; refine CallK.ret ?_))
    | refine stS ?_ | (refine stB ?_; intro _) | (refine stC ?_; refine And.intro (fun _ => ?_) (fun _ => ?_))
    | ((with_reducible apply TA.takeN 0); (· rfl); (· decide +kernel); (· rfl); (· first | first | exact Y.lss_b d5 rfl rfl | exact Y.neq_pt d6 rfl rfl | exact Y.sub rfl rfl HSb.out | (first | exact yQ | exact yA | exact yB | exact yM | exact yV)); (· decide +kernel); (· decide +kernel); (· rfl); (· exact fun _ _ _ h => h); (· rfl))
    | ((with_reducible apply TA.takeN 1); (· rfl); (· decide +kernel); (· rfl); (· first | first | exact Y.lss_b d5 rfl rfl | exact Y.neq_pt d6 rfl rfl | exact Y.sub rfl rfl HSb.out | (first | exact yQ | exact yA | exact yB | exact yM | exact yV)); (· decide +kernel); (· decide +kernel); (· rfl); (· exact fun _ _ _ h => h); (· rfl))
    | ((with_reducible apply TA.takeN 2); (· rfl); (· decide +kernel); (· rfl); (· first | first | exact Y.lss_b d5 rfl rfl | exact Y.neq_pt d6 rfl rfl | exact Y.sub rfl rfl HSb.out | (first | exact yQ | exact yA | exact yB | exact yM | exact yV)); (· decide +kernel); (· decide +kernel); (· rfl); (· exact fun _ _ _ h => h); (· rfl))
    | ((with_reducible apply TA.takeN 3); (· rfl); (· decide +kernel); (· rfl); (· first | first | exact Y.lss_b d5 rfl rfl | exact Y.neq_pt d6 rfl rfl | exact Y.sub rfl rfl HSb.out | (first | exact yQ | exact yA | exact yB | exact yM | exact yV)); (· decide +kernel); (· decide +kernel); (· rfl); (· exact fun _ _ _ h => h); (· rfl))
    | ((with_reducible apply TA.take_gN 0); (· rfl); (· decide +kernel); (· rfl); (· rfl); (· rfl); (· (first | first | exact Y.lss_b d5 rfl rfl | exact Y.neq_pt d6 rfl rfl | exact Y.sub rfl rfl HSb.out | (first | exact yQ | exact yA | exact yB | exact yM | exact yV))); (· decide +kernel); (· decide +kernel); (· rfl); (· exact fun _ _ _ h => h); (· rfl))
    | ((with_reducible apply TA.take_gN 1); (· rfl); (· decide +kernel); (· rfl); (· rfl); (· rfl); (· (first | first | exact Y.lss_b d5 rfl rfl | exact Y.neq_pt d6 rfl rfl | exact Y.sub rfl rfl HSb.out | (first | exact yQ | exact yA | exact yB | exact yM | exact yV))); (· decide +kernel); (· decide +kernel); (· rfl); (· exact fun _ _ _ h => h); (· rfl))
    | ((with_reducible apply TA.take_gN 2); (· rfl); (· decide +kernel); (· rfl); (· rfl); (· rfl); (· (first | first | exact Y.lss_b d5 rfl rfl | exact Y.neq_pt d6 rfl rfl | exact Y.sub rfl rfl HSb.out | (first | exact yQ | exact yA | exact yB | exact yM | exact yV))); (· decide +kernel); (· decide +kernel); (· rfl); (· exact fun _ _ _ h => h); (· rfl))
    | ((with_reducible apply TA.take_gN 3); (· rfl); (· decide +kernel); (· rfl); (· rfl); (· rfl); (· (first | first | exact Y.lss_b d5 rfl rfl | exact Y.neq_pt d6 rfl rfl | exact Y.sub rfl rfl HSb.out | (first | exact yQ | exact yA | exact yB | exact yM | exact yV))); (· decide +kernel); (· decide +kernel); (· rfl); (· exact fun _ _ _ h => h); (· rfl))
    | refine wkX0 ?_
    | refine wkX1 ?_
    | refine wkX2 ?_
    | refine wkX3 ?_
    | ((with_reducible apply TA.oneN 0); (· rfl); (· rfl); (· decide +kernel); (· rfl))
    | ((with_reducible apply TA.oneN 1); (· rfl); (· rfl); (· decide +kernel); (· rfl))
    | ((with_reducible apply TA.oneN 2); (· rfl); (· rfl); (· decide +kernel); (· rfl))
    | ((with_reducible apply TA.oneN 3); (· rfl); (· rfl); (· decide +kernel); (· rfl))
    | refine TQ.any leF selF ?_
    | refine TC.region_any 19 (_) (by kernel_rfl) rfl selF ?_ | refine TA.done (by decide +kernel) ?_ | refine TQ.any_panic ?_)
        refine TQ.endR2 (L' := L) Tryz.results8 rvA rvA rfl hgx2 ?_ selF
        exact ⟨_, rfl, rfl, rfl⟩
      have d6 : (!decide (p0 = p1)) = false := by rw [decide_eq_true he]; rfl
      rw [show ringD2 x = some (l.take (l.length - 1)) by unfold ringD2; rw [hp]; dsimp only; rw [hee, decide_eq_true he, decide_eq_true h5, if_pos (by simp)]] at hre
      dsimp only at hre
      have hre2 : mapRD wi = (mapRD (wi.drop (i + 1))).map ((acc ++ [l.take (l.length - 1)]) ++ ·) := by
        rw [hre, Option.map_map]
        congr 1
        funext q
        simp
      have HR := Hn.mk hre2
      clear hre hre2 hee he
      repeat' (first
    | refine wkQ ?_
    | refine wkV ?_
    | ((with_reducible apply TL.pure); (· exact yM); (· rfl)) | ((with_reducible apply TW.pure); (· exact yM); (· rfl))
    | (refine TL.call (Enters.plain (by kernel_rfl) (by rfl)) (by rfl) (PL _) ?_; (rintro e g2 Ln hg2 ⟨k2, vl, k1, k3⟩; have k2 := k2.symm; subst k1; subst k2; obtain ⟨a1, c1, rfl⟩ := k3.slice; obtain ⟨b6, o6, rfl, hl1, hl2⟩ := CELL _ _ _ k3; have K3 := Hn.mk (Sl.take k3 (show l.length - 1 ≤ l.length by omega)); have HC := K3.out.2; have hgx2 := hgx.trans hg2; clear k3 CELL; refine CallK.ret ?_))
    | ((with_reducible apply TL.storeK); (· rfl); (· rfl); (· exact rfl); (· exact pkA); (· exact Nat.le_of_ble_eq_true rfl))
    | ((with_reducible apply TL.build_slice); (· rfl); (· rfl); (· exact oneA); (· rfl); (· rfl); (· rfl); intro _) | refine TL.build_one (by rfl) (by first | rfl | assumption) (by rfl) (by rfl) (by rfl) (by rfl) (fun _ => ?_) | refine TL.build_empty (by rfl) (fun _ => ?_)
    | ((with_reducible apply TL.append (e := 73)); (· rfl); (· rfl); (· rfl); (· rfl); (· exact pkA); (· first | exact Src.obj pkA | exact Src.sl (by assumption) | exact Src.row pkA); (· first | rfl | exact (byteVals_length _).trans (Nat.mul_one _).symm); (· first | exact byteVals_all _ | exact oneA); (· exact ⟨by unfold maxLen; omega, by omega⟩); (· rfl); intro vf; refine Go.TL.TL.row_slice (v := vf) pkA ?_; rintro a2 c2 rfl _)
    | refine stS ?_ | (refine stB ?_; intro _) | (refine stC ?_; refine And.intro (fun _ => ?_) (fun _ => ?_))
    | ((with_reducible apply TA.takeN 0); (· rfl); (· decide +kernel); (· rfl); (· first | first | exact Y.lss_b d5 rfl rfl | exact Y.neq_pt d6 rfl rfl | exact Y.sub rfl rfl HSb.out | (first | exact yQ | exact yA | exact yB | exact yM | exact yV)); (· decide +kernel); (· decide +kernel); (· rfl); (· exact fun _ _ _ h => h); (· rfl))
    | ((with_reducible apply TA.takeN 1); (· rfl); (· decide +kernel); (· rfl); (· first | first | exact Y.lss_b d5 rfl rfl | exact Y.neq_pt d6 rfl rfl | exact Y.sub rfl rfl HSb.out | (first | exact yQ | exact yA | exact yB | exact yM | exact yV)); (· decide +kernel); (· decide +kernel); (· rfl); (· exact fun _ _ _ h => h); (· rfl))
    | ((with_reducible apply TA.takeN 2); (· rfl); (· decide +kernel); (· rfl); (· first | first | exact Y.lss_b d5 rfl rfl | exact Y.neq_pt d6 rfl rfl | exact Y.sub rfl rfl HSb.out | (first | exact yQ | exact yA | exact yB | exact yM | exact yV)); (· decide +kernel); (· decide +kernel); (· rfl); (· exact fun _ _ _ h => h); (· rfl))
    | ((with_reducible apply TA.takeN 3); (· rfl); (· decide +kernel); (· rfl); (· first | first | exact Y.lss_b d5 rfl rfl | exact Y.neq_pt d6 rfl rfl | exact Y.sub rfl rfl HSb.out | (first | exact yQ | exact yA | exact yB | exact yM | exact yV)); (· decide +kernel); (· decide +kernel); (· rfl); (· exact fun _ _ _ h => h); (· rfl))
    | ((with_reducible apply TA.take_gN 0); (· rfl); (· decide +kernel); (· rfl); (· rfl); (· rfl); (· (first | first | exact Y.lss_b d5 rfl rfl | exact Y.neq_pt d6 rfl rfl | exact Y.sub rfl rfl HSb.out | (first | exact yQ | exact yA | exact yB | exact yM | exact yV))); (· decide +kernel); (· decide +kernel); (· rfl); (· exact fun _ _ _ h => h); (· rfl))
    | ((with_reducible apply TA.take_gN 1); (· rfl); (· decide +kernel); (· rfl); (· rfl); (· rfl); (· (first | first | exact Y.lss_b d5 rfl rfl | exact Y.neq_pt d6 rfl rfl | exact Y.sub rfl rfl HSb.out | (first | exact yQ | exact yA | exact yB | exact yM | exact yV))); (· decide +kernel); (· decide +kernel); (· rfl); (· exact fun _ _ _ h => h); (· rfl))
    | ((with_reducible apply TA.take_gN 2); (· rfl); (· decide +kernel); (· rfl); (· rfl); (· rfl); (· (first | first | exact Y.lss_b d5 rfl rfl | exact Y.neq_pt d6 rfl rfl | exact Y.sub rfl rfl HSb.out | (first | exact yQ | exact yA | exact yB | exact yM | exact yV))); (· decide +kernel); (· decide +kernel); (· rfl); (· exact fun _ _ _ h => h); (· rfl))
    | ((with_reducible apply TA.take_gN 3); (· rfl); (· decide +kernel); (· rfl); (· rfl); (· rfl); (· (first | first | exact Y.lss_b d5 rfl rfl | exact Y.neq_pt d6 rfl rfl | exact Y.sub rfl rfl HSb.out | (first | exact yQ | exact yA | exact yB | exact yM | exact yV))); (· decide +kernel); (· decide +kernel); (· rfl); (· exact fun _ _ _ h => h); (· rfl))
    | refine wkX0 ?_
    | refine wkX1 ?_
    | refine wkX2 ?_
    | refine wkX3 ?_
    | ((with_reducible apply TA.oneN 0); (· rfl); (· rfl); (· decide +kernel); (· rfl))
    | ((with_reducible apply TA.oneN 1); (· rfl); (· rfl); (· decide +kernel); (· rfl))
    | ((with_reducible apply TA.oneN 2); (· rfl); (· rfl); (· decide +kernel); (· rfl))
    | ((with_reducible apply TA.oneN 3); (· rfl); (· rfl); (· decide +kernel); (· rfl))
    | refine TQ.any leF selF ?_
    | refine TC.region_any 19 (_) (by kernel_rfl) rfl selF ?_ | refine TA.done (by decide +kernel) ?_ | refine TQ.any_panic ?_
    | refine TC.region_sink 10 11 ([.obj b4 (.cells [.int .i64 2, .slice av acc.length cv].toArray 36 (0, 0))]) (by kernel_rfl) (by decide +kernel) rfl selF ?_ | refine TQ.anyT_panic ?_
    | ((with_reducible apply TB.takeF 0); (· rfl); (· decide +kernel); (· rfl); (· first | (first | exact yQ | exact yA | exact yB | exact yM | exact yV) | first | exact Y.sub rfl rfl HSb.out | exact Y.slice_to rfl rfl rfl (by omega)); (· decide +kernel); (· decide +kernel); (· rfl); (· exact fun _ _ _ h => h); (· rfl))
    | ((with_reducible apply TB.takeF 1); (· rfl); (· decide +kernel); (· rfl); (· first | (first | exact yQ | exact yA | exact yB | exact yM | exact yV) | first | exact Y.sub rfl rfl HSb.out | exact Y.slice_to rfl rfl rfl (by omega)); (· decide +kernel); (· decide +kernel); (· rfl); (· exact fun _ _ _ h => h); (· rfl))
    | ((with_reducible apply TB.takeF 2); (· rfl); (· decide +kernel); (· rfl); (· first | (first | exact yQ | exact yA | exact yB | exact yM | exact yV) | first | exact Y.sub rfl rfl HSb.out | exact Y.slice_to rfl rfl rfl (by omega)); (· decide +kernel); (· decide +kernel); (· rfl); (· exact fun _ _ _ h => h); (· rfl))
    | ((with_reducible apply TB.takeF 3); (· rfl); (· decide +kernel); (· rfl); (· first | (first | exact yQ | exact yA | exact yB | exact yM | exact yV) | first | exact Y.sub rfl rfl HSb.out | exact Y.slice_to rfl rfl rfl (by omega)); (· decide +kernel); (· decide +kernel); (· rfl); (· exact fun _ _ _ h => h); (· rfl))
    | ((with_reducible apply TB.takeF 4); (· rfl); (· decide +kernel); (· rfl); (· first | (first | exact yQ | exact yA | exact yB | exact yM | exact yV) | first | exact Y.sub rfl rfl HSb.out | exact Y.slice_to rfl rfl rfl (by omega)); (· decide +kernel); (· decide +kernel); (· rfl); (· exact fun _ _ _ h => h); (· rfl))
    | ((with_reducible apply TB.takeF 5); (· rfl); (· decide +kernel); (· rfl); (· first | (first | exact yQ | exact yA | exact yB | exact yM | exact yV) | first | exact Y.sub rfl rfl HSb.out | exact Y.slice_to rfl rfl rfl (by omega)); (· decide +kernel); (· decide +kernel); (· rfl); (· exact fun _ _ _ h => h); (· rfl))
    | ((with_reducible apply TB.takeF 6); (· rfl); (· decide +kernel); (· rfl); (· first | (first | exact yQ | exact yA | exact yB | exact yM | exact yV) | first | exact Y.sub rfl rfl HSb.out | exact Y.slice_to rfl rfl rfl (by omega)); (· decide +kernel); (· decide +kernel); (· rfl); (· exact fun _ _ _ h => h); (· rfl))
    | ((with_reducible apply TB.takeF 7); (· rfl); (· decide +kernel); (· rfl); (· first | (first | exact yQ | exact yA | exact yB | exact yM | exact yV) | first | exact Y.sub rfl rfl HSb.out | exact Y.slice_to rfl rfl rfl (by omega)); (· decide +kernel); (· decide +kernel); (· rfl); (· exact fun _ _ _ h => h); (· rfl))
    | ((with_reducible apply TB.takeF 8); (· rfl); (· decide +kernel); (· rfl); (· first | (first | exact yQ | exact yA | exact yB | exact yM | exact yV) | first | exact Y.sub rfl rfl HSb.out | exact Y.slice_to rfl rfl rfl (by omega)); (· decide +kernel); (· decide +kernel); (· rfl); (· exact fun _ _ _ h => h); (· rfl))
    | ((with_reducible apply TB.takeF 9); (· rfl); (· decide +kernel); (· rfl); (· first | (first | exact yQ | exact yA | exact yB | exact yM | exact yV) | first | exact Y.sub rfl rfl HSb.out | exact Y.slice_to rfl rfl rfl (by omega)); (· decide +kernel); (· decide +kernel); (· rfl); (· exact fun _ _ _ h => h); (· rfl))
    | ((with_reducible apply TB.takeF 10); (· rfl); (· decide +kernel); (· rfl); (· first | (first | exact yQ | exact yA | exact yB | exact yM | exact yV) | first | exact Y.sub rfl rfl HSb.out | exact Y.slice_to rfl rfl rfl (by omega)); (· decide +kernel); (· decide +kernel); (· rfl); (· exact fun _ _ _ h => h); (· rfl))
    | ((with_reducible apply TB.oneF 0); (· rfl); (· rfl); (· decide +kernel); (· rfl); intro hsk)
    | ((with_reducible apply TB.oneF 1); (· rfl); (· rfl); (· decide +kernel); (· rfl); intro hsk)
    | ((with_reducible apply TB.oneF 2); (· rfl); (· rfl); (· decide +kernel); (· rfl); intro hsk)
    | ((with_reducible apply TB.oneF 3); (· rfl); (· rfl); (· decide +kernel); (· rfl); intro hsk)
    | ((with_reducible apply TB.oneF 4); (· rfl); (· rfl); (· decide +kernel); (· rfl); intro hsk)
    | ((with_reducible apply TB.oneF 5); (· rfl); (· rfl); (· decide +kernel); (· rfl); intro hsk)
    | ((with_reducible apply TB.oneF 6); (· rfl); (· rfl); (· decide +kernel); (· rfl); intro hsk)
    | ((with_reducible apply TB.oneF 7); (· rfl); (· rfl); (· decide +kernel); (· rfl); intro hsk)
    | ((with_reducible apply TB.oneF 8); (· rfl); (· rfl); (· decide +kernel); (· rfl); intro hsk)
    | ((with_reducible apply TB.oneF 9); (· rfl); (· rfl); (· decide +kernel); (· rfl); intro hsk)
    | ((with_reducible apply TB.oneF 10); (· rfl); (· rfl); (· decide +kernel); (· rfl); intro hsk)
    | refine TQ.lastT (by decide +kernel) ?_ | refine TQ.anyT (by assumption) leF selF ?_)
      have hlen : acc.length + 1 = (acc ++ [l.take (l.length - 1)]).length := by rw [List.length_append, List.length_singleton]
      rw [hlen, show (((l.length : Nat) : Int) - 1).toNat = l.length - 1 by omega]
      have htl : (l.take (l.length - 1)).length = l.length - 1 := by rw [List.length_take]; omega
      refine TQ.round (RpS.mk (i + 1) (acc ++ [l.take (l.length - 1)]) (fl2 ++ [.slice (some ⟨b6, o6, none⟩) (l.length - 1) c1]) (.slice a2 (acc ++ [l.take (l.length - 1)]).length c2) g2) ?_ ?_ rfl subA selF
      · refine ⟨by dsimp only; omega, by dsimp only; rw [← hlen, ha], by dsimp only; rw [List.length_append, List.length_singleton, hfl], hgx2, fun j q h => ?_, fun q h => ?_, HR.out⟩
        · dsimp only at h ⊢
          rw [List.getElem?_append] at h
          split at h
          · obtain ⟨u, h1, h2⟩ := hP.out j q h
            exact ⟨u, by rw [List.getElem?_append_left (by omega)]; exact h1, h2.le hg2⟩
          · have hj0 : j - acc.length = 0 := by
              have := (List.getElem?_eq_some_iff.1 h).1
              simp at this; omega
            rw [hj0] at h
            obtain rfl : l.take (l.length - 1) = q := by simpa using h
            refine ⟨_, by rw [List.getElem?_append_right (by omega), show j - fl2.length = 0 by omega]; rfl, ?_⟩
            have h1 := K3.out.1
            rw [flatP_take] at h1
            rw [htl]
            exact h1
        · dsimp only at h
          rcases List.mem_append.1 h with h | h
          · exact hM.out q h
          · rw [List.mem_singleton.1 h, htl]; omega
      · dsimp only; omega
  · have hok : mapRD wi = some acc := by
      rw [hre, List.drop_eq_nil_of_le (by omega), mapRD]; simp
    rw [hok, Option.map_some, okD]
    have hO : ShOk acc := ⟨by omega, fun q h => hsm q h⟩
    have RI : ∀ (g3 : Gh) (v : Value), gx.le g3 → Sl g3 v acc.length 1 fl2 → IsParts g3 v acc := fun g3 v hg h3 => ⟨fl2, h3, fun j q h => by obtain ⟨u, h1, h2⟩ := hpt j q h; exact ⟨u, h1, h2.le hg⟩⟩
    clear hre hpt hsm HS HI hsw
    refine TC.freeze (.there .here) fun g3 hg3 HS3 => ?_
    have hP := RI g3 _ hg3 HS3
    have RT := fun L => rRight9_gives 2 acc (.slice av acc.length cv) g3 L hP hO
    clear HS3
    cases hr : rightB 2 acc with
    | false =>
      rw [hr] at RT
      rw [if_neg (by decide)]
      repeat' (first
    | refine wkQ ?_
    | refine wkV ?_
    | ((with_reducible apply TL.gives_plain); (· kernel_rfl); (· rfl); (· exact RT _); (· rfl)) | ((with_reducible apply TW.gives_plain); (· kernel_rfl); (· rfl); (· exact RT _); (· rfl))
    | refine stS ?_ | (refine stB ?_; intro _) | (refine stC ?_; refine And.intro (fun _ => ?_) (fun _ => ?_)))
      refine TQ.endR2 (L' := L) Tryz.results8 rvA rvA rfl (hgx.trans hg3) ?_ selF
      exact ⟨_, rfl, rfl, rfl⟩
    | true =>
      rw [hr] at RT
      rw [if_pos rfl]
      repeat' (first
    | refine wkQ ?_
    | refine wkV ?_
    | ((with_reducible apply TL.gives_plain); (· kernel_rfl); (· rfl); (· exact RT _); (· rfl)) | ((with_reducible apply TW.gives_plain); (· kernel_rfl); (· rfl); (· exact RT _); (· rfl))
    | refine stS ?_ | (refine stB ?_; intro _) | (refine stC ?_; refine And.intro (fun _ => ?_) (fun _ => ?_)))
      refine TQ.endR2 (L' := L) Tryz.results8 rvA rvA rfl (hgx.trans hg3) ?_ selF
      exact ⟨_, rfl, rfl, hP⟩
end Go.Proofs.YtklmfbildebimaaGreatDoor
