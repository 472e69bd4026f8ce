/-
  The document's Read, walked: points, lines.
-/
import Derived.Test.YtklmfbildebimaaGreatDoorSr2
import Derived.Test.YtklmfbildebimaaGreatDoorSr40
namespace Go.Proofs.YtklmfbildebimaaGreatDoor
open Go.RowKit Go.TL
set_option maxRecDepth 100000

structure FewD (w : DV) : Prop where
  len : w.items.length ≤ 1000000
  sub : w.kind = 4 → ∀ x ∈ w.items, x.items.length ≤ 1000000
structure RdS (g : Gh) (z : DV) (cs : List Value) (nm w : DV) (bt bc : Bool) (zs ys : List Value) : Prop where
  f1 : ∀ L, Gives Tryz.prog 25 #[.agg cs.toArray, str typeB] g L (.tuple #[.agg zs.toArray, .bool true])
  f2 : ∀ L, Gives Tryz.prog 25 #[.agg cs.toArray, str coordB] g L (.tuple #[.agg ys.toArray, .bool true])
  v1 : IsV g nm zs
  v2 : IsV g w ys
theorem rds_of {z : DV} {cs : List Value} {g : Gh} (hV : IsV g z cs) (hW : wfV z) {nm w : DV} (h1 : fieldD z typeB = some nm) (h2 : fieldD z coordB = some w) : ∃ zs ys, RdS g z cs nm w true true zs ys := by
  obtain ⟨zs, bt, F1, hz6, hm1⟩ := rField4_gives z cs g typeB hV hW
  obtain ⟨ys, bc, F2, hy6, hm2⟩ := rField4_gives z cs g coordB hV hW
  rw [h1] at hm1
  rw [h2] at hm2
  obtain ⟨rfl, q1⟩ := hm1
  obtain ⟨rfl, q2⟩ := hm2
  exact ⟨zs, ys, F1, F2, q1, q2⟩
theorem isV_six {g : Gh} {k : Int} {b : Bool} {n : Int} {s : List UInt8} {it : List DV} {ns : List (List UInt8)} {zs : List Value} (h : IsV g (.mk k b n s it ns) zs) : ∃ a c a' c', zs = [.int .i64 k, .bool b, .int .i64 n, str s, .slice a it.length c, .slice a' ns.length c'] := by
  rw [IsV] at h
  obtain ⟨vi, vn, fl, rfl, _, _, _, q1, _, _, q2, _⟩ := h
  obtain ⟨_, _, rfl⟩ := q1.slice
  obtain ⟨_, _, rfl⟩ := q2.slice
  exact ⟨_, _, _, _, rfl⟩
set_option maxHeartbeats 32000000 in
theorem rRead9_other (z : DV) (cs : List Value) (g : Gh) (L : List Ent) (nm w : DV) (hV : IsV g z cs) (hW : wfV z) (h0 : mayV z 0 = 0) (hf1 : fieldD z typeB = some nm) (hf2 : fieldD z coordB = some w) (h2 : z.items.length = 2) (h3 : nm.kind = 3) (n1 : nm.s ≠ pointB) (n2 : nm.s ≠ lineB) (n3 : nm.s ≠ polyB) : Does Tryz.prog 8 #[.agg cs.toArray] g L (RdR none L) := by
  refine Does.of1 Tryz.func8 rfl Tryz.ntmps8 rfl ?_
  obtain ⟨zs, ys, hR⟩ := rds_of hV hW hf1 hf2
  have F1 := hR.f1
  have F2 := hR.f2
  have MY := fun L => rMay_gives z cs g L hV hW
  rw [h0] at MY
  obtain ⟨k, b, n, s, items, ns⟩ := z
  obtain ⟨ai, ci, an, cn, rfl⟩ := isV_six hV
  obtain ⟨kt, bt, nt, t, it, mt⟩ := nm
  obtain ⟨at4, ct4, at5, ct5, rfl⟩ := isV_six hR.v1
  replace h3 : kt = 3 := h3
  replace h2 : items.length = 2 := h2
  subst h3
  have d0 : (!decide (((0 : Nat) : Int) = 0)) = false := rfl
  have d2 : (!decide (((items.length : Nat) : Int) = 2)) = false := by rw [decide_eq_true (by omega)]; rfl
  have d3 : (!decide ((3 : Int) = 3)) = false := rfl
  have hw := hR.v2
  have e1 := Hn.mk (decide_eq_false (show ¬ t = pointB from n1))
  have e2 := Hn.mk (decide_eq_false (show ¬ t = lineB from n2))
  have e3 := Hn.mk (decide_eq_false (show ¬ t = polyB from n3))
  obtain ⟨y0, y1, y2, y3, d4, l4, f4, d5, l5, f5, rfl⟩ := IsV.form hw
  clear hR hV hw n1 n2 n3 hf1 hf2
  repeat' (first
    | refine wkQ ?_
    | ((with_reducible apply TL.pure (d := 53) (v := .bool false)); (· exact Y.eql_is e1.out rfl rfl); (· rfl)) | ((with_reducible apply TW.pure (d := 53) (v := .bool false)); (· exact Y.eql_is e1.out rfl rfl); (· rfl))
    | ((with_reducible apply TL.pure (d := 67) (v := .bool false)); (· exact Y.eql_is e2.out rfl rfl); (· rfl)) | ((with_reducible apply TW.pure (d := 67) (v := .bool false)); (· exact Y.eql_is e2.out rfl rfl); (· rfl))
    | ((with_reducible apply TL.pure (d := 80) (v := .bool false)); (· exact Y.eql_is e3.out rfl rfl); (· rfl)) | ((with_reducible apply TW.pure (d := 80) (v := .bool false)); (· exact Y.eql_is e3.out rfl rfl); (· rfl))
    | ((with_reducible apply TL.pure (d := 28) (v := .bool false)); (· exact Y.neq_b d0 rfl rfl); (· rfl)) | ((with_reducible apply TW.pure (d := 28) (v := .bool false)); (· exact Y.neq_b d0 rfl rfl); (· rfl))
    | ((with_reducible apply TL.pure (d := 41) (v := .bool false)); (· exact Y.neq_b d2 rfl rfl); (· rfl)) | ((with_reducible apply TW.pure (d := 41) (v := .bool false)); (· exact Y.neq_b d2 rfl rfl); (· rfl))
    | ((with_reducible apply TL.pure (d := 46) (v := .bool false)); (· exact Y.neq_b d3 rfl rfl); (· rfl)) | ((with_reducible apply TW.pure (d := 46) (v := .bool false)); (· exact Y.neq_b d3 rfl rfl); (· rfl))
    | refine wkV ?_
    | ((with_reducible apply TL.gives_plain); (· kernel_rfl); (· rfl); (· exact F1 _); (· rfl)) | ((with_reducible apply TW.gives_plain); (· kernel_rfl); (· rfl); (· exact F1 _); (· rfl))
    | ((with_reducible apply TL.gives_plain); (· kernel_rfl); (· rfl); (· exact F2 _); (· rfl)) | ((with_reducible apply TW.gives_plain); (· kernel_rfl); (· rfl); (· exact F2 _); (· rfl))
    | ((with_reducible apply TL.gives_plain); (· kernel_rfl); (· rfl); (· exact MY _); (· rfl)) | ((with_reducible apply TW.gives_plain); (· kernel_rfl); (· rfl); (· exact MY _); (· rfl))
    | refine stS ?_ | (refine stB ?_; intro _) | (refine stC ?_; refine And.intro (fun _ => ?_) (fun _ => ?_)))
  refine TQ.endR2 (L' := L) Tryz.results8 rvA rvA rfl (.refl _) ?_ selF
  exact ⟨_, rfl, rfl, rfl⟩
set_option maxHeartbeats 32000000 in
theorem rRead9_point (z : DV) (cs : List Value) (g : Gh) (L : List Ent) (nm w : DV) (hV : IsV g z cs) (hW : wfV z) (h0 : mayV z 0 = 0) (hf1 : fieldD z typeB = some nm) (hf2 : fieldD z coordB = some w) (h2 : z.items.length = 2) (h3 : nm.kind = 3) (n1 : nm.s = pointB) : Does Tryz.prog 8 #[.agg cs.toArray] g L (RdR (okD ((placeD w).map fun p => (0, [[p]]))) L) := by
  refine Does.of1 Tryz.func8 rfl Tryz.ntmps8 rfl ?_
  obtain ⟨zs, ys, hR⟩ := rds_of hV hW hf1 hf2
  have F1 := hR.f1
  have F2 := hR.f2
  have MY := fun L => rMay_gives z cs g L hV hW
  rw [h0] at MY
  obtain ⟨k, b, n, s, items, ns⟩ := z
  obtain ⟨ai, ci, an, cn, rfl⟩ := isV_six hV
  obtain ⟨kt, bt, nt, t, it, mt⟩ := nm
  obtain ⟨at4, ct4, at5, ct5, rfl⟩ := isV_six hR.v1
  replace h3 : kt = 3 := h3
  replace h2 : items.length = 2 := h2
  subst h3
  have d0 : (!decide (((0 : Nat) : Int) = 0)) = false := rfl
  have d2 : (!decide (((items.length : Nat) : Int) = 2)) = false := by rw [decide_eq_true (by omega)]; rfl
  have d3 : (!decide ((3 : Int) = 3)) = false := rfl
  have hw := hR.v2
  have e1 := Hn.mk (decide_eq_true (show t = pointB from n1))
  have PL := fun g1 (h : g.le g1) L => rplace9_gives w ys g1 L (hw.le h)
  obtain ⟨y0, y1, y2, y3, d4, l4, f4, d5, l5, f5, rfl⟩ := IsV.form hw
  clear hR hV hw n1 hf1 hf2
  cases hp : placeD w with
  | none =>
    rw [hp] at PL
    unfold PlD at PL
    dsimp only at PL
    have PL0 := fun L => PL g (.refl _) L
    repeat' (first
    | refine wkQ ?_
    | ((with_reducible apply TL.pure (d := 53) (v := .bool true)); (· exact Y.eql_is e1.out rfl rfl); (· rfl)) | ((with_reducible apply TW.pure (d := 53) (v := .bool true)); (· exact Y.eql_is e1.out rfl rfl); (· rfl))
    | ((with_reducible apply TL.pure (d := 28) (v := .bool false)); (· exact Y.neq_b d0 rfl rfl); (· rfl)) | ((with_reducible apply TW.pure (d := 28) (v := .bool false)); (· exact Y.neq_b d0 rfl rfl); (· rfl))
    | ((with_reducible apply TL.pure (d := 41) (v := .bool false)); (· exact Y.neq_b d2 rfl rfl); (· rfl)) | ((with_reducible apply TW.pure (d := 41) (v := .bool false)); (· exact Y.neq_b d2 rfl rfl); (· rfl))
    | ((with_reducible apply TL.pure (d := 46) (v := .bool false)); (· exact Y.neq_b d3 rfl rfl); (· rfl)) | ((with_reducible apply TW.pure (d := 46) (v := .bool false)); (· exact Y.neq_b d3 rfl rfl); (· rfl))
    | refine wkV ?_
    | ((with_reducible apply TL.gives_plain); (· kernel_rfl); (· rfl); (· exact F1 _); (· rfl)) | ((with_reducible apply TW.gives_plain); (· kernel_rfl); (· rfl); (· exact F1 _); (· rfl))
    | ((with_reducible apply TL.gives_plain); (· kernel_rfl); (· rfl); (· exact F2 _); (· rfl)) | ((with_reducible apply TW.gives_plain); (· kernel_rfl); (· rfl); (· exact F2 _); (· rfl))
    | ((with_reducible apply TL.gives_plain); (· kernel_rfl); (· rfl); (· exact MY _); (· rfl)) | ((with_reducible apply TW.gives_plain); (· kernel_rfl); (· rfl); (· exact MY _); (· rfl))
    | ((with_reducible apply TL.gives_plain); (· kernel_rfl); (· rfl); (· exact PL0 _); (· rfl)) | ((with_reducible apply TW.gives_plain); (· kernel_rfl); (· rfl); (· exact PL0 _); (· rfl))
    | refine stS ?_ | (refine stB ?_; intro _) | (refine stC ?_; refine And.intro (fun _ => ?_) (fun _ => ?_)))
    refine TQ.endR2 (L' := L) Tryz.results8 rvA rvA rfl (.refl _) ?_ selF
    exact ⟨_, rfl, rfl, rfl⟩
  | some p =>
    rw [hp] at PL
    unfold PlD at PL
    dsimp only at PL
    have PL0 := fun L => PL g (.refl _) L
    rw [Option.map_some, okD]
    have RI : ∀ (g2 g3 : Gh) (u v : Value), Sl g2 u 1 2 (flatP [p]) → g2.le g3 → Sl g3 v 1 1 [u] → ∀ L, Gives Tryz.prog 13 #[shV 0 v] g3 L (.bool (rightB 0 [[p]])) := fun g2 g3 u v h2 hg h3 L => rRight9_gives 0 [[p]] v g3 L (parts_one rfl h2 hg h3) (ok_one (by simp))
    cases hr : rightB 0 [[p]] with
    | false =>
      rw [hr] at RI
      rw [if_neg (by decide)]
      repeat' (first
    | refine wkQ ?_
    | ((with_reducible apply TL.pure (d := 53) (v := .bool true)); (· exact Y.eql_is e1.out rfl rfl); (· rfl)) | ((with_reducible apply TW.pure (d := 53) (v := .bool true)); (· exact Y.eql_is e1.out rfl rfl); (· rfl))
    | ((with_reducible apply TL.pure (d := 28) (v := .bool false)); (· exact Y.neq_b d0 rfl rfl); (· rfl)) | ((with_reducible apply TW.pure (d := 28) (v := .bool false)); (· exact Y.neq_b d0 rfl rfl); (· rfl))
    | ((with_reducible apply TL.pure (d := 41) (v := .bool false)); (· exact Y.neq_b d2 rfl rfl); (· rfl)) | ((with_reducible apply TW.pure (d := 41) (v := .bool false)); (· exact Y.neq_b d2 rfl rfl); (· rfl))
    | ((with_reducible apply TL.pure (d := 46) (v := .bool false)); (· exact Y.neq_b d3 rfl rfl); (· rfl)) | ((with_reducible apply TW.pure (d := 46) (v := .bool false)); (· exact Y.neq_b d3 rfl rfl); (· rfl))
    | refine wkV ?_
    | ((with_reducible apply TL.gives_plain); (· kernel_rfl); (· rfl); (· exact F1 _); (· rfl)) | ((with_reducible apply TW.gives_plain); (· kernel_rfl); (· rfl); (· exact F1 _); (· rfl))
    | ((with_reducible apply TL.gives_plain); (· kernel_rfl); (· rfl); (· exact F2 _); (· rfl)) | ((with_reducible apply TW.gives_plain); (· kernel_rfl); (· rfl); (· exact F2 _); (· rfl))
    | ((with_reducible apply TL.gives_plain); (· kernel_rfl); (· rfl); (· exact MY _); (· rfl)) | ((with_reducible apply TW.gives_plain); (· kernel_rfl); (· rfl); (· exact MY _); (· rfl))
    | ((with_reducible apply TL.gives_plain); (· kernel_rfl); (· rfl); (· exact PL0 _); (· rfl)) | ((with_reducible apply TW.gives_plain); (· kernel_rfl); (· rfl); (· exact PL0 _); (· rfl))
    | (refine TL.build_rows (d := 63) (len := 1) (sz := 2) [ptC p] (by rfl) (by rfl) (by rfl) (by rfl) (by rfl) (by rfl) (by rfl) (by rfl) (fun bb => ?_); refine TL.freeze_obj (k := 1) bb 2 .here rfl (by decide) ?_; rintro g2 hg2 s2)
    | (refine TL.build_slice (d := 64) (by rfl) (by rfl) (by exact oneA) (by rfl) (by rfl) (by rfl) (fun bb => ?_); refine TL.freeze_obj (k := 1) bb 1 .here rfl (by decide) ?_; rintro g3 hg3 s3; have RI1 := RI _ _ _ _ s2 hg3 s3)
    | ((with_reducible apply TL.gives_plain); (· kernel_rfl); (· rfl); (· exact RI1 _); (· rfl)) | ((with_reducible apply TW.gives_plain); (· kernel_rfl); (· rfl); (· exact RI1 _); (· rfl))
    | refine stS ?_ | (refine stB ?_; intro _) | (refine stC ?_; refine And.intro (fun _ => ?_) (fun _ => ?_)))
      refine TQ.endR2 (L' := L) Tryz.results8 rvA rvA rfl (hg2.trans hg3) ?_ selF
      exact ⟨_, rfl, rfl, rfl⟩
    | true =>
      rw [hr] at RI
      rw [if_pos rfl]
      repeat' (first
    | refine wkQ ?_
    | ((with_reducible apply TL.pure (d := 53) (v := .bool true)); (· exact Y.eql_is e1.out rfl rfl); (· rfl)) | ((with_reducible apply TW.pure (d := 53) (v := .bool true)); (· exact Y.eql_is e1.out rfl rfl); (· rfl))
    | ((with_reducible apply TL.pure (d := 28) (v := .bool false)); (· exact Y.neq_b d0 rfl rfl); (· rfl)) | ((with_reducible apply TW.pure (d := 28) (v := .bool false)); (· exact Y.neq_b d0 rfl rfl); (· rfl))
    | ((with_reducible apply TL.pure (d := 41) (v := .bool false)); (· exact Y.neq_b d2 rfl rfl); (· rfl)) | ((with_reducible apply TW.pure (d := 41) (v := .bool false)); (· exact Y.neq_b d2 rfl rfl); (· rfl))
    | ((with_reducible apply TL.pure (d := 46) (v := .bool false)); (· exact Y.neq_b d3 rfl rfl); (· rfl)) | ((with_reducible apply TW.pure (d := 46) (v := .bool false)); (· exact Y.neq_b d3 rfl rfl); (· rfl))
    | refine wkV ?_
    | ((with_reducible apply TL.gives_plain); (· kernel_rfl); (· rfl); (· exact F1 _); (· rfl)) | ((with_reducible apply TW.gives_plain); (· kernel_rfl); (· rfl); (· exact F1 _); (· rfl))
    | ((with_reducible apply TL.gives_plain); (· kernel_rfl); (· rfl); (· exact F2 _); (· rfl)) | ((with_reducible apply TW.gives_plain); (· kernel_rfl); (· rfl); (· exact F2 _); (· rfl))
    | ((with_reducible apply TL.gives_plain); (· kernel_rfl); (· rfl); (· exact MY _); (· rfl)) | ((with_reducible apply TW.gives_plain); (· kernel_rfl); (· rfl); (· exact MY _); (· rfl))
    | ((with_reducible apply TL.gives_plain); (· kernel_rfl); (· rfl); (· exact PL0 _); (· rfl)) | ((with_reducible apply TW.gives_plain); (· kernel_rfl); (· rfl); (· exact PL0 _); (· rfl))
    | (refine TL.build_rows (d := 63) (len := 1) (sz := 2) [ptC p] (by rfl) (by rfl) (by rfl) (by rfl) (by rfl) (by rfl) (by rfl) (by rfl) (fun bb => ?_); refine TL.freeze_obj (k := 1) bb 2 .here rfl (by decide) ?_; rintro g2 hg2 s2)
    | (refine TL.build_slice (d := 64) (by rfl) (by rfl) (by exact oneA) (by rfl) (by rfl) (by rfl) (fun bb => ?_); refine TL.freeze_obj (k := 1) bb 1 .here rfl (by decide) ?_; rintro g3 hg3 s3; have RI1 := RI _ _ _ _ s2 hg3 s3)
    | ((with_reducible apply TL.gives_plain); (· kernel_rfl); (· rfl); (· exact RI1 _); (· rfl)) | ((with_reducible apply TW.gives_plain); (· kernel_rfl); (· rfl); (· exact RI1 _); (· rfl))
    | refine stS ?_ | (refine stB ?_; intro _) | (refine stC ?_; refine And.intro (fun _ => ?_) (fun _ => ?_)))
      refine TQ.endR2 (L' := L) Tryz.results8 rvA rvA rfl (hg2.trans hg3) ?_ selF
      exact ⟨_, rfl, rfl, parts_one rfl s2 hg3 s3⟩
theorem mapD_len : ∀ {l : List DV} {ps : List Pt}, mapD l = some ps → ps.length = l.length
  | [], ps, h => by cases h; rfl
  | x :: r, ps, h => by
    rw [mapD] at h
    split at h
    · cases hr : mapD r with
      | none => rw [hr] at h; cases h
      | some q =>
        rw [hr] at h
        obtain rfl := Option.some.inj h
        have := mapD_len hr
        simp [this]
    · cases h
theorem placesD_le {w : DV} {l : List Pt} (h : placesD w = some l) : l.length = w.items.length := by
  unfold placesD at h
  split at h
  · exact mapD_len h
  · cases h
set_option maxHeartbeats 32000000 in
theorem rRead9_line (z : DV) (cs : List Value) (g : Gh) (L : List Ent) (nm w : DV) (hV : IsV g z cs) (hW : wfV z) (h0 : mayV z 0 = 0) (hf1 : fieldD z typeB = some nm) (hf2 : fieldD z coordB = some w) (h2 : z.items.length = 2) (h3 : nm.kind = 3) (n1 : nm.s = lineB) (hfw : FewD w) : Does Tryz.prog 8 #[.agg cs.toArray] g L (RdR (okD ((placesD w).map fun l => (1, [l]))) L) := by
  refine Does.of1 Tryz.func8 rfl Tryz.ntmps8 rfl ?_
  obtain ⟨zs, ys, hR⟩ := rds_of hV hW hf1 hf2
  have F1 := hR.f1
  have F2 := hR.f2
  have MY := fun L => rMay_gives z cs g L hV hW
  rw [h0] at MY
  obtain ⟨k, b, n, s, items, ns⟩ := z
  obtain ⟨ai, ci, an, cn, rfl⟩ := isV_six hV
  obtain ⟨kt, bt, nt, t, it, mt⟩ := nm
  obtain ⟨at4, ct4, at5, ct5, rfl⟩ := isV_six hR.v1
  replace h3 : kt = 3 := h3
  replace h2 : items.length = 2 := h2
  subst h3
  have d0 : (!decide (((0 : Nat) : Int) = 0)) = false := rfl
  have d2 : (!decide (((items.length : Nat) : Int) = 2)) = false := by rw [decide_eq_true (by omega)]; rfl
  have d3 : (!decide ((3 : Int) = 3)) = false := rfl
  have hw := hR.v2
  have e0 := Hn.mk (decide_eq_false (show ¬ t = pointB by rw [show t = lineB from n1]; decide))
  have e1 := Hn.mk (decide_eq_true (show t = lineB from n1))
  have PL := fun L => rplaces9_does w ys g L hw hfw.len
  obtain ⟨y0, y1, y2, y3, d4, l4, f4, d5, l5, f5, rfl⟩ := IsV.form hw
  clear hR hV hw n1 hf1 hf2
  unfold PlsR at PL
  cases hp : placesD w with
  | none =>
    rw [hp] at PL
    dsimp only at PL
    repeat' (first
    | refine wkQ ?_
    | ((with_reducible apply TL.pure (d := 53) (v := .bool false)); (· exact Y.eql_is e0.out rfl rfl); (· rfl)) | ((with_reducible apply TW.pure (d := 53) (v := .bool false)); (· exact Y.eql_is e0.out rfl rfl); (· rfl))
    | ((with_reducible apply TL.pure (d := 67) (v := .bool true)); (· exact Y.eql_is e1.out rfl rfl); (· rfl)) | ((with_reducible apply TW.pure (d := 67) (v := .bool true)); (· exact Y.eql_is e1.out rfl rfl); (· rfl))
    | ((with_reducible apply TL.pure (d := 28) (v := .bool false)); (· exact Y.neq_b d0 rfl rfl); (· rfl)) | ((with_reducible apply TW.pure (d := 28) (v := .bool false)); (· exact Y.neq_b d0 rfl rfl); (· rfl))
    | ((with_reducible apply TL.pure (d := 41) (v := .bool false)); (· exact Y.neq_b d2 rfl rfl); (· rfl)) | ((with_reducible apply TW.pure (d := 41) (v := .bool false)); (· exact Y.neq_b d2 rfl rfl); (· rfl))
    | ((with_reducible apply TL.pure (d := 46) (v := .bool false)); (· exact Y.neq_b d3 rfl rfl); (· rfl)) | ((with_reducible apply TW.pure (d := 46) (v := .bool false)); (· exact Y.neq_b d3 rfl rfl); (· rfl))
    | refine wkV ?_
    | ((with_reducible apply TL.gives_plain); (· kernel_rfl); (· rfl); (· exact F1 _); (· rfl)) | ((with_reducible apply TW.gives_plain); (· kernel_rfl); (· rfl); (· exact F1 _); (· rfl))
    | ((with_reducible apply TL.gives_plain); (· kernel_rfl); (· rfl); (· exact F2 _); (· rfl)) | ((with_reducible apply TW.gives_plain); (· kernel_rfl); (· rfl); (· exact F2 _); (· rfl))
    | ((with_reducible apply TL.gives_plain); (· kernel_rfl); (· rfl); (· exact MY _); (· rfl)) | ((with_reducible apply TW.gives_plain); (· kernel_rfl); (· rfl); (· exact MY _); (· rfl))
    | (refine TL.call (Enters.plain (by kernel_rfl) (by rfl)) (by rfl) (PL _) ?_; (rintro e g2 Ln hg2 ⟨k2, k1⟩; have k2 := k2.symm; subst k1; subst k2; refine CallK.ret ?_))
    | refine stS ?_ | (refine stB ?_; intro _) | (refine stC ?_; refine And.intro (fun _ => ?_) (fun _ => ?_)))
    refine TQ.endR2 (L' := L) Tryz.results8 rvA rvA rfl hg2 ?_ selF
    exact ⟨_, rfl, rfl, rfl⟩
  | some l =>
    have hl := placesD_le hp
    have hl2 := hfw.len
    rw [hp] at PL
    dsimp only at PL
    rw [Option.map_some, okD]
    have RI : ∀ (g2 g3 : Gh) (u v : Value), Sl g2 u l.length 2 (flatP l) → g2.le g3 → Sl g3 v 1 1 [u] → ∀ L, Gives Tryz.prog 13 #[shV 1 v] g3 L (.bool (rightB 1 [l])) := fun g2 g3 u v h2 hg h3 L => rRight9_gives 1 [l] v g3 L (parts_one rfl h2 hg h3) (ok_one (by omega))
    cases hr : rightB 1 [l] with
    | false =>
      rw [hr] at RI
      rw [if_neg (by decide)]
      repeat' (first
    | refine wkQ ?_
    | ((with_reducible apply TL.pure (d := 53) (v := .bool false)); (· exact Y.eql_is e0.out rfl rfl); (· rfl)) | ((with_reducible apply TW.pure (d := 53) (v := .bool false)); (· exact Y.eql_is e0.out rfl rfl); (· rfl))
    | ((with_reducible apply TL.pure (d := 67) (v := .bool true)); (· exact Y.eql_is e1.out rfl rfl); (· rfl)) | ((with_reducible apply TW.pure (d := 67) (v := .bool true)); (· exact Y.eql_is e1.out rfl rfl); (· rfl))
    | ((with_reducible apply TL.pure (d := 28) (v := .bool false)); (· exact Y.neq_b d0 rfl rfl); (· rfl)) | ((with_reducible apply TW.pure (d := 28) (v := .bool false)); (· exact Y.neq_b d0 rfl rfl); (· rfl))
    | ((with_reducible apply TL.pure (d := 41) (v := .bool false)); (· exact Y.neq_b d2 rfl rfl); (· rfl)) | ((with_reducible apply TW.pure (d := 41) (v := .bool false)); (· exact Y.neq_b d2 rfl rfl); (· rfl))
    | ((with_reducible apply TL.pure (d := 46) (v := .bool false)); (· exact Y.neq_b d3 rfl rfl); (· rfl)) | ((with_reducible apply TW.pure (d := 46) (v := .bool false)); (· exact Y.neq_b d3 rfl rfl); (· rfl))
    | refine wkV ?_
    | ((with_reducible apply TL.gives_plain); (· kernel_rfl); (· rfl); (· exact F1 _); (· rfl)) | ((with_reducible apply TW.gives_plain); (· kernel_rfl); (· rfl); (· exact F1 _); (· rfl))
    | ((with_reducible apply TL.gives_plain); (· kernel_rfl); (· rfl); (· exact F2 _); (· rfl)) | ((with_reducible apply TW.gives_plain); (· kernel_rfl); (· rfl); (· exact F2 _); (· rfl))
    | ((with_reducible apply TL.gives_plain); (· kernel_rfl); (· rfl); (· exact MY _); (· rfl)) | ((with_reducible apply TW.gives_plain); (· kernel_rfl); (· rfl); (· exact MY _); (· rfl))
    | (refine TL.call (Enters.plain (by kernel_rfl) (by rfl)) (by rfl) (PL _) ?_; (rintro e g2 Ln hg2 ⟨k2, vl, k1, k3⟩; have k2 := k2.symm; subst k1; subst k2; obtain ⟨a1, c1, rfl⟩ := k3.slice; have K3 := Hn.mk k3; clear k3; refine CallK.ret ?_))
    | (refine TL.build_slice (d := 77) (by rfl) (by rfl) (by exact oneA) (by rfl) (by rfl) (by rfl) (fun bb => ?_); refine TL.freeze_obj (k := 1) bb 1 .here rfl (by decide) ?_; rintro g3 hg3 s3; have RI1 := RI _ _ _ _ K3.out hg3 s3)
    | ((with_reducible apply TL.gives_plain); (· kernel_rfl); (· rfl); (· exact RI1 _); (· rfl)) | ((with_reducible apply TW.gives_plain); (· kernel_rfl); (· rfl); (· exact RI1 _); (· rfl))
    | refine stS ?_ | (refine stB ?_; intro _) | (refine stC ?_; refine And.intro (fun _ => ?_) (fun _ => ?_)))
      refine TQ.endR2 (L' := L) Tryz.results8 rvA rvA rfl (hg2.trans hg3) ?_ selF
      exact ⟨_, rfl, rfl, rfl⟩
    | true =>
      rw [hr] at RI
      rw [if_pos rfl]
      repeat' (first
    | refine wkQ ?_
    | ((with_reducible apply TL.pure (d := 53) (v := .bool false)); (· exact Y.eql_is e0.out rfl rfl); (· rfl)) | ((with_reducible apply TW.pure (d := 53) (v := .bool false)); (· exact Y.eql_is e0.out rfl rfl); (· rfl))
    | ((with_reducible apply TL.pure (d := 67) (v := .bool true)); (· exact Y.eql_is e1.out rfl rfl); (· rfl)) | ((with_reducible apply TW.pure (d := 67) (v := .bool true)); (· exact Y.eql_is e1.out rfl rfl); (· rfl))
    | ((with_reducible apply TL.pure (d := 28) (v := .bool false)); (· exact Y.neq_b d0 rfl rfl); (· rfl)) | ((with_reducible apply TW.pure (d := 28) (v := .bool false)); (· exact Y.neq_b d0 rfl rfl); (· rfl))
    | ((with_reducible apply TL.pure (d := 41) (v := .bool false)); (· exact Y.neq_b d2 rfl rfl); (· rfl)) | ((with_reducible apply TW.pure (d := 41) (v := .bool false)); (· exact Y.neq_b d2 rfl rfl); (· rfl))
    | ((with_reducible apply TL.pure (d := 46) (v := .bool false)); (· exact Y.neq_b d3 rfl rfl); (· rfl)) | ((with_reducible apply TW.pure (d := 46) (v := .bool false)); (· exact Y.neq_b d3 rfl rfl); (· rfl))
    | refine wkV ?_
    | ((with_reducible apply TL.gives_plain); (· kernel_rfl); (· rfl); (· exact F1 _); (· rfl)) | ((with_reducible apply TW.gives_plain); (· kernel_rfl); (· rfl); (· exact F1 _); (· rfl))
    | ((with_reducible apply TL.gives_plain); (· kernel_rfl); (· rfl); (· exact F2 _); (· rfl)) | ((with_reducible apply TW.gives_plain); (· kernel_rfl); (· rfl); (· exact F2 _); (· rfl))
    | ((with_reducible apply TL.gives_plain); (· kernel_rfl); (· rfl); (· exact MY _); (· rfl)) | ((with_reducible apply TW.gives_plain); (· kernel_rfl); (· rfl); (· exact MY _); (· rfl))
    | (refine TL.call (Enters.plain (by kernel_rfl) (by rfl)) (by rfl) (PL _) ?_; (rintro e g2 Ln hg2 ⟨k2, vl, k1, k3⟩; have k2 := k2.symm; subst k1; subst k2; obtain ⟨a1, c1, rfl⟩ := k3.slice; have K3 := Hn.mk k3; clear k3; refine CallK.ret ?_))
    | (refine TL.build_slice (d := 77) (by rfl) (by rfl) (by exact oneA) (by rfl) (by rfl) (by rfl) (fun bb => ?_); refine TL.freeze_obj (k := 1) bb 1 .here rfl (by decide) ?_; rintro g3 hg3 s3; have RI1 := RI _ _ _ _ K3.out hg3 s3)
    | ((with_reducible apply TL.gives_plain); (· kernel_rfl); (· rfl); (· exact RI1 _); (· rfl)) | ((with_reducible apply TW.gives_plain); (· kernel_rfl); (· rfl); (· exact RI1 _); (· rfl))
    | refine stS ?_ | (refine stB ?_; intro _) | (refine stC ?_; refine And.intro (fun _ => ?_) (fun _ => ?_)))
      refine TQ.endR2 (L' := L) Tryz.results8 rvA rvA rfl (hg2.trans hg3) ?_ selF
      exact ⟨_, rfl, rfl, parts_one rfl K3.out hg3 s3⟩
end Go.Proofs.YtklmfbildebimaaGreatDoor
