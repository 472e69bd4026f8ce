/-
  The document's Within, walked.
-/
import Derived.Test.YtfanccddokckcaaGreatDoorSm2
import Derived.Test.YtfanccddokckcaaGreatDoorSm44
namespace Go.Proofs.YtfanccddokckcaaGreatDoor
open Go.RowKit Go.TL
set_option maxRecDepth 100000

theorem ed_scal {g : Gh} {b o : Nat} {e : Pt × Pt} (h : ∀ j u, (edC e)[j]? = some u → g.cell b (o + j) = some u) : g.cell b o = some (.int .i64 e.1.1) ∧ g.cell b (o + 1) = some (.int .i64 e.1.2) ∧ g.cell b (o + 2) = some (.int .i64 e.2.1) ∧ g.cell b (o + 2 + 1) = some (.int .i64 e.2.2) :=
  ⟨h 0 _ rfl, h 1 _ rfl, h 2 _ rfl, h 3 _ rfl⟩
set_option maxHeartbeats 64000000 in
theorem rWithin9_gives (k m : Int) (ps ts : List (List Pt)) (v u : Value) (g : Gh) (L : List Ent) (hS : IsParts g v ps) (hO : ShFew ps) (hT : IsParts g u ts) (hU : ShFew ts) (h1 : rightB k ps = true) (h2 : rightB m ts = true) : Gives Tryz.prog 22 #[shV k v, shV m u] g L (.bool (withinD k ps m ts)) := by
  refine .of (Does.of2 Tryz.func22 rfl Tryz.ntmps22 rfl ?_)
  have p1 := rtP_of h1
  have p2 := rtP_of h2
  have ED1 := fun L => rEdges9_does k ps v g L hS hO
  have ED2 := fun g1 (h : g.le g1) L => rEdges9_does m ts u g1 L (hT.le h) hU
  have he1 : (allE k ps).length ≤ 1000000 := Nat.le_trans (allE_len_le k ps) hO.all
  have he2 : (allE m ts).length ≤ 1000000 := Nat.le_trans (allE_len_le m ts) hU.all
  have me1 := allE_may' (k := k) p1.may
  have me2 := allE_may' (k := m) p2.may
  have IN := fun p (hp : mayB p = true) g1 (h : g.le g1) L => rIn9_gives m ts u p g1 L (hT.le h) hU p2.may hp
  obtain ⟨av, cv, rfl⟩ : ∃ a c, v = .slice a ps.length c := by obtain ⟨_, h, _⟩ := hS; exact h.slice
  obtain ⟨au, cu, rfl⟩ : ∃ a c, u = .slice a ts.length c := by obtain ⟨_, h, _⟩ := hT; exact h.slice
  unfold withinD
  by_cases hm : m = 2
  case neg =>
    have bm : (!decide (m = 2)) = true := by rw [decide_eq_false hm]; rfl
    rw [decide_eq_false hm]
    clear hS hO hT hU ED1 ED2 IN
    repeat' (first
    | refine wkQ ?_
    | ((with_reducible apply TL.pure (d := 13) (v := .bool true)); (· exact Y.neq_b bm rfl rfl); (· rfl)) | ((with_reducible apply TW.pure (d := 13) (v := .bool true)); (· exact Y.neq_b bm rfl rfl); (· rfl))
    | refine wkV ?_
    | refine stS ?_ | (refine stB ?_; intro _) | (refine stC ?_; refine And.intro (fun _ => ?_) (fun _ => ?_)))
    refine TQ.endR1 (L' := L) Tryz.results22 rvA rfl (.refl _) ?_ selF
    exact ⟨rfl, rfl, rfl⟩
  have bm : (!decide (m = 2)) = false := by rw [decide_eq_true hm]; rfl
  rw [decide_eq_true hm, Bool.true_and]
  obtain ⟨W, hW⟩ : ∃ W : Pt × Pt → Bool, W = wthE m ts := ⟨_, rfl⟩
  rw [← hW]
  have hWe : ∀ e, W e = (((!inD m ts e.1 || !inD m ts e.2) || (halfB e && !inD m ts (halfP e))) || (allE m ts).any fun y => crossB e.1 e.2 y.1 y.2) := fun e => by rw [hW]; rfl
  generalize allE k ps = es at *
  generalize allE m ts = fs at *
  obtain ⟨R, hR⟩ : ∃ R, R = !(es.drop 0).any W := ⟨_, rfl⟩
  rw [show (!es.any W) = R from hR.symm]
  clear hS hO hT hU h1 h2 p1 p2 hm hW
  repeat' (first
    | refine wkQ ?_
    | ((with_reducible apply TL.pure (d := 13) (v := .bool false)); (· exact Y.neq_b bm rfl rfl); (· rfl)) | ((with_reducible apply TW.pure (d := 13) (v := .bool false)); (· exact Y.neq_b bm rfl rfl); (· rfl))
    | refine wkV ?_
    | (refine TL.call (Enters.plain (by kernel_rfl) (by rfl)) (by rfl) (ED1 _) ?_; (rintro e g1 Ln hg1 ⟨vc, k1, k2, k3⟩; have k2 := k2.symm; subst k1; subst k2; obtain ⟨a1, c1, rfl⟩ := k3.slice; have K1 := Hn.mk k3; have ED3 := ED2 g1 hg1; clear k3 ED2; refine CallK.ret ?_))
    | (refine TL.call (Enters.plain (by kernel_rfl) (by rfl)) (by rfl) (ED3 _) ?_; (rintro e g2 Ln hg2 ⟨vd, k1, k2, k3⟩; have k2 := k2.symm; subst k1; subst k2; obtain ⟨a2, c2, rfl⟩ := k3.slice; have K2 := Hn.mk k3; have hg02 := hg1.trans hg2; clear k3 ED3; refine CallK.ret ?_))
    | refine stS ?_ | (refine stB ?_; intro _) | (refine stC ?_; refine And.intro (fun _ => ?_) (fun _ => ?_))
    | refine wkN0 ?_
    | refine wkN1 ?_
    | refine wkN2 ?_
    | refine wkN3 ?_
    | refine wkG0 ?_
    | refine wkG1 ?_
    | refine wkG2 ?_
    | refine wkG3 ?_
    | refine wkX0 ?_
    | refine wkX1 ?_
    | refine wkX2 ?_
    | refine wkX3 ?_
    | refine wkN0 ?_
    | refine wkN1 ?_
    | refine wkN2 ?_
    | refine wkN3 ?_
    | ((with_reducible apply TA.oneN 0); (· rfl); (· rfl); (· decide +kernel); (· rfl))
    | ((with_reducible apply TA.oneN 1); (· rfl); (· rfl); (· decide +kernel); (· rfl))
    | ((with_reducible apply TA.oneN 2); (· rfl); (· rfl); (· decide +kernel); (· rfl))
    | ((with_reducible apply TA.oneN 3); (· rfl); (· rfl); (· decide +kernel); (· rfl))
    | refine TQ.any leF selF ?_
    | refine TC.region_any 6 (_) (by kernel_rfl) rfl selF ?_ | refine TA.done (by decide +kernel) ?_ | refine TQ.any_panic ?_)
  rename_i b2 b3 _
  have IN := fun p (hp : mayB p = true) L => IN p hp g2 hg02 L
  refine TC.loopK (fun i : Nat => i ≤ es.length ∧ (!(es.drop i).any W) = R) (fun i => es.length - i) (fun i _ => [(7, .int .i64 (i : Nat)), (6, .slice a2 fs.length c2), (5, .slice a1 es.length c1), (3, .pointer (some ⟨b3, 0, none⟩)), (2, .pointer (some ⟨b2, 0, none⟩))]) [] .nil (fun _ L => L) 0 ⟨Nat.zero_le _, hR.symm⟩ subA selF ?_
  clear hR ED1 bm
  rintro i ⟨hi, hI⟩
  try dsimp only at hi hI ⊢
  by_cases hlt : i < es.length
  · obtain ⟨x, hx⟩ : ∃ x, es[i]? = some x := ⟨_, List.getElem?_eq_getElem hlt⟩
    obtain ⟨b5, o5, rfl, hg5⟩ := K1.out.elem hlt (by decide)
    have hld0 := ed_cells hg5 (flatE_get hx).1 (flatE_get hx).2.1 (flatE_get hx).2.2.1 (flatE_get hx).2.2.2
    have hld : ∀ j u, (edC x)[j]? = some u → g2.cell b5 (o5 + i * 4 + j) = some u := fun j u h => hg2.cell (hld0 j u h)
    obtain ⟨hs0, hs1, hs2, hs3⟩ := ed_scal hld
    obtain ⟨hp0, hp1⟩ := ed_part hld
    have hl0 : (ptC x.1).length = 2 := rfl
    have hl1 : (ptC x.2).length = 2 := rfl
    obtain ⟨mx1, mx2⟩ := me1 x (List.mem_of_getElem? hx)
    rw [any_drop hx, hWe x] at hI
    have INA := fun L => IN x.1 mx1 L
    have INB := fun L => IN x.2 mx2 L
    have HIN := Hn.mk (fun (h : halfB x = true) => IN (halfP x) (half_may mx1 mx2 h))
    obtain ⟨B, hB⟩ : ∃ B, B = (es.drop (i + 1)).any W := ⟨_, rfl⟩
    rw [← hB] at hI
    have HB := Hn.mk hB
    have m1 := mayB_iff.1 mx1
    have m2 := mayB_iff.1 mx2
    have HX := Hn.mk (IntWalk.i64_in (x.1.1 + x.2.1) (by omega))
    have HY := Hn.mk (IntWalk.i64_in (x.1.2 + x.2.2) (by omega))
    have QX := Hn.mk (IntWalk.i64_in ((x.1.1 + x.2.1).tdiv 2) (by have := tdiv2_bd (x.1.1 + x.2.1) (by omega); omega))
    have QY := Hn.mk (IntWalk.i64_in ((x.1.2 + x.2.2).tdiv 2) (by have := tdiv2_bd (x.1.2 + x.2.2) (by omega); omega))
    obtain ⟨C, hC⟩ : ∃ C, C = fs.any fun y => crossB x.1 x.2 y.1 y.2 := ⟨_, rfl⟩
    rw [← hC] at hI
    have HC := Hn.mk hC
    clear hld hld0 hg5 hB hC m1 m2 IN hWe me1
    repeat' (first
    | refine wkQ ?_
    | refine wkV ?_
    | refine wkP ?_
    | refine TC.seq ?_ | refine TC.region ?_ | refine TL.nil ?_ | refine TQ.then_normal ?_
    | ((with_reducible apply TL.storeE); (· rfl); (· rfl); (· rfl); (· exact pkA); (· infer_instance)) | ((with_reducible apply TL.store_whole); (· rfl); (· rfl); (· exact oneA); (· rfl); (· exact pkA); (· rfl))
    | refine TC.ret ?_ | refine TC.skip ?_ | refine TC.exit ?_ | refine TC.cond rfl ?_
    | refine TQ.down ?_ | refine TQ.in_exit' rfl ?_
    | refine TL.guard_yes rfl rfl ?_ | refine TL.guard_no rfl rfl rfl rfl ?_ | refine TL.guard_no0 rfl rfl rfl ?_ | refine TL.guard_undef rfl rfl rfl ?_ | refine TL.guard_undef0 rfl rfl ?_ | refine TL.guard rfl rfl rfl ?_
    | refine Br.t rfl ?_ | refine Br.f rfl ?_ | refine Br.ky kpA ?_ | refine Br.kn kpA ?_ | refine Br.nky kpA ?_ | refine Br.nkn kpA ?_
    | refine Br.eq0 (fun _ => ?_) (fun _ => ?_) | refine Br.neq0 (fun _ => ?_) (fun _ => ?_) | refine Br.eq (fun _ => ?_) (fun _ => ?_) | refine Br.neq (fun _ => ?_) (fun _ => ?_) | refine Br.not (fun _ => ?_) (fun _ => ?_) | refine Br.dec (fun _ => ?_) (fun _ => ?_) | refine Br.bool (fun _ => ?_) (fun _ => ?_)
    | ((with_reducible apply TL.alloc_ag); (· rfl); intro _) | ((with_reducible apply TL.alloc_sc); (· rfl); (· rfl); intro _) | ((with_reducible apply TL.box_ag); (· rfl); (· rfl); intro _) | ((with_reducible apply TL.box_sc); (· rfl); (· rfl); (· rfl); intro _))
    refine TC.block ?_
    refine TC.seq ?_
    obtain ⟨X, hX⟩ : ∃ X, X = x.1.1 + x.2.1 := ⟨_, rfl⟩
    obtain ⟨Y0, hY⟩ : ∃ Y, Y = x.1.2 + x.2.2 := ⟨_, rfl⟩
    refine TC.cutN [] (fun _ : Unit => True) (fun _ => [(9, .int .i64 Y0), (8, .int .i64 X), (7, .int .i64 (i : Nat)), (6, .slice a2 fs.length c2), (5, .slice (some ⟨b5, o5, none⟩) es.length c1), (3, .pointer (some ⟨b3, 0, none⟩)), (2, .pointer (some ⟨b2, 0, none⟩))]) (fun _ => g2) (fun _ => .obj b3 (.cells [.int .i64 m, .slice au ts.length cu].toArray 36 (0, 0)) :: .obj b2 (.cells [.int .i64 k, .slice av ps.length cv].toArray 36 (0, 0)) :: L) ?_ ?_
    · dsimp only [ThenL]
      have HX : Hn (IntKind.i64.wrap (x.1.1 + x.2.1) = X) := ⟨by rw [HX.out, hX]⟩
      have HY : Hn (IntKind.i64.wrap (x.1.2 + x.2.2) = Y0) := ⟨by rw [HY.out, hY]⟩
      clear hI INA INB HIN QX QY hX hY
      repeat' (first
    | refine wkQ ?_
    | refine wkV ?_
    | refine stS ?_ | (refine stB ?_; intro _) | (refine stC ?_; refine And.intro (fun _ => ?_) (fun _ => ?_))
    | ((with_reducible apply TA.takeN 0); (· rfl); (· decide +kernel); (· rfl); (· first | first | exact yQ | first | ((with_reducible apply Y.add); (· rfl); (· rfl); (· exact HX.out)) | ((with_reducible apply Y.add); (· rfl); (· rfl); (· exact HY.out)) | ((with_reducible apply Y.eql_b); (· exact hx0); (· rfl); (· rfl)) | ((with_reducible apply Y.eql_b); (· exact hy0); (· rfl); (· rfl)) | ((with_reducible apply Y.rem); (· rfl); (· rfl); (· decide); (· rfl)) | ((with_reducible apply Y.quo); (· rfl); (· rfl); (· decide); (· exact QX.out)) | ((with_reducible apply Y.quo); (· rfl); (· rfl); (· decide); (· exact QY.out)) | (first | exact yQ | exact yA | exact yB | exact yM | exact yV)); (· decide +kernel); (· decide +kernel); (· rfl); (· exact fun _ _ _ h => h); (· rfl))
    | ((with_reducible apply TA.takeN 1); (· rfl); (· decide +kernel); (· rfl); (· first | first | exact yQ | first | ((with_reducible apply Y.add); (· rfl); (· rfl); (· exact HX.out)) | ((with_reducible apply Y.add); (· rfl); (· rfl); (· exact HY.out)) | ((with_reducible apply Y.eql_b); (· exact hx0); (· rfl); (· rfl)) | ((with_reducible apply Y.eql_b); (· exact hy0); (· rfl); (· rfl)) | ((with_reducible apply Y.rem); (· rfl); (· rfl); (· decide); (· rfl)) | ((with_reducible apply Y.quo); (· rfl); (· rfl); (· decide); (· exact QX.out)) | ((with_reducible apply Y.quo); (· rfl); (· rfl); (· decide); (· exact QY.out)) | (first | exact yQ | exact yA | exact yB | exact yM | exact yV)); (· decide +kernel); (· decide +kernel); (· rfl); (· exact fun _ _ _ h => h); (· rfl))
    | ((with_reducible apply TA.takeN 2); (· rfl); (· decide +kernel); (· rfl); (· first | first | exact yQ | first | ((with_reducible apply Y.add); (· rfl); (· rfl); (· exact HX.out)) | ((with_reducible apply Y.add); (· rfl); (· rfl); (· exact HY.out)) | ((with_reducible apply Y.eql_b); (· exact hx0); (· rfl); (· rfl)) | ((with_reducible apply Y.eql_b); (· exact hy0); (· rfl); (· rfl)) | ((with_reducible apply Y.rem); (· rfl); (· rfl); (· decide); (· rfl)) | ((with_reducible apply Y.quo); (· rfl); (· rfl); (· decide); (· exact QX.out)) | ((with_reducible apply Y.quo); (· rfl); (· rfl); (· decide); (· exact QY.out)) | (first | exact yQ | exact yA | exact yB | exact yM | exact yV)); (· decide +kernel); (· decide +kernel); (· rfl); (· exact fun _ _ _ h => h); (· rfl))
    | ((with_reducible apply TA.takeN 3); (· rfl); (· decide +kernel); (· rfl); (· first | first | exact yQ | first | ((with_reducible apply Y.add); (· rfl); (· rfl); (· exact HX.out)) | ((with_reducible apply Y.add); (· rfl); (· rfl); (· exact HY.out)) | ((with_reducible apply Y.eql_b); (· exact hx0); (· rfl); (· rfl)) | ((with_reducible apply Y.eql_b); (· exact hy0); (· rfl); (· rfl)) | ((with_reducible apply Y.rem); (· rfl); (· rfl); (· decide); (· rfl)) | ((with_reducible apply Y.quo); (· rfl); (· rfl); (· decide); (· exact QX.out)) | ((with_reducible apply Y.quo); (· rfl); (· rfl); (· decide); (· exact QY.out)) | (first | exact yQ | exact yA | exact yB | exact yM | exact yV)); (· decide +kernel); (· decide +kernel); (· rfl); (· exact fun _ _ _ h => h); (· rfl))
    | ((with_reducible apply TA.take_gN 0); (· rfl); (· decide +kernel); (· rfl); (· rfl); (· rfl); (· (first | exact yQ | first | ((with_reducible apply Y.add); (· rfl); (· rfl); (· exact HX.out)) | ((with_reducible apply Y.add); (· rfl); (· rfl); (· exact HY.out)) | ((with_reducible apply Y.eql_b); (· exact hx0); (· rfl); (· rfl)) | ((with_reducible apply Y.eql_b); (· exact hy0); (· rfl); (· rfl)) | ((with_reducible apply Y.rem); (· rfl); (· rfl); (· decide); (· rfl)) | ((with_reducible apply Y.quo); (· rfl); (· rfl); (· decide); (· exact QX.out)) | ((with_reducible apply Y.quo); (· rfl); (· rfl); (· decide); (· exact QY.out)) | (first | exact yQ | exact yA | exact yB | exact yM | exact yV))); (· decide +kernel); (· decide +kernel); (· rfl); (· exact fun _ _ _ h => h); (· rfl))
    | ((with_reducible apply TA.take_gN 1); (· rfl); (· decide +kernel); (· rfl); (· rfl); (· rfl); (· (first | exact yQ | first | ((with_reducible apply Y.add); (· rfl); (· rfl); (· exact HX.out)) | ((with_reducible apply Y.add); (· rfl); (· rfl); (· exact HY.out)) | ((with_reducible apply Y.eql_b); (· exact hx0); (· rfl); (· rfl)) | ((with_reducible apply Y.eql_b); (· exact hy0); (· rfl); (· rfl)) | ((with_reducible apply Y.rem); (· rfl); (· rfl); (· decide); (· rfl)) | ((with_reducible apply Y.quo); (· rfl); (· rfl); (· decide); (· exact QX.out)) | ((with_reducible apply Y.quo); (· rfl); (· rfl); (· decide); (· exact QY.out)) | (first | exact yQ | exact yA | exact yB | exact yM | exact yV))); (· decide +kernel); (· decide +kernel); (· rfl); (· exact fun _ _ _ h => h); (· rfl))
    | ((with_reducible apply TA.take_gN 2); (· rfl); (· decide +kernel); (· rfl); (· rfl); (· rfl); (· (first | exact yQ | first | ((with_reducible apply Y.add); (· rfl); (· rfl); (· exact HX.out)) | ((with_reducible apply Y.add); (· rfl); (· rfl); (· exact HY.out)) | ((with_reducible apply Y.eql_b); (· exact hx0); (· rfl); (· rfl)) | ((with_reducible apply Y.eql_b); (· exact hy0); (· rfl); (· rfl)) | ((with_reducible apply Y.rem); (· rfl); (· rfl); (· decide); (· rfl)) | ((with_reducible apply Y.quo); (· rfl); (· rfl); (· decide); (· exact QX.out)) | ((with_reducible apply Y.quo); (· rfl); (· rfl); (· decide); (· exact QY.out)) | (first | exact yQ | exact yA | exact yB | exact yM | exact yV))); (· decide +kernel); (· decide +kernel); (· rfl); (· exact fun _ _ _ h => h); (· rfl))
    | ((with_reducible apply TA.take_gN 3); (· rfl); (· decide +kernel); (· rfl); (· rfl); (· rfl); (· (first | exact yQ | first | ((with_reducible apply Y.add); (· rfl); (· rfl); (· exact HX.out)) | ((with_reducible apply Y.add); (· rfl); (· rfl); (· exact HY.out)) | ((with_reducible apply Y.eql_b); (· exact hx0); (· rfl); (· rfl)) | ((with_reducible apply Y.eql_b); (· exact hy0); (· rfl); (· rfl)) | ((with_reducible apply Y.rem); (· rfl); (· rfl); (· decide); (· rfl)) | ((with_reducible apply Y.quo); (· rfl); (· rfl); (· decide); (· exact QX.out)) | ((with_reducible apply Y.quo); (· rfl); (· rfl); (· decide); (· exact QY.out)) | (first | exact yQ | exact yA | exact yB | exact yM | exact yV))); (· decide +kernel); (· decide +kernel); (· rfl); (· exact fun _ _ _ h => h); (· rfl))
    | refine wkX0 ?_
    | refine wkX1 ?_
    | refine wkX2 ?_
    | refine wkX3 ?_
    | ((with_reducible apply TA.oneN 0); (· rfl); (· rfl); (· decide +kernel); (· rfl))
    | ((with_reducible apply TA.oneN 1); (· rfl); (· rfl); (· decide +kernel); (· rfl))
    | ((with_reducible apply TA.oneN 2); (· rfl); (· rfl); (· decide +kernel); (· rfl))
    | ((with_reducible apply TA.oneN 3); (· rfl); (· rfl); (· decide +kernel); (· rfl))
    | refine TQ.any leF selF ?_
    | refine TC.region_any 28 (_) (by kernel_rfl) rfl selF ?_ | refine TA.done (by decide +kernel) ?_ | refine TQ.any_panic ?_
    | refine TC.region_any 38 (_) (by kernel_rfl) rfl selF ?_ | refine TA.done (by decide +kernel) ?_ | refine TQ.any_panic ?_)
      refine TQ.cut () ?_ rfl subA selF
      trivial
    rintro _ _
    try dsimp only
    rw [← hX] at QX
    rw [← hY] at QY
    refine TC.seq ?_
    refine TC.cutN [] (fun _ : Unit => (!(C || B)) = R) (fun _ => [(7, .int .i64 (i : Nat)), (6, .slice a2 fs.length c2), (5, .slice (some ⟨b5, o5, none⟩) es.length c1), (3, .pointer (some ⟨b3, 0, none⟩)), (2, .pointer (some ⟨b2, 0, none⟩))]) (fun _ => g2) (fun _ => .obj b3 (.cells [.int .i64 m, .slice au ts.length cu].toArray 36 (0, 0)) :: .obj b2 (.cells [.int .i64 k, .slice av ps.length cv].toArray 36 (0, 0)) :: L) ?_ ?_
    · dsimp only [ThenL]
      have hhx : halfB x = (decide (X.tmod 2 = 0) && decide (Y0.tmod 2 = 0)) := by rw [hX, hY]; rfl
      have hhp : halfP x = (X.tdiv 2, Y0.tdiv 2) := by rw [hX, hY]; rfl
      clear hX hY HX HY hs0 hs1 hs2 hs3
      cases zA : inD m ts x.1 with
      | false =>
        rw [zA] at INA hI
        obtain rfl : false = R := by rw [← hI]; simp
        clear INB HIN
        repeat' (first
    | refine wkQ ?_
    | refine wkV ?_
    | ((with_reducible apply TL.gives_plain); (· kernel_rfl); (· rfl); (· exact INA _); (· rfl)) | ((with_reducible apply TW.gives_plain); (· kernel_rfl); (· rfl); (· exact INA _); (· rfl))
    | refine stS ?_ | (refine stB ?_; intro _) | (refine stC ?_; refine And.intro (fun _ => ?_) (fun _ => ?_))
    | ((with_reducible apply TA.takeN 0); (· rfl); (· decide +kernel); (· rfl); (· first | first | exact yQ | first | ((with_reducible apply Y.add); (· rfl); (· rfl); (· exact HX.out)) | ((with_reducible apply Y.add); (· rfl); (· rfl); (· exact HY.out)) | ((with_reducible apply Y.eql_b); (· exact hx0); (· rfl); (· rfl)) | ((with_reducible apply Y.eql_b); (· exact hy0); (· rfl); (· rfl)) | ((with_reducible apply Y.rem); (· rfl); (· rfl); (· decide); (· rfl)) | ((with_reducible apply Y.quo); (· rfl); (· rfl); (· decide); (· exact QX.out)) | ((with_reducible apply Y.quo); (· rfl); (· rfl); (· decide); (· exact QY.out)) | (first | exact yQ | exact yA | exact yB | exact yM | exact yV)); (· decide +kernel); (· decide +kernel); (· rfl); (· exact fun _ _ _ h => h); (· rfl))
    | ((with_reducible apply TA.takeN 1); (· rfl); (· decide +kernel); (· rfl); (· first | first | exact yQ | first | ((with_reducible apply Y.add); (· rfl); (· rfl); (· exact HX.out)) | ((with_reducible apply Y.add); (· rfl); (· rfl); (· exact HY.out)) | ((with_reducible apply Y.eql_b); (· exact hx0); (· rfl); (· rfl)) | ((with_reducible apply Y.eql_b); (· exact hy0); (· rfl); (· rfl)) | ((with_reducible apply Y.rem); (· rfl); (· rfl); (· decide); (· rfl)) | ((with_reducible apply Y.quo); (· rfl); (· rfl); (· decide); (· exact QX.out)) | ((with_reducible apply Y.quo); (· rfl); (· rfl); (· decide); (· exact QY.out)) | (first | exact yQ | exact yA | exact yB | exact yM | exact yV)); (· decide +kernel); (· decide +kernel); (· rfl); (· exact fun _ _ _ h => h); (· rfl))
    | ((with_reducible apply TA.takeN 2); (· rfl); (· decide +kernel); (· rfl); (· first | first | exact yQ | first | ((with_reducible apply Y.add); (· rfl); (· rfl); (· exact HX.out)) | ((with_reducible apply Y.add); (· rfl); (· rfl); (· exact HY.out)) | ((with_reducible apply Y.eql_b); (· exact hx0); (· rfl); (· rfl)) | ((with_reducible apply Y.eql_b); (· exact hy0); (· rfl); (· rfl)) | ((with_reducible apply Y.rem); (· rfl); (· rfl); (· decide); (· rfl)) | ((with_reducible apply Y.quo); (· rfl); (· rfl); (· decide); (· exact QX.out)) | ((with_reducible apply Y.quo); (· rfl); (· rfl); (· decide); (· exact QY.out)) | (first | exact yQ | exact yA | exact yB | exact yM | exact yV)); (· decide +kernel); (· decide +kernel); (· rfl); (· exact fun _ _ _ h => h); (· rfl))
    | ((with_reducible apply TA.takeN 3); (· rfl); (· decide +kernel); (· rfl); (· first | first | exact yQ | first | ((with_reducible apply Y.add); (· rfl); (· rfl); (· exact HX.out)) | ((with_reducible apply Y.add); (· rfl); (· rfl); (· exact HY.out)) | ((with_reducible apply Y.eql_b); (· exact hx0); (· rfl); (· rfl)) | ((with_reducible apply Y.eql_b); (· exact hy0); (· rfl); (· rfl)) | ((with_reducible apply Y.rem); (· rfl); (· rfl); (· decide); (· rfl)) | ((with_reducible apply Y.quo); (· rfl); (· rfl); (· decide); (· exact QX.out)) | ((with_reducible apply Y.quo); (· rfl); (· rfl); (· decide); (· exact QY.out)) | (first | exact yQ | exact yA | exact yB | exact yM | exact yV)); (· decide +kernel); (· decide +kernel); (· rfl); (· exact fun _ _ _ h => h); (· rfl))
    | ((with_reducible apply TA.take_gN 0); (· rfl); (· decide +kernel); (· rfl); (· rfl); (· rfl); (· (first | exact yQ | first | ((with_reducible apply Y.add); (· rfl); (· rfl); (· exact HX.out)) | ((with_reducible apply Y.add); (· rfl); (· rfl); (· exact HY.out)) | ((with_reducible apply Y.eql_b); (· exact hx0); (· rfl); (· rfl)) | ((with_reducible apply Y.eql_b); (· exact hy0); (· rfl); (· rfl)) | ((with_reducible apply Y.rem); (· rfl); (· rfl); (· decide); (· rfl)) | ((with_reducible apply Y.quo); (· rfl); (· rfl); (· decide); (· exact QX.out)) | ((with_reducible apply Y.quo); (· rfl); (· rfl); (· decide); (· exact QY.out)) | (first | exact yQ | exact yA | exact yB | exact yM | exact yV))); (· decide +kernel); (· decide +kernel); (· rfl); (· exact fun _ _ _ h => h); (· rfl))
    | ((with_reducible apply TA.take_gN 1); (· rfl); (· decide +kernel); (· rfl); (· rfl); (· rfl); (· (first | exact yQ | first | ((with_reducible apply Y.add); (· rfl); (· rfl); (· exact HX.out)) | ((with_reducible apply Y.add); (· rfl); (· rfl); (· exact HY.out)) | ((with_reducible apply Y.eql_b); (· exact hx0); (· rfl); (· rfl)) | ((with_reducible apply Y.eql_b); (· exact hy0); (· rfl); (· rfl)) | ((with_reducible apply Y.rem); (· rfl); (· rfl); (· decide); (· rfl)) | ((with_reducible apply Y.quo); (· rfl); (· rfl); (· decide); (· exact QX.out)) | ((with_reducible apply Y.quo); (· rfl); (· rfl); (· decide); (· exact QY.out)) | (first | exact yQ | exact yA | exact yB | exact yM | exact yV))); (· decide +kernel); (· decide +kernel); (· rfl); (· exact fun _ _ _ h => h); (· rfl))
    | ((with_reducible apply TA.take_gN 2); (· rfl); (· decide +kernel); (· rfl); (· rfl); (· rfl); (· (first | exact yQ | first | ((with_reducible apply Y.add); (· rfl); (· rfl); (· exact HX.out)) | ((with_reducible apply Y.add); (· rfl); (· rfl); (· exact HY.out)) | ((with_reducible apply Y.eql_b); (· exact hx0); (· rfl); (· rfl)) | ((with_reducible apply Y.eql_b); (· exact hy0); (· rfl); (· rfl)) | ((with_reducible apply Y.rem); (· rfl); (· rfl); (· decide); (· rfl)) | ((with_reducible apply Y.quo); (· rfl); (· rfl); (· decide); (· exact QX.out)) | ((with_reducible apply Y.quo); (· rfl); (· rfl); (· decide); (· exact QY.out)) | (first | exact yQ | exact yA | exact yB | exact yM | exact yV))); (· decide +kernel); (· decide +kernel); (· rfl); (· exact fun _ _ _ h => h); (· rfl))
    | ((with_reducible apply TA.take_gN 3); (· rfl); (· decide +kernel); (· rfl); (· rfl); (· rfl); (· (first | exact yQ | first | ((with_reducible apply Y.add); (· rfl); (· rfl); (· exact HX.out)) | ((with_reducible apply Y.add); (· rfl); (· rfl); (· exact HY.out)) | ((with_reducible apply Y.eql_b); (· exact hx0); (· rfl); (· rfl)) | ((with_reducible apply Y.eql_b); (· exact hy0); (· rfl); (· rfl)) | ((with_reducible apply Y.rem); (· rfl); (· rfl); (· decide); (· rfl)) | ((with_reducible apply Y.quo); (· rfl); (· rfl); (· decide); (· exact QX.out)) | ((with_reducible apply Y.quo); (· rfl); (· rfl); (· decide); (· exact QY.out)) | (first | exact yQ | exact yA | exact yB | exact yM | exact yV))); (· decide +kernel); (· decide +kernel); (· rfl); (· exact fun _ _ _ h => h); (· rfl))
    | refine wkX0 ?_
    | refine wkX1 ?_
    | refine wkX2 ?_
    | refine wkX3 ?_
    | ((with_reducible apply TA.oneN 0); (· rfl); (· rfl); (· decide +kernel); (· rfl))
    | ((with_reducible apply TA.oneN 1); (· rfl); (· rfl); (· decide +kernel); (· rfl))
    | ((with_reducible apply TA.oneN 2); (· rfl); (· rfl); (· decide +kernel); (· rfl))
    | ((with_reducible apply TA.oneN 3); (· rfl); (· rfl); (· decide +kernel); (· rfl))
    | refine TQ.any leF selF ?_
    | refine TC.region_any 28 (_) (by kernel_rfl) rfl selF ?_ | refine TA.done (by decide +kernel) ?_ | refine TQ.any_panic ?_
    | refine TC.region_any 38 (_) (by kernel_rfl) rfl selF ?_ | refine TA.done (by decide +kernel) ?_ | refine TQ.any_panic ?_)
        refine TQ.less hg02 ?_
        refine TQ.endR1 (L' := L) Tryz.results22 rvA rfl (.refl _) ?_ selF
        exact ⟨rfl, rfl, rfl⟩
      | true =>
      rw [zA] at INA hI
      cases zB : inD m ts x.2 with
      | false =>
        rw [zB] at INB hI
        obtain rfl : false = R := by rw [← hI]; simp
        clear HIN
        repeat' (first
    | refine wkQ ?_
    | refine wkV ?_
    | ((with_reducible apply TL.gives_plain); (· kernel_rfl); (· rfl); (· exact INA _); (· rfl)) | ((with_reducible apply TW.gives_plain); (· kernel_rfl); (· rfl); (· exact INA _); (· rfl))
    | ((with_reducible apply TL.gives_plain); (· kernel_rfl); (· rfl); (· exact INB _); (· rfl)) | ((with_reducible apply TW.gives_plain); (· kernel_rfl); (· rfl); (· exact INB _); (· rfl))
    | refine stS ?_ | (refine stB ?_; intro _) | (refine stC ?_; refine And.intro (fun _ => ?_) (fun _ => ?_))
    | ((with_reducible apply TA.takeN 0); (· rfl); (· decide +kernel); (· rfl); (· first | first | exact yQ | first | ((with_reducible apply Y.add); (· rfl); (· rfl); (· exact HX.out)) | ((with_reducible apply Y.add); (· rfl); (· rfl); (· exact HY.out)) | ((with_reducible apply Y.eql_b); (· exact hx0); (· rfl); (· rfl)) | ((with_reducible apply Y.eql_b); (· exact hy0); (· rfl); (· rfl)) | ((with_reducible apply Y.rem); (· rfl); (· rfl); (· decide); (· rfl)) | ((with_reducible apply Y.quo); (· rfl); (· rfl); (· decide); (· exact QX.out)) | ((with_reducible apply Y.quo); (· rfl); (· rfl); (· decide); (· exact QY.out)) | (first | exact yQ | exact yA | exact yB | exact yM | exact yV)); (· decide +kernel); (· decide +kernel); (· rfl); (· exact fun _ _ _ h => h); (· rfl))
    | ((with_reducible apply TA.takeN 1); (· rfl); (· decide +kernel); (· rfl); (· first | first | exact yQ | first | ((with_reducible apply Y.add); (· rfl); (· rfl); (· exact HX.out)) | ((with_reducible apply Y.add); (· rfl); (· rfl); (· exact HY.out)) | ((with_reducible apply Y.eql_b); (· exact hx0); (· rfl); (· rfl)) | ((with_reducible apply Y.eql_b); (· exact hy0); (· rfl); (· rfl)) | ((with_reducible apply Y.rem); (· rfl); (· rfl); (· decide); (· rfl)) | ((with_reducible apply Y.quo); (· rfl); (· rfl); (· decide); (· exact QX.out)) | ((with_reducible apply Y.quo); (· rfl); (· rfl); (· decide); (· exact QY.out)) | (first | exact yQ | exact yA | exact yB | exact yM | exact yV)); (· decide +kernel); (· decide +kernel); (· rfl); (· exact fun _ _ _ h => h); (· rfl))
    | ((with_reducible apply TA.takeN 2); (· rfl); (· decide +kernel); (· rfl); (· first | first | exact yQ | first | ((with_reducible apply Y.add); (· rfl); (· rfl); (· exact HX.out)) | ((with_reducible apply Y.add); (· rfl); (· rfl); (· exact HY.out)) | ((with_reducible apply Y.eql_b); (· exact hx0); (· rfl); (· rfl)) | ((with_reducible apply Y.eql_b); (· exact hy0); (· rfl); (· rfl)) | ((with_reducible apply Y.rem); (· rfl); (· rfl); (· decide); (· rfl)) | ((with_reducible apply Y.quo); (· rfl); (· rfl); (· decide); (· exact QX.out)) | ((with_reducible apply Y.quo); (· rfl); (· rfl); (· decide); (· exact QY.out)) | (first | exact yQ | exact yA | exact yB | exact yM | exact yV)); (· decide +kernel); (· decide +kernel); (· rfl); (· exact fun _ _ _ h => h); (· rfl))
    | ((with_reducible apply TA.takeN 3); (· rfl); (· decide +kernel); (· rfl); (· first | first | exact yQ | first | ((with_reducible apply Y.add); (· rfl); (· rfl); (· exact HX.out)) | ((with_reducible apply Y.add); (· rfl); (· rfl); (· exact HY.out)) | ((with_reducible apply Y.eql_b); (· exact hx0); (· rfl); (· rfl)) | ((with_reducible apply Y.eql_b); (· exact hy0); (· rfl); (· rfl)) | ((with_reducible apply Y.rem); (· rfl); (· rfl); (· decide); (· rfl)) | ((with_reducible apply Y.quo); (· rfl); (· rfl); (· decide); (· exact QX.out)) | ((with_reducible apply Y.quo); (· rfl); (· rfl); (· decide); (· exact QY.out)) | (first | exact yQ | exact yA | exact yB | exact yM | exact yV)); (· decide +kernel); (· decide +kernel); (· rfl); (· exact fun _ _ _ h => h); (· rfl))
    | ((with_reducible apply TA.take_gN 0); (· rfl); (· decide +kernel); (· rfl); (· rfl); (· rfl); (· (first | exact yQ | first | ((with_reducible apply Y.add); (· rfl); (· rfl); (· exact HX.out)) | ((with_reducible apply Y.add); (· rfl); (· rfl); (· exact HY.out)) | ((with_reducible apply Y.eql_b); (· exact hx0); (· rfl); (· rfl)) | ((with_reducible apply Y.eql_b); (· exact hy0); (· rfl); (· rfl)) | ((with_reducible apply Y.rem); (· rfl); (· rfl); (· decide); (· rfl)) | ((with_reducible apply Y.quo); (· rfl); (· rfl); (· decide); (· exact QX.out)) | ((with_reducible apply Y.quo); (· rfl); (· rfl); (· decide); (· exact QY.out)) | (first | exact yQ | exact yA | exact yB | exact yM | exact yV))); (· decide +kernel); (· decide +kernel); (· rfl); (· exact fun _ _ _ h => h); (· rfl))
    | ((with_reducible apply TA.take_gN 1); (· rfl); (· decide +kernel); (· rfl); (· rfl); (· rfl); (· (first | exact yQ | first | ((with_reducible apply Y.add); (· rfl); (· rfl); (· exact HX.out)) | ((with_reducible apply Y.add); (· rfl); (· rfl); (· exact HY.out)) | ((with_reducible apply Y.eql_b); (· exact hx0); (· rfl); (· rfl)) | ((with_reducible apply Y.eql_b); (· exact hy0); (· rfl); (· rfl)) | ((with_reducible apply Y.rem); (· rfl); (· rfl); (· decide); (· rfl)) | ((with_reducible apply Y.quo); (· rfl); (· rfl); (· decide); (· exact QX.out)) | ((with_reducible apply Y.quo); (· rfl); (· rfl); (· decide); (· exact QY.out)) | (first | exact yQ | exact yA | exact yB | exact yM | exact yV))); (· decide +kernel); (· decide +kernel); (· rfl); (· exact fun _ _ _ h => h); (· rfl))
    | ((with_reducible apply TA.take_gN 2); (· rfl); (· decide +kernel); (· rfl); (· rfl); (· rfl); (· (first | exact yQ | first | ((with_reducible apply Y.add); (· rfl); (· rfl); (· exact HX.out)) | ((with_reducible apply Y.add); (· rfl); (· rfl); (· exact HY.out)) | ((with_reducible apply Y.eql_b); (· exact hx0); (· rfl); (· rfl)) | ((with_reducible apply Y.eql_b); (· exact hy0); (· rfl); (· rfl)) | ((with_reducible apply Y.rem); (· rfl); (· rfl); (· decide); (· rfl)) | ((with_reducible apply Y.quo); (· rfl); (· rfl); (· decide); (· exact QX.out)) | ((with_reducible apply Y.quo); (· rfl); (· rfl); (· decide); (· exact QY.out)) | (first | exact yQ | exact yA | exact yB | exact yM | exact yV))); (· decide +kernel); (· decide +kernel); (· rfl); (· exact fun _ _ _ h => h); (· rfl))
    | ((with_reducible apply TA.take_gN 3); (· rfl); (· decide +kernel); (· rfl); (· rfl); (· rfl); (· (first | exact yQ | first | ((with_reducible apply Y.add); (· rfl); (· rfl); (· exact HX.out)) | ((with_reducible apply Y.add); (· rfl); (· rfl); (· exact HY.out)) | ((with_reducible apply Y.eql_b); (· exact hx0); (· rfl); (· rfl)) | ((with_reducible apply Y.eql_b); (· exact hy0); (· rfl); (· rfl)) | ((with_reducible apply Y.rem); (· rfl); (· rfl); (· decide); (· rfl)) | ((with_reducible apply Y.quo); (· rfl); (· rfl); (· decide); (· exact QX.out)) | ((with_reducible apply Y.quo); (· rfl); (· rfl); (· decide); (· exact QY.out)) | (first | exact yQ | exact yA | exact yB | exact yM | exact yV))); (· decide +kernel); (· decide +kernel); (· rfl); (· exact fun _ _ _ h => h); (· rfl))
    | refine wkX0 ?_
    | refine wkX1 ?_
    | refine wkX2 ?_
    | refine wkX3 ?_
    | ((with_reducible apply TA.oneN 0); (· rfl); (· rfl); (· decide +kernel); (· rfl))
    | ((with_reducible apply TA.oneN 1); (· rfl); (· rfl); (· decide +kernel); (· rfl))
    | ((with_reducible apply TA.oneN 2); (· rfl); (· rfl); (· decide +kernel); (· rfl))
    | ((with_reducible apply TA.oneN 3); (· rfl); (· rfl); (· decide +kernel); (· rfl))
    | refine TQ.any leF selF ?_
    | refine TC.region_any 28 (_) (by kernel_rfl) rfl selF ?_ | refine TA.done (by decide +kernel) ?_ | refine TQ.any_panic ?_
    | refine TC.region_any 38 (_) (by kernel_rfl) rfl selF ?_ | refine TA.done (by decide +kernel) ?_ | refine TQ.any_panic ?_)
        refine TQ.less hg02 ?_
        refine TQ.endR1 (L' := L) Tryz.results22 rvA rfl (.refl _) ?_ selF
        exact ⟨rfl, rfl, rfl⟩
      | true =>
      rw [zB] at INB hI
      cases hx0 : decide (X.tmod 2 = 0) with
      | false =>
        rw [hhx, hx0] at hI
        clear HIN
        repeat' (first
    | refine wkQ ?_
    | refine wkV ?_
    | ((with_reducible apply TL.gives_plain); (· kernel_rfl); (· rfl); (· exact INA _); (· rfl)) | ((with_reducible apply TW.gives_plain); (· kernel_rfl); (· rfl); (· exact INA _); (· rfl))
    | ((with_reducible apply TL.gives_plain); (· kernel_rfl); (· rfl); (· exact INB _); (· rfl)) | ((with_reducible apply TW.gives_plain); (· kernel_rfl); (· rfl); (· exact INB _); (· rfl))
    | refine stS ?_ | (refine stB ?_; intro _) | (refine stC ?_; refine And.intro (fun _ => ?_) (fun _ => ?_))
    | ((with_reducible apply TA.takeN 0); (· rfl); (· decide +kernel); (· rfl); (· first | first | exact yQ | first | ((with_reducible apply Y.add); (· rfl); (· rfl); (· exact HX.out)) | ((with_reducible apply Y.add); (· rfl); (· rfl); (· exact HY.out)) | ((with_reducible apply Y.eql_b); (· exact hx0); (· rfl); (· rfl)) | ((with_reducible apply Y.eql_b); (· exact hy0); (· rfl); (· rfl)) | ((with_reducible apply Y.rem); (· rfl); (· rfl); (· decide); (· rfl)) | ((with_reducible apply Y.quo); (· rfl); (· rfl); (· decide); (· exact QX.out)) | ((with_reducible apply Y.quo); (· rfl); (· rfl); (· decide); (· exact QY.out)) | (first | exact yQ | exact yA | exact yB | exact yM | exact yV)); (· decide +kernel); (· decide +kernel); (· rfl); (· exact fun _ _ _ h => h); (· rfl))
    | ((with_reducible apply TA.takeN 1); (· rfl); (· decide +kernel); (· rfl); (· first | first | exact yQ | first | ((with_reducible apply Y.add); (· rfl); (· rfl); (· exact HX.out)) | ((with_reducible apply Y.add); (· rfl); (· rfl); (· exact HY.out)) | ((with_reducible apply Y.eql_b); (· exact hx0); (· rfl); (· rfl)) | ((with_reducible apply Y.eql_b); (· exact hy0); (· rfl); (· rfl)) | ((with_reducible apply Y.rem); (· rfl); (· rfl); (· decide); (· rfl)) | ((with_reducible apply Y.quo); (· rfl); (· rfl); (· decide); (· exact QX.out)) | ((with_reducible apply Y.quo); (· rfl); (· rfl); (· decide); (· exact QY.out)) | (first | exact yQ | exact yA | exact yB | exact yM | exact yV)); (· decide +kernel); (· decide +kernel); (· rfl); (· exact fun _ _ _ h => h); (· rfl))
    | ((with_reducible apply TA.takeN 2); (· rfl); (· decide +kernel); (· rfl); (· first | first | exact yQ | first | ((with_reducible apply Y.add); (· rfl); (· rfl); (· exact HX.out)) | ((with_reducible apply Y.add); (· rfl); (· rfl); (· exact HY.out)) | ((with_reducible apply Y.eql_b); (· exact hx0); (· rfl); (· rfl)) | ((with_reducible apply Y.eql_b); (· exact hy0); (· rfl); (· rfl)) | ((with_reducible apply Y.rem); (· rfl); (· rfl); (· decide); (· rfl)) | ((with_reducible apply Y.quo); (· rfl); (· rfl); (· decide); (· exact QX.out)) | ((with_reducible apply Y.quo); (· rfl); (· rfl); (· decide); (· exact QY.out)) | (first | exact yQ | exact yA | exact yB | exact yM | exact yV)); (· decide +kernel); (· decide +kernel); (· rfl); (· exact fun _ _ _ h => h); (· rfl))
    | ((with_reducible apply TA.takeN 3); (· rfl); (· decide +kernel); (· rfl); (· first | first | exact yQ | first | ((with_reducible apply Y.add); (· rfl); (· rfl); (· exact HX.out)) | ((with_reducible apply Y.add); (· rfl); (· rfl); (· exact HY.out)) | ((with_reducible apply Y.eql_b); (· exact hx0); (· rfl); (· rfl)) | ((with_reducible apply Y.eql_b); (· exact hy0); (· rfl); (· rfl)) | ((with_reducible apply Y.rem); (· rfl); (· rfl); (· decide); (· rfl)) | ((with_reducible apply Y.quo); (· rfl); (· rfl); (· decide); (· exact QX.out)) | ((with_reducible apply Y.quo); (· rfl); (· rfl); (· decide); (· exact QY.out)) | (first | exact yQ | exact yA | exact yB | exact yM | exact yV)); (· decide +kernel); (· decide +kernel); (· rfl); (· exact fun _ _ _ h => h); (· rfl))
    | ((with_reducible apply TA.take_gN 0); (· rfl); (· decide +kernel); (· rfl); (· rfl); (· rfl); (· (first | exact yQ | first | ((with_reducible apply Y.add); (· rfl); (· rfl); (· exact HX.out)) | ((with_reducible apply Y.add); (· rfl); (· rfl); (· exact HY.out)) | ((with_reducible apply Y.eql_b); (· exact hx0); (· rfl); (· rfl)) | ((with_reducible apply Y.eql_b); (· exact hy0); (· rfl); (· rfl)) | ((with_reducible apply Y.rem); (· rfl); (· rfl); (· decide); (· rfl)) | ((with_reducible apply Y.quo); (· rfl); (· rfl); (· decide); (· exact QX.out)) | ((with_reducible apply Y.quo); (· rfl); (· rfl); (· decide); (· exact QY.out)) | (first | exact yQ | exact yA | exact yB | exact yM | exact yV))); (· decide +kernel); (· decide +kernel); (· rfl); (· exact fun _ _ _ h => h); (· rfl))
    | ((with_reducible apply TA.take_gN 1); (· rfl); (· decide +kernel); (· rfl); (· rfl); (· rfl); (· (first | exact yQ | first | ((with_reducible apply Y.add); (· rfl); (· rfl); (· exact HX.out)) | ((with_reducible apply Y.add); (· rfl); (· rfl); (· exact HY.out)) | ((with_reducible apply Y.eql_b); (· exact hx0); (· rfl); (· rfl)) | ((with_reducible apply Y.eql_b); (· exact hy0); (· rfl); (· rfl)) | ((with_reducible apply Y.rem); (· rfl); (· rfl); (· decide); (· rfl)) | ((with_reducible apply Y.quo); (· rfl); (· rfl); (· decide); (· exact QX.out)) | ((with_reducible apply Y.quo); (· rfl); (· rfl); (· decide); (· exact QY.out)) | (first | exact yQ | exact yA | exact yB | exact yM | exact yV))); (· decide +kernel); (· decide +kernel); (· rfl); (· exact fun _ _ _ h => h); (· rfl))
    | ((with_reducible apply TA.take_gN 2); (· rfl); (· decide +kernel); (· rfl); (· rfl); (· rfl); (· (first | exact yQ | first | ((with_reducible apply Y.add); (· rfl); (· rfl); (· exact HX.out)) | ((with_reducible apply Y.add); (· rfl); (· rfl); (· exact HY.out)) | ((with_reducible apply Y.eql_b); (· exact hx0); (· rfl); (· rfl)) | ((with_reducible apply Y.eql_b); (· exact hy0); (· rfl); (· rfl)) | ((with_reducible apply Y.rem); (· rfl); (· rfl); (· decide); (· rfl)) | ((with_reducible apply Y.quo); (· rfl); (· rfl); (· decide); (· exact QX.out)) | ((with_reducible apply Y.quo); (· rfl); (· rfl); (· decide); (· exact QY.out)) | (first | exact yQ | exact yA | exact yB | exact yM | exact yV))); (· decide +kernel); (· decide +kernel); (· rfl); (· exact fun _ _ _ h => h); (· rfl))
    | ((with_reducible apply TA.take_gN 3); (· rfl); (· decide +kernel); (· rfl); (· rfl); (· rfl); (· (first | exact yQ | first | ((with_reducible apply Y.add); (· rfl); (· rfl); (· exact HX.out)) | ((with_reducible apply Y.add); (· rfl); (· rfl); (· exact HY.out)) | ((with_reducible apply Y.eql_b); (· exact hx0); (· rfl); (· rfl)) | ((with_reducible apply Y.eql_b); (· exact hy0); (· rfl); (· rfl)) | ((with_reducible apply Y.rem); (· rfl); (· rfl); (· decide); (· rfl)) | ((with_reducible apply Y.quo); (· rfl); (· rfl); (· decide); (· exact QX.out)) | ((with_reducible apply Y.quo); (· rfl); (· rfl); (· decide); (· exact QY.out)) | (first | exact yQ | exact yA | exact yB | exact yM | exact yV))); (· decide +kernel); (· decide +kernel); (· rfl); (· exact fun _ _ _ h => h); (· rfl))
    | refine wkX0 ?_
    | refine wkX1 ?_
    | refine wkX2 ?_
    | refine wkX3 ?_
    | ((with_reducible apply TA.oneN 0); (· rfl); (· rfl); (· decide +kernel); (· rfl))
    | ((with_reducible apply TA.oneN 1); (· rfl); (· rfl); (· decide +kernel); (· rfl))
    | ((with_reducible apply TA.oneN 2); (· rfl); (· rfl); (· decide +kernel); (· rfl))
    | ((with_reducible apply TA.oneN 3); (· rfl); (· rfl); (· decide +kernel); (· rfl))
    | refine TQ.any leF selF ?_
    | refine TC.region_any 28 (_) (by kernel_rfl) rfl selF ?_ | refine TA.done (by decide +kernel) ?_ | refine TQ.any_panic ?_
    | refine TC.region_any 38 (_) (by kernel_rfl) rfl selF ?_ | refine TA.done (by decide +kernel) ?_ | refine TQ.any_panic ?_)
        refine TQ.cut () ?_ rfl subA selF
        rw [← hI]; simp
      | true =>
      cases hy0 : decide (Y0.tmod 2 = 0) with
      | false =>
        rw [hhx, hx0, hy0] at hI
        clear HIN
        repeat' (first
    | refine wkQ ?_
    | refine wkV ?_
    | ((with_reducible apply TL.gives_plain); (· kernel_rfl); (· rfl); (· exact INA _); (· rfl)) | ((with_reducible apply TW.gives_plain); (· kernel_rfl); (· rfl); (· exact INA _); (· rfl))
    | ((with_reducible apply TL.gives_plain); (· kernel_rfl); (· rfl); (· exact INB _); (· rfl)) | ((with_reducible apply TW.gives_plain); (· kernel_rfl); (· rfl); (· exact INB _); (· rfl))
    | refine stS ?_ | (refine stB ?_; intro _) | (refine stC ?_; refine And.intro (fun _ => ?_) (fun _ => ?_))
    | ((with_reducible apply TA.takeN 0); (· rfl); (· decide +kernel); (· rfl); (· first | first | exact yQ | first | ((with_reducible apply Y.add); (· rfl); (· rfl); (· exact HX.out)) | ((with_reducible apply Y.add); (· rfl); (· rfl); (· exact HY.out)) | ((with_reducible apply Y.eql_b); (· exact hx0); (· rfl); (· rfl)) | ((with_reducible apply Y.eql_b); (· exact hy0); (· rfl); (· rfl)) | ((with_reducible apply Y.rem); (· rfl); (· rfl); (· decide); (· rfl)) | ((with_reducible apply Y.quo); (· rfl); (· rfl); (· decide); (· exact QX.out)) | ((with_reducible apply Y.quo); (· rfl); (· rfl); (· decide); (· exact QY.out)) | (first | exact yQ | exact yA | exact yB | exact yM | exact yV)); (· decide +kernel); (· decide +kernel); (· rfl); (· exact fun _ _ _ h => h); (· rfl))
    | ((with_reducible apply TA.takeN 1); (· rfl); (· decide +kernel); (· rfl); (· first | first | exact yQ | first | ((with_reducible apply Y.add); (· rfl); (· rfl); (· exact HX.out)) | ((with_reducible apply Y.add); (· rfl); (· rfl); (· exact HY.out)) | ((with_reducible apply Y.eql_b); (· exact hx0); (· rfl); (· rfl)) | ((with_reducible apply Y.eql_b); (· exact hy0); (· rfl); (· rfl)) | ((with_reducible apply Y.rem); (· rfl); (· rfl); (· decide); (· rfl)) | ((with_reducible apply Y.quo); (· rfl); (· rfl); (· decide); (· exact QX.out)) | ((with_reducible apply Y.quo); (· rfl); (· rfl); (· decide); (· exact QY.out)) | (first | exact yQ | exact yA | exact yB | exact yM | exact yV)); (· decide +kernel); (· decide +kernel); (· rfl); (· exact fun _ _ _ h => h); (· rfl))
    | ((with_reducible apply TA.takeN 2); (· rfl); (· decide +kernel); (· rfl); (· first | first | exact yQ | first | ((with_reducible apply Y.add); (· rfl); (· rfl); (· exact HX.out)) | ((with_reducible apply Y.add); (· rfl); (· rfl); (· exact HY.out)) | ((with_reducible apply Y.eql_b); (· exact hx0); (· rfl); (· rfl)) | ((with_reducible apply Y.eql_b); (· exact hy0); (· rfl); (· rfl)) | ((with_reducible apply Y.rem); (· rfl); (· rfl); (· decide); (· rfl)) | ((with_reducible apply Y.quo); (· rfl); (· rfl); (· decide); (· exact QX.out)) | ((with_reducible apply Y.quo); (· rfl); (· rfl); (· decide); (· exact QY.out)) | (first | exact yQ | exact yA | exact yB | exact yM | exact yV)); (· decide +kernel); (· decide +kernel); (· rfl); (· exact fun _ _ _ h => h); (· rfl))
    | ((with_reducible apply TA.takeN 3); (· rfl); (· decide +kernel); (· rfl); (· first | first | exact yQ | first | ((with_reducible apply Y.add); (· rfl); (· rfl); (· exact HX.out)) | ((with_reducible apply Y.add); (· rfl); (· rfl); (· exact HY.out)) | ((with_reducible apply Y.eql_b); (· exact hx0); (· rfl); (· rfl)) | ((with_reducible apply Y.eql_b); (· exact hy0); (· rfl); (· rfl)) | ((with_reducible apply Y.rem); (· rfl); (· rfl); (· decide); (· rfl)) | ((with_reducible apply Y.quo); (· rfl); (· rfl); (· decide); (· exact QX.out)) | ((with_reducible apply Y.quo); (· rfl); (· rfl); (· decide); (· exact QY.out)) | (first | exact yQ | exact yA | exact yB | exact yM | exact yV)); (· decide +kernel); (· decide +kernel); (· rfl); (· exact fun _ _ _ h => h); (· rfl))
    | ((with_reducible apply TA.take_gN 0); (· rfl); (· decide +kernel); (· rfl); (· rfl); (· rfl); (· (first | exact yQ | first | ((with_reducible apply Y.add); (· rfl); (· rfl); (· exact HX.out)) | ((with_reducible apply Y.add); (· rfl); (· rfl); (· exact HY.out)) | ((with_reducible apply Y.eql_b); (· exact hx0); (· rfl); (· rfl)) | ((with_reducible apply Y.eql_b); (· exact hy0); (· rfl); (· rfl)) | ((with_reducible apply Y.rem); (· rfl); (· rfl); (· decide); (· rfl)) | ((with_reducible apply Y.quo); (· rfl); (· rfl); (· decide); (· exact QX.out)) | ((with_reducible apply Y.quo); (· rfl); (· rfl); (· decide); (· exact QY.out)) | (first | exact yQ | exact yA | exact yB | exact yM | exact yV))); (· decide +kernel); (· decide +kernel); (· rfl); (· exact fun _ _ _ h => h); (· rfl))
    | ((with_reducible apply TA.take_gN 1); (· rfl); (· decide +kernel); (· rfl); (· rfl); (· rfl); (· (first | exact yQ | first | ((with_reducible apply Y.add); (· rfl); (· rfl); (· exact HX.out)) | ((with_reducible apply Y.add); (· rfl); (· rfl); (· exact HY.out)) | ((with_reducible apply Y.eql_b); (· exact hx0); (· rfl); (· rfl)) | ((with_reducible apply Y.eql_b); (· exact hy0); (· rfl); (· rfl)) | ((with_reducible apply Y.rem); (· rfl); (· rfl); (· decide); (· rfl)) | ((with_reducible apply Y.quo); (· rfl); (· rfl); (· decide); (· exact QX.out)) | ((with_reducible apply Y.quo); (· rfl); (· rfl); (· decide); (· exact QY.out)) | (first | exact yQ | exact yA | exact yB | exact yM | exact yV))); (· decide +kernel); (· decide +kernel); (· rfl); (· exact fun _ _ _ h => h); (· rfl))
    | ((with_reducible apply TA.take_gN 2); (· rfl); (· decide +kernel); (· rfl); (· rfl); (· rfl); (· (first | exact yQ | first | ((with_reducible apply Y.add); (· rfl); (· rfl); (· exact HX.out)) | ((with_reducible apply Y.add); (· rfl); (· rfl); (· exact HY.out)) | ((with_reducible apply Y.eql_b); (· exact hx0); (· rfl); (· rfl)) | ((with_reducible apply Y.eql_b); (· exact hy0); (· rfl); (· rfl)) | ((with_reducible apply Y.rem); (· rfl); (· rfl); (· decide); (· rfl)) | ((with_reducible apply Y.quo); (· rfl); (· rfl); (· decide); (· exact QX.out)) | ((with_reducible apply Y.quo); (· rfl); (· rfl); (· decide); (· exact QY.out)) | (first | exact yQ | exact yA | exact yB | exact yM | exact yV))); (· decide +kernel); (· decide +kernel); (· rfl); (· exact fun _ _ _ h => h); (· rfl))
    | ((with_reducible apply TA.take_gN 3); (· rfl); (· decide +kernel); (· rfl); (· rfl); (· rfl); (· (first | exact yQ | first | ((with_reducible apply Y.add); (· rfl); (· rfl); (· exact HX.out)) | ((with_reducible apply Y.add); (· rfl); (· rfl); (· exact HY.out)) | ((with_reducible apply Y.eql_b); (· exact hx0); (· rfl); (· rfl)) | ((with_reducible apply Y.eql_b); (· exact hy0); (· rfl); (· rfl)) | ((with_reducible apply Y.rem); (· rfl); (· rfl); (· decide); (· rfl)) | ((with_reducible apply Y.quo); (· rfl); (· rfl); (· decide); (· exact QX.out)) | ((with_reducible apply Y.quo); (· rfl); (· rfl); (· decide); (· exact QY.out)) | (first | exact yQ | exact yA | exact yB | exact yM | exact yV))); (· decide +kernel); (· decide +kernel); (· rfl); (· exact fun _ _ _ h => h); (· rfl))
    | refine wkX0 ?_
    | refine wkX1 ?_
    | refine wkX2 ?_
    | refine wkX3 ?_
    | ((with_reducible apply TA.oneN 0); (· rfl); (· rfl); (· decide +kernel); (· rfl))
    | ((with_reducible apply TA.oneN 1); (· rfl); (· rfl); (· decide +kernel); (· rfl))
    | ((with_reducible apply TA.oneN 2); (· rfl); (· rfl); (· decide +kernel); (· rfl))
    | ((with_reducible apply TA.oneN 3); (· rfl); (· rfl); (· decide +kernel); (· rfl))
    | refine TQ.any leF selF ?_
    | refine TC.region_any 28 (_) (by kernel_rfl) rfl selF ?_ | refine TA.done (by decide +kernel) ?_ | refine TQ.any_panic ?_
    | refine TC.region_any 38 (_) (by kernel_rfl) rfl selF ?_ | refine TA.done (by decide +kernel) ?_ | refine TQ.any_panic ?_)
        refine TQ.cut () ?_ rfl subA selF
        rw [← hI]; simp
      | true =>
      have hhb : halfB x = true := by rw [hhx, hx0, hy0]; rfl
      have INH := HIN.out hhb
      rw [hhb] at hI
      rw [hhp] at INH hI
      clear HIN
      cases zH : inD m ts (X.tdiv 2, Y0.tdiv 2) with
      | false =>
        rw [zH] at INH hI
        obtain rfl : false = R := by rw [← hI]; simp
        repeat' (first
    | refine wkQ ?_
    | refine wkV ?_
    | ((with_reducible apply TL.gives_plain); (· kernel_rfl); (· rfl); (· exact INA _); (· rfl)) | ((with_reducible apply TW.gives_plain); (· kernel_rfl); (· rfl); (· exact INA _); (· rfl))
    | ((with_reducible apply TL.gives_plain); (· kernel_rfl); (· rfl); (· exact INB _); (· rfl)) | ((with_reducible apply TW.gives_plain); (· kernel_rfl); (· rfl); (· exact INB _); (· rfl))
    | ((with_reducible apply TL.gives_plain); (· kernel_rfl); (· rfl); (· exact INH _); (· rfl)) | ((with_reducible apply TW.gives_plain); (· kernel_rfl); (· rfl); (· exact INH _); (· rfl))
    | refine stS ?_ | (refine stB ?_; intro _) | (refine stC ?_; refine And.intro (fun _ => ?_) (fun _ => ?_))
    | ((with_reducible apply TA.takeN 0); (· rfl); (· decide +kernel); (· rfl); (· first | first | exact yQ | first | ((with_reducible apply Y.add); (· rfl); (· rfl); (· exact HX.out)) | ((with_reducible apply Y.add); (· rfl); (· rfl); (· exact HY.out)) | ((with_reducible apply Y.eql_b); (· exact hx0); (· rfl); (· rfl)) | ((with_reducible apply Y.eql_b); (· exact hy0); (· rfl); (· rfl)) | ((with_reducible apply Y.rem); (· rfl); (· rfl); (· decide); (· rfl)) | ((with_reducible apply Y.quo); (· rfl); (· rfl); (· decide); (· exact QX.out)) | ((with_reducible apply Y.quo); (· rfl); (· rfl); (· decide); (· exact QY.out)) | (first | exact yQ | exact yA | exact yB | exact yM | exact yV)); (· decide +kernel); (· decide +kernel); (· rfl); (· exact fun _ _ _ h => h); (· rfl))
    | ((with_reducible apply TA.takeN 1); (· rfl); (· decide +kernel); (· rfl); (· first | first | exact yQ | first | ((with_reducible apply Y.add); (· rfl); (· rfl); (· exact HX.out)) | ((with_reducible apply Y.add); (· rfl); (· rfl); (· exact HY.out)) | ((with_reducible apply Y.eql_b); (· exact hx0); (· rfl); (· rfl)) | ((with_reducible apply Y.eql_b); (· exact hy0); (· rfl); (· rfl)) | ((with_reducible apply Y.rem); (· rfl); (· rfl); (· decide); (· rfl)) | ((with_reducible apply Y.quo); (· rfl); (· rfl); (· decide); (· exact QX.out)) | ((with_reducible apply Y.quo); (· rfl); (· rfl); (· decide); (· exact QY.out)) | (first | exact yQ | exact yA | exact yB | exact yM | exact yV)); (· decide +kernel); (· decide +kernel); (· rfl); (· exact fun _ _ _ h => h); (· rfl))
    | ((with_reducible apply TA.takeN 2); (· rfl); (· decide +kernel); (· rfl); (· first | first | exact yQ | first | ((with_reducible apply Y.add); (· rfl); (· rfl); (· exact HX.out)) | ((with_reducible apply Y.add); (· rfl); (· rfl); (· exact HY.out)) | ((with_reducible apply Y.eql_b); (· exact hx0); (· rfl); (· rfl)) | ((with_reducible apply Y.eql_b); (· exact hy0); (· rfl); (· rfl)) | ((with_reducible apply Y.rem); (· rfl); (· rfl); (· decide); (· rfl)) | ((with_reducible apply Y.quo); (· rfl); (· rfl); (· decide); (· exact QX.out)) | ((with_reducible apply Y.quo); (· rfl); (· rfl); (· decide); (· exact QY.out)) | (first | exact yQ | exact yA | exact yB | exact yM | exact yV)); (· decide +kernel); (· decide +kernel); (· rfl); (· exact fun _ _ _ h => h); (· rfl))
    | ((with_reducible apply TA.takeN 3); (· rfl); (· decide +kernel); (· rfl); (· first | first | exact yQ | first | ((with_reducible apply Y.add); (· rfl); (· rfl); (· exact HX.out)) | ((with_reducible apply Y.add); (· rfl); (· rfl); (· exact HY.out)) | ((with_reducible apply Y.eql_b); (· exact hx0); (· rfl); (· rfl)) | ((with_reducible apply Y.eql_b); (· exact hy0); (· rfl); (· rfl)) | ((with_reducible apply Y.rem); (· rfl); (· rfl); (· decide); (· rfl)) | ((with_reducible apply Y.quo); (· rfl); (· rfl); (· decide); (· exact QX.out)) | ((with_reducible apply Y.quo); (· rfl); (· rfl); (· decide); (· exact QY.out)) | (first | exact yQ | exact yA | exact yB | exact yM | exact yV)); (· decide +kernel); (· decide +kernel); (· rfl); (· exact fun _ _ _ h => h); (· rfl))
    | ((with_reducible apply TA.take_gN 0); (· rfl); (· decide +kernel); (· rfl); (· rfl); (· rfl); (· (first | exact yQ | first | ((with_reducible apply Y.add); (· rfl); (· rfl); (· exact HX.out)) | ((with_reducible apply Y.add); (· rfl); (· rfl); (· exact HY.out)) | ((with_reducible apply Y.eql_b); (· exact hx0); (· rfl); (· rfl)) | ((with_reducible apply Y.eql_b); (· exact hy0); (· rfl); (· rfl)) | ((with_reducible apply Y.rem); (· rfl); (· rfl); (· decide); (· rfl)) | ((with_reducible apply Y.quo); (· rfl); (· rfl); (· decide); (· exact QX.out)) | ((with_reducible apply Y.quo); (· rfl); (· rfl); (· decide); (· exact QY.out)) | (first | exact yQ | exact yA | exact yB | exact yM | exact yV))); (· decide +kernel); (· decide +kernel); (· rfl); (· exact fun _ _ _ h => h); (· rfl))
    | ((with_reducible apply TA.take_gN 1); (· rfl); (· decide +kernel); (· rfl); (· rfl); (· rfl); (· (first | exact yQ | first | ((with_reducible apply Y.add); (· rfl); (· rfl); (· exact HX.out)) | ((with_reducible apply Y.add); (· rfl); (· rfl); (· exact HY.out)) | ((with_reducible apply Y.eql_b); (· exact hx0); (· rfl); (· rfl)) | ((with_reducible apply Y.eql_b); (· exact hy0); (· rfl); (· rfl)) | ((with_reducible apply Y.rem); (· rfl); (· rfl); (· decide); (· rfl)) | ((with_reducible apply Y.quo); (· rfl); (· rfl); (· decide); (· exact QX.out)) | ((with_reducible apply Y.quo); (· rfl); (· rfl); (· decide); (· exact QY.out)) | (first | exact yQ | exact yA | exact yB | exact yM | exact yV))); (· decide +kernel); (· decide +kernel); (· rfl); (· exact fun _ _ _ h => h); (· rfl))
    | ((with_reducible apply TA.take_gN 2); (· rfl); (· decide +kernel); (· rfl); (· rfl); (· rfl); (· (first | exact yQ | first | ((with_reducible apply Y.add); (· rfl); (· rfl); (· exact HX.out)) | ((with_reducible apply Y.add); (· rfl); (· rfl); (· exact HY.out)) | ((with_reducible apply Y.eql_b); (· exact hx0); (· rfl); (· rfl)) | ((with_reducible apply Y.eql_b); (· exact hy0); (· rfl); (· rfl)) | ((with_reducible apply Y.rem); (· rfl); (· rfl); (· decide); (· rfl)) | ((with_reducible apply Y.quo); (· rfl); (· rfl); (· decide); (· exact QX.out)) | ((with_reducible apply Y.quo); (· rfl); (· rfl); (· decide); (· exact QY.out)) | (first | exact yQ | exact yA | exact yB | exact yM | exact yV))); (· decide +kernel); (· decide +kernel); (· rfl); (· exact fun _ _ _ h => h); (· rfl))
    | ((with_reducible apply TA.take_gN 3); (· rfl); (· decide +kernel); (· rfl); (· rfl); (· rfl); (· (first | exact yQ | first | ((with_reducible apply Y.add); (· rfl); (· rfl); (· exact HX.out)) | ((with_reducible apply Y.add); (· rfl); (· rfl); (· exact HY.out)) | ((with_reducible apply Y.eql_b); (· exact hx0); (· rfl); (· rfl)) | ((with_reducible apply Y.eql_b); (· exact hy0); (· rfl); (· rfl)) | ((with_reducible apply Y.rem); (· rfl); (· rfl); (· decide); (· rfl)) | ((with_reducible apply Y.quo); (· rfl); (· rfl); (· decide); (· exact QX.out)) | ((with_reducible apply Y.quo); (· rfl); (· rfl); (· decide); (· exact QY.out)) | (first | exact yQ | exact yA | exact yB | exact yM | exact yV))); (· decide +kernel); (· decide +kernel); (· rfl); (· exact fun _ _ _ h => h); (· rfl))
    | refine wkX0 ?_
    | refine wkX1 ?_
    | refine wkX2 ?_
    | refine wkX3 ?_
    | ((with_reducible apply TA.oneN 0); (· rfl); (· rfl); (· decide +kernel); (· rfl))
    | ((with_reducible apply TA.oneN 1); (· rfl); (· rfl); (· decide +kernel); (· rfl))
    | ((with_reducible apply TA.oneN 2); (· rfl); (· rfl); (· decide +kernel); (· rfl))
    | ((with_reducible apply TA.oneN 3); (· rfl); (· rfl); (· decide +kernel); (· rfl))
    | refine TQ.any leF selF ?_
    | refine TC.region_any 28 (_) (by kernel_rfl) rfl selF ?_ | refine TA.done (by decide +kernel) ?_ | refine TQ.any_panic ?_
    | refine TC.region_any 38 (_) (by kernel_rfl) rfl selF ?_ | refine TA.done (by decide +kernel) ?_ | refine TQ.any_panic ?_)
        refine TQ.less hg02 ?_
        refine TQ.endR1 (L' := L) Tryz.results22 rvA rfl (.refl _) ?_ selF
        exact ⟨rfl, rfl, rfl⟩
      | true =>
        rw [zH] at INH hI
        repeat' (first
    | refine wkQ ?_
    | refine wkV ?_
    | ((with_reducible apply TL.gives_plain); (· kernel_rfl); (· rfl); (· exact INA _); (· rfl)) | ((with_reducible apply TW.gives_plain); (· kernel_rfl); (· rfl); (· exact INA _); (· rfl))
    | ((with_reducible apply TL.gives_plain); (· kernel_rfl); (· rfl); (· exact INB _); (· rfl)) | ((with_reducible apply TW.gives_plain); (· kernel_rfl); (· rfl); (· exact INB _); (· rfl))
    | ((with_reducible apply TL.gives_plain); (· kernel_rfl); (· rfl); (· exact INH _); (· rfl)) | ((with_reducible apply TW.gives_plain); (· kernel_rfl); (· rfl); (· exact INH _); (· rfl))
    | refine stS ?_ | (refine stB ?_; intro _) | (refine stC ?_; refine And.intro (fun _ => ?_) (fun _ => ?_))
    | ((with_reducible apply TA.takeN 0); (· rfl); (· decide +kernel); (· rfl); (· first | first | exact yQ | first | ((with_reducible apply Y.add); (· rfl); (· rfl); (· exact HX.out)) | ((with_reducible apply Y.add); (· rfl); (· rfl); (· exact HY.out)) | ((with_reducible apply Y.eql_b); (· exact hx0); (· rfl); (· rfl)) | ((with_reducible apply Y.eql_b); (· exact hy0); (· rfl); (· rfl)) | ((with_reducible apply Y.rem); (· rfl); (· rfl); (· decide); (· rfl)) | ((with_reducible apply Y.quo); (· rfl); (· rfl); (· decide); (· exact QX.out)) | ((with_reducible apply Y.quo); (· rfl); (· rfl); (· decide); (· exact QY.out)) | (first | exact yQ | exact yA | exact yB | exact yM | exact yV)); (· decide +kernel); (· decide +kernel); (· rfl); (· exact fun _ _ _ h => h); (· rfl))
    | ((with_reducible apply TA.takeN 1); (· rfl); (· decide +kernel); (· rfl); (· first | first | exact yQ | first | ((with_reducible apply Y.add); (· rfl); (· rfl); (· exact HX.out)) | ((with_reducible apply Y.add); (· rfl); (· rfl); (· exact HY.out)) | ((with_reducible apply Y.eql_b); (· exact hx0); (· rfl); (· rfl)) | ((with_reducible apply Y.eql_b); (· exact hy0); (· rfl); (· rfl)) | ((with_reducible apply Y.rem); (· rfl); (· rfl); (· decide); (· rfl)) | ((with_reducible apply Y.quo); (· rfl); (· rfl); (· decide); (· exact QX.out)) | ((with_reducible apply Y.quo); (· rfl); (· rfl); (· decide); (· exact QY.out)) | (first | exact yQ | exact yA | exact yB | exact yM | exact yV)); (· decide +kernel); (· decide +kernel); (· rfl); (· exact fun _ _ _ h => h); (· rfl))
    | ((with_reducible apply TA.takeN 2); (· rfl); (· decide +kernel); (· rfl); (· first | first | exact yQ | first | ((with_reducible apply Y.add); (· rfl); (· rfl); (· exact HX.out)) | ((with_reducible apply Y.add); (· rfl); (· rfl); (· exact HY.out)) | ((with_reducible apply Y.eql_b); (· exact hx0); (· rfl); (· rfl)) | ((with_reducible apply Y.eql_b); (· exact hy0); (· rfl); (· rfl)) | ((with_reducible apply Y.rem); (· rfl); (· rfl); (· decide); (· rfl)) | ((with_reducible apply Y.quo); (· rfl); (· rfl); (· decide); (· exact QX.out)) | ((with_reducible apply Y.quo); (· rfl); (· rfl); (· decide); (· exact QY.out)) | (first | exact yQ | exact yA | exact yB | exact yM | exact yV)); (· decide +kernel); (· decide +kernel); (· rfl); (· exact fun _ _ _ h => h); (· rfl))
    | ((with_reducible apply TA.takeN 3); (· rfl); (· decide +kernel); (· rfl); (· first | first | exact yQ | first | ((with_reducible apply Y.add); (· rfl); (· rfl); (· exact HX.out)) | ((with_reducible apply Y.add); (· rfl); (· rfl); (· exact HY.out)) | ((with_reducible apply Y.eql_b); (· exact hx0); (· rfl); (· rfl)) | ((with_reducible apply Y.eql_b); (· exact hy0); (· rfl); (· rfl)) | ((with_reducible apply Y.rem); (· rfl); (· rfl); (· decide); (· rfl)) | ((with_reducible apply Y.quo); (· rfl); (· rfl); (· decide); (· exact QX.out)) | ((with_reducible apply Y.quo); (· rfl); (· rfl); (· decide); (· exact QY.out)) | (first | exact yQ | exact yA | exact yB | exact yM | exact yV)); (· decide +kernel); (· decide +kernel); (· rfl); (· exact fun _ _ _ h => h); (· rfl))
    | ((with_reducible apply TA.take_gN 0); (· rfl); (· decide +kernel); (· rfl); (· rfl); (· rfl); (· (first | exact yQ | first | ((with_reducible apply Y.add); (· rfl); (· rfl); (· exact HX.out)) | ((with_reducible apply Y.add); (· rfl); (· rfl); (· exact HY.out)) | ((with_reducible apply Y.eql_b); (· exact hx0); (· rfl); (· rfl)) | ((with_reducible apply Y.eql_b); (· exact hy0); (· rfl); (· rfl)) | ((with_reducible apply Y.rem); (· rfl); (· rfl); (· decide); (· rfl)) | ((with_reducible apply Y.quo); (· rfl); (· rfl); (· decide); (· exact QX.out)) | ((with_reducible apply Y.quo); (· rfl); (· rfl); (· decide); (· exact QY.out)) | (first | exact yQ | exact yA | exact yB | exact yM | exact yV))); (· decide +kernel); (· decide +kernel); (· rfl); (· exact fun _ _ _ h => h); (· rfl))
    | ((with_reducible apply TA.take_gN 1); (· rfl); (· decide +kernel); (· rfl); (· rfl); (· rfl); (· (first | exact yQ | first | ((with_reducible apply Y.add); (· rfl); (· rfl); (· exact HX.out)) | ((with_reducible apply Y.add); (· rfl); (· rfl); (· exact HY.out)) | ((with_reducible apply Y.eql_b); (· exact hx0); (· rfl); (· rfl)) | ((with_reducible apply Y.eql_b); (· exact hy0); (· rfl); (· rfl)) | ((with_reducible apply Y.rem); (· rfl); (· rfl); (· decide); (· rfl)) | ((with_reducible apply Y.quo); (· rfl); (· rfl); (· decide); (· exact QX.out)) | ((with_reducible apply Y.quo); (· rfl); (· rfl); (· decide); (· exact QY.out)) | (first | exact yQ | exact yA | exact yB | exact yM | exact yV))); (· decide +kernel); (· decide +kernel); (· rfl); (· exact fun _ _ _ h => h); (· rfl))
    | ((with_reducible apply TA.take_gN 2); (· rfl); (· decide +kernel); (· rfl); (· rfl); (· rfl); (· (first | exact yQ | first | ((with_reducible apply Y.add); (· rfl); (· rfl); (· exact HX.out)) | ((with_reducible apply Y.add); (· rfl); (· rfl); (· exact HY.out)) | ((with_reducible apply Y.eql_b); (· exact hx0); (· rfl); (· rfl)) | ((with_reducible apply Y.eql_b); (· exact hy0); (· rfl); (· rfl)) | ((with_reducible apply Y.rem); (· rfl); (· rfl); (· decide); (· rfl)) | ((with_reducible apply Y.quo); (· rfl); (· rfl); (· decide); (· exact QX.out)) | ((with_reducible apply Y.quo); (· rfl); (· rfl); (· decide); (· exact QY.out)) | (first | exact yQ | exact yA | exact yB | exact yM | exact yV))); (· decide +kernel); (· decide +kernel); (· rfl); (· exact fun _ _ _ h => h); (· rfl))
    | ((with_reducible apply TA.take_gN 3); (· rfl); (· decide +kernel); (· rfl); (· rfl); (· rfl); (· (first | exact yQ | first | ((with_reducible apply Y.add); (· rfl); (· rfl); (· exact HX.out)) | ((with_reducible apply Y.add); (· rfl); (· rfl); (· exact HY.out)) | ((with_reducible apply Y.eql_b); (· exact hx0); (· rfl); (· rfl)) | ((with_reducible apply Y.eql_b); (· exact hy0); (· rfl); (· rfl)) | ((with_reducible apply Y.rem); (· rfl); (· rfl); (· decide); (· rfl)) | ((with_reducible apply Y.quo); (· rfl); (· rfl); (· decide); (· exact QX.out)) | ((with_reducible apply Y.quo); (· rfl); (· rfl); (· decide); (· exact QY.out)) | (first | exact yQ | exact yA | exact yB | exact yM | exact yV))); (· decide +kernel); (· decide +kernel); (· rfl); (· exact fun _ _ _ h => h); (· rfl))
    | refine wkX0 ?_
    | refine wkX1 ?_
    | refine wkX2 ?_
    | refine wkX3 ?_
    | ((with_reducible apply TA.oneN 0); (· rfl); (· rfl); (· decide +kernel); (· rfl))
    | ((with_reducible apply TA.oneN 1); (· rfl); (· rfl); (· decide +kernel); (· rfl))
    | ((with_reducible apply TA.oneN 2); (· rfl); (· rfl); (· decide +kernel); (· rfl))
    | ((with_reducible apply TA.oneN 3); (· rfl); (· rfl); (· decide +kernel); (· rfl))
    | refine TQ.any leF selF ?_
    | refine TC.region_any 28 (_) (by kernel_rfl) rfl selF ?_ | refine TA.done (by decide +kernel) ?_ | refine TQ.any_panic ?_
    | refine TC.region_any 38 (_) (by kernel_rfl) rfl selF ?_ | refine TA.done (by decide +kernel) ?_ | refine TQ.any_panic ?_)
        refine TQ.cut () ?_ rfl subA selF
        rw [← hI]; simp
    · rintro _ hI2
      try dsimp only
      clear hI INA INB HIN HX HY QX QY hs0 hs1 hs2 hs3 hX hY
      have hC := HC.out
      repeat' (first
    | refine wkQ ?_
    | refine wkV ?_
    | refine stS ?_ | (refine stB ?_; intro _) | (refine stC ?_; refine And.intro (fun _ => ?_) (fun _ => ?_)))
      refine TC.loopK (fun j : Nat => j ≤ fs.length ∧ (!((fs.drop j).any (fun y => crossB x.1 x.2 y.1 y.2) || B)) = R) (fun j => fs.length - j) (fun j _ => [(10, .int .i64 (j : Nat)), (7, .int .i64 (i : Nat)), (6, .slice a2 fs.length c2), (5, .slice (some ⟨b5, o5, none⟩) es.length c1), (3, .pointer (some ⟨b3, 0, none⟩)), (2, .pointer (some ⟨b2, 0, none⟩))]) [] .nil (fun _ L => L) 0 ⟨Nat.zero_le _, by rw [List.drop_zero, ← hC]; exact hI2⟩ subA selF ?_
      clear hI2 hC HC
      rintro j ⟨hj, hJ⟩
      try dsimp only at hj hJ ⊢
      by_cases hlt2 : j < fs.length
      · obtain ⟨y, hy⟩ : ∃ y, fs[j]? = some y := ⟨_, List.getElem?_eq_getElem hlt2⟩
        obtain ⟨b6, o6, rfl, hg6⟩ := K2.out.elem hlt2 (by decide)
        have hld2 := ed_cells hg6 (flatE_get hy).1 (flatE_get hy).2.1 (flatE_get hy).2.2.1 (flatE_get hy).2.2.2
        obtain ⟨hq0, hq1⟩ := ed_part hld2
        have hl2 : (ptC y.1).length = 2 := rfl
        have hl3 : (ptC y.2).length = 2 := rfl
        obtain ⟨my1, my2⟩ := me2 y (List.mem_of_getElem? hy)
        have CR := fun L => rCross8_gives x.1 x.2 y.1 y.2 g2 L mx1 mx2 my1 my2
        rw [any_drop hy] at hJ
        clear hld2 hg6 hx hy me2 K1 K2 HB
        generalize crossB x.1 x.2 y.1 y.2 = z at *
        cases z with
        | true =>
          obtain rfl : false = R := by rw [← hJ]; simp
          repeat' (first
    | refine wkQ ?_
    | refine wkV ?_
    | ((with_reducible apply TL.gives_plain); (· kernel_rfl); (· rfl); (· exact CR _); (· rfl)) | ((with_reducible apply TW.gives_plain); (· kernel_rfl); (· rfl); (· exact CR _); (· rfl))
    | refine stS ?_ | (refine stB ?_; intro _) | (refine stC ?_; refine And.intro (fun _ => ?_) (fun _ => ?_))
    | refine wkN0 ?_
    | refine wkN1 ?_
    | refine wkN2 ?_
    | refine wkN3 ?_
    | refine wkG0 ?_
    | refine wkG1 ?_
    | refine wkG2 ?_
    | refine wkG3 ?_
    | refine wkX0 ?_
    | refine wkX1 ?_
    | refine wkX2 ?_
    | refine wkX3 ?_
    | refine wkN0 ?_
    | refine wkN1 ?_
    | refine wkN2 ?_
    | refine wkN3 ?_
    | ((with_reducible apply TA.oneN 0); (· rfl); (· rfl); (· decide +kernel); (· rfl))
    | ((with_reducible apply TA.oneN 1); (· rfl); (· rfl); (· decide +kernel); (· rfl))
    | ((with_reducible apply TA.oneN 2); (· rfl); (· rfl); (· decide +kernel); (· rfl))
    | ((with_reducible apply TA.oneN 3); (· rfl); (· rfl); (· decide +kernel); (· rfl))
    | refine TQ.any leF selF ?_
    | refine TC.region_any 21 (_) (by kernel_rfl) rfl selF ?_ | refine TA.done (by decide +kernel) ?_ | refine TQ.any_panic ?_)
          refine TQ.less hg02 ?_
          refine TQ.endR1 (L' := L) Tryz.results22 rvA rfl (.refl _) ?_ selF
          exact ⟨rfl, rfl, rfl⟩
        | false =>
          rw [Bool.false_or] at hJ
          repeat' (first
    | refine wkQ ?_
    | refine wkV ?_
    | ((with_reducible apply TL.gives_plain); (· kernel_rfl); (· rfl); (· exact CR _); (· rfl)) | ((with_reducible apply TW.gives_plain); (· kernel_rfl); (· rfl); (· exact CR _); (· rfl))
    | refine stS ?_ | (refine stB ?_; intro _) | (refine stC ?_; refine And.intro (fun _ => ?_) (fun _ => ?_))
    | refine wkN0 ?_
    | refine wkN1 ?_
    | refine wkN2 ?_
    | refine wkN3 ?_
    | refine wkG0 ?_
    | refine wkG1 ?_
    | refine wkG2 ?_
    | refine wkG3 ?_
    | refine wkX0 ?_
    | refine wkX1 ?_
    | refine wkX2 ?_
    | refine wkX3 ?_
    | refine wkN0 ?_
    | refine wkN1 ?_
    | refine wkN2 ?_
    | refine wkN3 ?_
    | ((with_reducible apply TA.oneN 0); (· rfl); (· rfl); (· decide +kernel); (· rfl))
    | ((with_reducible apply TA.oneN 1); (· rfl); (· rfl); (· decide +kernel); (· rfl))
    | ((with_reducible apply TA.oneN 2); (· rfl); (· rfl); (· decide +kernel); (· rfl))
    | ((with_reducible apply TA.oneN 3); (· rfl); (· rfl); (· decide +kernel); (· rfl))
    | refine TQ.any leF selF ?_
    | refine TC.region_any 21 (_) (by kernel_rfl) rfl selF ?_ | refine TA.done (by decide +kernel) ?_ | refine TQ.any_panic ?_)
          refine TQ.round (j + 1) ?_ ?_ rfl subA selF
          · exact ⟨by omega, hJ⟩
          · show fs.length - (j + 1) < fs.length - j
            omega
      · obtain rfl : j = fs.length := by omega
        rw [List.drop_length, List.any_nil, Bool.false_or] at hJ
        clear K1 K2
        repeat' (first
    | refine wkQ ?_
    | refine wkV ?_
    | refine stS ?_ | (refine stB ?_; intro _) | (refine stC ?_; refine And.intro (fun _ => ?_) (fun _ => ?_)))
        refine TQ.round (i + 1) ?_ ?_ rfl subA selF
        · exact ⟨by omega, by rw [← HB.out]; exact hJ⟩
        · show es.length - (i + 1) < es.length - i
          omega
  · obtain rfl : i = es.length := by omega
    rw [List.drop_length] at hI
    obtain rfl : true = R := hI
    clear K1 K2 me1 me2 IN
    repeat' (first
    | refine wkQ ?_
    | refine wkV ?_
    | refine stS ?_ | (refine stB ?_; intro _) | (refine stC ?_; refine And.intro (fun _ => ?_) (fun _ => ?_)))
    refine TQ.less hg02 ?_
    refine TQ.endR1 (L' := L) Tryz.results22 rvA rfl (.refl _) ?_ selF
    exact ⟨rfl, rfl, rfl⟩
end Go.Proofs.YtfanccddokckcaaGreatDoor
