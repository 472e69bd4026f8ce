/-
  The walks of an edge's halfway, of what Within asks of points.
-/
import Derived.Test.YtklmfbildebimaaGreatDoorSx2
import Derived.Test.YtklmfbildebimaaGreatDoorSx34
namespace Go.Proofs.YtklmfbildebimaaGreatDoor
open Go.RowKit Go.TL
set_option maxRecDepth 100000

def halfP (e : Pt × Pt) : Pt := ((e.1.1 + e.2.1).tdiv 2, (e.1.2 + e.2.2).tdiv 2)
def halfB (e : Pt × Pt) : Bool := decide ((e.1.1 + e.2.1).tmod 2 = 0) && decide ((e.1.2 + e.2.2).tmod 2 = 0)
theorem mayB_bd {p : Pt} (h : mayB p = true) : -1800000000 ≤ p.1 ∧ p.1 ≤ 1800000000 ∧ -900000000 ≤ p.2 ∧ p.2 ≤ 900000000 := by
  unfold mayB inB at h
  simp only [Bool.and_eq_true, decide_eq_true_eq] at h
  omega
theorem tdiv2_bd (x : Int) (_h : -4000000000 ≤ x ∧ x ≤ 4000000000) : -4000000000 ≤ x.tdiv 2 ∧ x.tdiv 2 ≤ 4000000000 := by
  by_cases hx : 0 ≤ x
  · rw [Int.tdiv_eq_ediv_of_nonneg hx]; omega
  · have h1 := Int.neg_tdiv (-x) 2
    rw [Int.neg_neg, Int.tdiv_eq_ediv_of_nonneg (show 0 ≤ -x by omega)] at h1
    omega
set_option maxHeartbeats 8000000 in
theorem shalf_gives (e : Pt × Pt) (g : Gh) (L : List Ent) (ha : mayB e.1 = true) (hb : mayB e.2 = true) : Gives Tryz.prog 44 #[edV e] g L (.tuple #[pt (halfP e), .bool (halfB e)]) := by
  refine .of (Does.of1 Tryz.func44 rfl Tryz.ntmps44 rfl ?_)
  have h1 := mayB_bd ha
  have h2 := mayB_bd hb
  obtain ⟨⟨a, b⟩, ⟨c, d⟩⟩ := e
  clear ha hb
  dsimp only at h1 h2
  unfold halfP halfB
  dsimp only
  obtain ⟨x, hx⟩ : ∃ x, x = a + c := ⟨_, rfl⟩
  obtain ⟨y, hy⟩ : ∃ y, y = b + d := ⟨_, rfl⟩
  have HX := Hn.mk (show IntKind.i64.wrap (a + c) = x by rw [IntWalk.i64_in _ (by omega), hx])
  have HY := Hn.mk (show IntKind.i64.wrap (b + d) = y by rw [IntWalk.i64_in _ (by omega), hy])
  have hxb : -3600000000 ≤ x ∧ x ≤ 3600000000 := by omega
  have hyb : -1800000000 ≤ y ∧ y ≤ 1800000000 := by omega
  rw [← hx, ← hy]
  clear hx hy h1 h2
  have QX := Hn.mk (show IntKind.i64.wrap (x.tdiv 2) = x.tdiv 2 by have := tdiv2_bd x (by omega); rw [IntWalk.i64_in _ (by omega)])
  have QY := Hn.mk (show IntKind.i64.wrap (y.tdiv 2) = y.tdiv 2 by have := tdiv2_bd y (by omega); rw [IntWalk.i64_in _ (by omega)])
  cases bx : decide (x.tmod 2 = 0) with
  | false =>
    repeat' (first
    | refine wkQ ?_
    | ((with_reducible apply TL.pure (d := 21) (v := .int .i64 (x.tdiv 2))); (· exact Y.quo rfl rfl (by decide) QX.out); (· rfl)) | ((with_reducible apply TW.pure (d := 21) (v := .int .i64 (x.tdiv 2))); (· exact Y.quo rfl rfl (by decide) QX.out); (· rfl))
    | ((with_reducible apply TL.pure (d := 23) (v := .int .i64 (y.tdiv 2))); (· exact Y.quo rfl rfl (by decide) QY.out); (· rfl)) | ((with_reducible apply TW.pure (d := 23) (v := .int .i64 (y.tdiv 2))); (· exact Y.quo rfl rfl (by decide) QY.out); (· rfl))
    | ((with_reducible apply TL.pure (d := 26) (v := .int .i64 (x.tmod 2))); (· exact Y.rem rfl rfl (by decide) rfl); (· rfl)) | ((with_reducible apply TW.pure (d := 26) (v := .int .i64 (x.tmod 2))); (· exact Y.rem rfl rfl (by decide) rfl); (· rfl))
    | ((with_reducible apply TL.pure (d := 27) (v := .bool false)); (· exact Y.eql_b bx rfl rfl); (· rfl)) | ((with_reducible apply TW.pure (d := 27) (v := .bool false)); (· exact Y.eql_b bx rfl rfl); (· rfl))
    | refine wkV ?_
    | refine stS ?_ | (refine stB ?_; intro _) | (refine stC ?_; refine And.intro (fun _ => ?_) (fun _ => ?_))
    | ((with_reducible apply TA.takeN 0); (· rfl); (· decide +kernel); (· rfl); (· first | first | exact Y.add rfl rfl HX.out | exact Y.add rfl rfl HY.out | (first | exact yQ | exact yA | exact yB | exact yM | exact yV)); (· decide +kernel); (· decide +kernel); (· rfl); (· exact fun _ _ _ h => h); (· rfl))
    | ((with_reducible apply TA.takeN 1); (· rfl); (· decide +kernel); (· rfl); (· first | first | exact Y.add rfl rfl HX.out | exact Y.add rfl rfl HY.out | (first | exact yQ | exact yA | exact yB | exact yM | exact yV)); (· decide +kernel); (· decide +kernel); (· rfl); (· exact fun _ _ _ h => h); (· rfl))
    | ((with_reducible apply TA.takeN 2); (· rfl); (· decide +kernel); (· rfl); (· first | first | exact Y.add rfl rfl HX.out | exact Y.add rfl rfl HY.out | (first | exact yQ | exact yA | exact yB | exact yM | exact yV)); (· decide +kernel); (· decide +kernel); (· rfl); (· exact fun _ _ _ h => h); (· rfl))
    | ((with_reducible apply TA.takeN 3); (· rfl); (· decide +kernel); (· rfl); (· first | first | exact Y.add rfl rfl HX.out | exact Y.add rfl rfl HY.out | (first | exact yQ | exact yA | exact yB | exact yM | exact yV)); (· decide +kernel); (· decide +kernel); (· rfl); (· exact fun _ _ _ h => h); (· rfl))
    | ((with_reducible apply TA.take_gN 0); (· rfl); (· decide +kernel); (· rfl); (· rfl); (· rfl); (· (first | first | exact Y.add rfl rfl HX.out | exact Y.add rfl rfl HY.out | (first | exact yQ | exact yA | exact yB | exact yM | exact yV))); (· decide +kernel); (· decide +kernel); (· rfl); (· exact fun _ _ _ h => h); (· rfl))
    | ((with_reducible apply TA.take_gN 1); (· rfl); (· decide +kernel); (· rfl); (· rfl); (· rfl); (· (first | first | exact Y.add rfl rfl HX.out | exact Y.add rfl rfl HY.out | (first | exact yQ | exact yA | exact yB | exact yM | exact yV))); (· decide +kernel); (· decide +kernel); (· rfl); (· exact fun _ _ _ h => h); (· rfl))
    | ((with_reducible apply TA.take_gN 2); (· rfl); (· decide +kernel); (· rfl); (· rfl); (· rfl); (· (first | first | exact Y.add rfl rfl HX.out | exact Y.add rfl rfl HY.out | (first | exact yQ | exact yA | exact yB | exact yM | exact yV))); (· decide +kernel); (· decide +kernel); (· rfl); (· exact fun _ _ _ h => h); (· rfl))
    | ((with_reducible apply TA.take_gN 3); (· rfl); (· decide +kernel); (· rfl); (· rfl); (· rfl); (· (first | first | exact Y.add rfl rfl HX.out | exact Y.add rfl rfl HY.out | (first | exact yQ | exact yA | exact yB | exact yM | exact yV))); (· decide +kernel); (· decide +kernel); (· rfl); (· exact fun _ _ _ h => h); (· rfl))
    | refine wkX0 ?_
    | refine wkX1 ?_
    | refine wkX2 ?_
    | refine wkX3 ?_
    | ((with_reducible apply TA.oneN 0); (· rfl); (· rfl); (· decide +kernel); (· rfl))
    | ((with_reducible apply TA.oneN 1); (· rfl); (· rfl); (· decide +kernel); (· rfl))
    | ((with_reducible apply TA.oneN 2); (· rfl); (· rfl); (· decide +kernel); (· rfl))
    | ((with_reducible apply TA.oneN 3); (· rfl); (· rfl); (· decide +kernel); (· rfl))
    | refine TQ.any leF selF ?_
    | refine TC.region_any 16 (_) (by kernel_rfl) rfl selF ?_ | refine TA.done (by decide +kernel) ?_ | refine TQ.any_panic ?_)
    refine TQ.endR2 (L' := L) Tryz.results44 rvA rvA rfl (.refl _) ?_ selF
    exact ⟨rfl, rfl, rfl⟩
  | true =>
    repeat' (first
    | refine wkQ ?_
    | ((with_reducible apply TL.pure (d := 21) (v := .int .i64 (x.tdiv 2))); (· exact Y.quo rfl rfl (by decide) QX.out); (· rfl)) | ((with_reducible apply TW.pure (d := 21) (v := .int .i64 (x.tdiv 2))); (· exact Y.quo rfl rfl (by decide) QX.out); (· rfl))
    | ((with_reducible apply TL.pure (d := 23) (v := .int .i64 (y.tdiv 2))); (· exact Y.quo rfl rfl (by decide) QY.out); (· rfl)) | ((with_reducible apply TW.pure (d := 23) (v := .int .i64 (y.tdiv 2))); (· exact Y.quo rfl rfl (by decide) QY.out); (· rfl))
    | ((with_reducible apply TL.pure (d := 26) (v := .int .i64 (x.tmod 2))); (· exact Y.rem rfl rfl (by decide) rfl); (· rfl)) | ((with_reducible apply TW.pure (d := 26) (v := .int .i64 (x.tmod 2))); (· exact Y.rem rfl rfl (by decide) rfl); (· rfl))
    | ((with_reducible apply TL.pure (d := 27) (v := .bool true)); (· exact Y.eql_b bx rfl rfl); (· rfl)) | ((with_reducible apply TW.pure (d := 27) (v := .bool true)); (· exact Y.eql_b bx rfl rfl); (· rfl))
    | ((with_reducible apply TL.pure (d := 30) (v := .int .i64 (y.tmod 2))); (· exact Y.rem rfl rfl (by decide) rfl); (· rfl)) | ((with_reducible apply TW.pure (d := 30) (v := .int .i64 (y.tmod 2))); (· exact Y.rem rfl rfl (by decide) rfl); (· rfl))
    | refine wkV ?_
    | refine stS ?_ | (refine stB ?_; intro _) | (refine stC ?_; refine And.intro (fun _ => ?_) (fun _ => ?_))
    | ((with_reducible apply TA.takeN 0); (· rfl); (· decide +kernel); (· rfl); (· first | first | exact Y.add rfl rfl HX.out | exact Y.add rfl rfl HY.out | (first | exact yQ | exact yA | exact yB | exact yM | exact yV)); (· decide +kernel); (· decide +kernel); (· rfl); (· exact fun _ _ _ h => h); (· rfl))
    | ((with_reducible apply TA.takeN 1); (· rfl); (· decide +kernel); (· rfl); (· first | first | exact Y.add rfl rfl HX.out | exact Y.add rfl rfl HY.out | (first | exact yQ | exact yA | exact yB | exact yM | exact yV)); (· decide +kernel); (· decide +kernel); (· rfl); (· exact fun _ _ _ h => h); (· rfl))
    | ((with_reducible apply TA.takeN 2); (· rfl); (· decide +kernel); (· rfl); (· first | first | exact Y.add rfl rfl HX.out | exact Y.add rfl rfl HY.out | (first | exact yQ | exact yA | exact yB | exact yM | exact yV)); (· decide +kernel); (· decide +kernel); (· rfl); (· exact fun _ _ _ h => h); (· rfl))
    | ((with_reducible apply TA.takeN 3); (· rfl); (· decide +kernel); (· rfl); (· first | first | exact Y.add rfl rfl HX.out | exact Y.add rfl rfl HY.out | (first | exact yQ | exact yA | exact yB | exact yM | exact yV)); (· decide +kernel); (· decide +kernel); (· rfl); (· exact fun _ _ _ h => h); (· rfl))
    | ((with_reducible apply TA.take_gN 0); (· rfl); (· decide +kernel); (· rfl); (· rfl); (· rfl); (· (first | first | exact Y.add rfl rfl HX.out | exact Y.add rfl rfl HY.out | (first | exact yQ | exact yA | exact yB | exact yM | exact yV))); (· decide +kernel); (· decide +kernel); (· rfl); (· exact fun _ _ _ h => h); (· rfl))
    | ((with_reducible apply TA.take_gN 1); (· rfl); (· decide +kernel); (· rfl); (· rfl); (· rfl); (· (first | first | exact Y.add rfl rfl HX.out | exact Y.add rfl rfl HY.out | (first | exact yQ | exact yA | exact yB | exact yM | exact yV))); (· decide +kernel); (· decide +kernel); (· rfl); (· exact fun _ _ _ h => h); (· rfl))
    | ((with_reducible apply TA.take_gN 2); (· rfl); (· decide +kernel); (· rfl); (· rfl); (· rfl); (· (first | first | exact Y.add rfl rfl HX.out | exact Y.add rfl rfl HY.out | (first | exact yQ | exact yA | exact yB | exact yM | exact yV))); (· decide +kernel); (· decide +kernel); (· rfl); (· exact fun _ _ _ h => h); (· rfl))
    | ((with_reducible apply TA.take_gN 3); (· rfl); (· decide +kernel); (· rfl); (· rfl); (· rfl); (· (first | first | exact Y.add rfl rfl HX.out | exact Y.add rfl rfl HY.out | (first | exact yQ | exact yA | exact yB | exact yM | exact yV))); (· decide +kernel); (· decide +kernel); (· rfl); (· exact fun _ _ _ h => h); (· rfl))
    | refine wkX0 ?_
    | refine wkX1 ?_
    | refine wkX2 ?_
    | refine wkX3 ?_
    | ((with_reducible apply TA.oneN 0); (· rfl); (· rfl); (· decide +kernel); (· rfl))
    | ((with_reducible apply TA.oneN 1); (· rfl); (· rfl); (· decide +kernel); (· rfl))
    | ((with_reducible apply TA.oneN 2); (· rfl); (· rfl); (· decide +kernel); (· rfl))
    | ((with_reducible apply TA.oneN 3); (· rfl); (· rfl); (· decide +kernel); (· rfl))
    | refine TQ.any leF selF ?_
    | refine TC.region_any 16 (_) (by kernel_rfl) rfl selF ?_ | refine TA.done (by decide +kernel) ?_ | refine TQ.any_panic ?_)
    refine TQ.endR2 (L' := L) Tryz.results44 rvA rvA rfl (.refl _) ?_ selF
    exact ⟨rfl, rfl, rfl⟩
theorem swithinOne_gives (m : Int) (ts : List (List Pt)) (u : Value) (p : Pt) (b : Nat) (g : Gh) (L : List Ent) (hT : IsParts g u ts) (hU : ShOk ts) (_hc : ∀ i w, [Value.int .i64 m, u][i]? = some w → g.cell b (0 + i) = some w) : Gives Tryz.prog 42 #[pt p, .pointer (some ⟨b, 0, none⟩)] g L (.bool (!inSh m ts p)) := by
  have IN := fun L => sin_gives m ts u p g L hT hU
  have hll : [Value.int .i64 m, u].length = 2 := rfl
  refine .of (Does.of2 Tryz.func42 rfl Tryz.ntmps42 rfl ?_)
  clear hT hU
  repeat' (first
    | refine wkQ ?_
    | refine wkV ?_
    | ((with_reducible apply TL.gives_plain); (· kernel_rfl); (· rfl); (· exact IN _); (· rfl)) | ((with_reducible apply TW.gives_plain); (· kernel_rfl); (· rfl); (· exact IN _); (· rfl))
    | refine stS ?_ | (refine stB ?_; intro _) | (refine stC ?_; refine And.intro (fun _ => ?_) (fun _ => ?_)))
  refine TQ.endR1 (L' := L) Tryz.results42 rvA rfl (.refl _) ?_ selF
  exact ⟨rfl, rfl, rfl⟩
end Go.Proofs.YtklmfbildebimaaGreatDoor
