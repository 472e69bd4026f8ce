/-
  The walks of geom.On, Meet, Cross; MayRect, Holds, Overlap, Join.
-/
import Derived.Test.YtgollffmdpejiaaGreatDoorQz3
import Derived.Test.YtgollffmdpejiaaGreatDoorQz10
namespace Go.Proofs.YtgollffmdpejiaaGreatDoor
open Go.RowKit Go.TL
set_option maxRecDepth 100000

abbrev ptC (p : Pt) : List Value := [.int .i64 p.1, .int .i64 p.2]
theorem and3 {a b c : Bool} (_h : (a && (b && (c && true))) = true) : a = true ∧ b = true ∧ c = true := by
  cases a <;> cases b <;> cases c <;> simp_all
theorem and4 {a b c d : Bool} (_h : (a && (b && (c && (d && true)))) = true) : a = true ∧ b = true ∧ c = true ∧ d = true := by
  cases a <;> cases b <;> cases c <;> cases d <;> simp_all
set_option maxHeartbeats 4000000 in
theorem On_gives (a b c : Pt) (g : Gh) (L : List Ent) : Gives Tryz.prog 259 #[pt a, pt b, pt c] g L (.bool ([a, b, c].all mayB && onB a b c)) := by
  refine .of (Does.of3 Tryz.func259 rfl Tryz.ntmps259 rfl ?_)
  have AL := fun (g2 : Gh) (bb : Nat) (hs : Sl g2 (.slice (some ⟨bb, 0, none⟩) 3 3) 3 2 [ptC a, ptC b, ptC c].flatten) L => all_gives [a, b, c] (.slice (some ⟨bb, 0, none⟩) 3 3) g2 L hs (by simp)
  have ON := fun (h : [a, b, c].all mayB = true) (g2 : Gh) L => on_gives a b c g2 L (and3 h).1 (and3 h).2.1 (and3 h).2.2
  cases hal : [a, b, c].all mayB with
  | false =>
    rw [hal] at AL
    clear ON
    repeat' (first
    | refine wkQ ?_
    | refine wkV ?_
    | (refine TL.build_rows (d := 10) (len := 3) (sz := 2) [ptC a, ptC b, ptC c] (by rfl) (by rfl) (by rfl) (by rfl) (by rfl) (by rfl) (by rfl) (by rfl) (fun bb => ?_); refine TL.freeze_obj (k := 3) bb 2 .here rfl (by decide) ?_; rintro g1 h1 s1)
    | refine stS ?_ | (refine stB ?_; intro _) | (refine stC ?_; constructor <;> intro _))
    have Q := AL g1 _ s1
    repeat' (first
    | refine wkQ ?_
    | refine wkV ?_
    | refine wkD (Q _) ?_
    | refine stS ?_ | (refine stB ?_; intro _) | (refine stC ?_; constructor <;> intro _))
    refine TQ.less h1 ?_
    refine TQ.endR1 (L' := L) Tryz.results259 rvA rfl (.refl _) ?_ selF
    exact ⟨rfl, rfl, rfl⟩
  | true =>
    have ON := ON hal
    rw [hal] at AL
    repeat' (first
    | refine wkQ ?_
    | refine wkV ?_
    | (refine TL.build_rows (d := 10) (len := 3) (sz := 2) [ptC a, ptC b, ptC c] (by rfl) (by rfl) (by rfl) (by rfl) (by rfl) (by rfl) (by rfl) (by rfl) (fun bb => ?_); refine TL.freeze_obj (k := 3) bb 2 .here rfl (by decide) ?_; rintro g1 h1 s1)
    | refine stS ?_ | (refine stB ?_; intro _) | (refine stC ?_; constructor <;> intro _))
    have Q := AL g1 _ s1
    have Q2 := ON g1
    repeat' (first
    | refine wkQ ?_
    | refine wkV ?_
    | refine wkD (Q _) ?_
    | refine wkD (Q2 _) ?_
    | refine stS ?_ | (refine stB ?_; intro _) | (refine stC ?_; constructor <;> intro _))
    refine TQ.less h1 ?_
    refine TQ.endR1 (L' := L) Tryz.results259 rvA rfl (.refl _) ?_ selF
    exact ⟨rfl, rfl, rfl⟩
set_option maxHeartbeats 4000000 in
theorem Meet_gives (a b c d : Pt) (g : Gh) (L : List Ent) : Gives Tryz.prog 224 #[pt a, pt b, pt c, pt d] g L (.bool ([a, b, c, d].all mayB && meetB a b c d)) := by
  refine .of (Does.of4 Tryz.func224 rfl Tryz.ntmps224 rfl ?_)
  have AL := fun (g2 : Gh) (bb : Nat) (hs : Sl g2 (.slice (some ⟨bb, 0, none⟩) 4 4) 4 2 [ptC a, ptC b, ptC c, ptC d].flatten) L => all_gives [a, b, c, d] (.slice (some ⟨bb, 0, none⟩) 4 4) g2 L hs (by simp)
  have ON := fun (h : [a, b, c, d].all mayB = true) (g2 : Gh) L => meet_gives a b c d g2 L (and4 h).1 (and4 h).2.1 (and4 h).2.2.1 (and4 h).2.2.2
  cases hal : [a, b, c, d].all mayB with
  | false =>
    rw [hal] at AL
    clear ON
    repeat' (first
    | refine wkQ ?_
    | refine wkV ?_
    | (refine TL.build_rows (d := 13) (len := 4) (sz := 2) [ptC a, ptC b, ptC c, ptC d] (by rfl) (by rfl) (by rfl) (by rfl) (by rfl) (by rfl) (by rfl) (by rfl) (fun bb => ?_); refine TL.freeze_obj (k := 4) bb 2 .here rfl (by decide) ?_; rintro g1 h1 s1)
    | refine stS ?_ | (refine stB ?_; intro _) | (refine stC ?_; constructor <;> intro _))
    have Q := AL g1 _ s1
    repeat' (first
    | refine wkQ ?_
    | refine wkV ?_
    | refine wkD (Q _) ?_
    | refine stS ?_ | (refine stB ?_; intro _) | (refine stC ?_; constructor <;> intro _))
    refine TQ.less h1 ?_
    refine TQ.endR1 (L' := L) Tryz.results224 rvA rfl (.refl _) ?_ selF
    exact ⟨rfl, rfl, rfl⟩
  | true =>
    have ON := ON hal
    rw [hal] at AL
    repeat' (first
    | refine wkQ ?_
    | refine wkV ?_
    | (refine TL.build_rows (d := 13) (len := 4) (sz := 2) [ptC a, ptC b, ptC c, ptC d] (by rfl) (by rfl) (by rfl) (by rfl) (by rfl) (by rfl) (by rfl) (by rfl) (fun bb => ?_); refine TL.freeze_obj (k := 4) bb 2 .here rfl (by decide) ?_; rintro g1 h1 s1)
    | refine stS ?_ | (refine stB ?_; intro _) | (refine stC ?_; constructor <;> intro _))
    have Q := AL g1 _ s1
    have Q2 := ON g1
    repeat' (first
    | refine wkQ ?_
    | refine wkV ?_
    | refine wkD (Q _) ?_
    | refine wkD (Q2 _) ?_
    | refine stS ?_ | (refine stB ?_; intro _) | (refine stC ?_; constructor <;> intro _))
    refine TQ.less h1 ?_
    refine TQ.endR1 (L' := L) Tryz.results224 rvA rfl (.refl _) ?_ selF
    exact ⟨rfl, rfl, rfl⟩
def mayR (r : Rc) : Bool := [((r.x0, r.y0) : Pt), (r.x1, r.y1)].all mayB && decide (r.x0 ≤ r.x1) && decide (r.y0 ≤ r.y1)
set_option maxHeartbeats 4000000 in
theorem MayRect_gives (r : Rc) (g : Gh) (L : List Ent) : Gives Tryz.prog 266 #[rcV r] g L (.bool (mayR r)) := by
  refine .of (Does.of1 Tryz.func266 rfl Tryz.ntmps266 rfl ?_)
  have AL := fun (g2 : Gh) (bb : Nat) (hs : Sl g2 (.slice (some ⟨bb, 0, none⟩) 2 2) 2 2 [ptC (r.x0, r.y0), ptC (r.x1, r.y1)].flatten) L => all_gives [((r.x0, r.y0) : Pt), (r.x1, r.y1)] (.slice (some ⟨bb, 0, none⟩) 2 2) g2 L hs (by simp)
  have LO := fun (g2 : Gh) L => low_gives g2 L r
  have HI := fun (g2 : Gh) L => high_gives g2 L r
  have LO1 := LO g
  have HI1 := HI g
  unfold mayR
  cases hal : [((r.x0, r.y0) : Pt), (r.x1, r.y1)].all mayB with
  | false =>
    rw [hal] at AL
    repeat' (first
    | refine wkQ ?_
    | refine wkV ?_
    | refine wkD (LO1 _) ?_
    | refine wkD (HI1 _) ?_
    | (refine TL.build_rows (d := 7) (len := 2) (sz := 2) [ptC (r.x0, r.y0), ptC (r.x1, r.y1)] (by rfl) (by rfl) (by rfl) (by rfl) (by rfl) (by rfl) (by rfl) (by rfl) (fun bb => ?_); refine TL.freeze_obj (k := 2) bb 2 .here rfl (by decide) ?_; rintro g1 h1 s1)
    | refine wkN0 ?_
    | refine wkN1 ?_
    | refine wkN2 ?_
    | refine wkN3 ?_
    | refine wkG0 ?_
    | refine wkG1 ?_
    | refine wkG2 ?_
    | refine wkG3 ?_
    | refine wkX0 ?_
    | refine wkX1 ?_
    | refine wkX2 ?_
    | refine wkX3 ?_
    | refine wkN0 ?_
    | refine wkN1 ?_
    | refine wkN2 ?_
    | refine wkN3 ?_
    | refine wkO0 ?_
    | refine wkO1 ?_
    | refine wkO2 ?_
    | refine wkO3 ?_
    | refine TQ.any leF selF ?_
    | refine TC.region_any 21 (_) (by kernel_rfl) rfl selF ?_ | refine TA.done (by decide +kernel) ?_ | refine TQ.any_panic ?_
    | refine stS ?_ | (refine stB ?_; intro _) | (refine stC ?_; constructor <;> intro _)
    | refine wkW ?_)
    have Q := AL g1 _ s1
    repeat' (first
    | refine wkQ ?_
    | refine wkV ?_
    | refine wkD (Q _) ?_
    | refine wkN0 ?_
    | refine wkN1 ?_
    | refine wkN2 ?_
    | refine wkN3 ?_
    | refine wkG0 ?_
    | refine wkG1 ?_
    | refine wkG2 ?_
    | refine wkG3 ?_
    | refine wkX0 ?_
    | refine wkX1 ?_
    | refine wkX2 ?_
    | refine wkX3 ?_
    | refine wkN0 ?_
    | refine wkN1 ?_
    | refine wkN2 ?_
    | refine wkN3 ?_
    | refine wkO0 ?_
    | refine wkO1 ?_
    | refine wkO2 ?_
    | refine wkO3 ?_
    | refine TQ.any leF selF ?_
    | refine TC.region_any 21 (_) (by kernel_rfl) rfl selF ?_ | refine TA.done (by decide +kernel) ?_ | refine TQ.any_panic ?_
    | refine stS ?_ | (refine stB ?_; intro _) | (refine stC ?_; constructor <;> intro _)
    | refine wkW ?_)
    refine TQ.less h1 ?_
    refine TQ.endR1 (L' := L) Tryz.results266 rvA rfl (.refl _) ?_ selF
    exact ⟨rfl, rfl, rfl⟩
  | true =>
    rw [hal] at AL
    cases b1 : decide (r.x0 ≤ r.x1) with
    | false =>
      repeat' (first
    | refine wkQ ?_
    | refine wkV ?_
    | refine wkD (LO1 _) ?_
    | refine wkD (HI1 _) ?_
    | (refine TL.build_rows (d := 7) (len := 2) (sz := 2) [ptC (r.x0, r.y0), ptC (r.x1, r.y1)] (by rfl) (by rfl) (by rfl) (by rfl) (by rfl) (by rfl) (by rfl) (by rfl) (fun bb => ?_); refine TL.freeze_obj (k := 2) bb 2 .here rfl (by decide) ?_; rintro g1 h1 s1)
    | ((with_reducible apply TA.takeN 0); (· rfl); (· decide +kernel); (· rfl); (· first | exact Y.leqB b1 rfl rfl | exact yW); (· decide +kernel); (· decide +kernel); (· rfl); (· exact fun _ _ _ h => h); (· rfl))
    | ((with_reducible apply TA.takeN 1); (· rfl); (· decide +kernel); (· rfl); (· first | exact Y.leqB b1 rfl rfl | exact yW); (· decide +kernel); (· decide +kernel); (· rfl); (· exact fun _ _ _ h => h); (· rfl))
    | ((with_reducible apply TA.takeN 2); (· rfl); (· decide +kernel); (· rfl); (· first | exact Y.leqB b1 rfl rfl | exact yW); (· decide +kernel); (· decide +kernel); (· rfl); (· exact fun _ _ _ h => h); (· rfl))
    | ((with_reducible apply TA.takeN 3); (· rfl); (· decide +kernel); (· rfl); (· first | exact Y.leqB b1 rfl rfl | exact yW); (· decide +kernel); (· decide +kernel); (· rfl); (· exact fun _ _ _ h => h); (· rfl))
    | ((with_reducible apply TA.take_gN 0); (· rfl); (· decide +kernel); (· rfl); (· rfl); (· rfl); (· (first | exact Y.leqB b1 rfl rfl | exact yW)); (· decide +kernel); (· decide +kernel); (· rfl); (· exact fun _ _ _ h => h); (· rfl))
    | ((with_reducible apply TA.take_gN 1); (· rfl); (· decide +kernel); (· rfl); (· rfl); (· rfl); (· (first | exact Y.leqB b1 rfl rfl | exact yW)); (· decide +kernel); (· decide +kernel); (· rfl); (· exact fun _ _ _ h => h); (· rfl))
    | ((with_reducible apply TA.take_gN 2); (· rfl); (· decide +kernel); (· rfl); (· rfl); (· rfl); (· (first | exact Y.leqB b1 rfl rfl | exact yW)); (· decide +kernel); (· decide +kernel); (· rfl); (· exact fun _ _ _ h => h); (· rfl))
    | ((with_reducible apply TA.take_gN 3); (· rfl); (· decide +kernel); (· rfl); (· rfl); (· rfl); (· (first | exact Y.leqB b1 rfl rfl | exact yW)); (· decide +kernel); (· decide +kernel); (· rfl); (· exact fun _ _ _ h => h); (· rfl))
    | refine wkX0 ?_
    | refine wkX1 ?_
    | refine wkX2 ?_
    | refine wkX3 ?_
    | refine wkO0 ?_
    | refine wkO1 ?_
    | refine wkO2 ?_
    | refine wkO3 ?_
    | refine TQ.any leF selF ?_
    | refine TC.region_any 21 (_) (by kernel_rfl) rfl selF ?_ | refine TA.done (by decide +kernel) ?_ | refine TQ.any_panic ?_
    | refine stS ?_ | (refine stB ?_; intro _) | (refine stC ?_; constructor <;> intro _)
    | refine wkW ?_)
      have Q := AL g1 _ s1
      repeat' (first
    | refine wkQ ?_
    | refine wkV ?_
    | refine wkD (Q _) ?_
    | ((with_reducible apply TA.takeN 0); (· rfl); (· decide +kernel); (· rfl); (· first | exact Y.leqB b1 rfl rfl | exact yW); (· decide +kernel); (· decide +kernel); (· rfl); (· exact fun _ _ _ h => h); (· rfl))
    | ((with_reducible apply TA.takeN 1); (· rfl); (· decide +kernel); (· rfl); (· first | exact Y.leqB b1 rfl rfl | exact yW); (· decide +kernel); (· decide +kernel); (· rfl); (· exact fun _ _ _ h => h); (· rfl))
    | ((with_reducible apply TA.takeN 2); (· rfl); (· decide +kernel); (· rfl); (· first | exact Y.leqB b1 rfl rfl | exact yW); (· decide +kernel); (· decide +kernel); (· rfl); (· exact fun _ _ _ h => h); (· rfl))
    | ((with_reducible apply TA.takeN 3); (· rfl); (· decide +kernel); (· rfl); (· first | exact Y.leqB b1 rfl rfl | exact yW); (· decide +kernel); (· decide +kernel); (· rfl); (· exact fun _ _ _ h => h); (· rfl))
    | ((with_reducible apply TA.take_gN 0); (· rfl); (· decide +kernel); (· rfl); (· rfl); (· rfl); (· (first | exact Y.leqB b1 rfl rfl | exact yW)); (· decide +kernel); (· decide +kernel); (· rfl); (· exact fun _ _ _ h => h); (· rfl))
    | ((with_reducible apply TA.take_gN 1); (· rfl); (· decide +kernel); (· rfl); (· rfl); (· rfl); (· (first | exact Y.leqB b1 rfl rfl | exact yW)); (· decide +kernel); (· decide +kernel); (· rfl); (· exact fun _ _ _ h => h); (· rfl))
    | ((with_reducible apply TA.take_gN 2); (· rfl); (· decide +kernel); (· rfl); (· rfl); (· rfl); (· (first | exact Y.leqB b1 rfl rfl | exact yW)); (· decide +kernel); (· decide +kernel); (· rfl); (· exact fun _ _ _ h => h); (· rfl))
    | ((with_reducible apply TA.take_gN 3); (· rfl); (· decide +kernel); (· rfl); (· rfl); (· rfl); (· (first | exact Y.leqB b1 rfl rfl | exact yW)); (· decide +kernel); (· decide +kernel); (· rfl); (· exact fun _ _ _ h => h); (· rfl))
    | refine wkX0 ?_
    | refine wkX1 ?_
    | refine wkX2 ?_
    | refine wkX3 ?_
    | refine wkO0 ?_
    | refine wkO1 ?_
    | refine wkO2 ?_
    | refine wkO3 ?_
    | refine TQ.any leF selF ?_
    | refine TC.region_any 21 (_) (by kernel_rfl) rfl selF ?_ | refine TA.done (by decide +kernel) ?_ | refine TQ.any_panic ?_
    | refine stS ?_ | (refine stB ?_; intro _) | (refine stC ?_; constructor <;> intro _)
    | refine wkW ?_)
      refine TQ.less h1 ?_
      refine TQ.endR1 (L' := L) Tryz.results266 rvA rfl (.refl _) ?_ selF
      exact ⟨rfl, rfl, rfl⟩
    | true =>
      repeat' (first
    | refine wkQ ?_
    | refine wkV ?_
    | refine wkD (LO1 _) ?_
    | refine wkD (HI1 _) ?_
    | (refine TL.build_rows (d := 7) (len := 2) (sz := 2) [ptC (r.x0, r.y0), ptC (r.x1, r.y1)] (by rfl) (by rfl) (by rfl) (by rfl) (by rfl) (by rfl) (by rfl) (by rfl) (fun bb => ?_); refine TL.freeze_obj (k := 2) bb 2 .here rfl (by decide) ?_; rintro g1 h1 s1)
    | ((with_reducible apply TA.takeN 0); (· rfl); (· decide +kernel); (· rfl); (· first | exact Y.leqB b1 rfl rfl | exact yW); (· decide +kernel); (· decide +kernel); (· rfl); (· exact fun _ _ _ h => h); (· rfl))
    | ((with_reducible apply TA.takeN 1); (· rfl); (· decide +kernel); (· rfl); (· first | exact Y.leqB b1 rfl rfl | exact yW); (· decide +kernel); (· decide +kernel); (· rfl); (· exact fun _ _ _ h => h); (· rfl))
    | ((with_reducible apply TA.takeN 2); (· rfl); (· decide +kernel); (· rfl); (· first | exact Y.leqB b1 rfl rfl | exact yW); (· decide +kernel); (· decide +kernel); (· rfl); (· exact fun _ _ _ h => h); (· rfl))
    | ((with_reducible apply TA.takeN 3); (· rfl); (· decide +kernel); (· rfl); (· first | exact Y.leqB b1 rfl rfl | exact yW); (· decide +kernel); (· decide +kernel); (· rfl); (· exact fun _ _ _ h => h); (· rfl))
    | ((with_reducible apply TA.take_gN 0); (· rfl); (· decide +kernel); (· rfl); (· rfl); (· rfl); (· (first | exact Y.leqB b1 rfl rfl | exact yW)); (· decide +kernel); (· decide +kernel); (· rfl); (· exact fun _ _ _ h => h); (· rfl))
    | ((with_reducible apply TA.take_gN 1); (· rfl); (· decide +kernel); (· rfl); (· rfl); (· rfl); (· (first | exact Y.leqB b1 rfl rfl | exact yW)); (· decide +kernel); (· decide +kernel); (· rfl); (· exact fun _ _ _ h => h); (· rfl))
    | ((with_reducible apply TA.take_gN 2); (· rfl); (· decide +kernel); (· rfl); (· rfl); (· rfl); (· (first | exact Y.leqB b1 rfl rfl | exact yW)); (· decide +kernel); (· decide +kernel); (· rfl); (· exact fun _ _ _ h => h); (· rfl))
    | ((with_reducible apply TA.take_gN 3); (· rfl); (· decide +kernel); (· rfl); (· rfl); (· rfl); (· (first | exact Y.leqB b1 rfl rfl | exact yW)); (· decide +kernel); (· decide +kernel); (· rfl); (· exact fun _ _ _ h => h); (· rfl))
    | refine wkX0 ?_
    | refine wkX1 ?_
    | refine wkX2 ?_
    | refine wkX3 ?_
    | refine wkO0 ?_
    | refine wkO1 ?_
    | refine wkO2 ?_
    | refine wkO3 ?_
    | refine TQ.any leF selF ?_
    | refine TC.region_any 21 (_) (by kernel_rfl) rfl selF ?_ | refine TA.done (by decide +kernel) ?_ | refine TQ.any_panic ?_
    | refine stS ?_ | (refine stB ?_; intro _) | (refine stC ?_; constructor <;> intro _)
    | refine wkW ?_)
      have Q := AL g1 _ s1
      repeat' (first
    | refine wkQ ?_
    | refine wkV ?_
    | refine wkD (Q _) ?_
    | ((with_reducible apply TA.takeN 0); (· rfl); (· decide +kernel); (· rfl); (· first | exact Y.leqB b1 rfl rfl | exact yW); (· decide +kernel); (· decide +kernel); (· rfl); (· exact fun _ _ _ h => h); (· rfl))
    | ((with_reducible apply TA.takeN 1); (· rfl); (· decide +kernel); (· rfl); (· first | exact Y.leqB b1 rfl rfl | exact yW); (· decide +kernel); (· decide +kernel); (· rfl); (· exact fun _ _ _ h => h); (· rfl))
    | ((with_reducible apply TA.takeN 2); (· rfl); (· decide +kernel); (· rfl); (· first | exact Y.leqB b1 rfl rfl | exact yW); (· decide +kernel); (· decide +kernel); (· rfl); (· exact fun _ _ _ h => h); (· rfl))
    | ((with_reducible apply TA.takeN 3); (· rfl); (· decide +kernel); (· rfl); (· first | exact Y.leqB b1 rfl rfl | exact yW); (· decide +kernel); (· decide +kernel); (· rfl); (· exact fun _ _ _ h => h); (· rfl))
    | ((with_reducible apply TA.take_gN 0); (· rfl); (· decide +kernel); (· rfl); (· rfl); (· rfl); (· (first | exact Y.leqB b1 rfl rfl | exact yW)); (· decide +kernel); (· decide +kernel); (· rfl); (· exact fun _ _ _ h => h); (· rfl))
    | ((with_reducible apply TA.take_gN 1); (· rfl); (· decide +kernel); (· rfl); (· rfl); (· rfl); (· (first | exact Y.leqB b1 rfl rfl | exact yW)); (· decide +kernel); (· decide +kernel); (· rfl); (· exact fun _ _ _ h => h); (· rfl))
    | ((with_reducible apply TA.take_gN 2); (· rfl); (· decide +kernel); (· rfl); (· rfl); (· rfl); (· (first | exact Y.leqB b1 rfl rfl | exact yW)); (· decide +kernel); (· decide +kernel); (· rfl); (· exact fun _ _ _ h => h); (· rfl))
    | ((with_reducible apply TA.take_gN 3); (· rfl); (· decide +kernel); (· rfl); (· rfl); (· rfl); (· (first | exact Y.leqB b1 rfl rfl | exact yW)); (· decide +kernel); (· decide +kernel); (· rfl); (· exact fun _ _ _ h => h); (· rfl))
    | refine wkX0 ?_
    | refine wkX1 ?_
    | refine wkX2 ?_
    | refine wkX3 ?_
    | refine wkO0 ?_
    | refine wkO1 ?_
    | refine wkO2 ?_
    | refine wkO3 ?_
    | refine TQ.any leF selF ?_
    | refine TC.region_any 21 (_) (by kernel_rfl) rfl selF ?_ | refine TA.done (by decide +kernel) ?_ | refine TQ.any_panic ?_
    | refine stS ?_ | (refine stB ?_; intro _) | (refine stC ?_; constructor <;> intro _)
    | refine wkW ?_)
      refine TQ.less h1 ?_
      refine TQ.endR1 (L' := L) Tryz.results266 rvA rfl (.refl _) ?_ selF
      exact ⟨rfl, rfl, rfl⟩
end Go.Proofs.YtgollffmdpejiaaGreatDoor
