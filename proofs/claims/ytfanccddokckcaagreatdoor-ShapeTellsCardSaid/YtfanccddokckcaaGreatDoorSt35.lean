/-
  The document's geometry, walked: points on edges, edges that cross.
-/
import Derived.Test.YtfanccddokckcaaGreatDoorSt2
import Derived.Test.YtfanccddokckcaaGreatDoorSt34
namespace Go.Proofs.YtfanccddokckcaaGreatDoor
open Go.RowKit Go.TL
set_option maxRecDepth 100000

theorem onB_betw (a b p : Pt) : onB a b p = (decide (tn a b p = 0) && betwB a.1 p.1 b.1 && betwB a.2 p.2 b.2) := by
  unfold onB
  have h : holdsB (spanR a b) p = (betwB a.1 p.1 b.1 && betwB a.2 p.2 b.2) := by
    rw [Bool.eq_iff_iff, span_x]
    unfold betwB
    simp
  rw [h, Bool.and_assoc]
set_option maxHeartbeats 8000000 in
theorem rOn8_gives (a b c : Pt) (g : Gh) (L : List Ent) (ha : mayB a = true) (hb : mayB b = true) (hc : mayB c = true) : Gives Tryz.prog 71 #[pt a, pt b, pt c] g L (.bool (onB a b c)) := by
  refine .of (Does.of3 Tryz.func71 rfl Tryz.ntmps71 rfl ?_)
  have T := fun L => rTurn8_gives a b c g L ha hb hc
  have B1 := fun L => rbetween8_gives g L a.1 c.1 b.1
  have B2 := fun L => rbetween8_gives g L a.2 c.2 b.2
  rw [onB_betw]
  have h3 := tn_three a b c
  generalize tn a b c = t at *
  generalize betwB a.1 c.1 b.1 = z1 at *
  generalize betwB a.2 c.2 b.2 = z2 at *
  obtain ⟨a1, a2⟩ := a
  obtain ⟨b1, b2⟩ := b
  obtain ⟨c1, c2⟩ := c
  clear ha hb hc
  rcases h3 with rfl | rfl | rfl
  · clear B1 B2
    repeat' (first
    | refine wkQ ?_
    | ((with_reducible apply TL.pure (d := 11) (v := .bool false)); (· exact Y.eql_b (show decide ((-1 : Int) = 0) = false from rfl) rfl rfl); (· rfl)) | ((with_reducible apply TW.pure (d := 11) (v := .bool false)); (· exact Y.eql_b (show decide ((-1 : Int) = 0) = false from rfl) rfl rfl); (· rfl))
    | refine wkV ?_
    | ((with_reducible apply TL.gives_plain); (· kernel_rfl); (· rfl); (· exact T _); (· rfl)) | ((with_reducible apply TW.gives_plain); (· kernel_rfl); (· rfl); (· exact T _); (· rfl))
    | refine stS ?_ | (refine stB ?_; intro _) | (refine stC ?_; refine And.intro (fun _ => ?_) (fun _ => ?_)))
    refine TQ.endR1 (L' := L) Tryz.results71 rvA rfl (.refl _) ?_ selF
    exact ⟨rfl, rfl, rfl⟩
  · cases z1 <;> cases z2
    all_goals
      repeat' (first
    | refine wkQ ?_
    | ((with_reducible apply TL.pure (d := 11) (v := .bool true)); (· exact Y.eql_b (show decide ((0 : Int) = 0) = true from rfl) rfl rfl); (· rfl)) | ((with_reducible apply TW.pure (d := 11) (v := .bool true)); (· exact Y.eql_b (show decide ((0 : Int) = 0) = true from rfl) rfl rfl); (· rfl))
    | refine wkV ?_
    | ((with_reducible apply TL.gives_plain); (· kernel_rfl); (· rfl); (· exact T _); (· rfl)) | ((with_reducible apply TW.gives_plain); (· kernel_rfl); (· rfl); (· exact T _); (· rfl))
    | ((with_reducible apply TL.gives_plain); (· kernel_rfl); (· rfl); (· exact B1 _); (· rfl)) | ((with_reducible apply TW.gives_plain); (· kernel_rfl); (· rfl); (· exact B1 _); (· rfl))
    | ((with_reducible apply TL.gives_plain); (· kernel_rfl); (· rfl); (· exact B2 _); (· rfl)) | ((with_reducible apply TW.gives_plain); (· kernel_rfl); (· rfl); (· exact B2 _); (· rfl))
    | refine stS ?_ | (refine stB ?_; intro _) | (refine stC ?_; refine And.intro (fun _ => ?_) (fun _ => ?_)))
      refine TQ.endR1 (L' := L) Tryz.results71 rvA rfl (.refl _) ?_ selF
      exact ⟨rfl, rfl, rfl⟩
  · clear B1 B2
    repeat' (first
    | refine wkQ ?_
    | ((with_reducible apply TL.pure (d := 11) (v := .bool false)); (· exact Y.eql_b (show decide ((1 : Int) = 0) = false from rfl) rfl rfl); (· rfl)) | ((with_reducible apply TW.pure (d := 11) (v := .bool false)); (· exact Y.eql_b (show decide ((1 : Int) = 0) = false from rfl) rfl rfl); (· rfl))
    | refine wkV ?_
    | ((with_reducible apply TL.gives_plain); (· kernel_rfl); (· rfl); (· exact T _); (· rfl)) | ((with_reducible apply TW.gives_plain); (· kernel_rfl); (· rfl); (· exact T _); (· rfl))
    | refine stS ?_ | (refine stB ?_; intro _) | (refine stC ?_; refine And.intro (fun _ => ?_) (fun _ => ?_)))
    refine TQ.endR1 (L' := L) Tryz.results71 rvA rfl (.refl _) ?_ selF
    exact ⟨rfl, rfl, rfl⟩
theorem neg1_iff {x y : Int} (hx : x = -1 ∨ x = 0 ∨ x = 1) (hy : y = -1 ∨ y = 0 ∨ y = 1) : decide (x * y = -1) = decide (x * y < 0) := by
  rcases hx with rfl | rfl | rfl <;> rcases hy with rfl | rfl | rfl <;> rfl
theorem mul_in {x y : Int} (hx : x = -1 ∨ x = 0 ∨ x = 1) (hy : y = -1 ∨ y = 0 ∨ y = 1) : IntKind.i64.wrap (x * y) = x * y := by
  rcases hx with rfl | rfl | rfl <;> rcases hy with rfl | rfl | rfl <;> rfl
set_option maxHeartbeats 16000000 in
theorem rCross8_gives (a b c d : Pt) (g : Gh) (L : List Ent) (ha : mayB a = true) (hb : mayB b = true) (hc : mayB c = true) (hd : mayB d = true) : Gives Tryz.prog 58 #[pt a, pt b, pt c, pt d] g L (.bool (crossB a b c d)) := by
  refine .of (Does.of4 Tryz.func58 rfl Tryz.ntmps58 rfl ?_)
  have T1 := fun L => rTurn8_gives a b c g L ha hb hc
  have T2 := fun L => rTurn8_gives a b d g L ha hb hd
  have T3 := fun L => rTurn8_gives c d a g L hc hd ha
  have T4 := fun L => rTurn8_gives c d b g L hc hd hb
  have k1 := tn_three a b c
  have k2 := tn_three a b d
  have k3 := tn_three c d a
  have k4 := tn_three c d b
  unfold crossB
  obtain ⟨u, hu⟩ : ∃ u, u = tn a b c * tn a b d := ⟨_, rfl⟩
  obtain ⟨z, hz⟩ : ∃ z, z = tn c d a * tn c d b := ⟨_, rfl⟩
  have n1 := neg1_iff k1 k2
  have n2 := neg1_iff k3 k4
  have M1 := Hn.mk (show IntKind.i64.wrap (tn a b c * tn a b d) = u by rw [hu]; exact mul_in k1 k2)
  have M2 := Hn.mk (show IntKind.i64.wrap (tn c d a * tn c d b) = z by rw [hz]; exact mul_in k3 k4)
  rw [← n1, ← n2, ← hu, ← hz]
  clear n1 n2 k1 k2 k3 k4 ha hb hc hd hu hz
  generalize tn a b c = t1 at *
  generalize tn a b d = t2 at *
  generalize tn c d a = t3 at *
  generalize tn c d b = t4 at *
  cases e1 : decide (u = -1) with
  | false =>
    clear T3 T4
    repeat' (first
    | refine wkQ ?_
    | refine wkV ?_
    | ((with_reducible apply TL.gives_plain); (· kernel_rfl); (· rfl); (· exact T1 _); (· rfl)) | ((with_reducible apply TW.gives_plain); (· kernel_rfl); (· rfl); (· exact T1 _); (· rfl))
    | ((with_reducible apply TL.gives_plain); (· kernel_rfl); (· rfl); (· exact T2 _); (· rfl)) | ((with_reducible apply TW.gives_plain); (· kernel_rfl); (· rfl); (· exact T2 _); (· rfl))
    | refine stS ?_ | (refine stB ?_; intro _) | (refine stC ?_; refine And.intro (fun _ => ?_) (fun _ => ?_))
    | ((with_reducible apply TA.takeN 0); (· rfl); (· decide +kernel); (· rfl); (· first | first | exact Y.mul rfl rfl M1.out | exact Y.eql_b e1 rfl rfl | (first | exact yQ | exact yA | exact yB | exact yM | exact yV)); (· decide +kernel); (· decide +kernel); (· rfl); (· exact fun _ _ _ h => h); (· rfl))
    | ((with_reducible apply TA.takeN 1); (· rfl); (· decide +kernel); (· rfl); (· first | first | exact Y.mul rfl rfl M1.out | exact Y.eql_b e1 rfl rfl | (first | exact yQ | exact yA | exact yB | exact yM | exact yV)); (· decide +kernel); (· decide +kernel); (· rfl); (· exact fun _ _ _ h => h); (· rfl))
    | ((with_reducible apply TA.takeN 2); (· rfl); (· decide +kernel); (· rfl); (· first | first | exact Y.mul rfl rfl M1.out | exact Y.eql_b e1 rfl rfl | (first | exact yQ | exact yA | exact yB | exact yM | exact yV)); (· decide +kernel); (· decide +kernel); (· rfl); (· exact fun _ _ _ h => h); (· rfl))
    | ((with_reducible apply TA.takeN 3); (· rfl); (· decide +kernel); (· rfl); (· first | first | exact Y.mul rfl rfl M1.out | exact Y.eql_b e1 rfl rfl | (first | exact yQ | exact yA | exact yB | exact yM | exact yV)); (· decide +kernel); (· decide +kernel); (· rfl); (· exact fun _ _ _ h => h); (· rfl))
    | ((with_reducible apply TA.take_gN 0); (· rfl); (· decide +kernel); (· rfl); (· rfl); (· rfl); (· (first | first | exact Y.mul rfl rfl M1.out | exact Y.eql_b e1 rfl rfl | (first | exact yQ | exact yA | exact yB | exact yM | exact yV))); (· decide +kernel); (· decide +kernel); (· rfl); (· exact fun _ _ _ h => h); (· rfl))
    | ((with_reducible apply TA.take_gN 1); (· rfl); (· decide +kernel); (· rfl); (· rfl); (· rfl); (· (first | first | exact Y.mul rfl rfl M1.out | exact Y.eql_b e1 rfl rfl | (first | exact yQ | exact yA | exact yB | exact yM | exact yV))); (· decide +kernel); (· decide +kernel); (· rfl); (· exact fun _ _ _ h => h); (· rfl))
    | ((with_reducible apply TA.take_gN 2); (· rfl); (· decide +kernel); (· rfl); (· rfl); (· rfl); (· (first | first | exact Y.mul rfl rfl M1.out | exact Y.eql_b e1 rfl rfl | (first | exact yQ | exact yA | exact yB | exact yM | exact yV))); (· decide +kernel); (· decide +kernel); (· rfl); (· exact fun _ _ _ h => h); (· rfl))
    | ((with_reducible apply TA.take_gN 3); (· rfl); (· decide +kernel); (· rfl); (· rfl); (· rfl); (· (first | first | exact Y.mul rfl rfl M1.out | exact Y.eql_b e1 rfl rfl | (first | exact yQ | exact yA | exact yB | exact yM | exact yV))); (· decide +kernel); (· decide +kernel); (· rfl); (· exact fun _ _ _ h => h); (· rfl))
    | refine wkX0 ?_
    | refine wkX1 ?_
    | refine wkX2 ?_
    | refine wkX3 ?_
    | ((with_reducible apply TA.oneN 0); (· rfl); (· rfl); (· decide +kernel); (· rfl))
    | ((with_reducible apply TA.oneN 1); (· rfl); (· rfl); (· decide +kernel); (· rfl))
    | ((with_reducible apply TA.oneN 2); (· rfl); (· rfl); (· decide +kernel); (· rfl))
    | ((with_reducible apply TA.oneN 3); (· rfl); (· rfl); (· decide +kernel); (· rfl))
    | refine TQ.any leF selF ?_
    | refine TC.region_any 23 (_) (by kernel_rfl) rfl selF ?_ | refine TA.done (by decide +kernel) ?_ | refine TQ.any_panic ?_)
    refine TQ.endR1 (L' := L) Tryz.results58 rvA rfl (.refl _) ?_ selF
    exact ⟨rfl, rfl, rfl⟩
  | true =>
  cases e2 : decide (z = -1) with
  | false =>
    repeat' (first
    | refine wkQ ?_
    | refine wkV ?_
    | ((with_reducible apply TL.gives_plain); (· kernel_rfl); (· rfl); (· exact T1 _); (· rfl)) | ((with_reducible apply TW.gives_plain); (· kernel_rfl); (· rfl); (· exact T1 _); (· rfl))
    | ((with_reducible apply TL.gives_plain); (· kernel_rfl); (· rfl); (· exact T2 _); (· rfl)) | ((with_reducible apply TW.gives_plain); (· kernel_rfl); (· rfl); (· exact T2 _); (· rfl))
    | ((with_reducible apply TL.gives_plain); (· kernel_rfl); (· rfl); (· exact T3 _); (· rfl)) | ((with_reducible apply TW.gives_plain); (· kernel_rfl); (· rfl); (· exact T3 _); (· rfl))
    | ((with_reducible apply TL.gives_plain); (· kernel_rfl); (· rfl); (· exact T4 _); (· rfl)) | ((with_reducible apply TW.gives_plain); (· kernel_rfl); (· rfl); (· exact T4 _); (· rfl))
    | refine stS ?_ | (refine stB ?_; intro _) | (refine stC ?_; refine And.intro (fun _ => ?_) (fun _ => ?_))
    | ((with_reducible apply TA.takeN 0); (· rfl); (· decide +kernel); (· rfl); (· first | first | exact Y.mul rfl rfl M1.out | exact Y.eql_b e1 rfl rfl | exact Y.mul rfl rfl M2.out | exact Y.eql_b e2 rfl rfl | (first | exact yQ | exact yA | exact yB | exact yM | exact yV)); (· decide +kernel); (· decide +kernel); (· rfl); (· exact fun _ _ _ h => h); (· rfl))
    | ((with_reducible apply TA.takeN 1); (· rfl); (· decide +kernel); (· rfl); (· first | first | exact Y.mul rfl rfl M1.out | exact Y.eql_b e1 rfl rfl | exact Y.mul rfl rfl M2.out | exact Y.eql_b e2 rfl rfl | (first | exact yQ | exact yA | exact yB | exact yM | exact yV)); (· decide +kernel); (· decide +kernel); (· rfl); (· exact fun _ _ _ h => h); (· rfl))
    | ((with_reducible apply TA.takeN 2); (· rfl); (· decide +kernel); (· rfl); (· first | first | exact Y.mul rfl rfl M1.out | exact Y.eql_b e1 rfl rfl | exact Y.mul rfl rfl M2.out | exact Y.eql_b e2 rfl rfl | (first | exact yQ | exact yA | exact yB | exact yM | exact yV)); (· decide +kernel); (· decide +kernel); (· rfl); (· exact fun _ _ _ h => h); (· rfl))
    | ((with_reducible apply TA.takeN 3); (· rfl); (· decide +kernel); (· rfl); (· first | first | exact Y.mul rfl rfl M1.out | exact Y.eql_b e1 rfl rfl | exact Y.mul rfl rfl M2.out | exact Y.eql_b e2 rfl rfl | (first | exact yQ | exact yA | exact yB | exact yM | exact yV)); (· decide +kernel); (· decide +kernel); (· rfl); (· exact fun _ _ _ h => h); (· rfl))
    | ((with_reducible apply TA.take_gN 0); (· rfl); (· decide +kernel); (· rfl); (· rfl); (· rfl); (· (first | first | exact Y.mul rfl rfl M1.out | exact Y.eql_b e1 rfl rfl | exact Y.mul rfl rfl M2.out | exact Y.eql_b e2 rfl rfl | (first | exact yQ | exact yA | exact yB | exact yM | exact yV))); (· decide +kernel); (· decide +kernel); (· rfl); (· exact fun _ _ _ h => h); (· rfl))
    | ((with_reducible apply TA.take_gN 1); (· rfl); (· decide +kernel); (· rfl); (· rfl); (· rfl); (· (first | first | exact Y.mul rfl rfl M1.out | exact Y.eql_b e1 rfl rfl | exact Y.mul rfl rfl M2.out | exact Y.eql_b e2 rfl rfl | (first | exact yQ | exact yA | exact yB | exact yM | exact yV))); (· decide +kernel); (· decide +kernel); (· rfl); (· exact fun _ _ _ h => h); (· rfl))
    | ((with_reducible apply TA.take_gN 2); (· rfl); (· decide +kernel); (· rfl); (· rfl); (· rfl); (· (first | first | exact Y.mul rfl rfl M1.out | exact Y.eql_b e1 rfl rfl | exact Y.mul rfl rfl M2.out | exact Y.eql_b e2 rfl rfl | (first | exact yQ | exact yA | exact yB | exact yM | exact yV))); (· decide +kernel); (· decide +kernel); (· rfl); (· exact fun _ _ _ h => h); (· rfl))
    | ((with_reducible apply TA.take_gN 3); (· rfl); (· decide +kernel); (· rfl); (· rfl); (· rfl); (· (first | first | exact Y.mul rfl rfl M1.out | exact Y.eql_b e1 rfl rfl | exact Y.mul rfl rfl M2.out | exact Y.eql_b e2 rfl rfl | (first | exact yQ | exact yA | exact yB | exact yM | exact yV))); (· decide +kernel); (· decide +kernel); (· rfl); (· exact fun _ _ _ h => h); (· rfl))
    | refine wkX0 ?_
    | refine wkX1 ?_
    | refine wkX2 ?_
    | refine wkX3 ?_
    | ((with_reducible apply TA.oneN 0); (· rfl); (· rfl); (· decide +kernel); (· rfl))
    | ((with_reducible apply TA.oneN 1); (· rfl); (· rfl); (· decide +kernel); (· rfl))
    | ((with_reducible apply TA.oneN 2); (· rfl); (· rfl); (· decide +kernel); (· rfl))
    | ((with_reducible apply TA.oneN 3); (· rfl); (· rfl); (· decide +kernel); (· rfl))
    | refine TQ.any leF selF ?_
    | refine TC.region_any 23 (_) (by kernel_rfl) rfl selF ?_ | refine TA.done (by decide +kernel) ?_ | refine TQ.any_panic ?_)
    refine TQ.endR1 (L' := L) Tryz.results58 rvA rfl (.refl _) ?_ selF
    exact ⟨rfl, rfl, rfl⟩
  | true =>
    repeat' (first
    | refine wkQ ?_
    | refine wkV ?_
    | ((with_reducible apply TL.gives_plain); (· kernel_rfl); (· rfl); (· exact T1 _); (· rfl)) | ((with_reducible apply TW.gives_plain); (· kernel_rfl); (· rfl); (· exact T1 _); (· rfl))
    | ((with_reducible apply TL.gives_plain); (· kernel_rfl); (· rfl); (· exact T2 _); (· rfl)) | ((with_reducible apply TW.gives_plain); (· kernel_rfl); (· rfl); (· exact T2 _); (· rfl))
    | ((with_reducible apply TL.gives_plain); (· kernel_rfl); (· rfl); (· exact T3 _); (· rfl)) | ((with_reducible apply TW.gives_plain); (· kernel_rfl); (· rfl); (· exact T3 _); (· rfl))
    | ((with_reducible apply TL.gives_plain); (· kernel_rfl); (· rfl); (· exact T4 _); (· rfl)) | ((with_reducible apply TW.gives_plain); (· kernel_rfl); (· rfl); (· exact T4 _); (· rfl))
    | refine stS ?_ | (refine stB ?_; intro _) | (refine stC ?_; refine And.intro (fun _ => ?_) (fun _ => ?_))
    | ((with_reducible apply TA.takeN 0); (· rfl); (· decide +kernel); (· rfl); (· first | first | exact Y.mul rfl rfl M1.out | exact Y.eql_b e1 rfl rfl | exact Y.mul rfl rfl M2.out | exact Y.eql_b e2 rfl rfl | (first | exact yQ | exact yA | exact yB | exact yM | exact yV)); (· decide +kernel); (· decide +kernel); (· rfl); (· exact fun _ _ _ h => h); (· rfl))
    | ((with_reducible apply TA.takeN 1); (· rfl); (· decide +kernel); (· rfl); (· first | first | exact Y.mul rfl rfl M1.out | exact Y.eql_b e1 rfl rfl | exact Y.mul rfl rfl M2.out | exact Y.eql_b e2 rfl rfl | (first | exact yQ | exact yA | exact yB | exact yM | exact yV)); (· decide +kernel); (· decide +kernel); (· rfl); (· exact fun _ _ _ h => h); (· rfl))
    | ((with_reducible apply TA.takeN 2); (· rfl); (· decide +kernel); (· rfl); (· first | first | exact Y.mul rfl rfl M1.out | exact Y.eql_b e1 rfl rfl | exact Y.mul rfl rfl M2.out | exact Y.eql_b e2 rfl rfl | (first | exact yQ | exact yA | exact yB | exact yM | exact yV)); (· decide +kernel); (· decide +kernel); (· rfl); (· exact fun _ _ _ h => h); (· rfl))
    | ((with_reducible apply TA.takeN 3); (· rfl); (· decide +kernel); (· rfl); (· first | first | exact Y.mul rfl rfl M1.out | exact Y.eql_b e1 rfl rfl | exact Y.mul rfl rfl M2.out | exact Y.eql_b e2 rfl rfl | (first | exact yQ | exact yA | exact yB | exact yM | exact yV)); (· decide +kernel); (· decide +kernel); (· rfl); (· exact fun _ _ _ h => h); (· rfl))
    | ((with_reducible apply TA.take_gN 0); (· rfl); (· decide +kernel); (· rfl); (· rfl); (· rfl); (· (first | first | exact Y.mul rfl rfl M1.out | exact Y.eql_b e1 rfl rfl | exact Y.mul rfl rfl M2.out | exact Y.eql_b e2 rfl rfl | (first | exact yQ | exact yA | exact yB | exact yM | exact yV))); (· decide +kernel); (· decide +kernel); (· rfl); (· exact fun _ _ _ h => h); (· rfl))
    | ((with_reducible apply TA.take_gN 1); (· rfl); (· decide +kernel); (· rfl); (· rfl); (· rfl); (· (first | first | exact Y.mul rfl rfl M1.out | exact Y.eql_b e1 rfl rfl | exact Y.mul rfl rfl M2.out | exact Y.eql_b e2 rfl rfl | (first | exact yQ | exact yA | exact yB | exact yM | exact yV))); (· decide +kernel); (· decide +kernel); (· rfl); (· exact fun _ _ _ h => h); (· rfl))
    | ((with_reducible apply TA.take_gN 2); (· rfl); (· decide +kernel); (· rfl); (· rfl); (· rfl); (· (first | first | exact Y.mul rfl rfl M1.out | exact Y.eql_b e1 rfl rfl | exact Y.mul rfl rfl M2.out | exact Y.eql_b e2 rfl rfl | (first | exact yQ | exact yA | exact yB | exact yM | exact yV))); (· decide +kernel); (· decide +kernel); (· rfl); (· exact fun _ _ _ h => h); (· rfl))
    | ((with_reducible apply TA.take_gN 3); (· rfl); (· decide +kernel); (· rfl); (· rfl); (· rfl); (· (first | first | exact Y.mul rfl rfl M1.out | exact Y.eql_b e1 rfl rfl | exact Y.mul rfl rfl M2.out | exact Y.eql_b e2 rfl rfl | (first | exact yQ | exact yA | exact yB | exact yM | exact yV))); (· decide +kernel); (· decide +kernel); (· rfl); (· exact fun _ _ _ h => h); (· rfl))
    | refine wkX0 ?_
    | refine wkX1 ?_
    | refine wkX2 ?_
    | refine wkX3 ?_
    | ((with_reducible apply TA.oneN 0); (· rfl); (· rfl); (· decide +kernel); (· rfl))
    | ((with_reducible apply TA.oneN 1); (· rfl); (· rfl); (· decide +kernel); (· rfl))
    | ((with_reducible apply TA.oneN 2); (· rfl); (· rfl); (· decide +kernel); (· rfl))
    | ((with_reducible apply TA.oneN 3); (· rfl); (· rfl); (· decide +kernel); (· rfl))
    | refine TQ.any leF selF ?_
    | refine TC.region_any 23 (_) (by kernel_rfl) rfl selF ?_ | refine TA.done (by decide +kernel) ?_ | refine TQ.any_panic ?_)
    refine TQ.endR1 (L' := L) Tryz.results58 rvA rfl (.refl _) ?_ selF
    exact ⟨rfl, rfl, rfl⟩
set_option maxHeartbeats 8000000 in
theorem rMeet8_gives (a b c d : Pt) (g : Gh) (L : List Ent) (ha : mayB a = true) (hb : mayB b = true) (hc : mayB c = true) (hd : mayB d = true) : Gives Tryz.prog 52 #[pt a, pt b, pt c, pt d] g L (.bool (meetB a b c d)) := by
  refine .of (Does.of4 Tryz.func52 rfl Tryz.ntmps52 rfl ?_)
  have C := fun L => rCross8_gives a b c d g L ha hb hc hd
  have O1 := fun L => rOn8_gives a b c g L ha hb hc
  have O2 := fun L => rOn8_gives a b d g L ha hb hd
  have O3 := fun L => rOn8_gives c d a g L hc hd ha
  have O4 := fun L => rOn8_gives c d b g L hc hd hb
  unfold meetB
  generalize crossB a b c d = z0 at *
  generalize onB a b c = z1 at *
  generalize onB a b d = z2 at *
  generalize onB c d a = z3 at *
  generalize onB c d b = z4 at *
  clear ha hb hc hd
  cases z0 with
  | true =>
    clear O1 O2 O3 O4
    repeat' (first
    | refine wkQ ?_
    | refine wkV ?_
    | ((with_reducible apply TL.gives_plain); (· kernel_rfl); (· rfl); (· exact C _); (· rfl)) | ((with_reducible apply TW.gives_plain); (· kernel_rfl); (· rfl); (· exact C _); (· rfl))
    | refine stS ?_ | (refine stB ?_; intro _) | (refine stC ?_; refine And.intro (fun _ => ?_) (fun _ => ?_)))
    refine TQ.endR1 (L' := L) Tryz.results52 rvA rfl (.refl _) ?_ selF
    exact ⟨rfl, rfl, rfl⟩
  | false =>
  cases z1 <;> cases z2 <;> cases z3 <;> cases z4
  all_goals
    repeat' (first
    | refine wkQ ?_
    | refine wkV ?_
    | ((with_reducible apply TL.gives_plain); (· kernel_rfl); (· rfl); (· exact C _); (· rfl)) | ((with_reducible apply TW.gives_plain); (· kernel_rfl); (· rfl); (· exact C _); (· rfl))
    | ((with_reducible apply TL.gives_plain); (· kernel_rfl); (· rfl); (· exact O1 _); (· rfl)) | ((with_reducible apply TW.gives_plain); (· kernel_rfl); (· rfl); (· exact O1 _); (· rfl))
    | ((with_reducible apply TL.gives_plain); (· kernel_rfl); (· rfl); (· exact O2 _); (· rfl)) | ((with_reducible apply TW.gives_plain); (· kernel_rfl); (· rfl); (· exact O2 _); (· rfl))
    | ((with_reducible apply TL.gives_plain); (· kernel_rfl); (· rfl); (· exact O3 _); (· rfl)) | ((with_reducible apply TW.gives_plain); (· kernel_rfl); (· rfl); (· exact O3 _); (· rfl))
    | ((with_reducible apply TL.gives_plain); (· kernel_rfl); (· rfl); (· exact O4 _); (· rfl)) | ((with_reducible apply TW.gives_plain); (· kernel_rfl); (· rfl); (· exact O4 _); (· rfl))
    | refine stS ?_ | (refine stB ?_; intro _) | (refine stC ?_; refine And.intro (fun _ => ?_) (fun _ => ?_)))
    refine TQ.endR1 (L' := L) Tryz.results52 rvA rfl (.refl _) ?_ selF
    exact ⟨rfl, rfl, rfl⟩
end Go.Proofs.YtfanccddokckcaaGreatDoor
