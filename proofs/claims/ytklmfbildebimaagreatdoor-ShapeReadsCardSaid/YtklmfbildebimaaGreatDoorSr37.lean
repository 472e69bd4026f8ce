/-
  The document's geometry, walked: points on edges, edges that cross. The document's geometry, walked: all places, boxes, rings.
-/
import Derived.Test.YtklmfbildebimaaGreatDoorSr2
import Derived.Test.YtklmfbildebimaaGreatDoorSr36
namespace Go.Proofs.YtklmfbildebimaaGreatDoor
open Go.RowKit Go.TL
set_option maxRecDepth 100000

theorem onB_betw (a b p : Pt) : onB a b p = (decide (tn a b p = 0) && betwB a.1 p.1 b.1 && betwB a.2 p.2 b.2) := by
  unfold onB
  have h : holdsB (spanR a b) p = (betwB a.1 p.1 b.1 && betwB a.2 p.2 b.2) := by
    rw [Bool.eq_iff_iff, span_x]
    unfold betwB
    simp
  rw [h, Bool.and_assoc]
set_option maxHeartbeats 8000000 in
theorem rOn8_gives (a b c : Pt) (g : Gh) (L : List Ent) (ha : mayB a = true) (hb : mayB b = true) (hc : mayB c = true) : Gives Tryz.prog 86 #[pt a, pt b, pt c] g L (.bool (onB a b c)) := by
  refine .of (Does.of3 Tryz.func86 rfl Tryz.ntmps86 rfl ?_)
  have T := fun L => rTurn8_gives a b c g L ha hb hc
  have B1 := fun L => rbetween8_gives g L a.1 c.1 b.1
  have B2 := fun L => rbetween8_gives g L a.2 c.2 b.2
  rw [onB_betw]
  have h3 := tn_three a b c
  generalize tn a b c = t at *
  generalize betwB a.1 c.1 b.1 = z1 at *
  generalize betwB a.2 c.2 b.2 = z2 at *
  obtain ⟨a1, a2⟩ := a
  obtain ⟨b1, b2⟩ := b
  obtain ⟨c1, c2⟩ := c
  clear ha hb hc
  rcases h3 with rfl | rfl | rfl
  · clear B1 B2
    repeat' (first
    | refine wkQ ?_
    | ((with_reducible apply TL.pure (d := 11) (v := .bool false)); (· exact Y.eql_b (show decide ((-1 : Int) = 0) = false from rfl) rfl rfl); (· rfl)) | ((with_reducible apply TW.pure (d := 11) (v := .bool false)); (· exact Y.eql_b (show decide ((-1 : Int) = 0) = false from rfl) rfl rfl); (· rfl))
    | refine wkV ?_
    | ((with_reducible apply TL.gives_plain); (· kernel_rfl); (· rfl); (· exact T _); (· rfl)) | ((with_reducible apply TW.gives_plain); (· kernel_rfl); (· rfl); (· exact T _); (· rfl))
    | refine stS ?_ | (refine stB ?_; intro _) | (refine stC ?_; refine And.intro (fun _ => ?_) (fun _ => ?_)))
    refine TQ.endR1 (L' := L) Tryz.results86 rvA rfl (.refl _) ?_ selF
    exact ⟨rfl, rfl, rfl⟩
  · cases z1 <;> cases z2
    all_goals
      repeat' (first
    | refine wkQ ?_
    | ((with_reducible apply TL.pure (d := 11) (v := .bool true)); (· exact Y.eql_b (show decide ((0 : Int) = 0) = true from rfl) rfl rfl); (· rfl)) | ((with_reducible apply TW.pure (d := 11) (v := .bool true)); (· exact Y.eql_b (show decide ((0 : Int) = 0) = true from rfl) rfl rfl); (· rfl))
    | refine wkV ?_
    | ((with_reducible apply TL.gives_plain); (· kernel_rfl); (· rfl); (· exact T _); (· rfl)) | ((with_reducible apply TW.gives_plain); (· kernel_rfl); (· rfl); (· exact T _); (· rfl))
    | ((with_reducible apply TL.gives_plain); (· kernel_rfl); (· rfl); (· exact B1 _); (· rfl)) | ((with_reducible apply TW.gives_plain); (· kernel_rfl); (· rfl); (· exact B1 _); (· rfl))
    | ((with_reducible apply TL.gives_plain); (· kernel_rfl); (· rfl); (· exact B2 _); (· rfl)) | ((with_reducible apply TW.gives_plain); (· kernel_rfl); (· rfl); (· exact B2 _); (· rfl))
    | refine stS ?_ | (refine stB ?_; intro _) | (refine stC ?_; refine And.intro (fun _ => ?_) (fun _ => ?_)))
      refine TQ.endR1 (L' := L) Tryz.results86 rvA rfl (.refl _) ?_ selF
      exact ⟨rfl, rfl, rfl⟩
  · clear B1 B2
    repeat' (first
    | refine wkQ ?_
    | ((with_reducible apply TL.pure (d := 11) (v := .bool false)); (· exact Y.eql_b (show decide ((1 : Int) = 0) = false from rfl) rfl rfl); (· rfl)) | ((with_reducible apply TW.pure (d := 11) (v := .bool false)); (· exact Y.eql_b (show decide ((1 : Int) = 0) = false from rfl) rfl rfl); (· rfl))
    | refine wkV ?_
    | ((with_reducible apply TL.gives_plain); (· kernel_rfl); (· rfl); (· exact T _); (· rfl)) | ((with_reducible apply TW.gives_plain); (· kernel_rfl); (· rfl); (· exact T _); (· rfl))
    | refine stS ?_ | (refine stB ?_; intro _) | (refine stC ?_; refine And.intro (fun _ => ?_) (fun _ => ?_)))
    refine TQ.endR1 (L' := L) Tryz.results86 rvA rfl (.refl _) ?_ selF
    exact ⟨rfl, rfl, rfl⟩
theorem neg1_iff {x y : Int} (hx : x = -1 ∨ x = 0 ∨ x = 1) (hy : y = -1 ∨ y = 0 ∨ y = 1) : decide (x * y = -1) = decide (x * y < 0) := by
  rcases hx with rfl | rfl | rfl <;> rcases hy with rfl | rfl | rfl <;> rfl
theorem mul_in {x y : Int} (hx : x = -1 ∨ x = 0 ∨ x = 1) (hy : y = -1 ∨ y = 0 ∨ y = 1) : IntKind.i64.wrap (x * y) = x * y := by
  rcases hx with rfl | rfl | rfl <;> rcases hy with rfl | rfl | rfl <;> rfl
set_option maxHeartbeats 16000000 in
theorem rCross8_gives (a b c d : Pt) (g : Gh) (L : List Ent) (ha : mayB a = true) (hb : mayB b = true) (hc : mayB c = true) (hd : mayB d = true) : Gives Tryz.prog 87 #[pt a, pt b, pt c, pt d] g L (.bool (crossB a b c d)) := by
  refine .of (Does.of4 Tryz.func87 rfl Tryz.ntmps87 rfl ?_)
  have T1 := fun L => rTurn8_gives a b c g L ha hb hc
  have T2 := fun L => rTurn8_gives a b d g L ha hb hd
  have T3 := fun L => rTurn8_gives c d a g L hc hd ha
  have T4 := fun L => rTurn8_gives c d b g L hc hd hb
  have k1 := tn_three a b c
  have k2 := tn_three a b d
  have k3 := tn_three c d a
  have k4 := tn_three c d b
  unfold crossB
  obtain ⟨u, hu⟩ : ∃ u, u = tn a b c * tn a b d := ⟨_, rfl⟩
  obtain ⟨z, hz⟩ : ∃ z, z = tn c d a * tn c d b := ⟨_, rfl⟩
  have n1 := neg1_iff k1 k2
  have n2 := neg1_iff k3 k4
  have M1 := Hn.mk (show IntKind.i64.wrap (tn a b c * tn a b d) = u by rw [hu]; exact mul_in k1 k2)
  have M2 := Hn.mk (show IntKind.i64.wrap (tn c d a * tn c d b) = z by rw [hz]; exact mul_in k3 k4)
  rw [← n1, ← n2, ← hu, ← hz]
  clear n1 n2 k1 k2 k3 k4 ha hb hc hd hu hz
  generalize tn a b c = t1 at *
  generalize tn a b d = t2 at *
  generalize tn c d a = t3 at *
  generalize tn c d b = t4 at *
  cases e1 : decide (u = -1) with
  | false =>
    clear T3 T4
    repeat' (first
    | refine wkQ ?_
    | refine wkV ?_
    | ((with_reducible apply TL.gives_plain); (· kernel_rfl); (· rfl); (· exact T1 _); (· rfl)) | ((with_reducible apply TW.gives_plain); (· kernel_rfl); (· rfl); (· exact T1 _); (· rfl))
    | ((with_reducible apply TL.gives_plain); (· kernel_rfl); (· rfl); (· exact T2 _); (· rfl)) | ((with_reducible apply TW.gives_plain); (· kernel_rfl); (· rfl); (· exact T2 _); (· rfl))
    | refine stS ?_ | (refine stB ?_; intro _) | (refine stC ?_; refine And.intro (fun _ => ?_) (fun _ => ?_))
    | ((with_reducible apply TA.takeN 0); (· rfl); (· decide +kernel); (· rfl); (· first | first | exact Y.mul rfl rfl M1.out | exact Y.eql_b e1 rfl rfl | (first | exact yQ | exact yA | exact yB | exact yM | exact yV)); (· decide +kernel); (· decide +kernel); (· rfl); (· exact fun _ _ _ h => h); (· rfl))
    | ((with_reducible apply TA.takeN 1); (· rfl); (· decide +kernel); (· rfl); (· first | first | exact Y.mul rfl rfl M1.out | exact Y.eql_b e1 rfl rfl | (first | exact yQ | exact yA | exact yB | exact yM | exact yV)); (· decide +kernel); (· decide +kernel); (· rfl); (· exact fun _ _ _ h => h); (· rfl))
    | ((with_reducible apply TA.takeN 2); (· rfl); (· decide +kernel); (· rfl); (· first | first | exact Y.mul rfl rfl M1.out | exact Y.eql_b e1 rfl rfl | (first | exact yQ | exact yA | exact yB | exact yM | exact yV)); (· decide +kernel); (· decide +kernel); (· rfl); (· exact fun _ _ _ h => h); (· rfl))
    | ((with_reducible apply TA.takeN 3); (· rfl); (· decide +kernel); (· rfl); (· first | first | exact Y.mul rfl rfl M1.out | exact Y.eql_b e1 rfl rfl | (first | exact yQ | exact yA | exact yB | exact yM | exact yV)); (· decide +kernel); (· decide +kernel); (· rfl); (· exact fun _ _ _ h => h); (· rfl))
    | ((with_reducible apply TA.take_gN 0); (· rfl); (· decide +kernel); (· rfl); (· rfl); (· rfl); (· (first | first | exact Y.mul rfl rfl M1.out | exact Y.eql_b e1 rfl rfl | (first | exact yQ | exact yA | exact yB | exact yM | exact yV))); (· decide +kernel); (· decide +kernel); (· rfl); (· exact fun _ _ _ h => h); (· rfl))
    | ((with_reducible apply TA.take_gN 1); (· rfl); (· decide +kernel); (· rfl); (· rfl); (· rfl); (· (first | first | exact Y.mul rfl rfl M1.out | exact Y.eql_b e1 rfl rfl | (first | exact yQ | exact yA | exact yB | exact yM | exact yV))); (· decide +kernel); (· decide +kernel); (· rfl); (· exact fun _ _ _ h => h); (· rfl))
    | ((with_reducible apply TA.take_gN 2); (· rfl); (· decide +kernel); (· rfl); (· rfl); (· rfl); (· (first | first | exact Y.mul rfl rfl M1.out | exact Y.eql_b e1 rfl rfl | (first | exact yQ | exact yA | exact yB | exact yM | exact yV))); (· decide +kernel); (· decide +kernel); (· rfl); (· exact fun _ _ _ h => h); (· rfl))
    | ((with_reducible apply TA.take_gN 3); (· rfl); (· decide +kernel); (· rfl); (· rfl); (· rfl); (· (first | first | exact Y.mul rfl rfl M1.out | exact Y.eql_b e1 rfl rfl | (first | exact yQ | exact yA | exact yB | exact yM | exact yV))); (· decide +kernel); (· decide +kernel); (· rfl); (· exact fun _ _ _ h => h); (· rfl))
    | refine wkX0 ?_
    | refine wkX1 ?_
    | refine wkX2 ?_
    | refine wkX3 ?_
    | ((with_reducible apply TA.oneN 0); (· rfl); (· rfl); (· decide +kernel); (· rfl))
    | ((with_reducible apply TA.oneN 1); (· rfl); (· rfl); (· decide +kernel); (· rfl))
    | ((with_reducible apply TA.oneN 2); (· rfl); (· rfl); (· decide +kernel); (· rfl))
    | ((with_reducible apply TA.oneN 3); (· rfl); (· rfl); (· decide +kernel); (· rfl))
    | refine TQ.any leF selF ?_
    | refine TC.region_any 23 (_) (by kernel_rfl) rfl selF ?_ | refine TA.done (by decide +kernel) ?_ | refine TQ.any_panic ?_)
    refine TQ.endR1 (L' := L) Tryz.results87 rvA rfl (.refl _) ?_ selF
    exact ⟨rfl, rfl, rfl⟩
  | true =>
  cases e2 : decide (z = -1) with
  | false =>
    repeat' (first
    | refine wkQ ?_
    | refine wkV ?_
    | ((with_reducible apply TL.gives_plain); (· kernel_rfl); (· rfl); (· exact T1 _); (· rfl)) | ((with_reducible apply TW.gives_plain); (· kernel_rfl); (· rfl); (· exact T1 _); (· rfl))
    | ((with_reducible apply TL.gives_plain); (· kernel_rfl); (· rfl); (· exact T2 _); (· rfl)) | ((with_reducible apply TW.gives_plain); (· kernel_rfl); (· rfl); (· exact T2 _); (· rfl))
    | ((with_reducible apply TL.gives_plain); (· kernel_rfl); (· rfl); (· exact T3 _); (· rfl)) | ((with_reducible apply TW.gives_plain); (· kernel_rfl); (· rfl); (· exact T3 _); (· rfl))
    | ((with_reducible apply TL.gives_plain); (· kernel_rfl); (· rfl); (· exact T4 _); (· rfl)) | ((with_reducible apply TW.gives_plain); (· kernel_rfl); (· rfl); (· exact T4 _); (· rfl))
    | refine stS ?_ | (refine stB ?_; intro _) | (refine stC ?_; refine And.intro (fun _ => ?_) (fun _ => ?_))
    | ((with_reducible apply TA.takeN 0); (· rfl); (· decide +kernel); (· rfl); (· first | first | exact Y.mul rfl rfl M1.out | exact Y.eql_b e1 rfl rfl | exact Y.mul rfl rfl M2.out | exact Y.eql_b e2 rfl rfl | (first | exact yQ | exact yA | exact yB | exact yM | exact yV)); (· decide +kernel); (· decide +kernel); (· rfl); (· exact fun _ _ _ h => h); (· rfl))
    | ((with_reducible apply TA.takeN 1); (· rfl); (· decide +kernel); (· rfl); (· first | first | exact Y.mul rfl rfl M1.out | exact Y.eql_b e1 rfl rfl | exact Y.mul rfl rfl M2.out | exact Y.eql_b e2 rfl rfl | (first | exact yQ | exact yA | exact yB | exact yM | exact yV)); (· decide +kernel); (· decide +kernel); (· rfl); (· exact fun _ _ _ h => h); (· rfl))
    | ((with_reducible apply TA.takeN 2); (· rfl); (· decide +kernel); (· rfl); (· first | first | exact Y.mul rfl rfl M1.out | exact Y.eql_b e1 rfl rfl | exact Y.mul rfl rfl M2.out | exact Y.eql_b e2 rfl rfl | (first | exact yQ | exact yA | exact yB | exact yM | exact yV)); (· decide +kernel); (· decide +kernel); (· rfl); (· exact fun _ _ _ h => h); (· rfl))
    | ((with_reducible apply TA.takeN 3); (· rfl); (· decide +kernel); (· rfl); (· first | first | exact Y.mul rfl rfl M1.out | exact Y.eql_b e1 rfl rfl | exact Y.mul rfl rfl M2.out | exact Y.eql_b e2 rfl rfl | (first | exact yQ | exact yA | exact yB | exact yM | exact yV)); (· decide +kernel); (· decide +kernel); (· rfl); (· exact fun _ _ _ h => h); (· rfl))
    | ((with_reducible apply TA.take_gN 0); (· rfl); (· decide +kernel); (· rfl); (· rfl); (· rfl); (· (first | first | exact Y.mul rfl rfl M1.out | exact Y.eql_b e1 rfl rfl | exact Y.mul rfl rfl M2.out | exact Y.eql_b e2 rfl rfl | (first | exact yQ | exact yA | exact yB | exact yM | exact yV))); (· decide +kernel); (· decide +kernel); (· rfl); (· exact fun _ _ _ h => h); (· rfl))
    | ((with_reducible apply TA.take_gN 1); (· rfl); (· decide +kernel); (· rfl); (· rfl); (· rfl); (· (first | first | exact Y.mul rfl rfl M1.out | exact Y.eql_b e1 rfl rfl | exact Y.mul rfl rfl M2.out | exact Y.eql_b e2 rfl rfl | (first | exact yQ | exact yA | exact yB | exact yM | exact yV))); (· decide +kernel); (· decide +kernel); (· rfl); (· exact fun _ _ _ h => h); (· rfl))
    | ((with_reducible apply TA.take_gN 2); (· rfl); (· decide +kernel); (· rfl); (· rfl); (· rfl); (· (first | first | exact Y.mul rfl rfl M1.out | exact Y.eql_b e1 rfl rfl | exact Y.mul rfl rfl M2.out | exact Y.eql_b e2 rfl rfl | (first | exact yQ | exact yA | exact yB | exact yM | exact yV))); (· decide +kernel); (· decide +kernel); (· rfl); (· exact fun _ _ _ h => h); (· rfl))
    | ((with_reducible apply TA.take_gN 3); (· rfl); (· decide +kernel); (· rfl); (· rfl); (· rfl); (· (first | first | exact Y.mul rfl rfl M1.out | exact Y.eql_b e1 rfl rfl | exact Y.mul rfl rfl M2.out | exact Y.eql_b e2 rfl rfl | (first | exact yQ | exact yA | exact yB | exact yM | exact yV))); (· decide +kernel); (· decide +kernel); (· rfl); (· exact fun _ _ _ h => h); (· rfl))
    | refine wkX0 ?_
    | refine wkX1 ?_
    | refine wkX2 ?_
    | refine wkX3 ?_
    | ((with_reducible apply TA.oneN 0); (· rfl); (· rfl); (· decide +kernel); (· rfl))
    | ((with_reducible apply TA.oneN 1); (· rfl); (· rfl); (· decide +kernel); (· rfl))
    | ((with_reducible apply TA.oneN 2); (· rfl); (· rfl); (· decide +kernel); (· rfl))
    | ((with_reducible apply TA.oneN 3); (· rfl); (· rfl); (· decide +kernel); (· rfl))
    | refine TQ.any leF selF ?_
    | refine TC.region_any 23 (_) (by kernel_rfl) rfl selF ?_ | refine TA.done (by decide +kernel) ?_ | refine TQ.any_panic ?_)
    refine TQ.endR1 (L' := L) Tryz.results87 rvA rfl (.refl _) ?_ selF
    exact ⟨rfl, rfl, rfl⟩
  | true =>
    repeat' (first
    | refine wkQ ?_
    | refine wkV ?_
    | ((with_reducible apply TL.gives_plain); (· kernel_rfl); (· rfl); (· exact T1 _); (· rfl)) | ((with_reducible apply TW.gives_plain); (· kernel_rfl); (· rfl); (· exact T1 _); (· rfl))
    | ((with_reducible apply TL.gives_plain); (· kernel_rfl); (· rfl); (· exact T2 _); (· rfl)) | ((with_reducible apply TW.gives_plain); (· kernel_rfl); (· rfl); (· exact T2 _); (· rfl))
    | ((with_reducible apply TL.gives_plain); (· kernel_rfl); (· rfl); (· exact T3 _); (· rfl)) | ((with_reducible apply TW.gives_plain); (· kernel_rfl); (· rfl); (· exact T3 _); (· rfl))
    | ((with_reducible apply TL.gives_plain); (· kernel_rfl); (· rfl); (· exact T4 _); (· rfl)) | ((with_reducible apply TW.gives_plain); (· kernel_rfl); (· rfl); (· exact T4 _); (· rfl))
    | refine stS ?_ | (refine stB ?_; intro _) | (refine stC ?_; refine And.intro (fun _ => ?_) (fun _ => ?_))
    | ((with_reducible apply TA.takeN 0); (· rfl); (· decide +kernel); (· rfl); (· first | first | exact Y.mul rfl rfl M1.out | exact Y.eql_b e1 rfl rfl | exact Y.mul rfl rfl M2.out | exact Y.eql_b e2 rfl rfl | (first | exact yQ | exact yA | exact yB | exact yM | exact yV)); (· decide +kernel); (· decide +kernel); (· rfl); (· exact fun _ _ _ h => h); (· rfl))
    | ((with_reducible apply TA.takeN 1); (· rfl); (· decide +kernel); (· rfl); (· first | first | exact Y.mul rfl rfl M1.out | exact Y.eql_b e1 rfl rfl | exact Y.mul rfl rfl M2.out | exact Y.eql_b e2 rfl rfl | (first | exact yQ | exact yA | exact yB | exact yM | exact yV)); (· decide +kernel); (· decide +kernel); (· rfl); (· exact fun _ _ _ h => h); (· rfl))
    | ((with_reducible apply TA.takeN 2); (· rfl); (· decide +kernel); (· rfl); (· first | first | exact Y.mul rfl rfl M1.out | exact Y.eql_b e1 rfl rfl | exact Y.mul rfl rfl M2.out | exact Y.eql_b e2 rfl rfl | (first | exact yQ | exact yA | exact yB | exact yM | exact yV)); (· decide +kernel); (· decide +kernel); (· rfl); (· exact fun _ _ _ h => h); (· rfl))
    | ((with_reducible apply TA.takeN 3); (· rfl); (· decide +kernel); (· rfl); (· first | first | exact Y.mul rfl rfl M1.out | exact Y.eql_b e1 rfl rfl | exact Y.mul rfl rfl M2.out | exact Y.eql_b e2 rfl rfl | (first | exact yQ | exact yA | exact yB | exact yM | exact yV)); (· decide +kernel); (· decide +kernel); (· rfl); (· exact fun _ _ _ h => h); (· rfl))
    | ((with_reducible apply TA.take_gN 0); (· rfl); (· decide +kernel); (· rfl); (· rfl); (· rfl); (· (first | first | exact Y.mul rfl rfl M1.out | exact Y.eql_b e1 rfl rfl | exact Y.mul rfl rfl M2.out | exact Y.eql_b e2 rfl rfl | (first | exact yQ | exact yA | exact yB | exact yM | exact yV))); (· decide +kernel); (· decide +kernel); (· rfl); (· exact fun _ _ _ h => h); (· rfl))
    | ((with_reducible apply TA.take_gN 1); (· rfl); (· decide +kernel); (· rfl); (· rfl); (· rfl); (· (first | first | exact Y.mul rfl rfl M1.out | exact Y.eql_b e1 rfl rfl | exact Y.mul rfl rfl M2.out | exact Y.eql_b e2 rfl rfl | (first | exact yQ | exact yA | exact yB | exact yM | exact yV))); (· decide +kernel); (· decide +kernel); (· rfl); (· exact fun _ _ _ h => h); (· rfl))
    | ((with_reducible apply TA.take_gN 2); (· rfl); (· decide +kernel); (· rfl); (· rfl); (· rfl); (· (first | first | exact Y.mul rfl rfl M1.out | exact Y.eql_b e1 rfl rfl | exact Y.mul rfl rfl M2.out | exact Y.eql_b e2 rfl rfl | (first | exact yQ | exact yA | exact yB | exact yM | exact yV))); (· decide +kernel); (· decide +kernel); (· rfl); (· exact fun _ _ _ h => h); (· rfl))
    | ((with_reducible apply TA.take_gN 3); (· rfl); (· decide +kernel); (· rfl); (· rfl); (· rfl); (· (first | first | exact Y.mul rfl rfl M1.out | exact Y.eql_b e1 rfl rfl | exact Y.mul rfl rfl M2.out | exact Y.eql_b e2 rfl rfl | (first | exact yQ | exact yA | exact yB | exact yM | exact yV))); (· decide +kernel); (· decide +kernel); (· rfl); (· exact fun _ _ _ h => h); (· rfl))
    | refine wkX0 ?_
    | refine wkX1 ?_
    | refine wkX2 ?_
    | refine wkX3 ?_
    | ((with_reducible apply TA.oneN 0); (· rfl); (· rfl); (· decide +kernel); (· rfl))
    | ((with_reducible apply TA.oneN 1); (· rfl); (· rfl); (· decide +kernel); (· rfl))
    | ((with_reducible apply TA.oneN 2); (· rfl); (· rfl); (· decide +kernel); (· rfl))
    | ((with_reducible apply TA.oneN 3); (· rfl); (· rfl); (· decide +kernel); (· rfl))
    | refine TQ.any leF selF ?_
    | refine TC.region_any 23 (_) (by kernel_rfl) rfl selF ?_ | refine TA.done (by decide +kernel) ?_ | refine TQ.any_panic ?_)
    refine TQ.endR1 (L' := L) Tryz.results87 rvA rfl (.refl _) ?_ selF
    exact ⟨rfl, rfl, rfl⟩
set_option maxHeartbeats 8000000 in
theorem rMeet8_gives (a b c d : Pt) (g : Gh) (L : List Ent) (ha : mayB a = true) (hb : mayB b = true) (hc : mayB c = true) (hd : mayB d = true) : Gives Tryz.prog 61 #[pt a, pt b, pt c, pt d] g L (.bool (meetB a b c d)) := by
  refine .of (Does.of4 Tryz.func61 rfl Tryz.ntmps61 rfl ?_)
  have C := fun L => rCross8_gives a b c d g L ha hb hc hd
  have O1 := fun L => rOn8_gives a b c g L ha hb hc
  have O2 := fun L => rOn8_gives a b d g L ha hb hd
  have O3 := fun L => rOn8_gives c d a g L hc hd ha
  have O4 := fun L => rOn8_gives c d b g L hc hd hb
  unfold meetB
  generalize crossB a b c d = z0 at *
  generalize onB a b c = z1 at *
  generalize onB a b d = z2 at *
  generalize onB c d a = z3 at *
  generalize onB c d b = z4 at *
  clear ha hb hc hd
  cases z0 with
  | true =>
    clear O1 O2 O3 O4
    repeat' (first
    | refine wkQ ?_
    | refine wkV ?_
    | ((with_reducible apply TL.gives_plain); (· kernel_rfl); (· rfl); (· exact C _); (· rfl)) | ((with_reducible apply TW.gives_plain); (· kernel_rfl); (· rfl); (· exact C _); (· rfl))
    | refine stS ?_ | (refine stB ?_; intro _) | (refine stC ?_; refine And.intro (fun _ => ?_) (fun _ => ?_)))
    refine TQ.endR1 (L' := L) Tryz.results61 rvA rfl (.refl _) ?_ selF
    exact ⟨rfl, rfl, rfl⟩
  | false =>
  cases z1 <;> cases z2 <;> cases z3 <;> cases z4
  all_goals
    repeat' (first
    | refine wkQ ?_
    | refine wkV ?_
    | ((with_reducible apply TL.gives_plain); (· kernel_rfl); (· rfl); (· exact C _); (· rfl)) | ((with_reducible apply TW.gives_plain); (· kernel_rfl); (· rfl); (· exact C _); (· rfl))
    | ((with_reducible apply TL.gives_plain); (· kernel_rfl); (· rfl); (· exact O1 _); (· rfl)) | ((with_reducible apply TW.gives_plain); (· kernel_rfl); (· rfl); (· exact O1 _); (· rfl))
    | ((with_reducible apply TL.gives_plain); (· kernel_rfl); (· rfl); (· exact O2 _); (· rfl)) | ((with_reducible apply TW.gives_plain); (· kernel_rfl); (· rfl); (· exact O2 _); (· rfl))
    | ((with_reducible apply TL.gives_plain); (· kernel_rfl); (· rfl); (· exact O3 _); (· rfl)) | ((with_reducible apply TW.gives_plain); (· kernel_rfl); (· rfl); (· exact O3 _); (· rfl))
    | ((with_reducible apply TL.gives_plain); (· kernel_rfl); (· rfl); (· exact O4 _); (· rfl)) | ((with_reducible apply TW.gives_plain); (· kernel_rfl); (· rfl); (· exact O4 _); (· rfl))
    | refine stS ?_ | (refine stB ?_; intro _) | (refine stC ?_; refine And.intro (fun _ => ?_) (fun _ => ?_)))
    refine TQ.endR1 (L' := L) Tryz.results61 rvA rfl (.refl _) ?_ selF
    exact ⟨rfl, rfl, rfl⟩
end Go.Proofs.YtklmfbildebimaaGreatDoor
namespace Go.Proofs.YtklmfbildebimaaGreatDoor
open Go.RowKit Go.TL
set_option maxRecDepth 100000

set_option maxHeartbeats 4000000 in
theorem rMayAll8_gives (l : List Pt) (v : Value) (g : Gh) (L : List Ent) (hS : Sl g v l.length 2 (flatP l)) (_hl : l.length ≤ 1000000) : Gives Tryz.prog 30 #[v] g L (.bool (l.all mayB)) := by
  refine .of (Does.of1 Tryz.func30 rfl Tryz.ntmps30 rfl ?_)
  obtain ⟨ao, cap, rfl⟩ := hS.slice
  obtain ⟨R, hR⟩ : ∃ R, R = (l.drop 0).all mayB := ⟨_, rfl⟩
  rw [show l.all mayB = R from hR.symm]
  repeat' (first
    | refine wkQ ?_
    | refine wkV ?_
    | refine stS ?_ | (refine stB ?_; intro _) | (refine stC ?_; refine And.intro (fun _ => ?_) (fun _ => ?_)))
  refine TC.loopK (fun i : Nat => i ≤ l.length ∧ (l.drop i).all mayB = R) (fun i => l.length - i) (fun i _ => [(3, .int .i64 (i : Nat)), (0, .slice ao l.length cap)]) [] .nil (fun _ L => L) 0 ⟨Nat.zero_le _, hR.symm⟩ subA selF ?_
  clear hR
  rintro i ⟨hi, hR⟩
  try dsimp only at hi hR ⊢
  by_cases hlt : i < l.length
  · obtain ⟨p, hp⟩ : ∃ p, l[i]? = some p := ⟨_, List.getElem?_eq_getElem hlt⟩
    obtain ⟨b1, o1, rfl, hg⟩ := hS.elem hlt (by decide)
    have hld := pt_cells hg (flatP_get hp).1 (flatP_get hp).2
    have hll : [Value.int .i64 p.1, .int .i64 p.2].length = 2 := rfl
    have M := fun L => rMay8_gives g L p
    rw [drop_of_get hp, List.all_cons] at hR
    clear hS hg
    cases hm : mayB p with
    | false =>
      rw [hm] at M hR
      repeat' (first
    | refine wkQ ?_
    | refine wkV ?_
    | ((with_reducible apply TL.gives_plain); (· kernel_rfl); (· rfl); (· exact M _); (· rfl)) | ((with_reducible apply TW.gives_plain); (· kernel_rfl); (· rfl); (· exact M _); (· rfl))
    | refine stS ?_ | (refine stB ?_; intro _) | (refine stC ?_; refine And.intro (fun _ => ?_) (fun _ => ?_)))
      refine TQ.endR1 (L' := L) Tryz.results30 rvA rfl (.refl _) ?_ selF
      exact ⟨congrArg (fun b => Ending.returned (Value.bool b)) (by rw [← hR]; rfl), rfl, rfl⟩
    | true =>
      rw [hm, Bool.true_and] at hR
      rw [hm] at M
      repeat' (first
    | refine wkQ ?_
    | refine wkV ?_
    | ((with_reducible apply TL.gives_plain); (· kernel_rfl); (· rfl); (· exact M _); (· rfl)) | ((with_reducible apply TW.gives_plain); (· kernel_rfl); (· rfl); (· exact M _); (· rfl))
    | refine stS ?_ | (refine stB ?_; intro _) | (refine stC ?_; refine And.intro (fun _ => ?_) (fun _ => ?_)))
      refine TQ.round (i + 1) ?_ ?_ rfl subA selF
      · exact ⟨by omega, hR⟩
      · show l.length - (i + 1) < l.length - i
        omega
  · obtain rfl : i = l.length := by omega
    rw [List.drop_length] at hR
    obtain rfl : true = R := hR
    clear hS
    repeat' (first
    | refine wkQ ?_
    | refine wkV ?_
    | refine stS ?_ | (refine stB ?_; intro _) | (refine stC ?_; refine And.intro (fun _ => ?_) (fun _ => ?_)))
    refine TQ.endR1 (L' := L) Tryz.results30 rvA rfl (.refl _) ?_ selF
    exact ⟨rfl, rfl, rfl⟩
set_option maxHeartbeats 8000000 in
theorem rshared9_gives (x y : Pt × Pt) (g : Gh) (L : List Ent) (h1 : mayB x.1 = true) (h2 : mayB x.2 = true) (h3 : mayB y.1 = true) (h4 : mayB y.2 = true) : Gives Tryz.prog 60 #[edV x, edV y] g L (.bool (!OnF x.1 x.2 y.2 && !OnF y.1 y.2 x.1)) := by
  refine .of (Does.of2 Tryz.func60 rfl Tryz.ntmps60 rfl ?_)
  obtain ⟨a, b⟩ := x
  obtain ⟨c, d⟩ := y
  have O1 := fun L => rOn8_gives a b d g L h1 h2 h4
  have O2 := fun L => rOn8_gives c d a g L h3 h4 h1
  dsimp only at h1 h2 h3 h4 ⊢
  rw [OnF_mayD h1 h2 h4, OnF_mayD h3 h4 h1]
  generalize onB a b d = z1 at *
  generalize onB c d a = z2 at *
  clear h1 h2 h3 h4
  cases z1 with
  | true =>
    clear O2
    repeat' (first
    | refine wkQ ?_
    | refine wkV ?_
    | ((with_reducible apply TL.gives_plain); (· kernel_rfl); (· rfl); (· exact O1 _); (· rfl)) | ((with_reducible apply TW.gives_plain); (· kernel_rfl); (· rfl); (· exact O1 _); (· rfl))
    | refine stS ?_ | (refine stB ?_; intro _) | (refine stC ?_; refine And.intro (fun _ => ?_) (fun _ => ?_))
    | ((with_reducible apply TL.pure); (· exact Y.load_part rfl pkA (Nat.le_of_ble_eq_true rfl)); (· rfl)))
    refine TQ.endR1 (L' := L) Tryz.results60 rvA rfl (.refl _) ?_ selF
    exact ⟨rfl, rfl, rfl⟩
  | false =>
    repeat' (first
    | refine wkQ ?_
    | refine wkV ?_
    | ((with_reducible apply TL.gives_plain); (· kernel_rfl); (· rfl); (· exact O1 _); (· rfl)) | ((with_reducible apply TW.gives_plain); (· kernel_rfl); (· rfl); (· exact O1 _); (· rfl))
    | ((with_reducible apply TL.gives_plain); (· kernel_rfl); (· rfl); (· exact O2 _); (· rfl)) | ((with_reducible apply TW.gives_plain); (· kernel_rfl); (· rfl); (· exact O2 _); (· rfl))
    | refine stS ?_ | (refine stB ?_; intro _) | (refine stC ?_; refine And.intro (fun _ => ?_) (fun _ => ?_))
    | ((with_reducible apply TL.pure); (· exact Y.load_part rfl pkA (Nat.le_of_ble_eq_true rfl)); (· rfl)))
    refine TQ.endR1 (L' := L) Tryz.results60 rvA rfl (.refl _) ?_ selF
    exact ⟨rfl, rfl, rfl⟩
end Go.Proofs.YtklmfbildebimaaGreatDoor
