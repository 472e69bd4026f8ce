/-
  The document's geometry, walked: what may be, turns, edges.
-/
import Derived.Test.YtfanccddokckcaaGreatDoorSt2
import Derived.Test.YtfanccddokckcaaGreatDoorSt9
import Derived.Test.YtfanccddokckcaaGreatDoorSt32
namespace Go.Proofs.YtfanccddokckcaaGreatDoor
open Go.RowKit Go.TL
set_option maxRecDepth 100000

def betwB (a n b : Int) : Bool := (decide (a ≤ n) && decide (n ≤ b)) || (decide (b ≤ n) && decide (n ≤ a))
section
variable (g : Gh) (L : List Ent)
set_option maxHeartbeats 8000000 in
theorem rMay8_gives (p : Pt) : Gives Tryz.prog 86 #[pt p] g L (.bool (mayB p)) := by
  refine .of (Does.of1 Tryz.func86 rfl Tryz.ntmps86 rfl ?_)
  unfold mayB inB
  obtain ⟨x, y⟩ := p
  dsimp only
  cases h1 : decide ((-1800000000 : Int) ≤ x) with
  | false =>
    repeat' (first
    | refine wkQ ?_
    | ((with_reducible apply TL.pure (d := 5) (v := .bool false)); (· exact Y.geq_b h1 rfl rfl); (· rfl)) | ((with_reducible apply TW.pure (d := 5) (v := .bool false)); (· exact Y.geq_b h1 rfl rfl); (· rfl))
    | refine wkV ?_
    | refine stS ?_ | (refine stB ?_; intro _) | (refine stC ?_; refine And.intro (fun _ => ?_) (fun _ => ?_)))
    refine TQ.endR1 (L' := L) Tryz.results86 rvA rfl (.refl _) ?_ selF
    exact ⟨rfl, rfl, rfl⟩
  | true =>
  cases h2 : decide (x ≤ (1800000000 : Int)) with
  | false =>
    repeat' (first
    | refine wkQ ?_
    | ((with_reducible apply TL.pure (d := 5) (v := .bool true)); (· exact Y.geq_b h1 rfl rfl); (· rfl)) | ((with_reducible apply TW.pure (d := 5) (v := .bool true)); (· exact Y.geq_b h1 rfl rfl); (· rfl))
    | ((with_reducible apply TL.pure (d := 9) (v := .bool false)); (· exact Y.leqB h2 rfl rfl); (· rfl)) | ((with_reducible apply TW.pure (d := 9) (v := .bool false)); (· exact Y.leqB h2 rfl rfl); (· rfl))
    | refine wkV ?_
    | refine stS ?_ | (refine stB ?_; intro _) | (refine stC ?_; refine And.intro (fun _ => ?_) (fun _ => ?_)))
    refine TQ.endR1 (L' := L) Tryz.results86 rvA rfl (.refl _) ?_ selF
    exact ⟨rfl, rfl, rfl⟩
  | true =>
  cases h3 : decide ((-900000000 : Int) ≤ y) with
  | false =>
    repeat' (first
    | refine wkQ ?_
    | ((with_reducible apply TL.pure (d := 5) (v := .bool true)); (· exact Y.geq_b h1 rfl rfl); (· rfl)) | ((with_reducible apply TW.pure (d := 5) (v := .bool true)); (· exact Y.geq_b h1 rfl rfl); (· rfl))
    | ((with_reducible apply TL.pure (d := 9) (v := .bool true)); (· exact Y.leqB h2 rfl rfl); (· rfl)) | ((with_reducible apply TW.pure (d := 9) (v := .bool true)); (· exact Y.leqB h2 rfl rfl); (· rfl))
    | ((with_reducible apply TL.pure (d := 14) (v := .bool false)); (· exact Y.geq_b h3 rfl rfl); (· rfl)) | ((with_reducible apply TW.pure (d := 14) (v := .bool false)); (· exact Y.geq_b h3 rfl rfl); (· rfl))
    | refine wkV ?_
    | refine stS ?_ | (refine stB ?_; intro _) | (refine stC ?_; refine And.intro (fun _ => ?_) (fun _ => ?_)))
    refine TQ.endR1 (L' := L) Tryz.results86 rvA rfl (.refl _) ?_ selF
    exact ⟨rfl, rfl, rfl⟩
  | true =>
  cases h4 : decide (y ≤ (900000000 : Int)) with
  | false =>
    repeat' (first
    | refine wkQ ?_
    | ((with_reducible apply TL.pure (d := 5) (v := .bool true)); (· exact Y.geq_b h1 rfl rfl); (· rfl)) | ((with_reducible apply TW.pure (d := 5) (v := .bool true)); (· exact Y.geq_b h1 rfl rfl); (· rfl))
    | ((with_reducible apply TL.pure (d := 9) (v := .bool true)); (· exact Y.leqB h2 rfl rfl); (· rfl)) | ((with_reducible apply TW.pure (d := 9) (v := .bool true)); (· exact Y.leqB h2 rfl rfl); (· rfl))
    | ((with_reducible apply TL.pure (d := 14) (v := .bool true)); (· exact Y.geq_b h3 rfl rfl); (· rfl)) | ((with_reducible apply TW.pure (d := 14) (v := .bool true)); (· exact Y.geq_b h3 rfl rfl); (· rfl))
    | ((with_reducible apply TL.pure (d := 19) (v := .bool false)); (· exact Y.leqB h4 rfl rfl); (· rfl)) | ((with_reducible apply TW.pure (d := 19) (v := .bool false)); (· exact Y.leqB h4 rfl rfl); (· rfl))
    | refine wkV ?_
    | refine stS ?_ | (refine stB ?_; intro _) | (refine stC ?_; refine And.intro (fun _ => ?_) (fun _ => ?_)))
    refine TQ.endR1 (L' := L) Tryz.results86 rvA rfl (.refl _) ?_ selF
    exact ⟨rfl, rfl, rfl⟩
  | true =>
    repeat' (first
    | refine wkQ ?_
    | ((with_reducible apply TL.pure (d := 5) (v := .bool true)); (· exact Y.geq_b h1 rfl rfl); (· rfl)) | ((with_reducible apply TW.pure (d := 5) (v := .bool true)); (· exact Y.geq_b h1 rfl rfl); (· rfl))
    | ((with_reducible apply TL.pure (d := 9) (v := .bool true)); (· exact Y.leqB h2 rfl rfl); (· rfl)) | ((with_reducible apply TW.pure (d := 9) (v := .bool true)); (· exact Y.leqB h2 rfl rfl); (· rfl))
    | ((with_reducible apply TL.pure (d := 14) (v := .bool true)); (· exact Y.geq_b h3 rfl rfl); (· rfl)) | ((with_reducible apply TW.pure (d := 14) (v := .bool true)); (· exact Y.geq_b h3 rfl rfl); (· rfl))
    | ((with_reducible apply TL.pure (d := 19) (v := .bool true)); (· exact Y.leqB h4 rfl rfl); (· rfl)) | ((with_reducible apply TW.pure (d := 19) (v := .bool true)); (· exact Y.leqB h4 rfl rfl); (· rfl))
    | refine wkV ?_
    | refine stS ?_ | (refine stB ?_; intro _) | (refine stC ?_; refine And.intro (fun _ => ?_) (fun _ => ?_)))
    refine TQ.endR1 (L' := L) Tryz.results86 rvA rfl (.refl _) ?_ selF
    exact ⟨rfl, rfl, rfl⟩
theorem rbetween8_gives (a n b : Int) : Gives Tryz.prog 105 #[.int .i64 a, .int .i64 n, .int .i64 b] g L (.bool (betwB a n b)) := by
  refine .of (Does.of3 Tryz.func105 rfl Tryz.ntmps105 rfl ?_)
  unfold betwB
  cases h1 : decide (a ≤ n) <;> cases h2 : decide (n ≤ b) <;> cases h3 : decide (b ≤ n) <;> cases h4 : decide (n ≤ a)
  all_goals
    repeat' (first
    | ((with_reducible apply TL.pure); (· exact yQ); (· rfl))
    | ((with_reducible apply TL.pure (d := 9) (v := .bool _)); (· exact Y.leqB h1 rfl rfl); (· rfl)) | ((with_reducible apply TW.pure (d := 9) (v := .bool _)); (· exact Y.leqB h1 rfl rfl); (· rfl))
    | ((with_reducible apply TL.pure (d := 13) (v := .bool _)); (· exact Y.leqB h2 rfl rfl); (· rfl)) | ((with_reducible apply TW.pure (d := 13) (v := .bool _)); (· exact Y.leqB h2 rfl rfl); (· rfl))
    | ((with_reducible apply TL.pure (d := 18) (v := .bool _)); (· exact Y.leqB h3 rfl rfl); (· rfl)) | ((with_reducible apply TW.pure (d := 18) (v := .bool _)); (· exact Y.leqB h3 rfl rfl); (· rfl))
    | ((with_reducible apply TL.pure (d := 22) (v := .bool _)); (· exact Y.leqB h4 rfl rfl); (· rfl)) | ((with_reducible apply TW.pure (d := 22) (v := .bool _)); (· exact Y.leqB h4 rfl rfl); (· rfl))
    | ((with_reducible apply TL.pure); (· exact yV); (· rfl)) | ((with_reducible apply TW.pure); (· exact yV); (· rfl))
    | refine stS ?_ | (refine stB ?_; intro _) | (refine stC ?_; refine And.intro (fun _ => ?_) (fun _ => ?_)))
    refine TQ.endR1 (L' := L) Tryz.results105 rvA rfl (.refl _) ?_ selF
    exact ⟨rfl, rfl, rfl⟩
end
theorem mul_bd {x y : Int} (_hx : -3600000000 ≤ x ∧ x ≤ 3600000000) (_hy : -1800000000 ≤ y ∧ y ≤ 1800000000) : -9223372036854775808 ≤ x * y ∧ x * y ≤ 9223372036854775807 := by
  have h1 := Int.mul_nonneg (show 0 ≤ 3600000000 - x by omega) (show 0 ≤ 1800000000 - y by omega)
  have h2 := Int.mul_nonneg (show 0 ≤ 3600000000 + x by omega) (show 0 ≤ 1800000000 + y by omega)
  have h3 := Int.mul_nonneg (show 0 ≤ 3600000000 - x by omega) (show 0 ≤ 1800000000 + y by omega)
  have h4 := Int.mul_nonneg (show 0 ≤ 3600000000 + x by omega) (show 0 ≤ 1800000000 - y by omega)
  have e1 : (3600000000 - x) * (1800000000 - y) = 3600000000 * 1800000000 - 3600000000 * y - 1800000000 * x + x * y := by grind
  have e2 : (3600000000 + x) * (1800000000 + y) = 3600000000 * 1800000000 + 3600000000 * y + 1800000000 * x + x * y := by grind
  have e3 : (3600000000 - x) * (1800000000 + y) = 3600000000 * 1800000000 + 3600000000 * y - 1800000000 * x - x * y := by grind
  have e4 : (3600000000 + x) * (1800000000 - y) = 3600000000 * 1800000000 - 3600000000 * y + 1800000000 * x - x * y := by grind
  rw [e1] at h1; rw [e2] at h2; rw [e3] at h3; rw [e4] at h4
  omega
set_option maxHeartbeats 8000000 in
theorem rTurn8_gives (a b c : Pt) (g : Gh) (L : List Ent) (ha : mayB a = true) (hb : mayB b = true) (hc : mayB c = true) : Gives Tryz.prog 97 #[pt a, pt b, pt c] g L (.int .i64 (tn a b c)) := by
  refine .of (Does.of3 Tryz.func97 rfl Tryz.ntmps97 rfl ?_)
  have ha := mayB_iff.1 ha
  have hb := mayB_iff.1 hb
  have hc := mayB_iff.1 hc
  unfold tn
  have S1 := Hn.mk (IntWalk.i64_in (b.1 - a.1) (by omega))
  have S2 := Hn.mk (IntWalk.i64_in (c.2 - a.2) (by omega))
  have S3 := Hn.mk (IntWalk.i64_in (b.2 - a.2) (by omega))
  have S4 := Hn.mk (IntWalk.i64_in (c.1 - a.1) (by omega))
  have M1 := Hn.mk (show IntKind.i64.wrap ((b.1 - a.1) * (c.2 - a.2)) = tnL a b c from IntWalk.i64_in _ (by have := mul_bd (x := b.1 - a.1) (y := c.2 - a.2) (by omega) (by omega); omega))
  have M2 := Hn.mk (show IntKind.i64.wrap ((b.2 - a.2) * (c.1 - a.1)) = tnR a b c from IntWalk.i64_in _ (by have := mul_bd (x := c.1 - a.1) (y := b.2 - a.2) (by omega) (by omega); rw [Int.mul_comm] at this; omega))
  clear ha hb hc
  generalize tnL a b c = l at *
  generalize tnR a b c = r at *
  unfold cmpG
  by_cases h1 : r < l
  · have b1 : decide (r < l) = true := decide_eq_true h1
    rw [if_neg (show ¬ l < r by omega), if_pos h1]
    repeat' (first
    | refine wkQ ?_
    | ((with_reducible apply TL.pure (d := 33) (v := .bool true)); (· exact Y.gtr_b b1 rfl rfl); (· rfl)) | ((with_reducible apply TW.pure (d := 33) (v := .bool true)); (· exact Y.gtr_b b1 rfl rfl); (· rfl))
    | refine wkV ?_
    | refine stS ?_ | (refine stB ?_; intro _) | (refine stC ?_; refine And.intro (fun _ => ?_) (fun _ => ?_))
    | ((with_reducible apply TA.takeN 0); (· rfl); (· decide +kernel); (· rfl); (· first | first | exact Y.sub rfl rfl S1.out | exact Y.sub rfl rfl S2.out | exact Y.sub rfl rfl S3.out | exact Y.sub rfl rfl S4.out | exact Y.mul rfl rfl M1.out | exact Y.mul rfl rfl M2.out | (first | exact yQ | exact yA | exact yB | exact yM | exact yV)); (· decide +kernel); (· decide +kernel); (· rfl); (· exact fun _ _ _ h => h); (· rfl))
    | ((with_reducible apply TA.takeN 1); (· rfl); (· decide +kernel); (· rfl); (· first | first | exact Y.sub rfl rfl S1.out | exact Y.sub rfl rfl S2.out | exact Y.sub rfl rfl S3.out | exact Y.sub rfl rfl S4.out | exact Y.mul rfl rfl M1.out | exact Y.mul rfl rfl M2.out | (first | exact yQ | exact yA | exact yB | exact yM | exact yV)); (· decide +kernel); (· decide +kernel); (· rfl); (· exact fun _ _ _ h => h); (· rfl))
    | ((with_reducible apply TA.takeN 2); (· rfl); (· decide +kernel); (· rfl); (· first | first | exact Y.sub rfl rfl S1.out | exact Y.sub rfl rfl S2.out | exact Y.sub rfl rfl S3.out | exact Y.sub rfl rfl S4.out | exact Y.mul rfl rfl M1.out | exact Y.mul rfl rfl M2.out | (first | exact yQ | exact yA | exact yB | exact yM | exact yV)); (· decide +kernel); (· decide +kernel); (· rfl); (· exact fun _ _ _ h => h); (· rfl))
    | ((with_reducible apply TA.takeN 3); (· rfl); (· decide +kernel); (· rfl); (· first | first | exact Y.sub rfl rfl S1.out | exact Y.sub rfl rfl S2.out | exact Y.sub rfl rfl S3.out | exact Y.sub rfl rfl S4.out | exact Y.mul rfl rfl M1.out | exact Y.mul rfl rfl M2.out | (first | exact yQ | exact yA | exact yB | exact yM | exact yV)); (· decide +kernel); (· decide +kernel); (· rfl); (· exact fun _ _ _ h => h); (· rfl))
    | ((with_reducible apply TA.take_gN 0); (· rfl); (· decide +kernel); (· rfl); (· rfl); (· rfl); (· (first | first | exact Y.sub rfl rfl S1.out | exact Y.sub rfl rfl S2.out | exact Y.sub rfl rfl S3.out | exact Y.sub rfl rfl S4.out | exact Y.mul rfl rfl M1.out | exact Y.mul rfl rfl M2.out | (first | exact yQ | exact yA | exact yB | exact yM | exact yV))); (· decide +kernel); (· decide +kernel); (· rfl); (· exact fun _ _ _ h => h); (· rfl))
    | ((with_reducible apply TA.take_gN 1); (· rfl); (· decide +kernel); (· rfl); (· rfl); (· rfl); (· (first | first | exact Y.sub rfl rfl S1.out | exact Y.sub rfl rfl S2.out | exact Y.sub rfl rfl S3.out | exact Y.sub rfl rfl S4.out | exact Y.mul rfl rfl M1.out | exact Y.mul rfl rfl M2.out | (first | exact yQ | exact yA | exact yB | exact yM | exact yV))); (· decide +kernel); (· decide +kernel); (· rfl); (· exact fun _ _ _ h => h); (· rfl))
    | ((with_reducible apply TA.take_gN 2); (· rfl); (· decide +kernel); (· rfl); (· rfl); (· rfl); (· (first | first | exact Y.sub rfl rfl S1.out | exact Y.sub rfl rfl S2.out | exact Y.sub rfl rfl S3.out | exact Y.sub rfl rfl S4.out | exact Y.mul rfl rfl M1.out | exact Y.mul rfl rfl M2.out | (first | exact yQ | exact yA | exact yB | exact yM | exact yV))); (· decide +kernel); (· decide +kernel); (· rfl); (· exact fun _ _ _ h => h); (· rfl))
    | ((with_reducible apply TA.take_gN 3); (· rfl); (· decide +kernel); (· rfl); (· rfl); (· rfl); (· (first | first | exact Y.sub rfl rfl S1.out | exact Y.sub rfl rfl S2.out | exact Y.sub rfl rfl S3.out | exact Y.sub rfl rfl S4.out | exact Y.mul rfl rfl M1.out | exact Y.mul rfl rfl M2.out | (first | exact yQ | exact yA | exact yB | exact yM | exact yV))); (· decide +kernel); (· decide +kernel); (· rfl); (· exact fun _ _ _ h => h); (· rfl))
    | refine wkX0 ?_
    | refine wkX1 ?_
    | refine wkX2 ?_
    | refine wkX3 ?_
    | ((with_reducible apply TA.oneN 0); (· rfl); (· rfl); (· decide +kernel); (· rfl))
    | ((with_reducible apply TA.oneN 1); (· rfl); (· rfl); (· decide +kernel); (· rfl))
    | ((with_reducible apply TA.oneN 2); (· rfl); (· rfl); (· decide +kernel); (· rfl))
    | ((with_reducible apply TA.oneN 3); (· rfl); (· rfl); (· decide +kernel); (· rfl))
    | refine TQ.any leF selF ?_
    | refine TC.region_any 24 (_) (by kernel_rfl) rfl selF ?_ | refine TA.done (by decide +kernel) ?_ | refine TQ.any_panic ?_)
    refine TQ.endR1 (L' := L) Tryz.results97 rvA rfl (.refl _) ?_ selF
    exact ⟨rfl, rfl, rfl⟩
  · have b1 : decide (r < l) = false := decide_eq_false h1
    by_cases h2 : l < r
    · have b2 : decide (l < r) = true := decide_eq_true h2
      rw [if_pos h2]
      repeat' (first
    | refine wkQ ?_
    | ((with_reducible apply TL.pure (d := 33) (v := .bool false)); (· exact Y.gtr_b b1 rfl rfl); (· rfl)) | ((with_reducible apply TW.pure (d := 33) (v := .bool false)); (· exact Y.gtr_b b1 rfl rfl); (· rfl))
    | ((with_reducible apply TL.pure (d := 36) (v := .bool true)); (· exact Y.lss_b b2 rfl rfl); (· rfl)) | ((with_reducible apply TW.pure (d := 36) (v := .bool true)); (· exact Y.lss_b b2 rfl rfl); (· rfl))
    | refine wkV ?_
    | refine stS ?_ | (refine stB ?_; intro _) | (refine stC ?_; refine And.intro (fun _ => ?_) (fun _ => ?_))
    | ((with_reducible apply TA.takeN 0); (· rfl); (· decide +kernel); (· rfl); (· first | first | exact Y.sub rfl rfl S1.out | exact Y.sub rfl rfl S2.out | exact Y.sub rfl rfl S3.out | exact Y.sub rfl rfl S4.out | exact Y.mul rfl rfl M1.out | exact Y.mul rfl rfl M2.out | (first | exact yQ | exact yA | exact yB | exact yM | exact yV)); (· decide +kernel); (· decide +kernel); (· rfl); (· exact fun _ _ _ h => h); (· rfl))
    | ((with_reducible apply TA.takeN 1); (· rfl); (· decide +kernel); (· rfl); (· first | first | exact Y.sub rfl rfl S1.out | exact Y.sub rfl rfl S2.out | exact Y.sub rfl rfl S3.out | exact Y.sub rfl rfl S4.out | exact Y.mul rfl rfl M1.out | exact Y.mul rfl rfl M2.out | (first | exact yQ | exact yA | exact yB | exact yM | exact yV)); (· decide +kernel); (· decide +kernel); (· rfl); (· exact fun _ _ _ h => h); (· rfl))
    | ((with_reducible apply TA.takeN 2); (· rfl); (· decide +kernel); (· rfl); (· first | first | exact Y.sub rfl rfl S1.out | exact Y.sub rfl rfl S2.out | exact Y.sub rfl rfl S3.out | exact Y.sub rfl rfl S4.out | exact Y.mul rfl rfl M1.out | exact Y.mul rfl rfl M2.out | (first | exact yQ | exact yA | exact yB | exact yM | exact yV)); (· decide +kernel); (· decide +kernel); (· rfl); (· exact fun _ _ _ h => h); (· rfl))
    | ((with_reducible apply TA.takeN 3); (· rfl); (· decide +kernel); (· rfl); (· first | first | exact Y.sub rfl rfl S1.out | exact Y.sub rfl rfl S2.out | exact Y.sub rfl rfl S3.out | exact Y.sub rfl rfl S4.out | exact Y.mul rfl rfl M1.out | exact Y.mul rfl rfl M2.out | (first | exact yQ | exact yA | exact yB | exact yM | exact yV)); (· decide +kernel); (· decide +kernel); (· rfl); (· exact fun _ _ _ h => h); (· rfl))
    | ((with_reducible apply TA.take_gN 0); (· rfl); (· decide +kernel); (· rfl); (· rfl); (· rfl); (· (first | first | exact Y.sub rfl rfl S1.out | exact Y.sub rfl rfl S2.out | exact Y.sub rfl rfl S3.out | exact Y.sub rfl rfl S4.out | exact Y.mul rfl rfl M1.out | exact Y.mul rfl rfl M2.out | (first | exact yQ | exact yA | exact yB | exact yM | exact yV))); (· decide +kernel); (· decide +kernel); (· rfl); (· exact fun _ _ _ h => h); (· rfl))
    | ((with_reducible apply TA.take_gN 1); (· rfl); (· decide +kernel); (· rfl); (· rfl); (· rfl); (· (first | first | exact Y.sub rfl rfl S1.out | exact Y.sub rfl rfl S2.out | exact Y.sub rfl rfl S3.out | exact Y.sub rfl rfl S4.out | exact Y.mul rfl rfl M1.out | exact Y.mul rfl rfl M2.out | (first | exact yQ | exact yA | exact yB | exact yM | exact yV))); (· decide +kernel); (· decide +kernel); (· rfl); (· exact fun _ _ _ h => h); (· rfl))
    | ((with_reducible apply TA.take_gN 2); (· rfl); (· decide +kernel); (· rfl); (· rfl); (· rfl); (· (first | first | exact Y.sub rfl rfl S1.out | exact Y.sub rfl rfl S2.out | exact Y.sub rfl rfl S3.out | exact Y.sub rfl rfl S4.out | exact Y.mul rfl rfl M1.out | exact Y.mul rfl rfl M2.out | (first | exact yQ | exact yA | exact yB | exact yM | exact yV))); (· decide +kernel); (· decide +kernel); (· rfl); (· exact fun _ _ _ h => h); (· rfl))
    | ((with_reducible apply TA.take_gN 3); (· rfl); (· decide +kernel); (· rfl); (· rfl); (· rfl); (· (first | first | exact Y.sub rfl rfl S1.out | exact Y.sub rfl rfl S2.out | exact Y.sub rfl rfl S3.out | exact Y.sub rfl rfl S4.out | exact Y.mul rfl rfl M1.out | exact Y.mul rfl rfl M2.out | (first | exact yQ | exact yA | exact yB | exact yM | exact yV))); (· decide +kernel); (· decide +kernel); (· rfl); (· exact fun _ _ _ h => h); (· rfl))
    | refine wkX0 ?_
    | refine wkX1 ?_
    | refine wkX2 ?_
    | refine wkX3 ?_
    | ((with_reducible apply TA.oneN 0); (· rfl); (· rfl); (· decide +kernel); (· rfl))
    | ((with_reducible apply TA.oneN 1); (· rfl); (· rfl); (· decide +kernel); (· rfl))
    | ((with_reducible apply TA.oneN 2); (· rfl); (· rfl); (· decide +kernel); (· rfl))
    | ((with_reducible apply TA.oneN 3); (· rfl); (· rfl); (· decide +kernel); (· rfl))
    | refine TQ.any leF selF ?_
    | refine TC.region_any 24 (_) (by kernel_rfl) rfl selF ?_ | refine TA.done (by decide +kernel) ?_ | refine TQ.any_panic ?_)
      refine TQ.endR1 (L' := L) Tryz.results97 rvA rfl (.refl _) ?_ selF
      exact ⟨rfl, rfl, rfl⟩
    · have b2 : decide (l < r) = false := decide_eq_false h2
      rw [if_neg h2, if_neg h1]
      repeat' (first
    | refine wkQ ?_
    | ((with_reducible apply TL.pure (d := 33) (v := .bool false)); (· exact Y.gtr_b b1 rfl rfl); (· rfl)) | ((with_reducible apply TW.pure (d := 33) (v := .bool false)); (· exact Y.gtr_b b1 rfl rfl); (· rfl))
    | ((with_reducible apply TL.pure (d := 36) (v := .bool false)); (· exact Y.lss_b b2 rfl rfl); (· rfl)) | ((with_reducible apply TW.pure (d := 36) (v := .bool false)); (· exact Y.lss_b b2 rfl rfl); (· rfl))
    | refine wkV ?_
    | refine stS ?_ | (refine stB ?_; intro _) | (refine stC ?_; refine And.intro (fun _ => ?_) (fun _ => ?_))
    | ((with_reducible apply TA.takeN 0); (· rfl); (· decide +kernel); (· rfl); (· first | first | exact Y.sub rfl rfl S1.out | exact Y.sub rfl rfl S2.out | exact Y.sub rfl rfl S3.out | exact Y.sub rfl rfl S4.out | exact Y.mul rfl rfl M1.out | exact Y.mul rfl rfl M2.out | (first | exact yQ | exact yA | exact yB | exact yM | exact yV)); (· decide +kernel); (· decide +kernel); (· rfl); (· exact fun _ _ _ h => h); (· rfl))
    | ((with_reducible apply TA.takeN 1); (· rfl); (· decide +kernel); (· rfl); (· first | first | exact Y.sub rfl rfl S1.out | exact Y.sub rfl rfl S2.out | exact Y.sub rfl rfl S3.out | exact Y.sub rfl rfl S4.out | exact Y.mul rfl rfl M1.out | exact Y.mul rfl rfl M2.out | (first | exact yQ | exact yA | exact yB | exact yM | exact yV)); (· decide +kernel); (· decide +kernel); (· rfl); (· exact fun _ _ _ h => h); (· rfl))
    | ((with_reducible apply TA.takeN 2); (· rfl); (· decide +kernel); (· rfl); (· first | first | exact Y.sub rfl rfl S1.out | exact Y.sub rfl rfl S2.out | exact Y.sub rfl rfl S3.out | exact Y.sub rfl rfl S4.out | exact Y.mul rfl rfl M1.out | exact Y.mul rfl rfl M2.out | (first | exact yQ | exact yA | exact yB | exact yM | exact yV)); (· decide +kernel); (· decide +kernel); (· rfl); (· exact fun _ _ _ h => h); (· rfl))
    | ((with_reducible apply TA.takeN 3); (· rfl); (· decide +kernel); (· rfl); (· first | first | exact Y.sub rfl rfl S1.out | exact Y.sub rfl rfl S2.out | exact Y.sub rfl rfl S3.out | exact Y.sub rfl rfl S4.out | exact Y.mul rfl rfl M1.out | exact Y.mul rfl rfl M2.out | (first | exact yQ | exact yA | exact yB | exact yM | exact yV)); (· decide +kernel); (· decide +kernel); (· rfl); (· exact fun _ _ _ h => h); (· rfl))
    | ((with_reducible apply TA.take_gN 0); (· rfl); (· decide +kernel); (· rfl); (· rfl); (· rfl); (· (first | first | exact Y.sub rfl rfl S1.out | exact Y.sub rfl rfl S2.out | exact Y.sub rfl rfl S3.out | exact Y.sub rfl rfl S4.out | exact Y.mul rfl rfl M1.out | exact Y.mul rfl rfl M2.out | (first | exact yQ | exact yA | exact yB | exact yM | exact yV))); (· decide +kernel); (· decide +kernel); (· rfl); (· exact fun _ _ _ h => h); (· rfl))
    | ((with_reducible apply TA.take_gN 1); (· rfl); (· decide +kernel); (· rfl); (· rfl); (· rfl); (· (first | first | exact Y.sub rfl rfl S1.out | exact Y.sub rfl rfl S2.out | exact Y.sub rfl rfl S3.out | exact Y.sub rfl rfl S4.out | exact Y.mul rfl rfl M1.out | exact Y.mul rfl rfl M2.out | (first | exact yQ | exact yA | exact yB | exact yM | exact yV))); (· decide +kernel); (· decide +kernel); (· rfl); (· exact fun _ _ _ h => h); (· rfl))
    | ((with_reducible apply TA.take_gN 2); (· rfl); (· decide +kernel); (· rfl); (· rfl); (· rfl); (· (first | first | exact Y.sub rfl rfl S1.out | exact Y.sub rfl rfl S2.out | exact Y.sub rfl rfl S3.out | exact Y.sub rfl rfl S4.out | exact Y.mul rfl rfl M1.out | exact Y.mul rfl rfl M2.out | (first | exact yQ | exact yA | exact yB | exact yM | exact yV))); (· decide +kernel); (· decide +kernel); (· rfl); (· exact fun _ _ _ h => h); (· rfl))
    | ((with_reducible apply TA.take_gN 3); (· rfl); (· decide +kernel); (· rfl); (· rfl); (· rfl); (· (first | first | exact Y.sub rfl rfl S1.out | exact Y.sub rfl rfl S2.out | exact Y.sub rfl rfl S3.out | exact Y.sub rfl rfl S4.out | exact Y.mul rfl rfl M1.out | exact Y.mul rfl rfl M2.out | (first | exact yQ | exact yA | exact yB | exact yM | exact yV))); (· decide +kernel); (· decide +kernel); (· rfl); (· exact fun _ _ _ h => h); (· rfl))
    | refine wkX0 ?_
    | refine wkX1 ?_
    | refine wkX2 ?_
    | refine wkX3 ?_
    | ((with_reducible apply TA.oneN 0); (· rfl); (· rfl); (· decide +kernel); (· rfl))
    | ((with_reducible apply TA.oneN 1); (· rfl); (· rfl); (· decide +kernel); (· rfl))
    | ((with_reducible apply TA.oneN 2); (· rfl); (· rfl); (· decide +kernel); (· rfl))
    | ((with_reducible apply TA.oneN 3); (· rfl); (· rfl); (· decide +kernel); (· rfl))
    | refine TQ.any leF selF ?_
    | refine TC.region_any 24 (_) (by kernel_rfl) rfl selF ?_ | refine TA.done (by decide +kernel) ?_ | refine TQ.any_panic ?_)
      refine TQ.endR1 (L' := L) Tryz.results97 rvA rfl (.refl _) ?_ selF
      exact ⟨rfl, rfl, rfl⟩
end Go.Proofs.YtfanccddokckcaaGreatDoor
