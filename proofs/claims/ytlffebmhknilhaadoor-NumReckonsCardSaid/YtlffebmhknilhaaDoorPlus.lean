/-
  The walk of num.Plus.
-/
import Derived.Test.YtlffebmhknilhaaDoorPrint
namespace Go.Proofs.YtlffebmhknilhaaDoor
open Go.RowKit

def heldB (n : Int) : Bool := decide (-9000000000000000000 ≤ n) && decide (n ≤ 9000000000000000000)
def plusL (a b : Int) : Int × Int :=
  if heldB a = true ∧ heldB b = true then (if 9000000000000000000 < a + b ∨ a + b < -9000000000000000000 then (0, 12) else (a + b, 0)) else (0, 2)
theorem heldB_iff {n : Int} : heldB n = true ↔ -9000000000000000000 ≤ n ∧ n ≤ 9000000000000000000 := by
  rw [heldB, Bool.and_eq_true, decide_eq_true_iff, decide_eq_true_iff]

set_option maxRecDepth 100000 in
set_option maxHeartbeats 4000000 in
theorem plus_any (a b : Int) (w : World) (a0 : -9223372036854775808 ≤ a) (a1 : a ≤ 9223372036854775807) (b0 : -9223372036854775808 ≤ b) (b1 : b ≤ 9223372036854775807) :
    Calls Tryd.prog 16 #[.int .i64 a, .int .i64 b] w fun e w' => e = .returned (.tuple #[.int .i64 (plusL a b).1, .int .i64 (plusL a b).2]) ∧ w' = w := by
  have HA : Hid (∀ W, Calls Tryd.prog 27 #[.int .i64 a] W fun e w' => e = .returned (.bool (heldB a)) ∧ w' = W) := fun W => held_any a W a0 a1
  have HB : Hid (∀ W, Calls Tryd.prog 27 #[.int .i64 b] W fun e w' => e = .returned (.bool (heldB b)) ∧ w' = W) := fun W => held_any b W b0 b1
  cases hha : heldB a with
  | false =>
    rw [hha] at HA
    have Hv : Hid (plusL a b = (0, 2)) := by show _ = _; rw [plusL, if_neg (by rw [hha]; simp)]
    clear hha
    go_enter Tryd.func16, Tryd.ntmps16
    go_wp2_with fail
    refine (HA.out _).mono ?_
    rintro e w1 ⟨rfl, rfl⟩
    go_wp2_with fail
    go_ret2
    exact ⟨by rw [Hv.out] <;> rfl, rfl⟩
  | true =>
    rw [hha] at HA
    cases hhb : heldB b with
    | false =>
      rw [hhb] at HB
      have Hv : Hid (plusL a b = (0, 2)) := by show _ = _; rw [plusL, if_neg (by rw [hhb]; simp)]
      clear hha hhb
      go_enter Tryd.func16, Tryd.ntmps16
      go_wp2_with fail
      refine (HA.out _).mono ?_
      rintro e w1 ⟨rfl, rfl⟩
      go_wp2_with fail
      refine (HB.out _).mono ?_
      rintro e w1 ⟨rfl, rfl⟩
      go_wp2_with fail
      go_ret2
      exact ⟨by rw [Hv.out] <;> rfl, rfl⟩
    | true =>
      rw [hhb] at HB
      obtain ⟨ga0, ga1⟩ := heldB_iff.1 hha
      obtain ⟨gb0, gb1⟩ := heldB_iff.1 hhb
      have Hp : Hid (plusL a b = (if 9000000000000000000 < a + b ∨ a + b < -9000000000000000000 then (0, 12) else (a + b, 0))) := by show _ = _; rw [plusL, if_pos ⟨hha, hhb⟩]
      clear hha hhb
      go_enter Tryd.func16, Tryd.ntmps16
      go_wp2_with fail
      refine (HA.out _).mono ?_
      rintro e w1 ⟨rfl, rfl⟩
      go_wp2_with fail
      refine (HB.out _).mono ?_
      rintro e w1 ⟨rfl, rfl⟩
      rcases Int.lt_trichotomy b 0 with hb | hb | hb
      · have c1 : decide (b > 0) = false := by rw [decide_eq_false_iff_not]; omega
        have c1' : decide (0 < b) = false := c1
        have c2 : decide (b < 0) = true := by rw [decide_eq_true_iff]; exact hb
        by_cases hlow : a < -9000000000000000000 - b
        · have c3 : decide (a < -9000000000000000000 - b) = true := by rw [decide_eq_true_iff]; exact hlow
          have Hv : Hid (plusL a b = (0, 12)) := by show _ = _; rw [Hp.out, if_pos (.inr (by omega))]
          clear hlow
          go_wp2_with fail
          go_ret2
          exact ⟨by rw [Hv.out] <;> rfl, rfl⟩
        · have c3 : decide (a < -9000000000000000000 - b) = false := by rw [decide_eq_false_iff_not]; exact hlow
          have Hv : Hid (plusL a b = (a + b, 0)) := by show _ = _; rw [Hp.out, if_neg (by omega)]
          go_wp2_with fail
          go_ret2
          exact ⟨by rw [Hv.out] <;> rfl, rfl⟩
      · subst hb
        have Hv : Hid (plusL a 0 = (a, 0)) := by show _ = _; rw [Hp.out, if_neg (by omega), Int.add_zero]
        go_wp2_with fail
        go_ret2
        exact ⟨by rw [Hv.out] <;> rfl, rfl⟩
      · have c1 : decide (b > 0) = true := by rw [decide_eq_true_iff]; omega
        have c1' : decide (0 < b) = true := c1
        have c2 : decide (b < 0) = false := by rw [decide_eq_false_iff_not]; omega
        by_cases hhigh : a > 9000000000000000000 - b
        · have c3 : decide (a > 9000000000000000000 - b) = true := by rw [decide_eq_true_iff]; exact hhigh
          have c3' : decide (9000000000000000000 - b < a) = true := c3
          have Hv : Hid (plusL a b = (0, 12)) := by show _ = _; rw [Hp.out, if_pos (.inl (by omega))]
          clear hhigh
          go_wp2_with fail
          go_ret2
          exact ⟨by rw [Hv.out] <;> rfl, rfl⟩
        · have c3 : decide (a > 9000000000000000000 - b) = false := by rw [decide_eq_false_iff_not]; exact hhigh
          have c3' : decide (9000000000000000000 - b < a) = false := c3
          have Hv : Hid (plusL a b = (a + b, 0)) := by show _ = _; rw [Hp.out, if_neg (by omega)]
          go_wp2_with fail
          go_ret2
          exact ⟨by rw [Hv.out] <;> rfl, rfl⟩
end Go.Proofs.YtlffebmhknilhaaDoor
