/-
  The walk of num.Plus. The walk of num.Times.
-/
import Derived.Test.YthngolfabfijpaaGreatDoorHc7
import Derived.Test.YthngolfabfijpaaGreatDoorHc2
import Derived.Test.YthngolfabfijpaaGreatDoorHc29
namespace Go.Proofs.YthngolfabfijpaaGreatDoor
open Go.RowKit

def plusL (a b : Int) : Int × Int :=
  if heldB a = true ∧ heldB b = true then (if 9000000000000000000 < a + b ∨ a + b < -9000000000000000000 then (0, 12) else (a + b, 0)) else (0, 2)
set_option maxRecDepth 100000 in
set_option maxHeartbeats 4000000 in
theorem plus_any (a b : Int) (w : World) (a0 : -9223372036854775808 ≤ a) (a1 : a ≤ 9223372036854775807) (b0 : -9223372036854775808 ≤ b) (b1 : b ≤ 9223372036854775807) :
    Calls Tryz.prog 98 #[.int .i64 a, .int .i64 b] w fun e w' => e = .returned (.tuple #[.int .i64 (plusL a b).1, .int .i64 (plusL a b).2]) ∧ w' = w := by
  have HA : Hid (∀ W, Calls Tryz.prog 118 #[.int .i64 a] W fun e w' => e = .returned (.bool (heldB a)) ∧ w' = W) := fun W => held_any a W a0 a1
  have HB : Hid (∀ W, Calls Tryz.prog 118 #[.int .i64 b] W fun e w' => e = .returned (.bool (heldB b)) ∧ w' = W) := fun W => held_any b W b0 b1
  cases hha : heldB a with
  | false =>
    rw [hha] at HA
    have Hv : Hid (plusL a b = (0, 2)) := by show _ = _; rw [plusL, if_neg (by rw [hha]; simp)]
    clear hha
    go_enter Tryz.func98, Tryz.ntmps98
    go_wp2_with fail
    refine (HA.out _).mono ?_
    rintro e w1 ⟨rfl, rfl⟩
    go_wp2_with fail
    go_ret2
    exact ⟨by rw [Hv.out] <;> rfl, rfl⟩
  | true =>
    rw [hha] at HA
    cases hhb : heldB b with
    | false =>
      rw [hhb] at HB
      have Hv : Hid (plusL a b = (0, 2)) := by show _ = _; rw [plusL, if_neg (by rw [hhb]; simp)]
      clear hha hhb
      go_enter Tryz.func98, Tryz.ntmps98
      go_wp2_with fail
      refine (HA.out _).mono ?_
      rintro e w1 ⟨rfl, rfl⟩
      go_wp2_with fail
      refine (HB.out _).mono ?_
      rintro e w1 ⟨rfl, rfl⟩
      go_wp2_with fail
      go_ret2
      exact ⟨by rw [Hv.out] <;> rfl, rfl⟩
    | true =>
      rw [hhb] at HB
      obtain ⟨ga0, ga1⟩ := heldB_iff.1 hha
      obtain ⟨gb0, gb1⟩ := heldB_iff.1 hhb
      have Hp : Hid (plusL a b = (if 9000000000000000000 < a + b ∨ a + b < -9000000000000000000 then (0, 12) else (a + b, 0))) := by show _ = _; rw [plusL, if_pos ⟨hha, hhb⟩]
      clear hha hhb
      go_enter Tryz.func98, Tryz.ntmps98
      go_wp2_with fail
      refine (HA.out _).mono ?_
      rintro e w1 ⟨rfl, rfl⟩
      go_wp2_with fail
      refine (HB.out _).mono ?_
      rintro e w1 ⟨rfl, rfl⟩
      rcases Int.lt_trichotomy b 0 with hb | hb | hb
      · have c1 : decide (b > 0) = false := by rw [decide_eq_false_iff_not]; omega
        have c1' : decide (0 < b) = false := c1
        have c2 : decide (b < 0) = true := by rw [decide_eq_true_iff]; exact hb
        by_cases hlow : a < -9000000000000000000 - b
        · have c3 : decide (a < -9000000000000000000 - b) = true := by rw [decide_eq_true_iff]; exact hlow
          have Hv : Hid (plusL a b = (0, 12)) := by show _ = _; rw [Hp.out, if_pos (.inr (by omega))]
          clear hlow
          go_wp2_with fail
          go_ret2
          exact ⟨by rw [Hv.out] <;> rfl, rfl⟩
        · have c3 : decide (a < -9000000000000000000 - b) = false := by rw [decide_eq_false_iff_not]; exact hlow
          have Hv : Hid (plusL a b = (a + b, 0)) := by show _ = _; rw [Hp.out, if_neg (by omega)]
          go_wp2_with fail
          go_ret2
          exact ⟨by rw [Hv.out] <;> rfl, rfl⟩
      · subst hb
        have Hv : Hid (plusL a 0 = (a, 0)) := by show _ = _; rw [Hp.out, if_neg (by omega), Int.add_zero]
        go_wp2_with fail
        go_ret2
        exact ⟨by rw [Hv.out] <;> rfl, rfl⟩
      · have c1 : decide (b > 0) = true := by rw [decide_eq_true_iff]; omega
        have c1' : decide (0 < b) = true := c1
        have c2 : decide (b < 0) = false := by rw [decide_eq_false_iff_not]; omega
        by_cases hhigh : a > 9000000000000000000 - b
        · have c3 : decide (a > 9000000000000000000 - b) = true := by rw [decide_eq_true_iff]; exact hhigh
          have c3' : decide (9000000000000000000 - b < a) = true := c3
          have Hv : Hid (plusL a b = (0, 12)) := by show _ = _; rw [Hp.out, if_pos (.inl (by omega))]
          clear hhigh
          go_wp2_with fail
          go_ret2
          exact ⟨by rw [Hv.out] <;> rfl, rfl⟩
        · have c3 : decide (a > 9000000000000000000 - b) = false := by rw [decide_eq_false_iff_not]; exact hhigh
          have c3' : decide (9000000000000000000 - b < a) = false := c3
          have Hv : Hid (plusL a b = (a + b, 0)) := by show _ = _; rw [Hp.out, if_neg (by omega)]
          go_wp2_with fail
          go_ret2
          exact ⟨by rw [Hv.out] <;> rfl, rfl⟩
end Go.Proofs.YthngolfabfijpaaGreatDoor
namespace Go.Proofs.YthngolfabfijpaaGreatDoor
open Go.RowKit Go.TL
set_option maxRecDepth 100000

theorem nHeld_gives (n : Int) (g : Gh) (L : List Ent) (h0 : -9223372036854775808 ≤ n) (h1 : n ≤ 9223372036854775807) : Gives Tryz.prog 118 #[.int .i64 n] g L (.bool (heldB n)) := .same fun w => held_any n w h0 h1
theorem nsize_gives (n : Int) (g : Gh) (L : List Ent) (h0 : -9223372036854775807 ≤ n) (h1 : n ≤ 9223372036854775807) : Gives Tryz.prog 119 #[.int .i64 n] g L (.int .u64 (n.natAbs : Nat)) := .same fun w => size_any n w h0 h1
theorem nPlus_gives (a b : Int) (g : Gh) (L : List Ent) (a0 : -9223372036854775808 ≤ a) (a1 : a ≤ 9223372036854775807) (b0 : -9223372036854775808 ≤ b) (b1 : b ≤ 9223372036854775807) : Gives Tryz.prog 98 #[.int .i64 a, .int .i64 b] g L (.tuple #[.int .i64 (plusL a b).1, .int .i64 (plusL a b).2]) := .same fun w => plus_any a b w a0 a1 b0 b1
theorem mul64_gives (x y : Nat) (g : Gh) (L : List Ent) (hx : x < 18446744073709551616) (hy : y < 18446744073709551616) : Gives Tryz.prog 135 #[.int .u64 x, .int .u64 y] g L (.tuple #[.int .u64 ((x * y / 18446744073709551616 : Nat) : Int), .int .u64 ((x * y % 18446744073709551616 : Nat) : Int)]) := .same fun w => Tryz.bits_Mul64 x y hx hy w
def timesV (s : Bool) (p : Nat) : Int × Int := if p % 10000000 ≠ 0 ∨ 9000000000000000000 < p / 10000000 then (0, 12) else (if s = true then -((p / 10000000 : Nat) : Int) else ((p / 10000000 : Nat) : Int), 0)
def timesL (a b : Int) : Int × Int := if heldB a = true ∧ heldB b = true then timesV (decide (a < 0) != decide (b < 0)) (a.natAbs * b.natAbs) else (0, 2)
set_option maxHeartbeats 4000000 in
theorem nTimes_gives (a b : Int) (g : Gh) (L : List Ent) (a0 : -9223372036854775808 ≤ a) (a1 : a ≤ 9223372036854775807) (b0 : -9223372036854775808 ≤ b) (b1 : b ≤ 9223372036854775807) : Gives Tryz.prog 99 #[.int .i64 a, .int .i64 b] g L (.tuple #[.int .i64 (timesL a b).1, .int .i64 (timesL a b).2]) := by
  have A1 := nHeld_gives a g L a0 a1
  have A2 := nHeld_gives b g L b0 b1
  obtain ⟨T, hT⟩ : ∃ T, T = timesL a b := ⟨_, rfl⟩
  rw [← hT]
  unfold timesL at hT
  cases ha : heldB a with
  | false =>
    rw [ha] at A1 hT
    rw [if_neg (by simp)] at hT
    subst hT
    refine .of (Does.of2 Tryz.func99 rfl Tryz.ntmps99 rfl ?_)
    repeat' (first
    | ((with_reducible apply TL.gives_plain); (· kernel_rfl); (· rfl); (· exact A1); (· rfl)) | ((with_reducible apply TW.gives_plain); (· kernel_rfl); (· rfl); (· exact A1); (· rfl))
    | refine wkP ?_
    | ((with_reducible apply TL.byteK); (· rfl); (· rfl); (· exact natA); (· assumption); (· rfl); intro _) | ((with_reducible apply TL.byte); (· rfl); (· rfl); (· exact natA); (· exact omA); (· rfl); intro _ _ _)
    | refine stS ?_ | (refine stB ?_; intro _) | (refine stC ?_; refine And.intro (fun _ => ?_) (fun _ => ?_))
    | apply TC.region_draw (by kernel_rfl) (by kernel_rfl) | refine TW.nil ?_ | ((with_reducible apply TW.pure); (· exact yA); (· rfl))
    | ((with_reducible apply TL.range_str); (· rfl); (· rfl); intro _) | ((with_reducible apply TL.next_str); (· rfl); (· exact pkA); (· rfl); all_goals intro _)
    | ((with_reducible apply TW.byteK); (· rfl); (· rfl); (· exact natA); (· assumption); (· rfl); intro _) | ((with_reducible apply TW.byte); (· rfl); (· rfl); (· exact natA); (· exact omA); (· rfl); intro _ _ _)
    | refine TW.guard_yes rfl rfl ?_ | refine TW.guard_no rfl rfl rfl rfl ?_ | refine TW.guard_undef rfl rfl rfl ?_ | refine TW.guard rfl rfl rfl ?_)
    refine TQ.endR2 (L' := L) Tryz.results99 rvA rvA rfl (.refl _) ?_ selA
    exact ⟨rfl, rfl, rfl⟩
  | true =>
  cases hb : heldB b with
  | false =>
    rw [ha] at A1
    rw [hb] at A2 hT
    rw [if_neg (by simp)] at hT
    subst hT
    refine .of (Does.of2 Tryz.func99 rfl Tryz.ntmps99 rfl ?_)
    repeat' (first
    | ((with_reducible apply TL.gives_plain); (· kernel_rfl); (· rfl); (· exact A1); (· rfl)) | ((with_reducible apply TW.gives_plain); (· kernel_rfl); (· rfl); (· exact A1); (· rfl))
    | ((with_reducible apply TL.gives_plain); (· kernel_rfl); (· rfl); (· exact A2); (· rfl)) | ((with_reducible apply TW.gives_plain); (· kernel_rfl); (· rfl); (· exact A2); (· rfl))
    | refine wkP ?_
    | ((with_reducible apply TL.byteK); (· rfl); (· rfl); (· exact natA); (· assumption); (· rfl); intro _) | ((with_reducible apply TL.byte); (· rfl); (· rfl); (· exact natA); (· exact omA); (· rfl); intro _ _ _)
    | refine stS ?_ | (refine stB ?_; intro _) | (refine stC ?_; refine And.intro (fun _ => ?_) (fun _ => ?_))
    | apply TC.region_draw (by kernel_rfl) (by kernel_rfl) | refine TW.nil ?_ | ((with_reducible apply TW.pure); (· exact yA); (· rfl))
    | ((with_reducible apply TL.range_str); (· rfl); (· rfl); intro _) | ((with_reducible apply TL.next_str); (· rfl); (· exact pkA); (· rfl); all_goals intro _)
    | ((with_reducible apply TW.byteK); (· rfl); (· rfl); (· exact natA); (· assumption); (· rfl); intro _) | ((with_reducible apply TW.byte); (· rfl); (· rfl); (· exact natA); (· exact omA); (· rfl); intro _ _ _)
    | refine TW.guard_yes rfl rfl ?_ | refine TW.guard_no rfl rfl rfl rfl ?_ | refine TW.guard_undef rfl rfl rfl ?_ | refine TW.guard rfl rfl rfl ?_)
    refine TQ.endR2 (L' := L) Tryz.results99 rvA rvA rfl (.refl _) ?_ selA
    exact ⟨rfl, rfl, rfl⟩
  | true =>
  rw [ha] at A1
  rw [hb] at A2
  rw [if_pos ⟨ha, hb⟩] at hT
  obtain ⟨x0, x1⟩ := heldB_iff.1 ha
  obtain ⟨y0, y1⟩ := heldB_iff.1 hb
  have A3 := nsize_gives a g L (by omega) (by omega)
  have A4 := nsize_gives b g L (by omega) (by omega)
  have A5 := mul64_gives a.natAbs b.natAbs g L (by omega) (by omega)
  have hp : a.natAbs * b.natAbs ≤ 9000000000000000000 * 9000000000000000000 := Nat.mul_le_mul (by omega) (by omega)
  generalize a.natAbs = u at *
  generalize b.natAbs = v at *
  generalize u * v = p at *
  obtain ⟨h, hh⟩ : ∃ h, h = p / 18446744073709551616 := ⟨_, rfl⟩
  obtain ⟨lo, hlo⟩ : ∃ lo, lo = p % 18446744073709551616 := ⟨_, rfl⟩
  have hpe : p = h * 18446744073709551616 + lo := by omega
  have hl2 : lo < 18446744073709551616 := by omega
  rw [← hh, ← hlo] at A5
  clear hh hlo ha hb
  by_cases hbig : 10000000 ≤ h
  · have hT2 : T = (0, 12) := by rw [hT, timesV, if_pos]; right; omega
    subst hT2
    have hh2 : h ≤ 9000000000000000000 := by omega
    clear hT hp hpe
    refine .of (Does.of2 Tryz.func99 rfl Tryz.ntmps99 rfl ?_)
    repeat' (first
    | ((with_reducible apply TL.gives_plain); (· kernel_rfl); (· rfl); (· exact A1); (· rfl)) | ((with_reducible apply TW.gives_plain); (· kernel_rfl); (· rfl); (· exact A1); (· rfl))
    | ((with_reducible apply TL.gives_plain); (· kernel_rfl); (· rfl); (· exact A2); (· rfl)) | ((with_reducible apply TW.gives_plain); (· kernel_rfl); (· rfl); (· exact A2); (· rfl))
    | ((with_reducible apply TL.gives_plain); (· kernel_rfl); (· rfl); (· exact A3); (· rfl)) | ((with_reducible apply TW.gives_plain); (· kernel_rfl); (· rfl); (· exact A3); (· rfl))
    | ((with_reducible apply TL.gives_plain); (· kernel_rfl); (· rfl); (· exact A4); (· rfl)) | ((with_reducible apply TW.gives_plain); (· kernel_rfl); (· rfl); (· exact A4); (· rfl))
    | ((with_reducible apply TL.gives_plain); (· kernel_rfl); (· rfl); (· exact A5); (· rfl)) | ((with_reducible apply TW.gives_plain); (· kernel_rfl); (· rfl); (· exact A5); (· rfl))
    | refine wkP ?_
    | ((with_reducible apply TL.byteK); (· rfl); (· rfl); (· exact natA); (· assumption); (· rfl); intro _) | ((with_reducible apply TL.byte); (· rfl); (· rfl); (· exact natA); (· exact omA); (· rfl); intro _ _ _)
    | refine stS ?_ | (refine stB ?_; intro _) | (refine stC ?_; refine And.intro (fun _ => ?_) (fun _ => ?_))
    | apply TC.region_draw (by kernel_rfl) (by kernel_rfl) | refine TW.nil ?_ | ((with_reducible apply TW.pure); (· exact yA); (· rfl))
    | ((with_reducible apply TL.range_str); (· rfl); (· rfl); intro _) | ((with_reducible apply TL.next_str); (· rfl); (· exact pkA); (· rfl); all_goals intro _)
    | ((with_reducible apply TW.byteK); (· rfl); (· rfl); (· exact natA); (· assumption); (· rfl); intro _) | ((with_reducible apply TW.byte); (· rfl); (· rfl); (· exact natA); (· exact omA); (· rfl); intro _ _ _)
    | refine TW.guard_yes rfl rfl ?_ | refine TW.guard_no rfl rfl rfl rfl ?_ | refine TW.guard_undef rfl rfl rfl ?_ | refine TW.guard rfl rfl rfl ?_)
    refine TQ.endR2 (L' := L) Tryz.results99 rvA rvA rfl (.refl _) ?_ selA
    exact ⟨rfl, rfl, rfl⟩
  have A6 := div64_gives h lo g L (by omega) hl2
  rw [← hpe] at A6
  unfold timesV at hT
  obtain ⟨q, hq⟩ : ∃ q, q = p / 10000000 := ⟨_, rfl⟩
  obtain ⟨r, hr⟩ : ∃ r, r = p % 10000000 := ⟨_, rfl⟩
  rw [← hq, ← hr] at A6 hT
  have hq2 : q < 18446744073709551616 := by omega
  have hr2 : r < 10000000 := by omega
  have hh2 : h < 10000000 := by omega
  clear hp hpe hbig hq hr
  by_cases hbad : r ≠ 0 ∨ 9000000000000000000 < q
  · rw [if_pos hbad] at hT
    subst hT
    refine .of (Does.of2 Tryz.func99 rfl Tryz.ntmps99 rfl ?_)
    rcases hbad with hbad | hbad
    all_goals
      repeat' (first
    | ((with_reducible apply TL.gives_plain); (· kernel_rfl); (· rfl); (· exact A1); (· rfl)) | ((with_reducible apply TW.gives_plain); (· kernel_rfl); (· rfl); (· exact A1); (· rfl))
    | ((with_reducible apply TL.gives_plain); (· kernel_rfl); (· rfl); (· exact A2); (· rfl)) | ((with_reducible apply TW.gives_plain); (· kernel_rfl); (· rfl); (· exact A2); (· rfl))
    | ((with_reducible apply TL.gives_plain); (· kernel_rfl); (· rfl); (· exact A3); (· rfl)) | ((with_reducible apply TW.gives_plain); (· kernel_rfl); (· rfl); (· exact A3); (· rfl))
    | ((with_reducible apply TL.gives_plain); (· kernel_rfl); (· rfl); (· exact A4); (· rfl)) | ((with_reducible apply TW.gives_plain); (· kernel_rfl); (· rfl); (· exact A4); (· rfl))
    | ((with_reducible apply TL.gives_plain); (· kernel_rfl); (· rfl); (· exact A5); (· rfl)) | ((with_reducible apply TW.gives_plain); (· kernel_rfl); (· rfl); (· exact A5); (· rfl))
    | ((with_reducible apply TL.gives_plain); (· kernel_rfl); (· rfl); (· exact A6); (· rfl)) | ((with_reducible apply TW.gives_plain); (· kernel_rfl); (· rfl); (· exact A6); (· rfl))
    | refine wkP ?_
    | ((with_reducible apply TL.byteK); (· rfl); (· rfl); (· exact natA); (· assumption); (· rfl); intro _) | ((with_reducible apply TL.byte); (· rfl); (· rfl); (· exact natA); (· exact omA); (· rfl); intro _ _ _)
    | refine stS ?_ | (refine stB ?_; intro _) | (refine stC ?_; refine And.intro (fun _ => ?_) (fun _ => ?_))
    | apply TC.region_draw (by kernel_rfl) (by kernel_rfl) | refine TW.nil ?_ | ((with_reducible apply TW.pure); (· exact yA); (· rfl))
    | ((with_reducible apply TL.range_str); (· rfl); (· rfl); intro _) | ((with_reducible apply TL.next_str); (· rfl); (· exact pkA); (· rfl); all_goals intro _)
    | ((with_reducible apply TW.byteK); (· rfl); (· rfl); (· exact natA); (· assumption); (· rfl); intro _) | ((with_reducible apply TW.byte); (· rfl); (· rfl); (· exact natA); (· exact omA); (· rfl); intro _ _ _)
    | refine TW.guard_yes rfl rfl ?_ | refine TW.guard_no rfl rfl rfl rfl ?_ | refine TW.guard_undef rfl rfl rfl ?_ | refine TW.guard rfl rfl rfl ?_)
      all_goals
        refine TQ.endR2 (L' := L) Tryz.results99 rvA rvA rfl (.refl _) ?_ selA
        exact ⟨rfl, rfl, rfl⟩
  rw [if_neg hbad] at hT
  obtain ⟨hr0, hq9⟩ : r = 0 ∧ q ≤ 9000000000000000000 := by omega
  subst hr0
  clear hbad hr2
  refine .of (Does.of2 Tryz.func99 rfl Tryz.ntmps99 rfl ?_)
  repeat' (first
    | ((with_reducible apply TL.gives_plain); (· kernel_rfl); (· rfl); (· exact A1); (· rfl)) | ((with_reducible apply TW.gives_plain); (· kernel_rfl); (· rfl); (· exact A1); (· rfl))
    | ((with_reducible apply TL.gives_plain); (· kernel_rfl); (· rfl); (· exact A2); (· rfl)) | ((with_reducible apply TW.gives_plain); (· kernel_rfl); (· rfl); (· exact A2); (· rfl))
    | ((with_reducible apply TL.gives_plain); (· kernel_rfl); (· rfl); (· exact A3); (· rfl)) | ((with_reducible apply TW.gives_plain); (· kernel_rfl); (· rfl); (· exact A3); (· rfl))
    | ((with_reducible apply TL.gives_plain); (· kernel_rfl); (· rfl); (· exact A4); (· rfl)) | ((with_reducible apply TW.gives_plain); (· kernel_rfl); (· rfl); (· exact A4); (· rfl))
    | ((with_reducible apply TL.gives_plain); (· kernel_rfl); (· rfl); (· exact A5); (· rfl)) | ((with_reducible apply TW.gives_plain); (· kernel_rfl); (· rfl); (· exact A5); (· rfl))
    | ((with_reducible apply TL.gives_plain); (· kernel_rfl); (· rfl); (· exact A6); (· rfl)) | ((with_reducible apply TW.gives_plain); (· kernel_rfl); (· rfl); (· exact A6); (· rfl))
    | refine wkP ?_
    | ((with_reducible apply TL.byteK); (· rfl); (· rfl); (· exact natA); (· assumption); (· rfl); intro _) | ((with_reducible apply TL.byte); (· rfl); (· rfl); (· exact natA); (· exact omA); (· rfl); intro _ _ _)
    | refine stS ?_ | (refine stB ?_; intro _) | (refine stC ?_; refine And.intro (fun _ => ?_) (fun _ => ?_))
    | apply TC.region_draw (by kernel_rfl) (by kernel_rfl) | refine TW.nil ?_ | ((with_reducible apply TW.pure); (· exact yA); (· rfl))
    | ((with_reducible apply TL.range_str); (· rfl); (· rfl); intro _) | ((with_reducible apply TL.next_str); (· rfl); (· exact pkA); (· rfl); all_goals intro _)
    | ((with_reducible apply TW.byteK); (· rfl); (· rfl); (· exact natA); (· assumption); (· rfl); intro _) | ((with_reducible apply TW.byte); (· rfl); (· rfl); (· exact natA); (· exact omA); (· rfl); intro _ _ _)
    | refine TW.guard_yes rfl rfl ?_ | refine TW.guard_no rfl rfl rfl rfl ?_ | refine TW.guard_undef rfl rfl rfl ?_ | refine TW.guard rfl rfl rfl ?_)
  · rename_i h
    refine TQ.endR2 (L' := L) Tryz.results99 rvA rvA rfl (.refl _) ?_ selA
    refine ⟨?_, rfl, rfl⟩
    rw [hT, if_pos (by simpa using h.out), Int.zero_sub]
  · rename_i h
    refine TQ.endR2 (L' := L) Tryz.results99 rvA rvA rfl (.refl _) ?_ selA
    refine ⟨?_, rfl, rfl⟩
    rw [hT, if_neg (by simpa using h)]
theorem timesL_bd (a b : Int) : 0 ≤ (timesL a b).2 ∧ (timesL a b).2 ≤ 12 := by
  unfold timesL; split
  · unfold timesV; split
    · decide
    · show (0 : Int) ≤ 0 ∧ (0 : Int) ≤ 12; decide
  · decide
theorem plusL_bd (a b : Int) : 0 ≤ (plusL a b).2 ∧ (plusL a b).2 ≤ 12 := by
  unfold plusL; split
  · split
    · decide
    · show (0 : Int) ≤ 0 ∧ (0 : Int) ≤ 12; decide
  · decide
end Go.Proofs.YthngolfabfijpaaGreatDoor
