/-
  The walk of bits.Div64 at the divisor 10000000: the divisor, shifted, has a lower half of 0, so both corrections end at once. The walk of num.Plus. The walk of num.Times.
-/
import Derived.Test.YthngolfabfijpaaGreatDoorHd2
import Derived.Test.YthngolfabfijpaaGreatDoorHd0
import Derived.Test.YthngolfabfijpaaGreatDoorHd3
import Derived.Test.YthngolfabfijpaaGreatDoorHd4
namespace Go.Proofs.YthngolfabfijpaaGreatDoor
open Go.RowKit Go.TL
set_option maxRecDepth 100000

theorem wrap3 (a b c : Int) : IntKind.u64.wrap (IntKind.u64.wrap (IntKind.u64.wrap a + b) - IntKind.u64.wrap c) = IntKind.u64.wrap (a + b - c) := by
  have w : ∀ n, IntKind.u64.wrap n = n % 18446744073709551616 := fun n => by simp [IntKind.wrap, IntKind.bits, IntKind.signed]
  rw [w, w, w, w, w, Int.emod_add_emod, ← Int.sub_emod]
theorem W39 : IntKind.u64.wrap (10000000 * 2 ^ 40) = 10995116277760000000 := by rw [IntWalk.u64_in _ (by omega)]; omega
theorem W41 : (10995116277760000000 : Int).fdiv (2 ^ 32) = 2560000000 := by decide
theorem W43 : IntKind.u64.wrap ((10995116277760000000 &&& 4294967295 : Nat) : Int) = 0 := by decide
theorem W49 : IntKind.u64.wrap (64 - 40) = 24 := by decide
structure DivH (h lo U l0 q1 r1 V q0 r0 : Nat) : Prop where
  hU : U = h * 1099511627776 + lo / 16777216
  hl : l0 = lo % 16777216
  hq1 : q1 = U / 2560000000
  hr1 : r1 = U % 2560000000
  hV : V = r1 * 4294967296 + l0 * 256
  hq0 : q0 = V / 2560000000
  hr0 : r0 = V % 2560000000
theorem DivH.out {h lo U l0 q1 r1 V q0 r0 : Nat} (d : DivH h lo U l0 q1 r1 V q0 r0) (_hh : h < 10000000) (_hlo : lo < 18446744073709551616) :
    q1 < 4294967296 ∧ q0 < 4294967296 ∧ q1 * 4294967296 + q0 = (h * 18446744073709551616 + lo) / 10000000 ∧ r0 / 256 = (h * 18446744073709551616 + lo) % 10000000 := by
  obtain ⟨hU, hl, hq1, hr1, hV, hq0, hr0⟩ := d
  have e1 : U = 2560000000 * q1 + r1 := by omega
  have e2 : V = 2560000000 * q0 + r0 := by omega
  have e3 : r1 < 2560000000 := by omega
  have e4 : r0 < 2560000000 := by omega
  have e5 : l0 < 16777216 := by omega
  have e6 : lo = (lo / 16777216) * 16777216 + l0 := by omega
  refine ⟨by omega, by omega, ?_, ?_⟩
  · omega
  · omega
set_option maxHeartbeats 4000000 in
theorem div64_gives (h lo : Nat) (g : Gh) (L : List Ent) (hh : h < 10000000) (hlo : lo < 18446744073709551616) :
    Gives Tryz.prog 136 #[.int .u64 h, .int .u64 lo, .int .u64 10000000] g L (.tuple #[.int .u64 (((h * 18446744073709551616 + lo) / 10000000 : Nat) : Int), .int .u64 (((h * 18446744073709551616 + lo) % 10000000 : Nat) : Int)]) := by
  have A1 : Gives Tryz.prog 160 #[.int .u64 10000000] g L (.int .i64 40) := .same fun w => by
    have h := Tryz.bits_LeadingZeros64 10000000 w (by omega) (by omega)
    rwa [show (64 : Int) - (Lib.bitLen (Int.toNat 10000000) : Int) = 40 by decide +kernel] at h
  by_cases h0 : h = 0
  · subst h0
    refine .of (Does.of3 Tryz.func136 rfl Tryz.ntmps136 rfl ?_)
    repeat' (first | refine wkP ?_ | refine stS ?_ | apply TC.region_draw (by kernel_rfl) (by kernel_rfl) | refine TW.nil ?_ | ((with_reducible apply TW.pure); (· exact yA); (· rfl)) | fail)
    refine TQ.endR2 (L' := L) Tryz.results136 rvA rvA rfl (.refl _) ?_ selA
    refine ⟨?_, rfl, rfl⟩
    simp only [Nat.zero_mul, Nat.zero_add]
    rfl
  obtain ⟨U, hU⟩ : ∃ U, U = h * 1099511627776 + lo / 16777216 := ⟨_, rfl⟩
  obtain ⟨l0, hl⟩ : ∃ l0, l0 = lo % 16777216 := ⟨_, rfl⟩
  obtain ⟨q1, hq1⟩ : ∃ q1, q1 = U / 2560000000 := ⟨_, rfl⟩
  obtain ⟨r1, hr1⟩ : ∃ r1, r1 = U % 2560000000 := ⟨_, rfl⟩
  obtain ⟨V, hV⟩ : ∃ V, V = r1 * 4294967296 + l0 * 256 := ⟨_, rfl⟩
  obtain ⟨q0, hq0⟩ : ∃ q0, q0 = V / 2560000000 := ⟨_, rfl⟩
  obtain ⟨r0, hr0⟩ : ∃ r0, r0 = V % 2560000000 := ⟨_, rfl⟩
  obtain ⟨k1, k0, kq, kr⟩ := DivH.out ⟨hU, hl, hq1, hr1, hV, hq0, hr0⟩ hh hlo
  rw [← kq, ← kr]
  have e1 : U = 2560000000 * q1 + r1 := by omega
  have e2 : V = 2560000000 * q0 + r0 := by omega
  have e3 : r1 < 2560000000 := by omega
  have e4 : r0 < 2560000000 := by omega
  have e5 : l0 < 16777216 := by omega
  have b1 : Hn (h * 1099511627776 < 18446744073709551616) := ⟨by omega⟩
  have b2 : Hn (lo / 16777216 < 18446744073709551616) := ⟨by omega⟩
  have b3 : Hn (l0 * 1099511627776 < 18446744073709551616) := ⟨by omega⟩
  have Z46 : IntKind.u64.wrap ((h : Int) * 2 ^ 40) = ((h * 1099511627776 : Nat) : Int) := by rw [IntWalk.u64_in _ (by omega)]; omega
  have H50 : Hn ((lo : Int).fdiv (2 ^ 24) = ((lo / 16777216 : Nat) : Int)) := ⟨by rw [Int.fdiv_eq_ediv_of_nonneg _ (by decide)]; omega⟩
  have Z51 : IntKind.u64.wrap (((h * 1099511627776) ||| (lo / 16777216) : Nat) : Int) = (U : Nat) := by
    have : (h * 1099511627776) ||| (lo / 16777216) = U := by
      rw [hU, show h * 1099511627776 = h <<< 40 by rw [Nat.shiftLeft_eq], ← Nat.shiftLeft_add_eq_or_of_lt (by omega)]
    rw [this, IntWalk.u64_in _ (by omega)]
  have Z54 : IntKind.u64.wrap ((lo : Int) * 2 ^ 40) = ((l0 * 1099511627776 : Nat) : Int) := by
    simp [IntKind.wrap, IntKind.bits, IntKind.signed]; omega
  have Z56 : ((l0 * 1099511627776 : Nat) : Int).fdiv (2 ^ 32) = ((l0 * 256 : Nat) : Int) := by
    rw [Int.fdiv_eq_ediv_of_nonneg _ (by decide)]; omega
  have Z58 : IntKind.u64.wrap (((l0 * 1099511627776) &&& 4294967295 : Nat) : Int) = 0 := by
    rw [show (4294967295 : Nat) = 2 ^ 32 - 1 by decide, Nat.and_two_pow_sub_one_eq_mod, show l0 * 1099511627776 % 2 ^ 32 = 0 by omega]; rfl
  have Z61 : IntKind.u64.wrap ((U : Int).tdiv 2560000000) = (q1 : Nat) := by
    rw [Int.tdiv_eq_ediv_of_nonneg (by omega), IntWalk.u64_in _ (by omega)]; omega
  have Z66 : IntKind.u64.wrap ((U : Int) - (q1 : Int) * 2560000000) = (r1 : Nat) := by rw [IntWalk.u64_in _ (by omega)]; omega
  have Z93 : IntKind.u64.wrap (IntKind.u64.wrap (IntKind.u64.wrap ((U : Int) * 4294967296) + ((l0 * 256 : Nat) : Int)) - IntKind.u64.wrap ((q1 : Int) * 10995116277760000000)) = (V : Nat) := by
    rw [wrap3, IntWalk.u64_in _ (by omega)]; omega
  have Z96 : IntKind.u64.wrap ((V : Int).tdiv 2560000000) = (q0 : Nat) := by
    rw [Int.tdiv_eq_ediv_of_nonneg (by omega), IntWalk.u64_in _ (by omega)]; omega
  have Z101 : IntKind.u64.wrap ((V : Int) - (q0 : Int) * 2560000000) = (r0 : Nat) := by rw [IntWalk.u64_in _ (by omega)]; omega
  have Z132 : IntKind.u64.wrap (IntKind.u64.wrap (IntKind.u64.wrap ((V : Int) * 4294967296) + 0) - IntKind.u64.wrap ((q0 : Int) * 10995116277760000000)) = ((r0 * 4294967296 : Nat) : Int) := by
    rw [wrap3, IntWalk.u64_in _ (by omega)]; omega
  have Z134 : ((r0 * 4294967296 : Nat) : Int).fdiv (2 ^ 40) = ((r0 / 256 : Nat) : Int) := by
    rw [Int.fdiv_eq_ediv_of_nonneg _ (by decide)]; omega
  have H46 : Hn _ := ⟨Z46⟩
  have H51 : Hn _ := ⟨Z51⟩
  have H54 : Hn _ := ⟨Z54⟩
  have H56 : Hn _ := ⟨Z56⟩
  have H58 : Hn _ := ⟨Z58⟩
  have H61 : Hn _ := ⟨Z61⟩
  have H66 : Hn _ := ⟨Z66⟩
  have H93 : Hn _ := ⟨Z93⟩
  have H96 : Hn _ := ⟨Z96⟩
  have H101 : Hn _ := ⟨Z101⟩
  have H132 : Hn _ := ⟨Z132⟩
  have H134 : Hn _ := ⟨Z134⟩
  clear Z46 Z51 Z54 Z56 Z58 Z61 Z66 Z93 Z96 Z101 Z132 Z134
  clear hU hl hq1 hr1 hV hq0 hr0 kq kr e1 e2
  refine .of (Does.of3 Tryz.func136 rfl Tryz.ntmps136 rfl ?_)
  repeat' (first | ((with_reducible apply TL.pure (d := 39) (v := .int .u64 10995116277760000000)); (· exact Y.shl rfl rfl isNat (by decide) W39); (· rfl)) | ((with_reducible apply TL.pure (d := 41) (v := .int .u64 2560000000)); (· exact Y.shr rfl rfl isNat (by decide) W41); (· rfl)) | ((with_reducible apply TL.pure (d := 43) (v := .int .u64 0)); (· exact Y.and (a := 10995116277760000000) (b := 4294967295) rfl rfl rfl rfl (by decide) (by decide) W43); (· rfl)) | ((with_reducible apply TL.pure (d := 46) (v := .int .u64 ((h * 1099511627776 : Nat) : Int))); (· exact Y.shl rfl rfl isNat (by decide) H46.out); (· rfl)) | ((with_reducible apply TL.pure (d := 49) (v := .int .u64 24)); (· exact Y.sub rfl rfl W49); (· rfl)) | ((with_reducible apply TL.pure (d := 50) (v := .int .u64 ((lo / 16777216 : Nat) : Int))); (· exact Y.shr rfl rfl isNat (by decide) H50.out); (· rfl)) | ((with_reducible apply TL.pure (d := 51) (v := .int .u64 (U : Nat))); (· exact Y.or rfl rfl isNat isNat b1.out b2.out H51.out); (· rfl)) | ((with_reducible apply TL.pure (d := 54) (v := .int .u64 ((l0 * 1099511627776 : Nat) : Int))); (· exact Y.shl rfl rfl isNat (by decide) H54.out); (· rfl)) | ((with_reducible apply TL.pure (d := 56) (v := .int .u64 ((l0 * 256 : Nat) : Int))); (· exact Y.shr rfl rfl isNat (by decide) H56.out); (· rfl)) | ((with_reducible apply TL.pure (d := 58) (v := .int .u64 0)); (· exact Y.and (a := l0 * 1099511627776) (b := 4294967295) rfl rfl rfl rfl b3.out (by decide) H58.out); (· rfl)) | ((with_reducible apply TL.pure (d := 61) (v := .int .u64 (q1 : Nat))); (· exact Y.quo rfl rfl (by decide) H61.out); (· rfl)) | ((with_reducible apply TL.pure (d := 66) (v := .int .u64 (r1 : Nat))); (· exact Y.sub rfl rfl H66.out); (· rfl)) | ((with_reducible apply TL.gives_plain); (· kernel_rfl); (· rfl); (· exact A1); (· rfl)) | refine wkP ?_ | refine stS ?_ | fail)
  refine TC.loopK (fun _ : Unit => True) (fun _ => 0) (fun _ S => S) [] (by repeat (first | apply Drop.nil | apply Drop.cons (by (repeat (first | apply Pick.here | apply Pick.there))))) (fun _ L => L) () trivial subA selA ?_
  intro _ _
  repeat' (first | ((with_reducible apply TL.pure (d := 93) (v := .int .u64 (V : Nat))); (· exact Y.sub rfl rfl H93.out); (· rfl)) | ((with_reducible apply TL.pure (d := 96) (v := .int .u64 (q0 : Nat))); (· exact Y.quo rfl rfl (by decide) H96.out); (· rfl)) | ((with_reducible apply TL.pure (d := 101) (v := .int .u64 (r0 : Nat))); (· exact Y.sub rfl rfl H101.out); (· rfl)) | refine wkP ?_ | refine stS ?_ | fail)
  refine TC.loopK (fun _ : Unit => True) (fun _ => 0) (fun _ S => S) [] (by repeat (first | apply Drop.nil | apply Drop.cons (by (repeat (first | apply Pick.here | apply Pick.there))))) (fun _ L => L) () trivial subA selA ?_
  intro _ _
  repeat' (first | ((with_reducible apply TL.pure (d := 132) (v := .int .u64 ((r0 * 4294967296 : Nat) : Int))); (· exact Y.sub rfl rfl H132.out); (· rfl)) | ((with_reducible apply TL.pure (d := 134) (v := .int .u64 ((r0 / 256 : Nat) : Int))); (· exact Y.shr rfl rfl isNat (by decide) H134.out); (· rfl)) | refine wkP ?_ | refine stS ?_ | fail)
  refine TQ.endR2 (L' := L) Tryz.results136 rvA rvA rfl (.refl _) ?_ selA
  exact ⟨rfl, rfl, rfl⟩
end Go.Proofs.YthngolfabfijpaaGreatDoor
namespace Go.Proofs.YthngolfabfijpaaGreatDoor
open Go.RowKit

def plusL (a b : Int) : Int × Int :=
  if heldB a = true ∧ heldB b = true then (if 9000000000000000000 < a + b ∨ a + b < -9000000000000000000 then (0, 12) else (a + b, 0)) else (0, 2)
set_option maxRecDepth 100000 in
set_option maxHeartbeats 4000000 in
theorem plus_any (a b : Int) (w : World) (a0 : -9223372036854775808 ≤ a) (a1 : a ≤ 9223372036854775807) (b0 : -9223372036854775808 ≤ b) (b1 : b ≤ 9223372036854775807) :
    Calls Tryz.prog 98 #[.int .i64 a, .int .i64 b] w fun e w' => e = .returned (.tuple #[.int .i64 (plusL a b).1, .int .i64 (plusL a b).2]) ∧ w' = w := by
  have HA : Hid (∀ W, Calls Tryz.prog 118 #[.int .i64 a] W fun e w' => e = .returned (.bool (heldB a)) ∧ w' = W) := fun W => held_any a W a0 a1
  have HB : Hid (∀ W, Calls Tryz.prog 118 #[.int .i64 b] W fun e w' => e = .returned (.bool (heldB b)) ∧ w' = W) := fun W => held_any b W b0 b1
  cases hha : heldB a with
  | false =>
    rw [hha] at HA
    have Hv : Hid (plusL a b = (0, 2)) := by show _ = _; rw [plusL, if_neg (by rw [hha]; simp)]
    clear hha
    go_enter Tryz.func98, Tryz.ntmps98
    go_wp2_with fail
    refine (HA.out _).mono ?_
    rintro e w1 ⟨rfl, rfl⟩
    go_wp2_with fail
    go_ret2
    exact ⟨by rw [Hv.out] <;> rfl, rfl⟩
  | true =>
    rw [hha] at HA
    cases hhb : heldB b with
    | false =>
      rw [hhb] at HB
      have Hv : Hid (plusL a b = (0, 2)) := by show _ = _; rw [plusL, if_neg (by rw [hhb]; simp)]
      clear hha hhb
      go_enter Tryz.func98, Tryz.ntmps98
      go_wp2_with fail
      refine (HA.out _).mono ?_
      rintro e w1 ⟨rfl, rfl⟩
      go_wp2_with fail
      refine (HB.out _).mono ?_
      rintro e w1 ⟨rfl, rfl⟩
      go_wp2_with fail
      go_ret2
      exact ⟨by rw [Hv.out] <;> rfl, rfl⟩
    | true =>
      rw [hhb] at HB
      obtain ⟨ga0, ga1⟩ := heldB_iff.1 hha
      obtain ⟨gb0, gb1⟩ := heldB_iff.1 hhb
      have Hp : Hid (plusL a b = (if 9000000000000000000 < a + b ∨ a + b < -9000000000000000000 then (0, 12) else (a + b, 0))) := by show _ = _; rw [plusL, if_pos ⟨hha, hhb⟩]
      clear hha hhb
      go_enter Tryz.func98, Tryz.ntmps98
      go_wp2_with fail
      refine (HA.out _).mono ?_
      rintro e w1 ⟨rfl, rfl⟩
      go_wp2_with fail
      refine (HB.out _).mono ?_
      rintro e w1 ⟨rfl, rfl⟩
      rcases Int.lt_trichotomy b 0 with hb | hb | hb
      · have c1 : decide (b > 0) = false := by rw [decide_eq_false_iff_not]; omega
        have c1' : decide (0 < b) = false := c1
        have c2 : decide (b < 0) = true := by rw [decide_eq_true_iff]; exact hb
        by_cases hlow : a < -9000000000000000000 - b
        · have c3 : decide (a < -9000000000000000000 - b) = true := by rw [decide_eq_true_iff]; exact hlow
          have Hv : Hid (plusL a b = (0, 12)) := by show _ = _; rw [Hp.out, if_pos (.inr (by omega))]
          clear hlow
          go_wp2_with fail
          go_ret2
          exact ⟨by rw [Hv.out] <;> rfl, rfl⟩
        · have c3 : decide (a < -9000000000000000000 - b) = false := by rw [decide_eq_false_iff_not]; exact hlow
          have Hv : Hid (plusL a b = (a + b, 0)) := by show _ = _; rw [Hp.out, if_neg (by omega)]
          go_wp2_with fail
          go_ret2
          exact ⟨by rw [Hv.out] <;> rfl, rfl⟩
      · subst hb
        have Hv : Hid (plusL a 0 = (a, 0)) := by show _ = _; rw [Hp.out, if_neg (by omega), Int.add_zero]
        go_wp2_with fail
        go_ret2
        exact ⟨by rw [Hv.out] <;> rfl, rfl⟩
      · have c1 : decide (b > 0) = true := by rw [decide_eq_true_iff]; omega
        have c1' : decide (0 < b) = true := c1
        have c2 : decide (b < 0) = false := by rw [decide_eq_false_iff_not]; omega
        by_cases hhigh : a > 9000000000000000000 - b
        · have c3 : decide (a > 9000000000000000000 - b) = true := by rw [decide_eq_true_iff]; exact hhigh
          have c3' : decide (9000000000000000000 - b < a) = true := c3
          have Hv : Hid (plusL a b = (0, 12)) := by show _ = _; rw [Hp.out, if_pos (.inl (by omega))]
          clear hhigh
          go_wp2_with fail
          go_ret2
          exact ⟨by rw [Hv.out] <;> rfl, rfl⟩
        · have c3 : decide (a > 9000000000000000000 - b) = false := by rw [decide_eq_false_iff_not]; exact hhigh
          have c3' : decide (9000000000000000000 - b < a) = false := c3
          have Hv : Hid (plusL a b = (a + b, 0)) := by show _ = _; rw [Hp.out, if_neg (by omega)]
          go_wp2_with fail
          go_ret2
          exact ⟨by rw [Hv.out] <;> rfl, rfl⟩
end Go.Proofs.YthngolfabfijpaaGreatDoor
namespace Go.Proofs.YthngolfabfijpaaGreatDoor
open Go.RowKit Go.TL
set_option maxRecDepth 100000

theorem nHeld_gives (n : Int) (g : Gh) (L : List Ent) (h0 : -9223372036854775808 ≤ n) (h1 : n ≤ 9223372036854775807) : Gives Tryz.prog 118 #[.int .i64 n] g L (.bool (heldB n)) := .same fun w => held_any n w h0 h1
theorem nsize_gives (n : Int) (g : Gh) (L : List Ent) (h0 : -9223372036854775807 ≤ n) (h1 : n ≤ 9223372036854775807) : Gives Tryz.prog 119 #[.int .i64 n] g L (.int .u64 (n.natAbs : Nat)) := .same fun w => size_any n w h0 h1
theorem nPlus_gives (a b : Int) (g : Gh) (L : List Ent) (a0 : -9223372036854775808 ≤ a) (a1 : a ≤ 9223372036854775807) (b0 : -9223372036854775808 ≤ b) (b1 : b ≤ 9223372036854775807) : Gives Tryz.prog 98 #[.int .i64 a, .int .i64 b] g L (.tuple #[.int .i64 (plusL a b).1, .int .i64 (plusL a b).2]) := .same fun w => plus_any a b w a0 a1 b0 b1
theorem mul64_gives (x y : Nat) (g : Gh) (L : List Ent) (hx : x < 18446744073709551616) (hy : y < 18446744073709551616) : Gives Tryz.prog 135 #[.int .u64 x, .int .u64 y] g L (.tuple #[.int .u64 ((x * y / 18446744073709551616 : Nat) : Int), .int .u64 ((x * y % 18446744073709551616 : Nat) : Int)]) := .same fun w => Tryz.bits_Mul64 x y hx hy w
def timesV (s : Bool) (p : Nat) : Int × Int := if p % 10000000 ≠ 0 ∨ 9000000000000000000 < p / 10000000 then (0, 12) else (if s = true then -((p / 10000000 : Nat) : Int) else ((p / 10000000 : Nat) : Int), 0)
def timesL (a b : Int) : Int × Int := if heldB a = true ∧ heldB b = true then timesV (decide (a < 0) != decide (b < 0)) (a.natAbs * b.natAbs) else (0, 2)
set_option maxHeartbeats 4000000 in
theorem nTimes_gives (a b : Int) (g : Gh) (L : List Ent) (a0 : -9223372036854775808 ≤ a) (a1 : a ≤ 9223372036854775807) (b0 : -9223372036854775808 ≤ b) (b1 : b ≤ 9223372036854775807) : Gives Tryz.prog 99 #[.int .i64 a, .int .i64 b] g L (.tuple #[.int .i64 (timesL a b).1, .int .i64 (timesL a b).2]) := by
  have A1 := nHeld_gives a g L a0 a1
  have A2 := nHeld_gives b g L b0 b1
  obtain ⟨T, hT⟩ : ∃ T, T = timesL a b := ⟨_, rfl⟩
  rw [← hT]
  unfold timesL at hT
  cases ha : heldB a with
  | false =>
    rw [ha] at A1 hT
    rw [if_neg (by simp)] at hT
    subst hT
    refine .of (Does.of2 Tryz.func99 rfl Tryz.ntmps99 rfl ?_)
    repeat' (first | ((with_reducible apply TL.gives_plain); (· kernel_rfl); (· rfl); (· exact A1); (· rfl)) | refine wkP ?_ | refine stS ?_ | fail)
    refine TQ.endR2 (L' := L) Tryz.results99 rvA rvA rfl (.refl _) ?_ selA
    exact ⟨rfl, rfl, rfl⟩
  | true =>
  cases hb : heldB b with
  | false =>
    rw [ha] at A1
    rw [hb] at A2 hT
    rw [if_neg (by simp)] at hT
    subst hT
    refine .of (Does.of2 Tryz.func99 rfl Tryz.ntmps99 rfl ?_)
    repeat' (first | ((with_reducible apply TL.gives_plain); (· kernel_rfl); (· rfl); (· exact A1); (· rfl)) | ((with_reducible apply TL.gives_plain); (· kernel_rfl); (· rfl); (· exact A2); (· rfl)) | refine wkP ?_ | refine stS ?_ | fail)
    refine TQ.endR2 (L' := L) Tryz.results99 rvA rvA rfl (.refl _) ?_ selA
    exact ⟨rfl, rfl, rfl⟩
  | true =>
  rw [ha] at A1
  rw [hb] at A2
  rw [if_pos ⟨ha, hb⟩] at hT
  obtain ⟨x0, x1⟩ := heldB_iff.1 ha
  obtain ⟨y0, y1⟩ := heldB_iff.1 hb
  have A3 := nsize_gives a g L (by omega) (by omega)
  have A4 := nsize_gives b g L (by omega) (by omega)
  have A5 := mul64_gives a.natAbs b.natAbs g L (by omega) (by omega)
  have hp : a.natAbs * b.natAbs ≤ 9000000000000000000 * 9000000000000000000 := Nat.mul_le_mul (by omega) (by omega)
  generalize a.natAbs = u at *
  generalize b.natAbs = v at *
  generalize u * v = p at *
  obtain ⟨h, hh⟩ : ∃ h, h = p / 18446744073709551616 := ⟨_, rfl⟩
  obtain ⟨lo, hlo⟩ : ∃ lo, lo = p % 18446744073709551616 := ⟨_, rfl⟩
  have hpe : p = h * 18446744073709551616 + lo := by omega
  have hl2 : lo < 18446744073709551616 := by omega
  rw [← hh, ← hlo] at A5
  clear hh hlo ha hb
  by_cases hbig : 10000000 ≤ h
  · have hT2 : T = (0, 12) := by rw [hT, timesV, if_pos]; right; omega
    subst hT2
    have hh2 : h ≤ 9000000000000000000 := by omega
    clear hT hp hpe
    refine .of (Does.of2 Tryz.func99 rfl Tryz.ntmps99 rfl ?_)
    repeat' (first | ((with_reducible apply TL.gives_plain); (· kernel_rfl); (· rfl); (· exact A1); (· rfl)) | ((with_reducible apply TL.gives_plain); (· kernel_rfl); (· rfl); (· exact A2); (· rfl)) | ((with_reducible apply TL.gives_plain); (· kernel_rfl); (· rfl); (· exact A3); (· rfl)) | ((with_reducible apply TL.gives_plain); (· kernel_rfl); (· rfl); (· exact A4); (· rfl)) | ((with_reducible apply TL.gives_plain); (· kernel_rfl); (· rfl); (· exact A5); (· rfl)) | refine wkP ?_ | refine stS ?_ | fail)
    refine TQ.endR2 (L' := L) Tryz.results99 rvA rvA rfl (.refl _) ?_ selA
    exact ⟨rfl, rfl, rfl⟩
  have A6 := div64_gives h lo g L (by omega) hl2
  rw [← hpe] at A6
  unfold timesV at hT
  obtain ⟨q, hq⟩ : ∃ q, q = p / 10000000 := ⟨_, rfl⟩
  obtain ⟨r, hr⟩ : ∃ r, r = p % 10000000 := ⟨_, rfl⟩
  rw [← hq, ← hr] at A6 hT
  have hq2 : q < 18446744073709551616 := by omega
  have hr2 : r < 10000000 := by omega
  have hh2 : h < 10000000 := by omega
  clear hp hpe hbig hq hr
  by_cases hbad : r ≠ 0 ∨ 9000000000000000000 < q
  · rw [if_pos hbad] at hT
    subst hT
    refine .of (Does.of2 Tryz.func99 rfl Tryz.ntmps99 rfl ?_)
    rcases hbad with hbad | hbad
    all_goals
      repeat' (first | ((with_reducible apply TL.gives_plain); (· kernel_rfl); (· rfl); (· exact A1); (· rfl)) | ((with_reducible apply TL.gives_plain); (· kernel_rfl); (· rfl); (· exact A2); (· rfl)) | ((with_reducible apply TL.gives_plain); (· kernel_rfl); (· rfl); (· exact A3); (· rfl)) | ((with_reducible apply TL.gives_plain); (· kernel_rfl); (· rfl); (· exact A4); (· rfl)) | ((with_reducible apply TL.gives_plain); (· kernel_rfl); (· rfl); (· exact A5); (· rfl)) | ((with_reducible apply TL.gives_plain); (· kernel_rfl); (· rfl); (· exact A6); (· rfl)) | refine wkP ?_ | refine stS ?_ | (refine stC ?_; refine And.intro (fun _ => ?_) (fun _ => ?_)) | fail)
      all_goals
        refine TQ.endR2 (L' := L) Tryz.results99 rvA rvA rfl (.refl _) ?_ selA
        exact ⟨rfl, rfl, rfl⟩
  rw [if_neg hbad] at hT
  obtain ⟨hr0, hq9⟩ : r = 0 ∧ q ≤ 9000000000000000000 := by omega
  subst hr0
  clear hbad hr2
  refine .of (Does.of2 Tryz.func99 rfl Tryz.ntmps99 rfl ?_)
  repeat' (first | ((with_reducible apply TL.gives_plain); (· kernel_rfl); (· rfl); (· exact A1); (· rfl)) | ((with_reducible apply TL.gives_plain); (· kernel_rfl); (· rfl); (· exact A2); (· rfl)) | ((with_reducible apply TL.gives_plain); (· kernel_rfl); (· rfl); (· exact A3); (· rfl)) | ((with_reducible apply TL.gives_plain); (· kernel_rfl); (· rfl); (· exact A4); (· rfl)) | ((with_reducible apply TL.gives_plain); (· kernel_rfl); (· rfl); (· exact A5); (· rfl)) | ((with_reducible apply TL.gives_plain); (· kernel_rfl); (· rfl); (· exact A6); (· rfl)) | refine wkP ?_ | refine stS ?_ | (refine stC ?_; refine And.intro (fun _ => ?_) (fun _ => ?_)) | fail)
  · rename_i h
    refine TQ.endR2 (L' := L) Tryz.results99 rvA rvA rfl (.refl _) ?_ selA
    refine ⟨?_, rfl, rfl⟩
    rw [hT, if_pos (by simpa using h.out), Int.zero_sub]
  · rename_i h
    refine TQ.endR2 (L' := L) Tryz.results99 rvA rvA rfl (.refl _) ?_ selA
    refine ⟨?_, rfl, rfl⟩
    rw [hT, if_neg (by simpa using h)]
theorem timesL_bd (a b : Int) : 0 ≤ (timesL a b).2 ∧ (timesL a b).2 ≤ 12 := by
  unfold timesL; split
  · unfold timesV; split
    · decide
    · show (0 : Int) ≤ 0 ∧ (0 : Int) ≤ 12; decide
  · decide
theorem plusL_bd (a b : Int) : 0 ≤ (plusL a b).2 ∧ (plusL a b).2 ≤ 12 := by
  unfold plusL; split
  · split
    · decide
    · show (0 : Int) ≤ 0 ∧ (0 : Int) ≤ 12; decide
  · decide
end Go.Proofs.YthngolfabfijpaaGreatDoor
