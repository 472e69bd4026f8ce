/-
  The walk of layer 3's 'awake': the chapter's examples.
-/
import Derived.Test.YtlffebmhknilhaaDoorPrint
import Derived.Test.YtlffebmhknilhaaDoorParse
namespace Go.Proofs.YtlffebmhknilhaaDoor
open Go.RowKit

theorem ex1 : parseL [49, 46, 53, 101, 49] = (150000000, 0) := by decide +kernel
theorem ex2 : parseL [49, 101, 45, 56] = (0, 12) := by decide +kernel
theorem ex3 : parseL [49, 48, 101, 45, 56] = (1, 0) := by decide +kernel
theorem ex4 : scanL [49, 46, 101] = 1 := by decide +kernel
theorem ex5 : printL (-12500000) = ([45, 49, 46, 50, 53], 0) := by
  have d1 : Lib.decDigits 1 = [49] := by rw [Lib.decDigits]; rfl
  have d2 : Lib.decDigits 2500000 = [50, 53, 48, 48, 48, 48, 48] := by
    rw [Lib.decDigits, dif_neg (by omega), Lib.decDigits, dif_neg (by omega), Lib.decDigits, dif_neg (by omega), Lib.decDigits, dif_neg (by omega), Lib.decDigits, dif_neg (by omega), Lib.decDigits, dif_neg (by omega), Lib.decDigits, dif_pos (by omega)]
    rfl
  rw [printL, if_neg (by omega), if_pos (by omega)]
  have e1 : (-12500000 : Int).natAbs / 10000000 = 1 := by decide
  have e2 : (-12500000 : Int).natAbs % 10000000 = 2500000 := by decide
  rw [e1, e2, if_neg (by omega), d1, restL, d2]
  rfl

theorem parse_at (b : Array UInt8) (v k : Int) (h : parseL b.toList = (v, k)) (hb : b.size ≤ 1000) (w : World) : Calls Tryd.prog 9 #[.string ⟨b⟩] w fun e w' => e = .returned (.tuple #[.int .i64 v, .int .i64 k]) ∧ Ext w w' := by
  have := parse_any ⟨b⟩ b.toList w rfl (by show b.size ≤ _; omega)
  rw [h] at this
  exact this

set_option maxRecDepth 100000 in
set_option maxHeartbeats 4000000 in
theorem awake03_any (w : World) (htab : Tabs w) : Calls Tryd.prog 13 #[] w fun e w' => e = .returned (.bool true) ∧ Ext w w' := by
  have P1 : Hid (∀ W, Calls Tryd.prog 9 #[.string ⟨#[49, 46, 53, 101, 49]⟩] W fun e w' => e = .returned (.tuple #[.int .i64 150000000, .int .i64 0]) ∧ Ext W w') := fun W => parse_at _ _ _ ex1 (by decide) W
  have P2 : Hid (∀ W, Calls Tryd.prog 9 #[.string ⟨#[49, 101, 45, 56]⟩] W fun e w' => e = .returned (.tuple #[.int .i64 0, .int .i64 12]) ∧ Ext W w') := fun W => parse_at _ _ _ ex2 (by decide) W
  have P3 : Hid (∀ W, Calls Tryd.prog 9 #[.string ⟨#[49, 48, 101, 45, 56]⟩] W fun e w' => e = .returned (.tuple #[.int .i64 1, .int .i64 0]) ∧ Ext W w') := fun W => parse_at _ _ _ ex3 (by decide) W
  have P4 : Hid (∀ W, Ext w W → Calls Tryd.prog 14 #[.int .i64 (-12500000)] W fun e w' => e = .returned (.tuple #[.string ⟨#[45, 49, 46, 50, 53]⟩, .int .i64 0]) ∧ Ext W w') := fun W x => by
    have := print_any (-12500000) W (by omega) (by omega) (htab.on x)
    rw [ex5] at this
    exact this
  have P5 : Hid (∀ W, Calls Tryd.prog 11 #[.string ⟨#[49, 46, 101]⟩] W fun e w' => e = .returned (.int .i64 1) ∧ Ext W w') := fun W => by
    have := scan_any ⟨#[49, 46, 101]⟩ [49, 46, 101] W rfl (by decide)
    rw [ex4] at this
    exact this
  clear htab
  go_enter Tryd.func13, Tryd.ntmps13
  go_wp2_with fail
  refine (P1.out _).mono ?_
  rintro e w1 ⟨rfl, E1⟩
  go_wp2_with fail
  refine (P2.out _).mono ?_
  rintro e w2 ⟨rfl, F2⟩
  have E2 := Ext.trans' E1 F2
  go_wp2_with fail
  refine (P3.out _).mono ?_
  rintro e w3 ⟨rfl, F3⟩
  have E3 := Ext.trans' E2 F3
  go_wp2_with fail
  refine (P4.out _ E3).mono ?_
  rintro e w4 ⟨rfl, F4⟩
  have E4 := Ext.trans' E3 F4
  go_wp2_with fail
  refine (P5.out _).mono ?_
  rintro e w5 ⟨rfl, F5⟩
  have E5 := Ext.trans' E4 F5
  go_wp2_with fail
  go_ret
  exact ⟨rfl, E5⟩
end Go.Proofs.YtlffebmhknilhaaDoor
