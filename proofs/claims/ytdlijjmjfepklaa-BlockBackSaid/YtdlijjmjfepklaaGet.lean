/-
  The walk of layer 18's document's reader of numbers.
-/
import Derived.Test.YtdlijjmjfepklaaUnpack
namespace Go.Proofs.Ytdlijjmjfepklaa
open Go.RowKit

/-- A number base 128, and what is left. -/
def gtGo : Nat → Nat → List UInt8 → Option (Nat × List UInt8)
  | 0, _, _ => none
  | _ + 1, _, [] => none
  | f + 1, n, c :: r => if c.toNat < 128 then some (128 * n + c.toNat % 128, r) else gtGo f (128 * n + c.toNat % 128) r
def gtNum (s : List UInt8) : Option (Nat × List UInt8) := gtGo 8 0 s
/-- What get hands back. -/
def gtVal (n : Nat) : Option (Nat × List UInt8) → Value
  | none => .tuple #[.int .i64 0, .int .i64 (-1)]
  | some (x, r) => .tuple #[.int .i64 x, .int .i64 ((n - r.length : Nat) : Int)]

set_option maxRecDepth 100000 in
set_option maxHeartbeats 1000000 in
theorem get_any (ao : Option Addr) (n cap at_ : Nat) (s : List UInt8) (w : World) (hs : s.length = n) (hn : n ≤ 4611686018427387904) (hat : at_ ≤ n) (hc : CellsAt w ao (byteVals s)) :
    Calls Try.prog 34 #[.slice ao n cap, .int .i64 at_] w fun e w' => e = .returned (gtVal n (gtNum (s.drop at_))) ∧ Ext w w' := by
  have Hs := Lib.hid hs
  clear hs
  go_enter Try.func34, Try.ntmps34
  go_wp2_with fail
  go_loopw [6, 7] (fun x i wr => ∃ (k m : Nat), k ≤ 8 ∧ at_ + k ≤ n ∧ i = .int .i64 k ∧ x = .int .i64 m ∧ Hid (m < 128 ^ k) ∧ m ≤ 72057594037927936 ∧ Ext w wr ∧ Hid (gtNum (s.drop at_) = gtGo (8 - k) m (s.drop (at_ + k)))) (fun _ i _ => 8 - (intOf i).toNat)
  case atStart => exact ⟨0, 0, by omega, by omega, rfl, rfl, by simp [Hid], by omega, Below.refl _ _, rfl⟩
  case round =>
    obtain ⟨k, m, hk, hkn, rfl, rfl, hp, hm, he, hg⟩ := hrel
    by_cases hlt : k < 8
    · by_cases hin : at_ + k < n
      · obtain ⟨x, hx⟩ := get_of_lt Hs.out hin
        obtain ⟨b, off, rfl, hb, c1⟩ := (hc.ext he) (at_ + k) _ (byteVals_get hx)
        have hx8 := x.toNat_lt
        have hp2 := hp.out
        have hm3 : m ≤ 562949953421311 := by
          have h1 : 128 ^ k ≤ 128 ^ 7 := Nat.pow_le_pow_right (by omega) (by omega)
          have h2 : (128 : Nat) ^ 7 = 562949953421312 := by decide
          omega
        have hmx : 128 * m + x.toNat % 128 < 128 ^ (k + 1) := by rw [Nat.pow_succ]; omega
        have HM := Lib.hid hmx
        obtain ⟨f, hf⟩ : ∃ f, 8 - k = f + 1 := ⟨7 - k, by omega⟩
        have hg2 := hg.out
        rw [hf, drop_of_get hx, gtGo] at hg2
        have Hf := Lib.hid hf
        have Hg := Lib.hid hg2
        have hx2 : (x.toNat : Int) % 128 ≤ 127 := by omega
        have d1 : decide ((k : Int) < 8) = true := by rw [decide_eq_true_iff]; omega
        have d2 : decide ((at_ : Int) + (k : Int) < (n : Int)) = true := by rw [decide_eq_true_iff]; omega
        clear hmx hp2 hf hg2 hg hp hx
        by_cases hx1 : x.toNat < 128
        · have Hx := Lib.hid hx1
          go_wp2_with fail
          go_ret2
          have h1 := Hg.out
          rw [if_pos Hx.out] at h1
          rw [h1]
          refine ⟨?_, he⟩
          have hl : (s.drop (at_ + k + 1)).length = n - (at_ + k + 1) := by rw [List.length_drop, Hs.out]
          simp only [gtVal, hl]
          congr 3
          simp; omega
        · have Hx := Lib.hid hx1
          have hx3 : ¬ (x.toNat : Int) < 128 := by omega
          clear hx1
          go_wp2_with fail
          go_roundw
          case rel =>
            refine ⟨k + 1, 128 * m + x.toNat % 128, by omega, by omega, by rfl, by go_num, HM.out, by omega, he, ?_⟩
            have h1 := Hg.out
            rw [if_neg Hx.out] at h1
            show _ = _
            rw [h1, show 8 - (k + 1) = f by have := Hf.out; omega, Nat.add_assoc]
          case measure => simp [intOf]; omega
      · have d1 : decide ((k : Int) < 8) = true := by rw [decide_eq_true_iff]; omega
        have d2 : decide ((at_ : Int) + (k : Int) < (n : Int)) = false := by rw [decide_eq_false_iff_not]; omega
        have Hg : Hid (gtNum (s.drop at_) = none) := by
          show _ = _
          rw [hg.out, List.drop_of_length_le (by have := Hs.out; omega)]
          cases h8 : 8 - k with
          | zero => rfl
          | succ f => rfl
        clear hg
        go_wp2_with fail
        go_ret2
        exact ⟨by rw [Hg.out]; rfl, he⟩
    · obtain rfl : k = 8 := by omega
      have Hg : Hid (gtNum (s.drop at_) = none) := by
        show _ = _
        rw [hg.out]; rfl
      clear hg
      go_wp2_with fail
      go_ret2
      exact ⟨by rw [Hg.out]; rfl, he⟩
end Go.Proofs.Ytdlijjmjfepklaa
