/-
  Layer 3, the plain law: the number of pieces, step by step.
-/
import Derived.Test.YtlffebmhknilhaaDoorNumForm
import Derived.Test.YtlffebmhknilhaaDoorShift
namespace Go.Proofs.YtlffebmhknilhaaDoor
open Go.RowKit

section
variable {p : Pc} {sh P : Int} {A B : List UInt8}
theorem numOf_zero (h : trimL (p.whole ++ p.rest) = []) : numOf sh p = (0, 0) := by
  unfold numOf; simp only []; rw [if_pos h]
theorem numOf_step (hA : A = trimL (p.whole ++ p.rest)) (hB : B = trimR A) (hP : P = (A.length : Int) - p.rest.length + sh + 7) (h0 : A ≠ []) :
    numOf sh p = if P < B.length ∨ 40 < P then (0, 12) else if 9000000000000000000 < valD B * 10 ^ (P - B.length).toNat then (0, 12) else (if p.minus then -((valD B * 10 ^ (P - B.length).toNat : Nat) : Int) else (valD B * 10 ^ (P - B.length).toNat : Nat), 0) := by
  unfold numOf
  simp only []
  rw [← hA, if_neg h0, ← hB, ← hP]
end
/-- The figures that the program goes through: those that there are, then 0. -/
def digs (B : List UInt8) (m : Nat) : List UInt8 := B ++ List.replicate (m - B.length) 48
theorem digs_length {B : List UInt8} {m : Nat} (h : B.length ≤ m) : (digs B m).length = m := by simp [digs]; omega
theorem digs_val (B : List UInt8) (m : Nat) : valD (digs B m) = valD B * 10 ^ (m - B.length) := valD_shift _ _
theorem digs_lo {B : List UInt8} {m k : Nat} (h : k < B.length) : (digs B m)[k]? = some (B[k]'h) := by
  rw [digs, List.getElem?_append_left h, List.getElem?_eq_getElem h]
theorem digs_hi {B : List UInt8} {m k : Nat} (h : B.length ≤ k) (hk : k < m) : (digs B m)[k]? = some 48 := by
  rw [digs, List.getElem?_append_right h, List.getElem?_replicate, if_pos (by omega)]
theorem valD_take_succ {l : List UInt8} {k : Nat} {c : UInt8} (h : l[k]? = some c) : valD (l.take (k + 1)) = 10 * valD (l.take k) + (c.toNat - 48) := by
  obtain ⟨h1, h2⟩ := List.getElem?_eq_some_iff.1 h
  rw [List.take_succ_eq_append_getElem h1, h2, valD_snoc]
theorem valD_take_le (l : List UInt8) (k : Nat) : valD (l.take k) ≤ valD l := by
  conv => rhs; rw [← List.take_append_drop k l, valD_append]
  have : valD (l.take k) * 1 ≤ valD (l.take k) * 10 ^ (l.drop k).length := Nat.mul_le_mul_left _ (Nat.pow_pos (by omega))
  omega
theorem shiftOf_bound (p : Pc) (hf : ∀ c ∈ p.power, isFig c = true) : -1048576 ≤ shiftOf 1048576 p ∧ shiftOf 1048576 p ≤ 1048576 := by
  unfold shiftOf
  simp only []
  have h : ((if (trimL p.power).length ≤ 6 then (valD p.power : Int) else ((1048576 : Nat) : Int)) : Int) ≤ 1048576 ∧ 0 ≤ ((if (trimL p.power).length ≤ 6 then (valD p.power : Int) else ((1048576 : Nat) : Int)) : Int) := by
    split
    · rename_i h6
      have := trimL_vallt hf (by omega)
      omega
    · omega
  split <;> omega
theorem trimR_lib (s : List UInt8) : Lib.trimRightB s 48 = trimR s := by
  unfold Lib.trimRightB trimR
  rfl
end Go.Proofs.YtlffebmhknilhaaDoor
