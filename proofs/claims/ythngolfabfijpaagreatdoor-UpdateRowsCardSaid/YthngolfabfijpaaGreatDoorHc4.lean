/-
  Numbers as data, and what is said of them. Facts on the types of this seat's translation, as instances (made by a small program of mine out of the translation).
-/
import Derived.Test.YthngolfabfijpaaGreatDoorHc0
import Derived.Test.YthngolfabfijpaaGreatDoorHc3
namespace Go.Proofs.YthngolfabfijpaaGreatDoor
open Go.RowKit

def heldB (n : Int) : Bool := decide (-9000000000000000000 ≤ n) && decide (n ≤ 9000000000000000000)
theorem heldB_iff {n : Int} : heldB n = true ↔ -9000000000000000000 ≤ n ∧ n ≤ 9000000000000000000 := by
  rw [heldB, Bool.and_eq_true, decide_eq_true_iff, decide_eq_true_iff]
end Go.Proofs.YthngolfabfijpaaGreatDoor
namespace Go.Proofs.YthngolfabfijpaaGreatDoor
open Go.RowKit

def valD (l : List UInt8) : Nat := l.foldl (fun n c => 10 * n + (c.toNat - 48)) 0
theorem valD_foldl : ∀ (l : List UInt8) (a : Nat), l.foldl (fun n c => 10 * n + (c.toNat - 48)) a = a * 10 ^ l.length + valD l := by
  intro l
  induction l with
  | nil => intro a; simp [valD]
  | cons c r ih =>
    intro a
    have e : valD (c :: r) = (c.toNat - 48) * 10 ^ r.length + valD r := by
      have := ih (c.toNat - 48)
      show List.foldl (fun n c => 10 * n + (c.toNat - 48)) 0 (c :: r) = _
      rw [List.foldl_cons]
      simpa using this
    rw [List.foldl_cons, ih, e, List.length_cons, Nat.pow_succ, Nat.add_mul, ← Nat.mul_assoc, Nat.mul_comm 10 a, Nat.mul_assoc, Nat.mul_comm 10 (10 ^ r.length)]
    simp only [Nat.mul_assoc]
    omega
theorem valD_append (a b : List UInt8) : valD (a ++ b) = valD a * 10 ^ b.length + valD b := by
  rw [valD, List.foldl_append, valD_foldl]; rfl
theorem valD_snoc (a : List UInt8) (c : UInt8) : valD (a ++ [c]) = 10 * valD a + (c.toNat - 48) := by
  rw [valD, List.foldl_append]; rfl
theorem valD_zeros (k : Nat) : valD (List.replicate k 48) = 0 := by
  induction k with
  | zero => rfl
  | succ k ih => rw [List.replicate_succ', valD_snoc, ih]; rfl
theorem valD_shift (a : List UInt8) (k : Nat) : valD (a ++ List.replicate k 48) = valD a * 10 ^ k := by
  rw [valD_append, valD_zeros, List.length_replicate]; rfl
theorem valD_lead (k : Nat) (a : List UInt8) : valD (List.replicate k 48 ++ a) = valD a := by
  rw [valD_append, valD_zeros]; omega
def trimR (s : List UInt8) : List UInt8 := (s.reverse.dropWhile (· == 48)).reverse
theorem dropWhile_split : ∀ (s : List UInt8), s = List.replicate (s.length - (s.dropWhile (· == 48)).length) 48 ++ s.dropWhile (· == 48) := by
  intro s
  induction s with
  | nil => rfl
  | cons c r ih =>
    rw [List.dropWhile_cons]
    split
    · rename_i h
      obtain rfl : c = 48 := by simpa using h
      have h1 : (r.dropWhile (· == 48)).length ≤ r.length := (List.dropWhile_sublist _).length_le
      rw [List.length_cons, show r.length + 1 - (r.dropWhile (· == 48)).length = (r.length - (r.dropWhile (· == 48)).length) + 1 by omega, List.replicate_succ, List.cons_append, ← ih]
    · simp
theorem trimR_split (s : List UInt8) : s = trimR s ++ List.replicate (s.length - (trimR s).length) 48 := by
  have h := congrArg List.reverse (dropWhile_split s.reverse)
  rw [List.reverse_reverse, List.reverse_append, List.reverse_replicate] at h
  rw [trimR, List.length_reverse]
  rw [List.length_reverse] at h
  exact h
theorem trimR_le (s : List UInt8) : (trimR s).length ≤ s.length := by
  rw [trimR, List.length_reverse]
  have := (List.dropWhile_sublist (l := s.reverse) (· == 48)).length_le
  simpa using this
theorem trimR_val (s : List UInt8) : valD s = valD (trimR s) * 10 ^ (s.length - (trimR s).length) := by
  conv => lhs; rw [trimR_split s]
  rw [valD_shift]

end Go.Proofs.YthngolfabfijpaaGreatDoor
namespace Go.Proofs.YthngolfabfijpaaGreatDoor
open Go.RowKit

end Go.Proofs.YthngolfabfijpaaGreatDoor
namespace Go.Proofs.YthngolfabfijpaaGreatDoor
open Go.TL
theorem run_sizeI {P : Program} {t : TypeId} {sz bytes : Nat} {z : Value} [h : Inf P t sz bytes z] (w : World) : (sizeOf t).run P w = .ok sz w := by
  obtain ⟨i, h1, h2, _⟩ := h.eq
  rw [run_size h1, h2]
set_option maxRecDepth 100000
instance : Con Tryz.prog 0 := Con.of (by kernel_rfl)
instance : Con Tryz.prog 1 := Con.of (by kernel_rfl)
instance : Con Tryz.prog 2 := Con.of (by kernel_rfl)
instance : Con Tryz.prog 3 := Con.of (by kernel_rfl)
instance : Con Tryz.prog 4 := Con.of (by kernel_rfl)
instance : Con Tryz.prog 5 := Con.of (by kernel_rfl)
instance : Con Tryz.prog 6 := Con.of (by kernel_rfl)
instance : Con Tryz.prog 7 := Con.of (by kernel_rfl)
instance : Places Tryz.prog 7 [(0, 1), (1, 1), (2, 1), (3, 1)] [(.int .i64 0), (.int .i64 0), (.bool false), (.int .u8 0)] := ⟨_, Tryz.underlying7, fun w => by simp [run_sizeI], fun w => run_zero w⟩
instance : Con Tryz.prog 8 := Con.of (by kernel_rfl)
instance : Places Tryz.prog 8 [(0, 1), (1, 1), (2, 1), (3, 1)] [(.int .i64 0), (.int .i64 0), (.bool false), (.int .u8 0)] := ⟨_, Tryz.underlying8, fun w => by simp [run_sizeI], fun w => run_zero w⟩
instance : Con Tryz.prog 9 := Con.of (by kernel_rfl)
instance : Con Tryz.prog 10 := Con.of (by kernel_rfl)
instance : Con Tryz.prog 11 := Con.of (by kernel_rfl)
instance : Con Tryz.prog 12 := Con.of (by kernel_rfl)
instance : Con Tryz.prog 13 := Con.of (by kernel_rfl)
instance : Places Tryz.prog 13 [(0, 1), (1, 1)] [(.string ⟨#[]⟩), (.int .u64 0)] := ⟨_, Tryz.underlying13, fun w => by simp [run_sizeI], fun w => run_zero w⟩
instance : Con Tryz.prog 14 := Con.of (by kernel_rfl)
instance : Places Tryz.prog 14 [(0, 1), (1, 1)] [(.string ⟨#[]⟩), (.int .u64 0)] := ⟨_, Tryz.underlying14, fun w => by simp [run_sizeI], fun w => run_zero w⟩
instance : Con Tryz.prog 15 := Con.of (by kernel_rfl)
instance : Con Tryz.prog 16 := Con.of (by kernel_rfl)
instance : Con Tryz.prog 17 := Con.of (by kernel_rfl)
instance : Con Tryz.prog 18 := Con.of (by kernel_rfl)
instance : Places Tryz.prog 18 [(0, 1)] [(.pointer none)] := ⟨_, Tryz.underlying18, fun w => by simp [run_sizeI], fun w => run_zero w⟩
instance : Con Tryz.prog 19 := Con.of (by kernel_rfl)
instance : Places Tryz.prog 19 [(0, 1)] [(.pointer none)] := ⟨_, Tryz.underlying19, fun w => by simp [run_sizeI], fun w => run_zero w⟩
instance : Con Tryz.prog 21 := Con.of (by kernel_rfl)
instance : Con Tryz.prog 22 := Con.of (by kernel_rfl)
instance : Con Tryz.prog 23 := Con.of (by kernel_rfl)
instance : Con Tryz.prog 24 := Con.of (by kernel_rfl)
instance : Con Tryz.prog 25 := Con.of (by kernel_rfl)
instance : Con Tryz.prog 26 := Con.of (by kernel_rfl)
instance : Con Tryz.prog 27 := Con.of (by kernel_rfl)
instance : Con Tryz.prog 28 := Con.of (by kernel_rfl)
instance : Places Tryz.prog 28 [(0, 1), (1, 1), (2, 1), (3, 1), (4, 1), (5, 1)] [(.int .i64 0), (.bool false), (.int .i64 0), (.string ⟨#[]⟩), (.slice none 0 0), (.slice none 0 0)] := ⟨_, Tryz.underlying28, fun w => by simp [run_sizeI], fun w => run_zero w⟩
instance : Con Tryz.prog 29 := Con.of (by kernel_rfl)
instance : Places Tryz.prog 29 [(0, 1), (1, 1), (2, 1), (3, 1), (4, 1), (5, 1)] [(.int .i64 0), (.bool false), (.int .i64 0), (.string ⟨#[]⟩), (.slice none 0 0), (.slice none 0 0)] := ⟨_, Tryz.underlying29, fun w => by simp [run_sizeI], fun w => run_zero w⟩
instance : Con Tryz.prog 30 := Con.of (by kernel_rfl)
instance : Con Tryz.prog 31 := Con.of (by kernel_rfl)
instance : Con Tryz.prog 32 := Con.of (by kernel_rfl)
instance : Con Tryz.prog 33 := Con.of (by kernel_rfl)
instance : Con Tryz.prog 34 := Con.of (by kernel_rfl)
instance : Con Tryz.prog 35 := Con.of (by kernel_rfl)
instance : Con Tryz.prog 36 := Con.of (by kernel_rfl)
instance : Con Tryz.prog 37 := Con.of (by kernel_rfl)
instance : Con Tryz.prog 38 := Con.of (by kernel_rfl)
instance : Con Tryz.prog 39 := Con.of (by kernel_rfl)
instance : Con Tryz.prog 40 := Con.of (by kernel_rfl)
instance : Con Tryz.prog 41 := Con.of (by kernel_rfl)
instance : Con Tryz.prog 42 := Con.of (by kernel_rfl)
instance : Con Tryz.prog 43 := Con.of (by kernel_rfl)
instance : Con Tryz.prog 44 := Con.of (by kernel_rfl)
instance : Con Tryz.prog 45 := Con.of (by kernel_rfl)
instance : Con Tryz.prog 46 := Con.of (by kernel_rfl)
instance : Places Tryz.prog 46 [(0, 1), (1, 1)] [(.string ⟨#[]⟩), .nilIface] := ⟨_, Tryz.underlying46, fun w => by simp [run_sizeI], fun w => run_zero w⟩
instance : Con Tryz.prog 47 := Con.of (by kernel_rfl)
instance : Places Tryz.prog 47 [(0, 1), (1, 1)] [(.string ⟨#[]⟩), .nilIface] := ⟨_, Tryz.underlying47, fun w => by simp [run_sizeI], fun w => run_zero w⟩
instance : Con Tryz.prog 48 := Con.of (by kernel_rfl)
instance : Con Tryz.prog 49 := Con.of (by kernel_rfl)
instance : Con Tryz.prog 50 := Con.of (by kernel_rfl)
instance : Con Tryz.prog 51 := Con.of (by kernel_rfl)
instance : Con Tryz.prog 52 := Con.of (by kernel_rfl)
instance : Con Tryz.prog 53 := Con.of (by kernel_rfl)
instance : Con Tryz.prog 54 := Con.of (by kernel_rfl)
instance : Con Tryz.prog 55 := Con.of (by kernel_rfl)
instance : Con Tryz.prog 56 := Con.of (by kernel_rfl)
instance : Con Tryz.prog 57 := Con.of (by kernel_rfl)
instance : Places Tryz.prog 57 [(0, 1), (1, 1)] [(.slice none 0 0), (.bool false)] := ⟨_, Tryz.underlying57, fun w => by simp [run_sizeI], fun w => run_zero w⟩
instance : Con Tryz.prog 58 := Con.of (by kernel_rfl)
instance : Places Tryz.prog 58 [(0, 1), (1, 1)] [(.slice none 0 0), (.bool false)] := ⟨_, Tryz.underlying58, fun w => by simp [run_sizeI], fun w => run_zero w⟩
instance : Con Tryz.prog 59 := Con.of (by kernel_rfl)
instance : Con Tryz.prog 60 := Con.of (by kernel_rfl)
instance : Con Tryz.prog 61 := Con.of (by kernel_rfl)
instance : Con Tryz.prog 62 := Con.of (by kernel_rfl)
instance : Con Tryz.prog 63 := Con.of (by kernel_rfl)
instance : Con Tryz.prog 64 := Con.of (by kernel_rfl)
instance : Con Tryz.prog 65 := Con.of (by kernel_rfl)
instance : Con Tryz.prog 66 := Con.of (by kernel_rfl)
instance : Con Tryz.prog 67 := Con.of (by kernel_rfl)
instance : Con Tryz.prog 68 := Con.of (by kernel_rfl)
instance : Places Tryz.prog 68 [(0, 1)] [(.int .i64 0)] := ⟨_, Tryz.underlying68, fun w => by simp [run_sizeI], fun w => run_zero w⟩
instance : Con Tryz.prog 69 := Con.of (by kernel_rfl)
instance : Places Tryz.prog 69 [(0, 1)] [(.int .i64 0)] := ⟨_, Tryz.underlying69, fun w => by simp [run_sizeI], fun w => run_zero w⟩
instance : Con Tryz.prog 70 := Con.of (by kernel_rfl)
instance : Con Tryz.prog 71 := Con.of (by kernel_rfl)
instance : Con Tryz.prog 72 := Con.of (by kernel_rfl)
instance : Con Tryz.prog 73 := Con.of (by kernel_rfl)
instance : Places Tryz.prog 73 [(0, 1)] [.nilIface] := ⟨_, Tryz.underlying73, fun w => by simp [run_sizeI], fun w => run_zero w⟩
instance : Con Tryz.prog 74 := Con.of (by kernel_rfl)
instance : Places Tryz.prog 74 [(0, 1)] [.nilIface] := ⟨_, Tryz.underlying74, fun w => by simp [run_sizeI], fun w => run_zero w⟩
instance : Con Tryz.prog 75 := Con.of (by kernel_rfl)
instance : Con Tryz.prog 76 := Con.of (by kernel_rfl)
instance : Con Tryz.prog 77 := Con.of (by kernel_rfl)
instance : Places Tryz.prog 77 [(0, 1), (1, 1)] [.nilFunc, .nilFunc] := ⟨_, Tryz.underlying77, fun w => by simp [run_sizeI], fun w => run_zero w⟩
instance : Con Tryz.prog 78 := Con.of (by kernel_rfl)
instance : Places Tryz.prog 78 [(0, 1), (1, 1)] [.nilFunc, .nilFunc] := ⟨_, Tryz.underlying78, fun w => by simp [run_sizeI], fun w => run_zero w⟩
instance : Con Tryz.prog 79 := Con.of (by kernel_rfl)
instance : Con Tryz.prog 80 := Con.of (by kernel_rfl)
instance : Con Tryz.prog 81 := Con.of (by kernel_rfl)
instance : Con Tryz.prog 82 := Con.of (by kernel_rfl)
instance : Con Tryz.prog 83 := Con.of (by kernel_rfl)
instance : Con Tryz.prog 84 := Con.of (by kernel_rfl)
instance : Con Tryz.prog 85 := Con.of (by kernel_rfl)
instance : Con Tryz.prog 86 := Con.of (by kernel_rfl)
instance : Con Tryz.prog 87 := Con.of (by kernel_rfl)
instance : Con Tryz.prog 88 := Con.of (by kernel_rfl)
instance : Con Tryz.prog 89 := Con.of (by kernel_rfl)
instance : Con Tryz.prog 90 := Con.of (by kernel_rfl)
instance : Con Tryz.prog 91 := Con.of (by kernel_rfl)
instance : Con Tryz.prog 92 := Con.of (by kernel_rfl)
instance : Con Tryz.prog 93 := Con.of (by kernel_rfl)
instance : Con Tryz.prog 94 := Con.of (by kernel_rfl)
instance : Con Tryz.prog 95 := Con.of (by kernel_rfl)
instance : Con Tryz.prog 96 := Con.of (by kernel_rfl)
instance : Con Tryz.prog 97 := Con.of (by kernel_rfl)
instance : Con Tryz.prog 98 := Con.of (by kernel_rfl)
instance : Con Tryz.prog 99 := Con.of (by kernel_rfl)
instance : Con Tryz.prog 100 := Con.of (by kernel_rfl)
instance : Con Tryz.prog 101 := Con.of (by kernel_rfl)
instance : Con Tryz.prog 102 := Con.of (by kernel_rfl)
instance : Con Tryz.prog 103 := Con.of (by kernel_rfl)
instance : Con Tryz.prog 104 := Con.of (by kernel_rfl)
instance : Con Tryz.prog 105 := Con.of (by kernel_rfl)
instance : Con Tryz.prog 106 := Con.of (by kernel_rfl)
instance : Con Tryz.prog 107 := Con.of (by kernel_rfl)
instance : Con Tryz.prog 108 := Con.of (by kernel_rfl)
instance : Con Tryz.prog 109 := Con.of (by kernel_rfl)
instance : Con Tryz.prog 110 := Con.of (by kernel_rfl)
instance : Con Tryz.prog 111 := Con.of (by kernel_rfl)
instance : Con Tryz.prog 112 := Con.of (by kernel_rfl)
instance : Con Tryz.prog 113 := Con.of (by kernel_rfl)
instance : Con Tryz.prog 114 := Con.of (by kernel_rfl)
instance : Con Tryz.prog 115 := Con.of (by kernel_rfl)
instance : Con Tryz.prog 116 := Con.of (by kernel_rfl)
instance : Places Tryz.prog 116 [(0, 1), (1, 1)] [(.pointer none), (.slice none 0 0)] := ⟨_, Tryz.underlying116, fun w => by simp [run_sizeI], fun w => run_zero w⟩
instance : Con Tryz.prog 117 := Con.of (by kernel_rfl)
instance : Places Tryz.prog 117 [(0, 1), (1, 1)] [(.pointer none), (.slice none 0 0)] := ⟨_, Tryz.underlying117, fun w => by simp [run_sizeI], fun w => run_zero w⟩
instance : Con Tryz.prog 118 := Con.of (by kernel_rfl)
instance : Places Tryz.prog 118 [(0, 2)] [(.pointer none), (.slice none 0 0)] := ⟨_, Tryz.underlying118, fun w => by simp [run_sizeI], fun w => run_zero w⟩
instance : Con Tryz.prog 119 := Con.of (by kernel_rfl)
instance : Places Tryz.prog 119 [(0, 2)] [(.pointer none), (.slice none 0 0)] := ⟨_, Tryz.underlying119, fun w => by simp [run_sizeI], fun w => run_zero w⟩
instance : Con Tryz.prog 120 := Con.of (by kernel_rfl)
instance : Con Tryz.prog 121 := Con.of (by kernel_rfl)
instance : Con Tryz.prog 122 := Con.of (by kernel_rfl)
instance : Places Tryz.prog 122 [(0, 1)] [(.int .i64 0)] := ⟨_, Tryz.underlying122, fun w => by simp [run_sizeI], fun w => run_zero w⟩
instance : Con Tryz.prog 123 := Con.of (by kernel_rfl)
instance : Places Tryz.prog 123 [(0, 1)] [(.int .i64 0)] := ⟨_, Tryz.underlying123, fun w => by simp [run_sizeI], fun w => run_zero w⟩
instance : Con Tryz.prog 124 := Con.of (by kernel_rfl)
instance : Con Tryz.prog 125 := Con.of (by kernel_rfl)
instance : Con Tryz.prog 126 := Con.of (by kernel_rfl)
instance : Con Tryz.prog 127 := Con.of (by kernel_rfl)
instance : Con Tryz.prog 128 := Con.of (by kernel_rfl)
instance : Con Tryz.prog 129 := Con.of (by kernel_rfl)
instance : Con Tryz.prog 132 := Con.of (by kernel_rfl)
instance : Con Tryz.prog 133 := Con.of (by kernel_rfl)
instance : Con Tryz.prog 134 := Con.of (by kernel_rfl)
instance : Con Tryz.prog 135 := Con.of (by kernel_rfl)
instance : Con Tryz.prog 136 := Con.of (by kernel_rfl)
instance : Con Tryz.prog 137 := Con.of (by kernel_rfl)
instance : Con Tryz.prog 138 := Con.of (by kernel_rfl)
instance : Con Tryz.prog 139 := Con.of (by kernel_rfl)
instance : Con Tryz.prog 140 := Con.of (by kernel_rfl)
instance : Con Tryz.prog 141 := Con.of (by kernel_rfl)
instance : Con Tryz.prog 142 := Con.of (by kernel_rfl)
instance : Con Tryz.prog 143 := Con.of (by kernel_rfl)
instance : Con Tryz.prog 144 := Con.of (by kernel_rfl)
instance : Con Tryz.prog 145 := Con.of (by kernel_rfl)
instance : Con Tryz.prog 146 := Con.of (by kernel_rfl)
instance : Con Tryz.prog 147 := Con.of (by kernel_rfl)
instance : Con Tryz.prog 148 := Con.of (by kernel_rfl)
instance : Con Tryz.prog 149 := Con.of (by kernel_rfl)
instance : Con Tryz.prog 150 := Con.of (by kernel_rfl)
instance : Con Tryz.prog 151 := Con.of (by kernel_rfl)
instance : Con Tryz.prog 152 := Con.of (by kernel_rfl)
instance : Con Tryz.prog 153 := Con.of (by kernel_rfl)
instance : Con Tryz.prog 154 := Con.of (by kernel_rfl)
instance : Con Tryz.prog 155 := Con.of (by kernel_rfl)
instance : Con Tryz.prog 156 := Con.of (by kernel_rfl)
instance : Con Tryz.prog 157 := Con.of (by kernel_rfl)
instance : Con Tryz.prog 158 := Con.of (by kernel_rfl)
instance : Con Tryz.prog 159 := Con.of (by kernel_rfl)
instance : Con Tryz.prog 160 := Con.of (by kernel_rfl)
instance : Places Tryz.prog 160 [(0, 1), (1, 1)] [(.int .u8 0), (.int .u8 0)] := ⟨_, Tryz.underlying160, fun w => by simp [run_sizeI], fun w => run_zero w⟩
instance : Con Tryz.prog 161 := Con.of (by kernel_rfl)
instance : Places Tryz.prog 161 [(0, 1), (1, 1)] [(.int .u8 0), (.int .u8 0)] := ⟨_, Tryz.underlying161, fun w => by simp [run_sizeI], fun w => run_zero w⟩
instance : Con Tryz.prog 162 := Con.of (by kernel_rfl)
instance : Con Tryz.prog 163 := Con.of (by kernel_rfl)
instance : Con Tryz.prog 164 := Con.of (by kernel_rfl)
instance : Con Tryz.prog 165 := Con.of (by kernel_rfl)
instance : Con Tryz.prog 166 := Con.of (by kernel_rfl)
instance : Con Tryz.prog 167 := Con.of (by kernel_rfl)
instance : Con Tryz.prog 168 := Con.of (by kernel_rfl)
instance : Con Tryz.prog 169 := Con.of (by kernel_rfl)
instance : Con Tryz.prog 170 := Con.of (by kernel_rfl)
instance : Con Tryz.prog 171 := Con.of (by kernel_rfl)
instance : Con Tryz.prog 172 := Con.of (by kernel_rfl)
instance : Con Tryz.prog 173 := Con.of (by kernel_rfl)
instance : Con Tryz.prog 174 := Con.of (by kernel_rfl)
instance : Con Tryz.prog 175 := Con.of (by kernel_rfl)
instance : Con Tryz.prog 176 := Con.of (by kernel_rfl)
instance : Con Tryz.prog 177 := Con.of (by kernel_rfl)
instance : Con Tryz.prog 178 := Con.of (by kernel_rfl)
instance : Con Tryz.prog 179 := Con.of (by kernel_rfl)
instance : Con Tryz.prog 180 := Con.of (by kernel_rfl)
instance : Con Tryz.prog 181 := Con.of (by kernel_rfl)
instance : Con Tryz.prog 182 := Con.of (by kernel_rfl)
instance : Con Tryz.prog 183 := Con.of (by kernel_rfl)
instance : Con Tryz.prog 184 := Con.of (by kernel_rfl)
instance : Con Tryz.prog 185 := Con.of (by kernel_rfl)
instance : Con Tryz.prog 186 := Con.of (by kernel_rfl)
instance : Con Tryz.prog 187 := Con.of (by kernel_rfl)
instance : Con Tryz.prog 188 := Con.of (by kernel_rfl)
instance : Con Tryz.prog 189 := Con.of (by kernel_rfl)
instance : Con Tryz.prog 190 := Con.of (by kernel_rfl)
instance : Con Tryz.prog 191 := Con.of (by kernel_rfl)
instance : Con Tryz.prog 192 := Con.of (by kernel_rfl)
instance : Con Tryz.prog 193 := Con.of (by kernel_rfl)
instance : Con Tryz.prog 194 := Con.of (by kernel_rfl)
instance : Con Tryz.prog 195 := Con.of (by kernel_rfl)
instance : Con Tryz.prog 196 := Con.of (by kernel_rfl)
instance : Con Tryz.prog 197 := Con.of (by kernel_rfl)
instance : Con Tryz.prog 198 := Con.of (by kernel_rfl)
instance : Con Tryz.prog 199 := Con.of (by kernel_rfl)
instance : Con Tryz.prog 200 := Con.of (by kernel_rfl)
instance : Con Tryz.prog 201 := Con.of (by kernel_rfl)
instance : Con Tryz.prog 202 := Con.of (by kernel_rfl)
instance : Con Tryz.prog 203 := Con.of (by kernel_rfl)
instance : Con Tryz.prog 204 := Con.of (by kernel_rfl)
instance : Con Tryz.prog 205 := Con.of (by kernel_rfl)
instance : Con Tryz.prog 206 := Con.of (by kernel_rfl)
instance : Con Tryz.prog 207 := Con.of (by kernel_rfl)
instance : Con Tryz.prog 208 := Con.of (by kernel_rfl)
instance : Con Tryz.prog 209 := Con.of (by kernel_rfl)
instance : Con Tryz.prog 210 := Con.of (by kernel_rfl)
instance : Con Tryz.prog 211 := Con.of (by kernel_rfl)
instance : Con Tryz.prog 212 := Con.of (by kernel_rfl)
instance : Con Tryz.prog 213 := Con.of (by kernel_rfl)
instance : Con Tryz.prog 214 := Con.of (by kernel_rfl)
instance : Con Tryz.prog 215 := Con.of (by kernel_rfl)
instance : Con Tryz.prog 216 := Con.of (by kernel_rfl)
instance : Con Tryz.prog 217 := Con.of (by kernel_rfl)
instance : Con Tryz.prog 218 := Con.of (by kernel_rfl)
instance : Con Tryz.prog 219 := Con.of (by kernel_rfl)
instance : Con Tryz.prog 220 := Con.of (by kernel_rfl)
instance : Con Tryz.prog 221 := Con.of (by kernel_rfl)
instance : Con Tryz.prog 222 := Con.of (by kernel_rfl)
instance : Con Tryz.prog 223 := Con.of (by kernel_rfl)
instance : Con Tryz.prog 224 := Con.of (by kernel_rfl)
instance : Con Tryz.prog 225 := Con.of (by kernel_rfl)
instance : Con Tryz.prog 226 := Con.of (by kernel_rfl)
instance : Con Tryz.prog 227 := Con.of (by kernel_rfl)
instance : Con Tryz.prog 228 := Con.of (by kernel_rfl)
instance : Con Tryz.prog 229 := Con.of (by kernel_rfl)
instance : Con Tryz.prog 230 := Con.of (by kernel_rfl)
instance : Con Tryz.prog 231 := Con.of (by kernel_rfl)
instance : Con Tryz.prog 232 := Con.of (by kernel_rfl)
instance : Con Tryz.prog 233 := Con.of (by kernel_rfl)
instance : Con Tryz.prog 234 := Con.of (by kernel_rfl)
instance : Con Tryz.prog 235 := Con.of (by kernel_rfl)
instance : Con Tryz.prog 236 := Con.of (by kernel_rfl)
instance : Places Tryz.prog 236 [(0, 1), (1, 1), (2, 1)] [(.string ⟨#[]⟩), (.string ⟨#[]⟩), .nilIface] := ⟨_, Tryz.underlying236, fun w => by simp [run_sizeI], fun w => run_zero w⟩
instance : Con Tryz.prog 237 := Con.of (by kernel_rfl)
instance : Places Tryz.prog 237 [(0, 1), (1, 1), (2, 1)] [(.string ⟨#[]⟩), (.string ⟨#[]⟩), .nilIface] := ⟨_, Tryz.underlying237, fun w => by simp [run_sizeI], fun w => run_zero w⟩
instance : Con Tryz.prog 238 := Con.of (by kernel_rfl)
instance : Con Tryz.prog 239 := Con.of (by kernel_rfl)
instance : Con Tryz.prog 240 := Con.of (by kernel_rfl)
instance : Con Tryz.prog 241 := Con.of (by kernel_rfl)
instance : Con Tryz.prog 242 := Con.of (by kernel_rfl)
instance : Con Tryz.prog 243 := Con.of (by kernel_rfl)
instance : Con Tryz.prog 244 := Con.of (by kernel_rfl)
instance : Con Tryz.prog 245 := Con.of (by kernel_rfl)
instance : Con Tryz.prog 246 := Con.of (by kernel_rfl)
instance : Con Tryz.prog 247 := Con.of (by kernel_rfl)
instance : Con Tryz.prog 248 := Con.of (by kernel_rfl)
instance : Places Tryz.prog 248 [(0, 1)] [(.string ⟨#[]⟩)] := ⟨_, Tryz.underlying248, fun w => by simp [run_sizeI], fun w => run_zero w⟩
instance : Con Tryz.prog 249 := Con.of (by kernel_rfl)
instance : Places Tryz.prog 249 [(0, 1)] [(.string ⟨#[]⟩)] := ⟨_, Tryz.underlying249, fun w => by simp [run_sizeI], fun w => run_zero w⟩
instance : Con Tryz.prog 250 := Con.of (by kernel_rfl)
instance : Con Tryz.prog 251 := Con.of (by kernel_rfl)
instance : Con Tryz.prog 252 := Con.of (by kernel_rfl)
instance : Con Tryz.prog 253 := Con.of (by kernel_rfl)
instance : Con Tryz.prog 254 := Con.of (by kernel_rfl)
instance : Con Tryz.prog 255 := Con.of (by kernel_rfl)
instance : Places Tryz.prog 255 [(0, 1), (1, 1), (2, 1), (3, 1)] [(.pointer none), (.pointer none), (.pointer none), (.string ⟨#[]⟩)] := ⟨_, Tryz.underlying255, fun w => by simp [run_sizeI], fun w => run_zero w⟩
instance : Con Tryz.prog 256 := Con.of (by kernel_rfl)
instance : Places Tryz.prog 256 [(0, 1), (1, 1), (2, 1), (3, 1)] [(.pointer none), (.pointer none), (.pointer none), (.string ⟨#[]⟩)] := ⟨_, Tryz.underlying256, fun w => by simp [run_sizeI], fun w => run_zero w⟩
instance : Con Tryz.prog 257 := Con.of (by kernel_rfl)
instance : Con Tryz.prog 258 := Con.of (by kernel_rfl)
instance : Places Tryz.prog 258 [(0, 0)] [] := ⟨_, Tryz.underlying258, fun w => by simp [run_sizeI], fun w => run_zero w⟩
instance : Con Tryz.prog 259 := Con.of (by kernel_rfl)
instance : Places Tryz.prog 259 [(0, 0)] [] := ⟨_, Tryz.underlying259, fun w => by simp [run_sizeI], fun w => run_zero w⟩
instance : Con Tryz.prog 260 := Con.of (by kernel_rfl)
instance : Con Tryz.prog 261 := Con.of (by kernel_rfl)
instance : Con Tryz.prog 262 := Con.of (by kernel_rfl)
instance : Con Tryz.prog 263 := Con.of (by kernel_rfl)
instance : Con Tryz.prog 264 := Con.of (by kernel_rfl)
instance : Con Tryz.prog 265 := Con.of (by kernel_rfl)
instance : Places Tryz.prog 265 [(0, 1), (1, 1), (2, 1), (3, 1), (4, 1), (5, 1), (6, 1), (7, 1), (8, 1), (9, 1), (10, 1)] [(.int .u64 0), (.int .u64 0), (.int .u32 0), (.int .u8 0), (.int .u8 0), (.int .u8 0), (.int .u8 0), .nilFunc, (.pointer none), (.int .i32 0), (.int .i32 0)] := ⟨_, Tryz.underlying265, fun w => by simp [run_sizeI], fun w => run_zero w⟩
instance : Con Tryz.prog 266 := Con.of (by kernel_rfl)
instance : Places Tryz.prog 266 [(0, 1), (1, 1), (2, 1), (3, 1), (4, 1), (5, 1), (6, 1), (7, 1), (8, 1), (9, 1), (10, 1)] [(.int .u64 0), (.int .u64 0), (.int .u32 0), (.int .u8 0), (.int .u8 0), (.int .u8 0), (.int .u8 0), .nilFunc, (.pointer none), (.int .i32 0), (.int .i32 0)] := ⟨_, Tryz.underlying266, fun w => by simp [run_sizeI], fun w => run_zero w⟩
end Go.Proofs.YthngolfabfijpaaGreatDoor
