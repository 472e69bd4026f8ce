/-
  Numbers as data, and what is said of them. Facts on the types of this seat's translation, as instances (made by a small program of mine out of the translation).
-/
import Derived.Test.YtacogbfgegcliaaGreatDoorHg0
import Derived.Test.YtacogbfgegcliaaGreatDoorHg1
namespace Go.Proofs.YtacogbfgegcliaaGreatDoor
open Go.RowKit

def heldB (n : Int) : Bool := decide (-9000000000000000000 ≤ n) && decide (n ≤ 9000000000000000000)
end Go.Proofs.YtacogbfgegcliaaGreatDoor
namespace Go.Proofs.YtacogbfgegcliaaGreatDoor
open Go.RowKit

def trimR (s : List UInt8) : List UInt8 := (s.reverse.dropWhile (· == 48)).reverse
theorem trimR_le (s : List UInt8) : (trimR s).length ≤ s.length := by
  rw [trimR, List.length_reverse]
  have := (List.dropWhile_sublist (l := s.reverse) (· == 48)).length_le
  simpa using this
end Go.Proofs.YtacogbfgegcliaaGreatDoor
namespace Go.Proofs.YtacogbfgegcliaaGreatDoor
open Go.RowKit

end Go.Proofs.YtacogbfgegcliaaGreatDoor
namespace Go.Proofs.YtacogbfgegcliaaGreatDoor
open Go.TL
theorem run_sizeI {P : Program} {t : TypeId} {sz bytes : Nat} {z : Value} [h : Inf P t sz bytes z] (w : World) : (sizeOf t).run P w = .ok sz w := by
  obtain ⟨i, h1, h2, _⟩ := h.eq
  rw [run_size h1, h2]
set_option maxRecDepth 100000
instance : Con Tryz.prog 0 := Con.of (by kernel_rfl)
instance : Con Tryz.prog 1 := Con.of (by kernel_rfl)
instance : Con Tryz.prog 2 := Con.of (by kernel_rfl)
instance : Con Tryz.prog 3 := Con.of (by kernel_rfl)
instance : Con Tryz.prog 4 := Con.of (by kernel_rfl)
instance : Con Tryz.prog 5 := Con.of (by kernel_rfl)
instance : Con Tryz.prog 6 := Con.of (by kernel_rfl)
instance : Con Tryz.prog 7 := Con.of (by kernel_rfl)
instance : Places Tryz.prog 7 [(0, 1), (1, 1), (2, 1), (3, 1)] [(.int .i64 0), (.int .i64 0), (.bool false), (.int .u8 0)] := ⟨_, Tryz.underlying7, fun w => by simp [run_sizeI], fun w => run_zero w⟩
instance : Con Tryz.prog 8 := Con.of (by kernel_rfl)
instance : Places Tryz.prog 8 [(0, 1), (1, 1), (2, 1), (3, 1)] [(.int .i64 0), (.int .i64 0), (.bool false), (.int .u8 0)] := ⟨_, Tryz.underlying8, fun w => by simp [run_sizeI], fun w => run_zero w⟩
instance : Con Tryz.prog 9 := Con.of (by kernel_rfl)
instance : Con Tryz.prog 10 := Con.of (by kernel_rfl)
instance : Con Tryz.prog 11 := Con.of (by kernel_rfl)
instance : Con Tryz.prog 12 := Con.of (by kernel_rfl)
instance : Con Tryz.prog 13 := Con.of (by kernel_rfl)
instance : Places Tryz.prog 13 [(0, 1), (1, 1)] [(.string ⟨#[]⟩), (.int .u64 0)] := ⟨_, Tryz.underlying13, fun w => by simp [run_sizeI], fun w => run_zero w⟩
instance : Con Tryz.prog 14 := Con.of (by kernel_rfl)
instance : Places Tryz.prog 14 [(0, 1), (1, 1)] [(.string ⟨#[]⟩), (.int .u64 0)] := ⟨_, Tryz.underlying14, fun w => by simp [run_sizeI], fun w => run_zero w⟩
instance : Con Tryz.prog 15 := Con.of (by kernel_rfl)
instance : Con Tryz.prog 16 := Con.of (by kernel_rfl)
instance : Con Tryz.prog 17 := Con.of (by kernel_rfl)
instance : Con Tryz.prog 18 := Con.of (by kernel_rfl)
instance : Places Tryz.prog 18 [(0, 1)] [(.pointer none)] := ⟨_, Tryz.underlying18, fun w => by simp [run_sizeI], fun w => run_zero w⟩
instance : Con Tryz.prog 19 := Con.of (by kernel_rfl)
instance : Places Tryz.prog 19 [(0, 1)] [(.pointer none)] := ⟨_, Tryz.underlying19, fun w => by simp [run_sizeI], fun w => run_zero w⟩
instance : Con Tryz.prog 21 := Con.of (by kernel_rfl)
instance : Con Tryz.prog 22 := Con.of (by kernel_rfl)
instance : Con Tryz.prog 23 := Con.of (by kernel_rfl)
instance : Con Tryz.prog 24 := Con.of (by kernel_rfl)
instance : Con Tryz.prog 25 := Con.of (by kernel_rfl)
instance : Con Tryz.prog 26 := Con.of (by kernel_rfl)
instance : Con Tryz.prog 27 := Con.of (by kernel_rfl)
instance : Con Tryz.prog 28 := Con.of (by kernel_rfl)
instance : Places Tryz.prog 28 [(0, 1), (1, 1), (2, 1), (3, 1), (4, 1), (5, 1)] [(.int .i64 0), (.bool false), (.int .i64 0), (.string ⟨#[]⟩), (.slice none 0 0), (.slice none 0 0)] := ⟨_, Tryz.underlying28, fun w => by simp [run_sizeI], fun w => run_zero w⟩
instance : Con Tryz.prog 29 := Con.of (by kernel_rfl)
instance : Places Tryz.prog 29 [(0, 1), (1, 1), (2, 1), (3, 1), (4, 1), (5, 1)] [(.int .i64 0), (.bool false), (.int .i64 0), (.string ⟨#[]⟩), (.slice none 0 0), (.slice none 0 0)] := ⟨_, Tryz.underlying29, fun w => by simp [run_sizeI], fun w => run_zero w⟩
instance : Con Tryz.prog 30 := Con.of (by kernel_rfl)
instance : Con Tryz.prog 31 := Con.of (by kernel_rfl)
instance : Con Tryz.prog 32 := Con.of (by kernel_rfl)
instance : Con Tryz.prog 33 := Con.of (by kernel_rfl)
instance : Con Tryz.prog 34 := Con.of (by kernel_rfl)
instance : Con Tryz.prog 35 := Con.of (by kernel_rfl)
instance : Con Tryz.prog 36 := Con.of (by kernel_rfl)
instance : Con Tryz.prog 37 := Con.of (by kernel_rfl)
instance : Con Tryz.prog 38 := Con.of (by kernel_rfl)
instance : Con Tryz.prog 39 := Con.of (by kernel_rfl)
instance : Con Tryz.prog 40 := Con.of (by kernel_rfl)
instance : Con Tryz.prog 41 := Con.of (by kernel_rfl)
instance : Con Tryz.prog 42 := Con.of (by kernel_rfl)
instance : Con Tryz.prog 43 := Con.of (by kernel_rfl)
instance : Con Tryz.prog 44 := Con.of (by kernel_rfl)
instance : Con Tryz.prog 45 := Con.of (by kernel_rfl)
instance : Con Tryz.prog 46 := Con.of (by kernel_rfl)
instance : Con Tryz.prog 47 := Con.of (by kernel_rfl)
instance : Con Tryz.prog 48 := Con.of (by kernel_rfl)
instance : Con Tryz.prog 49 := Con.of (by kernel_rfl)
instance : Con Tryz.prog 50 := Con.of (by kernel_rfl)
instance : Con Tryz.prog 51 := Con.of (by kernel_rfl)
instance : Con Tryz.prog 52 := Con.of (by kernel_rfl)
instance : Con Tryz.prog 53 := Con.of (by kernel_rfl)
instance : Con Tryz.prog 54 := Con.of (by kernel_rfl)
instance : Con Tryz.prog 55 := Con.of (by kernel_rfl)
instance : Con Tryz.prog 56 := Con.of (by kernel_rfl)
instance : Con Tryz.prog 57 := Con.of (by kernel_rfl)
instance : Con Tryz.prog 58 := Con.of (by kernel_rfl)
instance : Con Tryz.prog 59 := Con.of (by kernel_rfl)
instance : Con Tryz.prog 60 := Con.of (by kernel_rfl)
instance : Con Tryz.prog 61 := Con.of (by kernel_rfl)
instance : Con Tryz.prog 62 := Con.of (by kernel_rfl)
instance : Con Tryz.prog 63 := Con.of (by kernel_rfl)
instance : Con Tryz.prog 64 := Con.of (by kernel_rfl)
instance : Con Tryz.prog 65 := Con.of (by kernel_rfl)
instance : Con Tryz.prog 66 := Con.of (by kernel_rfl)
instance : Con Tryz.prog 67 := Con.of (by kernel_rfl)
instance : Con Tryz.prog 68 := Con.of (by kernel_rfl)
instance : Con Tryz.prog 69 := Con.of (by kernel_rfl)
instance : Con Tryz.prog 70 := Con.of (by kernel_rfl)
instance : Con Tryz.prog 71 := Con.of (by kernel_rfl)
instance : Con Tryz.prog 72 := Con.of (by kernel_rfl)
instance : Con Tryz.prog 73 := Con.of (by kernel_rfl)
instance : Con Tryz.prog 74 := Con.of (by kernel_rfl)
instance : Places Tryz.prog 74 [(0, 1), (1, 1)] [(.string ⟨#[]⟩), (.int .i64 0)] := ⟨_, Tryz.underlying74, fun w => by simp [run_sizeI], fun w => run_zero w⟩
instance : Con Tryz.prog 75 := Con.of (by kernel_rfl)
instance : Places Tryz.prog 75 [(0, 1), (1, 1)] [(.string ⟨#[]⟩), (.int .i64 0)] := ⟨_, Tryz.underlying75, fun w => by simp [run_sizeI], fun w => run_zero w⟩
instance : Con Tryz.prog 76 := Con.of (by kernel_rfl)
instance : Con Tryz.prog 77 := Con.of (by kernel_rfl)
instance : Con Tryz.prog 78 := Con.of (by kernel_rfl)
instance : Con Tryz.prog 79 := Con.of (by kernel_rfl)
instance : Con Tryz.prog 80 := Con.of (by kernel_rfl)
instance : Con Tryz.prog 81 := Con.of (by kernel_rfl)
instance : Con Tryz.prog 82 := Con.of (by kernel_rfl)
instance : Con Tryz.prog 83 := Con.of (by kernel_rfl)
instance : Con Tryz.prog 84 := Con.of (by kernel_rfl)
instance : Con Tryz.prog 85 := Con.of (by kernel_rfl)
instance : Con Tryz.prog 86 := Con.of (by kernel_rfl)
instance : Places Tryz.prog 86 [(0, 1), (1, 1)] [(.string ⟨#[]⟩), .nilIface] := ⟨_, Tryz.underlying86, fun w => by simp [run_sizeI], fun w => run_zero w⟩
instance : Con Tryz.prog 87 := Con.of (by kernel_rfl)
instance : Places Tryz.prog 87 [(0, 1), (1, 1)] [(.string ⟨#[]⟩), .nilIface] := ⟨_, Tryz.underlying87, fun w => by simp [run_sizeI], fun w => run_zero w⟩
instance : Con Tryz.prog 88 := Con.of (by kernel_rfl)
instance : Con Tryz.prog 89 := Con.of (by kernel_rfl)
instance : Con Tryz.prog 90 := Con.of (by kernel_rfl)
instance : Con Tryz.prog 91 := Con.of (by kernel_rfl)
instance : Places Tryz.prog 91 [(0, 1), (1, 1)] [(.pointer none), (.slice none 0 0)] := ⟨_, Tryz.underlying91, fun w => by simp [run_sizeI], fun w => run_zero w⟩
instance : Con Tryz.prog 92 := Con.of (by kernel_rfl)
instance : Places Tryz.prog 92 [(0, 1), (1, 1)] [(.pointer none), (.slice none 0 0)] := ⟨_, Tryz.underlying92, fun w => by simp [run_sizeI], fun w => run_zero w⟩
instance : Con Tryz.prog 93 := Con.of (by kernel_rfl)
instance : Places Tryz.prog 93 [(0, 2)] [(.pointer none), (.slice none 0 0)] := ⟨_, Tryz.underlying93, fun w => by simp [run_sizeI], fun w => run_zero w⟩
instance : Con Tryz.prog 94 := Con.of (by kernel_rfl)
instance : Places Tryz.prog 94 [(0, 2)] [(.pointer none), (.slice none 0 0)] := ⟨_, Tryz.underlying94, fun w => by simp [run_sizeI], fun w => run_zero w⟩
instance : Con Tryz.prog 95 := Con.of (by kernel_rfl)
instance : Con Tryz.prog 96 := Con.of (by kernel_rfl)
instance : Con Tryz.prog 97 := Con.of (by kernel_rfl)
instance : Con Tryz.prog 98 := Con.of (by kernel_rfl)
instance : Con Tryz.prog 99 := Con.of (by kernel_rfl)
instance : Con Tryz.prog 100 := Con.of (by kernel_rfl)
instance : Con Tryz.prog 101 := Con.of (by kernel_rfl)
instance : Con Tryz.prog 102 := Con.of (by kernel_rfl)
instance : Con Tryz.prog 103 := Con.of (by kernel_rfl)
instance : Con Tryz.prog 104 := Con.of (by kernel_rfl)
instance : Con Tryz.prog 105 := Con.of (by kernel_rfl)
instance : Con Tryz.prog 106 := Con.of (by kernel_rfl)
instance : Con Tryz.prog 107 := Con.of (by kernel_rfl)
instance : Con Tryz.prog 108 := Con.of (by kernel_rfl)
instance : Con Tryz.prog 109 := Con.of (by kernel_rfl)
instance : Con Tryz.prog 110 := Con.of (by kernel_rfl)
instance : Con Tryz.prog 111 := Con.of (by kernel_rfl)
instance : Con Tryz.prog 112 := Con.of (by kernel_rfl)
instance : Places Tryz.prog 112 [(0, 1)] [(.int .i64 0)] := ⟨_, Tryz.underlying112, fun w => by simp [run_sizeI], fun w => run_zero w⟩
instance : Con Tryz.prog 113 := Con.of (by kernel_rfl)
instance : Places Tryz.prog 113 [(0, 1)] [(.int .i64 0)] := ⟨_, Tryz.underlying113, fun w => by simp [run_sizeI], fun w => run_zero w⟩
instance : Con Tryz.prog 114 := Con.of (by kernel_rfl)
instance : Con Tryz.prog 115 := Con.of (by kernel_rfl)
instance : Con Tryz.prog 116 := Con.of (by kernel_rfl)
instance : Con Tryz.prog 117 := Con.of (by kernel_rfl)
instance : Con Tryz.prog 118 := Con.of (by kernel_rfl)
instance : Con Tryz.prog 119 := Con.of (by kernel_rfl)
instance : Con Tryz.prog 120 := Con.of (by kernel_rfl)
instance : Con Tryz.prog 121 := Con.of (by kernel_rfl)
instance : Con Tryz.prog 122 := Con.of (by kernel_rfl)
instance : Con Tryz.prog 123 := Con.of (by kernel_rfl)
instance : Con Tryz.prog 124 := Con.of (by kernel_rfl)
instance : Con Tryz.prog 127 := Con.of (by kernel_rfl)
instance : Con Tryz.prog 128 := Con.of (by kernel_rfl)
instance : Con Tryz.prog 129 := Con.of (by kernel_rfl)
instance : Con Tryz.prog 130 := Con.of (by kernel_rfl)
instance : Con Tryz.prog 131 := Con.of (by kernel_rfl)
instance : Con Tryz.prog 132 := Con.of (by kernel_rfl)
instance : Con Tryz.prog 133 := Con.of (by kernel_rfl)
instance : Con Tryz.prog 134 := Con.of (by kernel_rfl)
instance : Con Tryz.prog 135 := Con.of (by kernel_rfl)
instance : Con Tryz.prog 136 := Con.of (by kernel_rfl)
instance : Con Tryz.prog 137 := Con.of (by kernel_rfl)
instance : Con Tryz.prog 138 := Con.of (by kernel_rfl)
instance : Con Tryz.prog 139 := Con.of (by kernel_rfl)
instance : Con Tryz.prog 140 := Con.of (by kernel_rfl)
instance : Con Tryz.prog 141 := Con.of (by kernel_rfl)
instance : Con Tryz.prog 142 := Con.of (by kernel_rfl)
instance : Con Tryz.prog 143 := Con.of (by kernel_rfl)
instance : Con Tryz.prog 144 := Con.of (by kernel_rfl)
instance : Con Tryz.prog 145 := Con.of (by kernel_rfl)
instance : Con Tryz.prog 146 := Con.of (by kernel_rfl)
instance : Con Tryz.prog 147 := Con.of (by kernel_rfl)
instance : Con Tryz.prog 148 := Con.of (by kernel_rfl)
instance : Con Tryz.prog 149 := Con.of (by kernel_rfl)
instance : Con Tryz.prog 150 := Con.of (by kernel_rfl)
instance : Places Tryz.prog 150 [(0, 1), (1, 1)] [(.int .u8 0), (.int .u8 0)] := ⟨_, Tryz.underlying150, fun w => by simp [run_sizeI], fun w => run_zero w⟩
instance : Con Tryz.prog 151 := Con.of (by kernel_rfl)
instance : Places Tryz.prog 151 [(0, 1), (1, 1)] [(.int .u8 0), (.int .u8 0)] := ⟨_, Tryz.underlying151, fun w => by simp [run_sizeI], fun w => run_zero w⟩
instance : Con Tryz.prog 152 := Con.of (by kernel_rfl)
instance : Con Tryz.prog 153 := Con.of (by kernel_rfl)
instance : Con Tryz.prog 154 := Con.of (by kernel_rfl)
instance : Con Tryz.prog 155 := Con.of (by kernel_rfl)
instance : Con Tryz.prog 156 := Con.of (by kernel_rfl)
instance : Con Tryz.prog 157 := Con.of (by kernel_rfl)
instance : Con Tryz.prog 158 := Con.of (by kernel_rfl)
instance : Con Tryz.prog 159 := Con.of (by kernel_rfl)
instance : Con Tryz.prog 160 := Con.of (by kernel_rfl)
instance : Con Tryz.prog 161 := Con.of (by kernel_rfl)
instance : Con Tryz.prog 162 := Con.of (by kernel_rfl)
instance : Con Tryz.prog 163 := Con.of (by kernel_rfl)
instance : Con Tryz.prog 164 := Con.of (by kernel_rfl)
instance : Con Tryz.prog 165 := Con.of (by kernel_rfl)
instance : Con Tryz.prog 166 := Con.of (by kernel_rfl)
instance : Con Tryz.prog 167 := Con.of (by kernel_rfl)
instance : Con Tryz.prog 168 := Con.of (by kernel_rfl)
instance : Con Tryz.prog 169 := Con.of (by kernel_rfl)
instance : Con Tryz.prog 170 := Con.of (by kernel_rfl)
instance : Con Tryz.prog 171 := Con.of (by kernel_rfl)
instance : Con Tryz.prog 172 := Con.of (by kernel_rfl)
instance : Con Tryz.prog 173 := Con.of (by kernel_rfl)
instance : Con Tryz.prog 174 := Con.of (by kernel_rfl)
instance : Places Tryz.prog 174 [(0, 1), (1, 1), (2, 1), (3, 1), (4, 1), (5, 1)] [(.bool false), (.string ⟨#[]⟩), (.string ⟨#[]⟩), (.string ⟨#[]⟩), (.bool false), (.int .i64 0)] := ⟨_, Tryz.underlying174, fun w => by simp [run_sizeI], fun w => run_zero w⟩
instance : Con Tryz.prog 175 := Con.of (by kernel_rfl)
instance : Places Tryz.prog 175 [(0, 1), (1, 1), (2, 1), (3, 1), (4, 1), (5, 1)] [(.bool false), (.string ⟨#[]⟩), (.string ⟨#[]⟩), (.string ⟨#[]⟩), (.bool false), (.int .i64 0)] := ⟨_, Tryz.underlying175, fun w => by simp [run_sizeI], fun w => run_zero w⟩
instance : Con Tryz.prog 176 := Con.of (by kernel_rfl)
instance : Con Tryz.prog 177 := Con.of (by kernel_rfl)
instance : Con Tryz.prog 178 := Con.of (by kernel_rfl)
instance : Con Tryz.prog 179 := Con.of (by kernel_rfl)
instance : Con Tryz.prog 180 := Con.of (by kernel_rfl)
instance : Con Tryz.prog 181 := Con.of (by kernel_rfl)
instance : Con Tryz.prog 182 := Con.of (by kernel_rfl)
instance : Con Tryz.prog 183 := Con.of (by kernel_rfl)
instance : Con Tryz.prog 184 := Con.of (by kernel_rfl)
instance : Con Tryz.prog 185 := Con.of (by kernel_rfl)
instance : Con Tryz.prog 186 := Con.of (by kernel_rfl)
instance : Con Tryz.prog 187 := Con.of (by kernel_rfl)
instance : Con Tryz.prog 188 := Con.of (by kernel_rfl)
instance : Con Tryz.prog 189 := Con.of (by kernel_rfl)
instance : Con Tryz.prog 190 := Con.of (by kernel_rfl)
instance : Con Tryz.prog 191 := Con.of (by kernel_rfl)
instance : Con Tryz.prog 192 := Con.of (by kernel_rfl)
instance : Con Tryz.prog 193 := Con.of (by kernel_rfl)
instance : Con Tryz.prog 194 := Con.of (by kernel_rfl)
instance : Con Tryz.prog 195 := Con.of (by kernel_rfl)
instance : Con Tryz.prog 196 := Con.of (by kernel_rfl)
instance : Con Tryz.prog 197 := Con.of (by kernel_rfl)
instance : Con Tryz.prog 198 := Con.of (by kernel_rfl)
instance : Con Tryz.prog 199 := Con.of (by kernel_rfl)
instance : Con Tryz.prog 200 := Con.of (by kernel_rfl)
instance : Con Tryz.prog 201 := Con.of (by kernel_rfl)
instance : Con Tryz.prog 202 := Con.of (by kernel_rfl)
instance : Con Tryz.prog 203 := Con.of (by kernel_rfl)
instance : Con Tryz.prog 204 := Con.of (by kernel_rfl)
instance : Con Tryz.prog 205 := Con.of (by kernel_rfl)
instance : Con Tryz.prog 206 := Con.of (by kernel_rfl)
instance : Con Tryz.prog 207 := Con.of (by kernel_rfl)
instance : Con Tryz.prog 208 := Con.of (by kernel_rfl)
instance : Con Tryz.prog 209 := Con.of (by kernel_rfl)
instance : Con Tryz.prog 210 := Con.of (by kernel_rfl)
instance : Con Tryz.prog 211 := Con.of (by kernel_rfl)
instance : Con Tryz.prog 212 := Con.of (by kernel_rfl)
instance : Con Tryz.prog 213 := Con.of (by kernel_rfl)
instance : Con Tryz.prog 214 := Con.of (by kernel_rfl)
instance : Con Tryz.prog 215 := Con.of (by kernel_rfl)
instance : Con Tryz.prog 216 := Con.of (by kernel_rfl)
instance : Con Tryz.prog 217 := Con.of (by kernel_rfl)
instance : Con Tryz.prog 218 := Con.of (by kernel_rfl)
instance : Con Tryz.prog 219 := Con.of (by kernel_rfl)
instance : Con Tryz.prog 220 := Con.of (by kernel_rfl)
instance : Places Tryz.prog 220 [(0, 1), (1, 1), (2, 1)] [(.string ⟨#[]⟩), (.string ⟨#[]⟩), .nilIface] := ⟨_, Tryz.underlying220, fun w => by simp [run_sizeI], fun w => run_zero w⟩
instance : Con Tryz.prog 221 := Con.of (by kernel_rfl)
instance : Places Tryz.prog 221 [(0, 1), (1, 1), (2, 1)] [(.string ⟨#[]⟩), (.string ⟨#[]⟩), .nilIface] := ⟨_, Tryz.underlying221, fun w => by simp [run_sizeI], fun w => run_zero w⟩
instance : Con Tryz.prog 222 := Con.of (by kernel_rfl)
instance : Con Tryz.prog 223 := Con.of (by kernel_rfl)
instance : Con Tryz.prog 224 := Con.of (by kernel_rfl)
instance : Con Tryz.prog 225 := Con.of (by kernel_rfl)
instance : Con Tryz.prog 226 := Con.of (by kernel_rfl)
instance : Con Tryz.prog 227 := Con.of (by kernel_rfl)
instance : Con Tryz.prog 228 := Con.of (by kernel_rfl)
instance : Places Tryz.prog 228 [(0, 1)] [(.string ⟨#[]⟩)] := ⟨_, Tryz.underlying228, fun w => by simp [run_sizeI], fun w => run_zero w⟩
instance : Con Tryz.prog 229 := Con.of (by kernel_rfl)
instance : Places Tryz.prog 229 [(0, 1)] [(.string ⟨#[]⟩)] := ⟨_, Tryz.underlying229, fun w => by simp [run_sizeI], fun w => run_zero w⟩
instance : Con Tryz.prog 230 := Con.of (by kernel_rfl)
instance : Con Tryz.prog 231 := Con.of (by kernel_rfl)
instance : Con Tryz.prog 232 := Con.of (by kernel_rfl)
instance : Places Tryz.prog 232 [(0, 1), (1, 1), (2, 1), (3, 1)] [(.pointer none), (.pointer none), (.pointer none), (.string ⟨#[]⟩)] := ⟨_, Tryz.underlying232, fun w => by simp [run_sizeI], fun w => run_zero w⟩
instance : Con Tryz.prog 233 := Con.of (by kernel_rfl)
instance : Places Tryz.prog 233 [(0, 1), (1, 1), (2, 1), (3, 1)] [(.pointer none), (.pointer none), (.pointer none), (.string ⟨#[]⟩)] := ⟨_, Tryz.underlying233, fun w => by simp [run_sizeI], fun w => run_zero w⟩
instance : Con Tryz.prog 234 := Con.of (by kernel_rfl)
instance : Con Tryz.prog 235 := Con.of (by kernel_rfl)
instance : Places Tryz.prog 235 [(0, 0)] [] := ⟨_, Tryz.underlying235, fun w => by simp [run_sizeI], fun w => run_zero w⟩
instance : Con Tryz.prog 236 := Con.of (by kernel_rfl)
instance : Places Tryz.prog 236 [(0, 0)] [] := ⟨_, Tryz.underlying236, fun w => by simp [run_sizeI], fun w => run_zero w⟩
instance : Con Tryz.prog 237 := Con.of (by kernel_rfl)
instance : Con Tryz.prog 238 := Con.of (by kernel_rfl)
instance : Con Tryz.prog 239 := Con.of (by kernel_rfl)
instance : Con Tryz.prog 240 := Con.of (by kernel_rfl)
instance : Con Tryz.prog 241 := Con.of (by kernel_rfl)
instance : Con Tryz.prog 242 := Con.of (by kernel_rfl)
instance : Places Tryz.prog 242 [(0, 1), (1, 1), (2, 1), (3, 1), (4, 1), (5, 1), (6, 1), (7, 1), (8, 1), (9, 1), (10, 1)] [(.int .u64 0), (.int .u64 0), (.int .u32 0), (.int .u8 0), (.int .u8 0), (.int .u8 0), (.int .u8 0), .nilFunc, (.pointer none), (.int .i32 0), (.int .i32 0)] := ⟨_, Tryz.underlying242, fun w => by simp [run_sizeI], fun w => run_zero w⟩
instance : Con Tryz.prog 243 := Con.of (by kernel_rfl)
instance : Places Tryz.prog 243 [(0, 1), (1, 1), (2, 1), (3, 1), (4, 1), (5, 1), (6, 1), (7, 1), (8, 1), (9, 1), (10, 1)] [(.int .u64 0), (.int .u64 0), (.int .u32 0), (.int .u8 0), (.int .u8 0), (.int .u8 0), (.int .u8 0), .nilFunc, (.pointer none), (.int .i32 0), (.int .i32 0)] := ⟨_, Tryz.underlying243, fun w => by simp [run_sizeI], fun w => run_zero w⟩
end Go.Proofs.YtacogbfgegcliaaGreatDoor
