/-
  Facts on the types of this seat's translation, as instances (made by a small program of mine out of the translation).
-/
import Derived.Test.YtfmadoeadmclbaaDoorHd0
import Derived.Test.YtfmadoeadmclbaaDoorHd1
namespace Go.Proofs.YtfmadoeadmclbaaDoor
open Go.TL
theorem run_sizeI {P : Program} {t : TypeId} {sz bytes : Nat} {z : Value} [h : Inf P t sz bytes z] (w : World) : (sizeOf t).run P w = .ok sz w := by
  obtain ⟨i, h1, h2, _⟩ := h.eq
  rw [run_size h1, h2]
set_option maxRecDepth 100000
instance : Con Tryd.prog 0 := Con.of (by kernel_rfl)
instance : Con Tryd.prog 1 := Con.of (by kernel_rfl)
instance : Con Tryd.prog 2 := Con.of (by kernel_rfl)
instance : Con Tryd.prog 3 := Con.of (by kernel_rfl)
instance : Con Tryd.prog 4 := Con.of (by kernel_rfl)
instance : Con Tryd.prog 5 := Con.of (by kernel_rfl)
instance : Con Tryd.prog 6 := Con.of (by kernel_rfl)
instance : Con Tryd.prog 7 := Con.of (by kernel_rfl)
instance : Places Tryd.prog 7 [(0, 1), (1, 1), (2, 1), (3, 1)] [(.int .i64 0), (.int .i64 0), (.bool false), (.int .u8 0)] := ⟨_, Tryd.underlying7, fun w => by simp [run_sizeI], fun w => run_zero w⟩
instance : Con Tryd.prog 8 := Con.of (by kernel_rfl)
instance : Places Tryd.prog 8 [(0, 1), (1, 1), (2, 1), (3, 1)] [(.int .i64 0), (.int .i64 0), (.bool false), (.int .u8 0)] := ⟨_, Tryd.underlying8, fun w => by simp [run_sizeI], fun w => run_zero w⟩
instance : Con Tryd.prog 9 := Con.of (by kernel_rfl)
instance : Con Tryd.prog 10 := Con.of (by kernel_rfl)
instance : Con Tryd.prog 11 := Con.of (by kernel_rfl)
instance : Con Tryd.prog 12 := Con.of (by kernel_rfl)
instance : Con Tryd.prog 13 := Con.of (by kernel_rfl)
instance : Places Tryd.prog 13 [(0, 1), (1, 1)] [(.string ⟨#[]⟩), (.int .u64 0)] := ⟨_, Tryd.underlying13, fun w => by simp [run_sizeI], fun w => run_zero w⟩
instance : Con Tryd.prog 14 := Con.of (by kernel_rfl)
instance : Places Tryd.prog 14 [(0, 1), (1, 1)] [(.string ⟨#[]⟩), (.int .u64 0)] := ⟨_, Tryd.underlying14, fun w => by simp [run_sizeI], fun w => run_zero w⟩
instance : Con Tryd.prog 15 := Con.of (by kernel_rfl)
instance : Con Tryd.prog 16 := Con.of (by kernel_rfl)
instance : Con Tryd.prog 17 := Con.of (by kernel_rfl)
instance : Con Tryd.prog 18 := Con.of (by kernel_rfl)
instance : Places Tryd.prog 18 [(0, 1)] [(.pointer none)] := ⟨_, Tryd.underlying18, fun w => by simp [run_sizeI], fun w => run_zero w⟩
instance : Con Tryd.prog 19 := Con.of (by kernel_rfl)
instance : Places Tryd.prog 19 [(0, 1)] [(.pointer none)] := ⟨_, Tryd.underlying19, fun w => by simp [run_sizeI], fun w => run_zero w⟩
instance : Con Tryd.prog 21 := Con.of (by kernel_rfl)
instance : Con Tryd.prog 22 := Con.of (by kernel_rfl)
instance : Con Tryd.prog 23 := Con.of (by kernel_rfl)
instance : Con Tryd.prog 24 := Con.of (by kernel_rfl)
instance : Con Tryd.prog 25 := Con.of (by kernel_rfl)
instance : Con Tryd.prog 26 := Con.of (by kernel_rfl)
instance : Con Tryd.prog 27 := Con.of (by kernel_rfl)
instance : Con Tryd.prog 28 := Con.of (by kernel_rfl)
instance : Con Tryd.prog 29 := Con.of (by kernel_rfl)
instance : Con Tryd.prog 30 := Con.of (by kernel_rfl)
instance : Con Tryd.prog 31 := Con.of (by kernel_rfl)
instance : Con Tryd.prog 32 := Con.of (by kernel_rfl)
instance : Places Tryd.prog 32 [(0, 1), (1, 1)] [(.string ⟨#[]⟩), (.int .i64 0)] := ⟨_, Tryd.underlying32, fun w => by simp [run_sizeI], fun w => run_zero w⟩
instance : Con Tryd.prog 33 := Con.of (by kernel_rfl)
instance : Places Tryd.prog 33 [(0, 1), (1, 1)] [(.string ⟨#[]⟩), (.int .i64 0)] := ⟨_, Tryd.underlying33, fun w => by simp [run_sizeI], fun w => run_zero w⟩
instance : Con Tryd.prog 34 := Con.of (by kernel_rfl)
instance : Con Tryd.prog 35 := Con.of (by kernel_rfl)
instance : Con Tryd.prog 36 := Con.of (by kernel_rfl)
instance : Con Tryd.prog 37 := Con.of (by kernel_rfl)
instance : Con Tryd.prog 38 := Con.of (by kernel_rfl)
instance : Con Tryd.prog 39 := Con.of (by kernel_rfl)
instance : Places Tryd.prog 39 [(0, 1)] [(.int .i64 0)] := ⟨_, Tryd.underlying39, fun w => by simp [run_sizeI], fun w => run_zero w⟩
instance : Con Tryd.prog 40 := Con.of (by kernel_rfl)
instance : Places Tryd.prog 40 [(0, 1)] [(.int .i64 0)] := ⟨_, Tryd.underlying40, fun w => by simp [run_sizeI], fun w => run_zero w⟩
instance : Con Tryd.prog 41 := Con.of (by kernel_rfl)
instance : Con Tryd.prog 42 := Con.of (by kernel_rfl)
instance : Con Tryd.prog 43 := Con.of (by kernel_rfl)
instance : Con Tryd.prog 44 := Con.of (by kernel_rfl)
instance : Con Tryd.prog 45 := Con.of (by kernel_rfl)
instance : Con Tryd.prog 46 := Con.of (by kernel_rfl)
instance : Con Tryd.prog 47 := Con.of (by kernel_rfl)
instance : Con Tryd.prog 48 := Con.of (by kernel_rfl)
instance : Con Tryd.prog 49 := Con.of (by kernel_rfl)
instance : Places Tryd.prog 49 [(0, 1), (1, 1)] [(.pointer none), (.slice none 0 0)] := ⟨_, Tryd.underlying49, fun w => by simp [run_sizeI], fun w => run_zero w⟩
instance : Con Tryd.prog 50 := Con.of (by kernel_rfl)
instance : Places Tryd.prog 50 [(0, 1), (1, 1)] [(.pointer none), (.slice none 0 0)] := ⟨_, Tryd.underlying50, fun w => by simp [run_sizeI], fun w => run_zero w⟩
instance : Con Tryd.prog 51 := Con.of (by kernel_rfl)
instance : Places Tryd.prog 51 [(0, 2)] [(.pointer none), (.slice none 0 0)] := ⟨_, Tryd.underlying51, fun w => by simp [run_sizeI], fun w => run_zero w⟩
instance : Con Tryd.prog 52 := Con.of (by kernel_rfl)
instance : Places Tryd.prog 52 [(0, 2)] [(.pointer none), (.slice none 0 0)] := ⟨_, Tryd.underlying52, fun w => by simp [run_sizeI], fun w => run_zero w⟩
instance : Con Tryd.prog 53 := Con.of (by kernel_rfl)
instance : Con Tryd.prog 54 := Con.of (by kernel_rfl)
instance : Con Tryd.prog 55 := Con.of (by kernel_rfl)
instance : Con Tryd.prog 56 := Con.of (by kernel_rfl)
instance : Con Tryd.prog 57 := Con.of (by kernel_rfl)
instance : Con Tryd.prog 58 := Con.of (by kernel_rfl)
instance : Con Tryd.prog 59 := Con.of (by kernel_rfl)
instance : Places Tryd.prog 59 [(0, 1), (1, 1)] [(.string ⟨#[]⟩), .nilIface] := ⟨_, Tryd.underlying59, fun w => by simp [run_sizeI], fun w => run_zero w⟩
instance : Con Tryd.prog 60 := Con.of (by kernel_rfl)
instance : Places Tryd.prog 60 [(0, 1), (1, 1)] [(.string ⟨#[]⟩), .nilIface] := ⟨_, Tryd.underlying60, fun w => by simp [run_sizeI], fun w => run_zero w⟩
instance : Con Tryd.prog 61 := Con.of (by kernel_rfl)
instance : Con Tryd.prog 62 := Con.of (by kernel_rfl)
instance : Con Tryd.prog 63 := Con.of (by kernel_rfl)
instance : Con Tryd.prog 64 := Con.of (by kernel_rfl)
instance : Con Tryd.prog 67 := Con.of (by kernel_rfl)
instance : Con Tryd.prog 68 := Con.of (by kernel_rfl)
instance : Con Tryd.prog 69 := Con.of (by kernel_rfl)
instance : Con Tryd.prog 70 := Con.of (by kernel_rfl)
instance : Con Tryd.prog 71 := Con.of (by kernel_rfl)
instance : Con Tryd.prog 72 := Con.of (by kernel_rfl)
instance : Con Tryd.prog 73 := Con.of (by kernel_rfl)
instance : Con Tryd.prog 74 := Con.of (by kernel_rfl)
instance : Con Tryd.prog 75 := Con.of (by kernel_rfl)
instance : Con Tryd.prog 76 := Con.of (by kernel_rfl)
instance : Con Tryd.prog 77 := Con.of (by kernel_rfl)
instance : Con Tryd.prog 78 := Con.of (by kernel_rfl)
instance : Con Tryd.prog 79 := Con.of (by kernel_rfl)
instance : Con Tryd.prog 80 := Con.of (by kernel_rfl)
instance : Con Tryd.prog 81 := Con.of (by kernel_rfl)
instance : Con Tryd.prog 82 := Con.of (by kernel_rfl)
instance : Con Tryd.prog 83 := Con.of (by kernel_rfl)
instance : Con Tryd.prog 84 := Con.of (by kernel_rfl)
instance : Con Tryd.prog 85 := Con.of (by kernel_rfl)
instance : Con Tryd.prog 86 := Con.of (by kernel_rfl)
instance : Con Tryd.prog 87 := Con.of (by kernel_rfl)
instance : Con Tryd.prog 88 := Con.of (by kernel_rfl)
instance : Con Tryd.prog 89 := Con.of (by kernel_rfl)
instance : Places Tryd.prog 89 [(0, 1), (1, 1), (2, 1), (3, 1), (4, 1), (5, 1)] [(.bool false), (.string ⟨#[]⟩), (.string ⟨#[]⟩), (.string ⟨#[]⟩), (.bool false), (.int .i64 0)] := ⟨_, Tryd.underlying89, fun w => by simp [run_sizeI], fun w => run_zero w⟩
instance : Con Tryd.prog 90 := Con.of (by kernel_rfl)
instance : Places Tryd.prog 90 [(0, 1), (1, 1), (2, 1), (3, 1), (4, 1), (5, 1)] [(.bool false), (.string ⟨#[]⟩), (.string ⟨#[]⟩), (.string ⟨#[]⟩), (.bool false), (.int .i64 0)] := ⟨_, Tryd.underlying90, fun w => by simp [run_sizeI], fun w => run_zero w⟩
instance : Con Tryd.prog 91 := Con.of (by kernel_rfl)
instance : Con Tryd.prog 92 := Con.of (by kernel_rfl)
instance : Con Tryd.prog 93 := Con.of (by kernel_rfl)
instance : Con Tryd.prog 94 := Con.of (by kernel_rfl)
instance : Con Tryd.prog 95 := Con.of (by kernel_rfl)
instance : Con Tryd.prog 96 := Con.of (by kernel_rfl)
instance : Con Tryd.prog 97 := Con.of (by kernel_rfl)
instance : Con Tryd.prog 98 := Con.of (by kernel_rfl)
instance : Con Tryd.prog 99 := Con.of (by kernel_rfl)
instance : Con Tryd.prog 100 := Con.of (by kernel_rfl)
instance : Con Tryd.prog 101 := Con.of (by kernel_rfl)
instance : Con Tryd.prog 102 := Con.of (by kernel_rfl)
instance : Con Tryd.prog 103 := Con.of (by kernel_rfl)
instance : Places Tryd.prog 103 [(0, 1), (1, 1)] [(.int .u8 0), (.int .u8 0)] := ⟨_, Tryd.underlying103, fun w => by simp [run_sizeI], fun w => run_zero w⟩
instance : Con Tryd.prog 104 := Con.of (by kernel_rfl)
instance : Places Tryd.prog 104 [(0, 1), (1, 1)] [(.int .u8 0), (.int .u8 0)] := ⟨_, Tryd.underlying104, fun w => by simp [run_sizeI], fun w => run_zero w⟩
instance : Con Tryd.prog 105 := Con.of (by kernel_rfl)
instance : Con Tryd.prog 106 := Con.of (by kernel_rfl)
instance : Con Tryd.prog 107 := Con.of (by kernel_rfl)
instance : Con Tryd.prog 108 := Con.of (by kernel_rfl)
instance : Con Tryd.prog 109 := Con.of (by kernel_rfl)
instance : Con Tryd.prog 110 := Con.of (by kernel_rfl)
instance : Con Tryd.prog 111 := Con.of (by kernel_rfl)
instance : Con Tryd.prog 112 := Con.of (by kernel_rfl)
instance : Con Tryd.prog 113 := Con.of (by kernel_rfl)
instance : Con Tryd.prog 114 := Con.of (by kernel_rfl)
instance : Con Tryd.prog 115 := Con.of (by kernel_rfl)
instance : Con Tryd.prog 116 := Con.of (by kernel_rfl)
instance : Con Tryd.prog 117 := Con.of (by kernel_rfl)
instance : Con Tryd.prog 118 := Con.of (by kernel_rfl)
instance : Con Tryd.prog 119 := Con.of (by kernel_rfl)
instance : Con Tryd.prog 120 := Con.of (by kernel_rfl)
instance : Con Tryd.prog 121 := Con.of (by kernel_rfl)
instance : Con Tryd.prog 122 := Con.of (by kernel_rfl)
instance : Con Tryd.prog 123 := Con.of (by kernel_rfl)
instance : Con Tryd.prog 124 := Con.of (by kernel_rfl)
instance : Con Tryd.prog 125 := Con.of (by kernel_rfl)
instance : Con Tryd.prog 126 := Con.of (by kernel_rfl)
instance : Con Tryd.prog 127 := Con.of (by kernel_rfl)
instance : Con Tryd.prog 128 := Con.of (by kernel_rfl)
instance : Con Tryd.prog 129 := Con.of (by kernel_rfl)
instance : Con Tryd.prog 130 := Con.of (by kernel_rfl)
instance : Con Tryd.prog 131 := Con.of (by kernel_rfl)
instance : Con Tryd.prog 132 := Con.of (by kernel_rfl)
instance : Con Tryd.prog 133 := Con.of (by kernel_rfl)
instance : Con Tryd.prog 134 := Con.of (by kernel_rfl)
instance : Con Tryd.prog 135 := Con.of (by kernel_rfl)
instance : Con Tryd.prog 136 := Con.of (by kernel_rfl)
instance : Con Tryd.prog 137 := Con.of (by kernel_rfl)
instance : Con Tryd.prog 138 := Con.of (by kernel_rfl)
instance : Con Tryd.prog 139 := Con.of (by kernel_rfl)
instance : Con Tryd.prog 140 := Con.of (by kernel_rfl)
instance : Con Tryd.prog 141 := Con.of (by kernel_rfl)
instance : Con Tryd.prog 142 := Con.of (by kernel_rfl)
instance : Con Tryd.prog 143 := Con.of (by kernel_rfl)
instance : Con Tryd.prog 144 := Con.of (by kernel_rfl)
instance : Places Tryd.prog 144 [(0, 1), (1, 1), (2, 1), (3, 1)] [(.pointer none), (.pointer none), (.pointer none), (.string ⟨#[]⟩)] := ⟨_, Tryd.underlying144, fun w => by simp [run_sizeI], fun w => run_zero w⟩
instance : Con Tryd.prog 145 := Con.of (by kernel_rfl)
instance : Places Tryd.prog 145 [(0, 1), (1, 1), (2, 1), (3, 1)] [(.pointer none), (.pointer none), (.pointer none), (.string ⟨#[]⟩)] := ⟨_, Tryd.underlying145, fun w => by simp [run_sizeI], fun w => run_zero w⟩
instance : Con Tryd.prog 146 := Con.of (by kernel_rfl)
instance : Con Tryd.prog 147 := Con.of (by kernel_rfl)
instance : Places Tryd.prog 147 [(0, 0)] [] := ⟨_, Tryd.underlying147, fun w => by simp [run_sizeI], fun w => run_zero w⟩
instance : Con Tryd.prog 148 := Con.of (by kernel_rfl)
instance : Places Tryd.prog 148 [(0, 0)] [] := ⟨_, Tryd.underlying148, fun w => by simp [run_sizeI], fun w => run_zero w⟩
instance : Con Tryd.prog 149 := Con.of (by kernel_rfl)
instance : Con Tryd.prog 150 := Con.of (by kernel_rfl)
instance : Con Tryd.prog 151 := Con.of (by kernel_rfl)
instance : Con Tryd.prog 152 := Con.of (by kernel_rfl)
instance : Con Tryd.prog 153 := Con.of (by kernel_rfl)
instance : Con Tryd.prog 154 := Con.of (by kernel_rfl)
instance : Places Tryd.prog 154 [(0, 1), (1, 1), (2, 1), (3, 1), (4, 1), (5, 1), (6, 1), (7, 1), (8, 1), (9, 1), (10, 1)] [(.int .u64 0), (.int .u64 0), (.int .u32 0), (.int .u8 0), (.int .u8 0), (.int .u8 0), (.int .u8 0), .nilFunc, (.pointer none), (.int .i32 0), (.int .i32 0)] := ⟨_, Tryd.underlying154, fun w => by simp [run_sizeI], fun w => run_zero w⟩
instance : Con Tryd.prog 155 := Con.of (by kernel_rfl)
instance : Places Tryd.prog 155 [(0, 1), (1, 1), (2, 1), (3, 1), (4, 1), (5, 1), (6, 1), (7, 1), (8, 1), (9, 1), (10, 1)] [(.int .u64 0), (.int .u64 0), (.int .u32 0), (.int .u8 0), (.int .u8 0), (.int .u8 0), (.int .u8 0), .nilFunc, (.pointer none), (.int .i32 0), (.int .i32 0)] := ⟨_, Tryd.underlying155, fun w => by simp [run_sizeI], fun w => run_zero w⟩
end Go.Proofs.YtfmadoeadmclbaaDoor
