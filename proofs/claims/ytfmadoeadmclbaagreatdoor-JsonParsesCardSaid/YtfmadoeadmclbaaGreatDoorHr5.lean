/-
  Facts on the types of this seat's translation, as instances (made by a small program of mine out of the translation). Values as data, the document's and the program's.
-/
import Derived.Test.YtfmadoeadmclbaaGreatDoorHr0
import Derived.Test.YtfmadoeadmclbaaGreatDoorHr3
namespace Go.Proofs.YtfmadoeadmclbaaGreatDoor
open Go.TL
theorem run_sizeI {P : Program} {t : TypeId} {sz bytes : Nat} {z : Value} [h : Inf P t sz bytes z] (w : World) : (sizeOf t).run P w = .ok sz w := by
  obtain ⟨i, h1, h2, _⟩ := h.eq
  rw [run_size h1, h2]
set_option maxRecDepth 100000
instance : Con Tryz.prog 0 := Con.of (by kernel_rfl)
instance : Con Tryz.prog 1 := Con.of (by kernel_rfl)
instance : Con Tryz.prog 2 := Con.of (by kernel_rfl)
instance : Con Tryz.prog 3 := Con.of (by kernel_rfl)
instance : Con Tryz.prog 4 := Con.of (by kernel_rfl)
instance : Con Tryz.prog 5 := Con.of (by kernel_rfl)
instance : Con Tryz.prog 6 := Con.of (by kernel_rfl)
instance : Con Tryz.prog 7 := Con.of (by kernel_rfl)
instance : Places Tryz.prog 7 [(0, 1), (1, 1), (2, 1), (3, 1)] [(.int .i64 0), (.int .i64 0), (.bool false), (.int .u8 0)] := ⟨_, Tryz.underlying7, fun w => by simp [run_sizeI], fun w => run_zero w⟩
instance : Con Tryz.prog 8 := Con.of (by kernel_rfl)
instance : Places Tryz.prog 8 [(0, 1), (1, 1), (2, 1), (3, 1)] [(.int .i64 0), (.int .i64 0), (.bool false), (.int .u8 0)] := ⟨_, Tryz.underlying8, fun w => by simp [run_sizeI], fun w => run_zero w⟩
instance : Con Tryz.prog 9 := Con.of (by kernel_rfl)
instance : Con Tryz.prog 10 := Con.of (by kernel_rfl)
instance : Con Tryz.prog 11 := Con.of (by kernel_rfl)
instance : Con Tryz.prog 12 := Con.of (by kernel_rfl)
instance : Con Tryz.prog 13 := Con.of (by kernel_rfl)
instance : Places Tryz.prog 13 [(0, 1), (1, 1)] [(.string ⟨#[]⟩), (.int .u64 0)] := ⟨_, Tryz.underlying13, fun w => by simp [run_sizeI], fun w => run_zero w⟩
instance : Con Tryz.prog 14 := Con.of (by kernel_rfl)
instance : Places Tryz.prog 14 [(0, 1), (1, 1)] [(.string ⟨#[]⟩), (.int .u64 0)] := ⟨_, Tryz.underlying14, fun w => by simp [run_sizeI], fun w => run_zero w⟩
instance : Con Tryz.prog 15 := Con.of (by kernel_rfl)
instance : Con Tryz.prog 16 := Con.of (by kernel_rfl)
instance : Con Tryz.prog 17 := Con.of (by kernel_rfl)
instance : Con Tryz.prog 18 := Con.of (by kernel_rfl)
instance : Places Tryz.prog 18 [(0, 1)] [(.pointer none)] := ⟨_, Tryz.underlying18, fun w => by simp [run_sizeI], fun w => run_zero w⟩
instance : Con Tryz.prog 19 := Con.of (by kernel_rfl)
instance : Places Tryz.prog 19 [(0, 1)] [(.pointer none)] := ⟨_, Tryz.underlying19, fun w => by simp [run_sizeI], fun w => run_zero w⟩
instance : Con Tryz.prog 21 := Con.of (by kernel_rfl)
instance : Con Tryz.prog 22 := Con.of (by kernel_rfl)
instance : Con Tryz.prog 23 := Con.of (by kernel_rfl)
instance : Con Tryz.prog 24 := Con.of (by kernel_rfl)
instance : Con Tryz.prog 25 := Con.of (by kernel_rfl)
instance : Con Tryz.prog 26 := Con.of (by kernel_rfl)
instance : Con Tryz.prog 27 := Con.of (by kernel_rfl)
instance : Con Tryz.prog 28 := Con.of (by kernel_rfl)
instance : Places Tryz.prog 28 [(0, 1), (1, 1), (2, 1), (3, 1), (4, 1), (5, 1)] [(.int .i64 0), (.bool false), (.int .i64 0), (.string ⟨#[]⟩), (.slice none 0 0), (.slice none 0 0)] := ⟨_, Tryz.underlying28, fun w => by simp [run_sizeI], fun w => run_zero w⟩
instance : Con Tryz.prog 29 := Con.of (by kernel_rfl)
instance : Places Tryz.prog 29 [(0, 1), (1, 1), (2, 1), (3, 1), (4, 1), (5, 1)] [(.int .i64 0), (.bool false), (.int .i64 0), (.string ⟨#[]⟩), (.slice none 0 0), (.slice none 0 0)] := ⟨_, Tryz.underlying29, fun w => by simp [run_sizeI], fun w => run_zero w⟩
instance : Con Tryz.prog 30 := Con.of (by kernel_rfl)
instance : Con Tryz.prog 31 := Con.of (by kernel_rfl)
instance : Con Tryz.prog 32 := Con.of (by kernel_rfl)
instance : Con Tryz.prog 33 := Con.of (by kernel_rfl)
instance : Con Tryz.prog 34 := Con.of (by kernel_rfl)
instance : Con Tryz.prog 35 := Con.of (by kernel_rfl)
instance : Con Tryz.prog 36 := Con.of (by kernel_rfl)
instance : Con Tryz.prog 37 := Con.of (by kernel_rfl)
instance : Con Tryz.prog 38 := Con.of (by kernel_rfl)
instance : Con Tryz.prog 39 := Con.of (by kernel_rfl)
instance : Con Tryz.prog 40 := Con.of (by kernel_rfl)
instance : Con Tryz.prog 41 := Con.of (by kernel_rfl)
instance : Con Tryz.prog 42 := Con.of (by kernel_rfl)
instance : Con Tryz.prog 43 := Con.of (by kernel_rfl)
instance : Con Tryz.prog 44 := Con.of (by kernel_rfl)
instance : Con Tryz.prog 45 := Con.of (by kernel_rfl)
instance : Con Tryz.prog 46 := Con.of (by kernel_rfl)
instance : Con Tryz.prog 47 := Con.of (by kernel_rfl)
instance : Con Tryz.prog 48 := Con.of (by kernel_rfl)
instance : Con Tryz.prog 49 := Con.of (by kernel_rfl)
instance : Con Tryz.prog 50 := Con.of (by kernel_rfl)
instance : Con Tryz.prog 51 := Con.of (by kernel_rfl)
instance : Con Tryz.prog 52 := Con.of (by kernel_rfl)
instance : Con Tryz.prog 53 := Con.of (by kernel_rfl)
instance : Con Tryz.prog 54 := Con.of (by kernel_rfl)
instance : Con Tryz.prog 55 := Con.of (by kernel_rfl)
instance : Con Tryz.prog 56 := Con.of (by kernel_rfl)
instance : Con Tryz.prog 57 := Con.of (by kernel_rfl)
instance : Places Tryz.prog 57 [(0, 1), (1, 1)] [(.string ⟨#[]⟩), (.int .i64 0)] := ⟨_, Tryz.underlying57, fun w => by simp [run_sizeI], fun w => run_zero w⟩
instance : Con Tryz.prog 58 := Con.of (by kernel_rfl)
instance : Places Tryz.prog 58 [(0, 1), (1, 1)] [(.string ⟨#[]⟩), (.int .i64 0)] := ⟨_, Tryz.underlying58, fun w => by simp [run_sizeI], fun w => run_zero w⟩
instance : Con Tryz.prog 59 := Con.of (by kernel_rfl)
instance : Con Tryz.prog 60 := Con.of (by kernel_rfl)
instance : Con Tryz.prog 61 := Con.of (by kernel_rfl)
instance : Con Tryz.prog 62 := Con.of (by kernel_rfl)
instance : Con Tryz.prog 63 := Con.of (by kernel_rfl)
instance : Con Tryz.prog 64 := Con.of (by kernel_rfl)
instance : Con Tryz.prog 65 := Con.of (by kernel_rfl)
instance : Con Tryz.prog 66 := Con.of (by kernel_rfl)
instance : Con Tryz.prog 67 := Con.of (by kernel_rfl)
instance : Con Tryz.prog 68 := Con.of (by kernel_rfl)
instance : Con Tryz.prog 69 := Con.of (by kernel_rfl)
instance : Places Tryz.prog 69 [(0, 1), (1, 1)] [(.string ⟨#[]⟩), .nilIface] := ⟨_, Tryz.underlying69, fun w => by simp [run_sizeI], fun w => run_zero w⟩
instance : Con Tryz.prog 70 := Con.of (by kernel_rfl)
instance : Places Tryz.prog 70 [(0, 1), (1, 1)] [(.string ⟨#[]⟩), .nilIface] := ⟨_, Tryz.underlying70, fun w => by simp [run_sizeI], fun w => run_zero w⟩
instance : Con Tryz.prog 71 := Con.of (by kernel_rfl)
instance : Con Tryz.prog 72 := Con.of (by kernel_rfl)
instance : Con Tryz.prog 73 := Con.of (by kernel_rfl)
instance : Con Tryz.prog 74 := Con.of (by kernel_rfl)
instance : Places Tryz.prog 74 [(0, 1), (1, 1)] [(.pointer none), (.slice none 0 0)] := ⟨_, Tryz.underlying74, fun w => by simp [run_sizeI], fun w => run_zero w⟩
instance : Con Tryz.prog 75 := Con.of (by kernel_rfl)
instance : Places Tryz.prog 75 [(0, 1), (1, 1)] [(.pointer none), (.slice none 0 0)] := ⟨_, Tryz.underlying75, fun w => by simp [run_sizeI], fun w => run_zero w⟩
instance : Con Tryz.prog 76 := Con.of (by kernel_rfl)
instance : Places Tryz.prog 76 [(0, 2)] [(.pointer none), (.slice none 0 0)] := ⟨_, Tryz.underlying76, fun w => by simp [run_sizeI], fun w => run_zero w⟩
instance : Con Tryz.prog 77 := Con.of (by kernel_rfl)
instance : Places Tryz.prog 77 [(0, 2)] [(.pointer none), (.slice none 0 0)] := ⟨_, Tryz.underlying77, fun w => by simp [run_sizeI], fun w => run_zero w⟩
instance : Con Tryz.prog 78 := Con.of (by kernel_rfl)
instance : Con Tryz.prog 79 := Con.of (by kernel_rfl)
instance : Con Tryz.prog 80 := Con.of (by kernel_rfl)
instance : Con Tryz.prog 81 := Con.of (by kernel_rfl)
instance : Con Tryz.prog 82 := Con.of (by kernel_rfl)
instance : Con Tryz.prog 83 := Con.of (by kernel_rfl)
instance : Con Tryz.prog 84 := Con.of (by kernel_rfl)
instance : Con Tryz.prog 85 := Con.of (by kernel_rfl)
instance : Places Tryz.prog 85 [(0, 1)] [(.int .i64 0)] := ⟨_, Tryz.underlying85, fun w => by simp [run_sizeI], fun w => run_zero w⟩
instance : Con Tryz.prog 86 := Con.of (by kernel_rfl)
instance : Places Tryz.prog 86 [(0, 1)] [(.int .i64 0)] := ⟨_, Tryz.underlying86, fun w => by simp [run_sizeI], fun w => run_zero w⟩
instance : Con Tryz.prog 87 := Con.of (by kernel_rfl)
instance : Con Tryz.prog 88 := Con.of (by kernel_rfl)
instance : Con Tryz.prog 89 := Con.of (by kernel_rfl)
instance : Con Tryz.prog 90 := Con.of (by kernel_rfl)
instance : Con Tryz.prog 91 := Con.of (by kernel_rfl)
instance : Con Tryz.prog 92 := Con.of (by kernel_rfl)
instance : Con Tryz.prog 93 := Con.of (by kernel_rfl)
instance : Con Tryz.prog 94 := Con.of (by kernel_rfl)
instance : Con Tryz.prog 95 := Con.of (by kernel_rfl)
instance : Con Tryz.prog 96 := Con.of (by kernel_rfl)
instance : Con Tryz.prog 97 := Con.of (by kernel_rfl)
instance : Con Tryz.prog 100 := Con.of (by kernel_rfl)
instance : Con Tryz.prog 101 := Con.of (by kernel_rfl)
instance : Con Tryz.prog 102 := Con.of (by kernel_rfl)
instance : Con Tryz.prog 103 := Con.of (by kernel_rfl)
instance : Con Tryz.prog 104 := Con.of (by kernel_rfl)
instance : Con Tryz.prog 105 := Con.of (by kernel_rfl)
instance : Con Tryz.prog 106 := Con.of (by kernel_rfl)
instance : Con Tryz.prog 107 := Con.of (by kernel_rfl)
instance : Con Tryz.prog 108 := Con.of (by kernel_rfl)
instance : Con Tryz.prog 109 := Con.of (by kernel_rfl)
instance : Con Tryz.prog 110 := Con.of (by kernel_rfl)
instance : Con Tryz.prog 111 := Con.of (by kernel_rfl)
instance : Con Tryz.prog 112 := Con.of (by kernel_rfl)
instance : Con Tryz.prog 113 := Con.of (by kernel_rfl)
instance : Con Tryz.prog 114 := Con.of (by kernel_rfl)
instance : Con Tryz.prog 115 := Con.of (by kernel_rfl)
instance : Con Tryz.prog 116 := Con.of (by kernel_rfl)
instance : Con Tryz.prog 117 := Con.of (by kernel_rfl)
instance : Con Tryz.prog 118 := Con.of (by kernel_rfl)
instance : Con Tryz.prog 119 := Con.of (by kernel_rfl)
instance : Con Tryz.prog 120 := Con.of (by kernel_rfl)
instance : Con Tryz.prog 121 := Con.of (by kernel_rfl)
instance : Con Tryz.prog 122 := Con.of (by kernel_rfl)
instance : Con Tryz.prog 123 := Con.of (by kernel_rfl)
instance : Con Tryz.prog 124 := Con.of (by kernel_rfl)
instance : Con Tryz.prog 125 := Con.of (by kernel_rfl)
instance : Con Tryz.prog 126 := Con.of (by kernel_rfl)
instance : Con Tryz.prog 127 := Con.of (by kernel_rfl)
instance : Con Tryz.prog 128 := Con.of (by kernel_rfl)
instance : Con Tryz.prog 129 := Con.of (by kernel_rfl)
instance : Con Tryz.prog 130 := Con.of (by kernel_rfl)
instance : Con Tryz.prog 131 := Con.of (by kernel_rfl)
instance : Con Tryz.prog 132 := Con.of (by kernel_rfl)
instance : Con Tryz.prog 133 := Con.of (by kernel_rfl)
instance : Con Tryz.prog 134 := Con.of (by kernel_rfl)
instance : Con Tryz.prog 135 := Con.of (by kernel_rfl)
instance : Con Tryz.prog 136 := Con.of (by kernel_rfl)
instance : Con Tryz.prog 137 := Con.of (by kernel_rfl)
instance : Con Tryz.prog 138 := Con.of (by kernel_rfl)
instance : Con Tryz.prog 139 := Con.of (by kernel_rfl)
instance : Places Tryz.prog 139 [(0, 1), (1, 1)] [(.int .u8 0), (.int .u8 0)] := ⟨_, Tryz.underlying139, fun w => by simp [run_sizeI], fun w => run_zero w⟩
instance : Con Tryz.prog 140 := Con.of (by kernel_rfl)
instance : Places Tryz.prog 140 [(0, 1), (1, 1)] [(.int .u8 0), (.int .u8 0)] := ⟨_, Tryz.underlying140, fun w => by simp [run_sizeI], fun w => run_zero w⟩
instance : Con Tryz.prog 141 := Con.of (by kernel_rfl)
instance : Con Tryz.prog 142 := Con.of (by kernel_rfl)
instance : Con Tryz.prog 143 := Con.of (by kernel_rfl)
instance : Con Tryz.prog 144 := Con.of (by kernel_rfl)
instance : Con Tryz.prog 145 := Con.of (by kernel_rfl)
instance : Places Tryz.prog 145 [(0, 1), (1, 1), (2, 1), (3, 1), (4, 1), (5, 1)] [(.bool false), (.string ⟨#[]⟩), (.string ⟨#[]⟩), (.string ⟨#[]⟩), (.bool false), (.int .i64 0)] := ⟨_, Tryz.underlying145, fun w => by simp [run_sizeI], fun w => run_zero w⟩
instance : Con Tryz.prog 146 := Con.of (by kernel_rfl)
instance : Places Tryz.prog 146 [(0, 1), (1, 1), (2, 1), (3, 1), (4, 1), (5, 1)] [(.bool false), (.string ⟨#[]⟩), (.string ⟨#[]⟩), (.string ⟨#[]⟩), (.bool false), (.int .i64 0)] := ⟨_, Tryz.underlying146, fun w => by simp [run_sizeI], fun w => run_zero w⟩
instance : Con Tryz.prog 147 := Con.of (by kernel_rfl)
instance : Con Tryz.prog 148 := Con.of (by kernel_rfl)
instance : Con Tryz.prog 149 := Con.of (by kernel_rfl)
instance : Con Tryz.prog 150 := Con.of (by kernel_rfl)
instance : Con Tryz.prog 151 := Con.of (by kernel_rfl)
instance : Con Tryz.prog 152 := Con.of (by kernel_rfl)
instance : Con Tryz.prog 153 := Con.of (by kernel_rfl)
instance : Con Tryz.prog 154 := Con.of (by kernel_rfl)
instance : Con Tryz.prog 155 := Con.of (by kernel_rfl)
instance : Con Tryz.prog 156 := Con.of (by kernel_rfl)
instance : Con Tryz.prog 157 := Con.of (by kernel_rfl)
instance : Con Tryz.prog 158 := Con.of (by kernel_rfl)
instance : Con Tryz.prog 159 := Con.of (by kernel_rfl)
instance : Con Tryz.prog 160 := Con.of (by kernel_rfl)
instance : Con Tryz.prog 161 := Con.of (by kernel_rfl)
instance : Con Tryz.prog 162 := Con.of (by kernel_rfl)
instance : Con Tryz.prog 163 := Con.of (by kernel_rfl)
instance : Con Tryz.prog 164 := Con.of (by kernel_rfl)
instance : Con Tryz.prog 165 := Con.of (by kernel_rfl)
instance : Con Tryz.prog 166 := Con.of (by kernel_rfl)
instance : Con Tryz.prog 167 := Con.of (by kernel_rfl)
instance : Con Tryz.prog 168 := Con.of (by kernel_rfl)
instance : Con Tryz.prog 169 := Con.of (by kernel_rfl)
instance : Con Tryz.prog 170 := Con.of (by kernel_rfl)
instance : Con Tryz.prog 171 := Con.of (by kernel_rfl)
instance : Con Tryz.prog 172 := Con.of (by kernel_rfl)
instance : Con Tryz.prog 173 := Con.of (by kernel_rfl)
instance : Con Tryz.prog 174 := Con.of (by kernel_rfl)
instance : Con Tryz.prog 175 := Con.of (by kernel_rfl)
instance : Con Tryz.prog 176 := Con.of (by kernel_rfl)
instance : Con Tryz.prog 177 := Con.of (by kernel_rfl)
instance : Con Tryz.prog 178 := Con.of (by kernel_rfl)
instance : Con Tryz.prog 179 := Con.of (by kernel_rfl)
instance : Con Tryz.prog 180 := Con.of (by kernel_rfl)
instance : Con Tryz.prog 181 := Con.of (by kernel_rfl)
instance : Con Tryz.prog 182 := Con.of (by kernel_rfl)
instance : Con Tryz.prog 183 := Con.of (by kernel_rfl)
instance : Con Tryz.prog 184 := Con.of (by kernel_rfl)
instance : Con Tryz.prog 185 := Con.of (by kernel_rfl)
instance : Con Tryz.prog 186 := Con.of (by kernel_rfl)
instance : Con Tryz.prog 187 := Con.of (by kernel_rfl)
instance : Places Tryz.prog 187 [(0, 1), (1, 1), (2, 1), (3, 1)] [(.pointer none), (.pointer none), (.pointer none), (.string ⟨#[]⟩)] := ⟨_, Tryz.underlying187, fun w => by simp [run_sizeI], fun w => run_zero w⟩
instance : Con Tryz.prog 188 := Con.of (by kernel_rfl)
instance : Places Tryz.prog 188 [(0, 1), (1, 1), (2, 1), (3, 1)] [(.pointer none), (.pointer none), (.pointer none), (.string ⟨#[]⟩)] := ⟨_, Tryz.underlying188, fun w => by simp [run_sizeI], fun w => run_zero w⟩
instance : Con Tryz.prog 189 := Con.of (by kernel_rfl)
instance : Con Tryz.prog 190 := Con.of (by kernel_rfl)
instance : Places Tryz.prog 190 [(0, 0)] [] := ⟨_, Tryz.underlying190, fun w => by simp [run_sizeI], fun w => run_zero w⟩
instance : Con Tryz.prog 191 := Con.of (by kernel_rfl)
instance : Places Tryz.prog 191 [(0, 0)] [] := ⟨_, Tryz.underlying191, fun w => by simp [run_sizeI], fun w => run_zero w⟩
instance : Con Tryz.prog 192 := Con.of (by kernel_rfl)
instance : Con Tryz.prog 193 := Con.of (by kernel_rfl)
instance : Con Tryz.prog 194 := Con.of (by kernel_rfl)
instance : Con Tryz.prog 195 := Con.of (by kernel_rfl)
instance : Con Tryz.prog 196 := Con.of (by kernel_rfl)
instance : Con Tryz.prog 197 := Con.of (by kernel_rfl)
instance : Places Tryz.prog 197 [(0, 1), (1, 1), (2, 1), (3, 1), (4, 1), (5, 1), (6, 1), (7, 1), (8, 1), (9, 1), (10, 1)] [(.int .u64 0), (.int .u64 0), (.int .u32 0), (.int .u8 0), (.int .u8 0), (.int .u8 0), (.int .u8 0), .nilFunc, (.pointer none), (.int .i32 0), (.int .i32 0)] := ⟨_, Tryz.underlying197, fun w => by simp [run_sizeI], fun w => run_zero w⟩
instance : Con Tryz.prog 198 := Con.of (by kernel_rfl)
instance : Places Tryz.prog 198 [(0, 1), (1, 1), (2, 1), (3, 1), (4, 1), (5, 1), (6, 1), (7, 1), (8, 1), (9, 1), (10, 1)] [(.int .u64 0), (.int .u64 0), (.int .u32 0), (.int .u8 0), (.int .u8 0), (.int .u8 0), (.int .u8 0), .nilFunc, (.pointer none), (.int .i32 0), (.int .i32 0)] := ⟨_, Tryz.underlying198, fun w => by simp [run_sizeI], fun w => run_zero w⟩
end Go.Proofs.YtfmadoeadmclbaaGreatDoor
namespace Go.Proofs.YtfmadoeadmclbaaGreatDoor
open Go.RowKit Go.TL

inductive DV where
  | mk (kind : Int) (b : Bool) (n : Int) (s : List UInt8) (items : List DV) (names : List (List UInt8))
def DV.kind : DV → Int | .mk k _ _ _ _ _ => k
def DV.b : DV → Bool | .mk _ b _ _ _ _ => b
def DV.n : DV → Int | .mk _ _ n _ _ _ => n
def DV.s : DV → List UInt8 | .mk _ _ _ s _ _ => s
def DV.items : DV → List DV | .mk _ _ _ _ i _ => i
def DV.names : DV → List (List UInt8) | .mk _ _ _ _ _ n => n
inductive J where
  | null
  | bool (b : Bool)
  | num (n : Int)
  | text (s : List UInt8)
  | list (xs : List J)
  | obj (ns : List (List UInt8)) (xs : List J)
  | other (k : Int)
def strs (l : List (List UInt8)) : List Value := l.map str
def toJ : DV → J
  | .mk k b n s items names =>
    if k = 0 then .null else if k = 1 then .bool b else if k = 2 then .num n else if k = 3 then .text s
    else if k = 4 then .list (items.attach.map fun ⟨x, _⟩ => toJ x) else if k = 5 then .obj names (items.attach.map fun ⟨x, _⟩ => toJ x) else .other k
theorem toJ_eq (k : Int) (b : Bool) (n : Int) (s : List UInt8) (items : List DV) (names : List (List UInt8)) : toJ (.mk k b n s items names) =
    if k = 0 then .null else if k = 1 then .bool b else if k = 2 then .num n else if k = 3 then .text s else if k = 4 then .list (items.map toJ) else if k = 5 then .obj names (items.map toJ) else .other k := by
  rw [toJ]; simp
mutual
def dsz : DV → Nat
  | .mk _ _ _ _ items _ => 1 + dszs items
def dszs : List DV → Nat
  | [] => 0
  | x :: r => dsz x + dszs r
end
mutual
def jsz : J → Nat
  | .list xs => 1 + jszs xs
  | .obj _ xs => 1 + jszs xs
  | .null => 1
  | .bool _ => 1
  | .num _ => 1
  | .text _ => 1
  | .other _ => 1
def jszs : List J → Nat
  | [] => 0
  | x :: r => jsz x + jszs r
end
mutual
def IsV (g : Gh) : DV → List Value → Prop
  | .mk k b n s items names, cs => ∃ vi vn flat, cs = [.int .i64 k, .bool b, .int .i64 n, str s, vi, vn] ∧ (-9223372036854775808 ≤ k ∧ k ≤ 9223372036854775807) ∧ (-9223372036854775808 ≤ n ∧ n ≤ 9223372036854775807) ∧ s.length ≤ 9223372036854775807 ∧
    Sl g vi items.length 6 flat ∧ items.length ≤ 9223372036854775807 ∧ IsVs g items flat ∧ Sl g vn names.length 1 (strs names) ∧ names.length ≤ 9223372036854775807 ∧ (∀ x ∈ names, x.length ≤ 9223372036854775807)
def IsVs (g : Gh) : List DV → List Value → Prop
  | [], flat => flat = []
  | x :: r, flat => ∃ cs fl, flat = cs ++ fl ∧ IsV g x cs ∧ IsVs g r fl
end
mutual
def IsJ (g : Gh) : J → Value → Prop
  | .null, v => v = .nilIface
  | .bool b, v => v = .iface 4 (.bool b)
  | .num n, v => v = .iface 64 (.int .i64 n) ∧ -9223372036854775808 ≤ n ∧ n ≤ 9223372036854775807
  | .text s, v => v = .iface 9 (str s)
  | .list xs, v => ∃ sl flat, v = .iface 66 sl ∧ Sl g sl xs.length 1 flat ∧ IsJs g xs flat
  | .obj ns xs, v => ∃ sl flat, v = .iface 68 sl ∧ Sl g sl xs.length 2 flat ∧ IsMs g ns xs flat
  | .other k, v => v = .iface 3 (.int .i64 k)
def IsJs (g : Gh) : List J → List Value → Prop
  | [], flat => flat = []
  | x :: r, flat => ∃ v fl, flat = v :: fl ∧ IsJ g x v ∧ IsJs g r fl
def IsMs (g : Gh) : List (List UInt8) → List J → List Value → Prop
  | [], [], flat => flat = []
  | n :: ns, x :: r, flat => ∃ v fl, flat = str n :: v :: fl ∧ IsJ g x v ∧ IsMs g ns r fl
  | [], _ :: _, _ => False
  | _ :: _, [], _ => False
end
end Go.Proofs.YtfmadoeadmclbaaGreatDoor
namespace Go.Proofs.YtfmadoeadmclbaaGreatDoor
open Go.RowKit Go.TL

mutual
theorem IsV.le {g g' : Gh} (hg : g.le g') : ∀ (x : DV) (cs : List Value), IsV g x cs → IsV g' x cs
  | .mk k b n s items names, cs, h => by
    rw [IsV] at h ⊢
    obtain ⟨vi, vn, flat, h1, h2, h3, h4, h5, h6, h7, h8, h9⟩ := h
    exact ⟨vi, vn, flat, h1, h2, h3, h4, h5.le hg, h6, IsVs.le hg items flat h7, h8.le hg, h9⟩
theorem IsVs.le {g g' : Gh} (hg : g.le g') : ∀ (l : List DV) (flat : List Value), IsVs g l flat → IsVs g' l flat
  | [], flat, h => by rw [IsVs] at h ⊢; exact h
  | x :: r, flat, h => by
    rw [IsVs] at h ⊢
    obtain ⟨cs, fl, h1, h2, h3⟩ := h
    exact ⟨cs, fl, h1, IsV.le hg x cs h2, IsVs.le hg r fl h3⟩
end
mutual
theorem IsJ.le {g g' : Gh} (hg : g.le g') : ∀ (x : J) (v : Value), IsJ g x v → IsJ g' x v
  | .null, v, h => by rw [IsJ] at h ⊢; exact h
  | .bool _, v, h => by rw [IsJ] at h ⊢; exact h
  | .num _, v, h => by rw [IsJ] at h ⊢; exact h
  | .text _, v, h => by rw [IsJ] at h ⊢; exact h
  | .other _, v, h => by rw [IsJ] at h ⊢; exact h
  | .list xs, v, h => by
    rw [IsJ] at h ⊢
    obtain ⟨sl, flat, h1, h2, h3⟩ := h
    exact ⟨sl, flat, h1, h2.le hg, IsJs.le hg xs flat h3⟩
  | .obj ns xs, v, h => by
    rw [IsJ] at h ⊢
    obtain ⟨sl, flat, h1, h2, h3⟩ := h
    exact ⟨sl, flat, h1, h2.le hg, IsMs.le hg ns xs flat h3⟩
theorem IsJs.le {g g' : Gh} (hg : g.le g') : ∀ (l : List J) (flat : List Value), IsJs g l flat → IsJs g' l flat
  | [], flat, h => by rw [IsJs] at h ⊢; exact h
  | x :: r, flat, h => by
    rw [IsJs] at h ⊢
    obtain ⟨v, fl, h1, h2, h3⟩ := h
    exact ⟨v, fl, h1, IsJ.le hg x v h2, IsJs.le hg r fl h3⟩
theorem IsMs.le {g g' : Gh} (hg : g.le g') : ∀ (ns : List (List UInt8)) (l : List J) (flat : List Value), IsMs g ns l flat → IsMs g' ns l flat
  | [], [], flat, h => by rw [IsMs] at h ⊢; exact h
  | n :: ns, x :: r, flat, h => by
    rw [IsMs] at h ⊢
    obtain ⟨v, fl, h1, h2, h3⟩ := h
    exact ⟨v, fl, h1, IsJ.le hg x v h2, IsMs.le hg ns r fl h3⟩
  | [], _ :: _, flat, h => by rw [IsMs] at h; exact h.elim
  | _ :: _, [], flat, h => by rw [IsMs] at h; exact h.elim
end
theorem IsV.len {g : Gh} : ∀ {x : DV} {cs : List Value}, IsV g x cs → cs.length = 6
  | .mk .., cs, h => by rw [IsV] at h; obtain ⟨vi, vn, flat, rfl, _⟩ := h; rfl
theorem IsVs.get {g : Gh} : ∀ {l : List DV} {flat : List Value} {i : Nat} {x : DV}, IsVs g l flat → l[i]? = some x → ∃ cs, IsV g x cs ∧ cs.length = 6 ∧ ∀ j u, cs[j]? = some u → flat[i * 6 + j]? = some u
  | [], _, _, _, _, h => by simp at h
  | y :: r, flat, 0, x, h, hx => by
    rw [IsVs] at h
    obtain ⟨cs, fl, rfl, h2, _⟩ := h
    obtain rfl : y = x := by simpa using hx
    refine ⟨cs, h2, h2.len, fun j u hu => ?_⟩
    rw [Nat.zero_mul, Nat.zero_add, List.getElem?_append_left (List.getElem?_eq_some_iff.1 hu).1]; exact hu
  | y :: r, flat, i + 1, x, h, hx => by
    rw [IsVs] at h
    obtain ⟨cs, fl, rfl, h2, h3⟩ := h
    obtain ⟨cs', h4, h5, h6⟩ := h3.get (i := i) (x := x) (by simpa using hx)
    refine ⟨cs', h4, h5, fun j u hu => ?_⟩
    rw [List.getElem?_append_right (by rw [h2.len]; omega), h2.len, show (i + 1) * 6 + j - 6 = i * 6 + j by omega]
    exact h6 j u hu
theorem IsJs.get {g : Gh} : ∀ {l : List J} {flat : List Value} {i : Nat} {x : J}, IsJs g l flat → l[i]? = some x → ∃ v, flat[i]? = some v ∧ IsJ g x v
  | [], _, _, _, _, h => by simp at h
  | y :: r, flat, 0, x, h, hx => by
    rw [IsJs] at h
    obtain ⟨v, fl, rfl, h2, _⟩ := h
    obtain rfl : y = x := by simpa using hx
    exact ⟨v, rfl, h2⟩
  | y :: r, flat, i + 1, x, h, hx => by
    rw [IsJs] at h
    obtain ⟨v, fl, rfl, h2, h3⟩ := h
    obtain ⟨u, h4, h5⟩ := h3.get (i := i) (x := x) (by simpa using hx)
    exact ⟨u, by simpa using h4, h5⟩
theorem IsMs.get {g : Gh} : ∀ {ns : List (List UInt8)} {l : List J} {flat : List Value} {i : Nat} {x : J}, IsMs g ns l flat → l[i]? = some x → ∃ s v, ns[i]? = some s ∧ flat[i * 2]? = some (str s) ∧ flat[i * 2 + 1]? = some v ∧ IsJ g x v
  | _, [], _, _, _, _, h => by simp at h
  | [], _ :: _, _, _, _, h, _ => by rw [IsMs] at h; exact h.elim
  | n :: ns, y :: r, flat, 0, x, h, hx => by
    rw [IsMs] at h
    obtain ⟨v, fl, rfl, h2, _⟩ := h
    obtain rfl : y = x := by simpa using hx
    exact ⟨n, v, rfl, rfl, rfl, h2⟩
  | n :: ns, y :: r, flat, i + 1, x, h, hx => by
    rw [IsMs] at h
    obtain ⟨v, fl, rfl, h2, h3⟩ := h
    obtain ⟨s, u, h4, h5, h6, h7⟩ := h3.get (i := i) (x := x) (by simpa using hx)
    refine ⟨s, u, by simpa using h4, ?_, ?_, h7⟩
    · rw [show (i + 1) * 2 = i * 2 + 2 by omega]; exact h5
    · rw [show (i + 1) * 2 + 1 = (i * 2 + 1) + 2 by omega]; exact h6
theorem IsMs.len {g : Gh} : ∀ {ns : List (List UInt8)} {l : List J} {flat : List Value}, IsMs g ns l flat → ns.length = l.length
  | [], [], _, _ => rfl
  | _ :: ns, _ :: r, flat, h => by
    rw [IsMs] at h
    obtain ⟨v, fl, _, _, h3⟩ := h
    rw [List.length_cons, List.length_cons, h3.len]
  | [], _ :: _, _, h => by rw [IsMs] at h; exact h.elim
  | _ :: _, [], _, h => by rw [IsMs] at h; exact h.elim
theorem IsJs.snoc {g : Gh} : ∀ {l : List J} {flat : List Value} {x : J} {v : Value}, IsJs g l flat → IsJ g x v → IsJs g (l ++ [x]) (flat ++ [v])
  | [], flat, x, v, h, hx => by
    rw [IsJs] at h
    subst h
    simp only [List.nil_append]
    rw [IsJs]
    exact ⟨v, [], rfl, hx, by rw [IsJs]⟩
  | y :: r, flat, x, v, h, hx => by
    rw [IsJs] at h
    obtain ⟨u, fl, rfl, h2, h3⟩ := h
    rw [List.cons_append, List.cons_append, IsJs]
    exact ⟨u, _, rfl, h2, h3.snoc hx⟩
theorem IsMs.snoc {g : Gh} : ∀ {ns : List (List UInt8)} {l : List J} {flat : List Value} {s : List UInt8} {x : J} {v : Value}, IsMs g ns l flat → IsJ g x v → IsMs g (ns ++ [s]) (l ++ [x]) (flat ++ [str s, v])
  | [], [], flat, s, x, v, h, hx => by
    rw [IsMs] at h
    subst h
    simp only [List.nil_append]
    rw [IsMs]
    exact ⟨v, [], rfl, hx, by rw [IsMs]⟩
  | n :: ns, y :: r, flat, s, x, v, h, hx => by
    rw [IsMs] at h
    obtain ⟨u, fl, rfl, h2, h3⟩ := h
    rw [List.cons_append, List.cons_append, IsMs]
    exact ⟨u, _, rfl, h2, h3.snoc hx⟩
  | [], _ :: _, _, _, _, _, h, _ => by rw [IsMs] at h; exact h.elim
  | _ :: _, [], _, _, _, _, h, _ => by rw [IsMs] at h; exact h.elim
theorem _root_.Go.TL.Sl.elem {g : Gh} {ao : Option Addr} {n sz cap : Nat} {xs : List Value} (h : Sl g (.slice ao n cap) n sz xs) {i : Nat} (hi : i < n) (h0 : 0 < sz) : ∃ b off, ao = some ⟨b, off, none⟩ ∧ ∀ j u, xs[i * sz + j]? = some u → g.cell b (off + i * sz + j) = some u := by
  obtain ⟨hl, ao', cap', hv, _, hc⟩ := h
  obtain ⟨rfl, rfl⟩ : ao = ao' ∧ cap = cap' := by simpa using hv
  have hlt : i * sz < xs.length := by rw [hl]; exact (Nat.mul_lt_mul_right h0).2 hi
  obtain ⟨b, off, e, _⟩ := hc (i * sz) xs[i * sz] (List.getElem?_eq_getElem hlt)
  refine ⟨b, off, e, fun j u hu => ?_⟩
  obtain ⟨b', off', e', hb⟩ := hc (i * sz + j) u hu
  obtain ⟨rfl, rfl⟩ : b = b' ∧ off = off' := by rw [e] at e'; simpa using e'
  rw [Nat.add_assoc]; exact hb
theorem strs_get {l : List (List UInt8)} {i : Nat} {s : List UInt8} (h : l[i]? = some s) : (strs l)[i]? = some (str s) := by simp [strs, h]
theorem _root_.Go.TL.Sl.slice {g : Gh} {v : Value} {n sz : Nat} {xs : List Value} (h : Sl g v n sz xs) : ∃ ao cap, v = .slice ao n cap := by
  obtain ⟨_, ao, cap, hv, _⟩ := h
  exact ⟨ao, cap, hv⟩
theorem _root_.Go.TL.Sl.cap {g : Gh} {ao : Option Addr} {n sz cap : Nat} {xs : List Value} (h : Sl g (.slice ao n cap) n sz xs) : n ≤ cap := by
  obtain ⟨_, ao', cap', hv, hc, _⟩ := h
  obtain ⟨rfl, rfl⟩ : ao = ao' ∧ cap = cap' := by simpa using hv
  exact hc
theorem _root_.Go.TL.Sl.take {g : Gh} {ao : Option Addr} {n sz cap : Nat} {xs : List Value} (h : Sl g (.slice ao n cap) n sz xs) {i : Nat} (hi : i ≤ n) : Sl g (.slice ao i cap) i sz (xs.take (i * sz)) := by
  have hcap := h.cap
  obtain ⟨hl, ao', cap', hv, _, hc⟩ := h
  obtain ⟨rfl, rfl⟩ : ao = ao' ∧ cap = cap' := by simpa using hv
  refine ⟨?_, ao, cap, rfl, by omega, fun j u hu => ?_⟩
  · rw [List.length_take, hl]; exact Nat.min_eq_left (Nat.mul_le_mul_right _ hi)
  · rw [List.getElem?_take] at hu
    split at hu
    · exact hc j u hu
    · cases hu
theorem dsz_get : ∀ {l : List DV} {i : Nat} {x : DV}, l[i]? = some x → dsz x ≤ dszs l
  | [], _, _, h => by simp at h
  | y :: r, 0, x, h => by
    obtain rfl : y = x := by simpa using h
    rw [dszs]; omega
  | y :: r, i + 1, x, h => by
    have := dsz_get (l := r) (i := i) (x := x) (by simpa using h)
    rw [dszs]; omega
theorem jsz_get : ∀ {l : List J} {i : Nat} {x : J}, l[i]? = some x → jsz x ≤ jszs l
  | [], _, _, h => by simp at h
  | y :: r, 0, x, h => by
    obtain rfl : y = x := by simpa using h
    rw [jszs]; omega
  | y :: r, i + 1, x, h => by
    have := jsz_get (l := r) (i := i) (x := x) (by simpa using h)
    rw [jszs]; omega
end Go.Proofs.YtfmadoeadmclbaaGreatDoor
namespace Go.Proofs.YtfmadoeadmclbaaGreatDoor
open Go.RowKit Go.TL
set_option maxRecDepth 100000

end Go.Proofs.YtfmadoeadmclbaaGreatDoor
namespace Go.Proofs.YtfmadoeadmclbaaGreatDoor
open Go.RowKit Go.TL
set_option maxRecDepth 100000

mutual
def wfV : DV → Prop
  | .mk k _ _ s items names => s.length ≤ 100000 ∧ items.length ≤ 100000 ∧ (k = 5 → names.length = items.length ∧ ∀ x ∈ names, x.length ≤ 100000) ∧ (k = 4 ∨ k = 5 → wfVs items)
def wfVs : List DV → Prop
  | [] => True
  | x :: r => wfV x ∧ wfVs r
end
theorem wfVs.get : ∀ {l : List DV} {i : Nat} {x : DV}, wfVs l → l[i]? = some x → wfV x
  | [], _, _, _, h => by simp at h
  | y :: r, 0, x, h, hx => by
    rw [wfVs] at h
    obtain rfl : y = x := by simpa using hx
    exact h.1
  | y :: r, i + 1, x, h, hx => by
    rw [wfVs] at h
    exact wfVs.get h.2 (i := i) (by simpa using hx)
theorem IsJ.one {g : Gh} {j : J} {v : Value} (h : IsJ g j v) : v.one = true := by
  cases j <;> rw [IsJ] at h <;> first | (subst h; rfl) | (obtain ⟨rfl, _⟩ := h; rfl) | (obtain ⟨_, _, rfl, _⟩ := h; rfl)
end Go.Proofs.YtfmadoeadmclbaaGreatDoor
