/-
  A walk by lemmas: what operations yield that only read.
-/
import Derived.Test.YthifckfpjmhmjaaDoorTLwalk
namespace Go.TL
open Go Go.RowKit

/-! ### Facts on types (instances: one file a seat) -/
/-- Field 'i' of the struct type 's' lies at 'off' and is of 'T'. -/
def fieldB (P : Program) (s i off : Nat) (T : TypeId) : Bool :=
  match P.underlying s with
  | some (.struct fs) => match fs[i]? with
    | some f => f.offset == off && f.type == T && (match P.info? f.type with | some j => j.size != 0 | none => false)
    | none => false
  | _ => false
class FO (P : Program) (s i : Nat) (off : outParam Nat) (T : outParam TypeId) : Prop where
  eq : fieldB P s i off T = true
class Und (P : Program) (t : TypeId) (d : outParam TypeDesc) : Prop where
  eq : P.underlying t = some d
/-- How many cells a value of the type takes, its zero. -/
class Inf (P : Program) (t : TypeId) (sz bytes : outParam Nat) (z : outParam Value) : Prop where
  eq : ∃ i, P.info? t = some i ∧ i.size = sz ∧ i.bytes = bytes ∧ i.zero = some z
def aggD : TypeDesc → Bool
  | .struct _ | .array _ _ => true
  | _ => false
class Sc (P : Program) (t : TypeId) : Prop where
  eq : ∃ d, P.underlying t = some d ∧ aggD d = false
class Ag (P : Program) (t : TypeId) : Prop where
  eq : ∃ d, P.underlying t = some d ∧ aggD d = true
/-- A whole number as a natural one. -/
class IsNat (i : Int) (j : outParam Nat) : Prop where
  eq : i = j
instance (j : Nat) : IsNat (↑j) j := ⟨rfl⟩
instance : IsNat 0 0 := ⟨rfl⟩
instance : IsNat 1 1 := ⟨rfl⟩
instance : IsNat 2 2 := ⟨rfl⟩
instance : IsNat 3 3 := ⟨rfl⟩
instance : IsNat 4 4 := ⟨rfl⟩
instance : IsNat 5 5 := ⟨rfl⟩
instance : IsNat 6 6 := ⟨rfl⟩
instance : IsNat 7 7 := ⟨rfl⟩
instance : IsNat 8 8 := ⟨rfl⟩
instance : IsNat 9 9 := ⟨rfl⟩
instance : IsNat 10 10 := ⟨rfl⟩
instance : IsNat 11 11 := ⟨rfl⟩
instance : IsNat 12 12 := ⟨rfl⟩
instance : IsNat 13 13 := ⟨rfl⟩
instance : IsNat 14 14 := ⟨rfl⟩
instance : IsNat 15 15 := ⟨rfl⟩
instance : IsNat 16 16 := ⟨rfl⟩
instance : IsNat 17 17 := ⟨rfl⟩
instance : IsNat 18 18 := ⟨rfl⟩
instance : IsNat 19 19 := ⟨rfl⟩
instance : IsNat 20 20 := ⟨rfl⟩
instance : IsNat 21 21 := ⟨rfl⟩
instance : IsNat 22 22 := ⟨rfl⟩
instance : IsNat 23 23 := ⟨rfl⟩
instance : IsNat 24 24 := ⟨rfl⟩
instance : IsNat 25 25 := ⟨rfl⟩
instance : IsNat 26 26 := ⟨rfl⟩
instance : IsNat 27 27 := ⟨rfl⟩
instance : IsNat 28 28 := ⟨rfl⟩
instance : IsNat 29 29 := ⟨rfl⟩
instance : IsNat 30 30 := ⟨rfl⟩
instance : IsNat 31 31 := ⟨rfl⟩
instance : IsNat 32 32 := ⟨rfl⟩
instance : IsNat 33 33 := ⟨rfl⟩
instance : IsNat 40 40 := ⟨rfl⟩
instance : IsNat 48 48 := ⟨rfl⟩
instance : IsNat 56 56 := ⟨rfl⟩
instance : IsNat 63 63 := ⟨rfl⟩
instance : IsNat 64 64 := ⟨rfl⟩
instance : IsNat 128 128 := ⟨rfl⟩
instance : IsNat 256 256 := ⟨rfl⟩
instance : IsNat 1024 1024 := ⟨rfl⟩
instance : IsNat 65536 65536 := ⟨rfl⟩
instance (a b : Int) (x y : Nat) [h : IsNat a x] [k : IsNat b y] : IsNat (a + b) (x + y) := ⟨by rw [h.eq, k.eq]; rfl⟩
instance (a b : Int) (x y : Nat) [h : IsNat a x] [k : IsNat b y] : IsNat (a * b) (x * y) := ⟨by rw [h.eq, k.eq]; rfl⟩
instance (a b : Int) (x y : Nat) [h : IsNat a x] [k : IsNat b y] : IsNat (a / b) (x / y) := ⟨by rw [h.eq, k.eq]; rfl⟩
instance (a b : Int) (x y : Nat) [h : IsNat a x] [k : IsNat b y] : IsNat (a % b) (x % y) := ⟨by rw [h.eq, k.eq]; rfl⟩

theorem run_und {P : Program} {t : TypeId} {d : TypeDesc} (h : P.underlying t = some d) (w : World) : (underlying t).run P w = .ok d w := by
  simp [underlying, h]
theorem run_info {P : Program} {t : TypeId} {i : TypeInfo} (h : P.info? t = some i) (w : World) : (typeInfo t).run P w = .ok i w := by
  simp [typeInfo, h]
theorem run_size {P : Program} {t : TypeId} {i : TypeInfo} (h : P.info? t = some i) (w : World) : (sizeOf t).run P w = .ok i.size w := by
  simp [sizeOf, run_info h]
theorem run_isAgg {P : Program} {t : TypeId} {d : TypeDesc} (h : P.underlying t = some d) (w : World) : (isAgg t).run P w = .ok (aggD d) w := by
  simp only [isAgg, Sem.run_bind, run_und h, Result.andThen_ok]
  cases d <;> rfl
theorem run_zero {P : Program} {t : TypeId} {sz bytes : Nat} {z : Value} [h : Inf P t sz bytes z] (w : World) : (zeroValue t).run P w = .ok z w := by
  obtain ⟨i, h1, _, _, h4⟩ := h.eq
  simp [zeroValue, run_info h1, h4]

/-! ### What operations yield -/
def evs (S : Slots) : List Operand → Option (List Value)
  | [] => some []
  | x :: r => match ev S x, evs S r with | some v, some vs => some (v :: vs) | _, _ => none
theorem Fr.evs {n : Nat} {ds : List Deferred} {S : Slots} {a : Act} (h : Fr n ds S a) : ∀ {xs : List Operand} {vs : List Value}, evs S xs = some vs → xs.map a.eval = vs
  | [], vs, e => by rw [Go.TL.evs] at e; cases e; rfl
  | x :: r, vs, e => by
    rw [Go.TL.evs] at e
    cases h1 : Go.TL.ev S x with
    | none => rw [h1] at e; cases e
    | some v =>
      cases h2 : Go.TL.evs S r with
      | none => rw [h1, h2] at e; cases e
      | some us =>
        rw [h1, h2] at e
        cases e
        rw [List.map_cons, h.ev h1, h.evs h2]
section
variable {P : Program} {n : Nat} {ds : List Deferred} {S : Slots} {g : Gh} {L : List Ent} {dst : Option Nat} {ty : TypeId} {pos : String} {aft : Array Edge} {gd : Option (Nat × Bool)}
variable {x y c : Operand} {v u : Value} {t t' : TypeId} {k : IntKind} {p q z : Int}
theorem Y.move (hx : ev S x = some v) : Yields P n ds S g L ⟨dst, .move x, ty, pos, aft, gd⟩ v := .mk fun a w hf _ => by
  simp [execOp, hf.ev hx]
theorem Y.assign (hx : ev S x = some v) : Yields P n ds S g L ⟨dst, .assign x, ty, pos, aft, gd⟩ v := .mk fun a w hf _ => by
  simp [execOp, hf.ev hx]
theorem Y.pick_true (hc : ev S c = some (.bool true)) (hx : ev S x = some v) : Yields P n ds S g L ⟨dst, .pick c x y, ty, pos, aft, gd⟩ v := .mk fun a w hf _ => by
  simp [execOp, hf.ev hx, hf.ev hc, asBool]
theorem Y.pick_false (hc : ev S c = some (.bool false)) (hy : ev S y = some v) : Yields P n ds S g L ⟨dst, .pick c x y, ty, pos, aft, gd⟩ v := .mk fun a w hf _ => by
  simp [execOp, hf.ev hy, hf.ev hc, asBool]
theorem beq_dec (a b : Int) : (a == b) = decide (a = b) := by rw [Bool.eq_iff_iff]; simp
theorem eqGuard_int (o : BinOp) (P : Program) (w : World) : (eqGuard o t x y (.int k p) v).run P w = .ok () w := by
  unfold eqGuard; cases o <;> rfl
theorem eqGuard_str (o : BinOp) (s : ByteArray) (P : Program) (w : World) : (eqGuard o t x y (.string s) v).run P w = .ok () w := by
  unfold eqGuard; cases o <;> rfl
theorem eqGuard_bool (o : BinOp) (s : Bool) (P : Program) (w : World) : (eqGuard o t x y (.bool s) v).run P w = .ok () w := by
  unfold eqGuard; cases o <;> rfl
section
variable (hx : ev S x = some (.int k p)) (hy : ev S y = some (.int k q))
include hx hy
theorem Y.lss : Yields P n ds S g L ⟨dst, .binOp .lss t x y t', ty, pos, aft, gd⟩ (.bool (decide (p < q))) := .mk fun a w hf _ => by
  simp [execOp, hf.ev hx, hf.ev hy, eqGuard_int, binOp, Op.intCmp]
theorem Y.leq : Yields P n ds S g L ⟨dst, .binOp .leq t x y t', ty, pos, aft, gd⟩ (.bool (decide (p ≤ q))) := .mk fun a w hf _ => by
  simp [execOp, hf.ev hx, hf.ev hy, eqGuard_int, binOp, Op.intCmp]
theorem Y.gtr : Yields P n ds S g L ⟨dst, .binOp .gtr t x y t', ty, pos, aft, gd⟩ (.bool (decide (q < p))) := .mk fun a w hf _ => by
  simp [execOp, hf.ev hx, hf.ev hy, eqGuard_int, binOp, Op.intCmp]
theorem Y.geq : Yields P n ds S g L ⟨dst, .binOp .geq t x y t', ty, pos, aft, gd⟩ (.bool (decide (q ≤ p))) := .mk fun a w hf _ => by
  simp [execOp, hf.ev hx, hf.ev hy, eqGuard_int, binOp, Op.intCmp]
theorem Y.eql : Yields P n ds S g L ⟨dst, .binOp .eql t x y t', ty, pos, aft, gd⟩ (.bool (decide (p = q))) := .mk fun a w hf _ => by
  simp [execOp, hf.ev hx, hf.ev hy, eqGuard_int, binOp, Op.intCmp, beq_dec]
theorem Y.neq : Yields P n ds S g L ⟨dst, .binOp .neq t x y t', ty, pos, aft, gd⟩ (.bool (!decide (p = q))) := .mk fun a w hf _ => by
  simp [execOp, hf.ev hx, hf.ev hy, eqGuard_int, binOp, Op.intCmp, bne, beq_dec]
theorem Y.add (hz : k.wrap (p + q) = z) : Yields P n ds S g L ⟨dst, .binOp .add t x y t', ty, pos, aft, gd⟩ (.int k z) := .mk fun a w hf _ => by
  subst hz
  simp [execOp, hf.ev hx, hf.ev hy, eqGuard_int, binOp, Op.intArith]
theorem Y.sub (hz : k.wrap (p - q) = z) : Yields P n ds S g L ⟨dst, .binOp .sub t x y t', ty, pos, aft, gd⟩ (.int k z) := .mk fun a w hf _ => by
  subst hz
  simp [execOp, hf.ev hx, hf.ev hy, eqGuard_int, binOp, Op.intArith]
theorem Y.mul (hz : k.wrap (p * q) = z) : Yields P n ds S g L ⟨dst, .binOp .mul t x y t', ty, pos, aft, gd⟩ (.int k z) := .mk fun a w hf _ => by
  subst hz
  simp [execOp, hf.ev hx, hf.ev hy, eqGuard_int, binOp, Op.intArith]
theorem Y.quo (h0 : q ≠ 0) (hz : k.wrap (p.tdiv q) = z) : Yields P n ds S g L ⟨dst, .binOp .quo t x y t', ty, pos, aft, gd⟩ (.int k z) := .mk fun a w hf _ => by
  subst hz
  simp [execOp, hf.ev hx, hf.ev hy, eqGuard_int, binOp, Op.intDiv, h0]
theorem Y.rem (h0 : q ≠ 0) (hz : p.tmod q = z) : Yields P n ds S g L ⟨dst, .binOp .rem t x y t', ty, pos, aft, gd⟩ (.int k z) := .mk fun a w hf _ => by
  subst hz
  simp [execOp, hf.ev hx, hf.ev hy, eqGuard_int, binOp, Op.intDiv, h0]
end
theorem Y.not {b : Bool} (hx : ev S x = some (.bool b)) : Yields P n ds S g L ⟨dst, .unOp .not t x, ty, pos, aft, gd⟩ (.bool (!b)) := .mk fun a w hf _ => by
  simp [execOp, hf.ev hx, Op.unary]
theorem Y.not_dec {p : Prop} [Decidable p] (hx : ev S x = some (.bool (!decide p))) : Yields P n ds S g L ⟨dst, .unOp .not t x, ty, pos, aft, gd⟩ (.bool (decide p)) := .mk fun a w hf _ => by
  simp [execOp, hf.ev hx, Op.unary]
theorem Y.neg (hx : ev S x = some (.int k p)) (hz : k.wrap (0 - p) = z) : Yields P n ds S g L ⟨dst, .unOp .neg t x, ty, pos, aft, gd⟩ (.int k z) := .mk fun a w hf _ => by
  subst hz
  simp [execOp, hf.ev hx, Op.unary, Op.intArith]
theorem Y.conv_int {k' : IntKind} [ht : Und P t (.int k)] [hu : Und P t' (.int k')] (hx : ev S x = some (.int k' p)) (hz : k.wrap p = z) : Yields P n ds S g L ⟨dst, .convert t' t x, ty, pos, aft, gd⟩ (.int k z) := .mk fun a w hf _ => by
  subst hz
  simp [execOp, hf.ev hx, convert, run_und ht.eq, run_und hu.eq, Conv.intToInt]
theorem equal_bool [ht : Und P t .bool] (b b' : Bool) (w : World) : (Op.equal t (.bool b) (.bool b')).run P w = .ok (decide (b = b')) w := by
  have : (b == b') = decide (b = b') := by rw [Bool.eq_iff_iff]; simp
  unfold Op.equal Op.maxDepth
  rw [Op.equalIn]
  simp [run_und ht.eq, this]
theorem Y.eql_bool {b b' : Bool} (hx : ev S x = some (.bool b)) (hy : ev S y = some (.bool b')) [ht : Und P t .bool] : Yields P n ds S g L ⟨dst, .binOp .eql t x y t', ty, pos, aft, gd⟩ (.bool (decide (b = b'))) := .mk fun a w hf _ => by
  simp [execOp, hf.ev hx, hf.ev hy, eqGuard_bool, binOp, equal_bool]
theorem Y.neq_bool {b b' : Bool} (hx : ev S x = some (.bool b)) (hy : ev S y = some (.bool b')) [ht : Und P t .bool] : Yields P n ds S g L ⟨dst, .binOp .neq t x y t', ty, pos, aft, gd⟩ (.bool (!decide (b = b'))) := .mk fun a w hf _ => by
  simp [execOp, hf.ev hx, hf.ev hy, eqGuard_bool, binOp, equal_bool]
theorem Y.extract {vs : Array Value} {i : Nat} (hx : ev S x = some (.tuple vs)) (hv : vs[i]? = some v) : Yields P n ds S g L ⟨dst, .extract x i, ty, pos, aft, gd⟩ v := .mk fun a w hf _ => by
  simp [execOp, hf.ev hx, Instr.extract, hv]
theorem Y.make_func {fn : Fn} {cs : List Operand} {vs : List Value} (hx : evs S cs = some vs) : Yields P n ds S g L ⟨dst, .makeFunc fn #[] cs.toArray, ty, pos, aft, gd⟩ (.func fn #[] vs.toArray) := .mk fun a w hf _ => by
  have := hf.evs hx
  simp [execOp, Instr.makeFunc, this]
/-! Texts: lists of bytes. -/
abbrev str (l : List UInt8) : Value := .string ⟨l.toArray⟩
variable {s r : List UInt8}
theorem size_mk (l : List UInt8) : (ByteArray.mk l.toArray).size = l.length := by show l.toArray.size = _; simp
theorem Y.len_str [ht : Und P t .string] (hx : ev S x = some (.string ⟨s.toArray⟩)) : Yields P n ds S g L ⟨dst, .call { callee := .builtin .len, args := #[x], argTypes := #[t] }, ty, pos, aft, gd⟩ (.int .i64 s.length) := .mk fun a w hf _ => by
  simp [execOp, resolve, invoke, BigFrame.builtin_len, Builtin.len_, hf.ev hx, run_und ht.eq, goInt, size_mk]
theorem Y.len_slice {e : TypeId} [ht : Und P t (.slice e)] {ao : Option Addr} {len cap : Nat} (hx : ev S x = some (.slice ao len cap)) : Yields P n ds S g L ⟨dst, .call { callee := .builtin .len, args := #[x], argTypes := #[t] }, ty, pos, aft, gd⟩ (.int .i64 len) := .mk fun a w hf _ => by
  simp [execOp, resolve, invoke, BigFrame.builtin_len, Builtin.len_, hf.ev hx, run_und ht.eq, goInt]
section
variable (hx : ev S x = some (.string ⟨s.toArray⟩)) (hy : ev S y = some (.string ⟨r.toArray⟩))
include hx hy
theorem Y.eql_str : Yields P n ds S g L ⟨dst, .binOp .eql t x y t', ty, pos, aft, gd⟩ (.bool (decide (s = r))) := .mk fun a w hf _ => by
  have : (s == r) = decide (s = r) := by rw [Bool.eq_iff_iff]; simp
  simp [execOp, hf.ev hx, hf.ev hy, eqGuard_str, binOp, Op.stringOp, this]
theorem Y.neq_str : Yields P n ds S g L ⟨dst, .binOp .neq t x y t', ty, pos, aft, gd⟩ (.bool (!decide (s = r))) := .mk fun a w hf _ => by
  have : (s == r) = decide (s = r) := by rw [Bool.eq_iff_iff]; simp
  simp [execOp, hf.ev hx, hf.ev hy, eqGuard_str, binOp, Op.stringOp, this]
theorem Y.lss_str : Yields P n ds S g L ⟨dst, .binOp .lss t x y t', ty, pos, aft, gd⟩ (.bool (Op.bytesLess s r)) := .mk fun a w hf _ => by
  simp [execOp, hf.ev hx, hf.ev hy, eqGuard_str, binOp, Op.stringOp]
theorem Y.gtr_str : Yields P n ds S g L ⟨dst, .binOp .gtr t x y t', ty, pos, aft, gd⟩ (.bool (!(Op.bytesLess s r || s == r))) := .mk fun a w hf _ => by
  simp [execOp, hf.ev hx, hf.ev hy, eqGuard_str, binOp, Op.stringOp]
theorem Y.add_str (hlen : s.length + r.length ≤ 9223372036854775807) : Yields P n ds S g L ⟨dst, .binOp .add t x y t', ty, pos, aft, gd⟩ (.string ⟨(s ++ r).toArray⟩) := .mk fun a w hf _ => by
  simp [execOp, hf.ev hx, hf.ev hy, eqGuard_str, binOp, run_string_add_sum _ (ByteArray.mk s.toArray) (ByteArray.mk r.toArray) (by rw [size_mk, size_mk]; exact hlen), ByteArray.mk_append_mk]
end
theorem get_bytes {s : List UInt8} {j : Nat} (hj : j < s.length) : (ByteArray.mk s.toArray)[j]? = some (s.getD j 0) := by
  rw [ByteArray.getElem?_lt' _ _ (by rw [size_mk]; exact hj)]
  simp only [List.getD_eq_getElem?_getD, List.getElem?_eq_getElem hj, Option.getD_some]
  rfl
theorem Y.index_str [ht : Und P t .string] {j : Nat} (hx : ev S x = some (.string ⟨s.toArray⟩)) (hy : ev S y = some (.int k p)) (hp : p = j) (hj : j < s.length) : Yields P n ds S g L ⟨dst, .index t x y, ty, pos, aft, gd⟩ (.int .u8 (s.getD j 0).toNat) := .mk fun a w hf _ => by
  subst hp
  simp [execOp, Instr.index, hf.ev hx, hf.ev hy, run_und ht.eq, asIntOf, get_bytes hj]
variable {lo hi : Operand} {i j : Nat} {k' : IntKind}
theorem Y.slice_str [ht : Und P t .string] (hx : ev S x = some (.string ⟨s.toArray⟩)) (hlo : ev S lo = some (.int k p)) (hhi : ev S hi = some (.int k' q)) (hp : p = i) (hq : q = j) (hij : i ≤ j) (hj : j ≤ s.length) : Yields P n ds S g L ⟨dst, .slice t x (some lo) (some hi) none, ty, pos, aft, gd⟩ (.string ⟨((s.drop i).take (j - i)).toArray⟩) := .mk fun a w hf _ => by
  subst hp; subst hq
  simp [execOp, Instr.sliceAt, Instr.slice, Instr.sliceBounds, Instr.sliceBound, hf.ev hx, hf.ev hlo, hf.ev hhi, run_und ht.eq, asIntOf, size_mk, hij, hj, ByteArray.extract_mk]
theorem Y.slice_add [ht : Und P t .string] {m : Nat} (hx : ev S x = some (.string ⟨s.toArray⟩)) (hlo : ev S lo = some (.int k p)) (hhi : ev S hi = some (.int k' q)) (hp : p = i) (hq : q = ((i + m : Nat) : Int)) (hj : i + m ≤ s.length) : Yields P n ds S g L ⟨dst, .slice t x (some lo) (some hi) none, ty, pos, aft, gd⟩ (.string ⟨((s.drop i).take m).toArray⟩) := by
  have := Y.slice_str (P := P) (n := n) (ds := ds) (g := g) (L := L) (dst := dst) (ty := ty) (pos := pos) (aft := aft) (gd := gd) (t := t) hx hlo hhi hp hq (by omega) hj
  rw [Nat.add_sub_cancel_left] at this
  exact this
theorem Y.slice_str_from [ht : Und P t .string] (hx : ev S x = some (.string ⟨s.toArray⟩)) (hlo : ev S lo = some (.int k p)) (hp : p = i) (hj : i ≤ s.length) : Yields P n ds S g L ⟨dst, .slice t x (some lo) none none, ty, pos, aft, gd⟩ (.string ⟨(s.drop i).toArray⟩) := .mk fun a w hf _ => by
  subst hp
  have h2 : (s.drop i).take (s.length - i) = s.drop i := List.take_of_length_le (by simp)
  simp [execOp, Instr.sliceAt, Instr.slice, Instr.sliceBounds, Instr.sliceBound, hf.ev hx, hf.ev hlo, run_und ht.eq, asIntOf, size_mk, hj, ByteArray.extract_mk, h2]
theorem Y.slice_str_to [ht : Und P t .string] (hx : ev S x = some (.string ⟨s.toArray⟩)) (hhi : ev S hi = some (.int k p)) (hp : p = i) (hj : i ≤ s.length) : Yields P n ds S g L ⟨dst, .slice t x none (some hi) none, ty, pos, aft, gd⟩ (.string ⟨(s.take i).toArray⟩) := .mk fun a w hf _ => by
  subst hp
  simp [execOp, Instr.sliceAt, Instr.slice, Instr.sliceBounds, Instr.sliceBound, hf.ev hx, hf.ev hhi, run_und ht.eq, asIntOf, size_mk, hj, ByteArray.extract_mk]
end
end Go.TL
