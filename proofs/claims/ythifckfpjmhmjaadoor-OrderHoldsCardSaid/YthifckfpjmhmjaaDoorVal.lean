/-
  Values as data: the document's, the program's; how they lie in memory.
-/
import Derived.Test.YthifckfpjmhmjaaDoorTypes2
namespace Go.Proofs.YthifckfpjmhmjaaDoor
open Go.RowKit Go.TL

/-- The document's value: kind, truth, number, text, items, names. -/
inductive DV where
  | mk (kind : Int) (b : Bool) (n : Int) (s : List UInt8) (items : List DV) (names : List (List UInt8))
def DV.kind : DV → Int | .mk k _ _ _ _ _ => k
def DV.b : DV → Bool | .mk _ b _ _ _ _ => b
def DV.n : DV → Int | .mk _ _ n _ _ _ => n
def DV.s : DV → List UInt8 | .mk _ _ _ s _ _ => s
def DV.items : DV → List DV | .mk _ _ _ _ i _ => i
def DV.names : DV → List (List UInt8) | .mk _ _ _ _ _ n => n
/-- The program's value. -/
inductive J where
  | null
  | bool (b : Bool)
  | num (n : Int)
  | text (s : List UInt8)
  | list (xs : List J)
  | obj (ns : List (List UInt8)) (xs : List J)
  | other (k : Int)
def strs (l : List (List UInt8)) : List Value := l.map str
/-- What the program is told of a value. -/
def toJ : DV → J
  | .mk k b n s items names =>
    if k = 0 then .null else if k = 1 then .bool b else if k = 2 then .num n else if k = 3 then .text s
    else if k = 4 then .list (items.attach.map fun ⟨x, _⟩ => toJ x) else if k = 5 then .obj names (items.attach.map fun ⟨x, _⟩ => toJ x) else .other k
theorem toJ_eq (k : Int) (b : Bool) (n : Int) (s : List UInt8) (items : List DV) (names : List (List UInt8)) : toJ (.mk k b n s items names) =
    if k = 0 then .null else if k = 1 then .bool b else if k = 2 then .num n else if k = 3 then .text s else if k = 4 then .list (items.map toJ) else if k = 5 then .obj names (items.map toJ) else .other k := by
  rw [toJ]; simp
mutual
/-- How great a value is. -/
def dsz : DV → Nat
  | .mk _ _ _ _ items _ => 1 + dszs items
def dszs : List DV → Nat
  | [] => 0
  | x :: r => dsz x + dszs r
end
mutual
def jsz : J → Nat
  | .list xs => 1 + jszs xs
  | .obj _ xs => 1 + jszs xs
  | .null => 1
  | .bool _ => 1
  | .num _ => 1
  | .text _ => 1
  | .other _ => 1
def jszs : List J → Nat
  | [] => 0
  | x :: r => jsz x + jszs r
end
mutual
/-- The six cells of a document's value. -/
def IsV (g : Gh) : DV → List Value → Prop
  | .mk k b n s items names, cs => ∃ vi vn flat, cs = [.int .i64 k, .bool b, .int .i64 n, str s, vi, vn] ∧ (-9223372036854775808 ≤ k ∧ k ≤ 9223372036854775807) ∧ (-9223372036854775808 ≤ n ∧ n ≤ 9223372036854775807) ∧ s.length ≤ 9223372036854775807 ∧
    Sl g vi items.length 6 flat ∧ items.length ≤ 9223372036854775807 ∧ IsVs g items flat ∧ Sl g vn names.length 1 (strs names) ∧ names.length ≤ 9223372036854775807 ∧ (∀ x ∈ names, x.length ≤ 9223372036854775807)
def IsVs (g : Gh) : List DV → List Value → Prop
  | [], flat => flat = []
  | x :: r, flat => ∃ cs fl, flat = cs ++ fl ∧ IsV g x cs ∧ IsVs g r fl
end
mutual
/-- A program's value, all of whose memory stays. -/
def IsJ (g : Gh) : J → Value → Prop
  | .null, v => v = .nilIface
  | .bool b, v => v = .iface 4 (.bool b)
  | .num n, v => v = .iface 52 (.int .i64 n) ∧ -9223372036854775808 ≤ n ∧ n ≤ 9223372036854775807
  | .text s, v => v = .iface 9 (str s)
  | .list xs, v => ∃ sl flat, v = .iface 43 sl ∧ Sl g sl xs.length 1 flat ∧ IsJs g xs flat
  | .obj ns xs, v => ∃ sl flat, v = .iface 54 sl ∧ Sl g sl xs.length 2 flat ∧ IsMs g ns xs flat
  | .other k, v => v = .iface 3 (.int .i64 k)
def IsJs (g : Gh) : List J → List Value → Prop
  | [], flat => flat = []
  | x :: r, flat => ∃ v fl, flat = v :: fl ∧ IsJ g x v ∧ IsJs g r fl
/-- Members: a name and a value each. -/
def IsMs (g : Gh) : List (List UInt8) → List J → List Value → Prop
  | [], [], flat => flat = []
  | n :: ns, x :: r, flat => ∃ v fl, flat = str n :: v :: fl ∧ IsJ g x v ∧ IsMs g ns r fl
  | [], _ :: _, _ => False
  | _ :: _, [], _ => False
end
end Go.Proofs.YthifckfpjmhmjaaDoor
