/-
  Arrays of three by value; an array cut whole. Numbers as data, and what is said of them.
-/
import Derived.Test.YtfanccddokckcaaGreatDoorSa11
import Derived.Test.YtfanccddokckcaaGreatDoorSa3
import Derived.Test.YtfanccddokckcaaGreatDoorSa0
namespace Go.TL
open Go Go.RowKit Go.Proofs.YtfanccddokckcaaGreatDoor
section
variable {P : Program} {n : Nat} {ds : List Deferred} {S : Slots} {g : Gh} {L : List Ent} {dst : Option Nat} {ty : TypeId} {pos : String} {aft : Array Edge} {gd : Option (Nat × Bool)} {t e : TypeId}
theorem Y.build_three {x1 x2 x3 : Operand} {u1 u2 u3 z1 z2 z3 z0 : Value} {sz b1 b2 : Nat} [ht : Und P t (.array 3 e)] [he : Inf P e 1 b1 z0] [hi : Inf P t sz b2 (.agg #[z1, z2, z3])]
    (h1 : ev S x1 = some u1) (h2 : ev S x2 = some u2) (h3 : ev S x3 = some u3) (o1 : u1.one = true) (o2 : u2.one = true) (o3 : u3.one = true) : Yields P n ds S g L ⟨dst, .build t #[(0, x1), (1, x2), (2, x3)], ty, pos, aft, gd⟩ (.agg #[u1, u2, u3]) := .mk fun a w hf _ => by
  obtain ⟨j, hj, hs, _⟩ := he.eq
  have hz := run_zero (P := P) (t := t) (z := .agg #[z1, z2, z3]) w
  have c0 : (Value.agg #[z1, z2, z3]).cells = #[z1, z2, z3] := rfl
  have c1 := cells_one o1
  have c2 := cells_one o2
  have c3 := cells_one o3
  generalize hc1 : u1.cells = k1 at *
  generalize hc2 : u2.cells = k2 at *
  generalize hc3 : u3.cells = k3 at *
  subst c1 c2 c3
  simp [execOp, Instr.build, hz, run_und ht.eq, run_size hj, hs, hf.ev h1, hf.ev h2, hf.ev h3, Instr.fill, hc1, hc2, hc3, c0]
theorem Y.slice_arr {x : Operand} {b k sz bytes : Nat} {z : Value} [ht : Und P t (.array k e)] [he : Inf P e sz bytes z] (hx : ev S x = some (.pointer (some ⟨b, 0, none⟩))) : Yields P n ds S g L ⟨dst, .slice t x none none none, ty, pos, aft, gd⟩ (.slice (some ⟨b, 0, none⟩) k k) := .mk fun a w hf _ => by
  obtain ⟨ii, hii, hs, _⟩ := he.eq
  simp [execOp, Instr.sliceAt, Instr.sliceBounds, hf.ev hx, run_und ht.eq, run_size hii, Instr.sureAddr, Addr.add]
variable {ops : Array Oper} {Q : Exit → Act → World → Prop} {rest : List Oper} {L' : List Ent} {d : Nat}
theorem TL.slice_keep {x : Operand} {b k bytes : Nat} {z : Value} {cs : List Value} {E : TypeId} [ht : Und P t (.array k e)] [he : Inf P e 1 bytes z] (hx : ev S x = some (.pointer (some ⟨b, 0, none⟩))) (hm : Pick (.obj b (.cells cs.toArray E (0, 0))) L L') (hl : cs.length = k * 1) (hk : k ≤ maxLen) (hd : Nat.blt d n = true)
    (kk : ∀ g', g.le g' → Sl g' (.slice (some ⟨b, 0, none⟩) k k) k 1 cs → TL P ops Q rest n ds ((d, .slice (some ⟨b, 0, none⟩) k k) :: S) g' L') : TL P ops Q (⟨some d, .slice t x none none none, ty, pos, aft, none⟩ :: rest) n ds S g L :=
  TL.freeze_obj b 1 hm hl hk fun g' h1 h2 => TL.pure (Y.slice_arr hx) hd (kk g' h1 h2)
end
end Go.TL
namespace Go.Proofs.YtfanccddokckcaaGreatDoor
open Go.RowKit

def heldB (n : Int) : Bool := decide (-9000000000000000000 ≤ n) && decide (n ≤ 9000000000000000000)
end Go.Proofs.YtfanccddokckcaaGreatDoor
namespace Go.Proofs.YtfanccddokckcaaGreatDoor
open Go.RowKit

def trimR (s : List UInt8) : List UInt8 := (s.reverse.dropWhile (· == 48)).reverse
theorem trimR_le (s : List UInt8) : (trimR s).length ≤ s.length := by
  rw [trimR, List.length_reverse]
  have := (List.dropWhile_sublist (l := s.reverse) (· == 48)).length_le
  simpa using this
end Go.Proofs.YtfanccddokckcaaGreatDoor
namespace Go.Proofs.YtfanccddokckcaaGreatDoor
open Go.RowKit

end Go.Proofs.YtfanccddokckcaaGreatDoor
