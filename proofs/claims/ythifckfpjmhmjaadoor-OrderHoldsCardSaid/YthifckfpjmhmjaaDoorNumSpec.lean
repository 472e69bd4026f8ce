/-
  Layer 3, the plain law: what a number's text is, what it says; no program in sight.
-/
import Derived.Test.YthifckfpjmhmjaaDoorKit
namespace Go.Proofs.YthifckfpjmhmjaaDoor
open Go.RowKit

/-- One of 0 to 9. -/
def isFig (c : UInt8) : Bool := decide (48 ≤ c.toNat) && decide (c.toNat ≤ 57)
def figs : List UInt8 → Nat
  | [] => 0
  | c :: r => if isFig c then figs r + 1 else 0
theorem figs_le : ∀ s, figs s ≤ s.length
  | [] => Nat.le_refl _
  | c :: r => by rw [figs]; have := figs_le r; split <;> simp <;> omega
theorem figs_take : ∀ s : List UInt8, ∀ c ∈ s.take (figs s), isFig c = true
  | [], c, h => by simp at h
  | d :: r, c, h => by
    rw [figs] at h
    split at h
    · rw [List.take_succ_cons] at h
      rcases List.mem_cons.1 h with rfl | h
      · assumption
      · exact figs_take r c h
    · simp at h
theorem figs_app : ∀ (a b : List UInt8), (∀ c ∈ a, isFig c = true) → figs (a ++ b) = a.length + figs b
  | [], b, _ => by simp
  | c :: r, b, h => by
    rw [List.cons_append, figs, if_pos (h c List.mem_cons_self), figs_app r b fun d hd => h d (List.mem_cons_of_mem _ hd)]
    simp; omega
theorem figs_stop : ∀ (s : List UInt8), ∀ c, (s.drop (figs s)).head? = some c → isFig c = false
  | [], c, h => by simp at h
  | d :: r, c, h => by
    rw [figs] at h
    split at h
    · rw [List.drop_succ_cons] at h; exact figs_stop r c h
    · rename_i hd
      simp at h; subst h; simpa using hd

/-- The pieces of a number's text. -/
structure Pc where
  minus : Bool
  whole : List UInt8
  rest : List UInt8
  power : List UInt8
  down : Bool
  size : Nat

def signAt (s : List UInt8) : Nat := if s[0]? = some 45 then 1 else 0
def wholeLen (s : List UInt8) : Nat := if s[0]? = some 48 then 1 else figs s
def restLen (s : List UInt8) : Nat := if s[0]? = some 46 then figs (s.drop 1) else 0
def isE (s : List UInt8) : Bool := s[0]? == some 101 || s[0]? == some 69
def expSign (s : List UInt8) : Nat := if s[0]? = some 43 ∨ s[0]? = some 45 then 1 else 0

/-- What a text begins with, cut. -/
def cutL (s : List UInt8) : Option Pc :=
  let a := signAt s
  let s1 := s.drop a
  if figs s1 = 0 then none else
  let n := wholeLen s1
  let s2 := s1.drop n
  let r := restLen s2
  let b := a + n + (if r = 0 then 0 else 1 + r)
  let s3 := s.drop b
  if isE s3 = true then
    let g := expSign (s3.drop 1)
    let u := s3.drop (1 + g)
    if figs u = 0 then some ⟨decide (a = 1), s1.take n, (s2.drop 1).take r, [], false, b⟩
    else some ⟨decide (a = 1), s1.take n, (s2.drop 1).take r, u.take (figs u), decide (s3[1]? = some 45), b + 1 + g + figs u⟩
  else some ⟨decide (a = 1), s1.take n, (s2.drop 1).take r, [], false, b⟩
/-- How long a number's text stands at the beginning. -/
def scanL (s : List UInt8) : Nat := match cutL s with | none => 0 | some p => p.size
def heldB (n : Int) : Bool := decide (-9000000000000000000 ≤ n) && decide (n ≤ 9000000000000000000)
theorem heldB_iff {n : Int} : heldB n = true ↔ -9000000000000000000 ≤ n ∧ n ≤ 9000000000000000000 := by
  rw [heldB, Bool.and_eq_true, decide_eq_true_iff, decide_eq_true_iff]
end Go.Proofs.YthifckfpjmhmjaaDoor
