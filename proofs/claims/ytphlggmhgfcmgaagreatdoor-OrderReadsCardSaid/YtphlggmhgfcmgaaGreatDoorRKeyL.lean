/-
  A text's key, as bytes.
-/
import Derived.Test.YtphlggmhgfcmgaaGreatDoorB3
namespace Go.Proofs.YtphlggmhgfcmgaaGreatDoor
open Go.RowKit Go.TL
def escL (s : List UInt8) : List UInt8 := s.flatMap fun c => if c = 0 then [0, 255] else [c]
def wordL (s : List UInt8) : List UInt8 := 5 :: (escL s ++ [0, 1])
theorem escL_snoc {s : List UInt8} {i : Nat} {c : UInt8} (h : s[i]? = some c) : escL (s.take (i + 1)) = escL (s.take i) ++ (if c = 0 then [0, 255] else [c]) := by
  rw [List.take_add_one, h]; simp [escL]
theorem escL_len (s : List UInt8) : (escL s).length ≤ 2 * s.length := by
  induction s with
  | nil => simp [escL]
  | cons c r ih =>
    have : escL (c :: r) = (if c = 0 then [0, 255] else [c]) ++ escL r := by simp [escL]
    rw [this, List.length_append, List.length_cons]
    split <;> simp <;> omega
end Go.Proofs.YtphlggmhgfcmgaaGreatDoor
