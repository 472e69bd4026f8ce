/-
  Numbers as data, and what is said of them.
-/
import Derived.Test.YtacogbfgegcliaaGreatDoorB1
namespace Go.Proofs.YtacogbfgegcliaaGreatDoor
open Go.RowKit

def heldB (n : Int) : Bool := decide (-9000000000000000000 ≤ n) && decide (n ≤ 9000000000000000000)
end Go.Proofs.YtacogbfgegcliaaGreatDoor
namespace Go.Proofs.YtacogbfgegcliaaGreatDoor
open Go.RowKit

def trimR (s : List UInt8) : List UInt8 := (s.reverse.dropWhile (· == 48)).reverse
theorem trimR_le (s : List UInt8) : (trimR s).length ≤ s.length := by
  rw [trimR, List.length_reverse]
  have := (List.dropWhile_sublist (l := s.reverse) (· == 48)).length_le
  simpa using this
end Go.Proofs.YtacogbfgegcliaaGreatDoor
namespace Go.Proofs.YtacogbfgegcliaaGreatDoor
open Go.RowKit

end Go.Proofs.YtacogbfgegcliaaGreatDoor
