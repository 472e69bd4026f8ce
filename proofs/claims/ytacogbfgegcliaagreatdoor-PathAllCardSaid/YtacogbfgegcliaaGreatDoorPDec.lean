/-
  A text gone through sign by sign, with a dot between.
-/
import Derived.Test.YtacogbfgegcliaaGreatDoorPathL
import Derived.Lib.MapLaws
namespace Go.Proofs.YtacogbfgegcliaaGreatDoor
open Go.RowKit

theorem dec_small (x : UInt8) (r : List UInt8) (h : x.toNat < 128) : Lib.decodeL (x :: r) = (x.toNat, 1) := by
  rw [decode_eq]
  dsimp only
  exact if_pos h
theorem dec_sep (x : UInt8) (r : List UInt8) : (x = 46 → Lib.decodeL (x :: r) = (46, 1)) ∧ (x ≠ 46 → (Lib.decodeL (x :: r)).1 ≠ 46 ∧ 1 ≤ (Lib.decodeL (x :: r)).2 ∧ (Lib.decodeL (x :: r)).2 ≤ (x :: r).length ∧ ∀ y ∈ (x :: r).take (Lib.decodeL (x :: r)).2, y ≠ 46) := by
  refine ⟨fun h => by subst h; exact dec_small 46 r (by decide), fun h => ?_⟩
  have hle := Lib.decodeL_le (x :: r) (by simp)
  rcases decode_sign x r with ⟨h0, hd⟩ | ⟨h0, h2, h3⟩
  · rw [hd]
    exact ⟨by decide, Nat.le_refl _, by simp, fun y hy => by
      obtain rfl : y = x := by simpa using hy
      exact h⟩
  · rcases signL_ge x r h0 with ⟨hx, _⟩ | ⟨hx, hk, hall⟩
    · rw [dec_small x r hx]
      exact ⟨fun e => h (UInt8.toNat_inj.1 e), Nat.le_refl _, by simp, fun y hy => by
        obtain rfl : y = x := by simpa using hy
        exact h⟩
    · rw [← h2] at hk hall
      refine ⟨fun e => ?_, by omega, hle, fun y hy e => ?_⟩
      · have he := Lib.encode_decode (x :: r) (by simp) h3
        rw [e] at he
        have h5 := congrArg List.length he
        rw [List.length_take, Nat.min_eq_left hle] at h5
        have h6 : (Lib.encodeRune ((46 : Nat) : Int)).length = 1 := by decide
        omega
      · have := hall y hy
        subst e
        simp at this
theorem dec_at (s : List UInt8) (j : Nat) : Utf8.decode ⟨s.toArray⟩ j = Lib.decodeL (s.drop j) := by
  have := Lib.decodeL_drop ⟨s.toArray⟩ j
  simpa using this.symm
end Go.Proofs.YtacogbfgegcliaaGreatDoor
