/-
  The walks of layer 18's small functions: whether a posting may be.
-/
import Derived.Test.YtdlijjmjfepklaaKit
namespace Go.Proofs.Ytdlijjmjfepklaa
open Go.RowKit

/-- do places rise from a last one on, all below a length? -/
def goodFrom (last len : Int) : List Int → Bool
  | [] => true
  | x :: r => !(decide (x ≤ last)) && !(decide (x ≥ len)) && goodFrom x len r
/-- may it be a posting? -/
def postB (row len : Int) (at_ : List Int) : Bool :=
  !(decide (row < 0)) && !(decide (row > 9007199254740992)) && !(decide (len < 1)) && !(decide (len > 1048576)) && !(at_.length == 0) && goodFrom (-1) len at_

set_option maxHeartbeats 400000 in
theorem right_any (row len : Int) (ao : Option Addr) (n cap : Nat) (xs : List Int) (w : World) (hx : xs.length = n) (hn : n ≤ 9223372036854775807) (hc : CellsAt w ao (ints xs)) :
    Calls Try.prog 26 #[.agg #[.int .i64 row, .int .i64 len, .slice ao n cap]] w fun e w' => e = .returned (.bool (postB row len xs)) ∧ Ext w w' := by
  by_cases h1 : row < 0
  · go_enter Try.func26, Try.ntmps26
    go_wp2
    go_ret
    exact ⟨ret_bool (by simp [postB, h1]), (by repeat (first | (with_reducible exact Below.refl _ _) | (with_reducible assumption) | (with_reducible refine bdrewN ?_ _) | (with_reducible refine Below.drew ?_) | (with_reducible refine Below.alloc ?_ (by simp) _) | (with_reducible refine Below.setCell ?_ (by simp) _)))⟩
  by_cases h2 : row > 9007199254740992
  · go_enter Try.func26, Try.ntmps26
    go_wp2
    go_ret
    exact ⟨ret_bool (by simp [postB, h2]), (by repeat (first | (with_reducible exact Below.refl _ _) | (with_reducible assumption) | (with_reducible refine bdrewN ?_ _) | (with_reducible refine Below.drew ?_) | (with_reducible refine Below.alloc ?_ (by simp) _) | (with_reducible refine Below.setCell ?_ (by simp) _)))⟩
  by_cases h3 : len < 1
  · go_enter Try.func26, Try.ntmps26
    go_wp2
    go_ret
    exact ⟨ret_bool (by simp [postB, h3]), (by repeat (first | (with_reducible exact Below.refl _ _) | (with_reducible assumption) | (with_reducible refine bdrewN ?_ _) | (with_reducible refine Below.drew ?_) | (with_reducible refine Below.alloc ?_ (by simp) _) | (with_reducible refine Below.setCell ?_ (by simp) _)))⟩
  by_cases h4 : len > 1048576
  · go_enter Try.func26, Try.ntmps26
    go_wp2
    go_ret
    exact ⟨ret_bool (by simp [postB, h4]), (by repeat (first | (with_reducible exact Below.refl _ _) | (with_reducible assumption) | (with_reducible refine bdrewN ?_ _) | (with_reducible refine Below.drew ?_) | (with_reducible refine Below.alloc ?_ (by simp) _) | (with_reducible refine Below.setCell ?_ (by simp) _)))⟩
  by_cases h5 : n = 0
  · go_enter Try.func26, Try.ntmps26
    go_wp2
    go_ret
    exact ⟨ret_bool (by simp [postB, hx, h5]), (by repeat (first | (with_reducible exact Below.refl _ _) | (with_reducible assumption) | (with_reducible refine bdrewN ?_ _) | (with_reducible refine Below.drew ?_) | (with_reducible refine Below.alloc ?_ (by simp) _) | (with_reducible refine Below.setCell ?_ (by simp) _)))⟩
  have h5' : ((n : Int) == 0) = false := by simpa using h5
  have Hp : Hid (postB row len xs = goodFrom (-1) len xs) := by
    have : (xs.length == 0) = false := by simpa [hx] using h5
    simp [Hid, postB, h1, h2, h3, h4, this]
  have Hx := Lib.hid hx
  clear hx h5
  go_enter Try.func26, Try.ntmps26
  go_wp2
  go_loop [3, 5, 33] (fun last _ i => ∃ (k : Nat) (l : Int), k ≤ n ∧ last = .int .i64 l ∧ i = .int .i64 k ∧ Hid (goodFrom (-1) len xs = goodFrom l len (xs.drop k))) (fun _ _ i => n - (intOf i).toNat)
  case atStart => exact ⟨0, -1, Nat.zero_le _, rfl, rfl, by simp [Hid]⟩
  case round =>
    obtain ⟨k, l, hk, rfl, rfl, hg⟩ := hrel
    by_cases hlt : k < n
    · obtain ⟨x, hx⟩ := get_of_lt Hx.out hlt
      obtain ⟨b, off, rfl, hb, c1⟩ := hc k _ (ints_get hx)
      have hg' : Hid (goodFrom (-1) len xs = (!(decide (x ≤ l)) && !(decide (x ≥ len)) && goodFrom x len (xs.drop (k + 1)))) := by
        have := hg.out
        rw [drop_of_get hx] at this
        exact this
      have c2 := (Below.refl _ w).alloc (Nat.le_refl _) (.cells #[.int .i64 row, .int .i64 len, .slice (some ⟨b, off, none⟩) n cap] 27)
      have c3 := (c2.cell (p := ⟨b, off + k, none⟩) hb).trans c1
      clear hg hx c1 c2
      by_cases hgood : l < x ∧ x < len
      · obtain ⟨g1, g2⟩ := hgood
        go_wp2
        go_round
        case rel => exact ⟨k + 1, x, by omega, rfl, by go_num, hg'.out.trans (by simp; omega)⟩
        case measure => simp [intOf]; omega
      · go_wp2
        all_goals
          go_ret
          exact ⟨ret_bool (Hp.out.trans (hg'.out.trans (by simp; omega))).symm, (by repeat (first | (with_reducible exact Below.refl _ _) | (with_reducible assumption) | (with_reducible refine bdrewN ?_ _) | (with_reducible refine Below.drew ?_) | (with_reducible refine Below.alloc ?_ (by simp) _) | (with_reducible refine Below.setCell ?_ (by simp) _)))⟩
    · go_wp2
      go_ret
      have : xs.drop k = [] := by have := Hx.out; simp; omega
      exact ⟨ret_bool (Hp.out.trans (hg.out.trans (by rw [this]; rfl))).symm, (by repeat (first | (with_reducible exact Below.refl _ _) | (with_reducible assumption) | (with_reducible refine bdrewN ?_ _) | (with_reducible refine Below.drew ?_) | (with_reducible refine Below.alloc ?_ (by simp) _) | (with_reducible refine Below.setCell ?_ (by simp) _)))⟩

set_option maxHeartbeats 1000000 in
theorem one_any (row len : Int) (ao : Option Addr) (n cap : Nat) (xs : List Int) (w : World) (hx : xs.length = n) (hn : n ≤ 9223372036854775807) (hc : CellsAt w ao (ints xs)) :
    Calls Try.prog 14 #[.agg #[.int .i64 row, .int .i64 len, .slice ao n cap]] w fun e w' => e = .returned (.bool (postB row len xs)) ∧ Ext w w' := by
  by_cases h1 : row < 0
  · go_enter Try.func14, Try.ntmps14
    go_wp2
    go_ret
    exact ⟨ret_bool (by simp [postB, h1]), (by repeat (first | (with_reducible exact Below.refl _ _) | (with_reducible assumption) | (with_reducible refine bdrewN ?_ _) | (with_reducible refine Below.drew ?_) | (with_reducible refine Below.alloc ?_ (by simp) _) | (with_reducible refine Below.setCell ?_ (by simp) _)))⟩
  by_cases h2 : row > 9007199254740992
  · go_enter Try.func14, Try.ntmps14
    go_wp2
    go_ret
    exact ⟨ret_bool (by simp [postB, h2]), (by repeat (first | (with_reducible exact Below.refl _ _) | (with_reducible assumption) | (with_reducible refine bdrewN ?_ _) | (with_reducible refine Below.drew ?_) | (with_reducible refine Below.alloc ?_ (by simp) _) | (with_reducible refine Below.setCell ?_ (by simp) _)))⟩
  by_cases h3 : len < 1
  · go_enter Try.func14, Try.ntmps14
    go_wp2
    go_ret
    exact ⟨ret_bool (by simp [postB, h3]), (by repeat (first | (with_reducible exact Below.refl _ _) | (with_reducible assumption) | (with_reducible refine bdrewN ?_ _) | (with_reducible refine Below.drew ?_) | (with_reducible refine Below.alloc ?_ (by simp) _) | (with_reducible refine Below.setCell ?_ (by simp) _)))⟩
  by_cases h4 : len > 1048576
  · go_enter Try.func14, Try.ntmps14
    go_wp2
    go_ret
    exact ⟨ret_bool (by simp [postB, h4]), (by repeat (first | (with_reducible exact Below.refl _ _) | (with_reducible assumption) | (with_reducible refine bdrewN ?_ _) | (with_reducible refine Below.drew ?_) | (with_reducible refine Below.alloc ?_ (by simp) _) | (with_reducible refine Below.setCell ?_ (by simp) _)))⟩
  by_cases h5 : n = 0
  · go_enter Try.func14, Try.ntmps14
    go_wp2
    go_ret
    exact ⟨ret_bool (by simp [postB, hx, h5]), (by repeat (first | (with_reducible exact Below.refl _ _) | (with_reducible assumption) | (with_reducible refine bdrewN ?_ _) | (with_reducible refine Below.drew ?_) | (with_reducible refine Below.alloc ?_ (by simp) _) | (with_reducible refine Below.setCell ?_ (by simp) _)))⟩
  have h5' : (n : Int) ≥ 1 := by omega
  have Hp : Hid (postB row len xs = goodFrom (-1) len xs) := by
    have : (xs.length == 0) = false := by simpa [hx] using h5
    simp [Hid, postB, h1, h2, h3, h4, this]
  have Hx := Lib.hid hx
  clear hx h5
  go_enter Try.func14, Try.ntmps14
  go_wp2
  go_loopw [2, 3] (fun r i wr => ∃ (k m : Nat) (l : Int), k ≤ n ∧ r = .bool false ∧ i = .int .i64 k ∧ wr = (w.alloc (.cells #[.int .i64 row, .int .i64 len, .slice ao n cap] 24)).drewN m ∧ Hid ((k = 0 → l = -1) ∧ (∀ j, k = j + 1 → xs[j]? = some l) ∧ -1 ≤ l) ∧ Hid (goodFrom (-1) len xs = goodFrom l len (xs.drop k))) (fun _ i _ => n - (intOf i).toNat)
  case atStart => exact ⟨0, 0, -1, Nat.zero_le _, rfl, rfl, rfl, ⟨fun _ => rfl, fun j hj => by omega, by omega⟩, rfl⟩
  case round =>
    obtain ⟨k, m, l, hk, rfl, rfl, rfl, hl, hg⟩ := hrel
    by_cases hlt : k < n
    · obtain ⟨x, hx⟩ := get_of_lt Hx.out hlt
      obtain ⟨b, off, rfl, hb, c1⟩ := hc k _ (ints_get hx)
      have hg' : Hid (goodFrom (-1) len xs = (!(decide (x ≤ l)) && !(decide (x ≥ len)) && goodFrom x len (xs.drop (k + 1)))) := by
        have := hg.out
        rw [drop_of_get hx] at this
        exact this
      have c2 := (Below.refl _ w).alloc (Nat.le_refl _) (.cells #[.int .i64 row, .int .i64 len, .slice (some ⟨b, off, none⟩) n cap] 24)
      have c3 := (c2.cell (p := ⟨b, off + k, none⟩) hb).trans c1
      have hm1 := hl.out.2.2
      have c4 : 0 < k → (w.alloc (.cells #[.int .i64 row, .int .i64 len, .slice (some ⟨b, off, none⟩) n cap] 24)).cell? ⟨b, off + (k - 1), none⟩ = some (.int .i64 l) := fun h0 => by
        obtain ⟨b2, off2, e, _, c5⟩ := hc (k - 1) _ (ints_get (hl.out.2.1 (k - 1) (by omega)))
        simp only [Option.some.injEq, Addr.mk.injEq] at e
        obtain ⟨rfl, rfl, _⟩ := e
        exact (c2.cell (p := ⟨b, off + (k - 1), none⟩) hb).trans c5
      have hl' : Hid (∀ j, k + 1 = j + 1 → xs[j]? = some x) := fun j hj => by
        obtain rfl : k = j := by omega
        exact hx
      clear hg hx c1 c2
      have hd : decide ((k : Int) < (n : Int)) = true := by simp; omega
      by_cases g1 : x < 0
      · have d1 : decide (x < 0) = true := by simpa using g1
        go_wp2_with fail
        go_quiet (fail)
        go_wp2
        go_ret
        exact ⟨ret_bool (Hp.out.trans (hg'.out.trans (by simp; omega))).symm, (by repeat (first | (with_reducible exact Below.refl _ _) | (with_reducible assumption) | (with_reducible refine bdrewN ?_ _) | (with_reducible refine Below.drew ?_) | (with_reducible refine Below.alloc ?_ (by simp) _) | (with_reducible refine Below.setCell ?_ (by simp) _)))⟩
      have d1 : decide (x < 0) = false := by simpa using g1
      by_cases g2 : x ≥ len
      · have d2 : decide (len ≤ x) = true := by simpa using g2
        go_wp2_with fail
        go_quiet (fail)
        go_wp2
        go_ret
        exact ⟨ret_bool (Hp.out.trans (hg'.out.trans (by simp; omega))).symm, (by repeat (first | (with_reducible exact Below.refl _ _) | (with_reducible assumption) | (with_reducible refine bdrewN ?_ _) | (with_reducible refine Below.drew ?_) | (with_reducible refine Below.alloc ?_ (by simp) _) | (with_reducible refine Below.setCell ?_ (by simp) _)))⟩
      have d2 : decide (len ≤ x) = false := by simpa using g2
      by_cases g3 : k = 0
      · obtain rfl : k = 0 := g3
        have d3 : decide ((0 : Int) < ((0 : Nat) : Int)) = false := by simp
        obtain rfl : l = -1 := hl.out.1 rfl
        clear c4
        simp only [Nat.add_zero] at c3
        go_wp2_with fail
        go_quiet (fail)
        go_wp2
        go_roundw
        case rel => exact ⟨1, m + nq, x, by omega, rfl, rfl, by simp, ⟨fun h => by omega, hl'.out, by omega⟩, hg'.out.trans (by simp; omega)⟩
        case measure => simp [intOf]; omega
      have c4 := c4 (by omega)
      have d3 : decide (0 < k) = true := by simp; omega
      have d4 : decide (((k : Int) - 1) < (n : Int)) = true := by simp; omega
      have d5 : (0 : Int) ≤ (k : Int) - 1 := by omega
      have d6 : ((k : Int) - 1).toNat = k - 1 := by omega
      by_cases g4 : x ≤ l
      · have d7 : decide (x ≤ l) = true := by simpa using g4
        go_wp2_with fail
        go_quiet (fail)
        go_wp2
        go_ret
        exact ⟨ret_bool (Hp.out.trans (hg'.out.trans (by simp; omega))).symm, (by repeat (first | (with_reducible exact Below.refl _ _) | (with_reducible assumption) | (with_reducible refine bdrewN ?_ _) | (with_reducible refine Below.drew ?_) | (with_reducible refine Below.alloc ?_ (by simp) _) | (with_reducible refine Below.setCell ?_ (by simp) _)))⟩
      · have d7 : decide (x ≤ l) = false := by simpa using g4
        go_wp2_with fail
        go_quiet (fail)
        go_wp2
        go_roundw
        case rel => exact ⟨k + 1, m + nq, x, by omega, rfl, by go_num, by simp, ⟨fun h => by omega, hl'.out, by omega⟩, hg'.out.trans (by simp; omega)⟩
        case measure => simp [intOf]; omega
    · go_wp2
      go_ret
      have : xs.drop k = [] := by have := Hx.out; simp; omega
      exact ⟨ret_bool (Hp.out.trans (hg.out.trans (by rw [this]; rfl))).symm, (by repeat (first | (with_reducible exact Below.refl _ _) | (with_reducible assumption) | (with_reducible refine bdrewN ?_ _) | (with_reducible refine Below.drew ?_) | (with_reducible refine Below.alloc ?_ (by simp) _) | (with_reducible refine Below.setCell ?_ (by simp) _)))⟩
end Go.Proofs.Ytdlijjmjfepklaa
