/-
  The laws' arguments opened: a posting, a row of integers, as they can be read.
-/
import Derived.Test.YtdlijjmjfepklaaFrame
namespace Go.Proofs.Ytdlijjmjfepklaa
open Go.ChangeShapes Go.WideShapes Go.ChangeAt Go.RowKit Go.Joins

theorem cellsRP : Try.prog.cellsOf 24 = 3 := by kernel_rfl
theorem cellsInt : Try.prog.cellsOf 3 = 1 := by kernel_rfl

/-- A slice of integers that can be read, as its cells. -/
theorem open_row {H : Type} {enc : TypeId × Value → H} {w : World} {base n : Nat} {v : Value} {y : DataW H × List MemPlace} (h : DataW.trod enc Try.prog w base (fun _ => true) true n 22 [v] = some y) :
    ∃ ao len cap xs, v = .slice ao len cap ∧ xs.length = len ∧ len ≤ 9223372036854775807 ∧ CellsAt w ao (ints xs) := by
  rcases open_ints Try.underlying22 Try.underlying3 cellsInt h with ⟨hcs, _⟩ | ⟨a, len, cap, zs, hcs, _, hl, hm, hz, _, hc, _⟩
  · obtain rfl : v = .slice none 0 0 := by simpa using hcs
    exact ⟨none, 0, 0, [], rfl, rfl, by omega, CellsAt.nil⟩
  · obtain rfl : v = .slice (some a) len cap := by simpa using hcs
    rw [if_pos rfl] at hz
    refine ⟨some a, len, cap, zs.take len, rfl, by simp; omega, by unfold maxLen at hm; omega, fun i u hu => ?_⟩
    have hi : i < len ∧ i < zs.length := by
      have := (List.getElem?_eq_some_iff.1 hu).1
      simp [ints] at this; omega
    have hs : a.spot = none := by
      have h0 := hc 0 (by omega)
      have : a.add 0 = a := by simp [Addr.add]
      rw [this] at h0
      cases hsp : a.spot with
      | none => rfl
      | some t => simp only [World.cell?] at h0; split at h0 <;> simp [hsp] at h0
    obtain ⟨b, off, sp⟩ := a
    simp only at hs
    subst hs
    have ha : (⟨b, off, none⟩ : Addr).add i = ⟨b, off + i, none⟩ := by unfold Addr.add; split <;> simp_all
    have h1 := hc i hi.2
    rw [ha] at h1
    refine ⟨b, off, rfl, World.block_lt_of_cell? w _ h1, ?_⟩
    rw [h1]
    simp only [ints, List.getElem?_map, List.getElem?_take, if_pos hi.1] at hu
    rw [List.getElem?_eq_getElem hi.2] at hu
    simp only [Option.map_some, Option.some.injEq] at hu
    rw [← hu, List.getD_eq_getElem?_getD, List.getElem?_eq_getElem hi.2]
    rfl

theorem open_post {H : Type} {enc : TypeId × Value → H} {w : World} {r : Reach} {b0 base : Nat} {v : Value} {d : DataW H} {p : List MemPlace} (hv : Value.okWide Try.prog w r b0 24 v) (h : DataW.Trod enc Try.prog w base (fun _ => true) true 24 v d p) :
    ∃ row len ao n cap xs, v = .agg #[.int .i64 row, .int .i64 len, .slice ao n cap] ∧ xs.length = n ∧ n ≤ 9223372036854775807 ∧ CellsAt w ao (ints xs) := by
  obtain ⟨v0, v1, v2, y0, y1, y2, m, rfl, _, _, h0, h1, h2⟩ := open_agg3 Try.underlying24 (by kernel_rfl) cellsRP hv h
  obtain ⟨row, e0, _, _⟩ := DataW.trod_int Try.underlying3 h0
  obtain ⟨len, e1, _, _⟩ := DataW.trod_int Try.underlying3 h1
  obtain ⟨ao, n, cap, xs, rfl, hx, hn, hc⟩ := open_row h2
  simp at e0 e1
  subst e0 e1
  exact ⟨row, len, ao, n, cap, xs, rfl, hx, hn, hc⟩

end Go.Proofs.Ytdlijjmjfepklaa
