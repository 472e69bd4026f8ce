/-
  The laws' arguments opened: bytes.
-/
import Derived.Test.YtdlijjmjfepklaaOpen
import Derived.ChangeSlices
import Derived.OpenShut
namespace Go.Proofs.Ytdlijjmjfepklaa
open Go.ChangeShapes Go.WideShapes Go.ChangeAt Go.RowKit Go.Joins Go.Deep

theorem cellsByte : Try.prog.cellsOf 5 = 1 := by kernel_rfl

theorem okWide_low {w : World} {b0 : Nat} {a : Addr} {len cap : Nat} (hv : Value.okWide Try.prog w .any b0 36 (.slice (some a) len cap)) : a.block < w.heap.size := by
  have hu := Try.underlying36
  simp only [Value.okWide, hu, Cell.okWide, Cell.ok] at hv
  obtain ⟨_, _, _, _, row, cells, hs, _⟩ := hv
  rcases Nat.lt_or_ge a.block w.heap.size with h | h
  · exact h
  · rw [World.shape?, Array.getElem?_eq_none (by omega)] at hs
    simp at hs

/-- A slice of bytes that can be read, as its cells. -/
theorem open_bytes {H : Type} {enc : TypeId × Value → H} {w : World} {b0 base n : Nat} {v : Value} {y : DataW H × List MemPlace} (hv : Value.okWide Try.prog w .any b0 36 v) (h : DataW.trod enc Try.prog w base (fun _ => true) true n 36 [v] = some y) :
    ∃ ao len cap s, v = .slice ao len cap ∧ s.length = len ∧ len ≤ cap ∧ cap ≤ maxLen ∧ CellsAt w ao (byteVals s) ∧ ∀ b off, ao = some ⟨b, off, none⟩ → b < w.heap.size := by
  rcases open_ints Try.underlying36 Try.underlying5 cellsByte h with ⟨hcs, _⟩ | ⟨a, len, cap, zs, hcs, _, hl, hm, hz, _, hc, hwz⟩
  · obtain rfl : v = .slice none 0 0 := by simpa using hcs
    exact ⟨none, 0, 0, [], rfl, rfl, by omega, by unfold maxLen; omega, CellsAt.nil, fun b off h => by cases h⟩
  · obtain rfl : v = .slice (some a) len cap := by simpa using hcs
    have hlow := okWide_low hv
    rw [if_pos rfl] at hz
    refine ⟨some a, len, cap, (zs.take len).map fun n => UInt8.ofNat n.toNat, rfl, by simp; omega, hl, hm, fun i u hu => ?_, fun b off e => ?_⟩
    · have hi : i < len ∧ i < zs.length := by
        have := (List.getElem?_eq_some_iff.1 hu).1
        simp [byteVals] at this; omega
      have hs : a.spot = none := by
        have h0 := hc 0 (by omega)
        have : a.add 0 = a := by simp [Addr.add]
        rw [this] at h0
        cases hsp : a.spot with
        | none => rfl
        | some t => simp only [World.cell?] at h0; split at h0 <;> simp [hsp] at h0
      obtain ⟨b, off, sp⟩ := a
      simp only at hs
      subst hs
      have ha : (⟨b, off, none⟩ : Addr).add i = ⟨b, off + i, none⟩ := by unfold Addr.add; split <;> simp_all
      have h1 := hc i hi.2
      rw [ha] at h1
      refine ⟨b, off, rfl, World.block_lt_of_cell? w _ h1, ?_⟩
      rw [h1]
      have hb := range_u8 hwz i
      have e : zs.getD i 0 = zs[i]'(by omega) := by simp [List.getD, List.getElem?_eq_getElem (show i < zs.length by omega)]
      rw [List.getD_eq_getElem?_getD] at e
      rw [e] at hb
      simp only [byteVals, List.getElem?_map, List.getElem?_take, if_pos hi.1] at hu
      rw [List.getElem?_eq_getElem hi.2] at hu
      simp only [Option.map_some, Option.some.injEq] at hu
      rw [← hu, List.getD_eq_getElem?_getD, List.getElem?_eq_getElem hi.2]
      congr 2
      simp only [Option.getD_some, UInt8.toNat_ofNat']
      omega
    · simp only [Option.some.injEq] at e
      subst e
      exact hlow
end Go.Proofs.Ytdlijjmjfepklaa
