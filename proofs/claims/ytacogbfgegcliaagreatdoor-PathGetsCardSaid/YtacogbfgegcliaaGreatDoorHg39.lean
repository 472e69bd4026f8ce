/-
  The document's way with values along a path, and what the program is told of it.
-/
import Derived.Test.YtacogbfgegcliaaGreatDoorHg38
import Derived.Test.YtacogbfgegcliaaGreatDoorHg22
namespace Go.Proofs.YtacogbfgegcliaaGreatDoor
open Go.RowKit Go.TL
set_option maxRecDepth 100000

theorem nextJ_flat {k : Int} (h4 : k ≠ 4) (h5 : k ≠ 5) (b : Bool) (n : Int) (t : List UInt8) (items : List DV) (names : List (List UInt8)) (s : List UInt8) : nextJ (toJ (.mk k b n t items names)) s = none := by
  rw [toJ_eq, if_neg h4, if_neg h5]
  repeat' split
  all_goals rfl
theorem next_toJ (k : Int) (b : Bool) (n : Int) (t : List UInt8) (items : List DV) (names : List (List UInt8)) (s : List UInt8) : nextJ (toJ (.mk k b n t items names)) s = ((atD k items names s).bind (items[·]?)).map toJ := by
  unfold atD
  by_cases h5 : k = 5
  · subst h5
    rw [toJ_obj rfl, if_pos rfl]
    show (idxN names s).bind _ = _
    cases idxN names s with
    | none => rfl
    | some i => exact List.getElem?_map ..
  · rw [if_neg h5]
    by_cases h4 : k = 4
    · subst h4
      rw [toJ_list rfl, if_pos rfl]
      show (itemL s).bind _ = _
      cases itemL s with
      | none => rfl
      | some i =>
        show (items.map toJ)[i]? = _
        rw [List.getElem?_map]
        by_cases hi : i < items.length
        · simp [hi]
        · simp [hi]
    · rw [if_neg h4, nextJ_flat h4 h5]; rfl
def getD : List (List UInt8) → DV → Option DV
  | [], x => some x
  | s :: r, .mk k _ _ _ items names => ((atD k items names s).bind (items[·]?)).bind (getD r)
theorem get_toJ : ∀ (l : List (List UInt8)) (x : DV), getJ l (toJ x) = (getD l x).map toJ
  | [], x => rfl
  | s :: r, .mk k b n t items names => by
    rw [getJ, next_toJ, getD]
    cases (atD k items names s).bind (items[·]?) with
    | none => rfl
    | some y => exact get_toJ r y
end Go.Proofs.YtacogbfgegcliaaGreatDoor
