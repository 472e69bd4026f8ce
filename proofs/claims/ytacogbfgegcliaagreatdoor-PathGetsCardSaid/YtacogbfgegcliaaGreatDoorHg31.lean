/-
  The walk of path.drop.
-/
import Derived.Test.YtacogbfgegcliaaGreatDoorHg29
import Derived.Test.YtacogbfgegcliaaGreatDoorHg30
namespace Go.Proofs.YtacogbfgegcliaaGreatDoor
open Go.RowKit Go.TL
set_option maxRecDepth 100000

theorem drop_does : ∀ (l : List (List UInt8)), l ≠ [] → DropOk l
  | [], h => absurd rfl h
  | s :: r, _ => fun hl hl2 x v sv M g L hM hs hS hE hT => by
    have IH := drop_does r
    cases x with
    | obj ns xs =>
      cases hk : idxN ns s with
      | none => exact drop_obj_no s r IH hl hl2 ns xs v sv M g L hM hs hS hE hT hk
      | some k => exact drop_obj_yes s r IH hl hl2 ns xs k v sv M g L hM hs hS hE hT hk
    | list xs =>
      cases hi : itemL s with
      | none => exact drop_list_no s r IH hl hl2 xs v sv M g L hM hs hS hE hT hi
      | some k =>
        by_cases h1 : k < xs.length
        · exact drop_list_yes s r IH hl hl2 xs k v sv M g L hM hs hS hE hT hi h1
        · exact drop_list_far s r IH hl hl2 xs k v sv M g L hM hs hS hE hT hi (by omega)
    | _ => exact drop_flat s r IH hl hl2 _ (fun _ e => by cases e) (fun _ _ e => by cases e) v sv M g L hM hs hS hE hT
end Go.Proofs.YtacogbfgegcliaaGreatDoor
