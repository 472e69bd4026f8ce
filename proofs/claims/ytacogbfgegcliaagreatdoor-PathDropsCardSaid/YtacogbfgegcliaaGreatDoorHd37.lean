/-
  The document's way with values along a path, and what the program is told of it. Rows of the document's values: longer, shorter, one of them another.
-/
import Derived.Test.YtacogbfgegcliaaGreatDoorHd36
import Derived.Test.YtacogbfgegcliaaGreatDoorHd23
import Derived.Test.YtacogbfgegcliaaGreatDoorHd3
namespace Go.Proofs.YtacogbfgegcliaaGreatDoor
open Go.RowKit Go.TL
set_option maxRecDepth 100000

def getD : List (List UInt8) → DV → Option DV
  | [], x => some x
  | s :: r, .mk k _ _ _ items names => ((atD k items names s).bind (items[·]?)).bind (getD r)
def dropD : List (List UInt8) → DV → Option DV
  | [], _ => none
  | s :: r, .mk k b n t items names => match atD k items names s with
    | some i => (match items[i]? with
      | some z => if r = [] then some (.mk k b n t (items.eraseIdx i) (if k = 5 then names.eraseIdx i else names)) else (dropD r z).map fun w => .mk k b n t (items.set i w) names
      | none => none)
    | none => none
theorem dropJ_flat {k : Int} (h4 : k ≠ 4) (h5 : k ≠ 5) (b : Bool) (n : Int) (t : List UInt8) (items : List DV) (names : List (List UInt8)) (s : List UInt8) (r : List (List UInt8)) : dropJ (s :: r) (toJ (.mk k b n t items names)) = none := by
  rw [toJ_eq, if_neg h4, if_neg h5]
  repeat' split
  all_goals rfl
theorem toJ_set (l : List DV) (i : Nat) (w : DV) : (l.set i w).map toJ = (l.map toJ).set i (toJ w) := List.map_set ..
theorem toJ_erase : ∀ (l : List DV) (i : Nat), (l.eraseIdx i).map toJ = (l.map toJ).eraseIdx i
  | [], _ => rfl
  | x :: r, 0 => rfl
  | x :: r, i + 1 => by
    show toJ x :: (r.eraseIdx i).map toJ = toJ x :: (r.map toJ).eraseIdx i
    rw [toJ_erase r i]
theorem drop_toJ : ∀ (l : List (List UInt8)) (x : DV), dropJ l (toJ x) = (dropD l x).map toJ
  | [], x => by rw [dropJ, dropD]; rfl
  | s :: r, .mk k b n t items names => by
    rw [dropD]
    by_cases h5 : k = 5
    · subst h5
      rw [toJ_obj rfl, dropJ, atD, if_pos rfl]
      cases hi : idxN names s with
      | none => rfl
      | some i =>
        dsimp only
        rw [List.getElem?_map]
        cases hx : items[i]? with
        | none => rfl
        | some z =>
          dsimp only [Option.map_some]
          by_cases hr : r = []
          · rw [if_pos hr, if_pos hr]
            show _ = some (toJ _)
            rw [toJ_obj rfl, if_pos rfl, toJ_erase]
          · rw [if_neg hr, if_neg hr, drop_toJ r z, Option.map_map, Option.map_map]
            congr 1
            funext w
            show _ = toJ _
            rw [toJ_obj rfl, toJ_set]; rfl
    · by_cases h4 : k = 4
      · subst h4
        rw [toJ_list rfl, dropJ, atD, if_neg (by decide), if_pos rfl]
        cases hi : itemL s with
        | none => rfl
        | some i =>
          dsimp only
          rw [List.getElem?_map, Option.bind_some]
          by_cases hlt : i < items.length
          · rw [if_pos hlt]
            obtain ⟨z, hx⟩ : ∃ z, items[i]? = some z := ⟨_, List.getElem?_eq_getElem hlt⟩
            rw [hx]
            dsimp only [Option.map_some]
            rw [hx]
            dsimp only
            by_cases hr : r = []
            · rw [if_pos hr, if_pos hr]
              show _ = some (toJ _)
              rw [toJ_list rfl, toJ_erase]
            · rw [if_neg hr, if_neg hr, drop_toJ r z, Option.map_map, Option.map_map]
              congr 1
              funext w
              show _ = toJ _
              rw [toJ_list rfl, toJ_set]; rfl
          · rw [if_neg hlt, List.getElem?_eq_none (Nat.le_of_not_lt hlt)]; rfl
      · rw [dropJ_flat h4 h5, atD, if_neg h5, if_neg h4]; rfl
end Go.Proofs.YtacogbfgegcliaaGreatDoor
namespace Go.Proofs.YtacogbfgegcliaaGreatDoor
open Go.RowKit Go.TL
set_option maxRecDepth 100000

theorem IsV.ones {g : Gh} {x : DV} {cs : List Value} (h : IsV g x cs) : cs.all Value.one = true := by
  obtain ⟨k, b, n, s, items, names⟩ := x
  rw [IsV] at h
  obtain ⟨vi, vn, flat, rfl, _, _, _, h1, _, _, h2, _⟩ := h
  obtain ⟨a, c, rfl⟩ := h1.slice
  obtain ⟨a2, c2, rfl⟩ := h2.slice
  rfl
theorem IsVs.len {g : Gh} : ∀ {l : List DV} {flat : List Value}, IsVs g l flat → flat.length = l.length * 6
  | [], _, h => by rw [IsVs] at h; subst h; rfl
  | x :: r, _, h => by
    rw [IsVs] at h
    obtain ⟨cs, fl, rfl, h1, h2⟩ := h
    rw [List.length_append, h1.len, h2.len, List.length_cons]; omega
theorem IsVs.ones {g : Gh} : ∀ {l : List DV} {flat : List Value}, IsVs g l flat → flat.all Value.one = true
  | [], _, h => by rw [IsVs] at h; subst h; rfl
  | x :: r, _, h => by
    rw [IsVs] at h
    obtain ⟨cs, fl, rfl, h1, h2⟩ := h
    rw [List.all_append, h1.ones, h2.ones]; rfl
theorem IsVs.append {g : Gh} {m : List DV} {fm : List Value} (hm : IsVs g m fm) : ∀ {l : List DV} {flat : List Value}, IsVs g l flat → IsVs g (l ++ m) (flat ++ fm)
  | [], _, h => by rw [IsVs] at h; subst h; exact hm
  | x :: r, _, h => by
    rw [IsVs] at h
    obtain ⟨cs, fl, rfl, h1, h2⟩ := h
    rw [List.cons_append, IsVs]
    exact ⟨cs, fl ++ fm, List.append_assoc .., h1, IsVs.append hm h2⟩
theorem IsVs.one {g : Gh} {x : DV} {cs : List Value} (h : IsV g x cs) : IsVs g [x] cs := by
  rw [IsVs]; exact ⟨cs, [], (List.append_nil _).symm, h, by rw [IsVs]⟩
theorem IsVs.take {g : Gh} : ∀ {l : List DV} {flat : List Value} (i : Nat), IsVs g l flat → IsVs g (l.take i) (flat.take (i * 6))
  | [], _, i, h => by rw [IsVs] at h; subst h; rw [List.take_nil, List.take_nil, IsVs]
  | x :: r, _, 0, h => by rw [Nat.zero_mul, List.take_zero, List.take_zero, IsVs]
  | x :: r, _, i + 1, h => by
    rw [IsVs] at h
    obtain ⟨cs, fl, rfl, h1, h2⟩ := h
    have hl := h1.len
    rw [List.take_succ_cons, IsVs]
    refine ⟨cs, fl.take (i * 6), ?_, h1, IsVs.take i h2⟩
    rw [List.take_append, List.take_of_length_le (by omega), show (i + 1) * 6 - cs.length = i * 6 by omega]
theorem IsVs.drop {g : Gh} : ∀ {l : List DV} {flat : List Value} (i : Nat), IsVs g l flat → IsVs g (l.drop i) (flat.drop (i * 6))
  | [], _, i, h => by rw [IsVs] at h; subst h; rw [List.drop_nil, List.drop_nil, IsVs]
  | x :: r, _, 0, h => by rw [Nat.zero_mul, List.drop_zero, List.drop_zero]; exact h
  | x :: r, _, i + 1, h => by
    rw [IsVs] at h
    obtain ⟨cs, fl, rfl, h1, h2⟩ := h
    have hl := h1.len
    rw [List.drop_succ_cons, List.drop_append, List.drop_eq_nil_of_le (show cs.length ≤ (i + 1) * 6 by omega), List.nil_append, show (i + 1) * 6 - cs.length = i * 6 by omega]
    exact IsVs.drop i h2
theorem IsVs.set {g : Gh} {l : List DV} {flat : List Value} {i : Nat} {y : DV} {us : List Value} (h : IsVs g l flat) (hy : IsV g y us) (hi : i < l.length) : IsVs g (l.set i y) (flat.take (i * 6) ++ (us ++ flat.drop (i * 6 + 6))) := by
  rw [List.set_eq_take_append_cons_drop, if_pos hi]
  refine .append ?_ (h.take i)
  have h2 := h.drop (i + 1)
  rw [show (i + 1) * 6 = i * 6 + 6 by omega] at h2
  exact .append h2 (.one hy)
theorem IsVs.erase {g : Gh} {l : List DV} {flat : List Value} (h : IsVs g l flat) (i : Nat) : IsVs g (l.eraseIdx i) (flat.take (i * 6) ++ flat.drop (i * 6 + 6)) := by
  rw [List.eraseIdx_eq_take_drop_succ]
  refine .append ?_ (h.take i)
  have h2 := h.drop (i + 1)
  rwa [show (i + 1) * 6 = i * 6 + 6 by omega] at h2
theorem strs_one (l : List (List UInt8)) : (strs l).all Value.one = true := by
  unfold strs
  rw [List.all_map]
  exact List.all_eq_true.2 fun _ _ => rfl
theorem strs_app (a b : List (List UInt8)) : strs (a ++ b) = strs a ++ strs b := by unfold strs; exact List.map_append
theorem IsV.form {g : Gh} {x : DV} {cs : List Value} (h : IsV g x cs) : ∃ k b n s ai ni ci an nn cn, cs = [.int .i64 k, .bool b, .int .i64 n, str s, .slice ai ni ci, .slice an nn cn] := by
  obtain ⟨k, b, n, s, items, names⟩ := x
  rw [IsV] at h
  obtain ⟨vi, vn, flat, rfl, _, _, _, h1, _, _, h2, _⟩ := h
  obtain ⟨a, c, rfl⟩ := h1.slice
  obtain ⟨a2, c2, rfl⟩ := h2.slice
  exact ⟨_, _, _, _, _, _, _, _, _, _, rfl⟩
/-! ### How great -/
theorem wfN_drop : ∀ (l : List (List UInt8)) (x z : DV) (m : Nat), wfN m x → dropD l x = some z → wfN m z
  | [], x, z, m, _, h => by rw [dropD] at h; cases h
  | s :: r, .mk k b n t items names, z, m, hx, h => by
    rw [wfN] at hx
    obtain ⟨x1, x2, x3, x4⟩ := hx
    rw [dropD] at h
    split at h
    · rename_i i hi
      split at h
      · rename_i z0 hz0
        have hk : k = 4 ∨ k = 5 := by
          unfold atD at hi
          split at hi
          · exact .inr ‹_›
          · split at hi
            · exact .inl ‹_›
            · cases hi
        split at h
        · obtain rfl := Option.some.inj h
          have hle : (items.eraseIdx i).length ≤ m := Nat.le_trans (List.length_eraseIdx_le ..) x2
          rw [wfN]
          refine ⟨x1, hle, fun h5 => ?_, fun _ => (x4 hk).erase⟩
          obtain ⟨z1, z2⟩ := x3 h5
          rw [if_pos h5]
          refine ⟨?_, fun u hu => z2 u (List.mem_of_mem_eraseIdx hu)⟩
          rw [List.length_eraseIdx, List.length_eraseIdx, z1]
        · obtain ⟨w, hw, rfl⟩ := Option.map_eq_some_iff.1 h
          have h1 := wfN_drop r z0 w m ((x4 hk).get hz0) hw
          rw [wfN, List.length_set]
          exact ⟨x1, x2, x3, fun _ => (x4 hk).set h1⟩
      · cases h
    · cases h
end Go.Proofs.YtacogbfgegcliaaGreatDoor
