/-
  The document's way with values along a path, and what the program is told of it. Rows of the document's values: longer, shorter, one of them another.
-/
import Derived.Test.YtacogbfgegcliaaGreatDoorHp34
import Derived.Test.YtacogbfgegcliaaGreatDoorHp22
import Derived.Test.YtacogbfgegcliaaGreatDoorHp3
namespace Go.Proofs.YtacogbfgegcliaaGreatDoor
open Go.RowKit Go.TL
set_option maxRecDepth 100000

def getD : List (List UInt8) → DV → Option DV
  | [], x => some x
  | s :: r, .mk k _ _ _ items names => ((atD k items names s).bind (items[·]?)).bind (getD r)
def noneD : DV := .mk 5 false 0 [] [] []
def putD : List (List UInt8) → DV → DV → Option DV
  | [], _, y => some y
  | s :: r, .mk k b n t items names, y => if k = 4 ∨ k = 5 then (match atD k items names s with
      | some i => (match items[i]? with
        | some z => (putD r z y).map fun w => .mk k b n t (items.set i w) names
        | none => none)
      | none => if k = 4 ∧ itemD s ≠ (items.length : Int) then none else (putD r noneD y).map fun w => .mk k b n t (items ++ [w]) (if k = 5 then names ++ [s] else names))
    else none
theorem putJ_flat {k : Int} (h4 : k ≠ 4) (h5 : k ≠ 5) (b : Bool) (n : Int) (t : List UInt8) (items : List DV) (names : List (List UInt8)) (s : List UInt8) (r : List (List UInt8)) (y : J) : putJ (s :: r) (toJ (.mk k b n t items names)) y = none := by
  rw [toJ_eq, if_neg h4, if_neg h5]
  repeat' split
  all_goals rfl
theorem toJ_noneD : toJ noneD = .obj [] [] := toJ_obj rfl ..
theorem toJ_set (l : List DV) (i : Nat) (w : DV) : (l.set i w).map toJ = (l.map toJ).set i (toJ w) := List.map_set ..
theorem put_toJ : ∀ (l : List (List UInt8)) (x y : DV), (∀ s ∈ l, s ≠ []) → wfV x → putJ l (toJ x) (toJ y) = (putD l x y).map toJ
  | [], x, y, _, _ => rfl
  | s :: r, .mk k b n t items names, y, hl, hw => by
    have hr : ∀ s ∈ r, s ≠ [] := fun s hs => hl s (List.mem_cons_of_mem _ hs)
    rw [wfV] at hw
    obtain ⟨_, hil, _, hws⟩ := hw
    rw [putD]
    by_cases h5 : k = 5
    · subst h5
      rw [if_pos (.inr rfl), toJ_obj rfl, putJ, atD, if_pos rfl]
      cases hi : idxN names s with
      | none =>
        dsimp only
        rw [if_neg (fun h => absurd h.1 (by decide)), ← toJ_noneD, put_toJ r noneD y hr (by unfold noneD; rw [wfV]; exact ⟨by simp, by simp, fun _ => ⟨rfl, fun x hx => by cases hx⟩, fun _ => by rw [wfVs]; trivial⟩), Option.map_map, Option.map_map]
        congr 1
        funext w
        show _ = toJ _
        rw [toJ_obj rfl]
        simp
      | some i =>
        dsimp only
        rw [List.getElem?_map]
        cases hx : items[i]? with
        | none => rfl
        | some z =>
          dsimp only [Option.map_some]
          rw [put_toJ r z y hr (wfVs.get (hws (.inr rfl)) hx), Option.map_map, Option.map_map]
          congr 1
          funext w
          show _ = toJ _
          rw [toJ_obj rfl, toJ_set]; rfl
    · by_cases h4 : k = 4
      · subst h4
        rw [if_pos (.inl rfl), toJ_list rfl, putJ, atD, if_neg (by decide), if_pos rfl]
        have he := itemD_eq (hl s List.mem_cons_self)
        cases hi : itemL s with
        | none =>
          rw [hi] at he
          dsimp only at he ⊢
          rw [Option.bind_none]
          dsimp only
          rw [if_pos ⟨rfl, by omega⟩]; rfl
        | some i =>
          rw [hi] at he
          dsimp only at he ⊢
          rw [List.getElem?_map, Option.bind_some]
          by_cases hlt : i < items.length
          · rw [if_pos hlt]
            obtain ⟨z, hx⟩ : ∃ z, items[i]? = some z := ⟨_, List.getElem?_eq_getElem hlt⟩
            rw [hx]
            dsimp only [Option.map_some]
            rw [hx]
            dsimp only
            rw [put_toJ r z y hr (wfVs.get (hws (.inl rfl)) hx), Option.map_map, Option.map_map]
            congr 1
            funext w
            show _ = toJ _
            rw [toJ_list rfl, toJ_set]; rfl
          · rw [if_neg hlt, List.getElem?_eq_none (Nat.le_of_not_lt hlt)]
            dsimp only [Option.map_none]
            rw [List.length_map]
            by_cases e : i = items.length
            · rw [if_pos e, if_neg (fun h => h.2 (by rw [he, if_pos (by omega), e])), ← toJ_noneD, put_toJ r noneD y hr (by unfold noneD; rw [wfV]; exact ⟨by simp, by simp, fun _ => ⟨rfl, fun x hx => by cases hx⟩, fun _ => by rw [wfVs]; trivial⟩), Option.map_map, Option.map_map]
              congr 1
              funext w
              show _ = toJ _
              rw [toJ_list rfl]
              simp
            · rw [if_neg e, if_pos ⟨rfl, by rw [he]; split <;> omega⟩]; rfl
      · rw [if_neg (fun h => h.elim h4 h5), putJ_flat h4 h5]; rfl
end Go.Proofs.YtacogbfgegcliaaGreatDoor
namespace Go.Proofs.YtacogbfgegcliaaGreatDoor
open Go.RowKit Go.TL
set_option maxRecDepth 100000

theorem IsV.ones {g : Gh} {x : DV} {cs : List Value} (h : IsV g x cs) : cs.all Value.one = true := by
  obtain ⟨k, b, n, s, items, names⟩ := x
  rw [IsV] at h
  obtain ⟨vi, vn, flat, rfl, _, _, _, h1, _, _, h2, _⟩ := h
  obtain ⟨a, c, rfl⟩ := h1.slice
  obtain ⟨a2, c2, rfl⟩ := h2.slice
  rfl
theorem IsVs.len {g : Gh} : ∀ {l : List DV} {flat : List Value}, IsVs g l flat → flat.length = l.length * 6
  | [], _, h => by rw [IsVs] at h; subst h; rfl
  | x :: r, _, h => by
    rw [IsVs] at h
    obtain ⟨cs, fl, rfl, h1, h2⟩ := h
    rw [List.length_append, h1.len, h2.len, List.length_cons]; omega
theorem IsVs.ones {g : Gh} : ∀ {l : List DV} {flat : List Value}, IsVs g l flat → flat.all Value.one = true
  | [], _, h => by rw [IsVs] at h; subst h; rfl
  | x :: r, _, h => by
    rw [IsVs] at h
    obtain ⟨cs, fl, rfl, h1, h2⟩ := h
    rw [List.all_append, h1.ones, h2.ones]; rfl
theorem IsVs.append {g : Gh} {m : List DV} {fm : List Value} (hm : IsVs g m fm) : ∀ {l : List DV} {flat : List Value}, IsVs g l flat → IsVs g (l ++ m) (flat ++ fm)
  | [], _, h => by rw [IsVs] at h; subst h; exact hm
  | x :: r, _, h => by
    rw [IsVs] at h
    obtain ⟨cs, fl, rfl, h1, h2⟩ := h
    rw [List.cons_append, IsVs]
    exact ⟨cs, fl ++ fm, List.append_assoc .., h1, IsVs.append hm h2⟩
theorem IsVs.one {g : Gh} {x : DV} {cs : List Value} (h : IsV g x cs) : IsVs g [x] cs := by
  rw [IsVs]; exact ⟨cs, [], (List.append_nil _).symm, h, by rw [IsVs]⟩
theorem IsVs.take {g : Gh} : ∀ {l : List DV} {flat : List Value} (i : Nat), IsVs g l flat → IsVs g (l.take i) (flat.take (i * 6))
  | [], _, i, h => by rw [IsVs] at h; subst h; rw [List.take_nil, List.take_nil, IsVs]
  | x :: r, _, 0, h => by rw [Nat.zero_mul, List.take_zero, List.take_zero, IsVs]
  | x :: r, _, i + 1, h => by
    rw [IsVs] at h
    obtain ⟨cs, fl, rfl, h1, h2⟩ := h
    have hl := h1.len
    rw [List.take_succ_cons, IsVs]
    refine ⟨cs, fl.take (i * 6), ?_, h1, IsVs.take i h2⟩
    rw [List.take_append, List.take_of_length_le (by omega), show (i + 1) * 6 - cs.length = i * 6 by omega]
theorem IsVs.drop {g : Gh} : ∀ {l : List DV} {flat : List Value} (i : Nat), IsVs g l flat → IsVs g (l.drop i) (flat.drop (i * 6))
  | [], _, i, h => by rw [IsVs] at h; subst h; rw [List.drop_nil, List.drop_nil, IsVs]
  | x :: r, _, 0, h => by rw [Nat.zero_mul, List.drop_zero, List.drop_zero]; exact h
  | x :: r, _, i + 1, h => by
    rw [IsVs] at h
    obtain ⟨cs, fl, rfl, h1, h2⟩ := h
    have hl := h1.len
    rw [List.drop_succ_cons, List.drop_append, List.drop_eq_nil_of_le (show cs.length ≤ (i + 1) * 6 by omega), List.nil_append, show (i + 1) * 6 - cs.length = i * 6 by omega]
    exact IsVs.drop i h2
theorem IsVs.set {g : Gh} {l : List DV} {flat : List Value} {i : Nat} {y : DV} {us : List Value} (h : IsVs g l flat) (hy : IsV g y us) (hi : i < l.length) : IsVs g (l.set i y) (flat.take (i * 6) ++ (us ++ flat.drop (i * 6 + 6))) := by
  rw [List.set_eq_take_append_cons_drop, if_pos hi]
  refine .append ?_ (h.take i)
  have h2 := h.drop (i + 1)
  rw [show (i + 1) * 6 = i * 6 + 6 by omega] at h2
  exact .append h2 (.one hy)
theorem strs_one (l : List (List UInt8)) : (strs l).all Value.one = true := by
  unfold strs
  rw [List.all_map]
  exact List.all_eq_true.2 fun _ _ => rfl
theorem strs_len6 (l : List (List UInt8)) : (strs l).length = l.length := by unfold strs; exact List.length_map ..
theorem strs_app (a b : List (List UInt8)) : strs (a ++ b) = strs a ++ strs b := by unfold strs; exact List.map_append
theorem IsV.form {g : Gh} {x : DV} {cs : List Value} (h : IsV g x cs) : ∃ k b n s ai ni ci an nn cn, cs = [.int .i64 k, .bool b, .int .i64 n, str s, .slice ai ni ci, .slice an nn cn] := by
  obtain ⟨k, b, n, s, items, names⟩ := x
  rw [IsV] at h
  obtain ⟨vi, vn, flat, rfl, _, _, _, h1, _, _, h2, _⟩ := h
  obtain ⟨a, c, rfl⟩ := h1.slice
  obtain ⟨a2, c2, rfl⟩ := h2.slice
  exact ⟨_, _, _, _, _, _, _, _, _, _, rfl⟩
/-! ### How great -/
theorem wfN_noneD (m : Nat) : wfN m noneD := by
  unfold noneD
  rw [wfN]
  exact ⟨Nat.zero_le _, Nat.zero_le _, fun _ => ⟨rfl, fun x hx => by cases hx⟩, fun _ => by rw [wfNs]; trivial⟩
theorem wfN_put : ∀ (l : List (List UInt8)) (x y z : DV) (m : Nat), (∀ s ∈ l, s.length ≤ m) → wfN m x → wfN m y → putD l x y = some z → wfN (m + 1) z
  | [], x, y, z, m, _, _, hy, h => by
    rw [putD] at h
    obtain rfl := Option.some.inj h
    exact wfN_up _ _ _ hy (Nat.le_succ _)
  | s :: r, .mk k b n t items names, y, z, m, hl, hx, hy, h => by
    have hr : ∀ s ∈ r, s.length ≤ m := fun s hs => hl s (List.mem_cons_of_mem _ hs)
    have hx2 := wfN_up _ _ _ hx (Nat.le_succ m)
    rw [wfN] at hx hx2
    obtain ⟨x1, x2, x3, x4⟩ := hx
    obtain ⟨y1, y2, y3, y4⟩ := hx2
    rw [putD] at h
    split at h
    · rename_i hk
      split at h
      · split at h
        · rename_i i _ z0 hz0
          obtain ⟨w, hw, rfl⟩ := Option.map_eq_some_iff.1 h
          have h1 := wfN_put r z0 y w m hr ((x4 hk).get hz0) hy hw
          rw [wfN, List.length_set]
          exact ⟨y1, y2, y3, fun _ => (y4 hk).set h1⟩
        · cases h
      · split at h
        · cases h
        · obtain ⟨w, hw, rfl⟩ := Option.map_eq_some_iff.1 h
          have h1 := wfN_put r noneD y w m hr (wfN_noneD m) hy hw
          rw [wfN, List.length_append, List.length_singleton]
          refine ⟨y1, by omega, fun h5 => ?_, fun _ => (y4 hk).snoc h1⟩
          obtain ⟨z1, z2⟩ := x3 h5
          rw [if_pos h5]
          refine ⟨by rw [List.length_append, List.length_singleton, z1], fun u hu => ?_⟩
          rcases List.mem_append.1 hu with hu | hu
          · exact Nat.le_succ_of_le (z2 u hu)
          · rw [List.mem_singleton.1 hu]
            exact Nat.le_succ_of_le (hl s List.mem_cons_self)
    · cases h
end Go.Proofs.YtacogbfgegcliaaGreatDoor
