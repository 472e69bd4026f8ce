/-
  What was put is what the path leads to; elsewhere nothing turns; all paths lead to something, each told once. What Put and Drop tell; a value is like itself. The document's way with values along a path, and what the program is told of it. The walk of the document's Get. The walk of path.item.
-/
import Derived.Test.YthngolfabfijpaaGreatDoorHd10
import Derived.Test.YthngolfabfijpaaGreatDoorHd8
import Derived.Test.YthngolfabfijpaaGreatDoorHd2
import Derived.Lib.AtoiErrMem
import Derived.Lib.AppendIntMem
namespace Go.Proofs.YthngolfabfijpaaGreatDoor
open Go.RowKit Go.TL

theorem get_obj {ns : List (List UInt8)} {xs : List J} {s : List UInt8} {r : List (List UInt8)} : getJ (s :: r) (.obj ns xs) = ((idxN ns s).bind (xs[·]?)).bind (getJ r) := rfl
theorem get_list {xs : List J} {s : List UInt8} {r : List (List UInt8)} : getJ (s :: r) (.list xs) = ((itemL s).bind (xs[·]?)).bind (getJ r) := rfl
theorem lenJs_get : ∀ {l : List J} {i : Nat} {x : J}, lenJs l → l[i]? = some x → lenJ x
  | [], _, _, _, h => by simp at h
  | y :: r, 0, x, hs, h => by
    rw [lenJs] at hs
    obtain rfl : y = x := by simpa using h
    exact hs.1
  | y :: r, i + 1, x, hs, h => by
    rw [lenJs] at hs
    exact lenJs_get (l := r) (i := i) hs.2 (by simpa using h)
theorem drop_some : ∀ (l : List (List UInt8)) (z y : J), l ≠ [] → getJ l z = some y → ∃ w, dropJ l z = some w
  | [], z, y, h, _ => absurd rfl h
  | s :: r, z, y, _, h => by
    cases z with
    | obj ns xs =>
      rw [get_obj] at h
      obtain ⟨u, hu, h⟩ := Option.bind_eq_some_iff.1 h
      obtain ⟨i, hi, hu⟩ := Option.bind_eq_some_iff.1 hu
      rw [dropJ, hi]
      simp only [hu]
      by_cases hr : r = []
      · rw [if_pos hr]; exact ⟨_, rfl⟩
      · obtain ⟨w, hw⟩ := drop_some r u y hr h
        rw [if_neg hr, hw]; exact ⟨_, rfl⟩
    | list xs =>
      rw [get_list] at h
      obtain ⟨u, hu, h⟩ := Option.bind_eq_some_iff.1 h
      obtain ⟨i, hi, hu⟩ := Option.bind_eq_some_iff.1 hu
      rw [dropJ, hi]
      simp only [hu]
      by_cases hr : r = []
      · rw [if_pos hr]; exact ⟨_, rfl⟩
      · obtain ⟨w, hw⟩ := drop_some r u y hr h
        rw [if_neg hr, hw]; exact ⟨_, rfl⟩
    | _ => cases h
/-! ### Steps and texts -/
end Go.Proofs.YthngolfabfijpaaGreatDoor
namespace Go.Proofs.YthngolfabfijpaaGreatDoor
open Go.RowKit Go.TL

mutual
theorem same_refl : ∀ (x : J), okJ x → sameJ x x = true
  | .null, _ => by rw [sameJ]
  | .bool _, _ => by rw [sameJ]; simp
  | .num _, _ => by rw [sameJ]; simp
  | .text _, _ => by rw [sameJ]; simp
  | .list xs, h => by
    rw [okJ] at h
    rw [sameJ, sames_refl xs h]; simp
  | .obj ns xs, h => by
    rw [okJ] at h
    rw [sameJ, sameo_refl ns xs h.1 h.2.2.2]; simp
  | .other _, h => by rw [okJ] at h; exact h.elim
theorem sames_refl : ∀ (l : List J), okJs l → sames l l = true
  | [], _ => by rw [sames]; intros; simp_all
  | x :: r, h => by
    rw [okJs] at h
    rw [sames, same_refl x h.1, sames_refl r h.2]; rfl
theorem sameo_refl : ∀ (ns : List (List UInt8)) (l : List J), ns.length = l.length → okJs l → sameo ns l ns l = true
  | ns, [], hn, _ => by
    obtain rfl : ns = [] := List.eq_nil_of_length_eq_zero hn
    rw [sameo]; intros; simp_all
  | [], _ :: _, hn, _ => by simp at hn
  | n :: ns, x :: r, hn, h => by
    rw [okJs] at h
    rw [sameo, same_refl x h.1, sameo_refl ns r (by simpa using hn) h.2]; simp
end
def putE (x : J) (p : List UInt8) (y : J) : Nat × Option J := match stepsL p with
  | none => (16, none)
  | some l => if lookJ x 0 ≠ 0 then (lookJ x 0, none) else if lookJ y 0 ≠ 0 then (lookJ y 0, none) else match putJ l x y with
    | none => (14, none)
    | some z => if lookJ z 0 ≠ 0 then (lookJ z 0, none) else (0, some z)
def dropE (x : J) (p : List UInt8) : Nat × Option J := match stepsL p with
  | none => (16, none)
  | some l => if lookJ x 0 ≠ 0 then (lookJ x 0, none) else match dropJ l x with
    | none => (7, none)
    | some z => (0, some z)
theorem put_ok {l : List (List UInt8)} {p : List UInt8} {x y z : J} (hp : stepsL p = some l) (lx : lenJ x) (ly : lenJ y) (hx : lookJ x 0 = 0) (hy : lookJ y 0 = 0) (h : putJ l x y = some z) : okJ z :=
  ok_put l x y z (fun s hs => ((stepsL_some hp).2.2.2.2 s hs).2.2) (ok_of_look x 0 hx lx).1 (ok_of_look y 0 hy ly).1 h
theorem look_ok0 {z : J} (h : okJ z) : lookJ z 0 = if depJ z ≤ 32 then 0 else 10 := by
  rw [look_of_ok z 0 h]
  split <;> split <;> first | rfl | omega
theorem drop_ok {l : List (List UInt8)} {x z : J} (lx : lenJ x) (hx : lookJ x 0 = 0) (h : dropJ l x = some z) : okJ z := ok_drop l x z (ok_of_look x 0 hx lx).1 h
mutual
theorem dep_set : ∀ (l : List J) (i : Nat) (y z : J), l[i]? = some y → depJ z ≤ depJ y → depJs (l.set i z) ≤ depJs l
  | [], _, _, _, h, _ => by simp at h
  | x :: r, 0, y, z, h, hz => by
    obtain rfl : x = y := by simpa using h
    rw [List.set_cons_zero, depJs, depJs]; omega
  | x :: r, i + 1, y, z, h, hz => by
    have := dep_set r i y z (by simpa using h) hz
    rw [List.set_cons_succ, depJs, depJs]; omega
end
theorem dep_erase : ∀ (l : List J) (i : Nat), depJs (l.eraseIdx i) ≤ depJs l
  | [], _ => by rw [List.eraseIdx_nil]; exact Nat.le_refl _
  | x :: r, 0 => by rw [List.eraseIdx_cons_zero, depJs]; omega
  | x :: r, i + 1 => by
    have := dep_erase r i
    rw [List.eraseIdx_cons_succ, depJs, depJs]; omega
theorem dep_drop : ∀ (l : List (List UInt8)) (x z : J), dropJ l x = some z → depJ z ≤ depJ x
  | [], x, z, h => by rw [dropJ] at h; cases h
  | s :: r, x, z, h => by
    have IH := fun x z => dep_drop r x z
    cases x with
    | obj ns xs =>
      rw [dropJ] at h
      split at h
      · split at h
        · rename_i y hy
          split at h
          · obtain rfl := Option.some.inj h
            rw [depJ, depJ]; have := dep_erase xs (by assumption); omega
          · obtain ⟨w, hw, rfl⟩ := Option.map_eq_some_iff.1 h
            rw [depJ, depJ]
            have := dep_set _ _ _ _ hy (IH _ _ hw)
            omega
        · cases h
      · cases h
    | list xs =>
      rw [dropJ] at h
      split at h
      · cases h
      · split at h
        · rename_i y hy
          split at h
          · obtain rfl := Option.some.inj h
            rw [depJ, depJ]; have := dep_erase xs (by assumption); omega
          · obtain ⟨w, hw, rfl⟩ := Option.map_eq_some_iff.1 h
            rw [depJ, depJ]
            have := dep_set _ _ _ _ hy (IH _ _ hw)
            omega
        · cases h
    | _ => rw [dropJ] at h <;> first | cases h | (intros; simp)
theorem drop_look {l : List (List UInt8)} {x z : J} (lx : lenJ x) (hx : lookJ x 0 = 0) (h : dropJ l x = some z) : lookJ z 0 = 0 := by
  have h1 := ok_of_look x 0 hx lx
  have h2 := dep_drop l x z h
  rw [look_ok0 (drop_ok lx hx h), if_pos (by omega)]
theorem putE_some {x y z : J} {p : List UInt8} {e : Nat} (h : putE x p y = (e, some z)) : e = 0 ∧ ∃ l, stepsL p = some l ∧ lookJ x 0 = 0 ∧ lookJ y 0 = 0 ∧ putJ l x y = some z ∧ lookJ z 0 = 0 := by
  unfold putE at h
  split at h
  · cases h
  · rename_i l hl
    split at h
    · cases h
    split at h
    · cases h
    split at h
    · cases h
    · rename_i z' hz
      split at h
      · cases h
      · obtain ⟨rfl, h2⟩ := Prod.mk.inj h
        obtain rfl := Option.some.inj h2
        exact ⟨rfl, l, hl, by omega, by omega, hz, by omega⟩
theorem putE_none {x y : J} {p : List UInt8} {e : Nat} (h : putE x p y = (e, none)) : e ≠ 0 := by
  unfold putE at h
  split at h
  · obtain ⟨rfl, _⟩ := Prod.mk.inj h; decide
  · split at h
    · obtain ⟨rfl, _⟩ := Prod.mk.inj h; assumption
    split at h
    · obtain ⟨rfl, _⟩ := Prod.mk.inj h; assumption
    split at h
    · obtain ⟨rfl, _⟩ := Prod.mk.inj h; decide
    · split at h
      · obtain ⟨rfl, _⟩ := Prod.mk.inj h; assumption
      · cases h
theorem dropE_some {x z : J} {p : List UInt8} {e : Nat} (h : dropE x p = (e, some z)) : e = 0 ∧ ∃ l, stepsL p = some l ∧ lookJ x 0 = 0 ∧ dropJ l x = some z := by
  unfold dropE at h
  split at h
  · cases h
  · rename_i l hl
    split at h
    · cases h
    split at h
    · cases h
    · rename_i z' hz
      obtain ⟨rfl, h2⟩ := Prod.mk.inj h
      obtain rfl := Option.some.inj h2
      exact ⟨rfl, l, hl, by omega, hz⟩
end Go.Proofs.YthngolfabfijpaaGreatDoor
namespace Go.Proofs.YthngolfabfijpaaGreatDoor
open Go.RowKit Go.TL
set_option maxRecDepth 100000

theorem nextJ_flat {k : Int} (h4 : k ≠ 4) (h5 : k ≠ 5) (b : Bool) (n : Int) (t : List UInt8) (items : List DV) (names : List (List UInt8)) (s : List UInt8) : nextJ (toJ (.mk k b n t items names)) s = none := by
  rw [toJ_eq, if_neg h4, if_neg h5]
  repeat' split
  all_goals rfl
theorem next_toJ (k : Int) (b : Bool) (n : Int) (t : List UInt8) (items : List DV) (names : List (List UInt8)) (s : List UInt8) : nextJ (toJ (.mk k b n t items names)) s = ((atD k items names s).bind (items[·]?)).map toJ := by
  unfold atD
  by_cases h5 : k = 5
  · subst h5
    rw [toJ_obj rfl, if_pos rfl]
    show (idxN names s).bind _ = _
    cases idxN names s with
    | none => rfl
    | some i => exact List.getElem?_map ..
  · rw [if_neg h5]
    by_cases h4 : k = 4
    · subst h4
      rw [toJ_list rfl, if_pos rfl]
      show (itemL s).bind _ = _
      cases itemL s with
      | none => rfl
      | some i =>
        show (items.map toJ)[i]? = _
        rw [List.getElem?_map]
        by_cases hi : i < items.length
        · simp [hi]
        · simp [hi]
    · rw [if_neg h4, nextJ_flat h4 h5]; rfl
def getD : List (List UInt8) → DV → Option DV
  | [], x => some x
  | s :: r, .mk k _ _ _ items names => ((atD k items names s).bind (items[·]?)).bind (getD r)
theorem get_toJ : ∀ (l : List (List UInt8)) (x : DV), getJ l (toJ x) = (getD l x).map toJ
  | [], x => rfl
  | s :: r, .mk k b n t items names => by
    rw [getJ, next_toJ, getD]
    cases (atD k items names s).bind (items[·]?) with
    | none => rfl
    | some y => exact get_toJ r y
def noneD : DV := .mk 5 false 0 [] [] []
def putD : List (List UInt8) → DV → DV → Option DV
  | [], _, y => some y
  | s :: r, .mk k b n t items names, y => if k = 4 ∨ k = 5 then (match atD k items names s with
      | some i => (match items[i]? with
        | some z => (putD r z y).map fun w => .mk k b n t (items.set i w) names
        | none => none)
      | none => if k = 4 ∧ itemD s ≠ (items.length : Int) then none else (putD r noneD y).map fun w => .mk k b n t (items ++ [w]) (if k = 5 then names ++ [s] else names))
    else none
def dropD : List (List UInt8) → DV → Option DV
  | [], _ => none
  | s :: r, .mk k b n t items names => match atD k items names s with
    | some i => (match items[i]? with
      | some z => if r = [] then some (.mk k b n t (items.eraseIdx i) (if k = 5 then names.eraseIdx i else names)) else (dropD r z).map fun w => .mk k b n t (items.set i w) names
      | none => none)
    | none => none
theorem putJ_flat {k : Int} (h4 : k ≠ 4) (h5 : k ≠ 5) (b : Bool) (n : Int) (t : List UInt8) (items : List DV) (names : List (List UInt8)) (s : List UInt8) (r : List (List UInt8)) (y : J) : putJ (s :: r) (toJ (.mk k b n t items names)) y = none := by
  rw [toJ_eq, if_neg h4, if_neg h5]
  repeat' split
  all_goals rfl
theorem dropJ_flat {k : Int} (h4 : k ≠ 4) (h5 : k ≠ 5) (b : Bool) (n : Int) (t : List UInt8) (items : List DV) (names : List (List UInt8)) (s : List UInt8) (r : List (List UInt8)) : dropJ (s :: r) (toJ (.mk k b n t items names)) = none := by
  rw [toJ_eq, if_neg h4, if_neg h5]
  repeat' split
  all_goals rfl
theorem toJ_noneD : toJ noneD = .obj [] [] := toJ_obj rfl ..
theorem toJ_set (l : List DV) (i : Nat) (w : DV) : (l.set i w).map toJ = (l.map toJ).set i (toJ w) := List.map_set ..
theorem toJ_erase : ∀ (l : List DV) (i : Nat), (l.eraseIdx i).map toJ = (l.map toJ).eraseIdx i
  | [], _ => rfl
  | x :: r, 0 => rfl
  | x :: r, i + 1 => by
    show toJ x :: (r.eraseIdx i).map toJ = toJ x :: (r.map toJ).eraseIdx i
    rw [toJ_erase r i]
theorem put_toJ : ∀ (l : List (List UInt8)) (x y : DV), (∀ s ∈ l, s ≠ []) → wfV x → putJ l (toJ x) (toJ y) = (putD l x y).map toJ
  | [], x, y, _, _ => rfl
  | s :: r, .mk k b n t items names, y, hl, hw => by
    have hr : ∀ s ∈ r, s ≠ [] := fun s hs => hl s (List.mem_cons_of_mem _ hs)
    rw [wfV] at hw
    obtain ⟨_, hil, _, hws⟩ := hw
    rw [putD]
    by_cases h5 : k = 5
    · subst h5
      rw [if_pos (.inr rfl), toJ_obj rfl, putJ, atD, if_pos rfl]
      cases hi : idxN names s with
      | none =>
        dsimp only
        rw [if_neg (fun h => absurd h.1 (by decide)), ← toJ_noneD, put_toJ r noneD y hr (by unfold noneD; rw [wfV]; exact ⟨by simp, by simp, fun _ => ⟨rfl, fun x hx => by cases hx⟩, fun _ => by rw [wfVs]; trivial⟩), Option.map_map, Option.map_map]
        congr 1
        funext w
        show _ = toJ _
        rw [toJ_obj rfl]
        simp
      | some i =>
        dsimp only
        rw [List.getElem?_map]
        cases hx : items[i]? with
        | none => rfl
        | some z =>
          dsimp only [Option.map_some]
          rw [put_toJ r z y hr (wfVs.get (hws (.inr rfl)) hx), Option.map_map, Option.map_map]
          congr 1
          funext w
          show _ = toJ _
          rw [toJ_obj rfl, toJ_set]; rfl
    · by_cases h4 : k = 4
      · subst h4
        rw [if_pos (.inl rfl), toJ_list rfl, putJ, atD, if_neg (by decide), if_pos rfl]
        have he := itemD_eq (hl s List.mem_cons_self)
        cases hi : itemL s with
        | none =>
          rw [hi] at he
          dsimp only at he ⊢
          rw [Option.bind_none]
          dsimp only
          rw [if_pos ⟨rfl, by omega⟩]; rfl
        | some i =>
          rw [hi] at he
          dsimp only at he ⊢
          rw [List.getElem?_map, Option.bind_some]
          by_cases hlt : i < items.length
          · rw [if_pos hlt]
            obtain ⟨z, hx⟩ : ∃ z, items[i]? = some z := ⟨_, List.getElem?_eq_getElem hlt⟩
            rw [hx]
            dsimp only [Option.map_some]
            rw [hx]
            dsimp only
            rw [put_toJ r z y hr (wfVs.get (hws (.inl rfl)) hx), Option.map_map, Option.map_map]
            congr 1
            funext w
            show _ = toJ _
            rw [toJ_list rfl, toJ_set]; rfl
          · rw [if_neg hlt, List.getElem?_eq_none (Nat.le_of_not_lt hlt)]
            dsimp only [Option.map_none]
            rw [List.length_map]
            by_cases e : i = items.length
            · rw [if_pos e, if_neg (fun h => h.2 (by rw [he, if_pos (by omega), e])), ← toJ_noneD, put_toJ r noneD y hr (by unfold noneD; rw [wfV]; exact ⟨by simp, by simp, fun _ => ⟨rfl, fun x hx => by cases hx⟩, fun _ => by rw [wfVs]; trivial⟩), Option.map_map, Option.map_map]
              congr 1
              funext w
              show _ = toJ _
              rw [toJ_list rfl]
              simp
            · rw [if_neg e, if_pos ⟨rfl, by rw [he]; split <;> omega⟩]; rfl
      · rw [if_neg (fun h => h.elim h4 h5), putJ_flat h4 h5]; rfl
theorem drop_toJ : ∀ (l : List (List UInt8)) (x : DV), dropJ l (toJ x) = (dropD l x).map toJ
  | [], x => by rw [dropJ, dropD]; rfl
  | s :: r, .mk k b n t items names => by
    rw [dropD]
    by_cases h5 : k = 5
    · subst h5
      rw [toJ_obj rfl, dropJ, atD, if_pos rfl]
      cases hi : idxN names s with
      | none => rfl
      | some i =>
        dsimp only
        rw [List.getElem?_map]
        cases hx : items[i]? with
        | none => rfl
        | some z =>
          dsimp only [Option.map_some]
          by_cases hr : r = []
          · rw [if_pos hr, if_pos hr]
            show _ = some (toJ _)
            rw [toJ_obj rfl, if_pos rfl, toJ_erase]
          · rw [if_neg hr, if_neg hr, drop_toJ r z, Option.map_map, Option.map_map]
            congr 1
            funext w
            show _ = toJ _
            rw [toJ_obj rfl, toJ_set]; rfl
    · by_cases h4 : k = 4
      · subst h4
        rw [toJ_list rfl, dropJ, atD, if_neg (by decide), if_pos rfl]
        cases hi : itemL s with
        | none => rfl
        | some i =>
          dsimp only
          rw [List.getElem?_map, Option.bind_some]
          by_cases hlt : i < items.length
          · rw [if_pos hlt]
            obtain ⟨z, hx⟩ : ∃ z, items[i]? = some z := ⟨_, List.getElem?_eq_getElem hlt⟩
            rw [hx]
            dsimp only [Option.map_some]
            rw [hx]
            dsimp only
            by_cases hr : r = []
            · rw [if_pos hr, if_pos hr]
              show _ = some (toJ _)
              rw [toJ_list rfl, toJ_erase]
            · rw [if_neg hr, if_neg hr, drop_toJ r z, Option.map_map, Option.map_map]
              congr 1
              funext w
              show _ = toJ _
              rw [toJ_list rfl, toJ_set]; rfl
          · rw [if_neg hlt, List.getElem?_eq_none (Nat.le_of_not_lt hlt)]; rfl
      · rw [dropJ_flat h4 h5, atD, if_neg h5, if_neg h4]; rfl
end Go.Proofs.YthngolfabfijpaaGreatDoor
namespace Go.Proofs.YthngolfabfijpaaGreatDoor
open Go.RowKit Go.TL
set_option maxRecDepth 100000

def GetDR (o : Option DV) (g : Gh) (L : List Ent) : Ending → Gh → List Ent → Prop := fun e g' L' => ∃ (cs : List Value) (b : Bool), e = .returned (.tuple #[.agg cs.toArray, .bool b]) ∧ g' = g ∧ L' = L ∧ (match o with
  | some z => b = true ∧ IsV g z cs ∧ wfV z
  | none => b = false ∧ cs = [.int .i64 0, .bool false, .int .i64 0, .string ⟨#[]⟩, .slice none 0 0, .slice none 0 0])
theorem at_lt {k : Int} {items : List DV} {names : List (List UInt8)} {s : List UInt8} {j : Nat} (h : atD k items names s = some j) (hn : k = 5 → names.length = items.length) : j < items.length ∧ (k = 4 ∨ k = 5) := by
  unfold atD at h
  split at h
  · rename_i h5
    have := idxN_lt h
    rw [hn h5] at this
    exact ⟨this, .inr h5⟩
  · split at h
    · rename_i h4
      obtain ⟨m, _, hm⟩ := Option.bind_eq_some_iff.1 h
      split at hm
      · rename_i hlt
        obtain rfl := Option.some.inj hm
        exact ⟨hlt, .inl h4⟩
      · cases hm
    · cases h
set_option maxHeartbeats 16000000 in
theorem rGet6_does (l : List (List UInt8)) (x : DV) (cs : List Value) (vl : Value) (g : Gh) (L : List Ent) (hX : IsV g x cs) (hW : wfV x) (hl : ∀ s ∈ l, s ≠ [] ∧ s.length ≤ 1000000) (_hll : l.length ≤ 1000000) (hS : Sl g vl l.length 1 (strs l)) : Does Tryz.prog 102 #[.agg cs.toArray, vl] g L (GetDR (getD l x) g L) := by
  refine Does.of2 Tryz.func102 rfl Tryz.ntmps102 rfl ?_
  obtain ⟨al, cl, rfl⟩ := hS.slice
  obtain ⟨R, hR⟩ : ∃ R, R = getD l x := ⟨_, rfl⟩
  rw [← hR]
  unfold GetDR
  have h6 := hX.len
  obtain ⟨k, b, n, t, items, names⟩ := x
  have hX0 := hX
  rw [IsV] at hX
  obtain ⟨vi, vn, flat, rfl, _⟩ := hX
  repeat' (first | refine stS ?_ | (refine stB ?_; intro _) | fail)
  rename_i b2 b4
  refine TC.loopL (α := Nat × DV × List Value) (fun y => y.1 ≤ l.length ∧ getD (l.drop y.1) y.2.1 = R ∧ IsV g y.2.1 y.2.2 ∧ wfV y.2.1) (fun y => l.length - y.1) (fun y _ => [(6, .int .i64 (y.1 : Nat)), (1, .slice al l.length cl), (2, .pointer (some ⟨b2, 0, none⟩)), (4, .pointer (some ⟨b4, 0, none⟩))]) (fun y => .obj b2 (.cells y.2.2.toArray 29 (0, 0)) :: .obj b4 (.cells [.int .i64 0, .bool false, .int .i64 0, .string ⟨#[]⟩, .slice none 0 0, .slice none 0 0].toArray 29 (0, 0)) :: L) (0, .mk k b n t items names, _) ⟨Nat.zero_le _, hR.symm, hX0, hW⟩ subA selA ?_
  clear hR hX0 hW h6
  rintro ⟨i, ⟨k, b, n, t, items, names⟩, cs⟩ ⟨hi, hR, hX, hW⟩
  dsimp only at hi hR hX hW ⊢
  by_cases hlt : i < l.length
  · obtain ⟨s, hs⟩ : ∃ s, l[i]? = some s := ⟨_, List.getElem?_eq_getElem hlt⟩
    obtain ⟨hs0, hsl⟩ := hl s (List.mem_of_getElem? hs)
    obtain ⟨b1, o1, rfl, hg⟩ := hS.elem hlt (by decide)
    have hld : g.cell b1 (o1 + i * 1) = some (str s) := hg 0 _ (by rw [Nat.mul_one]; exact strs_get hs)
    have A := fun L => rat6_gives k b n t items names cs s g L hX hW hs0 hsl
    rw [drop_of_get hs, getD] at hR
    rw [IsV] at hX
    rw [wfV] at hW
    obtain ⟨vi, vn, flat, rfl, bk, bn, bt, hSi, hil, hI, hSn, hnl, hnb⟩ := hX
    obtain ⟨_, hil2, hW5, hWs⟩ := hW
    obtain ⟨ai, ci, rfl⟩ := hSi.slice
    obtain ⟨an, cn, rfl⟩ := hSn.slice
    cases ha : atD k items names s with
    | none =>
      have hV : atV k items names s = -1 := by unfold atV; rw [ha]
      rw [hV] at A
      rw [ha] at hR
      obtain rfl : R = none := hR.symm
      clear hSi hI hSn hg hS hl hW5 hWs hV ha
      repeat' (first | refine wkV ?_ | ((with_reducible apply TW.gives_plain); (· kernel_rfl); (· rfl); (· exact A _); (· rfl)) | refine stS ?_ | apply TC.region_draw (by kernel_rfl) (by kernel_rfl) | refine TW.nil ?_ | ((with_reducible apply TW.pure); (· exact yA); (· rfl)) | fail)
      refine TQ.endR2 (L' := L) Tryz.results102 rvA rvA rfl (.refl _) ?_ selA
      exact ⟨_, false, rfl, rfl, rfl, rfl, rfl⟩
    | some j =>
      have hV : atV k items names s = (j : Nat) := by unfold atV; rw [ha]
      rw [hV] at A
      rw [ha] at hR
      obtain ⟨hjl, hk⟩ := at_lt ha (fun e => (hW5 e).1)
      obtain ⟨y, hy⟩ : ∃ y, items[j]? = some y := ⟨_, List.getElem?_eq_getElem hjl⟩
      obtain ⟨cs', hV', hcl, hfl⟩ := hI.get hy
      obtain ⟨b3, o3, rfl, hg3⟩ := hSi.elem hjl (by decide)
      have hWy := wfVs.get (hWs hk) hy
      have hR : (items[j]?).bind (getD (l.drop (i + 1))) = R := hR
      rw [hy, Option.bind_some] at hR
      have hj0 : Hn (¬ ((j : Nat) : Int) < 0) := ⟨by omega⟩
      obtain ⟨k', b', n', t', items', names'⟩ := y
      have hV0 := hV'
      rw [IsV] at hV'
      obtain ⟨vi', vn', flat', rfl, _, _, _, hSi', _, _, hSn', _, _⟩ := hV'
      obtain ⟨ai', ci', rfl⟩ := hSi'.slice
      obtain ⟨an', cn', rfl⟩ := hSn'.slice
      have hld3 : ∀ j2 u, ([.int .i64 k', .bool b', .int .i64 n', str t', .slice ai' items'.length ci', .slice an' names'.length cn'] : List Value)[j2]? = some u → g.cell b3 (o3 + j * 6 + j2) = some u := fun j2 u hu => hg3 j2 u (hfl j2 u hu)
      have HR := Hn.mk hR
      have HW := Hn.mk hWy
      have HV := Hn.mk hV0
      clear hSi hI hSn hg hS hl hW5 hWs hV ha hg3 hfl hSi' hSn' hy hR hWy hV0
      repeat' (first | refine wkV ?_ | ((with_reducible apply TW.gives_plain); (· kernel_rfl); (· rfl); (· exact A _); (· rfl)) | refine stS ?_ | apply TC.region_draw (by kernel_rfl) (by kernel_rfl) | refine TW.nil ?_ | ((with_reducible apply TW.pure); (· exact yA); (· rfl)) | fail)
      refine TQ.round (i + 1, .mk k' b' n' t' items' names', [.int .i64 k', .bool b', .int .i64 n', str t', .slice ai' items'.length ci', .slice an' names'.length cn']) ?_ ?_ rfl subA selA
      · exact ⟨by dsimp only; omega, HR.out, HV.out, HW.out⟩
      · show l.length - (i + 1) < l.length - i
        omega
  · rw [List.drop_eq_nil_of_le (by omega), getD] at hR
    subst hR
    have HX := Hn.mk hX
    rw [IsV] at hX
    obtain ⟨vi, vn, flat, rfl, _, _, _, hSi, _, _, hSn, _, _⟩ := hX
    obtain ⟨ai, ci, rfl⟩ := hSi.slice
    obtain ⟨an, cn, rfl⟩ := hSn.slice
    clear hSi hSn
    clear hS hl
    repeat' (first | refine stS ?_ | fail)
    refine TQ.endR2 (L' := L) Tryz.results102 rvA rvA rfl (.refl _) ?_ selA
    exact ⟨[_, _, _, _, _, _], true, rfl, rfl, rfl, rfl, HX.out, hW⟩
end Go.Proofs.YthngolfabfijpaaGreatDoor
namespace Go.Proofs.YthngolfabfijpaaGreatDoor
open Go.RowKit Go.TL
set_option maxRecDepth 100000

theorem errUnd : ∃ ms, Tryz.prog.underlying 131 = some (.interface ms) := ⟨_, Tryz.underlying131⟩
instance : Und Tryz.prog 131 (.interface (Classical.choose errUnd)) := ⟨Classical.choose_spec errUnd⟩
def GErr (g : Gh) : Prop := ∀ L w, St g L w → (∃ te pe, w.cell? ⟨5, 0, none⟩ = some (.iface te pe)) ∧ (∃ te pe, w.cell? ⟨6, 0, none⟩ = some (.iface te pe))
theorem GErr.le {g g' : Gh} (h : GErr g) (hg : g.le g') : GErr g' := fun L w hs => h L w (hs.less hg)
def AtoiR (s : List UInt8) (g : Gh) (L : List Ent) : Ending → Gh → List Ent → Prop := fun r g' L1 => ∃ v e, r = .returned (.tuple #[.int .i64 v, e]) ∧ g' = g ∧ L1 = L ∧ (match Lib.atoiAll s with
  | .ok u => e = .nilIface ∧ v = u
  | _ => ∃ T u, e = .iface T u)
theorem atoi_does (s : List UInt8) (g : Gh) (L : List Ent) (_hs : s.length ≤ 1000000) (hE : GErr g) : Does Tryz.prog 116 #[str s] g L (AtoiR s g L) := .mk fun w hw => by
  have hd : (ByteArray.mk s.toArray).data.toList = s := by simp
  unfold AtoiR
  obtain ⟨⟨t1, p1, h1⟩, ⟨t2, p2, h2⟩⟩ := hE L w hw
  rcases h : Lib.atoiAll s with v | _ | _
  · refine (Tryz.strconv_Atoi_ok ⟨s.toArray⟩ (by rw [size_mk]; omega) v (by rw [hd]; exact h) w).mono ?_
    rintro e w' ⟨rfl, hw'⟩
    refine ⟨g, L, .refl g, ⟨v, _, rfl, rfl, rfl, rfl, rfl⟩, ?_⟩
    rcases hw' with rfl | ⟨t, rfl⟩
    · exact hw
    · exact hw.ext (Lib.bytesWorld_below _ _ _)
  · refine (Tryz.strconv_Atoi_syntax ⟨s.toArray⟩ (by rw [size_mk]; omega) (by rw [hd]; exact h) _ w h1 (.inr ⟨_, _, rfl⟩)).mono ?_
    rintro e w' ⟨N, rfl, _, _, hb⟩
    exact ⟨g, L, .refl g, ⟨_, _, rfl, rfl, rfl, _, _, rfl⟩, hw.ext hb⟩
  · refine (Tryz.strconv_Atoi_range ⟨s.toArray⟩ (by rw [size_mk]; omega) (by rw [hd]; exact h) _ w h2 (.inr ⟨_, _, rfl⟩)).mono ?_
    rintro e w' ⟨N, rfl, _, _, hb⟩
    exact ⟨g, L, .refl g, ⟨_, _, rfl, rfl, rfl, _, _, rfl⟩, hw.ext hb⟩
theorem itoa_gives (n : Int) (g : Gh) (L : List Ent) (h0 : -9223372036854775808 ≤ n) (h1 : n ≤ 9223372036854775807) (hT : GTabs g) : Gives Tryz.prog 117 #[.int .i64 n] g L (str (Lib.itoa n)) := .mk fun w hw => by
  refine (Tryz.strconv_Itoa n h0 h1 w (hT L w hw w (.refl _ _))).mono ?_
  rintro e w' ⟨rfl, k, os, rfl⟩
  exact ⟨rfl, hw.ext (Lib.below_grow _ _ (Nat.le_refl _) _ _)⟩
set_option maxHeartbeats 8000000 in
theorem pitem_gives (s : List UInt8) (g : Gh) (L : List Ent) (hs : s.length ≤ 1000000) (hE : GErr g) (hT : GTabs g) : Gives Tryz.prog 78 #[str s] g L (.int .i64 (itemV s)) := by
  refine .of (Does.of1 Tryz.func78 rfl Tryz.ntmps78 rfl ?_)
  have A := fun L => atoi_does s g L hs hE
  unfold AtoiR at A
  have hit := item_atoi s
  cases h : Lib.atoiAll s with
  | ok v =>
    rw [h] at A hit
    have hb := Lib.atoiAll_bounds h
    have I := fun L => itoa_gives v g L hb.1 hb.2 hT
    dsimp only at hit
    rw [← hit]
    by_cases he : Lib.itoa v = s
    · rw [he] at I
      by_cases h0 : 0 ≤ v
      · rw [if_pos ⟨he, h0⟩]
        repeat' (first | refine wkV ?_ | (refine TL.call (Enters.plain (by kernel_rfl) (by rfl)) (by rfl) (A _) ?_; (rintro e g1 L1 _ ⟨v1, e1, k1, k2, k3, k4, k5⟩; have k2 := k2.symm; have k3 := k3.symm; subst k1; subst k2; subst k3; subst k4; subst k5; refine CallK.ret ?_)) | ((with_reducible apply TL.gives_plain); (· kernel_rfl); (· rfl); (· exact I _); (· rfl)) | refine stS ?_ | (refine stC ?_; refine And.intro (fun _ => ?_) (fun _ => ?_)) | fail)
        · rename_i hx; exact absurd rfl hx.out
        · refine TQ.endR1 (L' := L) Tryz.results78 rvA rfl (.refl _) ?_ selA
          exact ⟨rfl, rfl, rfl⟩
      · rw [if_neg (fun h => h0 h.2)]
        repeat' (first | refine wkV ?_ | (refine TL.call (Enters.plain (by kernel_rfl) (by rfl)) (by rfl) (A _) ?_; (rintro e g1 L1 _ ⟨v1, e1, k1, k2, k3, k4, k5⟩; have k2 := k2.symm; have k3 := k3.symm; subst k1; subst k2; subst k3; subst k4; subst k5; refine CallK.ret ?_)) | ((with_reducible apply TL.gives_plain); (· kernel_rfl); (· rfl); (· exact I _); (· rfl)) | refine stS ?_ | (refine stC ?_; refine And.intro (fun _ => ?_) (fun _ => ?_)) | fail)
        · rename_i hx; exact absurd rfl hx.out
        · refine TQ.endR1 (L' := L) Tryz.results78 rvA rfl (.refl _) ?_ selA
          exact ⟨rfl, rfl, rfl⟩
    · rw [if_neg (fun h => he h.1)]
      repeat' (first | refine wkV ?_ | (refine TL.call (Enters.plain (by kernel_rfl) (by rfl)) (by rfl) (A _) ?_; (rintro e g1 L1 _ ⟨v1, e1, k1, k2, k3, k4, k5⟩; have k2 := k2.symm; have k3 := k3.symm; subst k1; subst k2; subst k3; subst k4; subst k5; refine CallK.ret ?_)) | ((with_reducible apply TL.gives_plain); (· kernel_rfl); (· rfl); (· exact I _); (· rfl)) | refine stS ?_ | fail)
      all_goals
        refine TQ.endR1 (L' := L) Tryz.results78 rvA rfl (.refl _) ?_ selA
        exact ⟨rfl, rfl, rfl⟩
  | _ =>
    rw [h] at A hit
    dsimp only at A hit
    rw [← hit]
    repeat' (first | refine wkV ?_ | (refine TL.call (Enters.plain (by kernel_rfl) (by rfl)) (by rfl) (A _) ?_; (rintro e g1 L1 _ ⟨v1, e1, k1, k2, k3, T, u, k5⟩; have k2 := k2.symm; have k3 := k3.symm; subst k1; subst k2; subst k3; subst k5; refine CallK.ret ?_)) | refine stS ?_ | fail)
    refine TQ.endR1 (L' := L) Tryz.results78 rvA rfl (.refl _) ?_ selA
    exact ⟨rfl, rfl, rfl⟩
end Go.Proofs.YthngolfabfijpaaGreatDoor
