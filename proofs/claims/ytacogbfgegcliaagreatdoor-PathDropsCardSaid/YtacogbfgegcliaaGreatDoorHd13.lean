/-
  What paths do to values: the plain law.
-/
import Derived.Test.YtacogbfgegcliaaGreatDoorHd8
import Derived.Test.YtacogbfgegcliaaGreatDoorHd12
namespace Go.Proofs.YtacogbfgegcliaaGreatDoor
open Go.RowKit

def idxN : List (List UInt8) → List UInt8 → Option Nat
  | [], _ => none
  | n :: r, s => if n = s then some 0 else (idxN r s).map (· + 1)
theorem idxN_some : ∀ {ns : List (List UInt8)} {s : List UInt8} {k : Nat}, idxN ns s = some k → ns[k]? = some s ∧ ∀ i, i < k → ns[i]? ≠ some s
  | [], _, _, h => by cases h
  | n :: r, s, k, h => by
    rw [idxN] at h
    by_cases e : n = s
    · rw [if_pos e] at h
      obtain rfl := Option.some.inj h
      exact ⟨by simp [e], fun i hi => by omega⟩
    · rw [if_neg e] at h
      obtain ⟨j, hj, rfl⟩ := Option.map_eq_some_iff.1 h
      obtain ⟨h1, h2⟩ := idxN_some hj
      refine ⟨by simpa using h1, fun i hi => ?_⟩
      cases i with
      | zero => simpa using e
      | succ i => simpa using h2 i (by omega)
theorem idxN_none : ∀ {ns : List (List UInt8)} {s : List UInt8}, idxN ns s = none → ∀ n ∈ ns, n ≠ s
  | [], _, _, _, h => by cases h
  | n :: r, s, h, m, hm => by
    rw [idxN] at h
    by_cases e : n = s
    · rw [if_pos e] at h; cases h
    · rw [if_neg e] at h
      rcases List.mem_cons.1 hm with rfl | hm
      · exact e
      · exact idxN_none (Option.map_eq_none_iff.1 h) m hm
theorem idxN_lt {ns : List (List UInt8)} {s : List UInt8} {k : Nat} (h : idxN ns s = some k) : k < ns.length := (List.getElem?_eq_some_iff.1 (idxN_some h).1).1
def nextJ (j : J) (s : List UInt8) : Option J := match j with
  | .obj ns xs => (idxN ns s).bind (xs[·]?)
  | .list xs => (itemL s).bind (xs[·]?)
  | _ => none
def getJ : List (List UInt8) → J → Option J
  | [], j => some j
  | s :: r, j => (nextJ j s).bind (getJ r)
def putJ : List (List UInt8) → J → J → Option J
  | [], _, x => some x
  | s :: r, .obj ns xs, x => match idxN ns s with
    | some i => match xs[i]? with
      | some y => (putJ r y x).map fun z => .obj ns (xs.set i z)
      | none => none
    | none => (putJ r (.obj [] []) x).map fun z => .obj (ns ++ [s]) (xs ++ [z])
  | s :: r, .list xs, x => match itemL s with
    | none => none
    | some i => match xs[i]? with
      | some y => (putJ r y x).map fun z => .list (xs.set i z)
      | none => if i = xs.length then (putJ r (.obj [] []) x).map fun z => .list (xs ++ [z]) else none
  | _ :: _, _, _ => none
def dropJ : List (List UInt8) → J → Option J
  | [], _ => none
  | s :: r, .obj ns xs => match idxN ns s with
    | some i => match xs[i]? with
      | some y => if r = [] then some (.obj (ns.eraseIdx i) (xs.eraseIdx i)) else (dropJ r y).map fun z => .obj ns (xs.set i z)
      | none => none
    | none => none
  | s :: r, .list xs => match itemL s with
    | none => none
    | some i => match xs[i]? with
      | some y => if r = [] then some (.list (xs.eraseIdx i)) else (dropJ r y).map fun z => .list (xs.set i z)
      | none => none
  | _ :: _, _ => none
mutual
def depJ : J → Nat
  | .list xs => depJs xs + 1
  | .obj _ xs => depJs xs + 1
  | .null => 0
  | .bool _ => 0
  | .num _ => 0
  | .text _ => 0
  | .other _ => 0
def depJs : List J → Nat
  | [] => 0
  | x :: r => max (depJ x) (depJs r)
end
mutual
def okJ : J → Prop
  | .null => True
  | .bool _ => True
  | .num n => heldB n = true
  | .text s => utfL s = true
  | .list xs => okJs xs
  | .obj ns xs => ns.length = xs.length ∧ ns.Nodup ∧ (∀ n ∈ ns, utfL n = true) ∧ okJs xs
  | .other _ => False
def okJs : List J → Prop
  | [] => True
  | x :: r => okJ x ∧ okJs r
end
theorem looks_get : ∀ {l : List J} {i : Nat} {x : J} {w : Nat}, looks l w = 0 → l[i]? = some x → lookJ x (w + 1) = 0
  | [], _, _, _, _, h => by simp at h
  | y :: r, 0, x, w, h, hx => by
    obtain rfl : y = x := by simpa using hx
    rw [looks] at h
    split at h
    · assumption
    · exact h
  | y :: r, i + 1, x, w, h, hx => by
    rw [looks] at h
    split at h
    · exact looks_get h (i := i) (by simpa using hx)
    · exact absurd h (by assumption)
theorem looko_get : ∀ {l : List J} {seen ns : List (List UInt8)} {i : Nat} {x : J} {w : Nat}, looko seen ns l w = 0 → l[i]? = some x → lookJ x (w + 1) = 0
  | [], _, _, _, _, _, _, h => by simp at h
  | y :: r, seen, ns, 0, x, w, h, hx => by
    obtain rfl : y = x := by simpa using hx
    rw [looko] at h
    split at h
    · cases h
    split at h
    · cases h
    split at h
    · assumption
    · exact h
  | y :: r, seen, ns, i + 1, x, w, h, hx => by
    rw [looko] at h
    split at h
    · cases h
    split at h
    · cases h
    split at h
    · exact looko_get h (i := i) (by simpa using hx)
    · exact absurd h (by assumption)
mutual
theorem look_mono : ∀ (x : J) (w : Nat), lookJ x (w + 1) = 0 → lookJ x w = 0
  | .null, _, h => by rw [lookJ] at h ⊢
  | .bool _, _, h => by rw [lookJ] at h ⊢
  | .num _, _, h => by rw [lookJ] at h ⊢; exact h
  | .text _, _, h => by rw [lookJ] at h ⊢; exact h
  | .other _, _, h => by rw [lookJ] at h ⊢; exact h
  | .list xs, w, h => by
    rw [lookJ] at h ⊢
    split at h
    · cases h
    · rw [if_neg (by omega)]; exact looks_mono xs w h
  | .obj ns xs, w, h => by
    rw [lookJ] at h ⊢
    split at h
    · cases h
    · rw [if_neg (by omega)]; exact looko_mono [] ns xs w h
theorem looks_mono : ∀ (l : List J) (w : Nat), looks l (w + 1) = 0 → looks l w = 0
  | [], _, _ => by rw [looks]
  | x :: r, w, h => by
    rw [looks] at h ⊢
    split at h
    · rename_i h1
      rw [if_pos (look_mono x (w + 1) h1)]; exact looks_mono r w h
    · exact absurd h (by assumption)
theorem looko_mono : ∀ (seen ns : List (List UInt8)) (l : List J) (w : Nat), looko seen ns l (w + 1) = 0 → looko seen ns l w = 0
  | _, _, [], _, _ => by rw [looko]
  | seen, ns, x :: r, w, h => by
    rw [looko] at h ⊢
    split at h
    · cases h
    rename_i h1
    split at h
    · cases h
    rename_i h2
    split at h
    · rename_i h3
      rw [if_neg h1, if_neg h2, if_pos (look_mono x (w + 1) h3)]; exact looko_mono _ _ r w h
    · exact absurd h (by assumption)
end
theorem look_next {j x : J} {s : List UInt8} {w : Nat} (h : lookJ j w = 0) (hx : nextJ j s = some x) : lookJ x (w + 1) = 0 := by
  unfold nextJ at hx
  cases j with
  | list xs =>
    obtain ⟨i, _, hi⟩ := Option.bind_eq_some_iff.1 hx
    rw [lookJ] at h
    split at h
    · cases h
    · exact looks_get h hi
  | obj ns xs =>
    obtain ⟨i, _, hi⟩ := Option.bind_eq_some_iff.1 hx
    rw [lookJ] at h
    split at h
    · cases h
    · exact looko_get h hi
  | _ => cases hx
theorem sm_next {j x : J} {s : List UInt8} (h : smJ j) (hx : nextJ j s = some x) : smJ x := by
  unfold nextJ at hx
  cases j with
  | list xs =>
    obtain ⟨i, _, hi⟩ := Option.bind_eq_some_iff.1 hx
    rw [smJ] at h
    exact smJs_get h.2 hi
  | obj ns xs =>
    obtain ⟨i, _, hi⟩ := Option.bind_eq_some_iff.1 hx
    rw [smJ] at h
    exact smJs_get h.2.2 hi
  | _ => cases hx
def getP (p : List UInt8) (j : J) : Option J := if lookJ j 0 = 0 then (stepsL p).bind fun l => getJ l j else none
end Go.Proofs.YtacogbfgegcliaaGreatDoor
