/-
  What Put and Drop tell; a value is like itself.
-/
import Derived.Test.YtacogbfgegcliaaGreatDoorPathF
import Derived.Test.YtacogbfgegcliaaGreatDoorJSame
namespace Go.Proofs.YtacogbfgegcliaaGreatDoor
open Go.RowKit Go.TL

mutual
theorem same_refl : ∀ (x : J), okJ x → sameJ x x = true
  | .null, _ => by rw [sameJ]
  | .bool _, _ => by rw [sameJ]; simp
  | .num _, _ => by rw [sameJ]; simp
  | .text _, _ => by rw [sameJ]; simp
  | .list xs, h => by
    rw [okJ] at h
    rw [sameJ, sames_refl xs h]; simp
  | .obj ns xs, h => by
    rw [okJ] at h
    rw [sameJ, sameo_refl ns xs h.1 h.2.2.2]; simp
  | .other _, h => by rw [okJ] at h; exact h.elim
theorem sames_refl : ∀ (l : List J), okJs l → sames l l = true
  | [], _ => by rw [sames]; intros; simp_all
  | x :: r, h => by
    rw [okJs] at h
    rw [sames, same_refl x h.1, sames_refl r h.2]; rfl
theorem sameo_refl : ∀ (ns : List (List UInt8)) (l : List J), ns.length = l.length → okJs l → sameo ns l ns l = true
  | ns, [], hn, _ => by
    obtain rfl : ns = [] := List.eq_nil_of_length_eq_zero hn
    rw [sameo]; intros; simp_all
  | [], _ :: _, hn, _ => by simp at hn
  | n :: ns, x :: r, hn, h => by
    rw [okJs] at h
    rw [sameo, same_refl x h.1, sameo_refl ns r (by simpa using hn) h.2]; simp
end
theorem Same_refl {x : J} (hl : lenJ x) (h : lookJ x 0 = 0) : SameJ x x = true := by
  unfold SameJ
  rw [h, same_refl x (ok_of_look x 0 h hl).1]; rfl
def putE (x : J) (p : List UInt8) (y : J) : Nat × Option J := match stepsL p with
  | none => (16, none)
  | some l => if lookJ x 0 ≠ 0 then (lookJ x 0, none) else if lookJ y 0 ≠ 0 then (lookJ y 0, none) else match putJ l x y with
    | none => (14, none)
    | some z => if lookJ z 0 ≠ 0 then (lookJ z 0, none) else (0, some z)
def dropE (x : J) (p : List UInt8) : Nat × Option J := match stepsL p with
  | none => (16, none)
  | some l => if lookJ x 0 ≠ 0 then (lookJ x 0, none) else match dropJ l x with
    | none => (7, none)
    | some z => (0, some z)
theorem look_ok0 {z : J} (h : okJ z) : lookJ z 0 = if depJ z ≤ 32 then 0 else 10 := by
  rw [look_of_ok z 0 h]
  split <;> split <;> first | rfl | omega
theorem putE_some {x y z : J} {p : List UInt8} {e : Nat} (h : putE x p y = (e, some z)) : e = 0 ∧ ∃ l, stepsL p = some l ∧ lookJ x 0 = 0 ∧ lookJ y 0 = 0 ∧ putJ l x y = some z ∧ lookJ z 0 = 0 := by
  unfold putE at h
  split at h
  · cases h
  · rename_i l hl
    split at h
    · cases h
    split at h
    · cases h
    split at h
    · cases h
    · rename_i z' hz
      split at h
      · cases h
      · obtain ⟨rfl, h2⟩ := Prod.mk.inj h
        obtain rfl := Option.some.inj h2
        exact ⟨rfl, l, hl, by omega, by omega, hz, by omega⟩
theorem putE_none {x y : J} {p : List UInt8} {e : Nat} (h : putE x p y = (e, none)) : e ≠ 0 := by
  unfold putE at h
  split at h
  · obtain ⟨rfl, _⟩ := Prod.mk.inj h; decide
  · split at h
    · obtain ⟨rfl, _⟩ := Prod.mk.inj h; assumption
    split at h
    · obtain ⟨rfl, _⟩ := Prod.mk.inj h; assumption
    split at h
    · obtain ⟨rfl, _⟩ := Prod.mk.inj h; decide
    · split at h
      · obtain ⟨rfl, _⟩ := Prod.mk.inj h; assumption
      · cases h
theorem dropE_some {x z : J} {p : List UInt8} {e : Nat} (h : dropE x p = (e, some z)) : e = 0 ∧ ∃ l, stepsL p = some l ∧ lookJ x 0 = 0 ∧ dropJ l x = some z := by
  unfold dropE at h
  split at h
  · cases h
  · rename_i l hl
    split at h
    · cases h
    split at h
    · cases h
    · rename_i z' hz
      obtain ⟨rfl, h2⟩ := Prod.mk.inj h
      obtain rfl := Option.some.inj h2
      exact ⟨rfl, l, hl, by omega, hz⟩
theorem putE_other {x y z : J} {p q : List UInt8} (lx : lenJ x) (h : putE x p y = (0, some z)) (hq : q ∈ allJ [] x) (h1 : beginsB p q = false) (h2 : beginsB q p = false) : ∃ u, getP q x = some u ∧ getP q z = some u := by
  obtain ⟨_, l, hl, hx, hy, hz, hzl⟩ := putE_some h
  obtain ⟨m, u, hm0, hm, hu⟩ := all_get _ x (Nat.le_refl _) (ok_of_look x 0 hx lx).1 [] q (fun s hs => by cases hs) hq
  rw [List.nil_append] at hm
  obtain ⟨rfl, hl0, _, _, _⟩ := stepsL_some hl
  obtain ⟨rfl, _, _, _, _⟩ := stepsL_some hm
  refine ⟨u, by unfold getP; rw [if_pos hx, hm]; exact hu, ?_⟩
  unfold getP
  rw [if_pos hzl, hm]
  show getJ m z = some u
  rw [get_other l m x y z lx hz (fun e => by rw [begins_of hl0 e] at h2; cases h2) (fun e => by rw [begins_of hm0 e] at h1; cases h1) (by rw [hu]; rfl), hu]
theorem all_getP {x : J} {q : List UInt8} (lx : lenJ x) (hx : lookJ x 0 = 0) (hq : q ∈ allJ [] x) : ∃ u, getP q x = some u := by
  obtain ⟨m, u, _, hm, hu⟩ := all_get _ x (Nat.le_refl _) (ok_of_look x 0 hx lx).1 [] q (fun s hs => by cases hs) hq
  rw [List.nil_append] at hm
  exact ⟨u, by unfold getP; rw [if_pos hx, hm]; exact hu⟩
theorem all_nodup0 {x : J} (lx : lenJ x) (hx : lookJ x 0 = 0) : (allJ [] x).Nodup := all_nodup _ x (Nat.le_refl _) (ok_of_look x 0 hx lx).1 [] (fun s hs => by cases hs)
def allP (x : J) : List (List UInt8) := if lookJ x 0 = 0 then allJ [] x else []
def headP (p : List UInt8) : Option (List UInt8) := match stepsL p with
  | some l => if l.dropLast = [] then none else some (joinS l.dropLast)
  | none => none
def listedB (z : J) (p : List UInt8) : Bool := match headP p with
  | none => match z with | .list _ => true | _ => false
  | some h => match getP h z with | some (.list _) => true | _ => false
theorem utf_dropLast {l : List (List UInt8)} {p : List UInt8} (h : stepsL p = some l) (h0 : l.dropLast ≠ []) : stepsL (joinS l.dropLast) = some l.dropLast := by
  obtain ⟨rfl, h1, h2, h3, h4⟩ := stepsL_some h
  have hg : ∀ s ∈ l.dropLast, s ≠ [] ∧ (∀ y ∈ s, y ≠ 46) ∧ utfL s = true := fun s hs => h4 s (List.dropLast_subset _ hs)
  have hj : joinS l = joinS l.dropLast ++ 46 :: joinS [l.getLast h1] := by
    conv => lhs; rw [← List.dropLast_concat_getLast h1]
    exact joinS_append _ _ h0 (by simp)
  have hlen : (joinS l.dropLast).length ≤ 128 := by
    rw [hj, List.length_append] at h2; omega
  have hpos : 1 ≤ (joinS l.dropLast).length := by
    have := joinS_count l.dropLast (fun s hs => (hg s hs).1)
    have := List.length_pos_iff.2 h0
    omega
  unfold stepsL
  rw [if_pos ⟨hpos, hlen, utf_joins _ (fun s hs => (hg s hs).2.2)⟩, steps_joinS _ h0 (fun s hs => ⟨(hg s hs).1, (hg s hs).2.1⟩)]
theorem drop_still {z w : J} {p : List UInt8} (lz : lenJ z) (hz : lookJ z 0 = 0) (h : dropE z p = (0, some w)) : (getP p w).isSome = false ∨ listedB z p = true := by
  obtain ⟨_, l, hl, _, hd⟩ := dropE_some h
  have hok := (ok_of_look z 0 hz lz).1
  by_cases hp : ∀ xs, getJ l.dropLast z ≠ some (.list xs)
  · left
    have := drop_gone l z w hok hd hp
    unfold getP
    rw [hl]
    split
    · show (getJ l w).isSome = false
      rw [this]; rfl
    · rfl
  · right
    obtain ⟨xs, hxs⟩ : ∃ xs, getJ l.dropLast z = some (.list xs) := Classical.byContradiction fun hn => hp fun xs e => hn ⟨xs, e⟩
    unfold listedB headP
    rw [hl]
    dsimp only
    by_cases h0 : l.dropLast = []
    · rw [if_pos h0]
      rw [h0, getJ] at hxs
      obtain rfl := Option.some.inj hxs
      rfl
    · rw [if_neg h0]
      have h5 := utf_dropLast hl h0
      dsimp only
      unfold getP
      rw [if_pos hz, h5]
      dsimp only [Option.bind_some]
      rw [hxs]
end Go.Proofs.YtacogbfgegcliaaGreatDoor
