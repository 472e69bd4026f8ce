/-
  What a path leads to is like itself; what was put can be taken away.
-/
import Derived.Test.YtacogbfgegcliaaGreatDoorHg33
namespace Go.Proofs.YtacogbfgegcliaaGreatDoor
open Go.RowKit Go.TL
set_option maxRecDepth 100000

theorem dep_at : ∀ {l : List J} {i : Nat} {x : J}, l[i]? = some x → depJ x ≤ depJs l
  | [], _, _, h => by simp at h
  | y :: r, 0, x, h => by
    obtain rfl : y = x := by simpa using h
    rw [depJs]; omega
  | y :: r, i + 1, x, h => by
    have := dep_at (l := r) (i := i) (by simpa using h)
    rw [depJs]; omega
theorem get_sub (C : J → Prop) (hl : ∀ (xs : List J) (i : Nat) (x : J), C (.list xs) → xs[i]? = some x → C x) (ho : ∀ (ns : List (List UInt8)) (xs : List J) (i : Nat) (x : J), C (.obj ns xs) → xs[i]? = some x → C x) : ∀ (m : List (List UInt8)) (x u : J), C x → getJ m x = some u → C u
  | [], x, u, hx, h => by
    rw [getJ] at h
    obtain rfl := Option.some.inj h
    exact hx
  | s :: r, .obj ns xs, u, hx, h => by
    rw [get_obj] at h
    obtain ⟨y, h1, h2⟩ := Option.bind_eq_some_iff.1 h
    obtain ⟨i, _, h3⟩ := Option.bind_eq_some_iff.1 h1
    exact get_sub C hl ho r y u (ho ns xs i y hx h3) h2
  | s :: r, .list xs, u, hx, h => by
    rw [get_list] at h
    obtain ⟨y, h1, h2⟩ := Option.bind_eq_some_iff.1 h
    obtain ⟨i, _, h3⟩ := Option.bind_eq_some_iff.1 h1
    exact get_sub C hl ho r y u (hl xs i y hx h3) h2
  | s :: r, .null, u, hx, h => by cases h
  | s :: r, .bool _, u, hx, h => by cases h
  | s :: r, .num _, u, hx, h => by cases h
  | s :: r, .text _, u, hx, h => by cases h
  | s :: r, .other _, u, hx, h => by cases h
theorem got_same {q : List UInt8} {x u : J} (lx : lenJ x) (sx : smJ x) (h : getP q x = some u) : SameJ u u = true ∧ smJ u := by
  unfold getP at h
  split at h
  · rename_i h0
    obtain ⟨m, _, hm⟩ := Option.bind_eq_some_iff.1 h
    obtain ⟨ox, dx⟩ := ok_of_look x 0 h0 lx
    obtain ⟨⟨k1, k2⟩, k3, k4⟩ := get_sub (fun u => (lenJ u ∧ smJ u) ∧ okJ u ∧ depJ u ≤ 32) (fun xs i x h hx => by
      obtain ⟨⟨h1, h2⟩, h3, h4⟩ := h
      rw [lenJ] at h1; rw [smJ] at h2; rw [okJ] at h3; rw [depJ] at h4
      have := dep_at hx
      exact ⟨⟨lenJs_get h1 hx, smJs_get h2.2 hx⟩, okJs_get h3 hx, by omega⟩) (fun ns xs i x h hx => by
      obtain ⟨⟨h1, h2⟩, h3, h4⟩ := h
      rw [lenJ] at h1; rw [smJ] at h2; rw [okJ] at h3; rw [depJ] at h4
      have := dep_at hx
      exact ⟨⟨lenJs_get h1.2 hx, smJs_get h2.2.2 hx⟩, okJs_get h3.2.2.2 hx, by omega⟩) m x u ⟨⟨lx, sx⟩, ox, by omega⟩ hm
    refine ⟨Same_refl k1 ?_, k2⟩
    rw [look_ok0 k3, if_pos k4]
  · cases h
end Go.Proofs.YtacogbfgegcliaaGreatDoor
