/-
  Layer 5, plain laws: what the program is told of a value compares as the value.
-/
import Derived.Test.YtphlggmhgfcmgaaGreatDoorOKey
namespace Go.Proofs.YtphlggmhgfcmgaaGreatDoor
open Go.RowKit Go.TL
set_option maxRecDepth 100000

mutual
/-- A value that may be is of the kinds that there are. -/
theorem ok_may : ∀ (x : DV) (w : Nat), (0 ≤ x.kind → mayV x w = 0 → okV x)
  | .mk k b n s items names, w, h0, h => by
    have h0 : 0 ≤ k := h0
    rw [mayV] at h
    rw [okV]
    by_cases k0 : k = 0 ∨ k = 1
    · exact ⟨h0, by omega, fun h => by omega⟩
    rw [if_neg k0] at h
    by_cases k2 : k = 2
    · exact ⟨h0, by omega, fun h => by omega⟩
    rw [if_neg k2] at h
    by_cases k3 : k = 3
    · exact ⟨h0, by omega, fun h => by omega⟩
    rw [if_neg k3] at h
    by_cases k4 : k = 4
    · rw [if_pos k4] at h
      split at h
      · cases h
      · exact ⟨h0, by omega, fun _ => oks_may items w h⟩
    rw [if_neg k4] at h
    by_cases k5 : k = 5
    · rw [if_pos k5] at h
      split at h
      · cases h
      · exact ⟨h0, by omega, fun _ => oko_may [] names items w h⟩
    rw [if_neg k5] at h
    cases h
theorem oks_may : ∀ (l : List DV) (w : Nat), mays l w = 0 → okVs l
  | [], _, _ => by rw [okVs]; trivial
  | x :: r, w, h => by
    rw [mays] at h
    split at h
    · rename_i h1
      rw [okVs]
      exact ⟨ok_may' x (w + 1) h1, oks_may r w h⟩
    · omega
theorem oko_may : ∀ (seen ns : List (List UInt8)) (l : List DV) (w : Nat), mayo seen ns l w = 0 → okVs l
  | _, _, [], _, _ => by rw [okVs]; trivial
  | seen, ns, x :: r, w, h => by
    rw [mayo] at h
    split at h
    · cases h
    split at h
    · cases h
    split at h
    · rename_i h1
      rw [okVs]
      exact ⟨ok_may' x (w + 1) h1, oko_may _ _ r w h⟩
    · omega
theorem ok_may' : ∀ (x : DV) (w : Nat), mayV x w = 0 → okV x
  | .mk k b n s items names, w, h => by
    rw [mayV] at h
    rw [okV]
    by_cases k0 : k = 0 ∨ k = 1
    · exact ⟨by omega, by omega, fun h => by omega⟩
    rw [if_neg k0] at h
    by_cases k2 : k = 2
    · exact ⟨by omega, by omega, fun h => by omega⟩
    rw [if_neg k2] at h
    by_cases k3 : k = 3
    · exact ⟨by omega, by omega, fun h => by omega⟩
    rw [if_neg k3] at h
    by_cases k4 : k = 4
    · rw [if_pos k4] at h
      split at h
      · cases h
      · exact ⟨by omega, by omega, fun _ => oks_may items w h⟩
    rw [if_neg k4] at h
    by_cases k5 : k = 5
    · rw [if_pos k5] at h
      split at h
      · cases h
      · exact ⟨by omega, by omega, fun _ => oko_may [] names items w h⟩
    rw [if_neg k5] at h
    cases h
end
theorem kind_toJ (x : DV) (h0 : 0 ≤ x.kind) (h5 : x.kind ≤ 5) : kindJ (toJ x) = rankV x := by
  obtain ⟨k, b, n, s, items, names⟩ := x
  have h0 : 0 ≤ k := h0
  have h5 : k ≤ 5 := h5
  rw [toJ_eq, rankV_eq]
  by_cases k0 : k = 0
  · rw [if_pos k0, if_pos k0]; rfl
  rw [if_neg k0, if_neg k0]
  by_cases k1 : k = 1
  · rw [if_pos k1, if_pos k1]; rfl
  rw [if_neg k1, if_neg k1]
  by_cases k2 : k = 2
  · rw [if_pos k2]; show (4 : Int) = _; omega
  rw [if_neg k2]
  by_cases k3 : k = 3
  · rw [if_pos k3]; show (5 : Int) = _; omega
  rw [if_neg k3]
  by_cases k4 : k = 4
  · rw [if_pos k4]; show (6 : Int) = _; omega
  rw [if_neg k4, if_pos (by omega)]
  show (7 : Int) = _; omega
theorem cmp_toJ : ∀ (N : Nat) (x : DV), dsz x ≤ N → ∀ y, okV x → okV y → cmpJ (toJ x) (toJ y) = cmpV x y
  | 0, .mk .., h, _, _, _ => by rw [dsz] at h; omega
  | N + 1, .mk k b n s items names, h, .mk k' b' n' s' items' names', hx, hy => by
    have IH := cmp_toJ N
    rw [dsz] at h
    have hx2 := hx
    have hy2 := hy
    rw [okV] at hx2 hy2
    obtain ⟨x0, x5, xs⟩ := hx2
    obtain ⟨y0, y5, ys⟩ := hy2
    have kx := kind_toJ (.mk k b n s items names) x0 x5
    have ky := kind_toJ (.mk k' b' n' s' items' names') y0 y5
    rw [cmpV]
    have HS : ∀ (o : Bool) (l l' : List DV) (a a' c c' : List (List UInt8)) (p q : Nat), dszs l ≤ N → okVs l → okVs l' → (o = true → a = c ∧ a' = c') → cmpJs o c c' (l.map toJ) (l'.map toJ) p q = cmpVs o a a' l l' p q := by
      intro o l
      induction l with
      | nil => intro l' a a' c c' p q _ _ _ _; rw [List.map_nil, cmpJs, cmpVs]
      | cons x r ih =>
        intro l' a a' c c' p q hd ho ho' hn
        rw [dszs] at hd
        rw [okVs] at ho
        cases l' with
        | nil => rw [List.map_cons, List.map_nil, cmpJs, cmpVs]
        | cons y t =>
          rw [okVs] at ho'
          rw [List.map_cons, List.map_cons, cmpJs, cmpVs, IH x (by omega) y ho.1 ho'.1]
          by_cases hot : o = true
          · obtain ⟨rfl, rfl⟩ := hn hot
            rw [ih t _ _ _ _ p q (by omega) ho.2 ho'.2 (fun _ => ⟨rfl, rfl⟩)]
          · rw [if_neg (show ¬ (o = true ∧ c.headD [] ≠ c'.headD []) from fun e => hot e.1), if_neg (show ¬ (o = true ∧ a.headD [] ≠ a'.headD []) from fun e => hot e.1), ih t a.tail a'.tail c.tail c'.tail p q (by omega) ho.2 ho'.2 (fun e => absurd e hot)]
    by_cases hr : rankV (.mk k b n s items names) = rankV (.mk k' b' n' s' items' names')
    · rw [if_neg (fun e => e hr)]
      rw [rankV_eq, rankV_eq] at hr
      have hkk : k = k' := by
        by_cases e0 : k = 0
        · rw [if_pos e0] at hr
          by_cases f0 : k' = 0
          · omega
          · rw [if_neg f0] at hr
            split at hr
            · split at hr <;> omega
            · omega
        · rw [if_neg e0] at hr
          by_cases e1 : k = 1
          · rw [if_pos e1] at hr
            by_cases f0 : k' = 0
            · rw [if_pos f0] at hr; split at hr <;> omega
            · rw [if_neg f0] at hr
              by_cases f1 : k' = 1
              · omega
              · rw [if_neg f1] at hr; split at hr <;> omega
          · rw [if_neg e1] at hr
            by_cases f0 : k' = 0
            · rw [if_pos f0] at hr; omega
            · rw [if_neg f0] at hr
              by_cases f1 : k' = 1
              · rw [if_pos f1] at hr; split at hr <;> omega
              · rw [if_neg f1] at hr; omega
      subst hkk
      rw [toJ_eq, toJ_eq]
      by_cases k0 : k = 0
      · subst k0
        rw [if_pos rfl, if_pos rfl, cmpJ]; rfl
      rw [if_neg k0, if_neg k0]
      by_cases k1 : k = 1
      · subst k1
        rw [if_pos rfl, if_pos rfl, cmpJ]
        have hbb : (if b = true then (3 : Int) else 2) = (if b' = true then 3 else 2) := by simpa using hr
        show cmpI (if b = true then 3 else 2) (if b' = true then 3 else 2) = 0
        rw [hbb]; exact cmpI_self _
      rw [if_neg k1, if_neg k1]
      by_cases k2 : k = 2
      · rw [if_pos k2, if_pos k2, if_pos k2, cmpJ]; rfl
      rw [if_neg k2, if_neg k2, if_neg k2]
      by_cases k3 : k = 3
      · rw [if_pos k3, if_pos k3, if_pos k3, cmpJ]; rfl
      rw [if_neg k3, if_neg k3, if_neg k3]
      by_cases k4 : k = 4
      · rw [if_pos k4, if_pos k4, if_pos (.inl k4), cmpJ, List.length_map, List.length_map]
        rw [show decide (k = 5) = false by simp; omega]
        exact HS false items items' names names' [] [] _ _ (by omega) (xs (.inl k4)) (ys (.inl k4)) (fun e => by cases e)
      rw [if_neg k4, if_neg k4]
      have k5 : k = 5 := by omega
      rw [if_pos k5, if_pos k5, if_pos (.inr k5), cmpJ, List.length_map, List.length_map]
      rw [show decide (k = 5) = true by simp; omega]
      exact HS true items items' names names' names names' _ _ (by omega) (xs (.inr k5)) (ys (.inr k5)) (fun _ => ⟨rfl, rfl⟩)
    · rw [if_pos hr, cmpJ_kind _ _ (by rw [kx, ky]; exact hr), kx, ky]
end Go.Proofs.YtphlggmhgfcmgaaGreatDoor
