/-
  Layer 5, plain laws: values are alike just if neither is ahead; no key begins another one.
-/
import Derived.Test.YtphlggmhgfcmgaaGreatDoorOOrder
import Derived.Test.YtphlggmhgfcmgaaGreatDoorOTold
import Derived.Test.YtphlggmhgfcmgaaGreatDoorJSame
namespace Go.Proofs.YtphlggmhgfcmgaaGreatDoor
open Go.RowKit Go.TL
set_option maxRecDepth 100000

theorem cmpI_eq0 {a b : Int} : cmpI a b = 0 ↔ a = b := by
  unfold cmpI
  constructor
  · intro h; repeat' split at h
    all_goals omega
  · intro h; rw [if_neg (by omega), if_neg (by omega)]
theorem same_cmp : ∀ (N : Nat) (x : J), jsz x ≤ N → ∀ y, knJ x → knJ y → nbJ x → nbJ y → (sameJ x y = true ↔ cmpJ x y = 0)
  | 0, x, h, _, _, _, _, _ => by cases x <;> (rw [jsz] at h; omega)
  | N + 1, x, h, y, kx, ky, hx, hy => by
    have IH := same_cmp N
    by_cases hk : kindJ x = kindJ y
    · cases x with
      | null =>
        rw [cmpJ, cmpI_eq0]
        cases y <;> simp only [kindJ] at hk
        · exact ⟨fun _ => rfl, fun _ => rfl⟩
        · split at hk <;> omega
        · omega
        · omega
        · omega
        · omega
        · rw [knJ] at ky; exact ky.elim
      | other k => rw [knJ] at kx; exact kx.elim
      | bool b =>
        rw [cmpJ, cmpI_eq0]
        cases y <;> simp only [kindJ] at hk
        · split at hk <;> omega
        · rename_i b'
          rw [sameJ, decide_eq_true_iff]
          cases b <;> cases b' <;> simp [kindJ]
        · split at hk <;> omega
        · split at hk <;> omega
        · split at hk <;> omega
        · split at hk <;> omega
        · rw [knJ] at ky; exact ky.elim
      | num a =>
        obtain ⟨b, rfl⟩ := kind4 (y := y) hk
        rw [sameJ, cmpJ, cmpI_eq0, decide_eq_true_iff]
      | text a =>
        obtain ⟨b, rfl⟩ := kind5 (y := y) hk
        rw [sameJ, cmpJ, decide_eq_true_iff]
        exact ⟨fun e => by rw [e]; exact cmpB_self b, cmpB_eq0⟩
      | list xs =>
        obtain ⟨ys, rfl⟩ := kind6 (y := y) hk
        rw [jsz] at h
        rw [knJ] at kx ky
        rw [nbJ] at hx hy
        have HS : ∀ (l l' : List J) (d : Nat), jszs l ≤ N → knJs l → knJs l' → nbJs l → nbJs l' → ((l.length = l'.length ∧ sames l l' = true) ↔ cmpJs false [] [] l l' (l.length + d) (l'.length + d) = 0) := by
          intro l
          induction l with
          | nil =>
            intro l' d _ _ _ _ _
            rw [cmpJs, cmpI_eq0]
            cases l' with
            | nil => exact ⟨fun _ => rfl, fun _ => ⟨rfl, rfl⟩⟩
            | cons y t => simp only [List.length_nil, List.length_cons]; constructor <;> intro h <;> omega
          | cons x r ih =>
            intro l' d hd k1 k2 n1 n2
            rw [jszs] at hd
            rw [knJs] at k1
            rw [nbJs] at n1
            cases l' with
            | nil => rw [cmpJs, cmpI_eq0]; simp only [List.length_nil, List.length_cons]; constructor <;> intro h <;> omega
            | cons y t =>
              rw [knJs] at k2
              rw [nbJs] at n2
              have h1 := IH x (by omega) y k1.1 k2.1 n1.1 n2.1
              have h2 := ih t (d + 1) (by omega) k1.2 k2.2 n1.2 n2.2
              rw [cmpJs, List.length_cons, List.length_cons, show r.length + 1 + d = r.length + (d + 1) by omega, show t.length + 1 + d = t.length + (d + 1) by omega, if_neg (by simp), sames, Bool.and_eq_true, h1]
              show _ ↔ (if cmpJ x y ≠ 0 then cmpJ x y else cmpJs false [] [] r t (r.length + (d + 1)) (t.length + (d + 1))) = 0
              by_cases h3 : cmpJ x y = 0
              · rw [if_neg (by simp [h3]), ← h2]
                constructor
                · rintro ⟨a, _, b⟩; exact ⟨by omega, b⟩
                · rintro ⟨a, b⟩; exact ⟨by omega, h3, b⟩
              · rw [if_pos h3]
                constructor
                · rintro ⟨_, a, _⟩; exact a
                · intro a; exact absurd a h3
        have := HS xs ys 0 (by omega) kx ky hx hy
        rw [sameJ, cmpJ, Bool.and_eq_true, decide_eq_true_iff]
        exact this
      | obj ns xs =>
        obtain ⟨ms, ys, rfl⟩ := kind7 (y := y) hk
        rw [jsz] at h
        rw [knJ] at kx ky
        rw [nbJ] at hx hy
        have HS : ∀ (l l' : List J) (a b : List (List UInt8)) (d : Nat), jszs l ≤ N → knJs l → knJs l' → nbJs l → nbJs l' → a.length = l.length → b.length = l'.length → ((l.length = l'.length ∧ sameo a l b l' = true) ↔ cmpJs true a b l l' (l.length + d) (l'.length + d) = 0) := by
          intro l
          induction l with
          | nil =>
            intro l' a b d _ _ _ _ _ ha hb
            obtain rfl : a = [] := List.eq_nil_of_length_eq_zero ha
            rw [cmpJs, cmpI_eq0]
            cases l' with
            | nil => exact ⟨fun _ => rfl, fun _ => ⟨rfl, by cases b <;> rfl⟩⟩
            | cons y t => simp only [List.length_nil, List.length_cons]; constructor <;> intro h <;> omega
          | cons x r ih =>
            intro l' a b d hd k1 k2 n1 n2 ha hb
            rw [jszs] at hd
            rw [knJs] at k1
            rw [nbJs] at n1
            obtain ⟨a0, ar, rfl⟩ : ∃ a0 ar, a = a0 :: ar := by cases a with | nil => simp at ha | cons a0 ar => exact ⟨_, _, rfl⟩
            cases l' with
            | nil => rw [cmpJs, cmpI_eq0]; simp only [List.length_nil, List.length_cons]; constructor <;> intro h <;> omega
            | cons y t =>
              rw [knJs] at k2
              rw [nbJs] at n2
              obtain ⟨b0, br, rfl⟩ : ∃ b0 br, b = b0 :: br := by cases b with | nil => simp at hb | cons b0 br => exact ⟨_, _, rfl⟩
              have h1 := IH x (by omega) y k1.1 k2.1 n1.1 n2.1
              have h2 := ih t ar br (d + 1) (by omega) k1.2 k2.2 n1.2 n2.2 (by simpa using ha) (by simpa using hb)
              rw [cmpJs, List.length_cons, List.length_cons, show r.length + 1 + d = r.length + (d + 1) by omega, show t.length + 1 + d = t.length + (d + 1) by omega, sameo, Bool.and_eq_true, Bool.and_eq_true, decide_eq_true_iff, h1]
              show _ ↔ (if true = true ∧ a0 ≠ b0 then cmpB a0 b0 else if cmpJ x y ≠ 0 then cmpJ x y else cmpJs true ar br r t (r.length + (d + 1)) (t.length + (d + 1))) = 0
              by_cases h0 : a0 = b0
              · rw [if_neg (fun e => e.2 h0)]
                by_cases h3 : cmpJ x y = 0
                · rw [if_neg (by simp [h3]), ← h2]
                  constructor
                  · rintro ⟨p, _, q⟩; exact ⟨by omega, q⟩
                  · rintro ⟨p, q⟩; exact ⟨by omega, ⟨h0, h3⟩, q⟩
                · rw [if_pos h3]
                  constructor
                  · rintro ⟨_, ⟨_, p⟩, _⟩; exact p
                  · intro p; exact absurd p h3
              · rw [if_pos ⟨rfl, h0⟩]
                constructor
                · rintro ⟨_, ⟨p, _⟩, _⟩; exact absurd p h0
                · intro p; exact absurd (cmpB_eq0 p) h0
        have := HS xs ys ns ms 0 (by omega) kx ky hx.2 hy.2 hx.1 hy.1
        rw [sameJ, cmpJ, Bool.and_eq_true, decide_eq_true_iff]
        exact this
    · rw [cmpJ_kind x y hk, cmpI_eq0]
      refine ⟨fun e => ?_, fun e => absurd e hk⟩
      cases x <;> cases y <;> first | (exfalso; exact hk rfl) | (cases e; done) | skip
      rename_i b b'
      rw [sameJ, decide_eq_true_iff] at e
      rw [e]
/-- What OrderHolds asks for, of two values that may be. -/
theorem holds_law {x y : DV} (hx : mayV x 0 = 0) (hy : mayV y 0 = 0) (bx : nbJ (toJ x)) (b2 : nbJ (toJ y)) : (cmpV x y = -1 ∧ Op.bytesLess (keyJ (toJ x)) (keyJ (toJ y)) = true ∧ keyJ (toJ x) ≠ keyJ (toJ y) ∧ SameJ (toJ x) (toJ y) = false ∧ (keyJ (toJ y)).take (keyJ (toJ x)).length ≠ keyJ (toJ x)) ∨
    (cmpV x y = 1 ∧ Op.bytesLess (keyJ (toJ x)) (keyJ (toJ y)) = false ∧ keyJ (toJ x) ≠ keyJ (toJ y) ∧ SameJ (toJ x) (toJ y) = false ∧ (keyJ (toJ y)).take (keyJ (toJ x)).length ≠ keyJ (toJ x)) ∨
    (cmpV x y = 0 ∧ Op.bytesLess (keyJ (toJ x)) (keyJ (toJ y)) = false ∧ keyJ (toJ x) = keyJ (toJ y) ∧ SameJ (toJ x) (toJ y) = true) := by
  have l1 := look_toJ _ x (Nat.le_refl _) 0
  have l2 := look_toJ _ y (Nat.le_refl _) 0
  rw [hx] at l1
  rw [hy] at l2
  have hs := same_cmp _ (toJ x) (Nat.le_refl _) (toJ y) (kn_look _ 0 l1) (kn_look _ 0 l2) bx b2
  rw [cmp_toJ _ x (Nat.le_refl _) y (ok_may' x 0 hx) (ok_may' y 0 hy)] at hs
  have hS : SameJ (toJ x) (toJ y) = sameJ (toJ x) (toJ y) := by unfold SameJ; rw [l1, l2]; rfl
  rw [hS]
  have hpc := key_order _ (toJ x) (Nat.le_refl _) (toJ y) bx b2
  rw [cmp_toJ _ x (Nat.le_refl _) y (ok_may' x 0 hx) (ok_may' y 0 hy)] at hpc
  have hc := hpc.is
  have hbd := cmpV_bd x y
  have hpre : cmpV x y ≠ 0 → (keyJ (toJ y)).take (keyJ (toJ x)).length ≠ keyJ (toJ x) := fun h0 e => by
    obtain ⟨w, hw⟩ : ∃ w, keyJ (toJ y) = keyJ (toJ x) ++ w := ⟨_, by conv => lhs; rw [← List.take_append_drop (keyJ (toJ x)).length (keyJ (toJ y)), e]⟩
    have h1 := hpc w []
    rw [if_pos h0, List.append_nil, ← hw, cmpB_self] at h1
    exact h0 h1.symm
  have hne : cmpV x y ≠ 0 → sameJ (toJ x) (toJ y) = false := fun h0 => by
    cases e : sameJ (toJ x) (toJ y) with
    | false => rfl
    | true => exact absurd (hs.1 e) h0
  unfold cmpB at hc
  by_cases h1 : Op.bytesLess (keyJ (toJ x)) (keyJ (toJ y)) = true
  · rw [if_pos h1] at hc
    refine .inl ⟨hc.symm, h1, fun e => ?_, hne (by omega), hpre (by omega)⟩
    have h2 := cmpB_self (keyJ (toJ x))
    unfold cmpB at h2
    rw [← e] at h1
    rw [if_pos h1] at h2
    omega
  · rw [if_neg h1] at hc
    rw [Bool.not_eq_true] at h1
    by_cases h2 : keyJ (toJ x) = keyJ (toJ y)
    · rw [if_pos h2] at hc
      exact .inr (.inr ⟨hc.symm, h1, h2, hs.2 hc.symm⟩)
    · rw [if_neg h2] at hc
      exact .inr (.inl ⟨hc.symm, h1, h2, hne (by omega), hpre (by omega)⟩)
end Go.Proofs.YtphlggmhgfcmgaaGreatDoor
