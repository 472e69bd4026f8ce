/-
  The plain law of layer 18's bytes: what is read is what was written.
-/
import Derived.Test.YtdlijjmjfepklaaGet
import Derived.Test.YtdlijjmjfepklaaPack
namespace Go.Proofs.Ytdlijjmjfepklaa
open Go.RowKit

theorem u8_of (c : UInt8) : UInt8.ofNat c.toNat = c := by simp
theorem rd_step {most f m : Nat} {c : UInt8} {r : List UInt8} (h : ¬ (f + 1 = 8 ∧ c.toNat = 128)) : rdGo most (f + 1) m (c :: r) = if c.toNat < 128 then (if m * 128 + c.toNat % 128 ≤ most then some (m * 128 + c.toNat % 128, r) else none) else rdGo most f (m * 128 + c.toNat % 128) r := by
  rw [rdGo, if_neg h]

/-- What was read stands there as it is written. -/
theorem rdGo_inv (most : Nat) : ∀ (f m : Nat) (s : List UInt8) (n : Nat) (t : List UInt8), f ≤ 8 → (f < 8 → 0 < m) → (f = 8 → m = 0) → rdGo most f m s = some (n, t) → hiB m ++ s = numB n ++ t := by
  intro f
  induction f with
  | zero => intro m s n t _ _ _ h; simp [rdGo] at h
  | succ f ih =>
    intro m s n t hf h1 h2 h
    cases s with
    | nil => simp [rdGo] at h
    | cons c r =>
      have hc := c.toNat_lt
      by_cases h8 : f + 1 = 8 ∧ c.toNat = 128
      · rw [rdGo, if_pos h8] at h; simp at h
      · rw [rd_step h8] at h
        by_cases hl : c.toNat < 128
        · rw [if_pos hl] at h
          split at h
          · simp only [Option.some.injEq, Prod.mk.injEq] at h
            obtain ⟨rfl, rfl⟩ := h
            have e1 : (m * 128 + c.toNat % 128) / 128 = m := by omega
            have e2 : (m * 128 + c.toNat % 128) % 128 = c.toNat := by omega
            rw [numB, e1, e2, u8_of]; simp
          · simp at h
        · rw [if_neg hl] at h
          have hpos : 0 < m * 128 + c.toNat % 128 := by
            by_cases e : f + 1 = 8
            · have : c.toNat ≠ 128 := fun e2 => h8 ⟨e, e2⟩
              omega
            · have := h1 (by omega); omega
          have := ih _ _ _ _ (by omega) (fun _ => hpos) (fun e => by omega) h
          rw [← this, hiB_pos hpos]
          have e1 : (m * 128 + c.toNat % 128) / 128 = m := by omega
          have e2 : (m * 128 + c.toNat % 128) % 128 + 128 = c.toNat := by omega
          rw [e1, e2, u8_of]; simp
theorem rdNum_inv {most n : Nat} {s t : List UInt8} (h : rdNum most s = some (n, t)) : s = numB n ++ t := by
  have := rdGo_inv most 8 0 s n t (by omega) (by omega) (by omega) h
  rwa [hiB_zero, List.nil_append] at this

theorem ofNat_toNat {x : Nat} (h : x < 256) : (UInt8.ofNat x).toNat = x := by simp; omega
/-- Through the high digits. -/
theorem rdGo_hi (most : Nat) (s : List UInt8) : ∀ (b x : Nat), x ≤ b → 0 < x → (hiB x).length ≤ 7 → rdGo most 8 0 (hiB x ++ s) = rdGo most (8 - (hiB x).length) x s ∧ gtGo 8 0 (hiB x ++ s) = gtGo (8 - (hiB x).length) x s ∧ 0 < (hiB x).length := by
  intro b
  induction b generalizing s with
  | zero => intro x h1 h2; omega
  | succ b ih =>
    intro x hb hx hl
    have hd : (UInt8.ofNat (x % 128 + 128)).toNat = x % 128 + 128 := ofNat_toNat (by omega)
    rw [hiB_pos hx] at hl ⊢
    rw [List.length_append, List.length_singleton] at hl ⊢
    by_cases h0 : x / 128 = 0
    · rw [h0, hiB_zero]
      refine ⟨?_, ?_, by simp⟩
      · show rdGo most (7 + 1) 0 (_ :: s) = _
        rw [rd_step (by rw [hd]; omega), hd, if_neg (by omega)]
        simp only [List.length_nil]
        congr 1
        omega
      · show gtGo (7 + 1) 0 (_ :: s) = _
        rw [gtGo, hd, if_neg (by omega)]
        simp only [List.length_nil]
        congr 1
        omega
    · obtain ⟨i1, i2, i3⟩ := ih (UInt8.ofNat (x % 128 + 128) :: s) (x / 128) (by omega) (by omega) (by omega)
      obtain ⟨f, hf⟩ : ∃ f, 8 - (hiB (x / 128)).length = f + 1 := ⟨7 - (hiB (x / 128)).length, by omega⟩
      refine ⟨?_, ?_, by omega⟩
      · rw [List.append_assoc, List.singleton_append, i1, hf, rd_step (by omega), hd, if_neg (by omega), show 8 - ((hiB (x / 128)).length + 1) = f by omega]
        congr 1; omega
      · rw [List.append_assoc, List.singleton_append, i2, hf, gtGo, hd, if_neg (by omega), show 8 - ((hiB (x / 128)).length + 1) = f by omega]
        congr 1; omega
theorem num_fwd {most n : Nat} (t : List UInt8) (h : n ≤ most) (hm : n ≤ 9007199254740992) : rdNum most (numB n ++ t) = some (n, t) ∧ gtNum (numB n ++ t) = some (n, t) := by
  have hd : (UInt8.ofNat (n % 128)).toNat = n % 128 := ofNat_toNat (by omega)
  have hlen : (hiB (n / 128)).length ≤ 7 := hiB_length 7 _ (by have : (128 : Nat) ^ 7 = 562949953421312 := by decide
                                                               omega)
  unfold rdNum gtNum
  rw [numB, List.append_assoc, List.singleton_append]
  by_cases h0 : n / 128 = 0
  · rw [h0, hiB_zero, List.nil_append]
    constructor
    · rw [rd_step (by rw [hd]; omega), hd, if_pos (by omega), if_pos (by omega)]
      congr 2; omega
    · rw [gtGo, hd, if_pos (by omega)]
      congr 2; omega
  · obtain ⟨i1, i2, i3⟩ := rdGo_hi most (UInt8.ofNat (n % 128) :: t) (n / 128) (n / 128) (Nat.le_refl _) (by omega) hlen
    obtain ⟨f, hf⟩ : ∃ f, 8 - (hiB (n / 128)).length = f + 1 := ⟨7 - (hiB (n / 128)).length, by omega⟩
    constructor
    · rw [i1, hf, rd_step (by omega), hd, if_pos (by omega), if_pos (by omega)]
      congr 2; omega
    · rw [i2, hf, gtGo, hd, if_pos (by omega)]
      congr 2; omega
end Go.Proofs.Ytdlijjmjfepklaa
