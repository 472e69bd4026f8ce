/-
  Layer 3, the plain law: a number's plain text is read as it was.
-/
import Derived.Test.YtlffebmhknilhaaDoorShiftLaw
import Derived.Test.YtlffebmhknilhaaDoorPrint
namespace Go.Proofs.YtlffebmhknilhaaDoor
open Go.RowKit

theorem dig_byte {d : Nat} (h : d < 10) : (UInt8.ofNat (48 + d)).toNat = 48 + d := by
  rw [UInt8.toNat_ofNat']; omega
theorem dig_fig {d : Nat} (h : d < 10) : isFig (UInt8.ofNat (48 + d)) = true := by
  rw [isFig, dig_byte h, Bool.and_eq_true, decide_eq_true_iff, decide_eq_true_iff]; omega
theorem dec_figs : ∀ (u : Nat), ∀ c ∈ Lib.decDigits u, isFig c = true := by
  intro u
  induction u using Nat.strongRecOn with
  | _ u ih =>
    intro c hc
    rw [Lib.decDigits] at hc
    split at hc
    · rw [List.mem_singleton.1 hc]; exact dig_fig (by omega)
    · rcases List.mem_append.1 hc with h | h
      · exact ih (u / 10) (by omega) c h
      · rw [List.mem_singleton.1 h]; exact dig_fig (by omega)
theorem dec_val : ∀ (u : Nat), valD (Lib.decDigits u) = u := by
  intro u
  induction u using Nat.strongRecOn with
  | _ u ih =>
    rw [Lib.decDigits]
    split
    · show 10 * 0 + ((UInt8.ofNat (48 + u)).toNat - 48) = u
      rw [dig_byte (by omega)]; omega
    · rw [valD_snoc, ih (u / 10) (by omega), dig_byte (by omega)]; omega
theorem dec_ne (u : Nat) : Lib.decDigits u ≠ [] := by
  intro h
  have := Lib.decDigits_length u
  rw [h] at this
  have := Lib.nDigits_pos u
  simp at *
  omega
theorem dec_head : ∀ (u : Nat), 0 < u → (Lib.decDigits u).head? ≠ some 48 := by
  intro u
  induction u using Nat.strongRecOn with
  | _ u ih =>
    intro hu
    rw [Lib.decDigits]
    split
    · rename_i h
      intro e
      have e2 : UInt8.ofNat (48 + u) = 48 := Option.some.inj e
      have := congrArg UInt8.toNat e2
      rw [dig_byte h] at this
      have h3 : (48 : UInt8).toNat = 48 := rfl
      omega
    · have := ih (u / 10) (by omega) (by omega)
      cases hd : Lib.decDigits (u / 10) with
      | nil => exact absurd hd (dec_ne _)
      | cons c r => rw [hd] at this; exact this
theorem dec_zero (u : Nat) (h : (Lib.decDigits u).head? = some 48) : Lib.decDigits u = [48] := by
  rcases Nat.eq_zero_or_pos u with rfl | h0
  · rw [Lib.decDigits]; rfl
  · exact absurd h (dec_head u h0)

theorem pad_figs (r : Nat) : ∀ c ∈ List.replicate (7 - (Lib.decDigits r).length) 48 ++ Lib.decDigits r, isFig c = true := fun c hc => by
  rcases List.mem_append.1 hc with h | h
  · rw [List.eq_of_mem_replicate h]; rfl
  · exact dec_figs r c h
theorem rest_val {r : Nat} (h : r < 10000000) : (restL r).length ≤ 7 ∧ valD (restL r) * 10 ^ (7 - (restL r).length) = r := by
  have hl : (List.replicate (7 - (Lib.decDigits r).length) (48 : UInt8) ++ Lib.decDigits r).length = 7 := by
    have := dec_len (u := r) (k := 7) (by omega) (by omega)
    rw [List.length_append, List.length_replicate]; omega
  have h1 := trimR_val (List.replicate (7 - (Lib.decDigits r).length) 48 ++ Lib.decDigits r)
  rw [valD_lead, dec_val, hl] at h1
  have h2 := trimR_le (List.replicate (7 - (Lib.decDigits r).length) 48 ++ Lib.decDigits r)
  rw [hl] at h2
  exact ⟨h2, h1.symm⟩
theorem rest_ne {r : Nat} (h : r < 10000000) (h0 : r ≠ 0) : restL r ≠ [] := by
  intro e
  have := (rest_val h).2
  rw [e] at this
  exact h0 (by simpa [valD] using this.symm)

/-- The figures behind the point, none for 0. -/
def restF (r : Nat) : List UInt8 := if r = 0 then [] else restL r
theorem restF_val {r : Nat} (h : r < 10000000) : (restF r).length ≤ 7 ∧ valD (restF r) * 10 ^ (7 - (restF r).length) = r := by
  unfold restF
  split
  · rename_i h0; subst h0; exact ⟨by simp, rfl⟩
  · exact rest_val h
theorem print_form {n : Int} (h : ¬ (n < -9000000000000000000 ∨ 9000000000000000000 < n)) :
    Form (printL n).1 (pc (decide (n < 0)) (Lib.decDigits (n.natAbs / 10000000)) (restF (n.natAbs % 10000000)) [] false) [] := by
  rw [printL, if_neg h]
  have hr : n.natAbs % 10000000 < 10000000 := by omega
  refine ⟨?_, dec_ne _, dec_figs _, ?_, dec_zero _, .inl ⟨rfl, rfl, rfl⟩⟩
  · unfold pc restF
    simp only [List.append_nil, decide_eq_true_eq]
    by_cases h0 : n.natAbs % 10000000 = 0
    · rw [if_pos h0, if_pos h0]; simp
    · rw [if_neg h0, if_neg h0, if_neg (rest_ne hr h0)]
  · intro c hc
    unfold pc restF at hc
    simp only [] at hc
    split at hc
    · cases hc
    · exact pad_figs _ c (trimR_mem hc)
theorem print_back {n : Int} (h : ¬ (n < -9000000000000000000 ∨ 9000000000000000000 < n)) : parseL (printL n).1 = (n, 0) := by
  have hf := print_form h
  obtain ⟨q, hq⟩ : ∃ q, q = n.natAbs / 10000000 := ⟨_, rfl⟩
  obtain ⟨r, hr⟩ : ∃ r, r = n.natAbs % 10000000 := ⟨_, rfl⟩
  rw [← hq, ← hr] at hf
  obtain ⟨R, hR⟩ : ∃ R, R = restF r := ⟨_, rfl⟩
  obtain ⟨r1, r2⟩ := restF_val (r := r) (by omega)
  rw [← hR] at hf r1 r2
  have hql : (Lib.decDigits q).length ≤ 20 := dec_len (by omega) (by omega)
  have hlen : (printL n).1.length ≤ 65536 := by
    have := congrArg List.length hf.eq
    unfold pc at this
    simp only [List.length_append, List.length_nil] at this
    split at this <;> split at this <;> simp at this <;> omega
  rw [parse_fwd hf hlen, shift_none]
  have hD : valD (Lib.decDigits q ++ R) * 10 ^ (7 - R.length) = n.natAbs := by
    rw [valD_append, dec_val, Nat.add_mul, r2, Nat.mul_assoc, ← Nat.pow_add, show R.length + (7 - R.length) = 7 by omega]
    omega
  by_cases h0 : trimL (Lib.decDigits q ++ R) = []
  · have hv : valD (Lib.decDigits q ++ R) = 0 := by rw [← trimL_val, h0]; rfl
    rw [hv, Nat.zero_mul] at hD
    rw [numOf_zero h0, show n = 0 by omega]
  · rw [numOf_step (A := trimL (Lib.decDigits q ++ R)) (B := trimR (trimL (Lib.decDigits q ++ R))) (P := ((trimL (Lib.decDigits q ++ R)).length : Int) - R.length + 0 + 7) rfl rfl rfl h0]
    have hA := trimL_le (Lib.decDigits q ++ R)
    rw [List.length_append] at hA
    have hB := trimR_le (trimL (Lib.decDigits q ++ R))
    have hvA := trimR_val (trimL (Lib.decDigits q ++ R))
    rw [trimL_val] at hvA
    generalize trimR (trimL (Lib.decDigits q ++ R)) = B at *
    generalize trimL (Lib.decDigits q ++ R) = A at *
    have hexp : ((A.length : Int) - R.length + 0 + 7 - B.length).toNat = (A.length - B.length) + (7 - R.length) := by omega
    have hN : valD B * 10 ^ ((A.length : Int) - R.length + 0 + 7 - B.length).toNat = n.natAbs := by
      rw [hexp, Nat.pow_add, ← Nat.mul_assoc, ← hvA]; exact hD
    rw [if_neg (by omega), hN, if_neg (by omega)]
    unfold pc
    simp only [decide_eq_true_eq]
    by_cases hn : n < 0
    · rw [if_pos hn]; congr 1; omega
    · rw [if_neg hn]; congr 1; omega
theorem print_scan {n : Int} (h : ¬ (n < -9000000000000000000 ∨ 9000000000000000000 < n)) : scanL (printL n).1 = (printL n).1.length := scan_fwd (print_form h)
end Go.Proofs.YtlffebmhknilhaaDoor
