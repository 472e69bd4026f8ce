/-
  Layer 3, the plain law: what a number's text says, by the program's way and by the document's.
-/
import Derived.Test.YthifckfpjmhmjaaDoorNumSpec
namespace Go.Proofs.YthifckfpjmhmjaaDoor
open Go.RowKit

/-- A row of figures as a number. -/
def valD (l : List UInt8) : Nat := l.foldl (fun n c => 10 * n + (c.toNat - 48)) 0
theorem valD_foldl : ∀ (l : List UInt8) (a : Nat), l.foldl (fun n c => 10 * n + (c.toNat - 48)) a = a * 10 ^ l.length + valD l := by
  intro l
  induction l with
  | nil => intro a; simp [valD]
  | cons c r ih =>
    intro a
    have e : valD (c :: r) = (c.toNat - 48) * 10 ^ r.length + valD r := by
      have := ih (c.toNat - 48)
      show List.foldl (fun n c => 10 * n + (c.toNat - 48)) 0 (c :: r) = _
      rw [List.foldl_cons]
      simpa using this
    rw [List.foldl_cons, ih, e, List.length_cons, Nat.pow_succ, Nat.add_mul, ← Nat.mul_assoc, Nat.mul_comm 10 a, Nat.mul_assoc, Nat.mul_comm 10 (10 ^ r.length)]
    simp only [Nat.mul_assoc]
    omega
theorem valD_append (a b : List UInt8) : valD (a ++ b) = valD a * 10 ^ b.length + valD b := by
  rw [valD, List.foldl_append, valD_foldl]; rfl
theorem valD_snoc (a : List UInt8) (c : UInt8) : valD (a ++ [c]) = 10 * valD a + (c.toNat - 48) := by
  rw [valD, List.foldl_append]; rfl
theorem valD_lt : ∀ (l : List UInt8), (∀ c ∈ l, isFig c = true) → valD l < 10 ^ l.length := by
  intro l
  induction l with
  | nil => intro _; simp [valD]
  | cons c r ih =>
    intro h
    have h1 := ih fun d hd => h d (List.mem_cons_of_mem _ hd)
    have hc := h c List.mem_cons_self
    have e : valD (c :: r) = (c.toNat - 48) * 10 ^ r.length + valD r := by
      have := valD_append [c] r
      simpa [valD] using this
    simp only [isFig, Bool.and_eq_true, decide_eq_true_eq] at hc
    rw [e, List.length_cons, Nat.pow_succ]
    have : (c.toNat - 48) * 10 ^ r.length ≤ 9 * 10 ^ r.length := Nat.mul_le_mul_right _ (by omega)
    omega
theorem valD_zeros (k : Nat) : valD (List.replicate k 48) = 0 := by
  induction k with
  | zero => rfl
  | succ k ih => rw [List.replicate_succ', valD_snoc, ih]; rfl
theorem valD_shift (a : List UInt8) (k : Nat) : valD (a ++ List.replicate k 48) = valD a * 10 ^ k := by
  rw [valD_append, valD_zeros, List.length_replicate]; rfl
theorem valD_lead (k : Nat) (a : List UInt8) : valD (List.replicate k 48 ++ a) = valD a := by
  rw [valD_append, valD_zeros]; omega
theorem valD_ge {c : UInt8} {r : List UInt8} (hc : isFig c = true) (h0 : c ≠ 48) : 10 ^ r.length ≤ valD (c :: r) := by
  have e : valD (c :: r) = (c.toNat - 48) * 10 ^ r.length + valD r := by
    have := valD_append [c] r
    simpa [valD] using this
  simp only [isFig, Bool.and_eq_true, decide_eq_true_eq] at hc
  have h1 : c.toNat ≠ 48 := fun h => h0 (UInt8.toNat_inj.1 (by rw [h]; rfl))
  rw [e]
  have : 1 * 10 ^ r.length ≤ (c.toNat - 48) * 10 ^ r.length := Nat.mul_le_mul_right _ (by omega)
  omega

/-- Without the 0 ahead; without those behind. -/
def trimL (s : List UInt8) : List UInt8 := s.dropWhile (· == 48)
def trimR (s : List UInt8) : List UInt8 := (s.reverse.dropWhile (· == 48)).reverse
theorem dropWhile_split : ∀ (s : List UInt8), s = List.replicate (s.length - (s.dropWhile (· == 48)).length) 48 ++ s.dropWhile (· == 48) := by
  intro s
  induction s with
  | nil => rfl
  | cons c r ih =>
    rw [List.dropWhile_cons]
    split
    · rename_i h
      obtain rfl : c = 48 := by simpa using h
      have h1 : (r.dropWhile (· == 48)).length ≤ r.length := (List.dropWhile_sublist _).length_le
      rw [List.length_cons, show r.length + 1 - (r.dropWhile (· == 48)).length = (r.length - (r.dropWhile (· == 48)).length) + 1 by omega, List.replicate_succ, List.cons_append, ← ih]
    · simp
theorem trimL_split (s : List UInt8) : s = List.replicate (s.length - (trimL s).length) 48 ++ trimL s := dropWhile_split s
theorem trimR_split (s : List UInt8) : s = trimR s ++ List.replicate (s.length - (trimR s).length) 48 := by
  have h := congrArg List.reverse (dropWhile_split s.reverse)
  rw [List.reverse_reverse, List.reverse_append, List.reverse_replicate] at h
  rw [trimR, List.length_reverse]
  rw [List.length_reverse] at h
  exact h
theorem trimL_le (s : List UInt8) : (trimL s).length ≤ s.length := (List.dropWhile_sublist _).length_le
theorem trimR_le (s : List UInt8) : (trimR s).length ≤ s.length := by
  rw [trimR, List.length_reverse]
  have := (List.dropWhile_sublist (l := s.reverse) (· == 48)).length_le
  simpa using this
theorem trimL_val (s : List UInt8) : valD (trimL s) = valD s := by
  conv => rhs; rw [trimL_split s]
  rw [valD_lead]
theorem trimL_head {s r : List UInt8} {c : UInt8} (h : trimL s = c :: r) : c ≠ 48 := by
  have := List.head?_dropWhile_not (p := (· == (48 : UInt8))) (l := s)
  intro e
  rw [trimL] at h
  rw [h] at this
  simp [e] at this
theorem trimL_mem {s : List UInt8} {c : UInt8} (h : c ∈ trimL s) : c ∈ s := (List.dropWhile_sublist _).mem h
theorem trimR_mem {s : List UInt8} {c : UInt8} (h : c ∈ trimR s) : c ∈ s := by
  rw [trimR, List.mem_reverse] at h
  have := (List.dropWhile_sublist _).mem h
  simpa using this
theorem trimR_val (s : List UInt8) : valD s = valD (trimR s) * 10 ^ (s.length - (trimR s).length) := by
  conv => lhs; rw [trimR_split s]
  rw [valD_shift]

/-- By how much a power moves the point: the program's, and the document's. -/
def shiftOf (far : Nat) (p : Pc) : Int := let n : Int := if (trimL p.power).length ≤ 6 then (valD p.power : Int) else (far : Int); if p.down then -n else n
/-- The number of pieces, an error's number. -/
def numOf (sh : Int) (p : Pc) : Int × Int :=
  let all := trimL (p.whole ++ p.rest)
  if all = [] then (0, 0) else
  let all2 := trimR all
  let point := (all.length : Int) - p.rest.length + sh + 7
  if point < all2.length ∨ 40 < point then (0, 12) else
  let n := valD all2 * 10 ^ (point - all2.length).toNat
  if 9000000000000000000 < n then (0, 12) else (if p.minus then -(n : Int) else n, 0)
def parseL (s : List UInt8) : Int × Int :=
  if 65536 < s.length then (0, 9) else
  match cutL s with
  | none => (0, 11)
  | some p => if p.size = s.length then numOf (shiftOf 1048576 p) p else (0, 11)

/-- By the document's way. -/
def numR (sh : Int) (p : Pc) : Int × Int :=
  let all := trimL (p.whole ++ p.rest)
  let all2 := trimR all
  let power := sh - p.rest.length + 7 + ((all.length - all2.length : Nat) : Int)
  if all2 = [] then (0, 0) else
  if power < 0 ∨ 19 < (all2.length : Int) + power then (0, 12) else
  let n := valD all2 * 10 ^ power.toNat
  if 9000000000000000000 < n then (0, 12) else (if p.minus then -(n : Int) else n, 0)

theorem trimR_nil {s : List UInt8} : trimR (trimL s) = [] ↔ trimL s = [] := by
  constructor
  · intro h
    cases hl : trimL s with
    | nil => rfl
    | cons c r =>
      have h2 := trimR_split (trimL s)
      rw [h, hl, List.nil_append] at h2
      have : c ∈ List.replicate (c :: r).length (48 : UInt8) := by
        have h3 : (c :: r).length - ([] : List UInt8).length = (c :: r).length := by simp
        rw [h3] at h2
        rw [← h2]; exact List.mem_cons_self
      exact absurd (List.eq_of_mem_replicate this) (trimL_head hl)
  · intro h; rw [h]; rfl
theorem trim_big {s : List UInt8} (hs : ∀ c ∈ s, isFig c = true) (hne : trimL s ≠ []) : 10 ^ ((trimR (trimL s)).length - 1) ≤ valD (trimR (trimL s)) := by
  cases hl : trimL s with
  | nil => exact absurd hl hne
  | cons c r =>
    have h1 := trimL_head hl
    have hc : isFig c = true := hs c (trimL_mem (by rw [hl]; exact List.mem_cons_self))
    cases h2 : trimR (c :: r) with
    | nil => exact absurd (trimR_nil.1 (by rw [hl]; exact h2)) hne
    | cons d t =>
      have h3 := trimR_split (c :: r)
      rw [h2, List.cons_append] at h3
      obtain ⟨rfl, _⟩ := List.cons.inj h3
      have := valD_ge (r := t) hc h1
      simpa using this

theorem numR_eq (sh : Int) (p : Pc) (hf : ∀ c ∈ p.whole ++ p.rest, isFig c = true) : numR sh p = numOf sh p := by
  unfold numR numOf
  simp only []
  by_cases h0 : trimL (p.whole ++ p.rest) = []
  · rw [if_pos h0, if_pos (trimR_nil.2 h0)]
  · rw [if_neg h0, if_neg (fun h => h0 (trimR_nil.1 h))]
    have hle := trimR_le (trimL (p.whole ++ p.rest))
    have hbig := trim_big hf h0
    have hpos : 0 < (trimR (trimL (p.whole ++ p.rest))).length := by
      rcases Nat.eq_zero_or_pos (trimR (trimL (p.whole ++ p.rest))).length with h | h
      · exact absurd (trimR_nil.1 (List.eq_nil_of_length_eq_zero h)) h0
      · exact h
    generalize hA : trimR (trimL (p.whole ++ p.rest)) = A at *
    generalize trimL (p.whole ++ p.rest) = L at *
    have e : sh - (p.rest.length : Int) + 7 + ((L.length - A.length : Nat) : Int) = (L.length : Int) - p.rest.length + sh + 7 - A.length := by omega
    rw [e]
    generalize hP : (L.length : Int) - p.rest.length + sh + 7 = P at *
    by_cases h1 : P < A.length
    · rw [if_pos (.inl (by omega)), if_pos (.inl h1)]
    · by_cases h2 : 19 < P
      · rw [if_pos (.inr (by omega))]
        by_cases h3 : 40 < P
        · rw [if_pos (.inr h3)]
        · rw [if_neg (by omega), if_pos]
          obtain ⟨k, hk⟩ : ∃ k, (P - A.length).toNat = k := ⟨_, rfl⟩
          rw [hk]
          have h4 : 10 ^ (A.length - 1) * 10 ^ k ≤ valD A * 10 ^ k := Nat.mul_le_mul_right _ hbig
          rw [← Nat.pow_add] at h4
          have h5 : 10 ^ 19 ≤ 10 ^ (A.length - 1 + k) := Nat.pow_le_pow_right (by omega) (by omega)
          have h6 : (10 : Nat) ^ 19 = 10000000000000000000 := by decide
          omega
      · rw [if_neg (show ¬ (P - (A.length : Int) < 0 ∨ 19 < (A.length : Int) + (P - A.length)) by omega), if_neg (show ¬ (P < (A.length : Int) ∨ 40 < P) by omega)]

theorem trimL_valge {l : List UInt8} (hf : ∀ c ∈ l, isFig c = true) (h : 6 < (trimL l).length) : 1000000 ≤ valD l := by
  rw [← trimL_val]
  cases hl : trimL l with
  | nil => rw [hl] at h; simp at h
  | cons c r =>
    have := valD_ge (r := r) (hf c (trimL_mem (by rw [hl]; exact List.mem_cons_self))) (trimL_head hl)
    rw [hl] at h
    have h5 : 10 ^ 6 ≤ 10 ^ r.length := Nat.pow_le_pow_right (by omega) (by simp at h; omega)
    omega
theorem trimL_vallt {l : List UInt8} (hf : ∀ c ∈ l, isFig c = true) (h : ¬ 6 < (trimL l).length) : valD l < 1000000 := by
  rw [← trimL_val]
  have := valD_lt (trimL l) fun c hc => hf c (trimL_mem hc)
  have h5 : 10 ^ (trimL l).length ≤ 10 ^ 6 := Nat.pow_le_pow_right (by omega) (by omega)
  omega
/-- The document's shift. -/
def shiftR (p : Pc) : Int := if p.down then -((min (valD p.power) 1000000 : Nat) : Int) else ((min (valD p.power) 1000000 : Nat) : Int)
theorem shiftR_eq (p : Pc) (hf : ∀ c ∈ p.power, isFig c = true) : shiftR p = shiftOf 1000000 p := by
  unfold shiftR shiftOf
  simp only []
  by_cases h : 6 < (trimL p.power).length
  · have := trimL_valge hf h
    rw [if_neg (show ¬ (trimL p.power).length ≤ 6 by omega), Nat.min_eq_right this]
  · have := trimL_vallt hf h
    rw [if_pos (show (trimL p.power).length ≤ 6 by omega), Nat.min_eq_left (by omega)]
theorem numOf_far (p : Pc) (h1 : p.whole.length ≤ 65536) (h2 : p.rest.length ≤ 65536) : numOf (shiftOf 1048576 p) p = numOf (shiftOf 1000000 p) p := by
  unfold shiftOf
  simp only []
  by_cases h : (trimL p.power).length ≤ 6
  · rw [if_pos h, if_pos h]
  · rw [if_neg h, if_neg h]
    have hl := trimL_le (p.whole ++ p.rest)
    rw [List.length_append] at hl
    unfold numOf
    simp only []
    by_cases h0 : trimL (p.whole ++ p.rest) = []
    · rw [if_pos h0, if_pos h0]
    · rw [if_neg h0, if_neg h0]
      have hle := trimR_le (trimL (p.whole ++ p.rest))
      cases p.down with
      | true =>
        simp only [if_true]
        rw [if_pos (.inl (by omega)), if_pos (.inl (by omega))]
      | false =>
        simp only [Bool.false_eq_true, if_false]
        rw [if_pos (.inr (by omega)), if_pos (.inr (by omega))]
end Go.Proofs.YthifckfpjmhmjaaDoor
