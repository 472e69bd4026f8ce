/-
  Layer 3, the plain law: an exponent of 0, a 0 behind the point's figures change nothing.
-/
import Derived.Test.YtlffebmhknilhaaDoorNumFwd
namespace Go.Proofs.YtlffebmhknilhaaDoor
open Go.RowKit

/-- None of the bytes of a point or an exponent. -/
def plainB (s : List UInt8) : Bool := s.all fun c => !(decide (c = 101) || decide (c = 69) || decide (c = 46))

theorem plain_form {s : List UInt8} (h : scanL s = s.length) (hne : s ≠ []) (hp : plainB s = true) :
    ∃ m w, s = (if m = true then [45] else []) ++ w ∧ w ≠ [] ∧ (∀ c ∈ w, isFig c = true) ∧ (w.head? = some 48 → w = [48]) := by
  rw [plainB, List.all_eq_true] at hp
  have hbad : ∀ c ∈ s, c ≠ 101 ∧ c ≠ 69 ∧ c ≠ 46 := fun c hc => by
    have := hp c hc
    simp only [Bool.not_eq_true', Bool.or_eq_false_iff, decide_eq_false_iff_not] at this
    exact ⟨this.1.1, this.1.2, this.2⟩
  cases hc : cutL s with
  | none =>
    rw [scanL, hc] at h
    exact absurd (List.eq_nil_of_length_eq_zero h.symm) hne
  | some p =>
    rw [scanL, hc] at h
    obtain ⟨ex, hf⟩ := cut_form hc h
    have hr : p.rest = [] := by
      apply Classical.byContradiction
      intro hre
      have : (46 : UInt8) ∈ s := by
        rw [hf.eq, if_neg hre]
        simp
      exact (hbad 46 this).2.2 rfl
    have he : ex = [] := by
      rcases ex_head hf.ex with h | ⟨e, r, rfl, he⟩
      · exact h
      · have : e ∈ s := by rw [hf.eq]; simp
        rcases he with rfl | rfl
        · exact absurd rfl (hbad _ this).1
        · exact absurd rfl (hbad _ this).2.1
    refine ⟨p.minus, p.whole, ?_, hf.ne, hf.whole, hf.zero⟩
    have := hf.eq
    rw [hr, he] at this
    simpa using this

section
variable {m : Bool} {w : List UInt8}
def pc (m : Bool) (w rest power : List UInt8) (down : Bool) : Pc := ⟨m, w, rest, power, down, 0⟩
theorem form0 (hne : w ≠ []) (hw : ∀ c ∈ w, isFig c = true) (hz : w.head? = some 48 → w = [48]) : Form ((if m = true then [45] else []) ++ w) (pc m w [] [] false) [] :=
  ⟨by cases m <;> simp [pc], hne, hw, (fun c hc => by cases hc), hz, .inl ⟨rfl, rfl, rfl⟩⟩
theorem form1 (hne : w ≠ []) (hw : ∀ c ∈ w, isFig c = true) (hz : w.head? = some 48 → w = [48]) : Form (((if m = true then [45] else []) ++ w) ++ [101, 48]) (pc m w [] [48] false) [101, 48] :=
  ⟨by cases m <;> simp [pc], hne, hw, (fun c hc => by cases hc), hz, .inr ⟨101, [], rfl, .inl rfl, .inl rfl, rfl, (fun e => by cases e), (fun c hc => by rw [List.mem_singleton.1 hc]; rfl)⟩⟩
theorem form2 (hne : w ≠ []) (hw : ∀ c ∈ w, isFig c = true) (hz : w.head? = some 48 → w = [48]) : Form (((if m = true then [45] else []) ++ w) ++ [46, 48, 48]) (pc m w [48, 48] [] false) [] :=
  ⟨by cases m <;> simp [pc], hne, hw, (fun c hc => by
    have : c = 48 := by simpa [pc] using hc
    rw [this]; rfl), hz, .inl ⟨rfl, rfl, rfl⟩⟩
theorem form3 (hne : w ≠ []) (hw : ∀ c ∈ w, isFig c = true) (hz : w.head? ≠ some 48) : Form (((if m = true then [45] else []) ++ w) ++ [48, 69, 45, 49]) (pc m (w ++ [48]) [] [49] true) [69, 45, 49] :=
  ⟨by cases m <;> simp [pc], by simp [pc], (fun c hc => by
    rcases List.mem_append.1 hc with h | h
    · exact hw c h
    · rw [List.mem_singleton.1 h]; rfl), (fun c hc => by cases hc), (fun h => by
    exfalso; apply hz
    cases w with
    | nil => exact absurd rfl hne
    | cons c r => exact h), .inr ⟨69, [45], rfl, .inr rfl, .inr (.inr rfl), rfl, (fun e => by cases e), (fun c hc => by rw [List.mem_singleton.1 hc]; rfl)⟩⟩

theorem trimL_app {a b : List UInt8} (h : trimL a ≠ []) : trimL (a ++ b) = trimL a ++ b := by
  induction a with
  | nil => exact absurd rfl h
  | cons c r ih =>
    unfold trimL at h ih ⊢
    rw [List.cons_append, List.dropWhile_cons, List.dropWhile_cons]
    rw [List.dropWhile_cons] at h
    split
    · rename_i h1
      rw [if_pos h1] at h
      exact ih h
    · rfl
theorem trimL_zeros {a : List UInt8} (k : Nat) (h : trimL a = []) : trimL (a ++ List.replicate k 48) = [] := by
  induction a with
  | nil =>
    induction k with
    | zero => rfl
    | succ k ih =>
      rw [List.nil_append] at ih ⊢
      rw [List.replicate_succ, trimL, List.dropWhile_cons, if_pos (show ((48 : UInt8) == 48) = true from rfl)]
      exact ih
  | cons c r ih =>
    unfold trimL at h ih ⊢
    rw [List.dropWhile_cons] at h
    split at h
    · rename_i h1
      rw [List.cons_append, List.dropWhile_cons, if_pos h1]
      exact ih h
    · cases h
theorem trimR_app (a : List UInt8) (k : Nat) : trimR (a ++ List.replicate k 48) = trimR a := by
  unfold trimR
  rw [List.reverse_append, List.reverse_replicate]
  congr 1
  induction k with
  | zero => rfl
  | succ k ih => rw [List.replicate_succ, List.cons_append, List.dropWhile_cons, if_pos (show ((48 : UInt8) == 48) = true from rfl)]; exact ih

/-- Zeros more behind the figures, the point as far moved: the same number. -/
theorem numOf_more (m : Bool) (w rest power rest2 power2 : List UInt8) (d d2 : Bool) (sh sh2 : Int) (k : Nat) (w2 : List UInt8) (hw : w2 ++ rest2 = (w ++ rest) ++ List.replicate k 48) (hp : sh2 - rest2.length = sh - rest.length - k) :
    numOf sh2 (pc m w2 rest2 power2 d2) = numOf sh (pc m w rest power d) := by
  unfold numOf pc
  simp only []
  rw [hw]
  by_cases h0 : trimL (w ++ rest) = []
  · rw [if_pos h0, if_pos (trimL_zeros k h0)]
  · rw [if_neg h0, trimL_app h0, if_neg (fun e => h0 (List.append_eq_nil_iff.1 e).1), trimR_app]
    have e : (((trimL (w ++ rest) ++ List.replicate k 48).length : Nat) : Int) - (rest2.length : Int) + sh2 + 7 = ((trimL (w ++ rest)).length : Int) - rest.length + sh + 7 := by
      rw [List.length_append, List.length_replicate]; push_cast; omega
    rw [e]
theorem shift_none (m : Bool) (w rest : List UInt8) : shiftOf 1048576 (pc m w rest [] false) = 0 := rfl
theorem shift_zero (m : Bool) (w rest : List UInt8) : shiftOf 1048576 (pc m w rest [48] false) = 0 := by
  have h1 : trimL [48] = [] := rfl
  have h2 : valD [48] = 0 := rfl
  simp [shiftOf, pc, h1, h2]
theorem shift_one (m : Bool) (w rest : List UInt8) : shiftOf 1048576 (pc m w rest [49] true) = -1 := by
  have h1 : trimL [49] = [49] := rfl
  have h2 : valD [49] = 1 := rfl
  simp [shiftOf, pc, h1, h2]
end

/-- What the law says of a plain text. -/
theorem shifts_law {s : List UInt8} (h : scanL s = s.length) (hne : s ≠ []) (hp : plainB s = true) (hl : s.length ≤ 200) :
    parseL (s ++ [101, 48]) = parseL s ∧ parseL (s ++ [46, 48, 48]) = parseL s ∧ ((s = [48] ∨ s = [45, 48]) ∨ parseL (s ++ [48, 69, 45, 49]) = parseL s) := by
  obtain ⟨m, w, hs, hwne, hw, hz⟩ := plain_form h hne hp
  have h0 := parse_fwd (form0 (m := m) hwne hw hz) (by rw [← hs]; omega)
  have h1 := parse_fwd (form1 (m := m) hwne hw hz) (by rw [← hs, List.length_append]; simp; omega)
  have h2 := parse_fwd (form2 (m := m) hwne hw hz) (by rw [← hs, List.length_append]; simp; omega)
  rw [← hs] at h0 h1 h2
  rw [h0, h1, h2]
  rw [shift_none, shift_none, shift_zero]
  refine ⟨rfl, numOf_more _ _ _ _ _ _ _ _ _ _ 2 _ (by simp) (by simp), ?_⟩
  by_cases h48 : w.head? = some 48
  · left
    rw [hz h48] at hs
    cases m with
    | true => exact .inr hs
    | false => exact .inl hs
  · right
    have h3 := parse_fwd (form3 (m := m) hwne hw h48) (by rw [← hs, List.length_append]; simp; omega)
    rw [← hs] at h3
    rw [h3, shift_one]
    exact numOf_more _ _ _ _ _ _ _ _ _ _ 1 _ (by simp) (by simp)
end Go.Proofs.YtlffebmhknilhaaDoor
