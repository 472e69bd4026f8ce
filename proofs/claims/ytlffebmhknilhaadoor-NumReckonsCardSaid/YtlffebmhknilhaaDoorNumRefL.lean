/-
  Layer 3, the plain law of the document's Parse: the rows of figures that it goes through.
-/
import Derived.Test.YtlffebmhknilhaaDoorShiftLaw
namespace Go.Proofs.YtlffebmhknilhaaDoor
open Go.RowKit

/-- A byte more of a text ahead of its exponent: figures, those behind the point, the point. -/
def stepP (x : List UInt8 × Nat × Bool) (c : UInt8) : List UInt8 × Nat × Bool :=
  (if isFig c = true then x.1 ++ [c] else x.1, if isFig c = true ∧ x.2.2 = true then x.2.1 + 1 else x.2.1, x.2.2 || decide (c = 46))
def stP (l : List UInt8) : List UInt8 × Nat × Bool := l.foldl stepP ([], 0, false)
theorem stP_snoc {l : List UInt8} {i : Nat} {c : UInt8} (h : l[i]? = some c) : stP (l.take (i + 1)) = stepP (stP (l.take i)) c := by
  unfold stP
  rw [List.take_add_one, h]
  simp
theorem stepP_figs : ∀ (l : List UInt8) (x : List UInt8) (n : Nat) (d : Bool), (∀ c ∈ l, isFig c = true) → l.foldl stepP (x, n, d) = (x ++ l, if d = true then n + l.length else n, d)
  | [], x, n, d, _ => by simp
  | c :: r, x, n, d, h => by
    have hc := h c List.mem_cons_self
    have h46 : decide (c = 46) = false := by
      rw [decide_eq_false_iff_not]; rintro rfl; revert hc; decide
    rw [List.foldl_cons, stepP, if_pos hc, h46, Bool.or_false, stepP_figs r _ _ _ fun e he => h e (List.mem_cons_of_mem _ he)]
    simp only [hc, true_and, List.length_cons, List.append_assoc, List.singleton_append]
    cases d <;> simp <;> omega
/-- What stands ahead of the exponent. -/
def aheadP (p : Pc) : List UInt8 := (if p.minus then [45] else []) ++ (p.whole ++ ((if p.rest = [] then [] else [46]) ++ p.rest))
theorem stP_ahead {p : Pc} (hw : ∀ c ∈ p.whole, isFig c = true) (hr : ∀ c ∈ p.rest, isFig c = true) : stP (aheadP p) = (p.whole ++ p.rest, p.rest.length, decide (p.rest ≠ [])) := by
  unfold stP aheadP
  have h45 : isFig 45 = false := by decide
  have h46 : isFig 46 = false := by decide
  have h1 : (if p.minus then [(45 : UInt8)] else []).foldl stepP ([], 0, false) = ([], 0, false) := by
    cases p.minus <;> simp [stepP, h45]
  rw [List.foldl_append, h1, List.foldl_append, stepP_figs _ _ _ _ hw, List.foldl_append]
  by_cases h0 : p.rest = []
  · simp [h0]
  · rw [if_neg h0]
    have h2 : [(46 : UInt8)].foldl stepP ([] ++ p.whole, (if false = true then 0 + p.whole.length else 0), false) = (p.whole, 0, true) := by
      simp [stepP, h46]
    rw [h2, stepP_figs _ _ _ _ hr]
    simp [h0]
theorem ahead_noE {p : Pc} (hw : ∀ c ∈ p.whole, isFig c = true) (hr : ∀ c ∈ p.rest, isFig c = true) : ∀ c ∈ aheadP p, c ≠ 101 ∧ c ≠ 69 := by
  intro c hc
  unfold aheadP at hc
  have hf : ∀ c : UInt8, isFig c = true → c ≠ 101 ∧ c ≠ 69 := fun c h => ⟨fig_ne h (by decide), fig_ne h (by decide)⟩
  rcases List.mem_append.1 hc with h | h
  · cases hm : p.minus with
    | true => rw [hm] at h; have : c = 45 := by simpa using h
              subst this; decide
    | false => rw [hm] at h; simp at h
  rcases List.mem_append.1 h with h | h
  · exact hf c (hw c h)
  rcases List.mem_append.1 h with h | h
  · split at h
    · simp at h
    · have : c = 46 := by simpa using h
      subst this; decide
  · exact hf c (hr c h)
theorem form_ahead {s ex : List UInt8} {p : Pc} (h : Form s p ex) : s = aheadP p ++ ex := by
  rw [h.eq]; unfold aheadP; simp [List.append_assoc]
theorem trimL_zero (r : List UInt8) : trimL (48 :: r) = trimL r := by
  unfold trimL; rw [List.dropWhile_cons, if_pos (by decide)]
theorem trimL_stop {c : UInt8} (r : List UInt8) (h : c ≠ 48) : trimL (c :: r) = c :: r := by
  unfold trimL; rw [List.dropWhile_cons, if_neg (by simpa using h)]
theorem drop_get {s : List UInt8} {i : Nat} {c : UInt8} (h : s[i]? = some c) : s.drop i = c :: s.drop (i + 1) := by
  obtain ⟨hi, e⟩ := List.getElem?_eq_some_iff.1 h
  rw [List.drop_eq_getElem_cons hi, e]

theorem trimR_last {s : List UInt8} {c : UInt8} (h : s[s.length - 1]? = some c) : (c = 48 → trimR (s.take (s.length - 1)) = trimR s) ∧ (c ≠ 48 → trimR s = s) := by
  have hne : s ≠ [] := by rintro rfl; simp at h
  have hs : s = s.take (s.length - 1) ++ [c] := by
    conv => lhs; rw [← List.take_append_drop (s.length - 1) s]
    congr 1
    rw [List.drop_eq_getElem_cons (by have := List.length_pos_iff.2 hne; omega)]
    rw [List.getElem?_eq_getElem (by have := List.length_pos_iff.2 hne; omega)] at h
    rw [Option.some.inj h, List.drop_eq_nil_of_le (by omega)]
  refine ⟨fun e => ?_, fun e => ?_⟩
  · conv => rhs; rw [hs, e]
    exact (trimR_app _ 1).symm
  · conv => lhs; rw [hs]
    unfold trimR
    rw [List.reverse_append, List.reverse_singleton, List.singleton_append, List.dropWhile_cons, if_neg (by simpa using e), List.reverse_cons, List.reverse_reverse]
    exact hs.symm
/-- Rows of figures of one length: bytes and numbers have one order. -/
theorem less_figs : ∀ (a b : List UInt8), a.length = b.length → (∀ c ∈ a, isFig c = true) → (∀ c ∈ b, isFig c = true) → Op.bytesLess a b = decide (valD a < valD b)
  | [], [], _, _, _ => rfl
  | [], _ :: _, h, _, _ => by simp at h
  | _ :: _, [], h, _, _ => by simp at h
  | c :: r, d :: t, h, ha, hb => by
    have hc := ha c List.mem_cons_self
    have hd := hb d List.mem_cons_self
    have ih := less_figs r t (by simpa using h) (fun e he => ha e (List.mem_cons_of_mem _ he)) (fun e he => hb e (List.mem_cons_of_mem _ he))
    have h1 : valD (c :: r) = (c.toNat - 48) * 10 ^ r.length + valD r := by
      unfold valD; rw [List.foldl_cons, valD_foldl]; simp [valD]
    have h2 : valD (d :: t) = (d.toNat - 48) * 10 ^ r.length + valD t := by
      have : r.length = t.length := by simpa using h
      unfold valD; rw [List.foldl_cons, valD_foldl, this]; simp [valD]
    have l1 := valD_lt r fun e he => ha e (List.mem_cons_of_mem _ he)
    have l2 := valD_lt t fun e he => hb e (List.mem_cons_of_mem _ he)
    have : t.length = r.length := by have : r.length = t.length := by simpa using h
                                     omega
    rw [this] at l2
    simp only [isFig, Bool.and_eq_true, decide_eq_true_eq] at hc hd
    rw [Op.bytesLess, ih, h1, h2]
    by_cases hlt : c.toNat < d.toNat
    · have h6 : (d.toNat - 48) * 10 ^ r.length = (c.toNat - 48) * 10 ^ r.length + (d.toNat - c.toNat) * 10 ^ r.length := by
        rw [← Nat.add_mul]; congr 1; omega
      have h5 : 10 ^ r.length ≤ (d.toNat - c.toNat) * 10 ^ r.length := Nat.le_mul_of_pos_left _ (by omega)
      rw [decide_eq_true (show c < d from UInt8.lt_iff_toNat_lt.2 hlt), Bool.true_or]
      exact (decide_eq_true (by omega)).symm
    · have hnl : ¬ c < d := fun h => hlt (UInt8.lt_iff_toNat_lt.1 h)
      rw [decide_eq_false hnl, Bool.false_or]
      by_cases hgt : d.toNat < c.toNat
      · have h6 : (c.toNat - 48) * 10 ^ r.length = (d.toNat - 48) * 10 ^ r.length + (c.toNat - d.toNat) * 10 ^ r.length := by
          rw [← Nat.add_mul]; congr 1; omega
        have h5 : 10 ^ r.length ≤ (c.toNat - d.toNat) * 10 ^ r.length := Nat.le_mul_of_pos_left _ (by omega)
        have hne : c ≠ d := fun e => by subst e; omega
        rw [beq_eq_false_iff_ne.2 hne, Bool.false_and]
        exact (decide_eq_false (by omega)).symm
      · have : c = d := UInt8.toNat_inj.1 (by omega)
        subst this
        rw [beq_self_eq_true, Bool.true_and, Bool.eq_iff_iff, decide_eq_true_iff, decide_eq_true_iff]
        omega
theorem figs_inj : ∀ (a b : List UInt8), a.length = b.length → (∀ c ∈ a, isFig c = true) → (∀ c ∈ b, isFig c = true) → valD a = valD b → a = b
  | [], [], _, _, _, _ => rfl
  | [], _ :: _, h, _, _, _ => by simp at h
  | _ :: _, [], h, _, _, _ => by simp at h
  | c :: r, d :: t, h, ha, hb, he => by
    have hc := ha c List.mem_cons_self
    have hd := hb d List.mem_cons_self
    have hl : r.length = t.length := by simpa using h
    have h1 : valD (c :: r) = (c.toNat - 48) * 10 ^ r.length + valD r := by
      unfold valD; rw [List.foldl_cons, valD_foldl]; simp [valD]
    have h2 : valD (d :: t) = (d.toNat - 48) * 10 ^ r.length + valD t := by
      unfold valD; rw [List.foldl_cons, valD_foldl, hl]; simp [valD]
    have l1 := valD_lt r fun e he => ha e (List.mem_cons_of_mem _ he)
    have l2 := valD_lt t fun e he => hb e (List.mem_cons_of_mem _ he)
    rw [← hl] at l2
    simp only [isFig, Bool.and_eq_true, decide_eq_true_eq] at hc hd
    rw [h1, h2] at he
    have hq : c.toNat - 48 = d.toNat - 48 := by
      have e1 : ((c.toNat - 48) * 10 ^ r.length + valD r) / 10 ^ r.length = c.toNat - 48 := by
        rw [Nat.add_comm, Nat.add_mul_div_right _ _ (by omega), Nat.div_eq_of_lt l1, Nat.zero_add]
      have e2 : ((d.toNat - 48) * 10 ^ r.length + valD t) / 10 ^ r.length = d.toNat - 48 := by
        rw [Nat.add_comm, Nat.add_mul_div_right _ _ (by omega), Nat.div_eq_of_lt l2, Nat.zero_add]
      rw [← e1, he, e2]
    rw [hq] at he
    obtain rfl : c = d := UInt8.toNat_inj.1 (by omega)
    rw [figs_inj r t hl (fun e he => ha e (List.mem_cons_of_mem _ he)) (fun e he => hb e (List.mem_cons_of_mem _ he)) (by omega)]
theorem stP_le : ∀ (l : List UInt8) (x : List UInt8 × Nat × Bool), (l.foldl stepP x).1.length ≤ x.1.length + l.length ∧ (l.foldl stepP x).2.1 ≤ x.2.1 + l.length
  | [], _ => ⟨Nat.le_refl _, Nat.le_refl _⟩
  | c :: r, x => by
    have ih := stP_le r (stepP x c)
    have h1 : (stepP x c).1.length ≤ x.1.length + 1 := by unfold stepP; dsimp only; split <;> simp
    have h2 : (stepP x c).2.1 ≤ x.2.1 + 1 := by unfold stepP; dsimp only; split <;> omega
    rw [List.foldl_cons, List.length_cons]
    omega
end Go.Proofs.YtlffebmhknilhaaDoor
