/-
  Numbers as data, and what is said of them.
-/
import Derived.Test.YtphlggmhgfcmgaaGreatDoorB1
namespace Go.Proofs.YtphlggmhgfcmgaaGreatDoor
open Go.RowKit

/-- One of 0 to 9. -/
def isFig (c : UInt8) : Bool := decide (48 ≤ c.toNat) && decide (c.toNat ≤ 57)
def figs : List UInt8 → Nat
  | [] => 0
  | c :: r => if isFig c then figs r + 1 else 0
theorem figs_le : ∀ s, figs s ≤ s.length
  | [] => Nat.le_refl _
  | c :: r => by rw [figs]; have := figs_le r; split <;> simp <;> omega
theorem figs_take : ∀ s : List UInt8, ∀ c ∈ s.take (figs s), isFig c = true
  | [], c, h => by simp at h
  | d :: r, c, h => by
    rw [figs] at h
    split at h
    · rw [List.take_succ_cons] at h
      rcases List.mem_cons.1 h with rfl | h
      · assumption
      · exact figs_take r c h
    · simp at h
theorem figs_app : ∀ (a b : List UInt8), (∀ c ∈ a, isFig c = true) → figs (a ++ b) = a.length + figs b
  | [], b, _ => by simp
  | c :: r, b, h => by
    rw [List.cons_append, figs, if_pos (h c List.mem_cons_self), figs_app r b fun d hd => h d (List.mem_cons_of_mem _ hd)]
    simp; omega
theorem figs_stop : ∀ (s : List UInt8), ∀ c, (s.drop (figs s)).head? = some c → isFig c = false
  | [], c, h => by simp at h
  | d :: r, c, h => by
    rw [figs] at h
    split at h
    · rw [List.drop_succ_cons] at h; exact figs_stop r c h
    · rename_i hd
      simp at h; subst h; simpa using hd

/-- The pieces of a number's text. -/
structure Pc where
  minus : Bool
  whole : List UInt8
  rest : List UInt8
  power : List UInt8
  down : Bool
  size : Nat

def signAt (s : List UInt8) : Nat := if s[0]? = some 45 then 1 else 0
def wholeLen (s : List UInt8) : Nat := if s[0]? = some 48 then 1 else figs s
def restLen (s : List UInt8) : Nat := if s[0]? = some 46 then figs (s.drop 1) else 0
def isE (s : List UInt8) : Bool := s[0]? == some 101 || s[0]? == some 69
def expSign (s : List UInt8) : Nat := if s[0]? = some 43 ∨ s[0]? = some 45 then 1 else 0

/-- What a text begins with, cut. -/
def cutL (s : List UInt8) : Option Pc :=
  let a := signAt s
  let s1 := s.drop a
  if figs s1 = 0 then none else
  let n := wholeLen s1
  let s2 := s1.drop n
  let r := restLen s2
  let b := a + n + (if r = 0 then 0 else 1 + r)
  let s3 := s.drop b
  if isE s3 = true then
    let g := expSign (s3.drop 1)
    let u := s3.drop (1 + g)
    if figs u = 0 then some ⟨decide (a = 1), s1.take n, (s2.drop 1).take r, [], false, b⟩
    else some ⟨decide (a = 1), s1.take n, (s2.drop 1).take r, u.take (figs u), decide (s3[1]? = some 45), b + 1 + g + figs u⟩
  else some ⟨decide (a = 1), s1.take n, (s2.drop 1).take r, [], false, b⟩
/-- How long a number's text stands at the beginning. -/
def scanL (s : List UInt8) : Nat := match cutL s with | none => 0 | some p => p.size
def heldB (n : Int) : Bool := decide (-9000000000000000000 ≤ n) && decide (n ≤ 9000000000000000000)
theorem heldB_iff {n : Int} : heldB n = true ↔ -9000000000000000000 ≤ n ∧ n ≤ 9000000000000000000 := by
  rw [heldB, Bool.and_eq_true, decide_eq_true_iff, decide_eq_true_iff]
end Go.Proofs.YtphlggmhgfcmgaaGreatDoor
namespace Go.Proofs.YtphlggmhgfcmgaaGreatDoor
open Go.RowKit

/-- A row of figures as a number. -/
def valD (l : List UInt8) : Nat := l.foldl (fun n c => 10 * n + (c.toNat - 48)) 0
theorem valD_foldl : ∀ (l : List UInt8) (a : Nat), l.foldl (fun n c => 10 * n + (c.toNat - 48)) a = a * 10 ^ l.length + valD l := by
  intro l
  induction l with
  | nil => intro a; simp [valD]
  | cons c r ih =>
    intro a
    have e : valD (c :: r) = (c.toNat - 48) * 10 ^ r.length + valD r := by
      have := ih (c.toNat - 48)
      show List.foldl (fun n c => 10 * n + (c.toNat - 48)) 0 (c :: r) = _
      rw [List.foldl_cons]
      simpa using this
    rw [List.foldl_cons, ih, e, List.length_cons, Nat.pow_succ, Nat.add_mul, ← Nat.mul_assoc, Nat.mul_comm 10 a, Nat.mul_assoc, Nat.mul_comm 10 (10 ^ r.length)]
    simp only [Nat.mul_assoc]
    omega
theorem valD_append (a b : List UInt8) : valD (a ++ b) = valD a * 10 ^ b.length + valD b := by
  rw [valD, List.foldl_append, valD_foldl]; rfl
theorem valD_snoc (a : List UInt8) (c : UInt8) : valD (a ++ [c]) = 10 * valD a + (c.toNat - 48) := by
  rw [valD, List.foldl_append]; rfl
theorem valD_lt : ∀ (l : List UInt8), (∀ c ∈ l, isFig c = true) → valD l < 10 ^ l.length := by
  intro l
  induction l with
  | nil => intro _; simp [valD]
  | cons c r ih =>
    intro h
    have h1 := ih fun d hd => h d (List.mem_cons_of_mem _ hd)
    have hc := h c List.mem_cons_self
    have e : valD (c :: r) = (c.toNat - 48) * 10 ^ r.length + valD r := by
      have := valD_append [c] r
      simpa [valD] using this
    simp only [isFig, Bool.and_eq_true, decide_eq_true_eq] at hc
    rw [e, List.length_cons, Nat.pow_succ]
    have : (c.toNat - 48) * 10 ^ r.length ≤ 9 * 10 ^ r.length := Nat.mul_le_mul_right _ (by omega)
    omega
theorem valD_zeros (k : Nat) : valD (List.replicate k 48) = 0 := by
  induction k with
  | zero => rfl
  | succ k ih => rw [List.replicate_succ', valD_snoc, ih]; rfl
theorem valD_shift (a : List UInt8) (k : Nat) : valD (a ++ List.replicate k 48) = valD a * 10 ^ k := by
  rw [valD_append, valD_zeros, List.length_replicate]; rfl
theorem valD_lead (k : Nat) (a : List UInt8) : valD (List.replicate k 48 ++ a) = valD a := by
  rw [valD_append, valD_zeros]; omega
theorem valD_ge {c : UInt8} {r : List UInt8} (hc : isFig c = true) (h0 : c ≠ 48) : 10 ^ r.length ≤ valD (c :: r) := by
  have e : valD (c :: r) = (c.toNat - 48) * 10 ^ r.length + valD r := by
    have := valD_append [c] r
    simpa [valD] using this
  simp only [isFig, Bool.and_eq_true, decide_eq_true_eq] at hc
  have h1 : c.toNat ≠ 48 := fun h => h0 (UInt8.toNat_inj.1 (by rw [h]; rfl))
  rw [e]
  have : 1 * 10 ^ r.length ≤ (c.toNat - 48) * 10 ^ r.length := Nat.mul_le_mul_right _ (by omega)
  omega

/-- Without the 0 ahead; without those behind. -/
def trimL (s : List UInt8) : List UInt8 := s.dropWhile (· == 48)
def trimR (s : List UInt8) : List UInt8 := (s.reverse.dropWhile (· == 48)).reverse
theorem dropWhile_split : ∀ (s : List UInt8), s = List.replicate (s.length - (s.dropWhile (· == 48)).length) 48 ++ s.dropWhile (· == 48) := by
  intro s
  induction s with
  | nil => rfl
  | cons c r ih =>
    rw [List.dropWhile_cons]
    split
    · rename_i h
      obtain rfl : c = 48 := by simpa using h
      have h1 : (r.dropWhile (· == 48)).length ≤ r.length := (List.dropWhile_sublist _).length_le
      rw [List.length_cons, show r.length + 1 - (r.dropWhile (· == 48)).length = (r.length - (r.dropWhile (· == 48)).length) + 1 by omega, List.replicate_succ, List.cons_append, ← ih]
    · simp
theorem trimL_split (s : List UInt8) : s = List.replicate (s.length - (trimL s).length) 48 ++ trimL s := dropWhile_split s
theorem trimR_split (s : List UInt8) : s = trimR s ++ List.replicate (s.length - (trimR s).length) 48 := by
  have h := congrArg List.reverse (dropWhile_split s.reverse)
  rw [List.reverse_reverse, List.reverse_append, List.reverse_replicate] at h
  rw [trimR, List.length_reverse]
  rw [List.length_reverse] at h
  exact h
theorem trimL_le (s : List UInt8) : (trimL s).length ≤ s.length := (List.dropWhile_sublist _).length_le
theorem trimR_le (s : List UInt8) : (trimR s).length ≤ s.length := by
  rw [trimR, List.length_reverse]
  have := (List.dropWhile_sublist (l := s.reverse) (· == 48)).length_le
  simpa using this
theorem trimL_val (s : List UInt8) : valD (trimL s) = valD s := by
  conv => rhs; rw [trimL_split s]
  rw [valD_lead]
theorem trimL_head {s r : List UInt8} {c : UInt8} (h : trimL s = c :: r) : c ≠ 48 := by
  have := List.head?_dropWhile_not (p := (· == (48 : UInt8))) (l := s)
  intro e
  rw [trimL] at h
  rw [h] at this
  simp [e] at this
theorem trimL_mem {s : List UInt8} {c : UInt8} (h : c ∈ trimL s) : c ∈ s := (List.dropWhile_sublist _).mem h
theorem trimR_mem {s : List UInt8} {c : UInt8} (h : c ∈ trimR s) : c ∈ s := by
  rw [trimR, List.mem_reverse] at h
  have := (List.dropWhile_sublist _).mem h
  simpa using this
theorem trimR_val (s : List UInt8) : valD s = valD (trimR s) * 10 ^ (s.length - (trimR s).length) := by
  conv => lhs; rw [trimR_split s]
  rw [valD_shift]

/-- By how much a power moves the point: the program's, and the document's. -/
def shiftOf (far : Nat) (p : Pc) : Int := let n : Int := if (trimL p.power).length ≤ 6 then (valD p.power : Int) else (far : Int); if p.down then -n else n
/-- The number of pieces, an error's number. -/
def numOf (sh : Int) (p : Pc) : Int × Int :=
  let all := trimL (p.whole ++ p.rest)
  if all = [] then (0, 0) else
  let all2 := trimR all
  let point := (all.length : Int) - p.rest.length + sh + 7
  if point < all2.length ∨ 40 < point then (0, 12) else
  let n := valD all2 * 10 ^ (point - all2.length).toNat
  if 9000000000000000000 < n then (0, 12) else (if p.minus then -(n : Int) else n, 0)
def parseL (s : List UInt8) : Int × Int :=
  if 65536 < s.length then (0, 9) else
  match cutL s with
  | none => (0, 11)
  | some p => if p.size = s.length then numOf (shiftOf 1048576 p) p else (0, 11)

/-- By the document's way. -/
def numR (sh : Int) (p : Pc) : Int × Int :=
  let all := trimL (p.whole ++ p.rest)
  let all2 := trimR all
  let power := sh - p.rest.length + 7 + ((all.length - all2.length : Nat) : Int)
  if all2 = [] then (0, 0) else
  if power < 0 ∨ 19 < (all2.length : Int) + power then (0, 12) else
  let n := valD all2 * 10 ^ power.toNat
  if 9000000000000000000 < n then (0, 12) else (if p.minus then -(n : Int) else n, 0)

theorem trimR_nil {s : List UInt8} : trimR (trimL s) = [] ↔ trimL s = [] := by
  constructor
  · intro h
    cases hl : trimL s with
    | nil => rfl
    | cons c r =>
      have h2 := trimR_split (trimL s)
      rw [h, hl, List.nil_append] at h2
      have : c ∈ List.replicate (c :: r).length (48 : UInt8) := by
        have h3 : (c :: r).length - ([] : List UInt8).length = (c :: r).length := by simp
        rw [h3] at h2
        rw [← h2]; exact List.mem_cons_self
      exact absurd (List.eq_of_mem_replicate this) (trimL_head hl)
  · intro h; rw [h]; rfl
theorem trim_big {s : List UInt8} (hs : ∀ c ∈ s, isFig c = true) (hne : trimL s ≠ []) : 10 ^ ((trimR (trimL s)).length - 1) ≤ valD (trimR (trimL s)) := by
  cases hl : trimL s with
  | nil => exact absurd hl hne
  | cons c r =>
    have h1 := trimL_head hl
    have hc : isFig c = true := hs c (trimL_mem (by rw [hl]; exact List.mem_cons_self))
    cases h2 : trimR (c :: r) with
    | nil => exact absurd (trimR_nil.1 (by rw [hl]; exact h2)) hne
    | cons d t =>
      have h3 := trimR_split (c :: r)
      rw [h2, List.cons_append] at h3
      obtain ⟨rfl, _⟩ := List.cons.inj h3
      have := valD_ge (r := t) hc h1
      simpa using this

theorem numR_eq (sh : Int) (p : Pc) (hf : ∀ c ∈ p.whole ++ p.rest, isFig c = true) : numR sh p = numOf sh p := by
  unfold numR numOf
  simp only []
  by_cases h0 : trimL (p.whole ++ p.rest) = []
  · rw [if_pos h0, if_pos (trimR_nil.2 h0)]
  · rw [if_neg h0, if_neg (fun h => h0 (trimR_nil.1 h))]
    have hle := trimR_le (trimL (p.whole ++ p.rest))
    have hbig := trim_big hf h0
    have hpos : 0 < (trimR (trimL (p.whole ++ p.rest))).length := by
      rcases Nat.eq_zero_or_pos (trimR (trimL (p.whole ++ p.rest))).length with h | h
      · exact absurd (trimR_nil.1 (List.eq_nil_of_length_eq_zero h)) h0
      · exact h
    generalize hA : trimR (trimL (p.whole ++ p.rest)) = A at *
    generalize trimL (p.whole ++ p.rest) = L at *
    have e : sh - (p.rest.length : Int) + 7 + ((L.length - A.length : Nat) : Int) = (L.length : Int) - p.rest.length + sh + 7 - A.length := by omega
    rw [e]
    generalize hP : (L.length : Int) - p.rest.length + sh + 7 = P at *
    by_cases h1 : P < A.length
    · rw [if_pos (.inl (by omega)), if_pos (.inl h1)]
    · by_cases h2 : 19 < P
      · rw [if_pos (.inr (by omega))]
        by_cases h3 : 40 < P
        · rw [if_pos (.inr h3)]
        · rw [if_neg (by omega), if_pos]
          obtain ⟨k, hk⟩ : ∃ k, (P - A.length).toNat = k := ⟨_, rfl⟩
          rw [hk]
          have h4 : 10 ^ (A.length - 1) * 10 ^ k ≤ valD A * 10 ^ k := Nat.mul_le_mul_right _ hbig
          rw [← Nat.pow_add] at h4
          have h5 : 10 ^ 19 ≤ 10 ^ (A.length - 1 + k) := Nat.pow_le_pow_right (by omega) (by omega)
          have h6 : (10 : Nat) ^ 19 = 10000000000000000000 := by decide
          omega
      · rw [if_neg (show ¬ (P - (A.length : Int) < 0 ∨ 19 < (A.length : Int) + (P - A.length)) by omega), if_neg (show ¬ (P < (A.length : Int) ∨ 40 < P) by omega)]

theorem trimL_valge {l : List UInt8} (hf : ∀ c ∈ l, isFig c = true) (h : 6 < (trimL l).length) : 1000000 ≤ valD l := by
  rw [← trimL_val]
  cases hl : trimL l with
  | nil => rw [hl] at h; simp at h
  | cons c r =>
    have := valD_ge (r := r) (hf c (trimL_mem (by rw [hl]; exact List.mem_cons_self))) (trimL_head hl)
    rw [hl] at h
    have h5 : 10 ^ 6 ≤ 10 ^ r.length := Nat.pow_le_pow_right (by omega) (by simp at h; omega)
    omega
theorem trimL_vallt {l : List UInt8} (hf : ∀ c ∈ l, isFig c = true) (h : ¬ 6 < (trimL l).length) : valD l < 1000000 := by
  rw [← trimL_val]
  have := valD_lt (trimL l) fun c hc => hf c (trimL_mem hc)
  have h5 : 10 ^ (trimL l).length ≤ 10 ^ 6 := Nat.pow_le_pow_right (by omega) (by omega)
  omega
/-- The document's shift. -/
def shiftR (p : Pc) : Int := if p.down then -((min (valD p.power) 1000000 : Nat) : Int) else ((min (valD p.power) 1000000 : Nat) : Int)
theorem shiftR_eq (p : Pc) (hf : ∀ c ∈ p.power, isFig c = true) : shiftR p = shiftOf 1000000 p := by
  unfold shiftR shiftOf
  simp only []
  by_cases h : 6 < (trimL p.power).length
  · have := trimL_valge hf h
    rw [if_neg (show ¬ (trimL p.power).length ≤ 6 by omega), Nat.min_eq_right this]
  · have := trimL_vallt hf h
    rw [if_pos (show (trimL p.power).length ≤ 6 by omega), Nat.min_eq_left (by omega)]
theorem numOf_far (p : Pc) (h1 : p.whole.length ≤ 65536) (h2 : p.rest.length ≤ 65536) : numOf (shiftOf 1048576 p) p = numOf (shiftOf 1000000 p) p := by
  unfold shiftOf
  simp only []
  by_cases h : (trimL p.power).length ≤ 6
  · rw [if_pos h, if_pos h]
  · rw [if_neg h, if_neg h]
    have hl := trimL_le (p.whole ++ p.rest)
    rw [List.length_append] at hl
    unfold numOf
    simp only []
    by_cases h0 : trimL (p.whole ++ p.rest) = []
    · rw [if_pos h0, if_pos h0]
    · rw [if_neg h0, if_neg h0]
      have hle := trimR_le (trimL (p.whole ++ p.rest))
      cases p.down with
      | true =>
        simp only [if_true]
        rw [if_pos (.inl (by omega)), if_pos (.inl (by omega))]
      | false =>
        simp only [Bool.false_eq_true, if_false]
        rw [if_pos (.inr (by omega)), if_pos (.inr (by omega))]
end Go.Proofs.YtphlggmhgfcmgaaGreatDoor
namespace Go.Proofs.YtphlggmhgfcmgaaGreatDoor
open Go.RowKit

/-- An exponent's text. -/
def ExpText (ex power : List UInt8) (down : Bool) : Prop :=
  (ex = [] ∧ power = [] ∧ down = false) ∨ ∃ e es, ex = e :: (es ++ power) ∧ (e = 101 ∨ e = 69) ∧ (es = [] ∨ es = [43] ∨ es = [45]) ∧ down = decide (es = [45]) ∧ power ≠ [] ∧ ∀ c ∈ power, isFig c = true
/-- The form of a number's text. -/
structure Form (s : List UInt8) (p : Pc) (ex : List UInt8) : Prop where
  eq : s = (if p.minus then [45] else []) ++ (p.whole ++ ((if p.rest = [] then [] else [46]) ++ (p.rest ++ ex)))
  ne : p.whole ≠ []
  whole : ∀ c ∈ p.whole, isFig c = true
  rest : ∀ c ∈ p.rest, isFig c = true
  zero : p.whole.head? = some 48 → p.whole = [48]
  ex : ExpText ex p.power p.down

theorem get0_cons {s : List UInt8} {c : UInt8} (h : s[0]? = some c) : s = c :: s.drop 1 := by
  cases s with
  | nil => simp at h
  | cons d r => simp at h; subst h; rfl

theorem cut_exp {s3 ex power : List UInt8} {down : Bool} (hE : isE s3 = true) (hex : s3 = ex) (hp : power = (s3.drop (1 + expSign (s3.drop 1))).take (figs (s3.drop (1 + expSign (s3.drop 1)))))
    (hd : down = decide (s3[1]? = some 45)) (h0 : figs (s3.drop (1 + expSign (s3.drop 1))) ≠ 0) (hall : figs (s3.drop (1 + expSign (s3.drop 1))) = (s3.drop (1 + expSign (s3.drop 1))).length) : ExpText ex power down := by
  subst hex
  right
  obtain ⟨e, he, he2⟩ : ∃ e, s3[0]? = some e ∧ (e = 101 ∨ e = 69) := by
    simp only [isE, Bool.or_eq_true, beq_iff_eq] at hE
    rcases hE with h | h
    · exact ⟨101, h, .inl rfl⟩
    · exact ⟨69, h, .inr rfl⟩
  have e1 := get0_cons he
  have e2 : s3[1]? = (s3.drop 1)[0]? := by simp
  obtain ⟨t, ht⟩ : ∃ t, s3.drop 1 = t := ⟨_, rfl⟩
  rw [ht] at e1 e2 hp h0 hall
  have hdrop : s3.drop (1 + expSign t) = t.drop (expSign t) := by rw [← ht, List.drop_drop]
  rw [hdrop] at hp h0 hall
  rw [hall, List.take_length] at hp
  have hpf : ∀ c ∈ power, isFig c = true := by
    have := figs_take (t.drop (expSign t))
    rw [hall, List.take_length, ← hp] at this
    exact this
  have hpne : power ≠ [] := by
    rintro rfl
    rw [← hp] at h0
    exact h0 rfl
  by_cases h43 : t[0]? = some 43
  · have hs : expSign t = 1 := by rw [expSign, if_pos (.inl h43)]
    rw [hs] at hp
    refine ⟨e, [43], ?_, he2, .inr (.inl rfl), ?_, hpne, hpf⟩
    · rw [e1, hp, List.singleton_append]; rw [← get0_cons h43]
    · rw [hd, e2, h43]; decide
  · by_cases h45 : t[0]? = some 45
    · have hs : expSign t = 1 := by rw [expSign, if_pos (.inr h45)]
      rw [hs] at hp
      refine ⟨e, [45], ?_, he2, .inr (.inr rfl), ?_, hpne, hpf⟩
      · rw [e1, hp, List.singleton_append]; rw [← get0_cons h45]
      · rw [hd, e2, h45]; decide
    · have hs : expSign t = 0 := by rw [expSign, if_neg (fun h => h.elim h43 h45)]
      rw [hs, List.drop_zero] at hp
      refine ⟨e, [], ?_, he2, .inl rfl, ?_, hpne, hpf⟩
      · rw [e1, hp, List.nil_append]
      · rw [hd, e2]; simp [h45]

theorem cut_form {s : List UInt8} {p : Pc} (h : cutL s = some p) (hz : p.size = s.length) : ∃ ex, Form s p ex := by
  unfold cutL at h
  simp only [] at h
  obtain ⟨a, ha⟩ : ∃ a, signAt s = a := ⟨_, rfl⟩
  obtain ⟨s1, hs1⟩ : ∃ s1, s.drop a = s1 := ⟨_, rfl⟩
  rw [ha, hs1] at h
  have e0 : s = (if decide (a = 1) then [45] else []) ++ s1 := by
    rw [← hs1, ← ha]
    unfold signAt
    split
    · rename_i h45; simpa using get0_cons h45
    · simp
  by_cases hf : figs s1 = 0
  · rw [if_pos hf] at h; cases h
  rw [if_neg hf] at h
  obtain ⟨n, hn⟩ : ∃ n, wholeLen s1 = n := ⟨_, rfl⟩
  rw [hn] at h
  have hnf : 0 < n ∧ n ≤ figs s1 ∧ ((s1.take n).head? = some 48 → s1.take n = [48]) := by
    rw [← hn]
    unfold wholeLen
    split
    · rename_i h48
      refine ⟨by omega, by omega, fun _ => ?_⟩
      rw [get0_cons h48]; rfl
    · rename_i h48
      refine ⟨by omega, by omega, fun hh => ?_⟩
      exfalso
      apply h48
      cases s1 with
      | nil => simp at hh
      | cons c r =>
        cases hk : figs (c :: r) with
        | zero => exact absurd hk hf
        | succ k => rw [hk] at hh; simpa using hh
  have hle1 := figs_le s1
  obtain ⟨s2, hs2⟩ : ∃ s2, s1.drop n = s2 := ⟨_, rfl⟩
  rw [hs2] at h
  have e1 : s1 = s1.take n ++ s2 := by rw [← hs2, List.take_append_drop]
  obtain ⟨r, hr⟩ : ∃ r, restLen s2 = r := ⟨_, rfl⟩
  rw [hr] at h
  have hrl : r ≤ s2.length - 1 := by
    rw [← hr, restLen]
    split
    · have := figs_le (s2.drop 1); simpa using this
    · omega
  have hrest : ∀ c ∈ (s2.drop 1).take r, isFig c = true := by
    rw [← hr, restLen]
    split
    · exact figs_take _
    · simp
  have hwhole : ∀ c ∈ s1.take n, isFig c = true := fun c hc => by
    refine figs_take s1 c ?_
    have : s1.take n = (s1.take (figs s1)).take n := by rw [List.take_take, Nat.min_eq_left hnf.2.1]
    rw [this] at hc
    exact List.mem_of_mem_take hc
  have hwlen : (s1.take n).length = n := by rw [List.length_take]; omega
  have hrlen : ((s2.drop 1).take r).length = r := by rw [List.length_take, List.length_drop]; omega
  have e2 : s2 = (if (s2.drop 1).take r = [] then [] else [46]) ++ ((s2.drop 1).take r ++ s2.drop (if r = 0 then 0 else 1 + r)) := by
    by_cases h0 : r = 0
    · rw [h0]; simp
    · have hne : ¬ (s2.drop 1).take r = [] := fun e => by rw [e] at hrlen; simp at hrlen; omega
      rw [if_neg hne, if_neg h0]
      have h46 : s2[0]? = some 46 := by
        rw [← hr, restLen] at h0
        split at h0
        · assumption
        · exact absurd rfl h0
      rw [← List.drop_drop, List.take_append_drop, List.singleton_append]
      exact get0_cons h46
  have e3 : s.drop (a + n + (if r = 0 then 0 else 1 + r)) = s2.drop (if r = 0 then 0 else 1 + r) := by
    rw [Nat.add_assoc, ← List.drop_drop, hs1, ← List.drop_drop, hs2]
  rw [e3] at h
  obtain ⟨d, hd⟩ : ∃ d, (if r = 0 then 0 else 1 + r) = d := ⟨_, rfl⟩
  rw [hd] at h e2
  obtain ⟨s3, hs3⟩ : ∃ s3, s2.drop d = s3 := ⟨_, rfl⟩
  rw [hs3] at h e2
  have hlen : s.length = a + n + d + s3.length := by
    have l1 : s1.length = n + s2.length := by conv => lhs; rw [e1]
                                              rw [List.length_append, hwlen]
    have l0 : s.length = a + s1.length := by
      conv => lhs; rw [e0]
      rw [List.length_append]
      have : a = 0 ∨ a = 1 := by rw [← ha, signAt]; split <;> simp
      rcases this with rfl | rfl <;> simp
    have l2 : s2.length = d + s3.length := by
      rw [← hs3, List.length_drop]
      have : d ≤ s2.length := by
        rw [← hd]; split <;> omega
      omega
    omega
  have mk : ∀ (power : List UInt8) (down : Bool) (size : Nat), ExpText s3 power down → Form s ⟨decide (a = 1), s1.take n, (s2.drop 1).take r, power, down, size⟩ s3 := fun power down size hex =>
    { eq := by rw [← e2, ← e1]; exact e0
      ne := fun e => by
        have e' : s1.take n = [] := e
        rw [e'] at hwlen; simp at hwlen; omega
      whole := hwhole, rest := hrest, zero := hnf.2.2, ex := hex }
  by_cases hE : isE s3 = true
  · rw [if_pos hE] at h
    by_cases h0 : figs (s3.drop (1 + expSign (s3.drop 1))) = 0
    · rw [if_pos h0] at h
      simp only [Option.some.injEq] at h
      subst h
      simp only [] at hz
      have : s3.length = 0 := by omega
      rw [List.eq_nil_of_length_eq_zero this] at hE
      simp [isE] at hE
    · rw [if_neg h0] at h
      simp only [Option.some.injEq] at h
      subst h
      refine ⟨s3, mk _ _ _ (cut_exp hE rfl rfl rfl h0 ?_)⟩
      simp only [] at hz
      have l4 := figs_le (s3.drop (1 + expSign (s3.drop 1)))
      rw [List.length_drop] at l4 ⊢
      omega
  · rw [if_neg hE] at h
    simp only [Option.some.injEq] at h
    subst h
    simp only [] at hz
    have : s3.length = 0 := by omega
    refine ⟨s3, mk _ _ _ (.inl ⟨List.eq_nil_of_length_eq_zero this, rfl, rfl⟩)⟩
end Go.Proofs.YtphlggmhgfcmgaaGreatDoor
