/-
  Paths as data: their steps; numbers in figures.
-/
import Derived.Test.YthngolfabfijpaaGreatDoorHc8
import Derived.Lib.AtoiAllCases
import Derived.Lib.ItoaMem
namespace Go.Proofs.YthngolfabfijpaaGreatDoor
open Go.RowKit

def stepsF : List UInt8 → List UInt8 → Option (List (List UInt8))
  | [], cur => if cur = [] then none else some [cur]
  | c :: t, cur => if c = 46 then (if cur = [] then none else (stepsF t []).map (cur :: ·)) else stepsF t (cur ++ [c])
def stepsL (p : List UInt8) : Option (List (List UInt8)) := if 1 ≤ p.length ∧ p.length ≤ 128 ∧ utfL p = true then stepsF p [] else none
def joinS : List (List UInt8) → List UInt8
  | [] => []
  | [s] => s
  | s :: r => s ++ 46 :: joinS r
theorem stepsF_run : ∀ (w t cur : List UInt8), (∀ y ∈ w, y ≠ 46) → stepsF (w ++ t) cur = stepsF t (cur ++ w)
  | [], t, cur, _ => by simp
  | c :: w, t, cur, h => by
    rw [List.cons_append, stepsF, if_neg (h c (by simp)), stepsF_run w t _ (fun y hy => h y (by simp [hy]))]
    simp
theorem joinS_cons {s : List UInt8} {r : List (List UInt8)} (h : r ≠ []) : joinS (s :: r) = s ++ 46 :: joinS r := by
  cases r with
  | nil => exact absurd rfl h
  | cons => rfl
theorem stepsF_ne : ∀ (t cur : List UInt8) (l : List (List UInt8)), stepsF t cur = some l → l ≠ []
  | [], cur, l, h => by
    rw [stepsF] at h
    split at h
    · cases h
    · obtain rfl := Option.some.inj h; simp
  | c :: t, cur, l, h => by
    rw [stepsF] at h
    split at h
    · split at h
      · cases h
      · obtain ⟨r, _, rfl⟩ := Option.map_eq_some_iff.1 h; simp
    · exact stepsF_ne t _ l h
theorem stepsF_join : ∀ (t cur : List UInt8) (l : List (List UInt8)), stepsF t cur = some l → joinS l = cur ++ t
  | [], cur, l, h => by
    rw [stepsF] at h
    split at h
    · cases h
    · obtain rfl := Option.some.inj h; simp [joinS]
  | c :: t, cur, l, h => by
    rw [stepsF] at h
    split at h
    · rename_i hc
      split at h
      · cases h
      · obtain ⟨r, hr, rfl⟩ := Option.map_eq_some_iff.1 h
        rw [joinS_cons (stepsF_ne _ _ _ hr), stepsF_join t [] r hr, hc]; simp
    · rw [stepsF_join t _ l h]; simp
theorem stepsF_good : ∀ (t cur : List UInt8) (l : List (List UInt8)), stepsF t cur = some l → (∀ y ∈ cur, y ≠ 46) → ∀ s ∈ l, s ≠ [] ∧ ∀ y ∈ s, y ≠ 46
  | [], cur, l, h, hc => by
    rw [stepsF] at h
    split at h
    · cases h
    · rename_i h0
      obtain rfl := Option.some.inj h
      intro s hs
      obtain rfl : s = cur := by simpa using hs
      exact ⟨h0, hc⟩
  | c :: t, cur, l, h, hc => by
    rw [stepsF] at h
    split at h
    · split at h
      · cases h
      · rename_i h0
        obtain ⟨r, hr, rfl⟩ := Option.map_eq_some_iff.1 h
        intro s hs
        rcases List.mem_cons.1 hs with rfl | hs
        · exact ⟨h0, hc⟩
        · exact stepsF_good t [] r hr (by simp) s hs
    · rename_i h0
      exact stepsF_good t _ l h (fun y hy => by
        rcases List.mem_append.1 hy with hy | hy
        · exact hc y hy
        · obtain rfl : y = c := by simpa using hy
          exact h0)
/-! ### UTF-8, cut at a sign -/
theorem utfF_more : ∀ (f k : Nat) (l : List UInt8), l.length ≤ f → l.length ≤ k → utfF f l = utfF k l
  | 0, k, l, h, _ => by
    obtain rfl := List.eq_nil_of_length_eq_zero (by omega : l.length = 0)
    cases k <;> simp [utfF]
  | f + 1, 0, l, _, h => by
    obtain rfl := List.eq_nil_of_length_eq_zero (by omega : l.length = 0)
    simp [utfF]
  | f + 1, k + 1, l, h1, h2 => by
    rw [utfF, utfF]
    split
    · rfl
    split
    · rfl
    · rename_i h0 hs
      have hl : l.length ≠ 0 := fun e => h0 (List.eq_nil_of_length_eq_zero e)
      exact utfF_more f k _ (by rw [List.length_drop]; omega) (by rw [List.length_drop]; omega)
theorem utfL_eq (l : List UInt8) : utfL l = if l = [] then true else if signL l = 0 then false else utfL (l.drop (signL l)) := by
  unfold utfL
  cases l with
  | nil => rfl
  | cons c t =>
    rw [List.length_cons, utfF]
    split
    · rfl
    split
    · rfl
    · rename_i hs
      exact utfF_more _ _ _ (by rw [List.length_drop, List.length_cons]; omega) (Nat.le_refl _)
theorem contL_ge : ∀ (r : List UInt8) (c d : Nat), contL c r = some d → ∀ y ∈ r, 128 ≤ y.toNat
  | [], _, _, _, _, h => by cases h
  | x :: r, c, d, h, y, hy => by
    rw [contL] at h
    split at h
    · rename_i hx
      rcases List.mem_cons.1 hy with rfl | hy
      · exact hx.1
      · exact contL_ge r _ d h y hy
    · cases h
theorem signL_ge (x : UInt8) (r : List UInt8) (h : signL (x :: r) ≠ 0) : (x.toNat < 128 ∧ signL (x :: r) = 1) ∨ (128 ≤ x.toNat ∧ 2 ≤ signL (x :: r) ∧ ∀ y ∈ (x :: r).take (signL (x :: r)), 128 ≤ y.toNat) := by
  unfold signL at h ⊢
  dsimp only at h ⊢
  split at h
  · rename_i hx
    exact .inl ⟨hx, by rw [if_pos hx]⟩
  · rename_i hx
    right
    rw [if_neg hx]
    cases hh : hdrL x.toNat with
    | none => rw [hh] at h; exact absurd rfl h
    | some q =>
      obtain ⟨n, c, least⟩ := q
      obtain ⟨n2, n4, _, _⟩ := hdrL_bd hh
      rw [hh] at h
      dsimp only at h ⊢
      split at h
      · exact absurd rfl h
      · rename_i hn
        rw [if_neg hn]
        cases hcc : contL c (r.take (n - 1)) with
        | none => rw [hcc] at h; exact absurd rfl h
        | some d =>
          rw [hcc] at h
          dsimp only at h ⊢
          have hok : okL n least d = n := by
            unfold okL at h ⊢
            split at h
            · exact absurd rfl h
            · rename_i h2; rw [if_neg h2]
          rw [hok]
          refine ⟨by omega, n2, fun y hy => ?_⟩
          obtain ⟨m, rfl⟩ : ∃ m, n = m + 1 := ⟨n - 1, by omega⟩
          rw [List.take_succ_cons] at hy
          rcases List.mem_cons.1 hy with rfl | hy
          · omega
          · exact contL_ge _ _ _ hcc y (by simpa using hy)
theorem signL_cut (l t : List UInt8) (h0 : signL (l ++ t) ≠ 0) (h : signL (l ++ t) ≤ l.length) : signL l = signL (l ++ t) := by
  cases l with
  | nil => exact absurd (Nat.le_zero.1 h) h0
  | cons x r =>
    rw [List.cons_append] at h0 h ⊢
    unfold signL at h0 h ⊢
    dsimp only at h0 h ⊢
    split at h0
    · rename_i hx; rw [if_pos hx, if_pos hx]
    · rename_i hx
      rw [if_neg hx] at h ⊢
      rw [if_neg hx]
      cases hh : hdrL x.toNat with
      | none => rfl
      | some q =>
        obtain ⟨n, c, least⟩ := q
        obtain ⟨n2, n4, _, _⟩ := hdrL_bd hh
        rw [hh] at h0 h
        dsimp only at h0 h ⊢
        split at h0
        · exact absurd rfl h0
        · rename_i hn
          rw [if_neg hn] at h ⊢
          cases hcc : contL c ((r ++ t).take (n - 1)) with
          | none => rw [hcc] at h0; exact absurd rfl h0
          | some d =>
            rw [hcc] at h0 h
            dsimp only at h0 h
            have hok : okL n least d = n := by
              unfold okL at h0 ⊢
              split at h0
              · exact absurd rfl h0
              · rename_i h2; rw [if_neg h2]
            rw [hok, List.length_cons] at h
            rw [if_neg (by omega)]
            rw [List.take_append_of_le_length (by omega)] at hcc
            rw [hcc]
theorem utf_cut : ∀ (n : Nat) (a b : List UInt8), a.length ≤ n → utfL (a ++ 46 :: b) = true → utfL a = true ∧ utfL b = true
  | n, [], b, _, hu => by
    rw [List.nil_append, utfL_eq, if_neg (by simp)] at hu
    have h1 : signL (46 :: b) = 1 := by simp [signL]
    rw [h1, if_neg (by decide)] at hu
    exact ⟨rfl, hu⟩
  | 0, c :: t, b, h, _ => by simp at h
  | n + 1, c :: t, b, h, hu => by
    rw [utfL_eq, if_neg (by simp)] at hu
    split at hu
    · cases hu
    · rename_i h0
      have hle : signL ((c :: t) ++ 46 :: b) ≤ (c :: t).length := by
        rcases signL_ge c (t ++ 46 :: b) h0 with ⟨_, h1⟩ | ⟨_, _, h2⟩
        · have h1 : signL (c :: t ++ 46 :: b) = 1 := h1
          rw [h1, List.length_cons]; omega
        · apply Nat.le_of_not_lt
          intro hlt
          have : (46 : UInt8) ∈ (c :: (t ++ 46 :: b)).take (signL (c :: (t ++ 46 :: b))) := by
            have h3 : (c :: t).length < signL (c :: (t ++ 46 :: b)) := hlt
            have h4 : c :: (t ++ 46 :: b) = (c :: t) ++ 46 :: b := rfl
            rw [h4, List.take_append, List.mem_append]
            right
            rw [h4] at h3
            obtain ⟨k, hk⟩ : ∃ k, signL (c :: t ++ 46 :: b) - (c :: t).length = k + 1 := ⟨signL (c :: t ++ 46 :: b) - (c :: t).length - 1, by omega⟩
            rw [hk, List.take_succ_cons]; simp
          have := h2 _ this
          simp at this
      have he := signL_cut (c :: t) (46 :: b) h0 hle
      rw [List.drop_append_of_le_length hle] at hu
      have := utf_cut n _ b (by rw [List.length_drop]; simp only [List.length_cons] at h ⊢; omega) hu
      refine ⟨?_, this.2⟩
      rw [utfL_eq, if_neg (by simp), he, if_neg h0]
      exact this.1
theorem utf_joinS : ∀ (l : List (List UInt8)), utfL (joinS l) = true → ∀ s ∈ l, utfL s = true
  | [], _, _, h => by cases h
  | [a], hu, s, h => by
    obtain rfl : s = a := by simpa using h
    exact hu
  | a :: b :: r, hu, s, h => by
    rw [joinS_cons (by simp)] at hu
    obtain ⟨h1, h2⟩ := utf_cut _ a _ (Nat.le_refl _) hu
    rcases List.mem_cons.1 h with rfl | h
    · exact h1
    · exact utf_joinS (b :: r) h2 s h
theorem stepsL_some {p : List UInt8} {l : List (List UInt8)} (h : stepsL p = some l) : p = joinS l ∧ l ≠ [] ∧ p.length ≤ 128 ∧ utfL p = true ∧ ∀ s ∈ l, s ≠ [] ∧ (∀ y ∈ s, y ≠ 46) ∧ utfL s = true := by
  unfold stepsL at h
  split at h
  · rename_i hc
    have h1 := stepsF_join p [] l h
    rw [List.nil_append] at h1
    have h2 := stepsF_good p [] l h (by simp)
    have h3 := utf_joinS l (by rw [h1]; exact hc.2.2)
    exact ⟨h1.symm, stepsF_ne _ _ _ h, hc.2.1, hc.2.2, fun s hs => ⟨(h2 s hs).1, (h2 s hs).2, h3 s hs⟩⟩
  · cases h
theorem joinS_len : ∀ (l : List (List UInt8)), ∀ s ∈ l, s.length ≤ (joinS l).length
  | [], _, h => by cases h
  | [a], s, h => by
    obtain rfl : s = a := by simpa using h
    exact Nat.le_refl _
  | a :: b :: r, s, h => by
    rw [joinS_cons (by simp), List.length_append, List.length_cons]
    rcases List.mem_cons.1 h with rfl | h
    · omega
    · have := joinS_len (b :: r) s h; omega
theorem joinS_count : ∀ (l : List (List UInt8)), (∀ s ∈ l, s ≠ []) → l.length ≤ (joinS l).length
  | [], _ => by simp
  | [a], h => by
    have : a.length ≠ 0 := fun e => h a (by simp) (List.eq_nil_of_length_eq_zero e)
    simp [joinS]; omega
  | a :: b :: r, h => by
    have h1 : a.length ≠ 0 := fun e => h a (by simp) (List.eq_nil_of_length_eq_zero e)
    have := joinS_count (b :: r) (fun s hs => h s (by simp [hs]))
    rw [joinS_cons (by simp)]
    simp only [List.length_append, List.length_cons] at this ⊢
    omega
/-! ### Numbers in figures -/
def numL (s : List UInt8) : Nat := s.foldl (fun a c => 10 * a + (c.toNat - 48)) 0
theorem numL_snoc (s : List UInt8) (c : UInt8) : numL (s ++ [c]) = 10 * numL s + (c.toNat - 48) := by simp [numL]
theorem dec_snoc {n : Nat} (h : ¬ n < 10) : Lib.decDigits n = Lib.decDigits (n / 10) ++ [UInt8.ofNat (48 + n % 10)] := by
  rw [Lib.decDigits, dif_neg h]
theorem dg_nat (k : Nat) (_h : k < 10) : (UInt8.ofNat (48 + k)).toNat = 48 + k := UInt8.toNat_ofNat_of_lt' (by show 48 + k < 256; omega)
theorem num_dec : ∀ (n : Nat), numL (Lib.decDigits n) = n := fun n => by
  induction n using Nat.strongRecOn with
  | ind n ih =>
    by_cases h : n < 10
    · rw [Lib.decDigits_one h]
      show 10 * 0 + ((UInt8.ofNat (48 + n)).toNat - 48) = n
      rw [dg_nat n h]; omega
    · rw [dec_snoc h, numL_snoc, ih (n / 10) (by omega), dg_nat _ (by omega)]; omega
def itemL (s : List UInt8) : Option Nat := if s = Lib.decDigits (numL s) then some (numL s) else none
theorem item_dec (n : Nat) : itemL (Lib.decDigits n) = some n := by
  unfold itemL; rw [num_dec, if_pos rfl]
theorem item_some {s : List UInt8} {n : Nat} (h : itemL s = some n) : s = Lib.decDigits n := by
  unfold itemL at h
  split at h
  · rename_i h1
    obtain rfl := Option.some.inj h; exact h1
  · cases h
theorem dec_digits : ∀ (n : Nat), ∀ c ∈ Lib.decDigits n, 48 ≤ c.toNat ∧ c.toNat ≤ 57 := fun n => by
  induction n using Nat.strongRecOn with
  | ind n ih =>
    by_cases h : n < 10
    · rw [Lib.decDigits_one h]
      intro c hc
      rw [List.mem_singleton.1 hc, dg_nat n h]; omega
    · rw [dec_snoc h]
      intro c hc
      rcases List.mem_append.1 hc with hc | hc
      · exact ih (n / 10) (by omega) c hc
      · rw [List.mem_singleton.1 hc, dg_nat (n % 10) (by omega)]; omega
theorem dec_ne (n : Nat) : Lib.decDigits n ≠ [] := by
  by_cases h : n < 10
  · rw [Lib.decDigits_one h]; simp
  · rw [dec_snoc h]; simp
def foldN (acc : Nat) (l : List UInt8) : Nat := l.foldl (fun a c => 10 * a + (c.toNat - 48)) acc
theorem foldN_ge : ∀ (l : List UInt8) (acc : Nat), acc ≤ foldN acc l
  | [], _ => Nat.le_refl _
  | c :: r, acc => by
    have := foldN_ge r (10 * acc + (c.toNat - 48))
    show acc ≤ foldN (10 * acc + (c.toNat - 48)) r
    omega
theorem parse_val : ∀ (l : List UInt8) (acc : Nat), (∀ x ∈ l, 48 ≤ x.toNat ∧ x.toNat ≤ 57) → foldN acc l < 9223372036854775808 → Lib.parseUint10 acc l = .ok (foldN acc l)
  | [], acc, _, _ => rfl
  | c :: r, acc, h, hb => by
    have h1 := foldN_ge r (10 * acc + (c.toNat - 48))
    have h2 : foldN acc (c :: r) = foldN (10 * acc + (c.toNat - 48)) r := rfl
    rw [h2] at hb ⊢
    rw [Lib.parseUint10, if_pos (h c (by simp)), if_neg (by omega), if_neg (by omega), Nat.mul_comm acc 10]
    exact parse_val r _ (fun x hx => h x (by simp [hx])) hb
theorem atoi_dec {n : Nat} (_h : n ≤ 9223372036854775807) : Lib.atoiAll (Lib.decDigits n) = .ok (n : Int) := by
  have hd := dec_digits n
  have hv : foldN 0 (Lib.decDigits n) = n := num_dec n
  have hp : Lib.parseUint10 0 (Lib.decDigits n) = .ok n := by
    have := parse_val _ 0 hd (by rw [hv]; omega)
    rw [hv] at this; exact this
  cases hs : Lib.decDigits n with
  | nil => exact absurd hs (dec_ne n)
  | cons c r =>
    rw [hs] at hd hp
    have hc := hd c (by simp)
    rw [Lib.atoiAll_plain c r (by omega) (by omega)]
    unfold Lib.signless Lib.parseMag
    rw [if_neg (by simp), hp]
    dsimp only
    rw [if_neg (by omega)]
def itemV (s : List UInt8) : Int := match itemL s with | some n => if n ≤ 9223372036854775807 then (n : Int) else -1 | none => -1
theorem item_atoi (s : List UInt8) : (match Lib.atoiAll s with | .ok v => if Lib.itoa v = s ∧ 0 ≤ v then v else -1 | _ => -1) = itemV s := by
  unfold itemV
  cases hi : itemL s with
  | some n =>
    have hs := item_some hi
    by_cases hn : n ≤ 9223372036854775807
    · rw [hs, atoi_dec hn]
      simp [Lib.itoa_nonneg, hn]
    · cases ha : Lib.atoiAll s with
      | ok v =>
        have hb := Lib.atoiAll_bounds ha
        dsimp only
        rw [if_neg hn, if_neg]
        rintro ⟨h1, h2⟩
        obtain ⟨u, rfl⟩ : ∃ u : Nat, v = u := ⟨v.toNat, by omega⟩
        rw [Lib.itoa_nonneg] at h1
        have h3 := congrArg numL (h1.trans hs)
        rw [num_dec, num_dec] at h3
        omega
      | _ => simp [hn]
  | none =>
    cases ha : Lib.atoiAll s with
    | ok v =>
      dsimp only
      rw [if_neg]
      rintro ⟨h1, h2⟩
      obtain ⟨u, rfl⟩ : ∃ u : Nat, v = u := ⟨v.toNat, by omega⟩
      rw [Lib.itoa_nonneg] at h1
      rw [← h1, item_dec] at hi
      cases hi
    | _ => rfl
end Go.Proofs.YthngolfabfijpaaGreatDoor
