/-
  Paths as data: their steps; numbers in figures. The walk of an object's has. The walk of the document's may, May.
-/
import Derived.Test.YthngolfabfijpaaGreatDoorHd5
import Derived.Lib.AtoiAllCases
import Derived.Lib.ItoaMem
import Derived.Test.YthngolfabfijpaaGreatDoorHd2
namespace Go.Proofs.YthngolfabfijpaaGreatDoor
open Go.RowKit

def stepsF : List UInt8 → List UInt8 → Option (List (List UInt8))
  | [], cur => if cur = [] then none else some [cur]
  | c :: t, cur => if c = 46 then (if cur = [] then none else (stepsF t []).map (cur :: ·)) else stepsF t (cur ++ [c])
def stepsL (p : List UInt8) : Option (List (List UInt8)) := if 1 ≤ p.length ∧ p.length ≤ 128 ∧ utfL p = true then stepsF p [] else none
def joinS : List (List UInt8) → List UInt8
  | [] => []
  | [s] => s
  | s :: r => s ++ 46 :: joinS r
theorem stepsF_run : ∀ (w t cur : List UInt8), (∀ y ∈ w, y ≠ 46) → stepsF (w ++ t) cur = stepsF t (cur ++ w)
  | [], t, cur, _ => by simp
  | c :: w, t, cur, h => by
    rw [List.cons_append, stepsF, if_neg (h c (by simp)), stepsF_run w t _ (fun y hy => h y (by simp [hy]))]
    simp
theorem joinS_cons {s : List UInt8} {r : List (List UInt8)} (h : r ≠ []) : joinS (s :: r) = s ++ 46 :: joinS r := by
  cases r with
  | nil => exact absurd rfl h
  | cons => rfl
theorem stepsF_ne : ∀ (t cur : List UInt8) (l : List (List UInt8)), stepsF t cur = some l → l ≠ []
  | [], cur, l, h => by
    rw [stepsF] at h
    split at h
    · cases h
    · obtain rfl := Option.some.inj h; simp
  | c :: t, cur, l, h => by
    rw [stepsF] at h
    split at h
    · split at h
      · cases h
      · obtain ⟨r, _, rfl⟩ := Option.map_eq_some_iff.1 h; simp
    · exact stepsF_ne t _ l h
theorem stepsF_join : ∀ (t cur : List UInt8) (l : List (List UInt8)), stepsF t cur = some l → joinS l = cur ++ t
  | [], cur, l, h => by
    rw [stepsF] at h
    split at h
    · cases h
    · obtain rfl := Option.some.inj h; simp [joinS]
  | c :: t, cur, l, h => by
    rw [stepsF] at h
    split at h
    · rename_i hc
      split at h
      · cases h
      · obtain ⟨r, hr, rfl⟩ := Option.map_eq_some_iff.1 h
        rw [joinS_cons (stepsF_ne _ _ _ hr), stepsF_join t [] r hr, hc]; simp
    · rw [stepsF_join t _ l h]; simp
theorem stepsF_good : ∀ (t cur : List UInt8) (l : List (List UInt8)), stepsF t cur = some l → (∀ y ∈ cur, y ≠ 46) → ∀ s ∈ l, s ≠ [] ∧ ∀ y ∈ s, y ≠ 46
  | [], cur, l, h, hc => by
    rw [stepsF] at h
    split at h
    · cases h
    · rename_i h0
      obtain rfl := Option.some.inj h
      intro s hs
      obtain rfl : s = cur := by simpa using hs
      exact ⟨h0, hc⟩
  | c :: t, cur, l, h, hc => by
    rw [stepsF] at h
    split at h
    · split at h
      · cases h
      · rename_i h0
        obtain ⟨r, hr, rfl⟩ := Option.map_eq_some_iff.1 h
        intro s hs
        rcases List.mem_cons.1 hs with rfl | hs
        · exact ⟨h0, hc⟩
        · exact stepsF_good t [] r hr (by simp) s hs
    · rename_i h0
      exact stepsF_good t _ l h (fun y hy => by
        rcases List.mem_append.1 hy with hy | hy
        · exact hc y hy
        · obtain rfl : y = c := by simpa using hy
          exact h0)
/-! ### UTF-8, cut at a sign -/
theorem utfF_more : ∀ (f k : Nat) (l : List UInt8), l.length ≤ f → l.length ≤ k → utfF f l = utfF k l
  | 0, k, l, h, _ => by
    obtain rfl := List.eq_nil_of_length_eq_zero (by omega : l.length = 0)
    cases k <;> simp [utfF]
  | f + 1, 0, l, _, h => by
    obtain rfl := List.eq_nil_of_length_eq_zero (by omega : l.length = 0)
    simp [utfF]
  | f + 1, k + 1, l, h1, h2 => by
    rw [utfF, utfF]
    split
    · rfl
    split
    · rfl
    · rename_i h0 hs
      have hl : l.length ≠ 0 := fun e => h0 (List.eq_nil_of_length_eq_zero e)
      exact utfF_more f k _ (by rw [List.length_drop]; omega) (by rw [List.length_drop]; omega)
theorem utfL_eq (l : List UInt8) : utfL l = if l = [] then true else if signL l = 0 then false else utfL (l.drop (signL l)) := by
  unfold utfL
  cases l with
  | nil => rfl
  | cons c t =>
    rw [List.length_cons, utfF]
    split
    · rfl
    split
    · rfl
    · rename_i hs
      exact utfF_more _ _ _ (by rw [List.length_drop, List.length_cons]; omega) (Nat.le_refl _)
theorem contL_ge : ∀ (r : List UInt8) (c d : Nat), contL c r = some d → ∀ y ∈ r, 128 ≤ y.toNat
  | [], _, _, _, _, h => by cases h
  | x :: r, c, d, h, y, hy => by
    rw [contL] at h
    split at h
    · rename_i hx
      rcases List.mem_cons.1 hy with rfl | hy
      · exact hx.1
      · exact contL_ge r _ d h y hy
    · cases h
theorem signL_ge (x : UInt8) (r : List UInt8) (h : signL (x :: r) ≠ 0) : (x.toNat < 128 ∧ signL (x :: r) = 1) ∨ (128 ≤ x.toNat ∧ 2 ≤ signL (x :: r) ∧ ∀ y ∈ (x :: r).take (signL (x :: r)), 128 ≤ y.toNat) := by
  unfold signL at h ⊢
  dsimp only at h ⊢
  split at h
  · rename_i hx
    exact .inl ⟨hx, by rw [if_pos hx]⟩
  · rename_i hx
    right
    rw [if_neg hx]
    cases hh : hdrL x.toNat with
    | none => rw [hh] at h; exact absurd rfl h
    | some q =>
      obtain ⟨n, c, least⟩ := q
      obtain ⟨n2, n4, _, _⟩ := hdrL_bd hh
      rw [hh] at h
      dsimp only at h ⊢
      split at h
      · exact absurd rfl h
      · rename_i hn
        rw [if_neg hn]
        cases hcc : contL c (r.take (n - 1)) with
        | none => rw [hcc] at h; exact absurd rfl h
        | some d =>
          rw [hcc] at h
          dsimp only at h ⊢
          have hok : okL n least d = n := by
            unfold okL at h ⊢
            split at h
            · exact absurd rfl h
            · rename_i h2; rw [if_neg h2]
          rw [hok]
          refine ⟨by omega, n2, fun y hy => ?_⟩
          obtain ⟨m, rfl⟩ : ∃ m, n = m + 1 := ⟨n - 1, by omega⟩
          rw [List.take_succ_cons] at hy
          rcases List.mem_cons.1 hy with rfl | hy
          · omega
          · exact contL_ge _ _ _ hcc y (by simpa using hy)
theorem signL_cut (l t : List UInt8) (h0 : signL (l ++ t) ≠ 0) (h : signL (l ++ t) ≤ l.length) : signL l = signL (l ++ t) := by
  cases l with
  | nil => exact absurd (Nat.le_zero.1 h) h0
  | cons x r =>
    rw [List.cons_append] at h0 h ⊢
    unfold signL at h0 h ⊢
    dsimp only at h0 h ⊢
    split at h0
    · rename_i hx; rw [if_pos hx, if_pos hx]
    · rename_i hx
      rw [if_neg hx] at h ⊢
      rw [if_neg hx]
      cases hh : hdrL x.toNat with
      | none => rfl
      | some q =>
        obtain ⟨n, c, least⟩ := q
        obtain ⟨n2, n4, _, _⟩ := hdrL_bd hh
        rw [hh] at h0 h
        dsimp only at h0 h ⊢
        split at h0
        · exact absurd rfl h0
        · rename_i hn
          rw [if_neg hn] at h ⊢
          cases hcc : contL c ((r ++ t).take (n - 1)) with
          | none => rw [hcc] at h0; exact absurd rfl h0
          | some d =>
            rw [hcc] at h0 h
            dsimp only at h0 h
            have hok : okL n least d = n := by
              unfold okL at h0 ⊢
              split at h0
              · exact absurd rfl h0
              · rename_i h2; rw [if_neg h2]
            rw [hok, List.length_cons] at h
            rw [if_neg (by omega)]
            rw [List.take_append_of_le_length (by omega)] at hcc
            rw [hcc]
theorem utf_cut : ∀ (n : Nat) (a b : List UInt8), a.length ≤ n → utfL (a ++ 46 :: b) = true → utfL a = true ∧ utfL b = true
  | n, [], b, _, hu => by
    rw [List.nil_append, utfL_eq, if_neg (by simp)] at hu
    have h1 : signL (46 :: b) = 1 := by simp [signL]
    rw [h1, if_neg (by decide)] at hu
    exact ⟨rfl, hu⟩
  | 0, c :: t, b, h, _ => by simp at h
  | n + 1, c :: t, b, h, hu => by
    rw [utfL_eq, if_neg (by simp)] at hu
    split at hu
    · cases hu
    · rename_i h0
      have hle : signL ((c :: t) ++ 46 :: b) ≤ (c :: t).length := by
        rcases signL_ge c (t ++ 46 :: b) h0 with ⟨_, h1⟩ | ⟨_, _, h2⟩
        · have h1 : signL (c :: t ++ 46 :: b) = 1 := h1
          rw [h1, List.length_cons]; omega
        · apply Nat.le_of_not_lt
          intro hlt
          have : (46 : UInt8) ∈ (c :: (t ++ 46 :: b)).take (signL (c :: (t ++ 46 :: b))) := by
            have h3 : (c :: t).length < signL (c :: (t ++ 46 :: b)) := hlt
            have h4 : c :: (t ++ 46 :: b) = (c :: t) ++ 46 :: b := rfl
            rw [h4, List.take_append, List.mem_append]
            right
            rw [h4] at h3
            obtain ⟨k, hk⟩ : ∃ k, signL (c :: t ++ 46 :: b) - (c :: t).length = k + 1 := ⟨signL (c :: t ++ 46 :: b) - (c :: t).length - 1, by omega⟩
            rw [hk, List.take_succ_cons]; simp
          have := h2 _ this
          simp at this
      have he := signL_cut (c :: t) (46 :: b) h0 hle
      rw [List.drop_append_of_le_length hle] at hu
      have := utf_cut n _ b (by rw [List.length_drop]; simp only [List.length_cons] at h ⊢; omega) hu
      refine ⟨?_, this.2⟩
      rw [utfL_eq, if_neg (by simp), he, if_neg h0]
      exact this.1
theorem utf_joinS : ∀ (l : List (List UInt8)), utfL (joinS l) = true → ∀ s ∈ l, utfL s = true
  | [], _, _, h => by cases h
  | [a], hu, s, h => by
    obtain rfl : s = a := by simpa using h
    exact hu
  | a :: b :: r, hu, s, h => by
    rw [joinS_cons (by simp)] at hu
    obtain ⟨h1, h2⟩ := utf_cut _ a _ (Nat.le_refl _) hu
    rcases List.mem_cons.1 h with rfl | h
    · exact h1
    · exact utf_joinS (b :: r) h2 s h
theorem stepsL_some {p : List UInt8} {l : List (List UInt8)} (h : stepsL p = some l) : p = joinS l ∧ l ≠ [] ∧ p.length ≤ 128 ∧ utfL p = true ∧ ∀ s ∈ l, s ≠ [] ∧ (∀ y ∈ s, y ≠ 46) ∧ utfL s = true := by
  unfold stepsL at h
  split at h
  · rename_i hc
    have h1 := stepsF_join p [] l h
    rw [List.nil_append] at h1
    have h2 := stepsF_good p [] l h (by simp)
    have h3 := utf_joinS l (by rw [h1]; exact hc.2.2)
    exact ⟨h1.symm, stepsF_ne _ _ _ h, hc.2.1, hc.2.2, fun s hs => ⟨(h2 s hs).1, (h2 s hs).2, h3 s hs⟩⟩
  · cases h
theorem joinS_len : ∀ (l : List (List UInt8)), ∀ s ∈ l, s.length ≤ (joinS l).length
  | [], _, h => by cases h
  | [a], s, h => by
    obtain rfl : s = a := by simpa using h
    exact Nat.le_refl _
  | a :: b :: r, s, h => by
    rw [joinS_cons (by simp), List.length_append, List.length_cons]
    rcases List.mem_cons.1 h with rfl | h
    · omega
    · have := joinS_len (b :: r) s h; omega
theorem joinS_count : ∀ (l : List (List UInt8)), (∀ s ∈ l, s ≠ []) → l.length ≤ (joinS l).length
  | [], _ => by simp
  | [a], h => by
    have : a.length ≠ 0 := fun e => h a (by simp) (List.eq_nil_of_length_eq_zero e)
    simp [joinS]; omega
  | a :: b :: r, h => by
    have h1 : a.length ≠ 0 := fun e => h a (by simp) (List.eq_nil_of_length_eq_zero e)
    have := joinS_count (b :: r) (fun s hs => h s (by simp [hs]))
    rw [joinS_cons (by simp)]
    simp only [List.length_append, List.length_cons] at this ⊢
    omega
/-! ### Numbers in figures -/
def numL (s : List UInt8) : Nat := s.foldl (fun a c => 10 * a + (c.toNat - 48)) 0
theorem numL_snoc (s : List UInt8) (c : UInt8) : numL (s ++ [c]) = 10 * numL s + (c.toNat - 48) := by simp [numL]
theorem dec_snoc {n : Nat} (h : ¬ n < 10) : Lib.decDigits n = Lib.decDigits (n / 10) ++ [UInt8.ofNat (48 + n % 10)] := by
  rw [Lib.decDigits, dif_neg h]
theorem dg_nat (k : Nat) (_h : k < 10) : (UInt8.ofNat (48 + k)).toNat = 48 + k := UInt8.toNat_ofNat_of_lt' (by show 48 + k < 256; omega)
theorem num_dec : ∀ (n : Nat), numL (Lib.decDigits n) = n := fun n => by
  induction n using Nat.strongRecOn with
  | ind n ih =>
    by_cases h : n < 10
    · rw [Lib.decDigits_one h]
      show 10 * 0 + ((UInt8.ofNat (48 + n)).toNat - 48) = n
      rw [dg_nat n h]; omega
    · rw [dec_snoc h, numL_snoc, ih (n / 10) (by omega), dg_nat _ (by omega)]; omega
def itemL (s : List UInt8) : Option Nat := if s = Lib.decDigits (numL s) then some (numL s) else none
theorem item_dec (n : Nat) : itemL (Lib.decDigits n) = some n := by
  unfold itemL; rw [num_dec, if_pos rfl]
theorem item_some {s : List UInt8} {n : Nat} (h : itemL s = some n) : s = Lib.decDigits n := by
  unfold itemL at h
  split at h
  · rename_i h1
    obtain rfl := Option.some.inj h; exact h1
  · cases h
theorem dec_digits : ∀ (n : Nat), ∀ c ∈ Lib.decDigits n, 48 ≤ c.toNat ∧ c.toNat ≤ 57 := fun n => by
  induction n using Nat.strongRecOn with
  | ind n ih =>
    by_cases h : n < 10
    · rw [Lib.decDigits_one h]
      intro c hc
      rw [List.mem_singleton.1 hc, dg_nat n h]; omega
    · rw [dec_snoc h]
      intro c hc
      rcases List.mem_append.1 hc with hc | hc
      · exact ih (n / 10) (by omega) c hc
      · rw [List.mem_singleton.1 hc, dg_nat (n % 10) (by omega)]; omega
theorem dec_ne (n : Nat) : Lib.decDigits n ≠ [] := by
  by_cases h : n < 10
  · rw [Lib.decDigits_one h]; simp
  · rw [dec_snoc h]; simp
def foldN (acc : Nat) (l : List UInt8) : Nat := l.foldl (fun a c => 10 * a + (c.toNat - 48)) acc
theorem foldN_ge : ∀ (l : List UInt8) (acc : Nat), acc ≤ foldN acc l
  | [], _ => Nat.le_refl _
  | c :: r, acc => by
    have := foldN_ge r (10 * acc + (c.toNat - 48))
    show acc ≤ foldN (10 * acc + (c.toNat - 48)) r
    omega
theorem parse_val : ∀ (l : List UInt8) (acc : Nat), (∀ x ∈ l, 48 ≤ x.toNat ∧ x.toNat ≤ 57) → foldN acc l < 9223372036854775808 → Lib.parseUint10 acc l = .ok (foldN acc l)
  | [], acc, _, _ => rfl
  | c :: r, acc, h, hb => by
    have h1 := foldN_ge r (10 * acc + (c.toNat - 48))
    have h2 : foldN acc (c :: r) = foldN (10 * acc + (c.toNat - 48)) r := rfl
    rw [h2] at hb ⊢
    rw [Lib.parseUint10, if_pos (h c (by simp)), if_neg (by omega), if_neg (by omega), Nat.mul_comm acc 10]
    exact parse_val r _ (fun x hx => h x (by simp [hx])) hb
theorem atoi_dec {n : Nat} (_h : n ≤ 9223372036854775807) : Lib.atoiAll (Lib.decDigits n) = .ok (n : Int) := by
  have hd := dec_digits n
  have hv : foldN 0 (Lib.decDigits n) = n := num_dec n
  have hp : Lib.parseUint10 0 (Lib.decDigits n) = .ok n := by
    have := parse_val _ 0 hd (by rw [hv]; omega)
    rw [hv] at this; exact this
  cases hs : Lib.decDigits n with
  | nil => exact absurd hs (dec_ne n)
  | cons c r =>
    rw [hs] at hd hp
    have hc := hd c (by simp)
    rw [Lib.atoiAll_plain c r (by omega) (by omega)]
    unfold Lib.signless Lib.parseMag
    rw [if_neg (by simp), hp]
    dsimp only
    rw [if_neg (by omega)]
def itemV (s : List UInt8) : Int := match itemL s with | some n => if n ≤ 9223372036854775807 then (n : Int) else -1 | none => -1
theorem item_atoi (s : List UInt8) : (match Lib.atoiAll s with | .ok v => if Lib.itoa v = s ∧ 0 ≤ v then v else -1 | _ => -1) = itemV s := by
  unfold itemV
  cases hi : itemL s with
  | some n =>
    have hs := item_some hi
    by_cases hn : n ≤ 9223372036854775807
    · rw [hs, atoi_dec hn]
      simp [Lib.itoa_nonneg, hn]
    · cases ha : Lib.atoiAll s with
      | ok v =>
        have hb := Lib.atoiAll_bounds ha
        dsimp only
        rw [if_neg hn, if_neg]
        rintro ⟨h1, h2⟩
        obtain ⟨u, rfl⟩ : ∃ u : Nat, v = u := ⟨v.toNat, by omega⟩
        rw [Lib.itoa_nonneg] at h1
        have h3 := congrArg numL (h1.trans hs)
        rw [num_dec, num_dec] at h3
        omega
      | _ => simp [hn]
  | none =>
    cases ha : Lib.atoiAll s with
    | ok v =>
      dsimp only
      rw [if_neg]
      rintro ⟨h1, h2⟩
      obtain ⟨u, rfl⟩ : ∃ u : Nat, v = u := ⟨v.toNat, by omega⟩
      rw [Lib.itoa_nonneg] at h1
      rw [← h1, item_dec] at hi
      cases hi
    | _ => rfl
end Go.Proofs.YthngolfabfijpaaGreatDoor
namespace Go.Proofs.YthngolfabfijpaaGreatDoor
open Go.RowKit Go.TL
set_option maxRecDepth 100000

theorem has1_gives (s nm : List UInt8) (v : Value) (b : Nat) (g : Gh) (L : List Ent) : Gives Tryz.prog 124 #[.agg #[str s, v], .pointer (some ⟨b, 0, none⟩)] g (.obj b (.cells [str nm].toArray 9 (0, 0)) :: L) (.bool (decide (s = nm))) := by
  refine .of (Does.of2 Tryz.func124 rfl Tryz.ntmps124 rfl ?_)
  repeat' (first | refine stS ?_ | (refine stB ?_; intro _) | fail)
  refine TQ.endR1 (L' := (.obj b (.cells [str nm].toArray 9 (0, 0)) :: L)) Tryz.results124 rvA rfl (.refl _) ?_ selA
  exact ⟨rfl, rfl, rfl⟩
def idxL (nm : List UInt8) : List (List UInt8) → Nat → Int
  | [], _ => -1
  | n :: r, i => if n = nm then (i : Int) else idxL nm r (i + 1)
theorem idxL_at {nm s : List UInt8} {ns : List (List UInt8)} {i : Nat} (h : ns[i]? = some s) : idxL nm (ns.drop i) i = if s = nm then (i : Int) else idxL nm (ns.drop (i + 1)) (i + 1) := by
  obtain ⟨hi, he⟩ := List.getElem?_eq_some_iff.1 h
  rw [List.drop_eq_getElem_cons hi, he, idxL]
theorem idxL_bd (nm : List UInt8) : ∀ (ns : List (List UInt8)) (i : Nat), -1 ≤ idxL nm ns i ∧ idxL nm ns i ≤ i + ns.length
  | [], i => by rw [idxL]; simp
  | n :: r, i => by
    have := idxL_bd nm r (i + 1)
    rw [idxL, List.length_cons]
    split <;> omega
theorem idxL_mem (nm : List UInt8) : ∀ (ns : List (List UInt8)) (i : Nat), decide (0 ≤ idxL nm ns i) = decide (nm ∈ ns)
  | [], i => by rw [idxL]; simp
  | n :: r, i => by
    have := idxL_mem nm r (i + 1)
    rw [idxL]
    by_cases h : n = nm
    · subst h; rw [if_pos rfl]; simp
    · rw [if_neg h, this]
      have h2 : ¬ nm = n := fun e => h e.symm
      simp [h2]
def Mem (ns : List (List UInt8)) (n : Nat) (flat : List Value) : Prop := ∀ i, i < n → ∃ s v, ns[i]? = some s ∧ flat[i * 2]? = some (str s) ∧ flat[i * 2 + 1]? = some v
set_option maxHeartbeats 8000000 in
theorem indexM_gives (ns : List (List UInt8)) (nm : List UInt8) (ao : Option Addr) (n cap b : Nat) (flat : List Value) (g : Gh) (L : List Ent) (hl : ns.length = n) (_hn : n ≤ 1000000000) (hS : Sl g (.slice ao n cap) n 2 flat) (hM : Mem ns n flat) :
    Gives Tryz.prog 154 #[.slice ao n cap, .func (.func 124) #[] #[.pointer (some ⟨b, 0, none⟩)]] g (.obj b (.cells [str nm].toArray 9 (0, 0)) :: L) (.int .i64 (idxL nm ns 0)) := by
  refine .of (Does.of2 Tryz.func154 rfl Tryz.ntmps154 rfl ?_)
  obtain ⟨R, hR⟩ : ∃ R, R = idxL nm ns 0 := ⟨_, rfl⟩
  rw [← hR]
  repeat' (first | refine stS ?_ | fail)
  refine TC.loopK (fun i : Nat => i ≤ n ∧ idxL nm (ns.drop i) i = R) (fun i => n - i) (fun i _ => [(8, .int .i64 (i : Nat)), (7, .int .i64 (n : Nat)), (0, .slice ao n cap), (1, .func (.func 124) #[] #[.pointer (some ⟨b, 0, none⟩)])]) [] (by repeat (first | apply Drop.nil | apply Drop.cons (by (repeat (first | apply Pick.here | apply Pick.there))))) (fun _ L => L) 0 ⟨Nat.zero_le _, hR.symm⟩ subA selA ?_
  clear hR
  rintro i ⟨hi, hR⟩
  try dsimp only at hi hR ⊢
  by_cases hlt : i < n
  · obtain ⟨s, v, hns, h0, h1⟩ := hM i hlt
    obtain ⟨b1, o1, rfl, hg⟩ := hS.elem hlt (by decide)
    have hld : ∀ j u, [str s, v][j]? = some u → g.cell b1 (o1 + i * 2 + j) = some u := fun j u hu => by
      match j, hu with
      | 0, hu => simp at hu; subst hu; exact hg 0 _ h0
      | 1, hu => simp at hu; subst hu; exact hg 1 _ h1
      | j + 2, hu => simp at hu
    have hll : [str s, v].length = 2 := rfl
    rw [idxL_at hns] at hR
    clear hM hS hg h0 h1
    by_cases he : s = nm
    · have A : Gives Tryz.prog 124 #[.agg #[str s, v], .pointer (some ⟨b, 0, none⟩)] g (.obj b (.cells [str nm].toArray 9 (0, 0)) :: L) (.bool true) := by
        have := has1_gives s nm v b g L
        rw [decide_eq_true he] at this; exact this
      rw [if_pos he] at hR
      subst hR
      clear he
      repeat' (first | refine wkV ?_ | refine TL.gives (Enters.func (by rfl) (by kernel_rfl) (by rfl)) (A) (by rfl) ?_ | refine stS ?_ | fail)
      refine TQ.endR1 (L' := (.obj b (.cells [str nm].toArray 9 (0, 0)) :: L)) Tryz.results154 rvA rfl (.refl _) ?_ selA
      exact ⟨rfl, rfl, rfl⟩
    · have A : Gives Tryz.prog 124 #[.agg #[str s, v], .pointer (some ⟨b, 0, none⟩)] g (.obj b (.cells [str nm].toArray 9 (0, 0)) :: L) (.bool false) := by
        have := has1_gives s nm v b g L
        rw [decide_eq_false he] at this; exact this
      rw [if_neg he] at hR
      have HR : Hn _ := ⟨hR⟩
      clear he hR
      repeat' (first | refine wkV ?_ | refine TL.gives (Enters.func (by rfl) (by kernel_rfl) (by rfl)) (A) (by rfl) ?_ | refine stS ?_ | fail)
      refine TQ.round (i + 1) ?_ ?_ rfl subA selA
      · exact ⟨by omega, HR.out⟩
      · show n - (i + 1) < n - i
        omega
  · obtain rfl : i = n := by omega
    rw [← hl, List.drop_length, idxL] at hR
    subst hR
    clear hM hS
    repeat' (first | refine stS ?_ | fail)
    refine TQ.endR1 (L' := (.obj b (.cells [str nm].toArray 9 (0, 0)) :: L)) Tryz.results154 rvA rfl (.refl _) ?_ selA
    exact ⟨rfl, rfl, rfl⟩
theorem containsM_gives (ns : List (List UInt8)) (nm : List UInt8) (ao : Option Addr) (n cap b : Nat) (flat : List Value) (g : Gh) (L : List Ent) (hl : ns.length = n) (hn : n ≤ 1000000000) (hS : Sl g (.slice ao n cap) n 2 flat) (hM : Mem ns n flat) :
    Gives Tryz.prog 123 #[.slice ao n cap, .func (.func 124) #[] #[.pointer (some ⟨b, 0, none⟩)]] g (.obj b (.cells [str nm].toArray 9 (0, 0)) :: L) (.bool (decide (nm ∈ ns))) := by
  refine .of (Does.of2 Tryz.func123 rfl Tryz.ntmps123 rfl ?_)
  have A := indexM_gives ns nm ao n cap b flat g L hl hn hS hM
  have hb := idxL_bd nm ns 0
  rw [← idxL_mem nm ns 0]
  generalize idxL nm ns 0 = k at *
  clear hS hM
  repeat' (first | ((with_reducible apply TL.gives_plain); (· kernel_rfl); (· rfl); (· exact A); (· rfl)) | refine stS ?_ | fail)
  refine TQ.endR1 (L' := (.obj b (.cells [str nm].toArray 9 (0, 0)) :: L)) Tryz.results123 rvA rfl (.refl _) ?_ selA
  exact ⟨rfl, rfl, rfl⟩
theorem has_gives (ns : List (List UInt8)) (nm : List UInt8) (ao : Option Addr) (n cap : Nat) (flat : List Value) (g : Gh) (L : List Ent) (hl : ns.length = n) (hn : n ≤ 1000000000) (hS : Sl g (.slice ao n cap) n 2 flat) (hM : Mem ns n flat) :
    Gives Tryz.prog 81 #[.slice ao n cap, str nm] g L (.bool (decide (nm ∈ ns))) := by
  refine .of (Does.of2 Tryz.func81 rfl Tryz.ntmps81 rfl ?_)
  have A := fun b L => containsM_gives ns nm ao n cap b flat g L hl hn hS hM
  clear hS hM
  repeat' (first | ((with_reducible apply TL.gives_plain); (· kernel_rfl); (· rfl); (· exact A _ _); (· rfl)) | refine stS ?_ | (refine stB ?_; intro _) | fail)
  refine TQ.endR1 (L' := L) Tryz.results81 rvA rfl (.refl _) ?_ selA
  exact ⟨rfl, rfl, rfl⟩
end Go.Proofs.YthngolfabfijpaaGreatDoor
namespace Go.Proofs.YthngolfabfijpaaGreatDoor
open Go.RowKit Go.TL
set_option maxRecDepth 100000

mutual
def mayV : DV → Nat → Nat
  | .mk k _ n s items names, w =>
    if k = 0 ∨ k = 1 then 0 else if k = 2 then (if heldB n = true then 0 else 2) else if k = 3 then (if utfL s = true then 0 else 11)
    else if k = 4 then (if 32 ≤ w then 10 else mays items w) else if k = 5 then (if 32 ≤ w then 10 else mayo [] names items w) else 14
def mays : List DV → Nat → Nat
  | [], _ => 0
  | x :: r, w => if mayV x (w + 1) = 0 then mays r w else mayV x (w + 1)
def mayo : List (List UInt8) → List (List UInt8) → List DV → Nat → Nat
  | _, _, [], _ => 0
  | seen, ns, x :: r, w => if utfL (ns.headD []) = false then 11 else if ns.headD [] ∈ seen then 13 else if mayV x (w + 1) = 0 then mayo (seen ++ [ns.headD []]) ns.tail r w else mayV x (w + 1)
end
mutual
theorem mayV_bd : ∀ (x : DV) (w : Nat), mayV x w ≤ 14
  | .mk k b n s items names, w => by
    rw [mayV]
    have h1 := mays_bd items w
    have h2 := mayo_bd [] names items w
    repeat' split
    all_goals omega
theorem mays_bd : ∀ (l : List DV) (w : Nat), mays l w ≤ 14
  | [], _ => by rw [mays]; omega
  | x :: r, w => by
    rw [mays]
    have h1 := mayV_bd x (w + 1)
    have h2 := mays_bd r w
    split <;> omega
theorem mayo_bd : ∀ (seen ns : List (List UInt8)) (l : List DV) (w : Nat), mayo seen ns l w ≤ 14
  | _, _, [], _ => by rw [mayo]; omega
  | seen, ns, x :: r, w => by
    rw [mayo]
    have h1 := mayV_bd x (w + 1)
    have h2 := mayo_bd (seen ++ [ns.headD []]) ns.tail r w
    repeat' split
    all_goals omega
end
theorem mays_at {l : List DV} {i : Nat} {x : DV} (h : l[i]? = some x) (w : Nat) : mays (l.drop i) w = if mayV x (w + 1) = 0 then mays (l.drop (i + 1)) w else mayV x (w + 1) := by
  obtain ⟨hi, he⟩ := List.getElem?_eq_some_iff.1 h
  rw [List.drop_eq_getElem_cons hi, he, mays]
theorem mayo_at {ns : List (List UInt8)} {l : List DV} {i : Nat} {x : DV} {nm : List UInt8} (h : l[i]? = some x) (hn : ns[i]? = some nm) (w : Nat) :
    mayo (ns.take i) (ns.drop i) (l.drop i) w = if utfL nm = false then 11 else if nm ∈ ns.take i then 13 else if mayV x (w + 1) = 0 then mayo (ns.take (i + 1)) (ns.drop (i + 1)) (l.drop (i + 1)) w else mayV x (w + 1) := by
  obtain ⟨hi, he⟩ := List.getElem?_eq_some_iff.1 h
  have hd : (ns.drop i).headD [] = nm := by rw [List.headD_eq_head?_getD, List.head?_drop, hn]; rfl
  rw [List.drop_eq_getElem_cons hi, he, mayo, hd, List.tail_drop, List.take_add_one, hn]
  rfl
set_option maxHeartbeats 16000000 in
theorem rmay_gives : ∀ (N : Nat) (x : DV), dsz x ≤ N → ∀ (cs : List Value) (g : Gh) (L : List Ent) (w : Nat), IsV g x cs → wfV x → w ≤ 1000 → Gives Tryz.prog 49 #[.agg cs.toArray, .int .i64 (w : Nat)] g L (.int .i64 (mayV x w : Nat))
  | 0, .mk .., h, _, _, _, _, _, _, _ => by rw [dsz] at h; omega
  | N + 1, .mk k b n s items names, hN, cs, g, L, w, hV, hW, hw => by
    have IH := rmay_gives N
    rw [dsz] at hN
    rw [IsV] at hV
    rw [wfV] at hW
    obtain ⟨vi, vn, flat, rfl, ⟨k0, k1⟩, ⟨n0, n1⟩, hs, hi, hil, hfl, hn, hnl, hns⟩ := hV
    obtain ⟨w1, w2, w3, w4⟩ := hW
    obtain ⟨aoi, capi, rfl⟩ := hi.slice
    obtain ⟨aon, capn, rfl⟩ := hn.slice
    obtain ⟨R, hR⟩ : ∃ R, R = mayV (.mk k b n s items names) w := ⟨_, rfl⟩
    rw [← hR]
    rw [mayV] at hR
    have AH := fun L => rHeld_gives n g L n0 n1
    have AU := fun L => utf_gives s g L (by omega)
    refine .of (Does.of2 Tryz.func49 rfl Tryz.ntmps49 rfl ?_)
    by_cases hk0 : k = 0
    · subst hk0
      rw [if_pos (.inl rfl)] at hR
      subst hR
      repeat' (first | refine stS ?_ | (refine stB ?_; intro _) | fail)
      refine TQ.endR1 (L' := L) Tryz.results49 rvA rfl (.refl _) ?_ selA
      exact ⟨rfl, rfl, rfl⟩
    by_cases hk1 : k = 1
    · subst hk1
      rw [if_pos (.inr rfl)] at hR
      subst hR
      repeat' (first | refine stS ?_ | (refine stB ?_; intro _) | fail)
      refine TQ.endR1 (L' := L) Tryz.results49 rvA rfl (.refl _) ?_ selA
      exact ⟨rfl, rfl, rfl⟩
    rw [if_neg (by omega)] at hR
    by_cases hk2 : k = 2
    · subst hk2
      rw [if_pos rfl] at hR
      cases hh : heldB n with
      | true =>
        rw [hh, if_pos rfl] at hR
        simp only [hh] at AH
        subst hR
        clear hh
        repeat' (first | ((with_reducible apply TL.gives_plain); (· kernel_rfl); (· rfl); (· exact AH _); (· rfl)) | refine stS ?_ | (refine stB ?_; intro _) | fail)
        refine TQ.endR1 (L' := L) Tryz.results49 rvA rfl (.refl _) ?_ selA
        exact ⟨rfl, rfl, rfl⟩
      | false =>
        rw [hh, if_neg (by decide)] at hR
        simp only [hh] at AH
        subst hR
        clear hh
        repeat' (first | ((with_reducible apply TL.gives_plain); (· kernel_rfl); (· rfl); (· exact AH _); (· rfl)) | refine stS ?_ | (refine stB ?_; intro _) | fail)
        refine TQ.endR1 (L' := L) Tryz.results49 rvA rfl (.refl _) ?_ selA
        exact ⟨rfl, rfl, rfl⟩
    rw [if_neg hk2] at hR
    by_cases hk3 : k = 3
    · subst hk3
      rw [if_pos rfl] at hR
      cases hh : utfL s with
      | true =>
        rw [hh, if_pos rfl] at hR
        simp only [hh] at AU
        subst hR
        clear hh
        repeat' (first | ((with_reducible apply TL.gives_plain); (· kernel_rfl); (· rfl); (· exact AU _); (· rfl)) | refine stS ?_ | (refine stB ?_; intro _) | fail)
        refine TQ.endR1 (L' := L) Tryz.results49 rvA rfl (.refl _) ?_ selA
        exact ⟨rfl, rfl, rfl⟩
      | false =>
        rw [hh, if_neg (by decide)] at hR
        simp only [hh] at AU
        subst hR
        clear hh
        repeat' (first | ((with_reducible apply TL.gives_plain); (· kernel_rfl); (· rfl); (· exact AU _); (· rfl)) | refine stS ?_ | (refine stB ?_; intro _) | fail)
        refine TQ.endR1 (L' := L) Tryz.results49 rvA rfl (.refl _) ?_ selA
        exact ⟨rfl, rfl, rfl⟩
    rw [if_neg hk3] at hR
    clear AH AU
    by_cases hk4 : k = 4
    · subst hk4
      rw [if_pos rfl] at hR
      by_cases h32 : 32 ≤ w
      · rw [if_pos h32] at hR
        subst hR
        repeat' (first | refine stS ?_ | (refine stB ?_; intro _) | fail)
        refine TQ.endR1 (L' := L) Tryz.results49 rvA rfl (.refl _) ?_ selA
        exact ⟨rfl, rfl, rfl⟩
      rw [if_neg h32] at hR
      repeat' (first | refine stS ?_ | (refine stB ?_; intro _) | fail)
      rename_i bo
      refine TC.loopK (fun i : Nat => i ≤ items.length ∧ mays (items.drop i) w = R) (fun i => items.length - i) (fun i _ => [(5, .int .i64 (i : Nat)), (1, .int .i64 (w : Nat)), (2, .pointer (some ⟨bo, 0, none⟩))]) [] (by repeat (first | apply Drop.nil | apply Drop.cons (by (repeat (first | apply Pick.here | apply Pick.there))))) (fun _ L => L) 0 ⟨Nat.zero_le _, hR.symm⟩ subA selA ?_
      clear hR
      rintro i ⟨hi1, hR⟩
      by_cases hlt : i < items.length
      · obtain ⟨x, hx⟩ : ∃ x, items[i]? = some x := ⟨_, List.getElem?_eq_getElem hlt⟩
        obtain ⟨cs', hV', hl6, hcs⟩ := hfl.get hx
        obtain ⟨b1, o1, rfl, hg⟩ := hi.elem hlt (by decide)
        have hld : ∀ j u, cs'[j]? = some u → g.cell b1 (o1 + i * 6 + j) = some u := fun j u hu => hg j u (hcs j u hu)
        have hsz := dsz_get hx
        have A : ∀ L, Gives Tryz.prog 49 #[.agg cs'.toArray, .int .i64 ((w : Int) + 1)] g L (.int .i64 (mayV x (w + 1) : Nat)) := fun L => IH x (by omega) cs' g L (w + 1) hV' ((w4 (.inl rfl)).get hx) (by omega)
        have hb := mayV_bd x (w + 1)
        rw [mays_at hx] at hR
        generalize mayV x (w + 1) = r at *
        clear hfl hi hn hcs hg hns hV' w3 w4
        by_cases h0 : r = 0
        · subst h0
          rw [if_pos rfl] at hR
          have HR : Hn _ := ⟨hR⟩
          clear hR
          repeat' (first | refine wkV ?_ | ((with_reducible apply TL.gives_plain); (· kernel_rfl); (· rfl); (· exact A _); (· rfl)) | refine stS ?_ | fail)
          refine TQ.round (i + 1) ?_ ?_ rfl subA selA
          · exact ⟨by omega, HR.out⟩
          · show items.length - (i + 1) < items.length - i
            omega
        · rw [if_neg h0] at hR
          subst hR
          have h00 : 0 < r := by omega
          clear h0
          repeat' (first | refine wkV ?_ | ((with_reducible apply TL.gives_plain); (· kernel_rfl); (· rfl); (· exact A _); (· rfl)) | refine stS ?_ | fail)
          refine TQ.endR1 (L' := L) Tryz.results49 rvA rfl (.refl _) ?_ selA
          exact ⟨rfl, rfl, rfl⟩
      · obtain rfl : i = items.length := by omega
        rw [List.drop_length, mays] at hR
        subst hR
        repeat' (first | refine stS ?_ | fail)
        refine TQ.endR1 (L' := L) Tryz.results49 rvA rfl (.refl _) ?_ selA
        exact ⟨rfl, rfl, rfl⟩
    rw [if_neg hk4] at hR
    by_cases hk5 : k = 5
    · subst hk5
      obtain ⟨w3a, w3b⟩ := w3 rfl
      rw [if_pos rfl] at hR
      by_cases h32 : 32 ≤ w
      · rw [if_pos h32] at hR
        subst hR
        repeat' (first | refine stS ?_ | (refine stB ?_; intro _) | fail)
        refine TQ.endR1 (L' := L) Tryz.results49 rvA rfl (.refl _) ?_ selA
        exact ⟨rfl, rfl, rfl⟩
      rw [if_neg h32] at hR
      repeat' (first | refine stS ?_ | (refine stB ?_; intro _) | fail)
      rename_i bo
      refine TC.loopK (fun i : Nat => i ≤ items.length ∧ mayo (names.take i) (names.drop i) (items.drop i) w = R) (fun i => items.length - i) (fun i _ => [(5, .int .i64 (i : Nat)), (1, .int .i64 (w : Nat)), (2, .pointer (some ⟨bo, 0, none⟩))]) [] (by repeat (first | apply Drop.nil | apply Drop.cons (by (repeat (first | apply Pick.here | apply Pick.there))))) (fun _ L => L) 0 ⟨Nat.zero_le _, hR.symm⟩ subA selA ?_
      clear hR
      rintro i ⟨hi1, hR⟩
      by_cases hlt : i < items.length
      · obtain ⟨x, hx⟩ : ∃ x, items[i]? = some x := ⟨_, List.getElem?_eq_getElem hlt⟩
        obtain ⟨nm, hnm⟩ : ∃ nm, names[i]? = some nm := ⟨_, List.getElem?_eq_getElem (by omega)⟩
        obtain ⟨cs', hV', hl6, hcs⟩ := hfl.get hx
        obtain ⟨b1, o1, rfl, hg⟩ := hi.elem hlt (by decide)
        obtain ⟨b2, o2, rfl, hg2⟩ := hn.elem (i := i) (by omega) (by decide)
        have hld : ∀ j u, cs'[j]? = some u → g.cell b1 (o1 + i * 6 + j) = some u := fun j u hu => hg j u (hcs j u hu)
        have hln : g.cell b2 (o2 + i * 1) = some (str nm) := hg2 0 _ (by rw [Nat.mul_one]; exact strs_get hnm)
        have hsz := dsz_get hx
        have hnm3 := w3b nm (List.mem_of_getElem? hnm)
        have hcap := hn.cap
        have hseg : Sl g (.slice (some ⟨b2, o2, none⟩) (names.take i).length capn) (names.take i).length 1 (strs (names.take i)) := by
          have h1 := hn.take (i := i) (by omega)
          rw [Nat.mul_one] at h1
          rw [show (names.take i).length = i by rw [List.length_take]; omega, show strs (names.take i) = (strs names).take i by simp [strs]]
          exact h1
        have AA : ∀ L, Gives Tryz.prog 84 #[.slice (some ⟨b2, o2, none⟩) i capn, str nm] g L (.bool (decide (nm ∈ names.take i))) := fun L => by
          have h1 := among_gives (some ⟨b2, o2, none⟩) capn (names.take i) nm g L hseg (by rw [List.length_take]; omega)
          rw [show (names.take i).length = i by rw [List.length_take]; omega] at h1
          exact h1
        have AU := fun L => utf_gives nm g L (by omega)
        have A : ∀ L, Gives Tryz.prog 49 #[.agg cs'.toArray, .int .i64 ((w : Int) + 1)] g L (.int .i64 (mayV x (w + 1) : Nat)) := fun L => IH x (by omega) cs' g L (w + 1) hV' ((w4 (.inr rfl)).get hx) (by omega)
        have hb := mayV_bd x (w + 1)
        rw [mayo_at hx hnm] at hR
        generalize mayV x (w + 1) = r at *
        clear hfl hi hn hcs hg hg2 hns hV' w3 w4 hseg w3b
        cases hu : utfL nm with
        | false =>
          rw [hu, if_pos rfl] at hR
          simp only [hu] at AU
          subst hR
          clear hu
          repeat' (first | refine wkV ?_ | ((with_reducible apply TL.gives_plain); (· kernel_rfl); (· rfl); (· exact AU _); (· rfl)) | refine stS ?_ | fail)
          refine TQ.endR1 (L' := L) Tryz.results49 rvA rfl (.refl _) ?_ selA
          exact ⟨rfl, rfl, rfl⟩
        | true =>
        rw [hu, if_neg (by decide)] at hR
        simp only [hu] at AU
        clear hu
        by_cases hm : nm ∈ names.take i
        · rw [if_pos hm] at hR
          simp only [decide_eq_true hm] at AA
          subst hR
          clear hm
          repeat' (first | refine wkV ?_ | ((with_reducible apply TL.gives_plain); (· kernel_rfl); (· rfl); (· exact AU _); (· rfl)) | ((with_reducible apply TW.gives_plain); (· kernel_rfl); (· rfl); (· exact AA _); (· rfl)) | refine wkP ?_ | refine stS ?_ | apply TC.region_draw (by kernel_rfl) (by kernel_rfl) | refine TW.nil ?_ | ((with_reducible apply TW.pure); (· exact yA); (· rfl)) | fail)
          refine TQ.endR1 (L' := L) Tryz.results49 rvA rfl (.refl _) ?_ selA
          exact ⟨rfl, rfl, rfl⟩
        rw [if_neg hm] at hR
        simp only [decide_eq_false hm] at AA
        clear hm
        by_cases h0 : r = 0
        · subst h0
          rw [if_pos rfl] at hR
          have HR : Hn _ := ⟨hR⟩
          clear hR
          repeat' (first | refine wkV ?_ | ((with_reducible apply TL.gives_plain); (· kernel_rfl); (· rfl); (· exact AU _); (· rfl)) | ((with_reducible apply TW.gives_plain); (· kernel_rfl); (· rfl); (· exact AA _); (· rfl)) | ((with_reducible apply TL.gives_plain); (· kernel_rfl); (· rfl); (· exact A _); (· rfl)) | refine wkP ?_ | refine stS ?_ | apply TC.region_draw (by kernel_rfl) (by kernel_rfl) | refine TW.nil ?_ | ((with_reducible apply TW.pure); (· exact yA); (· rfl)) | fail)
          refine TQ.round (i + 1) ?_ ?_ rfl subA selA
          · exact ⟨by omega, HR.out⟩
          · show items.length - (i + 1) < items.length - i
            omega
        · rw [if_neg h0] at hR
          subst hR
          have h00 : 0 < r := by omega
          clear h0
          repeat' (first | refine wkV ?_ | ((with_reducible apply TL.gives_plain); (· kernel_rfl); (· rfl); (· exact AU _); (· rfl)) | ((with_reducible apply TW.gives_plain); (· kernel_rfl); (· rfl); (· exact AA _); (· rfl)) | ((with_reducible apply TL.gives_plain); (· kernel_rfl); (· rfl); (· exact A _); (· rfl)) | refine wkP ?_ | refine stS ?_ | apply TC.region_draw (by kernel_rfl) (by kernel_rfl) | refine TW.nil ?_ | ((with_reducible apply TW.pure); (· exact yA); (· rfl)) | fail)
          refine TQ.endR1 (L' := L) Tryz.results49 rvA rfl (.refl _) ?_ selA
          exact ⟨rfl, rfl, rfl⟩
      · obtain rfl : i = items.length := by omega
        rw [List.drop_length, mayo] at hR
        subst hR
        repeat' (first | refine stS ?_ | fail)
        refine TQ.endR1 (L' := L) Tryz.results49 rvA rfl (.refl _) ?_ selA
        exact ⟨rfl, rfl, rfl⟩
    rw [if_neg hk5] at hR
    subst hR
    have m0 : Hn (¬ k = 0) := ⟨hk0⟩
    have m1 : Hn (¬ k = 1) := ⟨hk1⟩
    have m2 : Hn (¬ k = 2) := ⟨hk2⟩
    have m3 : Hn (¬ k = 3) := ⟨hk3⟩
    have m4 : Hn (¬ k = 4) := ⟨hk4⟩
    have m5 : Hn (¬ k = 5) := ⟨hk5⟩
    repeat' (first | refine stS ?_ | (refine stB ?_; intro _) | fail)
    refine TQ.endR1 (L' := L) Tryz.results49 rvA rfl (.refl _) ?_ selA
    exact ⟨rfl, rfl, rfl⟩
set_option maxHeartbeats 4000000 in
theorem rMay_gives (x : DV) (cs : List Value) (g : Gh) (L : List Ent) (hV : IsV g x cs) (hW : wfV x) : Gives Tryz.prog 28 #[.agg cs.toArray] g L (.int .i64 (mayV x 0 : Nat)) := by
  refine .of (Does.of1 Tryz.func28 rfl Tryz.ntmps28 rfl ?_)
  have A := fun L => rmay_gives _ x (Nat.le_refl _) cs g L 0 hV hW (by decide)
  have h6 := hV.len
  generalize mayV x 0 = r at *
  clear hV
  repeat' (first | refine wkV ?_ | ((with_reducible apply TL.gives_plain); (· kernel_rfl); (· rfl); (· exact A _); (· rfl)) | refine stS ?_ | (refine stB ?_; intro _) | fail)
  refine TQ.endR1 (L' := L) Tryz.results28 rvA rfl (.refl _) ?_ selA
  exact ⟨rfl, rfl, rfl⟩
end Go.Proofs.YthngolfabfijpaaGreatDoor
