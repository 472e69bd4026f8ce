/-
  Layer 3, the plain law: the number of pieces, step by step. Layer 3, the plain law: a number's plain text is read as it was. How long plain texts are.
-/
import Derived.Test.YtfmadoeadmclbaaDoorHd2
import Derived.Test.YtfmadoeadmclbaaDoorHd24
import Derived.Test.YtfmadoeadmclbaaDoorHd6
import Derived.Test.YtfmadoeadmclbaaDoorHd17
namespace Go.Proofs.YtfmadoeadmclbaaDoor
open Go.RowKit

section
variable {p : Pc} {sh P : Int} {A B : List UInt8}
theorem numOf_zero (h : trimL (p.whole ++ p.rest) = []) : numOf sh p = (0, 0) := by
  unfold numOf; simp only []; rw [if_pos h]
theorem numOf_step (hA : A = trimL (p.whole ++ p.rest)) (hB : B = trimR A) (hP : P = (A.length : Int) - p.rest.length + sh + 7) (h0 : A ≠ []) :
    numOf sh p = if P < B.length ∨ 40 < P then (0, 12) else if 9000000000000000000 < valD B * 10 ^ (P - B.length).toNat then (0, 12) else (if p.minus then -((valD B * 10 ^ (P - B.length).toNat : Nat) : Int) else (valD B * 10 ^ (P - B.length).toNat : Nat), 0) := by
  unfold numOf
  simp only []
  rw [← hA, if_neg h0, ← hB, ← hP]
end
def digs (B : List UInt8) (m : Nat) : List UInt8 := B ++ List.replicate (m - B.length) 48
theorem digs_length {B : List UInt8} {m : Nat} (h : B.length ≤ m) : (digs B m).length = m := by simp [digs]; omega
theorem digs_val (B : List UInt8) (m : Nat) : valD (digs B m) = valD B * 10 ^ (m - B.length) := valD_shift _ _
theorem digs_lo {B : List UInt8} {m k : Nat} (h : k < B.length) : (digs B m)[k]? = some (B[k]'h) := by
  rw [digs, List.getElem?_append_left h, List.getElem?_eq_getElem h]
theorem digs_hi {B : List UInt8} {m k : Nat} (h : B.length ≤ k) (hk : k < m) : (digs B m)[k]? = some 48 := by
  rw [digs, List.getElem?_append_right h, List.getElem?_replicate, if_pos (by omega)]
theorem valD_take_succ {l : List UInt8} {k : Nat} {c : UInt8} (h : l[k]? = some c) : valD (l.take (k + 1)) = 10 * valD (l.take k) + (c.toNat - 48) := by
  obtain ⟨h1, h2⟩ := List.getElem?_eq_some_iff.1 h
  rw [List.take_succ_eq_append_getElem h1, h2, valD_snoc]
theorem valD_take_le (l : List UInt8) (k : Nat) : valD (l.take k) ≤ valD l := by
  conv => rhs; rw [← List.take_append_drop k l, valD_append]
  have : valD (l.take k) * 1 ≤ valD (l.take k) * 10 ^ (l.drop k).length := Nat.mul_le_mul_left _ (Nat.pow_pos (by omega))
  omega
theorem shiftOf_bound (p : Pc) (hf : ∀ c ∈ p.power, isFig c = true) : -1048576 ≤ shiftOf 1048576 p ∧ shiftOf 1048576 p ≤ 1048576 := by
  unfold shiftOf
  simp only []
  have h : ((if (trimL p.power).length ≤ 6 then (valD p.power : Int) else ((1048576 : Nat) : Int)) : Int) ≤ 1048576 ∧ 0 ≤ ((if (trimL p.power).length ≤ 6 then (valD p.power : Int) else ((1048576 : Nat) : Int)) : Int) := by
    split
    · rename_i h6
      have := trimL_vallt hf (by omega)
      omega
    · omega
  split <;> omega
end Go.Proofs.YtfmadoeadmclbaaDoor
namespace Go.Proofs.YtfmadoeadmclbaaDoor
open Go.RowKit

theorem dig_byte {d : Nat} (h : d < 10) : (UInt8.ofNat (48 + d)).toNat = 48 + d := by
  rw [UInt8.toNat_ofNat']; omega
theorem dig_fig {d : Nat} (h : d < 10) : isFig (UInt8.ofNat (48 + d)) = true := by
  rw [isFig, dig_byte h, Bool.and_eq_true, decide_eq_true_iff, decide_eq_true_iff]; omega
theorem dec_figs : ∀ (u : Nat), ∀ c ∈ Lib.decDigits u, isFig c = true := by
  intro u
  induction u using Nat.strongRecOn with
  | _ u ih =>
    intro c hc
    rw [Lib.decDigits] at hc
    split at hc
    · rw [List.mem_singleton.1 hc]; exact dig_fig (by omega)
    · rcases List.mem_append.1 hc with h | h
      · exact ih (u / 10) (by omega) c h
      · rw [List.mem_singleton.1 h]; exact dig_fig (by omega)
theorem dec_val : ∀ (u : Nat), valD (Lib.decDigits u) = u := by
  intro u
  induction u using Nat.strongRecOn with
  | _ u ih =>
    rw [Lib.decDigits]
    split
    · show 10 * 0 + ((UInt8.ofNat (48 + u)).toNat - 48) = u
      rw [dig_byte (by omega)]; omega
    · rw [valD_snoc, ih (u / 10) (by omega), dig_byte (by omega)]; omega
theorem dec_ne3 (u : Nat) : Lib.decDigits u ≠ [] := by
  intro h
  have := Lib.decDigits_length u
  rw [h] at this
  have := Lib.nDigits_pos u
  simp at *
  omega
theorem dec_head3 : ∀ (u : Nat), 0 < u → (Lib.decDigits u).head? ≠ some 48 := by
  intro u
  induction u using Nat.strongRecOn with
  | _ u ih =>
    intro hu
    rw [Lib.decDigits]
    split
    · rename_i h
      intro e
      have e2 : UInt8.ofNat (48 + u) = 48 := Option.some.inj e
      have := congrArg UInt8.toNat e2
      rw [dig_byte h] at this
      have h3 : (48 : UInt8).toNat = 48 := rfl
      omega
    · have := ih (u / 10) (by omega) (by omega)
      cases hd : Lib.decDigits (u / 10) with
      | nil => exact absurd hd (dec_ne3 _)
      | cons c r => rw [hd] at this; exact this
theorem dec_zero (u : Nat) (h : (Lib.decDigits u).head? = some 48) : Lib.decDigits u = [48] := by
  rcases Nat.eq_zero_or_pos u with rfl | h0
  · rw [Lib.decDigits]; rfl
  · exact absurd h (dec_head3 u h0)

theorem pad_figs (r : Nat) : ∀ c ∈ List.replicate (7 - (Lib.decDigits r).length) 48 ++ Lib.decDigits r, isFig c = true := fun c hc => by
  rcases List.mem_append.1 hc with h | h
  · rw [List.eq_of_mem_replicate h]; rfl
  · exact dec_figs r c h
theorem rest_val {r : Nat} (h : r < 10000000) : (restL r).length ≤ 7 ∧ valD (restL r) * 10 ^ (7 - (restL r).length) = r := by
  have hl : (List.replicate (7 - (Lib.decDigits r).length) (48 : UInt8) ++ Lib.decDigits r).length = 7 := by
    have := dec_len (u := r) (k := 7) (by omega) (by omega)
    rw [List.length_append, List.length_replicate]; omega
  have h1 := trimR_val (List.replicate (7 - (Lib.decDigits r).length) 48 ++ Lib.decDigits r)
  rw [valD_lead, dec_val, hl] at h1
  have h2 := trimR_le (List.replicate (7 - (Lib.decDigits r).length) 48 ++ Lib.decDigits r)
  rw [hl] at h2
  exact ⟨h2, h1.symm⟩
theorem rest_ne {r : Nat} (h : r < 10000000) (h0 : r ≠ 0) : restL r ≠ [] := by
  intro e
  have := (rest_val h).2
  rw [e] at this
  exact h0 (by simpa [valD] using this.symm)

def restF (r : Nat) : List UInt8 := if r = 0 then [] else restL r
theorem restF_val {r : Nat} (h : r < 10000000) : (restF r).length ≤ 7 ∧ valD (restF r) * 10 ^ (7 - (restF r).length) = r := by
  unfold restF
  split
  · rename_i h0; subst h0; exact ⟨by simp, rfl⟩
  · exact rest_val h
theorem print_form {n : Int} (h : ¬ (n < -9000000000000000000 ∨ 9000000000000000000 < n)) :
    Form (printL n).1 (pc (decide (n < 0)) (Lib.decDigits (n.natAbs / 10000000)) (restF (n.natAbs % 10000000)) [] false) [] := by
  rw [printL, if_neg h]
  have hr : n.natAbs % 10000000 < 10000000 := by omega
  refine ⟨?_, dec_ne3 _, dec_figs _, ?_, dec_zero _, .inl ⟨rfl, rfl, rfl⟩⟩
  · unfold pc restF
    simp only [List.append_nil, decide_eq_true_eq]
    by_cases h0 : n.natAbs % 10000000 = 0
    · rw [if_pos h0, if_pos h0]; simp
    · rw [if_neg h0, if_neg h0, if_neg (rest_ne hr h0)]
  · intro c hc
    unfold pc restF at hc
    simp only [] at hc
    split at hc
    · cases hc
    · exact pad_figs _ c (trimR_mem hc)
theorem print_back {n : Int} (h : ¬ (n < -9000000000000000000 ∨ 9000000000000000000 < n)) : parseL (printL n).1 = (n, 0) := by
  have hf := print_form h
  obtain ⟨q, hq⟩ : ∃ q, q = n.natAbs / 10000000 := ⟨_, rfl⟩
  obtain ⟨r, hr⟩ : ∃ r, r = n.natAbs % 10000000 := ⟨_, rfl⟩
  rw [← hq, ← hr] at hf
  obtain ⟨R, hR⟩ : ∃ R, R = restF r := ⟨_, rfl⟩
  obtain ⟨r1, r2⟩ := restF_val (r := r) (by omega)
  rw [← hR] at hf r1 r2
  have hql : (Lib.decDigits q).length ≤ 20 := dec_len (by omega) (by omega)
  have hlen : (printL n).1.length ≤ 65536 := by
    have := congrArg List.length hf.eq
    unfold pc at this
    simp only [List.length_append, List.length_nil] at this
    split at this <;> split at this <;> simp at this <;> omega
  rw [parse_fwd hf hlen, shift_none]
  have hD : valD (Lib.decDigits q ++ R) * 10 ^ (7 - R.length) = n.natAbs := by
    rw [valD_append, dec_val, Nat.add_mul, r2, Nat.mul_assoc, ← Nat.pow_add, show R.length + (7 - R.length) = 7 by omega]
    omega
  by_cases h0 : trimL (Lib.decDigits q ++ R) = []
  · have hv : valD (Lib.decDigits q ++ R) = 0 := by rw [← trimL_val, h0]; rfl
    rw [hv, Nat.zero_mul] at hD
    rw [numOf_zero h0, show n = 0 by omega]
  · rw [numOf_step (A := trimL (Lib.decDigits q ++ R)) (B := trimR (trimL (Lib.decDigits q ++ R))) (P := ((trimL (Lib.decDigits q ++ R)).length : Int) - R.length + 0 + 7) rfl rfl rfl h0]
    have hA := trimL_le (Lib.decDigits q ++ R)
    rw [List.length_append] at hA
    have hB := trimR_le (trimL (Lib.decDigits q ++ R))
    have hvA := trimR_val (trimL (Lib.decDigits q ++ R))
    rw [trimL_val] at hvA
    generalize trimR (trimL (Lib.decDigits q ++ R)) = B at *
    generalize trimL (Lib.decDigits q ++ R) = A at *
    have hexp : ((A.length : Int) - R.length + 0 + 7 - B.length).toNat = (A.length - B.length) + (7 - R.length) := by omega
    have hN : valD B * 10 ^ ((A.length : Int) - R.length + 0 + 7 - B.length).toNat = n.natAbs := by
      rw [hexp, Nat.pow_add, ← Nat.mul_assoc, ← hvA]; exact hD
    rw [if_neg (by omega), hN, if_neg (by omega)]
    unfold pc
    simp only [decide_eq_true_eq]
    by_cases hn : n < 0
    · rw [if_pos hn]; congr 1; omega
    · rw [if_neg hn]; congr 1; omega
theorem print_scan {n : Int} (h : ¬ (n < -9000000000000000000 ∨ 9000000000000000000 < n)) : scanL (printL n).1 = (printL n).1.length := scan_fwd (print_form h)
end Go.Proofs.YtfmadoeadmclbaaDoor
namespace Go.Proofs.YtfmadoeadmclbaaDoor
open Go.RowKit

mutual
def mJ : J → Nat
  | .null => 4
  | .bool _ => 5
  | .num _ => 100
  | .text s => 6 * s.length + 2
  | .list xs => mJs xs + 2
  | .obj ns xs => mJm ns xs + 2
  | .other _ => 0
def mJs : List J → Nat
  | [] => 0
  | x :: r => mJ x + 1 + mJs r
def mJm : List (List UInt8) → List J → Nat
  | _, [] => 0
  | ns, x :: r => 6 * (ns.headD []).length + 4 + mJ x + mJm ns.tail r
end
theorem print_len (n : Int) : (printL n).1.length ≤ 100 := by
  unfold printL
  split
  · simp
  · have hq : (Lib.decDigits (n.natAbs / 10000000)).length ≤ 20 := dec_len (by omega) (by omega)
    have hr := rest_val (r := n.natAbs % 10000000) (by omega)
    simp only [List.length_append]
    split <;> split <;> simp <;> omega
theorem esc_len (x : UInt8) : 1 ≤ (escB x).length ∧ (escB x).length ≤ 6 := by
  unfold escB
  repeat' split
  all_goals simp
theorem quoB_len : ∀ (s : List UInt8), s.length ≤ (quoB s).length ∧ (quoB s).length ≤ 6 * s.length
  | [] => by rw [quoB]; simp
  | c :: t => by
    have := quoB_len t
    have := esc_len c
    rw [quoB, List.length_append, List.length_cons]; omega
theorem quo_len (s : List UInt8) : (quo s).length ≤ 6 * s.length + 2 := by
  have := quoB_len s
  unfold quo
  simp only [List.length_cons, List.length_append, List.length_nil]; omega
mutual
theorem prJ_len : ∀ (x : J), (prJ x).length ≤ mJ x
  | .null => by rw [prJ, mJ]; decide
  | .bool b => by rw [prJ, mJ]; cases b <;> decide
  | .num n => by rw [prJ, mJ]; exact print_len n
  | .text s => by rw [prJ, mJ]; exact quo_len s
  | .other _ => by rw [prJ, mJ]; exact Nat.le_refl _
  | .list xs => by
    have := prJs_len 91 xs
    rw [prJ, mJ, List.length_append]
    unfold endL
    split <;> simp only [List.length_cons, List.length_nil] <;> omega
  | .obj ns xs => by
    have := prMs_len 123 ns xs
    rw [prJ, mJ, List.length_append]
    unfold endL
    split <;> simp only [List.length_cons, List.length_nil] <;> omega
theorem prJs_len : ∀ (c : UInt8) (l : List J), (prJs c l).length ≤ mJs l
  | _, [] => by rw [prJs, mJs]; exact Nat.le_refl _
  | c, x :: r => by
    have := prJ_len x
    have := prJs_len 44 r
    rw [prJs, mJs, List.length_cons, List.length_append]; omega
theorem prMs_len : ∀ (c : UInt8) (ns : List (List UInt8)) (l : List J), (prMs c ns l).length ≤ mJm ns l
  | _, _, [] => by rw [prMs, mJm]; exact Nat.le_refl _
  | c, ns, x :: r => by
    have := prJ_len x
    have := quo_len (ns.headD [])
    have := prMs_len 44 ns.tail r
    rw [prMs, mJm]
    simp only [List.length_cons, List.length_append]; omega
end
theorem mJs_at : ∀ {xs : List J} {i : Nat} {x : J}, xs[i]? = some x → mJs (xs.take i) + (mJ x + 1) ≤ mJs xs
  | [], _, _, h => by simp at h
  | y :: r, 0, x, h => by
    obtain rfl : y = x := by simpa using h
    rw [List.take_zero, mJs, mJs]; omega
  | y :: r, i + 1, x, h => by
    have := mJs_at (xs := r) (i := i) (x := x) (by simpa using h)
    rw [List.take_succ_cons, mJs, mJs]; omega
theorem mJm_at : ∀ {ns : List (List UInt8)} {xs : List J} {i : Nat} {x : J} {nm : List UInt8}, ns[i]? = some nm → xs[i]? = some x → mJm ns (xs.take i) + (6 * nm.length + 4 + mJ x) ≤ mJm ns xs
  | _, [], _, _, _, _, h => by simp at h
  | [], y :: r, _, _, _, h, _ => by simp at h
  | n :: ns, y :: r, 0, x, nm, h1, h => by
    obtain rfl : y = x := by simpa using h
    obtain rfl : n = nm := by simpa using h1
    rw [List.take_zero, mJm, mJm, List.headD_cons]; omega
  | n :: ns, y :: r, i + 1, x, nm, h1, h => by
    have := mJm_at (ns := ns) (xs := r) (i := i) (x := x) (nm := nm) (by simpa using h1) (by simpa using h)
    rw [List.take_succ_cons, mJm, mJm, List.headD_cons, List.tail_cons]; omega
end Go.Proofs.YtfmadoeadmclbaaDoor
