/-
  Layer 3, the plain law of the document's Parse: the rows of figures that it goes through. The walks of layer 3's document: figure, run. The walk of layer 3's document's small.
-/
import Derived.Test.YtfmadoeadmclbaaGreatDoorHr19
import Derived.Test.YtfmadoeadmclbaaGreatDoorHr4
import Derived.Test.YtfmadoeadmclbaaGreatDoorHr17
namespace Go.Proofs.YtfmadoeadmclbaaGreatDoor
open Go.RowKit

def stepP (x : List UInt8 × Nat × Bool) (c : UInt8) : List UInt8 × Nat × Bool :=
  (if isFig c = true then x.1 ++ [c] else x.1, if isFig c = true ∧ x.2.2 = true then x.2.1 + 1 else x.2.1, x.2.2 || decide (c = 46))
def stP (l : List UInt8) : List UInt8 × Nat × Bool := l.foldl stepP ([], 0, false)
theorem stP_snoc {l : List UInt8} {i : Nat} {c : UInt8} (h : l[i]? = some c) : stP (l.take (i + 1)) = stepP (stP (l.take i)) c := by
  unfold stP
  rw [List.take_add_one, h]
  simp
theorem stepP_figs : ∀ (l : List UInt8) (x : List UInt8) (n : Nat) (d : Bool), (∀ c ∈ l, isFig c = true) → l.foldl stepP (x, n, d) = (x ++ l, if d = true then n + l.length else n, d)
  | [], x, n, d, _ => by simp
  | c :: r, x, n, d, h => by
    have hc := h c List.mem_cons_self
    have h46 : decide (c = 46) = false := by
      rw [decide_eq_false_iff_not]; rintro rfl; revert hc; decide
    rw [List.foldl_cons, stepP, if_pos hc, h46, Bool.or_false, stepP_figs r _ _ _ fun e he => h e (List.mem_cons_of_mem _ he)]
    simp only [hc, true_and, List.length_cons, List.append_assoc, List.singleton_append]
    cases d <;> simp <;> omega
def aheadP (p : Pc) : List UInt8 := (if p.minus then [45] else []) ++ (p.whole ++ ((if p.rest = [] then [] else [46]) ++ p.rest))
theorem stP_ahead {p : Pc} (hw : ∀ c ∈ p.whole, isFig c = true) (hr : ∀ c ∈ p.rest, isFig c = true) : stP (aheadP p) = (p.whole ++ p.rest, p.rest.length, decide (p.rest ≠ [])) := by
  unfold stP aheadP
  have h45 : isFig 45 = false := by decide
  have h46 : isFig 46 = false := by decide
  have h1 : (if p.minus then [(45 : UInt8)] else []).foldl stepP ([], 0, false) = ([], 0, false) := by
    cases p.minus <;> simp [stepP, h45]
  rw [List.foldl_append, h1, List.foldl_append, stepP_figs _ _ _ _ hw, List.foldl_append]
  by_cases h0 : p.rest = []
  · simp [h0]
  · rw [if_neg h0]
    have h2 : [(46 : UInt8)].foldl stepP ([] ++ p.whole, (if false = true then 0 + p.whole.length else 0), false) = (p.whole, 0, true) := by
      simp [stepP, h46]
    rw [h2, stepP_figs _ _ _ _ hr]
    simp [h0]
theorem ahead_noE {p : Pc} (hw : ∀ c ∈ p.whole, isFig c = true) (hr : ∀ c ∈ p.rest, isFig c = true) : ∀ c ∈ aheadP p, c ≠ 101 ∧ c ≠ 69 := by
  intro c hc
  unfold aheadP at hc
  have hf : ∀ c : UInt8, isFig c = true → c ≠ 101 ∧ c ≠ 69 := fun c h => ⟨fig_ne h (by decide), fig_ne h (by decide)⟩
  rcases List.mem_append.1 hc with h | h
  · cases hm : p.minus with
    | true => rw [hm] at h; have : c = 45 := by simpa using h
              subst this; decide
    | false => rw [hm] at h; simp at h
  rcases List.mem_append.1 h with h | h
  · exact hf c (hw c h)
  rcases List.mem_append.1 h with h | h
  · split at h
    · simp at h
    · have : c = 46 := by simpa using h
      subst this; decide
  · exact hf c (hr c h)
theorem form_ahead {s ex : List UInt8} {p : Pc} (h : Form s p ex) : s = aheadP p ++ ex := by
  rw [h.eq]; unfold aheadP; simp [List.append_assoc]
theorem trimL_zero (r : List UInt8) : trimL (48 :: r) = trimL r := by
  unfold trimL; rw [List.dropWhile_cons, if_pos (by decide)]
theorem trimL_stop {c : UInt8} (r : List UInt8) (h : c ≠ 48) : trimL (c :: r) = c :: r := by
  unfold trimL; rw [List.dropWhile_cons, if_neg (by simpa using h)]
theorem drop_get {s : List UInt8} {i : Nat} {c : UInt8} (h : s[i]? = some c) : s.drop i = c :: s.drop (i + 1) := by
  obtain ⟨hi, e⟩ := List.getElem?_eq_some_iff.1 h
  rw [List.drop_eq_getElem_cons hi, e]

theorem trimR_last {s : List UInt8} {c : UInt8} (h : s[s.length - 1]? = some c) : (c = 48 → trimR (s.take (s.length - 1)) = trimR s) ∧ (c ≠ 48 → trimR s = s) := by
  have hne : s ≠ [] := by rintro rfl; simp at h
  have hs : s = s.take (s.length - 1) ++ [c] := by
    conv => lhs; rw [← List.take_append_drop (s.length - 1) s]
    congr 1
    rw [List.drop_eq_getElem_cons (by have := List.length_pos_iff.2 hne; omega)]
    rw [List.getElem?_eq_getElem (by have := List.length_pos_iff.2 hne; omega)] at h
    rw [Option.some.inj h, List.drop_eq_nil_of_le (by omega)]
  refine ⟨fun e => ?_, fun e => ?_⟩
  · conv => rhs; rw [hs, e]
    exact (trimR_app _ 1).symm
  · conv => lhs; rw [hs]
    unfold trimR
    rw [List.reverse_append, List.reverse_singleton, List.singleton_append, List.dropWhile_cons, if_neg (by simpa using e), List.reverse_cons, List.reverse_reverse]
    exact hs.symm
theorem less_figs : ∀ (a b : List UInt8), a.length = b.length → (∀ c ∈ a, isFig c = true) → (∀ c ∈ b, isFig c = true) → Op.bytesLess a b = decide (valD a < valD b)
  | [], [], _, _, _ => rfl
  | [], _ :: _, h, _, _ => by simp at h
  | _ :: _, [], h, _, _ => by simp at h
  | c :: r, d :: t, h, ha, hb => by
    have hc := ha c List.mem_cons_self
    have hd := hb d List.mem_cons_self
    have ih := less_figs r t (by simpa using h) (fun e he => ha e (List.mem_cons_of_mem _ he)) (fun e he => hb e (List.mem_cons_of_mem _ he))
    have h1 : valD (c :: r) = (c.toNat - 48) * 10 ^ r.length + valD r := by
      unfold valD; rw [List.foldl_cons, valD_foldl]; simp [valD]
    have h2 : valD (d :: t) = (d.toNat - 48) * 10 ^ r.length + valD t := by
      have : r.length = t.length := by simpa using h
      unfold valD; rw [List.foldl_cons, valD_foldl, this]; simp [valD]
    have l1 := valD_lt r fun e he => ha e (List.mem_cons_of_mem _ he)
    have l2 := valD_lt t fun e he => hb e (List.mem_cons_of_mem _ he)
    have : t.length = r.length := by have : r.length = t.length := by simpa using h
                                     omega
    rw [this] at l2
    simp only [isFig, Bool.and_eq_true, decide_eq_true_eq] at hc hd
    rw [Op.bytesLess, ih, h1, h2]
    by_cases hlt : c.toNat < d.toNat
    · have h6 : (d.toNat - 48) * 10 ^ r.length = (c.toNat - 48) * 10 ^ r.length + (d.toNat - c.toNat) * 10 ^ r.length := by
        rw [← Nat.add_mul]; congr 1; omega
      have h5 : 10 ^ r.length ≤ (d.toNat - c.toNat) * 10 ^ r.length := Nat.le_mul_of_pos_left _ (by omega)
      rw [decide_eq_true (show c < d from UInt8.lt_iff_toNat_lt.2 hlt), Bool.true_or]
      exact (decide_eq_true (by omega)).symm
    · have hnl : ¬ c < d := fun h => hlt (UInt8.lt_iff_toNat_lt.1 h)
      rw [decide_eq_false hnl, Bool.false_or]
      by_cases hgt : d.toNat < c.toNat
      · have h6 : (c.toNat - 48) * 10 ^ r.length = (d.toNat - 48) * 10 ^ r.length + (c.toNat - d.toNat) * 10 ^ r.length := by
          rw [← Nat.add_mul]; congr 1; omega
        have h5 : 10 ^ r.length ≤ (c.toNat - d.toNat) * 10 ^ r.length := Nat.le_mul_of_pos_left _ (by omega)
        have hne : c ≠ d := fun e => by subst e; omega
        rw [beq_eq_false_iff_ne.2 hne, Bool.false_and]
        exact (decide_eq_false (by omega)).symm
      · have : c = d := UInt8.toNat_inj.1 (by omega)
        subst this
        rw [beq_self_eq_true, Bool.true_and, Bool.eq_iff_iff, decide_eq_true_iff, decide_eq_true_iff]
        omega
theorem figs_inj : ∀ (a b : List UInt8), a.length = b.length → (∀ c ∈ a, isFig c = true) → (∀ c ∈ b, isFig c = true) → valD a = valD b → a = b
  | [], [], _, _, _, _ => rfl
  | [], _ :: _, h, _, _, _ => by simp at h
  | _ :: _, [], h, _, _, _ => by simp at h
  | c :: r, d :: t, h, ha, hb, he => by
    have hc := ha c List.mem_cons_self
    have hd := hb d List.mem_cons_self
    have hl : r.length = t.length := by simpa using h
    have h1 : valD (c :: r) = (c.toNat - 48) * 10 ^ r.length + valD r := by
      unfold valD; rw [List.foldl_cons, valD_foldl]; simp [valD]
    have h2 : valD (d :: t) = (d.toNat - 48) * 10 ^ r.length + valD t := by
      unfold valD; rw [List.foldl_cons, valD_foldl, hl]; simp [valD]
    have l1 := valD_lt r fun e he => ha e (List.mem_cons_of_mem _ he)
    have l2 := valD_lt t fun e he => hb e (List.mem_cons_of_mem _ he)
    rw [← hl] at l2
    simp only [isFig, Bool.and_eq_true, decide_eq_true_eq] at hc hd
    rw [h1, h2] at he
    have hq : c.toNat - 48 = d.toNat - 48 := by
      have e1 : ((c.toNat - 48) * 10 ^ r.length + valD r) / 10 ^ r.length = c.toNat - 48 := by
        rw [Nat.add_comm, Nat.add_mul_div_right _ _ (by omega), Nat.div_eq_of_lt l1, Nat.zero_add]
      have e2 : ((d.toNat - 48) * 10 ^ r.length + valD t) / 10 ^ r.length = d.toNat - 48 := by
        rw [Nat.add_comm, Nat.add_mul_div_right _ _ (by omega), Nat.div_eq_of_lt l2, Nat.zero_add]
      rw [← e1, he, e2]
    rw [hq] at he
    obtain rfl : c = d := UInt8.toNat_inj.1 (by omega)
    rw [figs_inj r t hl (fun e he => ha e (List.mem_cons_of_mem _ he)) (fun e he => hb e (List.mem_cons_of_mem _ he)) (by omega)]
theorem stP_le : ∀ (l : List UInt8) (x : List UInt8 × Nat × Bool), (l.foldl stepP x).1.length ≤ x.1.length + l.length ∧ (l.foldl stepP x).2.1 ≤ x.2.1 + l.length
  | [], _ => ⟨Nat.le_refl _, Nat.le_refl _⟩
  | c :: r, x => by
    have ih := stP_le r (stepP x c)
    have h1 : (stepP x c).1.length ≤ x.1.length + 1 := by unfold stepP; dsimp only; split <;> simp
    have h2 : (stepP x c).2.1 ≤ x.2.1 + 1 := by unfold stepP; dsimp only; split <;> omega
    rw [List.foldl_cons, List.length_cons]
    omega
end Go.Proofs.YtfmadoeadmclbaaGreatDoor
namespace Go.Proofs.YtfmadoeadmclbaaGreatDoor
open Go.RowKit

theorem figure_any (c : UInt8) (w : World) : Calls Tryz.prog 81 #[.int .u8 c.toNat] w fun e w' => e = .returned (.bool (isFig c)) ∧ w' = w := by
  go_enter Tryz.func81, Tryz.ntmps81
  by_cases h1 : 48 ≤ c.toNat
  · have d1 : decide ((c.toNat : Int) ≥ 48) = true := by rw [decide_eq_true_iff]; omega
    have d1' : decide ((48 : Int) ≤ (c.toNat : Int)) = true := d1
    by_cases h2 : c.toNat ≤ 57
    · have d2 : decide ((c.toNat : Int) ≤ 57) = true := by rw [decide_eq_true_iff]; omega
      have Hv : Hid (isFig c = true) := by show isFig c = true; simp [isFig, h1, h2]
      clear h1 h2
      go_wp2
      go_ret
      exact ⟨by rw [Hv.out] <;> rfl, rfl⟩
    · have d2 : decide ((c.toNat : Int) ≤ 57) = false := by rw [decide_eq_false_iff_not]; omega
      have Hv : Hid (isFig c = false) := by show isFig c = false; simp [isFig, h2]
      clear h1 h2
      go_wp2
      go_ret
      exact ⟨by rw [Hv.out] <;> rfl, rfl⟩
  · have d1 : decide ((c.toNat : Int) ≥ 48) = false := by rw [decide_eq_false_iff_not]; omega
    have d1' : decide ((48 : Int) ≤ (c.toNat : Int)) = false := d1
    have Hv : Hid (isFig c = false) := by show isFig c = false; simp [isFig, h1]
    clear h1
    go_wp2
    go_ret
    exact ⟨by rw [Hv.out] <;> rfl, rfl⟩

theorem bytes_get {S : ByteArray} {i : Nat} (h : i < S.size) : S.data.toList[i]? = some (S[i]'h) := by
  rw [Array.getElem?_toList]
  exact Array.getElem?_eq_getElem (h := h)
theorem bytes_size (S : ByteArray) : S.data.toList.length = S.size := by rw [Array.length_toList]; rfl

set_option maxRecDepth 100000 in
set_option maxHeartbeats 4000000 in
theorem run_any (S : ByteArray) (l : List UInt8) (a : Nat) (w : World) (hl : S.data.toList = l) (hS : S.size ≤ 1000000) (ha : a ≤ 2000000) :
    Calls Tryz.prog 80 #[.string S, .int .i64 a] w fun e w' => e = .returned (.int .i64 (figs (l.drop a) : Nat)) ∧ w' = w := by
  have Hl := Lib.hid hl
  have hln : l.length = S.size := by rw [← hl, bytes_size]
  have Hln := Lib.hid hln
  clear hl hln
  go_enter Tryz.func80, Tryz.ntmps80
  go_wp2
  go_loopw [5] (fun n wr => ∃ k : Nat, n = .int .i64 k ∧ k ≤ S.size ∧ wr = w ∧ Hid (figs (l.drop a) = k + figs (l.drop (a + k)))) (fun n _ => S.size - (intOf n).toNat)
  case atStart => exact ⟨0, rfl, Nat.zero_le _, rfl, by show _ = _; simp⟩
  case round =>
    obtain ⟨k, rfl, hk, rfl, hf⟩ := hrel
    by_cases hlt : a + k < S.size
    · have d1 : decide ((a : Int) + (k : Int) < (S.size : Int)) = true := by rw [decide_eq_true_iff]; omega
      have d1n : decide (a + k < S.size) = true := by rw [decide_eq_true_iff]; omega
      have hd : l.drop (a + k) = (S[a + k]'hlt) :: l.drop (a + k + 1) := by
        have h1 : l[a + k]? = some (S[a + k]'hlt) := by rw [← Hl.out]; exact bytes_get hlt
        obtain ⟨h2, h3⟩ := List.getElem?_eq_some_iff.1 h1
        rw [List.drop_eq_getElem_cons h2, h3]
      have HFG := Lib.hid (figure_any (S[a + k]'hlt) wr)
      cases hfig : isFig (S[a + k]'hlt) with
      | true =>
        have HF := Lib.hid (hf.out.trans (by rw [hd, figs, if_pos hfig]))
        rw [hfig] at HFG
        clear hf hd hfig
        go_wp2_with (first | (go_at_call 81; refine HFG.out.mono ?_; rintro e w' ⟨rfl, rfl⟩) | fail)
        go_roundw
        case rel => exact ⟨k + 1, by go_num, by omega, by trivial, by show _ = _; rw [HF.out]; simp only [Nat.add_assoc]; omega⟩
        case measure => simp [intOf]; omega
      | false =>
        have HF := Lib.hid (show figs (l.drop a) = k by rw [hf.out, hd, figs, hfig]; rfl)
        rw [hfig] at HFG
        clear hf hd hfig
        go_wp2_with (first | (go_at_call 81; refine HFG.out.mono ?_; rintro e w' ⟨rfl, rfl⟩) | fail)
        go_ret
        exact ⟨by rw [HF.out] <;> rfl, rfl⟩
    · have d1 : decide ((a : Int) + (k : Int) < (S.size : Int)) = false := by rw [decide_eq_false_iff_not]; omega
      have d1n : decide (a + k < S.size) = false := by rw [decide_eq_false_iff_not]; omega
      have HF := Lib.hid (show figs (l.drop a) = k by rw [hf.out, List.drop_of_length_le (by rw [Hln.out]; omega)]; rfl)
      clear hf
      go_wp2_with fail
      go_ret
      exact ⟨by rw [HF.out] <;> rfl, rfl⟩
end Go.Proofs.YtfmadoeadmclbaaGreatDoor
namespace Go.Proofs.YtfmadoeadmclbaaGreatDoor
open Go.RowKit

def smallG (n : Nat) (c : UInt8) : Nat := if n < 1000000 then 10 * n + (c.toNat - 48) else n
theorem smallG_val : ∀ (s : List UInt8) (n v : Nat), (n = v ∨ (1000000 ≤ n ∧ 1000000 ≤ v)) → ((s.foldl smallG n = s.foldl (fun n c => 10 * n + (c.toNat - 48)) v) ∨ (1000000 ≤ s.foldl smallG n ∧ 1000000 ≤ s.foldl (fun n c => 10 * n + (c.toNat - 48)) v)) := by
  intro s
  induction s with
  | nil => intro n v h; exact h
  | cons c r ih =>
    intro n v h
    rw [List.foldl_cons, List.foldl_cons]
    apply ih
    unfold smallG
    rcases h with rfl | ⟨h1, h2⟩
    · by_cases hn : n < 1000000
      · rw [if_pos hn]; exact .inl rfl
      · rw [if_neg hn]; exact .inr ⟨by omega, by omega⟩
    · rw [if_neg (by omega)]; exact .inr ⟨h1, by omega⟩
theorem smallG_min (s : List UInt8) : min (s.foldl smallG 0) 1000000 = min (valD s) 1000000 := by
  rcases smallG_val s 0 0 (.inl rfl) with h | ⟨h1, h2⟩
  · rw [h]; rfl
  · have h3 : 1000000 ≤ valD s := h2
    rw [Nat.min_eq_right h1, Nat.min_eq_right h3]
set_option maxRecDepth 100000 in
set_option maxHeartbeats 4000000 in
theorem small_any (S : ByteArray) (s : List UInt8) (w : World) (hs : S.data.toList = s) (hS : S.size ≤ 1000000) (hf : ∀ c ∈ s, isFig c = true) :
    Calls Tryz.prog 82 #[.string S] w fun e w' => e = .returned (.int .i64 ((min (valD s) 1000000 : Nat) : Int)) ∧ w' = w := by
  have Hs := Lib.hid hs
  have hln : s.length = S.size := by rw [← hs, bytes_size]
  have Hln := Lib.hid hln
  have Hf := Lib.hid hf
  clear hs hln hf
  go_enter Tryz.func82, Tryz.ntmps82
  go_wp2
  go_loopw [3, 4] (fun n i wr => ∃ k N : Nat, n = .int .i64 N ∧ i = .int .i64 k ∧ k ≤ S.size ∧ wr = w ∧ N ≤ 10000000 ∧ Hid (N = (s.take k).foldl smallG 0)) (fun _ i _ => S.size - (intOf i).toNat)
  case atStart => exact ⟨0, 0, rfl, rfl, Nat.zero_le _, rfl, by omega, by show _ = _; simp⟩
  case round =>
    obtain ⟨k, N, rfl, rfl, hk, rfl, hN, hfold⟩ := hrel
    by_cases hlt : k < S.size
    · have h1 : s[k]? = some (S[k]'hlt) := by rw [← Hs.out]; exact bytes_get hlt
      obtain ⟨c, hc⟩ : ∃ c, S[k]'hlt = c := ⟨_, rfl⟩
      rw [hc] at h1
      have hfig := Hf.out c (List.mem_of_getElem? h1)
      simp only [isFig, Bool.and_eq_true, decide_eq_true_eq] at hfig
      have Hnext : Hid ((s.take (k + 1)).foldl smallG 0 = smallG N c) := by
        show _ = _
        obtain ⟨h2, h3⟩ := List.getElem?_eq_some_iff.1 h1
        rw [List.take_succ_eq_append_getElem h2, h3, List.foldl_append, ← hfold.out]; rfl
      clear h1 hfold
      by_cases hsm : N < 1000000
      · have d1 : decide ((N : Int) < 1000000) = true := by rw [decide_eq_true_iff]; omega
        have d1n : decide (N < 1000000) = true := by rw [decide_eq_true_iff]; omega
        go_wp2_with fail
        go_roundw
        case rel =>
          refine ⟨k + 1, 10 * N + (c.toNat - 48), ?_, by go_num, by omega, trivial, by omega, ?_⟩
          · refine congrArg (Value.int .i64) ?_
            omega
          · show _ = _; rw [Hnext.out, smallG, if_pos hsm]
        case measure => simp [intOf]; omega
      · have d1 : decide ((N : Int) < 1000000) = false := by rw [decide_eq_false_iff_not]; omega
        have d1n : decide (N < 1000000) = false := by rw [decide_eq_false_iff_not]; omega
        go_wp2_with fail
        go_roundw
        case rel =>
          refine ⟨k + 1, N, rfl, by go_num, by omega, trivial, by omega, ?_⟩
          show _ = _; rw [Hnext.out, smallG, if_neg hsm]
        case measure => simp [intOf]; omega
    · obtain rfl : k = S.size := by omega
      have Hv : Hid ((min (valD s) 1000000 : Nat) = min N 1000000) := by
        show _ = _
        have := hfold.out
        rw [List.take_of_length_le (by rw [Hln.out]; exact Nat.le_refl _)] at this
        rw [this, smallG_min]
      clear hfold
      by_cases hb : 1000000 < N
      · have d1 : decide ((N : Int) > 1000000) = true := by rw [decide_eq_true_iff]; omega
        have d1' : decide ((1000000 : Int) < (N : Int)) = true := d1
        have d1n : decide (1000000 < N) = true := by rw [decide_eq_true_iff]; omega
        have Hv2 : Hid ((min (valD s) 1000000 : Nat) = 1000000) := by show _ = _; rw [Hv.out]; omega
        go_wp2_with fail
        go_ret
        exact ⟨by rw [Hv2.out] <;> rfl, rfl⟩
      · have d1 : decide ((N : Int) > 1000000) = false := by rw [decide_eq_false_iff_not]; omega
        have d1' : decide ((1000000 : Int) < (N : Int)) = false := d1
        have d1n : decide (1000000 < N) = false := by rw [decide_eq_false_iff_not]; omega
        have Hv2 : Hid ((min (valD s) 1000000 : Nat) = N) := by show _ = _; rw [Hv.out]; omega
        go_wp2_with fail
        go_ret
        exact ⟨by rw [Hv2.out] <;> rfl, rfl⟩
end Go.Proofs.YtfmadoeadmclbaaGreatDoor
