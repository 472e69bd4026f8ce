/-
  The walk of layer 3's document's small.
-/
import Derived.Test.YtlffebmhknilhaaDoorRefRun
namespace Go.Proofs.YtlffebmhknilhaaDoor
open Go.RowKit

/-- A row of figures, reckoned up to 1000000. -/
def smallG (n : Nat) (c : UInt8) : Nat := if n < 1000000 then 10 * n + (c.toNat - 48) else n
theorem smallG_val : ∀ (s : List UInt8) (n v : Nat), (n = v ∨ (1000000 ≤ n ∧ 1000000 ≤ v)) → ((s.foldl smallG n = s.foldl (fun n c => 10 * n + (c.toNat - 48)) v) ∨ (1000000 ≤ s.foldl smallG n ∧ 1000000 ≤ s.foldl (fun n c => 10 * n + (c.toNat - 48)) v)) := by
  intro s
  induction s with
  | nil => intro n v h; exact h
  | cons c r ih =>
    intro n v h
    rw [List.foldl_cons, List.foldl_cons]
    apply ih
    unfold smallG
    rcases h with rfl | ⟨h1, h2⟩
    · by_cases hn : n < 1000000
      · rw [if_pos hn]; exact .inl rfl
      · rw [if_neg hn]; exact .inr ⟨by omega, by omega⟩
    · rw [if_neg (by omega)]; exact .inr ⟨h1, by omega⟩
theorem smallG_min (s : List UInt8) : min (s.foldl smallG 0) 1000000 = min (valD s) 1000000 := by
  rcases smallG_val s 0 0 (.inl rfl) with h | ⟨h1, h2⟩
  · rw [h]; rfl
  · have h3 : 1000000 ≤ valD s := h2
    rw [Nat.min_eq_right h1, Nat.min_eq_right h3]
theorem smallG_bound {n : Nat} {c : UInt8} (hc : c.toNat ≤ 57) (h : n ≤ 10000000) : smallG n c ≤ 10000000 := by
  unfold smallG; split <;> omega

set_option maxRecDepth 100000 in
set_option maxHeartbeats 4000000 in
theorem small_any (S : ByteArray) (s : List UInt8) (w : World) (hs : S.data.toList = s) (hS : S.size ≤ 1000000) (hf : ∀ c ∈ s, isFig c = true) :
    Calls Tryd.prog 25 #[.string S] w fun e w' => e = .returned (.int .i64 ((min (valD s) 1000000 : Nat) : Int)) ∧ w' = w := by
  have Hs := Lib.hid hs
  have hln : s.length = S.size := by rw [← hs, bytes_size]
  have Hln := Lib.hid hln
  have Hf := Lib.hid hf
  clear hs hln hf
  go_enter Tryd.func25, Tryd.ntmps25
  go_wp2
  go_loopw [3, 4] (fun n i wr => ∃ k N : Nat, n = .int .i64 N ∧ i = .int .i64 k ∧ k ≤ S.size ∧ wr = w ∧ N ≤ 10000000 ∧ Hid (N = (s.take k).foldl smallG 0)) (fun _ i _ => S.size - (intOf i).toNat)
  case atStart => exact ⟨0, 0, rfl, rfl, Nat.zero_le _, rfl, by omega, by show _ = _; simp⟩
  case round =>
    obtain ⟨k, N, rfl, rfl, hk, rfl, hN, hfold⟩ := hrel
    by_cases hlt : k < S.size
    · have h1 : s[k]? = some (S[k]'hlt) := by rw [← Hs.out]; exact bytes_get hlt
      obtain ⟨c, hc⟩ : ∃ c, S[k]'hlt = c := ⟨_, rfl⟩
      rw [hc] at h1
      have hfig := Hf.out c (List.mem_of_getElem? h1)
      simp only [isFig, Bool.and_eq_true, decide_eq_true_eq] at hfig
      have Hnext : Hid ((s.take (k + 1)).foldl smallG 0 = smallG N c) := by
        show _ = _
        obtain ⟨h2, h3⟩ := List.getElem?_eq_some_iff.1 h1
        rw [List.take_succ_eq_append_getElem h2, h3, List.foldl_append, ← hfold.out]; rfl
      clear h1 hfold
      by_cases hsm : N < 1000000
      · have d1 : decide ((N : Int) < 1000000) = true := by rw [decide_eq_true_iff]; omega
        have d1n : decide (N < 1000000) = true := by rw [decide_eq_true_iff]; omega
        go_wp2_with fail
        go_roundw
        case rel =>
          refine ⟨k + 1, 10 * N + (c.toNat - 48), ?_, by go_num, by omega, trivial, by omega, ?_⟩
          · refine congrArg (Value.int .i64) ?_
            omega
          · show _ = _; rw [Hnext.out, smallG, if_pos hsm]
        case measure => simp [intOf]; omega
      · have d1 : decide ((N : Int) < 1000000) = false := by rw [decide_eq_false_iff_not]; omega
        have d1n : decide (N < 1000000) = false := by rw [decide_eq_false_iff_not]; omega
        go_wp2_with fail
        go_roundw
        case rel =>
          refine ⟨k + 1, N, rfl, by go_num, by omega, trivial, by omega, ?_⟩
          show _ = _; rw [Hnext.out, smallG, if_neg hsm]
        case measure => simp [intOf]; omega
    · obtain rfl : k = S.size := by omega
      have Hv : Hid ((min (valD s) 1000000 : Nat) = min N 1000000) := by
        show _ = _
        have := hfold.out
        rw [List.take_of_length_le (by rw [Hln.out]; exact Nat.le_refl _)] at this
        rw [this, smallG_min]
      clear hfold
      by_cases hb : 1000000 < N
      · have d1 : decide ((N : Int) > 1000000) = true := by rw [decide_eq_true_iff]; omega
        have d1' : decide ((1000000 : Int) < (N : Int)) = true := d1
        have d1n : decide (1000000 < N) = true := by rw [decide_eq_true_iff]; omega
        have Hv2 : Hid ((min (valD s) 1000000 : Nat) = 1000000) := by show _ = _; rw [Hv.out]; omega
        go_wp2_with fail
        go_ret
        exact ⟨by rw [Hv2.out] <;> rfl, rfl⟩
      · have d1 : decide ((N : Int) > 1000000) = false := by rw [decide_eq_false_iff_not]; omega
        have d1' : decide ((1000000 : Int) < (N : Int)) = false := d1
        have d1n : decide (1000000 < N) = false := by rw [decide_eq_false_iff_not]; omega
        have Hv2 : Hid ((min (valD s) 1000000 : Nat) = N) := by show _ = _; rw [Hv.out]; omega
        go_wp2_with fail
        go_ret
        exact ⟨by rw [Hv2.out] <;> rfl, rfl⟩
end Go.Proofs.YtlffebmhknilhaaDoor
