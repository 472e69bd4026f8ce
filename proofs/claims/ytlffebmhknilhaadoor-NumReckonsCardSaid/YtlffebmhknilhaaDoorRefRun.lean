/-
  The walks of layer 3's document: figure, run.
-/
import Derived.Test.YtlffebmhknilhaaDoorNumForm
import Derived.Test.YtlffebmhknilhaaDoorFigures
namespace Go.Proofs.YtlffebmhknilhaaDoor
open Go.RowKit

theorem figure_any (c : UInt8) (w : World) : Calls Tryd.prog 24 #[.int .u8 c.toNat] w fun e w' => e = .returned (.bool (isFig c)) ∧ w' = w := by
  go_enter Tryd.func24, Tryd.ntmps24
  by_cases h1 : 48 ≤ c.toNat
  · have d1 : decide ((c.toNat : Int) ≥ 48) = true := by rw [decide_eq_true_iff]; omega
    have d1' : decide ((48 : Int) ≤ (c.toNat : Int)) = true := d1
    by_cases h2 : c.toNat ≤ 57
    · have d2 : decide ((c.toNat : Int) ≤ 57) = true := by rw [decide_eq_true_iff]; omega
      have Hv : Hid (isFig c = true) := by show isFig c = true; simp [isFig, h1, h2]
      clear h1 h2
      go_wp2
      go_ret
      exact ⟨by rw [Hv.out] <;> rfl, rfl⟩
    · have d2 : decide ((c.toNat : Int) ≤ 57) = false := by rw [decide_eq_false_iff_not]; omega
      have Hv : Hid (isFig c = false) := by show isFig c = false; simp [isFig, h2]
      clear h1 h2
      go_wp2
      go_ret
      exact ⟨by rw [Hv.out] <;> rfl, rfl⟩
  · have d1 : decide ((c.toNat : Int) ≥ 48) = false := by rw [decide_eq_false_iff_not]; omega
    have d1' : decide ((48 : Int) ≤ (c.toNat : Int)) = false := d1
    have Hv : Hid (isFig c = false) := by show isFig c = false; simp [isFig, h1]
    clear h1
    go_wp2
    go_ret
    exact ⟨by rw [Hv.out] <;> rfl, rfl⟩

theorem bytes_get {S : ByteArray} {i : Nat} (h : i < S.size) : S.data.toList[i]? = some (S[i]'h) := by
  rw [Array.getElem?_toList]
  exact Array.getElem?_eq_getElem (h := h)
theorem bytes_size (S : ByteArray) : S.data.toList.length = S.size := by rw [Array.length_toList]; rfl

set_option maxRecDepth 100000 in
set_option maxHeartbeats 4000000 in
theorem run_any (S : ByteArray) (l : List UInt8) (a : Nat) (w : World) (hl : S.data.toList = l) (hS : S.size ≤ 1000000) (ha : a ≤ 2000000) :
    Calls Tryd.prog 26 #[.string S, .int .i64 a] w fun e w' => e = .returned (.int .i64 (figs (l.drop a) : Nat)) ∧ w' = w := by
  have Hl := Lib.hid hl
  have hln : l.length = S.size := by rw [← hl, bytes_size]
  have Hln := Lib.hid hln
  clear hl hln
  go_enter Tryd.func26, Tryd.ntmps26
  go_wp2
  go_loopw [5] (fun n wr => ∃ k : Nat, n = .int .i64 k ∧ k ≤ S.size ∧ wr = w ∧ Hid (figs (l.drop a) = k + figs (l.drop (a + k)))) (fun n _ => S.size - (intOf n).toNat)
  case atStart => exact ⟨0, rfl, Nat.zero_le _, rfl, by show _ = _; simp⟩
  case round =>
    obtain ⟨k, rfl, hk, rfl, hf⟩ := hrel
    by_cases hlt : a + k < S.size
    · have d1 : decide ((a : Int) + (k : Int) < (S.size : Int)) = true := by rw [decide_eq_true_iff]; omega
      have d1n : decide (a + k < S.size) = true := by rw [decide_eq_true_iff]; omega
      have hd : l.drop (a + k) = (S[a + k]'hlt) :: l.drop (a + k + 1) := by
        have h1 : l[a + k]? = some (S[a + k]'hlt) := by rw [← Hl.out]; exact bytes_get hlt
        obtain ⟨h2, h3⟩ := List.getElem?_eq_some_iff.1 h1
        rw [List.drop_eq_getElem_cons h2, h3]
      have HFG := Lib.hid (figure_any (S[a + k]'hlt) wr)
      cases hfig : isFig (S[a + k]'hlt) with
      | true =>
        have HF := Lib.hid (hf.out.trans (by rw [hd, figs, if_pos hfig]))
        rw [hfig] at HFG
        clear hf hd hfig
        go_wp2_with (first | (go_at_call 24; refine HFG.out.mono ?_; rintro e w' ⟨rfl, rfl⟩) | fail)
        go_roundw
        case rel => exact ⟨k + 1, by go_num, by omega, by trivial, by show _ = _; rw [HF.out]; simp only [Nat.add_assoc]; omega⟩
        case measure => simp [intOf]; omega
      | false =>
        have HF := Lib.hid (show figs (l.drop a) = k by rw [hf.out, hd, figs, hfig]; rfl)
        rw [hfig] at HFG
        clear hf hd hfig
        go_wp2_with (first | (go_at_call 24; refine HFG.out.mono ?_; rintro e w' ⟨rfl, rfl⟩) | fail)
        go_ret
        exact ⟨by rw [HF.out] <;> rfl, rfl⟩
    · have d1 : decide ((a : Int) + (k : Int) < (S.size : Int)) = false := by rw [decide_eq_false_iff_not]; omega
      have d1n : decide (a + k < S.size) = false := by rw [decide_eq_false_iff_not]; omega
      have HF := Lib.hid (show figs (l.drop a) = k by rw [hf.out, List.drop_of_length_le (by rw [Hln.out]; omega)]; rfl)
      clear hf
      go_wp2_with fail
      go_ret
      exact ⟨by rw [HF.out] <;> rfl, rfl⟩
end Go.Proofs.YtlffebmhknilhaaDoor
