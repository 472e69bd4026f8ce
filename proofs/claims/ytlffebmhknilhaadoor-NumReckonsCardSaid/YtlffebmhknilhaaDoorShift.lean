/-
  The walk of num's shift: by how many places a power moves the point.
-/
import Derived.Test.YtlffebmhknilhaaDoorFigures
import Derived.Test.YtlffebmhknilhaaDoorShelf
namespace Go.Proofs.YtlffebmhknilhaaDoor
open Go.RowKit

theorem trimL_lib (s : List UInt8) : Lib.trimLeftB s 48 = trimL s := by
  induction s with
  | nil => rfl
  | cons c r ih =>
    unfold Lib.trimLeftB trimL
    rfl

set_option maxRecDepth 100000 in
set_option maxHeartbeats 4000000 in
theorem shift_any (m d : Bool) (c1 c2 : ByteArray) (pw : List UInt8) (z : Int) (w : World) (hf : ∀ c ∈ pw, isFig c = true) :
    Calls Tryd.prog 22 #[.agg #[.bool m, .string c1, .string c2, .string (txt pw), .bool d, .int .i64 z]] w fun e w' => e = .returned (.int .i64 (shiftOf 1048576 ⟨m, c1.data.toList, c2.data.toList, pw, d, 0⟩)) ∧ Ext w w' := by
  have HTL : Hid (∀ W', Calls Tryd.prog 21 #[.string (txt pw), .string ⟨#[48]⟩] W' fun e w' => e = .returned (.string (txt (trimL pw))) ∧ w' = W') := fun W' =>
    (Tryd.strings_TrimLeft_one (txt pw) 48 (by decide) W').mono fun e w' ⟨h1, h2⟩ => ⟨by rw [h1]; show Ending.returned (Value.string ⟨(Lib.trimLeftB pw 48).toArray⟩) = _; rw [trimL_lib], h2⟩
  have Hf := Lib.hid hf
  clear hf
  go_enter Tryd.func22, Tryd.ntmps22
  obtain ⟨T, hT⟩ : ∃ T, T = trimL pw := ⟨_, rfl⟩
  rw [← hT] at HTL
  have hTf : ∀ c ∈ T, isFig c = true := fun c hc => Hf.out c (trimL_mem (by rw [← hT]; exact hc))
  have Hval : Hid (valD pw = valD T) := by show _ = _; rw [hT, trimL_val]
  have HSh : Hid (shiftOf 1048576 ⟨m, c1.data.toList, c2.data.toList, pw, d, 0⟩ = (let n : Int := if T.length ≤ 6 then (valD T : Int) else 1048576; if d then -n else n)) := by
    show _ = _
    unfold shiftOf
    simp only []
    rw [← hT, Hval.out]
    rfl
  have HTf := Lib.hid hTf
  clear hT hTf Hval Hf
  by_cases h6 : T.length ≤ 6
  · have d6 : decide ((T.length : Int) ≤ 6) = true := by rw [decide_eq_true_iff]; omega
    have d6n : decide (T.length ≤ 6) = true := by rw [decide_eq_true_iff]; omega
    go_wp2_with (first | (go_at_call 21; (with_reducible refine (HTL.out _).mono ?_); rintro e w' ⟨rfl, rfl⟩) | fail)
    go_loopw [4] (fun n wr => ∃ pos : Nat, n = .int .i64 (valD (T.take pos) : Nat) ∧ pos ≤ T.length ∧ wr.heap[w.heap.size + 1]? = some (.stringIter (txt T) pos) ∧ Ext w wr ∧ wr.heap[w.heap.size]? = some (.cells #[.bool m, .string c1, .string c2, .string (txt pw), .bool d, .int .i64 z] 39 (0, 0))) (fun _ wr => T.length - wr.iterPos (w.heap.size + 1))
    case atStart =>
      refine ⟨0, rfl, Nat.zero_le _, ?_, ((Below.refl _ w).alloc (Nat.le_refl _) _).alloc (by simp) _, ?_⟩
      · have := World.iter_heap (w.alloc (.cells #[.bool m, .string c1, .string c2, .string (txt pw), .bool d, .int .i64 z] 39)) (txt T) 0
        simpa using this
      · show ((w.alloc (.cells #[.bool m, .string c1, .string c2, .string (txt pw), .bool d, .int .i64 z] 39)).alloc (.stringIter (txt T) 0)).heap[w.heap.size]? = _
        rw [heap_alloc_old _ _ (by simp)]; exact heap_alloc_new _ _
    case round =>
      obtain ⟨pos, rfl, hpos, hit, hE, hbox⟩ := hrel
      have hsz : w.heap.size + 1 < wr.heap.size := (Array.getElem?_eq_some_iff.1 hit).1
      by_cases hp : pos < T.length
      · have hp' : pos < (txt T).size := by rw [txt_size]; exact hp
        obtain ⟨c, hc⟩ : ∃ c, T[pos] = c := ⟨_, rfl⟩
        have h2 := HTf.out c (by rw [← hc]; exact List.getElem_mem hp)
        simp only [isFig, Bool.and_eq_true, decide_eq_true_eq] at h2
        have hnx : ∀ ty, (Instr.next (.pointer (some ⟨w.heap.size + 1, 0, none⟩)) true ty).run Tryd.prog wr = _ := fun ty => Lib.run_next_ascii_at wr (w.heap.size + 1) (txt T) pos ty hit hp' (by rw [txt_get, hc]; omega)
        simp only [txt_get, hc] at hnx
        have hit2 := Lib.iterAt_heap wr (w.heap.size + 1) (txt T) pos (pos + 1) hit
        have hbw2 := Lib.below_iterAt hE (k := w.heap.size + 1) (by omega) (txt T) (pos + 1)
        have hbox2 := (Lib.iterAt_other wr (w.heap.size + 1) w.heap.size (txt T) (pos + 1) (by omega)).trans hbox
        have Hit := Lib.hid hit
        have Hnext : Hid (valD (T.take (pos + 1)) = 10 * valD (T.take pos) + (c.toNat - 48)) := by
          show _ = _
          rw [List.take_succ_eq_append_getElem hp, hc, valD_snoc]
        have hb : valD (T.take pos) < 1000000 := by
          have h1 := valD_lt (T.take pos) fun x hx => HTf.out x (List.mem_of_mem_take hx)
          have h3 : 10 ^ (T.take pos).length ≤ 10 ^ 6 := Nat.pow_le_pow_right (by omega) (by rw [List.length_take]; omega)
          omega
        obtain ⟨N, hN⟩ : ∃ N, N = valD (T.take pos) := ⟨_, rfl⟩
        rw [← hN] at hb Hnext ⊢
        clear hit hbox hc hN
        go_wp2_with fail
        go_roundw
        case rel =>
          refine ⟨pos + 1, ?_, by omega, hit2, hbw2, hbox2⟩
          rw [Hnext.out]
          congr 1
          push_cast
          omega
        case measure =>
          simp only [World.iterPos, hit2, Hit.out]
          omega
      · have hnx : ∀ ty, (Instr.next (.pointer (some ⟨w.heap.size + 1, 0, none⟩)) true ty).run Tryd.prog wr = _ := fun ty => Lib.run_next_end_at wr (w.heap.size + 1) (txt T) pos ty hit (by rw [txt_size]; exact hp)
        have hV : Hid (T.take pos = T) := by show _ = _; exact List.take_of_length_le (by omega)
        rw [hV.out]
        have y4 := cell_of_row wr w.heap.size 4 _ _ _ hbox
        simp at y4
        have hb : valD T < 1000000 := by
          have h1 := valD_lt T HTf.out
          have h3 : 10 ^ T.length ≤ 10 ^ 6 := Nat.pow_le_pow_right (by omega) (by omega)
          omega
        have Hbox := Lib.hid hbox
        have Hit := Lib.hid hit
        have H6 := Lib.hid h6
        clear hbox hit h6
        obtain ⟨N, hN⟩ : ∃ N, N = valD T := ⟨_, rfl⟩
        have HN := Lib.hid hN
        rw [← hN] at hb ⊢
        clear hN
        cases d with
        | true =>
          go_wp2_with fail
          go_ret
          exact ⟨by rw [HSh.out, if_pos H6.out, HN.out] <;> rfl, hE⟩
        | false =>
          go_wp2_with fail
          go_ret
          exact ⟨by rw [HSh.out, if_pos H6.out, HN.out] <;> rfl, hE⟩
  · have d6 : decide ((T.length : Int) ≤ 6) = false := by rw [decide_eq_false_iff_not]; omega
    have d6n : decide (T.length ≤ 6) = false := by rw [decide_eq_false_iff_not]; omega
    have H6 := Lib.hid h6
    clear h6
    cases d with
    | true =>
      go_wp2_with (first | (go_at_call 21; (with_reducible refine (HTL.out _).mono ?_); rintro e w' ⟨rfl, rfl⟩) | fail)
      go_ret
      exact ⟨by rw [HSh.out, if_neg H6.out] <;> rfl, (Below.refl _ _).alloc (Nat.le_refl _) _⟩
    | false =>
      go_wp2_with (first | (go_at_call 21; (with_reducible refine (HTL.out _).mono ?_); rintro e w' ⟨rfl, rfl⟩) | fail)
      go_ret
      exact ⟨by rw [HSh.out, if_neg H6.out] <;> rfl, (Below.refl _ _).alloc (Nat.le_refl _) _⟩
end Go.Proofs.YtlffebmhknilhaaDoor
