/-
  The walk of num.figures: how many figures a text begins with.
-/
import Derived.Test.YtlffebmhknilhaaDoorNumForm
import Derived.Test.YtlffebmhknilhaaDoorKit
import Derived.Lib.OthersKept
namespace Go.Proofs.YtlffebmhknilhaaDoor
open Go.RowKit

/-- A text's bytes. -/
abbrev txt (l : List UInt8) : ByteArray := ⟨l.toArray⟩
theorem txt_size (l : List UInt8) : (txt l).size = l.length := by simp [txt, ByteArray.size]
theorem txt_get (l : List UInt8) (i : Nat) (h : i < (txt l).size) : (txt l)[i]'h = l[i]'(by rw [← txt_size]; exact h) := by
  simp [txt, ByteArray.getElem_eq_getElem_data]
theorem width_pos (s : ByteArray) (pos : Nat) (h : pos < s.size) : 1 ≤ (Utf8.decode s pos).2 := by
  by_cases ha : (s[pos]'h).toNat < 128
  · rw [decode_ascii s pos h ha]; exact Nat.le_refl _
  · exact (decode_high s pos h (by omega)).2

set_option maxRecDepth 100000 in
set_option maxHeartbeats 4000000 in
theorem figures_any (l : List UInt8) (w : World) (hl : l.length ≤ 9223372036854775807) :
    Calls Tryd.prog 38 #[.string (txt l)] w fun e w' => e = .returned (.int .i64 (figs l : Nat)) ∧ Ext w w' := by
  go_enter Tryd.func38, Tryd.ntmps38
  go_wp2
  go_loopw [] (fun wr => ∃ (pos : Nat), pos ≤ l.length ∧ wr.heap[w.heap.size]? = some (.stringIter (txt l) pos) ∧ Ext w wr ∧ Hid (figs l = pos + figs (l.drop pos))) (fun wr => l.length - wr.iterPos w.heap.size)
  case atStart =>
    refine ⟨0, Nat.zero_le _, ?_, (Below.refl _ w).alloc (Nat.le_refl _) _, by simp [Hid]⟩
    have := World.iter_heap w (txt l) 0
    simpa using this
  case round =>
    obtain ⟨pos, hpos, hit, hE, hf⟩ := hrel
    have hsz : w.heap.size < wr.heap.size := (Array.getElem?_eq_some_iff.1 hit).1
    by_cases hp : pos < l.length
    · have hp' : pos < (txt l).size := by rw [txt_size]; exact hp
      obtain ⟨c, hc⟩ : ∃ c, l[pos] = c := ⟨_, rfl⟩
      have hd : l.drop pos = c :: l.drop (pos + 1) := by rw [List.drop_eq_getElem_cons hp, hc]
      by_cases hfig : isFig c = true
      · have h2 := hfig
        simp only [isFig, Bool.and_eq_true, decide_eq_true_eq] at h2
        have hnx : ∀ ty, (Instr.next (.pointer (some ⟨w.heap.size, 0, none⟩)) true ty).run Tryd.prog wr = _ := fun ty => Lib.run_next_ascii_at wr w.heap.size (txt l) pos ty hit hp' (by rw [txt_get, hc]; omega)
        simp only [txt_get, hc] at hnx
        have HF := Lib.hid (hf.out.trans (by rw [hd, figs, if_pos hfig]))
        have hit2 := Lib.iterAt_heap wr w.heap.size (txt l) pos (pos + 1) hit
        have hbw2 := Lib.below_iterAt hE (k := w.heap.size) (Nat.le_refl _) (txt l) (pos + 1)
        have d1 : decide ((c.toNat : Int) < 48) = false := by rw [decide_eq_false_iff_not]; omega
        have d2 : decide ((c.toNat : Int) > 57) = false := by rw [decide_eq_false_iff_not]; omega
        have d2' : decide (57 < (c.toNat : Int)) = false := d2
        have Hit := Lib.hid hit
        clear hf hc hd hfig
        go_wp2_with fail
        go_roundw
        case rel =>
          exact ⟨pos + 1, by omega, hit2, hbw2, by show _ = _; rw [HF.out]; omega⟩
        case measure =>
          simp only [World.iterPos, hit2, Hit.out]
          omega
      · have HF := Lib.hid (show figs l = pos by rw [hf.out, hd, figs, if_neg hfig]; rfl)
        obtain ⟨r, hr⟩ : ∃ r : Nat, (Utf8.decode (txt l) pos).1 = r := ⟨_, rfl⟩
        have hbad : r < 48 ∨ 57 < r := by
          rw [← hr]
          have hg : ((txt l)[pos]'hp').toNat = c.toNat := by rw [txt_get, hc]
          simp only [isFig, Bool.and_eq_true, decide_eq_true_eq] at hfig
          by_cases ha : ((txt l)[pos]'hp').toNat < 128
          · rw [decode_ascii _ _ hp' ha, hg]; simp only []; omega
          · have := (decode_high _ _ hp' (by omega)).1; omega
        have hnx : ∀ ty, (Instr.next (.pointer (some ⟨w.heap.size, 0, none⟩)) true ty).run Tryd.prog wr = _ := fun ty => Lib.run_next_any_at wr w.heap.size (txt l) pos ty hit hp'
        rw [hr] at hnx
        have hit2 := Lib.iterAt_heap wr w.heap.size (txt l) pos (pos + (Utf8.decode (txt l) pos).2) hit
        have hbw2 := Lib.below_iterAt hE (k := w.heap.size) (Nat.le_refl _) (txt l) (pos + (Utf8.decode (txt l) pos).2)
        have Hit := Lib.hid hit
        clear hf hc hd hfig hr
        by_cases h48 : r < 48
        · have d1 : decide ((r : Int) < 48) = true := by rw [decide_eq_true_iff]; omega
          go_wp2_with fail
          go_ret
          exact ⟨by rw [HF.out]; rfl, hbw2⟩
        · have d1 : decide ((r : Int) < 48) = false := by rw [decide_eq_false_iff_not]; omega
          have d2 : decide ((r : Int) > 57) = true := by rw [decide_eq_true_iff]; omega
          have d2' : decide (57 < (r : Int)) = true := d2
          go_wp2_with fail
          go_ret
          exact ⟨by rw [HF.out]; rfl, hbw2⟩
    · have hnx : ∀ ty, (Instr.next (.pointer (some ⟨w.heap.size, 0, none⟩)) true ty).run Tryd.prog wr = _ := fun ty => Lib.run_next_end_at wr w.heap.size (txt l) pos ty hit (by rw [txt_size]; exact hp)
      obtain rfl : pos = l.length := by omega
      have HF := Lib.hid (show figs l = l.length by rw [hf.out, List.drop_length]; rfl)
      clear hf
      go_wp2_with fail
      go_ret
      exact ⟨by rw [HF.out]; rfl, hE⟩
end Go.Proofs.YtlffebmhknilhaaDoor
