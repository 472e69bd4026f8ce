/-
  Layer 3, the plain law: a text of the form of a number is cut into its pieces. Layer 3, the plain law: an exponent of 0, a 0 behind the point's figures change nothing. The walk of num's shift: by how many places a power moves the point.
-/
import Derived.Test.YtfmadoeadmclbaaDoorHd23
import Derived.Test.YtfmadoeadmclbaaDoorHd22
import Derived.Test.YtfmadoeadmclbaaDoorHd5
namespace Go.Proofs.YtfmadoeadmclbaaDoor
open Go.RowKit

theorem fig_ne {c d : UInt8} (h : isFig c = true) (hd : isFig d = false) : c ≠ d := fun e => by rw [e, hd] at h; cases h
theorem head_fig {w t : List UInt8} (hne : w ≠ []) (hw : ∀ c ∈ w, isFig c = true) : ∃ c, (w ++ t)[0]? = some c ∧ isFig c = true ∧ w.head? = some c := by
  cases w with
  | nil => exact absurd rfl hne
  | cons c r => exact ⟨c, rfl, hw c List.mem_cons_self, rfl⟩
theorem ex_head {ex power : List UInt8} {down : Bool} (h : ExpText ex power down) : ex = [] ∨ ∃ e r, ex = e :: r ∧ (e = 101 ∨ e = 69) := by
  rcases h with ⟨h, _⟩ | ⟨e, es, h, he, _⟩
  · exact .inl h
  · exact .inr ⟨e, _, h, he⟩
theorem figs_ex {ex power : List UInt8} {down : Bool} (h : ExpText ex power down) : figs ex = 0 := by
  rcases ex_head h with rfl | ⟨e, r, rfl, he⟩
  · rfl
  · rcases he with rfl | rfl <;> rfl

theorem cut_fwd {s : List UInt8} {p : Pc} {ex : List UInt8} (h : Form s p ex) : cutL s = some { p with size := s.length } := by
  obtain ⟨heq, hne, hw, hrs, hz, hex⟩ := h
  obtain ⟨minus, whole, rest, power, down, size⟩ := p
  simp only [] at heq hne hw hrs hz hex ⊢
  obtain ⟨s2, hs2⟩ : ∃ s2, s2 = (if rest = [] then [] else [46]) ++ (rest ++ ex) := ⟨_, rfl⟩
  rw [← hs2] at heq
  obtain ⟨c, hc0, hcf, hch⟩ := head_fig (t := s2) hne hw
  obtain ⟨a, ha⟩ : ∃ a : Nat, a = if minus = true then 1 else 0 := ⟨_, rfl⟩
  have hsign : a = signAt s := by
    rw [ha, signAt, heq]
    cases minus with
    | true => rfl
    | false =>
      simp only [Bool.false_eq_true, if_false, List.nil_append]
      rw [hc0, if_neg (fun e => fig_ne hcf (d := 45) rfl (Option.some.inj e))]
  have hsg : (if minus = true then [(45 : UInt8)] else []).length = a := by rw [ha]; cases minus <;> rfl
  have d1 : s.drop a = whole ++ s2 := by rw [heq, ← hsg, List.drop_left]
  have hfs2 : figs s2 = 0 := by
    rw [hs2]
    by_cases hr : rest = []
    · rw [hr]; simpa using figs_ex hex
    · rw [if_neg hr]; rfl
  have hfw : figs (whole ++ s2) = whole.length := by rw [figs_app _ _ hw, hfs2, Nat.add_zero]
  have hwl : 0 < whole.length := List.length_pos_iff.2 hne
  have hn : whole.length = wholeLen (s.drop a) := by
    rw [d1, wholeLen, hfw]
    split
    · rename_i h48
      rw [hc0] at h48
      rw [hz (by rw [hch, Option.some.inj h48])]; rfl
    · rfl
  have hf : figs (s.drop a) ≠ 0 := by rw [d1, hfw]; omega
  have d2 : s.drop (a + whole.length) = s2 := by rw [← List.drop_drop, d1, List.drop_left]
  have hr : rest.length = restLen (s.drop (a + whole.length)) := by
    rw [d2, restLen, hs2]
    by_cases hre : rest = []
    · rw [if_pos hre, hre]
      rcases ex_head hex with rfl | ⟨e, r, rfl, he⟩
      · rfl
      · rw [if_neg]
        · rfl
        · intro e1
          have e1 := Option.some.inj e1
          rcases he with rfl | rfl <;> exact absurd e1 (by decide)
    · rw [if_neg hre, if_pos (show ([46] ++ (rest ++ ex))[0]? = some 46 from rfl)]
      show rest.length = figs (rest ++ ex)
      rw [figs_app _ _ hrs, figs_ex hex, Nat.add_zero]
  obtain ⟨b, hb⟩ : ∃ b : Nat, b = a + whole.length + (if rest.length = 0 then 0 else 1 + rest.length) := ⟨_, rfl⟩
  have d3 : s.drop b = ex := by
    rw [hb, ← List.drop_drop, d2, hs2]
    by_cases hre : rest = []
    · rw [hre]; rfl
    · rw [if_neg hre, if_neg (fun e => hre (List.eq_nil_of_length_eq_zero e)), ← List.drop_drop]
      show (rest ++ ex).drop rest.length = ex
      rw [List.drop_left]
  have hrt : ((s.drop (a + whole.length)).drop 1).take rest.length = rest := by
    rw [d2, hs2]
    by_cases hre : rest = []
    · rw [hre]; rfl
    · rw [if_neg hre]
      show (rest ++ ex).take rest.length = rest
      rw [List.take_left]
  have hwt : (s.drop a).take whole.length = whole := by rw [d1, List.take_left]
  have hm : decide (a = 1) = minus := by rw [ha]; cases minus <;> rfl
  have hlen : s.length = b + ex.length := by
    have h1 := congrArg List.length d3
    rw [List.length_drop] at h1
    have h2 : b ≤ s.length := by
      have h3 := congrArg List.length heq
      rw [List.length_append, hsg, List.length_append, hs2, List.length_append, List.length_append] at h3
      rw [hb]
      by_cases hre : rest = []
      · rw [hre] at h3 ⊢; simp at h3 ⊢; omega
      · rw [if_neg hre] at h3; split <;> simp at h3 <;> omega
    omega
  rcases hex with ⟨rfl, rfl, rfl⟩ | ⟨e, es, rfl, he, hes, rfl, hpne, hpf⟩
  · rw [cutL_plain hsign hf hn hr hb (by rw [d3]; rfl), hwt, hrt, hm, hlen]; rfl
  · have hE : isE (s.drop b) = true := by rw [d3]; rcases he with rfl | rfl <;> rfl
    have d4 : s.drop (b + 1) = es ++ power := by rw [← List.drop_drop, d3]; rfl
    obtain ⟨pc, hpc0, hpcf, _⟩ := head_fig (t := []) hpne hpf
    rw [List.append_nil] at hpc0
    have hg : es.length = expSign (s.drop (b + 1)) := by
      rw [d4, expSign]
      rcases hes with rfl | rfl | rfl
      · rw [List.nil_append, hpc0, if_neg]
        · rfl
        · intro h
          rcases h with h | h
          · exact fig_ne hpcf (d := 43) rfl (Option.some.inj h)
          · exact fig_ne hpcf (d := 45) rfl (Option.some.inj h)
      · rfl
      · rfl
    have d5 : s.drop (b + (1 + es.length)) = power := by rw [← Nat.add_assoc, ← List.drop_drop, d4, List.drop_left]
    have hk : power.length = figs (s.drop (b + (1 + es.length))) := by
      rw [d5]
      have := figs_app power [] hpf
      rw [List.append_nil] at this
      rw [this]; rfl
    have hkne : power.length ≠ 0 := fun e => hpne (List.eq_nil_of_length_eq_zero e)
    have hdown : decide (s[b + 1]? = some 45) = decide (es = [45]) := by
      have e1 : s[b + 1]? = (s.drop (b + 1))[0]? := by rw [List.getElem?_drop]
      rw [e1, d4]
      rcases hes with rfl | rfl | rfl
      · rw [List.nil_append, hpc0, decide_eq_false (fun e => fig_ne hpcf (d := 45) rfl (Option.some.inj e))]
        rfl
      · rfl
      · rfl
    rw [cutL_exp hsign hf hn hr hb hE hg hk, if_neg hkne, hwt, hrt, hm, d5, List.take_length, hdown, hlen]
    congr 2
    simp
    omega
theorem scan_fwd {s : List UInt8} {p : Pc} {ex : List UInt8} (h : Form s p ex) : scanL s = s.length := by rw [scanL, cut_fwd h]
theorem parse_fwd {s : List UInt8} {p : Pc} {ex : List UInt8} (h : Form s p ex) (hl : s.length ≤ 65536) : parseL s = numOf (shiftOf 1048576 p) p := by
  rw [parseL, if_neg (by omega), cut_fwd h]
  simp only [if_true]
  rfl
end Go.Proofs.YtfmadoeadmclbaaDoor
namespace Go.Proofs.YtfmadoeadmclbaaDoor
open Go.RowKit

section
variable {m : Bool} {w : List UInt8}
def pc (m : Bool) (w rest power : List UInt8) (down : Bool) : Pc := ⟨m, w, rest, power, down, 0⟩
theorem shift_none (m : Bool) (w rest : List UInt8) : shiftOf 1048576 (pc m w rest [] false) = 0 := rfl
end

end Go.Proofs.YtfmadoeadmclbaaDoor
namespace Go.Proofs.YtfmadoeadmclbaaDoor
open Go.RowKit

theorem trimL_lib (s : List UInt8) : Lib.trimLeftB s 48 = trimL s := by
  induction s with
  | nil => rfl
  | cons c r ih =>
    unfold Lib.trimLeftB trimL
    rfl

set_option maxRecDepth 100000 in
set_option maxHeartbeats 4000000 in
theorem shift_any (m d : Bool) (c1 c2 : ByteArray) (pw : List UInt8) (z : Int) (w : World) (hf : ∀ c ∈ pw, isFig c = true) :
    Calls Tryd.prog 51 #[.agg #[.bool m, .string c1, .string c2, .string (txt pw), .bool d, .int .i64 z]] w fun e w' => e = .returned (.int .i64 (shiftOf 1048576 ⟨m, c1.data.toList, c2.data.toList, pw, d, 0⟩)) ∧ Ext w w' := by
  have HTL : Hid (∀ W', Calls Tryd.prog 50 #[.string (txt pw), .string ⟨#[48]⟩] W' fun e w' => e = .returned (.string (txt (trimL pw))) ∧ w' = W') := fun W' =>
    (Tryd.strings_TrimLeft_one (txt pw) 48 (by decide) W').mono fun e w' ⟨h1, h2⟩ => ⟨by rw [h1]; show Ending.returned (Value.string ⟨(Lib.trimLeftB pw 48).toArray⟩) = _; rw [trimL_lib], h2⟩
  have Hf := Lib.hid hf
  clear hf
  go_enter Tryd.func51, Tryd.ntmps51
  obtain ⟨T, hT⟩ : ∃ T, T = trimL pw := ⟨_, rfl⟩
  rw [← hT] at HTL
  have hTf : ∀ c ∈ T, isFig c = true := fun c hc => Hf.out c (trimL_mem (by rw [← hT]; exact hc))
  have Hval : Hid (valD pw = valD T) := by show _ = _; rw [hT, trimL_val]
  have HSh : Hid (shiftOf 1048576 ⟨m, c1.data.toList, c2.data.toList, pw, d, 0⟩ = (let n : Int := if T.length ≤ 6 then (valD T : Int) else 1048576; if d then -n else n)) := by
    show _ = _
    unfold shiftOf
    simp only []
    rw [← hT, Hval.out]
    rfl
  have HTf := Lib.hid hTf
  clear hT hTf Hval Hf
  by_cases h6 : T.length ≤ 6
  · have d6 : decide ((T.length : Int) ≤ 6) = true := by rw [decide_eq_true_iff]; omega
    have d6n : decide (T.length ≤ 6) = true := by rw [decide_eq_true_iff]; omega
    go_wp2_with (first | (go_at_call 50; (with_reducible refine (HTL.out _).mono ?_); rintro e w' ⟨rfl, rfl⟩) | fail)
    go_loopw [4] (fun n wr => ∃ pos : Nat, n = .int .i64 (valD (T.take pos) : Nat) ∧ pos ≤ T.length ∧ wr.heap[w.heap.size + 1]? = some (.stringIter (txt T) pos) ∧ Ext w wr ∧ wr.heap[w.heap.size]? = some (.cells #[.bool m, .string c1, .string c2, .string (txt pw), .bool d, .int .i64 z] 90 (0, 0))) (fun _ wr => T.length - wr.iterPos (w.heap.size + 1))
    case atStart =>
      refine ⟨0, rfl, Nat.zero_le _, ?_, ((Below.refl _ w).alloc (Nat.le_refl _) _).alloc (by simp) _, ?_⟩
      · have := World.iter_heap (w.alloc (.cells #[.bool m, .string c1, .string c2, .string (txt pw), .bool d, .int .i64 z] 90)) (txt T) 0
        simpa using this
      · show ((w.alloc (.cells #[.bool m, .string c1, .string c2, .string (txt pw), .bool d, .int .i64 z] 90)).alloc (.stringIter (txt T) 0)).heap[w.heap.size]? = _
        rw [heap_alloc_old _ _ (by simp)]; exact heap_alloc_new _ _
    case round =>
      obtain ⟨pos, rfl, hpos, hit, hE, hbox⟩ := hrel
      have hsz : w.heap.size + 1 < wr.heap.size := (Array.getElem?_eq_some_iff.1 hit).1
      by_cases hp : pos < T.length
      · have hp' : pos < (txt T).size := by rw [txt_size]; exact hp
        obtain ⟨c, hc⟩ : ∃ c, T[pos] = c := ⟨_, rfl⟩
        have h2 := HTf.out c (by rw [← hc]; exact List.getElem_mem hp)
        simp only [isFig, Bool.and_eq_true, decide_eq_true_eq] at h2
        have hnx : ∀ ty, (Instr.next (.pointer (some ⟨w.heap.size + 1, 0, none⟩)) true ty).run Tryd.prog wr = _ := fun ty => Lib.run_next_ascii_at wr (w.heap.size + 1) (txt T) pos ty hit hp' (by rw [txt_get, hc]; omega)
        simp only [txt_get, hc] at hnx
        have hit2 := Lib.iterAt_heap wr (w.heap.size + 1) (txt T) pos (pos + 1) hit
        have hbw2 := Lib.below_iterAt hE (k := w.heap.size + 1) (by omega) (txt T) (pos + 1)
        have hbox2 := (Lib.iterAt_other wr (w.heap.size + 1) w.heap.size (txt T) (pos + 1) (by omega)).trans hbox
        have Hit := Lib.hid hit
        have Hnext : Hid (valD (T.take (pos + 1)) = 10 * valD (T.take pos) + (c.toNat - 48)) := by
          show _ = _
          rw [List.take_succ_eq_append_getElem hp, hc, valD_snoc]
        have hb : valD (T.take pos) < 1000000 := by
          have h1 := valD_lt (T.take pos) fun x hx => HTf.out x (List.mem_of_mem_take hx)
          have h3 : 10 ^ (T.take pos).length ≤ 10 ^ 6 := Nat.pow_le_pow_right (by omega) (by rw [List.length_take]; omega)
          omega
        obtain ⟨N, hN⟩ : ∃ N, N = valD (T.take pos) := ⟨_, rfl⟩
        rw [← hN] at hb Hnext ⊢
        clear hit hbox hc hN
        go_wp2_with fail
        go_roundw
        case rel =>
          refine ⟨pos + 1, ?_, by omega, hit2, hbw2, hbox2⟩
          rw [Hnext.out]
          congr 1
          push_cast
          omega
        case measure =>
          simp only [World.iterPos, hit2, Hit.out]
          omega
      · have hnx : ∀ ty, (Instr.next (.pointer (some ⟨w.heap.size + 1, 0, none⟩)) true ty).run Tryd.prog wr = _ := fun ty => Lib.run_next_end_at wr (w.heap.size + 1) (txt T) pos ty hit (by rw [txt_size]; exact hp)
        have hV : Hid (T.take pos = T) := by show _ = _; exact List.take_of_length_le (by omega)
        rw [hV.out]
        have y4 := cell_of_row wr w.heap.size 4 _ _ _ hbox
        simp at y4
        have hb : valD T < 1000000 := by
          have h1 := valD_lt T HTf.out
          have h3 : 10 ^ T.length ≤ 10 ^ 6 := Nat.pow_le_pow_right (by omega) (by omega)
          omega
        have Hbox := Lib.hid hbox
        have Hit := Lib.hid hit
        have H6 := Lib.hid h6
        clear hbox hit h6
        obtain ⟨N, hN⟩ : ∃ N, N = valD T := ⟨_, rfl⟩
        have HN := Lib.hid hN
        rw [← hN] at hb ⊢
        clear hN
        cases d with
        | true =>
          go_wp2_with fail
          go_ret
          exact ⟨by rw [HSh.out, if_pos H6.out, HN.out] <;> rfl, hE⟩
        | false =>
          go_wp2_with fail
          go_ret
          exact ⟨by rw [HSh.out, if_pos H6.out, HN.out] <;> rfl, hE⟩
  · have d6 : decide ((T.length : Int) ≤ 6) = false := by rw [decide_eq_false_iff_not]; omega
    have d6n : decide (T.length ≤ 6) = false := by rw [decide_eq_false_iff_not]; omega
    have H6 := Lib.hid h6
    clear h6
    cases d with
    | true =>
      go_wp2_with (first | (go_at_call 50; (with_reducible refine (HTL.out _).mono ?_); rintro e w' ⟨rfl, rfl⟩) | fail)
      go_ret
      exact ⟨by rw [HSh.out, if_neg H6.out] <;> rfl, (Below.refl _ _).alloc (Nat.le_refl _) _⟩
    | false =>
      go_wp2_with (first | (go_at_call 50; (with_reducible refine (HTL.out _).mono ?_); rintro e w' ⟨rfl, rfl⟩) | fail)
      go_ret
      exact ⟨by rw [HSh.out, if_neg H6.out] <;> rfl, (Below.refl _ _).alloc (Nat.le_refl _) _⟩
end Go.Proofs.YtfmadoeadmclbaaDoor
