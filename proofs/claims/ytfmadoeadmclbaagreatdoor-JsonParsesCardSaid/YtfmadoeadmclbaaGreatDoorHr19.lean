/-
  Layer 3, the plain law: a text of the form of a number is cut into its pieces. Layer 3, the plain law: an exponent of 0, a 0 behind the point's figures change nothing. The walk of num's shift: by how many places a power moves the point. Layer 3, the plain law: the number of pieces, step by step. Layer 3, the plain law: a number's plain text is read as it was. How long plain texts are.
-/
import Derived.Test.YtfmadoeadmclbaaGreatDoorHr18
import Derived.Test.YtfmadoeadmclbaaGreatDoorHr17
import Derived.Test.YtfmadoeadmclbaaGreatDoorHr6
import Derived.Test.YtfmadoeadmclbaaGreatDoorHr4
import Derived.Test.YtfmadoeadmclbaaGreatDoorHr7
import Derived.Test.YtfmadoeadmclbaaGreatDoorHr14
namespace Go.Proofs.YtfmadoeadmclbaaGreatDoor
open Go.RowKit

theorem fig_ne {c d : UInt8} (h : isFig c = true) (hd : isFig d = false) : c ≠ d := fun e => by rw [e, hd] at h; cases h
theorem head_fig {w t : List UInt8} (hne : w ≠ []) (hw : ∀ c ∈ w, isFig c = true) : ∃ c, (w ++ t)[0]? = some c ∧ isFig c = true ∧ w.head? = some c := by
  cases w with
  | nil => exact absurd rfl hne
  | cons c r => exact ⟨c, rfl, hw c List.mem_cons_self, rfl⟩
end Go.Proofs.YtfmadoeadmclbaaGreatDoor
namespace Go.Proofs.YtfmadoeadmclbaaGreatDoor
open Go.RowKit

section
variable {m : Bool} {w : List UInt8}
theorem trimR_app (a : List UInt8) (k : Nat) : trimR (a ++ List.replicate k 48) = trimR a := by
  unfold trimR
  rw [List.reverse_append, List.reverse_replicate]
  congr 1
  induction k with
  | zero => rfl
  | succ k ih => rw [List.replicate_succ, List.cons_append, List.dropWhile_cons, if_pos (show ((48 : UInt8) == 48) = true from rfl)]; exact ih

end

end Go.Proofs.YtfmadoeadmclbaaGreatDoor
namespace Go.Proofs.YtfmadoeadmclbaaGreatDoor
open Go.RowKit

theorem trimL_lib (s : List UInt8) : Lib.trimLeftB s 48 = trimL s := by
  induction s with
  | nil => rfl
  | cons c r ih =>
    unfold Lib.trimLeftB trimL
    rfl

set_option maxRecDepth 100000 in
set_option maxHeartbeats 4000000 in
theorem shift_any (m d : Bool) (c1 c2 : ByteArray) (pw : List UInt8) (z : Int) (w : World) (hf : ∀ c ∈ pw, isFig c = true) :
    Calls Tryz.prog 99 #[.agg #[.bool m, .string c1, .string c2, .string (txt pw), .bool d, .int .i64 z]] w fun e w' => e = .returned (.int .i64 (shiftOf 1048576 ⟨m, c1.data.toList, c2.data.toList, pw, d, 0⟩)) ∧ Ext w w' := by
  have HTL : Hid (∀ W', Calls Tryz.prog 98 #[.string (txt pw), .string ⟨#[48]⟩] W' fun e w' => e = .returned (.string (txt (trimL pw))) ∧ w' = W') := fun W' =>
    (Tryz.strings_TrimLeft_one (txt pw) 48 (by decide) W').mono fun e w' ⟨h1, h2⟩ => ⟨by rw [h1]; show Ending.returned (Value.string ⟨(Lib.trimLeftB pw 48).toArray⟩) = _; rw [trimL_lib], h2⟩
  have Hf := Lib.hid hf
  clear hf
  go_enter Tryz.func99, Tryz.ntmps99
  obtain ⟨T, hT⟩ : ∃ T, T = trimL pw := ⟨_, rfl⟩
  rw [← hT] at HTL
  have hTf : ∀ c ∈ T, isFig c = true := fun c hc => Hf.out c (trimL_mem (by rw [← hT]; exact hc))
  have Hval : Hid (valD pw = valD T) := by show _ = _; rw [hT, trimL_val]
  have HSh : Hid (shiftOf 1048576 ⟨m, c1.data.toList, c2.data.toList, pw, d, 0⟩ = (let n : Int := if T.length ≤ 6 then (valD T : Int) else 1048576; if d then -n else n)) := by
    show _ = _
    unfold shiftOf
    simp only []
    rw [← hT, Hval.out]
    rfl
  have HTf := Lib.hid hTf
  clear hT hTf Hval Hf
  by_cases h6 : T.length ≤ 6
  · have d6 : decide ((T.length : Int) ≤ 6) = true := by rw [decide_eq_true_iff]; omega
    have d6n : decide (T.length ≤ 6) = true := by rw [decide_eq_true_iff]; omega
    go_wp2_with (first | (go_at_call 98; (with_reducible refine (HTL.out _).mono ?_); rintro e w' ⟨rfl, rfl⟩) | fail)
    go_loopw [4] (fun n wr => ∃ pos : Nat, n = .int .i64 (valD (T.take pos) : Nat) ∧ pos ≤ T.length ∧ wr.heap[w.heap.size + 1]? = some (.stringIter (txt T) pos) ∧ Ext w wr ∧ wr.heap[w.heap.size]? = some (.cells #[.bool m, .string c1, .string c2, .string (txt pw), .bool d, .int .i64 z] 146 (0, 0))) (fun _ wr => T.length - wr.iterPos (w.heap.size + 1))
    case atStart =>
      refine ⟨0, rfl, Nat.zero_le _, ?_, ((Below.refl _ w).alloc (Nat.le_refl _) _).alloc (by simp) _, ?_⟩
      · have := World.iter_heap (w.alloc (.cells #[.bool m, .string c1, .string c2, .string (txt pw), .bool d, .int .i64 z] 146)) (txt T) 0
        simpa using this
      · show ((w.alloc (.cells #[.bool m, .string c1, .string c2, .string (txt pw), .bool d, .int .i64 z] 146)).alloc (.stringIter (txt T) 0)).heap[w.heap.size]? = _
        rw [heap_alloc_old _ _ (by simp)]; exact heap_alloc_new _ _
    case round =>
      obtain ⟨pos, rfl, hpos, hit, hE, hbox⟩ := hrel
      have hsz : w.heap.size + 1 < wr.heap.size := (Array.getElem?_eq_some_iff.1 hit).1
      by_cases hp : pos < T.length
      · have hp' : pos < (txt T).size := by rw [txt_size]; exact hp
        obtain ⟨c, hc⟩ : ∃ c, T[pos] = c := ⟨_, rfl⟩
        have h2 := HTf.out c (by rw [← hc]; exact List.getElem_mem hp)
        simp only [isFig, Bool.and_eq_true, decide_eq_true_eq] at h2
        have hnx : ∀ ty, (Instr.next (.pointer (some ⟨w.heap.size + 1, 0, none⟩)) true ty).run Tryz.prog wr = _ := fun ty => Lib.run_next_ascii_at wr (w.heap.size + 1) (txt T) pos ty hit hp' (by rw [txt_get, hc]; omega)
        simp only [txt_get, hc] at hnx
        have hit2 := Lib.iterAt_heap wr (w.heap.size + 1) (txt T) pos (pos + 1) hit
        have hbw2 := Lib.below_iterAt hE (k := w.heap.size + 1) (by omega) (txt T) (pos + 1)
        have hbox2 := (Lib.iterAt_other wr (w.heap.size + 1) w.heap.size (txt T) (pos + 1) (by omega)).trans hbox
        have Hit := Lib.hid hit
        have Hnext : Hid (valD (T.take (pos + 1)) = 10 * valD (T.take pos) + (c.toNat - 48)) := by
          show _ = _
          rw [List.take_succ_eq_append_getElem hp, hc, valD_snoc]
        have hb : valD (T.take pos) < 1000000 := by
          have h1 := valD_lt (T.take pos) fun x hx => HTf.out x (List.mem_of_mem_take hx)
          have h3 : 10 ^ (T.take pos).length ≤ 10 ^ 6 := Nat.pow_le_pow_right (by omega) (by rw [List.length_take]; omega)
          omega
        obtain ⟨N, hN⟩ : ∃ N, N = valD (T.take pos) := ⟨_, rfl⟩
        rw [← hN] at hb Hnext ⊢
        clear hit hbox hc hN
        go_wp2_with fail
        go_roundw
        case rel =>
          refine ⟨pos + 1, ?_, by omega, hit2, hbw2, hbox2⟩
          rw [Hnext.out]
          congr 1
          push_cast
          omega
        case measure =>
          simp only [World.iterPos, hit2, Hit.out]
          omega
      · have hnx : ∀ ty, (Instr.next (.pointer (some ⟨w.heap.size + 1, 0, none⟩)) true ty).run Tryz.prog wr = _ := fun ty => Lib.run_next_end_at wr (w.heap.size + 1) (txt T) pos ty hit (by rw [txt_size]; exact hp)
        have hV : Hid (T.take pos = T) := by show _ = _; exact List.take_of_length_le (by omega)
        rw [hV.out]
        have y4 := cell_of_row wr w.heap.size 4 _ _ _ hbox
        simp at y4
        have hb : valD T < 1000000 := by
          have h1 := valD_lt T HTf.out
          have h3 : 10 ^ T.length ≤ 10 ^ 6 := Nat.pow_le_pow_right (by omega) (by omega)
          omega
        have Hbox := Lib.hid hbox
        have Hit := Lib.hid hit
        have H6 := Lib.hid h6
        clear hbox hit h6
        obtain ⟨N, hN⟩ : ∃ N, N = valD T := ⟨_, rfl⟩
        have HN := Lib.hid hN
        rw [← hN] at hb ⊢
        clear hN
        cases d with
        | true =>
          go_wp2_with fail
          go_ret
          exact ⟨by rw [HSh.out, if_pos H6.out, HN.out] <;> rfl, hE⟩
        | false =>
          go_wp2_with fail
          go_ret
          exact ⟨by rw [HSh.out, if_pos H6.out, HN.out] <;> rfl, hE⟩
  · have d6 : decide ((T.length : Int) ≤ 6) = false := by rw [decide_eq_false_iff_not]; omega
    have d6n : decide (T.length ≤ 6) = false := by rw [decide_eq_false_iff_not]; omega
    have H6 := Lib.hid h6
    clear h6
    cases d with
    | true =>
      go_wp2_with (first | (go_at_call 98; (with_reducible refine (HTL.out _).mono ?_); rintro e w' ⟨rfl, rfl⟩) | fail)
      go_ret
      exact ⟨by rw [HSh.out, if_neg H6.out] <;> rfl, (Below.refl _ _).alloc (Nat.le_refl _) _⟩
    | false =>
      go_wp2_with (first | (go_at_call 98; (with_reducible refine (HTL.out _).mono ?_); rintro e w' ⟨rfl, rfl⟩) | fail)
      go_ret
      exact ⟨by rw [HSh.out, if_neg H6.out] <;> rfl, (Below.refl _ _).alloc (Nat.le_refl _) _⟩
end Go.Proofs.YtfmadoeadmclbaaGreatDoor
namespace Go.Proofs.YtfmadoeadmclbaaGreatDoor
open Go.RowKit

section
variable {p : Pc} {sh P : Int} {A B : List UInt8}
theorem numOf_zero (h : trimL (p.whole ++ p.rest) = []) : numOf sh p = (0, 0) := by
  unfold numOf; simp only []; rw [if_pos h]
theorem numOf_step (hA : A = trimL (p.whole ++ p.rest)) (hB : B = trimR A) (hP : P = (A.length : Int) - p.rest.length + sh + 7) (h0 : A ≠ []) :
    numOf sh p = if P < B.length ∨ 40 < P then (0, 12) else if 9000000000000000000 < valD B * 10 ^ (P - B.length).toNat then (0, 12) else (if p.minus then -((valD B * 10 ^ (P - B.length).toNat : Nat) : Int) else (valD B * 10 ^ (P - B.length).toNat : Nat), 0) := by
  unfold numOf
  simp only []
  rw [← hA, if_neg h0, ← hB, ← hP]
end
def digs (B : List UInt8) (m : Nat) : List UInt8 := B ++ List.replicate (m - B.length) 48
theorem digs_length {B : List UInt8} {m : Nat} (h : B.length ≤ m) : (digs B m).length = m := by simp [digs]; omega
theorem digs_val (B : List UInt8) (m : Nat) : valD (digs B m) = valD B * 10 ^ (m - B.length) := valD_shift _ _
theorem digs_lo {B : List UInt8} {m k : Nat} (h : k < B.length) : (digs B m)[k]? = some (B[k]'h) := by
  rw [digs, List.getElem?_append_left h, List.getElem?_eq_getElem h]
theorem digs_hi {B : List UInt8} {m k : Nat} (h : B.length ≤ k) (hk : k < m) : (digs B m)[k]? = some 48 := by
  rw [digs, List.getElem?_append_right h, List.getElem?_replicate, if_pos (by omega)]
theorem valD_take_succ {l : List UInt8} {k : Nat} {c : UInt8} (h : l[k]? = some c) : valD (l.take (k + 1)) = 10 * valD (l.take k) + (c.toNat - 48) := by
  obtain ⟨h1, h2⟩ := List.getElem?_eq_some_iff.1 h
  rw [List.take_succ_eq_append_getElem h1, h2, valD_snoc]
theorem valD_take_le (l : List UInt8) (k : Nat) : valD (l.take k) ≤ valD l := by
  conv => rhs; rw [← List.take_append_drop k l, valD_append]
  have : valD (l.take k) * 1 ≤ valD (l.take k) * 10 ^ (l.drop k).length := Nat.mul_le_mul_left _ (Nat.pow_pos (by omega))
  omega
theorem shiftOf_bound (p : Pc) (hf : ∀ c ∈ p.power, isFig c = true) : -1048576 ≤ shiftOf 1048576 p ∧ shiftOf 1048576 p ≤ 1048576 := by
  unfold shiftOf
  simp only []
  have h : ((if (trimL p.power).length ≤ 6 then (valD p.power : Int) else ((1048576 : Nat) : Int)) : Int) ≤ 1048576 ∧ 0 ≤ ((if (trimL p.power).length ≤ 6 then (valD p.power : Int) else ((1048576 : Nat) : Int)) : Int) := by
    split
    · rename_i h6
      have := trimL_vallt hf (by omega)
      omega
    · omega
  split <;> omega
end Go.Proofs.YtfmadoeadmclbaaGreatDoor
namespace Go.Proofs.YtfmadoeadmclbaaGreatDoor
open Go.RowKit

theorem dig_byte {d : Nat} (h : d < 10) : (UInt8.ofNat (48 + d)).toNat = 48 + d := by
  rw [UInt8.toNat_ofNat']; omega
theorem dig_fig {d : Nat} (h : d < 10) : isFig (UInt8.ofNat (48 + d)) = true := by
  rw [isFig, dig_byte h, Bool.and_eq_true, decide_eq_true_iff, decide_eq_true_iff]; omega
theorem dec_figs : ∀ (u : Nat), ∀ c ∈ Lib.decDigits u, isFig c = true := by
  intro u
  induction u using Nat.strongRecOn with
  | _ u ih =>
    intro c hc
    rw [Lib.decDigits] at hc
    split at hc
    · rw [List.mem_singleton.1 hc]; exact dig_fig (by omega)
    · rcases List.mem_append.1 hc with h | h
      · exact ih (u / 10) (by omega) c h
      · rw [List.mem_singleton.1 h]; exact dig_fig (by omega)
theorem dec_val : ∀ (u : Nat), valD (Lib.decDigits u) = u := by
  intro u
  induction u using Nat.strongRecOn with
  | _ u ih =>
    rw [Lib.decDigits]
    split
    · show 10 * 0 + ((UInt8.ofNat (48 + u)).toNat - 48) = u
      rw [dig_byte (by omega)]; omega
    · rw [valD_snoc, ih (u / 10) (by omega), dig_byte (by omega)]; omega
theorem dec_ne3 (u : Nat) : Lib.decDigits u ≠ [] := by
  intro h
  have := Lib.decDigits_length u
  rw [h] at this
  have := Lib.nDigits_pos u
  simp at *
  omega
theorem rest_val {r : Nat} (h : r < 10000000) : (restL r).length ≤ 7 ∧ valD (restL r) * 10 ^ (7 - (restL r).length) = r := by
  have hl : (List.replicate (7 - (Lib.decDigits r).length) (48 : UInt8) ++ Lib.decDigits r).length = 7 := by
    have := dec_len (u := r) (k := 7) (by omega) (by omega)
    rw [List.length_append, List.length_replicate]; omega
  have h1 := trimR_val (List.replicate (7 - (Lib.decDigits r).length) 48 ++ Lib.decDigits r)
  rw [valD_lead, dec_val, hl] at h1
  have h2 := trimR_le (List.replicate (7 - (Lib.decDigits r).length) 48 ++ Lib.decDigits r)
  rw [hl] at h2
  exact ⟨h2, h1.symm⟩
end Go.Proofs.YtfmadoeadmclbaaGreatDoor
namespace Go.Proofs.YtfmadoeadmclbaaGreatDoor
open Go.RowKit

mutual
def mJ : J → Nat
  | .null => 4
  | .bool _ => 5
  | .num _ => 100
  | .text s => 6 * s.length + 2
  | .list xs => mJs xs + 2
  | .obj ns xs => mJm ns xs + 2
  | .other _ => 0
def mJs : List J → Nat
  | [] => 0
  | x :: r => mJ x + 1 + mJs r
def mJm : List (List UInt8) → List J → Nat
  | _, [] => 0
  | ns, x :: r => 6 * (ns.headD []).length + 4 + mJ x + mJm ns.tail r
end
theorem print_len (n : Int) : (printL n).1.length ≤ 100 := by
  unfold printL
  split
  · simp
  · have hq : (Lib.decDigits (n.natAbs / 10000000)).length ≤ 20 := dec_len (by omega) (by omega)
    have hr := rest_val (r := n.natAbs % 10000000) (by omega)
    simp only [List.length_append]
    split <;> split <;> simp <;> omega
theorem esc_len (x : UInt8) : 1 ≤ (escB x).length ∧ (escB x).length ≤ 6 := by
  unfold escB
  repeat' split
  all_goals simp
theorem quoB_len : ∀ (s : List UInt8), s.length ≤ (quoB s).length ∧ (quoB s).length ≤ 6 * s.length
  | [] => by rw [quoB]; simp
  | c :: t => by
    have := quoB_len t
    have := esc_len c
    rw [quoB, List.length_append, List.length_cons]; omega
theorem quo_len (s : List UInt8) : (quo s).length ≤ 6 * s.length + 2 := by
  have := quoB_len s
  unfold quo
  simp only [List.length_cons, List.length_append, List.length_nil]; omega
mutual
theorem prJ_len : ∀ (x : J), (prJ x).length ≤ mJ x
  | .null => by rw [prJ, mJ]; decide
  | .bool b => by rw [prJ, mJ]; cases b <;> decide
  | .num n => by rw [prJ, mJ]; exact print_len n
  | .text s => by rw [prJ, mJ]; exact quo_len s
  | .other _ => by rw [prJ, mJ]; exact Nat.le_refl _
  | .list xs => by
    have := prJs_len 91 xs
    rw [prJ, mJ, List.length_append]
    unfold endL
    split <;> simp only [List.length_cons, List.length_nil] <;> omega
  | .obj ns xs => by
    have := prMs_len 123 ns xs
    rw [prJ, mJ, List.length_append]
    unfold endL
    split <;> simp only [List.length_cons, List.length_nil] <;> omega
theorem prJs_len : ∀ (c : UInt8) (l : List J), (prJs c l).length ≤ mJs l
  | _, [] => by rw [prJs, mJs]; exact Nat.le_refl _
  | c, x :: r => by
    have := prJ_len x
    have := prJs_len 44 r
    rw [prJs, mJs, List.length_cons, List.length_append]; omega
theorem prMs_len : ∀ (c : UInt8) (ns : List (List UInt8)) (l : List J), (prMs c ns l).length ≤ mJm ns l
  | _, _, [] => by rw [prMs, mJm]; exact Nat.le_refl _
  | c, ns, x :: r => by
    have := prJ_len x
    have := quo_len (ns.headD [])
    have := prMs_len 44 ns.tail r
    rw [prMs, mJm]
    simp only [List.length_cons, List.length_append]; omega
end
theorem mJs_at : ∀ {xs : List J} {i : Nat} {x : J}, xs[i]? = some x → mJs (xs.take i) + (mJ x + 1) ≤ mJs xs
  | [], _, _, h => by simp at h
  | y :: r, 0, x, h => by
    obtain rfl : y = x := by simpa using h
    rw [List.take_zero, mJs, mJs]; omega
  | y :: r, i + 1, x, h => by
    have := mJs_at (xs := r) (i := i) (x := x) (by simpa using h)
    rw [List.take_succ_cons, mJs, mJs]; omega
theorem mJm_at : ∀ {ns : List (List UInt8)} {xs : List J} {i : Nat} {x : J} {nm : List UInt8}, ns[i]? = some nm → xs[i]? = some x → mJm ns (xs.take i) + (6 * nm.length + 4 + mJ x) ≤ mJm ns xs
  | _, [], _, _, _, _, h => by simp at h
  | [], y :: r, _, _, _, h, _ => by simp at h
  | n :: ns, y :: r, 0, x, nm, h1, h => by
    obtain rfl : y = x := by simpa using h
    obtain rfl : n = nm := by simpa using h1
    rw [List.take_zero, mJm, mJm, List.headD_cons]; omega
  | n :: ns, y :: r, i + 1, x, nm, h1, h => by
    have := mJm_at (ns := ns) (xs := r) (i := i) (x := x) (nm := nm) (by simpa using h1) (by simpa using h)
    rw [List.take_succ_cons, mJm, mJm, List.headD_cons, List.tail_cons]; omega
end Go.Proofs.YtfmadoeadmclbaaGreatDoor
