/-
  The walk of num.Scan. The walk of num.Parse. num's Parse and Scan, as the walk by lemmas takes them. The walks of the JSON reader's escape (all of it) and number.
-/
import Derived.Test.YtfmadoeadmclbaaGreatDoorHr18
import Derived.Test.YtfmadoeadmclbaaGreatDoorHr19
import Derived.Test.YtfmadoeadmclbaaGreatDoorHr7
import Derived.Test.YtfmadoeadmclbaaGreatDoorHr2
import Derived.Test.YtfmadoeadmclbaaGreatDoorHr20
namespace Go.Proofs.YtfmadoeadmclbaaGreatDoor
open Go.RowKit

set_option maxRecDepth 100000 in
set_option maxHeartbeats 4000000 in
theorem scan_any (S : ByteArray) (l : List UInt8) (w : World) (hl : S.data.toList = l) (hS : S.size ≤ 4611686018427387904) :
    Calls Tryz.prog 74 #[.string S] w fun e w' => e = .returned (.int .i64 (scanL l : Nat)) ∧ Ext w w' := by
  have HCUT := Lib.hid (cut_any S l w hl hS)
  clear hl
  go_enter Tryz.func74, Tryz.ntmps74
  go_wp2_with fail
  refine HCUT.out.mono ?_
  rintro e w1 ⟨E1, h⟩
  rcases h with ⟨p, c1, c2, c3, h1, _, _, _, rfl⟩ | ⟨h1, M, rfl⟩
  · have Hv : Hid (scanL l = p.size) := by show scanL l = p.size; rw [scanL, h1]
    clear h1
    go_wp2_with fail
    go_ret
    exact ⟨by rw [Hv.out] <;> rfl, E1.trans ((Below.refl _ _).alloc E1.size _)⟩
  · have Hv : Hid (scanL l = 0) := by show scanL l = 0; rw [scanL, h1]
    clear h1
    go_wp2_with fail
    go_ret
    exact ⟨by rw [Hv.out] <;> rfl, E1.trans ((Below.refl _ _).alloc E1.size _)⟩
end Go.Proofs.YtfmadoeadmclbaaGreatDoor
namespace Go.Proofs.YtfmadoeadmclbaaGreatDoor
open Go.RowKit

theorem of_list {c : ByteArray} {x : List UInt8} (h : c.data.toList = x) : c = txt x := by subst h; rfl

set_option maxRecDepth 100000 in
set_option maxHeartbeats 8000000 in
theorem parse_any (S : ByteArray) (l : List UInt8) (w : World) (hl : S.data.toList = l) (hS : S.size ≤ 4611686018427387904) :
    Calls Tryz.prog 75 #[.string S] w fun e w' => e = .returned (.tuple #[.int .i64 (parseL l).1, .int .i64 (parseL l).2]) ∧ Ext w w' := by
  have HCUT := Lib.hid (cut_any S l w hl hS)
  have hln : l.length = S.size := by rw [← hl, Array.length_toList]; rfl
  have Hln := Lib.hid hln
  clear hl
  by_cases hlong : 65536 < S.size
  · have d1 : decide ((S.size : Int) > 65536) = true := by rw [decide_eq_true_iff]; omega
    have d1' : decide ((65536 : Int) < (S.size : Int)) = true := d1
    have d1n : decide (65536 < S.size) = true := by rw [decide_eq_true_iff]; omega
    have Hv : Hid (parseL l = (0, 9)) := by show _ = _; rw [parseL, if_pos (by omega)]
    clear hln
    go_enter Tryz.func75, Tryz.ntmps75
    go_wp2_with fail
    go_ret2
    exact ⟨by rw [Hv.out] <;> rfl, Below.refl _ _⟩
  have d1 : decide ((S.size : Int) > 65536) = false := by rw [decide_eq_false_iff_not]; omega
  have d1' : decide ((65536 : Int) < (S.size : Int)) = false := d1
  have d1n : decide (65536 < S.size) = false := by rw [decide_eq_false_iff_not]; omega
  have HPL : Hid (parseL l = match cutL l with
    | none => (0, 11)
    | some p => if p.size = l.length then numOf (shiftOf 1048576 p) p else (0, 11)) := by show _ = _; rw [parseL, if_neg (by omega)]; rfl
  clear hln
  go_enter Tryz.func75, Tryz.ntmps75
  go_wp2_with fail
  refine HCUT.out.mono ?_
  rintro e w1 ⟨E1, h⟩
  rcases h with ⟨p, c1, c2, c3, hcut, hc1, hc2, hc3, rfl⟩ | ⟨h1, M, rfl⟩
  rotate_left
  · have Hv : Hid (parseL l = (0, 11)) := by show _ = _; rw [HPL.out, h1]
    clear h1
    go_wp2_with fail
    go_ret2
    exact ⟨by rw [Hv.out] <;> rfl, E1.trans ((Below.refl _ _).alloc E1.size _)⟩
  obtain rfl := of_list hc1
  obtain rfl := of_list hc2
  obtain rfl := of_list hc3
  clear hc1 hc2 hc3
  by_cases hz : p.size = l.length
  rotate_left
  · have d2 : ((p.size : Int) == (S.size : Int)) = false := by rw [beq_eq_false_iff_ne]; have := Hln.out; omega
    have d2n : (p.size == S.size) = false := by rw [beq_eq_false_iff_ne]; have := Hln.out; omega
    have Hv : Hid (parseL l = (0, 11)) := by show _ = _; rw [HPL.out, hcut]; simp only []; rw [if_neg hz]
    clear hcut hz
    go_wp2_with fail
    go_ret2
    exact ⟨by rw [Hv.out] <;> rfl, E1.trans ((Below.refl _ _).alloc E1.size _)⟩
  have d2 : ((p.size : Int) == (S.size : Int)) = true := by rw [beq_iff_eq]; have := Hln.out; omega
  have d2n : (p.size == S.size) = true := by rw [beq_iff_eq]; have := Hln.out; omega
  obtain ⟨ex, hform⟩ := cut_form hcut hz
  have hlens : p.whole.length + p.rest.length ≤ 65536 := by
    have h := congrArg List.length hform.eq
    have := Hln.out
    simp only [List.length_append] at h
    omega
  have hpw : ∀ c ∈ p.power, isFig c = true := by
    rcases hform.ex with ⟨_, h, _⟩ | ⟨_, _, _, _, _, _, _, h⟩
    · rw [h]; simp
    · exact h
  have hdig : ∀ c ∈ p.whole ++ p.rest, isFig c = true := fun c hc => (List.mem_append.1 hc).elim (hform.whole c) (hform.rest c)
  have HV : Hid (parseL l = numOf (shiftOf 1048576 p) p) := by show _ = _; rw [HPL.out, hcut]; simp only []; rw [if_pos hz]
  obtain ⟨A, hA⟩ : ∃ A, A = trimL (p.whole ++ p.rest) := ⟨_, rfl⟩
  obtain ⟨B, hB⟩ : ∃ B, B = trimR A := ⟨_, rfl⟩
  obtain ⟨sh, hsh⟩ : ∃ sh, sh = shiftOf 1048576 p := ⟨_, rfl⟩
  have hsb := shiftOf_bound p hpw
  rw [← hsh] at hsb
  have hAl : A.length ≤ 65536 := by have := trimL_le (p.whole ++ p.rest); rw [List.length_append, ← hA] at this; omega
  have hBl : B.length ≤ A.length := by rw [hB]; exact trimR_le A
  have hBf : ∀ c ∈ B, isFig c = true := fun c hc => hdig c (trimL_mem (by rw [← hA]; exact trimR_mem (by rw [← hB]; exact hc)))
  have hrl : p.rest.length ≤ 65536 := by omega
  have hps : p.size ≤ 65536 := by have := Hln.out; omega
  have HTL : Hid (∀ W', Calls Tryz.prog 98 #[.string (txt p.whole ++ txt p.rest), .string ⟨#[48]⟩] W' fun e w' => e = .returned (.string (txt A)) ∧ w' = W') := fun W' =>
    (Tryz.strings_TrimLeft_one (txt p.whole ++ txt p.rest) 48 (by decide) W').mono fun e w' ⟨h1, h2⟩ => ⟨by
      rw [h1]
      have e1 : (txt p.whole ++ txt p.rest).data.toList = p.whole ++ p.rest := by simp [ByteArray.data_append]
      rw [e1, trimL_lib, ← hA], h2⟩
  have HTR : Hid (∀ W', Calls Tryz.prog 88 #[.string (txt A), .string ⟨#[48]⟩] W' fun e w' => e = .returned (.string (txt B)) ∧ w' = W') := fun W' =>
    (Tryz.strings_TrimRight_one (txt A) 48 (by decide) W' (by rw [txt_size]; omega)).mono fun e w' ⟨h1, h2⟩ => ⟨by
      rw [h1]
      show Ending.returned (Value.string ⟨(Lib.trimRightB A 48).toArray⟩) = _
      rw [trimR_lib, ← hB], h2⟩
  have HSH : Hid (∀ W', Calls Tryz.prog 99 #[.agg #[.bool p.minus, .string (txt p.whole), .string (txt p.rest), .string (txt p.power), .bool p.down, .int .i64 (p.size : Nat)]] W' fun e w' => e = .returned (.int .i64 sh) ∧ Ext W' w') := fun W' => by
    have := shift_any p.minus p.down (txt p.whole) (txt p.rest) p.power (p.size : Nat) W' hpw
    rw [hsh]; exact this
  have HA := Lib.hid hA
  have HB := Lib.hid hB
  have Hsh := Lib.hid hsh
  have HBf := Lib.hid hBf
  clear hcut hz hform hpw hdig hA hB hsh hBf
  by_cases hA0 : A = []
  · have e1 : (A == []) = true := by rw [hA0]; rfl
    have Hv : Hid (parseL l = (0, 0)) := by show _ = _; rw [HV.out]; exact numOf_zero (by rw [← HA.out]; exact hA0)
    have HA0 := Lib.hid hA0
    clear hA0
    go_wp2_with fail
    (with_reducible refine (HTL.out _).mono ?_)
    rintro e w' ⟨rfl, rfl⟩
    go_wp2_with fail
    go_ret2
    exact ⟨by rw [Hv.out] <;> rfl, E1.trans ((Below.refl _ _).alloc E1.size _)⟩
  have e1 : (A == []) = false := by rw [beq_eq_false_iff_ne]; exact hA0
  have HNV : Hid (parseL l = if (A.length : Int) - p.rest.length + sh + 7 < B.length ∨ 40 < (A.length : Int) - p.rest.length + sh + 7 then (0, 12) else if 9000000000000000000 < valD B * 10 ^ ((A.length : Int) - p.rest.length + sh + 7 - B.length).toNat then (0, 12) else (if p.minus then -((valD B * 10 ^ ((A.length : Int) - p.rest.length + sh + 7 - B.length).toNat : Nat) : Int) else (valD B * 10 ^ ((A.length : Int) - p.rest.length + sh + 7 - B.length).toNat : Nat), 0)) := by
    show _ = _
    rw [HV.out, ← Hsh.out]
    exact numOf_step HA.out HB.out rfl hA0
  have HA0 := Lib.hid hA0
  clear hA0
  go_wp2_with fail
  (with_reducible refine (HTL.out _).mono ?_)
  rintro e w' ⟨rfl, rfl⟩
  go_wp2_with fail
  obtain ⟨W, hW⟩ : ∃ W, W = w1.alloc (.cells #[.bool p.minus, .string (txt p.whole), .string (txt p.rest), .string (txt p.power), .bool p.down, .int .i64 (p.size : Nat)] 146) := ⟨_, rfl⟩
  rw [← hW]
  have EW : Ext w W := by rw [hW]; exact E1.trans ((Below.refl _ _).alloc E1.size _)
  have hrow : W.heap[w1.heap.size]? = some (.cells #[.bool p.minus, .string (txt p.whole), .string (txt p.rest), .string (txt p.power), .bool p.down, .int .i64 (p.size : Nat)] 146 (0, 0)) := by rw [hW]; exact heap_alloc_new _ _
  have x0 := ExtOf.cell (cell_of_row W w1.heap.size 0 _ _ _ hrow)
  have x1 := ExtOf.cell (cell_of_row W w1.heap.size 1 _ _ _ hrow)
  have x2 := ExtOf.cell (cell_of_row W w1.heap.size 2 _ _ _ hrow)
  have x3 := ExtOf.cell (cell_of_row W w1.heap.size 3 _ _ _ hrow)
  have x4 := ExtOf.cell (cell_of_row W w1.heap.size 4 _ _ _ hrow)
  have x5 := ExtOf.cell (cell_of_row W w1.heap.size 5 _ _ _ hrow)
  have HC : Hid (∀ x : ExtOf W, Calls Tryz.prog 99 #[.agg #[.bool p.minus, .string (txt p.whole), .string (txt p.rest), .string (txt p.power), .bool p.down, .int .i64 (p.size : Nat)]] x.w fun e w'' => e = .returned (.int .i64 sh) ∧ ∃ y : ExtOf W, w'' = y.w) := fun x => Calls.quietE x (HSH.out x.w)
  have w1' : IntKind.i64.wrap ((A.length : Int) - (p.rest.length : Int)) = (A.length : Int) - (p.rest.length : Int) := IntWalk.i64_in _ (by omega)
  have w2' : IntKind.i64.wrap ((A.length : Int) - (p.rest.length : Int) + sh) = (A.length : Int) - (p.rest.length : Int) + sh := IntWalk.i64_in _ (by omega)
  have w3' : IntKind.i64.wrap ((A.length : Int) - (p.rest.length : Int) + sh + 7) = (A.length : Int) - (p.rest.length : Int) + sh + 7 := IntWalk.i64_in _ (by omega)
  have Hrow := Lib.hid hrow
  have HEW := Lib.hid EW
  clear hW hrow
  simp only [List.getElem_toArray, List.getElem_cons_zero, List.getElem_cons_succ] at x0 x1 x2 x3 x4 x5
  refine wp_region_quiet_ext (W := W) (by kernel_rfl) (by kernel_rfl) (Below.refl _ _) ?_
  repeat (go_big_quiet_step (exact HC.out _))
  (refine wpQuiet_nil ?_; intro _ hw'; obtain ⟨xq, hw''⟩ := hw'; subst hw'')
  obtain ⟨P, hP⟩ : ∃ P : Int, P = (A.length : Int) - p.rest.length + sh + 7 := ⟨_, rfl⟩
  rw [← hP] at HNV ⊢
  have hPb : -2000000 ≤ P ∧ P ≤ 2000000 := by omega
  have XE := xq.ext
  obtain ⟨W2, hW2⟩ : ∃ W2, W2 = xq.w := ⟨_, rfl⟩
  rw [← hW2] at XE ⊢
  have hw1W : w1.heap.size < W.heap.size := (Array.getElem?_eq_some_iff.1 Hrow.out).1
  have y0 := cell_of_row W2 w1.heap.size 0 _ _ _ ((XE.block _ hw1W).trans Hrow.out)
  have HXE := Lib.hid (Ext.trans' HEW.out XE)
  clear x0 x1 x2 x3 x4 x5 w1' w2' w3' hP hW2 XE hsb
  by_cases hb1 : P < B.length
  · have f1 : decide (P < (B.length : Int)) = true := by rw [decide_eq_true_iff]; exact hb1
    have Hv : Hid (parseL l = (0, 12)) := by show _ = _; rw [HNV.out, if_pos (.inl hb1)]
    go_wp2_with fail
    (with_reducible refine (HTR.out _).mono ?_)
    rintro e w' ⟨rfl, rfl⟩
    go_wp2_with fail
    go_ret2
    exact ⟨by rw [Hv.out] <;> rfl, HXE.out⟩
  have f1 : decide (P < (B.length : Int)) = false := by rw [decide_eq_false_iff_not]; exact hb1
  by_cases hb2 : 40 < P
  · have f2 : decide (P > 40) = true := by rw [decide_eq_true_iff]; exact hb2
    have f2' : decide (40 < P) = true := f2
    have Hv : Hid (parseL l = (0, 12)) := by show _ = _; rw [HNV.out, if_pos (.inr hb2)]
    go_wp2_with fail
    (with_reducible refine (HTR.out _).mono ?_)
    rintro e w' ⟨rfl, rfl⟩
    go_wp2_with fail
    go_ret2
    exact ⟨by rw [Hv.out] <;> rfl, HXE.out⟩
  have f2 : decide (P > 40) = false := by rw [decide_eq_false_iff_not]; exact hb2
  have f2' : decide (40 < P) = false := f2
  obtain ⟨m, rfl⟩ : ∃ m : Nat, P = m := ⟨P.toNat, by omega⟩
  have hBm : B.length ≤ m := by omega
  have HNV2 : Hid (parseL l = if 9000000000000000000 < valD (digs B m) then (0, 12) else (if p.minus then -((valD (digs B m) : Nat) : Int) else (valD (digs B m) : Nat), 0)) := by
    show _ = _
    rw [HNV.out, if_neg (fun h => h.elim hb1 hb2), digs_val, show ((m : Int) - (B.length : Int)).toNat = m - B.length by omega]
  clear hb1 hb2
  go_wp2_with fail
  (with_reducible refine (HTR.out _).mono ?_)
  rintro e w' ⟨rfl, rfl⟩
  go_wp2_with fail
  go_loopw [8, 9, 10, 57] (fun n i d t wr => ∃ k : Nat, n = .int .u64 (valD ((digs B m).take k) : Nat) ∧ k ≤ m ∧ t = .int .i64 k ∧ wr = w' ∧ valD ((digs B m).take k) ≤ 9000000000000000000) (fun _ _ _ t _ => m - (intOf t).toNat)
  case atStart => exact ⟨0, rfl, Nat.zero_le _, rfl, rfl, by simp [valD]⟩
  case round =>
    obtain ⟨k, rfl, hk, rfl, rfl, hle⟩ := hrel
    obtain ⟨N, hN⟩ : ∃ N, N = valD ((digs B m).take k) := ⟨_, rfl⟩
    rw [← hN] at hle ⊢
    have HN := Lib.hid hN
    clear hN
    by_cases hlt : k < m
    · have t1 : decide ((k : Int) < (m : Int)) = true := by rw [decide_eq_true_iff]; omega
      have t1n : decide (k < m) = true := by rw [decide_eq_true_iff]; omega
      by_cases hkB : k < B.length
      · have t2 : decide ((k : Int) < (B.length : Int)) = true := by rw [decide_eq_true_iff]; omega
        have t2n : decide (k < B.length) = true := by rw [decide_eq_true_iff]; omega
        obtain ⟨c, hc⟩ : ∃ c, B[k] = c := ⟨_, rfl⟩
        have hfig := HBf.out c (by rw [← hc]; exact List.getElem_mem hkB)
        simp only [isFig, Bool.and_eq_true, decide_eq_true_eq] at hfig
        have hg : (txt B)[k]'(by rw [txt_size]; exact hkB) = c := by rw [txt_get, hc]
        have hdc := digs_lo (m := m) hkB
        rw [hc] at hdc
        have Hnext := Lib.hid (valD_take_succ hdc)
        clear hc hdc
        go_wp2_with fail
        · rename_i hq
          have Hv : Hid (parseL l = (0, 12)) := by
            show _ = _
            rw [HNV2.out, if_pos]
            have h1 := valD_take_le (digs B m) (k + 1)
            rw [Hnext.out, ← HN.out] at h1
            omega
          clear hq
          go_ret2
          exact ⟨by rw [Hv.out] <;> rfl, HXE.out⟩
        · rename_i hq
          refine ⟨⟨k + 1, ?_, by omega, by go_num, trivial, ?_⟩, ?_⟩
          · rw [Hnext.out, ← HN.out]
            congr 1
            push_cast
            omega
          · rw [Hnext.out, ← HN.out]; omega
          · simp [intOf]; omega
      · have t2 : decide ((k : Int) < (B.length : Int)) = false := by rw [decide_eq_false_iff_not]; omega
        have t2n : decide (k < B.length) = false := by rw [decide_eq_false_iff_not]; omega
        have Hnext := Lib.hid (valD_take_succ (digs_hi (B := B) (m := m) (by omega) hlt))
        go_wp2_with fail
        · rename_i hq
          have Hv : Hid (parseL l = (0, 12)) := by
            show _ = _
            rw [HNV2.out, if_pos]
            have h1 := valD_take_le (digs B m) (k + 1)
            rw [Hnext.out, ← HN.out] at h1
            have h2 : (48 : UInt8).toNat - 48 = 0 := rfl
            omega
          clear hq
          go_ret2
          exact ⟨by rw [Hv.out] <;> rfl, HXE.out⟩
        · rename_i hq
          have h2 : (48 : UInt8).toNat - 48 = 0 := rfl
          refine ⟨⟨k + 1, ?_, by omega, by go_num, trivial, ?_⟩, ?_⟩
          · rw [Hnext.out, ← HN.out, h2]
            congr 1
          · rw [Hnext.out, ← HN.out, h2]; omega
          · simp [intOf]; omega
    · have t1 : decide ((k : Int) < (m : Int)) = false := by rw [decide_eq_false_iff_not]; omega
      have t1n : decide (k < m) = false := by rw [decide_eq_false_iff_not]; omega
      have Hv : Hid (parseL l = (if p.minus then -(N : Int) else N, 0)) := by
        show _ = _
        have h1 : (digs B m).take k = digs B m := List.take_of_length_le (by rw [digs_length hBm]; omega)
        have h2 := HN.out
        rw [h1] at h2
        rw [HNV2.out, ← h2, if_neg (by omega)]
      clear hlt
      cases hmi : p.minus with
      | true =>
        rw [hmi] at y0 Hv
        have Hm := Lib.hid hmi
        clear hmi
        go_wp2_with fail
        go_ret2
        exact ⟨by rw [Hv.out] <;> rfl, HXE.out⟩
      | false =>
        rw [hmi] at y0 Hv
        have Hm := Lib.hid hmi
        clear hmi
        go_wp2_with fail
        go_ret2
        exact ⟨by rw [Hv.out] <;> rfl, HXE.out⟩
end Go.Proofs.YtfmadoeadmclbaaGreatDoor
namespace Go.Proofs.YtfmadoeadmclbaaGreatDoor
open Go.RowKit Go.TL
set_option maxRecDepth 100000

theorem nParse_g (s : List UInt8) {g : Gh} {L : List Ent} (h : s.length ≤ 4611686018427387904) : Gives Tryz.prog 75 #[str s] g L (.tuple #[.int .i64 (parseL s).1, .int .i64 (parseL s).2]) :=
  .ext fun w => parse_any ⟨s.toArray⟩ s w (by simp) (by rw [size_mk]; exact h)
theorem nScan_g (s : List UInt8) {g : Gh} {L : List Ent} (h : s.length ≤ 4611686018427387904) : Gives Tryz.prog 74 #[str s] g L (.int .i64 (scanL s : Nat)) :=
  .ext fun w => scan_any ⟨s.toArray⟩ s w (by simp) (by rw [size_mk]; exact h)
theorem parseL_bd6 (s : List UInt8) : 0 ≤ (parseL s).2 ∧ (parseL s).2 ≤ 12 := by
  unfold parseL
  split
  · decide
  · split
    · decide
    · split
      · unfold numOf; dsimp only; repeat' split
        all_goals first | decide | (show (0 : Int) ≤ 0 ∧ (0 : Int) ≤ 12; decide)
      · decide
end Go.Proofs.YtfmadoeadmclbaaGreatDoor
namespace Go.Proofs.YtfmadoeadmclbaaGreatDoor
open Go.RowKit Go.TL
set_option maxRecDepth 100000

end Go.Proofs.YtfmadoeadmclbaaGreatDoor
namespace Go.TL
open Go Go.RowKit Go.Proofs.YtfmadoeadmclbaaGreatDoor
section
variable {P : Program} {n : Nat} {ds : List Deferred} {S : Slots} {g : Gh} {L : List Ent} {gd : Option (Nat × Bool)} {dst : Option Nat} {x y : Operand} {t t' ty : TypeId} {pos : String} {aft : Array Edge} {p q : Int} {k : IntKind}
theorem Y.gtr_b {b : Bool} (hb : decide (q < p) = b) (hx : ev S x = some (.int k p)) (hy : ev S y = some (.int k q)) : Yields P n ds S g L ⟨dst, .binOp .gtr t x y t', ty, pos, aft, gd⟩ (.bool b) := by
  subst hb; exact Y.gtr hx hy
theorem Y.eql_b {b : Bool} (hb : decide (p = q) = b) (hx : ev S x = some (.int k p)) (hy : ev S y = some (.int k q)) : Yields P n ds S g L ⟨dst, .binOp .eql t x y t', ty, pos, aft, gd⟩ (.bool b) := by
  subst hb; exact Y.eql hx hy
end
end Go.TL
namespace Go.Proofs.YtfmadoeadmclbaaGreatDoor
open Go.RowKit Go.TL
set_option maxRecDepth 100000
theorem jescape_does (b : Nat) (s : List UInt8) (i : Nat) (hi : i ≤ s.length) (hs : s.length ≤ 1000000) (g : Gh) (L : List Ent) : Does Tryz.prog 70 #[.pointer (some ⟨b, 0, none⟩)] g (RdJ b s i :: L) (EscR (escJ (s.drop i)) b s g L) := by
  by_cases hlt : i < s.length
  · obtain ⟨c, hc⟩ : ∃ c, s[i]? = some c := ⟨_, List.getElem?_eq_getElem hlt⟩
    rw [drop_of_get hc, escJ]
    cases hk : shortL c with
    | none =>
      dsimp only
      exact jescape_rest b s i c hi hs (by rw [List.getD_eq_getElem?_getD, hc]; rfl) hk g L
    | some k =>
      dsimp only
      by_cases h47 : c = 47
      · subst h47
        obtain rfl : k = 47 := by
          have : shortL 47 = some 47 := by decide
          rw [this] at hk; exact (Option.some.inj hk).symm
        exact jescape_slash b s i hs hc g L
      · exact jescape_short b s i c k hs hc hk h47 g L
  · have h := jescape_rest b s i 0 hi hs (by rw [List.getD_eq_getElem?_getD, List.getElem?_eq_none (by omega)]; rfl) (by decide) g L
    rw [List.drop_eq_nil_of_le (by omega), escJ]
    unfold escT at h
    rw [if_neg (by decide)] at h
    exact h
def RdR (o : Except Nat (J × List UInt8)) (b : Nat) (s : List UInt8) (L : List Ent) : Ending → Gh → List Ent → Prop := fun e g' L1 => match o with
    | .ok (x, r) => ∃ v i', e = .returned v ∧ L1 = RdJ b s i' :: L ∧ i' ≤ s.length ∧ s.drop i' = r ∧ IsJ g' x v
    | .error k => e = .panicked [stopV k] ∧ L1 = L
theorem get0_len {s : List UInt8} {x : UInt8} (h : s[0]? = some x) : 1 ≤ s.length := (List.getElem?_eq_some_iff.1 h).1
theorem signAt_le (s : List UInt8) : signAt s ≤ s.length := by
  unfold signAt; split
  · exact get0_len ‹_›
  · exact Nat.zero_le _
theorem wholeLen_le (s : List UInt8) : wholeLen s ≤ s.length := by
  unfold wholeLen; split
  · exact get0_len ‹_›
  · exact figs_le s
theorem expSign_le (s : List UInt8) : expSign s ≤ s.length := by
  unfold expSign; split
  · rename_i h
    rcases h with h | h <;> exact get0_len h
  · exact Nat.zero_le _
theorem rest1_le (s : List UInt8) : (if restLen s = 0 then 0 else 1 + restLen s) ≤ s.length := by
  split
  · exact Nat.zero_le _
  · rename_i h
    unfold restLen at h ⊢
    split
    · rename_i h0
      have h1 := get0_len h0
      have h2 := figs_le (s.drop 1)
      rw [List.length_drop] at h2
      omega
    · rename_i h0
      rw [if_neg h0] at h; exact absurd rfl h
theorem isE_len {s : List UInt8} (h : isE s = true) : 1 ≤ s.length := by
  unfold isE at h
  rw [Bool.or_eq_true, beq_iff_eq, beq_iff_eq] at h
  rcases h with h | h <;> exact get0_len h
theorem scan_le (s : List UInt8) : scanL s ≤ s.length := by
  unfold scanL
  cases h : cutL s with
  | none => exact Nat.zero_le _
  | some p =>
    dsimp only
    unfold cutL at h
    dsimp only at h
    have h1 := signAt_le s
    generalize signAt s = a at *
    have h2 := wholeLen_le (s.drop a)
    rw [List.length_drop] at h2
    split at h
    · cases h
    generalize wholeLen (s.drop a) = n at *
    have h3 := rest1_le ((s.drop a).drop n)
    rw [List.length_drop, List.length_drop] at h3
    generalize (if restLen ((s.drop a).drop n) = 0 then 0 else 1 + restLen ((s.drop a).drop n)) = m at *
    split at h
    · rename_i hE
      have h4 := isE_len hE
      rw [List.length_drop] at h4
      have h5 := expSign_le ((s.drop (a + n + m)).drop 1)
      rw [List.length_drop, List.length_drop] at h5
      generalize expSign ((s.drop (a + n + m)).drop 1) = q at *
      have h6 := figs_le ((s.drop (a + n + m)).drop (1 + q))
      rw [List.length_drop, List.length_drop] at h6
      split at h
      · obtain rfl := Option.some.inj h
        dsimp only; omega
      · obtain rfl := Option.some.inj h
        dsimp only; omega
    · obtain rfl := Option.some.inj h
      dsimp only; omega
theorem parseL_val (s : List UInt8) : -9000000000000000000 ≤ (parseL s).1 ∧ (parseL s).1 ≤ 9000000000000000000 := by
  unfold parseL
  split
  · decide
  · split
    · decide
    · split
      · unfold numOf; dsimp only
        split
        · decide
        split
        · decide
        split
        · decide
        · rename_i h
          dsimp only
          generalize valD _ * 10 ^ _ = q at h
          split <;> omega
      · decide
set_option maxHeartbeats 16000000 in
theorem jnumber_does (b : Nat) (s : List UInt8) (i : Nat) (hi : i ≤ s.length) (hs : s.length ≤ 1000000) (g : Gh) (L : List Ent) : Does Tryz.prog 47 #[.pointer (some ⟨b, 0, none⟩)] g (RdJ b s i :: L) (RdR (numW (s.drop i)) b s L) := by
  refine Does.of1 Tryz.func47 rfl Tryz.ntmps47 rfl ?_
  have A := fun L => nScan_g (g := g) (L := L) (s.drop i) (by rw [List.length_drop]; omega)
  have hsl := scan_le (s.drop i)
  rw [List.length_drop] at hsl
  unfold numW
  obtain ⟨n, hn⟩ : ∃ n, n = scanL (s.drop i) := ⟨_, rfl⟩
  rw [← hn] at A hsl ⊢
  by_cases h0 : n = 0
  · rw [if_pos h0]
    subst h0
    have N := fun L => need_no (b := false) rfl 11 g L
    repeat' (first
    | refine wkQ ?_
    | refine wkV ?_
    | ((with_reducible apply TL.gives_plain); (· kernel_rfl); (· rfl); (· exact A _); (· rfl)) | ((with_reducible apply TW.gives_plain); (· kernel_rfl); (· rfl); (· exact A _); (· rfl))
    | refine TL.throws (Enters.plain (by kernel_rfl) (by rfl)) (N _) (by rfl) ?_
    | refine wkP ?_
    | ((with_reducible apply TL.byteK); (· rfl); (· rfl); (· exact natA); (· assumption); (· rfl); intro _) | ((with_reducible apply TL.byte); (· rfl); (· rfl); (· exact natA); (· exact omA); (· rfl); intro _ _ _)
    | refine stS ?_ | (refine stB ?_; intro _) | (refine stC ?_; refine And.intro (fun _ => ?_) (fun _ => ?_))
    | apply TC.region_draw (by kernel_rfl) (by kernel_rfl) | refine TW.nil ?_ | ((with_reducible apply TW.pure); (· exact yA); (· rfl))
    | ((with_reducible apply TL.range_str); (· rfl); (· rfl); intro _) | ((with_reducible apply TL.next_str); (· rfl); (· exact pkA); (· rfl); all_goals intro _)
    | ((with_reducible apply TW.byteK); (· rfl); (· rfl); (· exact natA); (· assumption); (· rfl); intro _) | ((with_reducible apply TW.byte); (· rfl); (· rfl); (· exact natA); (· exact omA); (· rfl); intro _ _ _)
    | refine TW.guard_yes rfl rfl ?_ | refine TW.guard_no rfl rfl rfl rfl ?_ | refine TW.guard_undef rfl rfl rfl ?_ | refine TW.guard rfl rfl rfl ?_)
    refine TQ.end_panic (L' := L) rfl (.refl _) ?_ selA
    exact ⟨rfl, rfl⟩
  · rw [if_neg h0]
    have N := fun L => need_yes (b := true) rfl 11 g L
    have H0 : Hn ((0 : Int) < (n : Nat)) := ⟨by omega⟩
    have hin : i + n ≤ s.length := by omega
    have B := fun L => nParse_g (g := g) (L := L) ((s.drop i).take n) (by rw [List.length_take, List.length_drop]; omega)
    obtain ⟨hv0, hv1⟩ := parseL_val ((s.drop i).take n)
    obtain ⟨he0, _⟩ := parseL_bd6 ((s.drop i).take n)
    generalize parseL ((s.drop i).take n) = pr at *
    obtain ⟨x, e⟩ := pr
    dsimp only at B hv0 hv1 he0 ⊢
    obtain ⟨k, rfl⟩ : ∃ k : Nat, e = (k : Nat) := ⟨e.toNat, by omega⟩
    have ND : Hn ((s.drop i).drop n = s.drop (i + n)) := ⟨List.drop_drop ..⟩
    clear hn h0
    by_cases hk : k = 0
    · subst hk
      rw [if_pos (show ((0 : Nat) : Int) = 0 from rfl), ND.out]
      have N2 := fun L => need_yes (b := true) rfl 0 g L
      repeat' (first
    | refine wkQ ?_
    | ((with_reducible apply TL.pure (d := 17) (v := .bool true)); (· exact Y.gtr_b (decide_eq_true H0.out) rfl rfl); (· rfl)) | ((with_reducible apply TW.pure (d := 17) (v := .bool true)); (· exact Y.gtr_b (decide_eq_true H0.out) rfl rfl); (· rfl))
    | refine wkV ?_
    | ((with_reducible apply TL.gives_plain); (· kernel_rfl); (· rfl); (· exact A _); (· rfl)) | ((with_reducible apply TW.gives_plain); (· kernel_rfl); (· rfl); (· exact A _); (· rfl))
    | ((with_reducible apply TL.gives_plain); (· kernel_rfl); (· rfl); (· exact N _); (· rfl)) | ((with_reducible apply TW.gives_plain); (· kernel_rfl); (· rfl); (· exact N _); (· rfl))
    | ((with_reducible apply TL.gives_plain); (· kernel_rfl); (· rfl); (· exact B _); (· rfl)) | ((with_reducible apply TW.gives_plain); (· kernel_rfl); (· rfl); (· exact B _); (· rfl))
    | ((with_reducible apply TL.gives_plain); (· kernel_rfl); (· rfl); (· exact N2 _); (· rfl)) | ((with_reducible apply TW.gives_plain); (· kernel_rfl); (· rfl); (· exact N2 _); (· rfl))
    | refine wkP ?_
    | ((with_reducible apply TL.byteK); (· rfl); (· rfl); (· exact natA); (· assumption); (· rfl); intro _) | ((with_reducible apply TL.byte); (· rfl); (· rfl); (· exact natA); (· exact omA); (· rfl); intro _ _ _)
    | refine stS ?_ | (refine stB ?_; intro _) | (refine stC ?_; refine And.intro (fun _ => ?_) (fun _ => ?_))
    | apply TC.region_draw (by kernel_rfl) (by kernel_rfl) | refine TW.nil ?_ | ((with_reducible apply TW.pure); (· exact yA); (· rfl))
    | ((with_reducible apply TL.range_str); (· rfl); (· rfl); intro _) | ((with_reducible apply TL.next_str); (· rfl); (· exact pkA); (· rfl); all_goals intro _)
    | ((with_reducible apply TW.byteK); (· rfl); (· rfl); (· exact natA); (· assumption); (· rfl); intro _) | ((with_reducible apply TW.byte); (· rfl); (· rfl); (· exact natA); (· exact omA); (· rfl); intro _ _ _)
    | refine TW.guard_yes rfl rfl ?_ | refine TW.guard_no rfl rfl rfl rfl ?_ | refine TW.guard_undef rfl rfl rfl ?_ | refine TW.guard rfl rfl rfl ?_)
      refine TQ.endR1 (L' := (RdJ b s (i + n) :: L)) Tryz.results47 rvA rfl (.refl _) ?_ selF
      refine ⟨_, i + n, rfl, rfl, hin, rfl, ?_⟩
      rw [IsJ]
      exact ⟨rfl, by omega, by omega⟩
    · rw [if_neg (by omega)]
      have HK : Hn (¬ ((k : Nat) : Int) = 0) := ⟨by omega⟩
      have N2 := fun L => need_no (b := false) rfl k g L
      rw [show ((k : Nat) : Int).toNat = k from rfl]
      repeat' (first
    | refine wkQ ?_
    | ((with_reducible apply TL.pure (d := 17) (v := .bool true)); (· exact Y.gtr_b (decide_eq_true H0.out) rfl rfl); (· rfl)) | ((with_reducible apply TW.pure (d := 17) (v := .bool true)); (· exact Y.gtr_b (decide_eq_true H0.out) rfl rfl); (· rfl))
    | ((with_reducible apply TL.pure (d := 39) (v := .bool false)); (· exact Y.eql_b (decide_eq_false HK.out) rfl rfl); (· rfl)) | ((with_reducible apply TW.pure (d := 39) (v := .bool false)); (· exact Y.eql_b (decide_eq_false HK.out) rfl rfl); (· rfl))
    | refine wkV ?_
    | ((with_reducible apply TL.gives_plain); (· kernel_rfl); (· rfl); (· exact A _); (· rfl)) | ((with_reducible apply TW.gives_plain); (· kernel_rfl); (· rfl); (· exact A _); (· rfl))
    | ((with_reducible apply TL.gives_plain); (· kernel_rfl); (· rfl); (· exact N _); (· rfl)) | ((with_reducible apply TW.gives_plain); (· kernel_rfl); (· rfl); (· exact N _); (· rfl))
    | ((with_reducible apply TL.gives_plain); (· kernel_rfl); (· rfl); (· exact B _); (· rfl)) | ((with_reducible apply TW.gives_plain); (· kernel_rfl); (· rfl); (· exact B _); (· rfl))
    | refine TL.throws (Enters.plain (by kernel_rfl) (by rfl)) (N2 _) (by rfl) ?_
    | refine wkP ?_
    | ((with_reducible apply TL.byteK); (· rfl); (· rfl); (· exact natA); (· assumption); (· rfl); intro _) | ((with_reducible apply TL.byte); (· rfl); (· rfl); (· exact natA); (· exact omA); (· rfl); intro _ _ _)
    | refine stS ?_ | (refine stB ?_; intro _) | (refine stC ?_; refine And.intro (fun _ => ?_) (fun _ => ?_))
    | apply TC.region_draw (by kernel_rfl) (by kernel_rfl) | refine TW.nil ?_ | ((with_reducible apply TW.pure); (· exact yA); (· rfl))
    | ((with_reducible apply TL.range_str); (· rfl); (· rfl); intro _) | ((with_reducible apply TL.next_str); (· rfl); (· exact pkA); (· rfl); all_goals intro _)
    | ((with_reducible apply TW.byteK); (· rfl); (· rfl); (· exact natA); (· assumption); (· rfl); intro _) | ((with_reducible apply TW.byte); (· rfl); (· rfl); (· exact natA); (· exact omA); (· rfl); intro _ _ _)
    | refine TW.guard_yes rfl rfl ?_ | refine TW.guard_no rfl rfl rfl rfl ?_ | refine TW.guard_undef rfl rfl rfl ?_ | refine TW.guard rfl rfl rfl ?_)
      refine TQ.end_panic (L' := L) rfl (.refl _) ?_ selA
      exact ⟨rfl, rfl⟩
end Go.Proofs.YtfmadoeadmclbaaGreatDoor
