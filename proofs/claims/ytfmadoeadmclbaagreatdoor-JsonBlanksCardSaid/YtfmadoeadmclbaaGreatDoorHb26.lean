/-
  The walk of num.Scan. The walk of num.Parse.
-/
import Derived.Test.YtfmadoeadmclbaaGreatDoorHb23
import Derived.Test.YtfmadoeadmclbaaGreatDoorHb24
namespace Go.Proofs.YtfmadoeadmclbaaGreatDoor
open Go.RowKit

set_option maxRecDepth 100000 in
set_option maxHeartbeats 4000000 in
theorem scan_any (S : ByteArray) (l : List UInt8) (w : World) (hl : S.data.toList = l) (hS : S.size ≤ 4611686018427387904) :
    Calls Tryz.prog 74 #[.string S] w fun e w' => e = .returned (.int .i64 (scanL l : Nat)) ∧ Ext w w' := by
  have HCUT := Lib.hid (cut_any S l w hl hS)
  clear hl
  go_enter Tryz.func74, Tryz.ntmps74
  go_wp2_with fail
  refine HCUT.out.mono ?_
  rintro e w1 ⟨E1, h⟩
  rcases h with ⟨p, c1, c2, c3, h1, _, _, _, rfl⟩ | ⟨h1, M, rfl⟩
  · have Hv : Hid (scanL l = p.size) := by show scanL l = p.size; rw [scanL, h1]
    clear h1
    go_wp2_with fail
    go_ret
    exact ⟨by rw [Hv.out] <;> rfl, E1.trans ((Below.refl _ _).alloc E1.size _)⟩
  · have Hv : Hid (scanL l = 0) := by show scanL l = 0; rw [scanL, h1]
    clear h1
    go_wp2_with fail
    go_ret
    exact ⟨by rw [Hv.out] <;> rfl, E1.trans ((Below.refl _ _).alloc E1.size _)⟩
end Go.Proofs.YtfmadoeadmclbaaGreatDoor
namespace Go.Proofs.YtfmadoeadmclbaaGreatDoor
open Go.RowKit

theorem of_list {c : ByteArray} {x : List UInt8} (h : c.data.toList = x) : c = txt x := by subst h; rfl

set_option maxRecDepth 100000 in
set_option maxHeartbeats 8000000 in
theorem parse_any (S : ByteArray) (l : List UInt8) (w : World) (hl : S.data.toList = l) (hS : S.size ≤ 4611686018427387904) :
    Calls Tryz.prog 75 #[.string S] w fun e w' => e = .returned (.tuple #[.int .i64 (parseL l).1, .int .i64 (parseL l).2]) ∧ Ext w w' := by
  have HCUT := Lib.hid (cut_any S l w hl hS)
  have hln : l.length = S.size := by rw [← hl, Array.length_toList]; rfl
  have Hln := Lib.hid hln
  clear hl
  by_cases hlong : 65536 < S.size
  · have d1 : decide ((S.size : Int) > 65536) = true := by rw [decide_eq_true_iff]; omega
    have d1' : decide ((65536 : Int) < (S.size : Int)) = true := d1
    have d1n : decide (65536 < S.size) = true := by rw [decide_eq_true_iff]; omega
    have Hv : Hid (parseL l = (0, 9)) := by show _ = _; rw [parseL, if_pos (by omega)]
    clear hln
    go_enter Tryz.func75, Tryz.ntmps75
    go_wp2_with fail
    go_ret2
    exact ⟨by rw [Hv.out] <;> rfl, Below.refl _ _⟩
  have d1 : decide ((S.size : Int) > 65536) = false := by rw [decide_eq_false_iff_not]; omega
  have d1' : decide ((65536 : Int) < (S.size : Int)) = false := d1
  have d1n : decide (65536 < S.size) = false := by rw [decide_eq_false_iff_not]; omega
  have HPL : Hid (parseL l = match cutL l with
    | none => (0, 11)
    | some p => if p.size = l.length then numOf (shiftOf 1048576 p) p else (0, 11)) := by show _ = _; rw [parseL, if_neg (by omega)]; rfl
  clear hln
  go_enter Tryz.func75, Tryz.ntmps75
  go_wp2_with fail
  refine HCUT.out.mono ?_
  rintro e w1 ⟨E1, h⟩
  rcases h with ⟨p, c1, c2, c3, hcut, hc1, hc2, hc3, rfl⟩ | ⟨h1, M, rfl⟩
  rotate_left
  · have Hv : Hid (parseL l = (0, 11)) := by show _ = _; rw [HPL.out, h1]
    clear h1
    go_wp2_with fail
    go_ret2
    exact ⟨by rw [Hv.out] <;> rfl, E1.trans ((Below.refl _ _).alloc E1.size _)⟩
  obtain rfl := of_list hc1
  obtain rfl := of_list hc2
  obtain rfl := of_list hc3
  clear hc1 hc2 hc3
  by_cases hz : p.size = l.length
  rotate_left
  · have d2 : ((p.size : Int) == (S.size : Int)) = false := by rw [beq_eq_false_iff_ne]; have := Hln.out; omega
    have d2n : (p.size == S.size) = false := by rw [beq_eq_false_iff_ne]; have := Hln.out; omega
    have Hv : Hid (parseL l = (0, 11)) := by show _ = _; rw [HPL.out, hcut]; simp only []; rw [if_neg hz]
    clear hcut hz
    go_wp2_with fail
    go_ret2
    exact ⟨by rw [Hv.out] <;> rfl, E1.trans ((Below.refl _ _).alloc E1.size _)⟩
  have d2 : ((p.size : Int) == (S.size : Int)) = true := by rw [beq_iff_eq]; have := Hln.out; omega
  have d2n : (p.size == S.size) = true := by rw [beq_iff_eq]; have := Hln.out; omega
  obtain ⟨ex, hform⟩ := cut_form hcut hz
  have hlens : p.whole.length + p.rest.length ≤ 65536 := by
    have h := congrArg List.length hform.eq
    have := Hln.out
    simp only [List.length_append] at h
    omega
  have hpw : ∀ c ∈ p.power, isFig c = true := by
    rcases hform.ex with ⟨_, h, _⟩ | ⟨_, _, _, _, _, _, _, h⟩
    · rw [h]; simp
    · exact h
  have hdig : ∀ c ∈ p.whole ++ p.rest, isFig c = true := fun c hc => (List.mem_append.1 hc).elim (hform.whole c) (hform.rest c)
  have HV : Hid (parseL l = numOf (shiftOf 1048576 p) p) := by show _ = _; rw [HPL.out, hcut]; simp only []; rw [if_pos hz]
  obtain ⟨A, hA⟩ : ∃ A, A = trimL (p.whole ++ p.rest) := ⟨_, rfl⟩
  obtain ⟨B, hB⟩ : ∃ B, B = trimR A := ⟨_, rfl⟩
  obtain ⟨sh, hsh⟩ : ∃ sh, sh = shiftOf 1048576 p := ⟨_, rfl⟩
  have hsb := shiftOf_bound p hpw
  rw [← hsh] at hsb
  have hAl : A.length ≤ 65536 := by have := trimL_le (p.whole ++ p.rest); rw [List.length_append, ← hA] at this; omega
  have hBl : B.length ≤ A.length := by rw [hB]; exact trimR_le A
  have hBf : ∀ c ∈ B, isFig c = true := fun c hc => hdig c (trimL_mem (by rw [← hA]; exact trimR_mem (by rw [← hB]; exact hc)))
  have hrl : p.rest.length ≤ 65536 := by omega
  have hps : p.size ≤ 65536 := by have := Hln.out; omega
  have HTL : Hid (∀ W', Calls Tryz.prog 98 #[.string (txt p.whole ++ txt p.rest), .string ⟨#[48]⟩] W' fun e w' => e = .returned (.string (txt A)) ∧ w' = W') := fun W' =>
    (Tryz.strings_TrimLeft_one (txt p.whole ++ txt p.rest) 48 (by decide) W').mono fun e w' ⟨h1, h2⟩ => ⟨by
      rw [h1]
      have e1 : (txt p.whole ++ txt p.rest).data.toList = p.whole ++ p.rest := by simp [ByteArray.data_append]
      rw [e1, trimL_lib, ← hA], h2⟩
  have HTR : Hid (∀ W', Calls Tryz.prog 88 #[.string (txt A), .string ⟨#[48]⟩] W' fun e w' => e = .returned (.string (txt B)) ∧ w' = W') := fun W' =>
    (Tryz.strings_TrimRight_one (txt A) 48 (by decide) W' (by rw [txt_size]; omega)).mono fun e w' ⟨h1, h2⟩ => ⟨by
      rw [h1]
      show Ending.returned (Value.string ⟨(Lib.trimRightB A 48).toArray⟩) = _
      rw [trimR_lib, ← hB], h2⟩
  have HSH : Hid (∀ W', Calls Tryz.prog 99 #[.agg #[.bool p.minus, .string (txt p.whole), .string (txt p.rest), .string (txt p.power), .bool p.down, .int .i64 (p.size : Nat)]] W' fun e w' => e = .returned (.int .i64 sh) ∧ Ext W' w') := fun W' => by
    have := shift_any p.minus p.down (txt p.whole) (txt p.rest) p.power (p.size : Nat) W' hpw
    rw [hsh]; exact this
  have HA := Lib.hid hA
  have HB := Lib.hid hB
  have Hsh := Lib.hid hsh
  have HBf := Lib.hid hBf
  clear hcut hz hform hpw hdig hA hB hsh hBf
  by_cases hA0 : A = []
  · have e1 : (A == []) = true := by rw [hA0]; rfl
    have Hv : Hid (parseL l = (0, 0)) := by show _ = _; rw [HV.out]; exact numOf_zero (by rw [← HA.out]; exact hA0)
    have HA0 := Lib.hid hA0
    clear hA0
    go_wp2_with fail
    (with_reducible refine (HTL.out _).mono ?_)
    rintro e w' ⟨rfl, rfl⟩
    go_wp2_with fail
    go_ret2
    exact ⟨by rw [Hv.out] <;> rfl, E1.trans ((Below.refl _ _).alloc E1.size _)⟩
  have e1 : (A == []) = false := by rw [beq_eq_false_iff_ne]; exact hA0
  have HNV : Hid (parseL l = if (A.length : Int) - p.rest.length + sh + 7 < B.length ∨ 40 < (A.length : Int) - p.rest.length + sh + 7 then (0, 12) else if 9000000000000000000 < valD B * 10 ^ ((A.length : Int) - p.rest.length + sh + 7 - B.length).toNat then (0, 12) else (if p.minus then -((valD B * 10 ^ ((A.length : Int) - p.rest.length + sh + 7 - B.length).toNat : Nat) : Int) else (valD B * 10 ^ ((A.length : Int) - p.rest.length + sh + 7 - B.length).toNat : Nat), 0)) := by
    show _ = _
    rw [HV.out, ← Hsh.out]
    exact numOf_step HA.out HB.out rfl hA0
  have HA0 := Lib.hid hA0
  clear hA0
  go_wp2_with fail
  (with_reducible refine (HTL.out _).mono ?_)
  rintro e w' ⟨rfl, rfl⟩
  go_wp2_with fail
  obtain ⟨W, hW⟩ : ∃ W, W = w1.alloc (.cells #[.bool p.minus, .string (txt p.whole), .string (txt p.rest), .string (txt p.power), .bool p.down, .int .i64 (p.size : Nat)] 146) := ⟨_, rfl⟩
  rw [← hW]
  have EW : Ext w W := by rw [hW]; exact E1.trans ((Below.refl _ _).alloc E1.size _)
  have hrow : W.heap[w1.heap.size]? = some (.cells #[.bool p.minus, .string (txt p.whole), .string (txt p.rest), .string (txt p.power), .bool p.down, .int .i64 (p.size : Nat)] 146 (0, 0)) := by rw [hW]; exact heap_alloc_new _ _
  have x0 := ExtOf.cell (cell_of_row W w1.heap.size 0 _ _ _ hrow)
  have x1 := ExtOf.cell (cell_of_row W w1.heap.size 1 _ _ _ hrow)
  have x2 := ExtOf.cell (cell_of_row W w1.heap.size 2 _ _ _ hrow)
  have x3 := ExtOf.cell (cell_of_row W w1.heap.size 3 _ _ _ hrow)
  have x4 := ExtOf.cell (cell_of_row W w1.heap.size 4 _ _ _ hrow)
  have x5 := ExtOf.cell (cell_of_row W w1.heap.size 5 _ _ _ hrow)
  have HC : Hid (∀ x : ExtOf W, Calls Tryz.prog 99 #[.agg #[.bool p.minus, .string (txt p.whole), .string (txt p.rest), .string (txt p.power), .bool p.down, .int .i64 (p.size : Nat)]] x.w fun e w'' => e = .returned (.int .i64 sh) ∧ ∃ y : ExtOf W, w'' = y.w) := fun x => Calls.quietE x (HSH.out x.w)
  have w1' : IntKind.i64.wrap ((A.length : Int) - (p.rest.length : Int)) = (A.length : Int) - (p.rest.length : Int) := IntWalk.i64_in _ (by omega)
  have w2' : IntKind.i64.wrap ((A.length : Int) - (p.rest.length : Int) + sh) = (A.length : Int) - (p.rest.length : Int) + sh := IntWalk.i64_in _ (by omega)
  have w3' : IntKind.i64.wrap ((A.length : Int) - (p.rest.length : Int) + sh + 7) = (A.length : Int) - (p.rest.length : Int) + sh + 7 := IntWalk.i64_in _ (by omega)
  have Hrow := Lib.hid hrow
  have HEW := Lib.hid EW
  clear hW hrow
  simp only [List.getElem_toArray, List.getElem_cons_zero, List.getElem_cons_succ] at x0 x1 x2 x3 x4 x5
  refine wp_region_quiet_ext (W := W) (by kernel_rfl) (by kernel_rfl) (Below.refl _ _) ?_
  repeat (go_big_quiet_step (exact HC.out _))
  (refine wpQuiet_nil ?_; intro _ hw'; obtain ⟨xq, hw''⟩ := hw'; subst hw'')
  obtain ⟨P, hP⟩ : ∃ P : Int, P = (A.length : Int) - p.rest.length + sh + 7 := ⟨_, rfl⟩
  rw [← hP] at HNV ⊢
  have hPb : -2000000 ≤ P ∧ P ≤ 2000000 := by omega
  have XE := xq.ext
  obtain ⟨W2, hW2⟩ : ∃ W2, W2 = xq.w := ⟨_, rfl⟩
  rw [← hW2] at XE ⊢
  have hw1W : w1.heap.size < W.heap.size := (Array.getElem?_eq_some_iff.1 Hrow.out).1
  have y0 := cell_of_row W2 w1.heap.size 0 _ _ _ ((XE.block _ hw1W).trans Hrow.out)
  have HXE := Lib.hid (Ext.trans' HEW.out XE)
  clear x0 x1 x2 x3 x4 x5 w1' w2' w3' hP hW2 XE hsb
  by_cases hb1 : P < B.length
  · have f1 : decide (P < (B.length : Int)) = true := by rw [decide_eq_true_iff]; exact hb1
    have Hv : Hid (parseL l = (0, 12)) := by show _ = _; rw [HNV.out, if_pos (.inl hb1)]
    go_wp2_with fail
    (with_reducible refine (HTR.out _).mono ?_)
    rintro e w' ⟨rfl, rfl⟩
    go_wp2_with fail
    go_ret2
    exact ⟨by rw [Hv.out] <;> rfl, HXE.out⟩
  have f1 : decide (P < (B.length : Int)) = false := by rw [decide_eq_false_iff_not]; exact hb1
  by_cases hb2 : 40 < P
  · have f2 : decide (P > 40) = true := by rw [decide_eq_true_iff]; exact hb2
    have f2' : decide (40 < P) = true := f2
    have Hv : Hid (parseL l = (0, 12)) := by show _ = _; rw [HNV.out, if_pos (.inr hb2)]
    go_wp2_with fail
    (with_reducible refine (HTR.out _).mono ?_)
    rintro e w' ⟨rfl, rfl⟩
    go_wp2_with fail
    go_ret2
    exact ⟨by rw [Hv.out] <;> rfl, HXE.out⟩
  have f2 : decide (P > 40) = false := by rw [decide_eq_false_iff_not]; exact hb2
  have f2' : decide (40 < P) = false := f2
  obtain ⟨m, rfl⟩ : ∃ m : Nat, P = m := ⟨P.toNat, by omega⟩
  have hBm : B.length ≤ m := by omega
  have HNV2 : Hid (parseL l = if 9000000000000000000 < valD (digs B m) then (0, 12) else (if p.minus then -((valD (digs B m) : Nat) : Int) else (valD (digs B m) : Nat), 0)) := by
    show _ = _
    rw [HNV.out, if_neg (fun h => h.elim hb1 hb2), digs_val, show ((m : Int) - (B.length : Int)).toNat = m - B.length by omega]
  clear hb1 hb2
  go_wp2_with fail
  (with_reducible refine (HTR.out _).mono ?_)
  rintro e w' ⟨rfl, rfl⟩
  go_wp2_with fail
  go_loopw [8, 9, 10, 57] (fun n i d t wr => ∃ k : Nat, n = .int .u64 (valD ((digs B m).take k) : Nat) ∧ k ≤ m ∧ t = .int .i64 k ∧ wr = w' ∧ valD ((digs B m).take k) ≤ 9000000000000000000) (fun _ _ _ t _ => m - (intOf t).toNat)
  case atStart => exact ⟨0, rfl, Nat.zero_le _, rfl, rfl, by simp [valD]⟩
  case round =>
    obtain ⟨k, rfl, hk, rfl, rfl, hle⟩ := hrel
    obtain ⟨N, hN⟩ : ∃ N, N = valD ((digs B m).take k) := ⟨_, rfl⟩
    rw [← hN] at hle ⊢
    have HN := Lib.hid hN
    clear hN
    by_cases hlt : k < m
    · have t1 : decide ((k : Int) < (m : Int)) = true := by rw [decide_eq_true_iff]; omega
      have t1n : decide (k < m) = true := by rw [decide_eq_true_iff]; omega
      by_cases hkB : k < B.length
      · have t2 : decide ((k : Int) < (B.length : Int)) = true := by rw [decide_eq_true_iff]; omega
        have t2n : decide (k < B.length) = true := by rw [decide_eq_true_iff]; omega
        obtain ⟨c, hc⟩ : ∃ c, B[k] = c := ⟨_, rfl⟩
        have hfig := HBf.out c (by rw [← hc]; exact List.getElem_mem hkB)
        simp only [isFig, Bool.and_eq_true, decide_eq_true_eq] at hfig
        have hg : (txt B)[k]'(by rw [txt_size]; exact hkB) = c := by rw [txt_get, hc]
        have hdc := digs_lo (m := m) hkB
        rw [hc] at hdc
        have Hnext := Lib.hid (valD_take_succ hdc)
        clear hc hdc
        go_wp2_with fail
        · rename_i hq
          have Hv : Hid (parseL l = (0, 12)) := by
            show _ = _
            rw [HNV2.out, if_pos]
            have h1 := valD_take_le (digs B m) (k + 1)
            rw [Hnext.out, ← HN.out] at h1
            omega
          clear hq
          go_ret2
          exact ⟨by rw [Hv.out] <;> rfl, HXE.out⟩
        · rename_i hq
          refine ⟨⟨k + 1, ?_, by omega, by go_num, trivial, ?_⟩, ?_⟩
          · rw [Hnext.out, ← HN.out]
            congr 1
            push_cast
            omega
          · rw [Hnext.out, ← HN.out]; omega
          · simp [intOf]; omega
      · have t2 : decide ((k : Int) < (B.length : Int)) = false := by rw [decide_eq_false_iff_not]; omega
        have t2n : decide (k < B.length) = false := by rw [decide_eq_false_iff_not]; omega
        have Hnext := Lib.hid (valD_take_succ (digs_hi (B := B) (m := m) (by omega) hlt))
        go_wp2_with fail
        · rename_i hq
          have Hv : Hid (parseL l = (0, 12)) := by
            show _ = _
            rw [HNV2.out, if_pos]
            have h1 := valD_take_le (digs B m) (k + 1)
            rw [Hnext.out, ← HN.out] at h1
            have h2 : (48 : UInt8).toNat - 48 = 0 := rfl
            omega
          clear hq
          go_ret2
          exact ⟨by rw [Hv.out] <;> rfl, HXE.out⟩
        · rename_i hq
          have h2 : (48 : UInt8).toNat - 48 = 0 := rfl
          refine ⟨⟨k + 1, ?_, by omega, by go_num, trivial, ?_⟩, ?_⟩
          · rw [Hnext.out, ← HN.out, h2]
            congr 1
          · rw [Hnext.out, ← HN.out, h2]; omega
          · simp [intOf]; omega
    · have t1 : decide ((k : Int) < (m : Int)) = false := by rw [decide_eq_false_iff_not]; omega
      have t1n : decide (k < m) = false := by rw [decide_eq_false_iff_not]; omega
      have Hv : Hid (parseL l = (if p.minus then -(N : Int) else N, 0)) := by
        show _ = _
        have h1 : (digs B m).take k = digs B m := List.take_of_length_le (by rw [digs_length hBm]; omega)
        have h2 := HN.out
        rw [h1] at h2
        rw [HNV2.out, ← h2, if_neg (by omega)]
      clear hlt
      cases hmi : p.minus with
      | true =>
        rw [hmi] at y0 Hv
        have Hm := Lib.hid hmi
        clear hmi
        go_wp2_with fail
        go_ret2
        exact ⟨by rw [Hv.out] <;> rfl, HXE.out⟩
      | false =>
        rw [hmi] at y0 Hv
        have Hm := Lib.hid hmi
        clear hmi
        go_wp2_with fail
        go_ret2
        exact ⟨by rw [Hv.out] <;> rfl, HXE.out⟩
end Go.Proofs.YtfmadoeadmclbaaGreatDoor
