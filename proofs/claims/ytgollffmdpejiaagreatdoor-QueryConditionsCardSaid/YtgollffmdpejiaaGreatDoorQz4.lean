/-
  The walk of num.Print.
-/
import Derived.Test.YtgollffmdpejiaaGreatDoorQz3
import Derived.Test.YtgollffmdpejiaaGreatDoorQz1
import Derived.Test.YtgollffmdpejiaaGreatDoorQz0
import Derived.Shelf.Strconv.Itoa2
import Derived.Lib.AppendIntMem
import Derived.Lib.ItoaMem
namespace Go.Proofs.YtgollffmdpejiaaGreatDoor
open Go.RowKit

abbrev txt (l : List UInt8) : ByteArray := ⟨l.toArray⟩
theorem txt_size (l : List UInt8) : (txt l).size = l.length := by simp [ByteArray.size]
theorem trimR_lib (s : List UInt8) : Lib.trimRightB s 48 = trimR s := by
  unfold Lib.trimRightB trimR
  rfl
end Go.Proofs.YtgollffmdpejiaaGreatDoor
namespace Go.Proofs.YtgollffmdpejiaaGreatDoor
open Go.RowKit Go.Sort

theorem below_putRow {α : Type} [Inhabited α] (enc : α → Value) (w : World) (blk off : Nat) (d : Array α) : Below blk w (putRow enc w blk off d) :=
  ⟨rfl, rfl, rfl, by simp [putRow, mapBlock], fun k hk => by
    simp only [putRow, mapBlock]
    rw [Array.getElem?_modify, if_neg (by omega)]⟩

set_option maxRecDepth 100000 in
set_option maxHeartbeats 4000000 in
theorem iformat_any (u : Nat) (hu64 : u < 18446744073709551616) (w : World) (htab : Lib.TabIs Tryz.prog w "internal/strconv.uint64pow10" .u64 Lib.pow10Tab) :
    Calls Tryz.prog 145 #[.int .u64 u, .int .i64 10] w fun e w' => e = .returned (.string ⟨(Lib.decDigits u).toArray⟩) ∧ Ext w w' := by
  by_cases h100 : u < 100
  · have d1 : decide ((u : Int) < 100) = true := by rw [decide_eq_true_iff]; omega
    have d1n : decide (u < 100) = true := by rw [decide_eq_true_iff]; omega
    have HS := Lib.hid (Tryz.internal_strconv_small u h100)
    go_enter Tryz.func145, Tryz.ntmps145
    go_wp2_with fail
    refine (HS.out _).mono ?_
    rintro e w' ⟨rfl, rfl⟩
    go_wp2_with fail
    go_ret
    exact ⟨rfl, Below.refl _ _⟩
  · have d1 : decide ((u : Int) < 100) = false := by rw [decide_eq_false_iff_not]; omega
    have d1n : decide (u < 100) = false := by rw [decide_eq_false_iff_not]; omega
    have hu1 : 1 ≤ u := by omega
    have hnd20 : Lib.nDigits u ≤ 20 := by have := Lib.numDigits_eq u hu1 hu64; split at this <;> omega
    have hal : Tryz.prog.arrayLen 258 = 24 := by kernel_rfl
    have hsl : ∀ W, (Instr.sliceAt 258 (.pointer (some ⟨w.heap.size, 0, none⟩)) none (some (.int .i64 (Lib.nDigits u : Int))) none).run Tryz.prog W = .ok (.slice (some ⟨w.heap.size, 0, none⟩) (Lib.nDigits u) 24) W := fun W => by
      rw [run_sliceAt_array_h W 258 ⟨w.heap.size, 0, none⟩ (by kernel_rfl) .i64 (Lib.nDigits u : Int) (by omega) (by rw [hal]; omega)]
      go_simp
    have hH0 := Lib.holds_zero0 w 258 (Lib.nDigits u) (by omega)
    have hfmt := Tryz.internal_strconv_formatBase10 w.heap.size 0 24 u (Array.replicate (Lib.nDigits u) 0) (w.alloc (.cells Lib.zeros24 258)) hH0 (by rw [Array.size_replicate]; exact Lib.lt_pow_nDigits u) hu64 (by rw [Array.size_replicate]; omega)
    rw [Array.size_replicate] at hfmt
    have Hfmt := Lib.hid hfmt
    have HH0 := Lib.hid hH0
    have HND : Hid (∀ W, Lib.TabIs Tryz.prog W "internal/strconv.uint64pow10" .u64 Lib.pow10Tab → Calls Tryz.prog 193 #[.int .u64 u] W fun e w' => e = .returned (.int .i64 (Lib.nDigits u)) ∧ w' = W) := fun W h => Tryz.internal_strconv_numDigits u hu1 hu64 W h
    have Htab := Lib.hid htab
    clear hH0 hal hfmt htab
    go_enter Tryz.func145, Tryz.ntmps145
    go_wp2_with fail
    refine (HND.out _ (Lib.tabIs_alloc Htab.out _)).mono ?_
    rintro e w' ⟨rfl, rfl⟩
    go_wp2_with fail
    refine Hfmt.out.mono ?_
    rintro e w' ⟨rfl, k, v', dk, rfl, hF⟩
    have hcv : (convert 22 9 (.slice (some ⟨w.heap.size, 0, none⟩) (Lib.nDigits u) 24)).run Tryz.prog ((putRow (fun (b : UInt8) => Value.int .u8 (b.toNat : Int)) (w.alloc (.cells Lib.zeros24 258)) w.heap.size 0 dk).drewN k) = .ok (.string ⟨(Lib.decDigits u).toArray⟩) ((putRow (fun (b : UInt8) => Value.int .u8 (b.toNat : Int)) (w.alloc (.cells Lib.zeros24 258)) w.heap.size 0 dk).drewN k) := by
      have h := run_convert_bytes_back (P := Tryz.prog) ((putRow (fun (b : UInt8) => Value.int .u8 (b.toNat : Int)) (w.alloc (.cells Lib.zeros24 258)) w.heap.size 0 dk).drewN k) 22 9 5 ⟨w.heap.size, 0, none⟩ 24 (Lib.decDigits u) Tryz.underlying22 Tryz.underlying5 Tryz.underlying9 (fun j hj => by
        rw [Lib.row_is_numeral hF j hj, Lib.add_plain, World.cell?_drewN]
        exact cell?_putRow (fun (b : UInt8) => Value.int .u8 (b.toNat : Int)) _ w.heap.size 0 _ dk HH0.out (by rw [hF.size, Array.size_replicate]) j (by rw [hF.size]; rw [Lib.decDigits_length] at hj; exact hj))
      rw [Lib.decDigits_length] at h
      exact h
    have hE : Ext w ((putRow (fun (b : UInt8) => Value.int .u8 (b.toNat : Int)) (w.alloc (.cells Lib.zeros24 258)) w.heap.size 0 dk).drewN k) := bdrewN (((Below.refl _ _).alloc (Nat.le_refl _) _).trans (below_putRow _ _ _ _ _)) _
    have HE := Lib.hid hE
    clear hF hE
    go_wp2_with fail
    go_ret
    exact ⟨rfl, HE.out⟩

set_option maxRecDepth 100000 in
theorem format_any (u : Nat) (hu64 : u < 18446744073709551616) (w : World) (htab : Lib.TabIs Tryz.prog w "internal/strconv.uint64pow10" .u64 Lib.pow10Tab) :
    Calls Tryz.prog 113 #[.int .u64 u, .int .i64 10] w fun e w' => e = .returned (.string ⟨(Lib.decDigits u).toArray⟩) ∧ Ext w w' := by
  have HI := Lib.hid (iformat_any u hu64 w htab)
  clear htab
  go_enter Tryz.func113, Tryz.ntmps113
  go_wp2_with fail
  refine HI.out.mono ?_
  rintro e w' ⟨rfl, E⟩
  go_wp2_with fail
  go_ret
  exact ⟨rfl, E⟩
end Go.Proofs.YtgollffmdpejiaaGreatDoor
namespace Go.Proofs.YtgollffmdpejiaaGreatDoor
open Go.RowKit

def restL (r : Nat) : List UInt8 := trimR (List.replicate (7 - (Lib.decDigits r).length) 48 ++ Lib.decDigits r)
def printL (n : Int) : List UInt8 × Int :=
  if n < -9000000000000000000 ∨ 9000000000000000000 < n then ([], 2) else
  ((if n < 0 then [45] else []) ++ (Lib.decDigits (n.natAbs / 10000000) ++ (if n.natAbs % 10000000 = 0 then [] else [46] ++ restL (n.natAbs % 10000000))), 0)

theorem txt_append (a b : List UInt8) : txt a ++ txt b = txt (a ++ b) := by
  apply ByteArray.ext
  simp [ByteArray.data_append]

theorem nDigits_le : ∀ {k u : Nat}, u < 10 ^ k → 1 ≤ k → Lib.nDigits u ≤ k
  | 0, u, _, hk => by omega
  | k + 1, u, h, _ => by
    by_cases h1 : u < 10
    · rw [Lib.nDigits_small h1]; omega
    · rw [Lib.nDigits_big h1]
      rw [Nat.pow_succ] at h
      cases k with
      | zero => omega
      | succ k =>
        have := nDigits_le (k := k + 1) (u := u / 10) (by omega) (by omega)
        omega

theorem held_any (n : Int) (w : World) (_h0 : -9223372036854775808 ≤ n) (_h1 : n ≤ 9223372036854775807) :
    Calls Tryz.prog 111 #[.int .i64 n] w fun e w' => e = .returned (.bool (decide (-9000000000000000000 ≤ n) && decide (n ≤ 9000000000000000000))) ∧ w' = w := by
  go_enter Tryz.func111, Tryz.ntmps111
  by_cases g1 : -9000000000000000000 ≤ n
  · have d1 : decide (n ≥ -9000000000000000000) = true := by rw [decide_eq_true_iff]; exact g1
    have d1' : decide (-9000000000000000000 ≤ n) = true := d1
    by_cases g2 : n ≤ 9000000000000000000
    · have d2 : decide (n ≤ 9000000000000000000) = true := by rw [decide_eq_true_iff]; exact g2
      clear g1 g2
      go_wp2
      go_ret
      exact ⟨by rw [d1', d2] <;> rfl, rfl⟩
    · have d2 : decide (n ≤ 9000000000000000000) = false := by rw [decide_eq_false_iff_not]; exact g2
      clear g1 g2
      go_wp2
      go_ret
      exact ⟨by rw [d1', d2] <;> rfl, rfl⟩
  · have d1 : decide (n ≥ -9000000000000000000) = false := by rw [decide_eq_false_iff_not]; exact g1
    have d1' : decide (-9000000000000000000 ≤ n) = false := d1
    clear g1
    go_wp2
    go_ret
    exact ⟨by rw [d1'] <;> rfl, rfl⟩

theorem size_any (n : Int) (w : World) (_h0 : -9223372036854775807 ≤ n) (_h1 : n ≤ 9223372036854775807) :
    Calls Tryz.prog 112 #[.int .i64 n] w fun e w' => e = .returned (.int .u64 (n.natAbs : Nat)) ∧ w' = w := by
  go_enter Tryz.func112, Tryz.ntmps112
  by_cases g : n < 0
  · have d1 : decide (n < 0) = true := by rw [decide_eq_true_iff]; exact g
    obtain ⟨m, rfl⟩ : ∃ m : Nat, n = -(m : Int) := ⟨n.natAbs, by omega⟩
    go_wp2
    go_ret
    exact ⟨by simp, rfl⟩
  · have d1 : decide (n < 0) = false := by rw [decide_eq_false_iff_not]; exact g
    obtain ⟨m, rfl⟩ : ∃ m : Nat, n = (m : Int) := ⟨n.natAbs, by omega⟩
    go_wp2
    go_ret
    exact ⟨by simp, rfl⟩

def Tabs (w : World) : Prop := ∀ w', Ext w w' → Lib.TabIs Tryz.prog w' "internal/strconv.uint64pow10" .u64 Lib.pow10Tab
theorem Tabs.on {w w1 : World} (h : Tabs w) (x : Ext w w1) : Tabs w1 := fun w' y => h w' (Ext.trans' x y)

theorem repeatL_zero (c : Nat) : Lib.repeatL [48] c = List.replicate c 48 := by
  induction c with
  | zero => rfl
  | succ c ih => rw [Lib.repeatL, ih, List.replicate_succ]; rfl
theorem dec_len {u k : Nat} (h : u < 10 ^ k) (hk : 1 ≤ k) : (Lib.decDigits u).length ≤ k := by
  rw [Lib.decDigits_length]
  exact nDigits_le h hk

set_option maxRecDepth 100000 in
set_option maxHeartbeats 8000000 in
theorem print_any (n : Int) (w : World) (h0 : -9223372036854775808 ≤ n) (h1 : n ≤ 9223372036854775807) (htab : Tabs w) :
    Calls Tryz.prog 75 #[.int .i64 n] w fun e w' => e = .returned (.tuple #[.string (txt (printL n).1), .int .i64 (printL n).2]) ∧ Ext w w' := by
  have HH := Lib.hid (fun W => held_any n W h0 h1)
  by_cases hh : n < -9000000000000000000 ∨ 9000000000000000000 < n
  · have hb : (decide (-9000000000000000000 ≤ n) && decide (n ≤ 9000000000000000000)) = false := by
      rw [Bool.and_eq_false_iff, decide_eq_false_iff_not, decide_eq_false_iff_not]; omega
    rw [hb] at HH
    have Hv : Hid (printL n = ([], 2)) := by show _ = _; rw [printL, if_pos hh]
    clear hb hh htab
    go_enter Tryz.func75, Tryz.ntmps75
    go_wp2_with fail
    refine (HH.out _).mono ?_
    rintro e w' ⟨rfl, rfl⟩
    go_wp2_with fail
    go_ret2
    exact ⟨by rw [Hv.out] <;> rfl, Below.refl _ _⟩
  have hb : (decide (-9000000000000000000 ≤ n) && decide (n ≤ 9000000000000000000)) = true := by
    rw [Bool.and_eq_true, decide_eq_true_iff, decide_eq_true_iff]; omega
  rw [hb] at HH
  have HSZ := Lib.hid (fun W => size_any n W (by omega) h1)
  obtain ⟨u, hu⟩ : ∃ u, u = n.natAbs := ⟨_, rfl⟩
  rw [← hu] at HSZ
  have hub : u ≤ 9000000000000000000 := by omega
  obtain ⟨q, hq⟩ : ∃ q, q = u / 10000000 := ⟨_, rfl⟩
  obtain ⟨r, hr⟩ : ∃ r, r = u % 10000000 := ⟨_, rfl⟩
  have Hv : Hid (printL n = ((if n < 0 then [45] else []) ++ (Lib.decDigits q ++ (if r = 0 then [] else [46] ++ restL r)), 0)) := by
    show _ = _
    rw [printL, if_neg hh, ← hu, ← hq, ← hr]
  have hqb : q < 18446744073709551616 := by omega
  have hrb : r < 10000000 := by omega
  have HF1 : Hid (∀ W, Ext w W → Calls Tryz.prog 113 #[.int .u64 ((u : Int) / 10000000), .int .i64 10] W fun e w' => e = .returned (.string (txt (Lib.decDigits q))) ∧ Ext W w') := fun W x => by
    have := format_any q hqb W (htab W x)
    rw [hq] at this
    simpa [hq] using this
  have HF2 : Hid (∀ W, Ext w W → Calls Tryz.prog 113 #[.int .u64 ((u : Int) % 10000000), .int .i64 10] W fun e w' => e = .returned (.string (txt (Lib.decDigits r))) ∧ Ext W w') := fun W x => by
    have := format_any r (by omega) W (htab W x)
    rw [hr] at this
    simpa [hr] using this
  have hql : (Lib.decDigits q).length ≤ 20 := dec_len (by omega) (by omega)
  have hrl : (Lib.decDigits r).length ≤ 7 := dec_len (by omega) (by omega)
  obtain ⟨Q, hQ⟩ : ∃ Q, Q = Lib.decDigits q := ⟨_, rfl⟩
  obtain ⟨R, hR⟩ : ∃ R, R = Lib.decDigits r := ⟨_, rfl⟩
  rw [← hQ] at HF1 hql Hv
  rw [← hR] at HF2 hrl
  have HR := Lib.hid hR
  have HRP : Hid (∀ W, Calls Tryz.prog 114 #[.string ⟨#[48]⟩, .int .i64 (7 - (R.length : Int))] W fun e w' => e = .returned (.string (txt (List.replicate (7 - R.length) 48))) ∧ Ext W w') := fun W => by
    have := Tryz.strings_Repeat ⟨#[48]⟩ (7 - R.length) W (by omega) (by show 1 * (7 - R.length) ≤ 140737488355328; omega)
    have e : ((7 - R.length : Nat) : Int) = 7 - (R.length : Int) := by omega
    rw [e] at this
    refine this.mono fun e w' ⟨h1, h2⟩ => ⟨?_, h2⟩
    rw [h1]
    show Ending.returned (Value.string ⟨(Lib.repeatL [48] (7 - R.length)).toArray⟩) = _
    rw [repeatL_zero]
  have HTR : Hid (∀ W, Calls Tryz.prog 115 #[.string (txt (List.replicate (7 - R.length) 48) ++ txt R), .string ⟨#[48]⟩] W fun e w' => e = .returned (.string (txt (restL r))) ∧ w' = W) := fun W =>
    (Tryz.strings_TrimRight_one (txt (List.replicate (7 - R.length) 48) ++ txt R) 48 (by decide) W (by rw [txt_append, txt_size, List.length_append, List.length_replicate]; omega)).mono fun e w' ⟨h1, h2⟩ => ⟨by
      rw [h1, txt_append, restL, ← HR.out]
      show Ending.returned (Value.string ⟨(Lib.trimRightB (List.replicate (7 - R.length) 48 ++ R) 48).toArray⟩) = _
      rw [trimR_lib], h2⟩
  have hrest : (restL r).length ≤ 7 := by
    rw [restL, ← hR]
    have := trimR_le (List.replicate (7 - R.length) 48 ++ R)
    rw [List.length_append, List.length_replicate] at this
    omega
  have Hr := Lib.hid hr
  have Hq := Lib.hid hq
  clear hb hh hu hq hr hQ hR htab
  by_cases hr0 : r = 0
  · have d1 : ((u : Int) % 10000000 == 0) = true := by rw [beq_iff_eq]; have := Hr.out; omega
    have Hv2 : Hid (printL n = ((if n < 0 then [45] else []) ++ (Q ++ []), 0)) := by show _ = _; rw [Hv.out, if_pos hr0]
    clear hr0
    by_cases hneg : n < 0
    · have d2 : decide (n < 0) = true := by rw [decide_eq_true_iff]; exact hneg
      have Hv3 : Hid (printL n = ([45] ++ Q, 0)) := by show _ = _; rw [Hv2.out, if_pos hneg, List.append_nil]
      go_enter Tryz.func75, Tryz.ntmps75
      go_wp2_with fail
      refine (HH.out _).mono ?_
      rintro e w0 ⟨rfl, rfl⟩
      go_wp2_with fail
      refine (HSZ.out _).mono ?_
      rintro e w0 ⟨rfl, rfl⟩
      go_wp2_with fail
      refine (HF1.out _ (Below.refl _ _)).mono ?_
      rintro e w1 ⟨rfl, E1⟩
      go_wp2_with fail
      go_ret2
      exact ⟨by rw [Hv3.out]; show Ending.returned (Value.tuple #[Value.string (txt [45] ++ txt Q), _]) = _; rw [txt_append]; rfl, E1⟩
    · have d2 : decide (n < 0) = false := by rw [decide_eq_false_iff_not]; exact hneg
      have Hv3 : Hid (printL n = (Q, 0)) := by show _ = _; rw [Hv2.out, if_neg hneg, List.append_nil]; rfl
      go_enter Tryz.func75, Tryz.ntmps75
      go_wp2_with fail
      refine (HH.out _).mono ?_
      rintro e w0 ⟨rfl, rfl⟩
      go_wp2_with fail
      refine (HSZ.out _).mono ?_
      rintro e w0 ⟨rfl, rfl⟩
      go_wp2_with fail
      refine (HF1.out _ (Below.refl _ _)).mono ?_
      rintro e w1 ⟨rfl, E1⟩
      go_wp2_with fail
      go_ret2
      exact ⟨by rw [Hv3.out] <;> rfl, E1⟩
  · have d1 : ((u : Int) % 10000000 == 0) = false := by rw [beq_eq_false_iff_ne]; have := Hr.out; omega
    have Hv2 : Hid (printL n = ((if n < 0 then [45] else []) ++ (Q ++ ([46] ++ restL r)), 0)) := by show _ = _; rw [Hv.out, if_neg hr0]
    clear hr0
    obtain ⟨Z, hZ⟩ : ∃ Z, Z = restL r := ⟨_, rfl⟩
    rw [← hZ] at HTR hrest Hv2
    clear hZ
    by_cases hneg : n < 0
    · have d2 : decide (n < 0) = true := by rw [decide_eq_true_iff]; exact hneg
      have Hv3 : Hid (printL n = ([45] ++ (Q ++ ([46] ++ Z)), 0)) := by show _ = _; rw [Hv2.out, if_pos hneg]
      go_enter Tryz.func75, Tryz.ntmps75
      go_wp2_with fail
      refine (HH.out _).mono ?_
      rintro e w0 ⟨rfl, rfl⟩
      go_wp2_with fail
      refine (HSZ.out _).mono ?_
      rintro e w0 ⟨rfl, rfl⟩
      go_wp2_with fail
      refine (HF1.out _ (Below.refl _ _)).mono ?_
      rintro e w1 ⟨rfl, E1⟩
      go_wp2_with fail
      refine (HF2.out _ E1).mono ?_
      rintro e w2 ⟨rfl, E2⟩
      go_wp2_with fail
      refine (HRP.out _).mono ?_
      rintro e w3 ⟨rfl, E3⟩
      go_wp2_with fail
      refine (HTR.out _).mono ?_
      rintro e w4 ⟨rfl, rfl⟩
      go_wp2_with fail
      go_ret2
      exact ⟨by rw [Hv3.out]; show Ending.returned (Value.tuple #[Value.string (txt [45] ++ (txt Q ++ (txt [46] ++ txt Z))), _]) = _; rw [txt_append, txt_append, txt_append]; rfl, Ext.trans' E1 (Ext.trans' E2 E3)⟩
    · have d2 : decide (n < 0) = false := by rw [decide_eq_false_iff_not]; exact hneg
      have Hv3 : Hid (printL n = (Q ++ ([46] ++ Z), 0)) := by show _ = _; rw [Hv2.out, if_neg hneg]; rfl
      go_enter Tryz.func75, Tryz.ntmps75
      go_wp2_with fail
      refine (HH.out _).mono ?_
      rintro e w0 ⟨rfl, rfl⟩
      go_wp2_with fail
      refine (HSZ.out _).mono ?_
      rintro e w0 ⟨rfl, rfl⟩
      go_wp2_with fail
      refine (HF1.out _ (Below.refl _ _)).mono ?_
      rintro e w1 ⟨rfl, E1⟩
      go_wp2_with fail
      refine (HF2.out _ E1).mono ?_
      rintro e w2 ⟨rfl, E2⟩
      go_wp2_with fail
      refine (HRP.out _).mono ?_
      rintro e w3 ⟨rfl, E3⟩
      go_wp2_with fail
      refine (HTR.out _).mono ?_
      rintro e w4 ⟨rfl, rfl⟩
      go_wp2_with fail
      go_ret2
      exact ⟨by rw [Hv3.out]; show Ending.returned (Value.tuple #[Value.string (txt Q ++ (txt [46] ++ txt Z)), _]) = _; rw [txt_append, txt_append]; rfl, Ext.trans' E1 (Ext.trans' E2 E3)⟩
end Go.Proofs.YtgollffmdpejiaaGreatDoor
namespace Go.Proofs.YtgollffmdpejiaaGreatDoor
open Go.RowKit Go.TL
set_option maxRecDepth 100000

theorem _root_.Go.TL.Gives.on {P : Program} {f : FuncId} {args : Array Value} {g : Gh} {L : List Ent} {v : Value} (h : ∀ w, St g L w → Calls P f args w fun e w' => e = .returned v ∧ Below w.heap.size w w') : Gives P f args g L v :=
  .mk fun w hs => (h w hs).mono fun _ _ ⟨he, hw⟩ => ⟨he, hs.ext hw⟩
def GTabs (g : Gh) : Prop := ∀ L w, St g L w → Tabs w
theorem gtabs_of {W : World} (h : Tabs W) : GTabs (.of W) := fun L _ hs => h.on (hs.forget (L' := []) (List.nil_sublist L)).below
theorem nPrint_gives (n : Int) {g : Gh} {L : List Ent} (hg : GTabs g) (h0 : -9223372036854775808 ≤ n) (h1 : n ≤ 9223372036854775807) : Gives Tryz.prog 75 #[.int .i64 n] g L (.tuple #[str (printL n).1, .int .i64 (printL n).2]) :=
  .on fun w hs => print_any n w h0 h1 (hg L w hs)
end Go.Proofs.YtgollffmdpejiaaGreatDoor
