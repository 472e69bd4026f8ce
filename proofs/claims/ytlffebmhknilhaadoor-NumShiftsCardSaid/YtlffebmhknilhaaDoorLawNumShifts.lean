/-
  The walk of NumShifts: for whatever text the law answers true and turns nothing that was there.
-/
import Derived.Test.YtlffebmhknilhaaDoorShiftLaw
import Derived.Test.YtlffebmhknilhaaDoorRefScan
import Derived.Test.YtlffebmhknilhaaDoorAwake03
namespace Go.Proofs.YtlffebmhknilhaaDoor
open Go.RowKit

theorem parse_two (S X : ByteArray) (l x : List UInt8) (w : World) (hl : S.data.toList = l) (hx : X.data.toList = x) (h1 : S.size ≤ 1000) (h2 : X.size ≤ 1000) :
    Calls Tryd.prog 9 #[.string (S ++ X)] w fun e w' => e = .returned (.tuple #[.int .i64 (parseL (l ++ x)).1, .int .i64 (parseL (l ++ x)).2]) ∧ Ext w w' :=
  parse_any (S ++ X) (l ++ x) w (by rw [ByteArray.data_append, Array.toList_append, hl, hx]) (by rw [ByteArray.size_append]; omega)

set_option maxRecDepth 100000 in
set_option maxHeartbeats 8000000 in
theorem lawNumShifts_any (S : ByteArray) (l : List UInt8) (w : World) (hl : S.data.toList = l) (hS : S.size ≤ 9223372036854775807) (htab : Tabs w) :
    Calls Tryd.prog 6 #[.string S] w fun e w' => e = .returned (.bool true) ∧ Ext w w' := by
  have hln : l.length = S.size := by rw [← hl, Array.length_toList]; rfl
  by_cases hbig : 200 < S.size
  · have d1 : decide ((S.size : Int) > 200) = true := by rw [decide_eq_true_iff]; omega
    have d1' : decide ((200 : Int) < (S.size : Int)) = true := d1
    have d1n : decide (200 < S.size) = true := by rw [decide_eq_true_iff]; omega
    clear hl hln htab
    go_enter Tryd.func6, Tryd.ntmps6
    go_wp2_with fail
    go_ret
    exact ⟨rfl, Below.refl _ _⟩
  have d1 : decide ((S.size : Int) > 200) = false := by rw [decide_eq_false_iff_not]; omega
  have d1' : decide ((200 : Int) < (S.size : Int)) = false := d1
  have d1n : decide (200 < S.size) = false := by rw [decide_eq_false_iff_not]; omega
  have HSC := Lib.hid (scan_any S l w hl (by omega))
  have HAW : Hid (∀ W, Ext w W → Calls Tryd.prog 13 #[] W fun e w' => e = .returned (.bool true) ∧ Ext W w') := fun W x => awake03_any W (htab.on x)
  have hget : ∀ i (h : i < S.size), l[i]? = some (S[i]'h) := fun i h => by rw [← hl]; exact list_get h
  have HG := Lib.hid hget
  have Hln := Lib.hid hln
  have Hl := Lib.hid hl
  clear hl hln htab hget
  go_enter Tryd.func6, Tryd.ntmps6
  go_wp2_with fail
  refine HSC.out.mono ?_
  rintro e w1 ⟨rfl, E1⟩
  obtain ⟨z, hz⟩ : ∃ z, z = scanL l := ⟨_, rfl⟩
  rw [← hz]
  have Hz := Lib.hid hz
  clear hz HSC
  by_cases hsc : z = S.size
  rotate_left
  · have d2 : ((z : Int) == (S.size : Int)) = false := by rw [beq_eq_false_iff_ne]; omega
    have d2n : (z == S.size) = false := by rw [beq_eq_false_iff_ne]; exact hsc
    clear hsc
    go_wp2_with fail
    refine (HAW.out _ E1).mono ?_
    rintro e w2 ⟨rfl, E2⟩
    go_wp2_with fail
    go_ret
    exact ⟨rfl, Ext.trans' E1 E2⟩
  subst hsc
  by_cases hz0 : S.size = 0
  · have d3 : ((S.size : Int) == 0) = true := by rw [hz0]; rfl
    have d3n : (S.size == 0) = true := by rw [hz0]; rfl
    have Hz0 := Lib.hid hz0
    clear hz0
    go_wp2_with fail
    refine (HAW.out _ E1).mono ?_
    rintro e w2 ⟨rfl, E2⟩
    go_wp2_with fail
    go_ret
    exact ⟨rfl, Ext.trans' E1 E2⟩
  have d3 : ((S.size : Int) == 0) = false := by rw [beq_eq_false_iff_ne]; omega
  have d3n : (S.size == 0) = false := by rw [beq_eq_false_iff_ne]; exact hz0
  go_wp2_with fail
  go_loopw [3] (fun i wr => ∃ k : Nat, i = .int .i64 k ∧ k ≤ S.size ∧ wr = w1 ∧ Hid (plainB (l.take k) = true)) (fun i _ => S.size - (intOf i).toNat)
  case atStart => exact ⟨0, rfl, Nat.zero_le _, rfl, by show _ = _; simp [plainB]⟩
  case round =>
    obtain ⟨k, rfl, hk, rfl, hpl⟩ := hrel
    by_cases hlt : k < S.size
    · have t1 : decide ((k : Int) < (S.size : Int)) = true := by rw [decide_eq_true_iff]; omega
      have t1n : decide (k < S.size) = true := by rw [decide_eq_true_iff]; omega
      have hg := HG.out k hlt
      have b1 : (((S[k]'hlt).toNat : Int) == 101) = decide ((S[k]'hlt) = 101) := byte_eq (k := 101) (by omega)
      have b2 : (((S[k]'hlt).toNat : Int) == 69) = decide ((S[k]'hlt) = 69) := byte_eq (k := 69) (by omega)
      have b3 : (((S[k]'hlt).toNat : Int) == 46) = decide ((S[k]'hlt) = 46) := byte_eq (k := 46) (by omega)
      have hnext : plainB (l.take (k + 1)) = (plainB (l.take k) && !(decide ((S[k]'hlt) = 101) || decide ((S[k]'hlt) = 69) || decide ((S[k]'hlt) = 46))) := by
        obtain ⟨h2, h3⟩ := List.getElem?_eq_some_iff.1 hg
        rw [List.take_succ_eq_append_getElem h2, h3, plainB, List.all_append]
        simp [plainB]
      rw [hpl.out, Bool.true_and] at hnext
      by_cases h1 : (S[k]'hlt) = 101
      · rw [decide_eq_true h1] at b1
        clear hnext hg h1 b2 b3
        go_wp2_with fail
        refine (HAW.out _ E1).mono ?_
        rintro e w2 ⟨rfl, E2⟩
        go_wp2_with fail
        go_ret
        exact ⟨rfl, Ext.trans' E1 E2⟩
      by_cases h2 : (S[k]'hlt) = 69
      · rw [decide_eq_false h1] at b1
        rw [decide_eq_true h2] at b2
        clear hnext hg h1 h2 b3
        go_wp2_with fail
        refine (HAW.out _ E1).mono ?_
        rintro e w2 ⟨rfl, E2⟩
        go_wp2_with fail
        go_ret
        exact ⟨rfl, Ext.trans' E1 E2⟩
      by_cases h3 : (S[k]'hlt) = 46
      · rw [decide_eq_false h1] at b1
        rw [decide_eq_false h2] at b2
        rw [decide_eq_true h3] at b3
        clear hnext hg h1 h2 h3
        go_wp2_with fail
        refine (HAW.out _ E1).mono ?_
        rintro e w2 ⟨rfl, E2⟩
        go_wp2_with fail
        go_ret
        exact ⟨rfl, Ext.trans' E1 E2⟩
      rw [decide_eq_false h1] at b1
      rw [decide_eq_false h2] at b2
      rw [decide_eq_false h3] at b3
      rw [decide_eq_false h1, decide_eq_false h2, decide_eq_false h3] at hnext
      have Hn := Lib.hid hnext
      clear hnext hg h1 h2 h3
      go_wp2_with fail
      go_roundw
      case rel => exact ⟨k + 1, by go_num, by omega, trivial, by show _ = _; rw [Hn.out]; rfl⟩
      case measure => simp [intOf]; omega
    · obtain rfl : k = S.size := by omega
      have t1 : decide ((S.size : Int) < (S.size : Int)) = false := by rw [decide_eq_false_iff_not]; omega
      have hp := hpl.out
      rw [List.take_of_length_le (by rw [Hln.out]; exact Nat.le_refl _)] at hp
      have hlaw := shifts_law (s := l) (by rw [← Hz.out, Hln.out]) (fun e => by have := Hln.out; rw [e] at this; exact hz0 this.symm) hp (by rw [Hln.out]; omega)
      obtain ⟨L1, L2, L3⟩ := hlaw
      have Q1 := Lib.hid (fun W => parse_any S l W Hl.out (by omega))
      have Q2 := Lib.hid (fun W => parse_two S ⟨#[101, 48]⟩ l [101, 48] W Hl.out rfl (by omega) (by decide))
      have Q3 := Lib.hid (fun W => parse_two S ⟨#[46, 48, 48]⟩ l [46, 48, 48] W Hl.out rfl (by omega) (by decide))
      have Q4 := Lib.hid (fun W => parse_two S ⟨#[48, 69, 45, 49]⟩ l [48, 69, 45, 49] W Hl.out rfl (by omega) (by decide))
      rw [L1] at Q2
      rw [L2] at Q3
      obtain ⟨V, hV⟩ : ∃ V, V = parseL l := ⟨_, rfl⟩
      rw [← hV] at Q1 Q2 Q3 L3
      have HL3 := Lib.hid L3
      obtain ⟨V4, hV4⟩ : ∃ V4, V4 = parseL (l ++ [48, 69, 45, 49]) := ⟨_, rfl⟩
      rw [← hV4] at Q4
      have HV4 := Lib.hid hV4
      clear hp L1 L2 L3 hV hV4 hpl
      have hcat : S.size ≤ 200 := by omega
      go_wp2_with fail
      refine (Q1.out _).mono ?_
      rintro e w2 ⟨rfl, E2⟩
      go_wp2_with fail
      refine (Q2.out _).mono ?_
      rintro e w3 ⟨rfl, E3⟩
      go_wp2_with fail
      refine (Q3.out _).mono ?_
      rintro e w4 ⟨rfl, E4⟩
      go_wp2_with fail
      refine (Q4.out _).mono ?_
      rintro e w5 ⟨rfl, E5⟩
      have EE := Ext.trans' E1 (Ext.trans' E2 (Ext.trans' E3 (Ext.trans' E4 E5)))
      have hSl : S.toList = l := by rw [ByteArray.toList_eq]; exact Hl.out
      by_cases g1 : l = [48]
      · have b1 : (S.toList == [48]) = true := by rw [hSl, g1]; rfl
        clear hSl g1
        go_wp2_with fail
        refine (HAW.out _ EE).mono ?_
        rintro e w6 ⟨rfl, E6⟩
        go_wp2_with fail
        go_ret
        exact ⟨rfl, Ext.trans' EE E6⟩
      have b1 : (S.toList == [48]) = false := by rw [hSl, beq_eq_false_iff_ne]; exact g1
      by_cases g2 : l = [45, 48]
      · have b2 : (S.toList == [45, 48]) = true := by rw [hSl, g2]; rfl
        clear hSl g1 g2
        go_wp2_with fail
        refine (HAW.out _ EE).mono ?_
        rintro e w6 ⟨rfl, E6⟩
        go_wp2_with fail
        go_ret
        exact ⟨rfl, Ext.trans' EE E6⟩
      have b2 : (S.toList == [45, 48]) = false := by rw [hSl, beq_eq_false_iff_ne]; exact g2
      obtain rfl : V4 = V := HV4.out.trans (HL3.out.elim (fun h => absurd h (fun h => h.elim g1 g2)) id)
      clear hSl g1 g2
      go_wp2_with fail
      refine (HAW.out _ EE).mono ?_
      rintro e w6 ⟨rfl, E6⟩
      go_wp2_with fail
      go_ret
      exact ⟨rfl, Ext.trans' EE E6⟩
end Go.Proofs.YtlffebmhknilhaaDoor
