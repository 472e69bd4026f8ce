/-
  The walk of NumBack: for whatever numbers the law answers true and turns nothing that was there.
-/
import Derived.Test.YtlffebmhknilhaaDoorNumBackLaw
import Derived.Test.YtlffebmhknilhaaDoorAwake03
namespace Go.Proofs.YtlffebmhknilhaaDoor
open Go.RowKit

theorem print_inj {a b : Int} (ha : ¬ (a < -9000000000000000000 ∨ 9000000000000000000 < a)) (hb : ¬ (b < -9000000000000000000 ∨ 9000000000000000000 < b)) (h : (printL a).1 = (printL b).1) : a = b := by
  have h1 := print_back ha
  rw [h, print_back hb] at h1
  exact (Prod.mk.inj h1).1.symm
theorem printL_err {n : Int} : (printL n).2 = if n < -9000000000000000000 ∨ 9000000000000000000 < n then 2 else 0 := by
  unfold printL; split <;> rfl
theorem printL_len (n : Int) (h0 : -9223372036854775808 ≤ n) (h1 : n ≤ 9223372036854775807) : (printL n).1.length ≤ 100 := by
  unfold printL
  split
  · simp
  · have hq : (Lib.decDigits (n.natAbs / 10000000)).length ≤ 20 := dec_len (by omega) (by omega)
    have hr := rest_val (r := n.natAbs % 10000000) (by omega)
    simp only [List.length_append]
    split <;> split <;> simp <;> omega

set_option maxRecDepth 100000 in
set_option maxHeartbeats 8000000 in
theorem lawNumBack_any (a b : Int) (w : World) (a0 : -9223372036854775808 ≤ a) (a1 : a ≤ 9223372036854775807) (b0 : -9223372036854775808 ≤ b) (b1 : b ≤ 9223372036854775807) (htab : Tabs w) :
    Calls Tryd.prog 5 #[.int .i64 a, .int .i64 b] w fun e w' => e = .returned (.bool true) ∧ Ext w w' := by
  have HA : Hid (∀ W, Ext w W → Calls Tryd.prog 14 #[.int .i64 a] W fun e w' => e = .returned (.tuple #[.string (txt (printL a).1), .int .i64 (printL a).2]) ∧ Ext W w') := fun W x => print_any a W a0 a1 (htab.on x)
  have HB : Hid (∀ W, Ext w W → Calls Tryd.prog 14 #[.int .i64 b] W fun e w' => e = .returned (.tuple #[.string (txt (printL b).1), .int .i64 (printL b).2]) ∧ Ext W w') := fun W x => print_any b W b0 b1 (htab.on x)
  have HAW : Hid (∀ W, Ext w W → Calls Tryd.prog 13 #[] W fun e w' => e = .returned (.bool true) ∧ Ext W w') := fun W x => awake03_any W (htab.on x)
  have hla := printL_len a a0 a1
  obtain ⟨s, hs⟩ : ∃ s, s = (printL a).1 := ⟨_, rfl⟩
  obtain ⟨t, ht⟩ : ∃ t, t = (printL b).1 := ⟨_, rfl⟩
  rw [← hs] at HA hla
  rw [← ht] at HB
  rw [printL_err] at HA HB
  have Hs := Lib.hid hs
  have Ht := Lib.hid ht
  clear hs ht htab
  by_cases hha : a < -9000000000000000000 ∨ 9000000000000000000 < a
  · rw [if_pos hha] at HA
    obtain ⟨f, hf⟩ : ∃ f : Int, f = if b < -9000000000000000000 ∨ 9000000000000000000 < b then 2 else 0 := ⟨_, rfl⟩
    rw [← hf] at HB
    clear hf
    by_cases h2 : 9000000000000000000 < a
    · have c1 : decide (a > 9000000000000000000) = true := by rw [decide_eq_true_iff]; exact h2
      have c1' : decide (9000000000000000000 < a) = true := c1
      clear hha h2
      go_enter Tryd.func5, Tryd.ntmps5
      go_wp2_with fail
      refine (HA.out _ (Below.refl _ _)).mono ?_
      rintro e w1 ⟨rfl, E1⟩
      go_wp2_with fail
      refine (HB.out _ E1).mono ?_
      rintro e w2 ⟨rfl, F2⟩
      have E2 := Ext.trans' E1 F2
      go_wp2_with fail
      refine (HAW.out _ E2).mono ?_
      rintro e w3 ⟨rfl, F3⟩
      go_wp2_with fail
      go_ret
      exact ⟨rfl, Ext.trans' E2 F3⟩
    · have h3 : a < -9000000000000000000 := hha.elim id (fun h => absurd h h2)
      have c1 : decide (a > 9000000000000000000) = false := by rw [decide_eq_false_iff_not]; exact h2
      have c1' : decide (9000000000000000000 < a) = false := c1
      have c2 : decide (a < -9000000000000000000) = true := by rw [decide_eq_true_iff]; exact h3
      clear hha h2 h3
      go_enter Tryd.func5, Tryd.ntmps5
      go_wp2_with fail
      refine (HA.out _ (Below.refl _ _)).mono ?_
      rintro e w1 ⟨rfl, E1⟩
      go_wp2_with fail
      refine (HB.out _ E1).mono ?_
      rintro e w2 ⟨rfl, F2⟩
      have E2 := Ext.trans' E1 F2
      go_wp2_with fail
      refine (HAW.out _ E2).mono ?_
      rintro e w3 ⟨rfl, F3⟩
      go_wp2_with fail
      go_ret
      exact ⟨rfl, Ext.trans' E2 F3⟩
  · rw [if_neg hha] at HA
    have HPA := Lib.hid (fun W => parse_any (txt s) s W rfl (by rw [txt_size]; omega))
    have hpb : parseL s = (a, 0) := by rw [Hs.out]; exact print_back hha
    rw [hpb] at HPA
    have HSC := Lib.hid (fun W => scan_any (txt s) s W rfl (by rw [txt_size]; omega))
    have hsc : scanL s = s.length := by rw [Hs.out]; exact print_scan hha
    rw [hsc] at HSC
    have Hha := Lib.hid hha
    clear hpb hsc hha
    by_cases hhb : b < -9000000000000000000 ∨ 9000000000000000000 < b
    · rw [if_pos hhb] at HB
      clear hhb
      go_enter Tryd.func5, Tryd.ntmps5
      go_wp2_with fail
      refine (HA.out _ (Below.refl _ _)).mono ?_
      rintro e w1 ⟨rfl, E1⟩
      go_wp2_with fail
      refine (HB.out _ E1).mono ?_
      rintro e w2 ⟨rfl, F2⟩
      have E2 := Ext.trans' E1 F2
      go_wp2_with fail
      refine (HPA.out _).mono ?_
      rintro e w3 ⟨rfl, F3⟩
      have E3 := Ext.trans' E2 F3
      go_wp2_with fail
      refine (HSC.out _).mono ?_
      rintro e w4 ⟨rfl, F4⟩
      have E4 := Ext.trans' E3 F4
      go_wp2_with fail
      refine (HAW.out _ E4).mono ?_
      rintro e w5 ⟨rfl, F5⟩
      go_wp2_with fail
      go_ret
      exact ⟨rfl, Ext.trans' E4 F5⟩
    · rw [if_neg hhb] at HB
      have hst : (s == t) = (a == b) := by
        rw [Bool.eq_iff_iff, beq_iff_eq, beq_iff_eq, Hs.out, Ht.out]
        exact ⟨fun h => print_inj Hha.out hhb h, fun h => by rw [h]⟩
      obtain ⟨X, hX⟩ : ∃ X : Bool, X = (a == b) := ⟨_, rfl⟩
      rw [← hX] at hst
      have hX2 := hX.symm
      clear hX hhb
      go_enter Tryd.func5, Tryd.ntmps5
      go_wp2_with fail
      refine (HA.out _ (Below.refl _ _)).mono ?_
      rintro e w1 ⟨rfl, E1⟩
      go_wp2_with fail
      refine (HB.out _ E1).mono ?_
      rintro e w2 ⟨rfl, F2⟩
      have E2 := Ext.trans' E1 F2
      go_wp2_with fail
      refine (HPA.out _).mono ?_
      rintro e w3 ⟨rfl, F3⟩
      have E3 := Ext.trans' E2 F3
      go_wp2_with fail
      refine (HSC.out _).mono ?_
      rintro e w4 ⟨rfl, F4⟩
      have E4 := Ext.trans' E3 F4
      cases X
      all_goals
        go_wp2_with fail
        refine (HAW.out _ E4).mono ?_
        rintro e w5 ⟨rfl, F5⟩
        go_wp2_with fail
        go_ret
        exact ⟨rfl, Ext.trans' E4 F5⟩
end Go.Proofs.YtlffebmhknilhaaDoor
