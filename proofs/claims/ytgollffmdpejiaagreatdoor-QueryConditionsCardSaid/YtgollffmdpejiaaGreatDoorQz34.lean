/-
  The walks of stem's plain, above and of the conditions in Stem; the tables.
-/
import Derived.Test.YtgollffmdpejiaaGreatDoorQz3
import Derived.Test.YtgollffmdpejiaaGreatDoorQz33
import Derived.Test.YtgollffmdpejiaaGreatDoorQz23
import Derived.Test.YtgollffmdpejiaaGreatDoorQz13
import Derived.Test.YtgollffmdpejiaaGreatDoorQz7
namespace Go.Proofs.YtgollffmdpejiaaGreatDoor
open Go.RowKit Go.TL
set_option maxRecDepth 100000

theorem dec_far (x : UInt8) (r : List UInt8) (h : 128 ≤ x.toNat) : 128 ≤ (Lib.decodeL (x :: r)).1 := by
  rcases decode_sign x r with ⟨_, h1⟩ | ⟨h0, _, _⟩
  · rw [h1]; decide
  · obtain ⟨c, k, he, _, _, _, _, _, _, hh⟩ := decode_bytes x r h0
    rw [he]; exact hh h
set_option maxHeartbeats 16000000 in
theorem plain_gives (s : List UInt8) (g : Gh) (L : List Ent) (_hs : s.length ≤ 1000000) : Gives Tryz.prog 305 #[str s] g L (.bool (plainB s)) := by
  refine .of (Does.of1 Tryz.func305 rfl Tryz.ntmps305 rfl ?_)
  unfold plainB
  obtain ⟨R, hR⟩ : ∃ R, R = (s.drop 0).all fun c => decide (97 ≤ c.toNat ∧ c.toNat ≤ 122) := ⟨_, rfl⟩
  rw [show (s.all fun c => decide (97 ≤ c.toNat ∧ c.toNat ≤ 122)) = R from hR.symm]
  repeat' (first
    | refine wkQ ?_
    | refine wkV ?_
    | ((with_reducible apply TL.range_str); (· rfl); (· rfl); intro _)
    | refine stS ?_ | (refine stB ?_; intro _) | (refine stC ?_; constructor <;> intro _))
  rename_i b6
  refine TC.loopL (fun j : Nat => j ≤ s.length ∧ ((s.drop j).all fun c => decide (97 ≤ c.toNat ∧ c.toNat ≤ 122)) = R) (fun j => s.length - j) (fun j _ => [(6, .pointer (some ⟨b6, 0, none⟩)), (0, str s)]) (fun j => .obj b6 (.stringIter ⟨s.toArray⟩ j) :: L) 0 ⟨Nat.zero_le _, hR.symm⟩ subA selF ?_
  clear hR
  rintro j ⟨hj, hI⟩
  try dsimp only at hj hI ⊢
  by_cases hlt : j < s.length
  · obtain ⟨x, u, hxu⟩ : ∃ x u, s.drop j = x :: u := ⟨_, _, List.drop_eq_getElem_cons hlt⟩
    have hd1 : s.drop (j + 1) = u := by
      have := congrArg (List.drop 1) hxu
      simpa [List.drop_drop, Nat.add_comm] using this
    have hdec := dec_at s j
    rw [hxu] at hdec hI
    rw [List.all_cons, ← hd1] at hI
    by_cases h1 : 97 ≤ x.toNat ∧ x.toNat ≤ 122
    · rw [decide_eq_true h1, Bool.true_and] at hI
      rw [dec_small x u (by omega)] at hdec
      have HD := Hn.mk hdec
      clear hdec hxu hd1
      repeat' (first
    | refine wkQ ?_
    | (refine wkA 11 (v := .bool false) ?_ ?_; · exact Y.lss_b (decide_eq_false (by dsimp only; omega)) rfl rfl)
    | (refine wkA 14 (v := .bool false) ?_ ?_; · exact Y.gtr_b (decide_eq_false (by dsimp only; omega)) rfl rfl)
    | refine wkV ?_
    | ((with_reducible apply TL.next_str); (· rfl); (· exact pkA); (· rfl); (all_goals (intro hnx; try (exfalso; omega))); rw [HD.out]; clear HD hnx)
    | refine stS ?_ | (refine stB ?_; intro _) | (refine stC ?_; constructor <;> intro _))
      refine TQ.round (j + 1) ?_ ?_ rfl subA selF
      · exact ⟨by omega, hI⟩
      · show s.length - (j + 1) < s.length - j
        omega
    · rw [decide_eq_false h1, Bool.false_and] at hI
      subst hI
      obtain ⟨c, m, hcm, hc⟩ : ∃ c m, Lib.decodeL (x :: u) = (c, m) ∧ (c < 97 ∨ 122 < c) := by
        by_cases h2 : x.toNat < 128
        · exact ⟨_, _, dec_small x u h2, by omega⟩
        · have := dec_far x u (by omega)
          exact ⟨(Lib.decodeL (x :: u)).1, (Lib.decodeL (x :: u)).2, rfl, .inr (Nat.lt_of_lt_of_le (by decide) this)⟩
      rw [hcm] at hdec
      have HD := Hn.mk hdec
      clear hdec hxu hd1 hcm
      by_cases h3 : c < 97
      · repeat' (first
    | refine wkQ ?_
    | (refine wkA 11 (v := .bool true) ?_ ?_; · exact Y.lss_b (decide_eq_true (by dsimp only; omega)) rfl rfl)
    | refine wkV ?_
    | ((with_reducible apply TL.next_str); (· rfl); (· exact pkA); (· rfl); (all_goals (intro hnx; try (exfalso; omega))); rw [HD.out]; clear HD hnx)
    | refine stS ?_ | (refine stB ?_; intro _) | (refine stC ?_; constructor <;> intro _))
        refine TQ.endR1 (L' := L) Tryz.results305 rvA rfl (.refl _) ?_ selF
        exact ⟨by rw [Bool.false_and], rfl, rfl⟩
      · repeat' (first
    | refine wkQ ?_
    | (refine wkA 11 (v := .bool false) ?_ ?_; · exact Y.lss_b (decide_eq_false (by dsimp only; omega)) rfl rfl)
    | (refine wkA 14 (v := .bool true) ?_ ?_; · exact Y.gtr_b (decide_eq_true (by dsimp only; omega)) rfl rfl)
    | refine wkV ?_
    | ((with_reducible apply TL.next_str); (· rfl); (· exact pkA); (· rfl); (all_goals (intro hnx; try (exfalso; omega))); rw [HD.out]; clear HD hnx)
    | refine stS ?_ | (refine stB ?_; intro _) | (refine stC ?_; constructor <;> intro _))
        refine TQ.endR1 (L' := L) Tryz.results305 rvA rfl (.refl _) ?_ selF
        exact ⟨by rw [Bool.false_and], rfl, rfl⟩
  · obtain rfl : j = s.length := by omega
    rw [List.drop_eq_nil_of_le (Nat.le_refl _)] at hI
    have hI : R = true := hI.symm
    subst hI
    repeat' (first
    | refine wkQ ?_
    | (refine wkA 18 (v := .bool (decide (3 ≤ s.length))) ?_ ?_; · exact Y.geq_b (by rw [decide_eq_decide]; omega) rfl rfl)
    | refine wkV ?_
    | ((with_reducible apply TL.next_str); (· rfl); (· exact pkA); (· rfl); (all_goals (intro hnx; try (exfalso; omega))); clear hnx)
    | refine stS ?_ | (refine stB ?_; intro _) | (refine stC ?_; constructor <;> intro _))
    refine TQ.endR1 (L' := L) Tryz.results305 rvA rfl (.refl _) ?_ selF
    exact ⟨by rw [Bool.true_and], rfl, rfl⟩
set_option maxHeartbeats 4000000 in
theorem stemOne_gives (a e : List UInt8) (g : Gh) (L : List Ent) (hs : a.length ≤ 1000000) (ha : ascB a) : Gives Tryz.prog 310 #[str a, str e] g L (.bool (voicedL a)) := by
  refine .of (Does.of2 Tryz.func310 rfl Tryz.ntmps310 rfl ?_)
  have V := fun L => voiced_gives a g L hs ha
  repeat' (first
    | refine wkQ ?_
    | refine wkV ?_
    | refine wkD (V _) ?_
    | refine stS ?_ | (refine stB ?_; intro _) | (refine stC ?_; constructor <;> intro _))
  refine TQ.endR1 (L' := L) Tryz.results310 rvA rfl (.refl _) ?_ selF
  exact ⟨rfl, rfl, rfl⟩
set_option maxHeartbeats 8000000 in
theorem stemTwo_gives (a e : List UInt8) (g : Gh) (L : List Ent) (hs : a.length ≤ 1000000) (ha : ascB a) : Gives Tryz.prog 314 #[str a, str e] g L (.bool (mayI a e)) := by
  refine .of (Does.of2 Tryz.func314 rfl Tryz.ntmps314 rfl ?_)
  have M := fun L => measure_gives a g L hs ha
  have S1 := fun L => hasSuffix_gives a [115] g L (by omega) (by simp)
  have S2 := fun L => hasSuffix_gives a [116] g L (by omega) (by simp)
  unfold mayI
  generalize measL a = m at *
  generalize sufB a [115] = s1 at *
  generalize sufB a [116] = s2 at *
  by_cases h1 : 1 < m
  case neg =>
    rw [decide_eq_false h1, Bool.false_and]
    repeat' (first
    | refine wkQ ?_
    | (refine wkA 7 (v := .bool false) ?_ ?_; · exact Y.gtr_b (decide_eq_false (by omega)) rfl rfl)
    | refine wkV ?_
    | refine wkD (M _) ?_
    | refine stS ?_ | (refine stB ?_; intro _) | (refine stC ?_; constructor <;> intro _))
    refine TQ.endR1 (L' := L) Tryz.results314 rvA rfl (.refl _) ?_ selF
    exact ⟨rfl, rfl, rfl⟩
  rw [decide_eq_true h1, Bool.true_and]
  by_cases h2 : e = [105, 111, 110]
  case neg =>
    rw [decide_eq_false h2]
    repeat' (first
    | refine wkQ ?_
    | (refine wkA 7 (v := .bool true) ?_ ?_; · exact Y.gtr_b (decide_eq_true (by omega)) rfl rfl)
    | (refine wkA 10 (v := .bool true) ?_ ?_; · exact Y.neq_is (by rw [decide_eq_false h2]; rfl) rfl rfl)
    | refine wkV ?_
    | refine wkD (M _) ?_
    | refine stS ?_ | (refine stB ?_; intro _) | (refine stC ?_; constructor <;> intro _))
    refine TQ.endR1 (L' := L) Tryz.results314 rvA rfl (.refl _) ?_ selF
    exact ⟨rfl, rfl, rfl⟩
  rw [decide_eq_true h2]
  cases s1 with
  | true =>
    repeat' (first
    | refine wkQ ?_
    | (refine wkA 7 (v := .bool true) ?_ ?_; · exact Y.gtr_b (decide_eq_true (by omega)) rfl rfl)
    | (refine wkA 10 (v := .bool false) ?_ ?_; · exact Y.neq_is (by rw [decide_eq_true h2]; rfl) rfl rfl)
    | refine wkV ?_
    | refine wkD (M _) ?_
    | refine wkD (S1 _) ?_
    | refine stS ?_ | (refine stB ?_; intro _) | (refine stC ?_; constructor <;> intro _))
    refine TQ.endR1 (L' := L) Tryz.results314 rvA rfl (.refl _) ?_ selF
    exact ⟨rfl, rfl, rfl⟩
  | false =>
    repeat' (first
    | refine wkQ ?_
    | (refine wkA 7 (v := .bool true) ?_ ?_; · exact Y.gtr_b (decide_eq_true (by omega)) rfl rfl)
    | (refine wkA 10 (v := .bool false) ?_ ?_; · exact Y.neq_is (by rw [decide_eq_true h2]; rfl) rfl rfl)
    | refine wkV ?_
    | refine wkD (M _) ?_
    | refine wkD (S1 _) ?_
    | refine wkD (S2 _) ?_
    | refine stS ?_ | (refine stB ?_; intro _) | (refine stC ?_; constructor <;> intro _))
    refine TQ.endR1 (L' := L) Tryz.results314 rvA rfl (.refl _) ?_ selF
    exact ⟨rfl, rfl, rfl⟩
theorem aboveOne_gives (a e : List UInt8) (b n : Nat) (g : Gh) (L : List Ent) (hs : a.length ≤ 1000000) (ha : ascB a) (_hb : g.cell b 0 = some (.int .i64 (n : Nat))) : Gives Tryz.prog 336 #[str a, str e, .pointer (some ⟨b, 0, none⟩)] g L (.bool (decide (n < measL a))) := by
  refine .of (Does.of3 Tryz.func336 rfl Tryz.ntmps336 rfl ?_)
  have M := fun L => measure_gives a g L hs ha
  generalize measL a = m at *
  have b0 : decide ((n : Int) < (m : Nat)) = decide (n < m) := by rw [decide_eq_decide]; omega
  generalize decide (n < m) = d at *
  repeat' (first
    | refine wkQ ?_
    | refine wkD (M _) ?_
    | ((with_reducible apply TA.takeN 0); (· rfl); (· decide +kernel); (· rfl); (· first | exact Y.gtr_b b0 rfl rfl | exact yW); (· decide +kernel); (· decide +kernel); (· rfl); (· exact fun _ _ _ h => h); (· rfl))
    | ((with_reducible apply TA.takeN 1); (· rfl); (· decide +kernel); (· rfl); (· first | exact Y.gtr_b b0 rfl rfl | exact yW); (· decide +kernel); (· decide +kernel); (· rfl); (· exact fun _ _ _ h => h); (· rfl))
    | ((with_reducible apply TA.takeN 2); (· rfl); (· decide +kernel); (· rfl); (· first | exact Y.gtr_b b0 rfl rfl | exact yW); (· decide +kernel); (· decide +kernel); (· rfl); (· exact fun _ _ _ h => h); (· rfl))
    | ((with_reducible apply TA.takeN 3); (· rfl); (· decide +kernel); (· rfl); (· first | exact Y.gtr_b b0 rfl rfl | exact yW); (· decide +kernel); (· decide +kernel); (· rfl); (· exact fun _ _ _ h => h); (· rfl))
    | ((with_reducible apply TA.take_gN 0); (· rfl); (· decide +kernel); (· rfl); (· rfl); (· rfl); (· (first | exact Y.gtr_b b0 rfl rfl | exact yW)); (· decide +kernel); (· decide +kernel); (· rfl); (· exact fun _ _ _ h => h); (· rfl))
    | ((with_reducible apply TA.take_gN 1); (· rfl); (· decide +kernel); (· rfl); (· rfl); (· rfl); (· (first | exact Y.gtr_b b0 rfl rfl | exact yW)); (· decide +kernel); (· decide +kernel); (· rfl); (· exact fun _ _ _ h => h); (· rfl))
    | ((with_reducible apply TA.take_gN 2); (· rfl); (· decide +kernel); (· rfl); (· rfl); (· rfl); (· (first | exact Y.gtr_b b0 rfl rfl | exact yW)); (· decide +kernel); (· decide +kernel); (· rfl); (· exact fun _ _ _ h => h); (· rfl))
    | ((with_reducible apply TA.take_gN 3); (· rfl); (· decide +kernel); (· rfl); (· rfl); (· rfl); (· (first | exact Y.gtr_b b0 rfl rfl | exact yW)); (· decide +kernel); (· decide +kernel); (· rfl); (· exact fun _ _ _ h => h); (· rfl))
    | refine wkX0 ?_
    | refine wkX1 ?_
    | refine wkX2 ?_
    | refine wkX3 ?_
    | refine wkO0 ?_
    | refine wkO1 ?_
    | refine wkO2 ?_
    | refine wkO3 ?_
    | refine TQ.any leF selF ?_
    | refine TC.region_any 5 (_) (by kernel_rfl) rfl selF ?_ | refine TA.done (by decide +kernel) ?_ | refine TQ.any_panic ?_
    | refine wkV ?_
    | refine wkM ?_
    | refine stS ?_ | (refine stB ?_; intro _) | (refine stC ?_; constructor <;> intro _)
    | refine wkW ?_)
  refine TQ.endR1 (L' := L) Tryz.results336 rvA rfl (.refl _) ?_ selF
  exact ⟨rfl, rfl, rfl⟩
set_option maxHeartbeats 4000000 in
theorem above_does (n : Nat) (g : Gh) (L : List Ent) : Does Tryz.prog 313 #[.int .i64 (n : Nat)] g L (fun e g' L' => ∃ b, e = .returned (.func (.func 336) #[] [Value.pointer (some ⟨b, 0, none⟩)].toArray) ∧ L' = L ∧ g'.cell b 0 = some (.int .i64 (n : Nat))) := by
  refine Does.of1 Tryz.func313 rfl Tryz.ntmps313 rfl ?_
  repeat' (first
    | refine wkQ ?_
    | ((with_reducible apply TL.box_keep (d := 1)); (· rfl); (· first | exact cells_one rfl | rfl); (· rfl); (· exact Nat.le_of_ble_eq_true rfl); intro b g1 h1 hc)
    | (refine wkA 3 (v := .func (.func 336) #[] [Value.pointer (some ⟨_, 0, none⟩)].toArray) ?_ ?_; · exact Y.make_func rfl)
    | refine wkV ?_
    | refine stS ?_ | (refine stB ?_; intro _) | (refine stC ?_; constructor <;> intro _))
  refine TQ.endR1 (L' := L) Tryz.results313 rvA rfl h1 ?_ selF
  exact ⟨_, rfl, rfl, hc 0 _ rfl⟩
set_option maxHeartbeats 8000000 in
theorem tables_gives (g : Gh) (L : List Ent) : Gives Tryz.prog 312 #[] g L (.agg [str tx_ru2, str tx_ru3, str tx_ru4].toArray) := by
  refine .of (Does.of0 Tryz.func312 rfl Tryz.ntmps312 rfl ?_)
  repeat' (first
    | refine wkQ ?_
    | (refine wkA 1 (v := .agg [str tx_ru2, str tx_ru3, str tx_ru4].toArray) ?_ ?_; · exact Y.build_three rfl rfl rfl rfl rfl rfl)
    | refine wkV ?_
    | refine stS ?_ | (refine stB ?_; intro _) | (refine stC ?_; constructor <;> intro _))
  refine TQ.endR1 (L' := L) Tryz.results312 rvA rfl (.refl _) ?_ selF
  exact ⟨rfl, rfl, rfl⟩
end Go.Proofs.YtgollffmdpejiaaGreatDoor
