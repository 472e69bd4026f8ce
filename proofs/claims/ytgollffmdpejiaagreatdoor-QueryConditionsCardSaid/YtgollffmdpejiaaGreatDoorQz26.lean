/-
  The walks of strings.Contains at one byte, stem's alike and closed.
-/
import Derived.Test.YtgollffmdpejiaaGreatDoorQz3
import Derived.Test.YtgollffmdpejiaaGreatDoorQz25
import Derived.Test.YtgollffmdpejiaaGreatDoorQz0
namespace Go.Proofs.YtgollffmdpejiaaGreatDoor
open Go.RowKit Go.TL
set_option maxRecDepth 100000

theorem idxB_nonneg : ∀ (l : List UInt8) (c : UInt8), decide (0 ≤ Lib.indexByte l c) = decide (c ∈ l) ∧ -1 ≤ Lib.indexByte l c
  | [], c => by rw [Lib.indexByte]; simp
  | b :: l, c => by
    have ⟨h1, h2⟩ := idxB_nonneg l c
    rw [Lib.indexByte]
    by_cases hb : b = c
    · subst hb; simp
    · have hb' : (b == c) = false := by simpa using hb
      have hcb : ¬ c = b := fun h => hb h.symm
      rw [hb']
      by_cases h0 : Lib.indexByte l c = -1
      · rw [h0] at h1 ⊢
        simp at h1 ⊢
        exact ⟨hcb, h1⟩
      · have h3 : 0 ≤ Lib.indexByte l c := by omega
        have h4 : (Lib.indexByte l c == -1) = false := by simpa using h0
        rw [decide_eq_true h3] at h1
        rw [h4]
        simp only [Bool.false_eq_true, if_false, List.mem_cons]
        refine ⟨?_, by omega⟩
        rw [decide_eq_true (show 0 ≤ Lib.indexByte l c + 1 by omega)]
        have := of_decide_eq_true h1.symm
        exact (decide_eq_true (.inr this)).symm
theorem contains1_gives (s : List UInt8) (c : UInt8) (g : Gh) (L : List Ent) : Gives Tryz.prog 330 #[str s, str [c]] g L (.bool (decide (c ∈ s))) :=
  Gives.same fun w => by
    have := Tryz.strings_Contains_one ⟨s.toArray⟩ c w
    rw [show (ByteArray.mk s.toArray).data.toList = s from by simp, (idxB_nonneg s c).1] at this
    exact this
theorem drop_last {s : List UInt8} (_h : 1 ≤ s.length) : s.drop (s.length - 1) = [s.getD (s.length - 1) 0] := by
  have h1 : s.length - 1 < s.length := by omega
  rw [List.drop_eq_getElem_cons h1, List.drop_eq_nil_of_le (by omega)]
  simp [List.getD_eq_getElem?_getD, h1]
set_option maxHeartbeats 16000000 in
theorem alike_gives (s : List UInt8) (g : Gh) (L : List Ent) (hs : s.length ≤ 1000000) (ha : ascB s) : Gives Tryz.prog 329 #[str s] g L (.bool (alikeL s)) := by
  refine .of (Does.of1 Tryz.func329 rfl Tryz.ntmps329 rfl ?_)
  unfold alikeL
  by_cases h1 : 1 < s.length
  case neg =>
    rw [decide_eq_false h1, Bool.false_and]
    have b0 : decide ((1 : Int) < (s.length : Nat)) = false := decide_eq_false (by omega)
    clear ha
    repeat' (first
    | refine wkQ ?_
    | ((with_reducible apply TA.takeN 0); (· rfl); (· decide +kernel); (· rfl); (· first | exact Y.gtr_b b0 rfl rfl | exact yW); (· decide +kernel); (· decide +kernel); (· rfl); (· exact fun _ _ _ h => h); (· rfl))
    | ((with_reducible apply TA.takeN 1); (· rfl); (· decide +kernel); (· rfl); (· first | exact Y.gtr_b b0 rfl rfl | exact yW); (· decide +kernel); (· decide +kernel); (· rfl); (· exact fun _ _ _ h => h); (· rfl))
    | ((with_reducible apply TA.takeN 2); (· rfl); (· decide +kernel); (· rfl); (· first | exact Y.gtr_b b0 rfl rfl | exact yW); (· decide +kernel); (· decide +kernel); (· rfl); (· exact fun _ _ _ h => h); (· rfl))
    | ((with_reducible apply TA.takeN 3); (· rfl); (· decide +kernel); (· rfl); (· first | exact Y.gtr_b b0 rfl rfl | exact yW); (· decide +kernel); (· decide +kernel); (· rfl); (· exact fun _ _ _ h => h); (· rfl))
    | ((with_reducible apply TA.take_gN 0); (· rfl); (· decide +kernel); (· rfl); (· rfl); (· rfl); (· (first | exact Y.gtr_b b0 rfl rfl | exact yW)); (· decide +kernel); (· decide +kernel); (· rfl); (· exact fun _ _ _ h => h); (· rfl))
    | ((with_reducible apply TA.take_gN 1); (· rfl); (· decide +kernel); (· rfl); (· rfl); (· rfl); (· (first | exact Y.gtr_b b0 rfl rfl | exact yW)); (· decide +kernel); (· decide +kernel); (· rfl); (· exact fun _ _ _ h => h); (· rfl))
    | ((with_reducible apply TA.take_gN 2); (· rfl); (· decide +kernel); (· rfl); (· rfl); (· rfl); (· (first | exact Y.gtr_b b0 rfl rfl | exact yW)); (· decide +kernel); (· decide +kernel); (· rfl); (· exact fun _ _ _ h => h); (· rfl))
    | ((with_reducible apply TA.take_gN 3); (· rfl); (· decide +kernel); (· rfl); (· rfl); (· rfl); (· (first | exact Y.gtr_b b0 rfl rfl | exact yW)); (· decide +kernel); (· decide +kernel); (· rfl); (· exact fun _ _ _ h => h); (· rfl))
    | refine wkX0 ?_
    | refine wkX1 ?_
    | refine wkX2 ?_
    | refine wkX3 ?_
    | refine wkO0 ?_
    | refine wkO1 ?_
    | refine wkO2 ?_
    | refine wkO3 ?_
    | refine TQ.any leF selF ?_
    | refine TC.region_any 23 (_) (by kernel_rfl) rfl selF ?_ | refine TA.done (by decide +kernel) ?_ | refine TQ.any_panic ?_
    | refine wkV ?_
    | refine stS ?_ | (refine stB ?_; intro _) | (refine stC ?_; constructor <;> intro _)
    | refine wkW ?_)
    refine TQ.endR1 (L' := L) Tryz.results329 rvA rfl (.refl _) ?_ selF
    exact ⟨rfl, rfl, rfl⟩
  have A := fun L => sounds_does s g L hs ha
  have hl := soundsL_len s
  rw [decide_eq_true h1, Bool.true_and]
  have b0 : decide ((1 : Int) < (s.length : Nat)) = true := decide_eq_true (by omega)
  have w1 : IntKind.i64.wrap ((s.length : Int) - 1) = ((s.length - 1 : Nat) : Int) := by rw [IntWalk.i64_in _ (by omega)]; omega
  have w2 : IntKind.i64.wrap ((s.length : Int) - 2) = ((s.length - 2 : Nat) : Int) := by rw [IntWalk.i64_in _ (by omega)]; omega
  have W1 := Hn.mk w1
  have W2 := Hn.mk w2
  have i1 : s.length - 1 < s.length := by omega
  have i2 : s.length - 2 < s.length := by omega
  clear w1 w2 ha
  by_cases he : s.getD (s.length - 1) 0 = s.getD (s.length - 2) 0
  case neg =>
    rw [decide_eq_false he, Bool.false_and]
    have b1 : decide ((((s.getD (s.length - 1) 0).toNat : Nat) : Int) = ((s.getD (s.length - 2) 0).toNat : Nat)) = false := decide_eq_false fun e => he (UInt8.toNat_inj.1 (by omega))
    clear A he
    repeat' (first
    | refine wkQ ?_
    | ((with_reducible apply TA.takeN 0); (· rfl); (· decide +kernel); (· rfl); (· first | first | exact Y.gtr_b b0 rfl rfl | exact Y.eql_b b1 rfl rfl | exact Y.sub rfl rfl W1.out | exact Y.sub rfl rfl W2.out | exact Y.index_str (j := s.length - 1) rfl rfl rfl i1 | exact Y.index_str (j := s.length - 2) rfl rfl rfl i2 | exact yW); (· decide +kernel); (· decide +kernel); (· rfl); (· exact fun _ _ _ h => h); (· rfl))
    | ((with_reducible apply TA.takeN 1); (· rfl); (· decide +kernel); (· rfl); (· first | first | exact Y.gtr_b b0 rfl rfl | exact Y.eql_b b1 rfl rfl | exact Y.sub rfl rfl W1.out | exact Y.sub rfl rfl W2.out | exact Y.index_str (j := s.length - 1) rfl rfl rfl i1 | exact Y.index_str (j := s.length - 2) rfl rfl rfl i2 | exact yW); (· decide +kernel); (· decide +kernel); (· rfl); (· exact fun _ _ _ h => h); (· rfl))
    | ((with_reducible apply TA.takeN 2); (· rfl); (· decide +kernel); (· rfl); (· first | first | exact Y.gtr_b b0 rfl rfl | exact Y.eql_b b1 rfl rfl | exact Y.sub rfl rfl W1.out | exact Y.sub rfl rfl W2.out | exact Y.index_str (j := s.length - 1) rfl rfl rfl i1 | exact Y.index_str (j := s.length - 2) rfl rfl rfl i2 | exact yW); (· decide +kernel); (· decide +kernel); (· rfl); (· exact fun _ _ _ h => h); (· rfl))
    | ((with_reducible apply TA.takeN 3); (· rfl); (· decide +kernel); (· rfl); (· first | first | exact Y.gtr_b b0 rfl rfl | exact Y.eql_b b1 rfl rfl | exact Y.sub rfl rfl W1.out | exact Y.sub rfl rfl W2.out | exact Y.index_str (j := s.length - 1) rfl rfl rfl i1 | exact Y.index_str (j := s.length - 2) rfl rfl rfl i2 | exact yW); (· decide +kernel); (· decide +kernel); (· rfl); (· exact fun _ _ _ h => h); (· rfl))
    | ((with_reducible apply TA.take_gN 0); (· rfl); (· decide +kernel); (· rfl); (· rfl); (· rfl); (· (first | first | exact Y.gtr_b b0 rfl rfl | exact Y.eql_b b1 rfl rfl | exact Y.sub rfl rfl W1.out | exact Y.sub rfl rfl W2.out | exact Y.index_str (j := s.length - 1) rfl rfl rfl i1 | exact Y.index_str (j := s.length - 2) rfl rfl rfl i2 | exact yW)); (· decide +kernel); (· decide +kernel); (· rfl); (· exact fun _ _ _ h => h); (· rfl))
    | ((with_reducible apply TA.take_gN 1); (· rfl); (· decide +kernel); (· rfl); (· rfl); (· rfl); (· (first | first | exact Y.gtr_b b0 rfl rfl | exact Y.eql_b b1 rfl rfl | exact Y.sub rfl rfl W1.out | exact Y.sub rfl rfl W2.out | exact Y.index_str (j := s.length - 1) rfl rfl rfl i1 | exact Y.index_str (j := s.length - 2) rfl rfl rfl i2 | exact yW)); (· decide +kernel); (· decide +kernel); (· rfl); (· exact fun _ _ _ h => h); (· rfl))
    | ((with_reducible apply TA.take_gN 2); (· rfl); (· decide +kernel); (· rfl); (· rfl); (· rfl); (· (first | first | exact Y.gtr_b b0 rfl rfl | exact Y.eql_b b1 rfl rfl | exact Y.sub rfl rfl W1.out | exact Y.sub rfl rfl W2.out | exact Y.index_str (j := s.length - 1) rfl rfl rfl i1 | exact Y.index_str (j := s.length - 2) rfl rfl rfl i2 | exact yW)); (· decide +kernel); (· decide +kernel); (· rfl); (· exact fun _ _ _ h => h); (· rfl))
    | ((with_reducible apply TA.take_gN 3); (· rfl); (· decide +kernel); (· rfl); (· rfl); (· rfl); (· (first | first | exact Y.gtr_b b0 rfl rfl | exact Y.eql_b b1 rfl rfl | exact Y.sub rfl rfl W1.out | exact Y.sub rfl rfl W2.out | exact Y.index_str (j := s.length - 1) rfl rfl rfl i1 | exact Y.index_str (j := s.length - 2) rfl rfl rfl i2 | exact yW)); (· decide +kernel); (· decide +kernel); (· rfl); (· exact fun _ _ _ h => h); (· rfl))
    | refine wkX0 ?_
    | refine wkX1 ?_
    | refine wkX2 ?_
    | refine wkX3 ?_
    | refine wkO0 ?_
    | refine wkO1 ?_
    | refine wkO2 ?_
    | refine wkO3 ?_
    | refine TQ.any leF selF ?_
    | refine TC.region_any 23 (_) (by kernel_rfl) rfl selF ?_ | refine TA.done (by decide +kernel) ?_ | refine TQ.any_panic ?_
    | refine wkV ?_
    | refine stS ?_ | (refine stB ?_; intro _) | (refine stC ?_; constructor <;> intro _)
    | refine wkW ?_)
    refine TQ.endR1 (L' := L) Tryz.results329 rvA rfl (.refl _) ?_ selF
    exact ⟨rfl, rfl, rfl⟩
  rw [decide_eq_true he, Bool.true_and]
  have b1 : decide ((((s.getD (s.length - 1) 0).toNat : Nat) : Int) = ((s.getD (s.length - 2) 0).toNat : Nat)) = true := decide_eq_true (by rw [he])
  generalize soundsL s = l at *
  obtain ⟨c, hc⟩ : ∃ c, l[s.length - 1]? = some c := ⟨_, List.getElem?_eq_getElem (by omega)⟩
  rw [show l.getD (s.length - 1) false = c by rw [List.getD_eq_getElem?_getD, hc]; rfl]
  have HC := Hn.mk (boolC_get hc)
  clear he hc
  repeat' (first
    | refine wkQ ?_
    | ((with_reducible apply TA.takeN 0); (· rfl); (· decide +kernel); (· rfl); (· first | first | exact Y.gtr_b b0 rfl rfl | exact Y.eql_b b1 rfl rfl | exact Y.sub rfl rfl W1.out | exact Y.sub rfl rfl W2.out | exact Y.index_str (j := s.length - 1) rfl rfl rfl i1 | exact Y.index_str (j := s.length - 2) rfl rfl rfl i2 | exact yW); (· decide +kernel); (· decide +kernel); (· rfl); (· exact fun _ _ _ h => h); (· rfl))
    | ((with_reducible apply TA.takeN 1); (· rfl); (· decide +kernel); (· rfl); (· first | first | exact Y.gtr_b b0 rfl rfl | exact Y.eql_b b1 rfl rfl | exact Y.sub rfl rfl W1.out | exact Y.sub rfl rfl W2.out | exact Y.index_str (j := s.length - 1) rfl rfl rfl i1 | exact Y.index_str (j := s.length - 2) rfl rfl rfl i2 | exact yW); (· decide +kernel); (· decide +kernel); (· rfl); (· exact fun _ _ _ h => h); (· rfl))
    | ((with_reducible apply TA.takeN 2); (· rfl); (· decide +kernel); (· rfl); (· first | first | exact Y.gtr_b b0 rfl rfl | exact Y.eql_b b1 rfl rfl | exact Y.sub rfl rfl W1.out | exact Y.sub rfl rfl W2.out | exact Y.index_str (j := s.length - 1) rfl rfl rfl i1 | exact Y.index_str (j := s.length - 2) rfl rfl rfl i2 | exact yW); (· decide +kernel); (· decide +kernel); (· rfl); (· exact fun _ _ _ h => h); (· rfl))
    | ((with_reducible apply TA.takeN 3); (· rfl); (· decide +kernel); (· rfl); (· first | first | exact Y.gtr_b b0 rfl rfl | exact Y.eql_b b1 rfl rfl | exact Y.sub rfl rfl W1.out | exact Y.sub rfl rfl W2.out | exact Y.index_str (j := s.length - 1) rfl rfl rfl i1 | exact Y.index_str (j := s.length - 2) rfl rfl rfl i2 | exact yW); (· decide +kernel); (· decide +kernel); (· rfl); (· exact fun _ _ _ h => h); (· rfl))
    | ((with_reducible apply TA.take_gN 0); (· rfl); (· decide +kernel); (· rfl); (· rfl); (· rfl); (· (first | first | exact Y.gtr_b b0 rfl rfl | exact Y.eql_b b1 rfl rfl | exact Y.sub rfl rfl W1.out | exact Y.sub rfl rfl W2.out | exact Y.index_str (j := s.length - 1) rfl rfl rfl i1 | exact Y.index_str (j := s.length - 2) rfl rfl rfl i2 | exact yW)); (· decide +kernel); (· decide +kernel); (· rfl); (· exact fun _ _ _ h => h); (· rfl))
    | ((with_reducible apply TA.take_gN 1); (· rfl); (· decide +kernel); (· rfl); (· rfl); (· rfl); (· (first | first | exact Y.gtr_b b0 rfl rfl | exact Y.eql_b b1 rfl rfl | exact Y.sub rfl rfl W1.out | exact Y.sub rfl rfl W2.out | exact Y.index_str (j := s.length - 1) rfl rfl rfl i1 | exact Y.index_str (j := s.length - 2) rfl rfl rfl i2 | exact yW)); (· decide +kernel); (· decide +kernel); (· rfl); (· exact fun _ _ _ h => h); (· rfl))
    | ((with_reducible apply TA.take_gN 2); (· rfl); (· decide +kernel); (· rfl); (· rfl); (· rfl); (· (first | first | exact Y.gtr_b b0 rfl rfl | exact Y.eql_b b1 rfl rfl | exact Y.sub rfl rfl W1.out | exact Y.sub rfl rfl W2.out | exact Y.index_str (j := s.length - 1) rfl rfl rfl i1 | exact Y.index_str (j := s.length - 2) rfl rfl rfl i2 | exact yW)); (· decide +kernel); (· decide +kernel); (· rfl); (· exact fun _ _ _ h => h); (· rfl))
    | ((with_reducible apply TA.take_gN 3); (· rfl); (· decide +kernel); (· rfl); (· rfl); (· rfl); (· (first | first | exact Y.gtr_b b0 rfl rfl | exact Y.eql_b b1 rfl rfl | exact Y.sub rfl rfl W1.out | exact Y.sub rfl rfl W2.out | exact Y.index_str (j := s.length - 1) rfl rfl rfl i1 | exact Y.index_str (j := s.length - 2) rfl rfl rfl i2 | exact yW)); (· decide +kernel); (· decide +kernel); (· rfl); (· exact fun _ _ _ h => h); (· rfl))
    | refine wkX0 ?_
    | refine wkX1 ?_
    | refine wkX2 ?_
    | refine wkX3 ?_
    | refine wkO0 ?_
    | refine wkO1 ?_
    | refine wkO2 ?_
    | refine wkO3 ?_
    | refine TQ.any leF selF ?_
    | refine TC.region_any 23 (_) (by kernel_rfl) rfl selF ?_ | refine TA.done (by decide +kernel) ?_ | refine TQ.any_panic ?_
    | (refine TL.call (Enters.plain (by kernel_rfl) (by rfl)) (by rfl) (A _) ?_; (rintro e g2 Ln hg2 ⟨vs, k1, k2, k3⟩; have k2 := k2.symm; subst k1; subst k2; obtain ⟨a1, c1, rfl⟩ := k3.slice; obtain ⟨b1, o1, rfl, hg⟩ := k3.elem i1 (by decide); have hld : g2.cell b1 (o1 + (s.length - 1) * 1) = some (.bool c) := hg 0 _ HC.out; clear k3 hg; refine CallK.ret ?_))
    | refine wkV ?_
    | refine wkM ?_
    | refine stS ?_ | (refine stB ?_; intro _) | (refine stC ?_; constructor <;> intro _)
    | refine wkW ?_)
  refine TQ.less (by assumption) ?_
  refine TQ.endR1 (L' := L) Tryz.results329 rvA rfl (.refl _) ?_ selF
  exact ⟨rfl, rfl, rfl⟩
theorem closed_eq {s : List UInt8} {l : List Bool} {v0 v1 v2 : Bool} (hl : soundsL s = l) (h3 : 3 ≤ s.length) (h0 : l[s.length - 3]? = some v0) (h1 : l[s.length - 2]? = some v1) (h2 : l[s.length - 1]? = some v2) : closedL s = (!v0 && (v1 && (!v2 && !decide (s.getD (s.length - 1) 0 = 119 ∨ s.getD (s.length - 1) 0 = 120 ∨ s.getD (s.length - 1) 0 = 121)))) := by
  unfold closedL
  rw [hl, decide_eq_true h3, Bool.true_and, List.getD_eq_getElem?_getD, List.getD_eq_getElem?_getD, List.getD_eq_getElem?_getD, h0, h1, h2]
  rfl
set_option maxHeartbeats 16000000 in
theorem closed_gives (s : List UInt8) (g : Gh) (L : List Ent) (hs : s.length ≤ 1000000) (ha : ascB s) : Gives Tryz.prog 331 #[str s] g L (.bool (closedL s)) := by
  refine .of (Does.of1 Tryz.func331 rfl Tryz.ntmps331 rfl ?_)
  by_cases h3 : 3 ≤ s.length
  case neg =>
    have : closedL s = false := by unfold closedL; rw [decide_eq_false h3, Bool.false_and]
    rw [this]
    clear ha this
    repeat' (first
    | refine wkQ ?_
    | (refine wkA 8 (v := .bool true) ?_ ?_; · exact Y.lss_b (decide_eq_true (by omega)) rfl rfl)
    | refine wkV ?_
    | refine stS ?_ | (refine stB ?_; intro _) | (refine stC ?_; constructor <;> intro _))
    refine TQ.endR1 (L' := L) Tryz.results331 rvA rfl (.refl _) ?_ selF
    exact ⟨rfl, rfl, rfl⟩
  have A := fun L => sounds_does s g L hs ha
  have hl := soundsL_len s
  obtain ⟨l, hle⟩ : ∃ l, soundsL s = l := ⟨_, rfl⟩
  rw [hle] at A hl
  obtain ⟨v0, h0⟩ : ∃ c, l[s.length - 3]? = some c := ⟨_, List.getElem?_eq_getElem (by omega)⟩
  obtain ⟨v1, h1⟩ : ∃ c, l[s.length - 2]? = some c := ⟨_, List.getElem?_eq_getElem (by omega)⟩
  obtain ⟨v2, h2⟩ : ∃ c, l[s.length - 1]? = some c := ⟨_, List.getElem?_eq_getElem (by omega)⟩
  rw [closed_eq hle h3 h0 h1 h2]
  have hD := drop_last (s := s) (by omega)
  generalize s.getD (s.length - 1) 0 = c at *
  have hm : decide (c ∈ ([119, 120, 121] : List UInt8)) = decide (c = 119 ∨ c = 120 ∨ c = 121) := by simp
  have CO := fun g L => contains1_gives [119, 120, 121] c g L
  rw [hm, ← hD] at CO
  generalize decide (c = 119 ∨ c = 120 ∨ c = 121) = cb at *
  have c0 := boolC_get h0
  have c1 := boolC_get h1
  have c2 := boolC_get h2
  rw [show (s.length - 2) * 1 = (s.length - 3) * 1 + 1 by omega] at c1
  rw [show (s.length - 1) * 1 = (s.length - 3) * 1 + 2 by omega] at c2
  have w1 : IntKind.i64.wrap ((s.length : Int) - 3) = ((s.length - 3 : Nat) : Int) := by rw [IntWalk.i64_in _ (by omega)]; omega
  have w2 : IntKind.i64.wrap ((s.length : Int) - 1) = ((s.length - 1 : Nat) : Int) := by rw [IntWalk.i64_in _ (by omega)]; omega
  have W1 := Hn.mk w1
  have W2 := Hn.mk w2
  have C0 := Hn.mk (And.intro c0 (And.intro c1 c2))
  clear ha hm hle h0 h1 h2 c0 c1 c2 w1 w2 hD
  repeat' (first
    | refine wkQ ?_
    | (refine wkA 8 (v := .bool false) ?_ ?_; · exact Y.lss_b (decide_eq_false (by omega)) rfl rfl)
    | (refine wkA 12 (v := .int .i64 ((s.length - 3 : Nat) : Int)) ?_ ?_; · exact Y.sub rfl rfl W1.out)
    | refine wkV ?_
    | (refine TL.call (Enters.plain (by kernel_rfl) (by rfl)) (by rfl) (A _) ?_; (rintro e g2 Ln hg2 ⟨vs, k1, k2, k3⟩; have k2 := k2.symm; subst k1; subst k2; obtain ⟨a1, cap, rfl⟩ := k3.slice; have hcap := k3.cap; obtain ⟨b1, o1, rfl, hg⟩ := k3.elem (i := s.length - 3) (by omega) (by decide); have hg := Hn.mk hg; clear k3; refine CallK.ret ?_))
    | (refine wkA 13 (v := .slice (some ⟨b1, o1 + (s.length - 3) * 1, none⟩) (s.length - (s.length - 3)) (cap - (s.length - 3))) ?_ ?_; · exact Y.slice_from (i := s.length - 3) rfl rfl rfl (by omega) hcap (by rw [if_neg (by omega)]))
    | refine stS ?_ | (refine stB ?_; intro _) | (refine stC ?_; constructor <;> intro _))
  rw [show s.length - (s.length - 3) = 3 by omega]
  generalize cap - (s.length - 3) = cap2
  have hg := hg.out
  obtain ⟨c0, c1, c2⟩ := C0.out
  have hl0 := hg 0 _ c0
  have hl1 := hg 1 _ c1
  have hl2 := hg 2 _ c2
  generalize o1 + (s.length - 3) * 1 = o2 at *
  have hl0 : g2.cell b1 (o2 + 0 * 1) = some (.bool v0) := hl0
  have hl1 : g2.cell b1 (o2 + 1 * 1) = some (.bool v1) := hl1
  have hl2 : g2.cell b1 (o2 + 2 * 1) = some (.bool v2) := hl2
  clear c0 c1 c2 C0 A
  clear hg
  cases v0 with
  | true =>
    repeat' (first
    | refine wkQ ?_
    | refine wkV ?_
    | refine wkM ?_
    | refine stS ?_ | (refine stB ?_; intro _) | (refine stC ?_; constructor <;> intro _))
    refine TQ.less hg2 ?_
    refine TQ.endR1 (L' := L) Tryz.results331 rvA rfl (.refl _) ?_ selF
    exact ⟨rfl, rfl, rfl⟩
  | false =>
  cases v1 with
  | false =>
    repeat' (first
    | refine wkQ ?_
    | refine wkV ?_
    | refine wkM ?_
    | refine stS ?_ | (refine stB ?_; intro _) | (refine stC ?_; constructor <;> intro _))
    refine TQ.less hg2 ?_
    refine TQ.endR1 (L' := L) Tryz.results331 rvA rfl (.refl _) ?_ selF
    exact ⟨rfl, rfl, rfl⟩
  | true =>
  cases v2 with
  | true =>
    repeat' (first
    | refine wkQ ?_
    | refine wkV ?_
    | refine wkM ?_
    | refine stS ?_ | (refine stB ?_; intro _) | (refine stC ?_; constructor <;> intro _))
    refine TQ.less hg2 ?_
    refine TQ.endR1 (L' := L) Tryz.results331 rvA rfl (.refl _) ?_ selF
    exact ⟨rfl, rfl, rfl⟩
  | false =>
    repeat' (first
    | refine wkQ ?_
    | (refine wkA 32 (v := .int .i64 ((s.length - 1 : Nat) : Int)) ?_ ?_; · exact Y.sub rfl rfl W2.out)
    | (refine wkA 33 (v := str (s.drop (s.length - 1))) ?_ ?_; · exact Y.slice_str_from rfl rfl rfl (by omega))
    | refine wkV ?_
    | refine wkM ?_
    | refine wkD (CO _ _) ?_
    | refine stS ?_ | (refine stB ?_; intro _) | (refine stC ?_; constructor <;> intro _))
    refine TQ.less hg2 ?_
    refine TQ.endR1 (L' := L) Tryz.results331 rvA rfl (.refl _) ?_ selF
    exact ⟨rfl, rfl, rfl⟩
end Go.Proofs.YtgollffmdpejiaaGreatDoor
