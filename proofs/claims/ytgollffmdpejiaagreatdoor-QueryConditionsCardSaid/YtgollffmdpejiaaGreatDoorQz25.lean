/-
  The walks of strings.HasSuffix, slices.Contains over truth values, stem's sounds, voiced, Measure.
-/
import Derived.Test.YtgollffmdpejiaaGreatDoorQz24
import Derived.Test.YtgollffmdpejiaaGreatDoorQz23
import Derived.Test.YtgollffmdpejiaaGreatDoorQz2
import Derived.Test.YtgollffmdpejiaaGreatDoorQz3
namespace Go.Proofs.YtgollffmdpejiaaGreatDoor
open Go.RowKit Go.TL
set_option maxRecDepth 100000

set_option maxHeartbeats 8000000 in
theorem slSuffix_gives (w e : List UInt8) (g : Gh) (L : List Ent) (_hw : w.length ≤ 1000000000) (_he : e.length ≤ 1000000000) : Gives Tryz.prog 337 #[str w, str e] g L (.bool (sufB w e)) := by
  refine .of (Does.of2 Tryz.func337 rfl Tryz.ntmps337 rfl ?_)
  unfold sufB
  by_cases h : e.length ≤ w.length
  · rw [decide_eq_true h, Bool.true_and]
    repeat' (first
    | refine wkQ ?_
    | (refine wkA 9 (v := .bool true) ?_ ?_; · exact Y.geq_b (decide_eq_true (by omega)) rfl rfl)
    | (refine wkA 16 (v := .int .i64 ((w.length - e.length : Nat) : Int)) ?_ ?_; · exact Y.sub rfl rfl (by rw [IntWalk.i64_in _ (by omega)]; omega))
    | (refine wkA 17 (v := str (w.drop (w.length - e.length))) ?_ ?_; · exact Y.slice_str_from rfl rfl rfl (by omega))
    | refine wkV ?_
    | refine stS ?_ | (refine stB ?_; intro _) | (refine stC ?_; constructor <;> intro _))
    refine TQ.endR1 (L' := L) Tryz.results337 rvA rfl (.refl _) ?_ selF
    exact ⟨rfl, rfl, rfl⟩
  · rw [decide_eq_false h, Bool.false_and]
    repeat' (first
    | refine wkQ ?_
    | (refine wkA 9 (v := .bool false) ?_ ?_; · exact Y.geq_b (decide_eq_false (by omega)) rfl rfl)
    | refine wkV ?_
    | refine stS ?_ | (refine stB ?_; intro _) | (refine stC ?_; constructor <;> intro _))
    refine TQ.endR1 (L' := L) Tryz.results337 rvA rfl (.refl _) ?_ selF
    exact ⟨rfl, rfl, rfl⟩
theorem hasSuffix_gives (w e : List UInt8) (g : Gh) (L : List Ent) (hw : w.length ≤ 1000000000) (he : e.length ≤ 1000000000) : Gives Tryz.prog 316 #[str w, str e] g L (.bool (sufB w e)) := by
  refine .of (Does.of2 Tryz.func316 rfl Tryz.ntmps316 rfl ?_)
  have A := fun L => slSuffix_gives w e g L hw he
  repeat' (first
    | refine wkQ ?_
    | refine wkV ?_
    | refine wkD (A _) ?_
    | refine stS ?_ | (refine stB ?_; intro _) | (refine stC ?_; constructor <;> intro _))
  refine TQ.endR1 (L' := L) Tryz.results316 rvA rfl (.refl _) ?_ selF
  exact ⟨rfl, rfl, rfl⟩
def boolC (l : List Bool) : List Value := l.map Value.bool
theorem boolC_get {l : List Bool} {i : Nat} {b : Bool} (h : l[i]? = some b) : (boolC l)[i * 1]? = some (.bool b) := by
  unfold boolC; rw [Nat.mul_one, List.getElem?_map, h]; rfl
theorem soundsF_len : ∀ (s : List UInt8) (h l : Bool), (soundsF s h l).length = s.length
  | [], _, _ => rfl
  | c :: r, h, l => by rw [soundsF, List.length_cons, List.length_cons, soundsF_len r]
theorem soundsL_len (s : List UInt8) : (soundsL s).length = s.length := soundsF_len s _ _
def ascB (s : List UInt8) : Prop := ∀ c ∈ s, c.toNat < 128
set_option maxHeartbeats 32000000 in
theorem sounds_does (s : List UInt8) (g : Gh) (L : List Ent) (_hs : s.length ≤ 1000000) (ha : ascB s) : Does Tryz.prog 335 #[str s] g L (fun e g' L' => ∃ v, e = .returned v ∧ L' = L ∧ Sl g' v s.length 1 (boolC (soundsL s))) := by
  refine Does.of1 Tryz.func335 rfl Tryz.ntmps335 rfl ?_
  have hl0 := soundsL_len s
  obtain ⟨R, hR⟩ : ∃ R, R = soundsL s := ⟨_, rfl⟩
  rw [← hR] at hl0 ⊢
  refine TC.row_nil 4 1 ?_
  repeat' (first
    | refine wkQ ?_
    | refine wkV ?_
    | ((with_reducible apply TL.range_str); (· rfl); (· rfl); intro _)
    | refine stS ?_ | (refine stB ?_; intro _) | (refine stC ?_; constructor <;> intro _))
  rename_i b8
  refine TC.loop (α := Nat × Value × Bool × List Bool) (fun z => z.1 ≤ s.length ∧ z.2.2.2.length = z.1 ∧ z.2.2.2 ++ soundsF (s.drop z.1) (decide (0 < z.1)) z.2.2.1 = R) (fun z => s.length - z.1) (fun z => [(8, .pointer (some ⟨b8, 0, none⟩)), (3, z.2.1), (4, .bool z.2.2.1)]) (fun _ => g) (fun z => .obj b8 (.stringIter ⟨s.toArray⟩ z.1) :: .row 4 1 z.2.1 z.1 (boolC z.2.2.2) :: L) (0, .slice none 0 0, false, []) ⟨Nat.zero_le _, rfl, hR.symm⟩ rfl subA selA ?_
  rintro ⟨j, v, last, dn⟩ ⟨hj, hdn, hI⟩
  dsimp only at hj hdn hI ⊢
  refine TC.row_slice (v := v) pkA ?_
  rintro av cv rfl _
  by_cases hlt : j < s.length
  · obtain ⟨x, u, hxu⟩ : ∃ x u, s.drop j = x :: u := ⟨_, _, List.drop_eq_getElem_cons hlt⟩
    have hx : x.toNat < 128 := ha x (List.mem_of_mem_drop (by rw [hxu]; exact List.mem_cons_self))
    have hd1 : s.drop (j + 1) = u := by
      have := congrArg (List.drop 1) hxu
      simpa [List.drop_drop, Nat.add_comm] using this
    have hdec := dec_at s j
    rw [hxu, dec_small x u hx] at hdec
    rw [hxu, soundsF] at hI
    have HD := Hn.mk hdec
    clear hdec hxu ha hR
    have fin : ∀ q, vowS x (decide (0 < j)) last = q → Hn ((dn ++ [q]).length = j + 1 ∧ (dn ++ [q]) ++ soundsF (s.drop (j + 1)) (decide (0 < j + 1)) q = R ∧ boolC dn ++ [.bool q] = boolC (dn ++ [q])) := fun q hq => ⟨by
      rw [hq] at hI
      refine ⟨by simp [hdn], ?_, by simp [boolC]⟩
      rw [hd1, decide_eq_true (Nat.succ_pos j), List.append_assoc]; exact hI⟩
    clear hI hd1 hdn
    by_cases h1 : x = 97 ∨ x = 101 ∨ x = 105 ∨ x = 111 ∨ x = 117
    · have hv := fin true (by unfold vowS; rw [if_pos h1])
      rcases h1 with rfl | rfl | rfl | rfl | rfl
      all_goals
        repeat' (first
    | refine wkQ ?_
    | refine wkV ?_
    | ((with_reducible apply TL.next_str); (· rfl); (· exact pkA); (· rfl); (all_goals (intro hnx; try (exfalso; omega))); rw [HD.out]; clear HD hnx)
    | ((with_reducible apply TL.build_slice); (· rfl); (· rfl); (· exact oneA); (· rfl); (· rfl); (· rfl); intro _) | refine TL.build_one (by rfl) (by first | rfl | assumption) (by rfl) (by rfl) (by rfl) (by rfl) (fun _ => ?_) | refine TL.build_empty (by rfl) (fun _ => ?_)
    | ((with_reducible apply TL.append (e := 4)); (· rfl); (· rfl); (· rfl); (· rfl); (· exact pkA); (· first | exact Src.obj pkA | exact Src.sl (by assumption) | exact Src.row pkA); (· first | rfl | exact (byteVals_length _).trans (Nat.mul_one _).symm); (· first | exact byteVals_all _ | exact oneA); (· exact ⟨by unfold maxLen; omega, by omega⟩); (· rfl); intro vf; refine Go.TL.TL.row_slice (v := vf) pkA ?_; rintro a2 c2 rfl _)
    | refine stS ?_ | (refine stB ?_; intro _) | (refine stC ?_; constructor <;> intro _))
      all_goals
        obtain ⟨q1, q2, q3⟩ := hv.out
        rw [q3]
        refine TQ.round (j + 1, .slice a2 (j + 1) c2, true, dn ++ [true]) ?_ ?_ rfl subA selF
        · exact ⟨by dsimp only; omega, q1, q2⟩
        · show s.length - (j + 1) < s.length - j
          omega
    · by_cases h2 : x = 121
      · subst h2
        by_cases h0 : 0 < j
        · have hv := fin (!last) (by unfold vowS; rw [if_neg h1, if_pos rfl, decide_eq_true h0, Bool.true_and])
          clear fin
          repeat' (first
    | refine wkQ ?_
    | (refine wkA 23 (v := .bool true) ?_ ?_; · exact Y.gtr_b (decide_eq_true (by omega)) rfl rfl)
    | refine wkV ?_
    | ((with_reducible apply TL.next_str); (· rfl); (· exact pkA); (· rfl); (all_goals (intro hnx; try (exfalso; omega))); rw [HD.out]; clear HD hnx)
    | ((with_reducible apply TL.build_slice); (· rfl); (· rfl); (· exact oneA); (· rfl); (· rfl); (· rfl); intro _) | refine TL.build_one (by rfl) (by first | rfl | assumption) (by rfl) (by rfl) (by rfl) (by rfl) (fun _ => ?_) | refine TL.build_empty (by rfl) (fun _ => ?_)
    | ((with_reducible apply TL.append (e := 4)); (· rfl); (· rfl); (· rfl); (· rfl); (· exact pkA); (· first | exact Src.obj pkA | exact Src.sl (by assumption) | exact Src.row pkA); (· first | rfl | exact (byteVals_length _).trans (Nat.mul_one _).symm); (· first | exact byteVals_all _ | exact oneA); (· exact ⟨by unfold maxLen; omega, by omega⟩); (· rfl); intro vf; refine Go.TL.TL.row_slice (v := vf) pkA ?_; rintro a2 c2 rfl _)
    | refine stS ?_ | (refine stB ?_; intro _) | (refine stC ?_; constructor <;> intro _))
          obtain ⟨q1, q2, q3⟩ := hv.out
          rw [q3]
          refine TQ.round (j + 1, .slice a2 (j + 1) c2, (!last), dn ++ [!last]) ?_ ?_ rfl subA selF
          · exact ⟨by dsimp only; omega, q1, q2⟩
          · show s.length - (j + 1) < s.length - j
            omega
        · have hv := fin false (by unfold vowS; rw [if_neg h1, if_pos rfl, decide_eq_false h0, Bool.false_and])
          clear fin
          repeat' (first
    | refine wkQ ?_
    | (refine wkA 23 (v := .bool false) ?_ ?_; · exact Y.gtr_b (decide_eq_false (by omega)) rfl rfl)
    | refine wkV ?_
    | ((with_reducible apply TL.next_str); (· rfl); (· exact pkA); (· rfl); (all_goals (intro hnx; try (exfalso; omega))); rw [HD.out]; clear HD hnx)
    | ((with_reducible apply TL.build_slice); (· rfl); (· rfl); (· exact oneA); (· rfl); (· rfl); (· rfl); intro _) | refine TL.build_one (by rfl) (by first | rfl | assumption) (by rfl) (by rfl) (by rfl) (by rfl) (fun _ => ?_) | refine TL.build_empty (by rfl) (fun _ => ?_)
    | ((with_reducible apply TL.append (e := 4)); (· rfl); (· rfl); (· rfl); (· rfl); (· exact pkA); (· first | exact Src.obj pkA | exact Src.sl (by assumption) | exact Src.row pkA); (· first | rfl | exact (byteVals_length _).trans (Nat.mul_one _).symm); (· first | exact byteVals_all _ | exact oneA); (· exact ⟨by unfold maxLen; omega, by omega⟩); (· rfl); intro vf; refine Go.TL.TL.row_slice (v := vf) pkA ?_; rintro a2 c2 rfl _)
    | refine stS ?_ | (refine stB ?_; intro _) | (refine stC ?_; constructor <;> intro _))
          obtain ⟨q1, q2, q3⟩ := hv.out
          rw [q3]
          refine TQ.round (j + 1, .slice a2 (j + 1) c2, false, dn ++ [false]) ?_ ?_ rfl subA selF
          · exact ⟨by dsimp only; omega, q1, q2⟩
          · show s.length - (j + 1) < s.length - j
            omega
      · have hv := fin false (by unfold vowS; rw [if_neg h1, if_neg h2])
        have ne : ∀ d : UInt8, x ≠ d → decide (((x.toNat : Nat) : Int) = (d.toNat : Nat)) = false := fun d h => decide_eq_false fun e => h (UInt8.toNat_inj.1 (by omega))
        have n1 := ne 97 fun e => h1 (.inl e)
        have n2 := ne 101 fun e => h1 (.inr (.inl e))
        have n3 := ne 105 fun e => h1 (.inr (.inr (.inl e)))
        have n4 := ne 111 fun e => h1 (.inr (.inr (.inr (.inl e))))
        have n5 := ne 117 fun e => h1 (.inr (.inr (.inr (.inr e))))
        have n6 := ne 121 h2
        clear fin ne h1 h2
        · repeat' (first
    | refine wkQ ?_
    | (refine wkA 14 (v := .bool false) ?_ ?_; · exact Y.eql_b n1 rfl rfl)
    | (refine wkA 15 (v := .bool false) ?_ ?_; · exact Y.eql_b n2 rfl rfl)
    | (refine wkA 16 (v := .bool false) ?_ ?_; · exact Y.eql_b n3 rfl rfl)
    | (refine wkA 17 (v := .bool false) ?_ ?_; · exact Y.eql_b n4 rfl rfl)
    | (refine wkA 18 (v := .bool false) ?_ ?_; · exact Y.eql_b n5 rfl rfl)
    | (refine wkA 20 (v := .bool false) ?_ ?_; · exact Y.eql_b n6 rfl rfl)
    | refine wkV ?_
    | ((with_reducible apply TL.next_str); (· rfl); (· exact pkA); (· rfl); (all_goals (intro hnx; try (exfalso; omega))); rw [HD.out]; clear HD hnx)
    | ((with_reducible apply TL.build_slice); (· rfl); (· rfl); (· exact oneA); (· rfl); (· rfl); (· rfl); intro _) | refine TL.build_one (by rfl) (by first | rfl | assumption) (by rfl) (by rfl) (by rfl) (by rfl) (fun _ => ?_) | refine TL.build_empty (by rfl) (fun _ => ?_)
    | ((with_reducible apply TL.append (e := 4)); (· rfl); (· rfl); (· rfl); (· rfl); (· exact pkA); (· first | exact Src.obj pkA | exact Src.sl (by assumption) | exact Src.row pkA); (· first | rfl | exact (byteVals_length _).trans (Nat.mul_one _).symm); (· first | exact byteVals_all _ | exact oneA); (· exact ⟨by unfold maxLen; omega, by omega⟩); (· rfl); intro vf; refine Go.TL.TL.row_slice (v := vf) pkA ?_; rintro a2 c2 rfl _)
    | refine stS ?_ | (refine stB ?_; intro _) | (refine stC ?_; constructor <;> intro _))
          obtain ⟨q1, q2, q3⟩ := hv.out
          rw [q3]
          refine TQ.round (j + 1, .slice a2 (j + 1) c2, false, dn ++ [false]) ?_ ?_ rfl subA selF
          · exact ⟨by dsimp only; omega, q1, q2⟩
          · show s.length - (j + 1) < s.length - j
            omega
  · obtain rfl : j = s.length := by omega
    rw [List.drop_eq_nil_of_le (Nat.le_refl _), soundsF, List.append_nil] at hI
    subst hI
    clear ha hR hl0 hdn
    repeat' (first
    | refine wkQ ?_
    | refine wkV ?_
    | ((with_reducible apply TL.next_str); (· rfl); (· exact pkA); (· rfl); (all_goals (intro hnx; try (exfalso; omega))); clear hnx)
    | refine stS ?_ | (refine stB ?_; intro _) | (refine stC ?_; constructor <;> intro _))
    refine TQ.freeze pkA fun g2 hg2 HS => ?_
    refine TQ.endR1 (L' := L) Tryz.results335 rvA rfl (hg2) ?_ selF
    exact ⟨_, rfl, rfl, HS⟩
def idxT : List Bool → Nat → Int
  | [], _ => -1
  | b :: r, i => if b = true then (i : Int) else idxT r (i + 1)
theorem idxT_any : ∀ (l : List Bool) (i : Nat), decide (0 ≤ idxT l i) = l.any id ∧ -1 ≤ idxT l i ∧ idxT l i ≤ i + l.length
  | [], i => by rw [idxT]; exact ⟨rfl, by omega, by simp⟩
  | b :: r, i => by
    have h := idxT_any r (i + 1)
    rw [idxT, List.any_cons, List.length_cons]
    cases b with
    | true => rw [if_pos rfl]; exact ⟨by simp, by omega, by omega⟩
    | false => rw [if_neg (by decide)]; exact ⟨h.1, h.2.1, by omega⟩
set_option maxHeartbeats 8000000 in
theorem indexB_gives (l : List Bool) (v : Value) (g : Gh) (L : List Ent) (hS : Sl g v l.length 1 (boolC l)) (_hl : l.length ≤ 1000000) : Gives Tryz.prog 351 #[v, .bool true] g L (.int .i64 (idxT l 0)) := by
  refine .of (Does.of2 Tryz.func351 rfl Tryz.ntmps351 rfl ?_)
  obtain ⟨ao, cap, rfl⟩ := hS.slice
  obtain ⟨R, hR⟩ : ∃ R, R = idxT (l.drop 0) 0 := ⟨_, rfl⟩
  rw [show idxT l 0 = R from hR.symm]
  repeat' (first
    | refine wkQ ?_
    | refine wkV ?_
    | refine stS ?_ | (refine stB ?_; intro _) | (refine stC ?_; constructor <;> intro _))
  refine TC.loopL (fun i : Nat => i ≤ l.length ∧ idxT (l.drop i) i = R) (fun i => l.length - i) (fun i _ => [(8, .int .i64 (i : Nat)), (7, .int .i64 (l.length : Nat)), (0, .slice ao l.length cap), (1, .bool true)]) (fun _ => L) 0 ⟨Nat.zero_le _, hR.symm⟩ subA selF ?_
  clear hR
  rintro i ⟨hi, hR⟩
  try dsimp only at hi hR ⊢
  by_cases hlt : i < l.length
  · obtain ⟨c, hc⟩ : ∃ c, l[i]? = some c := ⟨_, List.getElem?_eq_getElem hlt⟩
    obtain ⟨b1, o1, rfl, hg⟩ := hS.elem hlt (by decide)
    have hld : g.cell b1 (o1 + i * 1) = some (.bool c) := hg 0 _ (boolC_get hc)
    rw [drop_of_get hc, idxT] at hR
    clear hS hg hc
    cases c with
    | true =>
      rw [if_pos rfl] at hR
      subst hR
      repeat' (first
    | refine wkQ ?_
    | refine wkV ?_
    | refine wkM ?_
    | refine stS ?_ | (refine stB ?_; intro _) | (refine stC ?_; constructor <;> intro _))
      refine TQ.endR1 (L' := L) Tryz.results351 rvA rfl (.refl _) ?_ selF
      exact ⟨rfl, rfl, rfl⟩
    | false =>
      rw [if_neg (by decide)] at hR
      repeat' (first
    | refine wkQ ?_
    | refine wkV ?_
    | refine wkM ?_
    | refine stS ?_ | (refine stB ?_; intro _) | (refine stC ?_; constructor <;> intro _))
      refine TQ.round (i + 1) ?_ ?_ rfl subA selF
      · exact ⟨by omega, hR⟩
      · show l.length - (i + 1) < l.length - i
        omega
  · obtain rfl : i = l.length := by omega
    rw [List.drop_eq_nil_of_le (Nat.le_refl _), idxT] at hR
    subst hR
    clear hS
    repeat' (first
    | refine wkQ ?_
    | refine wkV ?_
    | refine stS ?_ | (refine stB ?_; intro _) | (refine stC ?_; constructor <;> intro _))
    refine TQ.endR1 (L' := L) Tryz.results351 rvA rfl (.refl _) ?_ selF
    exact ⟨rfl, rfl, rfl⟩
theorem containsB_gives (l : List Bool) (v : Value) (g : Gh) (L : List Ent) (hS : Sl g v l.length 1 (boolC l)) (hl : l.length ≤ 1000000) : Gives Tryz.prog 334 #[v, .bool true] g L (.bool (l.any id)) := by
  refine .of (Does.of2 Tryz.func334 rfl Tryz.ntmps334 rfl ?_)
  have A := fun L => indexB_gives l v g L hS hl
  obtain ⟨ao, cap, rfl⟩ := hS.slice
  obtain ⟨h1, _, _⟩ := idxT_any l 0
  rw [← h1]
  generalize idxT l 0 = z at *
  clear hS h1
  repeat' (first
    | refine wkQ ?_
    | (refine wkA 8 (v := .bool (decide (0 ≤ z))) ?_ ?_; · exact Y.geq_b rfl rfl rfl)
    | refine wkV ?_
    | refine wkD (A _) ?_
    | refine stS ?_ | (refine stB ?_; intro _) | (refine stC ?_; constructor <;> intro _))
  refine TQ.endR1 (L' := L) Tryz.results334 rvA rfl (.refl _) ?_ selF
  exact ⟨rfl, rfl, rfl⟩
set_option maxHeartbeats 8000000 in
theorem voiced_gives (s : List UInt8) (g : Gh) (L : List Ent) (hs : s.length ≤ 1000000) (ha : ascB s) : Gives Tryz.prog 311 #[str s] g L (.bool (voicedL s)) := by
  refine .of (Does.of1 Tryz.func311 rfl Tryz.ntmps311 rfl ?_)
  have A := fun L => sounds_does s g L hs ha
  have hl := soundsL_len s
  unfold voicedL
  generalize soundsL s = l at *
  have C := fun g v L (h : Sl g v s.length 1 (boolC l)) => containsB_gives l v g L (by rw [hl]; exact h) (by omega)
  clear ha hl
  repeat' (first
    | refine wkQ ?_
    | refine wkV ?_
    | (refine TL.call (Enters.plain (by kernel_rfl) (by rfl)) (by rfl) (A _) ?_; (rintro e g2 Ln hg2 ⟨vs, k1, k2, k3⟩; have k2 := k2.symm; subst k1; subst k2; obtain ⟨a1, c1, rfl⟩ := k3.slice; refine CallK.ret ?_))
    | refine wkD (C _ _ _ (by assumption)) ?_
    | refine stS ?_ | (refine stB ?_; intro _) | (refine stC ?_; constructor <;> intro _))
  refine TQ.less hg2 ?_
  refine TQ.endR1 (L' := L) Tryz.results311 rvA rfl (.refl _) ?_ selF
  exact ⟨rfl, rfl, rfl⟩
set_option maxHeartbeats 16000000 in
theorem measure_gives (s : List UInt8) (g : Gh) (L : List Ent) (hs : s.length ≤ 1000000) (ha : ascB s) : Gives Tryz.prog 315 #[str s] g L (.int .i64 (measL s : Nat)) := by
  refine .of (Does.of1 Tryz.func315 rfl Tryz.ntmps315 rfl ?_)
  have A := fun L => sounds_does s g L hs ha
  have hl := soundsL_len s
  obtain ⟨R, hR⟩ : ∃ R, R = measF (soundsL s) false 0 := ⟨_, rfl⟩
  rw [show measL s = R from hR.symm]
  generalize soundsL s = l at *
  clear ha
  repeat' (first
    | refine wkQ ?_
    | refine wkV ?_
    | (refine TL.call (Enters.plain (by kernel_rfl) (by rfl)) (by rfl) (A _) ?_; (rintro e g2 Ln hg2 ⟨vs, k1, k2, k3⟩; have k2 := k2.symm; subst k1; subst k2; obtain ⟨a1, c1, rfl⟩ := k3.slice; have K3 := Hn.mk k3; clear k3; refine CallK.ret ?_))
    | refine stS ?_ | (refine stB ?_; intro _) | (refine stC ?_; constructor <;> intro _))
  have hS := K3.out
  refine TC.loopL (α := Nat × Bool × Nat) (fun z => z.1 ≤ l.length ∧ z.2.2 ≤ z.1 ∧ measF (l.drop z.1) z.2.1 z.2.2 = R) (fun z => l.length - z.1) (fun z _ => [(10, .int .i64 (z.1 : Nat)), (9, .int .i64 (s.length : Nat)), (8, .slice a1 s.length c1), (4, .bool z.2.1), (3, .int .i64 (z.2.2 : Nat))]) (fun _ => L) (0, false, 0) ⟨Nat.zero_le _, Nat.le_refl _, hR.symm⟩ subA selF ?_
  clear hR A K3
  rintro ⟨i, last, n⟩ ⟨hi, hn, hR⟩
  dsimp only at hi hn hR ⊢
  by_cases hlt : i < l.length
  · obtain ⟨c, hc⟩ : ∃ c, l[i]? = some c := ⟨_, List.getElem?_eq_getElem hlt⟩
    obtain ⟨b1, o1, rfl, hg⟩ := hS.elem (by rw [← hl]; exact hlt) (by decide)
    have hld : g2.cell b1 (o1 + i * 1) = some (.bool c) := hg 0 _ (boolC_get hc)
    rw [drop_of_get hc, measF] at hR
    clear hS hg hc
    cases last with
    | true =>
      cases c with
      | true =>
        repeat' (first
    | refine wkQ ?_
    | refine wkV ?_
    | refine wkM ?_
    | refine stS ?_ | (refine stB ?_; intro _) | (refine stC ?_; constructor <;> intro _))
        refine TQ.round (i + 1, true, n) ?_ ?_ rfl subA selF
        · exact ⟨by dsimp only; omega, by dsimp only; omega, hR⟩
        · show l.length - (i + 1) < l.length - i
          omega
      | false =>
        repeat' (first
    | refine wkQ ?_
    | refine wkV ?_
    | refine wkM ?_
    | refine stS ?_ | (refine stB ?_; intro _) | (refine stC ?_; constructor <;> intro _))
        refine TQ.round (i + 1, false, n + 1) ?_ ?_ rfl subA selF
        · exact ⟨by dsimp only; omega, by dsimp only; omega, hR⟩
        · show l.length - (i + 1) < l.length - i
          omega
    | false =>
      cases c with
      | true =>
        repeat' (first
    | refine wkQ ?_
    | refine wkV ?_
    | refine wkM ?_
    | refine stS ?_ | (refine stB ?_; intro _) | (refine stC ?_; constructor <;> intro _))
        refine TQ.round (i + 1, true, n) ?_ ?_ rfl subA selF
        · exact ⟨by dsimp only; omega, by dsimp only; omega, hR⟩
        · show l.length - (i + 1) < l.length - i
          omega
      | false =>
        repeat' (first
    | refine wkQ ?_
    | refine wkV ?_
    | refine wkM ?_
    | refine stS ?_ | (refine stB ?_; intro _) | (refine stC ?_; constructor <;> intro _))
        refine TQ.round (i + 1, false, n) ?_ ?_ rfl subA selF
        · exact ⟨by dsimp only; omega, by dsimp only; omega, hR⟩
        · show l.length - (i + 1) < l.length - i
          omega
  · obtain rfl : i = l.length := by omega
    rw [List.drop_eq_nil_of_le (Nat.le_refl _), measF] at hR
    subst hR
    clear hS
    repeat' (first
    | refine wkQ ?_
    | refine wkV ?_
    | refine stS ?_ | (refine stB ?_; intro _) | (refine stC ?_; constructor <;> intro _))
    refine TQ.less hg2 ?_
    refine TQ.endR1 (L' := L) Tryz.results315 rvA rfl (.refl _) ?_ selF
    exact ⟨rfl, rfl, rfl⟩
end Go.Proofs.YtgollffmdpejiaaGreatDoor
