/-
  The walk of stem's pasts.
-/
import Derived.Test.YtgollffmdpejiaaGreatDoorQz3
import Derived.Test.YtgollffmdpejiaaGreatDoorQz32
namespace Go.Proofs.YtgollffmdpejiaaGreatDoor
open Go.RowKit Go.TL
set_option maxRecDepth 100000

abbrev cutO (b : Nat) (v : Bool) : Ent := .obj b (.cells [.bool v].toArray 4 (0, 0))
set_option maxHeartbeats 8000000 in
theorem pastsOne_turns (a e : List UInt8) (b : Nat) (v : Bool) (g : Gh) (L : List Ent) (hs : a.length ≤ 1000000) (ha : ascB a) : Turns Tryz.prog 328 #[str a, str e, .pointer (some ⟨b, 0, none⟩)] g (cutO b v :: L) (.bool (if e = [101, 101, 100] then decide (0 < measL a) else voicedL a)) (cutO b (if e = [101, 101, 100] then v else voicedL a) :: L) := by
  refine .of (Does.of3 Tryz.func328 rfl Tryz.ntmps328 rfl ?_)
  by_cases he : e = [101, 101, 100]
  · rw [if_pos he, if_pos he]
    have M := fun L => measure_gives a g L hs ha
    generalize measL a = m at *
    repeat' (first
    | refine wkQ ?_
    | (refine wkA 7 (v := .bool true) ?_ ?_; · exact Y.eql_is (decide_eq_true he) rfl rfl)
    | (refine wkA 10 (v := .bool (decide (0 < m))) ?_ ?_; · exact Y.gtr_b (by rw [decide_eq_decide]; omega) rfl rfl)
    | refine wkV ?_
    | refine wkD (M _) ?_
    | refine stS ?_ | (refine stB ?_; intro _) | (refine stC ?_; constructor <;> intro _))
    refine TQ.endR1 (L' := (cutO b v :: L)) Tryz.results328 rvA rfl (.refl _) ?_ selF
    exact ⟨rfl, rfl, rfl⟩
  · rw [if_neg he, if_neg he]
    have V := fun L => voiced_gives a g L hs ha
    generalize voicedL a = c at *
    repeat' (first
    | refine wkQ ?_
    | (refine wkA 7 (v := .bool false) ?_ ?_; · exact Y.eql_is (decide_eq_false he) rfl rfl)
    | refine wkV ?_
    | refine wkD (V _) ?_
    | refine stS ?_ | (refine stB ?_; intro _) | (refine stC ?_; constructor <;> intro _))
    refine TQ.endR1 (L' := (cutO b c :: L)) Tryz.results328 rvA rfl (.refl _) ?_ selF
    exact ⟨rfl, rfl, rfl⟩
set_option maxHeartbeats 32000000 in
theorem pasts_gives (w : List UInt8) (g : Gh) (L : List Ent) (_hw : w.length ≤ 900000) (ha : ascB w) (hT : GSp g) : Gives Tryz.prog 306 #[str w] g L (str (pastsL w)) := by
  refine .of (Does.of1 Tryz.func306 rfl Tryz.ntmps306 rfl ?_)
  have RU := fun L => rules_ruB g L hT
  obtain ⟨B, hB⟩ : ∃ B, bestR w ruB ([], []) = B := ⟨_, rfl⟩
  have hbl := suf_len (bestR_suf w ruB ([], []) (suf_nil w))
  obtain ⟨hb2, hb3⟩ := plR_best pl_ruB w
  unfold pastsL
  rw [hB] at hbl hb2 hb3 ⊢
  clear hT
  by_cases h0 : B.1 = []
  · rw [if_pos h0]
    have ST := fun rv fv g L (h : Sl g rv ruB.length 2 (flatR ruB)) => step_none w ruB rv fv g L (by omega) (by decide) (plR_ok pl_ruB) h B hB h0
    clear ha hB
    repeat' (first
    | refine wkQ ?_
    | refine wkV ?_
    | (refine TL.call (Enters.plain (by kernel_rfl) (by rfl)) (by rfl) (RU _) ?_; (rintro e g1 Ln hg1 ⟨vr, k1, k2, k3⟩; have k2 := k2.symm; subst k1; subst k2; (have S1 := fun fv L => ST _ fv _ L k3; obtain ⟨ar, cr, rfl⟩ := k3.slice; clear k3 ST); refine CallK.ret ?_))
    | (refine wkA 9 (v := .func (.func 328) #[] [Value.pointer (some ⟨_, 0, none⟩)].toArray) ?_ ?_; · exact Y.make_func rfl)
    | refine wkD (S1 _ _) ?_
    | refine stS ?_ | (refine stB ?_; intro _) | (refine stC ?_; constructor <;> intro _))
    refine TQ.less hg1 ?_
    refine TQ.endR1 (L' := L) Tryz.results306 rvA rfl (.refl _) ?_ selF
    exact ⟨rfl, rfl, rfl⟩
  rw [if_neg h0]
  have hal : (aheadL w B.1).length ≤ 1000000 := Nat.le_trans (aheadL_len _ _) (by omega)
  have haa : ascB (aheadL w B.1) := ha.take _
  have hA := fun b g L => pastsOne_turns (aheadL w B.1) B.1 b false g L hal haa
  by_cases h1 : B.1 = [101, 101, 100]
  · rw [if_pos h1]
    rw [h1, if_pos rfl, if_pos rfl, ← h1] at hA
    have ST := fun rv b g L (h : Sl g rv ruB.length 2 (flatR ruB)) => step_turns w ruB rv 328 [.pointer (some ⟨b, 0, none⟩)] _ _ _ g L (by omega) (by decide) (plR_ok pl_ruB) h B hB h0 (by kernel_rfl) (hA b g)
    by_cases h2 : 0 < measL (aheadL w B.1)
    · rw [if_pos h2]
      rw [decide_eq_true h2, if_pos rfl] at ST
      generalize aheadL w B.1 ++ B.2 = R at *
      clear ha hA haa hB
      repeat' (first
    | refine wkQ ?_
    | refine wkV ?_
    | (refine TL.call (Enters.plain (by kernel_rfl) (by rfl)) (by rfl) (RU _) ?_; (rintro e g1 Ln hg1 ⟨vr, k1, k2, k3⟩; have k2 := k2.symm; subst k1; subst k2; (have S1 := fun b L => ST _ b _ L k3; obtain ⟨ar, cr, rfl⟩ := k3.slice; clear k3 ST); refine CallK.ret ?_))
    | (refine wkA 9 (v := .func (.func 328) #[] [Value.pointer (some ⟨_, 0, none⟩)].toArray) ?_ ?_; · exact Y.make_func rfl)
    | apply TL.turns (Enters.func (by rfl) (by kernel_rfl) (by rfl)) (S1 _ _) permA (by rfl) | apply TL.turns (Enters.plain (by kernel_rfl) (by rfl)) (S1 _ _) permA (by rfl)
    | refine stS ?_ | (refine stB ?_; intro _) | (refine stC ?_; constructor <;> intro _))
      refine TQ.less hg1 ?_
      refine TQ.endR1 (L' := L) Tryz.results306 rvA rfl (.refl _) ?_ selF
      exact ⟨rfl, rfl, rfl⟩
    · rw [if_neg h2]
      rw [decide_eq_false h2, if_neg (by decide)] at ST
      clear ha hA haa hB
      repeat' (first
    | refine wkQ ?_
    | refine wkV ?_
    | (refine TL.call (Enters.plain (by kernel_rfl) (by rfl)) (by rfl) (RU _) ?_; (rintro e g1 Ln hg1 ⟨vr, k1, k2, k3⟩; have k2 := k2.symm; subst k1; subst k2; (have S1 := fun b L => ST _ b _ L k3; obtain ⟨ar, cr, rfl⟩ := k3.slice; clear k3 ST); refine CallK.ret ?_))
    | (refine wkA 9 (v := .func (.func 328) #[] [Value.pointer (some ⟨_, 0, none⟩)].toArray) ?_ ?_; · exact Y.make_func rfl)
    | apply TL.turns (Enters.func (by rfl) (by kernel_rfl) (by rfl)) (S1 _ _) permA (by rfl) | apply TL.turns (Enters.plain (by kernel_rfl) (by rfl)) (S1 _ _) permA (by rfl)
    | refine stS ?_ | (refine stB ?_; intro _) | (refine stC ?_; constructor <;> intro _))
      refine TQ.less hg1 ?_
      refine TQ.endR1 (L' := L) Tryz.results306 rvA rfl (.refl _) ?_ selF
      exact ⟨rfl, rfl, rfl⟩
  rw [if_neg h1]
  rw [if_neg h1, if_neg h1] at hA
  have ST := fun rv b g L (h : Sl g rv ruB.length 2 (flatR ruB)) => step_turns w ruB rv 328 [.pointer (some ⟨b, 0, none⟩)] _ _ _ g L (by omega) (by decide) (plR_ok pl_ruB) h B hB h0 (by kernel_rfl) (hA b g)
  by_cases h2 : voicedL (aheadL w B.1) = true
  case neg =>
    rw [if_neg h2]
    rw [Bool.not_eq_true] at h2
    rw [h2, if_neg (by decide)] at ST
    clear ha hA haa hB
    repeat' (first
    | refine wkQ ?_
    | refine wkV ?_
    | (refine TL.call (Enters.plain (by kernel_rfl) (by rfl)) (by rfl) (RU _) ?_; (rintro e g1 Ln hg1 ⟨vr, k1, k2, k3⟩; have k2 := k2.symm; subst k1; subst k2; (have S1 := fun b L => ST _ b _ L k3; obtain ⟨ar, cr, rfl⟩ := k3.slice; clear k3 ST); refine CallK.ret ?_))
    | (refine wkA 9 (v := .func (.func 328) #[] [Value.pointer (some ⟨_, 0, none⟩)].toArray) ?_ ?_; · exact Y.make_func rfl)
    | apply TL.turns (Enters.func (by rfl) (by kernel_rfl) (by rfl)) (S1 _ _) permA (by rfl) | apply TL.turns (Enters.plain (by kernel_rfl) (by rfl)) (S1 _ _) permA (by rfl)
    | refine stS ?_ | (refine stB ?_; intro _) | (refine stC ?_; constructor <;> intro _))
    refine TQ.less hg1 ?_
    refine TQ.endR1 (L' := L) Tryz.results306 rvA rfl (.refl _) ?_ selF
    exact ⟨rfl, rfl, rfl⟩
  rw [if_pos h2]
  rw [h2, if_pos rfl] at ST
  have hRa : ascB (aheadL w B.1 ++ B.2) := haa.app hb2
  have hRl : (aheadL w B.1 ++ B.2).length ≤ 990000 := by
    rw [List.length_append]
    have := aheadL_len w B.1
    omega
  generalize aheadL w B.1 ++ B.2 = R at *
  have SU1 := fun g L => hasSuffix_gives R [97, 116] g L (by omega) (by simp)
  have SU2 := fun g L => hasSuffix_gives R [98, 108] g L (by omega) (by simp)
  have SU3 := fun g L => hasSuffix_gives R [105, 122] g L (by omega) (by simp)
  have AL := fun g L => alike_gives R g L (by omega) hRa
  have ME := fun g L => measure_gives R g L (by omega) hRa
  have CL := fun g L => closed_gives R g L (by omega) hRa
  have hadd : R.length + ([101] : List UInt8).length ≤ 9223372036854775807 := by simp; omega
  unfold pastW
  clear ha hA haa hB hRa
  cases s1 : sufB R [97, 116] with
  | true =>
    rw [s1] at SU1
    rw [if_pos (.inl rfl)]
    repeat' (first
    | refine wkQ ?_
    | (refine wkA 30 (v := str (R ++ [101])) ?_ ?_; · exact Y.add_str hadd)
    | refine wkV ?_
    | (refine TL.call (Enters.plain (by kernel_rfl) (by rfl)) (by rfl) (RU _) ?_; (rintro e g1 Ln hg1 ⟨vr, k1, k2, k3⟩; have k2 := k2.symm; subst k1; subst k2; (have S1 := fun b L => ST _ b _ L k3; obtain ⟨ar, cr, rfl⟩ := k3.slice; clear k3 ST); refine CallK.ret ?_))
    | (refine wkA 9 (v := .func (.func 328) #[] [Value.pointer (some ⟨_, 0, none⟩)].toArray) ?_ ?_; · exact Y.make_func rfl)
    | apply TL.turns (Enters.func (by rfl) (by kernel_rfl) (by rfl)) (S1 _ _) permA (by rfl) | apply TL.turns (Enters.plain (by kernel_rfl) (by rfl)) (S1 _ _) permA (by rfl)
    | refine wkD (SU1 _ _) ?_
    | refine stS ?_ | (refine stB ?_; intro _) | (refine stC ?_; constructor <;> intro _))
    refine TQ.less hg1 ?_
    refine TQ.endR1 (L' := L) Tryz.results306 rvA rfl (.refl _) ?_ selF
    exact ⟨rfl, rfl, rfl⟩
  | false =>
  cases s2 : sufB R [98, 108] with
  | true =>
    rw [s1] at SU1
    rw [s2] at SU2
    rw [if_pos (.inr (.inl rfl))]
    repeat' (first
    | refine wkQ ?_
    | (refine wkA 30 (v := str (R ++ [101])) ?_ ?_; · exact Y.add_str hadd)
    | refine wkV ?_
    | (refine TL.call (Enters.plain (by kernel_rfl) (by rfl)) (by rfl) (RU _) ?_; (rintro e g1 Ln hg1 ⟨vr, k1, k2, k3⟩; have k2 := k2.symm; subst k1; subst k2; (have S1 := fun b L => ST _ b _ L k3; obtain ⟨ar, cr, rfl⟩ := k3.slice; clear k3 ST); refine CallK.ret ?_))
    | (refine wkA 9 (v := .func (.func 328) #[] [Value.pointer (some ⟨_, 0, none⟩)].toArray) ?_ ?_; · exact Y.make_func rfl)
    | apply TL.turns (Enters.func (by rfl) (by kernel_rfl) (by rfl)) (S1 _ _) permA (by rfl) | apply TL.turns (Enters.plain (by kernel_rfl) (by rfl)) (S1 _ _) permA (by rfl)
    | refine wkD (SU1 _ _) ?_
    | refine wkD (SU2 _ _) ?_
    | refine stS ?_ | (refine stB ?_; intro _) | (refine stC ?_; constructor <;> intro _))
    refine TQ.less hg1 ?_
    refine TQ.endR1 (L' := L) Tryz.results306 rvA rfl (.refl _) ?_ selF
    exact ⟨rfl, rfl, rfl⟩
  | false =>
  cases s3 : sufB R [105, 122] with
  | true =>
    rw [s1] at SU1
    rw [s2] at SU2
    rw [s3] at SU3
    rw [if_pos (.inr (.inr rfl))]
    repeat' (first
    | refine wkQ ?_
    | (refine wkA 30 (v := str (R ++ [101])) ?_ ?_; · exact Y.add_str hadd)
    | refine wkV ?_
    | (refine TL.call (Enters.plain (by kernel_rfl) (by rfl)) (by rfl) (RU _) ?_; (rintro e g1 Ln hg1 ⟨vr, k1, k2, k3⟩; have k2 := k2.symm; subst k1; subst k2; (have S1 := fun b L => ST _ b _ L k3; obtain ⟨ar, cr, rfl⟩ := k3.slice; clear k3 ST); refine CallK.ret ?_))
    | (refine wkA 9 (v := .func (.func 328) #[] [Value.pointer (some ⟨_, 0, none⟩)].toArray) ?_ ?_; · exact Y.make_func rfl)
    | apply TL.turns (Enters.func (by rfl) (by kernel_rfl) (by rfl)) (S1 _ _) permA (by rfl) | apply TL.turns (Enters.plain (by kernel_rfl) (by rfl)) (S1 _ _) permA (by rfl)
    | refine wkD (SU1 _ _) ?_
    | refine wkD (SU2 _ _) ?_
    | refine wkD (SU3 _ _) ?_
    | refine stS ?_ | (refine stB ?_; intro _) | (refine stC ?_; constructor <;> intro _))
    refine TQ.less hg1 ?_
    refine TQ.endR1 (L' := L) Tryz.results306 rvA rfl (.refl _) ?_ selF
    exact ⟨rfl, rfl, rfl⟩
  | false =>
  rw [s1] at SU1
  rw [s2] at SU2
  rw [s3] at SU3
  rw [if_neg (by simp)]
  clear s1 s2 s3
  have hal2 : alikeL R = true → 1 < R.length := fun h => by
    unfold alikeL at h
    rw [Bool.and_eq_true] at h
    exact of_decide_eq_true h.1
  generalize alikeL R = al at *
  generalize closedL R = cl at *
  generalize measL R = me at *
  cases al with
  | false =>
    rw [if_neg (fun h => absurd h.1 (by decide))]
    clear hal2
    by_cases hm : me = 1
    · cases cl with
      | true =>
        rw [if_pos ⟨hm, rfl⟩]
        repeat' (first
    | refine wkQ ?_
    | (refine wkA 49 (v := .bool true) ?_ ?_; · exact Y.eql_b (decide_eq_true (by omega)) rfl rfl)
    | (refine wkA 55 (v := str (R ++ [101])) ?_ ?_; · exact Y.add_str hadd)
    | refine wkV ?_
    | (refine TL.call (Enters.plain (by kernel_rfl) (by rfl)) (by rfl) (RU _) ?_; (rintro e g1 Ln hg1 ⟨vr, k1, k2, k3⟩; have k2 := k2.symm; subst k1; subst k2; (have S1 := fun b L => ST _ b _ L k3; obtain ⟨ar, cr, rfl⟩ := k3.slice; clear k3 ST); refine CallK.ret ?_))
    | (refine wkA 9 (v := .func (.func 328) #[] [Value.pointer (some ⟨_, 0, none⟩)].toArray) ?_ ?_; · exact Y.make_func rfl)
    | apply TL.turns (Enters.func (by rfl) (by kernel_rfl) (by rfl)) (S1 _ _) permA (by rfl) | apply TL.turns (Enters.plain (by kernel_rfl) (by rfl)) (S1 _ _) permA (by rfl)
    | refine wkD (SU1 _ _) ?_
    | refine wkD (SU2 _ _) ?_
    | refine wkD (SU3 _ _) ?_
    | refine wkD (AL _ _) ?_
    | refine wkD (ME _ _) ?_
    | refine wkD (CL _ _) ?_
    | refine stS ?_ | (refine stB ?_; intro _) | (refine stC ?_; constructor <;> intro _))
        refine TQ.less hg1 ?_
        refine TQ.endR1 (L' := L) Tryz.results306 rvA rfl (.refl _) ?_ selF
        exact ⟨rfl, rfl, rfl⟩
      | false =>
        rw [if_neg (fun h => absurd h.2 (by decide))]
        repeat' (first
    | refine wkQ ?_
    | (refine wkA 49 (v := .bool true) ?_ ?_; · exact Y.eql_b (decide_eq_true (by omega)) rfl rfl)
    | refine wkV ?_
    | (refine TL.call (Enters.plain (by kernel_rfl) (by rfl)) (by rfl) (RU _) ?_; (rintro e g1 Ln hg1 ⟨vr, k1, k2, k3⟩; have k2 := k2.symm; subst k1; subst k2; (have S1 := fun b L => ST _ b _ L k3; obtain ⟨ar, cr, rfl⟩ := k3.slice; clear k3 ST); refine CallK.ret ?_))
    | (refine wkA 9 (v := .func (.func 328) #[] [Value.pointer (some ⟨_, 0, none⟩)].toArray) ?_ ?_; · exact Y.make_func rfl)
    | apply TL.turns (Enters.func (by rfl) (by kernel_rfl) (by rfl)) (S1 _ _) permA (by rfl) | apply TL.turns (Enters.plain (by kernel_rfl) (by rfl)) (S1 _ _) permA (by rfl)
    | refine wkD (SU1 _ _) ?_
    | refine wkD (SU2 _ _) ?_
    | refine wkD (SU3 _ _) ?_
    | refine wkD (AL _ _) ?_
    | refine wkD (ME _ _) ?_
    | refine wkD (CL _ _) ?_
    | refine stS ?_ | (refine stB ?_; intro _) | (refine stC ?_; constructor <;> intro _))
        refine TQ.less hg1 ?_
        refine TQ.endR1 (L' := L) Tryz.results306 rvA rfl (.refl _) ?_ selF
        exact ⟨rfl, rfl, rfl⟩
    · rw [if_neg (fun h => hm h.1)]
      repeat' (first
    | refine wkQ ?_
    | (refine wkA 49 (v := .bool false) ?_ ?_; · exact Y.eql_b (decide_eq_false (by omega)) rfl rfl)
    | refine wkV ?_
    | (refine TL.call (Enters.plain (by kernel_rfl) (by rfl)) (by rfl) (RU _) ?_; (rintro e g1 Ln hg1 ⟨vr, k1, k2, k3⟩; have k2 := k2.symm; subst k1; subst k2; (have S1 := fun b L => ST _ b _ L k3; obtain ⟨ar, cr, rfl⟩ := k3.slice; clear k3 ST); refine CallK.ret ?_))
    | (refine wkA 9 (v := .func (.func 328) #[] [Value.pointer (some ⟨_, 0, none⟩)].toArray) ?_ ?_; · exact Y.make_func rfl)
    | apply TL.turns (Enters.func (by rfl) (by kernel_rfl) (by rfl)) (S1 _ _) permA (by rfl) | apply TL.turns (Enters.plain (by kernel_rfl) (by rfl)) (S1 _ _) permA (by rfl)
    | refine wkD (SU1 _ _) ?_
    | refine wkD (SU2 _ _) ?_
    | refine wkD (SU3 _ _) ?_
    | refine wkD (AL _ _) ?_
    | refine wkD (ME _ _) ?_
    | refine stS ?_ | (refine stB ?_; intro _) | (refine stC ?_; constructor <;> intro _))
      refine TQ.less hg1 ?_
      refine TQ.endR1 (L' := L) Tryz.results306 rvA rfl (.refl _) ?_ selF
      exact ⟨rfl, rfl, rfl⟩
  | true =>
    have hn := hal2 rfl
    have hD := drop_last (s := R) (by omega)
    have hm3 : decide (R.getD (R.length - 1) 0 ∈ ([108, 115, 122] : List UInt8)) = decide (R.getD (R.length - 1) 0 = 108 ∨ R.getD (R.length - 1) 0 = 115 ∨ R.getD (R.length - 1) 0 = 122) := by simp
    have CO := fun g L => contains1_gives [108, 115, 122] (R.getD (R.length - 1) 0) g L
    rw [hm3, ← hD] at CO
    have w1 : IntKind.i64.wrap ((R.length : Int) - 1) = ((R.length - 1 : Nat) : Int) := by rw [IntWalk.i64_in _ (by omega)]; omega
    have W1 := Hn.mk w1
    clear w1 hal2 hD hm3
    by_cases hc : R.getD (R.length - 1) 0 = 108 ∨ R.getD (R.length - 1) 0 = 115 ∨ R.getD (R.length - 1) 0 = 122
    · rw [decide_eq_true hc] at CO
      rw [if_neg (fun h => h.2 hc)]
      clear hc
      by_cases hm : me = 1
      · cases cl with
        | true =>
          rw [if_pos ⟨hm, rfl⟩]
          repeat' (first
    | refine wkQ ?_
    | (refine wkA 37 (v := .int .i64 ((R.length - 1 : Nat) : Int)) ?_ ?_; · exact Y.sub rfl rfl W1.out)
    | (refine wkA 38 (v := str (R.drop (R.length - 1))) ?_ ?_; · exact Y.slice_str_from rfl rfl rfl (by omega))
    | (refine wkA 49 (v := .bool true) ?_ ?_; · exact Y.eql_b (decide_eq_true (by omega)) rfl rfl)
    | (refine wkA 55 (v := str (R ++ [101])) ?_ ?_; · exact Y.add_str hadd)
    | refine wkV ?_
    | (refine TL.call (Enters.plain (by kernel_rfl) (by rfl)) (by rfl) (RU _) ?_; (rintro e g1 Ln hg1 ⟨vr, k1, k2, k3⟩; have k2 := k2.symm; subst k1; subst k2; (have S1 := fun b L => ST _ b _ L k3; obtain ⟨ar, cr, rfl⟩ := k3.slice; clear k3 ST); refine CallK.ret ?_))
    | (refine wkA 9 (v := .func (.func 328) #[] [Value.pointer (some ⟨_, 0, none⟩)].toArray) ?_ ?_; · exact Y.make_func rfl)
    | apply TL.turns (Enters.func (by rfl) (by kernel_rfl) (by rfl)) (S1 _ _) permA (by rfl) | apply TL.turns (Enters.plain (by kernel_rfl) (by rfl)) (S1 _ _) permA (by rfl)
    | refine wkD (SU1 _ _) ?_
    | refine wkD (SU2 _ _) ?_
    | refine wkD (SU3 _ _) ?_
    | refine wkD (AL _ _) ?_
    | refine wkD (CO _ _) ?_
    | refine wkD (ME _ _) ?_
    | refine wkD (CL _ _) ?_
    | refine stS ?_ | (refine stB ?_; intro _) | (refine stC ?_; constructor <;> intro _))
          refine TQ.less hg1 ?_
          refine TQ.endR1 (L' := L) Tryz.results306 rvA rfl (.refl _) ?_ selF
          exact ⟨rfl, rfl, rfl⟩
        | false =>
          rw [if_neg (fun h => absurd h.2 (by decide))]
          repeat' (first
    | refine wkQ ?_
    | (refine wkA 37 (v := .int .i64 ((R.length - 1 : Nat) : Int)) ?_ ?_; · exact Y.sub rfl rfl W1.out)
    | (refine wkA 38 (v := str (R.drop (R.length - 1))) ?_ ?_; · exact Y.slice_str_from rfl rfl rfl (by omega))
    | (refine wkA 49 (v := .bool true) ?_ ?_; · exact Y.eql_b (decide_eq_true (by omega)) rfl rfl)
    | refine wkV ?_
    | (refine TL.call (Enters.plain (by kernel_rfl) (by rfl)) (by rfl) (RU _) ?_; (rintro e g1 Ln hg1 ⟨vr, k1, k2, k3⟩; have k2 := k2.symm; subst k1; subst k2; (have S1 := fun b L => ST _ b _ L k3; obtain ⟨ar, cr, rfl⟩ := k3.slice; clear k3 ST); refine CallK.ret ?_))
    | (refine wkA 9 (v := .func (.func 328) #[] [Value.pointer (some ⟨_, 0, none⟩)].toArray) ?_ ?_; · exact Y.make_func rfl)
    | apply TL.turns (Enters.func (by rfl) (by kernel_rfl) (by rfl)) (S1 _ _) permA (by rfl) | apply TL.turns (Enters.plain (by kernel_rfl) (by rfl)) (S1 _ _) permA (by rfl)
    | refine wkD (SU1 _ _) ?_
    | refine wkD (SU2 _ _) ?_
    | refine wkD (SU3 _ _) ?_
    | refine wkD (AL _ _) ?_
    | refine wkD (CO _ _) ?_
    | refine wkD (ME _ _) ?_
    | refine wkD (CL _ _) ?_
    | refine stS ?_ | (refine stB ?_; intro _) | (refine stC ?_; constructor <;> intro _))
          refine TQ.less hg1 ?_
          refine TQ.endR1 (L' := L) Tryz.results306 rvA rfl (.refl _) ?_ selF
          exact ⟨rfl, rfl, rfl⟩
      · rw [if_neg (fun h => hm h.1)]
        repeat' (first
    | refine wkQ ?_
    | (refine wkA 37 (v := .int .i64 ((R.length - 1 : Nat) : Int)) ?_ ?_; · exact Y.sub rfl rfl W1.out)
    | (refine wkA 38 (v := str (R.drop (R.length - 1))) ?_ ?_; · exact Y.slice_str_from rfl rfl rfl (by omega))
    | (refine wkA 49 (v := .bool false) ?_ ?_; · exact Y.eql_b (decide_eq_false (by omega)) rfl rfl)
    | refine wkV ?_
    | (refine TL.call (Enters.plain (by kernel_rfl) (by rfl)) (by rfl) (RU _) ?_; (rintro e g1 Ln hg1 ⟨vr, k1, k2, k3⟩; have k2 := k2.symm; subst k1; subst k2; (have S1 := fun b L => ST _ b _ L k3; obtain ⟨ar, cr, rfl⟩ := k3.slice; clear k3 ST); refine CallK.ret ?_))
    | (refine wkA 9 (v := .func (.func 328) #[] [Value.pointer (some ⟨_, 0, none⟩)].toArray) ?_ ?_; · exact Y.make_func rfl)
    | apply TL.turns (Enters.func (by rfl) (by kernel_rfl) (by rfl)) (S1 _ _) permA (by rfl) | apply TL.turns (Enters.plain (by kernel_rfl) (by rfl)) (S1 _ _) permA (by rfl)
    | refine wkD (SU1 _ _) ?_
    | refine wkD (SU2 _ _) ?_
    | refine wkD (SU3 _ _) ?_
    | refine wkD (AL _ _) ?_
    | refine wkD (CO _ _) ?_
    | refine wkD (ME _ _) ?_
    | refine stS ?_ | (refine stB ?_; intro _) | (refine stC ?_; constructor <;> intro _))
        refine TQ.less hg1 ?_
        refine TQ.endR1 (L' := L) Tryz.results306 rvA rfl (.refl _) ?_ selF
        exact ⟨rfl, rfl, rfl⟩
    · rw [decide_eq_false hc] at CO
      rw [if_pos ⟨rfl, hc⟩]
      clear hc
      repeat' (first
    | refine wkQ ?_
    | (refine wkA 37 (v := .int .i64 ((R.length - 1 : Nat) : Int)) ?_ ?_; · exact Y.sub rfl rfl W1.out)
    | (refine wkA 38 (v := str (R.drop (R.length - 1))) ?_ ?_; · exact Y.slice_str_from rfl rfl rfl (by omega))
    | (refine wkA 44 (v := .int .i64 ((R.length - 1 : Nat) : Int)) ?_ ?_; · exact Y.sub rfl rfl W1.out)
    | (refine wkA 45 (v := str (R.take (R.length - 1))) ?_ ?_; · exact Y.slice_str_to rfl rfl rfl (by omega))
    | refine wkV ?_
    | (refine TL.call (Enters.plain (by kernel_rfl) (by rfl)) (by rfl) (RU _) ?_; (rintro e g1 Ln hg1 ⟨vr, k1, k2, k3⟩; have k2 := k2.symm; subst k1; subst k2; (have S1 := fun b L => ST _ b _ L k3; obtain ⟨ar, cr, rfl⟩ := k3.slice; clear k3 ST); refine CallK.ret ?_))
    | (refine wkA 9 (v := .func (.func 328) #[] [Value.pointer (some ⟨_, 0, none⟩)].toArray) ?_ ?_; · exact Y.make_func rfl)
    | apply TL.turns (Enters.func (by rfl) (by kernel_rfl) (by rfl)) (S1 _ _) permA (by rfl) | apply TL.turns (Enters.plain (by kernel_rfl) (by rfl)) (S1 _ _) permA (by rfl)
    | refine wkD (SU1 _ _) ?_
    | refine wkD (SU2 _ _) ?_
    | refine wkD (SU3 _ _) ?_
    | refine wkD (AL _ _) ?_
    | refine wkD (CO _ _) ?_
    | refine stS ?_ | (refine stB ?_; intro _) | (refine stC ?_; constructor <;> intro _))
      refine TQ.less hg1 ?_
      refine TQ.endR1 (L' := L) Tryz.results306 rvA rfl (.refl _) ?_ selF
      exact ⟨rfl, rfl, rfl⟩
end Go.Proofs.YtgollffmdpejiaaGreatDoor
