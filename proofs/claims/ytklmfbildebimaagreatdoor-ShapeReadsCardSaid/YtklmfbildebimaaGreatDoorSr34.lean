/-
  The document's edges of a shape, walked.
-/
import Derived.Test.YtklmfbildebimaaGreatDoorSr2
import Derived.Test.YtklmfbildebimaaGreatDoorSr33
namespace Go.Proofs.YtklmfbildebimaaGreatDoor
open Go.RowKit Go.TL
set_option maxRecDepth 100000

theorem flatE_snoc {es : List (Pt × Pt)} {i : Nat} {e : Pt × Pt} (h : es[i]? = some e) : flatE (es.take (i + 1)) = flatE (es.take i) ++ edC e := flatE_take h
theorem ring_at {l : List Pt} {i : Nat} {a b : Pt} (ha : l[i]? = some a) (hb : l[i + 1]? = some b) : (ringE l)[i]? = some (a, b) :=
  ringE_get ha (by rw [Nat.mod_eq_of_lt (List.getElem?_eq_some_iff.1 hb).1]; exact hb)
theorem ring_last {l : List Pt} {a b : Pt} (_h0 : 0 < l.length) (ha : l[l.length - 1]? = some a) (hb : l[0]? = some b) : (ringE l)[l.length - 1]? = some (a, b) :=
  ringE_get ha (by rw [show l.length - 1 + 1 = l.length by omega, Nat.mod_self]; exact hb)
set_option maxHeartbeats 16000000 in
theorem rpart9_does (k : Int) (l : List Pt) (v : Value) (g : Gh) (L : List Ent) (hS : Sl g v l.length 2 (flatP l)) (_hl : l.length ≤ 1000000) : Does Tryz.prog 59 #[.int .i64 k, v] g L (fun e g' L' => ∃ v', e = .returned v' ∧ L' = L ∧ Sl g' v' (partE k l).length 4 (flatE (partE k l))) := by
  refine Does.of2 Tryz.func59 rfl Tryz.ntmps59 rfl ?_
  obtain ⟨ao, cap, rfl⟩ := hS.slice
  have HS := Hn.mk hS
  clear hS
  repeat' (first
    | refine wkQ ?_
    | refine wkV ?_
    | refine stS ?_ | (refine stB ?_; intro _) | (refine stC ?_; refine And.intro (fun _ => ?_) (fun _ => ?_)))
  refine TC.row_nil 110 4 ?_
  refine TC.loop (fun z : Nat × Value => z.1 ≤ l.length ∧ (z.1 = 0 ∨ z.1 + 1 ≤ l.length)) (fun z => l.length - z.1) (fun z => [(6, .int .i64 (z.1 : Nat)), (5, z.2), (1, .slice ao l.length cap), (0, .int .i64 k)]) (fun _ => g) (fun z => .row 110 4 z.2 z.1 (flatE ((ringE l).take z.1)) :: L) (0, .slice none 0 0) ⟨Nat.zero_le _, .inl rfl⟩ rfl subA selF ?_
  rintro ⟨i, v⟩ ⟨hi, hI⟩
  dsimp only at hi hI ⊢
  refine TC.row_slice (v := v) pkA ?_
  rintro av cv rfl _
  by_cases hlt : i + 1 < l.length
  · obtain ⟨p, hp⟩ : ∃ p, l[i]? = some p := ⟨_, List.getElem?_eq_getElem (show i < l.length by omega)⟩
    obtain ⟨q, hq⟩ : ∃ p, l[i + 1]? = some p := ⟨_, List.getElem?_eq_getElem hlt⟩
    obtain ⟨b1, o1, rfl, hg⟩ := HS.out.elem (i := i) (by omega) (by decide)
    obtain ⟨b2, o2, he, hg2⟩ := HS.out.elem (i := i + 1) hlt (by decide)
    obtain ⟨rfl, rfl⟩ : b1 = b2 ∧ o1 = o2 := by simpa using he
    have hld := pt_cells hg (flatP_get hp).1 (flatP_get hp).2
    have hld2 := pt_cells hg2 (flatP_get hq).1 (flatP_get hq).2
    have hll : [Value.int .i64 p.1, .int .i64 p.2].length = 2 := rfl
    have hll2 : [Value.int .i64 q.1, .int .i64 q.2].length = 2 := rfl
    have hkey : ∀ y, y = edC (p, q) → flatE ((ringE l).take i) ++ y = flatE ((ringE l).take (i + 1)) := fun y h => by rw [h, flatE_snoc (ring_at hp hq)]
    have hw : Hn (IntKind.i64.wrap ((i : Nat) + 1) = ((i + 1 : Nat) : Int)) := ⟨by rw [IntWalk.i64_in _ (by omega)]; rfl⟩
    have HK := Hn.mk hkey
    generalize flatE ((ringE l).take i) = T0 at *
    clear hg hg2 he hp hq hkey
    repeat' (first
    | refine wkQ ?_
    | refine wkV ?_
    | refine stS ?_ | (refine stB ?_; intro _) | (refine stC ?_; refine And.intro (fun _ => ?_) (fun _ => ?_))
    | ((with_reducible apply TL.build_slice); (· rfl); (· rfl); (· exact oneA); (· rfl); (· rfl); (· rfl); intro _) | refine TL.build_one (by rfl) (by first | rfl | assumption) (by rfl) (by rfl) (by rfl) (by rfl) (fun _ => ?_) | refine TL.build_empty (by rfl) (fun _ => ?_)
    | ((with_reducible apply TL.append (e := 110)); (· rfl); (· rfl); (· rfl); (· rfl); (· exact pkA); (· first | exact Src.obj pkA | exact Src.sl (by assumption) | exact Src.row pkA); (· first | rfl | exact (byteVals_length _).trans (Nat.mul_one _).symm); (· first | exact byteVals_all _ | exact oneA); (· exact ⟨by unfold maxLen; omega, by omega⟩); (· rfl); intro vf; refine Go.TL.TL.row_slice (v := vf) pkA ?_; rintro a2 c2 rfl _)
    | ((with_reducible apply TA.takeN 0); (· rfl); (· decide +kernel); (· rfl); (· first | first | exact Y.add rfl rfl hw.out | exact Y.build_pp rfl rfl | (first | exact yQ | exact yA | exact yB | exact yM | exact yV)); (· decide +kernel); (· decide +kernel); (· rfl); (· exact fun _ _ _ h => h); (· rfl))
    | ((with_reducible apply TA.takeN 1); (· rfl); (· decide +kernel); (· rfl); (· first | first | exact Y.add rfl rfl hw.out | exact Y.build_pp rfl rfl | (first | exact yQ | exact yA | exact yB | exact yM | exact yV)); (· decide +kernel); (· decide +kernel); (· rfl); (· exact fun _ _ _ h => h); (· rfl))
    | ((with_reducible apply TA.takeN 2); (· rfl); (· decide +kernel); (· rfl); (· first | first | exact Y.add rfl rfl hw.out | exact Y.build_pp rfl rfl | (first | exact yQ | exact yA | exact yB | exact yM | exact yV)); (· decide +kernel); (· decide +kernel); (· rfl); (· exact fun _ _ _ h => h); (· rfl))
    | ((with_reducible apply TA.takeN 3); (· rfl); (· decide +kernel); (· rfl); (· first | first | exact Y.add rfl rfl hw.out | exact Y.build_pp rfl rfl | (first | exact yQ | exact yA | exact yB | exact yM | exact yV)); (· decide +kernel); (· decide +kernel); (· rfl); (· exact fun _ _ _ h => h); (· rfl))
    | ((with_reducible apply TA.take_gN 0); (· rfl); (· decide +kernel); (· rfl); (· rfl); (· rfl); (· (first | first | exact Y.add rfl rfl hw.out | exact Y.build_pp rfl rfl | (first | exact yQ | exact yA | exact yB | exact yM | exact yV))); (· decide +kernel); (· decide +kernel); (· rfl); (· exact fun _ _ _ h => h); (· rfl))
    | ((with_reducible apply TA.take_gN 1); (· rfl); (· decide +kernel); (· rfl); (· rfl); (· rfl); (· (first | first | exact Y.add rfl rfl hw.out | exact Y.build_pp rfl rfl | (first | exact yQ | exact yA | exact yB | exact yM | exact yV))); (· decide +kernel); (· decide +kernel); (· rfl); (· exact fun _ _ _ h => h); (· rfl))
    | ((with_reducible apply TA.take_gN 2); (· rfl); (· decide +kernel); (· rfl); (· rfl); (· rfl); (· (first | first | exact Y.add rfl rfl hw.out | exact Y.build_pp rfl rfl | (first | exact yQ | exact yA | exact yB | exact yM | exact yV))); (· decide +kernel); (· decide +kernel); (· rfl); (· exact fun _ _ _ h => h); (· rfl))
    | ((with_reducible apply TA.take_gN 3); (· rfl); (· decide +kernel); (· rfl); (· rfl); (· rfl); (· (first | first | exact Y.add rfl rfl hw.out | exact Y.build_pp rfl rfl | (first | exact yQ | exact yA | exact yB | exact yM | exact yV))); (· decide +kernel); (· decide +kernel); (· rfl); (· exact fun _ _ _ h => h); (· rfl))
    | refine wkX0 ?_
    | refine wkX1 ?_
    | refine wkX2 ?_
    | refine wkX3 ?_
    | ((with_reducible apply TA.oneN 0); (· rfl); (· rfl); (· decide +kernel); (· rfl))
    | ((with_reducible apply TA.oneN 1); (· rfl); (· rfl); (· decide +kernel); (· rfl))
    | ((with_reducible apply TA.oneN 2); (· rfl); (· rfl); (· decide +kernel); (· rfl))
    | ((with_reducible apply TA.oneN 3); (· rfl); (· rfl); (· decide +kernel); (· rfl))
    | refine TQ.any leF selF ?_
    | refine TC.region_any 14 (L) (by kernel_rfl) rfl selF ?_ | refine TA.done (by decide +kernel) ?_ | refine TQ.any_panic ?_)
    rw [HK.out _ rfl]
    refine TQ.round (i + 1, .slice a2 (i + 1) c2) ?_ ?_ rfl subA selF
    · exact ⟨by dsimp only; omega, .inr (by dsimp only; omega)⟩
    · show l.length - (i + 1) < l.length - i
      omega
  · by_cases h0 : l.length = 0
    · obtain rfl : l = [] := List.eq_nil_of_length_eq_zero h0
      obtain rfl : i = 0 := by simp at hi; exact hi
      have hz : partE k [] = [] := by unfold partE; split <;> rfl
      have bz : decide ((0 : Int) < (([] : List Pt).length : Nat)) = false := rfl
      rw [hz]
      clear hI
      by_cases hk : k = 1
      · have bk : (!decide (k = 1)) = false := by rw [decide_eq_true hk]; rfl
        repeat' (first
    | refine wkQ ?_
    | ((with_reducible apply TL.pure (d := 28) (v := .bool false)); (· exact Y.neq_b bk rfl rfl); (· rfl)) | ((with_reducible apply TW.pure (d := 28) (v := .bool false)); (· exact Y.neq_b bk rfl rfl); (· rfl))
    | refine wkV ?_
    | refine stS ?_ | (refine stB ?_; intro _) | (refine stC ?_; refine And.intro (fun _ => ?_) (fun _ => ?_)))
        refine TQ.freeze .here fun g2 hg2 HS2 => ?_
        refine TQ.endR1 (L' := L) Tryz.results59 rvA rfl (hg2) ?_ selF
        exact ⟨_, rfl, rfl, HS2⟩
      · have bk : (!decide (k = 1)) = true := by rw [decide_eq_false hk]; rfl
        repeat' (first
    | refine wkQ ?_
    | ((with_reducible apply TL.pure (d := 28) (v := .bool true)); (· exact Y.neq_b bk rfl rfl); (· rfl)) | ((with_reducible apply TW.pure (d := 28) (v := .bool true)); (· exact Y.neq_b bk rfl rfl); (· rfl))
    | ((with_reducible apply TL.pure (d := 32) (v := .bool false)); (· exact Y.gtr_b bz rfl rfl); (· rfl)) | ((with_reducible apply TW.pure (d := 32) (v := .bool false)); (· exact Y.gtr_b bz rfl rfl); (· rfl))
    | refine wkV ?_
    | refine stS ?_ | (refine stB ?_; intro _) | (refine stC ?_; refine And.intro (fun _ => ?_) (fun _ => ?_)))
        refine TQ.freeze .here fun g2 hg2 HS2 => ?_
        refine TQ.endR1 (L' := L) Tryz.results59 rvA rfl (hg2) ?_ selF
        exact ⟨_, rfl, rfl, HS2⟩
    · obtain rfl : i = l.length - 1 := by omega
      have bz : decide ((0 : Int) < (l.length : Nat)) = true := decide_eq_true (by omega)
      by_cases hk : k = 1
      · have bk : (!decide (k = 1)) = false := by rw [decide_eq_true hk]; rfl
        have hp : partE k l = (ringE l).take (l.length - 1) := by unfold partE; rw [if_pos hk]
        have hpl : (partE k l).length = l.length - 1 := by rw [partE_len, if_pos hk]
        rw [hpl, hp]
        repeat' (first
    | refine wkQ ?_
    | ((with_reducible apply TL.pure (d := 28) (v := .bool false)); (· exact Y.neq_b bk rfl rfl); (· rfl)) | ((with_reducible apply TW.pure (d := 28) (v := .bool false)); (· exact Y.neq_b bk rfl rfl); (· rfl))
    | refine wkV ?_
    | refine stS ?_ | (refine stB ?_; intro _) | (refine stC ?_; refine And.intro (fun _ => ?_) (fun _ => ?_)))
        refine TQ.freeze .here fun g2 hg2 HS2 => ?_
        refine TQ.endR1 (L' := L) Tryz.results59 rvA rfl (hg2) ?_ selF
        exact ⟨_, rfl, rfl, HS2⟩
      · have bk : (!decide (k = 1)) = true := by rw [decide_eq_false hk]; rfl
        have hp : partE k l = ringE l := by unfold partE; rw [if_neg hk]
        obtain ⟨p, hp1⟩ : ∃ p, l[l.length - 1]? = some p := ⟨_, List.getElem?_eq_getElem (show l.length - 1 < l.length by omega)⟩
        obtain ⟨q, hq1⟩ : ∃ p, l[0]? = some p := ⟨_, List.getElem?_eq_getElem (show 0 < l.length by omega)⟩
        obtain ⟨b1, o1, rfl, hg⟩ := HS.out.elem (i := l.length - 1) (by omega) (by decide)
        obtain ⟨b2, o2, he, hg2⟩ := HS.out.elem (i := 0) (by omega) (by decide)
        obtain ⟨rfl, rfl⟩ : b1 = b2 ∧ o1 = o2 := by simpa using he
        have hld := pt_cells hg (flatP_get hp1).1 (flatP_get hp1).2
        have hld2 := pt_cells hg2 (flatP_get hq1).1 (flatP_get hq1).2
        have hll : [Value.int .i64 p.1, .int .i64 p.2].length = 2 := rfl
        have hll2 : [Value.int .i64 q.1, .int .i64 q.2].length = 2 := rfl
        have hkey : ∀ y, y = edC (p, q) → flatE ((ringE l).take (l.length - 1)) ++ y = flatE (partE k l) := fun y h => by
          rw [h, ← flatE_snoc (ring_last (by omega) hp1 hq1), hp, show l.length - 1 + 1 = l.length by omega, ← ringE_len l, List.take_length]
        have hpl : (partE k l).length = l.length - 1 + 1 := by rw [hp, ringE_len]; omega
        have hw : Hn (IntKind.i64.wrap ((l.length : Nat) - 1) = ((l.length - 1 : Nat) : Int)) := ⟨by rw [IntWalk.i64_in _ (by omega)]; omega⟩
        have HK := Hn.mk hkey
        rw [hpl]
        generalize flatE ((ringE l).take (l.length - 1)) = T0 at *
        clear hg hg2 he hp1 hq1 hkey hp hpl hI hi
        repeat' (first
    | refine wkQ ?_
    | ((with_reducible apply TL.pure (d := 28) (v := .bool true)); (· exact Y.neq_b bk rfl rfl); (· rfl)) | ((with_reducible apply TW.pure (d := 28) (v := .bool true)); (· exact Y.neq_b bk rfl rfl); (· rfl))
    | ((with_reducible apply TL.pure (d := 32) (v := .bool true)); (· exact Y.gtr_b bz rfl rfl); (· rfl)) | ((with_reducible apply TW.pure (d := 32) (v := .bool true)); (· exact Y.gtr_b bz rfl rfl); (· rfl))
    | refine wkV ?_
    | refine stS ?_ | (refine stB ?_; intro _) | (refine stC ?_; refine And.intro (fun _ => ?_) (fun _ => ?_))
    | ((with_reducible apply TL.build_slice); (· rfl); (· rfl); (· exact oneA); (· rfl); (· rfl); (· rfl); intro _) | refine TL.build_one (by rfl) (by first | rfl | assumption) (by rfl) (by rfl) (by rfl) (by rfl) (fun _ => ?_) | refine TL.build_empty (by rfl) (fun _ => ?_)
    | ((with_reducible apply TL.append (e := 110)); (· rfl); (· rfl); (· rfl); (· rfl); (· exact pkA); (· first | exact Src.obj pkA | exact Src.sl (by assumption) | exact Src.row pkA); (· first | rfl | exact (byteVals_length _).trans (Nat.mul_one _).symm); (· first | exact byteVals_all _ | exact oneA); (· exact ⟨by unfold maxLen; omega, by omega⟩); (· rfl); intro vf; refine Go.TL.TL.row_slice (v := vf) pkA ?_; rintro a2 c2 rfl _)
    | ((with_reducible apply TA.takeN 0); (· rfl); (· decide +kernel); (· rfl); (· first | first | exact Y.sub rfl rfl hw.out | exact Y.build_pp rfl rfl | (first | exact yQ | exact yA | exact yB | exact yM | exact yV)); (· decide +kernel); (· decide +kernel); (· rfl); (· exact fun _ _ _ h => h); (· rfl))
    | ((with_reducible apply TA.takeN 1); (· rfl); (· decide +kernel); (· rfl); (· first | first | exact Y.sub rfl rfl hw.out | exact Y.build_pp rfl rfl | (first | exact yQ | exact yA | exact yB | exact yM | exact yV)); (· decide +kernel); (· decide +kernel); (· rfl); (· exact fun _ _ _ h => h); (· rfl))
    | ((with_reducible apply TA.takeN 2); (· rfl); (· decide +kernel); (· rfl); (· first | first | exact Y.sub rfl rfl hw.out | exact Y.build_pp rfl rfl | (first | exact yQ | exact yA | exact yB | exact yM | exact yV)); (· decide +kernel); (· decide +kernel); (· rfl); (· exact fun _ _ _ h => h); (· rfl))
    | ((with_reducible apply TA.takeN 3); (· rfl); (· decide +kernel); (· rfl); (· first | first | exact Y.sub rfl rfl hw.out | exact Y.build_pp rfl rfl | (first | exact yQ | exact yA | exact yB | exact yM | exact yV)); (· decide +kernel); (· decide +kernel); (· rfl); (· exact fun _ _ _ h => h); (· rfl))
    | ((with_reducible apply TA.take_gN 0); (· rfl); (· decide +kernel); (· rfl); (· rfl); (· rfl); (· (first | first | exact Y.sub rfl rfl hw.out | exact Y.build_pp rfl rfl | (first | exact yQ | exact yA | exact yB | exact yM | exact yV))); (· decide +kernel); (· decide +kernel); (· rfl); (· exact fun _ _ _ h => h); (· rfl))
    | ((with_reducible apply TA.take_gN 1); (· rfl); (· decide +kernel); (· rfl); (· rfl); (· rfl); (· (first | first | exact Y.sub rfl rfl hw.out | exact Y.build_pp rfl rfl | (first | exact yQ | exact yA | exact yB | exact yM | exact yV))); (· decide +kernel); (· decide +kernel); (· rfl); (· exact fun _ _ _ h => h); (· rfl))
    | ((with_reducible apply TA.take_gN 2); (· rfl); (· decide +kernel); (· rfl); (· rfl); (· rfl); (· (first | first | exact Y.sub rfl rfl hw.out | exact Y.build_pp rfl rfl | (first | exact yQ | exact yA | exact yB | exact yM | exact yV))); (· decide +kernel); (· decide +kernel); (· rfl); (· exact fun _ _ _ h => h); (· rfl))
    | ((with_reducible apply TA.take_gN 3); (· rfl); (· decide +kernel); (· rfl); (· rfl); (· rfl); (· (first | first | exact Y.sub rfl rfl hw.out | exact Y.build_pp rfl rfl | (first | exact yQ | exact yA | exact yB | exact yM | exact yV))); (· decide +kernel); (· decide +kernel); (· rfl); (· exact fun _ _ _ h => h); (· rfl))
    | refine wkX0 ?_
    | refine wkX1 ?_
    | refine wkX2 ?_
    | refine wkX3 ?_
    | ((with_reducible apply TA.oneN 0); (· rfl); (· rfl); (· decide +kernel); (· rfl))
    | ((with_reducible apply TA.oneN 1); (· rfl); (· rfl); (· decide +kernel); (· rfl))
    | ((with_reducible apply TA.oneN 2); (· rfl); (· rfl); (· decide +kernel); (· rfl))
    | ((with_reducible apply TA.oneN 3); (· rfl); (· rfl); (· decide +kernel); (· rfl))
    | refine TQ.any leF selF ?_
    | refine TC.region_any 14 (L) (by kernel_rfl) rfl selF ?_ | refine TA.done (by decide +kernel) ?_ | refine TQ.any_panic ?_)
        rw [HK.out _ rfl]
        refine TQ.freeze .here fun g2 hg2 HS2 => ?_
        refine TQ.endR1 (L' := L) Tryz.results59 rvA rfl (hg2) ?_ selF
        exact ⟨_, rfl, rfl, HS2⟩
end Go.Proofs.YtklmfbildebimaaGreatDoor
