/-
  The document's edges of a shape, walked.
-/
import Derived.Test.YtfanccddokckcaaGreatDoorSt2
import Derived.Test.YtfanccddokckcaaGreatDoorSt9
import Derived.Test.YtfanccddokckcaaGreatDoorSt32
namespace Go.Proofs.YtfanccddokckcaaGreatDoor
open Go.RowKit Go.TL
set_option maxRecDepth 100000

theorem flatE_snoc {es : List (Pt × Pt)} {i : Nat} {e : Pt × Pt} (h : es[i]? = some e) : flatE (es.take (i + 1)) = flatE (es.take i) ++ edC e := flatE_take h
theorem flatE_ones (l : List (Pt × Pt)) : (flatE l).all Value.one = true := by
  induction l with
  | nil => rfl
  | cons p l ih => exact ih
theorem flatE_app (a b : List (Pt × Pt)) : flatE (a ++ b) = flatE a ++ flatE b := by simp [flatE]
theorem ring_at {l : List Pt} {i : Nat} {a b : Pt} (ha : l[i]? = some a) (hb : l[i + 1]? = some b) : (ringE l)[i]? = some (a, b) :=
  ringE_get ha (by rw [Nat.mod_eq_of_lt (List.getElem?_eq_some_iff.1 hb).1]; exact hb)
theorem ring_last {l : List Pt} {a b : Pt} (_h0 : 0 < l.length) (ha : l[l.length - 1]? = some a) (hb : l[0]? = some b) : (ringE l)[l.length - 1]? = some (a, b) :=
  ringE_get ha (by rw [show l.length - 1 + 1 = l.length by omega, Nat.mod_self]; exact hb)
set_option maxHeartbeats 16000000 in
theorem rpart9_does (k : Int) (l : List Pt) (v : Value) (g : Gh) (L : List Ent) (hS : Sl g v l.length 2 (flatP l)) (_hl : l.length ≤ 1000000) : Does Tryz.prog 87 #[.int .i64 k, v] g L (fun e g' L' => ∃ v', e = .returned v' ∧ L' = L ∧ Sl g' v' (partE k l).length 4 (flatE (partE k l))) := by
  refine Does.of2 Tryz.func87 rfl Tryz.ntmps87 rfl ?_
  obtain ⟨ao, cap, rfl⟩ := hS.slice
  have HS := Hn.mk hS
  clear hS
  repeat' (first
    | refine wkQ ?_
    | refine wkV ?_
    | refine stS ?_ | (refine stB ?_; intro _) | (refine stC ?_; refine And.intro (fun _ => ?_) (fun _ => ?_)))
  refine TC.row_nil 95 4 ?_
  refine TC.loop (fun z : Nat × Value => z.1 ≤ l.length ∧ (z.1 = 0 ∨ z.1 + 1 ≤ l.length)) (fun z => l.length - z.1) (fun z => [(6, .int .i64 (z.1 : Nat)), (5, z.2), (1, .slice ao l.length cap), (0, .int .i64 k)]) (fun _ => g) (fun z => .row 95 4 z.2 z.1 (flatE ((ringE l).take z.1)) :: L) (0, .slice none 0 0) ⟨Nat.zero_le _, .inl rfl⟩ rfl subA selF ?_
  rintro ⟨i, v⟩ ⟨hi, hI⟩
  dsimp only at hi hI ⊢
  refine TC.row_slice (v := v) pkA ?_
  rintro av cv rfl _
  by_cases hlt : i + 1 < l.length
  · obtain ⟨p, hp⟩ : ∃ p, l[i]? = some p := ⟨_, List.getElem?_eq_getElem (show i < l.length by omega)⟩
    obtain ⟨q, hq⟩ : ∃ p, l[i + 1]? = some p := ⟨_, List.getElem?_eq_getElem hlt⟩
    obtain ⟨b1, o1, rfl, hg⟩ := HS.out.elem (i := i) (by omega) (by decide)
    obtain ⟨b2, o2, he, hg2⟩ := HS.out.elem (i := i + 1) hlt (by decide)
    obtain ⟨rfl, rfl⟩ : b1 = b2 ∧ o1 = o2 := by simpa using he
    have hld := pt_cells hg (flatP_get hp).1 (flatP_get hp).2
    have hld2 := pt_cells hg2 (flatP_get hq).1 (flatP_get hq).2
    have hll : [Value.int .i64 p.1, .int .i64 p.2].length = 2 := rfl
    have hll2 : [Value.int .i64 q.1, .int .i64 q.2].length = 2 := rfl
    have hkey : ∀ y, y = edC (p, q) → flatE ((ringE l).take i) ++ y = flatE ((ringE l).take (i + 1)) := fun y h => by rw [h, flatE_snoc (ring_at hp hq)]
    have hw : Hn (IntKind.i64.wrap ((i : Nat) + 1) = ((i + 1 : Nat) : Int)) := ⟨by rw [IntWalk.i64_in _ (by omega)]; rfl⟩
    have HK := Hn.mk hkey
    generalize flatE ((ringE l).take i) = T0 at *
    clear hg hg2 he hp hq hkey
    repeat' (first
    | refine wkQ ?_
    | refine wkV ?_
    | refine stS ?_ | (refine stB ?_; intro _) | (refine stC ?_; refine And.intro (fun _ => ?_) (fun _ => ?_))
    | ((with_reducible apply TL.build_slice); (· rfl); (· rfl); (· exact oneA); (· rfl); (· rfl); (· rfl); intro _) | refine TL.build_one (by rfl) (by first | rfl | assumption) (by rfl) (by rfl) (by rfl) (by rfl) (fun _ => ?_) | refine TL.build_empty (by rfl) (fun _ => ?_)
    | ((with_reducible apply TL.append (e := 95)); (· rfl); (· rfl); (· rfl); (· rfl); (· exact pkA); (· first | exact Src.obj pkA | exact Src.sl (by assumption) | exact Src.row pkA); (· first | rfl | exact (byteVals_length _).trans (Nat.mul_one _).symm); (· first | exact byteVals_all _ | exact oneA); (· exact ⟨by unfold maxLen; omega, by omega⟩); (· rfl); intro vf; refine Go.TL.TL.row_slice (v := vf) pkA ?_; rintro a2 c2 rfl _)
    | ((with_reducible apply TA.takeN 0); (· rfl); (· decide +kernel); (· rfl); (· first | first | exact Y.add rfl rfl hw.out | exact Y.build_pp rfl rfl | (first | exact yQ | exact yA | exact yB | exact yM | exact yV)); (· decide +kernel); (· decide +kernel); (· rfl); (· exact fun _ _ _ h => h); (· rfl))
    | ((with_reducible apply TA.takeN 1); (· rfl); (· decide +kernel); (· rfl); (· first | first | exact Y.add rfl rfl hw.out | exact Y.build_pp rfl rfl | (first | exact yQ | exact yA | exact yB | exact yM | exact yV)); (· decide +kernel); (· decide +kernel); (· rfl); (· exact fun _ _ _ h => h); (· rfl))
    | ((with_reducible apply TA.takeN 2); (· rfl); (· decide +kernel); (· rfl); (· first | first | exact Y.add rfl rfl hw.out | exact Y.build_pp rfl rfl | (first | exact yQ | exact yA | exact yB | exact yM | exact yV)); (· decide +kernel); (· decide +kernel); (· rfl); (· exact fun _ _ _ h => h); (· rfl))
    | ((with_reducible apply TA.takeN 3); (· rfl); (· decide +kernel); (· rfl); (· first | first | exact Y.add rfl rfl hw.out | exact Y.build_pp rfl rfl | (first | exact yQ | exact yA | exact yB | exact yM | exact yV)); (· decide +kernel); (· decide +kernel); (· rfl); (· exact fun _ _ _ h => h); (· rfl))
    | ((with_reducible apply TA.take_gN 0); (· rfl); (· decide +kernel); (· rfl); (· rfl); (· rfl); (· (first | first | exact Y.add rfl rfl hw.out | exact Y.build_pp rfl rfl | (first | exact yQ | exact yA | exact yB | exact yM | exact yV))); (· decide +kernel); (· decide +kernel); (· rfl); (· exact fun _ _ _ h => h); (· rfl))
    | ((with_reducible apply TA.take_gN 1); (· rfl); (· decide +kernel); (· rfl); (· rfl); (· rfl); (· (first | first | exact Y.add rfl rfl hw.out | exact Y.build_pp rfl rfl | (first | exact yQ | exact yA | exact yB | exact yM | exact yV))); (· decide +kernel); (· decide +kernel); (· rfl); (· exact fun _ _ _ h => h); (· rfl))
    | ((with_reducible apply TA.take_gN 2); (· rfl); (· decide +kernel); (· rfl); (· rfl); (· rfl); (· (first | first | exact Y.add rfl rfl hw.out | exact Y.build_pp rfl rfl | (first | exact yQ | exact yA | exact yB | exact yM | exact yV))); (· decide +kernel); (· decide +kernel); (· rfl); (· exact fun _ _ _ h => h); (· rfl))
    | ((with_reducible apply TA.take_gN 3); (· rfl); (· decide +kernel); (· rfl); (· rfl); (· rfl); (· (first | first | exact Y.add rfl rfl hw.out | exact Y.build_pp rfl rfl | (first | exact yQ | exact yA | exact yB | exact yM | exact yV))); (· decide +kernel); (· decide +kernel); (· rfl); (· exact fun _ _ _ h => h); (· rfl))
    | refine wkX0 ?_
    | refine wkX1 ?_
    | refine wkX2 ?_
    | refine wkX3 ?_
    | ((with_reducible apply TA.oneN 0); (· rfl); (· rfl); (· decide +kernel); (· rfl))
    | ((with_reducible apply TA.oneN 1); (· rfl); (· rfl); (· decide +kernel); (· rfl))
    | ((with_reducible apply TA.oneN 2); (· rfl); (· rfl); (· decide +kernel); (· rfl))
    | ((with_reducible apply TA.oneN 3); (· rfl); (· rfl); (· decide +kernel); (· rfl))
    | refine TQ.any leF selF ?_
    | refine TC.region_any 14 (L) (by kernel_rfl) rfl selF ?_ | refine TA.done (by decide +kernel) ?_ | refine TQ.any_panic ?_)
    rw [HK.out _ rfl]
    refine TQ.round (i + 1, .slice a2 (i + 1) c2) ?_ ?_ rfl subA selF
    · exact ⟨by dsimp only; omega, .inr (by dsimp only; omega)⟩
    · show l.length - (i + 1) < l.length - i
      omega
  · by_cases h0 : l.length = 0
    · obtain rfl : l = [] := List.eq_nil_of_length_eq_zero h0
      obtain rfl : i = 0 := by simp at hi; exact hi
      have hz : partE k [] = [] := by unfold partE; split <;> rfl
      have bz : decide ((0 : Int) < (([] : List Pt).length : Nat)) = false := rfl
      rw [hz]
      clear hI
      by_cases hk : k = 1
      · have bk : (!decide (k = 1)) = false := by rw [decide_eq_true hk]; rfl
        repeat' (first
    | refine wkQ ?_
    | ((with_reducible apply TL.pure (d := 28) (v := .bool false)); (· exact Y.neq_b bk rfl rfl); (· rfl)) | ((with_reducible apply TW.pure (d := 28) (v := .bool false)); (· exact Y.neq_b bk rfl rfl); (· rfl))
    | refine wkV ?_
    | refine stS ?_ | (refine stB ?_; intro _) | (refine stC ?_; refine And.intro (fun _ => ?_) (fun _ => ?_)))
        refine TQ.freeze .here fun g2 hg2 HS2 => ?_
        refine TQ.endR1 (L' := L) Tryz.results87 rvA rfl (hg2) ?_ selF
        exact ⟨_, rfl, rfl, HS2⟩
      · have bk : (!decide (k = 1)) = true := by rw [decide_eq_false hk]; rfl
        repeat' (first
    | refine wkQ ?_
    | ((with_reducible apply TL.pure (d := 28) (v := .bool true)); (· exact Y.neq_b bk rfl rfl); (· rfl)) | ((with_reducible apply TW.pure (d := 28) (v := .bool true)); (· exact Y.neq_b bk rfl rfl); (· rfl))
    | ((with_reducible apply TL.pure (d := 32) (v := .bool false)); (· exact Y.gtr_b bz rfl rfl); (· rfl)) | ((with_reducible apply TW.pure (d := 32) (v := .bool false)); (· exact Y.gtr_b bz rfl rfl); (· rfl))
    | refine wkV ?_
    | refine stS ?_ | (refine stB ?_; intro _) | (refine stC ?_; refine And.intro (fun _ => ?_) (fun _ => ?_)))
        refine TQ.freeze .here fun g2 hg2 HS2 => ?_
        refine TQ.endR1 (L' := L) Tryz.results87 rvA rfl (hg2) ?_ selF
        exact ⟨_, rfl, rfl, HS2⟩
    · obtain rfl : i = l.length - 1 := by omega
      have bz : decide ((0 : Int) < (l.length : Nat)) = true := decide_eq_true (by omega)
      by_cases hk : k = 1
      · have bk : (!decide (k = 1)) = false := by rw [decide_eq_true hk]; rfl
        have hp : partE k l = (ringE l).take (l.length - 1) := by unfold partE; rw [if_pos hk]
        have hpl : (partE k l).length = l.length - 1 := by rw [partE_len, if_pos hk]
        rw [hpl, hp]
        repeat' (first
    | refine wkQ ?_
    | ((with_reducible apply TL.pure (d := 28) (v := .bool false)); (· exact Y.neq_b bk rfl rfl); (· rfl)) | ((with_reducible apply TW.pure (d := 28) (v := .bool false)); (· exact Y.neq_b bk rfl rfl); (· rfl))
    | refine wkV ?_
    | refine stS ?_ | (refine stB ?_; intro _) | (refine stC ?_; refine And.intro (fun _ => ?_) (fun _ => ?_)))
        refine TQ.freeze .here fun g2 hg2 HS2 => ?_
        refine TQ.endR1 (L' := L) Tryz.results87 rvA rfl (hg2) ?_ selF
        exact ⟨_, rfl, rfl, HS2⟩
      · have bk : (!decide (k = 1)) = true := by rw [decide_eq_false hk]; rfl
        have hp : partE k l = ringE l := by unfold partE; rw [if_neg hk]
        obtain ⟨p, hp1⟩ : ∃ p, l[l.length - 1]? = some p := ⟨_, List.getElem?_eq_getElem (show l.length - 1 < l.length by omega)⟩
        obtain ⟨q, hq1⟩ : ∃ p, l[0]? = some p := ⟨_, List.getElem?_eq_getElem (show 0 < l.length by omega)⟩
        obtain ⟨b1, o1, rfl, hg⟩ := HS.out.elem (i := l.length - 1) (by omega) (by decide)
        obtain ⟨b2, o2, he, hg2⟩ := HS.out.elem (i := 0) (by omega) (by decide)
        obtain ⟨rfl, rfl⟩ : b1 = b2 ∧ o1 = o2 := by simpa using he
        have hld := pt_cells hg (flatP_get hp1).1 (flatP_get hp1).2
        have hld2 := pt_cells hg2 (flatP_get hq1).1 (flatP_get hq1).2
        have hll : [Value.int .i64 p.1, .int .i64 p.2].length = 2 := rfl
        have hll2 : [Value.int .i64 q.1, .int .i64 q.2].length = 2 := rfl
        have hkey : ∀ y, y = edC (p, q) → flatE ((ringE l).take (l.length - 1)) ++ y = flatE (partE k l) := fun y h => by
          rw [h, ← flatE_snoc (ring_last (by omega) hp1 hq1), hp, show l.length - 1 + 1 = l.length by omega, ← ringE_len l, List.take_length]
        have hpl : (partE k l).length = l.length - 1 + 1 := by rw [hp, ringE_len]; omega
        have hw : Hn (IntKind.i64.wrap ((l.length : Nat) - 1) = ((l.length - 1 : Nat) : Int)) := ⟨by rw [IntWalk.i64_in _ (by omega)]; omega⟩
        have HK := Hn.mk hkey
        rw [hpl]
        generalize flatE ((ringE l).take (l.length - 1)) = T0 at *
        clear hg hg2 he hp1 hq1 hkey hp hpl hI hi
        repeat' (first
    | refine wkQ ?_
    | ((with_reducible apply TL.pure (d := 28) (v := .bool true)); (· exact Y.neq_b bk rfl rfl); (· rfl)) | ((with_reducible apply TW.pure (d := 28) (v := .bool true)); (· exact Y.neq_b bk rfl rfl); (· rfl))
    | ((with_reducible apply TL.pure (d := 32) (v := .bool true)); (· exact Y.gtr_b bz rfl rfl); (· rfl)) | ((with_reducible apply TW.pure (d := 32) (v := .bool true)); (· exact Y.gtr_b bz rfl rfl); (· rfl))
    | refine wkV ?_
    | refine stS ?_ | (refine stB ?_; intro _) | (refine stC ?_; refine And.intro (fun _ => ?_) (fun _ => ?_))
    | ((with_reducible apply TL.build_slice); (· rfl); (· rfl); (· exact oneA); (· rfl); (· rfl); (· rfl); intro _) | refine TL.build_one (by rfl) (by first | rfl | assumption) (by rfl) (by rfl) (by rfl) (by rfl) (fun _ => ?_) | refine TL.build_empty (by rfl) (fun _ => ?_)
    | ((with_reducible apply TL.append (e := 95)); (· rfl); (· rfl); (· rfl); (· rfl); (· exact pkA); (· first | exact Src.obj pkA | exact Src.sl (by assumption) | exact Src.row pkA); (· first | rfl | exact (byteVals_length _).trans (Nat.mul_one _).symm); (· first | exact byteVals_all _ | exact oneA); (· exact ⟨by unfold maxLen; omega, by omega⟩); (· rfl); intro vf; refine Go.TL.TL.row_slice (v := vf) pkA ?_; rintro a2 c2 rfl _)
    | ((with_reducible apply TA.takeN 0); (· rfl); (· decide +kernel); (· rfl); (· first | first | exact Y.sub rfl rfl hw.out | exact Y.build_pp rfl rfl | (first | exact yQ | exact yA | exact yB | exact yM | exact yV)); (· decide +kernel); (· decide +kernel); (· rfl); (· exact fun _ _ _ h => h); (· rfl))
    | ((with_reducible apply TA.takeN 1); (· rfl); (· decide +kernel); (· rfl); (· first | first | exact Y.sub rfl rfl hw.out | exact Y.build_pp rfl rfl | (first | exact yQ | exact yA | exact yB | exact yM | exact yV)); (· decide +kernel); (· decide +kernel); (· rfl); (· exact fun _ _ _ h => h); (· rfl))
    | ((with_reducible apply TA.takeN 2); (· rfl); (· decide +kernel); (· rfl); (· first | first | exact Y.sub rfl rfl hw.out | exact Y.build_pp rfl rfl | (first | exact yQ | exact yA | exact yB | exact yM | exact yV)); (· decide +kernel); (· decide +kernel); (· rfl); (· exact fun _ _ _ h => h); (· rfl))
    | ((with_reducible apply TA.takeN 3); (· rfl); (· decide +kernel); (· rfl); (· first | first | exact Y.sub rfl rfl hw.out | exact Y.build_pp rfl rfl | (first | exact yQ | exact yA | exact yB | exact yM | exact yV)); (· decide +kernel); (· decide +kernel); (· rfl); (· exact fun _ _ _ h => h); (· rfl))
    | ((with_reducible apply TA.take_gN 0); (· rfl); (· decide +kernel); (· rfl); (· rfl); (· rfl); (· (first | first | exact Y.sub rfl rfl hw.out | exact Y.build_pp rfl rfl | (first | exact yQ | exact yA | exact yB | exact yM | exact yV))); (· decide +kernel); (· decide +kernel); (· rfl); (· exact fun _ _ _ h => h); (· rfl))
    | ((with_reducible apply TA.take_gN 1); (· rfl); (· decide +kernel); (· rfl); (· rfl); (· rfl); (· (first | first | exact Y.sub rfl rfl hw.out | exact Y.build_pp rfl rfl | (first | exact yQ | exact yA | exact yB | exact yM | exact yV))); (· decide +kernel); (· decide +kernel); (· rfl); (· exact fun _ _ _ h => h); (· rfl))
    | ((with_reducible apply TA.take_gN 2); (· rfl); (· decide +kernel); (· rfl); (· rfl); (· rfl); (· (first | first | exact Y.sub rfl rfl hw.out | exact Y.build_pp rfl rfl | (first | exact yQ | exact yA | exact yB | exact yM | exact yV))); (· decide +kernel); (· decide +kernel); (· rfl); (· exact fun _ _ _ h => h); (· rfl))
    | ((with_reducible apply TA.take_gN 3); (· rfl); (· decide +kernel); (· rfl); (· rfl); (· rfl); (· (first | first | exact Y.sub rfl rfl hw.out | exact Y.build_pp rfl rfl | (first | exact yQ | exact yA | exact yB | exact yM | exact yV))); (· decide +kernel); (· decide +kernel); (· rfl); (· exact fun _ _ _ h => h); (· rfl))
    | refine wkX0 ?_
    | refine wkX1 ?_
    | refine wkX2 ?_
    | refine wkX3 ?_
    | ((with_reducible apply TA.oneN 0); (· rfl); (· rfl); (· decide +kernel); (· rfl))
    | ((with_reducible apply TA.oneN 1); (· rfl); (· rfl); (· decide +kernel); (· rfl))
    | ((with_reducible apply TA.oneN 2); (· rfl); (· rfl); (· decide +kernel); (· rfl))
    | ((with_reducible apply TA.oneN 3); (· rfl); (· rfl); (· decide +kernel); (· rfl))
    | refine TQ.any leF selF ?_
    | refine TC.region_any 14 (L) (by kernel_rfl) rfl selF ?_ | refine TA.done (by decide +kernel) ?_ | refine TQ.any_panic ?_)
        rw [HK.out _ rfl]
        refine TQ.freeze .here fun g2 hg2 HS2 => ?_
        refine TQ.endR1 (L' := L) Tryz.results87 rvA rfl (hg2) ?_ selF
        exact ⟨_, rfl, rfl, HS2⟩
theorem allE_take_next {k : Int} {ps : List (List Pt)} {j : Nat} {p : List Pt} (hj : ps[j]? = some p) : allE k (ps.take (j + 1)) = allE k (ps.take j) ++ partE k p := by
  rw [List.take_add_one, hj]
  unfold allE
  rw [List.flatMap_append]
  simp
structure ShFew (ps : List (List Pt)) : Prop where
  ok : ShOk ps
  all : ps.flatten.length ≤ 1000000
theorem allE_len_le (k : Int) : ∀ (ps : List (List Pt)), (allE k ps).length ≤ ps.flatten.length
  | [] => Nat.le_refl _
  | p :: r => by
    have h1 := allE_len_le k r
    have h2 := partE_len k p
    unfold allE at h1 ⊢
    rw [List.flatMap_cons, List.length_append, List.flatten_cons, List.length_append]
    split at h2 <;> omega
theorem allE_take_le (k : Int) (ps : List (List Pt)) (j : Nat) : (allE k (ps.take j)).length ≤ ps.flatten.length := by
  refine Nat.le_trans (allE_len_le k _) ?_
  conv => rhs; rw [← List.take_append_drop j ps, List.flatten_append, List.length_append]
  omega
set_option maxHeartbeats 16000000 in
theorem rEdges9_does (k : Int) (ps : List (List Pt)) (v : Value) (g : Gh) (L : List Ent) (hS : IsParts g v ps) (hO : ShFew ps) : Does Tryz.prog 51 #[shV k v] g L (fun e g' L' => ∃ v', e = .returned v' ∧ L' = L ∧ Sl g' v' (allE k ps).length 4 (flatE (allE k ps))) := by
  refine Does.of1 Tryz.func51 rfl Tryz.ntmps51 rfl ?_
  obtain ⟨fl, hSl, hpt⟩ := hS
  obtain ⟨ao, cap, rfl⟩ := hSl.slice
  have hps := hO.ok.len
  have HP := Hn.mk hpt
  have HSl := Hn.mk hSl
  clear hpt hSl
  repeat' (first
    | refine wkQ ?_
    | refine wkV ?_
    | refine stS ?_ | (refine stB ?_; intro _) | (refine stC ?_; refine And.intro (fun _ => ?_) (fun _ => ?_)))
  rename_i b1
  refine TC.row_nil 95 4 ?_
  refine TC.loop (α := Nat × Value × Gh) (fun z => z.1 ≤ ps.length ∧ g.le z.2.2) (fun z => ps.length - z.1) (fun z => [(4, .int .i64 (z.1 : Nat)), (3, z.2.1), (1, .pointer (some ⟨b1, 0, none⟩))]) (fun z => z.2.2) (fun z => .row 95 4 z.2.1 (allE k (ps.take z.1)).length (flatE (allE k (ps.take z.1))) :: .obj b1 (.cells [.int .i64 k, .slice ao ps.length cap].toArray 36 (0, 0)) :: L) (0, .slice none 0 0, g) ⟨Nat.zero_le _, .refl g⟩ rfl subA selF ?_
  rintro ⟨j, v, gh⟩ ⟨hj, hle⟩
  dsimp only at hj hle ⊢
  refine TC.row_slice (v := v) pkA ?_
  rintro av cv rfl _
  by_cases hlt : j < ps.length
  · obtain ⟨q, hq⟩ : ∃ q, ps[j]? = some q := ⟨_, List.getElem?_eq_getElem hlt⟩
    obtain ⟨u, hu, hSu⟩ := HP.out j q hq
    obtain ⟨b2, o2, rfl, hg1'⟩ := HSl.out.elem hlt (by decide)
    have hld : gh.cell b2 (o2 + j * 1) = some u := hle.cell (hg1' 0 _ (by rw [Nat.mul_one]; exact hu))
    have PA := fun L => rpart9_does k q u gh L (hSu.le hle) (hO.ok.part q (List.mem_of_getElem? hq))
    obtain ⟨au, cu, rfl⟩ := hSu.slice
    have hn := allE_take_next (k := k) hq
    have hlen : (allE k (ps.take j)).length + (partE k q).length = (allE k (ps.take (j + 1))).length := by rw [hn, List.length_append]
    have hfl : flatE (allE k (ps.take j)) ++ flatE (partE k q) = flatE (allE k (ps.take (j + 1))) := by rw [hn, flatE_app]
    have hb1 := allE_take_le k ps (j + 1)
    have hb2 := hO.all
    have HLEN := Hn.mk hlen
    have HFL := Hn.mk hfl
    have hsum : (allE k (ps.take j)).length + (partE k q).length ≤ 1000000 := by omega
    clear hg1' hSu hq hu hn hlen hfl hb1 hb2 hO HP HSl
    generalize hA : allE k (ps.take j) = A0 at *
    generalize hB : partE k q = B0 at *
    clear hA hB
    repeat' (first
    | refine wkQ ?_
    | refine wkV ?_
    | (refine TL.call (Enters.plain (by kernel_rfl) (by rfl)) (by rfl) (PA _) ?_; (rintro e g2 Ln hg2 ⟨vp, k1, k2, k3⟩; have k2 := k2.symm; subst k1; subst k2; obtain ⟨ap, cp, rfl⟩ := k3.slice; refine CallK.ret ?_))
    | refine stS ?_ | (refine stB ?_; intro _) | (refine stC ?_; refine And.intro (fun _ => ?_) (fun _ => ?_))
    | ((with_reducible apply TL.append (d := 21)); (· rfl); (· rfl); (· rfl); (· rfl); (· exact pkA); (· exact Src.sl k3); (· exact (flatE_len B0)); (· exact (flatE_ones B0)); (· exact ⟨by unfold maxLen; omega, by omega⟩); (· rfl); intro vf; refine Go.TL.TL.row_slice (v := vf) pkA ?_; rintro a2 c2 rfl _)
    | ((with_reducible apply TA.takeN 0); (· rfl); (· decide +kernel); (· rfl); (· first | fail | (first | exact yQ | exact yA | exact yB | exact yM | exact yV)); (· decide +kernel); (· decide +kernel); (· rfl); (· exact fun _ _ _ h => h); (· rfl))
    | ((with_reducible apply TA.takeN 1); (· rfl); (· decide +kernel); (· rfl); (· first | fail | (first | exact yQ | exact yA | exact yB | exact yM | exact yV)); (· decide +kernel); (· decide +kernel); (· rfl); (· exact fun _ _ _ h => h); (· rfl))
    | ((with_reducible apply TA.takeN 2); (· rfl); (· decide +kernel); (· rfl); (· first | fail | (first | exact yQ | exact yA | exact yB | exact yM | exact yV)); (· decide +kernel); (· decide +kernel); (· rfl); (· exact fun _ _ _ h => h); (· rfl))
    | ((with_reducible apply TA.takeN 3); (· rfl); (· decide +kernel); (· rfl); (· first | fail | (first | exact yQ | exact yA | exact yB | exact yM | exact yV)); (· decide +kernel); (· decide +kernel); (· rfl); (· exact fun _ _ _ h => h); (· rfl))
    | ((with_reducible apply TA.take_gN 0); (· rfl); (· decide +kernel); (· rfl); (· rfl); (· rfl); (· (first | fail | (first | exact yQ | exact yA | exact yB | exact yM | exact yV))); (· decide +kernel); (· decide +kernel); (· rfl); (· exact fun _ _ _ h => h); (· rfl))
    | ((with_reducible apply TA.take_gN 1); (· rfl); (· decide +kernel); (· rfl); (· rfl); (· rfl); (· (first | fail | (first | exact yQ | exact yA | exact yB | exact yM | exact yV))); (· decide +kernel); (· decide +kernel); (· rfl); (· exact fun _ _ _ h => h); (· rfl))
    | ((with_reducible apply TA.take_gN 2); (· rfl); (· decide +kernel); (· rfl); (· rfl); (· rfl); (· (first | fail | (first | exact yQ | exact yA | exact yB | exact yM | exact yV))); (· decide +kernel); (· decide +kernel); (· rfl); (· exact fun _ _ _ h => h); (· rfl))
    | ((with_reducible apply TA.take_gN 3); (· rfl); (· decide +kernel); (· rfl); (· rfl); (· rfl); (· (first | fail | (first | exact yQ | exact yA | exact yB | exact yM | exact yV))); (· decide +kernel); (· decide +kernel); (· rfl); (· exact fun _ _ _ h => h); (· rfl))
    | refine wkX0 ?_
    | refine wkX1 ?_
    | refine wkX2 ?_
    | refine wkX3 ?_
    | ((with_reducible apply TA.oneN 0); (· rfl); (· rfl); (· decide +kernel); (· rfl))
    | ((with_reducible apply TA.oneN 1); (· rfl); (· rfl); (· decide +kernel); (· rfl))
    | ((with_reducible apply TA.oneN 2); (· rfl); (· rfl); (· decide +kernel); (· rfl))
    | ((with_reducible apply TA.oneN 3); (· rfl); (· rfl); (· decide +kernel); (· rfl))
    | refine TQ.any leF selF ?_
    | refine TC.region_any 11 (.obj b1 (.cells [.int .i64 k, .slice (some ⟨b2, o2, none⟩) ps.length cap].toArray 36 (0, 0)) :: L) (by kernel_rfl) rfl selF ?_ | refine TA.done (by decide +kernel) ?_ | refine TQ.any_panic ?_)
    rw [HLEN.out, HFL.out]
    refine TQ.round (j + 1, .slice a2 (allE k (ps.take (j + 1))).length c2, g2) ?_ ?_ rfl subA selF
    · exact ⟨by dsimp only; omega, hle.trans hg2⟩
    · show ps.length - (j + 1) < ps.length - j
      omega
  · obtain rfl : j = ps.length := by omega
    rw [List.take_length]
    repeat' (first
    | refine wkQ ?_
    | refine wkV ?_
    | refine stS ?_ | (refine stB ?_; intro _) | (refine stC ?_; refine And.intro (fun _ => ?_) (fun _ => ?_)))
    refine TQ.freeze .here fun g2 hg2 HS2 => ?_
    refine TQ.endR1 (L' := L) Tryz.results51 rvA rfl (hle.trans hg2) ?_ selF
    exact ⟨_, rfl, rfl, HS2⟩
end Go.Proofs.YtfanccddokckcaaGreatDoor
