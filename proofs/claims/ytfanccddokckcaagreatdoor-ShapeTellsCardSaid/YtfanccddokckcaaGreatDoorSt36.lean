/-
  The document's geometry, walked: all places, boxes, rings.
-/
import Derived.Test.YtfanccddokckcaaGreatDoorSt2
import Derived.Test.YtfanccddokckcaaGreatDoorSt35
namespace Go.Proofs.YtfanccddokckcaaGreatDoor
open Go.RowKit Go.TL
set_option maxRecDepth 100000

set_option maxHeartbeats 4000000 in
theorem rMayAll8_gives (l : List Pt) (v : Value) (g : Gh) (L : List Ent) (hS : Sl g v l.length 2 (flatP l)) (_hl : l.length ≤ 1000000) : Gives Tryz.prog 46 #[v] g L (.bool (l.all mayB)) := by
  refine .of (Does.of1 Tryz.func46 rfl Tryz.ntmps46 rfl ?_)
  obtain ⟨ao, cap, rfl⟩ := hS.slice
  obtain ⟨R, hR⟩ : ∃ R, R = (l.drop 0).all mayB := ⟨_, rfl⟩
  rw [show l.all mayB = R from hR.symm]
  repeat' (first
    | refine wkQ ?_
    | refine wkV ?_
    | refine stS ?_ | (refine stB ?_; intro _) | (refine stC ?_; refine And.intro (fun _ => ?_) (fun _ => ?_)))
  refine TC.loopK (fun i : Nat => i ≤ l.length ∧ (l.drop i).all mayB = R) (fun i => l.length - i) (fun i _ => [(3, .int .i64 (i : Nat)), (0, .slice ao l.length cap)]) [] .nil (fun _ L => L) 0 ⟨Nat.zero_le _, hR.symm⟩ subA selF ?_
  clear hR
  rintro i ⟨hi, hR⟩
  try dsimp only at hi hR ⊢
  by_cases hlt : i < l.length
  · obtain ⟨p, hp⟩ : ∃ p, l[i]? = some p := ⟨_, List.getElem?_eq_getElem hlt⟩
    obtain ⟨b1, o1, rfl, hg⟩ := hS.elem hlt (by decide)
    have hld := pt_cells hg (flatP_get hp).1 (flatP_get hp).2
    have hll : [Value.int .i64 p.1, .int .i64 p.2].length = 2 := rfl
    have M := fun L => rMay8_gives g L p
    rw [drop_of_get hp, List.all_cons] at hR
    clear hS hg
    cases hm : mayB p with
    | false =>
      rw [hm] at M hR
      repeat' (first
    | refine wkQ ?_
    | refine wkV ?_
    | ((with_reducible apply TL.gives_plain); (· kernel_rfl); (· rfl); (· exact M _); (· rfl)) | ((with_reducible apply TW.gives_plain); (· kernel_rfl); (· rfl); (· exact M _); (· rfl))
    | refine stS ?_ | (refine stB ?_; intro _) | (refine stC ?_; refine And.intro (fun _ => ?_) (fun _ => ?_)))
      refine TQ.endR1 (L' := L) Tryz.results46 rvA rfl (.refl _) ?_ selF
      exact ⟨congrArg (fun b => Ending.returned (Value.bool b)) (by rw [← hR]; rfl), rfl, rfl⟩
    | true =>
      rw [hm, Bool.true_and] at hR
      rw [hm] at M
      repeat' (first
    | refine wkQ ?_
    | refine wkV ?_
    | ((with_reducible apply TL.gives_plain); (· kernel_rfl); (· rfl); (· exact M _); (· rfl)) | ((with_reducible apply TW.gives_plain); (· kernel_rfl); (· rfl); (· exact M _); (· rfl))
    | refine stS ?_ | (refine stB ?_; intro _) | (refine stC ?_; refine And.intro (fun _ => ?_) (fun _ => ?_)))
      refine TQ.round (i + 1) ?_ ?_ rfl subA selF
      · exact ⟨by omega, hR⟩
      · show l.length - (i + 1) < l.length - i
        omega
  · obtain rfl : i = l.length := by omega
    rw [List.drop_length] at hR
    obtain rfl : true = R := hR
    clear hS
    repeat' (first
    | refine wkQ ?_
    | refine wkV ?_
    | refine stS ?_ | (refine stB ?_; intro _) | (refine stC ?_; refine And.intro (fun _ => ?_) (fun _ => ?_)))
    refine TQ.endR1 (L' := L) Tryz.results46 rvA rfl (.refl _) ?_ selF
    exact ⟨rfl, rfl, rfl⟩
set_option maxHeartbeats 16000000 in
theorem rJoin8_gives (r s : Rc) (g : Gh) (L : List Ent) : Gives Tryz.prog 70 #[rcV r, rcV s] g L (rcV (joinR r s)) := by
  refine .of (Does.of2 Tryz.func70 rfl Tryz.ntmps70 rfl ?_)
  obtain ⟨a0, a1, a2, a3⟩ := r
  obtain ⟨b0, b1, b2, b3⟩ := s
  unfold joinR rcV
  dsimp only
  cases h0 : decide (b0 < a0) <;> cases h1 : decide (b1 < a1) <;> cases h2 : decide (a2 < b2) <;> cases h3 : decide (a3 < b3)
  all_goals
    simp only [decide_eq_false_iff_not, decide_eq_true_eq] at h0 h1 h2 h3
    simp only [h0, h1, h2, h3, if_true, if_false]
    first | have k0 : decide (b0 < a0) = true := decide_eq_true (by assumption) | have k0 : decide (b0 < a0) = false := decide_eq_false (by assumption)
    first | have k1 : decide (b1 < a1) = true := decide_eq_true (by assumption) | have k1 : decide (b1 < a1) = false := decide_eq_false (by assumption)
    first | have k2 : decide (a2 < b2) = true := decide_eq_true (by assumption) | have k2 : decide (a2 < b2) = false := decide_eq_false (by assumption)
    first | have k3 : decide (a3 < b3) = true := decide_eq_true (by assumption) | have k3 : decide (a3 < b3) = false := decide_eq_false (by assumption)
    clear h0 h1 h2 h3
    repeat' (first
    | refine wkQ ?_
    | ((with_reducible apply TL.pure (d := 9) (v := .bool _)); (· exact Y.lss_b k0 rfl rfl); (· rfl)) | ((with_reducible apply TW.pure (d := 9) (v := .bool _)); (· exact Y.lss_b k0 rfl rfl); (· rfl))
    | ((with_reducible apply TL.pure (d := 17) (v := .bool _)); (· exact Y.lss_b k1 rfl rfl); (· rfl)) | ((with_reducible apply TW.pure (d := 17) (v := .bool _)); (· exact Y.lss_b k1 rfl rfl); (· rfl))
    | ((with_reducible apply TL.pure (d := 25) (v := .bool _)); (· exact Y.gtr_b k2 rfl rfl); (· rfl)) | ((with_reducible apply TW.pure (d := 25) (v := .bool _)); (· exact Y.gtr_b k2 rfl rfl); (· rfl))
    | ((with_reducible apply TL.pure (d := 33) (v := .bool _)); (· exact Y.gtr_b k3 rfl rfl); (· rfl)) | ((with_reducible apply TW.pure (d := 33) (v := .bool _)); (· exact Y.gtr_b k3 rfl rfl); (· rfl))
    | refine wkV ?_
    | ((with_reducible apply TL.storeK); (· rfl); (· rfl); (· rfl); (· exact pkA); (· exact Nat.le_of_ble_eq_true rfl))
    | refine stS ?_ | (refine stB ?_; intro _) | (refine stC ?_; refine And.intro (fun _ => ?_) (fun _ => ?_)))
    refine TQ.endR1 (L' := L) Tryz.results70 rvA rfl (.refl _) ?_ selF
    exact ⟨rfl, rfl, rfl⟩
abbrev pcR (q : Pt) : Rc := ⟨q.1, q.2, q.1, q.2⟩
theorem span_self (p : Pt) : spanR p p = pcR p := by unfold spanR; simp
set_option maxHeartbeats 16000000 in
theorem rBounds8_gives (l : List Pt) (v : Value) (g : Gh) (L : List Ent) (hS : Sl g v l.length 2 (flatP l)) (_hl : l.length ≤ 1000000) (h0 : 0 < l.length) : Gives Tryz.prog 69 #[v] g L (rcV (boundsD l)) := by
  refine .of (Does.of1 Tryz.func69 rfl Tryz.ntmps69 rfl ?_)
  obtain ⟨ao, cap, rfl⟩ := hS.slice
  obtain ⟨p0, hp0⟩ : ∃ p, l[0]? = some p := ⟨_, List.getElem?_eq_getElem h0⟩
  obtain ⟨R, hR⟩ : ∃ R, R = boundsD l := ⟨_, rfl⟩
  have hI0 : bdF (pcR p0) (l.drop 1) = R := by
    rw [hR]
    cases l with
    | nil => cases hp0
    | cons p r => obtain rfl : p = p0 := by simpa using hp0
                  show _ = bdF (spanR p p) r
                  rw [span_self]; rfl
  rw [← hR]
  clear hR
  obtain ⟨b1, o1, rfl, hgA⟩ := hS.elem (i := 0) h0 (by decide)
  have hc0 : g.cell b1 (o1 + 0 * 2) = some (.int .i64 p0.1) := hgA 0 _ (flatP_get hp0).1
  have hc1 : g.cell b1 (o1 + 0 * 2 + 1) = some (.int .i64 p0.2) := hgA 1 _ (flatP_get hp0).2
  clear hgA
  repeat' (first
    | refine wkQ ?_
    | refine wkV ?_
    | refine stS ?_ | (refine stB ?_; intro _) | (refine stC ?_; refine And.intro (fun _ => ?_) (fun _ => ?_))
    | refine wkN0 ?_
    | refine wkN1 ?_
    | refine wkN2 ?_
    | refine wkN3 ?_
    | refine wkG0 ?_
    | refine wkG1 ?_
    | refine wkG2 ?_
    | refine wkG3 ?_
    | refine wkX0 ?_
    | refine wkX1 ?_
    | refine wkX2 ?_
    | refine wkX3 ?_
    | refine wkN0 ?_
    | refine wkN1 ?_
    | refine wkN2 ?_
    | refine wkN3 ?_
    | ((with_reducible apply TA.oneN 0); (· rfl); (· rfl); (· decide +kernel); (· rfl))
    | ((with_reducible apply TA.oneN 1); (· rfl); (· rfl); (· decide +kernel); (· rfl))
    | ((with_reducible apply TA.oneN 2); (· rfl); (· rfl); (· decide +kernel); (· rfl))
    | ((with_reducible apply TA.oneN 3); (· rfl); (· rfl); (· decide +kernel); (· rfl))
    | refine TQ.any leF selF ?_
    | refine TC.region_any 19 (_) (by kernel_rfl) rfl selF ?_ | refine TA.done (by decide +kernel) ?_ | refine TQ.any_panic ?_)
  all_goals
    rename_i b2 b3
    clear hc0 hc1 hp0
    refine TC.loop (fun z : Nat × Rc => z.1 ≤ l.length ∧ bdF z.2 (l.drop z.1) = R) (fun z => l.length - z.1) (fun z => [(4, .int .i64 (z.1 : Nat)), (3, .pointer (some ⟨b3, 0, none⟩)), (2, .pointer (some ⟨b2, 0, none⟩)), (0, .slice (some ⟨b1, o1, none⟩) l.length cap)]) (fun _ => g) (fun z => .obj b3 (.cells (rcC z.2).toArray 48 (0, 0)) :: .obj b2 (.cells (rcC ⟨0, 0, 0, 0⟩).toArray 48 (0, 0)) :: L) (1, pcR p0) ⟨h0, hI0⟩ rfl subA selF ?_
    clear hI0
    rintro ⟨i, r⟩ ⟨hi, hI⟩
    dsimp only at hi hI ⊢
    by_cases hlt : i < l.length
    · obtain ⟨q, hq⟩ : ∃ q, l[i]? = some q := ⟨_, List.getElem?_eq_getElem hlt⟩
      obtain ⟨b5, o5, he, hg⟩ := hS.elem hlt (by decide)
      obtain ⟨rfl, rfl⟩ : b1 = b5 ∧ o1 = o5 := by simpa using he
      have hc0 : g.cell b1 (o1 + i * 2) = some (.int .i64 q.1) := hg 0 _ (flatP_get hq).1
      have hc1 : g.cell b1 (o1 + i * 2 + 1) = some (.int .i64 q.2) := hg 1 _ (flatP_get hq).2
      rw [drop_of_get hq, bdF_cons, span_self] at hI
      have JN := fun L => rJoin8_gives r (pcR q) g L
      clear hS hg he hq
      repeat' (first
    | refine wkQ ?_
    | refine wkV ?_
    | ((with_reducible apply TL.gives_plain); (· kernel_rfl); (· rfl); (· exact JN _); (· rfl)) | ((with_reducible apply TW.gives_plain); (· kernel_rfl); (· rfl); (· exact JN _); (· rfl))
    | refine stS ?_ | (refine stB ?_; intro _) | (refine stC ?_; refine And.intro (fun _ => ?_) (fun _ => ?_))
    | refine TC.region_sink 23 24 ([.obj b3 (.cells (rcC r).toArray 48 (0, 0))]) (by kernel_rfl) (by decide +kernel) rfl selF ?_ | refine TQ.anyT_panic ?_
    | ((with_reducible apply TB.takeN 0); (· rfl); (· decide +kernel); (· rfl); (· first | (first | exact yQ | exact yA | exact yB | exact yM | exact yV) | fail); (· decide +kernel); (· decide +kernel); (· rfl); (· exact fun _ _ _ h => h); (· rfl))
    | ((with_reducible apply TB.takeN 1); (· rfl); (· decide +kernel); (· rfl); (· first | (first | exact yQ | exact yA | exact yB | exact yM | exact yV) | fail); (· decide +kernel); (· decide +kernel); (· rfl); (· exact fun _ _ _ h => h); (· rfl))
    | ((with_reducible apply TB.takeN 2); (· rfl); (· decide +kernel); (· rfl); (· first | (first | exact yQ | exact yA | exact yB | exact yM | exact yV) | fail); (· decide +kernel); (· decide +kernel); (· rfl); (· exact fun _ _ _ h => h); (· rfl))
    | ((with_reducible apply TB.takeN 3); (· rfl); (· decide +kernel); (· rfl); (· first | (first | exact yQ | exact yA | exact yB | exact yM | exact yV) | fail); (· decide +kernel); (· decide +kernel); (· rfl); (· exact fun _ _ _ h => h); (· rfl))
    | ((with_reducible apply TB.oneN 0); (· rfl); (· rfl); (· decide +kernel); (· rfl); intro hsk)
    | ((with_reducible apply TB.oneN 1); (· rfl); (· rfl); (· decide +kernel); (· rfl); intro hsk)
    | ((with_reducible apply TB.oneN 2); (· rfl); (· rfl); (· decide +kernel); (· rfl); intro hsk)
    | ((with_reducible apply TB.oneN 3); (· rfl); (· rfl); (· decide +kernel); (· rfl); intro hsk)
    | refine TQ.lastT (by decide +kernel) ?_ | refine TQ.anyT (by assumption) leF selF ?_)
      refine TQ.round (i + 1, joinR r (pcR q)) ?_ ?_ rfl subA selF
      · exact ⟨by omega, hI⟩
      · show l.length - (i + 1) < l.length - i
        omega
    · obtain rfl : i = l.length := by omega
      rw [List.drop_length] at hI
      obtain rfl : r = R := hI
      clear hS
      repeat' (first
    | refine wkQ ?_
    | refine wkV ?_
    | refine stS ?_ | (refine stB ?_; intro _) | (refine stC ?_; refine And.intro (fun _ => ?_) (fun _ => ?_)))
      refine TQ.endR1 (L' := L) Tryz.results69 rvA rfl (.refl _) ?_ selF
      exact ⟨rfl, rfl, rfl⟩
set_option maxHeartbeats 8000000 in
theorem rshared9_gives (x y : Pt × Pt) (g : Gh) (L : List Ent) (h1 : mayB x.1 = true) (h2 : mayB x.2 = true) (h3 : mayB y.1 = true) (h4 : mayB y.2 = true) : Gives Tryz.prog 88 #[edV x, edV y] g L (.bool (!OnF x.1 x.2 y.2 && !OnF y.1 y.2 x.1)) := by
  refine .of (Does.of2 Tryz.func88 rfl Tryz.ntmps88 rfl ?_)
  obtain ⟨a, b⟩ := x
  obtain ⟨c, d⟩ := y
  have O1 := fun L => rOn8_gives a b d g L h1 h2 h4
  have O2 := fun L => rOn8_gives c d a g L h3 h4 h1
  dsimp only at h1 h2 h3 h4 ⊢
  rw [OnF_mayD h1 h2 h4, OnF_mayD h3 h4 h1]
  generalize onB a b d = z1 at *
  generalize onB c d a = z2 at *
  clear h1 h2 h3 h4
  cases z1 with
  | true =>
    clear O2
    repeat' (first
    | refine wkQ ?_
    | refine wkV ?_
    | ((with_reducible apply TL.gives_plain); (· kernel_rfl); (· rfl); (· exact O1 _); (· rfl)) | ((with_reducible apply TW.gives_plain); (· kernel_rfl); (· rfl); (· exact O1 _); (· rfl))
    | refine stS ?_ | (refine stB ?_; intro _) | (refine stC ?_; refine And.intro (fun _ => ?_) (fun _ => ?_))
    | ((with_reducible apply TL.pure); (· exact Y.load_part rfl pkA (Nat.le_of_ble_eq_true rfl)); (· rfl)))
    refine TQ.endR1 (L' := L) Tryz.results88 rvA rfl (.refl _) ?_ selF
    exact ⟨rfl, rfl, rfl⟩
  | false =>
    repeat' (first
    | refine wkQ ?_
    | refine wkV ?_
    | ((with_reducible apply TL.gives_plain); (· kernel_rfl); (· rfl); (· exact O1 _); (· rfl)) | ((with_reducible apply TW.gives_plain); (· kernel_rfl); (· rfl); (· exact O1 _); (· rfl))
    | ((with_reducible apply TL.gives_plain); (· kernel_rfl); (· rfl); (· exact O2 _); (· rfl)) | ((with_reducible apply TW.gives_plain); (· kernel_rfl); (· rfl); (· exact O2 _); (· rfl))
    | refine stS ?_ | (refine stB ?_; intro _) | (refine stC ?_; refine And.intro (fun _ => ?_) (fun _ => ?_))
    | ((with_reducible apply TL.pure); (· exact Y.load_part rfl pkA (Nat.le_of_ble_eq_true rfl)); (· rfl)))
    refine TQ.endR1 (L' := L) Tryz.results88 rvA rfl (.refl _) ?_ selF
    exact ⟨rfl, rfl, rfl⟩
end Go.Proofs.YtfanccddokckcaaGreatDoor
