/-
  The walks of cmp.Or, Wide.Compare, geom.turn, on, sides, cross, meet.
-/
import Derived.Test.YtgollffmdpejiaaGreatDoorQz3
import Derived.Test.YtgollffmdpejiaaGreatDoorQz8
namespace Go.Proofs.YtgollffmdpejiaaGreatDoor
open Go.RowKit Go.TL
set_option maxRecDepth 100000

theorem or_gives (b : Nat) (x y : Int) (g : Gh) (L : List Ent) : Gives Tryz.prog 123 #[.slice (some ⟨b, 0, none⟩) 2 2] g (.obj b (.cells [.int .i64 x, .int .i64 y].toArray 3 (0, 0)) :: L) (.int .i64 (if x ≠ 0 then x else y)) := by
  refine .of (Does.of1 Tryz.func123 rfl Tryz.ntmps123 rfl ?_)
  repeat' (first
    | refine wkQ ?_
    | refine wkV ?_
    | refine stS ?_ | (refine stB ?_; intro _) | (refine stC ?_; constructor <;> intro _))
  refine TC.loopK (fun i : Nat => i ≤ 2 ∧ (i ≠ 0 → x = 0) ∧ (i = 2 → y = 0)) (fun i => 2 - i) (fun i _ => [(8, .int .i64 (i : Nat)), (7, .int .i64 2), (6, .slice (some ⟨b, 0, none⟩) 2 2), (3, .int .i64 0)]) [] .nil (fun _ L => L) 0 ⟨by decide, fun h => absurd rfl h, fun h => (by cases h)⟩ subA selA ?_
  rintro i ⟨hi, h0, h2⟩
  try dsimp only at hi ⊢
  obtain rfl | rfl | rfl : i = 0 ∨ i = 1 ∨ i = 2 := by omega
  · by_cases hx : x = 0
    · subst hx
      repeat' (first
    | refine wkQ ?_
    | (refine wkA 14 (v := .bool false) ?_ ?_; · exact Y.neq_b rfl rfl rfl)
    | refine wkV ?_
    | refine stS ?_ | (refine stB ?_; intro _) | (refine stC ?_; constructor <;> intro _)
    | refine wkM ?_ | fail)
      refine TQ.round 1 ?_ ?_ rfl subA selF
      · exact ⟨by decide, fun _ => rfl, fun h => (by cases h)⟩
      · decide
    · have b0 : (!decide (x = 0)) = true := by simp [hx]
      rw [if_pos hx]
      repeat' (first
    | refine wkQ ?_
    | (refine wkA 14 (v := .bool true) ?_ ?_; · exact Y.neq_b b0 rfl rfl)
    | refine wkV ?_
    | refine stS ?_ | (refine stB ?_; intro _) | (refine stC ?_; constructor <;> intro _)
    | refine wkM ?_ | fail)
      refine TQ.endR1 (L' := (.obj b (.cells [.int .i64 x, .int .i64 y].toArray 3 (0, 0)) :: L)) Tryz.results123 rvA rfl (.refl _) ?_ selF
      exact ⟨rfl, rfl, rfl⟩
  · have hx := h0 (by decide)
    subst hx
    rw [if_neg (by simp)]
    by_cases hy : y = 0
    · subst hy
      repeat' (first
    | refine wkQ ?_
    | (refine wkA 14 (v := .bool false) ?_ ?_; · exact Y.neq_b rfl rfl rfl)
    | refine wkV ?_
    | refine stS ?_ | (refine stB ?_; intro _) | (refine stC ?_; constructor <;> intro _)
    | refine wkM ?_ | fail)
      refine TQ.round 2 ?_ ?_ rfl subA selF
      · exact ⟨by decide, fun _ => rfl, fun _ => rfl⟩
      · decide
    · have b0 : (!decide (y = 0)) = true := by simp [hy]
      repeat' (first
    | refine wkQ ?_
    | (refine wkA 14 (v := .bool true) ?_ ?_; · exact Y.neq_b b0 rfl rfl)
    | refine wkV ?_
    | refine stS ?_ | (refine stB ?_; intro _) | (refine stC ?_; constructor <;> intro _)
    | refine wkM ?_ | fail)
      refine TQ.endR1 (L' := (.obj b (.cells [.int .i64 0, .int .i64 y].toArray 3 (0, 0)) :: L)) Tryz.results123 rvA rfl (.refl _) ?_ selF
      exact ⟨rfl, rfl, rfl⟩
  · have hx := h0 (by decide)
    have hy := h2 rfl
    subst hx
    subst hy
    rw [if_neg (by simp)]
    repeat' (first
    | refine wkQ ?_
    | refine wkV ?_
    | refine stS ?_ | (refine stB ?_; intro _) | (refine stC ?_; constructor <;> intro _)
    | refine wkM ?_ | fail)
    refine TQ.endR1 (L' := (.obj b (.cells [.int .i64 0, .int .i64 0].toArray 3 (0, 0)) :: L)) Tryz.results123 rvA rfl (.refl _) ?_ selF
    exact ⟨rfl, rfl, rfl⟩
theorem cmp_wide (p q : Int) : (if cmpG (p / 18446744073709551616) (q / 18446744073709551616) ≠ 0 then cmpG (p / 18446744073709551616) (q / 18446744073709551616) else cmpG (p % 18446744073709551616) (q % 18446744073709551616)) = cmpG p q := by
  unfold cmpG
  split <;> split <;> split <;> (try split) <;> (try split) <;> omega
set_option maxHeartbeats 4000000 in
theorem wCompare_gives (p q : Int) (g : Gh) (L : List Ent) : Gives Tryz.prog 322 #[wdV p, wdV q] g L (.int .i64 (cmpG p q)) := by
  refine .of (Does.of2 Tryz.func322 rfl Tryz.ntmps322 rfl ?_)
  rw [← cmp_wide p q]
  unfold wdV
  have C1 := fun L => cmpG_gives (p / 18446744073709551616) (q / 18446744073709551616) g L
  have C2 := fun L => cmpU_gives (p % 18446744073709551616) (q % 18446744073709551616) g L
  generalize p / 18446744073709551616 = ph at *
  generalize q / 18446744073709551616 = qh at *
  generalize p % 18446744073709551616 = pl at *
  generalize q % 18446744073709551616 = ql at *
  generalize cmpG ph qh = c1 at *
  generalize cmpG pl ql = c2 at *
  have O := fun b L => or_gives b c1 c2 g L
  repeat' (first
    | refine wkQ ?_
    | refine wkV ?_
    | ((with_reducible apply TL.build_slice); (· rfl); (· rfl); (· exact oneA); (· rfl); (· rfl); (· rfl); intro _) | refine TL.build_one (by rfl) (by first | rfl | assumption) (by rfl) (by rfl) (by rfl) (by rfl) (fun _ => ?_) | refine TL.build_empty (by rfl) (fun _ => ?_)
    | refine wkD (C1 _) ?_
    | refine wkD (C2 _) ?_
    | refine wkD (O _ _) ?_
    | refine wkN0 ?_
    | refine wkN1 ?_
    | refine wkN2 ?_
    | refine wkN3 ?_
    | refine wkG0 ?_
    | refine wkG1 ?_
    | refine wkG2 ?_
    | refine wkG3 ?_
    | refine wkX0 ?_
    | refine wkX1 ?_
    | refine wkX2 ?_
    | refine wkX3 ?_
    | refine wkN0 ?_
    | refine wkN1 ?_
    | refine wkN2 ?_
    | refine wkN3 ?_
    | refine wkO0 ?_
    | refine wkO1 ?_
    | refine wkO2 ?_
    | refine wkO3 ?_
    | refine TQ.any leF selF ?_
    | refine TC.region_any 13 (_) (by kernel_rfl) rfl selF ?_ | refine TA.done (by decide +kernel) ?_ | refine TQ.any_panic ?_
    | refine stS ?_ | (refine stB ?_; intro _) | (refine stC ?_; constructor <;> intro _)
    | refine wkW ?_)
  refine TQ.endR1 (L' := L) Tryz.results322 rvA rfl (.refl _) ?_ selF
  exact ⟨rfl, rfl, rfl⟩
def tnL (a b c : Pt) : Int := (b.1 - a.1) * (c.2 - a.2)
def tnR (a b c : Pt) : Int := (b.2 - a.2) * (c.1 - a.1)
def tn (a b c : Pt) : Int := cmpG (tnL a b c) (tnR a b c)
theorem mayB_iff {p : Pt} : mayB p = true ↔ (-1800000000 ≤ p.1 ∧ p.1 ≤ 1800000000) ∧ (-900000000 ≤ p.2 ∧ p.2 ≤ 900000000) := by
  simp [mayB, inB]
set_option maxHeartbeats 4000000 in
theorem turn_gives (a b c : Pt) (g : Gh) (L : List Ent) (ha : mayB a = true) (hb : mayB b = true) (hc : mayB c = true) : Gives Tryz.prog 294 #[pt a, pt b, pt c] g L (.int .i64 (tn a b c)) := by
  refine .of (Does.of3 Tryz.func294 rfl Tryz.ntmps294 rfl ?_)
  have ha := mayB_iff.1 ha
  have hb := mayB_iff.1 hb
  have hc := mayB_iff.1 hc
  have M1 := fun L => wMul_gives (b.1 - a.1) (c.2 - a.2) g L (by omega) (by omega)
  have M2 := fun L => wMul_gives (b.2 - a.2) (c.1 - a.1) g L (by omega) (by omega)
  have C := fun L => wCompare_gives (tnL a b c) (tnR a b c) g L
  unfold tn
  rw [show (b.1 - a.1) * (c.2 - a.2) = tnL a b c from rfl] at M1
  rw [show (b.2 - a.2) * (c.1 - a.1) = tnR a b c from rfl] at M2
  generalize tnL a b c = l at *
  generalize tnR a b c = r at *
  generalize cmpG l r = z at *
  repeat' (first
    | refine wkQ ?_
    | (refine wkA 13 (v := .int .i64 (b.1 - a.1)) ?_ ?_; · exact Y.sub rfl rfl (IntWalk.i64_in _ (by omega)))
    | (refine wkA 18 (v := .int .i64 (c.2 - a.2)) ?_ ?_; · exact Y.sub rfl rfl (IntWalk.i64_in _ (by omega)))
    | (refine wkA 24 (v := .int .i64 (b.2 - a.2)) ?_ ?_; · exact Y.sub rfl rfl (IntWalk.i64_in _ (by omega)))
    | (refine wkA 29 (v := .int .i64 (c.1 - a.1)) ?_ ?_; · exact Y.sub rfl rfl (IntWalk.i64_in _ (by omega)))
    | refine wkV ?_
    | refine wkD (M1 _) ?_
    | refine wkD (M2 _) ?_
    | refine wkD (C _) ?_
    | refine stS ?_ | (refine stB ?_; intro _) | (refine stC ?_; constructor <;> intro _))
  refine TQ.endR1 (L' := L) Tryz.results294 rvA rfl (.refl _) ?_ selF
  exact ⟨rfl, rfl, rfl⟩
theorem tn_three (a b c : Pt) : tn a b c = -1 ∨ tn a b c = 0 ∨ tn a b c = 1 := by
  unfold tn cmpG; split <;> (try split) <;> simp
def onB (a b p : Pt) : Bool := decide (tn a b p = 0) && holdsB (spanR a b) p
set_option maxHeartbeats 4000000 in
theorem on_gives (a b c : Pt) (g : Gh) (L : List Ent) (ha : mayB a = true) (hb : mayB b = true) (hc : mayB c = true) : Gives Tryz.prog 292 #[pt a, pt b, pt c] g L (.bool (onB a b c)) := by
  refine .of (Does.of3 Tryz.func292 rfl Tryz.ntmps292 rfl ?_)
  have T := fun L => turn_gives a b c g L ha hb hc
  have SP := fun L => span_gives g L a b
  have H := fun L => holds_gives g L (spanR a b) c
  unfold onB
  have h3 := tn_three a b c
  generalize spanR a b = s at *
  generalize holdsB s c = hB at *
  generalize tn a b c = t at *
  rcases h3 with rfl | rfl | rfl
  · repeat' (first
    | refine wkQ ?_
    | refine wkV ?_
    | refine wkD (T _) ?_
    | refine wkN0 ?_
    | refine wkN1 ?_
    | refine wkN2 ?_
    | refine wkN3 ?_
    | refine wkG0 ?_
    | refine wkG1 ?_
    | refine wkG2 ?_
    | refine wkG3 ?_
    | refine wkX0 ?_
    | refine wkX1 ?_
    | refine wkX2 ?_
    | refine wkX3 ?_
    | refine wkN0 ?_
    | refine wkN1 ?_
    | refine wkN2 ?_
    | refine wkN3 ?_
    | refine wkO0 ?_
    | refine wkO1 ?_
    | refine wkO2 ?_
    | refine wkO3 ?_
    | refine TQ.any leF selF ?_
    | refine TC.region_any 13 (_) (by kernel_rfl) rfl selF ?_ | refine TA.done (by decide +kernel) ?_ | refine TQ.any_panic ?_
    | refine stS ?_ | (refine stB ?_; intro _) | (refine stC ?_; constructor <;> intro _)
    | refine wkW ?_)
    refine TQ.endR1 (L' := L) Tryz.results292 rvA rfl (.refl _) ?_ selF
    exact ⟨rfl, rfl, rfl⟩
  · repeat' (first
    | refine wkQ ?_
    | refine wkV ?_
    | refine wkD (T _) ?_
    | refine wkD (SP _) ?_
    | refine wkD (H _) ?_
    | refine wkN0 ?_
    | refine wkN1 ?_
    | refine wkN2 ?_
    | refine wkN3 ?_
    | refine wkG0 ?_
    | refine wkG1 ?_
    | refine wkG2 ?_
    | refine wkG3 ?_
    | refine wkX0 ?_
    | refine wkX1 ?_
    | refine wkX2 ?_
    | refine wkX3 ?_
    | refine wkN0 ?_
    | refine wkN1 ?_
    | refine wkN2 ?_
    | refine wkN3 ?_
    | refine wkO0 ?_
    | refine wkO1 ?_
    | refine wkO2 ?_
    | refine wkO3 ?_
    | refine TQ.any leF selF ?_
    | refine TC.region_any 13 (_) (by kernel_rfl) rfl selF ?_ | refine TA.done (by decide +kernel) ?_ | refine TQ.any_panic ?_
    | refine stS ?_ | (refine stB ?_; intro _) | (refine stC ?_; constructor <;> intro _)
    | refine wkW ?_)
    refine TQ.endR1 (L' := L) Tryz.results292 rvA rfl (.refl _) ?_ selF
    exact ⟨rfl, rfl, rfl⟩
  · repeat' (first
    | refine wkQ ?_
    | refine wkV ?_
    | refine wkD (T _) ?_
    | refine wkN0 ?_
    | refine wkN1 ?_
    | refine wkN2 ?_
    | refine wkN3 ?_
    | refine wkG0 ?_
    | refine wkG1 ?_
    | refine wkG2 ?_
    | refine wkG3 ?_
    | refine wkX0 ?_
    | refine wkX1 ?_
    | refine wkX2 ?_
    | refine wkX3 ?_
    | refine wkN0 ?_
    | refine wkN1 ?_
    | refine wkN2 ?_
    | refine wkN3 ?_
    | refine wkO0 ?_
    | refine wkO1 ?_
    | refine wkO2 ?_
    | refine wkO3 ?_
    | refine TQ.any leF selF ?_
    | refine TC.region_any 13 (_) (by kernel_rfl) rfl selF ?_ | refine TA.done (by decide +kernel) ?_ | refine TQ.any_panic ?_
    | refine stS ?_ | (refine stB ?_; intro _) | (refine stC ?_; constructor <;> intro _)
    | refine wkW ?_)
    refine TQ.endR1 (L' := L) Tryz.results292 rvA rfl (.refl _) ?_ selF
    exact ⟨rfl, rfl, rfl⟩
end Go.Proofs.YtgollffmdpejiaaGreatDoor
