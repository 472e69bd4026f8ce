/-
  The walks of cmp.Or, Wide.Compare, geom.turn, on, sides, cross, meet. Arrays of four by value; the second word of arrays. The walks of geom.sides, cross, meet, On, Meet, Cross; MayRect, Holds, Overlap, Join.
-/
import Derived.Test.YtfanccddokckcaaGreatDoorSt2
import Derived.Test.YtfanccddokckcaaGreatDoorSt7
import Derived.Test.YtfanccddokckcaaGreatDoorSt1
namespace Go.Proofs.YtfanccddokckcaaGreatDoor
open Go.RowKit Go.TL
set_option maxRecDepth 100000

theorem or_gives (b : Nat) (x y : Int) (g : Gh) (L : List Ent) : Gives Tryz.prog 145 #[.slice (some ⟨b, 0, none⟩) 2 2] g (.obj b (.cells [.int .i64 x, .int .i64 y].toArray 3 (0, 0)) :: L) (.int .i64 (if x ≠ 0 then x else y)) := by
  refine .of (Does.of1 Tryz.func145 rfl Tryz.ntmps145 rfl ?_)
  repeat' (first
    | refine wkQ ?_
    | refine wkV ?_
    | refine stS ?_ | (refine stB ?_; intro _) | (refine stC ?_; refine And.intro (fun _ => ?_) (fun _ => ?_)))
  refine TC.loopK (fun i : Nat => i ≤ 2 ∧ (i ≠ 0 → x = 0) ∧ (i = 2 → y = 0)) (fun i => 2 - i) (fun i _ => [(8, .int .i64 (i : Nat)), (7, .int .i64 2), (6, .slice (some ⟨b, 0, none⟩) 2 2), (3, .int .i64 0)]) [] .nil (fun _ L => L) 0 ⟨by decide, fun h => absurd rfl h, fun h => (by cases h)⟩ subA selA ?_
  rintro i ⟨hi, h0, h2⟩
  try dsimp only at hi ⊢
  obtain rfl | rfl | rfl : i = 0 ∨ i = 1 ∨ i = 2 := by omega
  · by_cases hx : x = 0
    · subst hx
      repeat' (first
    | refine wkQ ?_
    | ((with_reducible apply TL.pure (d := 14) (v := .bool false)); (· exact Y.neq_b rfl rfl rfl); (· rfl)) | ((with_reducible apply TW.pure (d := 14) (v := .bool false)); (· exact Y.neq_b rfl rfl rfl); (· rfl))
    | refine wkV ?_
    | refine stS ?_ | (refine stB ?_; intro _) | (refine stC ?_; refine And.intro (fun _ => ?_) (fun _ => ?_))
    | ((with_reducible apply TL.pure); (· exact yM); (· rfl)) | ((with_reducible apply TW.pure); (· exact yM); (· rfl)))
      refine TQ.round 1 ?_ ?_ rfl subA selF
      · exact ⟨by decide, fun _ => rfl, fun h => (by cases h)⟩
      · decide
    · have b0 : (!decide (x = 0)) = true := by simp [hx]
      rw [if_pos hx]
      repeat' (first
    | refine wkQ ?_
    | ((with_reducible apply TL.pure (d := 14) (v := .bool true)); (· exact Y.neq_b b0 rfl rfl); (· rfl)) | ((with_reducible apply TW.pure (d := 14) (v := .bool true)); (· exact Y.neq_b b0 rfl rfl); (· rfl))
    | refine wkV ?_
    | refine stS ?_ | (refine stB ?_; intro _) | (refine stC ?_; refine And.intro (fun _ => ?_) (fun _ => ?_))
    | ((with_reducible apply TL.pure); (· exact yM); (· rfl)) | ((with_reducible apply TW.pure); (· exact yM); (· rfl)))
      refine TQ.endR1 (L' := (.obj b (.cells [.int .i64 x, .int .i64 y].toArray 3 (0, 0)) :: L)) Tryz.results145 rvA rfl (.refl _) ?_ selF
      exact ⟨rfl, rfl, rfl⟩
  · have hx := h0 (by decide)
    subst hx
    rw [if_neg (by simp)]
    by_cases hy : y = 0
    · subst hy
      repeat' (first
    | refine wkQ ?_
    | ((with_reducible apply TL.pure (d := 14) (v := .bool false)); (· exact Y.neq_b rfl rfl rfl); (· rfl)) | ((with_reducible apply TW.pure (d := 14) (v := .bool false)); (· exact Y.neq_b rfl rfl rfl); (· rfl))
    | refine wkV ?_
    | refine stS ?_ | (refine stB ?_; intro _) | (refine stC ?_; refine And.intro (fun _ => ?_) (fun _ => ?_))
    | ((with_reducible apply TL.pure); (· exact yM); (· rfl)) | ((with_reducible apply TW.pure); (· exact yM); (· rfl)))
      refine TQ.round 2 ?_ ?_ rfl subA selF
      · exact ⟨by decide, fun _ => rfl, fun _ => rfl⟩
      · decide
    · have b0 : (!decide (y = 0)) = true := by simp [hy]
      repeat' (first
    | refine wkQ ?_
    | ((with_reducible apply TL.pure (d := 14) (v := .bool true)); (· exact Y.neq_b b0 rfl rfl); (· rfl)) | ((with_reducible apply TW.pure (d := 14) (v := .bool true)); (· exact Y.neq_b b0 rfl rfl); (· rfl))
    | refine wkV ?_
    | refine stS ?_ | (refine stB ?_; intro _) | (refine stC ?_; refine And.intro (fun _ => ?_) (fun _ => ?_))
    | ((with_reducible apply TL.pure); (· exact yM); (· rfl)) | ((with_reducible apply TW.pure); (· exact yM); (· rfl)))
      refine TQ.endR1 (L' := (.obj b (.cells [.int .i64 0, .int .i64 y].toArray 3 (0, 0)) :: L)) Tryz.results145 rvA rfl (.refl _) ?_ selF
      exact ⟨rfl, rfl, rfl⟩
  · have hx := h0 (by decide)
    have hy := h2 rfl
    subst hx
    subst hy
    rw [if_neg (by simp)]
    repeat' (first
    | refine wkQ ?_
    | refine wkV ?_
    | refine stS ?_ | (refine stB ?_; intro _) | (refine stC ?_; refine And.intro (fun _ => ?_) (fun _ => ?_))
    | ((with_reducible apply TL.pure); (· exact yM); (· rfl)) | ((with_reducible apply TW.pure); (· exact yM); (· rfl)))
    refine TQ.endR1 (L' := (.obj b (.cells [.int .i64 0, .int .i64 0].toArray 3 (0, 0)) :: L)) Tryz.results145 rvA rfl (.refl _) ?_ selF
    exact ⟨rfl, rfl, rfl⟩
theorem cmp_wide (p q : Int) : (if cmpG (p / 18446744073709551616) (q / 18446744073709551616) ≠ 0 then cmpG (p / 18446744073709551616) (q / 18446744073709551616) else cmpG (p % 18446744073709551616) (q % 18446744073709551616)) = cmpG p q := by
  unfold cmpG
  split <;> split <;> split <;> (try split) <;> (try split) <;> omega
set_option maxHeartbeats 4000000 in
theorem wCompare_gives (p q : Int) (g : Gh) (L : List Ent) : Gives Tryz.prog 131 #[wdV p, wdV q] g L (.int .i64 (cmpG p q)) := by
  refine .of (Does.of2 Tryz.func131 rfl Tryz.ntmps131 rfl ?_)
  rw [← cmp_wide p q]
  unfold wdV
  have C1 := fun L => cmpG_gives (p / 18446744073709551616) (q / 18446744073709551616) g L
  have C2 := fun L => cmpU_gives (p % 18446744073709551616) (q % 18446744073709551616) g L
  generalize p / 18446744073709551616 = ph at *
  generalize q / 18446744073709551616 = qh at *
  generalize p % 18446744073709551616 = pl at *
  generalize q % 18446744073709551616 = ql at *
  generalize cmpG ph qh = c1 at *
  generalize cmpG pl ql = c2 at *
  have O := fun b L => or_gives b c1 c2 g L
  repeat' (first
    | refine wkQ ?_
    | refine wkV ?_
    | ((with_reducible apply TL.build_slice); (· rfl); (· rfl); (· exact oneA); (· rfl); (· rfl); (· rfl); intro _) | refine TL.build_one (by rfl) (by first | rfl | assumption) (by rfl) (by rfl) (by rfl) (by rfl) (fun _ => ?_) | refine TL.build_empty (by rfl) (fun _ => ?_)
    | ((with_reducible apply TL.gives_plain); (· kernel_rfl); (· rfl); (· exact C1 _); (· rfl)) | ((with_reducible apply TW.gives_plain); (· kernel_rfl); (· rfl); (· exact C1 _); (· rfl))
    | ((with_reducible apply TL.gives_plain); (· kernel_rfl); (· rfl); (· exact C2 _); (· rfl)) | ((with_reducible apply TW.gives_plain); (· kernel_rfl); (· rfl); (· exact C2 _); (· rfl))
    | ((with_reducible apply TL.gives_plain); (· kernel_rfl); (· rfl); (· exact O _ _); (· rfl)) | ((with_reducible apply TW.gives_plain); (· kernel_rfl); (· rfl); (· exact O _ _); (· rfl))
    | refine wkN0 ?_
    | refine wkN1 ?_
    | refine wkN2 ?_
    | refine wkN3 ?_
    | refine wkG0 ?_
    | refine wkG1 ?_
    | refine wkG2 ?_
    | refine wkG3 ?_
    | refine wkX0 ?_
    | refine wkX1 ?_
    | refine wkX2 ?_
    | refine wkX3 ?_
    | refine wkN0 ?_
    | refine wkN1 ?_
    | refine wkN2 ?_
    | refine wkN3 ?_
    | ((with_reducible apply TA.oneN 0); (· rfl); (· rfl); (· decide +kernel); (· rfl))
    | ((with_reducible apply TA.oneN 1); (· rfl); (· rfl); (· decide +kernel); (· rfl))
    | ((with_reducible apply TA.oneN 2); (· rfl); (· rfl); (· decide +kernel); (· rfl))
    | ((with_reducible apply TA.oneN 3); (· rfl); (· rfl); (· decide +kernel); (· rfl))
    | refine TQ.any leF selF ?_
    | refine TC.region_any 13 (_) (by kernel_rfl) rfl selF ?_ | refine TA.done (by decide +kernel) ?_ | refine TQ.any_panic ?_
    | refine stS ?_ | (refine stB ?_; intro _) | (refine stC ?_; refine And.intro (fun _ => ?_) (fun _ => ?_))
    | apply TC.region_draw (by kernel_rfl) (by kernel_rfl) | refine TW.nil ?_ | ((with_reducible apply TW.pure); (· exact yA); (· rfl)))
  refine TQ.endR1 (L' := L) Tryz.results131 rvA rfl (.refl _) ?_ selF
  exact ⟨rfl, rfl, rfl⟩
def tnL (a b c : Pt) : Int := (b.1 - a.1) * (c.2 - a.2)
def tnR (a b c : Pt) : Int := (b.2 - a.2) * (c.1 - a.1)
def tn (a b c : Pt) : Int := cmpG (tnL a b c) (tnR a b c)
theorem mayB_iff {p : Pt} : mayB p = true ↔ (-1800000000 ≤ p.1 ∧ p.1 ≤ 1800000000) ∧ (-900000000 ≤ p.2 ∧ p.2 ≤ 900000000) := by
  simp [mayB, inB]
set_option maxHeartbeats 4000000 in
theorem turn_gives (a b c : Pt) (g : Gh) (L : List Ent) (ha : mayB a = true) (hb : mayB b = true) (hc : mayB c = true) : Gives Tryz.prog 117 #[pt a, pt b, pt c] g L (.int .i64 (tn a b c)) := by
  refine .of (Does.of3 Tryz.func117 rfl Tryz.ntmps117 rfl ?_)
  have ha := mayB_iff.1 ha
  have hb := mayB_iff.1 hb
  have hc := mayB_iff.1 hc
  have M1 := fun L => wMul_gives (b.1 - a.1) (c.2 - a.2) g L (by omega) (by omega)
  have M2 := fun L => wMul_gives (b.2 - a.2) (c.1 - a.1) g L (by omega) (by omega)
  have C := fun L => wCompare_gives (tnL a b c) (tnR a b c) g L
  unfold tn
  rw [show (b.1 - a.1) * (c.2 - a.2) = tnL a b c from rfl] at M1
  rw [show (b.2 - a.2) * (c.1 - a.1) = tnR a b c from rfl] at M2
  generalize tnL a b c = l at *
  generalize tnR a b c = r at *
  generalize cmpG l r = z at *
  repeat' (first
    | refine wkQ ?_
    | ((with_reducible apply TL.pure (d := 13) (v := .int .i64 (b.1 - a.1))); (· exact Y.sub rfl rfl (IntWalk.i64_in _ (by omega))); (· rfl)) | ((with_reducible apply TW.pure (d := 13) (v := .int .i64 (b.1 - a.1))); (· exact Y.sub rfl rfl (IntWalk.i64_in _ (by omega))); (· rfl))
    | ((with_reducible apply TL.pure (d := 18) (v := .int .i64 (c.2 - a.2))); (· exact Y.sub rfl rfl (IntWalk.i64_in _ (by omega))); (· rfl)) | ((with_reducible apply TW.pure (d := 18) (v := .int .i64 (c.2 - a.2))); (· exact Y.sub rfl rfl (IntWalk.i64_in _ (by omega))); (· rfl))
    | ((with_reducible apply TL.pure (d := 24) (v := .int .i64 (b.2 - a.2))); (· exact Y.sub rfl rfl (IntWalk.i64_in _ (by omega))); (· rfl)) | ((with_reducible apply TW.pure (d := 24) (v := .int .i64 (b.2 - a.2))); (· exact Y.sub rfl rfl (IntWalk.i64_in _ (by omega))); (· rfl))
    | ((with_reducible apply TL.pure (d := 29) (v := .int .i64 (c.1 - a.1))); (· exact Y.sub rfl rfl (IntWalk.i64_in _ (by omega))); (· rfl)) | ((with_reducible apply TW.pure (d := 29) (v := .int .i64 (c.1 - a.1))); (· exact Y.sub rfl rfl (IntWalk.i64_in _ (by omega))); (· rfl))
    | refine wkV ?_
    | ((with_reducible apply TL.gives_plain); (· kernel_rfl); (· rfl); (· exact M1 _); (· rfl)) | ((with_reducible apply TW.gives_plain); (· kernel_rfl); (· rfl); (· exact M1 _); (· rfl))
    | ((with_reducible apply TL.gives_plain); (· kernel_rfl); (· rfl); (· exact M2 _); (· rfl)) | ((with_reducible apply TW.gives_plain); (· kernel_rfl); (· rfl); (· exact M2 _); (· rfl))
    | ((with_reducible apply TL.gives_plain); (· kernel_rfl); (· rfl); (· exact C _); (· rfl)) | ((with_reducible apply TW.gives_plain); (· kernel_rfl); (· rfl); (· exact C _); (· rfl))
    | refine stS ?_ | (refine stB ?_; intro _) | (refine stC ?_; refine And.intro (fun _ => ?_) (fun _ => ?_)))
  refine TQ.endR1 (L' := L) Tryz.results117 rvA rfl (.refl _) ?_ selF
  exact ⟨rfl, rfl, rfl⟩
theorem tn_three (a b c : Pt) : tn a b c = -1 ∨ tn a b c = 0 ∨ tn a b c = 1 := by
  unfold tn cmpG; split <;> (try split) <;> simp
def onB (a b p : Pt) : Bool := decide (tn a b p = 0) && holdsB (spanR a b) p
set_option maxHeartbeats 4000000 in
theorem on_gives (a b c : Pt) (g : Gh) (L : List Ent) (ha : mayB a = true) (hb : mayB b = true) (hc : mayB c = true) : Gives Tryz.prog 115 #[pt a, pt b, pt c] g L (.bool (onB a b c)) := by
  refine .of (Does.of3 Tryz.func115 rfl Tryz.ntmps115 rfl ?_)
  have T := fun L => turn_gives a b c g L ha hb hc
  have SP := fun L => span_gives g L a b
  have H := fun L => holds_gives g L (spanR a b) c
  unfold onB
  have h3 := tn_three a b c
  generalize spanR a b = s at *
  generalize holdsB s c = hB at *
  generalize tn a b c = t at *
  rcases h3 with rfl | rfl | rfl
  · repeat' (first
    | refine wkQ ?_
    | refine wkV ?_
    | ((with_reducible apply TL.gives_plain); (· kernel_rfl); (· rfl); (· exact T _); (· rfl)) | ((with_reducible apply TW.gives_plain); (· kernel_rfl); (· rfl); (· exact T _); (· rfl))
    | refine wkN0 ?_
    | refine wkN1 ?_
    | refine wkN2 ?_
    | refine wkN3 ?_
    | refine wkG0 ?_
    | refine wkG1 ?_
    | refine wkG2 ?_
    | refine wkG3 ?_
    | refine wkX0 ?_
    | refine wkX1 ?_
    | refine wkX2 ?_
    | refine wkX3 ?_
    | refine wkN0 ?_
    | refine wkN1 ?_
    | refine wkN2 ?_
    | refine wkN3 ?_
    | ((with_reducible apply TA.oneN 0); (· rfl); (· rfl); (· decide +kernel); (· rfl))
    | ((with_reducible apply TA.oneN 1); (· rfl); (· rfl); (· decide +kernel); (· rfl))
    | ((with_reducible apply TA.oneN 2); (· rfl); (· rfl); (· decide +kernel); (· rfl))
    | ((with_reducible apply TA.oneN 3); (· rfl); (· rfl); (· decide +kernel); (· rfl))
    | refine TQ.any leF selF ?_
    | refine TC.region_any 13 (_) (by kernel_rfl) rfl selF ?_ | refine TA.done (by decide +kernel) ?_ | refine TQ.any_panic ?_
    | refine stS ?_ | (refine stB ?_; intro _) | (refine stC ?_; refine And.intro (fun _ => ?_) (fun _ => ?_))
    | apply TC.region_draw (by kernel_rfl) (by kernel_rfl) | refine TW.nil ?_ | ((with_reducible apply TW.pure); (· exact yA); (· rfl)))
    refine TQ.endR1 (L' := L) Tryz.results115 rvA rfl (.refl _) ?_ selF
    exact ⟨rfl, rfl, rfl⟩
  · repeat' (first
    | refine wkQ ?_
    | refine wkV ?_
    | ((with_reducible apply TL.gives_plain); (· kernel_rfl); (· rfl); (· exact T _); (· rfl)) | ((with_reducible apply TW.gives_plain); (· kernel_rfl); (· rfl); (· exact T _); (· rfl))
    | ((with_reducible apply TL.gives_plain); (· kernel_rfl); (· rfl); (· exact SP _); (· rfl)) | ((with_reducible apply TW.gives_plain); (· kernel_rfl); (· rfl); (· exact SP _); (· rfl))
    | ((with_reducible apply TL.gives_plain); (· kernel_rfl); (· rfl); (· exact H _); (· rfl)) | ((with_reducible apply TW.gives_plain); (· kernel_rfl); (· rfl); (· exact H _); (· rfl))
    | refine wkN0 ?_
    | refine wkN1 ?_
    | refine wkN2 ?_
    | refine wkN3 ?_
    | refine wkG0 ?_
    | refine wkG1 ?_
    | refine wkG2 ?_
    | refine wkG3 ?_
    | refine wkX0 ?_
    | refine wkX1 ?_
    | refine wkX2 ?_
    | refine wkX3 ?_
    | refine wkN0 ?_
    | refine wkN1 ?_
    | refine wkN2 ?_
    | refine wkN3 ?_
    | ((with_reducible apply TA.oneN 0); (· rfl); (· rfl); (· decide +kernel); (· rfl))
    | ((with_reducible apply TA.oneN 1); (· rfl); (· rfl); (· decide +kernel); (· rfl))
    | ((with_reducible apply TA.oneN 2); (· rfl); (· rfl); (· decide +kernel); (· rfl))
    | ((with_reducible apply TA.oneN 3); (· rfl); (· rfl); (· decide +kernel); (· rfl))
    | refine TQ.any leF selF ?_
    | refine TC.region_any 13 (_) (by kernel_rfl) rfl selF ?_ | refine TA.done (by decide +kernel) ?_ | refine TQ.any_panic ?_
    | refine stS ?_ | (refine stB ?_; intro _) | (refine stC ?_; refine And.intro (fun _ => ?_) (fun _ => ?_))
    | apply TC.region_draw (by kernel_rfl) (by kernel_rfl) | refine TW.nil ?_ | ((with_reducible apply TW.pure); (· exact yA); (· rfl)))
    refine TQ.endR1 (L' := L) Tryz.results115 rvA rfl (.refl _) ?_ selF
    exact ⟨rfl, rfl, rfl⟩
  · repeat' (first
    | refine wkQ ?_
    | refine wkV ?_
    | ((with_reducible apply TL.gives_plain); (· kernel_rfl); (· rfl); (· exact T _); (· rfl)) | ((with_reducible apply TW.gives_plain); (· kernel_rfl); (· rfl); (· exact T _); (· rfl))
    | refine wkN0 ?_
    | refine wkN1 ?_
    | refine wkN2 ?_
    | refine wkN3 ?_
    | refine wkG0 ?_
    | refine wkG1 ?_
    | refine wkG2 ?_
    | refine wkG3 ?_
    | refine wkX0 ?_
    | refine wkX1 ?_
    | refine wkX2 ?_
    | refine wkX3 ?_
    | refine wkN0 ?_
    | refine wkN1 ?_
    | refine wkN2 ?_
    | refine wkN3 ?_
    | ((with_reducible apply TA.oneN 0); (· rfl); (· rfl); (· decide +kernel); (· rfl))
    | ((with_reducible apply TA.oneN 1); (· rfl); (· rfl); (· decide +kernel); (· rfl))
    | ((with_reducible apply TA.oneN 2); (· rfl); (· rfl); (· decide +kernel); (· rfl))
    | ((with_reducible apply TA.oneN 3); (· rfl); (· rfl); (· decide +kernel); (· rfl))
    | refine TQ.any leF selF ?_
    | refine TC.region_any 13 (_) (by kernel_rfl) rfl selF ?_ | refine TA.done (by decide +kernel) ?_ | refine TQ.any_panic ?_
    | refine stS ?_ | (refine stB ?_; intro _) | (refine stC ?_; refine And.intro (fun _ => ?_) (fun _ => ?_))
    | apply TC.region_draw (by kernel_rfl) (by kernel_rfl) | refine TW.nil ?_ | ((with_reducible apply TW.pure); (· exact yA); (· rfl)))
    refine TQ.endR1 (L' := L) Tryz.results115 rvA rfl (.refl _) ?_ selF
    exact ⟨rfl, rfl, rfl⟩
end Go.Proofs.YtfanccddokckcaaGreatDoor
namespace Go.TL
open Go Go.RowKit Go.Proofs.YtfanccddokckcaaGreatDoor
section
variable {P : Program} {n : Nat} {ds : List Deferred} {S : Slots} {g : Gh} {L : List Ent} {dst : Option Nat} {ty : TypeId} {pos : String} {aft : Array Edge} {gd : Option (Nat × Bool)} {t e : TypeId}
theorem Y.build_four {x1 x2 x3 x4 : Operand} {u1 u2 u3 u4 z1 z2 z3 z4 z0 : Value} {sz b1 b2 : Nat} [ht : Und P t (.array 4 e)] [he : Inf P e 1 b1 z0] [hi : Inf P t sz b2 (.agg #[z1, z2, z3, z4])]
    (h1 : ev S x1 = some u1) (h2 : ev S x2 = some u2) (h3 : ev S x3 = some u3) (h4 : ev S x4 = some u4) (o1 : u1.one = true) (o2 : u2.one = true) (o3 : u3.one = true) (o4 : u4.one = true) : Yields P n ds S g L ⟨dst, .build t #[(0, x1), (1, x2), (2, x3), (3, x4)], ty, pos, aft, gd⟩ (.agg #[u1, u2, u3, u4]) := .mk fun a w hf _ => by
  obtain ⟨j, hj, hs, _⟩ := he.eq
  have hz := run_zero (P := P) (t := t) (z := .agg #[z1, z2, z3, z4]) w
  have c0 : (Value.agg #[z1, z2, z3, z4]).cells = #[z1, z2, z3, z4] := rfl
  have c1 := cells_one o1
  have c2 := cells_one o2
  have c3 := cells_one o3
  have c4 := cells_one o4
  generalize hc1 : u1.cells = k1 at *
  generalize hc2 : u2.cells = k2 at *
  generalize hc3 : u3.cells = k3 at *
  generalize hc4 : u4.cells = k4 at *
  subst c1 c2 c3 c4
  simp [execOp, Instr.build, hz, run_und ht.eq, run_size hj, hs, hf.ev h1, hf.ev h2, hf.ev h3, hf.ev h4, Instr.fill, hc1, hc2, hc3, hc4, c0]
theorem Y.build_pp {x y : Operand} {a b c d z1 z2 z3 z4 : Value} [h : Places P t [(0, 2), (2, 2)] [z1, z2, z3, z4]] (hx : ev S x = some (.agg #[a, b])) (hy : ev S y = some (.agg #[c, d])) : Yields P n ds S g L ⟨dst, .build t #[(0, x), (1, y)], ty, pos, aft, gd⟩ (.agg #[a, b, c, d]) := .mk fun w0 w hfr _ => by
  obtain ⟨fs, h1, h2, h3⟩ := h.eq
  have h2' := h2 w
  have h3' := h3 w
  simp only [execOp, Instr.build, Sem.run_bind, h3', Result.andThen_ok, run_und h1, Value.cells]
  rw [h2']
  simp [hfr.ev hx, hfr.ev hy, Instr.fill, Value.cells]
end
end Go.TL
namespace Go.Proofs.YtfanccddokckcaaGreatDoor
open Go.RowKit Go.TL
set_option maxRecDepth 100000

abbrev sdW (a b c d : Int) : Value := .agg #[.int .i64 a, .int .i64 b, .int .i64 c, .int .i64 d]
abbrev sdV (a b c d : Pt) : Value := .agg #[.int .i64 (tn a b c), .int .i64 (tn a b d), .int .i64 (tn c d a), .int .i64 (tn c d b)]
set_option maxHeartbeats 4000000 in
theorem sides_gives (a b c d : Pt) (g : Gh) (L : List Ent) (ha : mayB a = true) (hb : mayB b = true) (hc : mayB c = true) (hd : mayB d = true) : Gives Tryz.prog 96 #[pt a, pt b, pt c, pt d] g L (sdV a b c d) := by
  refine .of (Does.of4 Tryz.func96 rfl Tryz.ntmps96 rfl ?_)
  have T1 := fun L => turn_gives a b c g L ha hb hc
  have T2 := fun L => turn_gives a b d g L ha hb hd
  have T3 := fun L => turn_gives c d a g L hc hd ha
  have T4 := fun L => turn_gives c d b g L hc hd hb
  unfold sdV
  generalize tn a b c = t1 at *
  generalize tn a b d = t2 at *
  generalize tn c d a = t3 at *
  generalize tn c d b = t4 at *
  repeat' (first
    | refine wkQ ?_
    | refine wkV ?_
    | ((with_reducible apply TL.gives_plain); (· kernel_rfl); (· rfl); (· exact T1 _); (· rfl)) | ((with_reducible apply TW.gives_plain); (· kernel_rfl); (· rfl); (· exact T1 _); (· rfl))
    | ((with_reducible apply TL.gives_plain); (· kernel_rfl); (· rfl); (· exact T2 _); (· rfl)) | ((with_reducible apply TW.gives_plain); (· kernel_rfl); (· rfl); (· exact T2 _); (· rfl))
    | ((with_reducible apply TL.gives_plain); (· kernel_rfl); (· rfl); (· exact T3 _); (· rfl)) | ((with_reducible apply TW.gives_plain); (· kernel_rfl); (· rfl); (· exact T3 _); (· rfl))
    | ((with_reducible apply TL.gives_plain); (· kernel_rfl); (· rfl); (· exact T4 _); (· rfl)) | ((with_reducible apply TW.gives_plain); (· kernel_rfl); (· rfl); (· exact T4 _); (· rfl))
    | ((with_reducible apply TL.pure (d := 25) (v := sdW t1 t2 t3 t4)); (· exact Y.build_four rfl rfl rfl rfl rfl rfl rfl rfl); (· rfl)) | ((with_reducible apply TW.pure (d := 25) (v := sdW t1 t2 t3 t4)); (· exact Y.build_four rfl rfl rfl rfl rfl rfl rfl rfl); (· rfl))
    | (refine TC.region_tail 17 (by kernel_rfl) (by kernel_rfl) ?_; simp only [List.take_succ_cons, List.take_zero, List.drop_succ_cons, List.drop_zero]) | refine TQ.tail ?_
    | refine stS ?_ | (refine stB ?_; intro _) | (refine stC ?_; refine And.intro (fun _ => ?_) (fun _ => ?_))
    | apply TC.region_draw (by kernel_rfl) (by kernel_rfl) | refine TW.nil ?_ | ((with_reducible apply TW.pure); (· exact yA); (· rfl)))
  refine TQ.endR1 (L' := L) Tryz.results96 rvA rfl (.refl _) ?_ selF
  exact ⟨rfl, rfl, rfl⟩
def crossB (a b c d : Pt) : Bool := decide (tn a b c * tn a b d < 0) && decide (tn c d a * tn c d b < 0)
theorem cross_gives (t1 t2 t3 t4 : Int) (g : Gh) (L : List Ent) (h1 : t1 = -1 ∨ t1 = 0 ∨ t1 = 1) (h2 : t2 = -1 ∨ t2 = 0 ∨ t2 = 1) (h3 : t3 = -1 ∨ t3 = 0 ∨ t3 = 1) (h4 : t4 = -1 ∨ t4 = 0 ∨ t4 = 1) : Gives Tryz.prog 95 #[.agg #[.int .i64 t1, .int .i64 t2, .int .i64 t3, .int .i64 t4]] g L (.bool (decide (t1 * t2 < 0) && decide (t3 * t4 < 0))) := by
  refine .of (Does.of1 Tryz.func95 rfl Tryz.ntmps95 rfl ?_)
  have b12 : -1 ≤ t1 * t2 ∧ t1 * t2 ≤ 1 := by rcases h1 with rfl | rfl | rfl <;> rcases h2 with rfl | rfl | rfl <;> decide
  have b34 : -1 ≤ t3 * t4 ∧ t3 * t4 ≤ 1 := by rcases h3 with rfl | rfl | rfl <;> rcases h4 with rfl | rfl | rfl <;> decide
  clear h1 h2 h3 h4
  have H1 := Hn.mk (show IntKind.i64.wrap (t1 * t2) = t1 * t2 from IntWalk.i64_in _ (by omega))
  have H2 := Hn.mk (show IntKind.i64.wrap (t3 * t4) = t3 * t4 from IntWalk.i64_in _ (by omega))
  cases b1 : decide (t1 * t2 < 0) with
  | true =>
    repeat' (first
    | refine wkQ ?_
    | ((with_reducible apply TL.pure (d := 7) (v := .int .i64 (t1 * t2))); (· exact Y.mul rfl rfl H1.out); (· rfl)) | ((with_reducible apply TW.pure (d := 7) (v := .int .i64 (t1 * t2))); (· exact Y.mul rfl rfl H1.out); (· rfl))
    | ((with_reducible apply TL.pure (d := 14) (v := .int .i64 (t3 * t4))); (· exact Y.mul rfl rfl H2.out); (· rfl)) | ((with_reducible apply TW.pure (d := 14) (v := .int .i64 (t3 * t4))); (· exact Y.mul rfl rfl H2.out); (· rfl))
    | ((with_reducible apply TL.pure (d := 8) (v := .bool true)); (· exact Y.lss_b b1 rfl rfl); (· rfl)) | ((with_reducible apply TW.pure (d := 8) (v := .bool true)); (· exact Y.lss_b b1 rfl rfl); (· rfl))
    | ((with_reducible apply TL.pure); (· exact yB); (· rfl)) | ((with_reducible apply TW.pure); (· exact yB); (· rfl))
    | refine wkV ?_
    | ((with_reducible apply TL.pure); (· exact yM); (· rfl)) | ((with_reducible apply TW.pure); (· exact yM); (· rfl))
    | refine stS ?_ | (refine stB ?_; intro _) | (refine stC ?_; refine And.intro (fun _ => ?_) (fun _ => ?_)))
    refine TQ.endR1 (L' := L) Tryz.results95 rvA rfl (.refl _) ?_ selF
    exact ⟨rfl, rfl, rfl⟩
  | false =>
    repeat' (first
    | refine wkQ ?_
    | ((with_reducible apply TL.pure (d := 7) (v := .int .i64 (t1 * t2))); (· exact Y.mul rfl rfl H1.out); (· rfl)) | ((with_reducible apply TW.pure (d := 7) (v := .int .i64 (t1 * t2))); (· exact Y.mul rfl rfl H1.out); (· rfl))
    | ((with_reducible apply TL.pure (d := 8) (v := .bool false)); (· exact Y.lss_b b1 rfl rfl); (· rfl)) | ((with_reducible apply TW.pure (d := 8) (v := .bool false)); (· exact Y.lss_b b1 rfl rfl); (· rfl))
    | ((with_reducible apply TL.pure); (· exact yB); (· rfl)) | ((with_reducible apply TW.pure); (· exact yB); (· rfl))
    | refine wkV ?_
    | ((with_reducible apply TL.pure); (· exact yM); (· rfl)) | ((with_reducible apply TW.pure); (· exact yM); (· rfl))
    | refine stS ?_ | (refine stB ?_; intro _) | (refine stC ?_; refine And.intro (fun _ => ?_) (fun _ => ?_)))
    refine TQ.endR1 (L' := L) Tryz.results95 rvA rfl (.refl _) ?_ selF
    exact ⟨rfl, rfl, rfl⟩
def meetB (a b c d : Pt) : Bool := crossB a b c d || onB a b c || onB a b d || onB c d a || onB c d b
set_option maxHeartbeats 4000000 in
theorem meet_gives (a b c d : Pt) (g : Gh) (L : List Ent) (ha : mayB a = true) (hb : mayB b = true) (hc : mayB c = true) (hd : mayB d = true) : Gives Tryz.prog 89 #[pt a, pt b, pt c, pt d] g L (.bool (meetB a b c d)) := by
  refine .of (Does.of4 Tryz.func89 rfl Tryz.ntmps89 rfl ?_)
  have SD := fun L => sides_gives a b c d g L ha hb hc hd
  have CR := fun L => cross_gives _ _ _ _ g L (tn_three a b c) (tn_three a b d) (tn_three c d a) (tn_three c d b)
  have O1 := fun L => on_gives a b c g L ha hb hc
  have O2 := fun L => on_gives a b d g L ha hb hd
  have O3 := fun L => on_gives c d a g L hc hd ha
  have O4 := fun L => on_gives c d b g L hc hd hb
  rw [show (decide (tn a b c * tn a b d < 0) && decide (tn c d a * tn c d b < 0)) = crossB a b c d from rfl] at CR
  unfold meetB
  generalize onB a b c = o1 at *
  generalize onB a b d = o2 at *
  generalize onB c d a = o3 at *
  generalize onB c d b = o4 at *
  generalize crossB a b c d = cr at *
  cases cr
  case true =>
    repeat' (first
    | refine wkQ ?_
    | refine wkV ?_
    | ((with_reducible apply TL.gives_plain); (· kernel_rfl); (· rfl); (· exact SD _); (· rfl)) | ((with_reducible apply TW.gives_plain); (· kernel_rfl); (· rfl); (· exact SD _); (· rfl))
    | ((with_reducible apply TL.gives_plain); (· kernel_rfl); (· rfl); (· exact CR _); (· rfl)) | ((with_reducible apply TW.gives_plain); (· kernel_rfl); (· rfl); (· exact CR _); (· rfl))
    | refine stS ?_ | (refine stB ?_; intro _) | (refine stC ?_; refine And.intro (fun _ => ?_) (fun _ => ?_)))
    refine TQ.endR1 (L' := L) Tryz.results89 rvA rfl (.refl _) ?_ selF
    exact ⟨rfl, rfl, rfl⟩
  cases o1
  case true =>
    repeat' (first
    | refine wkQ ?_
    | refine wkV ?_
    | ((with_reducible apply TL.gives_plain); (· kernel_rfl); (· rfl); (· exact SD _); (· rfl)) | ((with_reducible apply TW.gives_plain); (· kernel_rfl); (· rfl); (· exact SD _); (· rfl))
    | ((with_reducible apply TL.gives_plain); (· kernel_rfl); (· rfl); (· exact CR _); (· rfl)) | ((with_reducible apply TW.gives_plain); (· kernel_rfl); (· rfl); (· exact CR _); (· rfl))
    | ((with_reducible apply TL.gives_plain); (· kernel_rfl); (· rfl); (· exact O1 _); (· rfl)) | ((with_reducible apply TW.gives_plain); (· kernel_rfl); (· rfl); (· exact O1 _); (· rfl))
    | refine stS ?_ | (refine stB ?_; intro _) | (refine stC ?_; refine And.intro (fun _ => ?_) (fun _ => ?_)))
    refine TQ.endR1 (L' := L) Tryz.results89 rvA rfl (.refl _) ?_ selF
    exact ⟨rfl, rfl, rfl⟩
  cases o2
  case true =>
    repeat' (first
    | refine wkQ ?_
    | refine wkV ?_
    | ((with_reducible apply TL.gives_plain); (· kernel_rfl); (· rfl); (· exact SD _); (· rfl)) | ((with_reducible apply TW.gives_plain); (· kernel_rfl); (· rfl); (· exact SD _); (· rfl))
    | ((with_reducible apply TL.gives_plain); (· kernel_rfl); (· rfl); (· exact CR _); (· rfl)) | ((with_reducible apply TW.gives_plain); (· kernel_rfl); (· rfl); (· exact CR _); (· rfl))
    | ((with_reducible apply TL.gives_plain); (· kernel_rfl); (· rfl); (· exact O1 _); (· rfl)) | ((with_reducible apply TW.gives_plain); (· kernel_rfl); (· rfl); (· exact O1 _); (· rfl))
    | ((with_reducible apply TL.gives_plain); (· kernel_rfl); (· rfl); (· exact O2 _); (· rfl)) | ((with_reducible apply TW.gives_plain); (· kernel_rfl); (· rfl); (· exact O2 _); (· rfl))
    | refine stS ?_ | (refine stB ?_; intro _) | (refine stC ?_; refine And.intro (fun _ => ?_) (fun _ => ?_)))
    refine TQ.endR1 (L' := L) Tryz.results89 rvA rfl (.refl _) ?_ selF
    exact ⟨rfl, rfl, rfl⟩
  cases o3
  case true =>
    repeat' (first
    | refine wkQ ?_
    | refine wkV ?_
    | ((with_reducible apply TL.gives_plain); (· kernel_rfl); (· rfl); (· exact SD _); (· rfl)) | ((with_reducible apply TW.gives_plain); (· kernel_rfl); (· rfl); (· exact SD _); (· rfl))
    | ((with_reducible apply TL.gives_plain); (· kernel_rfl); (· rfl); (· exact CR _); (· rfl)) | ((with_reducible apply TW.gives_plain); (· kernel_rfl); (· rfl); (· exact CR _); (· rfl))
    | ((with_reducible apply TL.gives_plain); (· kernel_rfl); (· rfl); (· exact O1 _); (· rfl)) | ((with_reducible apply TW.gives_plain); (· kernel_rfl); (· rfl); (· exact O1 _); (· rfl))
    | ((with_reducible apply TL.gives_plain); (· kernel_rfl); (· rfl); (· exact O2 _); (· rfl)) | ((with_reducible apply TW.gives_plain); (· kernel_rfl); (· rfl); (· exact O2 _); (· rfl))
    | ((with_reducible apply TL.gives_plain); (· kernel_rfl); (· rfl); (· exact O3 _); (· rfl)) | ((with_reducible apply TW.gives_plain); (· kernel_rfl); (· rfl); (· exact O3 _); (· rfl))
    | refine stS ?_ | (refine stB ?_; intro _) | (refine stC ?_; refine And.intro (fun _ => ?_) (fun _ => ?_)))
    refine TQ.endR1 (L' := L) Tryz.results89 rvA rfl (.refl _) ?_ selF
    exact ⟨rfl, rfl, rfl⟩
  repeat' (first
    | refine wkQ ?_
    | refine wkV ?_
    | ((with_reducible apply TL.gives_plain); (· kernel_rfl); (· rfl); (· exact SD _); (· rfl)) | ((with_reducible apply TW.gives_plain); (· kernel_rfl); (· rfl); (· exact SD _); (· rfl))
    | ((with_reducible apply TL.gives_plain); (· kernel_rfl); (· rfl); (· exact CR _); (· rfl)) | ((with_reducible apply TW.gives_plain); (· kernel_rfl); (· rfl); (· exact CR _); (· rfl))
    | ((with_reducible apply TL.gives_plain); (· kernel_rfl); (· rfl); (· exact O1 _); (· rfl)) | ((with_reducible apply TW.gives_plain); (· kernel_rfl); (· rfl); (· exact O1 _); (· rfl))
    | ((with_reducible apply TL.gives_plain); (· kernel_rfl); (· rfl); (· exact O2 _); (· rfl)) | ((with_reducible apply TW.gives_plain); (· kernel_rfl); (· rfl); (· exact O2 _); (· rfl))
    | ((with_reducible apply TL.gives_plain); (· kernel_rfl); (· rfl); (· exact O3 _); (· rfl)) | ((with_reducible apply TW.gives_plain); (· kernel_rfl); (· rfl); (· exact O3 _); (· rfl))
    | ((with_reducible apply TL.gives_plain); (· kernel_rfl); (· rfl); (· exact O4 _); (· rfl)) | ((with_reducible apply TW.gives_plain); (· kernel_rfl); (· rfl); (· exact O4 _); (· rfl))
    | refine stS ?_ | (refine stB ?_; intro _) | (refine stC ?_; refine And.intro (fun _ => ?_) (fun _ => ?_)))
  refine TQ.endR1 (L' := L) Tryz.results89 rvA rfl (.refl _) ?_ selF
  exact ⟨rfl, rfl, rfl⟩
end Go.Proofs.YtfanccddokckcaaGreatDoor
