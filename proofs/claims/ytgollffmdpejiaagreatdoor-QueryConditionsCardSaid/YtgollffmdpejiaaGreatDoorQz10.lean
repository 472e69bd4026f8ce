/-
  The walks of geom.sides, cross, meet, On, Meet, Cross; MayRect, Holds, Overlap, Join.
-/
import Derived.Test.YtgollffmdpejiaaGreatDoorQz3
import Derived.Test.YtgollffmdpejiaaGreatDoorQz9
import Derived.Test.YtgollffmdpejiaaGreatDoorQz5
namespace Go.Proofs.YtgollffmdpejiaaGreatDoor
open Go.RowKit Go.TL
set_option maxRecDepth 100000

abbrev sdW (a b c d : Int) : Value := .agg #[.int .i64 a, .int .i64 b, .int .i64 c, .int .i64 d]
abbrev sdV (a b c d : Pt) : Value := .agg #[.int .i64 (tn a b c), .int .i64 (tn a b d), .int .i64 (tn c d a), .int .i64 (tn c d b)]
set_option maxHeartbeats 4000000 in
theorem sides_gives (a b c d : Pt) (g : Gh) (L : List Ent) (ha : mayB a = true) (hb : mayB b = true) (hc : mayB c = true) (hd : mayB d = true) : Gives Tryz.prog 265 #[pt a, pt b, pt c, pt d] g L (sdV a b c d) := by
  refine .of (Does.of4 Tryz.func265 rfl Tryz.ntmps265 rfl ?_)
  have T1 := fun L => turn_gives a b c g L ha hb hc
  have T2 := fun L => turn_gives a b d g L ha hb hd
  have T3 := fun L => turn_gives c d a g L hc hd ha
  have T4 := fun L => turn_gives c d b g L hc hd hb
  unfold sdV
  generalize tn a b c = t1 at *
  generalize tn a b d = t2 at *
  generalize tn c d a = t3 at *
  generalize tn c d b = t4 at *
  repeat' (first
    | refine wkQ ?_
    | refine wkV ?_
    | refine wkD (T1 _) ?_
    | refine wkD (T2 _) ?_
    | refine wkD (T3 _) ?_
    | refine wkD (T4 _) ?_
    | (refine wkA 25 (v := sdW t1 t2 t3 t4) ?_ ?_; · exact Y.build_four rfl rfl rfl rfl rfl rfl rfl rfl)
    | (refine TC.region_tail 17 (by kernel_rfl) (by kernel_rfl) ?_; simp only [List.take_succ_cons, List.take_zero, List.drop_succ_cons, List.drop_zero]) | refine TQ.tail ?_
    | refine stS ?_ | (refine stB ?_; intro _) | (refine stC ?_; constructor <;> intro _)
    | refine wkW ?_)
  refine TQ.endR1 (L' := L) Tryz.results265 rvA rfl (.refl _) ?_ selF
  exact ⟨rfl, rfl, rfl⟩
def crossB (a b c d : Pt) : Bool := decide (tn a b c * tn a b d < 0) && decide (tn c d a * tn c d b < 0)
theorem cross_gives (t1 t2 t3 t4 : Int) (g : Gh) (L : List Ent) (h1 : t1 = -1 ∨ t1 = 0 ∨ t1 = 1) (h2 : t2 = -1 ∨ t2 = 0 ∨ t2 = 1) (h3 : t3 = -1 ∨ t3 = 0 ∨ t3 = 1) (h4 : t4 = -1 ∨ t4 = 0 ∨ t4 = 1) : Gives Tryz.prog 264 #[.agg #[.int .i64 t1, .int .i64 t2, .int .i64 t3, .int .i64 t4]] g L (.bool (decide (t1 * t2 < 0) && decide (t3 * t4 < 0))) := by
  refine .of (Does.of1 Tryz.func264 rfl Tryz.ntmps264 rfl ?_)
  have b12 : -1 ≤ t1 * t2 ∧ t1 * t2 ≤ 1 := by rcases h1 with rfl | rfl | rfl <;> rcases h2 with rfl | rfl | rfl <;> decide
  have b34 : -1 ≤ t3 * t4 ∧ t3 * t4 ≤ 1 := by rcases h3 with rfl | rfl | rfl <;> rcases h4 with rfl | rfl | rfl <;> decide
  clear h1 h2 h3 h4
  have H1 := Hn.mk (show IntKind.i64.wrap (t1 * t2) = t1 * t2 from IntWalk.i64_in _ (by omega))
  have H2 := Hn.mk (show IntKind.i64.wrap (t3 * t4) = t3 * t4 from IntWalk.i64_in _ (by omega))
  cases b1 : decide (t1 * t2 < 0) with
  | true =>
    repeat' (first
    | refine wkQ ?_
    | (refine wkA 7 (v := .int .i64 (t1 * t2)) ?_ ?_; · exact Y.mul rfl rfl H1.out)
    | (refine wkA 14 (v := .int .i64 (t3 * t4)) ?_ ?_; · exact Y.mul rfl rfl H2.out)
    | (refine wkA 8 (v := .bool true) ?_ ?_; · exact Y.lss_b b1 rfl rfl)
    | ((with_reducible apply TL.pure); (· exact yB); (· rfl)) | ((with_reducible apply TW.pure); (· exact yB); (· rfl))
    | refine wkV ?_
    | refine wkM ?_
    | refine stS ?_ | (refine stB ?_; intro _) | (refine stC ?_; constructor <;> intro _))
    refine TQ.endR1 (L' := L) Tryz.results264 rvA rfl (.refl _) ?_ selF
    exact ⟨rfl, rfl, rfl⟩
  | false =>
    repeat' (first
    | refine wkQ ?_
    | (refine wkA 7 (v := .int .i64 (t1 * t2)) ?_ ?_; · exact Y.mul rfl rfl H1.out)
    | (refine wkA 8 (v := .bool false) ?_ ?_; · exact Y.lss_b b1 rfl rfl)
    | ((with_reducible apply TL.pure); (· exact yB); (· rfl)) | ((with_reducible apply TW.pure); (· exact yB); (· rfl))
    | refine wkV ?_
    | refine wkM ?_
    | refine stS ?_ | (refine stB ?_; intro _) | (refine stC ?_; constructor <;> intro _))
    refine TQ.endR1 (L' := L) Tryz.results264 rvA rfl (.refl _) ?_ selF
    exact ⟨rfl, rfl, rfl⟩
def meetB (a b c d : Pt) : Bool := crossB a b c d || onB a b c || onB a b d || onB c d a || onB c d b
set_option maxHeartbeats 4000000 in
theorem meet_gives (a b c d : Pt) (g : Gh) (L : List Ent) (ha : mayB a = true) (hb : mayB b = true) (hc : mayB c = true) (hd : mayB d = true) : Gives Tryz.prog 269 #[pt a, pt b, pt c, pt d] g L (.bool (meetB a b c d)) := by
  refine .of (Does.of4 Tryz.func269 rfl Tryz.ntmps269 rfl ?_)
  have SD := fun L => sides_gives a b c d g L ha hb hc hd
  have CR := fun L => cross_gives _ _ _ _ g L (tn_three a b c) (tn_three a b d) (tn_three c d a) (tn_three c d b)
  have O1 := fun L => on_gives a b c g L ha hb hc
  have O2 := fun L => on_gives a b d g L ha hb hd
  have O3 := fun L => on_gives c d a g L hc hd ha
  have O4 := fun L => on_gives c d b g L hc hd hb
  rw [show (decide (tn a b c * tn a b d < 0) && decide (tn c d a * tn c d b < 0)) = crossB a b c d from rfl] at CR
  unfold meetB
  generalize onB a b c = o1 at *
  generalize onB a b d = o2 at *
  generalize onB c d a = o3 at *
  generalize onB c d b = o4 at *
  generalize crossB a b c d = cr at *
  cases cr
  case true =>
    repeat' (first
    | refine wkQ ?_
    | refine wkV ?_
    | refine wkD (SD _) ?_
    | refine wkD (CR _) ?_
    | refine stS ?_ | (refine stB ?_; intro _) | (refine stC ?_; constructor <;> intro _))
    refine TQ.endR1 (L' := L) Tryz.results269 rvA rfl (.refl _) ?_ selF
    exact ⟨rfl, rfl, rfl⟩
  cases o1
  case true =>
    repeat' (first
    | refine wkQ ?_
    | refine wkV ?_
    | refine wkD (SD _) ?_
    | refine wkD (CR _) ?_
    | refine wkD (O1 _) ?_
    | refine stS ?_ | (refine stB ?_; intro _) | (refine stC ?_; constructor <;> intro _))
    refine TQ.endR1 (L' := L) Tryz.results269 rvA rfl (.refl _) ?_ selF
    exact ⟨rfl, rfl, rfl⟩
  cases o2
  case true =>
    repeat' (first
    | refine wkQ ?_
    | refine wkV ?_
    | refine wkD (SD _) ?_
    | refine wkD (CR _) ?_
    | refine wkD (O1 _) ?_
    | refine wkD (O2 _) ?_
    | refine stS ?_ | (refine stB ?_; intro _) | (refine stC ?_; constructor <;> intro _))
    refine TQ.endR1 (L' := L) Tryz.results269 rvA rfl (.refl _) ?_ selF
    exact ⟨rfl, rfl, rfl⟩
  cases o3
  case true =>
    repeat' (first
    | refine wkQ ?_
    | refine wkV ?_
    | refine wkD (SD _) ?_
    | refine wkD (CR _) ?_
    | refine wkD (O1 _) ?_
    | refine wkD (O2 _) ?_
    | refine wkD (O3 _) ?_
    | refine stS ?_ | (refine stB ?_; intro _) | (refine stC ?_; constructor <;> intro _))
    refine TQ.endR1 (L' := L) Tryz.results269 rvA rfl (.refl _) ?_ selF
    exact ⟨rfl, rfl, rfl⟩
  repeat' (first
    | refine wkQ ?_
    | refine wkV ?_
    | refine wkD (SD _) ?_
    | refine wkD (CR _) ?_
    | refine wkD (O1 _) ?_
    | refine wkD (O2 _) ?_
    | refine wkD (O3 _) ?_
    | refine wkD (O4 _) ?_
    | refine stS ?_ | (refine stB ?_; intro _) | (refine stC ?_; constructor <;> intro _))
  refine TQ.endR1 (L' := L) Tryz.results269 rvA rfl (.refl _) ?_ selF
  exact ⟨rfl, rfl, rfl⟩
end Go.Proofs.YtgollffmdpejiaaGreatDoor
