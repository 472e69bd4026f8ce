/-
  Arrays of four by value; the second word of arrays. The walks of geom.sides, cross, meet, On, Meet, Cross; MayRect, Holds, Overlap, Join.
-/
import Derived.Test.YtklmfbildebimaaGreatDoorSr1
import Derived.Test.YtklmfbildebimaaGreatDoorSr2
import Derived.Test.YtklmfbildebimaaGreatDoorSr8
namespace Go.TL
open Go Go.RowKit Go.Proofs.YtklmfbildebimaaGreatDoor
section
variable {P : Program} {n : Nat} {ds : List Deferred} {S : Slots} {g : Gh} {L : List Ent} {dst : Option Nat} {ty : TypeId} {pos : String} {aft : Array Edge} {gd : Option (Nat × Bool)} {t e : TypeId}
theorem Y.build_four {x1 x2 x3 x4 : Operand} {u1 u2 u3 u4 z1 z2 z3 z4 z0 : Value} {sz b1 b2 : Nat} [ht : Und P t (.array 4 e)] [he : Inf P e 1 b1 z0] [hi : Inf P t sz b2 (.agg #[z1, z2, z3, z4])]
    (h1 : ev S x1 = some u1) (h2 : ev S x2 = some u2) (h3 : ev S x3 = some u3) (h4 : ev S x4 = some u4) (o1 : u1.one = true) (o2 : u2.one = true) (o3 : u3.one = true) (o4 : u4.one = true) : Yields P n ds S g L ⟨dst, .build t #[(0, x1), (1, x2), (2, x3), (3, x4)], ty, pos, aft, gd⟩ (.agg #[u1, u2, u3, u4]) := .mk fun a w hf _ => by
  obtain ⟨j, hj, hs, _⟩ := he.eq
  have hz := run_zero (P := P) (t := t) (z := .agg #[z1, z2, z3, z4]) w
  have c0 : (Value.agg #[z1, z2, z3, z4]).cells = #[z1, z2, z3, z4] := rfl
  have c1 := cells_one o1
  have c2 := cells_one o2
  have c3 := cells_one o3
  have c4 := cells_one o4
  generalize hc1 : u1.cells = k1 at *
  generalize hc2 : u2.cells = k2 at *
  generalize hc3 : u3.cells = k3 at *
  generalize hc4 : u4.cells = k4 at *
  subst c1 c2 c3 c4
  simp [execOp, Instr.build, hz, run_und ht.eq, run_size hj, hs, hf.ev h1, hf.ev h2, hf.ev h3, hf.ev h4, Instr.fill, hc1, hc2, hc3, hc4, c0]
theorem Y.build_pp {x y : Operand} {a b c d z1 z2 z3 z4 : Value} [h : Places P t [(0, 2), (2, 2)] [z1, z2, z3, z4]] (hx : ev S x = some (.agg #[a, b])) (hy : ev S y = some (.agg #[c, d])) : Yields P n ds S g L ⟨dst, .build t #[(0, x), (1, y)], ty, pos, aft, gd⟩ (.agg #[a, b, c, d]) := .mk fun w0 w hfr _ => by
  obtain ⟨fs, h1, h2, h3⟩ := h.eq
  have h2' := h2 w
  have h3' := h3 w
  simp only [execOp, Instr.build, Sem.run_bind, h3', Result.andThen_ok, run_und h1, Value.cells]
  rw [h2']
  simp [hfr.ev hx, hfr.ev hy, Instr.fill, Value.cells]
end
end Go.TL
namespace Go.Proofs.YtklmfbildebimaaGreatDoor
open Go.RowKit Go.TL
set_option maxRecDepth 100000

abbrev sdW (a b c d : Int) : Value := .agg #[.int .i64 a, .int .i64 b, .int .i64 c, .int .i64 d]
abbrev sdV (a b c d : Pt) : Value := .agg #[.int .i64 (tn a b c), .int .i64 (tn a b d), .int .i64 (tn c d a), .int .i64 (tn c d b)]
set_option maxHeartbeats 4000000 in
theorem sides_gives (a b c d : Pt) (g : Gh) (L : List Ent) (ha : mayB a = true) (hb : mayB b = true) (hc : mayB c = true) (hd : mayB d = true) : Gives Tryz.prog 78 #[pt a, pt b, pt c, pt d] g L (sdV a b c d) := by
  refine .of (Does.of4 Tryz.func78 rfl Tryz.ntmps78 rfl ?_)
  have T1 := fun L => turn_gives a b c g L ha hb hc
  have T2 := fun L => turn_gives a b d g L ha hb hd
  have T3 := fun L => turn_gives c d a g L hc hd ha
  have T4 := fun L => turn_gives c d b g L hc hd hb
  unfold sdV
  generalize tn a b c = t1 at *
  generalize tn a b d = t2 at *
  generalize tn c d a = t3 at *
  generalize tn c d b = t4 at *
  repeat' (first
    | refine wkQ ?_
    | refine wkV ?_
    | ((with_reducible apply TL.gives_plain); (· kernel_rfl); (· rfl); (· exact T1 _); (· rfl)) | ((with_reducible apply TW.gives_plain); (· kernel_rfl); (· rfl); (· exact T1 _); (· rfl))
    | ((with_reducible apply TL.gives_plain); (· kernel_rfl); (· rfl); (· exact T2 _); (· rfl)) | ((with_reducible apply TW.gives_plain); (· kernel_rfl); (· rfl); (· exact T2 _); (· rfl))
    | ((with_reducible apply TL.gives_plain); (· kernel_rfl); (· rfl); (· exact T3 _); (· rfl)) | ((with_reducible apply TW.gives_plain); (· kernel_rfl); (· rfl); (· exact T3 _); (· rfl))
    | ((with_reducible apply TL.gives_plain); (· kernel_rfl); (· rfl); (· exact T4 _); (· rfl)) | ((with_reducible apply TW.gives_plain); (· kernel_rfl); (· rfl); (· exact T4 _); (· rfl))
    | ((with_reducible apply TL.pure (d := 25) (v := sdW t1 t2 t3 t4)); (· exact Y.build_four rfl rfl rfl rfl rfl rfl rfl rfl); (· rfl)) | ((with_reducible apply TW.pure (d := 25) (v := sdW t1 t2 t3 t4)); (· exact Y.build_four rfl rfl rfl rfl rfl rfl rfl rfl); (· rfl))
    | (refine TC.region_tail 17 (by kernel_rfl) (by kernel_rfl) ?_; simp only [List.take_succ_cons, List.take_zero, List.drop_succ_cons, List.drop_zero]) | refine TQ.tail ?_
    | refine stS ?_ | (refine stB ?_; intro _) | (refine stC ?_; refine And.intro (fun _ => ?_) (fun _ => ?_))
    | apply TC.region_draw (by kernel_rfl) (by kernel_rfl) | refine TW.nil ?_ | ((with_reducible apply TW.pure); (· exact yA); (· rfl)))
  refine TQ.endR1 (L' := L) Tryz.results78 rvA rfl (.refl _) ?_ selF
  exact ⟨rfl, rfl, rfl⟩
def crossB (a b c d : Pt) : Bool := decide (tn a b c * tn a b d < 0) && decide (tn c d a * tn c d b < 0)
theorem cross_gives (t1 t2 t3 t4 : Int) (g : Gh) (L : List Ent) (h1 : t1 = -1 ∨ t1 = 0 ∨ t1 = 1) (h2 : t2 = -1 ∨ t2 = 0 ∨ t2 = 1) (h3 : t3 = -1 ∨ t3 = 0 ∨ t3 = 1) (h4 : t4 = -1 ∨ t4 = 0 ∨ t4 = 1) : Gives Tryz.prog 77 #[.agg #[.int .i64 t1, .int .i64 t2, .int .i64 t3, .int .i64 t4]] g L (.bool (decide (t1 * t2 < 0) && decide (t3 * t4 < 0))) := by
  refine .of (Does.of1 Tryz.func77 rfl Tryz.ntmps77 rfl ?_)
  have b12 : -1 ≤ t1 * t2 ∧ t1 * t2 ≤ 1 := by rcases h1 with rfl | rfl | rfl <;> rcases h2 with rfl | rfl | rfl <;> decide
  have b34 : -1 ≤ t3 * t4 ∧ t3 * t4 ≤ 1 := by rcases h3 with rfl | rfl | rfl <;> rcases h4 with rfl | rfl | rfl <;> decide
  clear h1 h2 h3 h4
  have H1 := Hn.mk (show IntKind.i64.wrap (t1 * t2) = t1 * t2 from IntWalk.i64_in _ (by omega))
  have H2 := Hn.mk (show IntKind.i64.wrap (t3 * t4) = t3 * t4 from IntWalk.i64_in _ (by omega))
  cases b1 : decide (t1 * t2 < 0) with
  | true =>
    repeat' (first
    | refine wkQ ?_
    | ((with_reducible apply TL.pure (d := 7) (v := .int .i64 (t1 * t2))); (· exact Y.mul rfl rfl H1.out); (· rfl)) | ((with_reducible apply TW.pure (d := 7) (v := .int .i64 (t1 * t2))); (· exact Y.mul rfl rfl H1.out); (· rfl))
    | ((with_reducible apply TL.pure (d := 14) (v := .int .i64 (t3 * t4))); (· exact Y.mul rfl rfl H2.out); (· rfl)) | ((with_reducible apply TW.pure (d := 14) (v := .int .i64 (t3 * t4))); (· exact Y.mul rfl rfl H2.out); (· rfl))
    | ((with_reducible apply TL.pure (d := 8) (v := .bool true)); (· exact Y.lss_b b1 rfl rfl); (· rfl)) | ((with_reducible apply TW.pure (d := 8) (v := .bool true)); (· exact Y.lss_b b1 rfl rfl); (· rfl))
    | ((with_reducible apply TL.pure); (· exact yB); (· rfl)) | ((with_reducible apply TW.pure); (· exact yB); (· rfl))
    | refine wkV ?_
    | ((with_reducible apply TL.pure); (· exact yM); (· rfl)) | ((with_reducible apply TW.pure); (· exact yM); (· rfl))
    | refine stS ?_ | (refine stB ?_; intro _) | (refine stC ?_; refine And.intro (fun _ => ?_) (fun _ => ?_)))
    refine TQ.endR1 (L' := L) Tryz.results77 rvA rfl (.refl _) ?_ selF
    exact ⟨rfl, rfl, rfl⟩
  | false =>
    repeat' (first
    | refine wkQ ?_
    | ((with_reducible apply TL.pure (d := 7) (v := .int .i64 (t1 * t2))); (· exact Y.mul rfl rfl H1.out); (· rfl)) | ((with_reducible apply TW.pure (d := 7) (v := .int .i64 (t1 * t2))); (· exact Y.mul rfl rfl H1.out); (· rfl))
    | ((with_reducible apply TL.pure (d := 8) (v := .bool false)); (· exact Y.lss_b b1 rfl rfl); (· rfl)) | ((with_reducible apply TW.pure (d := 8) (v := .bool false)); (· exact Y.lss_b b1 rfl rfl); (· rfl))
    | ((with_reducible apply TL.pure); (· exact yB); (· rfl)) | ((with_reducible apply TW.pure); (· exact yB); (· rfl))
    | refine wkV ?_
    | ((with_reducible apply TL.pure); (· exact yM); (· rfl)) | ((with_reducible apply TW.pure); (· exact yM); (· rfl))
    | refine stS ?_ | (refine stB ?_; intro _) | (refine stC ?_; refine And.intro (fun _ => ?_) (fun _ => ?_)))
    refine TQ.endR1 (L' := L) Tryz.results77 rvA rfl (.refl _) ?_ selF
    exact ⟨rfl, rfl, rfl⟩
def meetB (a b c d : Pt) : Bool := crossB a b c d || onB a b c || onB a b d || onB c d a || onB c d b
set_option maxHeartbeats 4000000 in
theorem meet_gives (a b c d : Pt) (g : Gh) (L : List Ent) (ha : mayB a = true) (hb : mayB b = true) (hc : mayB c = true) (hd : mayB d = true) : Gives Tryz.prog 73 #[pt a, pt b, pt c, pt d] g L (.bool (meetB a b c d)) := by
  refine .of (Does.of4 Tryz.func73 rfl Tryz.ntmps73 rfl ?_)
  have SD := fun L => sides_gives a b c d g L ha hb hc hd
  have CR := fun L => cross_gives _ _ _ _ g L (tn_three a b c) (tn_three a b d) (tn_three c d a) (tn_three c d b)
  have O1 := fun L => on_gives a b c g L ha hb hc
  have O2 := fun L => on_gives a b d g L ha hb hd
  have O3 := fun L => on_gives c d a g L hc hd ha
  have O4 := fun L => on_gives c d b g L hc hd hb
  rw [show (decide (tn a b c * tn a b d < 0) && decide (tn c d a * tn c d b < 0)) = crossB a b c d from rfl] at CR
  unfold meetB
  generalize onB a b c = o1 at *
  generalize onB a b d = o2 at *
  generalize onB c d a = o3 at *
  generalize onB c d b = o4 at *
  generalize crossB a b c d = cr at *
  cases cr
  case true =>
    repeat' (first
    | refine wkQ ?_
    | refine wkV ?_
    | ((with_reducible apply TL.gives_plain); (· kernel_rfl); (· rfl); (· exact SD _); (· rfl)) | ((with_reducible apply TW.gives_plain); (· kernel_rfl); (· rfl); (· exact SD _); (· rfl))
    | ((with_reducible apply TL.gives_plain); (· kernel_rfl); (· rfl); (· exact CR _); (· rfl)) | ((with_reducible apply TW.gives_plain); (· kernel_rfl); (· rfl); (· exact CR _); (· rfl))
    | refine stS ?_ | (refine stB ?_; intro _) | (refine stC ?_; refine And.intro (fun _ => ?_) (fun _ => ?_)))
    refine TQ.endR1 (L' := L) Tryz.results73 rvA rfl (.refl _) ?_ selF
    exact ⟨rfl, rfl, rfl⟩
  cases o1
  case true =>
    repeat' (first
    | refine wkQ ?_
    | refine wkV ?_
    | ((with_reducible apply TL.gives_plain); (· kernel_rfl); (· rfl); (· exact SD _); (· rfl)) | ((with_reducible apply TW.gives_plain); (· kernel_rfl); (· rfl); (· exact SD _); (· rfl))
    | ((with_reducible apply TL.gives_plain); (· kernel_rfl); (· rfl); (· exact CR _); (· rfl)) | ((with_reducible apply TW.gives_plain); (· kernel_rfl); (· rfl); (· exact CR _); (· rfl))
    | ((with_reducible apply TL.gives_plain); (· kernel_rfl); (· rfl); (· exact O1 _); (· rfl)) | ((with_reducible apply TW.gives_plain); (· kernel_rfl); (· rfl); (· exact O1 _); (· rfl))
    | refine stS ?_ | (refine stB ?_; intro _) | (refine stC ?_; refine And.intro (fun _ => ?_) (fun _ => ?_)))
    refine TQ.endR1 (L' := L) Tryz.results73 rvA rfl (.refl _) ?_ selF
    exact ⟨rfl, rfl, rfl⟩
  cases o2
  case true =>
    repeat' (first
    | refine wkQ ?_
    | refine wkV ?_
    | ((with_reducible apply TL.gives_plain); (· kernel_rfl); (· rfl); (· exact SD _); (· rfl)) | ((with_reducible apply TW.gives_plain); (· kernel_rfl); (· rfl); (· exact SD _); (· rfl))
    | ((with_reducible apply TL.gives_plain); (· kernel_rfl); (· rfl); (· exact CR _); (· rfl)) | ((with_reducible apply TW.gives_plain); (· kernel_rfl); (· rfl); (· exact CR _); (· rfl))
    | ((with_reducible apply TL.gives_plain); (· kernel_rfl); (· rfl); (· exact O1 _); (· rfl)) | ((with_reducible apply TW.gives_plain); (· kernel_rfl); (· rfl); (· exact O1 _); (· rfl))
    | ((with_reducible apply TL.gives_plain); (· kernel_rfl); (· rfl); (· exact O2 _); (· rfl)) | ((with_reducible apply TW.gives_plain); (· kernel_rfl); (· rfl); (· exact O2 _); (· rfl))
    | refine stS ?_ | (refine stB ?_; intro _) | (refine stC ?_; refine And.intro (fun _ => ?_) (fun _ => ?_)))
    refine TQ.endR1 (L' := L) Tryz.results73 rvA rfl (.refl _) ?_ selF
    exact ⟨rfl, rfl, rfl⟩
  cases o3
  case true =>
    repeat' (first
    | refine wkQ ?_
    | refine wkV ?_
    | ((with_reducible apply TL.gives_plain); (· kernel_rfl); (· rfl); (· exact SD _); (· rfl)) | ((with_reducible apply TW.gives_plain); (· kernel_rfl); (· rfl); (· exact SD _); (· rfl))
    | ((with_reducible apply TL.gives_plain); (· kernel_rfl); (· rfl); (· exact CR _); (· rfl)) | ((with_reducible apply TW.gives_plain); (· kernel_rfl); (· rfl); (· exact CR _); (· rfl))
    | ((with_reducible apply TL.gives_plain); (· kernel_rfl); (· rfl); (· exact O1 _); (· rfl)) | ((with_reducible apply TW.gives_plain); (· kernel_rfl); (· rfl); (· exact O1 _); (· rfl))
    | ((with_reducible apply TL.gives_plain); (· kernel_rfl); (· rfl); (· exact O2 _); (· rfl)) | ((with_reducible apply TW.gives_plain); (· kernel_rfl); (· rfl); (· exact O2 _); (· rfl))
    | ((with_reducible apply TL.gives_plain); (· kernel_rfl); (· rfl); (· exact O3 _); (· rfl)) | ((with_reducible apply TW.gives_plain); (· kernel_rfl); (· rfl); (· exact O3 _); (· rfl))
    | refine stS ?_ | (refine stB ?_; intro _) | (refine stC ?_; refine And.intro (fun _ => ?_) (fun _ => ?_)))
    refine TQ.endR1 (L' := L) Tryz.results73 rvA rfl (.refl _) ?_ selF
    exact ⟨rfl, rfl, rfl⟩
  repeat' (first
    | refine wkQ ?_
    | refine wkV ?_
    | ((with_reducible apply TL.gives_plain); (· kernel_rfl); (· rfl); (· exact SD _); (· rfl)) | ((with_reducible apply TW.gives_plain); (· kernel_rfl); (· rfl); (· exact SD _); (· rfl))
    | ((with_reducible apply TL.gives_plain); (· kernel_rfl); (· rfl); (· exact CR _); (· rfl)) | ((with_reducible apply TW.gives_plain); (· kernel_rfl); (· rfl); (· exact CR _); (· rfl))
    | ((with_reducible apply TL.gives_plain); (· kernel_rfl); (· rfl); (· exact O1 _); (· rfl)) | ((with_reducible apply TW.gives_plain); (· kernel_rfl); (· rfl); (· exact O1 _); (· rfl))
    | ((with_reducible apply TL.gives_plain); (· kernel_rfl); (· rfl); (· exact O2 _); (· rfl)) | ((with_reducible apply TW.gives_plain); (· kernel_rfl); (· rfl); (· exact O2 _); (· rfl))
    | ((with_reducible apply TL.gives_plain); (· kernel_rfl); (· rfl); (· exact O3 _); (· rfl)) | ((with_reducible apply TW.gives_plain); (· kernel_rfl); (· rfl); (· exact O3 _); (· rfl))
    | ((with_reducible apply TL.gives_plain); (· kernel_rfl); (· rfl); (· exact O4 _); (· rfl)) | ((with_reducible apply TW.gives_plain); (· kernel_rfl); (· rfl); (· exact O4 _); (· rfl))
    | refine stS ?_ | (refine stB ?_; intro _) | (refine stC ?_; refine And.intro (fun _ => ?_) (fun _ => ?_)))
  refine TQ.endR1 (L' := L) Tryz.results73 rvA rfl (.refl _) ?_ selF
  exact ⟨rfl, rfl, rfl⟩
end Go.Proofs.YtklmfbildebimaaGreatDoor
