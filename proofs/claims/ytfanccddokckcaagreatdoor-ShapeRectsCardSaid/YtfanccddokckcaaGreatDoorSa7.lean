/-
  The walks of geom: what may be, rects, spans.
-/
import Derived.Test.YtfanccddokckcaaGreatDoorSa3
import Derived.Test.YtfanccddokckcaaGreatDoorSa1
import Derived.Test.YtfanccddokckcaaGreatDoorSa6
namespace Go.Proofs.YtfanccddokckcaaGreatDoor
open Go.RowKit Go.TL
set_option maxRecDepth 100000

abbrev Pt := Int × Int
abbrev pt (p : Pt) : Value := .agg #[.int .i64 p.1, .int .i64 p.2]
structure Rc where
  x0 : Int
  y0 : Int
  x1 : Int
  y1 : Int
  deriving DecidableEq
abbrev rcV (r : Rc) : Value := .agg #[.int .i64 r.x0, .int .i64 r.y0, .int .i64 r.x1, .int .i64 r.y1]
def inB (n lo hi : Int) : Bool := decide (lo ≤ n) && decide (n ≤ hi)
def mayB (p : Pt) : Bool := inB p.1 (-1800000000) 1800000000 && inB p.2 (-900000000) 900000000
def holdsB (r : Rc) (p : Pt) : Bool := inB p.1 r.x0 r.x1 && inB p.2 r.y0 r.y1
def spanR (a b : Pt) : Rc := ⟨if b.1 < a.1 then b.1 else a.1, if b.2 < a.2 then b.2 else a.2, if a.1 < b.1 then b.1 else a.1, if a.2 < b.2 then b.2 else a.2⟩
def joinR (r s : Rc) : Rc := ⟨if s.x0 < r.x0 then s.x0 else r.x0, if s.y0 < r.y0 then s.y0 else r.y0, if r.x1 < s.x1 then s.x1 else r.x1, if r.y1 < s.y1 then s.y1 else r.y1⟩
section
variable (g : Gh) (L : List Ent)
theorem within_gives (n lo hi : Int) : Gives Tryz.prog 98 #[.int .i64 n, .int .i64 lo, .int .i64 hi] g L (.bool (inB n lo hi)) := by
  refine .of (Does.of3 Tryz.func98 rfl Tryz.ntmps98 rfl ?_)
  unfold inB
  cases h1 : decide (lo ≤ n) with
  | false =>
    repeat' (first
    | refine wkQ ?_
    | ((with_reducible apply TL.pure (d := 9) (v := .bool false)); (· exact Y.geq_b h1 rfl rfl); (· rfl)) | ((with_reducible apply TW.pure (d := 9) (v := .bool false)); (· exact Y.geq_b h1 rfl rfl); (· rfl))
    | refine wkV ?_
    | refine stS ?_ | (refine stB ?_; intro _) | (refine stC ?_; refine And.intro (fun _ => ?_) (fun _ => ?_)))
    refine TQ.endR1 (L' := L) Tryz.results98 rvA rfl (.refl _) ?_ selF
    exact ⟨rfl, rfl, rfl⟩
  | true =>
    repeat' (first
    | refine wkQ ?_
    | ((with_reducible apply TL.pure (d := 9) (v := .bool true)); (· exact Y.geq_b h1 rfl rfl); (· rfl)) | ((with_reducible apply TW.pure (d := 9) (v := .bool true)); (· exact Y.geq_b h1 rfl rfl); (· rfl))
    | refine wkV ?_
    | refine stS ?_ | (refine stB ?_; intro _) | (refine stC ?_; refine And.intro (fun _ => ?_) (fun _ => ?_)))
    refine TQ.endR1 (L' := L) Tryz.results98 rvA rfl (.refl _) ?_ selF
    exact ⟨rfl, rfl, rfl⟩
theorem May_gives (p : Pt) : Gives Tryz.prog 62 #[pt p] g L (.bool (mayB p)) := by
  refine .of (Does.of1 Tryz.func62 rfl Tryz.ntmps62 rfl ?_)
  have W1 := fun L => within_gives g L p.1 (-1800000000) 1800000000
  have W2 := fun L => within_gives g L p.2 (-900000000) 900000000
  unfold mayB
  cases h1 : inB p.1 (-1800000000) 1800000000 with
  | false =>
    rw [h1] at W1
    repeat' (first
    | refine wkQ ?_
    | refine wkV ?_
    | ((with_reducible apply TL.gives_plain); (· kernel_rfl); (· rfl); (· exact W1 _); (· rfl)) | ((with_reducible apply TW.gives_plain); (· kernel_rfl); (· rfl); (· exact W1 _); (· rfl))
    | refine stS ?_ | (refine stB ?_; intro _) | (refine stC ?_; refine And.intro (fun _ => ?_) (fun _ => ?_)))
    refine TQ.endR1 (L' := L) Tryz.results62 rvA rfl (.refl _) ?_ selF
    exact ⟨rfl, rfl, rfl⟩
  | true =>
    rw [h1] at W1
    repeat' (first
    | refine wkQ ?_
    | refine wkV ?_
    | ((with_reducible apply TL.gives_plain); (· kernel_rfl); (· rfl); (· exact W1 _); (· rfl)) | ((with_reducible apply TW.gives_plain); (· kernel_rfl); (· rfl); (· exact W1 _); (· rfl))
    | ((with_reducible apply TL.gives_plain); (· kernel_rfl); (· rfl); (· exact W2 _); (· rfl)) | ((with_reducible apply TW.gives_plain); (· kernel_rfl); (· rfl); (· exact W2 _); (· rfl))
    | refine stS ?_ | (refine stB ?_; intro _) | (refine stC ?_; refine And.intro (fun _ => ?_) (fun _ => ?_)))
    refine TQ.endR1 (L' := L) Tryz.results62 rvA rfl (.refl _) ?_ selF
    exact ⟨rfl, rfl, rfl⟩
theorem low_gives (r : Rc) : Gives Tryz.prog 60 #[rcV r] g L (pt (r.x0, r.y0)) := by
  refine .of (Does.of1 Tryz.func60 rfl Tryz.ntmps60 rfl ?_)
  repeat' (first
    | refine wkQ ?_
    | refine wkV ?_
    | refine stS ?_ | (refine stB ?_; intro _) | (refine stC ?_; refine And.intro (fun _ => ?_) (fun _ => ?_)))
  refine TQ.endR1 (L' := L) Tryz.results60 rvA rfl (.refl _) ?_ selF
  exact ⟨rfl, rfl, rfl⟩
theorem high_gives (r : Rc) : Gives Tryz.prog 61 #[rcV r] g L (pt (r.x1, r.y1)) := by
  refine .of (Does.of1 Tryz.func61 rfl Tryz.ntmps61 rfl ?_)
  repeat' (first
    | refine wkQ ?_
    | refine wkV ?_
    | refine stS ?_ | (refine stB ?_; intro _) | (refine stC ?_; refine And.intro (fun _ => ?_) (fun _ => ?_)))
  refine TQ.endR1 (L' := L) Tryz.results61 rvA rfl (.refl _) ?_ selF
  exact ⟨rfl, rfl, rfl⟩
theorem holds_gives (r : Rc) (p : Pt) : Gives Tryz.prog 63 #[rcV r, pt p] g L (.bool (holdsB r p)) := by
  refine .of (Does.of2 Tryz.func63 rfl Tryz.ntmps63 rfl ?_)
  have W1 := fun L => within_gives g L p.1 r.x0 r.x1
  have W2 := fun L => within_gives g L p.2 r.y0 r.y1
  unfold holdsB
  cases h1 : inB p.1 r.x0 r.x1 with
  | false =>
    rw [h1] at W1
    repeat' (first
    | refine wkQ ?_
    | refine wkV ?_
    | ((with_reducible apply TL.gives_plain); (· kernel_rfl); (· rfl); (· exact W1 _); (· rfl)) | ((with_reducible apply TW.gives_plain); (· kernel_rfl); (· rfl); (· exact W1 _); (· rfl))
    | refine stS ?_ | (refine stB ?_; intro _) | (refine stC ?_; refine And.intro (fun _ => ?_) (fun _ => ?_)))
    refine TQ.endR1 (L' := L) Tryz.results63 rvA rfl (.refl _) ?_ selF
    exact ⟨rfl, rfl, rfl⟩
  | true =>
    rw [h1] at W1
    repeat' (first
    | refine wkQ ?_
    | refine wkV ?_
    | ((with_reducible apply TL.gives_plain); (· kernel_rfl); (· rfl); (· exact W1 _); (· rfl)) | ((with_reducible apply TW.gives_plain); (· kernel_rfl); (· rfl); (· exact W1 _); (· rfl))
    | ((with_reducible apply TL.gives_plain); (· kernel_rfl); (· rfl); (· exact W2 _); (· rfl)) | ((with_reducible apply TW.gives_plain); (· kernel_rfl); (· rfl); (· exact W2 _); (· rfl))
    | refine stS ?_ | (refine stB ?_; intro _) | (refine stC ?_; refine And.intro (fun _ => ?_) (fun _ => ?_)))
    refine TQ.endR1 (L' := L) Tryz.results63 rvA rfl (.refl _) ?_ selF
    exact ⟨rfl, rfl, rfl⟩
theorem span_gives (a b : Pt) : Gives Tryz.prog 99 #[pt a, pt b] g L (rcV (spanR a b)) := by
  refine .of (Does.of2 Tryz.func99 rfl Tryz.ntmps99 rfl ?_)
  repeat' (first
    | refine wkQ ?_
    | ((with_reducible apply TL.pure (d := 9) (v := .int .i64 (spanR a b).x0)); (· exact Y.min_int rfl rfl rfl); (· rfl)) | ((with_reducible apply TW.pure (d := 9) (v := .int .i64 (spanR a b).x0)); (· exact Y.min_int rfl rfl rfl); (· rfl))
    | ((with_reducible apply TL.pure (d := 14) (v := .int .i64 (spanR a b).y0)); (· exact Y.min_int rfl rfl rfl); (· rfl)) | ((with_reducible apply TW.pure (d := 14) (v := .int .i64 (spanR a b).y0)); (· exact Y.min_int rfl rfl rfl); (· rfl))
    | ((with_reducible apply TL.pure (d := 19) (v := .int .i64 (spanR a b).x1)); (· exact Y.max_int rfl rfl rfl); (· rfl)) | ((with_reducible apply TW.pure (d := 19) (v := .int .i64 (spanR a b).x1)); (· exact Y.max_int rfl rfl rfl); (· rfl))
    | ((with_reducible apply TL.pure (d := 24) (v := .int .i64 (spanR a b).y1)); (· exact Y.max_int rfl rfl rfl); (· rfl)) | ((with_reducible apply TW.pure (d := 24) (v := .int .i64 (spanR a b).y1)); (· exact Y.max_int rfl rfl rfl); (· rfl))
    | refine wkV ?_
    | refine stS ?_ | (refine stB ?_; intro _) | (refine stC ?_; refine And.intro (fun _ => ?_) (fun _ => ?_)))
  refine TQ.endR1 (L' := L) Tryz.results99 rvA rfl (.refl _) ?_ selF
  exact ⟨rfl, rfl, rfl⟩
theorem join_gives (r s : Rc) : Gives Tryz.prog 66 #[rcV r, rcV s] g L (rcV (joinR r s)) := by
  refine .of (Does.of2 Tryz.func66 rfl Tryz.ntmps66 rfl ?_)
  repeat' (first
    | refine wkQ ?_
    | ((with_reducible apply TL.pure (d := 9) (v := .int .i64 (joinR r s).x0)); (· exact Y.min_int rfl rfl rfl); (· rfl)) | ((with_reducible apply TW.pure (d := 9) (v := .int .i64 (joinR r s).x0)); (· exact Y.min_int rfl rfl rfl); (· rfl))
    | ((with_reducible apply TL.pure (d := 14) (v := .int .i64 (joinR r s).y0)); (· exact Y.min_int rfl rfl rfl); (· rfl)) | ((with_reducible apply TW.pure (d := 14) (v := .int .i64 (joinR r s).y0)); (· exact Y.min_int rfl rfl rfl); (· rfl))
    | ((with_reducible apply TL.pure (d := 19) (v := .int .i64 (joinR r s).x1)); (· exact Y.max_int rfl rfl rfl); (· rfl)) | ((with_reducible apply TW.pure (d := 19) (v := .int .i64 (joinR r s).x1)); (· exact Y.max_int rfl rfl rfl); (· rfl))
    | ((with_reducible apply TL.pure (d := 24) (v := .int .i64 (joinR r s).y1)); (· exact Y.max_int rfl rfl rfl); (· rfl)) | ((with_reducible apply TW.pure (d := 24) (v := .int .i64 (joinR r s).y1)); (· exact Y.max_int rfl rfl rfl); (· rfl))
    | refine wkV ?_
    | refine stS ?_ | (refine stB ?_; intro _) | (refine stC ?_; refine And.intro (fun _ => ?_) (fun _ => ?_)))
  refine TQ.endR1 (L' := L) Tryz.results66 rvA rfl (.refl _) ?_ selF
  exact ⟨rfl, rfl, rfl⟩
end
def flatP (l : List Pt) : List Value := l.flatMap fun p => [.int .i64 p.1, .int .i64 p.2]
theorem flatP_len (l : List Pt) : (flatP l).length = l.length * 2 := by
  induction l with
  | nil => rfl
  | cons p l ih => simp only [flatP, List.flatMap_cons, List.length_append, List.length_cons, List.length_nil] at ih ⊢; omega
theorem flatP_get {l : List Pt} {i : Nat} {p : Pt} (h : l[i]? = some p) : (flatP l)[i * 2]? = some (.int .i64 p.1) ∧ (flatP l)[i * 2 + 1]? = some (.int .i64 p.2) := by
  induction l generalizing i with
  | nil => simp at h
  | cons q l ih =>
    cases i with
    | zero => obtain rfl : q = p := by simpa using h
              exact ⟨rfl, rfl⟩
    | succ i =>
      have h2 := ih (i := i) (by simpa using h)
      rw [Nat.succ_mul]
      exact h2
theorem all_gives (l : List Pt) (v : Value) (g : Gh) (L : List Ent) (hS : Sl g v l.length 2 (flatP l)) (_hl : l.length ≤ 1000000) : Gives Tryz.prog 59 #[v] g L (.bool (l.all mayB)) := by
  refine .of (Does.of1 Tryz.func59 rfl Tryz.ntmps59 rfl ?_)
  obtain ⟨ao, cap, rfl⟩ := hS.slice
  obtain ⟨R, hR⟩ : ∃ R, R = (l.drop 0).all mayB := ⟨_, rfl⟩
  rw [show l.all mayB = R from hR.symm]
  repeat' (first
    | refine wkQ ?_
    | refine wkV ?_
    | refine stS ?_ | (refine stB ?_; intro _) | (refine stC ?_; refine And.intro (fun _ => ?_) (fun _ => ?_)))
  refine TC.loopK (fun i : Nat => i ≤ l.length ∧ (l.drop i).all mayB = R) (fun i => l.length - i) (fun i _ => [(7, .int .i64 (i : Nat)), (6, .int .i64 (l.length : Nat)), (5, .slice ao l.length cap)]) [] .nil (fun _ L => L) 0 ⟨Nat.zero_le _, hR.symm⟩ subA selA ?_
  clear hR
  rintro i ⟨hi, hR⟩
  try dsimp only at hi hR ⊢
  by_cases hlt : i < l.length
  · obtain ⟨p, hp⟩ : ∃ p, l[i]? = some p := ⟨_, List.getElem?_eq_getElem hlt⟩
    obtain ⟨b1, o1, rfl, hg⟩ := hS.elem hlt (by decide)
    obtain ⟨h0, h1⟩ := flatP_get hp
    have hld : ∀ j u, [Value.int .i64 p.1, .int .i64 p.2][j]? = some u → g.cell b1 (o1 + i * 2 + j) = some u := fun j u hu => by
      match j, hu with
      | 0, hu => simp at hu; subst hu; exact hg 0 _ h0
      | 1, hu => simp at hu; subst hu; exact hg 1 _ h1
      | j + 2, hu => simp at hu
    have hll : [Value.int .i64 p.1, .int .i64 p.2].length = 2 := rfl
    have M := fun L => May_gives g L p
    rw [drop_of_get hp, List.all_cons] at hR
    clear hS hg h0 h1
    cases hm : mayB p with
    | false =>
      rw [hm] at M hR
      repeat' (first
    | refine wkQ ?_
    | refine wkV ?_
    | ((with_reducible apply TL.gives_plain); (· kernel_rfl); (· rfl); (· exact M _); (· rfl)) | ((with_reducible apply TW.gives_plain); (· kernel_rfl); (· rfl); (· exact M _); (· rfl))
    | refine stS ?_ | (refine stB ?_; intro _) | (refine stC ?_; refine And.intro (fun _ => ?_) (fun _ => ?_)))
      refine TQ.endR1 (L' := L) Tryz.results59 rvA rfl (.refl _) ?_ selF
      exact ⟨by rw [← hR]; rfl, rfl, rfl⟩
    | true =>
      rw [hm] at M hR
      repeat' (first
    | refine wkQ ?_
    | refine wkV ?_
    | ((with_reducible apply TL.gives_plain); (· kernel_rfl); (· rfl); (· exact M _); (· rfl)) | ((with_reducible apply TW.gives_plain); (· kernel_rfl); (· rfl); (· exact M _); (· rfl))
    | refine stS ?_ | (refine stB ?_; intro _) | (refine stC ?_; refine And.intro (fun _ => ?_) (fun _ => ?_)))
      refine TQ.round (i + 1) ?_ ?_ rfl subA selF
      · exact ⟨by omega, hR⟩
      · show l.length - (i + 1) < l.length - i
        omega
  · obtain rfl : i = l.length := by omega
    rw [List.drop_length] at hR
    repeat' (first
    | refine wkQ ?_
    | refine wkV ?_
    | refine stS ?_ | (refine stB ?_; intro _) | (refine stC ?_; refine And.intro (fun _ => ?_) (fun _ => ?_)))
    refine TQ.endR1 (L' := L) Tryz.results59 rvA rfl (.refl _) ?_ selF
    exact ⟨by rw [← hR]; rfl, rfl, rfl⟩
end Go.Proofs.YtfanccddokckcaaGreatDoor
