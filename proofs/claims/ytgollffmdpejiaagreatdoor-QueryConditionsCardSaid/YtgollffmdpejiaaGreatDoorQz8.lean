/-
  The walks of geom: what may be, rects, spans. The walks of wide.Mul, Compare; geom.turn.
-/
import Derived.Test.YtgollffmdpejiaaGreatDoorQz3
import Derived.Test.YtgollffmdpejiaaGreatDoorQz2
import Derived.Test.YtgollffmdpejiaaGreatDoorQz5
import Derived.Test.YtgollffmdpejiaaGreatDoorQz6
import Derived.Test.YtgollffmdpejiaaGreatDoorQz0
namespace Go.Proofs.YtgollffmdpejiaaGreatDoor
open Go.RowKit Go.TL
set_option maxRecDepth 100000

abbrev Pt := Int × Int
abbrev pt (p : Pt) : Value := .agg #[.int .i64 p.1, .int .i64 p.2]
structure Rc where
  x0 : Int
  y0 : Int
  x1 : Int
  y1 : Int
  deriving DecidableEq
abbrev rcV (r : Rc) : Value := .agg #[.int .i64 r.x0, .int .i64 r.y0, .int .i64 r.x1, .int .i64 r.y1]
def inB (n lo hi : Int) : Bool := decide (lo ≤ n) && decide (n ≤ hi)
def mayB (p : Pt) : Bool := inB p.1 (-1800000000) 1800000000 && inB p.2 (-900000000) 900000000
def holdsB (r : Rc) (p : Pt) : Bool := inB p.1 r.x0 r.x1 && inB p.2 r.y0 r.y1
def spanR (a b : Pt) : Rc := ⟨if b.1 < a.1 then b.1 else a.1, if b.2 < a.2 then b.2 else a.2, if a.1 < b.1 then b.1 else a.1, if a.2 < b.2 then b.2 else a.2⟩
section
variable (g : Gh) (L : List Ent)
theorem within_gives (n lo hi : Int) : Gives Tryz.prog 289 #[.int .i64 n, .int .i64 lo, .int .i64 hi] g L (.bool (inB n lo hi)) := by
  refine .of (Does.of3 Tryz.func289 rfl Tryz.ntmps289 rfl ?_)
  unfold inB
  cases h1 : decide (lo ≤ n) with
  | false =>
    repeat' (first
    | refine wkQ ?_
    | (refine wkA 9 (v := .bool false) ?_ ?_; · exact Y.geq_b h1 rfl rfl)
    | refine wkV ?_
    | refine stS ?_ | (refine stB ?_; intro _) | (refine stC ?_; constructor <;> intro _))
    refine TQ.endR1 (L' := L) Tryz.results289 rvA rfl (.refl _) ?_ selF
    exact ⟨rfl, rfl, rfl⟩
  | true =>
    repeat' (first
    | refine wkQ ?_
    | (refine wkA 9 (v := .bool true) ?_ ?_; · exact Y.geq_b h1 rfl rfl)
    | refine wkV ?_
    | refine stS ?_ | (refine stB ?_; intro _) | (refine stC ?_; constructor <;> intro _))
    refine TQ.endR1 (L' := L) Tryz.results289 rvA rfl (.refl _) ?_ selF
    exact ⟨rfl, rfl, rfl⟩
theorem May_gives (p : Pt) : Gives Tryz.prog 254 #[pt p] g L (.bool (mayB p)) := by
  refine .of (Does.of1 Tryz.func254 rfl Tryz.ntmps254 rfl ?_)
  have W1 := fun L => within_gives g L p.1 (-1800000000) 1800000000
  have W2 := fun L => within_gives g L p.2 (-900000000) 900000000
  unfold mayB
  cases h1 : inB p.1 (-1800000000) 1800000000 with
  | false =>
    rw [h1] at W1
    repeat' (first
    | refine wkQ ?_
    | refine wkV ?_
    | refine wkD (W1 _) ?_
    | refine stS ?_ | (refine stB ?_; intro _) | (refine stC ?_; constructor <;> intro _))
    refine TQ.endR1 (L' := L) Tryz.results254 rvA rfl (.refl _) ?_ selF
    exact ⟨rfl, rfl, rfl⟩
  | true =>
    rw [h1] at W1
    repeat' (first
    | refine wkQ ?_
    | refine wkV ?_
    | refine wkD (W1 _) ?_
    | refine wkD (W2 _) ?_
    | refine stS ?_ | (refine stB ?_; intro _) | (refine stC ?_; constructor <;> intro _))
    refine TQ.endR1 (L' := L) Tryz.results254 rvA rfl (.refl _) ?_ selF
    exact ⟨rfl, rfl, rfl⟩
theorem low_gives (r : Rc) : Gives Tryz.prog 296 #[rcV r] g L (pt (r.x0, r.y0)) := by
  refine .of (Does.of1 Tryz.func296 rfl Tryz.ntmps296 rfl ?_)
  repeat' (first
    | refine wkQ ?_
    | refine wkV ?_
    | refine stS ?_ | (refine stB ?_; intro _) | (refine stC ?_; constructor <;> intro _))
  refine TQ.endR1 (L' := L) Tryz.results296 rvA rfl (.refl _) ?_ selF
  exact ⟨rfl, rfl, rfl⟩
theorem high_gives (r : Rc) : Gives Tryz.prog 297 #[rcV r] g L (pt (r.x1, r.y1)) := by
  refine .of (Does.of1 Tryz.func297 rfl Tryz.ntmps297 rfl ?_)
  repeat' (first
    | refine wkQ ?_
    | refine wkV ?_
    | refine stS ?_ | (refine stB ?_; intro _) | (refine stC ?_; constructor <;> intro _))
  refine TQ.endR1 (L' := L) Tryz.results297 rvA rfl (.refl _) ?_ selF
  exact ⟨rfl, rfl, rfl⟩
theorem holds_gives (r : Rc) (p : Pt) : Gives Tryz.prog 270 #[rcV r, pt p] g L (.bool (holdsB r p)) := by
  refine .of (Does.of2 Tryz.func270 rfl Tryz.ntmps270 rfl ?_)
  have W1 := fun L => within_gives g L p.1 r.x0 r.x1
  have W2 := fun L => within_gives g L p.2 r.y0 r.y1
  unfold holdsB
  cases h1 : inB p.1 r.x0 r.x1 with
  | false =>
    rw [h1] at W1
    repeat' (first
    | refine wkQ ?_
    | refine wkV ?_
    | refine wkD (W1 _) ?_
    | refine stS ?_ | (refine stB ?_; intro _) | (refine stC ?_; constructor <;> intro _))
    refine TQ.endR1 (L' := L) Tryz.results270 rvA rfl (.refl _) ?_ selF
    exact ⟨rfl, rfl, rfl⟩
  | true =>
    rw [h1] at W1
    repeat' (first
    | refine wkQ ?_
    | refine wkV ?_
    | refine wkD (W1 _) ?_
    | refine wkD (W2 _) ?_
    | refine stS ?_ | (refine stB ?_; intro _) | (refine stC ?_; constructor <;> intro _))
    refine TQ.endR1 (L' := L) Tryz.results270 rvA rfl (.refl _) ?_ selF
    exact ⟨rfl, rfl, rfl⟩
theorem span_gives (a b : Pt) : Gives Tryz.prog 298 #[pt a, pt b] g L (rcV (spanR a b)) := by
  refine .of (Does.of2 Tryz.func298 rfl Tryz.ntmps298 rfl ?_)
  repeat' (first
    | refine wkQ ?_
    | (refine wkA 9 (v := .int .i64 (spanR a b).x0) ?_ ?_; · exact Y.min_int rfl rfl rfl)
    | (refine wkA 14 (v := .int .i64 (spanR a b).y0) ?_ ?_; · exact Y.min_int rfl rfl rfl)
    | (refine wkA 19 (v := .int .i64 (spanR a b).x1) ?_ ?_; · exact Y.max_int rfl rfl rfl)
    | (refine wkA 24 (v := .int .i64 (spanR a b).y1) ?_ ?_; · exact Y.max_int rfl rfl rfl)
    | refine wkV ?_
    | refine stS ?_ | (refine stB ?_; intro _) | (refine stC ?_; constructor <;> intro _))
  refine TQ.endR1 (L' := L) Tryz.results298 rvA rfl (.refl _) ?_ selF
  exact ⟨rfl, rfl, rfl⟩
end
def flatP (l : List Pt) : List Value := l.flatMap fun p => [.int .i64 p.1, .int .i64 p.2]
theorem flatP_get {l : List Pt} {i : Nat} {p : Pt} (h : l[i]? = some p) : (flatP l)[i * 2]? = some (.int .i64 p.1) ∧ (flatP l)[i * 2 + 1]? = some (.int .i64 p.2) := by
  induction l generalizing i with
  | nil => simp at h
  | cons q l ih =>
    cases i with
    | zero => obtain rfl : q = p := by simpa using h
              exact ⟨rfl, rfl⟩
    | succ i =>
      have h2 := ih (i := i) (by simpa using h)
      rw [Nat.succ_mul]
      exact h2
theorem all_gives (l : List Pt) (v : Value) (g : Gh) (L : List Ent) (hS : Sl g v l.length 2 (flatP l)) (_hl : l.length ≤ 1000000) : Gives Tryz.prog 263 #[v] g L (.bool (l.all mayB)) := by
  refine .of (Does.of1 Tryz.func263 rfl Tryz.ntmps263 rfl ?_)
  obtain ⟨ao, cap, rfl⟩ := hS.slice
  obtain ⟨R, hR⟩ : ∃ R, R = (l.drop 0).all mayB := ⟨_, rfl⟩
  rw [show l.all mayB = R from hR.symm]
  repeat' (first
    | refine wkQ ?_
    | refine wkV ?_
    | refine stS ?_ | (refine stB ?_; intro _) | (refine stC ?_; constructor <;> intro _))
  refine TC.loopK (fun i : Nat => i ≤ l.length ∧ (l.drop i).all mayB = R) (fun i => l.length - i) (fun i _ => [(7, .int .i64 (i : Nat)), (6, .int .i64 (l.length : Nat)), (5, .slice ao l.length cap)]) [] .nil (fun _ L => L) 0 ⟨Nat.zero_le _, hR.symm⟩ subA selA ?_
  clear hR
  rintro i ⟨hi, hR⟩
  try dsimp only at hi hR ⊢
  by_cases hlt : i < l.length
  · obtain ⟨p, hp⟩ : ∃ p, l[i]? = some p := ⟨_, List.getElem?_eq_getElem hlt⟩
    obtain ⟨b1, o1, rfl, hg⟩ := hS.elem hlt (by decide)
    obtain ⟨h0, h1⟩ := flatP_get hp
    have hld : ∀ j u, [Value.int .i64 p.1, .int .i64 p.2][j]? = some u → g.cell b1 (o1 + i * 2 + j) = some u := fun j u hu => by
      match j, hu with
      | 0, hu => simp at hu; subst hu; exact hg 0 _ h0
      | 1, hu => simp at hu; subst hu; exact hg 1 _ h1
      | j + 2, hu => simp at hu
    have hll : [Value.int .i64 p.1, .int .i64 p.2].length = 2 := rfl
    have M := fun L => May_gives g L p
    rw [drop_of_get hp, List.all_cons] at hR
    clear hS hg h0 h1
    cases hm : mayB p with
    | false =>
      rw [hm] at M hR
      repeat' (first
    | refine wkQ ?_
    | refine wkV ?_
    | refine wkD (M _) ?_
    | refine stS ?_ | (refine stB ?_; intro _) | (refine stC ?_; constructor <;> intro _))
      refine TQ.endR1 (L' := L) Tryz.results263 rvA rfl (.refl _) ?_ selF
      exact ⟨by rw [← hR]; rfl, rfl, rfl⟩
    | true =>
      rw [hm] at M hR
      repeat' (first
    | refine wkQ ?_
    | refine wkV ?_
    | refine wkD (M _) ?_
    | refine stS ?_ | (refine stB ?_; intro _) | (refine stC ?_; constructor <;> intro _))
      refine TQ.round (i + 1) ?_ ?_ rfl subA selF
      · exact ⟨by omega, hR⟩
      · show l.length - (i + 1) < l.length - i
        omega
  · obtain rfl : i = l.length := by omega
    rw [List.drop_length] at hR
    repeat' (first
    | refine wkQ ?_
    | refine wkV ?_
    | refine stS ?_ | (refine stB ?_; intro _) | (refine stC ?_; constructor <;> intro _))
    refine TQ.endR1 (L' := L) Tryz.results263 rvA rfl (.refl _) ?_ selF
    exact ⟨by rw [← hR]; rfl, rfl, rfl⟩
end Go.Proofs.YtgollffmdpejiaaGreatDoor
namespace Go.Proofs.YtgollffmdpejiaaGreatDoor
open Go.RowKit Go.TL
set_option maxRecDepth 100000

theorem bmul64_gives (x y : Nat) (g : Gh) (L : List Ent) (hx : x < 18446744073709551616) (hy : y < 18446744073709551616) : Gives Tryz.prog 197 #[.int .u64 x, .int .u64 y] g L (.tuple #[.int .u64 ((x * y / 18446744073709551616 : Nat) : Int), .int .u64 ((x * y % 18446744073709551616 : Nat) : Int)]) := .same fun w => Tryz.bits_Mul64 x y hx hy w
abbrev wdV (p : Int) : Value := .agg #[.int .i64 (p / 18446744073709551616), .int .u64 (p % 18446744073709551616)]
theorem mul_split (x y : Int) : (18446744073709551616 + x) * (18446744073709551616 + y) = 18446744073709551616 * (18446744073709551616 + x + y) + x * y := by
  rw [Int.add_mul, Int.mul_add, Int.mul_add]; omega
set_option maxHeartbeats 4000000 in
theorem wMul_gives (x y : Int) (g : Gh) (L : List Ent) (_hx : -4000000000 ≤ x ∧ x ≤ 4000000000) (_hy : -4000000000 ≤ y ∧ y ≤ 4000000000) : Gives Tryz.prog 321 #[.int .i64 x, .int .i64 y] g L (wdV (x * y)) := by
  refine .of (Does.of2 Tryz.func321 rfl Tryz.ntmps321 rfl ?_)
  have hb : -16000000000000000000 ≤ x * y ∧ x * y ≤ 16000000000000000000 := by
    have h1 : (x * y).natAbs ≤ 4000000000 * 4000000000 := by
      rw [Int.natAbs_mul]; exact Nat.mul_le_mul (by omega) (by omega)
    omega
  obtain ⟨u, hu⟩ : ∃ u : Nat, (u : Int) = if x < 0 then 18446744073709551616 + x else x := ⟨(if x < 0 then 18446744073709551616 + x else x).toNat, by split <;> omega⟩
  obtain ⟨v, hv⟩ : ∃ v : Nat, (v : Int) = if y < 0 then 18446744073709551616 + y else y := ⟨(if y < 0 then 18446744073709551616 + y else y).toNat, by split <;> omega⟩
  have hu2 : u < 18446744073709551616 := by split at hu <;> omega
  have hv2 : v < 18446744073709551616 := by split at hv <;> omega
  have M := fun L => bmul64_gives u v g L hu2 hv2
  have hm : ((u * v : Nat) : Int) = (u : Int) * v := Int.natCast_mul u v
  have wu : IntKind.u64.wrap x = u := by rw [IntKind.wrap_u64]; split at hu <;> omega
  have wv : IntKind.u64.wrap y = v := by rw [IntKind.wrap_u64]; split at hv <;> omega
  obtain ⟨P, hP⟩ : ∃ P, P = x * y := ⟨_, rfl⟩
  rw [← hP] at hb ⊢
  obtain ⟨h, hh⟩ : ∃ h : Nat, h = u * v / 18446744073709551616 := ⟨_, rfl⟩
  obtain ⟨lo, hlo⟩ : ∃ lo : Nat, lo = u * v % 18446744073709551616 := ⟨_, rfl⟩
  rw [← hh, ← hlo] at M
  have hl : (lo : Int) = P % 18446744073709551616 := by
    rw [hlo, Int.natCast_emod, hm, hu, hv, hP]
    by_cases x0 : x < 0 <;> by_cases y0 : y < 0
    · rw [if_pos x0, if_pos y0, mul_split]; omega
    · rw [if_pos x0, if_neg y0, Int.add_mul]; omega
    · rw [if_neg x0, if_pos y0, Int.mul_add]; omega
    · rw [if_neg x0, if_neg y0]; rfl
  have hq : (h : Int) = P / 18446744073709551616 + (if x < 0 then y else 0) + (if y < 0 then x else 0) + (if x < 0 ∧ y < 0 then 18446744073709551616 else 0) := by
    rw [hh, Int.natCast_ediv, hm, hu, hv, hP]
    by_cases x0 : x < 0 <;> by_cases y0 : y < 0
    · rw [if_pos x0, if_pos y0, mul_split, if_pos x0, if_pos y0, if_pos ⟨x0, y0⟩]; omega
    · rw [if_pos x0, if_neg y0, Int.add_mul, if_pos x0, if_neg y0, if_neg (fun h => y0 h.2)]; omega
    · rw [if_neg x0, if_pos y0, Int.mul_add, if_neg x0, if_pos y0, if_neg (fun h => x0 h.1)]; omega
    · rw [if_neg x0, if_neg y0, if_neg x0, if_neg y0, if_neg (fun h => x0 h.1)]; simp
  obtain ⟨q, hqq⟩ : ∃ q, q = P / 18446744073709551616 := ⟨_, rfl⟩
  have hqb : -1 ≤ q ∧ q ≤ 0 := by omega
  have hl3 : P % 18446744073709551616 = (lo : Int) := hl.symm
  unfold wdV
  rw [hl3, ← hqq]
  rw [← hqq] at hq
  have HU := Hn.mk wu
  have HV := Hn.mk wv
  clear hb wu wv hm hu2 hv2 hlo hh hl hl3 hqq hP
  by_cases x0 : x < 0 <;> by_cases y0 : y < 0
  · have H1 := Hn.mk (show IntKind.i64.wrap (h : Int) = q + x + y by rw [if_pos x0, if_pos y0, if_pos ⟨x0, y0⟩] at hq; rw [IntKind.wrap_i64]; omega)
    have H2 := Hn.mk (show IntKind.i64.wrap (q + x + y - y) = q + x by rw [IntWalk.i64_in _ (by omega)]; omega)
    have H3 := Hn.mk (show IntKind.i64.wrap (q + x - x) = q by rw [IntWalk.i64_in _ (by omega)]; omega)
    have b0 : decide (x < 0) = true := decide_eq_true x0
    have b1 : decide (y < 0) = true := decide_eq_true y0
    clear hu hv hq
    repeat' (first
    | refine wkQ ?_
    | (refine wkA 10 (v := .int .u64 u) ?_ ?_; · exact Y.conv_int rfl HU.out)
    | (refine wkA 12 (v := .int .u64 v) ?_ ?_; · exact Y.conv_int rfl HV.out)
    | (refine wkA 17 (v := .int .i64 (q + x + y)) ?_ ?_; · exact Y.conv_int rfl H1.out)
    | (refine wkA 19 (v := .bool true) ?_ ?_; · exact Y.lss_b b0 rfl rfl)
    | (refine wkA 24 (v := .bool true) ?_ ?_; · exact Y.lss_b b1 rfl rfl)
    | (refine wkA 22 (v := .int .i64 (q + x)) ?_ ?_; · exact Y.sub rfl rfl H2.out)
    | (refine wkA 27 (v := .int .i64 q) ?_ ?_; · exact Y.sub rfl rfl H3.out)
    | refine wkV ?_
    | refine wkD (M _) ?_
    | refine stS ?_ | (refine stB ?_; intro _) | (refine stC ?_; constructor <;> intro _))
    refine TQ.endR1 (L' := L) Tryz.results321 rvA rfl (.refl _) ?_ selF
    exact ⟨rfl, rfl, rfl⟩
  · have H1 := Hn.mk (show IntKind.i64.wrap (h : Int) = q + y by rw [if_pos x0, if_neg y0, if_neg (fun h => y0 h.2)] at hq; rw [IntKind.wrap_i64]; omega)
    have H2 := Hn.mk (show IntKind.i64.wrap (q + y - y) = q by rw [IntWalk.i64_in _ (by omega)]; omega)
    have b0 : decide (x < 0) = true := decide_eq_true x0
    have b1 : decide (y < 0) = false := decide_eq_false y0
    clear hu hv hq
    repeat' (first
    | refine wkQ ?_
    | (refine wkA 10 (v := .int .u64 u) ?_ ?_; · exact Y.conv_int rfl HU.out)
    | (refine wkA 12 (v := .int .u64 v) ?_ ?_; · exact Y.conv_int rfl HV.out)
    | (refine wkA 17 (v := .int .i64 (q + y)) ?_ ?_; · exact Y.conv_int rfl H1.out)
    | (refine wkA 19 (v := .bool true) ?_ ?_; · exact Y.lss_b b0 rfl rfl)
    | (refine wkA 24 (v := .bool false) ?_ ?_; · exact Y.lss_b b1 rfl rfl)
    | (refine wkA 22 (v := .int .i64 q) ?_ ?_; · exact Y.sub rfl rfl H2.out)
    | refine wkV ?_
    | refine wkD (M _) ?_
    | refine stS ?_ | (refine stB ?_; intro _) | (refine stC ?_; constructor <;> intro _))
    refine TQ.endR1 (L' := L) Tryz.results321 rvA rfl (.refl _) ?_ selF
    exact ⟨rfl, rfl, rfl⟩
  · have H1 := Hn.mk (show IntKind.i64.wrap (h : Int) = q + x by rw [if_neg x0, if_pos y0, if_neg (fun h => x0 h.1)] at hq; rw [IntKind.wrap_i64]; omega)
    have H3 := Hn.mk (show IntKind.i64.wrap (q + x - x) = q by rw [IntWalk.i64_in _ (by omega)]; omega)
    have b0 : decide (x < 0) = false := decide_eq_false x0
    have b1 : decide (y < 0) = true := decide_eq_true y0
    clear hu hv hq
    repeat' (first
    | refine wkQ ?_
    | (refine wkA 10 (v := .int .u64 u) ?_ ?_; · exact Y.conv_int rfl HU.out)
    | (refine wkA 12 (v := .int .u64 v) ?_ ?_; · exact Y.conv_int rfl HV.out)
    | (refine wkA 17 (v := .int .i64 (q + x)) ?_ ?_; · exact Y.conv_int rfl H1.out)
    | (refine wkA 19 (v := .bool false) ?_ ?_; · exact Y.lss_b b0 rfl rfl)
    | (refine wkA 24 (v := .bool true) ?_ ?_; · exact Y.lss_b b1 rfl rfl)
    | (refine wkA 27 (v := .int .i64 q) ?_ ?_; · exact Y.sub rfl rfl H3.out)
    | refine wkV ?_
    | refine wkD (M _) ?_
    | refine stS ?_ | (refine stB ?_; intro _) | (refine stC ?_; constructor <;> intro _))
    refine TQ.endR1 (L' := L) Tryz.results321 rvA rfl (.refl _) ?_ selF
    exact ⟨rfl, rfl, rfl⟩
  · have H1 := Hn.mk (show IntKind.i64.wrap (h : Int) = q by rw [if_neg x0, if_neg y0, if_neg (fun h => x0 h.1)] at hq; rw [IntKind.wrap_i64]; omega)
    have b0 : decide (x < 0) = false := decide_eq_false x0
    have b1 : decide (y < 0) = false := decide_eq_false y0
    clear hu hv hq
    repeat' (first
    | refine wkQ ?_
    | (refine wkA 10 (v := .int .u64 u) ?_ ?_; · exact Y.conv_int rfl HU.out)
    | (refine wkA 12 (v := .int .u64 v) ?_ ?_; · exact Y.conv_int rfl HV.out)
    | (refine wkA 17 (v := .int .i64 q) ?_ ?_; · exact Y.conv_int rfl H1.out)
    | (refine wkA 19 (v := .bool false) ?_ ?_; · exact Y.lss_b b0 rfl rfl)
    | (refine wkA 24 (v := .bool false) ?_ ?_; · exact Y.lss_b b1 rfl rfl)
    | refine wkV ?_
    | refine wkD (M _) ?_
    | refine stS ?_ | (refine stB ?_; intro _) | (refine stC ?_; constructor <;> intro _))
    refine TQ.endR1 (L' := L) Tryz.results321 rvA rfl (.refl _) ?_ selF
    exact ⟨rfl, rfl, rfl⟩
def cmpG (a b : Int) : Int := if a < b then -1 else if b < a then 1 else 0
theorem nanI_gives (a : Int) (g : Gh) (L : List Ent) : Gives Tryz.prog 352 #[.int .i64 a] g L (.bool false) := by
  refine .of (Does.of1 Tryz.func352 rfl Tryz.ntmps352 rfl ?_)
  repeat' (first
    | refine wkQ ?_
    | (refine wkA 5 (v := .bool false) ?_ ?_; · exact Y.neq_b (by simp) rfl rfl)
    | refine wkV ?_
    | refine stS ?_ | (refine stB ?_; intro _) | (refine stC ?_; constructor <;> intro _))
  refine TQ.endR1 (L' := L) Tryz.results352 rvA rfl (.refl _) ?_ selF
  exact ⟨rfl, rfl, rfl⟩
theorem nanU_gives (a : Int) (g : Gh) (L : List Ent) : Gives Tryz.prog 353 #[.int .u64 a] g L (.bool false) := by
  refine .of (Does.of1 Tryz.func353 rfl Tryz.ntmps353 rfl ?_)
  repeat' (first
    | refine wkQ ?_
    | (refine wkA 5 (v := .bool false) ?_ ?_; · exact Y.neq_b (by simp) rfl rfl)
    | refine wkV ?_
    | refine stS ?_ | (refine stB ?_; intro _) | (refine stC ?_; constructor <;> intro _))
  refine TQ.endR1 (L' := L) Tryz.results353 rvA rfl (.refl _) ?_ selF
  exact ⟨rfl, rfl, rfl⟩
theorem cmpG_gives (a b : Int) (g : Gh) (L : List Ent) : Gives Tryz.prog 340 #[.int .i64 a, .int .i64 b] g L (.int .i64 (cmpG a b)) := by
  refine .of (Does.of2 Tryz.func340 rfl Tryz.ntmps340 rfl ?_)
  have N1 := fun L => nanI_gives a g L
  have N2 := fun L => nanI_gives b g L
  unfold cmpG
  by_cases h1 : a < b
  · rw [if_pos h1]
    have b1 := decide_eq_true h1
    repeat' (first
    | refine wkQ ?_
    | (refine wkA 16 (v := .bool true) ?_ ?_; · exact Y.lss_b b1 rfl rfl)
    | refine wkV ?_
    | refine wkD (N1 _) ?_
    | refine wkD (N2 _) ?_
    | refine stS ?_ | (refine stB ?_; intro _) | (refine stC ?_; constructor <;> intro _))
    refine TQ.endR1 (L' := L) Tryz.results340 rvA rfl (.refl _) ?_ selF
    exact ⟨rfl, rfl, rfl⟩
  · rw [if_neg h1]
    have b1 := decide_eq_false h1
    by_cases h2 : b < a
    · rw [if_pos h2]
      have b2 := decide_eq_true h2
      repeat' (first
    | refine wkQ ?_
    | (refine wkA 16 (v := .bool false) ?_ ?_; · exact Y.lss_b b1 rfl rfl)
    | (refine wkA 19 (v := .bool true) ?_ ?_; · exact Y.gtr_b b2 rfl rfl)
    | refine wkV ?_
    | refine wkD (N1 _) ?_
    | refine wkD (N2 _) ?_
    | refine stS ?_ | (refine stB ?_; intro _) | (refine stC ?_; constructor <;> intro _))
      refine TQ.endR1 (L' := L) Tryz.results340 rvA rfl (.refl _) ?_ selF
      exact ⟨rfl, rfl, rfl⟩
    · rw [if_neg h2]
      have b2 := decide_eq_false h2
      repeat' (first
    | refine wkQ ?_
    | (refine wkA 16 (v := .bool false) ?_ ?_; · exact Y.lss_b b1 rfl rfl)
    | (refine wkA 19 (v := .bool false) ?_ ?_; · exact Y.gtr_b b2 rfl rfl)
    | refine wkV ?_
    | refine wkD (N1 _) ?_
    | refine wkD (N2 _) ?_
    | refine stS ?_ | (refine stB ?_; intro _) | (refine stC ?_; constructor <;> intro _))
      refine TQ.endR1 (L' := L) Tryz.results340 rvA rfl (.refl _) ?_ selF
      exact ⟨rfl, rfl, rfl⟩
theorem cmpU_gives (a b : Int) (g : Gh) (L : List Ent) : Gives Tryz.prog 341 #[.int .u64 a, .int .u64 b] g L (.int .i64 (cmpG a b)) := by
  refine .of (Does.of2 Tryz.func341 rfl Tryz.ntmps341 rfl ?_)
  have N1 := fun L => nanU_gives a g L
  have N2 := fun L => nanU_gives b g L
  unfold cmpG
  by_cases h1 : a < b
  · rw [if_pos h1]
    have b1 := decide_eq_true h1
    repeat' (first
    | refine wkQ ?_
    | (refine wkA 16 (v := .bool true) ?_ ?_; · exact Y.lss_b b1 rfl rfl)
    | refine wkV ?_
    | refine wkD (N1 _) ?_
    | refine wkD (N2 _) ?_
    | refine stS ?_ | (refine stB ?_; intro _) | (refine stC ?_; constructor <;> intro _))
    refine TQ.endR1 (L' := L) Tryz.results341 rvA rfl (.refl _) ?_ selF
    exact ⟨rfl, rfl, rfl⟩
  · rw [if_neg h1]
    have b1 := decide_eq_false h1
    by_cases h2 : b < a
    · rw [if_pos h2]
      have b2 := decide_eq_true h2
      repeat' (first
    | refine wkQ ?_
    | (refine wkA 16 (v := .bool false) ?_ ?_; · exact Y.lss_b b1 rfl rfl)
    | (refine wkA 19 (v := .bool true) ?_ ?_; · exact Y.gtr_b b2 rfl rfl)
    | refine wkV ?_
    | refine wkD (N1 _) ?_
    | refine wkD (N2 _) ?_
    | refine stS ?_ | (refine stB ?_; intro _) | (refine stC ?_; constructor <;> intro _))
      refine TQ.endR1 (L' := L) Tryz.results341 rvA rfl (.refl _) ?_ selF
      exact ⟨rfl, rfl, rfl⟩
    · rw [if_neg h2]
      have b2 := decide_eq_false h2
      repeat' (first
    | refine wkQ ?_
    | (refine wkA 16 (v := .bool false) ?_ ?_; · exact Y.lss_b b1 rfl rfl)
    | (refine wkA 19 (v := .bool false) ?_ ?_; · exact Y.gtr_b b2 rfl rfl)
    | refine wkV ?_
    | refine wkD (N1 _) ?_
    | refine wkD (N2 _) ?_
    | refine stS ?_ | (refine stB ?_; intro _) | (refine stC ?_; constructor <;> intro _))
      refine TQ.endR1 (L' := L) Tryz.results341 rvA rfl (.refl _) ?_ selF
      exact ⟨rfl, rfl, rfl⟩
end Go.Proofs.YtgollffmdpejiaaGreatDoor
