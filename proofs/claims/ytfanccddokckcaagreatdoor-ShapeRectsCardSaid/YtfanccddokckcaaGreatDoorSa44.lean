/-
  Edges along an axis: which side a point is on. A rect's polygon holds just what the rect holds. A rect's polygon holds just what the rect holds.
-/
import Derived.Test.YtfanccddokckcaaGreatDoorSa43
namespace Go.Proofs.YtfanccddokckcaaGreatDoor
open Go.RowKit Go.TL

theorem cmp_mul_pos {d a : Int} (hd : 0 < d) : cmpI (d * a) 0 = cmpI a 0 := by
  unfold cmpI
  have h1 : d * a < 0 ↔ a < 0 := by
    constructor
    · intro h
      by_cases ha : a < 0
      · exact ha
      · have := Int.mul_nonneg (Int.le_of_lt hd) (show 0 ≤ a by omega)
        omega
    · intro h; exact Int.mul_neg_of_pos_of_neg hd h
  have h2 : 0 < d * a ↔ 0 < a := by
    constructor
    · intro h
      by_cases ha : 0 < a
      · exact ha
      · have := Int.mul_nonpos_of_nonneg_of_nonpos (Int.le_of_lt hd) (show a ≤ 0 by omega)
        omega
    · intro h; exact Int.mul_pos hd h
  simp only [h1, h2]
theorem cmp_sub (a b : Int) : cmpI (a - b) 0 = cmpI a b := by
  unfold cmpI
  have h1 : a - b < 0 ↔ a < b := by omega
  have h2 : 0 < a - b ↔ b < a := by omega
  simp only [h1, h2]
theorem cmp_neg (a b : Int) : cmpI (-a) (-b) = cmpI b a := by
  unfold cmpI
  have h1 : -a < -b ↔ b < a := by omega
  have h2 : -b < -a ↔ a < b := by omega
  simp only [h1, h2]
theorem tn_right {x0 x1 y : Int} (p : Pt) (_h : x0 < x1) : tn (x0, y) (x1, y) p = cmpI p.2 y := by
  unfold tn tnL tnR
  rw [Int.sub_self, Int.zero_mul, cmp_mul_pos (by show 0 < x1 - x0; omega), cmp_sub]
theorem tn_left {x0 x1 y : Int} (p : Pt) (_h : x0 < x1) : tn (x1, y) (x0, y) p = cmpI y p.2 := by
  unfold tn tnL tnR
  rw [Int.sub_self, Int.zero_mul]
  show cmpI ((x0 - x1) * (p.2 - y)) 0 = _
  rw [show (x0 - x1) * (p.2 - y) = (x1 - x0) * (y - p.2) by grind, cmp_mul_pos (by omega), cmp_sub]
theorem tn_up {x y0 y1 : Int} (p : Pt) (_h : y0 < y1) : tn (x, y0) (x, y1) p = cmpI x p.1 := by
  unfold tn tnL tnR
  rw [Int.sub_self, Int.zero_mul]
  show cmpI 0 ((y1 - y0) * (p.1 - x)) = _
  rw [show (0 : Int) = -0 by rfl, show (y1 - y0) * (p.1 - x) = -((y1 - y0) * (x - p.1)) by grind, cmp_neg, cmp_mul_pos (by omega), cmp_sub]
theorem tn_down {x y0 y1 : Int} (p : Pt) (_h : y0 < y1) : tn (x, y1) (x, y0) p = cmpI p.1 x := by
  unfold tn tnL tnR
  rw [Int.sub_self, Int.zero_mul]
  show cmpI 0 ((y0 - y1) * (p.1 - x)) = _
  rw [show (0 : Int) = -0 by rfl, show (y0 - y1) * (p.1 - x) = -((y1 - y0) * (p.1 - x)) by grind, cmp_neg, cmp_mul_pos (by omega), cmp_sub]
end Go.Proofs.YtfanccddokckcaaGreatDoor
namespace Go.Proofs.YtfanccddokckcaaGreatDoor
open Go.RowKit Go.TL

theorem cmp_zero (a b : Int) : cmpI a b = 0 ↔ a = b := by unfold cmpI; split <;> (try split) <;> omega
theorem cmp_pos (a b : Int) : 0 < cmpI a b ↔ b < a := by unfold cmpI; split <;> (try split) <;> omega
theorem holds_iff (r : Rc) (p : Pt) : holdsB r p = true ↔ (r.x0 ≤ p.1 ∧ p.1 ≤ r.x1) ∧ (r.y0 ≤ p.2 ∧ p.2 ≤ r.y1) := by
  unfold holdsB inB; simp
theorem on_right {x0 x1 y : Int} (p : Pt) (h : x0 < x1) : onB (x0, y) (x1, y) p = true ↔ p.2 = y ∧ x0 ≤ p.1 ∧ p.1 ≤ x1 := by
  unfold onB
  rw [tn_right p h, Bool.and_eq_true, decide_eq_true_eq, cmp_zero, holds_iff]
  unfold spanR
  dsimp only
  have a1 : ¬ x1 < x0 := by omega
  have a2 : ¬ y < y := by omega
  simp only [h, a1, a2, if_true, if_false]
  omega
theorem on_left {x0 x1 y : Int} (p : Pt) (h : x0 < x1) : onB (x1, y) (x0, y) p = true ↔ p.2 = y ∧ x0 ≤ p.1 ∧ p.1 ≤ x1 := by
  unfold onB
  rw [tn_left p h, Bool.and_eq_true, decide_eq_true_eq, cmp_zero, holds_iff]
  unfold spanR
  dsimp only
  have a1 : ¬ x1 < x0 := by omega
  have a2 : ¬ y < y := by omega
  simp only [h, a1, a2, if_true, if_false]
  omega
theorem on_up {x y0 y1 : Int} (p : Pt) (h : y0 < y1) : onB (x, y0) (x, y1) p = true ↔ p.1 = x ∧ y0 ≤ p.2 ∧ p.2 ≤ y1 := by
  unfold onB
  rw [tn_up p h, Bool.and_eq_true, decide_eq_true_eq, cmp_zero, holds_iff]
  unfold spanR
  dsimp only
  have a1 : ¬ y1 < y0 := by omega
  have a2 : ¬ x < x := by omega
  simp only [h, a1, a2, if_true, if_false]
  omega
theorem on_down {x y0 y1 : Int} (p : Pt) (h : y0 < y1) : onB (x, y1) (x, y0) p = true ↔ p.1 = x ∧ y0 ≤ p.2 ∧ p.2 ≤ y1 := by
  unfold onB
  rw [tn_down p h, Bool.and_eq_true, decide_eq_true_eq, cmp_zero, holds_iff]
  unfold spanR
  dsimp only
  have a1 : ¬ y1 < y0 := by omega
  have a2 : ¬ x < x := by omega
  simp only [h, a1, a2, if_true, if_false]
  omega
structure RcOk (r : Rc) : Prop where
  hx : r.x0 < r.x1
  hy : r.y0 < r.y1
  m0 : mayB (r.x0, r.y0) = true
  m1 : mayB (r.x1, r.y0) = true
  m2 : mayB (r.x1, r.y1) = true
  m3 : mayB (r.x0, r.y1) = true
theorem RcOk.of {r : Rc} (h : ofOk r = true) : RcOk r := by
  unfold ofOk mayR mayB inB at h
  simp at h
  constructor <;> first | omega | (simp [mayB, inB]; omega)
theorem rect_edges (r : Rc) : allE 2 [rectL r] = [((r.x0, r.y0), (r.x1, r.y0)), ((r.x1, r.y0), (r.x1, r.y1)), ((r.x1, r.y1), (r.x0, r.y1)), ((r.x0, r.y1), (r.x0, r.y0))] := rfl
def rimB (r : Rc) (p : Pt) : Bool := holdsB r p && !(decide (r.x0 < p.1) && decide (p.1 < r.x1) && decide (r.y0 < p.2) && decide (p.2 < r.y1))
theorem rim_any {r : Rc} (h : RcOk r) {p : Pt} (hp : mayB p = true) : (allE 2 [rectL r]).any (fun e => OnF e.1 e.2 p) = rimB r p := by
  obtain ⟨hx, hy, m0, m1, m2, m3⟩ := h
  rw [rect_edges, Bool.eq_iff_iff]
  simp only [List.any_cons, List.any_nil, OnF, List.all_cons, List.all_nil, m0, m1, m2, m3, hp, Bool.and_true, Bool.true_and, Bool.or_false, Bool.or_eq_true, on_right p hx, on_up p hy, on_left p hx, on_down p hy]
  unfold rimB
  rw [Bool.and_eq_true, holds_iff]
  simp only [Bool.not_eq_true', Bool.and_eq_false_iff, decide_eq_false_iff_not]
  omega
end Go.Proofs.YtfanccddokckcaaGreatDoor
namespace Go.Proofs.YtfanccddokckcaaGreatDoor
open Go.RowKit Go.TL

theorem cH_right {x0 x1 y : Int} (p : Pt) : cHb (x0, y) (x1, y) p = false := by
  unfold cHb; simp
theorem cH_up {x y0 y1 : Int} (p : Pt) (h : y0 < y1) : cHb (x, y0) (x, y1) p = true ↔ y0 ≤ p.2 ∧ p.2 < y1 ∧ p.1 < x := by
  unfold cHb
  rw [tn_up p h]
  by_cases h1 : p.2 < y0
  · have h2 : p.2 < y1 := by omega
    simp [h1, h2]; omega
  · by_cases h2 : p.2 < y1
    · simp [h1, h2, cmp_pos]; omega
    · simp [h1, h2]
theorem cH_down {x y0 y1 : Int} (p : Pt) (h : y0 < y1) : cHb (x, y1) (x, y0) p = true ↔ y0 ≤ p.2 ∧ p.2 < y1 ∧ p.1 ≤ x := by
  unfold cHb
  rw [tn_down p h]
  by_cases h1 : p.2 < y0
  · have h2 : p.2 < y1 := by omega
    simp [h1, h2]; omega
  · by_cases h2 : p.2 < y1
    · simp [h1, h2, cmp_pos]; omega
    · simp [h1, h2]
theorem rect_inside {r : Rc} (h : RcOk r) {p : Pt} (hp : mayB p = true) (hn : rimB r p = false) : 0 < insideI (rectL r) p ↔ (r.x0 < p.1 ∧ p.1 < r.x1) ∧ (r.y0 < p.2 ∧ p.2 < r.y1) := by
  obtain ⟨hx, hy, m0, m1, m2, m3⟩ := h
  have hn2 : (r.x0 ≤ p.1 ∧ p.1 ≤ r.x1) ∧ (r.y0 ≤ p.2 ∧ p.2 ≤ r.y1) → (r.x0 < p.1 ∧ p.1 < r.x1) ∧ (r.y0 < p.2 ∧ p.2 < r.y1) := by
    intro hh
    have h1 := (holds_iff r p).2 hh
    unfold rimB at hn
    rw [h1, Bool.true_and] at hn
    simp only [Bool.not_eq_false', Bool.and_eq_true, decide_eq_true_eq] at hn
    omega
  have o0 : onB (r.x0, r.y0) (r.x1, r.y0) p ≠ true := fun e => by have := (on_right p hx).1 e; omega
  have o1 : onB (r.x1, r.y0) (r.x1, r.y1) p ≠ true := fun e => by have := (on_up p hy).1 e; omega
  have o2 : onB (r.x1, r.y1) (r.x0, r.y1) p ≠ true := fun e => by have := (on_left p hx).1 e; omega
  have o3 : onB (r.x0, r.y1) (r.x0, r.y0) p ≠ true := fun e => by have := (on_down p hy).1 e; omega
  have hall : (rectL r).all mayB = true := by simp [m0, m1, m2, m3]
  unfold insideI
  rw [if_neg (by simp), if_neg (by rw [hp]; decide), if_neg (by rw [hall]; decide)]
  rw [show ringE (rectL r) = [((r.x0, r.y0), (r.x1, r.y0)), ((r.x1, r.y0), (r.x1, r.y1)), ((r.x1, r.y1), (r.x0, r.y1)), ((r.x0, r.y1), (r.x0, r.y0))] from rfl]
  rw [insE, if_neg o0, insE, if_neg o1, insE, if_neg o2, insE, if_neg o3, insE]
  rw [cH_right p, cH_right p]
  have D1 := cH_up (x := r.x1) p hy
  have D3 := cH_down (x := r.x0) p hy
  by_cases c1 : cHb (r.x1, r.y0) (r.x1, r.y1) p = true
  · have d1 := D1.1 c1
    by_cases c3 : cHb (r.x0, r.y1) (r.x0, r.y0) p = true
    · have d3 := D3.1 c3
      simp only [if_pos c1, if_pos c3, Bool.false_eq_true, if_false]
      omega
    · have d3 : ¬ (r.y0 ≤ p.2 ∧ p.2 < r.y1 ∧ p.1 ≤ r.x0) := fun e => c3 (D3.2 e)
      simp only [if_pos c1, if_neg c3, Bool.false_eq_true, if_false]
      omega
  · have d1 : ¬ (r.y0 ≤ p.2 ∧ p.2 < r.y1 ∧ p.1 < r.x1) := fun e => c1 (D1.2 e)
    by_cases c3 : cHb (r.x0, r.y1) (r.x0, r.y0) p = true
    · have d3 := D3.1 c3
      omega
    · have d3 : ¬ (r.y0 ≤ p.2 ∧ p.2 < r.y1 ∧ p.1 ≤ r.x0) := fun e => c3 (D3.2 e)
      simp only [if_neg c1, if_neg c3, Bool.false_eq_true, if_false]
      omega
theorem rect_in {r : Rc} (h : RcOk r) {p : Pt} (hp : mayB p = true) : inSh 2 [rectL r] p = holdsB r p := by
  unfold inSh
  rw [rim_any h hp]
  cases hn : rimB r p with
  | true =>
    rw [if_pos rfl]
    unfold rimB at hn
    rw [Bool.and_eq_true] at hn
    rw [hn.1]
  | false =>
    rw [if_neg (by decide), oddF, oddF]
    have hi := rect_inside h hp hn
    have hn2 : holdsB r p = true → (r.x0 < p.1 ∧ p.1 < r.x1) ∧ (r.y0 < p.2 ∧ p.2 < r.y1) := by
      intro h1
      unfold rimB at hn
      rw [h1, Bool.true_and] at hn
      simp only [Bool.not_eq_false', Bool.and_eq_true, decide_eq_true_eq] at hn
      omega
    by_cases hin : 0 < insideI (rectL r) p
    · rw [if_pos ⟨rfl, hin⟩]
      have := hi.1 hin
      exact ((holds_iff r p).2 (by omega)).symm
    · rw [if_neg (fun e => hin e.2)]
      cases hh : holdsB r p with
      | false => rfl
      | true => exact absurd (hi.2 (hn2 hh)) hin
end Go.Proofs.YtfanccddokckcaaGreatDoor
