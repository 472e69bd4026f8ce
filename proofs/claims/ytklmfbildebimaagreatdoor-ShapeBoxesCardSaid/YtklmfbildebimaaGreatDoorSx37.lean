/-
  A rect's polygon holds just what the rect holds. Both rays that go out of a point say the same of a ring. Points in shapes, boxes: what the document says of them. Edges that meet lie in rects that overlap; what is in a shape is in a rect that holds its places.
-/
import Derived.Test.YtklmfbildebimaaGreatDoorSx36
namespace Go.Proofs.YtklmfbildebimaaGreatDoor
open Go.RowKit Go.TL

theorem cmp_zero (a b : Int) : cmpG a b = 0 ↔ a = b := by unfold cmpG; split <;> (try split) <;> omega
theorem cmp_pos (a b : Int) : 0 < cmpG a b ↔ b < a := by unfold cmpG; split <;> (try split) <;> omega
theorem cmp_neg0 (a b : Int) : cmpG a b < 0 ↔ a < b := by unfold cmpG; split <;> (try split) <;> omega
theorem holds_iff (r : Rc) (p : Pt) : holdsB r p = true ↔ (r.x0 ≤ p.1 ∧ p.1 ≤ r.x1) ∧ (r.y0 ≤ p.2 ∧ p.2 ≤ r.y1) := by
  unfold holdsB inB; simp
structure RcOk (r : Rc) : Prop where
  hx : r.x0 < r.x1
  hy : r.y0 < r.y1
  m0 : mayB (r.x0, r.y0) = true
  m1 : mayB (r.x1, r.y0) = true
  m2 : mayB (r.x1, r.y1) = true
  m3 : mayB (r.x0, r.y1) = true
theorem RcOk.of {r : Rc} (h : ofOk r = true) : RcOk r := by
  unfold ofOk mayR mayB inB at h
  simp at h
  constructor <;> first | omega | (simp [mayB, inB]; omega)
end Go.Proofs.YtklmfbildebimaaGreatDoor
namespace Go.Proofs.YtklmfbildebimaaGreatDoor
open Go.RowKit Go.TL

def crs (a b p : Pt) : Int := (a.1 - p.1) * (b.2 - p.2) - (a.2 - p.2) * (b.1 - p.1)
theorem crs_eq (a b p : Pt) : tnL a b p - tnR a b p = crs a b p := by
  unfold tnL tnR crs; grind
theorem tn_zero' (a b p : Pt) : tn a b p = 0 ↔ crs a b p = 0 := by
  have := crs_eq a b p
  unfold tn; rw [cmp_zero]; omega
theorem tn_pos' (a b p : Pt) : 0 < tn a b p ↔ 0 < crs a b p := by
  have := crs_eq a b p
  unfold tn; rw [cmp_pos]; omega
theorem tn_neg' (a b p : Pt) : tn a b p < 0 ↔ crs a b p < 0 := by
  have := crs_eq a b p
  unfold tn; rw [cmp_neg0]; omega
theorem crs_swap (a b p : Pt) : crs b a p = - crs a b p := by unfold crs; grind
theorem cross_rel (ax ay bx y c : Int) (_hc : c = ax * y - ay * bx) (_hon : ¬ (c = 0 ∧ (ax ≤ 0 ∧ 0 ≤ bx ∨ bx ≤ 0 ∧ 0 ≤ ax) ∧ (ay ≤ 0 ∧ 0 ≤ y ∨ y ≤ 0 ∧ 0 ≤ ay))) :
    (((decide (0 < ay) != decide (0 < y)) && (decide (0 < c) == decide (0 < y))) ^^ ((decide (0 < ax) != decide (0 < bx)) && (if bx < ax then decide (0 < c) else decide (c < 0)))) = ((decide (0 < ax) && decide (0 < ay)) ^^ (decide (0 < bx) && decide (0 < y))) := by
  have h1 : 0 < ax → 0 < y → 0 < ax * y := fun h k => Int.mul_pos h k
  have h2 : 0 < ax → y ≤ 0 → ax * y ≤ 0 := fun h k => Int.mul_nonpos_of_nonneg_of_nonpos (by omega) k
  have h3 : ax ≤ 0 → 0 < y → ax * y ≤ 0 := fun h k => Int.mul_nonpos_of_nonpos_of_nonneg h (by omega)
  have h4 : ax ≤ 0 → y ≤ 0 → 0 ≤ ax * y := fun h k => Int.mul_nonneg_of_nonpos_of_nonpos h k
  have k1 : 0 < ay → 0 < bx → 0 < ay * bx := fun h k => Int.mul_pos h k
  have k2 : 0 < ay → bx ≤ 0 → ay * bx ≤ 0 := fun h k => Int.mul_nonpos_of_nonneg_of_nonpos (by omega) k
  have k3 : ay ≤ 0 → 0 < bx → ay * bx ≤ 0 := fun h k => Int.mul_nonpos_of_nonpos_of_nonneg h (by omega)
  have k4 : ay ≤ 0 → bx ≤ 0 → 0 ≤ ay * bx := fun h k => Int.mul_nonneg_of_nonpos_of_nonpos h k
  have z1 : ax * y = 0 → ax = 0 ∨ y = 0 := Int.mul_eq_zero.1
  have z2 : ay * bx = 0 → ay = 0 ∨ bx = 0 := Int.mul_eq_zero.1
  generalize ax * y = u at *
  generalize ay * bx = v at *
  by_cases a1 : 0 < ax <;> by_cases a2 : 0 < ay <;> by_cases b1 : 0 < bx <;> by_cases b2 : 0 < y <;> simp [a1, a2, b1, b2] <;> first | omega | (try split) <;> simp <;> omega
def cVb (a b p : Pt) : Bool := (decide (p.1 < a.1) != decide (p.1 < b.1)) && (if b.1 < a.1 then decide (tn b a p < 0) else decide (tn a b p < 0))
def qdB (a p : Pt) : Bool := decide (p.1 < a.1) && decide (p.2 < a.2)
theorem span_x (a b p : Pt) : holdsB (spanR a b) p = true ↔ (a.1 ≤ p.1 ∧ p.1 ≤ b.1 ∨ b.1 ≤ p.1 ∧ p.1 ≤ a.1) ∧ (a.2 ≤ p.2 ∧ p.2 ≤ b.2 ∨ b.2 ≤ p.2 ∧ p.2 ≤ a.2) := by
  rw [holds_iff]; unfold spanR; dsimp only
  split <;> split <;> split <;> split <;> omega
theorem onB_iff (a b p : Pt) : onB a b p = true ↔ crs a b p = 0 ∧ (a.1 ≤ p.1 ∧ p.1 ≤ b.1 ∨ b.1 ≤ p.1 ∧ p.1 ≤ a.1) ∧ (a.2 ≤ p.2 ∧ p.2 ≤ b.2 ∨ b.2 ≤ p.2 ∧ p.2 ≤ a.2) := by
  unfold onB
  rw [Bool.and_eq_true, decide_eq_true_eq, tn_zero', span_x]
theorem ray_rel (a b p : Pt) (h : onB a b p = false) : (cHb a b p ^^ cVb a b p) = (qdB a p ^^ qdB b p) := by
  have hon : ¬ (crs a b p = 0 ∧ (a.1 - p.1 ≤ 0 ∧ 0 ≤ b.1 - p.1 ∨ b.1 - p.1 ≤ 0 ∧ 0 ≤ a.1 - p.1) ∧ (a.2 - p.2 ≤ 0 ∧ 0 ≤ b.2 - p.2 ∨ b.2 - p.2 ≤ 0 ∧ 0 ≤ a.2 - p.2)) := fun hh => by
    have : onB a b p = true := (onB_iff a b p).2 ⟨hh.1, by omega, by omega⟩
    rw [h] at this; cases this
  have key := cross_rel (a.1 - p.1) (a.2 - p.2) (b.1 - p.1) (b.2 - p.2) (crs a b p) rfl hon
  have e1 : ∀ x y : Int, (0 < x - y) = (y < x) := fun x y => propext (by omega)
  have e2 : (b.1 - p.1 < a.1 - p.1) = (b.1 < a.1) := propext (by omega)
  simp only [e1, e2] at key
  unfold cHb cVb qdB
  simp only [tn_pos', tn_neg', crs_swap a b p]
  have e3 : (-crs a b p < 0) = (0 < crs a b p) := propext (by omega)
  simp only [e3]
  exact key
def oddE (f : Pt × Pt → Bool) : List (Pt × Pt) → Bool
  | [] => false
  | e :: r => f e ^^ oddE f r
theorem oddE_xor (f h : Pt × Pt → Bool) : ∀ l, (oddE f l ^^ oddE h l) = oddE (fun e => f e ^^ h e) l
  | [] => rfl
  | e :: r => by
    have := oddE_xor f h r
    simp only [oddE]
    rw [← this]
    cases f e <;> cases h e <;> cases oddE f r <;> cases oddE h r <;> rfl
def oddL (q : Pt → Bool) : List Pt → Bool
  | [] => false
  | a :: r => q a ^^ oddL q r
theorem oddL_app (q : Pt → Bool) : ∀ (a b : List Pt), oddL q (a ++ b) = (oddL q a ^^ oddL q b)
  | [], b => by simp [oddL]
  | x :: a, b => by
    have := oddL_app q a b
    simp only [oddL, List.cons_append]
    rw [this, Bool.xor_assoc]
theorem oddE_zip (q : Pt → Bool) : ∀ (a b : List Pt), a.length = b.length → oddE (fun e => q e.1 ^^ q e.2) (a.zip b) = (oddL q a ^^ oddL q b)
  | [], [], _ => rfl
  | x :: a, y :: b, h => by
    have := oddE_zip q a b (by simpa using h)
    simp only [oddE, oddL, List.zip_cons_cons]
    rw [this]
    cases q x <;> cases q y <;> cases oddL q a <;> cases oddL q b <;> rfl
  | [], y :: b, h => by cases h
  | x :: a, [], h => by cases h
theorem oddE_ring (q : Pt → Bool) (l : List Pt) : oddE (fun e => q e.1 ^^ q e.2) (ringE l) = false := by
  unfold ringE
  rw [oddE_zip _ _ _ (by simp; omega), oddL_app]
  have h : oddL q l = (oddL q (l.take 1) ^^ oddL q (l.drop 1)) := by rw [← oddL_app, List.take_append_drop]
  rw [h]
  cases oddL q (l.take 1) <;> cases oddL q (l.drop 1) <;> rfl
theorem oddE_congr {f h : Pt × Pt → Bool} : ∀ {l : List (Pt × Pt)}, (∀ e ∈ l, f e = h e) → oddE f l = oddE h l
  | [], _ => rfl
  | e :: r, hh => by
    simp only [oddE]
    rw [hh e (List.mem_cons_self ..), oddE_congr (l := r) fun x hx => hh x (List.mem_cons_of_mem _ hx)]
def insV : List (Pt × Pt) → Pt → Bool → Int
  | [], _, o => if o = true then 1 else -1
  | (a, b) :: r, p, o => if onB a b p = true then 0 else insV r p (if cVb a b p = true then !o else o)
def onA (es : List (Pt × Pt)) (p : Pt) : Bool := es.any fun e => onB e.1 e.2 p
theorem insV_val : ∀ (es : List (Pt × Pt)) (p : Pt) (o : Bool), insV es p o = if onA es p = true then 0 else if (o ^^ oddE (fun e => cVb e.1 e.2 p) es) = true then 1 else -1
  | [], p, o => by simp [insV, onA, oddE]
  | (a, b) :: r, p, o => by
    rw [insV, insV_val r p]
    unfold onA
    rw [List.any_cons, oddE]
    cases onB a b p with
    | true => simp
    | false =>
      rw [if_neg (by decide), Bool.false_or]
      congr 1
      cases cVb a b p <;> cases o <;> cases oddE (fun e => cVb e.1 e.2 p) r <;> rfl
theorem insE_val : ∀ (es : List (Pt × Pt)) (p : Pt) (o : Int), insE es p o = if onA es p = true then 0 else if oddE (fun e => cHb e.1 e.2 p) es = true then -o else o
  | [], p, o => by simp [insE, onA, oddE]
  | (a, b) :: r, p, o => by
    rw [insE, insE_val r p]
    unfold onA
    rw [List.any_cons, oddE]
    cases onB a b p with
    | true => simp
    | false =>
      rw [if_neg (by decide), Bool.false_or]
      congr 1
      cases cHb a b p <;> cases oddE (fun e => cHb e.1 e.2 p) r <;> simp
theorem odd_alike (l : List Pt) (p : Pt) (h : onA (ringE l) p = false) : oddE (fun e => cHb e.1 e.2 p) (ringE l) = oddE (fun e => cVb e.1 e.2 p) (ringE l) := by
  have h1 := oddE_xor (fun e => cHb e.1 e.2 p) (fun e => cVb e.1 e.2 p) (ringE l)
  have h2 : oddE (fun e => cHb e.1 e.2 p ^^ cVb e.1 e.2 p) (ringE l) = oddE (fun e => qdB e.1 p ^^ qdB e.2 p) (ringE l) := oddE_congr fun e he => by
    unfold onA at h
    have := List.any_eq_false.1 h e he
    exact ray_rel e.1 e.2 p (Bool.eq_false_iff.2 this)
  rw [h2, oddE_ring (fun a => qdB a p)] at h1
  revert h1
  cases oddE (fun e => cHb e.1 e.2 p) (ringE l) <;> cases oddE (fun e => cVb e.1 e.2 p) (ringE l) <;> decide
theorem inside_alike (l : List Pt) (p : Pt) : insV (ringE l) p false = insE (ringE l) p (-1) := by
  rw [insV_val, insE_val]
  cases h : onA (ringE l) p with
  | true => rfl
  | false =>
    simp only [Bool.false_eq_true, if_false, Bool.false_xor]
    rw [odd_alike l p h]
    cases oddE (fun e => cVb e.1 e.2 p) (ringE l) <;> rfl
end Go.Proofs.YtklmfbildebimaaGreatDoor
namespace Go.Proofs.YtklmfbildebimaaGreatDoor
open Go.RowKit Go.TL

theorem ring_mem {l : List Pt} {e : Pt × Pt} (h : e ∈ ringE l) : e.1 ∈ l ∧ e.2 ∈ l := by
  unfold ringE at h
  obtain ⟨a, b⟩ := e
  obtain ⟨h1, h2⟩ := List.of_mem_zip h
  refine ⟨h1, ?_⟩
  rcases List.mem_append.1 h2 with h | h
  · exact List.mem_of_mem_drop h
  · exact List.mem_of_mem_take h
theorem part_mem {k : Int} {l : List Pt} {e : Pt × Pt} (h : e ∈ partE k l) : e ∈ ringE l := by
  unfold partE at h
  split at h
  · exact List.mem_of_mem_take h
  · exact h
theorem any_cong {α : Type} {f h : α → Bool} : ∀ {l : List α}, (∀ e ∈ l, f e = h e) → l.any f = l.any h
  | [], _ => rfl
  | e :: r, hh => by rw [List.any_cons, List.any_cons, hh e (List.mem_cons_self ..), any_cong (l := r) fun x hx => hh x (List.mem_cons_of_mem _ hx)]
def mayE (es : List (Pt × Pt)) : Prop := ∀ e ∈ es, mayB e.1 = true ∧ mayB e.2 = true
theorem allE_may' {k : Int} {ps : List (List Pt)} (h : ∀ q ∈ ps, q.all mayB = true) : mayE (allE k ps) := by
  intro e he
  obtain ⟨q, hq, he⟩ := List.mem_flatMap.1 he
  obtain ⟨h1, h2⟩ := ring_mem (part_mem he)
  have ha := List.all_eq_true.1 (h q hq)
  exact ⟨ha _ h1, ha _ h2⟩
theorem OnF_mayD {a b p : Pt} (ha : mayB a = true) (hb : mayB b = true) (hp : mayB p = true) : OnF a b p = onB a b p := by
  unfold OnF; simp [ha, hb, hp]
theorem MeetF_mayD {a b c d : Pt} (ha : mayB a = true) (hb : mayB b = true) (hc : mayB c = true) (hd : mayB d = true) : MeetF a b c d = meetB a b c d := by
  unfold MeetF; simp [ha, hb, hc, hd]
/- What a box holds. -/
theorem bdF_iff (r : Rc) : ∀ (l : List Pt) (a b c d : Int), ((bdF r l).x0 ≤ a ↔ r.x0 ≤ a ∨ ∃ q ∈ l, q.1 ≤ a) ∧ ((bdF r l).y0 ≤ b ↔ r.y0 ≤ b ∨ ∃ q ∈ l, q.2 ≤ b) ∧ (c ≤ (bdF r l).x1 ↔ c ≤ r.x1 ∨ ∃ q ∈ l, c ≤ q.1) ∧ (d ≤ (bdF r l).y1 ↔ d ≤ r.y1 ∨ ∃ q ∈ l, d ≤ q.2) := by
  intro l
  induction l generalizing r with
  | nil => intro a b c d; simp [bdF]
  | cons q l ih =>
    intro a b c d
    obtain ⟨h1, h2, h3, h4⟩ := ih (joinR r (spanR q q)) a b c d
    rw [show bdF r (q :: l) = bdF (joinR r (spanR q q)) l from rfl, h1, h2, h3, h4]
    have e0 : ((joinR r (spanR q q)).x0 ≤ a) ↔ (r.x0 ≤ a ∨ q.1 ≤ a) := by unfold joinR spanR; dsimp only; (repeat' split) <;> omega
    have e1 : ((joinR r (spanR q q)).y0 ≤ b) ↔ (r.y0 ≤ b ∨ q.2 ≤ b) := by unfold joinR spanR; dsimp only; (repeat' split) <;> omega
    have e2 : (c ≤ (joinR r (spanR q q)).x1) ↔ (c ≤ r.x1 ∨ c ≤ q.1) := by unfold joinR spanR; dsimp only; (repeat' split) <;> omega
    have e3 : (d ≤ (joinR r (spanR q q)).y1) ↔ (d ≤ r.y1 ∨ d ≤ q.2) := by unfold joinR spanR; dsimp only; (repeat' split) <;> omega
    rw [e0, e1, e2, e3]
    simp only [List.mem_cons, exists_eq_or_imp, or_assoc, and_self]
theorem bdL_iff {l : List Pt} (hl : l ≠ []) (a b c d : Int) : ((bdL l).x0 ≤ a ↔ ∃ q ∈ l, q.1 ≤ a) ∧ ((bdL l).y0 ≤ b ↔ ∃ q ∈ l, q.2 ≤ b) ∧ (c ≤ (bdL l).x1 ↔ ∃ q ∈ l, c ≤ q.1) ∧ (d ≤ (bdL l).y1 ↔ ∃ q ∈ l, d ≤ q.2) := by
  cases l with
  | nil => exact absurd rfl hl
  | cons p l =>
    obtain ⟨h1, h2, h3, h4⟩ := bdF_iff (spanR p p) (p :: l) a b c d
    rw [show bdL (p :: l) = bdF (spanR p p) (p :: l) from rfl, h1, h2, h3, h4]
    have e : spanR p p = ⟨p.1, p.2, p.1, p.2⟩ := by unfold spanR; simp
    rw [e]
    dsimp only
    have hm : p ∈ p :: l := List.mem_cons_self ..
    refine ⟨⟨?_, .inr⟩, ⟨?_, .inr⟩, ⟨?_, .inr⟩, ⟨?_, .inr⟩⟩ <;> (rintro (h | h) <;> first | exact ⟨p, hm, h⟩ | exact h)
theorem bd_holds {l : List Pt} {q : Pt} (hq : q ∈ l) : holdsB (bdL l) q = true := by
  have hl : l ≠ [] := List.ne_nil_of_mem hq
  obtain ⟨h1, h2, h3, h4⟩ := bdL_iff hl q.1 q.2 q.1 q.2
  rw [holds_iff]
  exact ⟨⟨h1.2 ⟨q, hq, Int.le_refl _⟩, h3.2 ⟨q, hq, Int.le_refl _⟩⟩, h2.2 ⟨q, hq, Int.le_refl _⟩, h4.2 ⟨q, hq, Int.le_refl _⟩⟩
end Go.Proofs.YtklmfbildebimaaGreatDoor
namespace Go.Proofs.YtklmfbildebimaaGreatDoor
open Go.RowKit Go.TL

/- Edges that meet lie in rects that overlap. -/
theorem apart_one (u1 u2 t1 t2 ax bx cx dx X : Int) (hs : u1 - u2 = t2 - t1) (hx : u1 * bx - u2 * ax = t2 * cx - t1 * dx) (hg : (0 < u1 ∧ u2 < 0 ∧ t1 < 0 ∧ 0 < t2) ∨ (u1 < 0 ∧ 0 < u2 ∧ 0 < t1 ∧ t2 < 0)) : ¬ (ax < X ∧ bx < X ∧ X ≤ cx ∧ X ≤ dx) ∧ ¬ (cx < X ∧ dx < X ∧ X ≤ ax ∧ X ≤ bx) := by
  have e : u1 * (X - bx) + (-u2) * (X - ax) = t2 * (X - cx) + (-t1) * (X - dx) := by
    have : u1 * (X - bx) + (-u2) * (X - ax) - (t2 * (X - cx) + (-t1) * (X - dx)) = (u1 - u2 - (t2 - t1)) * X - (u1 * bx - u2 * ax - (t2 * cx - t1 * dx)) := by grind
    rw [hs, hx, Int.sub_self, Int.sub_self, Int.zero_mul] at this
    omega
  have P := fun (x y : Int) (h : 0 < x) (k : 0 < y) => Int.mul_pos h k
  have Z := fun (x y : Int) (h : 0 < x) (k : y ≤ 0) => Int.mul_nonpos_of_nonneg_of_nonpos (Int.le_of_lt h) k
  have N := fun (x y : Int) (h : x < 0) (k : 0 < y) => Int.mul_neg_of_neg_of_pos h k
  have M := fun (x y : Int) (h : x < 0) (k : y ≤ 0) => Int.mul_nonneg_of_nonpos_of_nonpos (Int.le_of_lt h) k
  rcases hg with ⟨h1, h2, h3, h4⟩ | ⟨h1, h2, h3, h4⟩
  · refine ⟨fun ⟨k1, k2, k3, k4⟩ => ?_, fun ⟨k1, k2, k3, k4⟩ => ?_⟩
    · have := P u1 (X - bx) h1 (by omega); have := P (-u2) (X - ax) (by omega) (by omega)
      have := Z t2 (X - cx) h4 (by omega); have := Z (-t1) (X - dx) (by omega) (by omega)
      omega
    · have := Z u1 (X - bx) h1 (by omega); have := Z (-u2) (X - ax) (by omega) (by omega)
      have := P t2 (X - cx) h4 (by omega); have := P (-t1) (X - dx) (by omega) (by omega)
      omega
  · refine ⟨fun ⟨k1, k2, k3, k4⟩ => ?_, fun ⟨k1, k2, k3, k4⟩ => ?_⟩
    · have := N u1 (X - bx) h1 (by omega); have := N (-u2) (X - ax) (by omega) (by omega)
      have := M t2 (X - cx) h4 (by omega); have := M (-t1) (X - dx) (by omega) (by omega)
      omega
    · have := M u1 (X - bx) h1 (by omega); have := M (-u2) (X - ax) (by omega) (by omega)
      have := N t2 (X - cx) h4 (by omega); have := N (-t1) (X - dx) (by omega) (by omega)
      omega
theorem crs_sum (a b c d : Pt) : crs c d a - crs c d b = crs a b d - crs a b c := by unfold crs; grind
theorem crs_x (a b c d : Pt) : crs c d a * b.1 - crs c d b * a.1 = crs a b d * c.1 - crs a b c * d.1 := by unfold crs; grind
theorem crs_y (a b c d : Pt) : crs c d a * b.2 - crs c d b * a.2 = crs a b d * c.2 - crs a b c * d.2 := by unfold crs; grind
theorem tn_three' (a b c : Pt) : tn a b c = -1 ∨ tn a b c = 0 ∨ tn a b c = 1 := by
  unfold tn cmpG; split <;> (try split) <;> omega
theorem tn_mul {x y : Int} (hx : x = -1 ∨ x = 0 ∨ x = 1) (hy : y = -1 ∨ y = 0 ∨ y = 1) : x * y < 0 ↔ (0 < x ∧ y < 0) ∨ (x < 0 ∧ 0 < y) := by
  rcases hx with rfl | rfl | rfl <;> rcases hy with rfl | rfl | rfl <;> decide
theorem cross_iff (a b c d : Pt) : crossB a b c d = true ↔ ((0 < crs a b c ∧ crs a b d < 0) ∨ (crs a b c < 0 ∧ 0 < crs a b d)) ∧ ((0 < crs c d a ∧ crs c d b < 0) ∨ (crs c d a < 0 ∧ 0 < crs c d b)) := by
  unfold crossB
  rw [Bool.and_eq_true, decide_eq_true_eq, decide_eq_true_eq, tn_mul (tn_three' ..) (tn_three' ..), tn_mul (tn_three' ..) (tn_three' ..)]
  simp only [tn_pos', tn_neg']
theorem cross_apart {a b c d : Pt} (h : crossB a b c d = true) (X : Int) : (¬ (a.1 < X ∧ b.1 < X ∧ X ≤ c.1 ∧ X ≤ d.1) ∧ ¬ (c.1 < X ∧ d.1 < X ∧ X ≤ a.1 ∧ X ≤ b.1)) ∧ (¬ (a.2 < X ∧ b.2 < X ∧ X ≤ c.2 ∧ X ≤ d.2) ∧ ¬ (c.2 < X ∧ d.2 < X ∧ X ≤ a.2 ∧ X ≤ b.2)) := by
  obtain ⟨h1, h2⟩ := (cross_iff a b c d).1 h
  have hs := crs_sum a b c d
  have hg : (0 < crs c d a ∧ crs c d b < 0 ∧ crs a b c < 0 ∧ 0 < crs a b d) ∨ (crs c d a < 0 ∧ 0 < crs c d b ∧ 0 < crs a b c ∧ crs a b d < 0) := by omega
  exact ⟨apart_one _ _ _ _ _ _ _ _ X hs (crs_x a b c d) hg, apart_one _ _ _ _ _ _ _ _ X hs (crs_y a b c d) hg⟩
theorem meet_over {r s : Rc} {a b c d : Pt} (h : meetB a b c d = true) (ha : holdsB r a = true) (hb : holdsB r b = true) (hc : holdsB s c = true) (hd : holdsB s d = true) : r.x0 ≤ s.x1 ∧ s.x0 ≤ r.x1 ∧ r.y0 ≤ s.y1 ∧ s.y0 ≤ r.y1 := by
  rw [holds_iff] at ha hb hc hd
  unfold meetB at h
  simp only [Bool.or_eq_true, onB_iff] at h
  rcases h with (((h | h) | h) | h) | h
  · refine ⟨?_, ?_, ?_, ?_⟩ <;> refine Decidable.byContradiction fun hn => ?_
    · exact (cross_apart h r.x0).1.2 ⟨by omega, by omega, by omega, by omega⟩
    · exact (cross_apart h s.x0).1.1 ⟨by omega, by omega, by omega, by omega⟩
    · exact (cross_apart h r.y0).2.2 ⟨by omega, by omega, by omega, by omega⟩
    · exact (cross_apart h s.y0).2.1 ⟨by omega, by omega, by omega, by omega⟩
  · omega
  · omega
  · omega
  · omega
theorem on_holds {r : Rc} {a b p : Pt} (h : onB a b p = true) (ha : holdsB r a = true) (hb : holdsB r b = true) : holdsB r p = true := by
  rw [holds_iff] at ha hb ⊢
  rw [onB_iff] at h
  omega
theorem oddE_none {f : Pt × Pt → Bool} : ∀ {l : List (Pt × Pt)}, (∀ e ∈ l, f e = false) → oddE f l = false
  | [], _ => rfl
  | e :: r, hh => by
    simp only [oddE]
    rw [hh e (List.mem_cons_self ..), oddE_none (l := r) fun x hx => hh x (List.mem_cons_of_mem _ hx)]; rfl
theorem inside_holds {l : List Pt} {p : Pt} {r : Rc} (hr : ∀ q ∈ l, holdsB r q = true) (h : 0 < insE (ringE l) p (-1)) : holdsB r p = true := by
  have hv := inside_alike l p
  rw [insE_val] at h
  rw [insE_val, insV_val] at hv
  cases ho : onA (ringE l) p with
  | true => rw [ho, if_pos rfl] at h; omega
  | false =>
    rw [ho] at h hv
    rw [if_neg (by decide)] at h
    simp only [Bool.false_eq_true, if_false, Bool.false_xor] at hv
    have h1 : oddE (fun e => cHb e.1 e.2 p) (ringE l) = true := by
      cases hh : oddE (fun e => cHb e.1 e.2 p) (ringE l) with
      | true => rfl
      | false => rw [hh] at h; simp at h
    have h2 : oddE (fun e => cVb e.1 e.2 p) (ringE l) = true := by
      rw [← odd_alike l p ho]; exact h1
    rw [holds_iff]
    have hm : ∀ e ∈ ringE l, ((r.x0 ≤ e.1.1 ∧ e.1.1 ≤ r.x1) ∧ (r.y0 ≤ e.1.2 ∧ e.1.2 ≤ r.y1)) ∧ ((r.x0 ≤ e.2.1 ∧ e.2.1 ≤ r.x1) ∧ (r.y0 ≤ e.2.2 ∧ e.2.2 ≤ r.y1)) := fun e he => by
      obtain ⟨m1, m2⟩ := ring_mem he
      exact ⟨(holds_iff _ _).1 (hr _ m1), (holds_iff _ _).1 (hr _ m2)⟩
    refine ⟨⟨?_, ?_⟩, ⟨?_, ?_⟩⟩
    · refine Decidable.byContradiction fun hn => ?_
      rw [oddE_none fun e he => by
        have := hm e he
        unfold cVb
        rw [decide_eq_true (show p.1 < e.1.1 by omega), decide_eq_true (show p.1 < e.2.1 by omega)]; rfl] at h2
      cases h2
    · refine Decidable.byContradiction fun hn => ?_
      rw [oddE_none fun e he => by
        have := hm e he
        unfold cVb
        rw [decide_eq_false (show ¬ p.1 < e.1.1 by omega), decide_eq_false (show ¬ p.1 < e.2.1 by omega)]; rfl] at h2
      cases h2
    · refine Decidable.byContradiction fun hn => ?_
      rw [oddE_none fun e he => by
        have := hm e he
        unfold cHb
        rw [decide_eq_true (show p.2 < e.1.2 by omega), decide_eq_true (show p.2 < e.2.2 by omega)]; rfl] at h1
      cases h1
    · refine Decidable.byContradiction fun hn => ?_
      rw [oddE_none fun e he => by
        have := hm e he
        unfold cHb
        rw [decide_eq_false (show ¬ p.2 < e.1.2 by omega), decide_eq_false (show ¬ p.2 < e.2.2 by omega)]; rfl] at h1
      cases h1
theorem odd_some {k : Int} {p : Pt} : ∀ {ps : List (List Pt)} {o : Bool}, oddF k p ps o = true → o = true ∨ ∃ q ∈ ps, 0 < insideI q p
  | [], o, h => .inl h
  | l :: r, o, h => by
    rw [oddF] at h
    rcases odd_some h with h1 | ⟨q, hq, h1⟩
    · split at h1
      · rename_i hh; exact .inr ⟨l, List.mem_cons_self .., hh.2⟩
      · exact .inl h1
    · exact .inr ⟨q, List.mem_cons_of_mem _ hq, h1⟩
theorem insideI_pos {l : List Pt} {p : Pt} (h : 0 < insideI l p) : 0 < insE (ringE l) p (-1) := by
  unfold insideI at h
  split at h
  · omega
  · split at h
    · omega
    · split at h
      · omega
      · exact h
theorem inSh_holds {k : Int} {ps : List (List Pt)} {p : Pt} {r : Rc} (hr : ∀ q ∈ ps, ∀ a ∈ q, holdsB r a = true) (h : inSh k ps p = true) : holdsB r p = true := by
  unfold inSh at h
  split at h
  · rename_i hh
    obtain ⟨e, he, h1⟩ := List.any_eq_true.1 hh
    obtain ⟨q, hq, he⟩ := List.mem_flatMap.1 he
    obtain ⟨m1, m2⟩ := ring_mem (part_mem he)
    unfold OnF at h1
    rw [Bool.and_eq_true] at h1
    exact on_holds h1.2 (hr q hq _ m1) (hr q hq _ m2)
  · rcases odd_some h with h1 | ⟨q, hq, h1⟩
    · cases h1
    · exact inside_holds (hr q hq) (insideI_pos h1)
end Go.Proofs.YtklmfbildebimaaGreatDoor
