/-
  Edges that meet lie in rects that overlap; what is in a shape is in a rect that holds its places. A shape that is right: the document and the program say the same. Box, Meet, Within: the document and the program say the same.
-/
import Derived.Test.YtfanccddokckcaaGreatDoorSm33
namespace Go.Proofs.YtfanccddokckcaaGreatDoor
open Go.RowKit Go.TL

/- Edges that meet lie in rects that overlap. -/
theorem apart_one (u1 u2 t1 t2 ax bx cx dx X : Int) (hs : u1 - u2 = t2 - t1) (hx : u1 * bx - u2 * ax = t2 * cx - t1 * dx) (hg : (0 < u1 ∧ u2 < 0 ∧ t1 < 0 ∧ 0 < t2) ∨ (u1 < 0 ∧ 0 < u2 ∧ 0 < t1 ∧ t2 < 0)) : ¬ (ax < X ∧ bx < X ∧ X ≤ cx ∧ X ≤ dx) ∧ ¬ (cx < X ∧ dx < X ∧ X ≤ ax ∧ X ≤ bx) := by
  have e : u1 * (X - bx) + (-u2) * (X - ax) = t2 * (X - cx) + (-t1) * (X - dx) := by
    have : u1 * (X - bx) + (-u2) * (X - ax) - (t2 * (X - cx) + (-t1) * (X - dx)) = (u1 - u2 - (t2 - t1)) * X - (u1 * bx - u2 * ax - (t2 * cx - t1 * dx)) := by grind
    rw [hs, hx, Int.sub_self, Int.sub_self, Int.zero_mul] at this
    omega
  have P := fun (x y : Int) (h : 0 < x) (k : 0 < y) => Int.mul_pos h k
  have Z := fun (x y : Int) (h : 0 < x) (k : y ≤ 0) => Int.mul_nonpos_of_nonneg_of_nonpos (Int.le_of_lt h) k
  have N := fun (x y : Int) (h : x < 0) (k : 0 < y) => Int.mul_neg_of_neg_of_pos h k
  have M := fun (x y : Int) (h : x < 0) (k : y ≤ 0) => Int.mul_nonneg_of_nonpos_of_nonpos (Int.le_of_lt h) k
  rcases hg with ⟨h1, h2, h3, h4⟩ | ⟨h1, h2, h3, h4⟩
  · refine ⟨fun ⟨k1, k2, k3, k4⟩ => ?_, fun ⟨k1, k2, k3, k4⟩ => ?_⟩
    · have := P u1 (X - bx) h1 (by omega); have := P (-u2) (X - ax) (by omega) (by omega)
      have := Z t2 (X - cx) h4 (by omega); have := Z (-t1) (X - dx) (by omega) (by omega)
      omega
    · have := Z u1 (X - bx) h1 (by omega); have := Z (-u2) (X - ax) (by omega) (by omega)
      have := P t2 (X - cx) h4 (by omega); have := P (-t1) (X - dx) (by omega) (by omega)
      omega
  · refine ⟨fun ⟨k1, k2, k3, k4⟩ => ?_, fun ⟨k1, k2, k3, k4⟩ => ?_⟩
    · have := N u1 (X - bx) h1 (by omega); have := N (-u2) (X - ax) (by omega) (by omega)
      have := M t2 (X - cx) h4 (by omega); have := M (-t1) (X - dx) (by omega) (by omega)
      omega
    · have := M u1 (X - bx) h1 (by omega); have := M (-u2) (X - ax) (by omega) (by omega)
      have := N t2 (X - cx) h4 (by omega); have := N (-t1) (X - dx) (by omega) (by omega)
      omega
theorem crs_sum (a b c d : Pt) : crs c d a - crs c d b = crs a b d - crs a b c := by unfold crs; grind
theorem crs_x (a b c d : Pt) : crs c d a * b.1 - crs c d b * a.1 = crs a b d * c.1 - crs a b c * d.1 := by unfold crs; grind
theorem crs_y (a b c d : Pt) : crs c d a * b.2 - crs c d b * a.2 = crs a b d * c.2 - crs a b c * d.2 := by unfold crs; grind
theorem tn_three' (a b c : Pt) : tn a b c = -1 ∨ tn a b c = 0 ∨ tn a b c = 1 := by
  unfold tn cmpG; split <;> (try split) <;> omega
theorem tn_mul {x y : Int} (hx : x = -1 ∨ x = 0 ∨ x = 1) (hy : y = -1 ∨ y = 0 ∨ y = 1) : x * y < 0 ↔ (0 < x ∧ y < 0) ∨ (x < 0 ∧ 0 < y) := by
  rcases hx with rfl | rfl | rfl <;> rcases hy with rfl | rfl | rfl <;> decide
theorem cross_iff (a b c d : Pt) : crossB a b c d = true ↔ ((0 < crs a b c ∧ crs a b d < 0) ∨ (crs a b c < 0 ∧ 0 < crs a b d)) ∧ ((0 < crs c d a ∧ crs c d b < 0) ∨ (crs c d a < 0 ∧ 0 < crs c d b)) := by
  unfold crossB
  rw [Bool.and_eq_true, decide_eq_true_eq, decide_eq_true_eq, tn_mul (tn_three' ..) (tn_three' ..), tn_mul (tn_three' ..) (tn_three' ..)]
  simp only [tn_pos', tn_neg']
theorem cross_apart {a b c d : Pt} (h : crossB a b c d = true) (X : Int) : (¬ (a.1 < X ∧ b.1 < X ∧ X ≤ c.1 ∧ X ≤ d.1) ∧ ¬ (c.1 < X ∧ d.1 < X ∧ X ≤ a.1 ∧ X ≤ b.1)) ∧ (¬ (a.2 < X ∧ b.2 < X ∧ X ≤ c.2 ∧ X ≤ d.2) ∧ ¬ (c.2 < X ∧ d.2 < X ∧ X ≤ a.2 ∧ X ≤ b.2)) := by
  obtain ⟨h1, h2⟩ := (cross_iff a b c d).1 h
  have hs := crs_sum a b c d
  have hg : (0 < crs c d a ∧ crs c d b < 0 ∧ crs a b c < 0 ∧ 0 < crs a b d) ∨ (crs c d a < 0 ∧ 0 < crs c d b ∧ 0 < crs a b c ∧ crs a b d < 0) := by omega
  exact ⟨apart_one _ _ _ _ _ _ _ _ X hs (crs_x a b c d) hg, apart_one _ _ _ _ _ _ _ _ X hs (crs_y a b c d) hg⟩
theorem meet_over {r s : Rc} {a b c d : Pt} (h : meetB a b c d = true) (ha : holdsB r a = true) (hb : holdsB r b = true) (hc : holdsB s c = true) (hd : holdsB s d = true) : r.x0 ≤ s.x1 ∧ s.x0 ≤ r.x1 ∧ r.y0 ≤ s.y1 ∧ s.y0 ≤ r.y1 := by
  rw [holds_iff] at ha hb hc hd
  unfold meetB at h
  simp only [Bool.or_eq_true, onB_iff] at h
  rcases h with (((h | h) | h) | h) | h
  · refine ⟨?_, ?_, ?_, ?_⟩ <;> refine Decidable.byContradiction fun hn => ?_
    · exact (cross_apart h r.x0).1.2 ⟨by omega, by omega, by omega, by omega⟩
    · exact (cross_apart h s.x0).1.1 ⟨by omega, by omega, by omega, by omega⟩
    · exact (cross_apart h r.y0).2.2 ⟨by omega, by omega, by omega, by omega⟩
    · exact (cross_apart h s.y0).2.1 ⟨by omega, by omega, by omega, by omega⟩
  · omega
  · omega
  · omega
  · omega
theorem on_holds {r : Rc} {a b p : Pt} (h : onB a b p = true) (ha : holdsB r a = true) (hb : holdsB r b = true) : holdsB r p = true := by
  rw [holds_iff] at ha hb ⊢
  rw [onB_iff] at h
  omega
theorem oddE_none {f : Pt × Pt → Bool} : ∀ {l : List (Pt × Pt)}, (∀ e ∈ l, f e = false) → oddE f l = false
  | [], _ => rfl
  | e :: r, hh => by
    simp only [oddE]
    rw [hh e (List.mem_cons_self ..), oddE_none (l := r) fun x hx => hh x (List.mem_cons_of_mem _ hx)]; rfl
theorem inside_holds {l : List Pt} {p : Pt} {r : Rc} (hr : ∀ q ∈ l, holdsB r q = true) (h : 0 < insE (ringE l) p (-1)) : holdsB r p = true := by
  have hv := inside_alike l p
  rw [insE_val] at h
  rw [insE_val, insV_val] at hv
  cases ho : onA (ringE l) p with
  | true => rw [ho, if_pos rfl] at h; omega
  | false =>
    rw [ho] at h hv
    rw [if_neg (by decide)] at h
    simp only [Bool.false_eq_true, if_false, Bool.false_xor] at hv
    have h1 : oddE (fun e => cHb e.1 e.2 p) (ringE l) = true := by
      cases hh : oddE (fun e => cHb e.1 e.2 p) (ringE l) with
      | true => rfl
      | false => rw [hh] at h; simp at h
    have h2 : oddE (fun e => cVb e.1 e.2 p) (ringE l) = true := by
      rw [← odd_alike l p ho]; exact h1
    rw [holds_iff]
    have hm : ∀ e ∈ ringE l, ((r.x0 ≤ e.1.1 ∧ e.1.1 ≤ r.x1) ∧ (r.y0 ≤ e.1.2 ∧ e.1.2 ≤ r.y1)) ∧ ((r.x0 ≤ e.2.1 ∧ e.2.1 ≤ r.x1) ∧ (r.y0 ≤ e.2.2 ∧ e.2.2 ≤ r.y1)) := fun e he => by
      obtain ⟨m1, m2⟩ := ring_mem he
      exact ⟨(holds_iff _ _).1 (hr _ m1), (holds_iff _ _).1 (hr _ m2)⟩
    refine ⟨⟨?_, ?_⟩, ⟨?_, ?_⟩⟩
    · refine Decidable.byContradiction fun hn => ?_
      rw [oddE_none fun e he => by
        have := hm e he
        unfold cVb
        rw [decide_eq_true (show p.1 < e.1.1 by omega), decide_eq_true (show p.1 < e.2.1 by omega)]; rfl] at h2
      cases h2
    · refine Decidable.byContradiction fun hn => ?_
      rw [oddE_none fun e he => by
        have := hm e he
        unfold cVb
        rw [decide_eq_false (show ¬ p.1 < e.1.1 by omega), decide_eq_false (show ¬ p.1 < e.2.1 by omega)]; rfl] at h2
      cases h2
    · refine Decidable.byContradiction fun hn => ?_
      rw [oddE_none fun e he => by
        have := hm e he
        unfold cHb
        rw [decide_eq_true (show p.2 < e.1.2 by omega), decide_eq_true (show p.2 < e.2.2 by omega)]; rfl] at h1
      cases h1
    · refine Decidable.byContradiction fun hn => ?_
      rw [oddE_none fun e he => by
        have := hm e he
        unfold cHb
        rw [decide_eq_false (show ¬ p.2 < e.1.2 by omega), decide_eq_false (show ¬ p.2 < e.2.2 by omega)]; rfl] at h1
      cases h1
theorem odd_some {k : Int} {p : Pt} : ∀ {ps : List (List Pt)} {o : Bool}, oddF k p ps o = true → o = true ∨ ∃ q ∈ ps, 0 < insideI q p
  | [], o, h => .inl h
  | l :: r, o, h => by
    rw [oddF] at h
    rcases odd_some h with h1 | ⟨q, hq, h1⟩
    · split at h1
      · rename_i hh; exact .inr ⟨l, List.mem_cons_self .., hh.2⟩
      · exact .inl h1
    · exact .inr ⟨q, List.mem_cons_of_mem _ hq, h1⟩
theorem insideI_pos {l : List Pt} {p : Pt} (h : 0 < insideI l p) : 0 < insE (ringE l) p (-1) := by
  unfold insideI at h
  split at h
  · omega
  · split at h
    · omega
    · split at h
      · omega
      · exact h
theorem inSh_holds {k : Int} {ps : List (List Pt)} {p : Pt} {r : Rc} (hr : ∀ q ∈ ps, ∀ a ∈ q, holdsB r a = true) (h : inSh k ps p = true) : holdsB r p = true := by
  unfold inSh at h
  split at h
  · rename_i hh
    obtain ⟨e, he, h1⟩ := List.any_eq_true.1 hh
    obtain ⟨q, hq, he⟩ := List.mem_flatMap.1 he
    obtain ⟨m1, m2⟩ := ring_mem (part_mem he)
    unfold OnF at h1
    rw [Bool.and_eq_true] at h1
    exact on_holds h1.2 (hr q hq _ m1) (hr q hq _ m2)
  · rcases odd_some h with h1 | ⟨q, hq, h1⟩
    · cases h1
    · exact inside_holds (hr q hq) (insideI_pos h1)
end Go.Proofs.YtfanccddokckcaaGreatDoor
namespace Go.Proofs.YtfanccddokckcaaGreatDoor
open Go.RowKit Go.TL

/- Right, as the document says it. -/
def docL (k : Int) : List (List Pt) → Nat → Option Nat
  | [], n => some n
  | l :: r, n =>
    if (decide (l.length = 0) || !l.all mayB) = true then none
    else if movesF l = true then
      (if k = 2 then (if (decide (l.length < 3) || endsE l) = true then none else docL k r (n + l.length + 1)) else docL k r (n + l.length))
    else none
def finD (k : Int) (m n : Nat) : Bool := !(decide (k < 0) || (decide (2 < k) || (decide (m = 0) || (decide (256 < n) || ((decide (k < 2) && !decide (m = 1)) || ((decide (k = 0) && !decide (n = 1)) || (decide (k = 1) && decide (n < 2))))))))
def simD (k : Int) (ps : List (List Pt)) : Bool := ps.all fun l => !decide (k = 2) || simpleE (partE 2 l)
def rightD (k : Int) (ps : List (List Pt)) : Bool := match docL k ps 0 with
  | some n => finD k ps.length n && simD k ps
  | none => false
theorem okP_eq (l : List Pt) : okP l = (!(decide (l.length = 0) || !l.all mayB) && movesF l) := by
  unfold okP
  have h : (l.any mayB && !l.any (fun q => !mayB q)) = !(decide (l.length = 0) || !l.all mayB) := by
    cases l with
    | nil => rfl
    | cons a r =>
      rw [List.all_eq_not_any_not]
      simp only [List.any_cons, List.length_cons]
      cases mayB a <;> simp
  rw [h]
theorem docL_le (k : Int) : ∀ (ps : List (List Pt)) (c n : Nat), docL k ps c = some n → c ≤ n
  | [], c, n, h => by cases h; exact Nat.le_refl _
  | l :: r, c, n, h => by
    rw [docL] at h
    split at h
    · cases h
    · split at h
      · split at h
        · split at h
          · cases h
          · have := docL_le k r _ _ h; omega
        · have := docL_le k r _ _ h; omega
      · cases h
theorem rightL_doc (k : Int) : ∀ (ps : List (List Pt)) (c : Nat), rightL k ps c = match docL k ps c with
    | some n => if k = 2 then (if (ps = [] ∨ n ≤ 256) ∧ simD k ps = true then some n else none) else some n
    | none => none
  | [], c => by
    by_cases hk : k = 2 <;> simp [rightL, docL, hk, simD]
  | l :: r, c => by
    rw [rightL, docL, okP_eq]
    cases h1 : (decide (l.length = 0) || !l.all mayB) with
    | true => simp
    | false =>
      rw [if_neg (by decide : ¬ false = true)]
      cases h2 : movesF l with
      | false => simp
      | true =>
        rw [if_pos rfl, if_pos (show (!false && true) = true from rfl)]
        by_cases hk : k = 2
        · subst hk
          rw [if_pos rfl, if_pos rfl]
          unfold okR
          cases h3 : (decide (l.length < 3) || endsE l) with
          | true =>
            have : (((decide (3 ≤ l.length) && !endsE l) && decide (c + l.length + 1 ≤ 256)) && simpleE (partE 2 l)) = false := by
              rw [Bool.or_eq_true, decide_eq_true_eq] at h3
              rcases h3 with h3 | h3
              · rw [decide_eq_false (by omega)]; rfl
              · rw [h3]; simp
            rw [this]; simp
          | false =>
            rw [Bool.or_eq_false_iff, decide_eq_false_iff_not] at h3
            rw [decide_eq_true (show 3 ≤ l.length by omega), h3.2, if_neg (by decide : ¬ false = true), rightL_doc 2 r]
            cases h4 : docL 2 r (c + l.length + 1) with
            | none => simp
            | some n =>
              have hle := docL_le 2 r _ _ h4
              dsimp only
              rw [if_pos rfl, if_pos rfl]
              have hs : simD 2 (l :: r) = (simpleE (partE 2 l) && simD 2 r) := by unfold simD; rw [List.all_cons]; rfl
              rw [hs]
              by_cases hc : n ≤ 256
              · rw [decide_eq_true (show c + l.length + 1 ≤ 256 by omega)]
                cases simpleE (partE 2 l) with
                | false => simp
                | true => simp [hc]
              · cases r with
                | nil =>
                  rw [docL] at h4; cases h4
                  rw [decide_eq_false hc]; simp [hc]
                | cons a r => simp [hc]
        · rw [if_neg hk, if_neg hk, rightL_doc k r]
          cases docL k r (c + l.length) with
          | none => rfl
          | some n => simp [hk]
theorem simD_not {k : Int} (hk : k ≠ 2) (ps : List (List Pt)) : simD k ps = true := by
  unfold simD; rw [decide_eq_false hk]; simp
theorem rightD_eq (k : Int) (ps : List (List Pt)) : rightD k ps = rightB k ps := by
  unfold rightD rightB
  rw [rightL_doc]
  cases h : docL k ps 0 with
  | none => rfl
  | some n =>
    dsimp only
    by_cases hk : k = 2
    · subst hk
      rw [if_pos rfl]
      cases ps with
      | nil => rw [docL] at h; cases h; rfl
      | cons a r =>
        unfold finD finR
        by_cases hc : n ≤ 256
        · cases simD 2 (a :: r) with
          | true => simp [hc, Nat.not_lt.2 hc]
          | false => simp
        · simp [hc, Nat.lt_of_not_le hc]
    · rw [if_neg hk]
      dsimp only
      rw [simD_not hk, Bool.and_true]
      unfold finD finR
      by_cases h0 : k = 0
      · subst h0
        by_cases h1 : ps.length = 1 <;> by_cases h2 : n = 1 <;> simp [h1, h2]
      · by_cases h1 : k = 1
        · subst h1
          by_cases h2 : ps.length = 1 <;> by_cases h3 : n < 2 <;> by_cases h4 : 256 < n <;> simp [h2, h3, h4] <;> omega
        · by_cases h2 : k < 0
          · simp [h0, h1, hk, h2]
          · simp [h0, h1, hk, h2]; omega
end Go.Proofs.YtfanccddokckcaaGreatDoor
namespace Go.Proofs.YtfanccddokckcaaGreatDoor
open Go.RowKit Go.TL

/- Box, Meet, Within as the document says them. -/
structure RtP (k : Int) (ps : List (List Pt)) : Prop where
  ne : ps ≠ []
  nep : ∀ q ∈ ps, q ≠ []
  may : ∀ q ∈ ps, q.all mayB = true
  line : k = 1 → ∀ q ∈ ps, 2 ≤ q.length
  kind : k = 0 ∨ k = 1 ∨ k = 2
theorem RtP.mayq {k : Int} {ps : List (List Pt)} (h : RtP k ps) {q : List Pt} (hq : q ∈ ps) {p : Pt} (hp : p ∈ q) : mayB p = true := List.all_eq_true.1 (h.may q hq) p hp
theorem docL_props (k : Int) : ∀ (ps : List (List Pt)) (c n : Nat), docL k ps c = some n → (∀ q ∈ ps, q ≠ [] ∧ q.all mayB = true) ∧ (k ≠ 2 → n = c + ps.flatten.length)
  | [], c, n, h => by cases h; exact ⟨fun q hq => (List.not_mem_nil hq).elim, fun _ => rfl⟩
  | l :: r, c, n, h => by
    rw [docL] at h
    split at h
    · cases h
    · rename_i h1
      have h1 : (decide (l.length = 0) || !l.all mayB) = false := Bool.eq_false_iff.2 h1
      rw [Bool.or_eq_false_iff, decide_eq_false_iff_not] at h1
      have hl : l ≠ [] ∧ l.all mayB = true := ⟨fun hh => h1.1 (by rw [hh]; rfl), by
        cases ha : l.all mayB with
        | true => rfl
        | false => rw [ha] at h1; cases h1.2⟩
      split at h
      · split at h
        · split at h
          · cases h
          · rename_i hk _
            obtain ⟨h2, _⟩ := docL_props k r _ _ h
            refine ⟨fun q hq => ?_, fun hn => absurd hk hn⟩
            rcases List.mem_cons.1 hq with rfl | hq
            · exact hl
            · exact h2 q hq
        · obtain ⟨h2, h3⟩ := docL_props k r _ _ h
          refine ⟨fun q hq => ?_, fun hn => ?_⟩
          · rcases List.mem_cons.1 hq with rfl | hq
            · exact hl
            · exact h2 q hq
          · have := h3 hn
            rw [List.flatten_cons, List.length_append]; omega
      · cases h
theorem rtP_of {k : Int} {ps : List (List Pt)} (h : rightB k ps = true) : RtP k ps := by
  rw [← rightD_eq] at h
  unfold rightD at h
  cases hd : docL k ps 0 with
  | none => rw [hd] at h; cases h
  | some n =>
    rw [hd] at h
    dsimp only at h
    rw [Bool.and_eq_true] at h
    obtain ⟨h1, h2⟩ := docL_props k ps 0 n hd
    have hf := h.1
    unfold finD at hf
    simp only [Bool.not_eq_true', Bool.or_eq_false_iff, decide_eq_false_iff_not, Bool.and_eq_false_imp, decide_eq_true_eq, Bool.not_eq_false'] at hf
    refine ⟨fun hh => ?_, fun q hq => (h1 q hq).1, fun q hq => (h1 q hq).2, fun hk q hq => ?_, by omega⟩
    · rw [hh] at hf; simp at hf
    · have hl := hf.2.2.2.2.1 (by omega)
      have hn := hf.2.2.2.2.2.2 hk
      have hc := h2 (by omega)
      match ps, hl, hq with
      | [a], _, hq =>
        rw [List.mem_singleton] at hq
        subst hq
        simp at hc
        omega
theorem head_mem {k : Int} {ps : List (List Pt)} (h : RtP k ps) : ∃ q ∈ ps, headS ps ∈ q := by
  cases ps with
  | nil => exact absurd rfl h.ne
  | cons q r =>
    cases q with
    | nil => exact absurd rfl (h.nep [] (List.mem_cons_self ..))
    | cons p l => exact ⟨p :: l, List.mem_cons_self .., List.mem_cons_self ..⟩
theorem ring_len (l : List Pt) : (ringE l).length = l.length := by unfold ringE; simp; omega
theorem ring_get {l : List Pt} {i : Nat} {p : Pt} (h : l[i]? = some p) : ∃ b, (ringE l)[i]? = some (p, b) ∧ (i + 1 < l.length → l[i + 1]? = some b) := by
  have hi : i < l.length := (List.getElem?_eq_some_iff.1 h).1
  have h2 : i < (ringE l).length := by rw [ring_len]; exact hi
  obtain ⟨⟨a, b⟩, he⟩ : ∃ e, (ringE l)[i]? = some e := ⟨_, List.getElem?_eq_getElem h2⟩
  have h3 := he
  unfold ringE at h3
  obtain ⟨h4, h5⟩ := List.getElem?_zip_eq_some.1 h3
  rw [h4] at h; cases h
  refine ⟨b, he, fun hl => ?_⟩
  rw [List.getElem?_append_left (by simp; omega), List.getElem?_drop, Nat.add_comm] at h5
  exact h5
theorem end_of {k : Int} {q : List Pt} (hl : k = 1 → 2 ≤ q.length) {p : Pt} (hp : p ∈ q) : ∃ e ∈ partE k q, e.1 = p ∨ e.2 = p := by
  obtain ⟨i, hi⟩ := List.getElem?_of_mem hp
  have hlt : i < q.length := (List.getElem?_eq_some_iff.1 hi).1
  unfold partE
  by_cases hk : k = 1
  · rw [if_pos hk]
    have h2 := hl hk
    by_cases hh : i + 1 < q.length
    · obtain ⟨b, he, _⟩ := ring_get hi
      exact ⟨_, List.mem_of_getElem? (i := i) (by rw [List.getElem?_take_of_lt (by omega)]; exact he), .inl rfl⟩
    · obtain ⟨p0, h0⟩ : ∃ p0, q[i - 1]? = some p0 := ⟨_, List.getElem?_eq_getElem (show i - 1 < q.length by omega)⟩
      obtain ⟨b, he, hb⟩ := ring_get h0
      have hb2 := hb (by omega)
      rw [show i - 1 + 1 = i by omega, hi] at hb2
      cases hb2
      exact ⟨_, List.mem_of_getElem? (i := i - 1) (by rw [List.getElem?_take_of_lt (by omega)]; exact he), .inr rfl⟩
  · rw [if_neg hk]
    obtain ⟨b, he, _⟩ := ring_get hi
    exact ⟨_, List.mem_of_getElem? he, .inl rfl⟩
theorem box_of {k : Int} {ps : List (List Pt)} (h : rightB k ps = true) : boxX k ps = bdL ps.flatten := by unfold boxX; rw [h, if_pos rfl]
theorem box_holds {k : Int} {ps : List (List Pt)} (h : rightB k ps = true) {q : List Pt} (hq : q ∈ ps) {p : Pt} (hp : p ∈ q) : holdsB (boxX k ps) p = true := by
  rw [box_of h]
  exact bd_holds (List.mem_flatten.2 ⟨q, hq, hp⟩)
theorem mayB_iff' {p : Pt} : mayB p = true ↔ (-1800000000 ≤ p.1 ∧ p.1 ≤ 1800000000) ∧ (-900000000 ≤ p.2 ∧ p.2 ≤ 900000000) := by
  unfold mayB inB; simp
theorem box_may {k : Int} {ps : List (List Pt)} (h : rightB k ps = true) : mayR (boxX k ps) = true := by
  have hp := rtP_of h
  have hne : ps.flatten ≠ [] := by
    obtain ⟨q, hq, hh⟩ := head_mem hp
    exact List.ne_nil_of_mem (List.mem_flatten.2 ⟨q, hq, hh⟩)
  have hm : ∀ p ∈ ps.flatten, mayB p = true := fun p hp' => by
    obtain ⟨q, hq, hh⟩ := List.mem_flatten.1 hp'
    exact hp.mayq hq hh
  rw [box_of h]
  generalize ps.flatten = l at *
  obtain ⟨a0, h0⟩ : ∃ a, a ∈ l := List.exists_mem_of_ne_nil l hne
  have hb := fun a b c d => bdL_iff hne a b c d
  obtain ⟨q0, hq0, e0⟩ := (hb (bdL l).x0 0 0 0).1.1 (Int.le_refl _)
  obtain ⟨q1, hq1, e1⟩ := (hb 0 (bdL l).y0 0 0).2.1.1 (Int.le_refl _)
  obtain ⟨q2, hq2, e2⟩ := (hb 0 0 (bdL l).x1 0).2.2.1.1 (Int.le_refl _)
  obtain ⟨q3, hq3, e3⟩ := (hb 0 0 0 (bdL l).y1).2.2.2.1 (Int.le_refl _)
  have k0 := (holds_iff _ _).1 (bd_holds h0)
  have b0 := (holds_iff _ _).1 (bd_holds hq0); have b1 := (holds_iff _ _).1 (bd_holds hq1); have b2 := (holds_iff _ _).1 (bd_holds hq2); have b3 := (holds_iff _ _).1 (bd_holds hq3)
  have m0 := mayB_iff'.1 (hm _ hq0); have m1 := mayB_iff'.1 (hm _ hq1); have m2 := mayB_iff'.1 (hm _ hq2); have m3 := mayB_iff'.1 (hm _ hq3)
  have c0 : mayB ((bdL l).x0, (bdL l).y0) = true := mayB_iff'.2 (by dsimp only; omega)
  have c1 : mayB ((bdL l).x1, (bdL l).y1) = true := mayB_iff'.2 (by dsimp only; omega)
  unfold mayR
  simp only [List.all_cons, List.all_nil, Bool.and_true, c0, c1, Bool.true_and, Bool.and_eq_true, decide_eq_true_eq]
  omega
def meetD (k : Int) (ps : List (List Pt)) (m : Int) (ts : List (List Pt)) : Bool :=
  (anyE meetB (allE k ps) (allE m ts) || inD m ts (headS ps)) || inD k ps (headS ts)
theorem over_of {k m : Int} {ps ts : List (List Pt)} (h1 : rightB k ps = true) (h2 : rightB m ts = true) (h : (boxX k ps).x0 ≤ (boxX m ts).x1 ∧ (boxX m ts).x0 ≤ (boxX k ps).x1 ∧ (boxX k ps).y0 ≤ (boxX m ts).y1 ∧ (boxX m ts).y0 ≤ (boxX k ps).y1) : overB (boxX k ps) (boxX m ts) = true := by
  unfold overB
  rw [box_may h1, box_may h2]
  simp [h.1, h.2.1, h.2.2.1, h.2.2.2]
theorem holds_over {r s : Rc} {p : Pt} (h1 : holdsB r p = true) (h2 : holdsB s p = true) : r.x0 ≤ s.x1 ∧ s.x0 ≤ r.x1 ∧ r.y0 ≤ s.y1 ∧ s.y0 ≤ r.y1 := by
  rw [holds_iff] at h1 h2; omega
theorem meet_boxes {k m : Int} {ps ts : List (List Pt)} (h1 : rightB k ps = true) (h2 : rightB m ts = true) (h : ((anyE MeetF (allE k ps) (allE m ts) || inSh m ts (headS ps)) || inSh k ps (headS ts)) = true) : overB (boxX k ps) (boxX m ts) = true := by
  refine over_of h1 h2 ?_
  have p1 := rtP_of h1; have p2 := rtP_of h2
  obtain ⟨q1, hq1, hh1⟩ := head_mem p1
  obtain ⟨q2, hq2, hh2⟩ := head_mem p2
  rw [Bool.or_eq_true, Bool.or_eq_true] at h
  rcases h with (h | h) | h
  · unfold anyE at h
    obtain ⟨x, hx, h⟩ := List.any_eq_true.1 h
    obtain ⟨y, hy, h⟩ := List.any_eq_true.1 h
    obtain ⟨a, ha, hx⟩ := List.mem_flatMap.1 hx
    obtain ⟨b, hb, hy⟩ := List.mem_flatMap.1 hy
    obtain ⟨m1, m2⟩ := ring_mem (part_mem hx)
    obtain ⟨m3, m4⟩ := ring_mem (part_mem hy)
    unfold MeetF at h
    rw [Bool.and_eq_true] at h
    exact meet_over h.2 (box_holds h1 ha m1) (box_holds h1 ha m2) (box_holds h2 hb m3) (box_holds h2 hb m4)
  · exact holds_over (box_holds h1 hq1 hh1) (inSh_holds (fun q hq a ha => box_holds h2 hq ha) h)
  · exact holds_over (inSh_holds (fun q hq a ha => box_holds h1 hq ha) h) (box_holds h2 hq2 hh2)
theorem meetD_eq {k m : Int} {ps ts : List (List Pt)} (h1 : rightB k ps = true) (h2 : rightB m ts = true) : meetD k ps m ts = meetX k ps m ts := by
  have p1 := rtP_of h1; have p2 := rtP_of h2
  obtain ⟨q1, hq1, hh1⟩ := head_mem p1
  obtain ⟨q2, hq2, hh2⟩ := head_mem p2
  have e : meetD k ps m ts = ((anyE MeetF (allE k ps) (allE m ts) || inSh m ts (headS ps)) || inSh k ps (headS ts)) := by
    unfold meetD
    rw [inD_eq p2.may (p1.mayq hq1 hh1), inD_eq p1.may (p2.mayq hq2 hh2), anyE_cong (allE_may' p1.may) (allE_may' p2.may) fun a b c d ha hb hc hd => (MeetF_mayD ha hb hc hd).symm]
  unfold meetX
  rw [h1, h2, e]
  cases hx : ((anyE MeetF (allE k ps) (allE m ts) || inSh m ts (headS ps)) || inSh k ps (headS ts)) with
  | false => simp
  | true => rw [meet_boxes h1 h2 hx]; rfl
def wthE (m : Int) (ts : List (List Pt)) (e : Pt × Pt) : Bool :=
  ((!inD m ts e.1 || !inD m ts e.2) || (halfB e && !inD m ts (halfP e))) || (allE m ts).any fun y => crossB e.1 e.2 y.1 y.2
def withinD (k : Int) (ps : List (List Pt)) (m : Int) (ts : List (List Pt)) : Bool := decide (m = 2) && !(allE k ps).any (wthE m ts)
theorem half_may {e : Pt × Pt} (h1 : mayB e.1 = true) (h2 : mayB e.2 = true) (h : halfB e = true) : mayB (halfP e) = true := by
  rw [mayB_iff'] at h1 h2 ⊢
  unfold halfB at h
  rw [Bool.and_eq_true, decide_eq_true_eq, decide_eq_true_eq] at h
  unfold halfP
  have t : ∀ a : Int, a.tmod 2 = 0 → 2 * a.tdiv 2 = a := fun a ha => by
    have := Int.mul_tdiv_add_tmod a 2
    omega
  have t1 := t _ h.1; have t2 := t _ h.2
  dsimp only
  omega
theorem any_or {α : Type} (f h : α → Bool) : ∀ l : List α, l.any (fun x => f x || h x) = (l.any f || l.any h)
  | [] => rfl
  | e :: r => by
    rw [List.any_cons, List.any_cons, List.any_cons, any_or f h r]
    cases f e <;> cases h e <;> cases r.any f <;> cases r.any h <;> rfl
theorem out_ends {k m : Int} {ps ts : List (List Pt)} (h : RtP k ps) : (allE k ps).any (fun e => !inSh m ts e.1 || !inSh m ts e.2) = outP m ts ps := by
  rw [Bool.eq_iff_iff]
  unfold outP
  constructor
  · intro hh
    obtain ⟨e, he, h1⟩ := List.any_eq_true.1 hh
    obtain ⟨q, hq, he⟩ := List.mem_flatMap.1 he
    obtain ⟨m1, m2⟩ := ring_mem (part_mem he)
    refine List.any_eq_true.2 ⟨q, hq, List.any_eq_true.2 ?_⟩
    rw [Bool.or_eq_true] at h1
    rcases h1 with h1 | h1
    · exact ⟨_, m1, h1⟩
    · exact ⟨_, m2, h1⟩
  · intro hh
    obtain ⟨q, hq, h1⟩ := List.any_eq_true.1 hh
    obtain ⟨p, hp, h1⟩ := List.any_eq_true.1 h1
    obtain ⟨e, he, h2⟩ := end_of (k := k) (fun hk => h.line hk q hq) hp
    refine List.any_eq_true.2 ⟨e, List.mem_flatMap.2 ⟨q, hq, he⟩, ?_⟩
    rw [Bool.or_eq_true]
    rcases h2 with rfl | rfl
    · exact .inl h1
    · exact .inr h1
theorem withinD_eq {k m : Int} {ps ts : List (List Pt)} (h1 : rightB k ps = true) (h2 : rightB m ts = true) : withinD k ps m ts = withinX k ps m ts := by
  have p1 := rtP_of h1; have p2 := rtP_of h2
  have me := allE_may' (k := k) p1.may
  unfold withinD withinX
  rw [h1, h2, ← out_ends p1]
  have e : (allE k ps).any (wthE m ts) = (((allE k ps).any (fun e => !inSh m ts e.1 || !inSh m ts e.2) || outH m ts (allE k ps)) || anyE CrossF (allE k ps) (allE m ts)) := by
    have e1 : anyE CrossF (allE k ps) (allE m ts) = anyE crossB (allE k ps) (allE m ts) := anyE_cong me (allE_may' p2.may) fun a b c d ha hb hc hd => CrossF_mayD ha hb hc hd
    rw [e1]
    unfold outH anyE
    rw [← any_or, ← any_or]
    refine any_cong fun x hx => ?_
    unfold wthE
    have hx' := me x hx
    rw [inD_eq p2.may hx'.1, inD_eq p2.may hx'.2]
    cases hh : halfB x with
    | false => rfl
    | true => rw [inD_eq p2.may (half_may hx'.1 hx'.2 hh)]
  rw [e]
  generalize (allE k ps).any (fun e => !inSh m ts e.1 || !inSh m ts e.2) = A
  generalize outH m ts (allE k ps) = B
  generalize anyE CrossF (allE k ps) (allE m ts) = C
  cases decide (m = 2) <;> cases A <;> cases B <;> cases C <;> rfl
end Go.Proofs.YtfanccddokckcaaGreatDoor
