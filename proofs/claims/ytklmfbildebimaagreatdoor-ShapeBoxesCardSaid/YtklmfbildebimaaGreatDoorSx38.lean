/-
  A shape that is right: the document and the program say the same. Box, Meet, Within: the document and the program say the same. What is in a shape is in its box; meeting does not hang on which comes first.
-/
import Derived.Test.YtklmfbildebimaaGreatDoorSx37
import Derived.Test.YtklmfbildebimaaGreatDoorSx11
namespace Go.Proofs.YtklmfbildebimaaGreatDoor
open Go.RowKit Go.TL

/- Right, as the document says it. -/
def docL (k : Int) : List (List Pt) → Nat → Option Nat
  | [], n => some n
  | l :: r, n =>
    if (decide (l.length = 0) || !l.all mayB) = true then none
    else if movesF l = true then
      (if k = 2 then (if (decide (l.length < 3) || endsE l) = true then none else docL k r (n + l.length + 1)) else docL k r (n + l.length))
    else none
def finD (k : Int) (m n : Nat) : Bool := !(decide (k < 0) || (decide (2 < k) || (decide (m = 0) || (decide (256 < n) || ((decide (k < 2) && !decide (m = 1)) || ((decide (k = 0) && !decide (n = 1)) || (decide (k = 1) && decide (n < 2))))))))
def simD (k : Int) (ps : List (List Pt)) : Bool := ps.all fun l => !decide (k = 2) || simpleE (partE 2 l)
def rightD (k : Int) (ps : List (List Pt)) : Bool := match docL k ps 0 with
  | some n => finD k ps.length n && simD k ps
  | none => false
theorem okP_eq (l : List Pt) : okP l = (!(decide (l.length = 0) || !l.all mayB) && movesF l) := by
  unfold okP
  have h : (l.any mayB && !l.any (fun q => !mayB q)) = !(decide (l.length = 0) || !l.all mayB) := by
    cases l with
    | nil => rfl
    | cons a r =>
      rw [List.all_eq_not_any_not]
      simp only [List.any_cons, List.length_cons]
      cases mayB a <;> simp
  rw [h]
theorem docL_le (k : Int) : ∀ (ps : List (List Pt)) (c n : Nat), docL k ps c = some n → c ≤ n
  | [], c, n, h => by cases h; exact Nat.le_refl _
  | l :: r, c, n, h => by
    rw [docL] at h
    split at h
    · cases h
    · split at h
      · split at h
        · split at h
          · cases h
          · have := docL_le k r _ _ h; omega
        · have := docL_le k r _ _ h; omega
      · cases h
theorem rightL_doc (k : Int) : ∀ (ps : List (List Pt)) (c : Nat), rightL k ps c = match docL k ps c with
    | some n => if k = 2 then (if (ps = [] ∨ n ≤ 256) ∧ simD k ps = true then some n else none) else some n
    | none => none
  | [], c => by
    by_cases hk : k = 2 <;> simp [rightL, docL, hk, simD]
  | l :: r, c => by
    rw [rightL, docL, okP_eq]
    cases h1 : (decide (l.length = 0) || !l.all mayB) with
    | true => simp
    | false =>
      rw [if_neg (by decide : ¬ false = true)]
      cases h2 : movesF l with
      | false => simp
      | true =>
        rw [if_pos rfl, if_pos (show (!false && true) = true from rfl)]
        by_cases hk : k = 2
        · subst hk
          rw [if_pos rfl, if_pos rfl]
          unfold okR
          cases h3 : (decide (l.length < 3) || endsE l) with
          | true =>
            have : (((decide (3 ≤ l.length) && !endsE l) && decide (c + l.length + 1 ≤ 256)) && simpleE (partE 2 l)) = false := by
              rw [Bool.or_eq_true, decide_eq_true_eq] at h3
              rcases h3 with h3 | h3
              · rw [decide_eq_false (by omega)]; rfl
              · rw [h3]; simp
            rw [this]; simp
          | false =>
            rw [Bool.or_eq_false_iff, decide_eq_false_iff_not] at h3
            rw [decide_eq_true (show 3 ≤ l.length by omega), h3.2, if_neg (by decide : ¬ false = true), rightL_doc 2 r]
            cases h4 : docL 2 r (c + l.length + 1) with
            | none => simp
            | some n =>
              have hle := docL_le 2 r _ _ h4
              dsimp only
              rw [if_pos rfl, if_pos rfl]
              have hs : simD 2 (l :: r) = (simpleE (partE 2 l) && simD 2 r) := by unfold simD; rw [List.all_cons]; rfl
              rw [hs]
              by_cases hc : n ≤ 256
              · rw [decide_eq_true (show c + l.length + 1 ≤ 256 by omega)]
                cases simpleE (partE 2 l) with
                | false => simp
                | true => simp [hc]
              · cases r with
                | nil =>
                  rw [docL] at h4; cases h4
                  rw [decide_eq_false hc]; simp [hc]
                | cons a r => simp [hc]
        · rw [if_neg hk, if_neg hk, rightL_doc k r]
          cases docL k r (c + l.length) with
          | none => rfl
          | some n => simp [hk]
theorem simD_not {k : Int} (hk : k ≠ 2) (ps : List (List Pt)) : simD k ps = true := by
  unfold simD; rw [decide_eq_false hk]; simp
theorem rightD_eq (k : Int) (ps : List (List Pt)) : rightD k ps = rightB k ps := by
  unfold rightD rightB
  rw [rightL_doc]
  cases h : docL k ps 0 with
  | none => rfl
  | some n =>
    dsimp only
    by_cases hk : k = 2
    · subst hk
      rw [if_pos rfl]
      cases ps with
      | nil => rw [docL] at h; cases h; rfl
      | cons a r =>
        unfold finD finR
        by_cases hc : n ≤ 256
        · cases simD 2 (a :: r) with
          | true => simp [hc, Nat.not_lt.2 hc]
          | false => simp
        · simp [hc, Nat.lt_of_not_le hc]
    · rw [if_neg hk]
      dsimp only
      rw [simD_not hk, Bool.and_true]
      unfold finD finR
      by_cases h0 : k = 0
      · subst h0
        by_cases h1 : ps.length = 1 <;> by_cases h2 : n = 1 <;> simp [h1, h2]
      · by_cases h1 : k = 1
        · subst h1
          by_cases h2 : ps.length = 1 <;> by_cases h3 : n < 2 <;> by_cases h4 : 256 < n <;> simp [h2, h3, h4] <;> omega
        · by_cases h2 : k < 0
          · simp [h0, h1, hk, h2]
          · simp [h0, h1, hk, h2]; omega
end Go.Proofs.YtklmfbildebimaaGreatDoor
namespace Go.Proofs.YtklmfbildebimaaGreatDoor
open Go.RowKit Go.TL

/- Box, Meet, Within as the document says them. -/
structure RtP (k : Int) (ps : List (List Pt)) : Prop where
  ne : ps ≠ []
  nep : ∀ q ∈ ps, q ≠ []
  may : ∀ q ∈ ps, q.all mayB = true
  line : k = 1 → ∀ q ∈ ps, 2 ≤ q.length
  kind : k = 0 ∨ k = 1 ∨ k = 2
theorem RtP.mayq {k : Int} {ps : List (List Pt)} (h : RtP k ps) {q : List Pt} (hq : q ∈ ps) {p : Pt} (hp : p ∈ q) : mayB p = true := List.all_eq_true.1 (h.may q hq) p hp
theorem docL_props (k : Int) : ∀ (ps : List (List Pt)) (c n : Nat), docL k ps c = some n → (∀ q ∈ ps, q ≠ [] ∧ q.all mayB = true) ∧ (k ≠ 2 → n = c + ps.flatten.length)
  | [], c, n, h => by cases h; exact ⟨fun q hq => (List.not_mem_nil hq).elim, fun _ => rfl⟩
  | l :: r, c, n, h => by
    rw [docL] at h
    split at h
    · cases h
    · rename_i h1
      have h1 : (decide (l.length = 0) || !l.all mayB) = false := Bool.eq_false_iff.2 h1
      rw [Bool.or_eq_false_iff, decide_eq_false_iff_not] at h1
      have hl : l ≠ [] ∧ l.all mayB = true := ⟨fun hh => h1.1 (by rw [hh]; rfl), by
        cases ha : l.all mayB with
        | true => rfl
        | false => rw [ha] at h1; cases h1.2⟩
      split at h
      · split at h
        · split at h
          · cases h
          · rename_i hk _
            obtain ⟨h2, _⟩ := docL_props k r _ _ h
            refine ⟨fun q hq => ?_, fun hn => absurd hk hn⟩
            rcases List.mem_cons.1 hq with rfl | hq
            · exact hl
            · exact h2 q hq
        · obtain ⟨h2, h3⟩ := docL_props k r _ _ h
          refine ⟨fun q hq => ?_, fun hn => ?_⟩
          · rcases List.mem_cons.1 hq with rfl | hq
            · exact hl
            · exact h2 q hq
          · have := h3 hn
            rw [List.flatten_cons, List.length_append]; omega
      · cases h
theorem rtP_of {k : Int} {ps : List (List Pt)} (h : rightB k ps = true) : RtP k ps := by
  rw [← rightD_eq] at h
  unfold rightD at h
  cases hd : docL k ps 0 with
  | none => rw [hd] at h; cases h
  | some n =>
    rw [hd] at h
    dsimp only at h
    rw [Bool.and_eq_true] at h
    obtain ⟨h1, h2⟩ := docL_props k ps 0 n hd
    have hf := h.1
    unfold finD at hf
    simp only [Bool.not_eq_true', Bool.or_eq_false_iff, decide_eq_false_iff_not, Bool.and_eq_false_imp, decide_eq_true_eq, Bool.not_eq_false'] at hf
    refine ⟨fun hh => ?_, fun q hq => (h1 q hq).1, fun q hq => (h1 q hq).2, fun hk q hq => ?_, by omega⟩
    · rw [hh] at hf; simp at hf
    · have hl := hf.2.2.2.2.1 (by omega)
      have hn := hf.2.2.2.2.2.2 hk
      have hc := h2 (by omega)
      match ps, hl, hq with
      | [a], _, hq =>
        rw [List.mem_singleton] at hq
        subst hq
        simp at hc
        omega
theorem head_mem {k : Int} {ps : List (List Pt)} (h : RtP k ps) : ∃ q ∈ ps, headS ps ∈ q := by
  cases ps with
  | nil => exact absurd rfl h.ne
  | cons q r =>
    cases q with
    | nil => exact absurd rfl (h.nep [] (List.mem_cons_self ..))
    | cons p l => exact ⟨p :: l, List.mem_cons_self .., List.mem_cons_self ..⟩
theorem ring_len (l : List Pt) : (ringE l).length = l.length := by unfold ringE; simp; omega
theorem ring_get {l : List Pt} {i : Nat} {p : Pt} (h : l[i]? = some p) : ∃ b, (ringE l)[i]? = some (p, b) ∧ (i + 1 < l.length → l[i + 1]? = some b) := by
  have hi : i < l.length := (List.getElem?_eq_some_iff.1 h).1
  have h2 : i < (ringE l).length := by rw [ring_len]; exact hi
  obtain ⟨⟨a, b⟩, he⟩ : ∃ e, (ringE l)[i]? = some e := ⟨_, List.getElem?_eq_getElem h2⟩
  have h3 := he
  unfold ringE at h3
  obtain ⟨h4, h5⟩ := List.getElem?_zip_eq_some.1 h3
  rw [h4] at h; cases h
  refine ⟨b, he, fun hl => ?_⟩
  rw [List.getElem?_append_left (by simp; omega), List.getElem?_drop, Nat.add_comm] at h5
  exact h5
theorem end_of {k : Int} {q : List Pt} (hl : k = 1 → 2 ≤ q.length) {p : Pt} (hp : p ∈ q) : ∃ e ∈ partE k q, e.1 = p ∨ e.2 = p := by
  obtain ⟨i, hi⟩ := List.getElem?_of_mem hp
  have hlt : i < q.length := (List.getElem?_eq_some_iff.1 hi).1
  unfold partE
  by_cases hk : k = 1
  · rw [if_pos hk]
    have h2 := hl hk
    by_cases hh : i + 1 < q.length
    · obtain ⟨b, he, _⟩ := ring_get hi
      exact ⟨_, List.mem_of_getElem? (i := i) (by rw [List.getElem?_take_of_lt (by omega)]; exact he), .inl rfl⟩
    · obtain ⟨p0, h0⟩ : ∃ p0, q[i - 1]? = some p0 := ⟨_, List.getElem?_eq_getElem (show i - 1 < q.length by omega)⟩
      obtain ⟨b, he, hb⟩ := ring_get h0
      have hb2 := hb (by omega)
      rw [show i - 1 + 1 = i by omega, hi] at hb2
      cases hb2
      exact ⟨_, List.mem_of_getElem? (i := i - 1) (by rw [List.getElem?_take_of_lt (by omega)]; exact he), .inr rfl⟩
  · rw [if_neg hk]
    obtain ⟨b, he, _⟩ := ring_get hi
    exact ⟨_, List.mem_of_getElem? he, .inl rfl⟩
theorem box_of {k : Int} {ps : List (List Pt)} (h : rightB k ps = true) : boxX k ps = bdL ps.flatten := by unfold boxX; rw [h, if_pos rfl]
theorem box_holds {k : Int} {ps : List (List Pt)} (h : rightB k ps = true) {q : List Pt} (hq : q ∈ ps) {p : Pt} (hp : p ∈ q) : holdsB (boxX k ps) p = true := by
  rw [box_of h]
  exact bd_holds (List.mem_flatten.2 ⟨q, hq, hp⟩)
theorem mayB_iff' {p : Pt} : mayB p = true ↔ (-1800000000 ≤ p.1 ∧ p.1 ≤ 1800000000) ∧ (-900000000 ≤ p.2 ∧ p.2 ≤ 900000000) := by
  unfold mayB inB; simp
theorem box_may {k : Int} {ps : List (List Pt)} (h : rightB k ps = true) : mayR (boxX k ps) = true := by
  have hp := rtP_of h
  have hne : ps.flatten ≠ [] := by
    obtain ⟨q, hq, hh⟩ := head_mem hp
    exact List.ne_nil_of_mem (List.mem_flatten.2 ⟨q, hq, hh⟩)
  have hm : ∀ p ∈ ps.flatten, mayB p = true := fun p hp' => by
    obtain ⟨q, hq, hh⟩ := List.mem_flatten.1 hp'
    exact hp.mayq hq hh
  rw [box_of h]
  generalize ps.flatten = l at *
  obtain ⟨a0, h0⟩ : ∃ a, a ∈ l := List.exists_mem_of_ne_nil l hne
  have hb := fun a b c d => bdL_iff hne a b c d
  obtain ⟨q0, hq0, e0⟩ := (hb (bdL l).x0 0 0 0).1.1 (Int.le_refl _)
  obtain ⟨q1, hq1, e1⟩ := (hb 0 (bdL l).y0 0 0).2.1.1 (Int.le_refl _)
  obtain ⟨q2, hq2, e2⟩ := (hb 0 0 (bdL l).x1 0).2.2.1.1 (Int.le_refl _)
  obtain ⟨q3, hq3, e3⟩ := (hb 0 0 0 (bdL l).y1).2.2.2.1 (Int.le_refl _)
  have k0 := (holds_iff _ _).1 (bd_holds h0)
  have b0 := (holds_iff _ _).1 (bd_holds hq0); have b1 := (holds_iff _ _).1 (bd_holds hq1); have b2 := (holds_iff _ _).1 (bd_holds hq2); have b3 := (holds_iff _ _).1 (bd_holds hq3)
  have m0 := mayB_iff'.1 (hm _ hq0); have m1 := mayB_iff'.1 (hm _ hq1); have m2 := mayB_iff'.1 (hm _ hq2); have m3 := mayB_iff'.1 (hm _ hq3)
  have c0 : mayB ((bdL l).x0, (bdL l).y0) = true := mayB_iff'.2 (by dsimp only; omega)
  have c1 : mayB ((bdL l).x1, (bdL l).y1) = true := mayB_iff'.2 (by dsimp only; omega)
  unfold mayR
  simp only [List.all_cons, List.all_nil, Bool.and_true, c0, c1, Bool.true_and, Bool.and_eq_true, decide_eq_true_eq]
  omega
theorem over_of {k m : Int} {ps ts : List (List Pt)} (h1 : rightB k ps = true) (h2 : rightB m ts = true) (h : (boxX k ps).x0 ≤ (boxX m ts).x1 ∧ (boxX m ts).x0 ≤ (boxX k ps).x1 ∧ (boxX k ps).y0 ≤ (boxX m ts).y1 ∧ (boxX m ts).y0 ≤ (boxX k ps).y1) : overB (boxX k ps) (boxX m ts) = true := by
  unfold overB
  rw [box_may h1, box_may h2]
  simp [h.1, h.2.1, h.2.2.1, h.2.2.2]
theorem holds_over {r s : Rc} {p : Pt} (h1 : holdsB r p = true) (h2 : holdsB s p = true) : r.x0 ≤ s.x1 ∧ s.x0 ≤ r.x1 ∧ r.y0 ≤ s.y1 ∧ s.y0 ≤ r.y1 := by
  rw [holds_iff] at h1 h2; omega
theorem meet_boxes {k m : Int} {ps ts : List (List Pt)} (h1 : rightB k ps = true) (h2 : rightB m ts = true) (h : ((anyE MeetF (allE k ps) (allE m ts) || inSh m ts (headS ps)) || inSh k ps (headS ts)) = true) : overB (boxX k ps) (boxX m ts) = true := by
  refine over_of h1 h2 ?_
  have p1 := rtP_of h1; have p2 := rtP_of h2
  obtain ⟨q1, hq1, hh1⟩ := head_mem p1
  obtain ⟨q2, hq2, hh2⟩ := head_mem p2
  rw [Bool.or_eq_true, Bool.or_eq_true] at h
  rcases h with (h | h) | h
  · unfold anyE at h
    obtain ⟨x, hx, h⟩ := List.any_eq_true.1 h
    obtain ⟨y, hy, h⟩ := List.any_eq_true.1 h
    obtain ⟨a, ha, hx⟩ := List.mem_flatMap.1 hx
    obtain ⟨b, hb, hy⟩ := List.mem_flatMap.1 hy
    obtain ⟨m1, m2⟩ := ring_mem (part_mem hx)
    obtain ⟨m3, m4⟩ := ring_mem (part_mem hy)
    unfold MeetF at h
    rw [Bool.and_eq_true] at h
    exact meet_over h.2 (box_holds h1 ha m1) (box_holds h1 ha m2) (box_holds h2 hb m3) (box_holds h2 hb m4)
  · exact holds_over (box_holds h1 hq1 hh1) (inSh_holds (fun q hq a ha => box_holds h2 hq ha) h)
  · exact holds_over (inSh_holds (fun q hq a ha => box_holds h1 hq ha) h) (box_holds h2 hq2 hh2)
end Go.Proofs.YtklmfbildebimaaGreatDoor
namespace Go.Proofs.YtklmfbildebimaaGreatDoor
open Go.RowKit Go.TL

/- What is in a shape is in its box; meeting does not hang on which comes first. -/
theorem in_box {k : Int} {ps : List (List Pt)} {p : Pt} (h : rightB k ps = true) (hp : mayB p = true) (hi : inSh k ps p = true) : HoldsB (boxX k ps) p = true := by
  unfold HoldsB
  rw [box_may h, hp, inSh_holds (fun q hq a ha => box_holds h hq ha) hi]; rfl
theorem meetB_swap (a b c d : Pt) : meetB a b c d = meetB c d a b := by
  unfold meetB
  have : crossB a b c d = crossB c d a b := by unfold crossB; rw [Bool.and_comm]
  rw [this]
  cases crossB c d a b <;> cases onB a b c <;> cases onB a b d <;> cases onB c d a <;> cases onB c d b <;> rfl
theorem MeetF_swap (a b c d : Pt) : MeetF a b c d = MeetF c d a b := by
  unfold MeetF
  rw [meetB_swap]
  simp only [List.all_cons, List.all_nil, Bool.and_true]
  cases mayB a <;> cases mayB b <;> cases mayB c <;> cases mayB d <;> rfl
theorem any_swap {α β : Type} (P : α → β → Bool) (l : List α) (r : List β) : (l.any fun x => r.any fun y => P x y) = r.any fun y => l.any fun x => P x y := by
  rw [Bool.eq_iff_iff]
  simp only [List.any_eq_true]
  constructor
  · rintro ⟨x, hx, y, hy, h⟩; exact ⟨y, hy, x, hx, h⟩
  · rintro ⟨x, hx, y, hy, h⟩; exact ⟨y, hy, x, hx, h⟩
theorem anyE_swap (es fs : List (Pt × Pt)) : anyE MeetF es fs = anyE MeetF fs es := by
  unfold anyE
  rw [any_swap]
  refine any_cong fun x _ => any_cong fun y _ => MeetF_swap _ _ _ _
theorem overB_swap (r s : Rc) : overB r s = overB s r := by
  unfold overB
  rw [Bool.eq_iff_iff]
  simp only [Bool.and_eq_true, decide_eq_true_eq]
  constructor <;> (rintro ⟨⟨⟨⟨⟨h1, h2⟩, h3⟩, h4⟩, h5⟩, h6⟩; exact ⟨⟨⟨⟨⟨h2, h1⟩, h4⟩, h3⟩, h6⟩, h5⟩)
theorem meetX_swap (k m : Int) (ps ts : List (List Pt)) : meetX k ps m ts = meetX m ts k ps := by
  unfold meetX
  rw [overB_swap, anyE_swap]
  cases rightB k ps <;> cases rightB m ts <;> cases overB (boxX m ts) (boxX k ps) <;> cases anyE MeetF (allE m ts) (allE k ps) <;> cases inSh m ts (headS ps) <;> cases inSh k ps (headS ts) <;> rfl
theorem meetX_over {k m : Int} {ps ts : List (List Pt)} (h : meetX k ps m ts = true) : overB (boxX k ps) (boxX m ts) = true := by
  unfold meetX at h
  rw [Bool.and_eq_true, Bool.and_eq_true] at h
  exact h.1.2
theorem on_self (a b : Pt) : onB a b a = true ∧ onB a b b = true := by
  rw [onB_iff, onB_iff]
  refine ⟨⟨by unfold crs; grind, by omega, by omega⟩, ⟨by unfold crs; grind, by omega, by omega⟩⟩
theorem inSh_place {k : Int} {ps : List (List Pt)} (hp : RtP k ps) {q : List Pt} (hq : q ∈ ps) {p : Pt} (hh : p ∈ q) : inSh k ps p = true := by
  obtain ⟨e, he, h2⟩ := end_of (k := k) (fun hk => hp.line hk q hq) hh
  have hm : e ∈ allE k ps := List.mem_flatMap.2 ⟨q, hq, he⟩
  have me := allE_may' (k := k) hp.may e hm
  have ho : OnF e.1 e.2 p = true := by
    rw [OnF_mayD me.1 me.2 (hp.mayq hq hh)]
    rcases h2 with rfl | rfl
    · exact (on_self _ _).1
    · exact (on_self _ _).2
  unfold inSh
  rw [if_pos (List.any_eq_true.2 ⟨e, hm, ho⟩)]
theorem meet_of_in {k m : Int} {ps ts : List (List Pt)} (h1 : rightB k ps = true) (h2 : rightB m ts = true) (h : inSh m ts (headS ps) = true) : meetX k ps m ts = true := by
  have hx : ((anyE MeetF (allE k ps) (allE m ts) || inSh m ts (headS ps)) || inSh k ps (headS ts)) = true := by rw [h]; simp
  unfold meetX
  rw [h1, h2, meet_boxes h1 h2 hx, hx]; rfl
theorem meet_self {k : Int} {ps : List (List Pt)} (h : rightB k ps = true) : meetX k ps k ps = true := by
  obtain ⟨q, hq, hh⟩ := head_mem (rtP_of h)
  exact meet_of_in h h (inSh_place (rtP_of h) hq hh)
theorem within_meet {k m : Int} {ps ts : List (List Pt)} (h1 : rightB k ps = true) (h2 : rightB m ts = true) (h : withinX k ps m ts = true) : meetX k ps m ts = true ∧ JoinR (boxX k ps) (boxX m ts) = boxX m ts := by
  have p1 := rtP_of h1
  unfold withinX at h
  simp only [Bool.and_eq_true, Bool.not_eq_true'] at h
  have hout := h.2.1.1
  have hin : ∀ q ∈ ps, ∀ p ∈ q, inSh m ts p = true := fun q hq p hp => by
    unfold outP at hout
    have h3 := List.any_eq_false.1 hout q hq
    have h4 := List.any_eq_false.1 (Bool.eq_false_iff.2 h3) p hp
    cases hh : inSh m ts p with
    | true => rfl
    | false => rw [hh] at h4; exact absurd rfl h4
  obtain ⟨q, hq, hh⟩ := head_mem p1
  refine ⟨meet_of_in h1 h2 (hin q hq _ hh), ?_⟩
  unfold JoinR
  rw [if_pos ⟨box_may h1, box_may h2⟩]
  have hne : ps.flatten ≠ [] := List.ne_nil_of_mem (List.mem_flatten.2 ⟨q, hq, hh⟩)
  have hb : ∀ p ∈ ps.flatten, holdsB (boxX m ts) p = true := fun p hp => by
    obtain ⟨q, hq, hh⟩ := List.mem_flatten.1 hp
    exact inSh_holds (fun q hq a ha => box_holds h2 hq ha) (hin q hq p hh)
  rw [box_of h1]
  generalize boxX m ts = s at *
  have hx := fun a b c d => bdL_iff hne a b c d
  obtain ⟨q0, hq0, e0⟩ := (hx (bdL ps.flatten).x0 0 0 0).1.1 (Int.le_refl _)
  obtain ⟨q1, hq1, e1⟩ := (hx 0 (bdL ps.flatten).y0 0 0).2.1.1 (Int.le_refl _)
  obtain ⟨q2, hq2, e2⟩ := (hx 0 0 (bdL ps.flatten).x1 0).2.2.1.1 (Int.le_refl _)
  obtain ⟨q3, hq3, e3⟩ := (hx 0 0 0 (bdL ps.flatten).y1).2.2.2.1 (Int.le_refl _)
  have b0 := (holds_iff _ _).1 (hb _ hq0); have b1 := (holds_iff _ _).1 (hb _ hq1); have b2 := (holds_iff _ _).1 (hb _ hq2); have b3 := (holds_iff _ _).1 (hb _ hq3)
  generalize bdL ps.flatten = r at *
  cases r; cases s
  unfold joinR
  dsimp only at *
  congr 1 <;> (split <;> omega)
end Go.Proofs.YtklmfbildebimaaGreatDoor
