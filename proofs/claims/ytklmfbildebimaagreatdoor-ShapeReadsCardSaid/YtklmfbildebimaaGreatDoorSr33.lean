/-
  The walks of shape's In, Of. What is right of a shape that is right; the walk of shape's Box. The walk of shape's Meet. The walks of an edge's halfway, of what Within asks of points. The walk of shape's Within. A rect's polygon holds just what the rect holds. Both rays that go out of a point say the same of a ring. Points in shapes, boxes: what the document says of them. A shape that is right: the document and the program say the same. Box, Meet, Within: the document and the program say the same.
-/
import Derived.Test.YtklmfbildebimaaGreatDoorSr2
import Derived.Test.YtklmfbildebimaaGreatDoorSr32
import Derived.Lib.AppendZeros
namespace Go.Proofs.YtklmfbildebimaaGreatDoor
open Go.RowKit Go.TL
set_option maxRecDepth 100000

def inX (k : Int) (ps : List (List Pt)) (p : Pt) : Bool := (rightB k ps && mayB p) && inSh k ps p
theorem sIn_gives (k : Int) (ps : List (List Pt)) (v : Value) (p : Pt) (g : Gh) (L : List Ent) (hS : IsParts g v ps) (hO : ShOk ps) : Gives Tryz.prog 15 #[shV k v, pt p] g L (.bool (inX k ps p)) := by
  have RI := fun L => sright_gives k ps v g L hS hO
  have SI := fun L => sin_gives k ps v p g L hS hO
  have MY := fun L => May_gives g L p
  obtain ⟨av, cv, rfl⟩ : ∃ a c, v = .slice a ps.length c := by obtain ⟨_, h, _⟩ := hS; exact h.slice
  refine .of (Does.of2 Tryz.func15 rfl Tryz.ntmps15 rfl ?_)
  unfold inX
  clear hS hO
  cases h1 : rightB k ps with
  | false =>
    rw [h1] at RI
    repeat' (first
    | refine wkQ ?_
    | refine wkV ?_
    | ((with_reducible apply TL.gives_plain); (· kernel_rfl); (· rfl); (· exact RI _); (· rfl)) | ((with_reducible apply TW.gives_plain); (· kernel_rfl); (· rfl); (· exact RI _); (· rfl))
    | refine stS ?_ | (refine stB ?_; intro _) | (refine stC ?_; refine And.intro (fun _ => ?_) (fun _ => ?_)))
    refine TQ.endR1 (L' := L) Tryz.results15 rvA rfl (.refl _) ?_ selF
    exact ⟨rfl, rfl, rfl⟩
  | true =>
    rw [h1] at RI
    cases h2 : mayB p with
    | false =>
      rw [h2] at MY
      repeat' (first
    | refine wkQ ?_
    | refine wkV ?_
    | ((with_reducible apply TL.gives_plain); (· kernel_rfl); (· rfl); (· exact RI _); (· rfl)) | ((with_reducible apply TW.gives_plain); (· kernel_rfl); (· rfl); (· exact RI _); (· rfl))
    | ((with_reducible apply TL.gives_plain); (· kernel_rfl); (· rfl); (· exact MY _); (· rfl)) | ((with_reducible apply TW.gives_plain); (· kernel_rfl); (· rfl); (· exact MY _); (· rfl))
    | refine stS ?_ | (refine stB ?_; intro _) | (refine stC ?_; refine And.intro (fun _ => ?_) (fun _ => ?_)))
      refine TQ.endR1 (L' := L) Tryz.results15 rvA rfl (.refl _) ?_ selF
      exact ⟨rfl, rfl, rfl⟩
    | true =>
      rw [h2] at MY
      repeat' (first
    | refine wkQ ?_
    | refine wkV ?_
    | ((with_reducible apply TL.gives_plain); (· kernel_rfl); (· rfl); (· exact RI _); (· rfl)) | ((with_reducible apply TW.gives_plain); (· kernel_rfl); (· rfl); (· exact RI _); (· rfl))
    | ((with_reducible apply TL.gives_plain); (· kernel_rfl); (· rfl); (· exact MY _); (· rfl)) | ((with_reducible apply TW.gives_plain); (· kernel_rfl); (· rfl); (· exact MY _); (· rfl))
    | ((with_reducible apply TL.gives_plain); (· kernel_rfl); (· rfl); (· exact SI _); (· rfl)) | ((with_reducible apply TW.gives_plain); (· kernel_rfl); (· rfl); (· exact SI _); (· rfl))
    | refine stS ?_ | (refine stB ?_; intro _) | (refine stC ?_; refine And.intro (fun _ => ?_) (fun _ => ?_)))
      refine TQ.endR1 (L' := L) Tryz.results15 rvA rfl (.refl _) ?_ selF
      exact ⟨rfl, rfl, rfl⟩
def ofOk (r : Rc) : Bool := (mayR r && !decide (r.x0 = r.x1)) && !decide (r.y0 = r.y1)
abbrev rectL (r : Rc) : List Pt := [(r.x0, r.y0), (r.x1, r.y0), (r.x1, r.y1), (r.x0, r.y1)]
def OfR (r : Rc) (L : List Ent) : Ending → Gh → List Ent → Prop := fun e g' L1 => ∃ v, L1 = L ∧ (match ofOk r with
  | true => e = .returned (shV 2 v) ∧ IsParts g' v [rectL r]
  | false => e = .returned (shV 0 v) ∧ v = .slice none 0 0)
set_option maxHeartbeats 16000000 in
theorem sOf_does (r : Rc) (g : Gh) (L : List Ent) : Does Tryz.prog 29 #[rcV r] g L (OfR r L) := by
  refine Does.of1 Tryz.func29 rfl Tryz.ntmps29 rfl ?_
  have MR := fun L => MayRect_gives r g L
  unfold OfR ofOk
  cases h1 : mayR r with
  | false =>
    rw [h1] at MR
    repeat' (first
    | refine wkQ ?_
    | refine wkV ?_
    | ((with_reducible apply TL.gives_plain); (· kernel_rfl); (· rfl); (· exact MR _); (· rfl)) | ((with_reducible apply TW.gives_plain); (· kernel_rfl); (· rfl); (· exact MR _); (· rfl))
    | refine stS ?_ | (refine stB ?_; intro _) | (refine stC ?_; refine And.intro (fun _ => ?_) (fun _ => ?_)))
    refine TQ.endR1 (L' := L) Tryz.results29 rvA rfl (.refl _) ?_ selF
    exact ⟨_, rfl, rfl, rfl⟩
  | true =>
  rw [h1] at MR
  by_cases hx : r.x0 = r.x1
  · have bx : decide (r.x0 = r.x1) = true := decide_eq_true hx
    rw [bx]
    repeat' (first
    | refine wkQ ?_
    | ((with_reducible apply TL.pure (d := 11) (v := .bool true)); (· exact Y.eql_b bx rfl rfl); (· rfl)) | ((with_reducible apply TW.pure (d := 11) (v := .bool true)); (· exact Y.eql_b bx rfl rfl); (· rfl))
    | refine wkV ?_
    | ((with_reducible apply TL.gives_plain); (· kernel_rfl); (· rfl); (· exact MR _); (· rfl)) | ((with_reducible apply TW.gives_plain); (· kernel_rfl); (· rfl); (· exact MR _); (· rfl))
    | refine stS ?_ | (refine stB ?_; intro _) | (refine stC ?_; refine And.intro (fun _ => ?_) (fun _ => ?_)))
    refine TQ.endR1 (L' := L) Tryz.results29 rvA rfl (.refl _) ?_ selF
    exact ⟨_, rfl, rfl, rfl⟩
  have bx : decide (r.x0 = r.x1) = false := decide_eq_false hx
  rw [bx]
  by_cases hy : r.y0 = r.y1
  · have by1 : decide (r.y0 = r.y1) = true := decide_eq_true hy
    rw [by1]
    repeat' (first
    | refine wkQ ?_
    | ((with_reducible apply TL.pure (d := 11) (v := .bool false)); (· exact Y.eql_b bx rfl rfl); (· rfl)) | ((with_reducible apply TW.pure (d := 11) (v := .bool false)); (· exact Y.eql_b bx rfl rfl); (· rfl))
    | ((with_reducible apply TL.pure (d := 18) (v := .bool true)); (· exact Y.eql_b by1 rfl rfl); (· rfl)) | ((with_reducible apply TW.pure (d := 18) (v := .bool true)); (· exact Y.eql_b by1 rfl rfl); (· rfl))
    | refine wkV ?_
    | ((with_reducible apply TL.gives_plain); (· kernel_rfl); (· rfl); (· exact MR _); (· rfl)) | ((with_reducible apply TW.gives_plain); (· kernel_rfl); (· rfl); (· exact MR _); (· rfl))
    | refine stS ?_ | (refine stB ?_; intro _) | (refine stC ?_; refine And.intro (fun _ => ?_) (fun _ => ?_)))
    refine TQ.endR1 (L' := L) Tryz.results29 rvA rfl (.refl _) ?_ selF
    exact ⟨_, rfl, rfl, rfl⟩
  have by1 : decide (r.y0 = r.y1) = false := decide_eq_false hy
  rw [by1]
  repeat' (first
    | refine wkQ ?_
    | ((with_reducible apply TL.pure (d := 11) (v := .bool false)); (· exact Y.eql_b bx rfl rfl); (· rfl)) | ((with_reducible apply TW.pure (d := 11) (v := .bool false)); (· exact Y.eql_b bx rfl rfl); (· rfl))
    | ((with_reducible apply TL.pure (d := 18) (v := .bool false)); (· exact Y.eql_b by1 rfl rfl); (· rfl)) | ((with_reducible apply TW.pure (d := 18) (v := .bool false)); (· exact Y.eql_b by1 rfl rfl); (· rfl))
    | refine wkV ?_
    | ((with_reducible apply TL.gives_plain); (· kernel_rfl); (· rfl); (· exact MR _); (· rfl)) | ((with_reducible apply TW.gives_plain); (· kernel_rfl); (· rfl); (· exact MR _); (· rfl))
    | (refine TL.build_rows (d := 41) (len := 4) (sz := 2) [ptC (r.x0, r.y0), ptC (r.x1, r.y0), ptC (r.x1, r.y1), ptC (r.x0, r.y1)] (by rfl) (by rfl) (by rfl) (by rfl) (by rfl) (by rfl) (by rfl) (by rfl) (fun bb => ?_); refine TL.freeze_obj (k := 4) bb 2 .here rfl (by decide) ?_; rintro g2 hg2 s2)
    | (refine TL.build_slice (d := 42) (by rfl) (by rfl) (by exact oneA) (by rfl) (by rfl) (by rfl) (fun bb => ?_); refine TL.freeze_obj (k := 1) bb 1 .here rfl (by decide) ?_; rintro g3 hg3 s3)
    | refine stS ?_ | (refine stB ?_; intro _) | (refine stC ?_; refine And.intro (fun _ => ?_) (fun _ => ?_)))
  refine TQ.endR1 (L' := L) Tryz.results29 rvA rfl ((hg2.trans hg3)) ?_ selF
  exact ⟨_, rfl, rfl, parts_one rfl s2 hg3 s3⟩
end Go.Proofs.YtklmfbildebimaaGreatDoor
namespace Go.Proofs.YtklmfbildebimaaGreatDoor
open Go.RowKit Go.TL
set_option maxRecDepth 100000

theorem okP_all {p : List Pt} (h : okP p = true) : p ≠ [] ∧ p.all mayB = true := by
  unfold okP at h
  rw [Bool.and_eq_true, Bool.and_eq_true] at h
  obtain ⟨⟨h1, h2⟩, _⟩ := h
  constructor
  · rintro rfl; cases h1
  · rw [List.all_eq_true]
    intro x hx
    cases hm : mayB x with
    | true => rfl
    | false =>
      have : p.any (fun q => !mayB q) = true := List.any_eq_true.2 ⟨x, hx, by rw [hm]; rfl⟩
      rw [this] at h2; cases h2
theorem rightL_props (k : Int) : ∀ (ps : List (List Pt)) (c c' : Nat), rightL k ps c = some c' → (∀ q ∈ ps, okP q = true) ∧ c + ps.flatten.length ≤ c' ∧ (k = 2 → ps ≠ [] → c' ≤ 256)
  | [], c, c', h => by
    rw [rightL] at h
    cases h
    exact ⟨fun q hq => (by simp at hq), by simp, fun _ h => absurd rfl h⟩
  | p :: r, c, c', h => by
    rw [rightL] at h
    split at h
    · rename_i hok
      split at h
      · rename_i hk
        split at h
        · rename_i hr
          obtain ⟨h1, h2, h3⟩ := rightL_props k r _ _ h
          refine ⟨fun q hq => ?_, ?_, fun _ _ => ?_⟩
          · rcases List.mem_cons.1 hq with rfl | hq
            · exact hok
            · exact h1 q hq
          · rw [List.flatten_cons, List.length_append]; omega
          · cases r with
            | nil =>
              rw [rightL] at h
              cases h
              unfold okR at hr
              simp only [Bool.and_eq_true, decide_eq_true_eq] at hr
              exact hr.1.2
            | cons a t => exact h3 hk (by simp)
        · cases h
      · rename_i hk
        obtain ⟨h1, h2, h3⟩ := rightL_props k r _ _ h
        refine ⟨fun q hq => ?_, ?_, fun h => absurd h hk⟩
        · rcases List.mem_cons.1 hq with rfl | hq
          · exact hok
          · exact h1 q hq
        · rw [List.flatten_cons, List.length_append]; omega
    · cases h
structure RightP (k : Int) (ps : List (List Pt)) : Prop where
  ne : ps ≠ []
  ok : ∀ q ∈ ps, okP q = true
  le : ps.flatten.length ≤ 256
  kd : k = 0 ∨ k = 1 ∨ k = 2
theorem right_props {k : Int} {ps : List (List Pt)} (h : rightB k ps = true) : RightP k ps := by
  rw [rightB_eq] at h
  cases hr : rightL k ps 0 with
  | none => rw [hr] at h; cases h
  | some c =>
    rw [hr] at h
    obtain ⟨h1, h2, h3⟩ := rightL_props k ps 0 c hr
    replace h : finR k ps.length c = true := h
    unfold finR at h
    split at h
    · simp only [Bool.and_eq_true, decide_eq_true_eq] at h
      exact ⟨by rintro rfl; simp at h, h1, by omega, by omega⟩
    · split at h
      · simp only [Bool.and_eq_true, decide_eq_true_eq] at h
        exact ⟨by rintro rfl; simp at h, h1, by omega, by omega⟩
      · simp only [Bool.and_eq_true, decide_eq_true_eq] at h
        have hne : ps ≠ [] := by rintro rfl; simp at h
        exact ⟨hne, h1, by have := h3 h.1 hne; omega, by omega⟩
theorem RightP.all {k : Int} {ps : List (List Pt)} (h : RightP k ps) : ps.flatten.all mayB = true := by
  rw [List.all_eq_true]
  intro x hx
  obtain ⟨q, hq, hx⟩ := List.mem_flatten.1 hx
  exact List.all_eq_true.1 (okP_all (h.ok q hq)).2 x hx
theorem RightP.pos {k : Int} {ps : List (List Pt)} (h : RightP k ps) : 0 < ps.flatten.length := by
  cases hp : ps with
  | nil => exact absurd hp h.ne
  | cons q r =>
    have := (okP_all (h.ok q (by rw [hp]; exact List.mem_cons_self))).1
    rw [List.flatten_cons, List.length_append]
    have : 0 < q.length := List.length_pos_iff.2 this
    omega
end Go.Proofs.YtklmfbildebimaaGreatDoor
namespace Go.Proofs.YtklmfbildebimaaGreatDoor
open Go.RowKit Go.TL
set_option maxRecDepth 100000

def headS (ps : List (List Pt)) : Pt := (ps.headD []).headD (0, 0)
end Go.Proofs.YtklmfbildebimaaGreatDoor
namespace Go.Proofs.YtklmfbildebimaaGreatDoor
open Go.RowKit Go.TL
set_option maxRecDepth 100000

theorem mayB_bd {p : Pt} (h : mayB p = true) : -1800000000 ≤ p.1 ∧ p.1 ≤ 1800000000 ∧ -900000000 ≤ p.2 ∧ p.2 ≤ 900000000 := by
  unfold mayB inB at h
  simp only [Bool.and_eq_true, decide_eq_true_eq] at h
  omega
end Go.Proofs.YtklmfbildebimaaGreatDoor
namespace Go.Proofs.YtklmfbildebimaaGreatDoor
open Go.RowKit Go.TL
set_option maxRecDepth 100000

theorem partE_mem {k : Int} {l : List Pt} {e : Pt × Pt} (h : e ∈ partE k l) : e.1 ∈ l ∧ e.2 ∈ l := by
  have key : e ∈ ringE l → e.1 ∈ l ∧ e.2 ∈ l := fun h => by
    obtain ⟨i, hi⟩ := List.getElem?_of_mem h
    exact ringE_mem hi
  unfold partE at h
  split at h
  · exact key (List.mem_of_mem_take h)
  · exact key h
end Go.Proofs.YtklmfbildebimaaGreatDoor
namespace Go.Proofs.YtklmfbildebimaaGreatDoor
open Go.RowKit Go.TL

theorem holds_iff (r : Rc) (p : Pt) : holdsB r p = true ↔ (r.x0 ≤ p.1 ∧ p.1 ≤ r.x1) ∧ (r.y0 ≤ p.2 ∧ p.2 ≤ r.y1) := by
  unfold holdsB inB; simp
structure RcOk (r : Rc) : Prop where
  hx : r.x0 < r.x1
  hy : r.y0 < r.y1
  m0 : mayB (r.x0, r.y0) = true
  m1 : mayB (r.x1, r.y0) = true
  m2 : mayB (r.x1, r.y1) = true
  m3 : mayB (r.x0, r.y1) = true
theorem RcOk.of {r : Rc} (h : ofOk r = true) : RcOk r := by
  unfold ofOk mayR mayB inB at h
  simp at h
  constructor <;> first | omega | (simp [mayB, inB]; omega)
end Go.Proofs.YtklmfbildebimaaGreatDoor
namespace Go.Proofs.YtklmfbildebimaaGreatDoor
open Go.RowKit Go.TL

theorem span_x (a b p : Pt) : holdsB (spanR a b) p = true ↔ (a.1 ≤ p.1 ∧ p.1 ≤ b.1 ∨ b.1 ≤ p.1 ∧ p.1 ≤ a.1) ∧ (a.2 ≤ p.2 ∧ p.2 ≤ b.2 ∨ b.2 ≤ p.2 ∧ p.2 ≤ a.2) := by
  rw [holds_iff]; unfold spanR; dsimp only
  split <;> split <;> split <;> split <;> omega
end Go.Proofs.YtklmfbildebimaaGreatDoor
namespace Go.Proofs.YtklmfbildebimaaGreatDoor
open Go.RowKit Go.TL

theorem OnF_mayD {a b p : Pt} (ha : mayB a = true) (hb : mayB b = true) (hp : mayB p = true) : OnF a b p = onB a b p := by
  unfold OnF; simp [ha, hb, hp]
theorem MeetF_mayD {a b c d : Pt} (ha : mayB a = true) (hb : mayB b = true) (hc : mayB c = true) (hd : mayB d = true) : MeetF a b c d = meetB a b c d := by
  unfold MeetF; simp [ha, hb, hc, hd]
/- What a box holds. -/
end Go.Proofs.YtklmfbildebimaaGreatDoor
namespace Go.Proofs.YtklmfbildebimaaGreatDoor
open Go.RowKit Go.TL

/- Right, as the document says it. -/
def docL (k : Int) : List (List Pt) → Nat → Option Nat
  | [], n => some n
  | l :: r, n =>
    if (decide (l.length = 0) || !l.all mayB) = true then none
    else if movesF l = true then
      (if k = 2 then (if (decide (l.length < 3) || endsE l) = true then none else docL k r (n + l.length + 1)) else docL k r (n + l.length))
    else none
def finD (k : Int) (m n : Nat) : Bool := !(decide (k < 0) || (decide (2 < k) || (decide (m = 0) || (decide (256 < n) || ((decide (k < 2) && !decide (m = 1)) || ((decide (k = 0) && !decide (n = 1)) || (decide (k = 1) && decide (n < 2))))))))
def simD (k : Int) (ps : List (List Pt)) : Bool := ps.all fun l => !decide (k = 2) || simpleE (partE 2 l)
def rightD (k : Int) (ps : List (List Pt)) : Bool := match docL k ps 0 with
  | some n => finD k ps.length n && simD k ps
  | none => false
theorem okP_eq (l : List Pt) : okP l = (!(decide (l.length = 0) || !l.all mayB) && movesF l) := by
  unfold okP
  have h : (l.any mayB && !l.any (fun q => !mayB q)) = !(decide (l.length = 0) || !l.all mayB) := by
    cases l with
    | nil => rfl
    | cons a r =>
      rw [List.all_eq_not_any_not]
      simp only [List.any_cons, List.length_cons]
      cases mayB a <;> simp
  rw [h]
theorem docL_le (k : Int) : ∀ (ps : List (List Pt)) (c n : Nat), docL k ps c = some n → c ≤ n
  | [], c, n, h => by cases h; exact Nat.le_refl _
  | l :: r, c, n, h => by
    rw [docL] at h
    split at h
    · cases h
    · split at h
      · split at h
        · split at h
          · cases h
          · have := docL_le k r _ _ h; omega
        · have := docL_le k r _ _ h; omega
      · cases h
theorem rightL_doc (k : Int) : ∀ (ps : List (List Pt)) (c : Nat), rightL k ps c = match docL k ps c with
    | some n => if k = 2 then (if (ps = [] ∨ n ≤ 256) ∧ simD k ps = true then some n else none) else some n
    | none => none
  | [], c => by
    by_cases hk : k = 2 <;> simp [rightL, docL, hk, simD]
  | l :: r, c => by
    rw [rightL, docL, okP_eq]
    cases h1 : (decide (l.length = 0) || !l.all mayB) with
    | true => simp
    | false =>
      rw [if_neg (by decide : ¬ false = true)]
      cases h2 : movesF l with
      | false => simp
      | true =>
        rw [if_pos rfl, if_pos (show (!false && true) = true from rfl)]
        by_cases hk : k = 2
        · subst hk
          rw [if_pos rfl, if_pos rfl]
          unfold okR
          cases h3 : (decide (l.length < 3) || endsE l) with
          | true =>
            have : (((decide (3 ≤ l.length) && !endsE l) && decide (c + l.length + 1 ≤ 256)) && simpleE (partE 2 l)) = false := by
              rw [Bool.or_eq_true, decide_eq_true_eq] at h3
              rcases h3 with h3 | h3
              · rw [decide_eq_false (by omega)]; rfl
              · rw [h3]; simp
            rw [this]; simp
          | false =>
            rw [Bool.or_eq_false_iff, decide_eq_false_iff_not] at h3
            rw [decide_eq_true (show 3 ≤ l.length by omega), h3.2, if_neg (by decide : ¬ false = true), rightL_doc 2 r]
            cases h4 : docL 2 r (c + l.length + 1) with
            | none => simp
            | some n =>
              have hle := docL_le 2 r _ _ h4
              dsimp only
              rw [if_pos rfl, if_pos rfl]
              have hs : simD 2 (l :: r) = (simpleE (partE 2 l) && simD 2 r) := by unfold simD; rw [List.all_cons]; rfl
              rw [hs]
              by_cases hc : n ≤ 256
              · rw [decide_eq_true (show c + l.length + 1 ≤ 256 by omega)]
                cases simpleE (partE 2 l) with
                | false => simp
                | true => simp [hc]
              · cases r with
                | nil =>
                  rw [docL] at h4; cases h4
                  rw [decide_eq_false hc]; simp [hc]
                | cons a r => simp [hc]
        · rw [if_neg hk, if_neg hk, rightL_doc k r]
          cases docL k r (c + l.length) with
          | none => rfl
          | some n => simp [hk]
theorem simD_not {k : Int} (hk : k ≠ 2) (ps : List (List Pt)) : simD k ps = true := by
  unfold simD; rw [decide_eq_false hk]; simp
theorem rightD_eq (k : Int) (ps : List (List Pt)) : rightD k ps = rightB k ps := by
  unfold rightD rightB
  rw [rightL_doc]
  cases h : docL k ps 0 with
  | none => rfl
  | some n =>
    dsimp only
    by_cases hk : k = 2
    · subst hk
      rw [if_pos rfl]
      cases ps with
      | nil => rw [docL] at h; cases h; rfl
      | cons a r =>
        unfold finD finR
        by_cases hc : n ≤ 256
        · cases simD 2 (a :: r) with
          | true => simp [hc, Nat.not_lt.2 hc]
          | false => simp
        · simp [hc, Nat.lt_of_not_le hc]
    · rw [if_neg hk]
      dsimp only
      rw [simD_not hk, Bool.and_true]
      unfold finD finR
      by_cases h0 : k = 0
      · subst h0
        by_cases h1 : ps.length = 1 <;> by_cases h2 : n = 1 <;> simp [h1, h2]
      · by_cases h1 : k = 1
        · subst h1
          by_cases h2 : ps.length = 1 <;> by_cases h3 : n < 2 <;> by_cases h4 : 256 < n <;> simp [h2, h3, h4] <;> omega
        · by_cases h2 : k < 0
          · simp [h0, h1, hk, h2]
          · simp [h0, h1, hk, h2]; omega
end Go.Proofs.YtklmfbildebimaaGreatDoor
namespace Go.Proofs.YtklmfbildebimaaGreatDoor
open Go.RowKit Go.TL

/- Box, Meet, Within as the document says them. -/
structure RtP (k : Int) (ps : List (List Pt)) : Prop where
  ne : ps ≠ []
  nep : ∀ q ∈ ps, q ≠ []
  may : ∀ q ∈ ps, q.all mayB = true
  line : k = 1 → ∀ q ∈ ps, 2 ≤ q.length
  kind : k = 0 ∨ k = 1 ∨ k = 2
theorem docL_props (k : Int) : ∀ (ps : List (List Pt)) (c n : Nat), docL k ps c = some n → (∀ q ∈ ps, q ≠ [] ∧ q.all mayB = true) ∧ (k ≠ 2 → n = c + ps.flatten.length)
  | [], c, n, h => by cases h; exact ⟨fun q hq => (List.not_mem_nil hq).elim, fun _ => rfl⟩
  | l :: r, c, n, h => by
    rw [docL] at h
    split at h
    · cases h
    · rename_i h1
      have h1 : (decide (l.length = 0) || !l.all mayB) = false := Bool.eq_false_iff.2 h1
      rw [Bool.or_eq_false_iff, decide_eq_false_iff_not] at h1
      have hl : l ≠ [] ∧ l.all mayB = true := ⟨fun hh => h1.1 (by rw [hh]; rfl), by
        cases ha : l.all mayB with
        | true => rfl
        | false => rw [ha] at h1; cases h1.2⟩
      split at h
      · split at h
        · split at h
          · cases h
          · rename_i hk _
            obtain ⟨h2, _⟩ := docL_props k r _ _ h
            refine ⟨fun q hq => ?_, fun hn => absurd hk hn⟩
            rcases List.mem_cons.1 hq with rfl | hq
            · exact hl
            · exact h2 q hq
        · obtain ⟨h2, h3⟩ := docL_props k r _ _ h
          refine ⟨fun q hq => ?_, fun hn => ?_⟩
          · rcases List.mem_cons.1 hq with rfl | hq
            · exact hl
            · exact h2 q hq
          · have := h3 hn
            rw [List.flatten_cons, List.length_append]; omega
      · cases h
theorem rtP_of {k : Int} {ps : List (List Pt)} (h : rightB k ps = true) : RtP k ps := by
  rw [← rightD_eq] at h
  unfold rightD at h
  cases hd : docL k ps 0 with
  | none => rw [hd] at h; cases h
  | some n =>
    rw [hd] at h
    dsimp only at h
    rw [Bool.and_eq_true] at h
    obtain ⟨h1, h2⟩ := docL_props k ps 0 n hd
    have hf := h.1
    unfold finD at hf
    simp only [Bool.not_eq_true', Bool.or_eq_false_iff, decide_eq_false_iff_not, Bool.and_eq_false_imp, decide_eq_true_eq, Bool.not_eq_false'] at hf
    refine ⟨fun hh => ?_, fun q hq => (h1 q hq).1, fun q hq => (h1 q hq).2, fun hk q hq => ?_, by omega⟩
    · rw [hh] at hf; simp at hf
    · have hl := hf.2.2.2.2.1 (by omega)
      have hn := hf.2.2.2.2.2.2 hk
      have hc := h2 (by omega)
      match ps, hl, hq with
      | [a], _, hq =>
        rw [List.mem_singleton] at hq
        subst hq
        simp at hc
        omega
end Go.Proofs.YtklmfbildebimaaGreatDoor
