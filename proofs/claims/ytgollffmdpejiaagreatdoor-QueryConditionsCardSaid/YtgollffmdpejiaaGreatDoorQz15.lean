/-
  The walk of shape's apart.
-/
import Derived.Test.YtgollffmdpejiaaGreatDoorQz3
import Derived.Test.YtgollffmdpejiaaGreatDoorQz14
import Derived.Test.YtgollffmdpejiaaGreatDoorQz2
namespace Go.Proofs.YtgollffmdpejiaaGreatDoor
open Go.RowKit Go.TL
set_option maxRecDepth 100000

def MeetF (a b c d : Pt) : Bool := [a, b, c, d].all mayB && meetB a b c d
def flatE (l : List (Pt × Pt)) : List Value := l.flatMap fun e => [.int .i64 e.1.1, .int .i64 e.1.2, .int .i64 e.2.1, .int .i64 e.2.2]
theorem flatE_get {l : List (Pt × Pt)} {i : Nat} {e : Pt × Pt} (h : l[i]? = some e) : (flatE l)[i * 4]? = some (.int .i64 e.1.1) ∧ (flatE l)[i * 4 + 1]? = some (.int .i64 e.1.2) ∧ (flatE l)[i * 4 + 2]? = some (.int .i64 e.2.1) ∧ (flatE l)[i * 4 + 3]? = some (.int .i64 e.2.2) := by
  induction l generalizing i with
  | nil => simp at h
  | cons q l ih =>
    cases i with
    | zero => obtain rfl : q = e := by simpa using h
              exact ⟨rfl, rfl, rfl, rfl⟩
    | succ i =>
      have h2 := ih (i := i) (by simpa using h)
      rw [Nat.succ_mul]
      exact h2
abbrev edC (e : Pt × Pt) : List Value := [.int .i64 e.1.1, .int .i64 e.1.2, .int .i64 e.2.1, .int .i64 e.2.2]
theorem ed_cells {g : Gh} {b o : Nat} {e : Pt × Pt} {c : Nat → Option Value} (h : ∀ j v, c j = some v → g.cell b (o + j) = some v) (h0 : c 0 = some (.int .i64 e.1.1)) (h1 : c 1 = some (.int .i64 e.1.2)) (h2 : c 2 = some (.int .i64 e.2.1)) (h3 : c 3 = some (.int .i64 e.2.2)) : ∀ j u, (edC e)[j]? = some u → g.cell b (o + j) = some u := fun j u hu => by
  match j, hu with
  | 0, hu => simp at hu; subst hu; exact h 0 _ h0
  | 1, hu => simp at hu; subst hu; exact h 1 _ h1
  | 2, hu => simp at hu; subst hu; exact h 2 _ h2
  | 3, hu => simp at hu; subst hu; exact h 3 _ h3
  | j + 4, hu => simp at hu
def apartE (n i k : Nat) (x y : Pt × Pt) : Bool :=
  if k = i + 1 then !OnF x.1 x.2 y.2 && !OnF y.1 y.2 x.1
  else if i = 0 ∧ k + 1 = n then !OnF x.1 x.2 y.1 && !OnF y.1 y.2 x.2
  else !MeetF x.1 x.2 y.1 y.2
set_option maxHeartbeats 16000000 in
theorem apart_gives (es : List (Pt × Pt)) (v : Value) (i k : Nat) (x y : Pt × Pt) (g : Gh) (L : List Ent) (hS : Sl g v es.length 4 (flatE es)) (_hl : es.length ≤ 1000000) (_h3 : 2 < es.length) (hx : es[i]? = some x) (hy : es[k]? = some y) :
    Gives Tryz.prog 291 #[v, .int .i64 (i : Nat), .int .i64 (k : Nat)] g L (.bool (apartE es.length i k x y)) := by
  refine .of (Does.of3 Tryz.func291 rfl Tryz.ntmps291 rfl ?_)
  obtain ⟨ao, cap, rfl⟩ := hS.slice
  have hil := (List.getElem?_eq_some_iff.1 hx).1
  have hkl := (List.getElem?_eq_some_iff.1 hy).1
  obtain ⟨b1, o1, rfl, hg⟩ := hS.elem hil (by decide)
  obtain ⟨b3, o2, he2, hg2⟩ := hS.elem hkl (by decide)
  obtain ⟨rfl, rfl⟩ : b1 = b3 ∧ o1 = o2 := by simpa using he2
  have hld := ed_cells hg (flatE_get hx).1 (flatE_get hx).2.1 (flatE_get hx).2.2.1 (flatE_get hx).2.2.2
  have hld2 := ed_cells hg2 (flatE_get hy).1 (flatE_get hy).2.1 (flatE_get hy).2.2.1 (flatE_get hy).2.2.2
  have hll : (edC x).length = 4 := rfl
  have hll2 : (edC y).length = 4 := rfl
  have h2n : decide ((2 : Int) < (es.length : Nat)) = true := decide_eq_true (by omega)
  obtain ⟨a, b⟩ := x
  obtain ⟨c, d⟩ := y
  clear hS hg hg2 he2 hx hy
  unfold apartE
  by_cases hk : k = i + 1
  · have bk : decide (((k : Nat) : Int) = (i : Nat) + 1) = true := decide_eq_true (by omega)
    rw [if_pos hk]
    have O1 := fun L => On_gives a b d g L
    have O2 := fun L => On_gives c d a g L
    rw [show ([a, b, d].all mayB && onB a b d) = OnF a b d from rfl] at O1
    rw [show ([c, d, a].all mayB && onB c d a) = OnF c d a from rfl] at O2
    dsimp only
    cases h1 : OnF a b d with
    | true =>
      rw [h1] at O1
      repeat' (first
    | refine wkQ ?_
    | (refine wkA 21 (v := .bool true) ?_ ?_; · exact Y.eql_b bk rfl rfl)
    | (refine wkA 25 (v := .bool true) ?_ ?_; · exact Y.gtr_b h2n rfl rfl)
    | refine wkV ?_
    | refine wkD (O1 _) ?_
    | refine stS ?_ | (refine stB ?_; intro _) | (refine stC ?_; constructor <;> intro _)
    | ((with_reducible apply TL.pure); (· exact Y.load_part rfl pkA (Nat.le_of_ble_eq_true rfl)); (· rfl))
    | ((with_reducible apply TA.two 8 9); (· rfl); (· rfl); (· decide +kernel); (· rfl); (· rfl))
    | refine wkN0 ?_
    | refine wkN1 ?_
    | refine wkN2 ?_
    | refine wkN3 ?_
    | refine wkG0 ?_
    | refine wkG1 ?_
    | refine wkG2 ?_
    | refine wkG3 ?_
    | refine wkX0 ?_
    | refine wkX1 ?_
    | refine wkX2 ?_
    | refine wkX3 ?_
    | refine wkN0 ?_
    | refine wkN1 ?_
    | refine wkN2 ?_
    | refine wkN3 ?_
    | refine wkO0 ?_
    | refine wkO1 ?_
    | refine wkO2 ?_
    | refine wkO3 ?_
    | refine TQ.any leF selF ?_
    | refine TC.region_any 12 (_) (by kernel_rfl) rfl selF ?_ | refine TA.done (by decide +kernel) ?_ | refine TQ.any_panic ?_ | fail)
      all_goals
        refine TQ.endR1 (L' := L) Tryz.results291 rvA rfl (.refl _) ?_ selF
        exact ⟨rfl, rfl, rfl⟩
    | false =>
      rw [h1] at O1
      repeat' (first
    | refine wkQ ?_
    | (refine wkA 21 (v := .bool true) ?_ ?_; · exact Y.eql_b bk rfl rfl)
    | (refine wkA 25 (v := .bool true) ?_ ?_; · exact Y.gtr_b h2n rfl rfl)
    | refine wkV ?_
    | refine wkD (O1 _) ?_
    | refine wkD (O2 _) ?_
    | refine stS ?_ | (refine stB ?_; intro _) | (refine stC ?_; constructor <;> intro _)
    | ((with_reducible apply TL.pure); (· exact Y.load_part rfl pkA (Nat.le_of_ble_eq_true rfl)); (· rfl))
    | ((with_reducible apply TA.two 8 9); (· rfl); (· rfl); (· decide +kernel); (· rfl); (· rfl))
    | refine wkN0 ?_
    | refine wkN1 ?_
    | refine wkN2 ?_
    | refine wkN3 ?_
    | refine wkG0 ?_
    | refine wkG1 ?_
    | refine wkG2 ?_
    | refine wkG3 ?_
    | refine wkX0 ?_
    | refine wkX1 ?_
    | refine wkX2 ?_
    | refine wkX3 ?_
    | refine wkN0 ?_
    | refine wkN1 ?_
    | refine wkN2 ?_
    | refine wkN3 ?_
    | refine wkO0 ?_
    | refine wkO1 ?_
    | refine wkO2 ?_
    | refine wkO3 ?_
    | refine TQ.any leF selF ?_
    | refine TC.region_any 12 (_) (by kernel_rfl) rfl selF ?_ | refine TA.done (by decide +kernel) ?_ | refine TQ.any_panic ?_ | fail)
      all_goals
        refine TQ.endR1 (L' := L) Tryz.results291 rvA rfl (.refl _) ?_ selF
        exact ⟨rfl, rfl, rfl⟩
  · have bk : decide (((k : Nat) : Int) = (i : Nat) + 1) = false := decide_eq_false (by omega)
    rw [if_neg hk]
    have M := fun L => Meet_gives a b c d g L
    rw [show ([a, b, c, d].all mayB && meetB a b c d) = MeetF a b c d from rfl] at M
    by_cases hi : i = 0
    · have bi : decide (((i : Nat) : Int) = 0) = true := decide_eq_true (by omega)
      by_cases hn : k + 1 = es.length
      · have bn : decide (((k : Nat) : Int) = (es.length : Nat) - 1) = true := decide_eq_true (by omega)
        rw [if_pos ⟨hi, hn⟩]
        have O1 := fun L => On_gives a b c g L
        have O2 := fun L => On_gives c d b g L
        rw [show ([a, b, c].all mayB && onB a b c) = OnF a b c from rfl] at O1
        rw [show ([c, d, b].all mayB && onB c d b) = OnF c d b from rfl] at O2
        dsimp only
        clear M
        cases h1 : OnF a b c with
        | true =>
          rw [h1] at O1
          repeat' (first
    | refine wkQ ?_
    | (refine wkA 21 (v := .bool false) ?_ ?_; · exact Y.eql_b bk rfl rfl)
    | (refine wkA 47 (v := .bool true) ?_ ?_; · exact Y.eql_b bi rfl rfl)
    | (refine wkA 53 (v := .bool true) ?_ ?_; · exact Y.eql_b bn rfl rfl)
    | refine wkV ?_
    | refine wkD (O1 _) ?_
    | refine stS ?_ | (refine stB ?_; intro _) | (refine stC ?_; constructor <;> intro _)
    | ((with_reducible apply TL.pure); (· exact Y.load_part rfl pkA (Nat.le_of_ble_eq_true rfl)); (· rfl))
    | ((with_reducible apply TA.two 8 9); (· rfl); (· rfl); (· decide +kernel); (· rfl); (· rfl))
    | refine wkN0 ?_
    | refine wkN1 ?_
    | refine wkN2 ?_
    | refine wkN3 ?_
    | refine wkG0 ?_
    | refine wkG1 ?_
    | refine wkG2 ?_
    | refine wkG3 ?_
    | refine wkX0 ?_
    | refine wkX1 ?_
    | refine wkX2 ?_
    | refine wkX3 ?_
    | refine wkN0 ?_
    | refine wkN1 ?_
    | refine wkN2 ?_
    | refine wkN3 ?_
    | refine wkO0 ?_
    | refine wkO1 ?_
    | refine wkO2 ?_
    | refine wkO3 ?_
    | refine TQ.any leF selF ?_
    | refine TC.region_any 12 (_) (by kernel_rfl) rfl selF ?_ | refine TA.done (by decide +kernel) ?_ | refine TQ.any_panic ?_ | fail)
          all_goals
            refine TQ.endR1 (L' := L) Tryz.results291 rvA rfl (.refl _) ?_ selF
            exact ⟨rfl, rfl, rfl⟩
        | false =>
          rw [h1] at O1
          repeat' (first
    | refine wkQ ?_
    | (refine wkA 21 (v := .bool false) ?_ ?_; · exact Y.eql_b bk rfl rfl)
    | (refine wkA 47 (v := .bool true) ?_ ?_; · exact Y.eql_b bi rfl rfl)
    | (refine wkA 53 (v := .bool true) ?_ ?_; · exact Y.eql_b bn rfl rfl)
    | refine wkV ?_
    | refine wkD (O1 _) ?_
    | refine wkD (O2 _) ?_
    | refine stS ?_ | (refine stB ?_; intro _) | (refine stC ?_; constructor <;> intro _)
    | ((with_reducible apply TL.pure); (· exact Y.load_part rfl pkA (Nat.le_of_ble_eq_true rfl)); (· rfl))
    | ((with_reducible apply TA.two 8 9); (· rfl); (· rfl); (· decide +kernel); (· rfl); (· rfl))
    | refine wkN0 ?_
    | refine wkN1 ?_
    | refine wkN2 ?_
    | refine wkN3 ?_
    | refine wkG0 ?_
    | refine wkG1 ?_
    | refine wkG2 ?_
    | refine wkG3 ?_
    | refine wkX0 ?_
    | refine wkX1 ?_
    | refine wkX2 ?_
    | refine wkX3 ?_
    | refine wkN0 ?_
    | refine wkN1 ?_
    | refine wkN2 ?_
    | refine wkN3 ?_
    | refine wkO0 ?_
    | refine wkO1 ?_
    | refine wkO2 ?_
    | refine wkO3 ?_
    | refine TQ.any leF selF ?_
    | refine TC.region_any 12 (_) (by kernel_rfl) rfl selF ?_ | refine TA.done (by decide +kernel) ?_ | refine TQ.any_panic ?_ | fail)
          all_goals
            refine TQ.endR1 (L' := L) Tryz.results291 rvA rfl (.refl _) ?_ selF
            exact ⟨rfl, rfl, rfl⟩
      · have bn : decide (((k : Nat) : Int) = (es.length : Nat) - 1) = false := decide_eq_false (by omega)
        rw [if_neg (fun h => hn h.2)]
        dsimp only
        repeat' (first
    | refine wkQ ?_
    | (refine wkA 21 (v := .bool false) ?_ ?_; · exact Y.eql_b bk rfl rfl)
    | (refine wkA 47 (v := .bool true) ?_ ?_; · exact Y.eql_b bi rfl rfl)
    | (refine wkA 53 (v := .bool false) ?_ ?_; · exact Y.eql_b bn rfl rfl)
    | refine wkV ?_
    | refine wkD (M _) ?_
    | refine stS ?_ | (refine stB ?_; intro _) | (refine stC ?_; constructor <;> intro _)
    | ((with_reducible apply TL.pure); (· exact Y.load_part rfl pkA (Nat.le_of_ble_eq_true rfl)); (· rfl))
    | ((with_reducible apply TA.two 8 9); (· rfl); (· rfl); (· decide +kernel); (· rfl); (· rfl))
    | refine wkN0 ?_
    | refine wkN1 ?_
    | refine wkN2 ?_
    | refine wkN3 ?_
    | refine wkG0 ?_
    | refine wkG1 ?_
    | refine wkG2 ?_
    | refine wkG3 ?_
    | refine wkX0 ?_
    | refine wkX1 ?_
    | refine wkX2 ?_
    | refine wkX3 ?_
    | refine wkN0 ?_
    | refine wkN1 ?_
    | refine wkN2 ?_
    | refine wkN3 ?_
    | refine wkO0 ?_
    | refine wkO1 ?_
    | refine wkO2 ?_
    | refine wkO3 ?_
    | refine TQ.any leF selF ?_
    | refine TC.region_any 12 (_) (by kernel_rfl) rfl selF ?_ | refine TA.done (by decide +kernel) ?_ | refine TQ.any_panic ?_ | fail)
        all_goals
          refine TQ.endR1 (L' := L) Tryz.results291 rvA rfl (.refl _) ?_ selF
          exact ⟨rfl, rfl, rfl⟩
    · have bi : decide (((i : Nat) : Int) = 0) = false := decide_eq_false (by omega)
      rw [if_neg (fun h => hi h.1)]
      dsimp only
      repeat' (first
    | refine wkQ ?_
    | (refine wkA 21 (v := .bool false) ?_ ?_; · exact Y.eql_b bk rfl rfl)
    | (refine wkA 47 (v := .bool false) ?_ ?_; · exact Y.eql_b bi rfl rfl)
    | refine wkV ?_
    | refine wkD (M _) ?_
    | refine stS ?_ | (refine stB ?_; intro _) | (refine stC ?_; constructor <;> intro _)
    | ((with_reducible apply TL.pure); (· exact Y.load_part rfl pkA (Nat.le_of_ble_eq_true rfl)); (· rfl))
    | ((with_reducible apply TA.two 8 9); (· rfl); (· rfl); (· decide +kernel); (· rfl); (· rfl))
    | refine wkN0 ?_
    | refine wkN1 ?_
    | refine wkN2 ?_
    | refine wkN3 ?_
    | refine wkG0 ?_
    | refine wkG1 ?_
    | refine wkG2 ?_
    | refine wkG3 ?_
    | refine wkX0 ?_
    | refine wkX1 ?_
    | refine wkX2 ?_
    | refine wkX3 ?_
    | refine wkN0 ?_
    | refine wkN1 ?_
    | refine wkN2 ?_
    | refine wkN3 ?_
    | refine wkO0 ?_
    | refine wkO1 ?_
    | refine wkO2 ?_
    | refine wkO3 ?_
    | refine TQ.any leF selF ?_
    | refine TC.region_any 12 (_) (by kernel_rfl) rfl selF ?_ | refine TA.done (by decide +kernel) ?_ | refine TQ.any_panic ?_ | fail)
      all_goals
        refine TQ.endR1 (L' := L) Tryz.results291 rvA rfl (.refl _) ?_ selF
        exact ⟨rfl, rfl, rfl⟩
end Go.Proofs.YtgollffmdpejiaaGreatDoor
