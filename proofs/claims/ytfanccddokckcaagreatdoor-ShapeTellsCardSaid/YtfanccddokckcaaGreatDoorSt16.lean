/-
  The walk of shape's apart. The walks of slices.AppendSeq, slices.Collect over edges, shape's simple.
-/
import Derived.Test.YtfanccddokckcaaGreatDoorSt2
import Derived.Test.YtfanccddokckcaaGreatDoorSt15
import Derived.Test.YtfanccddokckcaaGreatDoorSt1
namespace Go.Proofs.YtfanccddokckcaaGreatDoor
open Go.RowKit Go.TL
set_option maxRecDepth 100000

def MeetF (a b c d : Pt) : Bool := [a, b, c, d].all mayB && meetB a b c d
def CrossF (a b c d : Pt) : Bool := [a, b, c, d].all mayB && crossB a b c d
def flatE (l : List (Pt × Pt)) : List Value := l.flatMap fun e => [.int .i64 e.1.1, .int .i64 e.1.2, .int .i64 e.2.1, .int .i64 e.2.2]
theorem flatE_len (l : List (Pt × Pt)) : (flatE l).length = l.length * 4 := by
  induction l with
  | nil => rfl
  | cons p l ih => simp only [flatE, List.flatMap_cons, List.length_append, List.length_cons, List.length_nil] at ih ⊢; omega
theorem flatE_get {l : List (Pt × Pt)} {i : Nat} {e : Pt × Pt} (h : l[i]? = some e) : (flatE l)[i * 4]? = some (.int .i64 e.1.1) ∧ (flatE l)[i * 4 + 1]? = some (.int .i64 e.1.2) ∧ (flatE l)[i * 4 + 2]? = some (.int .i64 e.2.1) ∧ (flatE l)[i * 4 + 3]? = some (.int .i64 e.2.2) := by
  induction l generalizing i with
  | nil => simp at h
  | cons q l ih =>
    cases i with
    | zero => obtain rfl : q = e := by simpa using h
              exact ⟨rfl, rfl, rfl, rfl⟩
    | succ i =>
      have h2 := ih (i := i) (by simpa using h)
      rw [Nat.succ_mul]
      exact h2
abbrev edC (e : Pt × Pt) : List Value := [.int .i64 e.1.1, .int .i64 e.1.2, .int .i64 e.2.1, .int .i64 e.2.2]
theorem ed_cells {g : Gh} {b o : Nat} {e : Pt × Pt} {c : Nat → Option Value} (h : ∀ j v, c j = some v → g.cell b (o + j) = some v) (h0 : c 0 = some (.int .i64 e.1.1)) (h1 : c 1 = some (.int .i64 e.1.2)) (h2 : c 2 = some (.int .i64 e.2.1)) (h3 : c 3 = some (.int .i64 e.2.2)) : ∀ j u, (edC e)[j]? = some u → g.cell b (o + j) = some u := fun j u hu => by
  match j, hu with
  | 0, hu => simp at hu; subst hu; exact h 0 _ h0
  | 1, hu => simp at hu; subst hu; exact h 1 _ h1
  | 2, hu => simp at hu; subst hu; exact h 2 _ h2
  | 3, hu => simp at hu; subst hu; exact h 3 _ h3
  | j + 4, hu => simp at hu
def apartE (n i k : Nat) (x y : Pt × Pt) : Bool :=
  if k = i + 1 then !OnF x.1 x.2 y.2 && !OnF y.1 y.2 x.1
  else if i = 0 ∧ k + 1 = n then !OnF x.1 x.2 y.1 && !OnF y.1 y.2 x.2
  else !MeetF x.1 x.2 y.1 y.2
set_option maxHeartbeats 16000000 in
theorem apart_gives (es : List (Pt × Pt)) (v : Value) (i k : Nat) (x y : Pt × Pt) (g : Gh) (L : List Ent) (hS : Sl g v es.length 4 (flatE es)) (_hl : es.length ≤ 1000000) (_h3 : 2 < es.length) (hx : es[i]? = some x) (hy : es[k]? = some y) :
    Gives Tryz.prog 114 #[v, .int .i64 (i : Nat), .int .i64 (k : Nat)] g L (.bool (apartE es.length i k x y)) := by
  refine .of (Does.of3 Tryz.func114 rfl Tryz.ntmps114 rfl ?_)
  obtain ⟨ao, cap, rfl⟩ := hS.slice
  have hil := (List.getElem?_eq_some_iff.1 hx).1
  have hkl := (List.getElem?_eq_some_iff.1 hy).1
  obtain ⟨b1, o1, rfl, hg⟩ := hS.elem hil (by decide)
  obtain ⟨b3, o2, he2, hg2⟩ := hS.elem hkl (by decide)
  obtain ⟨rfl, rfl⟩ : b1 = b3 ∧ o1 = o2 := by simpa using he2
  have hld := ed_cells hg (flatE_get hx).1 (flatE_get hx).2.1 (flatE_get hx).2.2.1 (flatE_get hx).2.2.2
  have hld2 := ed_cells hg2 (flatE_get hy).1 (flatE_get hy).2.1 (flatE_get hy).2.2.1 (flatE_get hy).2.2.2
  have hll : (edC x).length = 4 := rfl
  have hll2 : (edC y).length = 4 := rfl
  have h2n : decide ((2 : Int) < (es.length : Nat)) = true := decide_eq_true (by omega)
  obtain ⟨a, b⟩ := x
  obtain ⟨c, d⟩ := y
  clear hS hg hg2 he2 hx hy
  unfold apartE
  by_cases hk : k = i + 1
  · have bk : decide (((k : Nat) : Int) = (i : Nat) + 1) = true := decide_eq_true (by omega)
    rw [if_pos hk]
    have O1 := fun L => On_gives a b d g L
    have O2 := fun L => On_gives c d a g L
    rw [show ([a, b, d].all mayB && onB a b d) = OnF a b d from rfl] at O1
    rw [show ([c, d, a].all mayB && onB c d a) = OnF c d a from rfl] at O2
    dsimp only
    cases h1 : OnF a b d with
    | true =>
      rw [h1] at O1
      repeat' (first
    | refine wkQ ?_
    | ((with_reducible apply TL.pure (d := 21) (v := .bool true)); (· exact Y.eql_b bk rfl rfl); (· rfl)) | ((with_reducible apply TW.pure (d := 21) (v := .bool true)); (· exact Y.eql_b bk rfl rfl); (· rfl))
    | ((with_reducible apply TL.pure (d := 25) (v := .bool true)); (· exact Y.gtr_b h2n rfl rfl); (· rfl)) | ((with_reducible apply TW.pure (d := 25) (v := .bool true)); (· exact Y.gtr_b h2n rfl rfl); (· rfl))
    | refine wkV ?_
    | ((with_reducible apply TL.gives_plain); (· kernel_rfl); (· rfl); (· exact O1 _); (· rfl)) | ((with_reducible apply TW.gives_plain); (· kernel_rfl); (· rfl); (· exact O1 _); (· rfl))
    | refine stS ?_ | (refine stB ?_; intro _) | (refine stC ?_; refine And.intro (fun _ => ?_) (fun _ => ?_))
    | ((with_reducible apply TL.pure); (· exact Y.load_part rfl pkA (Nat.le_of_ble_eq_true rfl)); (· rfl))
    | ((with_reducible apply TA.two 8 9); (· rfl); (· rfl); (· decide +kernel); (· rfl); (· rfl))
    | refine wkN0 ?_
    | refine wkN1 ?_
    | refine wkN2 ?_
    | refine wkN3 ?_
    | refine wkG0 ?_
    | refine wkG1 ?_
    | refine wkG2 ?_
    | refine wkG3 ?_
    | refine wkX0 ?_
    | refine wkX1 ?_
    | refine wkX2 ?_
    | refine wkX3 ?_
    | refine wkN0 ?_
    | refine wkN1 ?_
    | refine wkN2 ?_
    | refine wkN3 ?_
    | ((with_reducible apply TA.oneN 0); (· rfl); (· rfl); (· decide +kernel); (· rfl))
    | ((with_reducible apply TA.oneN 1); (· rfl); (· rfl); (· decide +kernel); (· rfl))
    | ((with_reducible apply TA.oneN 2); (· rfl); (· rfl); (· decide +kernel); (· rfl))
    | ((with_reducible apply TA.oneN 3); (· rfl); (· rfl); (· decide +kernel); (· rfl))
    | refine TQ.any leF selF ?_
    | refine TC.region_any 12 (_) (by kernel_rfl) rfl selF ?_ | refine TA.done (by decide +kernel) ?_ | refine TQ.any_panic ?_)
      all_goals
        refine TQ.endR1 (L' := L) Tryz.results114 rvA rfl (.refl _) ?_ selF
        exact ⟨rfl, rfl, rfl⟩
    | false =>
      rw [h1] at O1
      repeat' (first
    | refine wkQ ?_
    | ((with_reducible apply TL.pure (d := 21) (v := .bool true)); (· exact Y.eql_b bk rfl rfl); (· rfl)) | ((with_reducible apply TW.pure (d := 21) (v := .bool true)); (· exact Y.eql_b bk rfl rfl); (· rfl))
    | ((with_reducible apply TL.pure (d := 25) (v := .bool true)); (· exact Y.gtr_b h2n rfl rfl); (· rfl)) | ((with_reducible apply TW.pure (d := 25) (v := .bool true)); (· exact Y.gtr_b h2n rfl rfl); (· rfl))
    | refine wkV ?_
    | ((with_reducible apply TL.gives_plain); (· kernel_rfl); (· rfl); (· exact O1 _); (· rfl)) | ((with_reducible apply TW.gives_plain); (· kernel_rfl); (· rfl); (· exact O1 _); (· rfl))
    | ((with_reducible apply TL.gives_plain); (· kernel_rfl); (· rfl); (· exact O2 _); (· rfl)) | ((with_reducible apply TW.gives_plain); (· kernel_rfl); (· rfl); (· exact O2 _); (· rfl))
    | refine stS ?_ | (refine stB ?_; intro _) | (refine stC ?_; refine And.intro (fun _ => ?_) (fun _ => ?_))
    | ((with_reducible apply TL.pure); (· exact Y.load_part rfl pkA (Nat.le_of_ble_eq_true rfl)); (· rfl))
    | ((with_reducible apply TA.two 8 9); (· rfl); (· rfl); (· decide +kernel); (· rfl); (· rfl))
    | refine wkN0 ?_
    | refine wkN1 ?_
    | refine wkN2 ?_
    | refine wkN3 ?_
    | refine wkG0 ?_
    | refine wkG1 ?_
    | refine wkG2 ?_
    | refine wkG3 ?_
    | refine wkX0 ?_
    | refine wkX1 ?_
    | refine wkX2 ?_
    | refine wkX3 ?_
    | refine wkN0 ?_
    | refine wkN1 ?_
    | refine wkN2 ?_
    | refine wkN3 ?_
    | ((with_reducible apply TA.oneN 0); (· rfl); (· rfl); (· decide +kernel); (· rfl))
    | ((with_reducible apply TA.oneN 1); (· rfl); (· rfl); (· decide +kernel); (· rfl))
    | ((with_reducible apply TA.oneN 2); (· rfl); (· rfl); (· decide +kernel); (· rfl))
    | ((with_reducible apply TA.oneN 3); (· rfl); (· rfl); (· decide +kernel); (· rfl))
    | refine TQ.any leF selF ?_
    | refine TC.region_any 12 (_) (by kernel_rfl) rfl selF ?_ | refine TA.done (by decide +kernel) ?_ | refine TQ.any_panic ?_)
      all_goals
        refine TQ.endR1 (L' := L) Tryz.results114 rvA rfl (.refl _) ?_ selF
        exact ⟨rfl, rfl, rfl⟩
  · have bk : decide (((k : Nat) : Int) = (i : Nat) + 1) = false := decide_eq_false (by omega)
    rw [if_neg hk]
    have M := fun L => Meet_gives a b c d g L
    rw [show ([a, b, c, d].all mayB && meetB a b c d) = MeetF a b c d from rfl] at M
    by_cases hi : i = 0
    · have bi : decide (((i : Nat) : Int) = 0) = true := decide_eq_true (by omega)
      by_cases hn : k + 1 = es.length
      · have bn : decide (((k : Nat) : Int) = (es.length : Nat) - 1) = true := decide_eq_true (by omega)
        rw [if_pos ⟨hi, hn⟩]
        have O1 := fun L => On_gives a b c g L
        have O2 := fun L => On_gives c d b g L
        rw [show ([a, b, c].all mayB && onB a b c) = OnF a b c from rfl] at O1
        rw [show ([c, d, b].all mayB && onB c d b) = OnF c d b from rfl] at O2
        dsimp only
        clear M
        cases h1 : OnF a b c with
        | true =>
          rw [h1] at O1
          repeat' (first
    | refine wkQ ?_
    | ((with_reducible apply TL.pure (d := 21) (v := .bool false)); (· exact Y.eql_b bk rfl rfl); (· rfl)) | ((with_reducible apply TW.pure (d := 21) (v := .bool false)); (· exact Y.eql_b bk rfl rfl); (· rfl))
    | ((with_reducible apply TL.pure (d := 47) (v := .bool true)); (· exact Y.eql_b bi rfl rfl); (· rfl)) | ((with_reducible apply TW.pure (d := 47) (v := .bool true)); (· exact Y.eql_b bi rfl rfl); (· rfl))
    | ((with_reducible apply TL.pure (d := 53) (v := .bool true)); (· exact Y.eql_b bn rfl rfl); (· rfl)) | ((with_reducible apply TW.pure (d := 53) (v := .bool true)); (· exact Y.eql_b bn rfl rfl); (· rfl))
    | refine wkV ?_
    | ((with_reducible apply TL.gives_plain); (· kernel_rfl); (· rfl); (· exact O1 _); (· rfl)) | ((with_reducible apply TW.gives_plain); (· kernel_rfl); (· rfl); (· exact O1 _); (· rfl))
    | refine stS ?_ | (refine stB ?_; intro _) | (refine stC ?_; refine And.intro (fun _ => ?_) (fun _ => ?_))
    | ((with_reducible apply TL.pure); (· exact Y.load_part rfl pkA (Nat.le_of_ble_eq_true rfl)); (· rfl))
    | ((with_reducible apply TA.two 8 9); (· rfl); (· rfl); (· decide +kernel); (· rfl); (· rfl))
    | refine wkN0 ?_
    | refine wkN1 ?_
    | refine wkN2 ?_
    | refine wkN3 ?_
    | refine wkG0 ?_
    | refine wkG1 ?_
    | refine wkG2 ?_
    | refine wkG3 ?_
    | refine wkX0 ?_
    | refine wkX1 ?_
    | refine wkX2 ?_
    | refine wkX3 ?_
    | refine wkN0 ?_
    | refine wkN1 ?_
    | refine wkN2 ?_
    | refine wkN3 ?_
    | ((with_reducible apply TA.oneN 0); (· rfl); (· rfl); (· decide +kernel); (· rfl))
    | ((with_reducible apply TA.oneN 1); (· rfl); (· rfl); (· decide +kernel); (· rfl))
    | ((with_reducible apply TA.oneN 2); (· rfl); (· rfl); (· decide +kernel); (· rfl))
    | ((with_reducible apply TA.oneN 3); (· rfl); (· rfl); (· decide +kernel); (· rfl))
    | refine TQ.any leF selF ?_
    | refine TC.region_any 12 (_) (by kernel_rfl) rfl selF ?_ | refine TA.done (by decide +kernel) ?_ | refine TQ.any_panic ?_)
          all_goals
            refine TQ.endR1 (L' := L) Tryz.results114 rvA rfl (.refl _) ?_ selF
            exact ⟨rfl, rfl, rfl⟩
        | false =>
          rw [h1] at O1
          repeat' (first
    | refine wkQ ?_
    | ((with_reducible apply TL.pure (d := 21) (v := .bool false)); (· exact Y.eql_b bk rfl rfl); (· rfl)) | ((with_reducible apply TW.pure (d := 21) (v := .bool false)); (· exact Y.eql_b bk rfl rfl); (· rfl))
    | ((with_reducible apply TL.pure (d := 47) (v := .bool true)); (· exact Y.eql_b bi rfl rfl); (· rfl)) | ((with_reducible apply TW.pure (d := 47) (v := .bool true)); (· exact Y.eql_b bi rfl rfl); (· rfl))
    | ((with_reducible apply TL.pure (d := 53) (v := .bool true)); (· exact Y.eql_b bn rfl rfl); (· rfl)) | ((with_reducible apply TW.pure (d := 53) (v := .bool true)); (· exact Y.eql_b bn rfl rfl); (· rfl))
    | refine wkV ?_
    | ((with_reducible apply TL.gives_plain); (· kernel_rfl); (· rfl); (· exact O1 _); (· rfl)) | ((with_reducible apply TW.gives_plain); (· kernel_rfl); (· rfl); (· exact O1 _); (· rfl))
    | ((with_reducible apply TL.gives_plain); (· kernel_rfl); (· rfl); (· exact O2 _); (· rfl)) | ((with_reducible apply TW.gives_plain); (· kernel_rfl); (· rfl); (· exact O2 _); (· rfl))
    | refine stS ?_ | (refine stB ?_; intro _) | (refine stC ?_; refine And.intro (fun _ => ?_) (fun _ => ?_))
    | ((with_reducible apply TL.pure); (· exact Y.load_part rfl pkA (Nat.le_of_ble_eq_true rfl)); (· rfl))
    | ((with_reducible apply TA.two 8 9); (· rfl); (· rfl); (· decide +kernel); (· rfl); (· rfl))
    | refine wkN0 ?_
    | refine wkN1 ?_
    | refine wkN2 ?_
    | refine wkN3 ?_
    | refine wkG0 ?_
    | refine wkG1 ?_
    | refine wkG2 ?_
    | refine wkG3 ?_
    | refine wkX0 ?_
    | refine wkX1 ?_
    | refine wkX2 ?_
    | refine wkX3 ?_
    | refine wkN0 ?_
    | refine wkN1 ?_
    | refine wkN2 ?_
    | refine wkN3 ?_
    | ((with_reducible apply TA.oneN 0); (· rfl); (· rfl); (· decide +kernel); (· rfl))
    | ((with_reducible apply TA.oneN 1); (· rfl); (· rfl); (· decide +kernel); (· rfl))
    | ((with_reducible apply TA.oneN 2); (· rfl); (· rfl); (· decide +kernel); (· rfl))
    | ((with_reducible apply TA.oneN 3); (· rfl); (· rfl); (· decide +kernel); (· rfl))
    | refine TQ.any leF selF ?_
    | refine TC.region_any 12 (_) (by kernel_rfl) rfl selF ?_ | refine TA.done (by decide +kernel) ?_ | refine TQ.any_panic ?_)
          all_goals
            refine TQ.endR1 (L' := L) Tryz.results114 rvA rfl (.refl _) ?_ selF
            exact ⟨rfl, rfl, rfl⟩
      · have bn : decide (((k : Nat) : Int) = (es.length : Nat) - 1) = false := decide_eq_false (by omega)
        rw [if_neg (fun h => hn h.2)]
        dsimp only
        repeat' (first
    | refine wkQ ?_
    | ((with_reducible apply TL.pure (d := 21) (v := .bool false)); (· exact Y.eql_b bk rfl rfl); (· rfl)) | ((with_reducible apply TW.pure (d := 21) (v := .bool false)); (· exact Y.eql_b bk rfl rfl); (· rfl))
    | ((with_reducible apply TL.pure (d := 47) (v := .bool true)); (· exact Y.eql_b bi rfl rfl); (· rfl)) | ((with_reducible apply TW.pure (d := 47) (v := .bool true)); (· exact Y.eql_b bi rfl rfl); (· rfl))
    | ((with_reducible apply TL.pure (d := 53) (v := .bool false)); (· exact Y.eql_b bn rfl rfl); (· rfl)) | ((with_reducible apply TW.pure (d := 53) (v := .bool false)); (· exact Y.eql_b bn rfl rfl); (· rfl))
    | refine wkV ?_
    | ((with_reducible apply TL.gives_plain); (· kernel_rfl); (· rfl); (· exact M _); (· rfl)) | ((with_reducible apply TW.gives_plain); (· kernel_rfl); (· rfl); (· exact M _); (· rfl))
    | refine stS ?_ | (refine stB ?_; intro _) | (refine stC ?_; refine And.intro (fun _ => ?_) (fun _ => ?_))
    | ((with_reducible apply TL.pure); (· exact Y.load_part rfl pkA (Nat.le_of_ble_eq_true rfl)); (· rfl))
    | ((with_reducible apply TA.two 8 9); (· rfl); (· rfl); (· decide +kernel); (· rfl); (· rfl))
    | refine wkN0 ?_
    | refine wkN1 ?_
    | refine wkN2 ?_
    | refine wkN3 ?_
    | refine wkG0 ?_
    | refine wkG1 ?_
    | refine wkG2 ?_
    | refine wkG3 ?_
    | refine wkX0 ?_
    | refine wkX1 ?_
    | refine wkX2 ?_
    | refine wkX3 ?_
    | refine wkN0 ?_
    | refine wkN1 ?_
    | refine wkN2 ?_
    | refine wkN3 ?_
    | ((with_reducible apply TA.oneN 0); (· rfl); (· rfl); (· decide +kernel); (· rfl))
    | ((with_reducible apply TA.oneN 1); (· rfl); (· rfl); (· decide +kernel); (· rfl))
    | ((with_reducible apply TA.oneN 2); (· rfl); (· rfl); (· decide +kernel); (· rfl))
    | ((with_reducible apply TA.oneN 3); (· rfl); (· rfl); (· decide +kernel); (· rfl))
    | refine TQ.any leF selF ?_
    | refine TC.region_any 12 (_) (by kernel_rfl) rfl selF ?_ | refine TA.done (by decide +kernel) ?_ | refine TQ.any_panic ?_)
        all_goals
          refine TQ.endR1 (L' := L) Tryz.results114 rvA rfl (.refl _) ?_ selF
          exact ⟨rfl, rfl, rfl⟩
    · have bi : decide (((i : Nat) : Int) = 0) = false := decide_eq_false (by omega)
      rw [if_neg (fun h => hi h.1)]
      dsimp only
      repeat' (first
    | refine wkQ ?_
    | ((with_reducible apply TL.pure (d := 21) (v := .bool false)); (· exact Y.eql_b bk rfl rfl); (· rfl)) | ((with_reducible apply TW.pure (d := 21) (v := .bool false)); (· exact Y.eql_b bk rfl rfl); (· rfl))
    | ((with_reducible apply TL.pure (d := 47) (v := .bool false)); (· exact Y.eql_b bi rfl rfl); (· rfl)) | ((with_reducible apply TW.pure (d := 47) (v := .bool false)); (· exact Y.eql_b bi rfl rfl); (· rfl))
    | refine wkV ?_
    | ((with_reducible apply TL.gives_plain); (· kernel_rfl); (· rfl); (· exact M _); (· rfl)) | ((with_reducible apply TW.gives_plain); (· kernel_rfl); (· rfl); (· exact M _); (· rfl))
    | refine stS ?_ | (refine stB ?_; intro _) | (refine stC ?_; refine And.intro (fun _ => ?_) (fun _ => ?_))
    | ((with_reducible apply TL.pure); (· exact Y.load_part rfl pkA (Nat.le_of_ble_eq_true rfl)); (· rfl))
    | ((with_reducible apply TA.two 8 9); (· rfl); (· rfl); (· decide +kernel); (· rfl); (· rfl))
    | refine wkN0 ?_
    | refine wkN1 ?_
    | refine wkN2 ?_
    | refine wkN3 ?_
    | refine wkG0 ?_
    | refine wkG1 ?_
    | refine wkG2 ?_
    | refine wkG3 ?_
    | refine wkX0 ?_
    | refine wkX1 ?_
    | refine wkX2 ?_
    | refine wkX3 ?_
    | refine wkN0 ?_
    | refine wkN1 ?_
    | refine wkN2 ?_
    | refine wkN3 ?_
    | ((with_reducible apply TA.oneN 0); (· rfl); (· rfl); (· decide +kernel); (· rfl))
    | ((with_reducible apply TA.oneN 1); (· rfl); (· rfl); (· decide +kernel); (· rfl))
    | ((with_reducible apply TA.oneN 2); (· rfl); (· rfl); (· decide +kernel); (· rfl))
    | ((with_reducible apply TA.oneN 3); (· rfl); (· rfl); (· decide +kernel); (· rfl))
    | refine TQ.any leF selF ?_
    | refine TC.region_any 12 (_) (by kernel_rfl) rfl selF ?_ | refine TA.done (by decide +kernel) ?_ | refine TQ.any_panic ?_)
      all_goals
        refine TQ.endR1 (L' := L) Tryz.results114 rvA rfl (.refl _) ?_ selF
        exact ⟨rfl, rfl, rfl⟩
end Go.Proofs.YtfanccddokckcaaGreatDoor
namespace Go.Proofs.YtfanccddokckcaaGreatDoor
open Go.RowKit Go.TL
set_option maxRecDepth 100000

theorem flatE_take {es : List (Pt × Pt)} {i : Nat} {e : Pt × Pt} (h : es[i]? = some e) : flatE (es.take (i + 1)) = flatE (es.take i) ++ edC e := by
  rw [List.take_add_one, h]
  simp [flatE]
set_option maxHeartbeats 16000000 in
theorem seq_does (F : FuncId) (es : List (Pt × Pt)) (lb : Array Value) (g : Gh) (L : List Ent) (_hl : es.length ≤ 1000000) (hc : callable Tryz.prog F = true) (it : Iter Tryz.prog F lb (es.map fun e => #[edV e]) g) :
    Does Tryz.prog 128 #[.slice none 0 0, .func (.func F) #[] lb] g L (fun e g' L' => ∃ v, e = .returned v ∧ L' = L ∧ Sl g' v es.length 4 (flatE es)) := by
  refine Does.ofM2 Tryz.func128 rfl Tryz.ntmps128 rfl ?_
  refine TC.row_nil 101 4 ?_
  repeat' (first
    | refine wkQ ?_
    | refine wkV ?_
    | refine stS ?_ | (refine stB ?_; intro _) | (refine stC ?_; refine And.intro (fun _ => ?_) (fun _ => ?_)))
  rename_i b2
  refine TC.rangeF (ps := #[7]) (xs := es.map fun e => #[edV e]) rfl hc it (by intro x hx; obtain ⟨e, _, rfl⟩ := List.mem_map.1 hx; rfl) (by rfl)
    (fun i (z : Nat × Value) => z.1 = i) (fun _ => g) (fun z => [.obj b2 (.cells [z.2].toArray 153 (0, 0)), .row 101 4 z.2 z.1 (flatE (es.take z.1))])
    (fun _ (_ : Nat) => False) (fun _ => g) (fun _ => [])
    L (0, .slice none 0 0) rfl (.refl _) selF ?_ ?_ ?_
  · rintro r rc i x ⟨i, v⟩ M gx hrc hx rfl hgx _
    obtain ⟨⟨a, b⟩, he, rfl⟩ := item_of hx
    have hi := (List.getElem?_eq_some_iff.1 he).1
    dsimp only [List.cons_append, List.nil_append] at hi he ⊢
    have hkey : ∀ y, y = edC (a, b) → flatE (es.take i) ++ y = flatE (es.take (i + 1)) := fun y h => by rw [h, flatE_take he]
    refine TR.weak (S' := [(7, edV (a, b)), (2, .pointer (some ⟨b2, 0, none⟩))]) ?_ subA .refl
    generalize flatE (es.take i) = T0 at *
    clear it hx he
    repeat' (first
    | refine wkQ ?_
    | refine wkV ?_
    | ((with_reducible apply TL.build_slice); (· rfl); (· rfl); (· exact oneA); (· rfl); (· rfl); (· rfl); intro _) | refine TL.build_one (by rfl) (by first | rfl | assumption) (by rfl) (by rfl) (by rfl) (by rfl) (fun _ => ?_) | refine TL.build_empty (by rfl) (fun _ => ?_)
    | ((with_reducible apply TL.append (e := 101)); (· rfl); (· rfl); (· rfl); (· rfl); (· exact pkA); (· first | exact Src.obj pkA | exact Src.sl (by assumption) | exact Src.row pkA); (· first | rfl | exact (byteVals_length _).trans (Nat.mul_one _).symm); (· first | exact byteVals_all _ | exact oneA); (· exact ⟨by unfold maxLen; omega, by omega⟩); (· rfl); intro vf; refine Go.TL.TL.row_slice (v := vf) pkA ?_; rintro a2 c2 rfl _)
    | refine wkP ?_
    | refine TR.seq ?_ | refine TR.region (by rfl) ?_ | refine TL.nil ?_ | refine TQ.then_R ?_ | refine TQ.begin (by assumption) pkA ?_
    | ((with_reducible apply TL.storeE); (· rfl); (· rfl); (· rfl); (· exact pkA); (· infer_instance)) | ((with_reducible apply TL.store_whole); (· rfl); (· rfl); (· exact oneA); (· rfl); (· exact pkA); (· rfl))
    | refine TR.block ?_ | refine TR.ret ?_ | refine TR.skip ?_ | refine TR.exit ?_ | refine TR.cond rfl ?_
    | refine TQ.down ?_ | refine TQ.in_exit' rfl ?_
    | refine TL.guard_yes rfl rfl ?_ | refine TL.guard_no rfl rfl rfl rfl ?_ | refine TL.guard_no0 rfl rfl rfl ?_ | refine TL.guard_undef rfl rfl rfl ?_ | refine TL.guard_undef0 rfl rfl ?_ | refine TL.guard rfl rfl rfl ?_
    | refine Br.t rfl ?_ | refine Br.f rfl ?_ | refine Br.ky kpA ?_ | refine Br.kn kpA ?_ | refine Br.nky kpA ?_ | refine Br.nkn kpA ?_
    | refine Br.eq0 (fun _ => ?_) (fun _ => ?_) | refine Br.neq0 (fun _ => ?_) (fun _ => ?_) | refine Br.eq (fun _ => ?_) (fun _ => ?_) | refine Br.neq (fun _ => ?_) (fun _ => ?_) | refine Br.not (fun _ => ?_) (fun _ => ?_) | refine Br.dec (fun _ => ?_) (fun _ => ?_) | refine Br.bool (fun _ => ?_) (fun _ => ?_)
    | ((with_reducible apply TL.alloc_ag); (· rfl); intro _) | ((with_reducible apply TL.alloc_sc); (· rfl); (· rfl); intro _) | ((with_reducible apply TL.box_ag); (· rfl); (· rfl); intro _) | ((with_reducible apply TL.box_sc); (· rfl); (· rfl); (· rfl); intro _))
    rw [hkey _ rfl]
    refine TQ.goes (i + 1, .slice a2 (i + 1) c2) rfl hgx (.refl _) hrc pkA ?_
    exact selF
  · rintro D ⟨i, v⟩ gx hI hgx _
    rw [List.length_map] at hI
    dsimp only [List.cons_append, List.nil_append] at hI ⊢
    subst hI
    rw [List.take_length]
    clear it
    refine TQ.row_slice (v := v) (.there (.there .here)) ?_
    rintro a2 c2 rfl _
    repeat' (first
    | refine wkQ ?_
    | refine wkV ?_
    | refine stS ?_ | (refine stB ?_; intro _) | (refine stC ?_; refine And.intro (fun _ => ?_) (fun _ => ?_)))
    refine TQ.endM [D] rfl (.cons pkA .refl) ?_
    refine TQ.freeze (.there .here) fun g2 hg2 HS => ?_
    refine TQ.endR1 (L' := L) Tryz.results128 rvA rfl (hgx.trans hg2) ?_ selF
    exact ⟨_, rfl, rfl, HS⟩
  · rintro D c y g1 h
    exact h.elim
theorem collect_does (F : FuncId) (es : List (Pt × Pt)) (lb : Array Value) (g : Gh) (L : List Ent) (hl : es.length ≤ 1000000) (hc : callable Tryz.prog F = true) (it : Iter Tryz.prog F lb (es.map fun e => #[edV e]) g) :
    Does Tryz.prog 113 #[.func (.func F) #[] lb] g L (fun e g' L' => ∃ v, e = .returned v ∧ L' = L ∧ Sl g' v es.length 4 (flatE es)) := by
  refine Does.of1 Tryz.func113 rfl Tryz.ntmps113 rfl ?_
  have A := fun L => seq_does F es lb g L hl hc it
  clear it
  repeat' (first
    | refine wkQ ?_
    | refine wkV ?_
    | (refine TL.call (Enters.plain (by kernel_rfl) (by rfl)) (by rfl) (A _) ?_; (rintro e g1 Ln hg1 ⟨v, k1, k2, k3⟩; have k2 := k2.symm; subst k1; subst k2; obtain ⟨a1, c1, rfl⟩ := k3.slice; have K3 := Hn.mk k3; clear k3; refine CallK.ret ?_))
    | refine stS ?_ | (refine stB ?_; intro _) | (refine stC ?_; refine And.intro (fun _ => ?_) (fun _ => ?_)))
  refine TQ.endR1 (L' := L) Tryz.results113 rvA rfl (by assumption) ?_ selF
  exact ⟨_, rfl, rfl, K3.out⟩
def apE (es : List (Pt × Pt)) (i k : Nat) : Bool := match es[i]?, es[k]? with
  | some x, some y => apartE es.length i k x y
  | _, _ => true
theorem apE_at {es : List (Pt × Pt)} {i k : Nat} {x y : Pt × Pt} (hx : es[i]? = some x) (hy : es[k]? = some y) : apE es i k = apartE es.length i k x y := by
  unfold apE; rw [hx, hy]
def simpleE (es : List (Pt × Pt)) : Bool := (List.range es.length).all fun k => (List.range k).all fun i => apE es i k
theorem simpleE_yes {es : List (Pt × Pt)} (h : ∀ k, k < es.length → ∀ i, i < k → apE es i k = true) : simpleE es = true :=
  List.all_eq_true.2 fun k hk => List.all_eq_true.2 fun i hi => h k (List.mem_range.1 hk) i (List.mem_range.1 hi)
theorem simpleE_no {es : List (Pt × Pt)} {i k : Nat} (hk : k < es.length) (hi : i < k) (h : apE es i k = false) : simpleE es = false := by
  cases hb : simpleE es with
  | false => rfl
  | true =>
    have := List.all_eq_true.1 (List.all_eq_true.1 hb k (List.mem_range.2 hk)) i (List.mem_range.2 hi)
    rw [h] at this; cases this
set_option maxHeartbeats 16000000 in
theorem simple_gives (k : Int) (l : List Pt) (pv v : Value) (g : Gh) (L : List Ent) (hp : pv.one = true) (hS : Sl g v l.length 2 (flatP l)) (hl : l.length ≤ 1000000) (h3 : 2 < (partE k l).length) : Gives Tryz.prog 85 #[shV k pv, v] g L (.bool (simpleE (partE k l))) := by
  refine .of (Does.of2 Tryz.func85 rfl Tryz.ntmps85 rfl ?_)
  have hpl : (partE k l).length ≤ 1000000 := by rw [partE_len]; split <;> omega
  have ED := fun L => sedges_does k l pv v g L hp hS hl
  have CO := fun lb g L it => collect_does 118 (partE k l) lb g L hpl (by kernel_rfl) it
  obtain ⟨ao, cap, rfl⟩ := hS.slice
  unfold partI at ED
  generalize partE k l = es at *
  clear hS
  repeat' (first
    | refine wkQ ?_
    | refine wkV ?_
    | (refine TL.call (Enters.plain (by kernel_rfl) (by rfl)) (by rfl) (ED _) ?_; (rintro e g1 Ln hg1 ⟨lb, k1, k2, it⟩; have k2 := k2.symm; subst k1; subst k2; refine CallK.ret ?_))
    | (refine TL.call (Enters.plain (by kernel_rfl) (by rfl)) (by rfl) (CO _ _ _ (by assumption)) ?_; (rintro e g2 Ln hg2 ⟨vc, k1, k2, k3⟩; have k2 := k2.symm; subst k1; subst k2; obtain ⟨a1, c1, rfl⟩ := k3.slice; have K3 := Hn.mk k3; clear k3; refine CallK.ret ?_))
    | refine stS ?_ | (refine stB ?_; intro _) | (refine stC ?_; refine And.intro (fun _ => ?_) (fun _ => ?_)))
  rename_i b2 _
  have hl2 : es.length ≤ 1000000 := hpl
  obtain ⟨R, hR⟩ : ∃ R, R = simpleE es := ⟨_, rfl⟩
  rw [← hR]
  refine TC.loopK (fun k : Nat => k ≤ es.length ∧ ∀ k', k' < k → ∀ i', i' < k' → apE es i' k' = true) (fun k => es.length - k) (fun k _ => [(14, .int .i64 (k : Nat)), (13, .int .i64 (es.length : Nat)), (5, .slice a1 es.length c1)]) [] .nil (fun _ L => L) 0 ⟨Nat.zero_le _, fun k' h => absurd h (Nat.not_lt_zero _)⟩ subA selF ?_
  clear ED CO it
  rintro k ⟨hk, hI⟩
  try dsimp only at hk hI ⊢
  by_cases hlt : k < es.length
  · obtain ⟨y, hy⟩ : ∃ y, es[k]? = some y := ⟨_, List.getElem?_eq_getElem hlt⟩
    have HI := Hn.mk hI
    clear hI
    repeat' (first
    | refine wkQ ?_
    | refine wkV ?_
    | refine stS ?_ | (refine stB ?_; intro _) | (refine stC ?_; refine And.intro (fun _ => ?_) (fun _ => ?_)))
    refine TC.loopK (fun i : Nat => i ≤ k ∧ ∀ i', i' < i → apE es i' k = true) (fun i => k - i) (fun i _ => [(18, .int .i64 (i : Nat)), (17, .int .i64 (k : Nat)), (6, .int .i64 (k : Nat)), (14, .int .i64 (k : Nat)), (13, .int .i64 (es.length : Nat)), (5, .slice a1 es.length c1)]) [] .nil (fun _ L => L) 0 ⟨Nat.zero_le _, fun i' h => absurd h (Nat.not_lt_zero _)⟩ subA selF ?_
    rintro i ⟨hi, hJ⟩
    try dsimp only at hi hJ ⊢
    by_cases hlt2 : i < k
    · obtain ⟨x, hx⟩ : ∃ x, es[i]? = some x := ⟨_, List.getElem?_eq_getElem (by omega)⟩
      have AP := fun L => apart_gives es _ i k x y g2 L K3.out hpl h3 hx hy
      have hap := apE_at hx hy
      have HJ := Hn.mk hJ
      clear hJ hx
      cases hb : apartE es.length i k x y with
      | true =>
        rw [hb] at AP hap
        repeat' (first
    | refine wkQ ?_
    | refine wkV ?_
    | ((with_reducible apply TL.gives_plain); (· kernel_rfl); (· rfl); (· exact AP _); (· rfl)) | ((with_reducible apply TW.gives_plain); (· kernel_rfl); (· rfl); (· exact AP _); (· rfl))
    | refine stS ?_ | (refine stB ?_; intro _) | (refine stC ?_; refine And.intro (fun _ => ?_) (fun _ => ?_)))
        refine TQ.round (i + 1) ?_ ?_ rfl subA selF
        · refine ⟨by omega, fun i' h => ?_⟩
          by_cases he : i' = i
          · rw [he]; exact hap
          · exact HJ.out i' (by omega)
        · show k - (i + 1) < k - i
          omega
      | false =>
        rw [hb] at AP hap
        repeat' (first
    | refine wkQ ?_
    | refine wkV ?_
    | ((with_reducible apply TL.gives_plain); (· kernel_rfl); (· rfl); (· exact AP _); (· rfl)) | ((with_reducible apply TW.gives_plain); (· kernel_rfl); (· rfl); (· exact AP _); (· rfl))
    | refine stS ?_ | (refine stB ?_; intro _) | (refine stC ?_; refine And.intro (fun _ => ?_) (fun _ => ?_)))
        refine TQ.less (hg1.trans hg2) ?_
        refine TQ.endR1 (L' := L) Tryz.results85 rvA rfl (.refl _) ?_ selF
        exact ⟨by rw [hR, simpleE_no hlt hlt2 hap], rfl, rfl⟩
    · obtain rfl : i = k := by omega
      have HJ := Hn.mk hJ
      clear hJ
      repeat' (first
    | refine wkQ ?_
    | refine wkV ?_
    | refine stS ?_ | (refine stB ?_; intro _) | (refine stC ?_; refine And.intro (fun _ => ?_) (fun _ => ?_)))
      refine TQ.round (i + 1) ?_ ?_ rfl subA selF
      · refine ⟨by omega, fun k' h => ?_⟩
        by_cases he : k' = i
        · rw [he]; exact HJ.out
        · exact HI.out k' (by omega)
      · show es.length - (i + 1) < es.length - i
        omega
  · obtain rfl : k = es.length := by omega
    have hT := simpleE_yes hI
    clear hI
    repeat' (first
    | refine wkQ ?_
    | refine wkV ?_
    | refine stS ?_ | (refine stB ?_; intro _) | (refine stC ?_; refine And.intro (fun _ => ?_) (fun _ => ?_)))
    refine TQ.less (hg1.trans hg2) ?_
    refine TQ.endR1 (L' := L) Tryz.results85 rvA rfl (.refl _) ?_ selF
    exact ⟨by rw [hR, hT], rfl, rfl⟩
end Go.Proofs.YtfanccddokckcaaGreatDoor
