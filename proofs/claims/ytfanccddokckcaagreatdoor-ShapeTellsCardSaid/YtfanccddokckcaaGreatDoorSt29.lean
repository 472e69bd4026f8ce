/-
  The walks of geom's Bounds, shape's Box. What is right of a shape that is right; the walk of shape's Box. The walk of shape's any: a loop in a loop, over iterators.
-/
import Derived.Test.YtfanccddokckcaaGreatDoorSt2
import Derived.Test.YtfanccddokckcaaGreatDoorSt28
namespace Go.Proofs.YtfanccddokckcaaGreatDoor
open Go.RowKit Go.TL
set_option maxRecDepth 100000

abbrev rcC (r : Rc) : List Value := [.int .i64 r.x0, .int .i64 r.y0, .int .i64 r.x1, .int .i64 r.y1]
def bdF (r : Rc) (l : List Pt) : Rc := l.foldl (fun r q => joinR r (spanR q q)) r
def bdL : List Pt → Rc
  | [] => ⟨0, 0, 0, 0⟩
  | p :: l => bdF (spanR p p) (p :: l)
theorem bdF_cons (r : Rc) (q : Pt) (l : List Pt) : bdF r (q :: l) = bdF (joinR r (spanR q q)) l := rfl
set_option maxHeartbeats 16000000 in
theorem Bounds_gives (l : List Pt) (v : Value) (g : Gh) (L : List Ent) (hS : Sl g v l.length 2 (flatP l)) (hl : l.length ≤ 1000000) (h0 : 0 < l.length) (hm : l.all mayB = true) : Gives Tryz.prog 64 #[v] g L (.tuple #[rcV (bdL l), .bool true]) := by
  have AL := fun L => all_gives l v g L hS hl
  rw [hm] at AL
  refine .of (Does.of1 Tryz.func64 rfl Tryz.ntmps64 rfl ?_)
  obtain ⟨ao, cap, rfl⟩ := hS.slice
  obtain ⟨p0, hp0⟩ : ∃ p, l[0]? = some p := ⟨_, List.getElem?_eq_getElem h0⟩
  obtain ⟨R, hR⟩ : ∃ R, R = bdL l := ⟨_, rfl⟩
  have hI0 : bdF (spanR p0 p0) (l.drop 0) = R := by
    rw [hR, List.drop_zero]
    cases l with
    | nil => cases hp0
    | cons p r => obtain rfl : p = p0 := by simpa using hp0
                  rfl
  rw [← hR]
  clear hR hm
  have hn : decide (((l.length : Nat) : Int) = 0) = false := decide_eq_false (by omega)
  obtain ⟨b1, o1, rfl, hgA⟩ := hS.elem (i := 0) h0 (by decide)
  have hld := pt_cells hgA (flatP_get hp0).1 (flatP_get hp0).2
  have hll : [Value.int .i64 p0.1, .int .i64 p0.2].length = 2 := rfl
  have SP := fun L => span_gives g L p0 p0
  clear hgA
  repeat' (first
    | refine wkQ ?_
    | ((with_reducible apply TL.pure (d := 9) (v := .bool false)); (· exact Y.eql_b hn rfl rfl); (· rfl)) | ((with_reducible apply TW.pure (d := 9) (v := .bool false)); (· exact Y.eql_b hn rfl rfl); (· rfl))
    | refine wkV ?_
    | ((with_reducible apply TL.gives_plain); (· kernel_rfl); (· rfl); (· exact AL _); (· rfl)) | ((with_reducible apply TW.gives_plain); (· kernel_rfl); (· rfl); (· exact AL _); (· rfl))
    | ((with_reducible apply TL.gives_plain); (· kernel_rfl); (· rfl); (· exact SP _); (· rfl)) | ((with_reducible apply TW.gives_plain); (· kernel_rfl); (· rfl); (· exact SP _); (· rfl))
    | refine stS ?_ | (refine stB ?_; intro _) | (refine stC ?_; refine And.intro (fun _ => ?_) (fun _ => ?_))
    | ((with_reducible apply TA.two 6 7); (· rfl); (· rfl); (· decide +kernel); (· rfl); (· rfl))
    | refine wkN0 ?_
    | refine wkN1 ?_
    | refine wkN2 ?_
    | refine wkN3 ?_
    | refine wkG0 ?_
    | refine wkG1 ?_
    | refine wkG2 ?_
    | refine wkG3 ?_
    | refine wkX0 ?_
    | refine wkX1 ?_
    | refine wkX2 ?_
    | refine wkX3 ?_
    | refine wkN0 ?_
    | refine wkN1 ?_
    | refine wkN2 ?_
    | refine wkN3 ?_
    | ((with_reducible apply TA.oneN 0); (· rfl); (· rfl); (· decide +kernel); (· rfl))
    | ((with_reducible apply TA.oneN 1); (· rfl); (· rfl); (· decide +kernel); (· rfl))
    | ((with_reducible apply TA.oneN 2); (· rfl); (· rfl); (· decide +kernel); (· rfl))
    | ((with_reducible apply TA.oneN 3); (· rfl); (· rfl); (· decide +kernel); (· rfl))
    | refine TQ.any leF selF ?_
    | refine TC.region_any 9 (_) (by kernel_rfl) rfl selF ?_ | refine TA.done (by decide +kernel) ?_ | refine TQ.any_panic ?_)
  all_goals
    rename_i b2 b4
    clear hld hll SP AL hp0
    refine TC.loop (fun z : Nat × Rc => z.1 ≤ l.length ∧ bdF z.2 (l.drop z.1) = R) (fun z => l.length - z.1) (fun z => [(25, .int .i64 (z.1 : Nat)), (24, .int .i64 (l.length : Nat)), (23, .slice (some ⟨b1, o1, none⟩) l.length cap), (4, .pointer (some ⟨b4, 0, none⟩)), (2, .pointer (some ⟨b2, 0, none⟩))]) (fun _ => g) (fun z => .obj b4 (.cells (rcC z.2).toArray 48 (0, 0)) :: .obj b2 (.cells (rcC ⟨0, 0, 0, 0⟩).toArray 48 (0, 0)) :: L) (0, spanR p0 p0) ⟨Nat.zero_le _, hI0⟩ rfl subA selF ?_
    clear hI0
    rintro ⟨i, r⟩ ⟨hi, hI⟩
    dsimp only at hi hI ⊢
    by_cases hlt : i < l.length
    · obtain ⟨q, hq⟩ : ∃ q, l[i]? = some q := ⟨_, List.getElem?_eq_getElem hlt⟩
      obtain ⟨b5, o5, he, hg⟩ := hS.elem hlt (by decide)
      obtain ⟨rfl, rfl⟩ : b1 = b5 ∧ o1 = o5 := by simpa using he
      have hld := pt_cells hg (flatP_get hq).1 (flatP_get hq).2
      have hll : [Value.int .i64 q.1, .int .i64 q.2].length = 2 := rfl
      rw [drop_of_get hq, bdF_cons] at hI
      have SP := fun L => span_gives g L q q
      have JN := fun L => join_gives g L r (spanR q q)
      clear hS hg he hq
      repeat' (first
    | refine wkQ ?_
    | refine wkV ?_
    | ((with_reducible apply TL.gives_plain); (· kernel_rfl); (· rfl); (· exact SP _); (· rfl)) | ((with_reducible apply TW.gives_plain); (· kernel_rfl); (· rfl); (· exact SP _); (· rfl))
    | ((with_reducible apply TL.gives_plain); (· kernel_rfl); (· rfl); (· exact JN _); (· rfl)) | ((with_reducible apply TW.gives_plain); (· kernel_rfl); (· rfl); (· exact JN _); (· rfl))
    | refine stS ?_ | (refine stB ?_; intro _) | (refine stC ?_; refine And.intro (fun _ => ?_) (fun _ => ?_))
    | refine TC.region_sink 5 6 ([.obj b4 (.cells (rcC r).toArray 48 (0, 0)), .obj _ (.cells (ptC q).toArray 50 (0, 0))]) (by kernel_rfl) (by decide +kernel) rfl selF ?_ | refine TQ.anyT_panic ?_
    | ((with_reducible apply TB.takeF 0); (· rfl); (· decide +kernel); (· rfl); (· first | (first | exact yQ | exact yA | exact yB | exact yM | exact yV) | fail); (· decide +kernel); (· decide +kernel); (· rfl); (· exact fun _ _ _ h => h); (· rfl))
    | ((with_reducible apply TB.takeF 1); (· rfl); (· decide +kernel); (· rfl); (· first | (first | exact yQ | exact yA | exact yB | exact yM | exact yV) | fail); (· decide +kernel); (· decide +kernel); (· rfl); (· exact fun _ _ _ h => h); (· rfl))
    | ((with_reducible apply TB.takeF 2); (· rfl); (· decide +kernel); (· rfl); (· first | (first | exact yQ | exact yA | exact yB | exact yM | exact yV) | fail); (· decide +kernel); (· decide +kernel); (· rfl); (· exact fun _ _ _ h => h); (· rfl))
    | ((with_reducible apply TB.takeF 3); (· rfl); (· decide +kernel); (· rfl); (· first | (first | exact yQ | exact yA | exact yB | exact yM | exact yV) | fail); (· decide +kernel); (· decide +kernel); (· rfl); (· exact fun _ _ _ h => h); (· rfl))
    | ((with_reducible apply TB.takeF 4); (· rfl); (· decide +kernel); (· rfl); (· first | (first | exact yQ | exact yA | exact yB | exact yM | exact yV) | fail); (· decide +kernel); (· decide +kernel); (· rfl); (· exact fun _ _ _ h => h); (· rfl))
    | ((with_reducible apply TB.takeF 5); (· rfl); (· decide +kernel); (· rfl); (· first | (first | exact yQ | exact yA | exact yB | exact yM | exact yV) | fail); (· decide +kernel); (· decide +kernel); (· rfl); (· exact fun _ _ _ h => h); (· rfl))
    | ((with_reducible apply TB.oneF 0); (· rfl); (· rfl); (· decide +kernel); (· rfl); intro hsk)
    | ((with_reducible apply TB.oneF 1); (· rfl); (· rfl); (· decide +kernel); (· rfl); intro hsk)
    | ((with_reducible apply TB.oneF 2); (· rfl); (· rfl); (· decide +kernel); (· rfl); intro hsk)
    | ((with_reducible apply TB.oneF 3); (· rfl); (· rfl); (· decide +kernel); (· rfl); intro hsk)
    | ((with_reducible apply TB.oneF 4); (· rfl); (· rfl); (· decide +kernel); (· rfl); intro hsk)
    | ((with_reducible apply TB.oneF 5); (· rfl); (· rfl); (· decide +kernel); (· rfl); intro hsk)
    | refine TQ.lastT (by decide +kernel) ?_ | refine TQ.anyT (by assumption) leF selF ?_)
      refine TQ.round (i + 1, joinR r (spanR q q)) ?_ ?_ rfl subA selF
      · exact ⟨by omega, hI⟩
      · show l.length - (i + 1) < l.length - i
        omega
    · obtain rfl : i = l.length := by omega
      rw [List.drop_length] at hI
      obtain rfl : r = R := hI
      clear hS
      repeat' (first
    | refine wkQ ?_
    | refine wkV ?_
    | refine stS ?_ | (refine stB ?_; intro _) | (refine stC ?_; refine And.intro (fun _ => ?_) (fun _ => ?_)))
      refine TQ.endR2 (L' := L) Tryz.results64 rvA rvA rfl (.refl _) ?_ selF
      exact ⟨rfl, rfl, rfl⟩
end Go.Proofs.YtfanccddokckcaaGreatDoor
namespace Go.Proofs.YtfanccddokckcaaGreatDoor
open Go.RowKit Go.TL
set_option maxRecDepth 100000

theorem okP_all {p : List Pt} (h : okP p = true) : p ≠ [] ∧ p.all mayB = true := by
  unfold okP at h
  rw [Bool.and_eq_true, Bool.and_eq_true] at h
  obtain ⟨⟨h1, h2⟩, _⟩ := h
  constructor
  · rintro rfl; cases h1
  · rw [List.all_eq_true]
    intro x hx
    cases hm : mayB x with
    | true => rfl
    | false =>
      have : p.any (fun q => !mayB q) = true := List.any_eq_true.2 ⟨x, hx, by rw [hm]; rfl⟩
      rw [this] at h2; cases h2
theorem rightL_props (k : Int) : ∀ (ps : List (List Pt)) (c c' : Nat), rightL k ps c = some c' → (∀ q ∈ ps, okP q = true) ∧ c + ps.flatten.length ≤ c' ∧ (k = 2 → ps ≠ [] → c' ≤ 256)
  | [], c, c', h => by
    rw [rightL] at h
    cases h
    exact ⟨fun q hq => (by simp at hq), by simp, fun _ h => absurd rfl h⟩
  | p :: r, c, c', h => by
    rw [rightL] at h
    split at h
    · rename_i hok
      split at h
      · rename_i hk
        split at h
        · rename_i hr
          obtain ⟨h1, h2, h3⟩ := rightL_props k r _ _ h
          refine ⟨fun q hq => ?_, ?_, fun _ _ => ?_⟩
          · rcases List.mem_cons.1 hq with rfl | hq
            · exact hok
            · exact h1 q hq
          · rw [List.flatten_cons, List.length_append]; omega
          · cases r with
            | nil =>
              rw [rightL] at h
              cases h
              unfold okR at hr
              simp only [Bool.and_eq_true, decide_eq_true_eq] at hr
              exact hr.1.2
            | cons a t => exact h3 hk (by simp)
        · cases h
      · rename_i hk
        obtain ⟨h1, h2, h3⟩ := rightL_props k r _ _ h
        refine ⟨fun q hq => ?_, ?_, fun h => absurd h hk⟩
        · rcases List.mem_cons.1 hq with rfl | hq
          · exact hok
          · exact h1 q hq
        · rw [List.flatten_cons, List.length_append]; omega
    · cases h
structure RightP (k : Int) (ps : List (List Pt)) : Prop where
  ne : ps ≠ []
  ok : ∀ q ∈ ps, okP q = true
  le : ps.flatten.length ≤ 256
  kd : k = 0 ∨ k = 1 ∨ k = 2
theorem right_props {k : Int} {ps : List (List Pt)} (h : rightB k ps = true) : RightP k ps := by
  rw [rightB_eq] at h
  cases hr : rightL k ps 0 with
  | none => rw [hr] at h; cases h
  | some c =>
    rw [hr] at h
    obtain ⟨h1, h2, h3⟩ := rightL_props k ps 0 c hr
    replace h : finR k ps.length c = true := h
    unfold finR at h
    split at h
    · simp only [Bool.and_eq_true, decide_eq_true_eq] at h
      exact ⟨by rintro rfl; simp at h, h1, by omega, by omega⟩
    · split at h
      · simp only [Bool.and_eq_true, decide_eq_true_eq] at h
        exact ⟨by rintro rfl; simp at h, h1, by omega, by omega⟩
      · simp only [Bool.and_eq_true, decide_eq_true_eq] at h
        have hne : ps ≠ [] := by rintro rfl; simp at h
        exact ⟨hne, h1, by have := h3 h.1 hne; omega, by omega⟩
theorem RightP.all {k : Int} {ps : List (List Pt)} (h : RightP k ps) : ps.flatten.all mayB = true := by
  rw [List.all_eq_true]
  intro x hx
  obtain ⟨q, hq, hx⟩ := List.mem_flatten.1 hx
  exact List.all_eq_true.1 (okP_all (h.ok q hq)).2 x hx
theorem RightP.pos {k : Int} {ps : List (List Pt)} (h : RightP k ps) : 0 < ps.flatten.length := by
  cases hp : ps with
  | nil => exact absurd hp h.ne
  | cons q r =>
    have := (okP_all (h.ok q (by rw [hp]; exact List.mem_cons_self))).1
    rw [List.flatten_cons, List.length_append]
    have : 0 < q.length := List.length_pos_iff.2 this
    omega
def boxX (k : Int) (ps : List (List Pt)) : Rc := if rightB k ps = true then bdL ps.flatten else ⟨0, 0, 0, 0⟩
set_option maxHeartbeats 8000000 in
theorem sBox_gives (k : Int) (ps : List (List Pt)) (v : Value) (g : Gh) (L : List Ent) (hS : IsParts g v ps) (hO : ShOk ps) : Gives Tryz.prog 26 #[shV k v] g L (rcV (boxX k ps)) := by
  have RI := fun L => sright_gives k ps v g L hS hO
  refine .of (Does.of1 Tryz.func26 rfl Tryz.ntmps26 rfl ?_)
  unfold boxX
  cases h1 : rightB k ps with
  | false =>
    obtain ⟨av, cv, rfl⟩ : ∃ a c, v = .slice a ps.length c := by obtain ⟨_, h, _⟩ := hS; exact h.slice
    rw [h1] at RI
    clear hS hO
    rw [if_neg (by decide)]
    repeat' (first
    | refine wkQ ?_
    | refine wkV ?_
    | ((with_reducible apply TL.gives_plain); (· kernel_rfl); (· rfl); (· exact RI _); (· rfl)) | ((with_reducible apply TW.gives_plain); (· kernel_rfl); (· rfl); (· exact RI _); (· rfl))
    | refine stS ?_ | (refine stB ?_; intro _) | (refine stC ?_; refine And.intro (fun _ => ?_) (fun _ => ?_)))
    refine TQ.endR1 (L' := L) Tryz.results26 rvA rfl (.refl _) ?_ selF
    exact ⟨rfl, rfl, rfl⟩
  | true =>
    have hP := right_props h1
    have h0 := hP.pos
    have hle := hP.le
    have hal := hP.all
    have CC := fun L => concat_does ps v g L hS hO h0 (by omega)
    obtain ⟨av, cv, rfl⟩ : ∃ a c, v = .slice a ps.length c := by obtain ⟨_, h, _⟩ := hS; exact h.slice
    rw [h1] at RI
    rw [if_pos rfl]
    generalize ps.flatten = l at *
    have BD : ∀ {g1 : Gh} {u : Value} (_ : Sl g1 u l.length 2 (flatP l)) (L : List Ent), Gives Tryz.prog 64 #[u] g1 L (.tuple #[rcV (bdL l), .bool true]) := fun hS L => Bounds_gives l _ _ L hS (by omega) h0 hal
    clear hS hO hP
    repeat' (first
    | refine wkQ ?_
    | refine wkV ?_
    | ((with_reducible apply TL.gives_plain); (· kernel_rfl); (· rfl); (· exact RI _); (· rfl)) | ((with_reducible apply TW.gives_plain); (· kernel_rfl); (· rfl); (· exact RI _); (· rfl))
    | (refine TL.call (Enters.plain (by kernel_rfl) (by rfl)) (by rfl) (CC _) ?_; (rintro e g1 Ln hg1 ⟨vl, k1, k2, k3⟩; have k2 := k2.symm; subst k1; subst k2; obtain ⟨a1, c1, rfl⟩ := k3.slice; have BD1 := fun L => BD k3 L; clear k3; refine CallK.ret ?_))
    | ((with_reducible apply TL.gives_plain); (· kernel_rfl); (· rfl); (· exact BD1 _); (· rfl)) | ((with_reducible apply TW.gives_plain); (· kernel_rfl); (· rfl); (· exact BD1 _); (· rfl))
    | refine stS ?_ | (refine stB ?_; intro _) | (refine stC ?_; refine And.intro (fun _ => ?_) (fun _ => ?_)))
    refine TQ.less (by assumption) ?_
    refine TQ.endR1 (L' := L) Tryz.results26 rvA rfl (.refl _) ?_ selF
    exact ⟨rfl, rfl, rfl⟩
end Go.Proofs.YtfanccddokckcaaGreatDoor
namespace Go.Proofs.YtfanccddokckcaaGreatDoor
open Go.RowKit Go.TL
set_option maxRecDepth 100000

def anyE (P : Pt → Pt → Pt → Pt → Bool) (es fs : List (Pt × Pt)) : Bool := es.any fun x => fs.any fun y => P x.1 x.2 y.1 y.2
set_option maxHeartbeats 16000000 in
theorem sany_gives (F : FuncId) (P : Pt → Pt → Pt → Pt → Bool) (k m : Int) (ps ts : List (List Pt)) (v u : Value) (g : Gh) (L : List Ent) (hc : callable Tryz.prog F = true) (hA : ∀ a b c d g L, Gives Tryz.prog F #[pt a, pt b, pt c, pt d] g L (.bool (P a b c d))) (hS : IsParts g v ps) (hO : ShOk ps) (hT : IsParts g u ts) (hU : ShOk ts) :
    Gives Tryz.prog 48 #[shV k v, shV m u, .func (.func F) #[] #[]] g L (.bool (anyE P (allE k ps) (allE m ts))) := by
  have AL := fun L => sall_does k ps v g L hS hO.len hO.part
  obtain ⟨av, cv, rfl⟩ : ∃ a c, v = .slice a ps.length c := by obtain ⟨_, h, _⟩ := hS; exact h.slice
  have AM := fun g1 (h : g.le g1) L => sall_does m ts u g1 L (hT.le h) hU.len hU.part
  obtain ⟨au, cu, rfl⟩ : ∃ a c, u = .slice a ts.length c := by obtain ⟨_, h, _⟩ := hT; exact h.slice
  refine .of (Does.ofM3 Tryz.func48 rfl Tryz.ntmps48 rfl ?_)
  clear hS hO hT hU
  repeat' (first
    | refine wkQ ?_
    | refine wkV ?_
    | (refine TL.call (Enters.plain (by kernel_rfl) (by rfl)) (by rfl) (AL _) ?_; (rintro e g1 Ln hg1 ⟨lb, k1, k2, it⟩; have k2 := k2.symm; subst k1; subst k2; refine CallK.ret ?_))
    | refine stS ?_ | (refine stB ?_; intro _) | (refine stC ?_; refine And.intro (fun _ => ?_) (fun _ => ?_)))
  rename_i b3 b4 b5 b6
  unfold allI at it AM
  generalize allE k ps = es at *
  generalize allE m ts = fs at *
  obtain ⟨R, hR⟩ : ∃ R, R = anyE P es fs := ⟨_, rfl⟩
  rw [← hR]
  clear AL
  refine TC.rangeF (ps := #[11]) (xs := es.map fun e => #[edV e]) rfl (by kernel_rfl) it (by intro x hx; obtain ⟨e, _, rfl⟩ := List.mem_map.1 hx; rfl) (by rfl)
    (fun i (_ : Nat) => anyE P (es.drop i) fs = R) (fun _ => g1) (fun _ => [.obj b6 (.cells [.bool false].toArray 4 (0, 0)), .obj b5 (.cells [.func (.func F) #[] #[]].toArray _ (0, 0)), .obj b4 (.cells [.int .i64 m, .slice au ts.length cu].toArray 30 (0, 0))])
    (fun c (_ : Nat) => c = .ret ∧ R = true) (fun _ => g1) (fun _ => [.obj b6 (.cells [.bool true].toArray 4 (0, 0))])
    (.obj b3 (.cells [.int .i64 k, .slice av ps.length cv].toArray 30 (0, 0)) :: L) 0 hR.symm (.refl _) selF ?_ ?_ ?_
  · rintro r rc i x _ M gx hrc hx hI hgx _
    obtain ⟨⟨a, b⟩, he, rfl⟩ := item_of hx
    rw [drop_of_get he] at hI
    replace hI : (fs.any (fun y => P a b y.1 y.2) || anyE P (es.drop (i + 1)) fs) = R := hI
    dsimp only [List.cons_append, List.nil_append]
    refine TR.weak (S' := [(11, edV (a, b)), (6, .pointer (some ⟨b6, 0, none⟩)), (5, .pointer (some ⟨b5, 0, none⟩)), (4, .pointer (some ⟨b4, 0, none⟩))]) ?_ subA .refl
    have AX := fun L => AM gx (hg1.trans hgx) L
    clear it hx he hR AM
    repeat' (first
    | refine wkQ ?_
    | refine wkV ?_
    | (refine TL.call (Enters.plain (by kernel_rfl) (by rfl)) (by rfl) (AX _) ?_; (rintro e g2 Ln hg2 ⟨lb2, k1, k2, it2⟩; have k2 := k2.symm; subst k1; subst k2; refine CallK.ret ?_))
    | refine wkP ?_
    | refine TR.seq ?_ | refine TR.region (by rfl) ?_ | refine TL.nil ?_ | refine TQ.then_R ?_ | refine TQ.begin (by assumption) pkA ?_
    | ((with_reducible apply TL.storeE); (· rfl); (· rfl); (· rfl); (· exact pkA); (· infer_instance)) | ((with_reducible apply TL.store_whole); (· rfl); (· rfl); (· exact oneA); (· rfl); (· exact pkA); (· rfl))
    | refine TR.block ?_ | refine TR.ret ?_ | refine TR.skip ?_ | refine TR.exit ?_ | refine TR.cond rfl ?_
    | refine TQ.down ?_ | refine TQ.in_exit' rfl ?_
    | refine TL.guard_yes rfl rfl ?_ | refine TL.guard_no rfl rfl rfl rfl ?_ | refine TL.guard_no0 rfl rfl rfl ?_ | refine TL.guard_undef rfl rfl rfl ?_ | refine TL.guard_undef0 rfl rfl ?_ | refine TL.guard rfl rfl rfl ?_
    | refine Br.t rfl ?_ | refine Br.f rfl ?_ | refine Br.ky kpA ?_ | refine Br.kn kpA ?_ | refine Br.nky kpA ?_ | refine Br.nkn kpA ?_
    | refine Br.eq0 (fun _ => ?_) (fun _ => ?_) | refine Br.neq0 (fun _ => ?_) (fun _ => ?_) | refine Br.eq (fun _ => ?_) (fun _ => ?_) | refine Br.neq (fun _ => ?_) (fun _ => ?_) | refine Br.not (fun _ => ?_) (fun _ => ?_) | refine Br.dec (fun _ => ?_) (fun _ => ?_) | refine Br.bool (fun _ => ?_) (fun _ => ?_)
    | ((with_reducible apply TL.alloc_ag); (· rfl); intro _) | ((with_reducible apply TL.alloc_sc); (· rfl); (· rfl); intro _) | ((with_reducible apply TL.box_ag); (· rfl); (· rfl); intro _) | ((with_reducible apply TL.box_sc); (· rfl); (· rfl); (· rfl); intro _))
    rename_i b7
    obtain ⟨R2, hR2⟩ : ∃ R2, R2 = fs.any (fun y => P a b y.1 y.2) := ⟨_, rfl⟩
    rw [← hR2] at hI
    refine TR.rangeF (ps := #[14]) (xs := fs.map fun e => #[edV e]) pkA rfl (by kernel_rfl) it2 (by intro x hx; obtain ⟨e, _, rfl⟩ := List.mem_map.1 hx; rfl) (by rfl)
      (fun i (_ : Nat) => (fs.drop i).any (fun y => P a b y.1 y.2) = R2) (fun _ => g2) (fun _ => [.obj b7 (.cells (edC (a, b)).toArray 101 (0, 0)), .obj b6 (.cells [.bool false].toArray 4 (0, 0)), .obj b5 (.cells [.func (.func F) #[] #[]].toArray _ (0, 0))])
      (fun c (_ : Nat) => c = .ret ∧ R2 = true) (fun _ => g2) (fun _ => [.obj b6 (.cells [.bool true].toArray 4 (0, 0))])
      (.obj r (.loop (rc .busy none)) :: .obj b4 (.cells [.int .i64 m, .slice au ts.length cu].toArray 30 (0, 0)) :: M) 0 hR2.symm (.refl _) selF ?_ ?_ ?_
    · rintro r2 rc2 i2 x _ M2 gy hrc2 hx hJ hgy _
      obtain ⟨⟨c, d⟩, he, rfl⟩ := item_of hx
      rw [drop_of_get he, List.any_cons] at hJ
      dsimp only [List.cons_append, List.nil_append]
      refine TR.weak (S' := [(14, edV (c, d)), (7, .pointer (some ⟨b7, 0, none⟩)), (6, .pointer (some ⟨b6, 0, none⟩)), (5, .pointer (some ⟨b5, 0, none⟩))]) ?_ subA .refl
      have PA := fun L => hA a b c d gy L
      clear it2 hx he hR2 hI hA
      cases hp : P a b c d with
      | true =>
        rw [hp] at PA hJ
        repeat' (first
    | refine wkQ ?_
    | refine wkV ?_
          | refine TL.gives (Enters.func (by rfl) hc (by rfl)) (PA _) (by rfl) ?_
    | refine wkP ?_
    | refine TR.seq ?_ | refine TR.region (by rfl) ?_ | refine TL.nil ?_ | refine TQ.then_R ?_ | refine TQ.begin (by assumption) pkA ?_
    | ((with_reducible apply TL.storeE); (· rfl); (· rfl); (· rfl); (· exact pkA); (· infer_instance)) | ((with_reducible apply TL.store_whole); (· rfl); (· rfl); (· exact oneA); (· rfl); (· exact pkA); (· rfl))
    | refine TR.block ?_ | refine TR.ret ?_ | refine TR.skip ?_ | refine TR.exit ?_ | refine TR.cond rfl ?_
    | refine TQ.down ?_ | refine TQ.in_exit' rfl ?_
    | refine TL.guard_yes rfl rfl ?_ | refine TL.guard_no rfl rfl rfl rfl ?_ | refine TL.guard_no0 rfl rfl rfl ?_ | refine TL.guard_undef rfl rfl rfl ?_ | refine TL.guard_undef0 rfl rfl ?_ | refine TL.guard rfl rfl rfl ?_
    | refine Br.t rfl ?_ | refine Br.f rfl ?_ | refine Br.ky kpA ?_ | refine Br.kn kpA ?_ | refine Br.nky kpA ?_ | refine Br.nkn kpA ?_
    | refine Br.eq0 (fun _ => ?_) (fun _ => ?_) | refine Br.neq0 (fun _ => ?_) (fun _ => ?_) | refine Br.eq (fun _ => ?_) (fun _ => ?_) | refine Br.neq (fun _ => ?_) (fun _ => ?_) | refine Br.not (fun _ => ?_) (fun _ => ?_) | refine Br.dec (fun _ => ?_) (fun _ => ?_) | refine Br.bool (fun _ => ?_) (fun _ => ?_)
    | ((with_reducible apply TL.alloc_ag); (· rfl); intro _) | ((with_reducible apply TL.alloc_sc); (· rfl); (· rfl); intro _) | ((with_reducible apply TL.box_ag); (· rfl); (· rfl); intro _) | ((with_reducible apply TL.box_sc); (· rfl); (· rfl); (· rfl); intro _)
    | ((with_reducible apply TL.pure); (· exact Y.load_part rfl pkA (Nat.le_of_ble_eq_true rfl)); (· rfl)))
        refine TQ.leaves_ret (0 : Nat) ⟨rfl, hJ.symm⟩ hgy (.refl _) hrc2 pkA ?_
        exact selF
      | false =>
        rw [hp] at PA hJ
        repeat' (first
    | refine wkQ ?_
    | refine wkV ?_
          | refine TL.gives (Enters.func (by rfl) hc (by rfl)) (PA _) (by rfl) ?_
    | refine wkP ?_
    | refine TR.seq ?_ | refine TR.region (by rfl) ?_ | refine TL.nil ?_ | refine TQ.then_R ?_ | refine TQ.begin (by assumption) pkA ?_
    | ((with_reducible apply TL.storeE); (· rfl); (· rfl); (· rfl); (· exact pkA); (· infer_instance)) | ((with_reducible apply TL.store_whole); (· rfl); (· rfl); (· exact oneA); (· rfl); (· exact pkA); (· rfl))
    | refine TR.block ?_ | refine TR.ret ?_ | refine TR.skip ?_ | refine TR.exit ?_ | refine TR.cond rfl ?_
    | refine TQ.down ?_ | refine TQ.in_exit' rfl ?_
    | refine TL.guard_yes rfl rfl ?_ | refine TL.guard_no rfl rfl rfl rfl ?_ | refine TL.guard_no0 rfl rfl rfl ?_ | refine TL.guard_undef rfl rfl rfl ?_ | refine TL.guard_undef0 rfl rfl ?_ | refine TL.guard rfl rfl rfl ?_
    | refine Br.t rfl ?_ | refine Br.f rfl ?_ | refine Br.ky kpA ?_ | refine Br.kn kpA ?_ | refine Br.nky kpA ?_ | refine Br.nkn kpA ?_
    | refine Br.eq0 (fun _ => ?_) (fun _ => ?_) | refine Br.neq0 (fun _ => ?_) (fun _ => ?_) | refine Br.eq (fun _ => ?_) (fun _ => ?_) | refine Br.neq (fun _ => ?_) (fun _ => ?_) | refine Br.not (fun _ => ?_) (fun _ => ?_) | refine Br.dec (fun _ => ?_) (fun _ => ?_) | refine Br.bool (fun _ => ?_) (fun _ => ?_)
    | ((with_reducible apply TL.alloc_ag); (· rfl); intro _) | ((with_reducible apply TL.alloc_sc); (· rfl); (· rfl); intro _) | ((with_reducible apply TL.box_ag); (· rfl); (· rfl); intro _) | ((with_reducible apply TL.box_sc); (· rfl); (· rfl); (· rfl); intro _)
    | ((with_reducible apply TL.pure); (· exact Y.load_part rfl pkA (Nat.le_of_ble_eq_true rfl)); (· rfl)))
        refine TQ.goes (0 : Nat) hJ hgy (.refl _) hrc2 pkA ?_
        exact selF
    · rintro _ gy hJ hgy _
      rw [List.length_map, List.drop_length, List.any_nil] at hJ
      subst hJ
      dsimp only [List.cons_append, List.nil_append]
      rw [Bool.false_or] at hI
      clear it2
      repeat' (first
    | refine wkQ ?_
    | refine wkV ?_
    | refine wkP ?_
    | refine TR.seq ?_ | refine TR.region (by rfl) ?_ | refine TL.nil ?_ | refine TQ.then_R ?_ | refine TQ.begin (by assumption) pkA ?_
    | ((with_reducible apply TL.storeE); (· rfl); (· rfl); (· rfl); (· exact pkA); (· infer_instance)) | ((with_reducible apply TL.store_whole); (· rfl); (· rfl); (· exact oneA); (· rfl); (· exact pkA); (· rfl))
    | refine TR.block ?_ | refine TR.ret ?_ | refine TR.skip ?_ | refine TR.exit ?_ | refine TR.cond rfl ?_
    | refine TQ.down ?_ | refine TQ.in_exit' rfl ?_
    | refine TL.guard_yes rfl rfl ?_ | refine TL.guard_no rfl rfl rfl rfl ?_ | refine TL.guard_no0 rfl rfl rfl ?_ | refine TL.guard_undef rfl rfl rfl ?_ | refine TL.guard_undef0 rfl rfl ?_ | refine TL.guard rfl rfl rfl ?_
    | refine Br.t rfl ?_ | refine Br.f rfl ?_ | refine Br.ky kpA ?_ | refine Br.kn kpA ?_ | refine Br.nky kpA ?_ | refine Br.nkn kpA ?_
    | refine Br.eq0 (fun _ => ?_) (fun _ => ?_) | refine Br.neq0 (fun _ => ?_) (fun _ => ?_) | refine Br.eq (fun _ => ?_) (fun _ => ?_) | refine Br.neq (fun _ => ?_) (fun _ => ?_) | refine Br.not (fun _ => ?_) (fun _ => ?_) | refine Br.dec (fun _ => ?_) (fun _ => ?_) | refine Br.bool (fun _ => ?_) (fun _ => ?_)
    | ((with_reducible apply TL.alloc_ag); (· rfl); intro _) | ((with_reducible apply TL.alloc_sc); (· rfl); (· rfl); intro _) | ((with_reducible apply TL.box_ag); (· rfl); (· rfl); intro _) | ((with_reducible apply TL.box_sc); (· rfl); (· rfl); (· rfl); intro _))
      refine TQ.goes (0 : Nat) hI (hgx.trans (hg2.trans hgy)) (hg2.trans hgy) hrc pkA ?_
      exact selF
    · rintro c _ gy ⟨rfl, h2⟩ hgy _
      rw [h2, Bool.true_or] at hI
      dsimp only [List.cons_append, List.nil_append]
      clear it2
      repeat' (first
    | refine wkQ ?_
    | refine wkV ?_
    | refine wkP ?_
    | refine TR.seq ?_ | refine TR.region (by rfl) ?_ | refine TL.nil ?_ | refine TQ.then_R ?_ | refine TQ.begin (by assumption) pkA ?_
    | ((with_reducible apply TL.storeE); (· rfl); (· rfl); (· rfl); (· exact pkA); (· infer_instance)) | ((with_reducible apply TL.store_whole); (· rfl); (· rfl); (· exact oneA); (· rfl); (· exact pkA); (· rfl))
    | refine TR.block ?_ | refine TR.ret ?_ | refine TR.skip ?_ | refine TR.exit ?_ | refine TR.cond rfl ?_
    | refine TQ.down ?_ | refine TQ.in_exit' rfl ?_
    | refine TL.guard_yes rfl rfl ?_ | refine TL.guard_no rfl rfl rfl rfl ?_ | refine TL.guard_no0 rfl rfl rfl ?_ | refine TL.guard_undef rfl rfl rfl ?_ | refine TL.guard_undef0 rfl rfl ?_ | refine TL.guard rfl rfl rfl ?_
    | refine Br.t rfl ?_ | refine Br.f rfl ?_ | refine Br.ky kpA ?_ | refine Br.kn kpA ?_ | refine Br.nky kpA ?_ | refine Br.nkn kpA ?_
    | refine Br.eq0 (fun _ => ?_) (fun _ => ?_) | refine Br.neq0 (fun _ => ?_) (fun _ => ?_) | refine Br.eq (fun _ => ?_) (fun _ => ?_) | refine Br.neq (fun _ => ?_) (fun _ => ?_) | refine Br.not (fun _ => ?_) (fun _ => ?_) | refine Br.dec (fun _ => ?_) (fun _ => ?_) | refine Br.bool (fun _ => ?_) (fun _ => ?_)
    | ((with_reducible apply TL.alloc_ag); (· rfl); intro _) | ((with_reducible apply TL.alloc_sc); (· rfl); (· rfl); intro _) | ((with_reducible apply TL.box_ag); (· rfl); (· rfl); intro _) | ((with_reducible apply TL.box_sc); (· rfl); (· rfl); (· rfl); intro _))
      refine TQ.leaves_ret (0 : Nat) ⟨rfl, hI.symm⟩ (hgx.trans (hg2.trans hgy)) (hg2.trans hgy) hrc pkA ?_
      exact selF
  · rintro D _ gx hI hgx _
    rw [List.length_map, List.drop_length] at hI
    obtain rfl : false = R := hI
    dsimp only [List.cons_append, List.nil_append]
    clear it
    repeat' (first
    | refine wkQ ?_
    | refine wkV ?_
    | refine stS ?_ | (refine stB ?_; intro _) | (refine stC ?_; refine And.intro (fun _ => ?_) (fun _ => ?_)))
    refine TQ.endM [D] rfl (.cons pkA .refl) ?_
    refine TQ.less (hg1.trans hgx) ?_
    refine TQ.endR1 (L' := L) Tryz.results48 rvA rfl (.refl _) ?_ selF
    exact ⟨rfl, rfl, rfl⟩
  · rintro D c _ gx ⟨rfl, rfl⟩ hgx _
    dsimp only [List.cons_append, List.nil_append]
    repeat' (first
    | refine wkQ ?_
    | refine wkV ?_
    | refine stS ?_ | (refine stB ?_; intro _) | (refine stC ?_; refine And.intro (fun _ => ?_) (fun _ => ?_)))
    refine TQ.endM [D] rfl (.cons pkA .refl) ?_
    refine TQ.less (hg1.trans hgx) ?_
    refine TQ.endR1 (L' := L) Tryz.results48 rvA rfl (.refl _) ?_ selF
    exact ⟨rfl, rfl, rfl⟩
end Go.Proofs.YtfanccddokckcaaGreatDoor
