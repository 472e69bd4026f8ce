/-
  The walks of slices.AppendSeq, slices.Collect over edges, shape's simple.
-/
import Derived.Test.YtgollffmdpejiaaGreatDoorQz3
import Derived.Test.YtgollffmdpejiaaGreatDoorQz15
namespace Go.Proofs.YtgollffmdpejiaaGreatDoor
open Go.RowKit Go.TL
set_option maxRecDepth 100000

theorem flatE_take {es : List (Pt × Pt)} {i : Nat} {e : Pt × Pt} (h : es[i]? = some e) : flatE (es.take (i + 1)) = flatE (es.take i) ++ edC e := by
  rw [List.take_add_one, h]
  simp [flatE]
set_option maxHeartbeats 16000000 in
theorem seq_does (F : FuncId) (es : List (Pt × Pt)) (lb : Array Value) (g : Gh) (L : List Ent) (_hl : es.length ≤ 1000000) (hc : callable Tryz.prog F = true) (it : Iter Tryz.prog F lb (es.map fun e => #[edV e]) g) :
    Does Tryz.prog 319 #[.slice none 0 0, .func (.func F) #[] lb] g L (fun e g' L' => ∃ v, e = .returned v ∧ L' = L ∧ Sl g' v es.length 4 (flatE es)) := by
  refine Does.ofM2 Tryz.func319 rfl Tryz.ntmps319 rfl ?_
  refine TC.row_nil 283 4 ?_
  repeat' (first
    | refine wkQ ?_
    | refine wkV ?_
    | refine stS ?_ | (refine stB ?_; intro _) | (refine stC ?_; constructor <;> intro _))
  rename_i b2
  refine TC.rangeF (ps := #[7]) (xs := es.map fun e => #[edV e]) rfl hc it (by intro x hx; obtain ⟨e, _, rfl⟩ := List.mem_map.1 hx; rfl) (by rfl)
    (fun i (z : Nat × Value) => z.1 = i) (fun _ => g) (fun z => [.obj b2 (.cells [z.2].toArray 327 (0, 0)), .row 283 4 z.2 z.1 (flatE (es.take z.1))])
    (fun _ (_ : Nat) => False) (fun _ => g) (fun _ => [])
    L (0, .slice none 0 0) rfl (.refl _) selF ?_ ?_ ?_
  · rintro r rc i x ⟨i, v⟩ M gx hrc hx rfl hgx _
    obtain ⟨⟨a, b⟩, he, rfl⟩ := item_of hx
    have hi := (List.getElem?_eq_some_iff.1 he).1
    dsimp only [List.cons_append, List.nil_append] at hi he ⊢
    have hkey : ∀ y, y = edC (a, b) → flatE (es.take i) ++ y = flatE (es.take (i + 1)) := fun y h => by rw [h, flatE_take he]
    refine TR.weak (S' := [(7, edV (a, b)), (2, .pointer (some ⟨b2, 0, none⟩))]) ?_ subA .refl
    generalize flatE (es.take i) = T0 at *
    clear it hx he
    repeat' (first
    | refine wkQ ?_
    | refine wkV ?_
    | ((with_reducible apply TL.build_slice); (· rfl); (· rfl); (· exact oneA); (· rfl); (· rfl); (· rfl); intro _) | refine TL.build_one (by rfl) (by first | rfl | assumption) (by rfl) (by rfl) (by rfl) (by rfl) (fun _ => ?_) | refine TL.build_empty (by rfl) (fun _ => ?_)
    | ((with_reducible apply TL.append (e := 283)); (· rfl); (· rfl); (· rfl); (· rfl); (· exact pkA); (· first | exact Src.obj pkA | exact Src.sl (by assumption) | exact Src.row pkA); (· first | rfl | exact (byteVals_length _).trans (Nat.mul_one _).symm); (· first | exact byteVals_all _ | exact oneA); (· exact ⟨by unfold maxLen; omega, by omega⟩); (· rfl); intro vf; refine Go.TL.TL.row_slice (v := vf) pkA ?_; rintro a2 c2 rfl _)
    | refine wkP ?_
    | refine TR.seq ?_ | refine TR.region (by rfl) ?_ | refine TL.nil ?_ | refine TQ.then_R ?_ | refine TQ.begin (by assumption) pkA ?_
    | ((with_reducible apply TL.storeE); (· rfl); (· rfl); (· rfl); (· exact pkA); (· infer_instance)) | ((with_reducible apply TL.store_whole); (· rfl); (· rfl); (· exact oneA); (· rfl); (· exact pkA); (· rfl))
    | refine TR.block ?_ | refine TR.ret ?_ | refine TR.skip ?_ | refine TR.exit ?_ | refine TR.cond rfl ?_
    | refine TQ.down ?_ | refine TQ.in_exit' rfl ?_
    | refine TL.guard_yes rfl rfl ?_ | refine TL.guard_no rfl rfl rfl rfl ?_ | refine TL.guard_no0 rfl rfl rfl ?_ | refine TL.guard_undef rfl rfl rfl ?_ | refine TL.guard_undef0 rfl rfl ?_ | refine TL.guard rfl rfl rfl ?_
    | refine Br.t rfl ?_ | refine Br.f rfl ?_ | refine Br.ky kpA ?_ | refine Br.kn kpA ?_ | refine Br.nky kpA ?_ | refine Br.nkn kpA ?_
    | refine Br.eq0 (fun _ => ?_) (fun _ => ?_) | refine Br.neq0 (fun _ => ?_) (fun _ => ?_) | refine Br.eq (fun _ => ?_) (fun _ => ?_) | refine Br.neq (fun _ => ?_) (fun _ => ?_) | refine Br.not (fun _ => ?_) (fun _ => ?_) | refine Br.dec (fun _ => ?_) (fun _ => ?_) | refine Br.bool (fun _ => ?_) (fun _ => ?_)
    | ((with_reducible apply TL.alloc_ag); (· rfl); intro _) | ((with_reducible apply TL.alloc_sc); (· rfl); (· rfl); intro _) | ((with_reducible apply TL.box_ag); (· rfl); (· rfl); intro _) | ((with_reducible apply TL.box_sc); (· rfl); (· rfl); (· rfl); intro _) | fail)
    rw [hkey _ rfl]
    refine TQ.goes (i + 1, .slice a2 (i + 1) c2) rfl hgx (.refl _) hrc pkA ?_
    exact selF
  · rintro D ⟨i, v⟩ gx hI hgx _
    rw [List.length_map] at hI
    dsimp only [List.cons_append, List.nil_append] at hI ⊢
    subst hI
    rw [List.take_length]
    clear it
    refine TQ.row_slice (v := v) (.there (.there .here)) ?_
    rintro a2 c2 rfl _
    repeat' (first
    | refine wkQ ?_
    | refine wkV ?_
    | refine stS ?_ | (refine stB ?_; intro _) | (refine stC ?_; constructor <;> intro _))
    refine TQ.endM [D] rfl (.cons pkA .refl) ?_
    refine TQ.freeze (.there .here) fun g2 hg2 HS => ?_
    refine TQ.endR1 (L' := L) Tryz.results319 rvA rfl (hgx.trans hg2) ?_ selF
    exact ⟨_, rfl, rfl, HS⟩
  · rintro D c y g1 h
    exact h.elim
theorem collect_does (F : FuncId) (es : List (Pt × Pt)) (lb : Array Value) (g : Gh) (L : List Ent) (hl : es.length ≤ 1000000) (hc : callable Tryz.prog F = true) (it : Iter Tryz.prog F lb (es.map fun e => #[edV e]) g) :
    Does Tryz.prog 290 #[.func (.func F) #[] lb] g L (fun e g' L' => ∃ v, e = .returned v ∧ L' = L ∧ Sl g' v es.length 4 (flatE es)) := by
  refine Does.of1 Tryz.func290 rfl Tryz.ntmps290 rfl ?_
  have A := fun L => seq_does F es lb g L hl hc it
  clear it
  repeat' (first
    | refine wkQ ?_
    | refine wkV ?_
    | (refine TL.call (Enters.plain (by kernel_rfl) (by rfl)) (by rfl) (A _) ?_; (rintro e g1 Ln hg1 ⟨v, k1, k2, k3⟩; have k2 := k2.symm; subst k1; subst k2; obtain ⟨a1, c1, rfl⟩ := k3.slice; have K3 := Hn.mk k3; clear k3; refine CallK.ret ?_))
    | refine stS ?_ | (refine stB ?_; intro _) | (refine stC ?_; constructor <;> intro _))
  refine TQ.endR1 (L' := L) Tryz.results290 rvA rfl (by assumption) ?_ selF
  exact ⟨_, rfl, rfl, K3.out⟩
def apE (es : List (Pt × Pt)) (i k : Nat) : Bool := match es[i]?, es[k]? with
  | some x, some y => apartE es.length i k x y
  | _, _ => true
theorem apE_at {es : List (Pt × Pt)} {i k : Nat} {x y : Pt × Pt} (hx : es[i]? = some x) (hy : es[k]? = some y) : apE es i k = apartE es.length i k x y := by
  unfold apE; rw [hx, hy]
def simpleE (es : List (Pt × Pt)) : Bool := (List.range es.length).all fun k => (List.range k).all fun i => apE es i k
theorem simpleE_yes {es : List (Pt × Pt)} (h : ∀ k, k < es.length → ∀ i, i < k → apE es i k = true) : simpleE es = true :=
  List.all_eq_true.2 fun k hk => List.all_eq_true.2 fun i hi => h k (List.mem_range.1 hk) i (List.mem_range.1 hi)
theorem simpleE_no {es : List (Pt × Pt)} {i k : Nat} (hk : k < es.length) (hi : i < k) (h : apE es i k = false) : simpleE es = false := by
  cases hb : simpleE es with
  | false => rfl
  | true =>
    have := List.all_eq_true.1 (List.all_eq_true.1 hb k (List.mem_range.2 hk)) i (List.mem_range.2 hi)
    rw [h] at this; cases this
set_option maxHeartbeats 16000000 in
theorem simple_gives (k : Int) (l : List Pt) (pv v : Value) (g : Gh) (L : List Ent) (hp : pv.one = true) (hS : Sl g v l.length 2 (flatP l)) (hl : l.length ≤ 1000000) (h3 : 2 < (partE k l).length) : Gives Tryz.prog 257 #[shV k pv, v] g L (.bool (simpleE (partE k l))) := by
  refine .of (Does.of2 Tryz.func257 rfl Tryz.ntmps257 rfl ?_)
  have hpl : (partE k l).length ≤ 1000000 := by rw [partE_len]; split <;> omega
  have ED := fun L => sedges_does k l pv v g L hp hS hl
  have CO := fun lb g L it => collect_does 295 (partE k l) lb g L hpl (by kernel_rfl) it
  obtain ⟨ao, cap, rfl⟩ := hS.slice
  unfold partI at ED
  generalize partE k l = es at *
  clear hS
  repeat' (first
    | refine wkQ ?_
    | refine wkV ?_
    | (refine TL.call (Enters.plain (by kernel_rfl) (by rfl)) (by rfl) (ED _) ?_; (rintro e g1 Ln hg1 ⟨lb, k1, k2, it⟩; have k2 := k2.symm; subst k1; subst k2; refine CallK.ret ?_))
    | (refine TL.call (Enters.plain (by kernel_rfl) (by rfl)) (by rfl) (CO _ _ _ (by assumption)) ?_; (rintro e g2 Ln hg2 ⟨vc, k1, k2, k3⟩; have k2 := k2.symm; subst k1; subst k2; obtain ⟨a1, c1, rfl⟩ := k3.slice; have K3 := Hn.mk k3; clear k3; refine CallK.ret ?_))
    | refine stS ?_ | (refine stB ?_; intro _) | (refine stC ?_; constructor <;> intro _))
  rename_i b2 _
  have hl2 : es.length ≤ 1000000 := hpl
  obtain ⟨R, hR⟩ : ∃ R, R = simpleE es := ⟨_, rfl⟩
  rw [← hR]
  refine TC.loopK (fun k : Nat => k ≤ es.length ∧ ∀ k', k' < k → ∀ i', i' < k' → apE es i' k' = true) (fun k => es.length - k) (fun k _ => [(14, .int .i64 (k : Nat)), (13, .int .i64 (es.length : Nat)), (5, .slice a1 es.length c1)]) [] .nil (fun _ L => L) 0 ⟨Nat.zero_le _, fun k' h => absurd h (Nat.not_lt_zero _)⟩ subA selF ?_
  clear ED CO it
  rintro k ⟨hk, hI⟩
  try dsimp only at hk hI ⊢
  by_cases hlt : k < es.length
  · obtain ⟨y, hy⟩ : ∃ y, es[k]? = some y := ⟨_, List.getElem?_eq_getElem hlt⟩
    have HI := Hn.mk hI
    clear hI
    repeat' (first
    | refine wkQ ?_
    | refine wkV ?_
    | refine stS ?_ | (refine stB ?_; intro _) | (refine stC ?_; constructor <;> intro _))
    refine TC.loopK (fun i : Nat => i ≤ k ∧ ∀ i', i' < i → apE es i' k = true) (fun i => k - i) (fun i _ => [(18, .int .i64 (i : Nat)), (17, .int .i64 (k : Nat)), (6, .int .i64 (k : Nat)), (14, .int .i64 (k : Nat)), (13, .int .i64 (es.length : Nat)), (5, .slice a1 es.length c1)]) [] .nil (fun _ L => L) 0 ⟨Nat.zero_le _, fun i' h => absurd h (Nat.not_lt_zero _)⟩ subA selF ?_
    rintro i ⟨hi, hJ⟩
    try dsimp only at hi hJ ⊢
    by_cases hlt2 : i < k
    · obtain ⟨x, hx⟩ : ∃ x, es[i]? = some x := ⟨_, List.getElem?_eq_getElem (by omega)⟩
      have AP := fun L => apart_gives es _ i k x y g2 L K3.out hpl h3 hx hy
      have hap := apE_at hx hy
      have HJ := Hn.mk hJ
      clear hJ hx
      cases hb : apartE es.length i k x y with
      | true =>
        rw [hb] at AP hap
        repeat' (first
    | refine wkQ ?_
    | refine wkV ?_
    | refine wkD (AP _) ?_
    | refine stS ?_ | (refine stB ?_; intro _) | (refine stC ?_; constructor <;> intro _))
        refine TQ.round (i + 1) ?_ ?_ rfl subA selF
        · refine ⟨by omega, fun i' h => ?_⟩
          by_cases he : i' = i
          · rw [he]; exact hap
          · exact HJ.out i' (by omega)
        · show k - (i + 1) < k - i
          omega
      | false =>
        rw [hb] at AP hap
        repeat' (first
    | refine wkQ ?_
    | refine wkV ?_
    | refine wkD (AP _) ?_
    | refine stS ?_ | (refine stB ?_; intro _) | (refine stC ?_; constructor <;> intro _))
        refine TQ.less (hg1.trans hg2) ?_
        refine TQ.endR1 (L' := L) Tryz.results257 rvA rfl (.refl _) ?_ selF
        exact ⟨by rw [hR, simpleE_no hlt hlt2 hap], rfl, rfl⟩
    · obtain rfl : i = k := by omega
      have HJ := Hn.mk hJ
      clear hJ
      repeat' (first
    | refine wkQ ?_
    | refine wkV ?_
    | refine stS ?_ | (refine stB ?_; intro _) | (refine stC ?_; constructor <;> intro _))
      refine TQ.round (i + 1) ?_ ?_ rfl subA selF
      · refine ⟨by omega, fun k' h => ?_⟩
        by_cases he : k' = i
        · rw [he]; exact HJ.out
        · exact HI.out k' (by omega)
      · show es.length - (i + 1) < es.length - i
        omega
  · obtain rfl : k = es.length := by omega
    have hT := simpleE_yes hI
    clear hI
    repeat' (first
    | refine wkQ ?_
    | refine wkV ?_
    | refine stS ?_ | (refine stB ?_; intro _) | (refine stC ?_; constructor <;> intro _))
    refine TQ.less (hg1.trans hg2) ?_
    refine TQ.endR1 (L' := L) Tryz.results257 rvA rfl (.refl _) ?_ selF
    exact ⟨by rw [hR, hT], rfl, rfl⟩
end Go.Proofs.YtgollffmdpejiaaGreatDoor
