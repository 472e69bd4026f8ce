/-
  The walk of shape's Within.
-/
import Derived.Test.YtfanccddokckcaaGreatDoorSt2
import Derived.Test.YtfanccddokckcaaGreatDoorSt30
namespace Go.Proofs.YtfanccddokckcaaGreatDoor
open Go.RowKit Go.TL
set_option maxRecDepth 100000

theorem partE_mem {k : Int} {l : List Pt} {e : Pt × Pt} (h : e ∈ partE k l) : e.1 ∈ l ∧ e.2 ∈ l := by
  have key : e ∈ ringE l → e.1 ∈ l ∧ e.2 ∈ l := fun h => by
    obtain ⟨i, hi⟩ := List.getElem?_of_mem h
    exact ringE_mem hi
  unfold partE at h
  split at h
  · exact key (List.mem_of_mem_take h)
  · exact key h
theorem allE_may {k m : Int} {ps : List (List Pt)} (h : RightP m ps) : ∀ e ∈ allE k ps, mayB e.1 = true ∧ mayB e.2 = true := by
  intro e he
  obtain ⟨q, hq, he⟩ := List.mem_flatMap.1 he
  obtain ⟨h1, h2⟩ := partE_mem he
  have ha := List.all_eq_true.1 (okP_all (h.ok q hq)).2
  exact ⟨ha _ h1, ha _ h2⟩
def outP (m : Int) (ts ps : List (List Pt)) : Bool := ps.any fun q => q.any fun p => !inSh m ts p
def outH (m : Int) (ts : List (List Pt)) (es : List (Pt × Pt)) : Bool := es.any fun e => halfB e && !inSh m ts (halfP e)
def withinX (k : Int) (ps : List (List Pt)) (m : Int) (ts : List (List Pt)) : Bool :=
  ((rightB k ps && rightB m ts) && decide (m = 2)) && ((!outP m ts ps && !outH m ts (allE k ps)) && !anyE CrossF (allE k ps) (allE m ts))
set_option maxHeartbeats 32000000 in
theorem sWithin_gives (k m : Int) (ps ts : List (List Pt)) (v u : Value) (g : Gh) (L : List Ent) (hS : IsParts g v ps) (hO : ShOk ps) (hT : IsParts g u ts) (hU : ShOk ts) : Gives Tryz.prog 21 #[shV k v, shV m u] g L (.bool (withinX k ps m ts)) := by
  have R1 := fun g1 (h : g.le g1) L => sright_gives k ps v g1 L (hS.le h) hO
  have R2 := fun g1 (h : g.le g1) L => sright_gives m ts u g1 L (hT.le h) hU
  have AL := fun g1 (h : g.le g1) L => sall_does k ps v g1 L (hS.le h) hO.len hO.part
  have AN := fun g1 (h : g.le g1) L => sany_gives 57 CrossF k m ps ts v u g1 L (by kernel_rfl) (fun a b c d g L => Cross_gives a b c d g L) (hS.le h) hO (hT.le h) hU
  obtain ⟨av, cv, rfl⟩ : ∃ a c, v = .slice a ps.length c := by obtain ⟨_, h, _⟩ := hS; exact h.slice
  obtain ⟨au, cu, rfl⟩ : ∃ a c, u = .slice a ts.length c := by obtain ⟨_, h, _⟩ := hT; exact h.slice
  refine .of (Does.ofM2 Tryz.func21 rfl Tryz.ntmps21 rfl ?_)
  unfold withinX
  cases h1 : rightB k ps with
  | false =>
    rw [h1] at R1
    clear hS hO hT hU R2 AL AN
    repeat' (first
    | refine wkQ ?_
    | refine wkV ?_
    | ((with_reducible apply TL.gives_plain); (· kernel_rfl); (· rfl); (· exact R1 _ (.refl _) _); (· rfl)) | ((with_reducible apply TW.gives_plain); (· kernel_rfl); (· rfl); (· exact R1 _ (.refl _) _); (· rfl))
    | refine stS ?_ | (refine stB ?_; intro _) | (refine stC ?_; refine And.intro (fun _ => ?_) (fun _ => ?_)))
    refine TQ.endM [] rfl .refl ?_
    refine TQ.endR1 (L' := L) Tryz.results21 rvA rfl (.refl _) ?_ selF
    exact ⟨rfl, rfl, rfl⟩
  | true =>
  rw [h1] at R1
  cases h2 : rightB m ts with
  | false =>
    rw [h2] at R2
    clear hS hO hT hU AL AN
    repeat' (first
    | refine wkQ ?_
    | refine wkV ?_
    | ((with_reducible apply TL.gives_plain); (· kernel_rfl); (· rfl); (· exact R1 _ (.refl _) _); (· rfl)) | ((with_reducible apply TW.gives_plain); (· kernel_rfl); (· rfl); (· exact R1 _ (.refl _) _); (· rfl))
    | ((with_reducible apply TL.gives_plain); (· kernel_rfl); (· rfl); (· exact R2 _ (.refl _) _); (· rfl)) | ((with_reducible apply TW.gives_plain); (· kernel_rfl); (· rfl); (· exact R2 _ (.refl _) _); (· rfl))
    | refine stS ?_ | (refine stB ?_; intro _) | (refine stC ?_; refine And.intro (fun _ => ?_) (fun _ => ?_)))
    refine TQ.endM [] rfl .refl ?_
    refine TQ.endR1 (L' := L) Tryz.results21 rvA rfl (.refl _) ?_ selF
    exact ⟨rfl, rfl, rfl⟩
  | true =>
  rw [h2] at R2
  by_cases hm : m = 2
  case neg =>
    have bm : (!decide (m = 2)) = true := by rw [decide_eq_false hm]; rfl
    rw [decide_eq_false hm]
    clear hS hO hT hU AL AN
    repeat' (first
    | refine wkQ ?_
    | ((with_reducible apply TL.pure (d := 21) (v := .bool true)); (· exact Y.neq_b bm rfl rfl); (· rfl)) | ((with_reducible apply TW.pure (d := 21) (v := .bool true)); (· exact Y.neq_b bm rfl rfl); (· rfl))
    | refine wkV ?_
    | ((with_reducible apply TL.gives_plain); (· kernel_rfl); (· rfl); (· exact R1 _ (.refl _) _); (· rfl)) | ((with_reducible apply TW.gives_plain); (· kernel_rfl); (· rfl); (· exact R1 _ (.refl _) _); (· rfl))
    | ((with_reducible apply TL.gives_plain); (· kernel_rfl); (· rfl); (· exact R2 _ (.refl _) _); (· rfl)) | ((with_reducible apply TW.gives_plain); (· kernel_rfl); (· rfl); (· exact R2 _ (.refl _) _); (· rfl))
    | refine stS ?_ | (refine stB ?_; intro _) | (refine stC ?_; refine And.intro (fun _ => ?_) (fun _ => ?_)))
    refine TQ.endM [] rfl .refl ?_
    refine TQ.endR1 (L' := L) Tryz.results21 rvA rfl (.refl _) ?_ selF
    exact ⟨rfl, rfl, rfl⟩
  have bm : (!decide (m = 2)) = false := by rw [decide_eq_true hm]; rfl
  rw [decide_eq_true hm]
  have hme := allE_may (k := k) (right_props h1)
  have hps := hO.len
  obtain ⟨X, hX⟩ : ∃ X, X = ((true && true) && true && ((!outP m ts ps && !outH m ts (allE k ps)) && !anyE CrossF (allE k ps) (allE m ts))) := ⟨_, rfl⟩
  rw [← hX]
  have hll : [Value.int .i64 m, .slice au ts.length cu].length = 2 := rfl
  repeat' (first
    | refine wkQ ?_
    | ((with_reducible apply TL.box_keep (d := 3)); (· rfl); (· first | exact cells_one rfl | rfl); (· rfl); (· exact Nat.le_of_ble_eq_true rfl); intro b3 g1 hg1 hc0; have hc : ∀ i w, [Value.int .i64 m, .slice au ts.length cu][i]? = some w → g1.cell b3 (0 + i) = some w := fun i w hw => (by rw [Nat.zero_add]; exact hc0 i w hw); have hcm : g1.cell b3 (0 + 0) = some (.int .i64 m) := hc0 0 _ rfl)
    | ((with_reducible apply TL.pure (d := 21) (v := .bool false)); (· exact Y.neq_b bm rfl rfl); (· rfl)) | ((with_reducible apply TW.pure (d := 21) (v := .bool false)); (· exact Y.neq_b bm rfl rfl); (· rfl))
    | refine wkV ?_
    | ((with_reducible apply TL.pure); (· exact yM); (· rfl)) | ((with_reducible apply TW.pure); (· exact yM); (· rfl))
    | ((with_reducible apply TL.gives_plain); (· kernel_rfl); (· rfl); (· exact R1 _ (by assumption) _); (· rfl)) | ((with_reducible apply TW.gives_plain); (· kernel_rfl); (· rfl); (· exact R1 _ (by assumption) _); (· rfl))
    | ((with_reducible apply TL.gives_plain); (· kernel_rfl); (· rfl); (· exact R2 _ (by assumption) _); (· rfl)) | ((with_reducible apply TW.gives_plain); (· kernel_rfl); (· rfl); (· exact R2 _ (by assumption) _); (· rfl))
    | refine stS ?_ | (refine stB ?_; intro _) | (refine stC ?_; refine And.intro (fun _ => ?_) (fun _ => ?_)))
  rename_i b2 b4
  obtain ⟨fl, hSl, hpt⟩ := hS.le hg1
  obtain ⟨A, hA⟩ : ∃ A, A = outP m ts ps := ⟨_, rfl⟩
  have hX2 := hX
  rw [← hA] at hX2
  refine TC.loopK (fun j : Nat => j ≤ ps.length ∧ outP m ts (ps.drop j) = A) (fun j => ps.length - j) (fun j _ => [(26, .int .i64 (j : Nat)), (25, .int .i64 (ps.length : Nat)), (24, .slice av ps.length cv), (4, .pointer (some ⟨b4, 0, none⟩)), (3, .pointer (some ⟨b3, 0, none⟩)), (2, .pointer (some ⟨b2, 0, none⟩))]) [] .nil (fun _ L => L) 0 ⟨Nat.zero_le _, hA.symm⟩ subA selF ?_
  rintro j ⟨hj, hI⟩
  try dsimp only at hj hI ⊢
  by_cases hlt : j < ps.length
  · obtain ⟨q, hq⟩ : ∃ q, ps[j]? = some q := ⟨_, List.getElem?_eq_getElem hlt⟩
    obtain ⟨w, hw, hSw⟩ := hpt j q hq
    obtain ⟨b5, o5, rfl, hg5⟩ := hSl.elem hlt (by decide)
    have hld : g1.cell b5 (o5 + j * 1) = some w := hg5 0 _ (by rw [Nat.mul_one]; exact hw)
    have hql := hO.part q (List.mem_of_getElem? hq)
    have CF := fun L => containsF_gives 54 [.pointer (some ⟨b3, 0, none⟩)] (fun p => !inSh m ts p) q w g1 L (by kernel_rfl) hSw hql (fun p _ => swithinOne_gives m ts _ p b3 g1 L (hT.le hg1) hU hc)
    rw [drop_of_get hq] at hI
    replace hI : (q.any (fun p => !inSh m ts p) || outP m ts (ps.drop (j + 1))) = A := hI
    obtain ⟨aw, cw, rfl⟩ := hSw.slice
    clear hg5 hpt hSw hq hw hSl R1 R2 AL AN hS hT hO hU hX hA hme
    cases hb : q.any (fun p => !inSh m ts p) with
    | true =>
      rw [hb] at CF hI
      rw [Bool.true_or] at hI
      subst hI
      repeat' (first
    | refine wkQ ?_
    | ((with_reducible apply TL.pure (d := 31) (v := .func (.func 54) #[] [Value.pointer (some ⟨b3, 0, none⟩)].toArray)); (· exact Y.make_func rfl); (· rfl)) | ((with_reducible apply TW.pure (d := 31) (v := .func (.func 54) #[] [Value.pointer (some ⟨b3, 0, none⟩)].toArray)); (· exact Y.make_func rfl); (· rfl))
    | refine wkV ?_
    | ((with_reducible apply TL.gives_plain); (· kernel_rfl); (· rfl); (· exact CF _); (· rfl)) | ((with_reducible apply TW.gives_plain); (· kernel_rfl); (· rfl); (· exact CF _); (· rfl))
    | refine stS ?_ | (refine stB ?_; intro _) | (refine stC ?_; refine And.intro (fun _ => ?_) (fun _ => ?_)))
      refine TQ.endM [] rfl .refl ?_
      refine TQ.less hg1 ?_
      refine TQ.endR1 (L' := L) Tryz.results21 rvA rfl (.refl _) ?_ selF
      exact ⟨by rw [hX2]; rfl, rfl, rfl⟩
    | false =>
      rw [hb] at CF hI
      rw [Bool.false_or] at hI
      repeat' (first
    | refine wkQ ?_
    | ((with_reducible apply TL.pure (d := 31) (v := .func (.func 54) #[] [Value.pointer (some ⟨b3, 0, none⟩)].toArray)); (· exact Y.make_func rfl); (· rfl)) | ((with_reducible apply TW.pure (d := 31) (v := .func (.func 54) #[] [Value.pointer (some ⟨b3, 0, none⟩)].toArray)); (· exact Y.make_func rfl); (· rfl))
    | refine wkV ?_
    | ((with_reducible apply TL.gives_plain); (· kernel_rfl); (· rfl); (· exact CF _); (· rfl)) | ((with_reducible apply TW.gives_plain); (· kernel_rfl); (· rfl); (· exact CF _); (· rfl))
    | refine stS ?_ | (refine stB ?_; intro _) | (refine stC ?_; refine And.intro (fun _ => ?_) (fun _ => ?_)))
      refine TQ.round (j + 1) ?_ ?_ rfl subA selF
      · exact ⟨by omega, hI⟩
      · show ps.length - (j + 1) < ps.length - j
        omega
  · obtain rfl : j = ps.length := by omega
    rw [List.drop_length] at hI
    obtain rfl : false = A := hI
    have AL1 := fun L => AL g1 hg1 L
    clear R1 R2 AL hSl hpt hX
    repeat' (first
    | refine wkQ ?_
    | refine wkV ?_
    | (refine TL.call (Enters.plain (by kernel_rfl) (by rfl)) (by rfl) (AL1 _) ?_; (rintro e g2 Ln hg2 ⟨lb, k1, k2, it⟩; have k2 := k2.symm; subst k1; subst k2; refine CallK.ret ?_))
    | refine stS ?_ | (refine stB ?_; intro _) | (refine stC ?_; refine And.intro (fun _ => ?_) (fun _ => ?_)))
    unfold allI at it
    replace hX2 : X = (!outH m ts (allE k ps) && !anyE CrossF (allE k ps) (allE m ts)) := by rw [hX2]; rfl
    generalize allE k ps = es at *
    obtain ⟨B, hB⟩ : ∃ B, B = outH m ts es := ⟨_, rfl⟩
    rw [← hB] at hX2
    refine TC.rangeF (ps := #[36]) (xs := es.map fun e => #[edV e]) rfl (by kernel_rfl) it (by intro x hx; obtain ⟨e, _, rfl⟩ := List.mem_map.1 hx; rfl) (by rfl)
      (fun i (_ : Nat) => outH m ts (es.drop i) = B) (fun _ => g2) (fun _ => [.obj b4 (.cells [.bool false].toArray 4 (0, 0))])
      (fun c (_ : Nat) => c = .ret ∧ B = true) (fun _ => g2) (fun _ => [.obj b4 (.cells [.bool false].toArray 4 (0, 0))])
      (.obj b2 (.cells [.int .i64 k, .slice av ps.length cv].toArray 30 (0, 0)) :: L) 0 hB.symm (.refl _) selF ?_ ?_ ?_
    · rintro r rc i x _ M gx hrc hx hI hgx _
      obtain ⟨⟨a, b⟩, he, rfl⟩ := item_of hx
      rw [drop_of_get he] at hI
      replace hI : ((halfB (a, b) && !inSh m ts (halfP (a, b))) || outH m ts (es.drop (i + 1))) = B := hI
      obtain ⟨ma, mb⟩ := hme _ (List.mem_of_getElem? he)
      have HF := fun L => shalf_gives (a, b) gx L ma mb
      have IN := fun L => sin_gives m ts (.slice au ts.length cu) (halfP (a, b)) gx L (hT.le (hg1.trans (hg2.trans hgx))) hU
      have hcx : ∀ i w, [Value.int .i64 m, .slice au ts.length cu][i]? = some w → gx.cell b3 (0 + i) = some w := fun i w hw => (hg2.trans hgx).cell (hc i w hw)
      dsimp only [List.cons_append, List.nil_append]
      refine TR.weak (S' := [(36, edV (a, b)), (4, .pointer (some ⟨b4, 0, none⟩)), (3, .pointer (some ⟨b3, 0, none⟩))]) ?_ subA .refl
      clear it hx he hB hX2 hT hS hO hU AN hme ma mb hc hcm hc0
      cases h5 : halfB (a, b) with
      | false =>
        rw [h5] at HF hI
        rw [Bool.false_and, Bool.false_or] at hI
        repeat' (first
    | refine wkQ ?_
    | refine wkV ?_
    | ((with_reducible apply TL.gives_plain); (· kernel_rfl); (· rfl); (· exact HF _); (· rfl)) | ((with_reducible apply TW.gives_plain); (· kernel_rfl); (· rfl); (· exact HF _); (· rfl))
    | refine wkP ?_
    | refine TR.seq ?_ | refine TR.region (by rfl) ?_ | refine TL.nil ?_ | refine TQ.then_R ?_ | refine TQ.begin (by assumption) pkA ?_
    | ((with_reducible apply TL.storeE); (· rfl); (· rfl); (· rfl); (· exact pkA); (· infer_instance)) | ((with_reducible apply TL.store_whole); (· rfl); (· rfl); (· exact oneA); (· rfl); (· exact pkA); (· rfl))
    | refine TR.block ?_ | refine TR.ret ?_ | refine TR.skip ?_ | refine TR.exit ?_ | refine TR.cond rfl ?_
    | refine TQ.down ?_ | refine TQ.in_exit' rfl ?_
    | refine TL.guard_yes rfl rfl ?_ | refine TL.guard_no rfl rfl rfl rfl ?_ | refine TL.guard_no0 rfl rfl rfl ?_ | refine TL.guard_undef rfl rfl rfl ?_ | refine TL.guard_undef0 rfl rfl ?_ | refine TL.guard rfl rfl rfl ?_
    | refine Br.t rfl ?_ | refine Br.f rfl ?_ | refine Br.ky kpA ?_ | refine Br.kn kpA ?_ | refine Br.nky kpA ?_ | refine Br.nkn kpA ?_
    | refine Br.eq0 (fun _ => ?_) (fun _ => ?_) | refine Br.neq0 (fun _ => ?_) (fun _ => ?_) | refine Br.eq (fun _ => ?_) (fun _ => ?_) | refine Br.neq (fun _ => ?_) (fun _ => ?_) | refine Br.not (fun _ => ?_) (fun _ => ?_) | refine Br.dec (fun _ => ?_) (fun _ => ?_) | refine Br.bool (fun _ => ?_) (fun _ => ?_)
    | ((with_reducible apply TL.alloc_ag); (· rfl); intro _) | ((with_reducible apply TL.alloc_sc); (· rfl); (· rfl); intro _) | ((with_reducible apply TL.box_ag); (· rfl); (· rfl); intro _) | ((with_reducible apply TL.box_sc); (· rfl); (· rfl); (· rfl); intro _)
    | ((with_reducible apply TL.pure); (· exact Y.load_part rfl pkA (Nat.le_of_ble_eq_true rfl)); (· rfl)))
        refine TQ.goes (0 : Nat) hI hgx (.refl _) hrc pkA ?_
        exact selF
      | true =>
      rw [h5] at HF hI
      rw [Bool.true_and] at hI
      cases h6 : inSh m ts (halfP (a, b)) with
      | true =>
        rw [h6] at IN hI
        rw [Bool.not_true, Bool.false_or] at hI
        repeat' (first
    | refine wkQ ?_
    | refine wkV ?_
    | ((with_reducible apply TL.gives_plain); (· kernel_rfl); (· rfl); (· exact HF _); (· rfl)) | ((with_reducible apply TW.gives_plain); (· kernel_rfl); (· rfl); (· exact HF _); (· rfl))
    | ((with_reducible apply TL.gives_plain); (· kernel_rfl); (· rfl); (· exact IN _); (· rfl)) | ((with_reducible apply TW.gives_plain); (· kernel_rfl); (· rfl); (· exact IN _); (· rfl))
    | refine wkP ?_
    | refine TR.seq ?_ | refine TR.region (by rfl) ?_ | refine TL.nil ?_ | refine TQ.then_R ?_ | refine TQ.begin (by assumption) pkA ?_
    | ((with_reducible apply TL.storeE); (· rfl); (· rfl); (· rfl); (· exact pkA); (· infer_instance)) | ((with_reducible apply TL.store_whole); (· rfl); (· rfl); (· exact oneA); (· rfl); (· exact pkA); (· rfl))
    | refine TR.block ?_ | refine TR.ret ?_ | refine TR.skip ?_ | refine TR.exit ?_ | refine TR.cond rfl ?_
    | refine TQ.down ?_ | refine TQ.in_exit' rfl ?_
    | refine TL.guard_yes rfl rfl ?_ | refine TL.guard_no rfl rfl rfl rfl ?_ | refine TL.guard_no0 rfl rfl rfl ?_ | refine TL.guard_undef rfl rfl rfl ?_ | refine TL.guard_undef0 rfl rfl ?_ | refine TL.guard rfl rfl rfl ?_
    | refine Br.t rfl ?_ | refine Br.f rfl ?_ | refine Br.ky kpA ?_ | refine Br.kn kpA ?_ | refine Br.nky kpA ?_ | refine Br.nkn kpA ?_
    | refine Br.eq0 (fun _ => ?_) (fun _ => ?_) | refine Br.neq0 (fun _ => ?_) (fun _ => ?_) | refine Br.eq (fun _ => ?_) (fun _ => ?_) | refine Br.neq (fun _ => ?_) (fun _ => ?_) | refine Br.not (fun _ => ?_) (fun _ => ?_) | refine Br.dec (fun _ => ?_) (fun _ => ?_) | refine Br.bool (fun _ => ?_) (fun _ => ?_)
    | ((with_reducible apply TL.alloc_ag); (· rfl); intro _) | ((with_reducible apply TL.alloc_sc); (· rfl); (· rfl); intro _) | ((with_reducible apply TL.box_ag); (· rfl); (· rfl); intro _) | ((with_reducible apply TL.box_sc); (· rfl); (· rfl); (· rfl); intro _)
    | ((with_reducible apply TL.pure); (· exact Y.load_part rfl pkA (Nat.le_of_ble_eq_true rfl)); (· rfl)))
        refine TQ.goes (0 : Nat) hI hgx (.refl _) hrc pkA ?_
        exact selF
      | false =>
        rw [h6] at IN hI
        rw [Bool.not_false, Bool.true_or] at hI
        repeat' (first
    | refine wkQ ?_
    | refine wkV ?_
    | ((with_reducible apply TL.gives_plain); (· kernel_rfl); (· rfl); (· exact HF _); (· rfl)) | ((with_reducible apply TW.gives_plain); (· kernel_rfl); (· rfl); (· exact HF _); (· rfl))
    | ((with_reducible apply TL.gives_plain); (· kernel_rfl); (· rfl); (· exact IN _); (· rfl)) | ((with_reducible apply TW.gives_plain); (· kernel_rfl); (· rfl); (· exact IN _); (· rfl))
    | refine wkP ?_
    | refine TR.seq ?_ | refine TR.region (by rfl) ?_ | refine TL.nil ?_ | refine TQ.then_R ?_ | refine TQ.begin (by assumption) pkA ?_
    | ((with_reducible apply TL.storeE); (· rfl); (· rfl); (· rfl); (· exact pkA); (· infer_instance)) | ((with_reducible apply TL.store_whole); (· rfl); (· rfl); (· exact oneA); (· rfl); (· exact pkA); (· rfl))
    | refine TR.block ?_ | refine TR.ret ?_ | refine TR.skip ?_ | refine TR.exit ?_ | refine TR.cond rfl ?_
    | refine TQ.down ?_ | refine TQ.in_exit' rfl ?_
    | refine TL.guard_yes rfl rfl ?_ | refine TL.guard_no rfl rfl rfl rfl ?_ | refine TL.guard_no0 rfl rfl rfl ?_ | refine TL.guard_undef rfl rfl rfl ?_ | refine TL.guard_undef0 rfl rfl ?_ | refine TL.guard rfl rfl rfl ?_
    | refine Br.t rfl ?_ | refine Br.f rfl ?_ | refine Br.ky kpA ?_ | refine Br.kn kpA ?_ | refine Br.nky kpA ?_ | refine Br.nkn kpA ?_
    | refine Br.eq0 (fun _ => ?_) (fun _ => ?_) | refine Br.neq0 (fun _ => ?_) (fun _ => ?_) | refine Br.eq (fun _ => ?_) (fun _ => ?_) | refine Br.neq (fun _ => ?_) (fun _ => ?_) | refine Br.not (fun _ => ?_) (fun _ => ?_) | refine Br.dec (fun _ => ?_) (fun _ => ?_) | refine Br.bool (fun _ => ?_) (fun _ => ?_)
    | ((with_reducible apply TL.alloc_ag); (· rfl); intro _) | ((with_reducible apply TL.alloc_sc); (· rfl); (· rfl); intro _) | ((with_reducible apply TL.box_ag); (· rfl); (· rfl); intro _) | ((with_reducible apply TL.box_sc); (· rfl); (· rfl); (· rfl); intro _)
    | ((with_reducible apply TL.pure); (· exact Y.load_part rfl pkA (Nat.le_of_ble_eq_true rfl)); (· rfl)))
        refine TQ.leaves_ret (0 : Nat) ⟨rfl, hI.symm⟩ hgx (.refl _) hrc pkA ?_
        exact selF
    · rintro D _ gx hI hgx _
      rw [List.length_map, List.drop_length] at hI
      obtain rfl : false = B := hI
      rw [Bool.not_false, Bool.true_and] at hX2
      have AN1 := fun L => AN gx (hg1.trans (hg2.trans hgx)) L
      have hcx : ∀ i w, [Value.int .i64 m, .slice au ts.length cu][i]? = some w → gx.cell b3 (0 + i) = some w := fun i w hw => (hg2.trans hgx).cell (hc i w hw)
      dsimp only [List.cons_append, List.nil_append]
      clear it AN hS hT hO hU hc hcm hc0
      generalize anyE CrossF es (allE m ts) = C at *
      repeat' (first
    | refine wkQ ?_
    | refine wkV ?_
    | ((with_reducible apply TL.gives_plain); (· kernel_rfl); (· rfl); (· exact AN1 _); (· rfl)) | ((with_reducible apply TW.gives_plain); (· kernel_rfl); (· rfl); (· exact AN1 _); (· rfl))
    | refine stS ?_ | (refine stB ?_; intro _) | (refine stC ?_; refine And.intro (fun _ => ?_) (fun _ => ?_)))
      refine TQ.endM [D] rfl (.cons pkA .refl) ?_
      refine TQ.less (hg1.trans (hg2.trans hgx)) ?_
      refine TQ.endR1 (L' := L) Tryz.results21 rvA rfl (.refl _) ?_ selF
      exact ⟨congrArg (fun b => Ending.returned (Value.bool b)) hX2.symm, rfl, rfl⟩
    · rintro D c _ gx ⟨rfl, rfl⟩ hgx _
      replace hX2 : X = false := hX2
      dsimp only [List.cons_append, List.nil_append]
      repeat' (first
    | refine wkQ ?_
    | refine wkV ?_
    | refine stS ?_ | (refine stB ?_; intro _) | (refine stC ?_; refine And.intro (fun _ => ?_) (fun _ => ?_)))
      refine TQ.endM [D] rfl (.cons pkA .refl) ?_
      refine TQ.less (hg1.trans (hg2.trans hgx)) ?_
      refine TQ.endR1 (L' := L) Tryz.results21 rvA rfl (.refl _) ?_ selF
      exact ⟨congrArg (fun b => Ending.returned (Value.bool b)) hX2.symm, rfl, rfl⟩
end Go.Proofs.YtfanccddokckcaaGreatDoor
