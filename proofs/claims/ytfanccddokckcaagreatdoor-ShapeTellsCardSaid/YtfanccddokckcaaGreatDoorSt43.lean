/-
  The document's Inside, walked.
-/
import Derived.Test.YtfanccddokckcaaGreatDoorSt2
import Derived.Test.YtfanccddokckcaaGreatDoorSt35
namespace Go.Proofs.YtfanccddokckcaaGreatDoor
open Go.RowKit Go.TL
set_option maxRecDepth 100000

set_option maxHeartbeats 64000000 in
theorem rInside8_gives (l : List Pt) (p : Pt) (v : Value) (g : Gh) (L : List Ent) (hS : Sl g v l.length 2 (flatP l)) (_hl : l.length ≤ 1000000) (hm : l.all mayB = true) (hp : mayB p = true) : Gives Tryz.prog 72 #[v, pt p] g L (.int .i64 (insD l p)) := by
  refine .of (Does.of2 Tryz.func72 rfl Tryz.ntmps72 rfl ?_)
  obtain ⟨ao, cap, rfl⟩ := hS.slice
  unfold insD
  by_cases h0 : l.length = 0
  · rw [if_pos h0]
    have b0 : decide (((l.length : Nat) : Int) = 0) = true := decide_eq_true (by omega)
    clear hS
    repeat' (first
    | refine wkQ ?_
    | ((with_reducible apply TL.pure (d := 13) (v := .bool true)); (· exact Y.eql_b b0 rfl rfl); (· rfl)) | ((with_reducible apply TW.pure (d := 13) (v := .bool true)); (· exact Y.eql_b b0 rfl rfl); (· rfl))
    | refine wkV ?_
    | refine stS ?_ | (refine stB ?_; intro _) | (refine stC ?_; refine And.intro (fun _ => ?_) (fun _ => ?_)))
    refine TQ.endR1 (L' := L) Tryz.results72 rvA rfl (.refl _) ?_ selF
    exact ⟨rfl, rfl, rfl⟩
  rw [if_neg h0]
  have b0 : decide (((l.length : Nat) : Int) = 0) = false := decide_eq_false (by omega)
  obtain ⟨R, hR⟩ : ∃ R, R = insV ((ringE l).drop 0) p false := ⟨_, rfl⟩
  rw [show insV (ringE l) p false = R from hR.symm]
  obtain ⟨q0, hq0⟩ : ∃ p, l[0]? = some p := ⟨_, List.getElem?_eq_getElem (by omega)⟩
  obtain ⟨b1, o1, rfl, hg0⟩ := hS.elem (i := 0) (by omega) (by decide)
  have hld0 := pt_cells hg0 (flatP_get hq0).1 (flatP_get hq0).2
  have hll0 : [Value.int .i64 q0.1, .int .i64 q0.2].length = 2 := rfl
  clear hg0
  repeat' (first
    | refine wkQ ?_
    | ((with_reducible apply TL.pure (d := 13) (v := .bool false)); (· exact Y.eql_b b0 rfl rfl); (· rfl)) | ((with_reducible apply TW.pure (d := 13) (v := .bool false)); (· exact Y.eql_b b0 rfl rfl); (· rfl))
    | refine wkV ?_
    | refine stS ?_ | (refine stB ?_; intro _) | (refine stC ?_; refine And.intro (fun _ => ?_) (fun _ => ?_)))
  rename_i b3
  refine TC.loopK (fun z : Nat × Bool => z.1 ≤ l.length ∧ insV ((ringE l).drop z.1) p z.2 = R) (fun z => l.length - z.1) (fun z _ => [(6, .int .i64 (z.1 : Nat)), (5, .bool z.2), (3, .pointer (some ⟨b3, 0, none⟩)), (0, .slice (some ⟨b1, o1, none⟩) l.length cap)]) [] .nil (fun _ L => L) (0, false) ⟨Nat.zero_le _, hR.symm⟩ subA selF ?_
  clear hR b0
  rintro ⟨i, o⟩ ⟨hi, hI⟩
  try dsimp only at hi hI ⊢
  by_cases hlt : i < l.length
  · obtain ⟨a, ha⟩ : ∃ p, l[i]? = some p := ⟨_, List.getElem?_eq_getElem hlt⟩
    obtain ⟨b4, o4, he, hg⟩ := hS.elem hlt (by decide)
    obtain ⟨rfl, rfl⟩ : b1 = b4 ∧ o1 = o4 := by simpa using he
    have hld := pt_cells hg (flatP_get ha).1 (flatP_get ha).2
    have hll : [Value.int .i64 a.1, .int .i64 a.2].length = 2 := rfl
    have ma : mayB a = true := List.all_eq_true.1 hm _ (List.mem_of_getElem? ha)
    obtain ⟨b, bn, hbn, hb⟩ : ∃ b : Pt, ∃ bn : Bool, decide (((i : Nat) : Int) + 1 < (l.length : Nat)) = bn ∧ (l[(i + 1) % l.length]? = some b ∧ (if bn = true then i + 1 < l.length ∧ l[i + 1]? = some b else b = q0)) := by
      by_cases hh : i + 1 < l.length
      · obtain ⟨b, hb⟩ : ∃ p, l[i + 1]? = some p := ⟨_, List.getElem?_eq_getElem hh⟩
        exact ⟨b, true, decide_eq_true (by omega), by rw [Nat.mod_eq_of_lt hh]; exact hb, by rw [if_pos rfl]; exact ⟨hh, hb⟩⟩
      · exact ⟨q0, false, decide_eq_false (by omega), by rw [show i + 1 = l.length by omega, Nat.mod_self]; exact hq0, by rw [if_neg (by decide)]⟩
    obtain ⟨hb1, hb2⟩ := hb
    have mb : mayB b = true := List.all_eq_true.1 hm _ (List.mem_of_getElem? hb1)
    rw [drop_of_get (ringE_get ha hb1), insV] at hI
    have ON := fun L => rOn8_gives a b p g L ma mb hp
    have T1 := fun L => rTurn8_gives a b p g L ma mb hp
    have T2 := fun L => rTurn8_gives b a p g L mb ma hp
    have key : ∀ z, onB a b p = z → (z = true → (0 : Int) = R) ∧ (z = false → insV ((ringE l).drop (i + 1)) p (if cVb a b p = true then !o else o) = R) := fun z hz => by
      subst hz
      refine ⟨fun h => ?_, fun h => ?_⟩
      · rw [if_pos h] at hI; exact hI
      · rw [if_neg (by rw [h]; decide)] at hI; exact hI
    have hld2 : bn = true → ∀ j u, [Value.int .i64 b.1, .int .i64 b.2][j]? = some u → g.cell b1 (o1 + (i + 1) * 2 + j) = some u := fun h => by
      rw [if_pos h] at hb2
      obtain ⟨b5, o5, he5, hg5⟩ := hS.elem hb2.1 (by decide)
      obtain ⟨rfl, rfl⟩ : b1 = b5 ∧ o1 = o5 := by simpa using he5
      exact pt_cells hg5 (flatP_get hb2.2).1 (flatP_get hb2.2).2
    have hlb : [Value.int .i64 b.1, .int .i64 b.2].length = 2 := rfl
    have hq : bn = false → b = q0 := fun h => by rw [h, if_neg (by decide)] at hb2; exact hb2
    have hw : Hn (IntKind.i64.wrap ((i : Nat) + 1) = ((i + 1 : Nat) : Int)) := ⟨by rw [IntWalk.i64_in _ (by omega)]; rfl⟩
    have bl : decide (((i + 1 : Nat) : Int) < (l.length : Nat)) = bn := by rw [← hbn]; exact decide_eq_decide.2 (by omega)
    clear hI hg he ha hb1 hb2 hS hm ma mb hq0
    unfold cVb at key
    generalize onB a b p = z at *
    obtain ⟨k1, k2⟩ := key z rfl
    clear key
    repeat' (first
    | refine wkQ ?_
    | refine wkV ?_
    | refine wkP ?_
    | refine TC.seq ?_ | refine TC.region ?_ | refine TL.nil ?_ | refine TQ.then_normal ?_
    | ((with_reducible apply TL.storeE); (· rfl); (· rfl); (· rfl); (· exact pkA); (· infer_instance)) | ((with_reducible apply TL.store_whole); (· rfl); (· rfl); (· exact oneA); (· rfl); (· exact pkA); (· rfl))
    | refine TC.ret ?_ | refine TC.skip ?_ | refine TC.exit ?_ | refine TC.cond rfl ?_
    | refine TQ.down ?_ | refine TQ.in_exit' rfl ?_
    | refine TL.guard_yes rfl rfl ?_ | refine TL.guard_no rfl rfl rfl rfl ?_ | refine TL.guard_no0 rfl rfl rfl ?_ | refine TL.guard_undef rfl rfl rfl ?_ | refine TL.guard_undef0 rfl rfl ?_ | refine TL.guard rfl rfl rfl ?_
    | refine Br.t rfl ?_ | refine Br.f rfl ?_ | refine Br.ky kpA ?_ | refine Br.kn kpA ?_ | refine Br.nky kpA ?_ | refine Br.nkn kpA ?_
    | refine Br.eq0 (fun _ => ?_) (fun _ => ?_) | refine Br.neq0 (fun _ => ?_) (fun _ => ?_) | refine Br.eq (fun _ => ?_) (fun _ => ?_) | refine Br.neq (fun _ => ?_) (fun _ => ?_) | refine Br.not (fun _ => ?_) (fun _ => ?_) | refine Br.dec (fun _ => ?_) (fun _ => ?_) | refine Br.bool (fun _ => ?_) (fun _ => ?_)
    | ((with_reducible apply TL.alloc_ag); (· rfl); intro _) | ((with_reducible apply TL.alloc_sc); (· rfl); (· rfl); intro _) | ((with_reducible apply TL.box_ag); (· rfl); (· rfl); intro _) | ((with_reducible apply TL.box_sc); (· rfl); (· rfl); (· rfl); intro _))
    refine TC.block ?_
    refine TC.seq ?_
    refine TC.cutN [_] (fun _ : Nat × Nat => True) (fun z => [(8, .pointer (some ⟨z.2, 0, none⟩)), (7, .pointer (some ⟨z.1, 0, none⟩)), (6, .int .i64 (i : Nat)), (5, .bool o), (3, .pointer (some ⟨b3, 0, none⟩)), (0, .slice (some ⟨b1, o1, none⟩) l.length cap)]) (fun _ => g) (fun z => .obj z.2 (.cells [Value.int .i64 b.1, .int .i64 b.2].toArray 50 (0, 0)) :: .obj z.1 (.cells [Value.int .i64 a.1, .int .i64 a.2].toArray 50 (0, 0)) :: .obj b3 (.cells [Value.int .i64 p.1, .int .i64 p.2].toArray 50 (0, 0)) :: L) ?_ ?_
    · dsimp only [ThenL]
      cases bn
      · obtain rfl := hq rfl
        clear hld2 hq k1 k2 ON T1 T2
        repeat' (first
    | refine wkQ ?_
    | ((with_reducible apply TL.pure (d := 28) (v := .int .i64 ((i + 1 : Nat) : Int))); (· exact Y.add rfl rfl hw.out); (· rfl)) | ((with_reducible apply TW.pure (d := 28) (v := .int .i64 ((i + 1 : Nat) : Int))); (· exact Y.add rfl rfl hw.out); (· rfl))
    | ((with_reducible apply TL.pure (d := 31) (v := .bool false)); (· exact Y.lss_b bl rfl rfl); (· rfl)) | ((with_reducible apply TW.pure (d := 31) (v := .bool false)); (· exact Y.lss_b bl rfl rfl); (· rfl))
    | refine wkV ?_
    | refine stS ?_ | (refine stB ?_; intro _) | (refine stC ?_; refine And.intro (fun _ => ?_) (fun _ => ?_))
    | ((with_reducible apply TA.two 7 8); (· rfl); (· rfl); (· decide +kernel); (· rfl); (· rfl))
    | refine wkN0 ?_
    | refine wkN1 ?_
    | refine wkN2 ?_
    | refine wkN3 ?_
    | refine wkG0 ?_
    | refine wkG1 ?_
    | refine wkG2 ?_
    | refine wkG3 ?_
    | refine wkX0 ?_
    | refine wkX1 ?_
    | refine wkX2 ?_
    | refine wkX3 ?_
    | refine wkN0 ?_
    | refine wkN1 ?_
    | refine wkN2 ?_
    | refine wkN3 ?_
    | ((with_reducible apply TA.oneN 0); (· rfl); (· rfl); (· decide +kernel); (· rfl))
    | ((with_reducible apply TA.oneN 1); (· rfl); (· rfl); (· decide +kernel); (· rfl))
    | ((with_reducible apply TA.oneN 2); (· rfl); (· rfl); (· decide +kernel); (· rfl))
    | ((with_reducible apply TA.oneN 3); (· rfl); (· rfl); (· decide +kernel); (· rfl))
    | refine TQ.any leF selF ?_
    | refine TC.region_any 11 (_) (by kernel_rfl) rfl selF ?_ | refine TA.done (by decide +kernel) ?_ | refine TQ.any_panic ?_)
        all_goals
          refine TQ.cut (_, _) ?_ rfl subA selF
          trivial
      · have hlt2 : i + 1 < l.length := by have := of_decide_eq_true bl; omega
        have hld3 := hld2 rfl
        clear hld2 hq k1 k2 ON T1 T2
        repeat' (first
    | refine wkQ ?_
    | ((with_reducible apply TL.pure (d := 28) (v := .int .i64 ((i + 1 : Nat) : Int))); (· exact Y.add rfl rfl hw.out); (· rfl)) | ((with_reducible apply TW.pure (d := 28) (v := .int .i64 ((i + 1 : Nat) : Int))); (· exact Y.add rfl rfl hw.out); (· rfl))
    | ((with_reducible apply TL.pure (d := 31) (v := .bool true)); (· exact Y.lss_b bl rfl rfl); (· rfl)) | ((with_reducible apply TW.pure (d := 31) (v := .bool true)); (· exact Y.lss_b bl rfl rfl); (· rfl))
    | ((with_reducible apply TL.pure (d := 34) (v := .int .i64 ((i + 1 : Nat) : Int))); (· exact Y.add rfl rfl hw.out); (· rfl)) | ((with_reducible apply TW.pure (d := 34) (v := .int .i64 ((i + 1 : Nat) : Int))); (· exact Y.add rfl rfl hw.out); (· rfl))
    | refine wkV ?_
    | refine stS ?_ | (refine stB ?_; intro _) | (refine stC ?_; refine And.intro (fun _ => ?_) (fun _ => ?_))
    | ((with_reducible apply TA.two 7 8); (· rfl); (· rfl); (· decide +kernel); (· rfl); (· rfl))
    | refine wkN0 ?_
    | refine wkN1 ?_
    | refine wkN2 ?_
    | refine wkN3 ?_
    | refine wkG0 ?_
    | refine wkG1 ?_
    | refine wkG2 ?_
    | refine wkG3 ?_
    | refine wkX0 ?_
    | refine wkX1 ?_
    | refine wkX2 ?_
    | refine wkX3 ?_
    | refine wkN0 ?_
    | refine wkN1 ?_
    | refine wkN2 ?_
    | refine wkN3 ?_
    | ((with_reducible apply TA.oneN 0); (· rfl); (· rfl); (· decide +kernel); (· rfl))
    | ((with_reducible apply TA.oneN 1); (· rfl); (· rfl); (· decide +kernel); (· rfl))
    | ((with_reducible apply TA.oneN 2); (· rfl); (· rfl); (· decide +kernel); (· rfl))
    | ((with_reducible apply TA.oneN 3); (· rfl); (· rfl); (· decide +kernel); (· rfl))
    | refine TQ.any leF selF ?_
    | refine TC.region_any 11 (_) (by kernel_rfl) rfl selF ?_ | refine TA.done (by decide +kernel) ?_ | refine TQ.any_panic ?_)
        all_goals
          refine TQ.cut (_, _) ?_ rfl subA selF
          trivial
    rintro ⟨b7, b8⟩ _
    dsimp only
    clear hld2 hq hld hll hld0 hll0 hlb hw bl
    cases z with
    | true =>
      obtain rfl := k1 rfl
      clear k1 k2 T1 T2
      repeat' (first
    | refine wkQ ?_
    | refine wkV ?_
    | ((with_reducible apply TL.gives_plain); (· kernel_rfl); (· rfl); (· exact ON _); (· rfl)) | ((with_reducible apply TW.gives_plain); (· kernel_rfl); (· rfl); (· exact ON _); (· rfl))
    | refine stS ?_ | (refine stB ?_; intro _) | (refine stC ?_; refine And.intro (fun _ => ?_) (fun _ => ?_)))
      refine TQ.endR1 (L' := L) Tryz.results72 rvA rfl (.refl _) ?_ selF
      exact ⟨rfl, rfl, rfl⟩
    | false =>
    have k3 := k2 rfl
    clear k1 k2
    cases c1 : decide (p.1 < a.1) <;> cases c2 : decide (p.1 < b.1) <;> rw [c1, c2] at k3
    · clear T1 T2
      repeat' (first
    | refine wkQ ?_
    | ((with_reducible apply TL.pure (d := 45) (v := .bool false)); (· exact Y.gtr_b c1 rfl rfl); (· rfl)) | ((with_reducible apply TW.pure (d := 45) (v := .bool false)); (· exact Y.gtr_b c1 rfl rfl); (· rfl))
    | ((with_reducible apply TL.pure (d := 50) (v := .bool false)); (· exact Y.gtr_b c2 rfl rfl); (· rfl)) | ((with_reducible apply TW.pure (d := 50) (v := .bool false)); (· exact Y.gtr_b c2 rfl rfl); (· rfl))
    | refine wkV ?_
    | ((with_reducible apply TL.gives_plain); (· kernel_rfl); (· rfl); (· exact ON _); (· rfl)) | ((with_reducible apply TW.gives_plain); (· kernel_rfl); (· rfl); (· exact ON _); (· rfl))
    | refine stS ?_ | (refine stB ?_; intro _) | (refine stC ?_; refine And.intro (fun _ => ?_) (fun _ => ?_)))
      refine TQ.round (i + 1, o) ?_ ?_ rfl subA selF
      · exact ⟨by dsimp only; omega, k3⟩
      · show l.length - (i + 1) < l.length - i
        omega
    · have e1 := of_decide_eq_false c1
      have e2 := of_decide_eq_true c2
      have c3 : decide (b.1 < a.1) = false := decide_eq_false (by omega)
      have cs : (if b.1 < a.1 then decide (tn b a p < 0) else decide (tn a b p < 0)) = decide (tn a b p < 0) := if_neg (by omega)
      rw [cs] at k3
      clear cs e1 e2 T2
      generalize tn a b p = t at *
      cases c4 : decide (t < 0) <;> rw [c4] at k3
      · repeat' (first
    | refine wkQ ?_
    | ((with_reducible apply TL.pure (d := 45) (v := .bool false)); (· exact Y.gtr_b c1 rfl rfl); (· rfl)) | ((with_reducible apply TW.pure (d := 45) (v := .bool false)); (· exact Y.gtr_b c1 rfl rfl); (· rfl))
    | ((with_reducible apply TL.pure (d := 50) (v := .bool true)); (· exact Y.gtr_b c2 rfl rfl); (· rfl)) | ((with_reducible apply TW.pure (d := 50) (v := .bool true)); (· exact Y.gtr_b c2 rfl rfl); (· rfl))
    | ((with_reducible apply TL.pure (d := 58) (v := .bool false)); (· exact Y.gtr_b c3 rfl rfl); (· rfl)) | ((with_reducible apply TW.pure (d := 58) (v := .bool false)); (· exact Y.gtr_b c3 rfl rfl); (· rfl))
    | ((with_reducible apply TL.pure (d := 65) (v := .bool false)); (· exact Y.lss_b c4 rfl rfl); (· rfl)) | ((with_reducible apply TW.pure (d := 65) (v := .bool false)); (· exact Y.lss_b c4 rfl rfl); (· rfl))
    | refine wkV ?_
    | ((with_reducible apply TL.gives_plain); (· kernel_rfl); (· rfl); (· exact ON _); (· rfl)) | ((with_reducible apply TW.gives_plain); (· kernel_rfl); (· rfl); (· exact ON _); (· rfl))
    | ((with_reducible apply TL.gives_plain); (· kernel_rfl); (· rfl); (· exact T1 _); (· rfl)) | ((with_reducible apply TW.gives_plain); (· kernel_rfl); (· rfl); (· exact T1 _); (· rfl))
    | refine stS ?_ | (refine stB ?_; intro _) | (refine stC ?_; refine And.intro (fun _ => ?_) (fun _ => ?_))
    | ((with_reducible apply TA.two 2 3); (· rfl); (· rfl); (· decide +kernel); (· rfl); (· rfl))
    | refine wkN0 ?_
    | refine wkN1 ?_
    | refine wkN2 ?_
    | refine wkN3 ?_
    | refine wkG0 ?_
    | refine wkG1 ?_
    | refine wkG2 ?_
    | refine wkG3 ?_
    | refine wkX0 ?_
    | refine wkX1 ?_
    | refine wkX2 ?_
    | refine wkX3 ?_
    | refine wkN0 ?_
    | refine wkN1 ?_
    | refine wkN2 ?_
    | refine wkN3 ?_
    | ((with_reducible apply TA.oneN 0); (· rfl); (· rfl); (· decide +kernel); (· rfl))
    | ((with_reducible apply TA.oneN 1); (· rfl); (· rfl); (· decide +kernel); (· rfl))
    | ((with_reducible apply TA.oneN 2); (· rfl); (· rfl); (· decide +kernel); (· rfl))
    | ((with_reducible apply TA.oneN 3); (· rfl); (· rfl); (· decide +kernel); (· rfl))
    | refine TQ.any leF selF ?_
    | refine TC.region_any 6 (_) (by kernel_rfl) rfl selF ?_ | refine TA.done (by decide +kernel) ?_ | refine TQ.any_panic ?_)
        all_goals
          refine TQ.round (i + 1, o) ?_ ?_ rfl subA selF
          · exact ⟨by dsimp only; omega, k3⟩
          · show l.length - (i + 1) < l.length - i
            omega
      · repeat' (first
    | refine wkQ ?_
    | ((with_reducible apply TL.pure (d := 45) (v := .bool false)); (· exact Y.gtr_b c1 rfl rfl); (· rfl)) | ((with_reducible apply TW.pure (d := 45) (v := .bool false)); (· exact Y.gtr_b c1 rfl rfl); (· rfl))
    | ((with_reducible apply TL.pure (d := 50) (v := .bool true)); (· exact Y.gtr_b c2 rfl rfl); (· rfl)) | ((with_reducible apply TW.pure (d := 50) (v := .bool true)); (· exact Y.gtr_b c2 rfl rfl); (· rfl))
    | ((with_reducible apply TL.pure (d := 58) (v := .bool false)); (· exact Y.gtr_b c3 rfl rfl); (· rfl)) | ((with_reducible apply TW.pure (d := 58) (v := .bool false)); (· exact Y.gtr_b c3 rfl rfl); (· rfl))
    | ((with_reducible apply TL.pure (d := 65) (v := .bool true)); (· exact Y.lss_b c4 rfl rfl); (· rfl)) | ((with_reducible apply TW.pure (d := 65) (v := .bool true)); (· exact Y.lss_b c4 rfl rfl); (· rfl))
    | refine wkV ?_
    | ((with_reducible apply TL.gives_plain); (· kernel_rfl); (· rfl); (· exact ON _); (· rfl)) | ((with_reducible apply TW.gives_plain); (· kernel_rfl); (· rfl); (· exact ON _); (· rfl))
    | ((with_reducible apply TL.gives_plain); (· kernel_rfl); (· rfl); (· exact T1 _); (· rfl)) | ((with_reducible apply TW.gives_plain); (· kernel_rfl); (· rfl); (· exact T1 _); (· rfl))
    | refine stS ?_ | (refine stB ?_; intro _) | (refine stC ?_; refine And.intro (fun _ => ?_) (fun _ => ?_))
    | ((with_reducible apply TA.two 2 3); (· rfl); (· rfl); (· decide +kernel); (· rfl); (· rfl))
    | refine wkN0 ?_
    | refine wkN1 ?_
    | refine wkN2 ?_
    | refine wkN3 ?_
    | refine wkG0 ?_
    | refine wkG1 ?_
    | refine wkG2 ?_
    | refine wkG3 ?_
    | refine wkX0 ?_
    | refine wkX1 ?_
    | refine wkX2 ?_
    | refine wkX3 ?_
    | refine wkN0 ?_
    | refine wkN1 ?_
    | refine wkN2 ?_
    | refine wkN3 ?_
    | ((with_reducible apply TA.oneN 0); (· rfl); (· rfl); (· decide +kernel); (· rfl))
    | ((with_reducible apply TA.oneN 1); (· rfl); (· rfl); (· decide +kernel); (· rfl))
    | ((with_reducible apply TA.oneN 2); (· rfl); (· rfl); (· decide +kernel); (· rfl))
    | ((with_reducible apply TA.oneN 3); (· rfl); (· rfl); (· decide +kernel); (· rfl))
    | refine TQ.any leF selF ?_
    | refine TC.region_any 6 (_) (by kernel_rfl) rfl selF ?_ | refine TA.done (by decide +kernel) ?_ | refine TQ.any_panic ?_)
        all_goals
          refine TQ.round (i + 1, !o) ?_ ?_ rfl subA selF
          · exact ⟨by dsimp only; omega, k3⟩
          · show l.length - (i + 1) < l.length - i
            omega
    · have e1 := of_decide_eq_true c1
      have e2 := of_decide_eq_false c2
      have c3 : decide (b.1 < a.1) = true := decide_eq_true (by omega)
      have cs : (if b.1 < a.1 then decide (tn b a p < 0) else decide (tn a b p < 0)) = decide (tn b a p < 0) := if_pos (by omega)
      rw [cs] at k3
      clear cs e1 e2 T1
      generalize tn b a p = t at *
      cases c4 : decide (t < 0) <;> rw [c4] at k3
      · repeat' (first
    | refine wkQ ?_
    | ((with_reducible apply TL.pure (d := 45) (v := .bool true)); (· exact Y.gtr_b c1 rfl rfl); (· rfl)) | ((with_reducible apply TW.pure (d := 45) (v := .bool true)); (· exact Y.gtr_b c1 rfl rfl); (· rfl))
    | ((with_reducible apply TL.pure (d := 50) (v := .bool false)); (· exact Y.gtr_b c2 rfl rfl); (· rfl)) | ((with_reducible apply TW.pure (d := 50) (v := .bool false)); (· exact Y.gtr_b c2 rfl rfl); (· rfl))
    | ((with_reducible apply TL.pure (d := 58) (v := .bool true)); (· exact Y.gtr_b c3 rfl rfl); (· rfl)) | ((with_reducible apply TW.pure (d := 58) (v := .bool true)); (· exact Y.gtr_b c3 rfl rfl); (· rfl))
    | ((with_reducible apply TL.pure (d := 65) (v := .bool false)); (· exact Y.lss_b c4 rfl rfl); (· rfl)) | ((with_reducible apply TW.pure (d := 65) (v := .bool false)); (· exact Y.lss_b c4 rfl rfl); (· rfl))
    | refine wkV ?_
    | ((with_reducible apply TL.gives_plain); (· kernel_rfl); (· rfl); (· exact ON _); (· rfl)) | ((with_reducible apply TW.gives_plain); (· kernel_rfl); (· rfl); (· exact ON _); (· rfl))
    | ((with_reducible apply TL.gives_plain); (· kernel_rfl); (· rfl); (· exact T2 _); (· rfl)) | ((with_reducible apply TW.gives_plain); (· kernel_rfl); (· rfl); (· exact T2 _); (· rfl))
    | refine stS ?_ | (refine stB ?_; intro _) | (refine stC ?_; refine And.intro (fun _ => ?_) (fun _ => ?_))
    | refine TC.region_sink 3 4 ([.obj b8 (.cells [Value.int .i64 b.1, .int .i64 b.2].toArray 50 (0, 0)), .obj b7 (.cells [Value.int .i64 a.1, .int .i64 a.2].toArray 50 (0, 0))]) (by kernel_rfl) (by decide +kernel) rfl selF ?_ | refine TQ.anyT_panic ?_
    | ((with_reducible apply TB.takeN 0); (· rfl); (· decide +kernel); (· rfl); (· first | (first | exact yQ | exact yA | exact yB | exact yM | exact yV) | fail); (· decide +kernel); (· decide +kernel); (· rfl); (· exact fun _ _ _ h => h); (· rfl))
    | ((with_reducible apply TB.takeN 1); (· rfl); (· decide +kernel); (· rfl); (· first | (first | exact yQ | exact yA | exact yB | exact yM | exact yV) | fail); (· decide +kernel); (· decide +kernel); (· rfl); (· exact fun _ _ _ h => h); (· rfl))
    | ((with_reducible apply TB.takeN 2); (· rfl); (· decide +kernel); (· rfl); (· first | (first | exact yQ | exact yA | exact yB | exact yM | exact yV) | fail); (· decide +kernel); (· decide +kernel); (· rfl); (· exact fun _ _ _ h => h); (· rfl))
    | ((with_reducible apply TB.takeN 3); (· rfl); (· decide +kernel); (· rfl); (· first | (first | exact yQ | exact yA | exact yB | exact yM | exact yV) | fail); (· decide +kernel); (· decide +kernel); (· rfl); (· exact fun _ _ _ h => h); (· rfl))
    | ((with_reducible apply TB.oneN 0); (· rfl); (· rfl); (· decide +kernel); (· rfl); intro hsk)
    | ((with_reducible apply TB.oneN 1); (· rfl); (· rfl); (· decide +kernel); (· rfl); intro hsk)
    | ((with_reducible apply TB.oneN 2); (· rfl); (· rfl); (· decide +kernel); (· rfl); intro hsk)
    | ((with_reducible apply TB.oneN 3); (· rfl); (· rfl); (· decide +kernel); (· rfl); intro hsk)
    | refine TQ.lastT (by decide +kernel) ?_ | refine TQ.anyT (by assumption) leF selF ?_
    | ((with_reducible apply TA.two 2 3); (· rfl); (· rfl); (· decide +kernel); (· rfl); (· rfl))
    | refine wkN0 ?_
    | refine wkN1 ?_
    | refine wkN2 ?_
    | refine wkN3 ?_
    | refine wkG0 ?_
    | refine wkG1 ?_
    | refine wkG2 ?_
    | refine wkG3 ?_
    | refine wkX0 ?_
    | refine wkX1 ?_
    | refine wkX2 ?_
    | refine wkX3 ?_
    | refine wkN0 ?_
    | refine wkN1 ?_
    | refine wkN2 ?_
    | refine wkN3 ?_
    | ((with_reducible apply TA.oneN 0); (· rfl); (· rfl); (· decide +kernel); (· rfl))
    | ((with_reducible apply TA.oneN 1); (· rfl); (· rfl); (· decide +kernel); (· rfl))
    | ((with_reducible apply TA.oneN 2); (· rfl); (· rfl); (· decide +kernel); (· rfl))
    | ((with_reducible apply TA.oneN 3); (· rfl); (· rfl); (· decide +kernel); (· rfl))
    | refine TQ.any leF selF ?_
    | refine TC.region_any 6 (_) (by kernel_rfl) rfl selF ?_ | refine TA.done (by decide +kernel) ?_ | refine TQ.any_panic ?_)
        all_goals
          refine TQ.round (i + 1, o) ?_ ?_ rfl subA selF
          · exact ⟨by dsimp only; omega, k3⟩
          · show l.length - (i + 1) < l.length - i
            omega
      · repeat' (first
    | refine wkQ ?_
    | ((with_reducible apply TL.pure (d := 45) (v := .bool true)); (· exact Y.gtr_b c1 rfl rfl); (· rfl)) | ((with_reducible apply TW.pure (d := 45) (v := .bool true)); (· exact Y.gtr_b c1 rfl rfl); (· rfl))
    | ((with_reducible apply TL.pure (d := 50) (v := .bool false)); (· exact Y.gtr_b c2 rfl rfl); (· rfl)) | ((with_reducible apply TW.pure (d := 50) (v := .bool false)); (· exact Y.gtr_b c2 rfl rfl); (· rfl))
    | ((with_reducible apply TL.pure (d := 58) (v := .bool true)); (· exact Y.gtr_b c3 rfl rfl); (· rfl)) | ((with_reducible apply TW.pure (d := 58) (v := .bool true)); (· exact Y.gtr_b c3 rfl rfl); (· rfl))
    | ((with_reducible apply TL.pure (d := 65) (v := .bool true)); (· exact Y.lss_b c4 rfl rfl); (· rfl)) | ((with_reducible apply TW.pure (d := 65) (v := .bool true)); (· exact Y.lss_b c4 rfl rfl); (· rfl))
    | refine wkV ?_
    | ((with_reducible apply TL.gives_plain); (· kernel_rfl); (· rfl); (· exact ON _); (· rfl)) | ((with_reducible apply TW.gives_plain); (· kernel_rfl); (· rfl); (· exact ON _); (· rfl))
    | ((with_reducible apply TL.gives_plain); (· kernel_rfl); (· rfl); (· exact T2 _); (· rfl)) | ((with_reducible apply TW.gives_plain); (· kernel_rfl); (· rfl); (· exact T2 _); (· rfl))
    | refine stS ?_ | (refine stB ?_; intro _) | (refine stC ?_; refine And.intro (fun _ => ?_) (fun _ => ?_))
    | refine TC.region_sink 3 4 ([.obj b8 (.cells [Value.int .i64 b.1, .int .i64 b.2].toArray 50 (0, 0)), .obj b7 (.cells [Value.int .i64 a.1, .int .i64 a.2].toArray 50 (0, 0))]) (by kernel_rfl) (by decide +kernel) rfl selF ?_ | refine TQ.anyT_panic ?_
    | ((with_reducible apply TB.takeN 0); (· rfl); (· decide +kernel); (· rfl); (· first | (first | exact yQ | exact yA | exact yB | exact yM | exact yV) | fail); (· decide +kernel); (· decide +kernel); (· rfl); (· exact fun _ _ _ h => h); (· rfl))
    | ((with_reducible apply TB.takeN 1); (· rfl); (· decide +kernel); (· rfl); (· first | (first | exact yQ | exact yA | exact yB | exact yM | exact yV) | fail); (· decide +kernel); (· decide +kernel); (· rfl); (· exact fun _ _ _ h => h); (· rfl))
    | ((with_reducible apply TB.takeN 2); (· rfl); (· decide +kernel); (· rfl); (· first | (first | exact yQ | exact yA | exact yB | exact yM | exact yV) | fail); (· decide +kernel); (· decide +kernel); (· rfl); (· exact fun _ _ _ h => h); (· rfl))
    | ((with_reducible apply TB.takeN 3); (· rfl); (· decide +kernel); (· rfl); (· first | (first | exact yQ | exact yA | exact yB | exact yM | exact yV) | fail); (· decide +kernel); (· decide +kernel); (· rfl); (· exact fun _ _ _ h => h); (· rfl))
    | ((with_reducible apply TB.oneN 0); (· rfl); (· rfl); (· decide +kernel); (· rfl); intro hsk)
    | ((with_reducible apply TB.oneN 1); (· rfl); (· rfl); (· decide +kernel); (· rfl); intro hsk)
    | ((with_reducible apply TB.oneN 2); (· rfl); (· rfl); (· decide +kernel); (· rfl); intro hsk)
    | ((with_reducible apply TB.oneN 3); (· rfl); (· rfl); (· decide +kernel); (· rfl); intro hsk)
    | refine TQ.lastT (by decide +kernel) ?_ | refine TQ.anyT (by assumption) leF selF ?_
    | ((with_reducible apply TA.two 2 3); (· rfl); (· rfl); (· decide +kernel); (· rfl); (· rfl))
    | refine wkN0 ?_
    | refine wkN1 ?_
    | refine wkN2 ?_
    | refine wkN3 ?_
    | refine wkG0 ?_
    | refine wkG1 ?_
    | refine wkG2 ?_
    | refine wkG3 ?_
    | refine wkX0 ?_
    | refine wkX1 ?_
    | refine wkX2 ?_
    | refine wkX3 ?_
    | refine wkN0 ?_
    | refine wkN1 ?_
    | refine wkN2 ?_
    | refine wkN3 ?_
    | ((with_reducible apply TA.oneN 0); (· rfl); (· rfl); (· decide +kernel); (· rfl))
    | ((with_reducible apply TA.oneN 1); (· rfl); (· rfl); (· decide +kernel); (· rfl))
    | ((with_reducible apply TA.oneN 2); (· rfl); (· rfl); (· decide +kernel); (· rfl))
    | ((with_reducible apply TA.oneN 3); (· rfl); (· rfl); (· decide +kernel); (· rfl))
    | refine TQ.any leF selF ?_
    | refine TC.region_any 6 (_) (by kernel_rfl) rfl selF ?_ | refine TA.done (by decide +kernel) ?_ | refine TQ.any_panic ?_)
        all_goals
          refine TQ.round (i + 1, !o) ?_ ?_ rfl subA selF
          · exact ⟨by dsimp only; omega, k3⟩
          · show l.length - (i + 1) < l.length - i
            omega
    · clear T1 T2
      repeat' (first
    | refine wkQ ?_
    | ((with_reducible apply TL.pure (d := 45) (v := .bool true)); (· exact Y.gtr_b c1 rfl rfl); (· rfl)) | ((with_reducible apply TW.pure (d := 45) (v := .bool true)); (· exact Y.gtr_b c1 rfl rfl); (· rfl))
    | ((with_reducible apply TL.pure (d := 50) (v := .bool true)); (· exact Y.gtr_b c2 rfl rfl); (· rfl)) | ((with_reducible apply TW.pure (d := 50) (v := .bool true)); (· exact Y.gtr_b c2 rfl rfl); (· rfl))
    | refine wkV ?_
    | ((with_reducible apply TL.gives_plain); (· kernel_rfl); (· rfl); (· exact ON _); (· rfl)) | ((with_reducible apply TW.gives_plain); (· kernel_rfl); (· rfl); (· exact ON _); (· rfl))
    | refine stS ?_ | (refine stB ?_; intro _) | (refine stC ?_; refine And.intro (fun _ => ?_) (fun _ => ?_)))
      refine TQ.round (i + 1, o) ?_ ?_ rfl subA selF
      · exact ⟨by dsimp only; omega, k3⟩
      · show l.length - (i + 1) < l.length - i
        omega
  · obtain rfl : i = l.length := by omega
    rw [List.drop_eq_nil_of_le (by rw [ringE_len]; exact Nat.le_refl _), insV] at hI
    cases o with
    | true =>
      obtain rfl : (1 : Int) = R := hI
      clear hS
      repeat' (first
    | refine wkQ ?_
    | refine wkV ?_
    | refine stS ?_ | (refine stB ?_; intro _) | (refine stC ?_; refine And.intro (fun _ => ?_) (fun _ => ?_)))
      refine TQ.endR1 (L' := L) Tryz.results72 rvA rfl (.refl _) ?_ selF
      exact ⟨rfl, rfl, rfl⟩
    | false =>
      obtain rfl : (-1 : Int) = R := hI
      clear hS
      repeat' (first
    | refine wkQ ?_
    | refine wkV ?_
    | refine stS ?_ | (refine stB ?_; intro _) | (refine stC ?_; refine And.intro (fun _ => ?_) (fun _ => ?_)))
      refine TQ.endR1 (L' := L) Tryz.results72 rvA rfl (.refl _) ?_ selF
      exact ⟨rfl, rfl, rfl⟩
end Go.Proofs.YtfanccddokckcaaGreatDoor
