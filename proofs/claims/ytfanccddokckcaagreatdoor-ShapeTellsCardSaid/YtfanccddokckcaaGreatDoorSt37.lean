/-
  The document's simple, walked.
-/
import Derived.Test.YtfanccddokckcaaGreatDoorSt2
import Derived.Test.YtfanccddokckcaaGreatDoorSt33
import Derived.Test.YtfanccddokckcaaGreatDoorSt36
namespace Go.Proofs.YtfanccddokckcaaGreatDoor
open Go.RowKit Go.TL
set_option maxRecDepth 100000

theorem ed_part {g : Gh} {b o : Nat} {e : Pt × Pt} (h : ∀ j u, (edC e)[j]? = some u → g.cell b (o + j) = some u) : (∀ j u, (ptC e.1)[j]? = some u → g.cell b (o + j) = some u) ∧ (∀ j u, (ptC e.2)[j]? = some u → g.cell b (o + 2 + j) = some u) := by
  refine ⟨fun j u hu => ?_, fun j u hu => ?_⟩
  · match j, hu with
    | 0, hu => simp at hu; subst hu; exact h 0 _ rfl
    | 1, hu => simp at hu; subst hu; exact h 1 _ rfl
    | j + 2, hu => simp at hu
  · match j, hu with
    | 0, hu => simp at hu; subst hu; exact h 2 _ rfl
    | 1, hu => simp at hu; subst hu; exact h 3 _ rfl
    | j + 2, hu => simp at hu
set_option maxHeartbeats 32000000 in
theorem rsimple9_gives (l : List Pt) (v : Value) (g : Gh) (L : List Ent) (hS : Sl g v l.length 2 (flatP l)) (hl : l.length ≤ 1000000) (hm : l.all mayB = true) : Gives Tryz.prog 47 #[v] g L (.bool (simpleE (partE 2 l))) := by
  refine .of (Does.of1 Tryz.func47 rfl Tryz.ntmps47 rfl ?_)
  have hpl : (partE 2 l).length ≤ 1000000 := by rw [partE_len]; split <;> omega
  have PA := fun L => rpart9_does 2 l v g L hS hl
  have hmay : ∀ e ∈ partE 2 l, mayB e.1 = true ∧ mayB e.2 = true := fun e he => by
    obtain ⟨m1, m2⟩ := partE_mem he
    exact ⟨List.all_eq_true.1 hm _ m1, List.all_eq_true.1 hm _ m2⟩
  obtain ⟨ao, cap, rfl⟩ := hS.slice
  generalize partE 2 l = es at *
  clear hS hm
  repeat' (first
    | refine wkQ ?_
    | refine wkV ?_
    | (refine TL.call (Enters.plain (by kernel_rfl) (by rfl)) (by rfl) (PA _) ?_; (rintro e g2 Ln hg2 ⟨vc, k1, k2, k3⟩; have k2 := k2.symm; subst k1; subst k2; obtain ⟨a1, c1, rfl⟩ := k3.slice; have K3 := Hn.mk k3; clear k3; refine CallK.ret ?_))
    | refine stS ?_ | (refine stB ?_; intro _) | (refine stC ?_; refine And.intro (fun _ => ?_) (fun _ => ?_)))
  obtain ⟨R, hR⟩ : ∃ R, R = simpleE es := ⟨_, rfl⟩
  rw [← hR]
  refine TC.loopK (fun i : Nat => i ≤ es.length ∧ ∀ i', i' < i → ∀ k', k' < es.length → i' < k' → apE es i' k' = true) (fun i => es.length - i) (fun i _ => [(5, .int .i64 (i : Nat)), (4, .int .i64 (es.length : Nat)), (3, .slice a1 es.length c1)]) [] .nil (fun _ L => L) 0 ⟨Nat.zero_le _, fun i' h => absurd h (Nat.not_lt_zero _)⟩ subA selF ?_
  clear PA
  rintro i ⟨hi, hI⟩
  try dsimp only at hi hI ⊢
  by_cases hlt : i < es.length
  · obtain ⟨x, hx⟩ : ∃ x, es[i]? = some x := ⟨_, List.getElem?_eq_getElem hlt⟩
    have HI := Hn.mk hI
    clear hI
    repeat' (first
    | refine wkQ ?_
    | refine wkV ?_
    | refine stS ?_ | (refine stB ?_; intro _) | (refine stC ?_; refine And.intro (fun _ => ?_) (fun _ => ?_)))
    refine TC.loopK (fun k : Nat => (i < k ∧ k ≤ es.length) ∧ ∀ k', i < k' → k' < k → apE es i k' = true) (fun k => es.length - k) (fun k _ => [(6, .int .i64 (k : Nat)), (5, .int .i64 (i : Nat)), (4, .int .i64 (es.length : Nat)), (3, .slice a1 es.length c1)]) [] .nil (fun _ L => L) (i + 1) ⟨⟨by omega, by omega⟩, fun k' h h2 => by omega⟩ subA selF ?_
    rintro k ⟨⟨hik, hk⟩, hJ⟩
    try dsimp only at hk hJ ⊢
    by_cases hlt2 : k < es.length
    · obtain ⟨y, hy⟩ : ∃ y, es[k]? = some y := ⟨_, List.getElem?_eq_getElem hlt2⟩
      obtain ⟨b1, o1, rfl, hg⟩ := K3.out.elem hlt (by decide)
      obtain ⟨b3, o2, he2, hg2'⟩ := K3.out.elem hlt2 (by decide)
      obtain ⟨rfl, rfl⟩ : b1 = b3 ∧ o1 = o2 := by simpa using he2
      have hld := ed_cells hg (flatE_get hx).1 (flatE_get hx).2.1 (flatE_get hx).2.2.1 (flatE_get hx).2.2.2
      have hld2 := ed_cells hg2' (flatE_get hy).1 (flatE_get hy).2.1 (flatE_get hy).2.2.1 (flatE_get hy).2.2.2
      have hll : (edC x).length = 4 := rfl
      have hll2 : (edC y).length = 4 := rfl
      obtain ⟨hp0, hp1⟩ := ed_part hld
      obtain ⟨hq0, hq1⟩ := ed_part hld2
      have hl0 : (ptC x.1).length = 2 := rfl
      have hl1 : (ptC x.2).length = 2 := rfl
      have hl2 : (ptC y.1).length = 2 := rfl
      have hl3 : (ptC y.2).length = 2 := rfl
      have hap := apE_at hx hy
      obtain ⟨mx1, mx2⟩ := hmay x (List.mem_of_getElem? hx)
      obtain ⟨my1, my2⟩ := hmay y (List.mem_of_getElem? hy)
      have HJ := Hn.mk hJ
      obtain ⟨a, b⟩ := x
      obtain ⟨c, d⟩ := y
      dsimp only at mx1 mx2 my1 my2
      have key : ∀ z : Bool, apE es i k = z → (z = true → ∀ k', i < k' → k' < k + 1 → apE es i k' = true) ∧ (z = false → simpleE es = false) := fun z hz => by
        refine ⟨fun h k' hk1 hk' => ?_, fun h => ?_⟩
        · subst h
          by_cases he : k' = k
          · subst he; exact hz
          · exact HJ.out k' hk1 (by omega)
        · subst h; exact simpleE_no hlt2 hik hz
      clear hJ hx hy hg hg2' he2 HJ HI hmay
      unfold apartE at hap
      by_cases h1 : k = i + 1
      · have b0 : decide (((k : Nat) : Int) = (i : Nat) + 1) = true := decide_eq_true (by omega)
        rw [if_pos h1] at hap
        have SH := fun L => rshared9_gives (a, b) (c, d) g2 L mx1 mx2 my1 my2
        clear hp0 hp1 hq0 hq1
        dsimp only at SH hap
        generalize (!OnF a b d && !OnF c d a) = z at *
        obtain ⟨q1, q2⟩ := key z hap
        cases z with
        | true =>
          repeat' (first
    | refine wkQ ?_
    | ((with_reducible apply TL.pure (d := 26) (v := .bool true)); (· exact Y.eql_b b0 rfl rfl); (· rfl)) | ((with_reducible apply TW.pure (d := 26) (v := .bool true)); (· exact Y.eql_b b0 rfl rfl); (· rfl))
    | refine wkV ?_
    | ((with_reducible apply TL.gives_plain); (· kernel_rfl); (· rfl); (· exact SH _); (· rfl)) | ((with_reducible apply TW.gives_plain); (· kernel_rfl); (· rfl); (· exact SH _); (· rfl))
    | refine stS ?_ | (refine stB ?_; intro _) | (refine stC ?_; refine And.intro (fun _ => ?_) (fun _ => ?_))
    | refine wkN0 ?_
    | refine wkN1 ?_
    | refine wkN2 ?_
    | refine wkN3 ?_
    | refine wkG0 ?_
    | refine wkG1 ?_
    | refine wkG2 ?_
    | refine wkG3 ?_
    | refine wkX0 ?_
    | refine wkX1 ?_
    | refine wkX2 ?_
    | refine wkX3 ?_
    | refine wkN0 ?_
    | refine wkN1 ?_
    | refine wkN2 ?_
    | refine wkN3 ?_
    | ((with_reducible apply TA.oneN 0); (· rfl); (· rfl); (· decide +kernel); (· rfl))
    | ((with_reducible apply TA.oneN 1); (· rfl); (· rfl); (· decide +kernel); (· rfl))
    | ((with_reducible apply TA.oneN 2); (· rfl); (· rfl); (· decide +kernel); (· rfl))
    | ((with_reducible apply TA.oneN 3); (· rfl); (· rfl); (· decide +kernel); (· rfl))
    | refine TQ.any leF selF ?_
    | refine TC.region_any 10 (_) (by kernel_rfl) rfl selF ?_ | refine TA.done (by decide +kernel) ?_ | refine TQ.any_panic ?_)
          refine TQ.round (k + 1) ?_ ?_ rfl subA selF
          · exact ⟨⟨by omega, by omega⟩, q1 rfl⟩
          · show es.length - (k + 1) < es.length - k
            omega
        | false =>
          repeat' (first
    | refine wkQ ?_
    | ((with_reducible apply TL.pure (d := 26) (v := .bool true)); (· exact Y.eql_b b0 rfl rfl); (· rfl)) | ((with_reducible apply TW.pure (d := 26) (v := .bool true)); (· exact Y.eql_b b0 rfl rfl); (· rfl))
    | refine wkV ?_
    | ((with_reducible apply TL.gives_plain); (· kernel_rfl); (· rfl); (· exact SH _); (· rfl)) | ((with_reducible apply TW.gives_plain); (· kernel_rfl); (· rfl); (· exact SH _); (· rfl))
    | refine stS ?_ | (refine stB ?_; intro _) | (refine stC ?_; refine And.intro (fun _ => ?_) (fun _ => ?_))
    | refine wkN0 ?_
    | refine wkN1 ?_
    | refine wkN2 ?_
    | refine wkN3 ?_
    | refine wkG0 ?_
    | refine wkG1 ?_
    | refine wkG2 ?_
    | refine wkG3 ?_
    | refine wkX0 ?_
    | refine wkX1 ?_
    | refine wkX2 ?_
    | refine wkX3 ?_
    | refine wkN0 ?_
    | refine wkN1 ?_
    | refine wkN2 ?_
    | refine wkN3 ?_
    | ((with_reducible apply TA.oneN 0); (· rfl); (· rfl); (· decide +kernel); (· rfl))
    | ((with_reducible apply TA.oneN 1); (· rfl); (· rfl); (· decide +kernel); (· rfl))
    | ((with_reducible apply TA.oneN 2); (· rfl); (· rfl); (· decide +kernel); (· rfl))
    | ((with_reducible apply TA.oneN 3); (· rfl); (· rfl); (· decide +kernel); (· rfl))
    | refine TQ.any leF selF ?_
    | refine TC.region_any 10 (_) (by kernel_rfl) rfl selF ?_ | refine TA.done (by decide +kernel) ?_ | refine TQ.any_panic ?_)
          refine TQ.less hg2 ?_
          refine TQ.endR1 (L' := L) Tryz.results47 rvA rfl (.refl _) ?_ selF
          exact ⟨by rw [hR, q2 rfl], rfl, rfl⟩
      · have b0 : decide (((k : Nat) : Int) = (i : Nat) + 1) = false := decide_eq_false (by omega)
        rw [if_neg h1] at hap
        by_cases h2 : i = 0 ∧ k + 1 = es.length
        · obtain ⟨rfl, h3⟩ := h2
          have b1 : decide (((k : Nat) : Int) = (es.length : Nat) - 1) = true := decide_eq_true (by omega)
          rw [if_pos ⟨rfl, h3⟩] at hap
          have SH := fun L => rshared9_gives (c, d) (a, b) g2 L my1 my2 mx1 mx2
          clear hp0 hp1 hq0 hq1
          dsimp only at SH hap
          rw [Bool.and_comm] at hap
          generalize (!OnF c d b && !OnF a b c) = z at *
          obtain ⟨q1, q2⟩ := key z hap
          have b2 : decide (((0 : Nat) : Int) = 0) = true := rfl
          cases z with
          | true =>
            repeat' (first
    | refine wkQ ?_
    | ((with_reducible apply TL.pure (d := 26) (v := .bool false)); (· exact Y.eql_b b0 rfl rfl); (· rfl)) | ((with_reducible apply TW.pure (d := 26) (v := .bool false)); (· exact Y.eql_b b0 rfl rfl); (· rfl))
    | ((with_reducible apply TL.pure (d := 38) (v := .bool true)); (· exact Y.eql_b b2 rfl rfl); (· rfl)) | ((with_reducible apply TW.pure (d := 38) (v := .bool true)); (· exact Y.eql_b b2 rfl rfl); (· rfl))
    | ((with_reducible apply TL.pure (d := 43) (v := .bool true)); (· exact Y.eql_b b1 rfl rfl); (· rfl)) | ((with_reducible apply TW.pure (d := 43) (v := .bool true)); (· exact Y.eql_b b1 rfl rfl); (· rfl))
    | refine wkV ?_
    | ((with_reducible apply TL.gives_plain); (· kernel_rfl); (· rfl); (· exact SH _); (· rfl)) | ((with_reducible apply TW.gives_plain); (· kernel_rfl); (· rfl); (· exact SH _); (· rfl))
    | refine stS ?_ | (refine stB ?_; intro _) | (refine stC ?_; refine And.intro (fun _ => ?_) (fun _ => ?_))
    | refine wkN0 ?_
    | refine wkN1 ?_
    | refine wkN2 ?_
    | refine wkN3 ?_
    | refine wkG0 ?_
    | refine wkG1 ?_
    | refine wkG2 ?_
    | refine wkG3 ?_
    | refine wkX0 ?_
    | refine wkX1 ?_
    | refine wkX2 ?_
    | refine wkX3 ?_
    | refine wkN0 ?_
    | refine wkN1 ?_
    | refine wkN2 ?_
    | refine wkN3 ?_
    | ((with_reducible apply TA.oneN 0); (· rfl); (· rfl); (· decide +kernel); (· rfl))
    | ((with_reducible apply TA.oneN 1); (· rfl); (· rfl); (· decide +kernel); (· rfl))
    | ((with_reducible apply TA.oneN 2); (· rfl); (· rfl); (· decide +kernel); (· rfl))
    | ((with_reducible apply TA.oneN 3); (· rfl); (· rfl); (· decide +kernel); (· rfl))
    | refine TQ.any leF selF ?_
    | refine TC.region_any 10 (_) (by kernel_rfl) rfl selF ?_ | refine TA.done (by decide +kernel) ?_ | refine TQ.any_panic ?_)
            refine TQ.round (k + 1) ?_ ?_ rfl subA selF
            · exact ⟨⟨by omega, by omega⟩, q1 rfl⟩
            · show es.length - (k + 1) < es.length - k
              omega
          | false =>
            repeat' (first
    | refine wkQ ?_
    | ((with_reducible apply TL.pure (d := 26) (v := .bool false)); (· exact Y.eql_b b0 rfl rfl); (· rfl)) | ((with_reducible apply TW.pure (d := 26) (v := .bool false)); (· exact Y.eql_b b0 rfl rfl); (· rfl))
    | ((with_reducible apply TL.pure (d := 38) (v := .bool true)); (· exact Y.eql_b b2 rfl rfl); (· rfl)) | ((with_reducible apply TW.pure (d := 38) (v := .bool true)); (· exact Y.eql_b b2 rfl rfl); (· rfl))
    | ((with_reducible apply TL.pure (d := 43) (v := .bool true)); (· exact Y.eql_b b1 rfl rfl); (· rfl)) | ((with_reducible apply TW.pure (d := 43) (v := .bool true)); (· exact Y.eql_b b1 rfl rfl); (· rfl))
    | refine wkV ?_
    | ((with_reducible apply TL.gives_plain); (· kernel_rfl); (· rfl); (· exact SH _); (· rfl)) | ((with_reducible apply TW.gives_plain); (· kernel_rfl); (· rfl); (· exact SH _); (· rfl))
    | refine stS ?_ | (refine stB ?_; intro _) | (refine stC ?_; refine And.intro (fun _ => ?_) (fun _ => ?_))
    | refine wkN0 ?_
    | refine wkN1 ?_
    | refine wkN2 ?_
    | refine wkN3 ?_
    | refine wkG0 ?_
    | refine wkG1 ?_
    | refine wkG2 ?_
    | refine wkG3 ?_
    | refine wkX0 ?_
    | refine wkX1 ?_
    | refine wkX2 ?_
    | refine wkX3 ?_
    | refine wkN0 ?_
    | refine wkN1 ?_
    | refine wkN2 ?_
    | refine wkN3 ?_
    | ((with_reducible apply TA.oneN 0); (· rfl); (· rfl); (· decide +kernel); (· rfl))
    | ((with_reducible apply TA.oneN 1); (· rfl); (· rfl); (· decide +kernel); (· rfl))
    | ((with_reducible apply TA.oneN 2); (· rfl); (· rfl); (· decide +kernel); (· rfl))
    | ((with_reducible apply TA.oneN 3); (· rfl); (· rfl); (· decide +kernel); (· rfl))
    | refine TQ.any leF selF ?_
    | refine TC.region_any 10 (_) (by kernel_rfl) rfl selF ?_ | refine TA.done (by decide +kernel) ?_ | refine TQ.any_panic ?_)
            refine TQ.less hg2 ?_
            refine TQ.endR1 (L' := L) Tryz.results47 rvA rfl (.refl _) ?_ selF
            exact ⟨by rw [hR, q2 rfl], rfl, rfl⟩
        · rw [if_neg h2] at hap
          have ME := fun L => rMeet8_gives a b c d g2 L mx1 mx2 my1 my2
          clear hld hld2
          dsimp only at hap
          rw [MeetF_mayD mx1 mx2 my1 my2] at hap
          generalize meetB a b c d = z at *
          obtain ⟨q1, q2⟩ := key (!z) hap
          by_cases h3 : i = 0
          · have b2 : decide (((i : Nat) : Int) = 0) = true := decide_eq_true (by omega)
            have b1 : decide (((k : Nat) : Int) = (es.length : Nat) - 1) = false := decide_eq_false (by omega)
            cases z with
            | false =>
              repeat' (first
    | refine wkQ ?_
    | ((with_reducible apply TL.pure (d := 26) (v := .bool false)); (· exact Y.eql_b b0 rfl rfl); (· rfl)) | ((with_reducible apply TW.pure (d := 26) (v := .bool false)); (· exact Y.eql_b b0 rfl rfl); (· rfl))
    | ((with_reducible apply TL.pure (d := 38) (v := .bool true)); (· exact Y.eql_b b2 rfl rfl); (· rfl)) | ((with_reducible apply TW.pure (d := 38) (v := .bool true)); (· exact Y.eql_b b2 rfl rfl); (· rfl))
    | ((with_reducible apply TL.pure (d := 43) (v := .bool false)); (· exact Y.eql_b b1 rfl rfl); (· rfl)) | ((with_reducible apply TW.pure (d := 43) (v := .bool false)); (· exact Y.eql_b b1 rfl rfl); (· rfl))
    | refine wkV ?_
    | ((with_reducible apply TL.gives_plain); (· kernel_rfl); (· rfl); (· exact ME _); (· rfl)) | ((with_reducible apply TW.gives_plain); (· kernel_rfl); (· rfl); (· exact ME _); (· rfl))
    | refine stS ?_ | (refine stB ?_; intro _) | (refine stC ?_; refine And.intro (fun _ => ?_) (fun _ => ?_))
    | refine wkN0 ?_
    | refine wkN1 ?_
    | refine wkN2 ?_
    | refine wkN3 ?_
    | refine wkG0 ?_
    | refine wkG1 ?_
    | refine wkG2 ?_
    | refine wkG3 ?_
    | refine wkX0 ?_
    | refine wkX1 ?_
    | refine wkX2 ?_
    | refine wkX3 ?_
    | refine wkN0 ?_
    | refine wkN1 ?_
    | refine wkN2 ?_
    | refine wkN3 ?_
    | ((with_reducible apply TA.oneN 0); (· rfl); (· rfl); (· decide +kernel); (· rfl))
    | ((with_reducible apply TA.oneN 1); (· rfl); (· rfl); (· decide +kernel); (· rfl))
    | ((with_reducible apply TA.oneN 2); (· rfl); (· rfl); (· decide +kernel); (· rfl))
    | ((with_reducible apply TA.oneN 3); (· rfl); (· rfl); (· decide +kernel); (· rfl))
    | refine TQ.any leF selF ?_
    | refine TC.region_any 21 (_) (by kernel_rfl) rfl selF ?_ | refine TA.done (by decide +kernel) ?_ | refine TQ.any_panic ?_)
              refine TQ.round (k + 1) ?_ ?_ rfl subA selF
              · exact ⟨⟨by omega, by omega⟩, q1 rfl⟩
              · show es.length - (k + 1) < es.length - k
                omega
            | true =>
              repeat' (first
    | refine wkQ ?_
    | ((with_reducible apply TL.pure (d := 26) (v := .bool false)); (· exact Y.eql_b b0 rfl rfl); (· rfl)) | ((with_reducible apply TW.pure (d := 26) (v := .bool false)); (· exact Y.eql_b b0 rfl rfl); (· rfl))
    | ((with_reducible apply TL.pure (d := 38) (v := .bool true)); (· exact Y.eql_b b2 rfl rfl); (· rfl)) | ((with_reducible apply TW.pure (d := 38) (v := .bool true)); (· exact Y.eql_b b2 rfl rfl); (· rfl))
    | ((with_reducible apply TL.pure (d := 43) (v := .bool false)); (· exact Y.eql_b b1 rfl rfl); (· rfl)) | ((with_reducible apply TW.pure (d := 43) (v := .bool false)); (· exact Y.eql_b b1 rfl rfl); (· rfl))
    | refine wkV ?_
    | ((with_reducible apply TL.gives_plain); (· kernel_rfl); (· rfl); (· exact ME _); (· rfl)) | ((with_reducible apply TW.gives_plain); (· kernel_rfl); (· rfl); (· exact ME _); (· rfl))
    | refine stS ?_ | (refine stB ?_; intro _) | (refine stC ?_; refine And.intro (fun _ => ?_) (fun _ => ?_))
    | refine wkN0 ?_
    | refine wkN1 ?_
    | refine wkN2 ?_
    | refine wkN3 ?_
    | refine wkG0 ?_
    | refine wkG1 ?_
    | refine wkG2 ?_
    | refine wkG3 ?_
    | refine wkX0 ?_
    | refine wkX1 ?_
    | refine wkX2 ?_
    | refine wkX3 ?_
    | refine wkN0 ?_
    | refine wkN1 ?_
    | refine wkN2 ?_
    | refine wkN3 ?_
    | ((with_reducible apply TA.oneN 0); (· rfl); (· rfl); (· decide +kernel); (· rfl))
    | ((with_reducible apply TA.oneN 1); (· rfl); (· rfl); (· decide +kernel); (· rfl))
    | ((with_reducible apply TA.oneN 2); (· rfl); (· rfl); (· decide +kernel); (· rfl))
    | ((with_reducible apply TA.oneN 3); (· rfl); (· rfl); (· decide +kernel); (· rfl))
    | refine TQ.any leF selF ?_
    | refine TC.region_any 21 (_) (by kernel_rfl) rfl selF ?_ | refine TA.done (by decide +kernel) ?_ | refine TQ.any_panic ?_)
              refine TQ.less hg2 ?_
              refine TQ.endR1 (L' := L) Tryz.results47 rvA rfl (.refl _) ?_ selF
              exact ⟨by rw [hR, q2 rfl], rfl, rfl⟩
          · have b2 : decide (((i : Nat) : Int) = 0) = false := decide_eq_false (by omega)
            cases z with
            | false =>
              repeat' (first
    | refine wkQ ?_
    | ((with_reducible apply TL.pure (d := 26) (v := .bool false)); (· exact Y.eql_b b0 rfl rfl); (· rfl)) | ((with_reducible apply TW.pure (d := 26) (v := .bool false)); (· exact Y.eql_b b0 rfl rfl); (· rfl))
    | ((with_reducible apply TL.pure (d := 38) (v := .bool false)); (· exact Y.eql_b b2 rfl rfl); (· rfl)) | ((with_reducible apply TW.pure (d := 38) (v := .bool false)); (· exact Y.eql_b b2 rfl rfl); (· rfl))
    | refine wkV ?_
    | ((with_reducible apply TL.gives_plain); (· kernel_rfl); (· rfl); (· exact ME _); (· rfl)) | ((with_reducible apply TW.gives_plain); (· kernel_rfl); (· rfl); (· exact ME _); (· rfl))
    | refine stS ?_ | (refine stB ?_; intro _) | (refine stC ?_; refine And.intro (fun _ => ?_) (fun _ => ?_))
    | refine wkN0 ?_
    | refine wkN1 ?_
    | refine wkN2 ?_
    | refine wkN3 ?_
    | refine wkG0 ?_
    | refine wkG1 ?_
    | refine wkG2 ?_
    | refine wkG3 ?_
    | refine wkX0 ?_
    | refine wkX1 ?_
    | refine wkX2 ?_
    | refine wkX3 ?_
    | refine wkN0 ?_
    | refine wkN1 ?_
    | refine wkN2 ?_
    | refine wkN3 ?_
    | ((with_reducible apply TA.oneN 0); (· rfl); (· rfl); (· decide +kernel); (· rfl))
    | ((with_reducible apply TA.oneN 1); (· rfl); (· rfl); (· decide +kernel); (· rfl))
    | ((with_reducible apply TA.oneN 2); (· rfl); (· rfl); (· decide +kernel); (· rfl))
    | ((with_reducible apply TA.oneN 3); (· rfl); (· rfl); (· decide +kernel); (· rfl))
    | refine TQ.any leF selF ?_
    | refine TC.region_any 21 (_) (by kernel_rfl) rfl selF ?_ | refine TA.done (by decide +kernel) ?_ | refine TQ.any_panic ?_)
              refine TQ.round (k + 1) ?_ ?_ rfl subA selF
              · exact ⟨⟨by omega, by omega⟩, q1 rfl⟩
              · show es.length - (k + 1) < es.length - k
                omega
            | true =>
              repeat' (first
    | refine wkQ ?_
    | ((with_reducible apply TL.pure (d := 26) (v := .bool false)); (· exact Y.eql_b b0 rfl rfl); (· rfl)) | ((with_reducible apply TW.pure (d := 26) (v := .bool false)); (· exact Y.eql_b b0 rfl rfl); (· rfl))
    | ((with_reducible apply TL.pure (d := 38) (v := .bool false)); (· exact Y.eql_b b2 rfl rfl); (· rfl)) | ((with_reducible apply TW.pure (d := 38) (v := .bool false)); (· exact Y.eql_b b2 rfl rfl); (· rfl))
    | refine wkV ?_
    | ((with_reducible apply TL.gives_plain); (· kernel_rfl); (· rfl); (· exact ME _); (· rfl)) | ((with_reducible apply TW.gives_plain); (· kernel_rfl); (· rfl); (· exact ME _); (· rfl))
    | refine stS ?_ | (refine stB ?_; intro _) | (refine stC ?_; refine And.intro (fun _ => ?_) (fun _ => ?_))
    | refine wkN0 ?_
    | refine wkN1 ?_
    | refine wkN2 ?_
    | refine wkN3 ?_
    | refine wkG0 ?_
    | refine wkG1 ?_
    | refine wkG2 ?_
    | refine wkG3 ?_
    | refine wkX0 ?_
    | refine wkX1 ?_
    | refine wkX2 ?_
    | refine wkX3 ?_
    | refine wkN0 ?_
    | refine wkN1 ?_
    | refine wkN2 ?_
    | refine wkN3 ?_
    | ((with_reducible apply TA.oneN 0); (· rfl); (· rfl); (· decide +kernel); (· rfl))
    | ((with_reducible apply TA.oneN 1); (· rfl); (· rfl); (· decide +kernel); (· rfl))
    | ((with_reducible apply TA.oneN 2); (· rfl); (· rfl); (· decide +kernel); (· rfl))
    | ((with_reducible apply TA.oneN 3); (· rfl); (· rfl); (· decide +kernel); (· rfl))
    | refine TQ.any leF selF ?_
    | refine TC.region_any 21 (_) (by kernel_rfl) rfl selF ?_ | refine TA.done (by decide +kernel) ?_ | refine TQ.any_panic ?_)
              refine TQ.less hg2 ?_
              refine TQ.endR1 (L' := L) Tryz.results47 rvA rfl (.refl _) ?_ selF
              exact ⟨by rw [hR, q2 rfl], rfl, rfl⟩
    · have HJ := Hn.mk hJ
      clear hJ
      repeat' (first
    | refine wkQ ?_
    | refine wkV ?_
    | refine stS ?_ | (refine stB ?_; intro _) | (refine stC ?_; refine And.intro (fun _ => ?_) (fun _ => ?_)))
      refine TQ.round (i + 1) ?_ ?_ rfl subA selF
      · refine ⟨by omega, fun i' h k' h2 h3 => ?_⟩
        by_cases he : i' = i
        · subst he
          exact HJ.out k' h3 (by omega)
        · exact HI.out i' (by omega) k' h2 h3
      · show es.length - (i + 1) < es.length - i
        omega
  · obtain rfl : i = es.length := by omega
    have hT := simpleE_yes (es := es) (fun k hk i hi => hI i (by omega) k hk hi)
    clear hI
    repeat' (first
    | refine wkQ ?_
    | refine wkV ?_
    | refine stS ?_ | (refine stB ?_; intro _) | (refine stC ?_; refine And.intro (fun _ => ?_) (fun _ => ?_)))
    refine TQ.less hg2 ?_
    refine TQ.endR1 (L' := L) Tryz.results47 rvA rfl (.refl _) ?_ selF
    exact ⟨by rw [hR, hT], rfl, rfl⟩
end Go.Proofs.YtfanccddokckcaaGreatDoor
