/-
  The document's Right, walked.
-/
import Derived.Test.YtfanccddokckcaaGreatDoorSt2
import Derived.Test.YtfanccddokckcaaGreatDoorSt37
namespace Go.Proofs.YtfanccddokckcaaGreatDoor
open Go.RowKit Go.TL
set_option maxRecDepth 100000

def rightF (k : Int) (m : Nat) (S : Bool) : Option Nat → Bool
  | some n => finD k m n && S
  | none => false
theorem rightD_F (k : Int) (ps : List (List Pt)) : rightD k ps = rightF k ps.length (simD k ps) (docL k ps 0) := by
  unfold rightD; cases docL k ps 0 <;> rfl
theorem simD_drop {k : Int} {ps : List (List Pt)} {j : Nat} {q : List Pt} (h : ps[j]? = some q) : simD k (ps.drop j) = ((!decide (k = 2) || simpleE (partE 2 q)) && simD k (ps.drop (j + 1))) := by
  rw [drop_of_get h]; rfl
set_option maxHeartbeats 64000000 in
theorem rRight9_gives (k : Int) (ps : List (List Pt)) (v : Value) (g : Gh) (L : List Ent) (hS : IsParts g v ps) (hO : ShOk ps) : Gives Tryz.prog 18 #[shV k v] g L (.bool (rightB k ps)) := by
  refine .of (Does.of1 Tryz.func18 rfl Tryz.ntmps18 rfl ?_)
  obtain ⟨fl, hSl, hpt⟩ := hS
  obtain ⟨ao, cap, rfl⟩ := hSl.slice
  have hps := hO.len
  obtain ⟨SD, hSD⟩ : ∃ SD, SD = simD k ps := ⟨_, rfl⟩
  obtain ⟨R, hR⟩ : ∃ R, R = rightF k ps.length SD (docL k (ps.drop 0) 0) := ⟨_, rfl⟩
  have hRB : rightB k ps = R := by rw [← rightD_eq, rightD_F, hR, hSD, List.drop_zero]
  rw [hRB]
  have HS0 := Hn.mk hSl
  have HPT := Hn.mk hpt
  have HSD := Hn.mk hSD
  clear hSl hpt hRB hSD
  repeat' (first
    | refine wkQ ?_
    | refine wkV ?_
    | refine stS ?_ | (refine stB ?_; intro _) | (refine stC ?_; refine And.intro (fun _ => ?_) (fun _ => ?_)))
  rename_i b1
  refine TC.loopK (fun z : Nat × Nat => (z.1 ≤ ps.length ∧ z.2 ≤ z.1 * 1000001) ∧ rightF k ps.length SD (docL k (ps.drop z.1) z.2) = R ∧ ∀ i q, i < z.1 → ps[i]? = some q → q.all mayB = true) (fun z => ps.length - z.1) (fun z _ => [(4, .int .i64 (z.1 : Nat)), (3, .int .i64 (z.2 : Nat)), (1, .pointer (some ⟨b1, 0, none⟩))]) [] .nil (fun _ L => L) (0, 0) ⟨⟨Nat.zero_le _, Nat.zero_le _⟩, hR.symm, fun i q h => absurd h (Nat.not_lt_zero _)⟩ subA selF ?_
  clear hR
  rintro ⟨j, c⟩ ⟨⟨hj, hc⟩, hI, hmay⟩
  try dsimp only at hj hc hI hmay ⊢
  by_cases hlt : j < ps.length
  · obtain ⟨q, hq⟩ : ∃ q, ps[j]? = some q := ⟨_, List.getElem?_eq_getElem hlt⟩
    obtain ⟨u, hu, hSu⟩ := HPT.out j q hq
    obtain ⟨b2, o2, rfl, hg1'⟩ := HS0.out.elem hlt (by decide)
    have hld : g.cell b2 (o2 + j * 1) = some u := hg1' 0 _ (by rw [Nat.mul_one]; exact hu)
    have hql := hO.part q (List.mem_of_getElem? hq)
    have MA := fun L => rMayAll8_gives q u g L hSu hql
    rw [drop_of_get hq, docL] at hI
    have HSu := Hn.mk hSu
    obtain ⟨au, cu, rfl⟩ := hSu.slice
    have HM := Hn.mk hmay
    clear hg1' hSu hO hu hmay
    by_cases h0 : q.length = 0
    · have b0 : decide (((q.length : Nat) : Int) = 0) = true := decide_eq_true (by omega)
      rw [decide_eq_true h0, if_pos (by simp)] at hI
      obtain rfl : false = R := hI
      repeat' (first
    | refine wkQ ?_
    | ((with_reducible apply TL.pure (d := 22) (v := .bool true)); (· exact Y.eql_b b0 rfl rfl); (· rfl)) | ((with_reducible apply TW.pure (d := 22) (v := .bool true)); (· exact Y.eql_b b0 rfl rfl); (· rfl))
    | refine wkV ?_
    | refine stS ?_ | (refine stB ?_; intro _) | (refine stC ?_; refine And.intro (fun _ => ?_) (fun _ => ?_)))
      refine TQ.endR1 (L' := L) Tryz.results18 rvA rfl (.refl _) ?_ selF
      exact ⟨rfl, rfl, rfl⟩
    have b0 : decide (((q.length : Nat) : Int) = 0) = false := decide_eq_false (by omega)
    rw [decide_eq_false h0, Bool.false_or] at hI
    cases ha : q.all mayB with
    | false =>
      rw [ha] at MA hI
      rw [if_pos (by decide)] at hI
      obtain rfl : false = R := hI
      repeat' (first
    | refine wkQ ?_
    | ((with_reducible apply TL.pure (d := 22) (v := .bool false)); (· exact Y.eql_b b0 rfl rfl); (· rfl)) | ((with_reducible apply TW.pure (d := 22) (v := .bool false)); (· exact Y.eql_b b0 rfl rfl); (· rfl))
    | refine wkV ?_
    | ((with_reducible apply TL.gives_plain); (· kernel_rfl); (· rfl); (· exact MA _); (· rfl)) | ((with_reducible apply TW.gives_plain); (· kernel_rfl); (· rfl); (· exact MA _); (· rfl))
    | refine stS ?_ | (refine stB ?_; intro _) | (refine stC ?_; refine And.intro (fun _ => ?_) (fun _ => ?_)))
      refine TQ.endR1 (L' := L) Tryz.results18 rvA rfl (.refl _) ?_ selF
      exact ⟨rfl, rfl, rfl⟩
    | true =>
    rw [ha] at MA hI
    rw [if_neg (by decide)] at hI
    have hnm : ∀ i p, i < j + 1 → ps[i]? = some p → p.all mayB = true := fun i p h hp => by
      by_cases he : i = j
      · subst he; rw [hq] at hp; cases hp; exact ha
      · exact HM.out i p (by omega) hp
    have HN := Hn.mk hnm
    have hT0 : movesF (q.drop 0) = movesF q := rfl
    have HI := Hn.mk hI
    clear hnm HM hI hq
    repeat' (first
    | refine wkQ ?_
    | ((with_reducible apply TL.pure (d := 22) (v := .bool false)); (· exact Y.eql_b b0 rfl rfl); (· rfl)) | ((with_reducible apply TW.pure (d := 22) (v := .bool false)); (· exact Y.eql_b b0 rfl rfl); (· rfl))
    | refine wkV ?_
    | ((with_reducible apply TL.gives_plain); (· kernel_rfl); (· rfl); (· exact MA _); (· rfl)) | ((with_reducible apply TW.gives_plain); (· kernel_rfl); (· rfl); (· exact MA _); (· rfl))
    | refine stS ?_ | (refine stB ?_; intro _) | (refine stC ?_; refine And.intro (fun _ => ?_) (fun _ => ?_)))
    refine TC.loopK (fun i : Nat => i + 1 ≤ q.length ∧ movesF (q.drop i) = movesF q) (fun i => q.length - i) (fun i _ => [(6, .int .i64 ((i + 1 : Nat) : Int)), (5, .slice au q.length cu), (4, .int .i64 (j : Nat)), (3, .int .i64 (c : Nat)), (1, .pointer (some ⟨b1, 0, none⟩))]) [] .nil (fun _ L => L) 0 ⟨by omega, hT0⟩ subA selF ?_
    clear hT0
    rintro i ⟨hi, hT⟩
    try dsimp only at hi hT ⊢
    by_cases hlt2 : i + 1 < q.length
    · obtain ⟨p0, hp⟩ : ∃ p, q[i]? = some p := ⟨_, List.getElem?_eq_getElem (by omega)⟩
      obtain ⟨p1, hq1⟩ : ∃ p, q[i + 1]? = some p := ⟨_, List.getElem?_eq_getElem hlt2⟩
      obtain ⟨b5, o1, rfl, hg⟩ := HSu.out.elem (i := i) (by omega) (by decide)
      obtain ⟨b3, o3, he2, hg2⟩ := HSu.out.elem hlt2 (by decide)
      obtain ⟨rfl, rfl⟩ : b5 = b3 ∧ o1 = o3 := by simpa using he2
      have hld := pt_cells hg (flatP_get hp).1 (flatP_get hp).2
      have hld2 := pt_cells hg2 (flatP_get hq1).1 (flatP_get hq1).2
      have hll : [Value.int .i64 p0.1, .int .i64 p0.2].length = 2 := rfl
      have hll2 : [Value.int .i64 p1.1, .int .i64 p1.2].length = 2 := rfl
      have HSb := Hn.mk (show IntKind.i64.wrap (((i + 1 : Nat) : Int) - 1) = ((i : Nat) : Int) by rw [IntWalk.i64_in _ (by omega)]; omega)
      have hR2 : (!decide (p1 = p0) && movesF (q.drop (i + 1))) = movesF q := by
        rw [← hT, drop_of_get hp, drop_of_get hq1]; rfl
      clear hg hg2 he2 hT hp hq1
      by_cases he : p1 = p0
      · have bq : decide (p1 = p0) = true := decide_eq_true he
        rw [bq] at hR2
        have hF := HI.out
        rw [← hR2, if_neg (by simp)] at hF
        obtain rfl : false = R := hF
        repeat' (first
    | refine wkQ ?_
    | refine wkV ?_
    | refine stS ?_ | (refine stB ?_; intro _) | (refine stC ?_; refine And.intro (fun _ => ?_) (fun _ => ?_))
    | ((with_reducible apply TA.takeN 0); (· rfl); (· decide +kernel); (· rfl); (· first | first | exact Y.eql_pt bq rfl rfl | exact Y.sub rfl rfl HSb.out | (first | exact yQ | exact yA | exact yB | exact yM | exact yV)); (· decide +kernel); (· decide +kernel); (· rfl); (· exact fun _ _ _ h => h); (· rfl))
    | ((with_reducible apply TA.takeN 1); (· rfl); (· decide +kernel); (· rfl); (· first | first | exact Y.eql_pt bq rfl rfl | exact Y.sub rfl rfl HSb.out | (first | exact yQ | exact yA | exact yB | exact yM | exact yV)); (· decide +kernel); (· decide +kernel); (· rfl); (· exact fun _ _ _ h => h); (· rfl))
    | ((with_reducible apply TA.takeN 2); (· rfl); (· decide +kernel); (· rfl); (· first | first | exact Y.eql_pt bq rfl rfl | exact Y.sub rfl rfl HSb.out | (first | exact yQ | exact yA | exact yB | exact yM | exact yV)); (· decide +kernel); (· decide +kernel); (· rfl); (· exact fun _ _ _ h => h); (· rfl))
    | ((with_reducible apply TA.takeN 3); (· rfl); (· decide +kernel); (· rfl); (· first | first | exact Y.eql_pt bq rfl rfl | exact Y.sub rfl rfl HSb.out | (first | exact yQ | exact yA | exact yB | exact yM | exact yV)); (· decide +kernel); (· decide +kernel); (· rfl); (· exact fun _ _ _ h => h); (· rfl))
    | ((with_reducible apply TA.take_gN 0); (· rfl); (· decide +kernel); (· rfl); (· rfl); (· rfl); (· (first | first | exact Y.eql_pt bq rfl rfl | exact Y.sub rfl rfl HSb.out | (first | exact yQ | exact yA | exact yB | exact yM | exact yV))); (· decide +kernel); (· decide +kernel); (· rfl); (· exact fun _ _ _ h => h); (· rfl))
    | ((with_reducible apply TA.take_gN 1); (· rfl); (· decide +kernel); (· rfl); (· rfl); (· rfl); (· (first | first | exact Y.eql_pt bq rfl rfl | exact Y.sub rfl rfl HSb.out | (first | exact yQ | exact yA | exact yB | exact yM | exact yV))); (· decide +kernel); (· decide +kernel); (· rfl); (· exact fun _ _ _ h => h); (· rfl))
    | ((with_reducible apply TA.take_gN 2); (· rfl); (· decide +kernel); (· rfl); (· rfl); (· rfl); (· (first | first | exact Y.eql_pt bq rfl rfl | exact Y.sub rfl rfl HSb.out | (first | exact yQ | exact yA | exact yB | exact yM | exact yV))); (· decide +kernel); (· decide +kernel); (· rfl); (· exact fun _ _ _ h => h); (· rfl))
    | ((with_reducible apply TA.take_gN 3); (· rfl); (· decide +kernel); (· rfl); (· rfl); (· rfl); (· (first | first | exact Y.eql_pt bq rfl rfl | exact Y.sub rfl rfl HSb.out | (first | exact yQ | exact yA | exact yB | exact yM | exact yV))); (· decide +kernel); (· decide +kernel); (· rfl); (· exact fun _ _ _ h => h); (· rfl))
    | refine wkX0 ?_
    | refine wkX1 ?_
    | refine wkX2 ?_
    | refine wkX3 ?_
    | ((with_reducible apply TA.oneN 0); (· rfl); (· rfl); (· decide +kernel); (· rfl))
    | ((with_reducible apply TA.oneN 1); (· rfl); (· rfl); (· decide +kernel); (· rfl))
    | ((with_reducible apply TA.oneN 2); (· rfl); (· rfl); (· decide +kernel); (· rfl))
    | ((with_reducible apply TA.oneN 3); (· rfl); (· rfl); (· decide +kernel); (· rfl))
    | refine TQ.any leF selF ?_
    | refine TC.region_any 10 (_) (by kernel_rfl) rfl selF ?_ | refine TA.done (by decide +kernel) ?_ | refine TQ.any_panic ?_)
        refine TQ.endR1 (L' := L) Tryz.results18 rvA rfl (.refl _) ?_ selF
        exact ⟨rfl, rfl, rfl⟩
      · have bq : decide (p1 = p0) = false := decide_eq_false he
        rw [bq] at hR2
        repeat' (first
    | refine wkQ ?_
    | refine wkV ?_
    | refine stS ?_ | (refine stB ?_; intro _) | (refine stC ?_; refine And.intro (fun _ => ?_) (fun _ => ?_))
    | ((with_reducible apply TA.takeN 0); (· rfl); (· decide +kernel); (· rfl); (· first | first | exact Y.eql_pt bq rfl rfl | exact Y.sub rfl rfl HSb.out | (first | exact yQ | exact yA | exact yB | exact yM | exact yV)); (· decide +kernel); (· decide +kernel); (· rfl); (· exact fun _ _ _ h => h); (· rfl))
    | ((with_reducible apply TA.takeN 1); (· rfl); (· decide +kernel); (· rfl); (· first | first | exact Y.eql_pt bq rfl rfl | exact Y.sub rfl rfl HSb.out | (first | exact yQ | exact yA | exact yB | exact yM | exact yV)); (· decide +kernel); (· decide +kernel); (· rfl); (· exact fun _ _ _ h => h); (· rfl))
    | ((with_reducible apply TA.takeN 2); (· rfl); (· decide +kernel); (· rfl); (· first | first | exact Y.eql_pt bq rfl rfl | exact Y.sub rfl rfl HSb.out | (first | exact yQ | exact yA | exact yB | exact yM | exact yV)); (· decide +kernel); (· decide +kernel); (· rfl); (· exact fun _ _ _ h => h); (· rfl))
    | ((with_reducible apply TA.takeN 3); (· rfl); (· decide +kernel); (· rfl); (· first | first | exact Y.eql_pt bq rfl rfl | exact Y.sub rfl rfl HSb.out | (first | exact yQ | exact yA | exact yB | exact yM | exact yV)); (· decide +kernel); (· decide +kernel); (· rfl); (· exact fun _ _ _ h => h); (· rfl))
    | ((with_reducible apply TA.take_gN 0); (· rfl); (· decide +kernel); (· rfl); (· rfl); (· rfl); (· (first | first | exact Y.eql_pt bq rfl rfl | exact Y.sub rfl rfl HSb.out | (first | exact yQ | exact yA | exact yB | exact yM | exact yV))); (· decide +kernel); (· decide +kernel); (· rfl); (· exact fun _ _ _ h => h); (· rfl))
    | ((with_reducible apply TA.take_gN 1); (· rfl); (· decide +kernel); (· rfl); (· rfl); (· rfl); (· (first | first | exact Y.eql_pt bq rfl rfl | exact Y.sub rfl rfl HSb.out | (first | exact yQ | exact yA | exact yB | exact yM | exact yV))); (· decide +kernel); (· decide +kernel); (· rfl); (· exact fun _ _ _ h => h); (· rfl))
    | ((with_reducible apply TA.take_gN 2); (· rfl); (· decide +kernel); (· rfl); (· rfl); (· rfl); (· (first | first | exact Y.eql_pt bq rfl rfl | exact Y.sub rfl rfl HSb.out | (first | exact yQ | exact yA | exact yB | exact yM | exact yV))); (· decide +kernel); (· decide +kernel); (· rfl); (· exact fun _ _ _ h => h); (· rfl))
    | ((with_reducible apply TA.take_gN 3); (· rfl); (· decide +kernel); (· rfl); (· rfl); (· rfl); (· (first | first | exact Y.eql_pt bq rfl rfl | exact Y.sub rfl rfl HSb.out | (first | exact yQ | exact yA | exact yB | exact yM | exact yV))); (· decide +kernel); (· decide +kernel); (· rfl); (· exact fun _ _ _ h => h); (· rfl))
    | refine wkX0 ?_
    | refine wkX1 ?_
    | refine wkX2 ?_
    | refine wkX3 ?_
    | ((with_reducible apply TA.oneN 0); (· rfl); (· rfl); (· decide +kernel); (· rfl))
    | ((with_reducible apply TA.oneN 1); (· rfl); (· rfl); (· decide +kernel); (· rfl))
    | ((with_reducible apply TA.oneN 2); (· rfl); (· rfl); (· decide +kernel); (· rfl))
    | ((with_reducible apply TA.oneN 3); (· rfl); (· rfl); (· decide +kernel); (· rfl))
    | refine TQ.any leF selF ?_
    | refine TC.region_any 10 (_) (by kernel_rfl) rfl selF ?_ | refine TA.done (by decide +kernel) ?_ | refine TQ.any_panic ?_)
        refine TQ.round (i + 1) ?_ ?_ rfl subA selF
        · exact ⟨by omega, hR2⟩
        · show q.length - (i + 1) < q.length - i
          omega
    · have hT : movesF q = true := by
        rw [← hT]
        obtain ⟨p, hp⟩ : ∃ p, q[i]? = some p := ⟨_, List.getElem?_eq_getElem (by omega)⟩
        rw [drop_of_get hp, List.drop_eq_nil_of_le (by omega)]; rfl
      have hI := HI.out
      rw [if_pos hT] at hI
      clear HI hT
      by_cases hk : k = 2
      case neg =>
        have bk : decide (k = 2) = false := decide_eq_false hk
        rw [if_neg hk] at hI
        repeat' (first
    | refine wkQ ?_
    | ((with_reducible apply TL.pure (d := 50) (v := .bool false)); (· exact Y.eql_b bk rfl rfl); (· rfl)) | ((with_reducible apply TW.pure (d := 50) (v := .bool false)); (· exact Y.eql_b bk rfl rfl); (· rfl))
    | refine wkV ?_
    | refine stS ?_ | (refine stB ?_; intro _) | (refine stC ?_; refine And.intro (fun _ => ?_) (fun _ => ?_)))
        refine TQ.round (j + 1, c + q.length) ?_ ?_ rfl subA selF
        · exact ⟨⟨by dsimp only; omega, by dsimp only; omega⟩, hI, HN.out⟩
        · show ps.length - (j + 1) < ps.length - j
          omega
      rw [if_pos hk] at hI
      subst hk
      have bk : decide ((2 : Int) = 2) = true := rfl
      by_cases h3 : q.length < 3
      · have b3 : decide (((q.length : Nat) : Int) < 3) = true := decide_eq_true (by omega)
        rw [decide_eq_true h3, if_pos (by simp)] at hI
        obtain rfl : false = R := hI
        repeat' (first
    | refine wkQ ?_
    | ((with_reducible apply TL.pure (d := 50) (v := .bool true)); (· exact Y.eql_b bk rfl rfl); (· rfl)) | ((with_reducible apply TW.pure (d := 50) (v := .bool true)); (· exact Y.eql_b bk rfl rfl); (· rfl))
    | refine wkV ?_
    | refine stS ?_ | (refine stB ?_; intro _) | (refine stC ?_; refine And.intro (fun _ => ?_) (fun _ => ?_))
    | ((with_reducible apply TA.takeN 0); (· rfl); (· decide +kernel); (· rfl); (· first | exact Y.lss_b b3 rfl rfl | (first | exact yQ | exact yA | exact yB | exact yM | exact yV)); (· decide +kernel); (· decide +kernel); (· rfl); (· exact fun _ _ _ h => h); (· rfl))
    | ((with_reducible apply TA.takeN 1); (· rfl); (· decide +kernel); (· rfl); (· first | exact Y.lss_b b3 rfl rfl | (first | exact yQ | exact yA | exact yB | exact yM | exact yV)); (· decide +kernel); (· decide +kernel); (· rfl); (· exact fun _ _ _ h => h); (· rfl))
    | ((with_reducible apply TA.takeN 2); (· rfl); (· decide +kernel); (· rfl); (· first | exact Y.lss_b b3 rfl rfl | (first | exact yQ | exact yA | exact yB | exact yM | exact yV)); (· decide +kernel); (· decide +kernel); (· rfl); (· exact fun _ _ _ h => h); (· rfl))
    | ((with_reducible apply TA.takeN 3); (· rfl); (· decide +kernel); (· rfl); (· first | exact Y.lss_b b3 rfl rfl | (first | exact yQ | exact yA | exact yB | exact yM | exact yV)); (· decide +kernel); (· decide +kernel); (· rfl); (· exact fun _ _ _ h => h); (· rfl))
    | ((with_reducible apply TA.take_gN 0); (· rfl); (· decide +kernel); (· rfl); (· rfl); (· rfl); (· (first | exact Y.lss_b b3 rfl rfl | (first | exact yQ | exact yA | exact yB | exact yM | exact yV))); (· decide +kernel); (· decide +kernel); (· rfl); (· exact fun _ _ _ h => h); (· rfl))
    | ((with_reducible apply TA.take_gN 1); (· rfl); (· decide +kernel); (· rfl); (· rfl); (· rfl); (· (first | exact Y.lss_b b3 rfl rfl | (first | exact yQ | exact yA | exact yB | exact yM | exact yV))); (· decide +kernel); (· decide +kernel); (· rfl); (· exact fun _ _ _ h => h); (· rfl))
    | ((with_reducible apply TA.take_gN 2); (· rfl); (· decide +kernel); (· rfl); (· rfl); (· rfl); (· (first | exact Y.lss_b b3 rfl rfl | (first | exact yQ | exact yA | exact yB | exact yM | exact yV))); (· decide +kernel); (· decide +kernel); (· rfl); (· exact fun _ _ _ h => h); (· rfl))
    | ((with_reducible apply TA.take_gN 3); (· rfl); (· decide +kernel); (· rfl); (· rfl); (· rfl); (· (first | exact Y.lss_b b3 rfl rfl | (first | exact yQ | exact yA | exact yB | exact yM | exact yV))); (· decide +kernel); (· decide +kernel); (· rfl); (· exact fun _ _ _ h => h); (· rfl))
    | refine wkX0 ?_
    | refine wkX1 ?_
    | refine wkX2 ?_
    | refine wkX3 ?_
    | ((with_reducible apply TA.oneN 0); (· rfl); (· rfl); (· decide +kernel); (· rfl))
    | ((with_reducible apply TA.oneN 1); (· rfl); (· rfl); (· decide +kernel); (· rfl))
    | ((with_reducible apply TA.oneN 2); (· rfl); (· rfl); (· decide +kernel); (· rfl))
    | ((with_reducible apply TA.oneN 3); (· rfl); (· rfl); (· decide +kernel); (· rfl))
    | refine TQ.any leF selF ?_
    | refine TC.region_any 15 (_) (by kernel_rfl) rfl selF ?_ | refine TA.done (by decide +kernel) ?_ | refine TQ.any_panic ?_)
        refine TQ.endR1 (L' := L) Tryz.results18 rvA rfl (.refl _) ?_ selF
        exact ⟨rfl, rfl, rfl⟩
      · have b3 : decide (((q.length : Nat) : Int) < 3) = false := decide_eq_false (by omega)
        rw [decide_eq_false h3] at hI
        obtain ⟨p0, hp0⟩ : ∃ p, q[0]? = some p := ⟨_, List.getElem?_eq_getElem (by omega)⟩
        obtain ⟨p1, hp1⟩ : ∃ p, q[q.length - 1]? = some p := ⟨_, List.getElem?_eq_getElem (by omega)⟩
        obtain ⟨b5, o5, rfl, hgA⟩ := HSu.out.elem (i := 0) (by omega) (by decide)
        obtain ⟨b6, o6, he2, hgB⟩ := HSu.out.elem (i := q.length - 1) (by omega) (by decide)
        obtain ⟨rfl, rfl⟩ : b5 = b6 ∧ o5 = o6 := by simpa using he2
        have hld1 := pt_cells hgA (flatP_get hp0).1 (flatP_get hp0).2
        have hld2 := pt_cells hgB (flatP_get hp1).1 (flatP_get hp1).2
        have hll : [Value.int .i64 p0.1, .int .i64 p0.2].length = 2 := rfl
        have hll2 : [Value.int .i64 p1.1, .int .i64 p1.2].length = 2 := rfl
        have HSb := Hn.mk (show IntKind.i64.wrap (((q.length : Nat) : Int) - 1) = ((q.length - 1 : Nat) : Int) by rw [IntWalk.i64_in _ (by omega)]; omega)
        rw [show endsE q = decide (p0 = p1) by unfold endsE; rw [hp0, hp1]; simp] at hI
        clear hgA hgB he2 hp0 hp1
        by_cases he : p0 = p1
        · have be : decide (p0 = p1) = true := decide_eq_true he
          rw [be, if_pos (by simp)] at hI
          obtain rfl : false = R := hI
          clear hld
          repeat' (first
    | refine wkQ ?_
    | ((with_reducible apply TL.pure (d := 50) (v := .bool true)); (· exact Y.eql_b bk rfl rfl); (· rfl)) | ((with_reducible apply TW.pure (d := 50) (v := .bool true)); (· exact Y.eql_b bk rfl rfl); (· rfl))
    | refine wkV ?_
    | refine stS ?_ | (refine stB ?_; intro _) | (refine stC ?_; refine And.intro (fun _ => ?_) (fun _ => ?_))
    | ((with_reducible apply TA.takeN 0); (· rfl); (· decide +kernel); (· rfl); (· first | first | exact Y.lss_b b3 rfl rfl | exact Y.eql_pt be rfl rfl | exact Y.sub rfl rfl HSb.out | (first | exact yQ | exact yA | exact yB | exact yM | exact yV)); (· decide +kernel); (· decide +kernel); (· rfl); (· exact fun _ _ _ h => h); (· rfl))
    | ((with_reducible apply TA.takeN 1); (· rfl); (· decide +kernel); (· rfl); (· first | first | exact Y.lss_b b3 rfl rfl | exact Y.eql_pt be rfl rfl | exact Y.sub rfl rfl HSb.out | (first | exact yQ | exact yA | exact yB | exact yM | exact yV)); (· decide +kernel); (· decide +kernel); (· rfl); (· exact fun _ _ _ h => h); (· rfl))
    | ((with_reducible apply TA.takeN 2); (· rfl); (· decide +kernel); (· rfl); (· first | first | exact Y.lss_b b3 rfl rfl | exact Y.eql_pt be rfl rfl | exact Y.sub rfl rfl HSb.out | (first | exact yQ | exact yA | exact yB | exact yM | exact yV)); (· decide +kernel); (· decide +kernel); (· rfl); (· exact fun _ _ _ h => h); (· rfl))
    | ((with_reducible apply TA.takeN 3); (· rfl); (· decide +kernel); (· rfl); (· first | first | exact Y.lss_b b3 rfl rfl | exact Y.eql_pt be rfl rfl | exact Y.sub rfl rfl HSb.out | (first | exact yQ | exact yA | exact yB | exact yM | exact yV)); (· decide +kernel); (· decide +kernel); (· rfl); (· exact fun _ _ _ h => h); (· rfl))
    | ((with_reducible apply TA.take_gN 0); (· rfl); (· decide +kernel); (· rfl); (· rfl); (· rfl); (· (first | first | exact Y.lss_b b3 rfl rfl | exact Y.eql_pt be rfl rfl | exact Y.sub rfl rfl HSb.out | (first | exact yQ | exact yA | exact yB | exact yM | exact yV))); (· decide +kernel); (· decide +kernel); (· rfl); (· exact fun _ _ _ h => h); (· rfl))
    | ((with_reducible apply TA.take_gN 1); (· rfl); (· decide +kernel); (· rfl); (· rfl); (· rfl); (· (first | first | exact Y.lss_b b3 rfl rfl | exact Y.eql_pt be rfl rfl | exact Y.sub rfl rfl HSb.out | (first | exact yQ | exact yA | exact yB | exact yM | exact yV))); (· decide +kernel); (· decide +kernel); (· rfl); (· exact fun _ _ _ h => h); (· rfl))
    | ((with_reducible apply TA.take_gN 2); (· rfl); (· decide +kernel); (· rfl); (· rfl); (· rfl); (· (first | first | exact Y.lss_b b3 rfl rfl | exact Y.eql_pt be rfl rfl | exact Y.sub rfl rfl HSb.out | (first | exact yQ | exact yA | exact yB | exact yM | exact yV))); (· decide +kernel); (· decide +kernel); (· rfl); (· exact fun _ _ _ h => h); (· rfl))
    | ((with_reducible apply TA.take_gN 3); (· rfl); (· decide +kernel); (· rfl); (· rfl); (· rfl); (· (first | first | exact Y.lss_b b3 rfl rfl | exact Y.eql_pt be rfl rfl | exact Y.sub rfl rfl HSb.out | (first | exact yQ | exact yA | exact yB | exact yM | exact yV))); (· decide +kernel); (· decide +kernel); (· rfl); (· exact fun _ _ _ h => h); (· rfl))
    | refine wkX0 ?_
    | refine wkX1 ?_
    | refine wkX2 ?_
    | refine wkX3 ?_
    | ((with_reducible apply TA.oneN 0); (· rfl); (· rfl); (· decide +kernel); (· rfl))
    | ((with_reducible apply TA.oneN 1); (· rfl); (· rfl); (· decide +kernel); (· rfl))
    | ((with_reducible apply TA.oneN 2); (· rfl); (· rfl); (· decide +kernel); (· rfl))
    | ((with_reducible apply TA.oneN 3); (· rfl); (· rfl); (· decide +kernel); (· rfl))
    | refine TQ.any leF selF ?_
    | refine TC.region_any 15 (_) (by kernel_rfl) rfl selF ?_ | refine TA.done (by decide +kernel) ?_ | refine TQ.any_panic ?_)
          refine TQ.endR1 (L' := L) Tryz.results18 rvA rfl (.refl _) ?_ selF
          exact ⟨rfl, rfl, rfl⟩
        · have be : decide (p0 = p1) = false := decide_eq_false he
          rw [be, if_neg (by simp)] at hI
          clear hld
          repeat' (first
    | refine wkQ ?_
    | ((with_reducible apply TL.pure (d := 50) (v := .bool true)); (· exact Y.eql_b bk rfl rfl); (· rfl)) | ((with_reducible apply TW.pure (d := 50) (v := .bool true)); (· exact Y.eql_b bk rfl rfl); (· rfl))
    | refine wkV ?_
    | refine stS ?_ | (refine stB ?_; intro _) | (refine stC ?_; refine And.intro (fun _ => ?_) (fun _ => ?_))
    | ((with_reducible apply TA.takeN 0); (· rfl); (· decide +kernel); (· rfl); (· first | first | exact Y.lss_b b3 rfl rfl | exact Y.eql_pt be rfl rfl | exact Y.sub rfl rfl HSb.out | (first | exact yQ | exact yA | exact yB | exact yM | exact yV)); (· decide +kernel); (· decide +kernel); (· rfl); (· exact fun _ _ _ h => h); (· rfl))
    | ((with_reducible apply TA.takeN 1); (· rfl); (· decide +kernel); (· rfl); (· first | first | exact Y.lss_b b3 rfl rfl | exact Y.eql_pt be rfl rfl | exact Y.sub rfl rfl HSb.out | (first | exact yQ | exact yA | exact yB | exact yM | exact yV)); (· decide +kernel); (· decide +kernel); (· rfl); (· exact fun _ _ _ h => h); (· rfl))
    | ((with_reducible apply TA.takeN 2); (· rfl); (· decide +kernel); (· rfl); (· first | first | exact Y.lss_b b3 rfl rfl | exact Y.eql_pt be rfl rfl | exact Y.sub rfl rfl HSb.out | (first | exact yQ | exact yA | exact yB | exact yM | exact yV)); (· decide +kernel); (· decide +kernel); (· rfl); (· exact fun _ _ _ h => h); (· rfl))
    | ((with_reducible apply TA.takeN 3); (· rfl); (· decide +kernel); (· rfl); (· first | first | exact Y.lss_b b3 rfl rfl | exact Y.eql_pt be rfl rfl | exact Y.sub rfl rfl HSb.out | (first | exact yQ | exact yA | exact yB | exact yM | exact yV)); (· decide +kernel); (· decide +kernel); (· rfl); (· exact fun _ _ _ h => h); (· rfl))
    | ((with_reducible apply TA.take_gN 0); (· rfl); (· decide +kernel); (· rfl); (· rfl); (· rfl); (· (first | first | exact Y.lss_b b3 rfl rfl | exact Y.eql_pt be rfl rfl | exact Y.sub rfl rfl HSb.out | (first | exact yQ | exact yA | exact yB | exact yM | exact yV))); (· decide +kernel); (· decide +kernel); (· rfl); (· exact fun _ _ _ h => h); (· rfl))
    | ((with_reducible apply TA.take_gN 1); (· rfl); (· decide +kernel); (· rfl); (· rfl); (· rfl); (· (first | first | exact Y.lss_b b3 rfl rfl | exact Y.eql_pt be rfl rfl | exact Y.sub rfl rfl HSb.out | (first | exact yQ | exact yA | exact yB | exact yM | exact yV))); (· decide +kernel); (· decide +kernel); (· rfl); (· exact fun _ _ _ h => h); (· rfl))
    | ((with_reducible apply TA.take_gN 2); (· rfl); (· decide +kernel); (· rfl); (· rfl); (· rfl); (· (first | first | exact Y.lss_b b3 rfl rfl | exact Y.eql_pt be rfl rfl | exact Y.sub rfl rfl HSb.out | (first | exact yQ | exact yA | exact yB | exact yM | exact yV))); (· decide +kernel); (· decide +kernel); (· rfl); (· exact fun _ _ _ h => h); (· rfl))
    | ((with_reducible apply TA.take_gN 3); (· rfl); (· decide +kernel); (· rfl); (· rfl); (· rfl); (· (first | first | exact Y.lss_b b3 rfl rfl | exact Y.eql_pt be rfl rfl | exact Y.sub rfl rfl HSb.out | (first | exact yQ | exact yA | exact yB | exact yM | exact yV))); (· decide +kernel); (· decide +kernel); (· rfl); (· exact fun _ _ _ h => h); (· rfl))
    | refine wkX0 ?_
    | refine wkX1 ?_
    | refine wkX2 ?_
    | refine wkX3 ?_
    | ((with_reducible apply TA.oneN 0); (· rfl); (· rfl); (· decide +kernel); (· rfl))
    | ((with_reducible apply TA.oneN 1); (· rfl); (· rfl); (· decide +kernel); (· rfl))
    | ((with_reducible apply TA.oneN 2); (· rfl); (· rfl); (· decide +kernel); (· rfl))
    | ((with_reducible apply TA.oneN 3); (· rfl); (· rfl); (· decide +kernel); (· rfl))
    | refine TQ.any leF selF ?_
    | refine TC.region_any 15 (_) (by kernel_rfl) rfl selF ?_ | refine TA.done (by decide +kernel) ?_ | refine TQ.any_panic ?_)
          refine TQ.round (j + 1, c + q.length + 1) ?_ ?_ rfl subA selF
          · exact ⟨⟨by dsimp only; omega, by dsimp only; omega⟩, hI, HN.out⟩
          · show ps.length - (j + 1) < ps.length - j
            omega
  · obtain rfl : j = ps.length := by omega
    rw [List.drop_length, docL] at hI
    replace hI : (finD k ps.length c && SD) = R := hI
    have HM := Hn.mk hmay
    clear hmay
    have FN := fun (h : finD k ps.length c = false) => (show R = false by rw [← hI, h]; rfl)
    have FY := fun (h : finD k ps.length c = true) => (show SD = R by rw [← hI, h]; rfl)
    unfold finD at FN FY
    clear hI
    by_cases hn : k < 0
    · have d1 : decide (k < 0) = true := decide_eq_true hn
      obtain rfl := FN (by rw [d1]; rfl)
      repeat' (first
    | refine wkQ ?_
    | ((with_reducible apply TL.pure (d := 70) (v := .bool true)); (· exact Y.lss_b d1 rfl rfl); (· rfl)) | ((with_reducible apply TW.pure (d := 70) (v := .bool true)); (· exact Y.lss_b d1 rfl rfl); (· rfl))
    | refine wkV ?_
    | refine stS ?_ | (refine stB ?_; intro _) | (refine stC ?_; refine And.intro (fun _ => ?_) (fun _ => ?_)))
      refine TQ.endR1 (L' := L) Tryz.results18 rvA rfl (.refl _) ?_ selF
      exact ⟨rfl, rfl, rfl⟩
    have d1 : decide (k < 0) = false := decide_eq_false hn
    by_cases h2 : 2 < k
    · have d2 : decide (2 < k) = true := decide_eq_true h2
      obtain rfl := FN (by rw [d2]; simp)
      repeat' (first
    | refine wkQ ?_
    | ((with_reducible apply TL.pure (d := 70) (v := .bool false)); (· exact Y.lss_b d1 rfl rfl); (· rfl)) | ((with_reducible apply TW.pure (d := 70) (v := .bool false)); (· exact Y.lss_b d1 rfl rfl); (· rfl))
    | ((with_reducible apply TL.pure (d := 74) (v := .bool true)); (· exact Y.gtr_b d2 rfl rfl); (· rfl)) | ((with_reducible apply TW.pure (d := 74) (v := .bool true)); (· exact Y.gtr_b d2 rfl rfl); (· rfl))
    | refine wkV ?_
    | refine stS ?_ | (refine stB ?_; intro _) | (refine stC ?_; refine And.intro (fun _ => ?_) (fun _ => ?_)))
      refine TQ.endR1 (L' := L) Tryz.results18 rvA rfl (.refl _) ?_ selF
      exact ⟨rfl, rfl, rfl⟩
    have d2 : decide (2 < k) = false := decide_eq_false h2
    by_cases h3 : ps.length = 0
    · have d3 : decide (((ps.length : Nat) : Int) = 0) = true := decide_eq_true (by omega)
      obtain rfl := FN (by rw [decide_eq_true h3]; simp)
      repeat' (first
    | refine wkQ ?_
    | ((with_reducible apply TL.pure (d := 70) (v := .bool false)); (· exact Y.lss_b d1 rfl rfl); (· rfl)) | ((with_reducible apply TW.pure (d := 70) (v := .bool false)); (· exact Y.lss_b d1 rfl rfl); (· rfl))
    | ((with_reducible apply TL.pure (d := 74) (v := .bool false)); (· exact Y.gtr_b d2 rfl rfl); (· rfl)) | ((with_reducible apply TW.pure (d := 74) (v := .bool false)); (· exact Y.gtr_b d2 rfl rfl); (· rfl))
    | ((with_reducible apply TL.pure (d := 80) (v := .bool true)); (· exact Y.eql_b d3 rfl rfl); (· rfl)) | ((with_reducible apply TW.pure (d := 80) (v := .bool true)); (· exact Y.eql_b d3 rfl rfl); (· rfl))
    | refine wkV ?_
    | refine stS ?_ | (refine stB ?_; intro _) | (refine stC ?_; refine And.intro (fun _ => ?_) (fun _ => ?_)))
      refine TQ.endR1 (L' := L) Tryz.results18 rvA rfl (.refl _) ?_ selF
      exact ⟨rfl, rfl, rfl⟩
    have d3 : decide (((ps.length : Nat) : Int) = 0) = false := decide_eq_false (by omega)
    by_cases h4 : 256 < c
    · have d4 : decide ((256 : Int) < (c : Nat)) = true := decide_eq_true (by omega)
      obtain rfl := FN (by rw [decide_eq_true h4]; simp)
      repeat' (first
    | refine wkQ ?_
    | ((with_reducible apply TL.pure (d := 70) (v := .bool false)); (· exact Y.lss_b d1 rfl rfl); (· rfl)) | ((with_reducible apply TW.pure (d := 70) (v := .bool false)); (· exact Y.lss_b d1 rfl rfl); (· rfl))
    | ((with_reducible apply TL.pure (d := 74) (v := .bool false)); (· exact Y.gtr_b d2 rfl rfl); (· rfl)) | ((with_reducible apply TW.pure (d := 74) (v := .bool false)); (· exact Y.gtr_b d2 rfl rfl); (· rfl))
    | ((with_reducible apply TL.pure (d := 80) (v := .bool false)); (· exact Y.eql_b d3 rfl rfl); (· rfl)) | ((with_reducible apply TW.pure (d := 80) (v := .bool false)); (· exact Y.eql_b d3 rfl rfl); (· rfl))
    | ((with_reducible apply TL.pure (d := 84) (v := .bool true)); (· exact Y.gtr_b d4 rfl rfl); (· rfl)) | ((with_reducible apply TW.pure (d := 84) (v := .bool true)); (· exact Y.gtr_b d4 rfl rfl); (· rfl))
    | refine wkV ?_
    | refine stS ?_ | (refine stB ?_; intro _) | (refine stC ?_; refine And.intro (fun _ => ?_) (fun _ => ?_)))
      refine TQ.endR1 (L' := L) Tryz.results18 rvA rfl (.refl _) ?_ selF
      exact ⟨rfl, rfl, rfl⟩
    have d4 : decide ((256 : Int) < (c : Nat)) = false := decide_eq_false (by omega)
    rw [d1, d2, decide_eq_false h3, decide_eq_false h4] at FN FY
    have hk3 : k = 0 ∨ k = 1 ∨ k = 2 := by omega
    clear hn h2
    rcases hk3 with rfl | rfl | rfl
    · have e5 : decide ((0 : Int) < 2) = true := rfl
      have e7 : decide ((0 : Int) = 0) = true := rfl
      have e9 : decide ((0 : Int) = 1) = false := rfl
      rw [e5, e7, e9] at FN FY
      by_cases h6 : ps.length = 1
      case neg =>
        have d6 : (!decide (((ps.length : Nat) : Int) = 1)) = true := by rw [decide_eq_false (by omega)]; rfl
        obtain rfl := FN (by rw [decide_eq_false h6]; rfl)
        repeat' (first
    | refine wkQ ?_
    | ((with_reducible apply TL.pure (d := 70) (v := .bool false)); (· exact Y.lss_b d1 rfl rfl); (· rfl)) | ((with_reducible apply TW.pure (d := 70) (v := .bool false)); (· exact Y.lss_b d1 rfl rfl); (· rfl))
    | ((with_reducible apply TL.pure (d := 74) (v := .bool false)); (· exact Y.gtr_b d2 rfl rfl); (· rfl)) | ((with_reducible apply TW.pure (d := 74) (v := .bool false)); (· exact Y.gtr_b d2 rfl rfl); (· rfl))
    | ((with_reducible apply TL.pure (d := 80) (v := .bool false)); (· exact Y.eql_b d3 rfl rfl); (· rfl)) | ((with_reducible apply TW.pure (d := 80) (v := .bool false)); (· exact Y.eql_b d3 rfl rfl); (· rfl))
    | ((with_reducible apply TL.pure (d := 84) (v := .bool false)); (· exact Y.gtr_b d4 rfl rfl); (· rfl)) | ((with_reducible apply TW.pure (d := 84) (v := .bool false)); (· exact Y.gtr_b d4 rfl rfl); (· rfl))
    | ((with_reducible apply TL.pure (d := 89) (v := .bool true)); (· exact Y.lss_b e5 rfl rfl); (· rfl)) | ((with_reducible apply TW.pure (d := 89) (v := .bool true)); (· exact Y.lss_b e5 rfl rfl); (· rfl))
    | ((with_reducible apply TL.pure (d := 94) (v := .bool true)); (· exact Y.neq_b d6 rfl rfl); (· rfl)) | ((with_reducible apply TW.pure (d := 94) (v := .bool true)); (· exact Y.neq_b d6 rfl rfl); (· rfl))
    | refine wkV ?_
    | refine stS ?_ | (refine stB ?_; intro _) | (refine stC ?_; refine And.intro (fun _ => ?_) (fun _ => ?_)))
        refine TQ.endR1 (L' := L) Tryz.results18 rvA rfl (.refl _) ?_ selF
        exact ⟨rfl, rfl, rfl⟩
      have d6 : (!decide (((ps.length : Nat) : Int) = 1)) = false := by rw [decide_eq_true (by omega)]; rfl
      rw [decide_eq_true h6] at FN FY
      by_cases h8 : c = 1
      case neg =>
        have d8 : (!decide (((c : Nat) : Int) = 1)) = true := by rw [decide_eq_false (by omega)]; rfl
        obtain rfl := FN (by rw [decide_eq_false h8]; rfl)
        repeat' (first
    | refine wkQ ?_
    | ((with_reducible apply TL.pure (d := 70) (v := .bool false)); (· exact Y.lss_b d1 rfl rfl); (· rfl)) | ((with_reducible apply TW.pure (d := 70) (v := .bool false)); (· exact Y.lss_b d1 rfl rfl); (· rfl))
    | ((with_reducible apply TL.pure (d := 74) (v := .bool false)); (· exact Y.gtr_b d2 rfl rfl); (· rfl)) | ((with_reducible apply TW.pure (d := 74) (v := .bool false)); (· exact Y.gtr_b d2 rfl rfl); (· rfl))
    | ((with_reducible apply TL.pure (d := 80) (v := .bool false)); (· exact Y.eql_b d3 rfl rfl); (· rfl)) | ((with_reducible apply TW.pure (d := 80) (v := .bool false)); (· exact Y.eql_b d3 rfl rfl); (· rfl))
    | ((with_reducible apply TL.pure (d := 84) (v := .bool false)); (· exact Y.gtr_b d4 rfl rfl); (· rfl)) | ((with_reducible apply TW.pure (d := 84) (v := .bool false)); (· exact Y.gtr_b d4 rfl rfl); (· rfl))
    | ((with_reducible apply TL.pure (d := 89) (v := .bool true)); (· exact Y.lss_b e5 rfl rfl); (· rfl)) | ((with_reducible apply TW.pure (d := 89) (v := .bool true)); (· exact Y.lss_b e5 rfl rfl); (· rfl))
    | ((with_reducible apply TL.pure (d := 94) (v := .bool false)); (· exact Y.neq_b d6 rfl rfl); (· rfl)) | ((with_reducible apply TW.pure (d := 94) (v := .bool false)); (· exact Y.neq_b d6 rfl rfl); (· rfl))
    | ((with_reducible apply TL.pure (d := 100) (v := .bool true)); (· exact Y.eql_b e7 rfl rfl); (· rfl)) | ((with_reducible apply TW.pure (d := 100) (v := .bool true)); (· exact Y.eql_b e7 rfl rfl); (· rfl))
    | ((with_reducible apply TL.pure (d := 103) (v := .bool true)); (· exact Y.neq_b d8 rfl rfl); (· rfl)) | ((with_reducible apply TW.pure (d := 103) (v := .bool true)); (· exact Y.neq_b d8 rfl rfl); (· rfl))
    | refine wkV ?_
    | refine stS ?_ | (refine stB ?_; intro _) | (refine stC ?_; refine And.intro (fun _ => ?_) (fun _ => ?_)))
        refine TQ.endR1 (L' := L) Tryz.results18 rvA rfl (.refl _) ?_ selF
        exact ⟨rfl, rfl, rfl⟩
      have d8 : (!decide (((c : Nat) : Int) = 1)) = false := by rw [decide_eq_true (by omega)]; rfl
      rw [decide_eq_true h8] at FN FY
      have hT : true = R := by rw [← FY rfl, HSD.out, simD_not (by decide)]
      clear FN FY
      repeat' (first
    | refine wkQ ?_
    | ((with_reducible apply TL.pure (d := 70) (v := .bool false)); (· exact Y.lss_b d1 rfl rfl); (· rfl)) | ((with_reducible apply TW.pure (d := 70) (v := .bool false)); (· exact Y.lss_b d1 rfl rfl); (· rfl))
    | ((with_reducible apply TL.pure (d := 74) (v := .bool false)); (· exact Y.gtr_b d2 rfl rfl); (· rfl)) | ((with_reducible apply TW.pure (d := 74) (v := .bool false)); (· exact Y.gtr_b d2 rfl rfl); (· rfl))
    | ((with_reducible apply TL.pure (d := 80) (v := .bool false)); (· exact Y.eql_b d3 rfl rfl); (· rfl)) | ((with_reducible apply TW.pure (d := 80) (v := .bool false)); (· exact Y.eql_b d3 rfl rfl); (· rfl))
    | ((with_reducible apply TL.pure (d := 84) (v := .bool false)); (· exact Y.gtr_b d4 rfl rfl); (· rfl)) | ((with_reducible apply TW.pure (d := 84) (v := .bool false)); (· exact Y.gtr_b d4 rfl rfl); (· rfl))
    | ((with_reducible apply TL.pure (d := 89) (v := .bool true)); (· exact Y.lss_b e5 rfl rfl); (· rfl)) | ((with_reducible apply TW.pure (d := 89) (v := .bool true)); (· exact Y.lss_b e5 rfl rfl); (· rfl))
    | ((with_reducible apply TL.pure (d := 94) (v := .bool false)); (· exact Y.neq_b d6 rfl rfl); (· rfl)) | ((with_reducible apply TW.pure (d := 94) (v := .bool false)); (· exact Y.neq_b d6 rfl rfl); (· rfl))
    | ((with_reducible apply TL.pure (d := 100) (v := .bool true)); (· exact Y.eql_b e7 rfl rfl); (· rfl)) | ((with_reducible apply TW.pure (d := 100) (v := .bool true)); (· exact Y.eql_b e7 rfl rfl); (· rfl))
    | ((with_reducible apply TL.pure (d := 103) (v := .bool false)); (· exact Y.neq_b d8 rfl rfl); (· rfl)) | ((with_reducible apply TW.pure (d := 103) (v := .bool false)); (· exact Y.neq_b d8 rfl rfl); (· rfl))
    | ((with_reducible apply TL.pure (d := 109) (v := .bool false)); (· exact Y.eql_b e9 rfl rfl); (· rfl)) | ((with_reducible apply TW.pure (d := 109) (v := .bool false)); (· exact Y.eql_b e9 rfl rfl); (· rfl))
    | refine wkV ?_
    | refine stS ?_ | (refine stB ?_; intro _) | (refine stC ?_; refine And.intro (fun _ => ?_) (fun _ => ?_)))
      refine TC.loopK (fun i : Nat => i ≤ ps.length) (fun i => ps.length - i) (fun i _ => [(7, .int .i64 (i : Nat)), (1, .pointer (some ⟨b1, 0, none⟩))]) [] .nil (fun _ L => L) 0 (Nat.zero_le _) subA selF ?_
      rintro i hi
      try dsimp only at hi ⊢
      by_cases hlt2 : i < ps.length
      · have d2 : decide (((0 : Int)) = 2) = false := rfl
        repeat' (first
    | refine wkQ ?_
    | ((with_reducible apply TL.pure (d := 124) (v := .bool false)); (· exact Y.eql_b d2 rfl rfl); (· rfl)) | ((with_reducible apply TW.pure (d := 124) (v := .bool false)); (· exact Y.eql_b d2 rfl rfl); (· rfl))
    | refine wkV ?_
    | refine stS ?_ | (refine stB ?_; intro _) | (refine stC ?_; refine And.intro (fun _ => ?_) (fun _ => ?_)))
        refine TQ.round (i + 1) ?_ ?_ rfl subA selF
        · show i + 1 ≤ ps.length
          omega
        · show ps.length - (i + 1) < ps.length - i
          omega
      · obtain rfl : i = ps.length := by omega
        repeat' (first
    | refine wkQ ?_
    | refine wkV ?_
    | refine stS ?_ | (refine stB ?_; intro _) | (refine stC ?_; refine And.intro (fun _ => ?_) (fun _ => ?_)))
        refine TQ.endR1 (L' := L) Tryz.results18 rvA rfl (.refl _) ?_ selF
        exact ⟨by rw [← hT], rfl, rfl⟩
    · have e5 : decide ((1 : Int) < 2) = true := rfl
      have e7 : decide ((1 : Int) = 0) = false := rfl
      have e9 : decide ((1 : Int) = 1) = true := rfl
      rw [e5, e7, e9] at FN FY
      by_cases h6 : ps.length = 1
      case neg =>
        have d6 : (!decide (((ps.length : Nat) : Int) = 1)) = true := by rw [decide_eq_false (by omega)]; rfl
        obtain rfl := FN (by rw [decide_eq_false h6]; rfl)
        repeat' (first
    | refine wkQ ?_
    | ((with_reducible apply TL.pure (d := 70) (v := .bool false)); (· exact Y.lss_b d1 rfl rfl); (· rfl)) | ((with_reducible apply TW.pure (d := 70) (v := .bool false)); (· exact Y.lss_b d1 rfl rfl); (· rfl))
    | ((with_reducible apply TL.pure (d := 74) (v := .bool false)); (· exact Y.gtr_b d2 rfl rfl); (· rfl)) | ((with_reducible apply TW.pure (d := 74) (v := .bool false)); (· exact Y.gtr_b d2 rfl rfl); (· rfl))
    | ((with_reducible apply TL.pure (d := 80) (v := .bool false)); (· exact Y.eql_b d3 rfl rfl); (· rfl)) | ((with_reducible apply TW.pure (d := 80) (v := .bool false)); (· exact Y.eql_b d3 rfl rfl); (· rfl))
    | ((with_reducible apply TL.pure (d := 84) (v := .bool false)); (· exact Y.gtr_b d4 rfl rfl); (· rfl)) | ((with_reducible apply TW.pure (d := 84) (v := .bool false)); (· exact Y.gtr_b d4 rfl rfl); (· rfl))
    | ((with_reducible apply TL.pure (d := 89) (v := .bool true)); (· exact Y.lss_b e5 rfl rfl); (· rfl)) | ((with_reducible apply TW.pure (d := 89) (v := .bool true)); (· exact Y.lss_b e5 rfl rfl); (· rfl))
    | ((with_reducible apply TL.pure (d := 94) (v := .bool true)); (· exact Y.neq_b d6 rfl rfl); (· rfl)) | ((with_reducible apply TW.pure (d := 94) (v := .bool true)); (· exact Y.neq_b d6 rfl rfl); (· rfl))
    | refine wkV ?_
    | refine stS ?_ | (refine stB ?_; intro _) | (refine stC ?_; refine And.intro (fun _ => ?_) (fun _ => ?_)))
        refine TQ.endR1 (L' := L) Tryz.results18 rvA rfl (.refl _) ?_ selF
        exact ⟨rfl, rfl, rfl⟩
      have d6 : (!decide (((ps.length : Nat) : Int) = 1)) = false := by rw [decide_eq_true (by omega)]; rfl
      rw [decide_eq_true h6] at FN FY
      by_cases h8 : c < 2
      · have d8 : decide (((c : Nat) : Int) < 2) = true := decide_eq_true (by omega)
        obtain rfl := FN (by rw [decide_eq_true h8]; rfl)
        repeat' (first
    | refine wkQ ?_
    | ((with_reducible apply TL.pure (d := 70) (v := .bool false)); (· exact Y.lss_b d1 rfl rfl); (· rfl)) | ((with_reducible apply TW.pure (d := 70) (v := .bool false)); (· exact Y.lss_b d1 rfl rfl); (· rfl))
    | ((with_reducible apply TL.pure (d := 74) (v := .bool false)); (· exact Y.gtr_b d2 rfl rfl); (· rfl)) | ((with_reducible apply TW.pure (d := 74) (v := .bool false)); (· exact Y.gtr_b d2 rfl rfl); (· rfl))
    | ((with_reducible apply TL.pure (d := 80) (v := .bool false)); (· exact Y.eql_b d3 rfl rfl); (· rfl)) | ((with_reducible apply TW.pure (d := 80) (v := .bool false)); (· exact Y.eql_b d3 rfl rfl); (· rfl))
    | ((with_reducible apply TL.pure (d := 84) (v := .bool false)); (· exact Y.gtr_b d4 rfl rfl); (· rfl)) | ((with_reducible apply TW.pure (d := 84) (v := .bool false)); (· exact Y.gtr_b d4 rfl rfl); (· rfl))
    | ((with_reducible apply TL.pure (d := 89) (v := .bool true)); (· exact Y.lss_b e5 rfl rfl); (· rfl)) | ((with_reducible apply TW.pure (d := 89) (v := .bool true)); (· exact Y.lss_b e5 rfl rfl); (· rfl))
    | ((with_reducible apply TL.pure (d := 94) (v := .bool false)); (· exact Y.neq_b d6 rfl rfl); (· rfl)) | ((with_reducible apply TW.pure (d := 94) (v := .bool false)); (· exact Y.neq_b d6 rfl rfl); (· rfl))
    | ((with_reducible apply TL.pure (d := 100) (v := .bool false)); (· exact Y.eql_b e7 rfl rfl); (· rfl)) | ((with_reducible apply TW.pure (d := 100) (v := .bool false)); (· exact Y.eql_b e7 rfl rfl); (· rfl))
    | ((with_reducible apply TL.pure (d := 109) (v := .bool true)); (· exact Y.eql_b e9 rfl rfl); (· rfl)) | ((with_reducible apply TW.pure (d := 109) (v := .bool true)); (· exact Y.eql_b e9 rfl rfl); (· rfl))
    | ((with_reducible apply TL.pure (d := 112) (v := .bool true)); (· exact Y.lss_b d8 rfl rfl); (· rfl)) | ((with_reducible apply TW.pure (d := 112) (v := .bool true)); (· exact Y.lss_b d8 rfl rfl); (· rfl))
    | refine wkV ?_
    | refine stS ?_ | (refine stB ?_; intro _) | (refine stC ?_; refine And.intro (fun _ => ?_) (fun _ => ?_)))
        refine TQ.endR1 (L' := L) Tryz.results18 rvA rfl (.refl _) ?_ selF
        exact ⟨rfl, rfl, rfl⟩
      have d8 : decide (((c : Nat) : Int) < 2) = false := decide_eq_false (by omega)
      rw [decide_eq_false h8] at FN FY
      have hT : true = R := by rw [← FY rfl, HSD.out, simD_not (by decide)]
      clear FN FY
      repeat' (first
    | refine wkQ ?_
    | ((with_reducible apply TL.pure (d := 70) (v := .bool false)); (· exact Y.lss_b d1 rfl rfl); (· rfl)) | ((with_reducible apply TW.pure (d := 70) (v := .bool false)); (· exact Y.lss_b d1 rfl rfl); (· rfl))
    | ((with_reducible apply TL.pure (d := 74) (v := .bool false)); (· exact Y.gtr_b d2 rfl rfl); (· rfl)) | ((with_reducible apply TW.pure (d := 74) (v := .bool false)); (· exact Y.gtr_b d2 rfl rfl); (· rfl))
    | ((with_reducible apply TL.pure (d := 80) (v := .bool false)); (· exact Y.eql_b d3 rfl rfl); (· rfl)) | ((with_reducible apply TW.pure (d := 80) (v := .bool false)); (· exact Y.eql_b d3 rfl rfl); (· rfl))
    | ((with_reducible apply TL.pure (d := 84) (v := .bool false)); (· exact Y.gtr_b d4 rfl rfl); (· rfl)) | ((with_reducible apply TW.pure (d := 84) (v := .bool false)); (· exact Y.gtr_b d4 rfl rfl); (· rfl))
    | ((with_reducible apply TL.pure (d := 89) (v := .bool true)); (· exact Y.lss_b e5 rfl rfl); (· rfl)) | ((with_reducible apply TW.pure (d := 89) (v := .bool true)); (· exact Y.lss_b e5 rfl rfl); (· rfl))
    | ((with_reducible apply TL.pure (d := 94) (v := .bool false)); (· exact Y.neq_b d6 rfl rfl); (· rfl)) | ((with_reducible apply TW.pure (d := 94) (v := .bool false)); (· exact Y.neq_b d6 rfl rfl); (· rfl))
    | ((with_reducible apply TL.pure (d := 100) (v := .bool false)); (· exact Y.eql_b e7 rfl rfl); (· rfl)) | ((with_reducible apply TW.pure (d := 100) (v := .bool false)); (· exact Y.eql_b e7 rfl rfl); (· rfl))
    | ((with_reducible apply TL.pure (d := 109) (v := .bool true)); (· exact Y.eql_b e9 rfl rfl); (· rfl)) | ((with_reducible apply TW.pure (d := 109) (v := .bool true)); (· exact Y.eql_b e9 rfl rfl); (· rfl))
    | ((with_reducible apply TL.pure (d := 112) (v := .bool false)); (· exact Y.lss_b d8 rfl rfl); (· rfl)) | ((with_reducible apply TW.pure (d := 112) (v := .bool false)); (· exact Y.lss_b d8 rfl rfl); (· rfl))
    | refine wkV ?_
    | refine stS ?_ | (refine stB ?_; intro _) | (refine stC ?_; refine And.intro (fun _ => ?_) (fun _ => ?_)))
      refine TC.loopK (fun i : Nat => i ≤ ps.length) (fun i => ps.length - i) (fun i _ => [(7, .int .i64 (i : Nat)), (1, .pointer (some ⟨b1, 0, none⟩))]) [] .nil (fun _ L => L) 0 (Nat.zero_le _) subA selF ?_
      rintro i hi
      try dsimp only at hi ⊢
      by_cases hlt2 : i < ps.length
      · have d2 : decide (((1 : Int)) = 2) = false := rfl
        repeat' (first
    | refine wkQ ?_
    | ((with_reducible apply TL.pure (d := 124) (v := .bool false)); (· exact Y.eql_b d2 rfl rfl); (· rfl)) | ((with_reducible apply TW.pure (d := 124) (v := .bool false)); (· exact Y.eql_b d2 rfl rfl); (· rfl))
    | refine wkV ?_
    | refine stS ?_ | (refine stB ?_; intro _) | (refine stC ?_; refine And.intro (fun _ => ?_) (fun _ => ?_)))
        refine TQ.round (i + 1) ?_ ?_ rfl subA selF
        · show i + 1 ≤ ps.length
          omega
        · show ps.length - (i + 1) < ps.length - i
          omega
      · obtain rfl : i = ps.length := by omega
        repeat' (first
    | refine wkQ ?_
    | refine wkV ?_
    | refine stS ?_ | (refine stB ?_; intro _) | (refine stC ?_; refine And.intro (fun _ => ?_) (fun _ => ?_)))
        refine TQ.endR1 (L' := L) Tryz.results18 rvA rfl (.refl _) ?_ selF
        exact ⟨by rw [← hT], rfl, rfl⟩
    · have e5 : decide ((2 : Int) < 2) = false := rfl
      have e7 : decide ((2 : Int) = 0) = false := rfl
      have e9 : decide ((2 : Int) = 1) = false := rfl
      rw [e5, e7, e9] at FN FY
      have hT : simD 2 (ps.drop 0) = R := by rw [← FY rfl, HSD.out, List.drop_zero]
      clear FN FY
      repeat' (first
    | refine wkQ ?_
    | ((with_reducible apply TL.pure (d := 70) (v := .bool false)); (· exact Y.lss_b d1 rfl rfl); (· rfl)) | ((with_reducible apply TW.pure (d := 70) (v := .bool false)); (· exact Y.lss_b d1 rfl rfl); (· rfl))
    | ((with_reducible apply TL.pure (d := 74) (v := .bool false)); (· exact Y.gtr_b d2 rfl rfl); (· rfl)) | ((with_reducible apply TW.pure (d := 74) (v := .bool false)); (· exact Y.gtr_b d2 rfl rfl); (· rfl))
    | ((with_reducible apply TL.pure (d := 80) (v := .bool false)); (· exact Y.eql_b d3 rfl rfl); (· rfl)) | ((with_reducible apply TW.pure (d := 80) (v := .bool false)); (· exact Y.eql_b d3 rfl rfl); (· rfl))
    | ((with_reducible apply TL.pure (d := 84) (v := .bool false)); (· exact Y.gtr_b d4 rfl rfl); (· rfl)) | ((with_reducible apply TW.pure (d := 84) (v := .bool false)); (· exact Y.gtr_b d4 rfl rfl); (· rfl))
    | ((with_reducible apply TL.pure (d := 89) (v := .bool false)); (· exact Y.lss_b e5 rfl rfl); (· rfl)) | ((with_reducible apply TW.pure (d := 89) (v := .bool false)); (· exact Y.lss_b e5 rfl rfl); (· rfl))
    | ((with_reducible apply TL.pure (d := 100) (v := .bool false)); (· exact Y.eql_b e7 rfl rfl); (· rfl)) | ((with_reducible apply TW.pure (d := 100) (v := .bool false)); (· exact Y.eql_b e7 rfl rfl); (· rfl))
    | ((with_reducible apply TL.pure (d := 109) (v := .bool false)); (· exact Y.eql_b e9 rfl rfl); (· rfl)) | ((with_reducible apply TW.pure (d := 109) (v := .bool false)); (· exact Y.eql_b e9 rfl rfl); (· rfl))
    | refine wkV ?_
    | refine stS ?_ | (refine stB ?_; intro _) | (refine stC ?_; refine And.intro (fun _ => ?_) (fun _ => ?_)))
      refine TC.loopK (fun i : Nat => i ≤ ps.length ∧ simD 2 (ps.drop i) = R) (fun i => ps.length - i) (fun i _ => [(7, .int .i64 (i : Nat)), (1, .pointer (some ⟨b1, 0, none⟩))]) [] .nil (fun _ L => L) 0 ⟨Nat.zero_le _, hT⟩ subA selF ?_
      clear hT
      rintro i ⟨hi, hT⟩
      try dsimp only at hi hT ⊢
      have d2 : decide ((2 : Int) = 2) = true := rfl
      by_cases hlt2 : i < ps.length
      · obtain ⟨q, hq⟩ : ∃ q, ps[i]? = some q := ⟨_, List.getElem?_eq_getElem hlt2⟩
        obtain ⟨u, hu, hSu⟩ := HPT.out i q hq
        obtain ⟨b2, o2, rfl, hg1'⟩ := HS0.out.elem hlt2 (by decide)
        have hld : g.cell b2 (o2 + i * 1) = some u := hg1' 0 _ (by rw [Nat.mul_one]; exact hu)
        have SI := fun L => rsimple9_gives q u g L hSu (hO.part q (List.mem_of_getElem? hq)) (HM.out i q hlt2 hq)
        obtain ⟨au, cu, rfl⟩ := hSu.slice
        rw [simD_drop hq, d2, Bool.not_true, Bool.false_or] at hT
        clear hg1' hSu hu hq hO HM HPT
        cases hz : simpleE (partE 2 q) with
        | false =>
          rw [hz] at SI hT
          obtain rfl : false = R := hT
          repeat' (first
    | refine wkQ ?_
    | ((with_reducible apply TL.pure (d := 124) (v := .bool true)); (· exact Y.eql_b d2 rfl rfl); (· rfl)) | ((with_reducible apply TW.pure (d := 124) (v := .bool true)); (· exact Y.eql_b d2 rfl rfl); (· rfl))
    | refine wkV ?_
    | ((with_reducible apply TL.gives_plain); (· kernel_rfl); (· rfl); (· exact SI _); (· rfl)) | ((with_reducible apply TW.gives_plain); (· kernel_rfl); (· rfl); (· exact SI _); (· rfl))
    | refine stS ?_ | (refine stB ?_; intro _) | (refine stC ?_; refine And.intro (fun _ => ?_) (fun _ => ?_)))
          refine TQ.endR1 (L' := L) Tryz.results18 rvA rfl (.refl _) ?_ selF
          exact ⟨rfl, rfl, rfl⟩
        | true =>
          rw [hz, Bool.true_and] at hT
          rw [hz] at SI
          repeat' (first
    | refine wkQ ?_
    | ((with_reducible apply TL.pure (d := 124) (v := .bool true)); (· exact Y.eql_b d2 rfl rfl); (· rfl)) | ((with_reducible apply TW.pure (d := 124) (v := .bool true)); (· exact Y.eql_b d2 rfl rfl); (· rfl))
    | refine wkV ?_
    | ((with_reducible apply TL.gives_plain); (· kernel_rfl); (· rfl); (· exact SI _); (· rfl)) | ((with_reducible apply TW.gives_plain); (· kernel_rfl); (· rfl); (· exact SI _); (· rfl))
    | refine stS ?_ | (refine stB ?_; intro _) | (refine stC ?_; refine And.intro (fun _ => ?_) (fun _ => ?_)))
          refine TQ.round (i + 1) ?_ ?_ rfl subA selF
          · exact ⟨by omega, hT⟩
          · show ps.length - (i + 1) < ps.length - i
            omega
      · obtain rfl : i = ps.length := by omega
        rw [List.drop_length] at hT
        obtain rfl : true = R := hT
        repeat' (first
    | refine wkQ ?_
    | refine wkV ?_
    | refine stS ?_ | (refine stB ?_; intro _) | (refine stC ?_; refine And.intro (fun _ => ?_) (fun _ => ?_)))
        refine TQ.endR1 (L' := L) Tryz.results18 rvA rfl (.refl _) ?_ selF
        exact ⟨rfl, rfl, rfl⟩
end Go.Proofs.YtfanccddokckcaaGreatDoor
