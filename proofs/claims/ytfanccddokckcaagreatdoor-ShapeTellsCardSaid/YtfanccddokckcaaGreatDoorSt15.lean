/-
  The walks of slices.IndexFunc, slices.ContainsFunc over points, shape's moves.
-/
import Derived.Test.YtfanccddokckcaaGreatDoorSt2
import Derived.Test.YtfanccddokckcaaGreatDoorSt14
namespace Go.Proofs.YtfanccddokckcaaGreatDoor
open Go.RowKit Go.TL
set_option maxRecDepth 100000

theorem pt_cells {g : Gh} {b o : Nat} {p : Pt} {c : Nat → Option Value} (h : ∀ j v, c j = some v → g.cell b (o + j) = some v) (h0 : c 0 = some (.int .i64 p.1)) (h1 : c 1 = some (.int .i64 p.2)) : ∀ j u, [Value.int .i64 p.1, .int .i64 p.2][j]? = some u → g.cell b (o + j) = some u := fun j u hu => by
  match j, hu with
  | 0, hu => simp at hu; subst hu; exact h 0 _ h0
  | 1, hu => simp at hu; subst hu; exact h 1 _ h1
  | j + 2, hu => simp at hu
def idxF (p : Pt → Bool) : List Pt → Nat → Int
  | [], _ => -1
  | a :: r, i => if p a = true then (i : Int) else idxF p r (i + 1)
theorem idxF_any (p : Pt → Bool) : ∀ (l : List Pt) (i : Nat), decide (0 ≤ idxF p l i) = l.any p
  | [], i => by rw [idxF]; rfl
  | a :: r, i => by
    have := idxF_any p r (i + 1)
    rw [idxF, List.any_cons]
    cases h : p a with
    | true => rw [if_pos rfl]; simp
    | false => rw [if_neg (by decide), this]; rfl
set_option maxHeartbeats 8000000 in
theorem indexF_gives (F : FuncId) (caps : List Value) (P : Pt → Bool) (l : List Pt) (v : Value) (g : Gh) (L : List Ent) (hc : callable Tryz.prog F = true) (hS : Sl g v l.length 2 (flatP l)) (_hl : l.length ≤ 1000000) (hA : ∀ p ∈ l, Gives Tryz.prog F (pt p :: caps).toArray g L (.bool (P p))) :
    Gives Tryz.prog 92 #[v, .func (.func F) #[] caps.toArray] g L (.int .i64 (idxF P l 0)) := by
  refine .of (Does.of2 Tryz.func92 rfl Tryz.ntmps92 rfl ?_)
  obtain ⟨ao, cap, rfl⟩ := hS.slice
  obtain ⟨R, hR⟩ : ∃ R, R = idxF P (l.drop 0) 0 := ⟨_, rfl⟩
  rw [show idxF P l 0 = R from hR.symm]
  repeat' (first
    | refine wkQ ?_
    | refine wkV ?_
    | refine stS ?_ | (refine stB ?_; intro _) | (refine stC ?_; refine And.intro (fun _ => ?_) (fun _ => ?_)))
  refine TC.loopK (fun i : Nat => i ≤ l.length ∧ idxF P (l.drop i) i = R) (fun i => l.length - i) (fun i _ => [(8, .int .i64 (i : Nat)), (7, .int .i64 (l.length : Nat)), (0, .slice ao l.length cap), (1, .func (.func F) #[] caps.toArray)]) [] .nil (fun _ L => L) 0 ⟨Nat.zero_le _, hR.symm⟩ subA selF ?_
  clear hR
  rintro i ⟨hi, hR⟩
  try dsimp only at hi hR ⊢
  by_cases hlt : i < l.length
  · obtain ⟨p, hp⟩ : ∃ p, l[i]? = some p := ⟨_, List.getElem?_eq_getElem hlt⟩
    obtain ⟨b1, o1, rfl, hg⟩ := hS.elem hlt (by decide)
    have hld := pt_cells hg (flatP_get hp).1 (flatP_get hp).2
    have hll : [Value.int .i64 p.1, .int .i64 p.2].length = 2 := rfl
    have A := hA p (List.mem_of_getElem? hp)
    rw [drop_of_get hp, idxF] at hR
    clear hS hg hA
    cases hm : P p with
    | true =>
      rw [hm] at A hR
      rw [if_pos rfl] at hR
      subst hR
      repeat' (first
    | refine wkQ ?_
    | refine wkV ?_
      | refine TL.gives (Enters.func (by rfl) hc (by rfl)) A (by rfl) ?_
    | refine stS ?_ | (refine stB ?_; intro _) | (refine stC ?_; refine And.intro (fun _ => ?_) (fun _ => ?_)))
      refine TQ.endR1 (L' := L) Tryz.results92 rvA rfl (.refl _) ?_ selF
      exact ⟨rfl, rfl, rfl⟩
    | false =>
      rw [hm] at A hR
      rw [if_neg (by decide)] at hR
      repeat' (first
    | refine wkQ ?_
    | refine wkV ?_
      | refine TL.gives (Enters.func (by rfl) hc (by rfl)) A (by rfl) ?_
    | refine stS ?_ | (refine stB ?_; intro _) | (refine stC ?_; refine And.intro (fun _ => ?_) (fun _ => ?_)))
      refine TQ.round (i + 1) ?_ ?_ rfl subA selF
      · exact ⟨by omega, hR⟩
      · show l.length - (i + 1) < l.length - i
        omega
  · obtain rfl : i = l.length := by omega
    rw [List.drop_length, idxF] at hR
    subst hR
    clear hS hA
    repeat' (first
    | refine wkQ ?_
    | refine wkV ?_
    | refine stS ?_ | (refine stB ?_; intro _) | (refine stC ?_; refine And.intro (fun _ => ?_) (fun _ => ?_)))
    refine TQ.endR1 (L' := L) Tryz.results92 rvA rfl (.refl _) ?_ selF
    exact ⟨rfl, rfl, rfl⟩
theorem containsF_gives (F : FuncId) (caps : List Value) (P : Pt → Bool) (l : List Pt) (v : Value) (g : Gh) (L : List Ent) (hc : callable Tryz.prog F = true) (hS : Sl g v l.length 2 (flatP l)) (hl : l.length ≤ 1000000) (hA : ∀ p ∈ l, Gives Tryz.prog F (pt p :: caps).toArray g L (.bool (P p))) :
    Gives Tryz.prog 53 #[v, .func (.func F) #[] caps.toArray] g L (.bool (l.any P)) := by
  refine .of (Does.of2 Tryz.func53 rfl Tryz.ntmps53 rfl ?_)
  have A := indexF_gives F caps P l v g L hc hS hl hA
  obtain ⟨ao, cap, rfl⟩ := hS.slice
  obtain ⟨b, hb⟩ : ∃ b, b = l.any P := ⟨_, rfl⟩
  have hd := idxF_any P l 0
  rw [← hb] at hd ⊢
  generalize idxF P l 0 = k at *
  clear hS hA hb
  repeat' (first
    | refine wkQ ?_
    | ((with_reducible apply TL.pure (d := 8) (v := .bool b)); (· exact Y.geq_b hd rfl rfl); (· rfl)) | ((with_reducible apply TW.pure (d := 8) (v := .bool b)); (· exact Y.geq_b hd rfl rfl); (· rfl))
    | refine wkV ?_
    | ((with_reducible apply TL.gives_plain); (· kernel_rfl); (· rfl); (· exact A); (· rfl)) | ((with_reducible apply TW.gives_plain); (· kernel_rfl); (· rfl); (· exact A); (· rfl))
    | refine stS ?_ | (refine stB ?_; intro _) | (refine stC ?_; refine And.intro (fun _ => ?_) (fun _ => ?_)))
  refine TQ.endR1 (L' := L) Tryz.results53 rvA rfl (.refl _) ?_ selF
  exact ⟨rfl, rfl, rfl⟩
theorem rightOne_gives (p : Pt) (g : Gh) (L : List Ent) : Gives Tryz.prog 83 #[pt p] g L (.bool (!mayB p)) := by
  refine .of (Does.of1 Tryz.func83 rfl Tryz.ntmps83 rfl ?_)
  have M := fun L => May_gives g L p
  repeat' (first
    | refine wkQ ?_
    | refine wkV ?_
    | ((with_reducible apply TL.gives_plain); (· kernel_rfl); (· rfl); (· exact M _); (· rfl)) | ((with_reducible apply TW.gives_plain); (· kernel_rfl); (· rfl); (· exact M _); (· rfl))
    | refine stS ?_ | (refine stB ?_; intro _) | (refine stC ?_; refine And.intro (fun _ => ?_) (fun _ => ?_)))
  refine TQ.endR1 (L' := L) Tryz.results83 rvA rfl (.refl _) ?_ selF
  exact ⟨rfl, rfl, rfl⟩
def movesF : List Pt → Bool
  | a :: b :: r => !decide (b = a) && movesF (b :: r)
  | _ => true
set_option maxHeartbeats 8000000 in
theorem moves_gives (l : List Pt) (v : Value) (g : Gh) (L : List Ent) (hS : Sl g v l.length 2 (flatP l)) (_hl : l.length ≤ 1000000) : Gives Tryz.prog 84 #[v] g L (.bool (movesF l)) := by
  refine .of (Does.of1 Tryz.func84 rfl Tryz.ntmps84 rfl ?_)
  obtain ⟨ao, cap, rfl⟩ := hS.slice
  obtain ⟨R, hR⟩ : ∃ R, R = movesF (l.drop 0) := ⟨_, rfl⟩
  rw [show movesF l = R from hR.symm]
  repeat' (first
    | refine wkQ ?_
    | refine wkV ?_
    | refine stS ?_ | (refine stB ?_; intro _) | (refine stC ?_; refine And.intro (fun _ => ?_) (fun _ => ?_)))
  refine TC.loopK (fun i : Nat => (i + 1 ≤ l.length ∨ i = 0 ∧ l.length = 0) ∧ movesF (l.drop i) = R) (fun i => l.length - i) (fun i _ => [(3, .int .i64 ((i + 1 : Nat) : Int)), (0, .slice ao l.length cap)]) [] .nil (fun _ L => L) 0 ⟨by omega, hR.symm⟩ subA selF ?_
  clear hR
  rintro i ⟨hi, hR⟩
  try dsimp only at hi hR ⊢
  by_cases hlt : i + 1 < l.length
  · obtain ⟨p, hp⟩ : ∃ p, l[i]? = some p := ⟨_, List.getElem?_eq_getElem (by omega)⟩
    obtain ⟨q, hq⟩ : ∃ q, l[i + 1]? = some q := ⟨_, List.getElem?_eq_getElem hlt⟩
    obtain ⟨b1, o1, rfl, hg⟩ := hS.elem (i := i) (by omega) (by decide)
    obtain ⟨b3, o2, he2, hg2⟩ := hS.elem hlt (by decide)
    obtain ⟨rfl, rfl⟩ : b1 = b3 ∧ o1 = o2 := by simpa using he2
    have hld := pt_cells hg (flatP_get hp).1 (flatP_get hp).2
    have hld2 := pt_cells hg2 (flatP_get hq).1 (flatP_get hq).2
    have hll : [Value.int .i64 p.1, .int .i64 p.2].length = 2 := rfl
    have hll2 : [Value.int .i64 q.1, .int .i64 q.2].length = 2 := rfl
    have HS := Hn.mk (show IntKind.i64.wrap (((i + 1 : Nat) : Int) - 1) = ((i : Nat) : Int) by rw [IntWalk.i64_in _ (by omega)]; omega)
    have hR2 : (!decide (q = p) && movesF (l.drop (i + 1))) = R := by
      rw [← hR, drop_of_get hp, drop_of_get hq]; rfl
    clear hS hg hg2 he2 hR
    by_cases he : q = p
    · have bq : decide (q = p) = true := decide_eq_true he
      rw [bq] at hR2
      repeat' (first
    | refine wkQ ?_
    | refine wkV ?_
    | refine stS ?_ | (refine stB ?_; intro _) | (refine stC ?_; refine And.intro (fun _ => ?_) (fun _ => ?_))
    | ((with_reducible apply TA.takeN 0); (· rfl); (· decide +kernel); (· rfl); (· first | first | exact Y.eql_pt bq rfl rfl | exact Y.sub rfl rfl HS.out | (first | exact yQ | exact yA | exact yB | exact yM | exact yV)); (· decide +kernel); (· decide +kernel); (· rfl); (· exact fun _ _ _ h => h); (· rfl))
    | ((with_reducible apply TA.takeN 1); (· rfl); (· decide +kernel); (· rfl); (· first | first | exact Y.eql_pt bq rfl rfl | exact Y.sub rfl rfl HS.out | (first | exact yQ | exact yA | exact yB | exact yM | exact yV)); (· decide +kernel); (· decide +kernel); (· rfl); (· exact fun _ _ _ h => h); (· rfl))
    | ((with_reducible apply TA.takeN 2); (· rfl); (· decide +kernel); (· rfl); (· first | first | exact Y.eql_pt bq rfl rfl | exact Y.sub rfl rfl HS.out | (first | exact yQ | exact yA | exact yB | exact yM | exact yV)); (· decide +kernel); (· decide +kernel); (· rfl); (· exact fun _ _ _ h => h); (· rfl))
    | ((with_reducible apply TA.takeN 3); (· rfl); (· decide +kernel); (· rfl); (· first | first | exact Y.eql_pt bq rfl rfl | exact Y.sub rfl rfl HS.out | (first | exact yQ | exact yA | exact yB | exact yM | exact yV)); (· decide +kernel); (· decide +kernel); (· rfl); (· exact fun _ _ _ h => h); (· rfl))
    | ((with_reducible apply TA.take_gN 0); (· rfl); (· decide +kernel); (· rfl); (· rfl); (· rfl); (· (first | first | exact Y.eql_pt bq rfl rfl | exact Y.sub rfl rfl HS.out | (first | exact yQ | exact yA | exact yB | exact yM | exact yV))); (· decide +kernel); (· decide +kernel); (· rfl); (· exact fun _ _ _ h => h); (· rfl))
    | ((with_reducible apply TA.take_gN 1); (· rfl); (· decide +kernel); (· rfl); (· rfl); (· rfl); (· (first | first | exact Y.eql_pt bq rfl rfl | exact Y.sub rfl rfl HS.out | (first | exact yQ | exact yA | exact yB | exact yM | exact yV))); (· decide +kernel); (· decide +kernel); (· rfl); (· exact fun _ _ _ h => h); (· rfl))
    | ((with_reducible apply TA.take_gN 2); (· rfl); (· decide +kernel); (· rfl); (· rfl); (· rfl); (· (first | first | exact Y.eql_pt bq rfl rfl | exact Y.sub rfl rfl HS.out | (first | exact yQ | exact yA | exact yB | exact yM | exact yV))); (· decide +kernel); (· decide +kernel); (· rfl); (· exact fun _ _ _ h => h); (· rfl))
    | ((with_reducible apply TA.take_gN 3); (· rfl); (· decide +kernel); (· rfl); (· rfl); (· rfl); (· (first | first | exact Y.eql_pt bq rfl rfl | exact Y.sub rfl rfl HS.out | (first | exact yQ | exact yA | exact yB | exact yM | exact yV))); (· decide +kernel); (· decide +kernel); (· rfl); (· exact fun _ _ _ h => h); (· rfl))
    | refine wkX0 ?_
    | refine wkX1 ?_
    | refine wkX2 ?_
    | refine wkX3 ?_
    | ((with_reducible apply TA.oneN 0); (· rfl); (· rfl); (· decide +kernel); (· rfl))
    | ((with_reducible apply TA.oneN 1); (· rfl); (· rfl); (· decide +kernel); (· rfl))
    | ((with_reducible apply TA.oneN 2); (· rfl); (· rfl); (· decide +kernel); (· rfl))
    | ((with_reducible apply TA.oneN 3); (· rfl); (· rfl); (· decide +kernel); (· rfl))
    | refine TQ.any leF selF ?_
    | refine TC.region_any 10 (_) (by kernel_rfl) rfl selF ?_ | refine TA.done (by decide +kernel) ?_ | refine TQ.any_panic ?_)
      refine TQ.endR1 (L' := L) Tryz.results84 rvA rfl (.refl _) ?_ selF
      exact ⟨by rw [← hR2]; rfl, rfl, rfl⟩
    · have bq : decide (q = p) = false := decide_eq_false he
      rw [bq] at hR2
      repeat' (first
    | refine wkQ ?_
    | refine wkV ?_
    | refine stS ?_ | (refine stB ?_; intro _) | (refine stC ?_; refine And.intro (fun _ => ?_) (fun _ => ?_))
    | ((with_reducible apply TA.takeN 0); (· rfl); (· decide +kernel); (· rfl); (· first | first | exact Y.eql_pt bq rfl rfl | exact Y.sub rfl rfl HS.out | (first | exact yQ | exact yA | exact yB | exact yM | exact yV)); (· decide +kernel); (· decide +kernel); (· rfl); (· exact fun _ _ _ h => h); (· rfl))
    | ((with_reducible apply TA.takeN 1); (· rfl); (· decide +kernel); (· rfl); (· first | first | exact Y.eql_pt bq rfl rfl | exact Y.sub rfl rfl HS.out | (first | exact yQ | exact yA | exact yB | exact yM | exact yV)); (· decide +kernel); (· decide +kernel); (· rfl); (· exact fun _ _ _ h => h); (· rfl))
    | ((with_reducible apply TA.takeN 2); (· rfl); (· decide +kernel); (· rfl); (· first | first | exact Y.eql_pt bq rfl rfl | exact Y.sub rfl rfl HS.out | (first | exact yQ | exact yA | exact yB | exact yM | exact yV)); (· decide +kernel); (· decide +kernel); (· rfl); (· exact fun _ _ _ h => h); (· rfl))
    | ((with_reducible apply TA.takeN 3); (· rfl); (· decide +kernel); (· rfl); (· first | first | exact Y.eql_pt bq rfl rfl | exact Y.sub rfl rfl HS.out | (first | exact yQ | exact yA | exact yB | exact yM | exact yV)); (· decide +kernel); (· decide +kernel); (· rfl); (· exact fun _ _ _ h => h); (· rfl))
    | ((with_reducible apply TA.take_gN 0); (· rfl); (· decide +kernel); (· rfl); (· rfl); (· rfl); (· (first | first | exact Y.eql_pt bq rfl rfl | exact Y.sub rfl rfl HS.out | (first | exact yQ | exact yA | exact yB | exact yM | exact yV))); (· decide +kernel); (· decide +kernel); (· rfl); (· exact fun _ _ _ h => h); (· rfl))
    | ((with_reducible apply TA.take_gN 1); (· rfl); (· decide +kernel); (· rfl); (· rfl); (· rfl); (· (first | first | exact Y.eql_pt bq rfl rfl | exact Y.sub rfl rfl HS.out | (first | exact yQ | exact yA | exact yB | exact yM | exact yV))); (· decide +kernel); (· decide +kernel); (· rfl); (· exact fun _ _ _ h => h); (· rfl))
    | ((with_reducible apply TA.take_gN 2); (· rfl); (· decide +kernel); (· rfl); (· rfl); (· rfl); (· (first | first | exact Y.eql_pt bq rfl rfl | exact Y.sub rfl rfl HS.out | (first | exact yQ | exact yA | exact yB | exact yM | exact yV))); (· decide +kernel); (· decide +kernel); (· rfl); (· exact fun _ _ _ h => h); (· rfl))
    | ((with_reducible apply TA.take_gN 3); (· rfl); (· decide +kernel); (· rfl); (· rfl); (· rfl); (· (first | first | exact Y.eql_pt bq rfl rfl | exact Y.sub rfl rfl HS.out | (first | exact yQ | exact yA | exact yB | exact yM | exact yV))); (· decide +kernel); (· decide +kernel); (· rfl); (· exact fun _ _ _ h => h); (· rfl))
    | refine wkX0 ?_
    | refine wkX1 ?_
    | refine wkX2 ?_
    | refine wkX3 ?_
    | ((with_reducible apply TA.oneN 0); (· rfl); (· rfl); (· decide +kernel); (· rfl))
    | ((with_reducible apply TA.oneN 1); (· rfl); (· rfl); (· decide +kernel); (· rfl))
    | ((with_reducible apply TA.oneN 2); (· rfl); (· rfl); (· decide +kernel); (· rfl))
    | ((with_reducible apply TA.oneN 3); (· rfl); (· rfl); (· decide +kernel); (· rfl))
    | refine TQ.any leF selF ?_
    | refine TC.region_any 10 (_) (by kernel_rfl) rfl selF ?_ | refine TA.done (by decide +kernel) ?_ | refine TQ.any_panic ?_)
      refine TQ.round (i + 1) ?_ ?_ rfl subA selF
      · exact ⟨by omega, hR2⟩
      · show l.length - (i + 1) < l.length - i
        omega
  · have hT : R = true := by
      rw [← hR]
      rcases hi with hi | ⟨rfl, h0⟩
      · obtain ⟨p, hp⟩ : ∃ p, l[i]? = some p := ⟨_, List.getElem?_eq_getElem (by omega)⟩
        rw [drop_of_get hp, List.drop_eq_nil_of_le (by omega)]; rfl
      · rw [List.eq_nil_of_length_eq_zero h0]; rfl
    subst hT
    clear hS hR
    repeat' (first
    | refine wkQ ?_
    | refine wkV ?_
    | refine stS ?_ | (refine stB ?_; intro _) | (refine stC ?_; refine And.intro (fun _ => ?_) (fun _ => ?_)))
    refine TQ.endR1 (L' := L) Tryz.results84 rvA rfl (.refl _) ?_ selF
    exact ⟨rfl, rfl, rfl⟩
end Go.Proofs.YtfanccddokckcaaGreatDoor
