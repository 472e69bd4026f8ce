/-
  The walk of shape's ring. The walks of shape's names, slices.Index over strings.
-/
import Derived.Test.YtgollffmdpejiaaGreatDoorQz3
import Derived.Test.YtgollffmdpejiaaGreatDoorQz18
import Derived.Test.YtgollffmdpejiaaGreatDoorQz7
import Derived.Test.YtgollffmdpejiaaGreatDoorQz13
namespace Go.Proofs.YtgollffmdpejiaaGreatDoor
open Go.RowKit Go.TL
set_option maxRecDepth 100000

theorem Sl.take {g : Gh} {ao : Option Addr} {n cap sz m : Nat} {xs : List Value} (h : Sl g (.slice ao n cap) n sz xs) (hm : m ≤ n) : Sl g (.slice ao m cap) m sz (xs.take (m * sz)) ∧ n ≤ cap := by
  obtain ⟨hl, ao', cap', hv, hnc, hc⟩ := h
  obtain ⟨rfl, rfl⟩ : ao = ao' ∧ cap = cap' := by simpa using hv
  refine ⟨⟨?_, ao, cap, rfl, by omega, fun j u hu => ?_⟩, hnc⟩
  · rw [List.length_take, hl]
    exact Nat.min_eq_left (Nat.mul_le_mul_right _ hm)
  · rw [List.getElem?_take] at hu
    split at hu
    · exact hc j u hu
    · cases hu
theorem flatP_take (l : List Pt) (m : Nat) : (flatP l).take (m * 2) = flatP (l.take m) := by
  induction l generalizing m with
  | nil => simp [flatP]
  | cons p l ih =>
    cases m with
    | zero => simp [flatP]
    | succ m =>
      rw [Nat.succ_mul]
      show ([Value.int .i64 p.1, .int .i64 p.2] ++ flatP l).take (m * 2 + 2) = [Value.int .i64 p.1, .int .i64 p.2] ++ flatP (l.take m)
      rw [← ih m]
      rfl
def ringJ (x : J) : Option (List Pt) := match placesJ x with
  | some l => if (decide (4 ≤ l.length) && endsE l) && movesF l = true then some (l.take (l.length - 1)) else none
  | none => none
theorem placesJ_le {x : J} {l : List Pt} (h : placesJ x = some l) : l.length ≤ 256 := by
  have key : ∀ (xs : List J) (l : List Pt), mapP xs = some l → l.length = xs.length := by
    intro xs
    induction xs with
    | nil => intro l h; rw [mapP] at h; cases h; rfl
    | cons y r ih =>
      intro l h
      rw [mapP] at h
      cases hp : placeJ y with
      | none => rw [hp] at h; cases h
      | some p =>
        rw [hp] at h
        cases hm : mapP r with
        | none => rw [hm] at h; cases h
        | some l2 =>
          rw [hm] at h
          cases h
          rw [List.length_cons, List.length_cons, ih l2 hm]
  cases x with
  | list xs =>
    rw [placesJ] at h
    split at h
    · rw [key xs l h]; assumption
    · cases h
  | _ => cases h
set_option maxHeartbeats 16000000 in
theorem sring_does (x : J) (v : Value) (g : Gh) (L : List Ent) (hv : IsJ g x v) : Does Tryz.prog 288 #[v] g L (PlacesR (ringJ x) L) := by
  refine Does.of1 Tryz.func288 rfl Tryz.ntmps288 rfl ?_
  have NY := fun g L => sneed_yes g L
  have NO := fun g L => sneed_no g L
  have ov := hv.one
  have PS := fun L => splaces_does x v g L hv
  unfold ringJ
  unfold PlacesR at PS ⊢
  clear hv
  cases hp : placesJ x with
  | none =>
    rw [hp] at PS
    dsimp only at PS ⊢
    repeat' (first
    | refine wkQ ?_
    | refine wkV ?_
    | (refine TL.call (Enters.plain (by kernel_rfl) (by rfl)) (by rfl) (PS _) ?_; (rintro e g1 Ln hg1 ⟨k1, k2⟩; have k2 := k2.symm; subst k1; subst k2; refine CallK.panic ?_))
    | refine stS ?_ | (refine stB ?_; intro _) | (refine stC ?_; constructor <;> intro _))
    refine TQ.end_panic (L' := L) rfl ((by assumption)) ?_ selF
    exact ⟨rfl, rfl⟩
  | some l =>
    have hle := placesJ_le hp
    rw [hp] at PS
    clear hp
    dsimp only at PS ⊢
    by_cases h4 : 4 ≤ l.length
    case neg =>
      have b4 : decide ((4 : Int) ≤ (l.length : Nat)) = false := decide_eq_false (by omega)
      rw [decide_eq_false h4, if_neg (by simp)]
      repeat' (first
    | refine wkQ ?_
    | refine wkV ?_
    | (refine TL.call (Enters.plain (by kernel_rfl) (by rfl)) (by rfl) (PS _) ?_; (rintro e g1 Ln hg1 ⟨vl, k1, k2, k3⟩; have k2 := k2.symm; subst k1; subst k2; obtain ⟨a1, c1, rfl⟩ := k3.slice; have K3 := Hn.mk k3; clear k3; refine CallK.ret ?_))
    | refine TL.throws (Enters.plain (by kernel_rfl) (by rfl)) (NO _ _) (by rfl) ?_
    | refine stS ?_ | (refine stB ?_; intro _) | (refine stC ?_; constructor <;> intro _)
    | ((with_reducible apply TA.takeN 0); (· rfl); (· decide +kernel); (· rfl); (· first | exact Y.geq_b b4 rfl rfl | exact yW); (· decide +kernel); (· decide +kernel); (· rfl); (· exact fun _ _ _ h => h); (· rfl))
    | ((with_reducible apply TA.takeN 1); (· rfl); (· decide +kernel); (· rfl); (· first | exact Y.geq_b b4 rfl rfl | exact yW); (· decide +kernel); (· decide +kernel); (· rfl); (· exact fun _ _ _ h => h); (· rfl))
    | ((with_reducible apply TA.takeN 2); (· rfl); (· decide +kernel); (· rfl); (· first | exact Y.geq_b b4 rfl rfl | exact yW); (· decide +kernel); (· decide +kernel); (· rfl); (· exact fun _ _ _ h => h); (· rfl))
    | ((with_reducible apply TA.takeN 3); (· rfl); (· decide +kernel); (· rfl); (· first | exact Y.geq_b b4 rfl rfl | exact yW); (· decide +kernel); (· decide +kernel); (· rfl); (· exact fun _ _ _ h => h); (· rfl))
    | ((with_reducible apply TA.take_gN 0); (· rfl); (· decide +kernel); (· rfl); (· rfl); (· rfl); (· (first | exact Y.geq_b b4 rfl rfl | exact yW)); (· decide +kernel); (· decide +kernel); (· rfl); (· exact fun _ _ _ h => h); (· rfl))
    | ((with_reducible apply TA.take_gN 1); (· rfl); (· decide +kernel); (· rfl); (· rfl); (· rfl); (· (first | exact Y.geq_b b4 rfl rfl | exact yW)); (· decide +kernel); (· decide +kernel); (· rfl); (· exact fun _ _ _ h => h); (· rfl))
    | ((with_reducible apply TA.take_gN 2); (· rfl); (· decide +kernel); (· rfl); (· rfl); (· rfl); (· (first | exact Y.geq_b b4 rfl rfl | exact yW)); (· decide +kernel); (· decide +kernel); (· rfl); (· exact fun _ _ _ h => h); (· rfl))
    | ((with_reducible apply TA.take_gN 3); (· rfl); (· decide +kernel); (· rfl); (· rfl); (· rfl); (· (first | exact Y.geq_b b4 rfl rfl | exact yW)); (· decide +kernel); (· decide +kernel); (· rfl); (· exact fun _ _ _ h => h); (· rfl))
    | refine wkX0 ?_
    | refine wkX1 ?_
    | refine wkX2 ?_
    | refine wkX3 ?_
    | refine wkO0 ?_
    | refine wkO1 ?_
    | refine wkO2 ?_
    | refine wkO3 ?_
    | refine TQ.any leF selF ?_
    | refine TC.region_any 18 (_) (by kernel_rfl) rfl selF ?_ | refine TA.done (by decide +kernel) ?_ | refine TQ.any_panic ?_ | fail)
      refine TQ.end_panic (L' := L) rfl ((by assumption)) ?_ selF
      exact ⟨rfl, rfl⟩
    have b4 : decide ((4 : Int) ≤ (l.length : Nat)) = true := decide_eq_true (by omega)
    obtain ⟨p0, hp0⟩ : ∃ p, l[0]? = some p := ⟨_, List.getElem?_eq_getElem (by omega)⟩
    obtain ⟨p1, hp1⟩ : ∃ p, l[l.length - 1]? = some p := ⟨_, List.getElem?_eq_getElem (by omega)⟩
    rw [decide_eq_true h4, show endsE l = decide (p0 = p1) by unfold endsE; rw [hp0, hp1]; simp]
    have hll : [Value.int .i64 p0.1, .int .i64 p0.2].length = 2 := rfl
    have hll2 : [Value.int .i64 p1.1, .int .i64 p1.2].length = 2 := rfl
    have HSb := Hn.mk (show IntKind.i64.wrap (((l.length : Nat) : Int) - 1) = ((l.length - 1 : Nat) : Int) by rw [IntWalk.i64_in _ (by omega)]; omega)
    have CELL : ∀ {g1 : Gh} {a1 : Option Addr} {c1 : Nat}, Sl g1 (.slice a1 l.length c1) l.length 2 (flatP l) → ∃ b1 o1, a1 = some ⟨b1, o1, none⟩ ∧ (∀ j u, [Value.int .i64 p0.1, .int .i64 p0.2][j]? = some u → g1.cell b1 (o1 + 0 * 2 + j) = some u) ∧ (∀ j u, [Value.int .i64 p1.1, .int .i64 p1.2][j]? = some u → g1.cell b1 (o1 + (l.length - 1) * 2 + j) = some u) := by
      intro g1 a1 c1 hS
      obtain ⟨b5, o5, rfl, hgA⟩ := hS.elem (i := 0) (by omega) (by decide)
      obtain ⟨b6, o6, he2, hgB⟩ := hS.elem (i := l.length - 1) (by omega) (by decide)
      obtain ⟨rfl, rfl⟩ : b5 = b6 ∧ o5 = o6 := by simpa using he2
      exact ⟨b5, o5, rfl, pt_cells hgA (flatP_get hp0).1 (flatP_get hp0).2, pt_cells hgB (flatP_get hp1).1 (flatP_get hp1).2⟩
    clear hp0 hp1
    by_cases he : p0 = p1
    case neg =>
      have be : decide (p0 = p1) = false := decide_eq_false he
      rw [be, if_neg (by simp)]
      repeat' (first
    | refine wkQ ?_
    | refine wkV ?_
    | (refine TL.call (Enters.plain (by kernel_rfl) (by rfl)) (by rfl) (PS _) ?_; (rintro e g1 Ln hg1 ⟨vl, k1, k2, k3⟩; have k2 := k2.symm; subst k1; subst k2; obtain ⟨a1, c1, rfl⟩ := k3.slice; obtain ⟨b5, o5, rfl, hld1, hld2⟩ := CELL k3; have K3 := Hn.mk k3; clear k3 CELL; refine CallK.ret ?_))
    | refine TL.throws (Enters.plain (by kernel_rfl) (by rfl)) (NO _ _) (by rfl) ?_
    | refine stS ?_ | (refine stB ?_; intro _) | (refine stC ?_; constructor <;> intro _)
    | ((with_reducible apply TA.takeN 0); (· rfl); (· decide +kernel); (· rfl); (· first | first | exact Y.geq_b b4 rfl rfl | exact Y.eql_pt be rfl rfl | exact Y.sub rfl rfl HSb.out | exact yW); (· decide +kernel); (· decide +kernel); (· rfl); (· exact fun _ _ _ h => h); (· rfl))
    | ((with_reducible apply TA.takeN 1); (· rfl); (· decide +kernel); (· rfl); (· first | first | exact Y.geq_b b4 rfl rfl | exact Y.eql_pt be rfl rfl | exact Y.sub rfl rfl HSb.out | exact yW); (· decide +kernel); (· decide +kernel); (· rfl); (· exact fun _ _ _ h => h); (· rfl))
    | ((with_reducible apply TA.takeN 2); (· rfl); (· decide +kernel); (· rfl); (· first | first | exact Y.geq_b b4 rfl rfl | exact Y.eql_pt be rfl rfl | exact Y.sub rfl rfl HSb.out | exact yW); (· decide +kernel); (· decide +kernel); (· rfl); (· exact fun _ _ _ h => h); (· rfl))
    | ((with_reducible apply TA.takeN 3); (· rfl); (· decide +kernel); (· rfl); (· first | first | exact Y.geq_b b4 rfl rfl | exact Y.eql_pt be rfl rfl | exact Y.sub rfl rfl HSb.out | exact yW); (· decide +kernel); (· decide +kernel); (· rfl); (· exact fun _ _ _ h => h); (· rfl))
    | ((with_reducible apply TA.take_gN 0); (· rfl); (· decide +kernel); (· rfl); (· rfl); (· rfl); (· (first | first | exact Y.geq_b b4 rfl rfl | exact Y.eql_pt be rfl rfl | exact Y.sub rfl rfl HSb.out | exact yW)); (· decide +kernel); (· decide +kernel); (· rfl); (· exact fun _ _ _ h => h); (· rfl))
    | ((with_reducible apply TA.take_gN 1); (· rfl); (· decide +kernel); (· rfl); (· rfl); (· rfl); (· (first | first | exact Y.geq_b b4 rfl rfl | exact Y.eql_pt be rfl rfl | exact Y.sub rfl rfl HSb.out | exact yW)); (· decide +kernel); (· decide +kernel); (· rfl); (· exact fun _ _ _ h => h); (· rfl))
    | ((with_reducible apply TA.take_gN 2); (· rfl); (· decide +kernel); (· rfl); (· rfl); (· rfl); (· (first | first | exact Y.geq_b b4 rfl rfl | exact Y.eql_pt be rfl rfl | exact Y.sub rfl rfl HSb.out | exact yW)); (· decide +kernel); (· decide +kernel); (· rfl); (· exact fun _ _ _ h => h); (· rfl))
    | ((with_reducible apply TA.take_gN 3); (· rfl); (· decide +kernel); (· rfl); (· rfl); (· rfl); (· (first | first | exact Y.geq_b b4 rfl rfl | exact Y.eql_pt be rfl rfl | exact Y.sub rfl rfl HSb.out | exact yW)); (· decide +kernel); (· decide +kernel); (· rfl); (· exact fun _ _ _ h => h); (· rfl))
    | refine wkX0 ?_
    | refine wkX1 ?_
    | refine wkX2 ?_
    | refine wkX3 ?_
    | refine wkO0 ?_
    | refine wkO1 ?_
    | refine wkO2 ?_
    | refine wkO3 ?_
    | refine TQ.any leF selF ?_
    | refine TC.region_any 18 (_) (by kernel_rfl) rfl selF ?_ | refine TA.done (by decide +kernel) ?_ | refine TQ.any_panic ?_ | fail)
      refine TQ.end_panic (L' := L) rfl ((by assumption)) ?_ selF
      exact ⟨rfl, rfl⟩
    have be : decide (p0 = p1) = true := decide_eq_true he
    rw [be]
    have MV : ∀ {g1 : Gh} {u : Value} (hS : Sl g1 u l.length 2 (flatP l)) (L : List Ent), Gives Tryz.prog 256 #[u] g1 L (.bool (movesF l)) := fun hS L => moves_gives l _ _ L hS (by omega)
    cases hm : movesF l with
    | false =>
      rw [hm] at MV
      rw [if_neg (by simp)]
      repeat' (first
    | refine wkQ ?_
    | refine wkV ?_
    | (refine TL.call (Enters.plain (by kernel_rfl) (by rfl)) (by rfl) (PS _) ?_; (rintro e g1 Ln hg1 ⟨vl, k1, k2, k3⟩; have k2 := k2.symm; subst k1; subst k2; obtain ⟨a1, c1, rfl⟩ := k3.slice; obtain ⟨b5, o5, rfl, hld1, hld2⟩ := CELL k3; have K3 := Hn.mk k3; have MV1 := fun L => MV K3.out L; clear k3 CELL MV; refine CallK.ret ?_))
    | refine wkD (MV1 _) ?_
    | refine TL.throws (Enters.plain (by kernel_rfl) (by rfl)) (NO _ _) (by rfl) ?_
    | refine stS ?_ | (refine stB ?_; intro _) | (refine stC ?_; constructor <;> intro _)
    | ((with_reducible apply TA.takeN 0); (· rfl); (· decide +kernel); (· rfl); (· first | first | exact Y.geq_b b4 rfl rfl | exact Y.eql_pt be rfl rfl | exact Y.sub rfl rfl HSb.out | exact yW); (· decide +kernel); (· decide +kernel); (· rfl); (· exact fun _ _ _ h => h); (· rfl))
    | ((with_reducible apply TA.takeN 1); (· rfl); (· decide +kernel); (· rfl); (· first | first | exact Y.geq_b b4 rfl rfl | exact Y.eql_pt be rfl rfl | exact Y.sub rfl rfl HSb.out | exact yW); (· decide +kernel); (· decide +kernel); (· rfl); (· exact fun _ _ _ h => h); (· rfl))
    | ((with_reducible apply TA.takeN 2); (· rfl); (· decide +kernel); (· rfl); (· first | first | exact Y.geq_b b4 rfl rfl | exact Y.eql_pt be rfl rfl | exact Y.sub rfl rfl HSb.out | exact yW); (· decide +kernel); (· decide +kernel); (· rfl); (· exact fun _ _ _ h => h); (· rfl))
    | ((with_reducible apply TA.takeN 3); (· rfl); (· decide +kernel); (· rfl); (· first | first | exact Y.geq_b b4 rfl rfl | exact Y.eql_pt be rfl rfl | exact Y.sub rfl rfl HSb.out | exact yW); (· decide +kernel); (· decide +kernel); (· rfl); (· exact fun _ _ _ h => h); (· rfl))
    | ((with_reducible apply TA.take_gN 0); (· rfl); (· decide +kernel); (· rfl); (· rfl); (· rfl); (· (first | first | exact Y.geq_b b4 rfl rfl | exact Y.eql_pt be rfl rfl | exact Y.sub rfl rfl HSb.out | exact yW)); (· decide +kernel); (· decide +kernel); (· rfl); (· exact fun _ _ _ h => h); (· rfl))
    | ((with_reducible apply TA.take_gN 1); (· rfl); (· decide +kernel); (· rfl); (· rfl); (· rfl); (· (first | first | exact Y.geq_b b4 rfl rfl | exact Y.eql_pt be rfl rfl | exact Y.sub rfl rfl HSb.out | exact yW)); (· decide +kernel); (· decide +kernel); (· rfl); (· exact fun _ _ _ h => h); (· rfl))
    | ((with_reducible apply TA.take_gN 2); (· rfl); (· decide +kernel); (· rfl); (· rfl); (· rfl); (· (first | first | exact Y.geq_b b4 rfl rfl | exact Y.eql_pt be rfl rfl | exact Y.sub rfl rfl HSb.out | exact yW)); (· decide +kernel); (· decide +kernel); (· rfl); (· exact fun _ _ _ h => h); (· rfl))
    | ((with_reducible apply TA.take_gN 3); (· rfl); (· decide +kernel); (· rfl); (· rfl); (· rfl); (· (first | first | exact Y.geq_b b4 rfl rfl | exact Y.eql_pt be rfl rfl | exact Y.sub rfl rfl HSb.out | exact yW)); (· decide +kernel); (· decide +kernel); (· rfl); (· exact fun _ _ _ h => h); (· rfl))
    | refine wkX0 ?_
    | refine wkX1 ?_
    | refine wkX2 ?_
    | refine wkX3 ?_
    | refine wkO0 ?_
    | refine wkO1 ?_
    | refine wkO2 ?_
    | refine wkO3 ?_
    | refine TQ.any leF selF ?_
    | refine TC.region_any 18 (_) (by kernel_rfl) rfl selF ?_ | refine TA.done (by decide +kernel) ?_ | refine TQ.any_panic ?_ | fail)
      refine TQ.end_panic (L' := L) rfl ((by assumption)) ?_ selF
      exact ⟨rfl, rfl⟩
    | true =>
      rw [hm] at MV
      rw [if_pos (by simp)]
      dsimp only
      repeat' (first
    | refine wkQ ?_
    | refine wkV ?_
    | (refine TL.call (Enters.plain (by kernel_rfl) (by rfl)) (by rfl) (PS _) ?_; (rintro e g1 Ln hg1 ⟨vl, k1, k2, k3⟩; have k2 := k2.symm; subst k1; subst k2; obtain ⟨a1, c1, rfl⟩ := k3.slice; obtain ⟨b5, o5, rfl, hld1, hld2⟩ := CELL k3; have K3 := Hn.mk (Sl.take k3 (show l.length - 1 ≤ l.length by omega)); have HC := K3.out.2; have MV1 := fun L => MV k3 L; clear k3 CELL MV; refine CallK.ret ?_))
    | (refine wkA 30 (v := .slice _ (l.length - 1) _) ?_ ?_; · exact Y.slice_to rfl rfl (by omega) (by omega))
    | refine wkD (MV1 _) ?_
    | refine wkD (NY _ _) ?_
    | refine stS ?_ | (refine stB ?_; intro _) | (refine stC ?_; constructor <;> intro _)
    | ((with_reducible apply TA.takeN 0); (· rfl); (· decide +kernel); (· rfl); (· first | first | exact Y.geq_b b4 rfl rfl | exact Y.eql_pt be rfl rfl | exact Y.sub rfl rfl HSb.out | exact yW); (· decide +kernel); (· decide +kernel); (· rfl); (· exact fun _ _ _ h => h); (· rfl))
    | ((with_reducible apply TA.takeN 1); (· rfl); (· decide +kernel); (· rfl); (· first | first | exact Y.geq_b b4 rfl rfl | exact Y.eql_pt be rfl rfl | exact Y.sub rfl rfl HSb.out | exact yW); (· decide +kernel); (· decide +kernel); (· rfl); (· exact fun _ _ _ h => h); (· rfl))
    | ((with_reducible apply TA.takeN 2); (· rfl); (· decide +kernel); (· rfl); (· first | first | exact Y.geq_b b4 rfl rfl | exact Y.eql_pt be rfl rfl | exact Y.sub rfl rfl HSb.out | exact yW); (· decide +kernel); (· decide +kernel); (· rfl); (· exact fun _ _ _ h => h); (· rfl))
    | ((with_reducible apply TA.takeN 3); (· rfl); (· decide +kernel); (· rfl); (· first | first | exact Y.geq_b b4 rfl rfl | exact Y.eql_pt be rfl rfl | exact Y.sub rfl rfl HSb.out | exact yW); (· decide +kernel); (· decide +kernel); (· rfl); (· exact fun _ _ _ h => h); (· rfl))
    | ((with_reducible apply TA.take_gN 0); (· rfl); (· decide +kernel); (· rfl); (· rfl); (· rfl); (· (first | first | exact Y.geq_b b4 rfl rfl | exact Y.eql_pt be rfl rfl | exact Y.sub rfl rfl HSb.out | exact yW)); (· decide +kernel); (· decide +kernel); (· rfl); (· exact fun _ _ _ h => h); (· rfl))
    | ((with_reducible apply TA.take_gN 1); (· rfl); (· decide +kernel); (· rfl); (· rfl); (· rfl); (· (first | first | exact Y.geq_b b4 rfl rfl | exact Y.eql_pt be rfl rfl | exact Y.sub rfl rfl HSb.out | exact yW)); (· decide +kernel); (· decide +kernel); (· rfl); (· exact fun _ _ _ h => h); (· rfl))
    | ((with_reducible apply TA.take_gN 2); (· rfl); (· decide +kernel); (· rfl); (· rfl); (· rfl); (· (first | first | exact Y.geq_b b4 rfl rfl | exact Y.eql_pt be rfl rfl | exact Y.sub rfl rfl HSb.out | exact yW)); (· decide +kernel); (· decide +kernel); (· rfl); (· exact fun _ _ _ h => h); (· rfl))
    | ((with_reducible apply TA.take_gN 3); (· rfl); (· decide +kernel); (· rfl); (· rfl); (· rfl); (· (first | first | exact Y.geq_b b4 rfl rfl | exact Y.eql_pt be rfl rfl | exact Y.sub rfl rfl HSb.out | exact yW)); (· decide +kernel); (· decide +kernel); (· rfl); (· exact fun _ _ _ h => h); (· rfl))
    | refine wkX0 ?_
    | refine wkX1 ?_
    | refine wkX2 ?_
    | refine wkX3 ?_
    | refine wkO0 ?_
    | refine wkO1 ?_
    | refine wkO2 ?_
    | refine wkO3 ?_
    | refine TQ.any leF selF ?_
    | refine TC.region_any 18 (_) (by kernel_rfl) rfl selF ?_ | refine TA.done (by decide +kernel) ?_ | refine TQ.any_panic ?_ | fail)
      refine TQ.endR1 (L' := L) Tryz.results288 rvA rfl ((by assumption)) ?_ selF
      refine ⟨_, rfl, rfl, ?_⟩
      have h1 := K3.out.1
      rw [flatP_take] at h1
      rw [show (l.take (l.length - 1)).length = l.length - 1 by rw [List.length_take]; omega, show (((l.length : Nat) : Int) - 1).toNat = l.length - 1 by omega]
      exact h1
end Go.Proofs.YtgollffmdpejiaaGreatDoor
namespace Go.Proofs.YtgollffmdpejiaaGreatDoor
open Go.RowKit Go.TL
set_option maxRecDepth 100000

abbrev pointB : List UInt8 := [80, 111, 105, 110, 116]
abbrev lineB : List UInt8 := [76, 105, 110, 101, 83, 116, 114, 105, 110, 103]
abbrev polyB : List UInt8 := [80, 111, 108, 121, 103, 111, 110]
abbrev kindsB : List (List UInt8) := [pointB, lineB, polyB]
theorem snames_gives (g : Gh) (L : List Ent) : Gives Tryz.prog 284 #[] g L (.agg #[str pointB, str lineB, str polyB]) := by
  refine .of (Does.of0 Tryz.func284 rfl Tryz.ntmps284 rfl ?_)
  repeat' (first
    | refine wkQ ?_
    | (refine wkA 1 (v := .agg #[str pointB, str lineB, str polyB]) ?_ ?_; · exact Y.build_three rfl rfl rfl rfl rfl rfl)
    | refine wkV ?_
    | refine stS ?_ | (refine stB ?_; intro _) | (refine stC ?_; constructor <;> intro _))
  try refine TQ.end_normal ?_
  refine TQ.endR1 (L' := L) Tryz.results284 rvA rfl (.refl _) ?_ selF
  exact ⟨rfl, rfl, rfl⟩
set_option maxHeartbeats 8000000 in
theorem indexS_gives (ns : List (List UInt8)) (nm : List UInt8) (v : Value) (g : Gh) (L : List Ent) (hS : Sl g v ns.length 1 (strs ns)) (_hl : ns.length ≤ 1000000) : Gives Tryz.prog 251 #[v, str nm] g L (.int .i64 (idxL nm ns 0)) := by
  refine .of (Does.of2 Tryz.func251 rfl Tryz.ntmps251 rfl ?_)
  obtain ⟨ao, cap, rfl⟩ := hS.slice
  obtain ⟨R, hR⟩ : ∃ R, R = idxL nm (ns.drop 0) 0 := ⟨_, rfl⟩
  rw [show idxL nm ns 0 = R from hR.symm]
  repeat' (first
    | refine wkQ ?_
    | refine wkV ?_
    | refine stS ?_ | (refine stB ?_; intro _) | (refine stC ?_; constructor <;> intro _))
  refine TC.loopK (fun i : Nat => i ≤ ns.length ∧ idxL nm (ns.drop i) i = R) (fun i => ns.length - i) (fun i _ => [(8, .int .i64 (i : Nat)), (7, .int .i64 (ns.length : Nat)), (0, .slice ao ns.length cap), (1, str nm)]) [] .nil (fun _ L => L) 0 ⟨Nat.zero_le _, hR.symm⟩ subA selF ?_
  clear hR
  rintro i ⟨hi, hR⟩
  try dsimp only at hi hR ⊢
  by_cases hlt : i < ns.length
  · obtain ⟨s, hs⟩ : ∃ s, ns[i]? = some s := ⟨_, List.getElem?_eq_getElem hlt⟩
    obtain ⟨b1, o1, rfl, hg⟩ := hS.elem hlt (by decide)
    have hld : g.cell b1 (o1 + i * 1) = some (str s) := hg 0 _ (by rw [Nat.mul_one]; show (ns.map str)[i]? = _; rw [List.getElem?_map, hs]; rfl)
    rw [idxL_at hs] at hR
    clear hS hg hs
    by_cases he : s = nm
    · have be : decide (nm = s) = true := decide_eq_true he.symm
      rw [if_pos he] at hR
      subst hR
      repeat' (first
    | refine wkQ ?_
    | (refine wkA 16 (v := .bool true) ?_ ?_; · exact Y.eql_is be rfl rfl)
    | refine wkV ?_
    | refine wkM ?_
    | refine stS ?_ | (refine stB ?_; intro _) | (refine stC ?_; constructor <;> intro _))
      refine TQ.endR1 (L' := L) Tryz.results251 rvA rfl (.refl _) ?_ selF
      exact ⟨rfl, rfl, rfl⟩
    · have be : decide (nm = s) = false := decide_eq_false fun h => he h.symm
      rw [if_neg he] at hR
      have HR := Hn.mk hR
      clear hR
      repeat' (first
    | refine wkQ ?_
    | (refine wkA 16 (v := .bool false) ?_ ?_; · exact Y.eql_is be rfl rfl)
    | refine wkV ?_
    | refine wkM ?_
    | refine stS ?_ | (refine stB ?_; intro _) | (refine stC ?_; constructor <;> intro _))
      refine TQ.round (i + 1) ?_ ?_ rfl subA selF
      · exact ⟨by omega, HR.out⟩
      · show ns.length - (i + 1) < ns.length - i
        omega
  · obtain rfl : i = ns.length := by omega
    rw [List.drop_length, idxL] at hR
    subst hR
    clear hS
    repeat' (first
    | refine wkQ ?_
    | refine wkV ?_
    | refine stS ?_ | (refine stB ?_; intro _) | (refine stC ?_; constructor <;> intro _))
    refine TQ.endR1 (L' := L) Tryz.results251 rvA rfl (.refl _) ?_ selF
    exact ⟨rfl, rfl, rfl⟩
end Go.Proofs.YtgollffmdpejiaaGreatDoor
