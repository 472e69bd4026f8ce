/-
  Questions, laid. One condition.
-/
import Derived.Test.YtgollffmdpejiaaGreatDoorQz3
import Derived.Test.YtgollffmdpejiaaGreatDoorQz41
import Derived.Test.YtgollffmdpejiaaGreatDoorQz24
import Derived.Test.YtgollffmdpejiaaGreatDoorQz38
namespace Go.Proofs.YtgollffmdpejiaaGreatDoor
open Go.RowKit Go.TL
set_option maxRecDepth 100000

theorem _root_.Go.TL.Y.build_in3 {P : Program} {n : Nat} {ds : List Deferred} {S : Slots} {g : Gh} {L : List Ent} {dst : Option Nat} {ty : TypeId} {pos : String} {aft : Array Edge} {gd : Option (Nat × Bool)} {t : TypeId} {x : Operand} {a b c z1 z2 z3 z4 z5 : Value} [h : Places P t [(0, 3), (3, 1), (4, 1)] [z1, z2, z3, z4, z5]] (hx : ev S x = some (.agg #[a, b, c])) : Go.TL.Yields P n ds S g L ⟨dst, .build t #[(0, x)], ty, pos, aft, gd⟩ (.agg #[a, b, c, z4, z5]) := .mk fun w0 w hfr _ => by
  obtain ⟨fs, h1, h2, h3⟩ := h.eq
  have h2' := h2 w
  have h3' := h3 w
  simp only [execOp, Instr.build, Sem.run_bind, h3', Result.andThen_ok, run_und h1, Value.cells]
  rw [h2']
  simp [hfr.ev hx, Instr.fill, Value.cells]
mutual
def IsQ (g : Gh) : Qn → Value → Prop
  | .all l, v => ∃ sl fl, v = .iface 83 sl ∧ Sl g sl l.length 1 fl ∧ IsQs g l fl
  | .one l, v => ∃ sl fl, v = .iface 118 sl ∧ Sl g sl l.length 1 fl ∧ IsQs g l fl
  | .not l, v => ∃ sl fl, v = .iface 120 (.agg #[.iface 83 sl]) ∧ Sl g sl l.length 1 fl ∧ IsQs g l fl
  | .test p n x, v => ∃ u f, v = .iface 97 (.agg #[str p, str n, u, f, .bool (orB n x)]) ∧ IsJ g x u ∧ AskW g f n x ∧ smJ x ∧ lookJ x 0 = 0 ∧ p.length ≤ 1000000
def IsQs (g : Gh) : List Qn → List Value → Prop
  | [], fl => fl = []
  | q :: r, fl => ∃ v f2, fl = v :: f2 ∧ IsQ g q v ∧ IsQs g r f2
end
mutual
theorem IsQ.le {g g' : Gh} (hg : g.le g') : ∀ {q : Qn} {v : Value}, IsQ g q v → IsQ g' q v
  | .all l, v, h => by rw [IsQ] at h ⊢; obtain ⟨sl, fl, h1, h2, h3⟩ := h; exact ⟨sl, fl, h1, h2.le hg, IsQs.le hg h3⟩
  | .one l, v, h => by rw [IsQ] at h ⊢; obtain ⟨sl, fl, h1, h2, h3⟩ := h; exact ⟨sl, fl, h1, h2.le hg, IsQs.le hg h3⟩
  | .not l, v, h => by rw [IsQ] at h ⊢; obtain ⟨sl, fl, h1, h2, h3⟩ := h; exact ⟨sl, fl, h1, h2.le hg, IsQs.le hg h3⟩
  | .test p n x, v, h => by rw [IsQ] at h ⊢; obtain ⟨u, f, h1, h2, h3, h4⟩ := h; exact ⟨u, f, h1, h2.le hg, h3.le hg, h4⟩
theorem IsQs.le {g g' : Gh} (hg : g.le g') : ∀ {l : List Qn} {fl : List Value}, IsQs g l fl → IsQs g' l fl
  | [], fl, h => by rw [IsQs] at h ⊢; exact h
  | q :: r, fl, h => by rw [IsQs] at h ⊢; obtain ⟨v, f2, h1, h2, h3⟩ := h; exact ⟨v, f2, h1, h2.le hg, IsQs.le hg h3⟩
end
theorem IsQ.one {g : Gh} {q : Qn} {v : Value} (h : IsQ g q v) : v.one = true := by
  cases q <;> rw [IsQ] at h <;> obtain ⟨_, _, rfl, _⟩ := h <;> rfl
theorem condB_no {n : List UInt8} (h : n ∉ namesQ) (x : J) : condB n x = false := by
  simp only [namesQ, List.mem_cons, List.not_mem_nil, or_false, not_or] at h
  obtain ⟨h1, h2, h3, h4, h5, h6, h7, h8, h9, h10, h11, h12, h13, h14, h15⟩ := h
  unfold condB
  rw [if_neg (by simp only [not_or]; exact ⟨h1, h2, h3, h4, h5, h6⟩), if_neg (by simp only [not_or]; exact ⟨h7, h8⟩), if_neg h9, if_neg h10, if_neg h11, if_neg h12, if_neg (by simp only [not_or]; exact ⟨h13, h14⟩), if_neg h15]
def CondR (p n : List UInt8) (x : J) (L : List Ent) : Ending → Gh → List Ent → Prop := fun e g' L' => L' = L ∧ (match condB n x with
  | true => ∃ v, e = .returned v ∧ IsQ g' (.test p n x) v
  | false => e = .panicked [stopQ])
set_option maxHeartbeats 32000000 in
theorem condition_does (p n : List UInt8) (x : J) (v : Value) (g : Gh) (L : List Ent) (hX : IsJ g x v) (sX : smJ x) (h0 : lookJ x 0 = 0) (hp : p.length ≤ 1000000) (hT : GTabs g) (hU : GU8 g) (hP : GSp g) : Does Tryz.prog 95 #[str p, .agg #[str n, v]] g L (CondR p n x L) := by
  refine Does.of2 Tryz.func95 rfl Tryz.ntmps95 rfl ?_
  have NY := fun g L => qneed_yes g L
  have NO := fun g L => qneed_no g L
  have TS := fun L => tests_does g L hT hU hP
  have CP := fun g1 (h : g.le g1) L => jCopy_does x v g1 L (hX.le h) sX h0 (hT.le h) (hU.le h)
  unfold CopyR at CP
  have ov := hX.one
  unfold CondR
  cases hb : condB n x with
  | false =>
    clear hX hT hU hP
    repeat' (first
    | refine wkQ ?_
    | refine wkV ?_
    | (refine TL.call (Enters.plain (by kernel_rfl) (by rfl)) (by rfl) (TS _) ?_; (rintro e g1 Ln hg1 ⟨bm, es, k1, k2, hM⟩; have k2 := k2.symm; subst k1; subst k2; refine CallK.ret ?_; rcases hM n with ⟨j, mk, hfd, hmk, hin⟩ | ⟨hfd, hno⟩; (all_goals first | (obtain ⟨F, caps, rfl, hc, hm⟩ := hmk.ex) | skip)))
    | ((with_reducible apply TL.pure); (· first | exact Y.build_in3 rfl | exact Y.lookupS_ok rfl rfl pkA hfd | exact Y.lookupS_no rfl rfl pkA hfd); (· rfl))
    | ((with_reducible apply TA.takeN 0); (· rfl); (· decide +kernel); (· rfl); (· first | first | exact Y.build_in3 rfl | exact Y.lookupS_ok rfl rfl pkA hfd | exact Y.lookupS_no rfl rfl pkA hfd | exact yW); (· decide +kernel); (· decide +kernel); (· rfl); (· exact fun _ _ _ h => h); (· rfl))
    | ((with_reducible apply TA.takeN 1); (· rfl); (· decide +kernel); (· rfl); (· first | first | exact Y.build_in3 rfl | exact Y.lookupS_ok rfl rfl pkA hfd | exact Y.lookupS_no rfl rfl pkA hfd | exact yW); (· decide +kernel); (· decide +kernel); (· rfl); (· exact fun _ _ _ h => h); (· rfl))
    | ((with_reducible apply TA.takeN 2); (· rfl); (· decide +kernel); (· rfl); (· first | first | exact Y.build_in3 rfl | exact Y.lookupS_ok rfl rfl pkA hfd | exact Y.lookupS_no rfl rfl pkA hfd | exact yW); (· decide +kernel); (· decide +kernel); (· rfl); (· exact fun _ _ _ h => h); (· rfl))
    | ((with_reducible apply TA.takeN 3); (· rfl); (· decide +kernel); (· rfl); (· first | first | exact Y.build_in3 rfl | exact Y.lookupS_ok rfl rfl pkA hfd | exact Y.lookupS_no rfl rfl pkA hfd | exact yW); (· decide +kernel); (· decide +kernel); (· rfl); (· exact fun _ _ _ h => h); (· rfl))
    | ((with_reducible apply TA.take_gN 0); (· rfl); (· decide +kernel); (· rfl); (· rfl); (· rfl); (· (first | first | exact Y.build_in3 rfl | exact Y.lookupS_ok rfl rfl pkA hfd | exact Y.lookupS_no rfl rfl pkA hfd | exact yW)); (· decide +kernel); (· decide +kernel); (· rfl); (· exact fun _ _ _ h => h); (· rfl))
    | ((with_reducible apply TA.take_gN 1); (· rfl); (· decide +kernel); (· rfl); (· rfl); (· rfl); (· (first | first | exact Y.build_in3 rfl | exact Y.lookupS_ok rfl rfl pkA hfd | exact Y.lookupS_no rfl rfl pkA hfd | exact yW)); (· decide +kernel); (· decide +kernel); (· rfl); (· exact fun _ _ _ h => h); (· rfl))
    | ((with_reducible apply TA.take_gN 2); (· rfl); (· decide +kernel); (· rfl); (· rfl); (· rfl); (· (first | first | exact Y.build_in3 rfl | exact Y.lookupS_ok rfl rfl pkA hfd | exact Y.lookupS_no rfl rfl pkA hfd | exact yW)); (· decide +kernel); (· decide +kernel); (· rfl); (· exact fun _ _ _ h => h); (· rfl))
    | ((with_reducible apply TA.take_gN 3); (· rfl); (· decide +kernel); (· rfl); (· rfl); (· rfl); (· (first | first | exact Y.build_in3 rfl | exact Y.lookupS_ok rfl rfl pkA hfd | exact Y.lookupS_no rfl rfl pkA hfd | exact yW)); (· decide +kernel); (· decide +kernel); (· rfl); (· exact fun _ _ _ h => h); (· rfl))
    | refine wkX0 ?_
    | refine wkX1 ?_
    | refine wkX2 ?_
    | refine wkX3 ?_
    | refine wkO0 ?_
    | refine wkO1 ?_
    | refine wkO2 ?_
    | refine wkO3 ?_
    | refine TQ.any leF selF ?_
    | refine TC.region_any 9 (_) (by kernel_rfl) rfl selF ?_ | refine TA.done (by decide +kernel) ?_ | refine TQ.any_panic ?_
    | refine wkD (NY _ _) ?_
    | refine TL.throws (Enters.plain (by kernel_rfl) (by rfl)) (NO _ _) (by rfl) ?_
    | (refine TL.call (Enters.plain (by kernel_rfl) (by rfl)) (by rfl) (CP _ hg1 _) ?_; (rintro e gc Ln hgc ⟨vj, Mj, k1, k2, k3, htj⟩; have k2 := k2.symm; subst k1; subst k2; subst k3; have hoc := TrJ.one htj; refine CallK.ret ?_; refine Go.TL.TL.freeze_tree (M := Mj) pkA htj ?_; intro gf hgf jf; skip))
    | (refine TL.call (Enters.func (by rfl) hc (by rfl)) (by rfl) (hm _ hgf x _ _ jf sX) ?_; (unfold MkR; rintro e g4 L4 hg4 ⟨k1, k2⟩; have k1 := k1.symm; subst k1; rw [hb] at k2; dsimp only at k2; subst k2; refine CallK.panic ?_))
    | ((with_reducible apply TA.takeN 0); (· rfl); (· decide +kernel); (· rfl); (· first | first | exact Y.build_in3 rfl | exact Y.lookupS_ok rfl rfl pkA hfd | exact Y.lookupS_no rfl rfl pkA hfd | exact yW); (· decide +kernel); (· decide +kernel); (· rfl); (· exact fun _ _ _ h => h); (· rfl))
    | ((with_reducible apply TA.takeN 1); (· rfl); (· decide +kernel); (· rfl); (· first | first | exact Y.build_in3 rfl | exact Y.lookupS_ok rfl rfl pkA hfd | exact Y.lookupS_no rfl rfl pkA hfd | exact yW); (· decide +kernel); (· decide +kernel); (· rfl); (· exact fun _ _ _ h => h); (· rfl))
    | ((with_reducible apply TA.takeN 2); (· rfl); (· decide +kernel); (· rfl); (· first | first | exact Y.build_in3 rfl | exact Y.lookupS_ok rfl rfl pkA hfd | exact Y.lookupS_no rfl rfl pkA hfd | exact yW); (· decide +kernel); (· decide +kernel); (· rfl); (· exact fun _ _ _ h => h); (· rfl))
    | ((with_reducible apply TA.takeN 3); (· rfl); (· decide +kernel); (· rfl); (· first | first | exact Y.build_in3 rfl | exact Y.lookupS_ok rfl rfl pkA hfd | exact Y.lookupS_no rfl rfl pkA hfd | exact yW); (· decide +kernel); (· decide +kernel); (· rfl); (· exact fun _ _ _ h => h); (· rfl))
    | ((with_reducible apply TA.take_gN 0); (· rfl); (· decide +kernel); (· rfl); (· rfl); (· rfl); (· (first | first | exact Y.build_in3 rfl | exact Y.lookupS_ok rfl rfl pkA hfd | exact Y.lookupS_no rfl rfl pkA hfd | exact yW)); (· decide +kernel); (· decide +kernel); (· rfl); (· exact fun _ _ _ h => h); (· rfl))
    | ((with_reducible apply TA.take_gN 1); (· rfl); (· decide +kernel); (· rfl); (· rfl); (· rfl); (· (first | first | exact Y.build_in3 rfl | exact Y.lookupS_ok rfl rfl pkA hfd | exact Y.lookupS_no rfl rfl pkA hfd | exact yW)); (· decide +kernel); (· decide +kernel); (· rfl); (· exact fun _ _ _ h => h); (· rfl))
    | ((with_reducible apply TA.take_gN 2); (· rfl); (· decide +kernel); (· rfl); (· rfl); (· rfl); (· (first | first | exact Y.build_in3 rfl | exact Y.lookupS_ok rfl rfl pkA hfd | exact Y.lookupS_no rfl rfl pkA hfd | exact yW)); (· decide +kernel); (· decide +kernel); (· rfl); (· exact fun _ _ _ h => h); (· rfl))
    | ((with_reducible apply TA.take_gN 3); (· rfl); (· decide +kernel); (· rfl); (· rfl); (· rfl); (· (first | first | exact Y.build_in3 rfl | exact Y.lookupS_ok rfl rfl pkA hfd | exact Y.lookupS_no rfl rfl pkA hfd | exact yW)); (· decide +kernel); (· decide +kernel); (· rfl); (· exact fun _ _ _ h => h); (· rfl))
    | refine wkX0 ?_
    | refine wkX1 ?_
    | refine wkX2 ?_
    | refine wkX3 ?_
    | refine wkO0 ?_
    | refine wkO1 ?_
    | refine wkO2 ?_
    | refine wkO3 ?_
    | refine TQ.any leF selF ?_
    | refine TC.region_any 10 (_) (by kernel_rfl) rfl selF ?_ | refine TA.done (by decide +kernel) ?_ | refine TQ.any_panic ?_
    | ((with_reducible apply TA.two 5 8); (· rfl); (· rfl); (· decide +kernel); (· rfl); (· rfl))
    | refine stS ?_ | (refine stB ?_; intro _) | (refine stC ?_; constructor <;> intro _)
    | refine wkW ?_)
    all_goals first
      | (refine TQ.end_panic (L' := L) rfl hg1 ?_ selF; exact ⟨rfl, rfl⟩)
      | (refine TQ.end_panic (L' := L) rfl (hg1.trans (hgf.trans hg4)) ?_ selF; exact ⟨rfl, rfl⟩)
  | true =>
    clear hX hT hU hP
    repeat' (first
    | refine wkQ ?_
    | refine wkV ?_
    | (refine TL.call (Enters.plain (by kernel_rfl) (by rfl)) (by rfl) (TS _) ?_; (rintro e g1 Ln hg1 ⟨bm, es, k1, k2, hM⟩; have k2 := k2.symm; subst k1; subst k2; refine CallK.ret ?_; rcases hM n with ⟨j, mk, hfd, hmk, hin⟩ | ⟨hfd, hno⟩; (all_goals first | (obtain ⟨F, caps, rfl, hc, hm⟩ := hmk.ex) | exact absurd (condB_no hno x) (by rw [hb]; exact fun h => by cases h))))
    | ((with_reducible apply TL.pure); (· first | exact Y.build_in3 rfl | exact Y.lookupS_ok rfl rfl pkA hfd | exact Y.lookupS_no rfl rfl pkA hfd); (· rfl))
    | ((with_reducible apply TA.takeN 0); (· rfl); (· decide +kernel); (· rfl); (· first | first | exact Y.build_in3 rfl | exact Y.lookupS_ok rfl rfl pkA hfd | exact Y.lookupS_no rfl rfl pkA hfd | exact yW); (· decide +kernel); (· decide +kernel); (· rfl); (· exact fun _ _ _ h => h); (· rfl))
    | ((with_reducible apply TA.takeN 1); (· rfl); (· decide +kernel); (· rfl); (· first | first | exact Y.build_in3 rfl | exact Y.lookupS_ok rfl rfl pkA hfd | exact Y.lookupS_no rfl rfl pkA hfd | exact yW); (· decide +kernel); (· decide +kernel); (· rfl); (· exact fun _ _ _ h => h); (· rfl))
    | ((with_reducible apply TA.takeN 2); (· rfl); (· decide +kernel); (· rfl); (· first | first | exact Y.build_in3 rfl | exact Y.lookupS_ok rfl rfl pkA hfd | exact Y.lookupS_no rfl rfl pkA hfd | exact yW); (· decide +kernel); (· decide +kernel); (· rfl); (· exact fun _ _ _ h => h); (· rfl))
    | ((with_reducible apply TA.takeN 3); (· rfl); (· decide +kernel); (· rfl); (· first | first | exact Y.build_in3 rfl | exact Y.lookupS_ok rfl rfl pkA hfd | exact Y.lookupS_no rfl rfl pkA hfd | exact yW); (· decide +kernel); (· decide +kernel); (· rfl); (· exact fun _ _ _ h => h); (· rfl))
    | ((with_reducible apply TA.take_gN 0); (· rfl); (· decide +kernel); (· rfl); (· rfl); (· rfl); (· (first | first | exact Y.build_in3 rfl | exact Y.lookupS_ok rfl rfl pkA hfd | exact Y.lookupS_no rfl rfl pkA hfd | exact yW)); (· decide +kernel); (· decide +kernel); (· rfl); (· exact fun _ _ _ h => h); (· rfl))
    | ((with_reducible apply TA.take_gN 1); (· rfl); (· decide +kernel); (· rfl); (· rfl); (· rfl); (· (first | first | exact Y.build_in3 rfl | exact Y.lookupS_ok rfl rfl pkA hfd | exact Y.lookupS_no rfl rfl pkA hfd | exact yW)); (· decide +kernel); (· decide +kernel); (· rfl); (· exact fun _ _ _ h => h); (· rfl))
    | ((with_reducible apply TA.take_gN 2); (· rfl); (· decide +kernel); (· rfl); (· rfl); (· rfl); (· (first | first | exact Y.build_in3 rfl | exact Y.lookupS_ok rfl rfl pkA hfd | exact Y.lookupS_no rfl rfl pkA hfd | exact yW)); (· decide +kernel); (· decide +kernel); (· rfl); (· exact fun _ _ _ h => h); (· rfl))
    | ((with_reducible apply TA.take_gN 3); (· rfl); (· decide +kernel); (· rfl); (· rfl); (· rfl); (· (first | first | exact Y.build_in3 rfl | exact Y.lookupS_ok rfl rfl pkA hfd | exact Y.lookupS_no rfl rfl pkA hfd | exact yW)); (· decide +kernel); (· decide +kernel); (· rfl); (· exact fun _ _ _ h => h); (· rfl))
    | refine wkX0 ?_
    | refine wkX1 ?_
    | refine wkX2 ?_
    | refine wkX3 ?_
    | refine wkO0 ?_
    | refine wkO1 ?_
    | refine wkO2 ?_
    | refine wkO3 ?_
    | refine TQ.any leF selF ?_
    | refine TC.region_any 9 (_) (by kernel_rfl) rfl selF ?_ | refine TA.done (by decide +kernel) ?_ | refine TQ.any_panic ?_
    | refine wkD (NY _ _) ?_
    | refine TL.throws (Enters.plain (by kernel_rfl) (by rfl)) (NO _ _) (by rfl) ?_
    | (refine TL.call (Enters.plain (by kernel_rfl) (by rfl)) (by rfl) (CP _ hg1 _) ?_; (rintro e gc Ln hgc ⟨vj, Mj, k1, k2, k3, htj⟩; have k2 := k2.symm; subst k1; subst k2; subst k3; have hoc := TrJ.one htj; refine CallK.ret ?_; refine Go.TL.TL.freeze_tree (M := Mj) pkA htj ?_; intro gf hgf jf; skip))
    | (refine TL.call (Enters.func (by rfl) hc (by rfl)) (by rfl) (hm _ hgf x _ _ jf sX) ?_; (unfold MkR; rintro e g4 L4 hg4 ⟨k1, k2⟩; have k1 := k1.symm; subst k1; rw [hb] at k2; dsimp only at k2; obtain ⟨f, rfl, ha⟩ := k2; have of := ha.one; refine CallK.ret ?_))
    | ((with_reducible apply TA.takeN 0); (· rfl); (· decide +kernel); (· rfl); (· first | first | exact Y.build_in3 rfl | exact Y.lookupS_ok rfl rfl pkA hfd | exact Y.lookupS_no rfl rfl pkA hfd | exact yW); (· decide +kernel); (· decide +kernel); (· rfl); (· exact fun _ _ _ h => h); (· rfl))
    | ((with_reducible apply TA.takeN 1); (· rfl); (· decide +kernel); (· rfl); (· first | first | exact Y.build_in3 rfl | exact Y.lookupS_ok rfl rfl pkA hfd | exact Y.lookupS_no rfl rfl pkA hfd | exact yW); (· decide +kernel); (· decide +kernel); (· rfl); (· exact fun _ _ _ h => h); (· rfl))
    | ((with_reducible apply TA.takeN 2); (· rfl); (· decide +kernel); (· rfl); (· first | first | exact Y.build_in3 rfl | exact Y.lookupS_ok rfl rfl pkA hfd | exact Y.lookupS_no rfl rfl pkA hfd | exact yW); (· decide +kernel); (· decide +kernel); (· rfl); (· exact fun _ _ _ h => h); (· rfl))
    | ((with_reducible apply TA.takeN 3); (· rfl); (· decide +kernel); (· rfl); (· first | first | exact Y.build_in3 rfl | exact Y.lookupS_ok rfl rfl pkA hfd | exact Y.lookupS_no rfl rfl pkA hfd | exact yW); (· decide +kernel); (· decide +kernel); (· rfl); (· exact fun _ _ _ h => h); (· rfl))
    | ((with_reducible apply TA.take_gN 0); (· rfl); (· decide +kernel); (· rfl); (· rfl); (· rfl); (· (first | first | exact Y.build_in3 rfl | exact Y.lookupS_ok rfl rfl pkA hfd | exact Y.lookupS_no rfl rfl pkA hfd | exact yW)); (· decide +kernel); (· decide +kernel); (· rfl); (· exact fun _ _ _ h => h); (· rfl))
    | ((with_reducible apply TA.take_gN 1); (· rfl); (· decide +kernel); (· rfl); (· rfl); (· rfl); (· (first | first | exact Y.build_in3 rfl | exact Y.lookupS_ok rfl rfl pkA hfd | exact Y.lookupS_no rfl rfl pkA hfd | exact yW)); (· decide +kernel); (· decide +kernel); (· rfl); (· exact fun _ _ _ h => h); (· rfl))
    | ((with_reducible apply TA.take_gN 2); (· rfl); (· decide +kernel); (· rfl); (· rfl); (· rfl); (· (first | first | exact Y.build_in3 rfl | exact Y.lookupS_ok rfl rfl pkA hfd | exact Y.lookupS_no rfl rfl pkA hfd | exact yW)); (· decide +kernel); (· decide +kernel); (· rfl); (· exact fun _ _ _ h => h); (· rfl))
    | ((with_reducible apply TA.take_gN 3); (· rfl); (· decide +kernel); (· rfl); (· rfl); (· rfl); (· (first | first | exact Y.build_in3 rfl | exact Y.lookupS_ok rfl rfl pkA hfd | exact Y.lookupS_no rfl rfl pkA hfd | exact yW)); (· decide +kernel); (· decide +kernel); (· rfl); (· exact fun _ _ _ h => h); (· rfl))
    | refine wkX0 ?_
    | refine wkX1 ?_
    | refine wkX2 ?_
    | refine wkX3 ?_
    | refine wkO0 ?_
    | refine wkO1 ?_
    | refine wkO2 ?_
    | refine wkO3 ?_
    | refine TQ.any leF selF ?_
    | refine TC.region_any 10 (_) (by kernel_rfl) rfl selF ?_ | refine TA.done (by decide +kernel) ?_ | refine TQ.any_panic ?_
    | ((with_reducible apply TL.storeE); (· rfl); (· rfl); (· exact of); (· exact pkA); (· infer_instance))
    | ((with_reducible apply TA.two 5 8); (· rfl); (· rfl); (· decide +kernel); (· rfl); (· rfl))
    | refine stS ?_ | (refine stB ?_; intro _) | (refine stC ?_; constructor <;> intro _)
    | refine wkW ?_)
    all_goals
      refine TQ.endR1 (L' := L) Tryz.results95 rvA rfl (hg1.trans (hgf.trans hg4)) ?_ selF
      exact ⟨rfl, _, rfl, by rw [IsQ]; exact ⟨vj, f, rfl, jf.le hg4, ha, sX, h0, hp⟩⟩
end Go.Proofs.YtgollffmdpejiaaGreatDoor
