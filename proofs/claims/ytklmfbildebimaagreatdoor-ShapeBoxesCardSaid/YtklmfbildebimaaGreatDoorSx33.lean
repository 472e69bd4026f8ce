/-
  The walk of shape's any: a loop in a loop, over iterators.
-/
import Derived.Test.YtklmfbildebimaaGreatDoorSx2
import Derived.Test.YtklmfbildebimaaGreatDoorSx32
namespace Go.Proofs.YtklmfbildebimaaGreatDoor
open Go.RowKit Go.TL
set_option maxRecDepth 100000

def anyE (P : Pt → Pt → Pt → Pt → Bool) (es fs : List (Pt × Pt)) : Bool := es.any fun x => fs.any fun y => P x.1 x.2 y.1 y.2
set_option maxHeartbeats 16000000 in
theorem sany_gives (F : FuncId) (P : Pt → Pt → Pt → Pt → Bool) (k m : Int) (ps ts : List (List Pt)) (v u : Value) (g : Gh) (L : List Ent) (hc : callable Tryz.prog F = true) (hA : ∀ a b c d g L, Gives Tryz.prog F #[pt a, pt b, pt c, pt d] g L (.bool (P a b c d))) (hS : IsParts g v ps) (hO : ShOk ps) (hT : IsParts g u ts) (hU : ShOk ts) :
    Gives Tryz.prog 39 #[shV k v, shV m u, .func (.func F) #[] #[]] g L (.bool (anyE P (allE k ps) (allE m ts))) := by
  have AL := fun L => sall_does k ps v g L hS hO.len hO.part
  obtain ⟨av, cv, rfl⟩ : ∃ a c, v = .slice a ps.length c := by obtain ⟨_, h, _⟩ := hS; exact h.slice
  have AM := fun g1 (h : g.le g1) L => sall_does m ts u g1 L (hT.le h) hU.len hU.part
  obtain ⟨au, cu, rfl⟩ : ∃ a c, u = .slice a ts.length c := by obtain ⟨_, h, _⟩ := hT; exact h.slice
  refine .of (Does.ofM3 Tryz.func39 rfl Tryz.ntmps39 rfl ?_)
  clear hS hO hT hU
  repeat' (first
    | refine wkQ ?_
    | refine wkV ?_
    | (refine TL.call (Enters.plain (by kernel_rfl) (by rfl)) (by rfl) (AL _) ?_; (rintro e g1 Ln hg1 ⟨lb, k1, k2, it⟩; have k2 := k2.symm; subst k1; subst k2; refine CallK.ret ?_))
    | refine stS ?_ | (refine stB ?_; intro _) | (refine stC ?_; refine And.intro (fun _ => ?_) (fun _ => ?_)))
  rename_i b3 b4 b5 b6
  unfold allI at it AM
  generalize allE k ps = es at *
  generalize allE m ts = fs at *
  obtain ⟨R, hR⟩ : ∃ R, R = anyE P es fs := ⟨_, rfl⟩
  rw [← hR]
  clear AL
  refine TC.rangeF (ps := #[11]) (xs := es.map fun e => #[edV e]) rfl (by kernel_rfl) it (by intro x hx; obtain ⟨e, _, rfl⟩ := List.mem_map.1 hx; rfl) (by rfl)
    (fun i (_ : Nat) => anyE P (es.drop i) fs = R) (fun _ => g1) (fun _ => [.obj b6 (.cells [.bool false].toArray 4 (0, 0)), .obj b5 (.cells [.func (.func F) #[] #[]].toArray _ (0, 0)), .obj b4 (.cells [.int .i64 m, .slice au ts.length cu].toArray 30 (0, 0))])
    (fun c (_ : Nat) => c = .ret ∧ R = true) (fun _ => g1) (fun _ => [.obj b6 (.cells [.bool true].toArray 4 (0, 0))])
    (.obj b3 (.cells [.int .i64 k, .slice av ps.length cv].toArray 30 (0, 0)) :: L) 0 hR.symm (.refl _) selF ?_ ?_ ?_
  · rintro r rc i x _ M gx hrc hx hI hgx _
    obtain ⟨⟨a, b⟩, he, rfl⟩ := item_of hx
    rw [drop_of_get he] at hI
    replace hI : (fs.any (fun y => P a b y.1 y.2) || anyE P (es.drop (i + 1)) fs) = R := hI
    dsimp only [List.cons_append, List.nil_append]
    refine TR.weak (S' := [(11, edV (a, b)), (6, .pointer (some ⟨b6, 0, none⟩)), (5, .pointer (some ⟨b5, 0, none⟩)), (4, .pointer (some ⟨b4, 0, none⟩))]) ?_ subA .refl
    have AX := fun L => AM gx (hg1.trans hgx) L
    clear it hx he hR AM
    repeat' (first
    | refine wkQ ?_
    | refine wkV ?_
    | (refine TL.call (Enters.plain (by kernel_rfl) (by rfl)) (by rfl) (AX _) ?_; (rintro e g2 Ln hg2 ⟨lb2, k1, k2, it2⟩; have k2 := k2.symm; subst k1; subst k2; refine CallK.ret ?_))
    | refine wkP ?_
    | refine TR.seq ?_ | refine TR.region (by rfl) ?_ | refine TL.nil ?_ | refine TQ.then_R ?_ | refine TQ.begin (by assumption) pkA ?_
    | ((with_reducible apply TL.storeE); (· rfl); (· rfl); (· rfl); (· exact pkA); (· infer_instance)) | ((with_reducible apply TL.store_whole); (· rfl); (· rfl); (· exact oneA); (· rfl); (· exact pkA); (· rfl))
    | refine TR.block ?_ | refine TR.ret ?_ | refine TR.skip ?_ | refine TR.exit ?_ | refine TR.cond rfl ?_
    | refine TQ.down ?_ | refine TQ.in_exit' rfl ?_
    | refine TL.guard_yes rfl rfl ?_ | refine TL.guard_no rfl rfl rfl rfl ?_ | refine TL.guard_no0 rfl rfl rfl ?_ | refine TL.guard_undef rfl rfl rfl ?_ | refine TL.guard_undef0 rfl rfl ?_ | refine TL.guard rfl rfl rfl ?_
    | refine Br.t rfl ?_ | refine Br.f rfl ?_ | refine Br.ky kpA ?_ | refine Br.kn kpA ?_ | refine Br.nky kpA ?_ | refine Br.nkn kpA ?_
    | refine Br.eq0 (fun _ => ?_) (fun _ => ?_) | refine Br.neq0 (fun _ => ?_) (fun _ => ?_) | refine Br.eq (fun _ => ?_) (fun _ => ?_) | refine Br.neq (fun _ => ?_) (fun _ => ?_) | refine Br.not (fun _ => ?_) (fun _ => ?_) | refine Br.dec (fun _ => ?_) (fun _ => ?_) | refine Br.bool (fun _ => ?_) (fun _ => ?_)
    | ((with_reducible apply TL.alloc_ag); (· rfl); intro _) | ((with_reducible apply TL.alloc_sc); (· rfl); (· rfl); intro _) | ((with_reducible apply TL.box_ag); (· rfl); (· rfl); intro _) | ((with_reducible apply TL.box_sc); (· rfl); (· rfl); (· rfl); intro _))
    rename_i b7
    obtain ⟨R2, hR2⟩ : ∃ R2, R2 = fs.any (fun y => P a b y.1 y.2) := ⟨_, rfl⟩
    rw [← hR2] at hI
    refine TR.rangeF (ps := #[14]) (xs := fs.map fun e => #[edV e]) pkA rfl (by kernel_rfl) it2 (by intro x hx; obtain ⟨e, _, rfl⟩ := List.mem_map.1 hx; rfl) (by rfl)
      (fun i (_ : Nat) => (fs.drop i).any (fun y => P a b y.1 y.2) = R2) (fun _ => g2) (fun _ => [.obj b7 (.cells (edC (a, b)).toArray 90 (0, 0)), .obj b6 (.cells [.bool false].toArray 4 (0, 0)), .obj b5 (.cells [.func (.func F) #[] #[]].toArray _ (0, 0))])
      (fun c (_ : Nat) => c = .ret ∧ R2 = true) (fun _ => g2) (fun _ => [.obj b6 (.cells [.bool true].toArray 4 (0, 0))])
      (.obj r (.loop (rc .busy none)) :: .obj b4 (.cells [.int .i64 m, .slice au ts.length cu].toArray 30 (0, 0)) :: M) 0 hR2.symm (.refl _) selF ?_ ?_ ?_
    · rintro r2 rc2 i2 x _ M2 gy hrc2 hx hJ hgy _
      obtain ⟨⟨c, d⟩, he, rfl⟩ := item_of hx
      rw [drop_of_get he, List.any_cons] at hJ
      dsimp only [List.cons_append, List.nil_append]
      refine TR.weak (S' := [(14, edV (c, d)), (7, .pointer (some ⟨b7, 0, none⟩)), (6, .pointer (some ⟨b6, 0, none⟩)), (5, .pointer (some ⟨b5, 0, none⟩))]) ?_ subA .refl
      have PA := fun L => hA a b c d gy L
      clear it2 hx he hR2 hI hA
      cases hp : P a b c d with
      | true =>
        rw [hp] at PA hJ
        repeat' (first
    | refine wkQ ?_
    | refine wkV ?_
          | refine TL.gives (Enters.func (by rfl) hc (by rfl)) (PA _) (by rfl) ?_
    | refine wkP ?_
    | refine TR.seq ?_ | refine TR.region (by rfl) ?_ | refine TL.nil ?_ | refine TQ.then_R ?_ | refine TQ.begin (by assumption) pkA ?_
    | ((with_reducible apply TL.storeE); (· rfl); (· rfl); (· rfl); (· exact pkA); (· infer_instance)) | ((with_reducible apply TL.store_whole); (· rfl); (· rfl); (· exact oneA); (· rfl); (· exact pkA); (· rfl))
    | refine TR.block ?_ | refine TR.ret ?_ | refine TR.skip ?_ | refine TR.exit ?_ | refine TR.cond rfl ?_
    | refine TQ.down ?_ | refine TQ.in_exit' rfl ?_
    | refine TL.guard_yes rfl rfl ?_ | refine TL.guard_no rfl rfl rfl rfl ?_ | refine TL.guard_no0 rfl rfl rfl ?_ | refine TL.guard_undef rfl rfl rfl ?_ | refine TL.guard_undef0 rfl rfl ?_ | refine TL.guard rfl rfl rfl ?_
    | refine Br.t rfl ?_ | refine Br.f rfl ?_ | refine Br.ky kpA ?_ | refine Br.kn kpA ?_ | refine Br.nky kpA ?_ | refine Br.nkn kpA ?_
    | refine Br.eq0 (fun _ => ?_) (fun _ => ?_) | refine Br.neq0 (fun _ => ?_) (fun _ => ?_) | refine Br.eq (fun _ => ?_) (fun _ => ?_) | refine Br.neq (fun _ => ?_) (fun _ => ?_) | refine Br.not (fun _ => ?_) (fun _ => ?_) | refine Br.dec (fun _ => ?_) (fun _ => ?_) | refine Br.bool (fun _ => ?_) (fun _ => ?_)
    | ((with_reducible apply TL.alloc_ag); (· rfl); intro _) | ((with_reducible apply TL.alloc_sc); (· rfl); (· rfl); intro _) | ((with_reducible apply TL.box_ag); (· rfl); (· rfl); intro _) | ((with_reducible apply TL.box_sc); (· rfl); (· rfl); (· rfl); intro _)
    | ((with_reducible apply TL.pure); (· exact Y.load_part rfl pkA (Nat.le_of_ble_eq_true rfl)); (· rfl)))
        refine TQ.leaves_ret (0 : Nat) ⟨rfl, hJ.symm⟩ hgy (.refl _) hrc2 pkA ?_
        exact selF
      | false =>
        rw [hp] at PA hJ
        repeat' (first
    | refine wkQ ?_
    | refine wkV ?_
          | refine TL.gives (Enters.func (by rfl) hc (by rfl)) (PA _) (by rfl) ?_
    | refine wkP ?_
    | refine TR.seq ?_ | refine TR.region (by rfl) ?_ | refine TL.nil ?_ | refine TQ.then_R ?_ | refine TQ.begin (by assumption) pkA ?_
    | ((with_reducible apply TL.storeE); (· rfl); (· rfl); (· rfl); (· exact pkA); (· infer_instance)) | ((with_reducible apply TL.store_whole); (· rfl); (· rfl); (· exact oneA); (· rfl); (· exact pkA); (· rfl))
    | refine TR.block ?_ | refine TR.ret ?_ | refine TR.skip ?_ | refine TR.exit ?_ | refine TR.cond rfl ?_
    | refine TQ.down ?_ | refine TQ.in_exit' rfl ?_
    | refine TL.guard_yes rfl rfl ?_ | refine TL.guard_no rfl rfl rfl rfl ?_ | refine TL.guard_no0 rfl rfl rfl ?_ | refine TL.guard_undef rfl rfl rfl ?_ | refine TL.guard_undef0 rfl rfl ?_ | refine TL.guard rfl rfl rfl ?_
    | refine Br.t rfl ?_ | refine Br.f rfl ?_ | refine Br.ky kpA ?_ | refine Br.kn kpA ?_ | refine Br.nky kpA ?_ | refine Br.nkn kpA ?_
    | refine Br.eq0 (fun _ => ?_) (fun _ => ?_) | refine Br.neq0 (fun _ => ?_) (fun _ => ?_) | refine Br.eq (fun _ => ?_) (fun _ => ?_) | refine Br.neq (fun _ => ?_) (fun _ => ?_) | refine Br.not (fun _ => ?_) (fun _ => ?_) | refine Br.dec (fun _ => ?_) (fun _ => ?_) | refine Br.bool (fun _ => ?_) (fun _ => ?_)
    | ((with_reducible apply TL.alloc_ag); (· rfl); intro _) | ((with_reducible apply TL.alloc_sc); (· rfl); (· rfl); intro _) | ((with_reducible apply TL.box_ag); (· rfl); (· rfl); intro _) | ((with_reducible apply TL.box_sc); (· rfl); (· rfl); (· rfl); intro _)
    | ((with_reducible apply TL.pure); (· exact Y.load_part rfl pkA (Nat.le_of_ble_eq_true rfl)); (· rfl)))
        refine TQ.goes (0 : Nat) hJ hgy (.refl _) hrc2 pkA ?_
        exact selF
    · rintro _ gy hJ hgy _
      rw [List.length_map, List.drop_length, List.any_nil] at hJ
      subst hJ
      dsimp only [List.cons_append, List.nil_append]
      rw [Bool.false_or] at hI
      clear it2
      repeat' (first
    | refine wkQ ?_
    | refine wkV ?_
    | refine wkP ?_
    | refine TR.seq ?_ | refine TR.region (by rfl) ?_ | refine TL.nil ?_ | refine TQ.then_R ?_ | refine TQ.begin (by assumption) pkA ?_
    | ((with_reducible apply TL.storeE); (· rfl); (· rfl); (· rfl); (· exact pkA); (· infer_instance)) | ((with_reducible apply TL.store_whole); (· rfl); (· rfl); (· exact oneA); (· rfl); (· exact pkA); (· rfl))
    | refine TR.block ?_ | refine TR.ret ?_ | refine TR.skip ?_ | refine TR.exit ?_ | refine TR.cond rfl ?_
    | refine TQ.down ?_ | refine TQ.in_exit' rfl ?_
    | refine TL.guard_yes rfl rfl ?_ | refine TL.guard_no rfl rfl rfl rfl ?_ | refine TL.guard_no0 rfl rfl rfl ?_ | refine TL.guard_undef rfl rfl rfl ?_ | refine TL.guard_undef0 rfl rfl ?_ | refine TL.guard rfl rfl rfl ?_
    | refine Br.t rfl ?_ | refine Br.f rfl ?_ | refine Br.ky kpA ?_ | refine Br.kn kpA ?_ | refine Br.nky kpA ?_ | refine Br.nkn kpA ?_
    | refine Br.eq0 (fun _ => ?_) (fun _ => ?_) | refine Br.neq0 (fun _ => ?_) (fun _ => ?_) | refine Br.eq (fun _ => ?_) (fun _ => ?_) | refine Br.neq (fun _ => ?_) (fun _ => ?_) | refine Br.not (fun _ => ?_) (fun _ => ?_) | refine Br.dec (fun _ => ?_) (fun _ => ?_) | refine Br.bool (fun _ => ?_) (fun _ => ?_)
    | ((with_reducible apply TL.alloc_ag); (· rfl); intro _) | ((with_reducible apply TL.alloc_sc); (· rfl); (· rfl); intro _) | ((with_reducible apply TL.box_ag); (· rfl); (· rfl); intro _) | ((with_reducible apply TL.box_sc); (· rfl); (· rfl); (· rfl); intro _))
      refine TQ.goes (0 : Nat) hI (hgx.trans (hg2.trans hgy)) (hg2.trans hgy) hrc pkA ?_
      exact selF
    · rintro c _ gy ⟨rfl, h2⟩ hgy _
      rw [h2, Bool.true_or] at hI
      dsimp only [List.cons_append, List.nil_append]
      clear it2
      repeat' (first
    | refine wkQ ?_
    | refine wkV ?_
    | refine wkP ?_
    | refine TR.seq ?_ | refine TR.region (by rfl) ?_ | refine TL.nil ?_ | refine TQ.then_R ?_ | refine TQ.begin (by assumption) pkA ?_
    | ((with_reducible apply TL.storeE); (· rfl); (· rfl); (· rfl); (· exact pkA); (· infer_instance)) | ((with_reducible apply TL.store_whole); (· rfl); (· rfl); (· exact oneA); (· rfl); (· exact pkA); (· rfl))
    | refine TR.block ?_ | refine TR.ret ?_ | refine TR.skip ?_ | refine TR.exit ?_ | refine TR.cond rfl ?_
    | refine TQ.down ?_ | refine TQ.in_exit' rfl ?_
    | refine TL.guard_yes rfl rfl ?_ | refine TL.guard_no rfl rfl rfl rfl ?_ | refine TL.guard_no0 rfl rfl rfl ?_ | refine TL.guard_undef rfl rfl rfl ?_ | refine TL.guard_undef0 rfl rfl ?_ | refine TL.guard rfl rfl rfl ?_
    | refine Br.t rfl ?_ | refine Br.f rfl ?_ | refine Br.ky kpA ?_ | refine Br.kn kpA ?_ | refine Br.nky kpA ?_ | refine Br.nkn kpA ?_
    | refine Br.eq0 (fun _ => ?_) (fun _ => ?_) | refine Br.neq0 (fun _ => ?_) (fun _ => ?_) | refine Br.eq (fun _ => ?_) (fun _ => ?_) | refine Br.neq (fun _ => ?_) (fun _ => ?_) | refine Br.not (fun _ => ?_) (fun _ => ?_) | refine Br.dec (fun _ => ?_) (fun _ => ?_) | refine Br.bool (fun _ => ?_) (fun _ => ?_)
    | ((with_reducible apply TL.alloc_ag); (· rfl); intro _) | ((with_reducible apply TL.alloc_sc); (· rfl); (· rfl); intro _) | ((with_reducible apply TL.box_ag); (· rfl); (· rfl); intro _) | ((with_reducible apply TL.box_sc); (· rfl); (· rfl); (· rfl); intro _))
      refine TQ.leaves_ret (0 : Nat) ⟨rfl, hI.symm⟩ (hgx.trans (hg2.trans hgy)) (hg2.trans hgy) hrc pkA ?_
      exact selF
  · rintro D _ gx hI hgx _
    rw [List.length_map, List.drop_length] at hI
    obtain rfl : false = R := hI
    dsimp only [List.cons_append, List.nil_append]
    clear it
    repeat' (first
    | refine wkQ ?_
    | refine wkV ?_
    | refine stS ?_ | (refine stB ?_; intro _) | (refine stC ?_; refine And.intro (fun _ => ?_) (fun _ => ?_)))
    refine TQ.endM [D] rfl (.cons pkA .refl) ?_
    refine TQ.less (hg1.trans hgx) ?_
    refine TQ.endR1 (L' := L) Tryz.results39 rvA rfl (.refl _) ?_ selF
    exact ⟨rfl, rfl, rfl⟩
  · rintro D c _ gx ⟨rfl, rfl⟩ hgx _
    dsimp only [List.cons_append, List.nil_append]
    repeat' (first
    | refine wkQ ?_
    | refine wkV ?_
    | refine stS ?_ | (refine stB ?_; intro _) | (refine stC ?_; refine And.intro (fun _ => ?_) (fun _ => ?_)))
    refine TQ.endM [D] rfl (.cons pkA .refl) ?_
    refine TQ.less (hg1.trans hgx) ?_
    refine TQ.endR1 (L' := L) Tryz.results39 rvA rfl (.refl _) ?_ selF
    exact ⟨rfl, rfl, rfl⟩
end Go.Proofs.YtklmfbildebimaaGreatDoor
