/-
  The walk of path.all's inner function.
-/
import Derived.Test.YtacogbfgegcliaaGreatDoorHg33
import Derived.Test.YtacogbfgegcliaaGreatDoorHg16
import Derived.Test.YtacogbfgegcliaaGreatDoorHg14
namespace Go.Proofs.YtacogbfgegcliaaGreatDoor
open Go.RowKit Go.TL
set_option maxRecDepth 100000

def AllR (R : List (List UInt8)) (g : Gh) (L : List Ent) : Ending → Gh → List Ent → Prop := fun e g' L' => ∃ a c, e = .returned (.slice a R.length c) ∧ g' = g ∧ L' = .row 9 1 (.slice a R.length c) R.length (strs R) :: L
def OneR (R : List (List UInt8)) (b3 b4 : Nat) (ahead : List UInt8) (g : Gh) (L : List Ent) : Ending → Gh → List Ent → Prop := fun e g' L' => ∃ a c, e = .returned (.tuple #[]) ∧ g' = g ∧ L' = .obj b3 (.cells [.slice a R.length c].toArray 27 (0, 0)) :: .row 9 1 (.slice a R.length c) R.length (strs R) :: .obj b4 (.cells [str ahead].toArray 9 (0, 0)) :: L
def AllIH (N : Nat) : Prop := ∀ (x : J), jsz x ≤ N → ∀ (vx : Value) (l : List (List UInt8)) (ahead : List UInt8) (ao : Option Addr) (cap : Nat) (g : Gh) (L : List Ent), IsJ g x vx → szJ 300 x → l.length + jsz x ≤ 1001 → ahead.length ≤ 129 → GU8 g → GTabs g →
  Does Tryz.prog 73 #[.slice ao l.length cap, str ahead, vx] g (.row 9 1 (.slice ao l.length cap) l.length (strs l) :: L) (AllR (l ++ allJ ahead x) g L)
set_option maxHeartbeats 16000000 in
theorem pall1_does (N : Nat) (IH : AllIH N) (s : List UInt8) (x : J) (vx : Value) (l : List (List UInt8)) (ahead : List UInt8) (ao : Option Addr) (cap b3 b4 : Nat) (g : Gh) (L : List Ent) (hN : jsz x ≤ N) (hs : s.length ≤ 300) (hj : IsJ g x vx) (hz : szJ 300 x) (hl : l.length + jsz x ≤ 1000) (ha : ahead.length ≤ 129) (hU : GU8 g) (hT : GTabs g) :
    Does Tryz.prog 108 #[str s, vx, .pointer (some ⟨b4, 0, none⟩), .pointer (some ⟨b3, 0, none⟩)] g (.obj b3 (.cells [.slice ao l.length cap].toArray 27 (0, 0)) :: .row 9 1 (.slice ao l.length cap) l.length (strs l) :: .obj b4 (.cells [str ahead].toArray 9 (0, 0)) :: L) (OneR (l ++ partA ahead s x) b3 b4 ahead g L) := by
  refine Does.of4 Tryz.func108 rfl Tryz.ntmps108 rfl ?_
  have hone := hj.one
  obtain ⟨q, hq⟩ : ∃ q, q = ahead ++ s := ⟨_, rfl⟩
  have hql : q.length = ahead.length + s.length := by rw [hq, List.length_append]
  have A := fun L => steps_does q g L (by omega) hU
  unfold StepsR at A
  unfold OneR
  have HQ := Hn.mk hq
  cases hst : stepsL q with
  | none =>
    rw [hst] at A
    rw [part_no (by unfold toldB; rw [← hq, hst]), List.append_nil]
    rw [hq] at A
    clear IH hj hst hq
    repeat' (first
    | ((with_reducible apply TL.pure); (· exact yV); (· rfl)) | ((with_reducible apply TW.pure); (· exact yV); (· rfl))
    | (refine TL.call (Enters.plain (by kernel_rfl) (by rfl)) (by rfl) (A _) ?_; (rintro e g1 L1 h1 ⟨v1, e1, k1, k2, _, rfl, rfl⟩; have k2 := k2.symm; subst k1; subst k2; refine CallK.ret ?_))
    | ((with_reducible apply TL.pure); (· exact yA); (· rfl))
    | refine TC.seq ?_ | refine TC.region ?_ | refine TL.nil ?_ | refine TQ.then_normal ?_
    | ((with_reducible apply TL.storeE); (· rfl); (· rfl); (· rfl); (· exact pkA); (· infer_instance)) | ((with_reducible apply TL.store_whole); (· rfl); (· rfl); (· exact oneA); (· rfl); (· exact pkA); (· rfl))
    | refine TC.block ?_ | refine TC.ret ?_ | refine TC.skip ?_ | refine TC.exit ?_ | refine TC.cond rfl ?_
    | refine TQ.down ?_ | refine TQ.in_exit' rfl ?_
    | refine TL.guard_yes rfl rfl ?_ | refine TL.guard_no rfl rfl rfl rfl ?_ | refine TL.guard_no0 rfl rfl rfl ?_ | refine TL.guard_undef rfl rfl rfl ?_ | refine TL.guard_undef0 rfl rfl ?_ | refine TL.guard rfl rfl rfl ?_
    | refine Br.t rfl ?_ | refine Br.f rfl ?_ | refine Br.ky kpA ?_ | refine Br.kn kpA ?_ | refine Br.nky kpA ?_ | refine Br.nkn kpA ?_
    | refine Br.eq0 (fun _ => ?_) (fun _ => ?_) | refine Br.neq0 (fun _ => ?_) (fun _ => ?_) | refine Br.eq (fun _ => ?_) (fun _ => ?_) | refine Br.neq (fun _ => ?_) (fun _ => ?_) | refine Br.not (fun _ => ?_) (fun _ => ?_) | refine Br.dec (fun _ => ?_) (fun _ => ?_) | refine Br.bool (fun _ => ?_) (fun _ => ?_)
    | ((with_reducible apply TL.alloc_ag); (· rfl); intro _) | ((with_reducible apply TL.alloc_sc); (· rfl); (· rfl); intro _) | ((with_reducible apply TL.box_ag); (· rfl); (· rfl); intro _) | ((with_reducible apply TL.box_sc); (· rfl); (· rfl); (· rfl); intro _))
    refine TQ.less h1 ?_
    refine TQ.end_normal ?_
    refine TQ.endR0 (L' := (.obj b3 (.cells [.slice ao l.length cap].toArray 27 (0, 0)) :: .row 9 1 (.slice ao l.length cap) l.length (strs l) :: .obj b4 (.cells [str ahead].toArray 9 (0, 0)) :: L)) Tryz.results108 rfl (.refl _) ?_ selA
    exact ⟨ao, cap, rfl, rfl, rfl⟩
  | some l1 =>
    rw [hst] at A
    obtain ⟨hpj, hl0, hq128, _, hgood⟩ := stepsL_some hst
    have hcount := joinS_count l1 (fun s hs => (hgood s hs).1)
    rw [← hpj] at hcount
    clear hgood
    obtain ⟨k, hk⟩ : ∃ k, l1.length = k + 1 := ⟨l1.length - 1, by have := List.length_pos_iff.2 hl0; omega⟩
    obtain ⟨t, ht⟩ : ∃ t, l1[k]? = some t := ⟨_, List.getElem?_eq_getElem (by omega)⟩
    have htold := told_of (s := s) hst hk ht
    have hkl : k < l1.length := by omega
    by_cases he : t = s
    · rw [decide_eq_true he, hq] at htold
      rw [part_yes htold]
      have B := fun (g1 : Gh) (h1 : g.le g1) a2 c2 L => IH x hN vx (l ++ [q]) (q ++ [46]) a2 c2 g1 L (IsJ.le h1 _ _ hj) hz (by rw [len_snoc]; omega) (by rw [List.length_append, List.length_singleton]; omega) (hU.le h1) (hT.le h1)
      simp only [len_snoc, strs_snoc] at B
      rw [hq] at A B
      unfold AllR at B
      rw [← show l ++ [ahead ++ s] ++ allJ (ahead ++ s ++ [46]) x = l ++ (ahead ++ s) :: allJ (ahead ++ s ++ [46]) x by simp]
      have hRl := all_len x (ahead ++ s ++ [46])
      have hRL : (l ++ [ahead ++ s] ++ allJ (ahead ++ s ++ [46]) x).length = l.length + 1 + (allJ (ahead ++ s ++ [46]) x).length := by simp; omega
      clear IH hj hst hpj htold
      repeat' (first
    | ((with_reducible apply TL.pure (d := 23) (v := .int .i64 ((k : Nat) : Int))); (· exact Y.sub rfl rfl (by rw [IntWalk.i64_in _ (by omega)]; omega)); (· rfl)) | ((with_reducible apply TW.pure (d := 23) (v := .int .i64 ((k : Nat) : Int))); (· exact Y.sub rfl rfl (by rw [IntWalk.i64_in _ (by omega)]; omega)); (· rfl))
    | ((with_reducible apply TL.pure (d := 27) (v := .bool true)); (· exact Y.eql_is (decide_eq_true he) rfl rfl); (· rfl)) | ((with_reducible apply TW.pure (d := 27) (v := .bool true)); (· exact Y.eql_is (decide_eq_true he) rfl rfl); (· rfl))
    | ((with_reducible apply TL.pure); (· exact yV); (· rfl)) | ((with_reducible apply TW.pure); (· exact yV); (· rfl))
    | (refine TL.call (Enters.plain (by kernel_rfl) (by rfl)) (by rfl) (A _) ?_; (rintro e g1 L1 h1 ⟨v1, e1, k1, k2, _, rfl, hsl⟩; have k2 := k2.symm; subst k1; subst k2; obtain ⟨a1, c1, rfl⟩ := hsl.slice; obtain ⟨b1, o1, rfl, hg⟩ := hsl.elem hkl (by decide); have hld : g1.cell b1 (o1 + k * 1) = some (str t) := hg 0 _ (by rw [Nat.mul_one]; exact strs_get ht); have B1 := B g1 h1; clear B A hg; refine CallK.ret ?_))
    | ((with_reducible apply TL.build_slice); (· rfl); (· rfl); (· exact oneA); (· rfl); (· rfl); (· rfl); intro _) | refine TL.build_one (by rfl) (by first | rfl | assumption) (by rfl) (by rfl) (by rfl) (by rfl) (fun _ => ?_) | refine TL.build_empty (by rfl) (fun _ => ?_)
    | ((with_reducible apply TL.append (e := 9)); (· rfl); (· rfl); (· rfl); (· rfl); (· exact pkA); (· first | exact Src.obj pkA | exact Src.sl (by assumption) | exact Src.row pkA); (· first | rfl | exact (byteVals_length _).trans (Nat.mul_one _).symm); (· first | exact byteVals_all _ | exact oneA); (· exact ⟨by unfold maxLen; omega, by omega⟩); (· rfl); intro vf; refine Go.TL.TL.row_slice (v := vf) pkA ?_; rintro a2 c2 rfl _)
    | (refine TL.call (Enters.plain (by kernel_rfl) (by rfl)) (by rfl) (B1 _ _ _) ?_; (rintro e g3 L3 h3 ⟨a3, c3, k1, k2, k3⟩; have k2 := k2.symm; subst k1; subst k2; subst k3; refine CallK.ret ?_))
    | ((with_reducible apply TL.pure); (· exact yM); (· rfl)) | ((with_reducible apply TW.pure); (· exact yM); (· rfl))
    | ((with_reducible apply TL.pure); (· exact yA); (· rfl))
    | refine TC.seq ?_ | refine TC.region ?_ | refine TL.nil ?_ | refine TQ.then_normal ?_
    | ((with_reducible apply TL.storeE); (· rfl); (· rfl); (· rfl); (· exact pkA); (· infer_instance)) | ((with_reducible apply TL.store_whole); (· rfl); (· rfl); (· exact oneA); (· rfl); (· exact pkA); (· rfl))
    | refine TC.block ?_ | refine TC.ret ?_ | refine TC.skip ?_ | refine TC.exit ?_ | refine TC.cond rfl ?_
    | refine TQ.down ?_ | refine TQ.in_exit' rfl ?_
    | refine TL.guard_yes rfl rfl ?_ | refine TL.guard_no rfl rfl rfl rfl ?_ | refine TL.guard_no0 rfl rfl rfl ?_ | refine TL.guard_undef rfl rfl rfl ?_ | refine TL.guard_undef0 rfl rfl ?_ | refine TL.guard rfl rfl rfl ?_
    | refine Br.t rfl ?_ | refine Br.f rfl ?_ | refine Br.ky kpA ?_ | refine Br.kn kpA ?_ | refine Br.nky kpA ?_ | refine Br.nkn kpA ?_
    | refine Br.eq0 (fun _ => ?_) (fun _ => ?_) | refine Br.neq0 (fun _ => ?_) (fun _ => ?_) | refine Br.eq (fun _ => ?_) (fun _ => ?_) | refine Br.neq (fun _ => ?_) (fun _ => ?_) | refine Br.not (fun _ => ?_) (fun _ => ?_) | refine Br.dec (fun _ => ?_) (fun _ => ?_) | refine Br.bool (fun _ => ?_) (fun _ => ?_)
    | ((with_reducible apply TL.alloc_ag); (· rfl); intro _) | ((with_reducible apply TL.alloc_sc); (· rfl); (· rfl); intro _) | ((with_reducible apply TL.box_ag); (· rfl); (· rfl); intro _) | ((with_reducible apply TL.box_sc); (· rfl); (· rfl); (· rfl); intro _))
      refine TQ.less h1 ?_
      refine TQ.end_normal ?_
      refine TQ.endR0 (L' := (.obj b3 (.cells [.slice a3 (l ++ [ahead ++ s] ++ allJ (ahead ++ s ++ [46]) x).length c3].toArray 27 (0, 0)) :: .row 9 1 (.slice a3 (l ++ [ahead ++ s] ++ allJ (ahead ++ s ++ [46]) x).length c3) (l ++ [ahead ++ s] ++ allJ (ahead ++ s ++ [46]) x).length (strs (l ++ [ahead ++ s] ++ allJ (ahead ++ s ++ [46]) x)) :: .obj b4 (.cells [str ahead].toArray 9 (0, 0)) :: L)) Tryz.results108 rfl (.refl _) ?_ selA
      exact ⟨a3, c3, rfl, rfl, rfl⟩
    · rw [decide_eq_false he, hq] at htold
      rw [part_no htold, List.append_nil]
      rw [hq] at A
      clear IH hj hst hpj htold
      repeat' (first
    | ((with_reducible apply TL.pure (d := 23) (v := .int .i64 ((k : Nat) : Int))); (· exact Y.sub rfl rfl (by rw [IntWalk.i64_in _ (by omega)]; omega)); (· rfl)) | ((with_reducible apply TW.pure (d := 23) (v := .int .i64 ((k : Nat) : Int))); (· exact Y.sub rfl rfl (by rw [IntWalk.i64_in _ (by omega)]; omega)); (· rfl))
    | ((with_reducible apply TL.pure (d := 27) (v := .bool false)); (· exact Y.eql_is (decide_eq_false he) rfl rfl); (· rfl)) | ((with_reducible apply TW.pure (d := 27) (v := .bool false)); (· exact Y.eql_is (decide_eq_false he) rfl rfl); (· rfl))
    | ((with_reducible apply TL.pure); (· exact yV); (· rfl)) | ((with_reducible apply TW.pure); (· exact yV); (· rfl))
    | (refine TL.call (Enters.plain (by kernel_rfl) (by rfl)) (by rfl) (A _) ?_; (rintro e g1 L1 h1 ⟨v1, e1, k1, k2, _, rfl, hsl⟩; have k2 := k2.symm; subst k1; subst k2; obtain ⟨a1, c1, rfl⟩ := hsl.slice; obtain ⟨b1, o1, rfl, hg⟩ := hsl.elem hkl (by decide); have hld : g1.cell b1 (o1 + k * 1) = some (str t) := hg 0 _ (by rw [Nat.mul_one]; exact strs_get ht); clear A hg; refine CallK.ret ?_))
    | ((with_reducible apply TL.pure); (· exact yM); (· rfl)) | ((with_reducible apply TW.pure); (· exact yM); (· rfl))
    | ((with_reducible apply TL.pure); (· exact yA); (· rfl))
    | refine TC.seq ?_ | refine TC.region ?_ | refine TL.nil ?_ | refine TQ.then_normal ?_
    | ((with_reducible apply TL.storeE); (· rfl); (· rfl); (· rfl); (· exact pkA); (· infer_instance)) | ((with_reducible apply TL.store_whole); (· rfl); (· rfl); (· exact oneA); (· rfl); (· exact pkA); (· rfl))
    | refine TC.block ?_ | refine TC.ret ?_ | refine TC.skip ?_ | refine TC.exit ?_ | refine TC.cond rfl ?_
    | refine TQ.down ?_ | refine TQ.in_exit' rfl ?_
    | refine TL.guard_yes rfl rfl ?_ | refine TL.guard_no rfl rfl rfl rfl ?_ | refine TL.guard_no0 rfl rfl rfl ?_ | refine TL.guard_undef rfl rfl rfl ?_ | refine TL.guard_undef0 rfl rfl ?_ | refine TL.guard rfl rfl rfl ?_
    | refine Br.t rfl ?_ | refine Br.f rfl ?_ | refine Br.ky kpA ?_ | refine Br.kn kpA ?_ | refine Br.nky kpA ?_ | refine Br.nkn kpA ?_
    | refine Br.eq0 (fun _ => ?_) (fun _ => ?_) | refine Br.neq0 (fun _ => ?_) (fun _ => ?_) | refine Br.eq (fun _ => ?_) (fun _ => ?_) | refine Br.neq (fun _ => ?_) (fun _ => ?_) | refine Br.not (fun _ => ?_) (fun _ => ?_) | refine Br.dec (fun _ => ?_) (fun _ => ?_) | refine Br.bool (fun _ => ?_) (fun _ => ?_)
    | ((with_reducible apply TL.alloc_ag); (· rfl); intro _) | ((with_reducible apply TL.alloc_sc); (· rfl); (· rfl); intro _) | ((with_reducible apply TL.box_ag); (· rfl); (· rfl); intro _) | ((with_reducible apply TL.box_sc); (· rfl); (· rfl); (· rfl); intro _))
      refine TQ.less h1 ?_
      refine TQ.end_normal ?_
      refine TQ.endR0 (L' := (.obj b3 (.cells [.slice ao l.length cap].toArray 27 (0, 0)) :: .row 9 1 (.slice ao l.length cap) l.length (strs l) :: .obj b4 (.cells [str ahead].toArray 9 (0, 0)) :: L)) Tryz.results108 rfl (.refl _) ?_ selA
      exact ⟨ao, cap, rfl, rfl, rfl⟩
end Go.Proofs.YtacogbfgegcliaaGreatDoor
