/-
  The walks of path.member, item, next.
-/
import Derived.Test.YtacogbfgegcliaaGreatDoorHd7
import Derived.Test.YtacogbfgegcliaaGreatDoorHd13
import Derived.Test.YtacogbfgegcliaaGreatDoorHd0
namespace Go.Proofs.YtacogbfgegcliaaGreatDoor
open Go.RowKit Go.TL
set_option maxRecDepth 100000

theorem pmember1_gives (s nm : List UInt8) (v : Value) (b : Nat) (g : Gh) (L : List Ent) : Gives Tryz.prog 134 #[.agg #[str s, v], .pointer (some ⟨b, 0, none⟩)] g (.obj b (.cells [str nm].toArray 9 (0, 0)) :: L) (.bool (decide (s = nm))) := by
  refine .of (Does.of2 Tryz.func134 rfl Tryz.ntmps134 rfl ?_)
  repeat' (first
    | ((with_reducible apply TL.pure); (· exact yV); (· rfl)) | ((with_reducible apply TW.pure); (· exact yV); (· rfl))
    | ((with_reducible apply TL.pure); (· exact yA); (· rfl))
    | refine TC.seq ?_ | refine TC.region ?_ | refine TL.nil ?_ | refine TQ.then_normal ?_
    | ((with_reducible apply TL.storeE); (· rfl); (· rfl); (· rfl); (· exact pkA); (· infer_instance)) | ((with_reducible apply TL.store_whole); (· rfl); (· rfl); (· exact oneA); (· rfl); (· exact pkA); (· rfl))
    | refine TC.block ?_ | refine TC.ret ?_ | refine TC.skip ?_ | refine TC.exit ?_ | refine TC.cond rfl ?_
    | refine TQ.down ?_ | refine TQ.in_exit' rfl ?_
    | refine TL.guard_yes rfl rfl ?_ | refine TL.guard_no rfl rfl rfl rfl ?_ | refine TL.guard_no0 rfl rfl rfl ?_ | refine TL.guard_undef rfl rfl rfl ?_ | refine TL.guard_undef0 rfl rfl ?_ | refine TL.guard rfl rfl rfl ?_
    | refine Br.t rfl ?_ | refine Br.f rfl ?_ | refine Br.ky kpA ?_ | refine Br.kn kpA ?_ | refine Br.nky kpA ?_ | refine Br.nkn kpA ?_
    | refine Br.eq0 (fun _ => ?_) (fun _ => ?_) | refine Br.neq0 (fun _ => ?_) (fun _ => ?_) | refine Br.eq (fun _ => ?_) (fun _ => ?_) | refine Br.neq (fun _ => ?_) (fun _ => ?_) | refine Br.not (fun _ => ?_) (fun _ => ?_) | refine Br.dec (fun _ => ?_) (fun _ => ?_) | refine Br.bool (fun _ => ?_) (fun _ => ?_)
    | ((with_reducible apply TL.alloc_ag); (· rfl); intro _) | ((with_reducible apply TL.alloc_sc); (· rfl); (· rfl); intro _) | ((with_reducible apply TL.box_ag); (· rfl); (· rfl); intro _) | ((with_reducible apply TL.box_sc); (· rfl); (· rfl); (· rfl); intro _))
  refine TQ.endR1 (L' := (.obj b (.cells [str nm].toArray 9 (0, 0)) :: L)) Tryz.results134 rvA rfl (.refl _) ?_ selA
  exact ⟨rfl, rfl, rfl⟩
set_option maxHeartbeats 8000000 in
theorem indexMp_gives (ns : List (List UInt8)) (nm : List UInt8) (ao : Option Addr) (n cap b : Nat) (flat : List Value) (g : Gh) (L : List Ent) (hl : ns.length = n) (hn : n ≤ 1000000000) (hS : Sl g (.slice ao n cap) n 2 flat) (hM : Mem ns n flat) :
    Gives Tryz.prog 133 #[.slice ao n cap, .func (.func 134) #[] #[.pointer (some ⟨b, 0, none⟩)]] g (.obj b (.cells [str nm].toArray 9 (0, 0)) :: L) (.int .i64 (idxL nm ns 0)) := by
  refine .of (Does.of2 Tryz.func133 rfl Tryz.ntmps133 rfl ?_)
  obtain ⟨R, hR⟩ : ∃ R, R = idxL nm ns 0 := ⟨_, rfl⟩
  rw [← hR]
  repeat' (first
    | ((with_reducible apply TL.pure); (· exact yA); (· rfl))
    | refine TC.seq ?_ | refine TC.region ?_ | refine TL.nil ?_ | refine TQ.then_normal ?_
    | ((with_reducible apply TL.storeE); (· rfl); (· rfl); (· rfl); (· exact pkA); (· infer_instance)) | ((with_reducible apply TL.store_whole); (· rfl); (· rfl); (· exact oneA); (· rfl); (· exact pkA); (· rfl))
    | refine TC.block ?_ | refine TC.ret ?_ | refine TC.skip ?_ | refine TC.exit ?_ | refine TC.cond rfl ?_
    | refine TQ.down ?_ | refine TQ.in_exit' rfl ?_
    | refine TL.guard_yes rfl rfl ?_ | refine TL.guard_no rfl rfl rfl rfl ?_ | refine TL.guard_no0 rfl rfl rfl ?_ | refine TL.guard_undef rfl rfl rfl ?_ | refine TL.guard_undef0 rfl rfl ?_ | refine TL.guard rfl rfl rfl ?_
    | refine Br.t rfl ?_ | refine Br.f rfl ?_ | refine Br.ky kpA ?_ | refine Br.kn kpA ?_ | refine Br.nky kpA ?_ | refine Br.nkn kpA ?_
    | refine Br.eq0 (fun _ => ?_) (fun _ => ?_) | refine Br.neq0 (fun _ => ?_) (fun _ => ?_) | refine Br.eq (fun _ => ?_) (fun _ => ?_) | refine Br.neq (fun _ => ?_) (fun _ => ?_) | refine Br.not (fun _ => ?_) (fun _ => ?_) | refine Br.dec (fun _ => ?_) (fun _ => ?_) | refine Br.bool (fun _ => ?_) (fun _ => ?_)
    | ((with_reducible apply TL.alloc_ag); (· rfl); intro _) | ((with_reducible apply TL.alloc_sc); (· rfl); (· rfl); intro _) | ((with_reducible apply TL.box_ag); (· rfl); (· rfl); intro _) | ((with_reducible apply TL.box_sc); (· rfl); (· rfl); (· rfl); intro _))
  refine TC.loopK (fun i : Nat => i ≤ n ∧ idxL nm (ns.drop i) i = R) (fun i => n - i) (fun i _ => [(8, .int .i64 (i : Nat)), (7, .int .i64 (n : Nat)), (0, .slice ao n cap), (1, .func (.func 134) #[] #[.pointer (some ⟨b, 0, none⟩)])]) [] (by repeat (first | apply Drop.nil | apply Drop.cons (by (repeat (first | apply Pick.here | apply Pick.there))))) (fun _ L => L) 0 ⟨Nat.zero_le _, hR.symm⟩ subA selA ?_
  clear hR
  rintro i ⟨hi, hR⟩
  try dsimp only at hi hR ⊢
  by_cases hlt : i < n
  · obtain ⟨s, v, hns, h0, h1⟩ := hM i hlt
    obtain ⟨b1, o1, rfl, hg⟩ := hS.elem hlt (by decide)
    have hld : ∀ j u, [str s, v][j]? = some u → g.cell b1 (o1 + i * 2 + j) = some u := fun j u hu => by
      match j, hu with
      | 0, hu => simp at hu; subst hu; exact hg 0 _ h0
      | 1, hu => simp at hu; subst hu; exact hg 1 _ h1
      | j + 2, hu => simp at hu
    have hll : [str s, v].length = 2 := rfl
    rw [idxL_at hns] at hR
    clear hM hS hg h0 h1
    by_cases he : s = nm
    · have A : Gives Tryz.prog 134 #[.agg #[str s, v], .pointer (some ⟨b, 0, none⟩)] g (.obj b (.cells [str nm].toArray 9 (0, 0)) :: L) (.bool true) := by
        have := pmember1_gives s nm v b g L
        rw [decide_eq_true he] at this; exact this
      rw [if_pos he] at hR
      subst hR
      clear he
      repeat' (first
    | ((with_reducible apply TL.pure); (· exact yV); (· rfl)) | ((with_reducible apply TW.pure); (· exact yV); (· rfl))
    | refine TL.gives (Enters.func (by rfl) (by kernel_rfl) (by rfl)) (A) (by rfl) ?_ | refine TW.gives (Enters.func (by rfl) (by kernel_rfl) (by rfl)) (A) (by rfl) ?_
    | ((with_reducible apply TL.pure); (· exact yA); (· rfl))
    | refine TC.seq ?_ | refine TC.region ?_ | refine TL.nil ?_ | refine TQ.then_normal ?_
    | ((with_reducible apply TL.storeE); (· rfl); (· rfl); (· rfl); (· exact pkA); (· infer_instance)) | ((with_reducible apply TL.store_whole); (· rfl); (· rfl); (· exact oneA); (· rfl); (· exact pkA); (· rfl))
    | refine TC.block ?_ | refine TC.ret ?_ | refine TC.skip ?_ | refine TC.exit ?_ | refine TC.cond rfl ?_
    | refine TQ.down ?_ | refine TQ.in_exit' rfl ?_
    | refine TL.guard_yes rfl rfl ?_ | refine TL.guard_no rfl rfl rfl rfl ?_ | refine TL.guard_no0 rfl rfl rfl ?_ | refine TL.guard_undef rfl rfl rfl ?_ | refine TL.guard_undef0 rfl rfl ?_ | refine TL.guard rfl rfl rfl ?_
    | refine Br.t rfl ?_ | refine Br.f rfl ?_ | refine Br.ky kpA ?_ | refine Br.kn kpA ?_ | refine Br.nky kpA ?_ | refine Br.nkn kpA ?_
    | refine Br.eq0 (fun _ => ?_) (fun _ => ?_) | refine Br.neq0 (fun _ => ?_) (fun _ => ?_) | refine Br.eq (fun _ => ?_) (fun _ => ?_) | refine Br.neq (fun _ => ?_) (fun _ => ?_) | refine Br.not (fun _ => ?_) (fun _ => ?_) | refine Br.dec (fun _ => ?_) (fun _ => ?_) | refine Br.bool (fun _ => ?_) (fun _ => ?_)
    | ((with_reducible apply TL.alloc_ag); (· rfl); intro _) | ((with_reducible apply TL.alloc_sc); (· rfl); (· rfl); intro _) | ((with_reducible apply TL.box_ag); (· rfl); (· rfl); intro _) | ((with_reducible apply TL.box_sc); (· rfl); (· rfl); (· rfl); intro _))
      refine TQ.endR1 (L' := (.obj b (.cells [str nm].toArray 9 (0, 0)) :: L)) Tryz.results133 rvA rfl (.refl _) ?_ selA
      exact ⟨rfl, rfl, rfl⟩
    · have A : Gives Tryz.prog 134 #[.agg #[str s, v], .pointer (some ⟨b, 0, none⟩)] g (.obj b (.cells [str nm].toArray 9 (0, 0)) :: L) (.bool false) := by
        have := pmember1_gives s nm v b g L
        rw [decide_eq_false he] at this; exact this
      rw [if_neg he] at hR
      have HR : Hn _ := ⟨hR⟩
      clear he hR
      repeat' (first
    | ((with_reducible apply TL.pure); (· exact yV); (· rfl)) | ((with_reducible apply TW.pure); (· exact yV); (· rfl))
    | refine TL.gives (Enters.func (by rfl) (by kernel_rfl) (by rfl)) (A) (by rfl) ?_ | refine TW.gives (Enters.func (by rfl) (by kernel_rfl) (by rfl)) (A) (by rfl) ?_
    | ((with_reducible apply TL.pure); (· exact yA); (· rfl))
    | refine TC.seq ?_ | refine TC.region ?_ | refine TL.nil ?_ | refine TQ.then_normal ?_
    | ((with_reducible apply TL.storeE); (· rfl); (· rfl); (· rfl); (· exact pkA); (· infer_instance)) | ((with_reducible apply TL.store_whole); (· rfl); (· rfl); (· exact oneA); (· rfl); (· exact pkA); (· rfl))
    | refine TC.block ?_ | refine TC.ret ?_ | refine TC.skip ?_ | refine TC.exit ?_ | refine TC.cond rfl ?_
    | refine TQ.down ?_ | refine TQ.in_exit' rfl ?_
    | refine TL.guard_yes rfl rfl ?_ | refine TL.guard_no rfl rfl rfl rfl ?_ | refine TL.guard_no0 rfl rfl rfl ?_ | refine TL.guard_undef rfl rfl rfl ?_ | refine TL.guard_undef0 rfl rfl ?_ | refine TL.guard rfl rfl rfl ?_
    | refine Br.t rfl ?_ | refine Br.f rfl ?_ | refine Br.ky kpA ?_ | refine Br.kn kpA ?_ | refine Br.nky kpA ?_ | refine Br.nkn kpA ?_
    | refine Br.eq0 (fun _ => ?_) (fun _ => ?_) | refine Br.neq0 (fun _ => ?_) (fun _ => ?_) | refine Br.eq (fun _ => ?_) (fun _ => ?_) | refine Br.neq (fun _ => ?_) (fun _ => ?_) | refine Br.not (fun _ => ?_) (fun _ => ?_) | refine Br.dec (fun _ => ?_) (fun _ => ?_) | refine Br.bool (fun _ => ?_) (fun _ => ?_)
    | ((with_reducible apply TL.alloc_ag); (· rfl); intro _) | ((with_reducible apply TL.alloc_sc); (· rfl); (· rfl); intro _) | ((with_reducible apply TL.box_ag); (· rfl); (· rfl); intro _) | ((with_reducible apply TL.box_sc); (· rfl); (· rfl); (· rfl); intro _))
      refine TQ.round (i + 1) ?_ ?_ rfl subA selA
      · exact ⟨by omega, HR.out⟩
      · show n - (i + 1) < n - i
        omega
  · obtain rfl : i = n := by omega
    rw [← hl, List.drop_length, idxL] at hR
    subst hR
    clear hM hS
    repeat' (first
    | ((with_reducible apply TL.pure); (· exact yA); (· rfl))
    | refine TC.seq ?_ | refine TC.region ?_ | refine TL.nil ?_ | refine TQ.then_normal ?_
    | ((with_reducible apply TL.storeE); (· rfl); (· rfl); (· rfl); (· exact pkA); (· infer_instance)) | ((with_reducible apply TL.store_whole); (· rfl); (· rfl); (· exact oneA); (· rfl); (· exact pkA); (· rfl))
    | refine TC.block ?_ | refine TC.ret ?_ | refine TC.skip ?_ | refine TC.exit ?_ | refine TC.cond rfl ?_
    | refine TQ.down ?_ | refine TQ.in_exit' rfl ?_
    | refine TL.guard_yes rfl rfl ?_ | refine TL.guard_no rfl rfl rfl rfl ?_ | refine TL.guard_no0 rfl rfl rfl ?_ | refine TL.guard_undef rfl rfl rfl ?_ | refine TL.guard_undef0 rfl rfl ?_ | refine TL.guard rfl rfl rfl ?_
    | refine Br.t rfl ?_ | refine Br.f rfl ?_ | refine Br.ky kpA ?_ | refine Br.kn kpA ?_ | refine Br.nky kpA ?_ | refine Br.nkn kpA ?_
    | refine Br.eq0 (fun _ => ?_) (fun _ => ?_) | refine Br.neq0 (fun _ => ?_) (fun _ => ?_) | refine Br.eq (fun _ => ?_) (fun _ => ?_) | refine Br.neq (fun _ => ?_) (fun _ => ?_) | refine Br.not (fun _ => ?_) (fun _ => ?_) | refine Br.dec (fun _ => ?_) (fun _ => ?_) | refine Br.bool (fun _ => ?_) (fun _ => ?_)
    | ((with_reducible apply TL.alloc_ag); (· rfl); intro _) | ((with_reducible apply TL.alloc_sc); (· rfl); (· rfl); intro _) | ((with_reducible apply TL.box_ag); (· rfl); (· rfl); intro _) | ((with_reducible apply TL.box_sc); (· rfl); (· rfl); (· rfl); intro _))
    refine TQ.endR1 (L' := (.obj b (.cells [str nm].toArray 9 (0, 0)) :: L)) Tryz.results133 rvA rfl (.refl _) ?_ selA
    exact ⟨rfl, rfl, rfl⟩
theorem idxL_idxN (nm : List UInt8) : ∀ (ns : List (List UInt8)) (i : Nat), idxL nm ns i = match idxN ns nm with | some k => ((i + k : Nat) : Int) | none => -1
  | [], i => rfl
  | n :: r, i => by
    rw [idxL, idxN]
    by_cases h : n = nm
    · rw [if_pos h, if_pos h]; rfl
    · rw [if_neg h, if_neg h, idxL_idxN nm r (i + 1)]
      cases idxN r nm with
      | none => rfl
      | some k => show ((i + 1 + k : Nat) : Int) = ((i + (k + 1) : Nat) : Int); omega
def idxV (ns : List (List UInt8)) (nm : List UInt8) : Int := match idxN ns nm with | some k => (k : Int) | none => -1
theorem pmember_gives (ns : List (List UInt8)) (nm : List UInt8) (ao : Option Addr) (n cap : Nat) (flat : List Value) (g : Gh) (L : List Ent) (hl : ns.length = n) (hn : n ≤ 1000000000) (hS : Sl g (.slice ao n cap) n 2 flat) (hM : Mem ns n flat) :
    Gives Tryz.prog 100 #[.slice ao n cap, str nm] g L (.int .i64 (idxV ns nm)) := by
  refine .of (Does.of2 Tryz.func100 rfl Tryz.ntmps100 rfl ?_)
  have A := fun b L => indexMp_gives ns nm ao n cap b flat g L hl hn hS hM
  rw [idxL_idxN] at A
  simp only [Nat.zero_add] at A
  clear hS hM
  repeat' (first
    | ((with_reducible apply TL.gives_plain); (· kernel_rfl); (· rfl); (· exact A _ _); (· rfl)) | ((with_reducible apply TW.gives_plain); (· kernel_rfl); (· rfl); (· exact A _ _); (· rfl))
    | ((with_reducible apply TL.pure); (· exact yA); (· rfl))
    | refine TC.seq ?_ | refine TC.region ?_ | refine TL.nil ?_ | refine TQ.then_normal ?_
    | ((with_reducible apply TL.storeE); (· rfl); (· rfl); (· rfl); (· exact pkA); (· infer_instance)) | ((with_reducible apply TL.store_whole); (· rfl); (· rfl); (· exact oneA); (· rfl); (· exact pkA); (· rfl))
    | refine TC.block ?_ | refine TC.ret ?_ | refine TC.skip ?_ | refine TC.exit ?_ | refine TC.cond rfl ?_
    | refine TQ.down ?_ | refine TQ.in_exit' rfl ?_
    | refine TL.guard_yes rfl rfl ?_ | refine TL.guard_no rfl rfl rfl rfl ?_ | refine TL.guard_no0 rfl rfl rfl ?_ | refine TL.guard_undef rfl rfl rfl ?_ | refine TL.guard_undef0 rfl rfl ?_ | refine TL.guard rfl rfl rfl ?_
    | refine Br.t rfl ?_ | refine Br.f rfl ?_ | refine Br.ky kpA ?_ | refine Br.kn kpA ?_ | refine Br.nky kpA ?_ | refine Br.nkn kpA ?_
    | refine Br.eq0 (fun _ => ?_) (fun _ => ?_) | refine Br.neq0 (fun _ => ?_) (fun _ => ?_) | refine Br.eq (fun _ => ?_) (fun _ => ?_) | refine Br.neq (fun _ => ?_) (fun _ => ?_) | refine Br.not (fun _ => ?_) (fun _ => ?_) | refine Br.dec (fun _ => ?_) (fun _ => ?_) | refine Br.bool (fun _ => ?_) (fun _ => ?_)
    | ((with_reducible apply TL.alloc_ag); (· rfl); intro _) | ((with_reducible apply TL.alloc_sc); (· rfl); (· rfl); intro _) | ((with_reducible apply TL.box_ag); (· rfl); (· rfl); intro _) | ((with_reducible apply TL.box_sc); (· rfl); (· rfl); (· rfl); intro _))
  refine TQ.endR1 (L' := L) Tryz.results100 rvA rfl (.refl _) ?_ selA
  exact ⟨rfl, rfl, rfl⟩
end Go.Proofs.YtacogbfgegcliaaGreatDoor
