/-
  The laws PathPuts, PathDrops.
-/
import Derived.Test.YtacogbfgegcliaaGreatDoorHd35
import Derived.Test.YtacogbfgegcliaaGreatDoorHd43
import Derived.Test.YtacogbfgegcliaaGreatDoorHd44
import Derived.Test.YtacogbfgegcliaaGreatDoorHd45
namespace Go.Proofs.YtacogbfgegcliaaGreatDoor
open Go.RowKit Go.TL
set_option maxRecDepth 100000

set_option maxHeartbeats 64000000 in
theorem lawPathDrops (x : DV) (p : List UInt8) (cs : List Value) (g : Gh) (hX : IsV g x cs) (hp : p.length ≤ 9223372036854775807) (hE : GErr g) (hT : GTabs g) (hU : GU8 g) : Gives Tryz.prog 9 #[.agg cs.toArray, str p] g [] (.bool true) := by
  refine .of (Does.of2 Tryz.func9 rfl Tryz.ntmps9 rfl ?_)
  have L1 := fun L => light_gives x cs g L hX
  have l1 := hX.len
  cases hx : lightB x with
  | false =>
    rw [hx] at L1
    clear hX
    repeat' (first
    | ((with_reducible apply TL.pure); (· exact yQ); (· rfl))
    | ((with_reducible apply TL.pure); (· exact yV); (· rfl)) | ((with_reducible apply TW.pure); (· exact yV); (· rfl))
    | ((with_reducible apply TL.gives_plain); (· kernel_rfl); (· rfl); (· exact L1 _); (· rfl)) | ((with_reducible apply TW.gives_plain); (· kernel_rfl); (· rfl); (· exact L1 _); (· rfl))
    | ((with_reducible apply TL.pure); (· exact yA); (· rfl))
    | refine TC.seq ?_ | refine TC.region ?_ | refine TL.nil ?_ | refine TQ.then_normal ?_
    | ((with_reducible apply TL.storeE); (· rfl); (· rfl); (· rfl); (· exact pkA); (· infer_instance)) | ((with_reducible apply TL.store_whole); (· rfl); (· rfl); (· exact oneA); (· rfl); (· exact pkA); (· rfl))
    | refine TC.block ?_ | refine TC.ret ?_ | refine TC.skip ?_ | refine TC.exit ?_ | refine TC.cond rfl ?_
    | refine TQ.down ?_ | refine TQ.in_exit' rfl ?_
    | refine TL.guard_yes rfl rfl ?_ | refine TL.guard_no rfl rfl rfl rfl ?_ | refine TL.guard_no0 rfl rfl rfl ?_ | refine TL.guard_undef rfl rfl rfl ?_ | refine TL.guard_undef0 rfl rfl ?_ | refine TL.guard rfl rfl rfl ?_
    | refine Br.t rfl ?_ | refine Br.f rfl ?_ | refine Br.ky kpA ?_ | refine Br.kn kpA ?_ | refine Br.nky kpA ?_ | refine Br.nkn kpA ?_
    | refine Br.eq0 (fun _ => ?_) (fun _ => ?_) | refine Br.neq0 (fun _ => ?_) (fun _ => ?_) | refine Br.eq (fun _ => ?_) (fun _ => ?_) | refine Br.neq (fun _ => ?_) (fun _ => ?_) | refine Br.not (fun _ => ?_) (fun _ => ?_) | refine Br.dec (fun _ => ?_) (fun _ => ?_) | refine Br.bool (fun _ => ?_) (fun _ => ?_)
    | ((with_reducible apply TL.alloc_ag); (· rfl); intro _) | ((with_reducible apply TL.alloc_sc); (· rfl); (· rfl); intro _) | ((with_reducible apply TL.box_ag); (· rfl); (· rfl); intro _) | ((with_reducible apply TL.box_sc); (· rfl); (· rfl); (· rfl); intro _))
    refine TQ.endR1 (L' := []) Tryz.results9 rvA rfl (.refl _) ?_ selF
    exact ⟨rfl, rfl, rfl⟩
  | true =>
  rw [hx] at L1
  by_cases h3 : 300 < p.length
  · clear hX
    repeat' (first
    | ((with_reducible apply TL.pure); (· exact yQ); (· rfl))
    | ((with_reducible apply TL.pure); (· exact yV); (· rfl)) | ((with_reducible apply TW.pure); (· exact yV); (· rfl))
    | ((with_reducible apply TL.gives_plain); (· kernel_rfl); (· rfl); (· exact L1 _); (· rfl)) | ((with_reducible apply TW.gives_plain); (· kernel_rfl); (· rfl); (· exact L1 _); (· rfl))
    | ((with_reducible apply TL.pure); (· exact yA); (· rfl))
    | refine TC.seq ?_ | refine TC.region ?_ | refine TL.nil ?_ | refine TQ.then_normal ?_
    | ((with_reducible apply TL.storeE); (· rfl); (· rfl); (· rfl); (· exact pkA); (· infer_instance)) | ((with_reducible apply TL.store_whole); (· rfl); (· rfl); (· exact oneA); (· rfl); (· exact pkA); (· rfl))
    | refine TC.block ?_ | refine TC.ret ?_ | refine TC.skip ?_ | refine TC.exit ?_ | refine TC.cond rfl ?_
    | refine TQ.down ?_ | refine TQ.in_exit' rfl ?_
    | refine TL.guard_yes rfl rfl ?_ | refine TL.guard_no rfl rfl rfl rfl ?_ | refine TL.guard_no0 rfl rfl rfl ?_ | refine TL.guard_undef rfl rfl rfl ?_ | refine TL.guard_undef0 rfl rfl ?_ | refine TL.guard rfl rfl rfl ?_
    | refine Br.t rfl ?_ | refine Br.f rfl ?_ | refine Br.ky kpA ?_ | refine Br.kn kpA ?_ | refine Br.nky kpA ?_ | refine Br.nkn kpA ?_
    | refine Br.eq0 (fun _ => ?_) (fun _ => ?_) | refine Br.neq0 (fun _ => ?_) (fun _ => ?_) | refine Br.eq (fun _ => ?_) (fun _ => ?_) | refine Br.neq (fun _ => ?_) (fun _ => ?_) | refine Br.not (fun _ => ?_) (fun _ => ?_) | refine Br.dec (fun _ => ?_) (fun _ => ?_) | refine Br.bool (fun _ => ?_) (fun _ => ?_)
    | ((with_reducible apply TL.alloc_ag); (· rfl); intro _) | ((with_reducible apply TL.alloc_sc); (· rfl); (· rfl); intro _) | ((with_reducible apply TL.box_ag); (· rfl); (· rfl); intro _) | ((with_reducible apply TL.box_sc); (· rfl); (· rfl); (· rfl); intro _))
    refine TQ.endR1 (L' := []) Tryz.results9 rvA rfl (.refl _) ?_ selF
    exact ⟨rfl, rfl, rfl⟩
  have wx := wf_of_light hx
  obtain ⟨zx, lx⟩ := sz_toJ _ x (Nat.le_refl _) 300 (wfN_of_light hx)
  have sx := sm_of_sz _ _ zx (by decide)
  have AW := fun (g2 : Gh) (h : g.le g2) L => awake06_gives (g := g2) (L := L) (hE.le h) (hT.le h) (hU.le h)
  have TX := fun (g2 : Gh) (h : g.le g2) L => told06_makes _ x (Nat.le_refl _) cs g2 L (IsV.le h _ _ hX) wx
  have TX0 := TX g (.refl _)
  have PU := fun (g2 : Gh) (h : g.le g2) (v : Value) (hv : IsJ g2 (toJ x) v) L => drops_does 300 (by decide) p (toJ x) v g2 L (by omega) hv zx (hE.le h) (hT.le h) (hU.le h)
  unfold PutsR at PU
  have RP := fun (g2 : Gh) (h : g.le g2) L => rdrops6_does 300 (by decide) p x cs g2 L (by omega) (IsV.le h _ _ hX) (wfN_of_light hx)
  unfold PutsDR at RP
  have SM := fun (g2 : Gh) (h : g.le g2) (j : J) (a b : Value) (ha : IsJ g2 j a) (hb : IsJ g2 j b) (lj : lenJ j) (sj : smJ j) (h0 : lookJ j 0 = 0) L => (show Gives Tryz.prog 23 #[a, b] g2 L (.bool true) by
    have h := Same_gives j j a b g2 L ha hb sj sj (hT.le h) (hU.le h)
    rwa [Same_refl lj h0] at h)
  obtain ⟨e0, o0, ho⟩ : ∃ e0 o0, dropE (toJ x) p = (e0, o0) := ⟨_, _, rfl⟩
  rw [ho] at PU RP
  cases o0 with
  | none =>
    have hne := dropE_none ho
    dsimp only at PU RP
    have HQ : Hn (((e0 : Nat) : Int) = (e0 : Nat)) := ⟨rfl⟩
    have HZ : Hn (¬ ((e0 : Nat) : Int) = 0) := ⟨by omega⟩
    clear ho hX SM zx lx sx
    repeat' (first
    | ((with_reducible apply TL.pure); (· exact yQ); (· rfl))
    | ((with_reducible apply TL.pure); (· exact yV); (· rfl)) | ((with_reducible apply TW.pure); (· exact yV); (· rfl))
    | ((with_reducible apply TL.gives_plain); (· kernel_rfl); (· rfl); (· exact L1 _); (· rfl)) | ((with_reducible apply TW.gives_plain); (· kernel_rfl); (· rfl); (· exact L1 _); (· rfl))
    | (refine TL.makes (Enters.plain (by kernel_rfl) (by rfl)) (TX0 _) (by rfl) ?_; (rintro v1 g2 h02 j1; have P1 := PU g2 h02 v1 j1; clear PU TX0))
    | (refine TL.call (Enters.plain (by kernel_rfl) (by rfl)) (by rfl) (P1 _) ?_; (rintro e g3 Ln h3b ⟨v3, e3, k1, k2, o3, r3⟩; have k2 := k2.symm; subst k1; subst k2; (obtain ⟨rfl, hn3, rfl⟩ := r3; have h03 := h02.trans h3b; have R1 := RP g3 h03; clear P1 RP); refine CallK.ret ?_))
    | (refine TL.call (Enters.plain (by kernel_rfl) (by rfl)) (by rfl) (R1 _) ?_; (rintro e g4 Ln h4 ⟨cz, es, zz, k1, k2, hz, hm⟩; have k2 := k2.symm; subst k1; subst k2; (obtain ⟨rfl, _⟩ := hm); obtain ⟨qk, qb, qn, qs, qi, qil, qic, qm, qml, qmc, rfl⟩ := hz.form; (have h04 := h03.trans h4; have AW1 := AW g4 h04; clear R1 AW); refine CallK.ret ?_))
    | ((with_reducible apply TL.gives_plain); (· kernel_rfl); (· rfl); (· exact AW1 _); (· rfl)) | ((with_reducible apply TW.gives_plain); (· kernel_rfl); (· rfl); (· exact AW1 _); (· rfl))
    | ((with_reducible apply TL.pure); (· exact yA); (· rfl))
    | refine TC.seq ?_ | refine TC.region ?_ | refine TL.nil ?_ | refine TQ.then_normal ?_
    | ((with_reducible apply TL.storeE); (· rfl); (· rfl); (· rfl); (· exact pkA); (· infer_instance)) | ((with_reducible apply TL.store_whole); (· rfl); (· rfl); (· exact oneA); (· rfl); (· exact pkA); (· rfl))
    | refine TC.block ?_ | refine TC.ret ?_ | refine TC.skip ?_ | refine TC.exit ?_ | refine TC.cond rfl ?_
    | refine TQ.down ?_ | refine TQ.in_exit' rfl ?_
    | refine TL.guard_yes rfl rfl ?_ | refine TL.guard_no rfl rfl rfl rfl ?_ | refine TL.guard_no0 rfl rfl rfl ?_ | refine TL.guard_undef rfl rfl rfl ?_ | refine TL.guard_undef0 rfl rfl ?_ | refine TL.guard rfl rfl rfl ?_
    | refine Br.t rfl ?_ | refine Br.f rfl ?_ | refine Br.ky kpA ?_ | refine Br.kn kpA ?_ | refine Br.nky kpA ?_ | refine Br.nkn kpA ?_
    | refine Br.eq0 (fun _ => ?_) (fun _ => ?_) | refine Br.neq0 (fun _ => ?_) (fun _ => ?_) | refine Br.eq (fun _ => ?_) (fun _ => ?_) | refine Br.neq (fun _ => ?_) (fun _ => ?_) | refine Br.not (fun _ => ?_) (fun _ => ?_) | refine Br.dec (fun _ => ?_) (fun _ => ?_) | refine Br.bool (fun _ => ?_) (fun _ => ?_)
    | ((with_reducible apply TL.alloc_ag); (· rfl); intro _) | ((with_reducible apply TL.alloc_sc); (· rfl); (· rfl); intro _) | ((with_reducible apply TL.box_ag); (· rfl); (· rfl); intro _) | ((with_reducible apply TL.box_sc); (· rfl); (· rfl); (· rfl); intro _))
    refine TQ.less h04 ?_
    refine TQ.endR1 (L' := []) Tryz.results9 rvA rfl (.refl _) ?_ selF
    exact ⟨rfl, rfl, rfl⟩
  | some z =>
    obtain ⟨rfl, lp, hst, lkx, hd⟩ := dropE_some ho
    have lkz := drop_look lx lkx hd
    dsimp only at PU RP
    clear ho hX hst hd
    repeat' (first
    | ((with_reducible apply TL.pure); (· exact yQ); (· rfl))
    | ((with_reducible apply TL.pure); (· exact yV); (· rfl)) | ((with_reducible apply TW.pure); (· exact yV); (· rfl))
    | ((with_reducible apply TL.gives_plain); (· kernel_rfl); (· rfl); (· exact L1 _); (· rfl)) | ((with_reducible apply TW.gives_plain); (· kernel_rfl); (· rfl); (· exact L1 _); (· rfl))
    | (refine TL.makes (Enters.plain (by kernel_rfl) (by rfl)) (TX0 _) (by rfl) ?_; (rintro v1 g2 h02 j1; have P1 := PU g2 h02 v1 j1; clear PU TX0))
    | (refine TL.call (Enters.plain (by kernel_rfl) (by rfl)) (by rfl) (P1 _) ?_; (rintro e g3 Ln h3b ⟨v3, e3, k1, k2, o3, r3⟩; have k2 := k2.symm; subst k1; subst k2; (obtain ⟨rfl, j3, z3⟩ := r3; have h03 := h02.trans h3b; have R1 := RP g3 h03; have l3 := IsJ.len _ _ j3; clear P1 RP); refine CallK.ret ?_))
    | (refine TL.call (Enters.plain (by kernel_rfl) (by rfl)) (by rfl) (R1 _) ?_; (rintro e g4 Ln h4 ⟨cz, es, zz, k1, k2, hz, hm⟩; have k2 := k2.symm; subst k1; subst k2; (obtain ⟨rfl, rfl, wz⟩ := hm); obtain ⟨qk, qb, qn, qs, qi, qil, qic, qm, qml, qmc, rfl⟩ := hz.form; (have h04 := h03.trans h4; have T4 := fun L => told06_makes _ zz (Nat.le_refl _) _ g4 L hz (wf_of_N _ _ wz (by decide)); clear R1); refine CallK.ret ?_))
    | (refine TL.makes (Enters.plain (by kernel_rfl) (by rfl)) (T4 _) (by rfl) ?_; (rintro v5 g5 h5 j5; have h05 := h04.trans h5; have S5 := SM g5 h05 _ v3 v5 (IsJ.le (h4.trans h5) _ _ j3) j5 l3 (sm_of_sz _ _ z3 (by decide)) lkz; have TX5 := TX g5 h05; clear T4 TX))
    | ((with_reducible apply TL.gives_plain); (· kernel_rfl); (· rfl); (· exact S5 _); (· rfl)) | ((with_reducible apply TW.gives_plain); (· kernel_rfl); (· rfl); (· exact S5 _); (· rfl))
    | (refine TL.makes (Enters.plain (by kernel_rfl) (by rfl)) (TX5 _) (by rfl) ?_; (rintro v6 g6 h6 j6; have h06 := h05.trans h6; have S6 := SM g6 h06 _ v1 v6 (IsJ.le ((h3b.trans h4).trans (h5.trans h6)) _ _ j1) j6 lx sx lkx; have AW6 := AW g6 h06; clear AW SM TX5 S5))
    | ((with_reducible apply TL.gives_plain); (· kernel_rfl); (· rfl); (· exact S6 _); (· rfl)) | ((with_reducible apply TW.gives_plain); (· kernel_rfl); (· rfl); (· exact S6 _); (· rfl))
    | ((with_reducible apply TL.gives_plain); (· kernel_rfl); (· rfl); (· exact AW6 _); (· rfl)) | ((with_reducible apply TW.gives_plain); (· kernel_rfl); (· rfl); (· exact AW6 _); (· rfl))
    | ((with_reducible apply TL.pure); (· exact yA); (· rfl))
    | refine TC.seq ?_ | refine TC.region ?_ | refine TL.nil ?_ | refine TQ.then_normal ?_
    | ((with_reducible apply TL.storeE); (· rfl); (· rfl); (· rfl); (· exact pkA); (· infer_instance)) | ((with_reducible apply TL.store_whole); (· rfl); (· rfl); (· exact oneA); (· rfl); (· exact pkA); (· rfl))
    | refine TC.block ?_ | refine TC.ret ?_ | refine TC.skip ?_ | refine TC.exit ?_ | refine TC.cond rfl ?_
    | refine TQ.down ?_ | refine TQ.in_exit' rfl ?_
    | refine TL.guard_yes rfl rfl ?_ | refine TL.guard_no rfl rfl rfl rfl ?_ | refine TL.guard_no0 rfl rfl rfl ?_ | refine TL.guard_undef rfl rfl rfl ?_ | refine TL.guard_undef0 rfl rfl ?_ | refine TL.guard rfl rfl rfl ?_
    | refine Br.t rfl ?_ | refine Br.f rfl ?_ | refine Br.ky kpA ?_ | refine Br.kn kpA ?_ | refine Br.nky kpA ?_ | refine Br.nkn kpA ?_
    | refine Br.eq0 (fun _ => ?_) (fun _ => ?_) | refine Br.neq0 (fun _ => ?_) (fun _ => ?_) | refine Br.eq (fun _ => ?_) (fun _ => ?_) | refine Br.neq (fun _ => ?_) (fun _ => ?_) | refine Br.not (fun _ => ?_) (fun _ => ?_) | refine Br.dec (fun _ => ?_) (fun _ => ?_) | refine Br.bool (fun _ => ?_) (fun _ => ?_)
    | ((with_reducible apply TL.alloc_ag); (· rfl); intro _) | ((with_reducible apply TL.alloc_sc); (· rfl); (· rfl); intro _) | ((with_reducible apply TL.box_ag); (· rfl); (· rfl); intro _) | ((with_reducible apply TL.box_sc); (· rfl); (· rfl); (· rfl); intro _))
    refine TQ.less h06 ?_
    refine TQ.endR1 (L' := []) Tryz.results9 rvA rfl (.refl _) ?_ selF
    exact ⟨rfl, rfl, rfl⟩
end Go.Proofs.YtacogbfgegcliaaGreatDoor
