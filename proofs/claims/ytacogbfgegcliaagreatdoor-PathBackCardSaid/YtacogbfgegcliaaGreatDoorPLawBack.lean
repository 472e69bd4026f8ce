/-
  The law PathBack.
-/
import Derived.Test.YtacogbfgegcliaaGreatDoorPAwake
import Derived.Test.YtacogbfgegcliaaGreatDoorTold06
import Derived.Test.YtacogbfgegcliaaGreatDoorLight
namespace Go.Proofs.YtacogbfgegcliaaGreatDoor
open Go.RowKit Go.TL
set_option maxRecDepth 100000

set_option maxHeartbeats 64000000 in
theorem lawPathBack (x : DV) (p : List UInt8) (y : DV) (cs : List Value) (ys : List Value) (g : Gh) (hX : IsV g x cs) (hp : p.length ≤ 9223372036854775807) (hY : IsV g y ys) (hE : GErr g) (hT : GTabs g) (hU : GU8 g) : Gives Tryz.prog 10 #[.agg cs.toArray, str p, .agg ys.toArray] g [] (.bool true) := by
  refine .of (Does.of3 Tryz.func10 rfl Tryz.ntmps10 rfl ?_)
  have L1 := fun L => light_gives x cs g L hX
  have L2 := fun L => light_gives y ys g L hY
  have l1 := hX.len
  have l2 := hY.len
  cases hx : lightB x with
  | false =>
    rw [hx] at L1
    clear hX hY
    repeat' (first
    | ((with_reducible apply TL.pure); (· exact yV); (· rfl)) | ((with_reducible apply TW.pure); (· exact yV); (· rfl))
    | ((with_reducible apply TL.gives_plain); (· kernel_rfl); (· rfl); (· exact L1 _); (· rfl)) | ((with_reducible apply TW.gives_plain); (· kernel_rfl); (· rfl); (· exact L1 _); (· rfl))
    | ((with_reducible apply TL.pure); (· exact yA); (· rfl))
    | refine TC.seq ?_ | refine TC.region ?_ | refine TL.nil ?_ | refine TQ.then_normal ?_
    | ((with_reducible apply TL.storeE); (· rfl); (· rfl); (· rfl); (· exact pkA); (· infer_instance)) | ((with_reducible apply TL.store_whole); (· rfl); (· rfl); (· exact oneA); (· rfl); (· exact pkA); (· rfl))
    | refine TC.block ?_ | refine TC.ret ?_ | refine TC.skip ?_ | refine TC.exit ?_ | refine TC.cond rfl ?_
    | refine TQ.down ?_ | refine TQ.in_exit' rfl ?_
    | refine TL.guard_yes rfl rfl ?_ | refine TL.guard_no rfl rfl rfl rfl ?_ | refine TL.guard_no0 rfl rfl rfl ?_ | refine TL.guard_undef rfl rfl rfl ?_ | refine TL.guard_undef0 rfl rfl ?_ | refine TL.guard rfl rfl rfl ?_
    | refine Br.t rfl ?_ | refine Br.f rfl ?_ | refine Br.ky kpA ?_ | refine Br.kn kpA ?_ | refine Br.nky kpA ?_ | refine Br.nkn kpA ?_
    | refine Br.eq0 (fun _ => ?_) (fun _ => ?_) | refine Br.neq0 (fun _ => ?_) (fun _ => ?_) | refine Br.eq (fun _ => ?_) (fun _ => ?_) | refine Br.neq (fun _ => ?_) (fun _ => ?_) | refine Br.not (fun _ => ?_) (fun _ => ?_) | refine Br.dec (fun _ => ?_) (fun _ => ?_) | refine Br.bool (fun _ => ?_) (fun _ => ?_)
    | ((with_reducible apply TL.alloc_ag); (· rfl); intro _) | ((with_reducible apply TL.alloc_sc); (· rfl); (· rfl); intro _) | ((with_reducible apply TL.box_ag); (· rfl); (· rfl); intro _) | ((with_reducible apply TL.box_sc); (· rfl); (· rfl); (· rfl); intro _))
    refine TQ.endR1 (L' := []) Tryz.results10 rvA rfl (.refl _) ?_ selA
    exact ⟨rfl, rfl, rfl⟩
  | true =>
  rw [hx] at L1
  cases hy : lightB y with
  | false =>
    rw [hy] at L2
    clear hX hY
    repeat' (first
    | ((with_reducible apply TL.pure); (· exact yV); (· rfl)) | ((with_reducible apply TW.pure); (· exact yV); (· rfl))
    | ((with_reducible apply TL.gives_plain); (· kernel_rfl); (· rfl); (· exact L1 _); (· rfl)) | ((with_reducible apply TW.gives_plain); (· kernel_rfl); (· rfl); (· exact L1 _); (· rfl))
    | ((with_reducible apply TL.gives_plain); (· kernel_rfl); (· rfl); (· exact L2 _); (· rfl)) | ((with_reducible apply TW.gives_plain); (· kernel_rfl); (· rfl); (· exact L2 _); (· rfl))
    | ((with_reducible apply TL.pure); (· exact yA); (· rfl))
    | refine TC.seq ?_ | refine TC.region ?_ | refine TL.nil ?_ | refine TQ.then_normal ?_
    | ((with_reducible apply TL.storeE); (· rfl); (· rfl); (· rfl); (· exact pkA); (· infer_instance)) | ((with_reducible apply TL.store_whole); (· rfl); (· rfl); (· exact oneA); (· rfl); (· exact pkA); (· rfl))
    | refine TC.block ?_ | refine TC.ret ?_ | refine TC.skip ?_ | refine TC.exit ?_ | refine TC.cond rfl ?_
    | refine TQ.down ?_ | refine TQ.in_exit' rfl ?_
    | refine TL.guard_yes rfl rfl ?_ | refine TL.guard_no rfl rfl rfl rfl ?_ | refine TL.guard_no0 rfl rfl rfl ?_ | refine TL.guard_undef rfl rfl rfl ?_ | refine TL.guard_undef0 rfl rfl ?_ | refine TL.guard rfl rfl rfl ?_
    | refine Br.t rfl ?_ | refine Br.f rfl ?_ | refine Br.ky kpA ?_ | refine Br.kn kpA ?_ | refine Br.nky kpA ?_ | refine Br.nkn kpA ?_
    | refine Br.eq0 (fun _ => ?_) (fun _ => ?_) | refine Br.neq0 (fun _ => ?_) (fun _ => ?_) | refine Br.eq (fun _ => ?_) (fun _ => ?_) | refine Br.neq (fun _ => ?_) (fun _ => ?_) | refine Br.not (fun _ => ?_) (fun _ => ?_) | refine Br.dec (fun _ => ?_) (fun _ => ?_) | refine Br.bool (fun _ => ?_) (fun _ => ?_)
    | ((with_reducible apply TL.alloc_ag); (· rfl); intro _) | ((with_reducible apply TL.alloc_sc); (· rfl); (· rfl); intro _) | ((with_reducible apply TL.box_ag); (· rfl); (· rfl); intro _) | ((with_reducible apply TL.box_sc); (· rfl); (· rfl); (· rfl); intro _))
    refine TQ.endR1 (L' := []) Tryz.results10 rvA rfl (.refl _) ?_ selA
    exact ⟨rfl, rfl, rfl⟩
  | true =>
  rw [hy] at L2
  by_cases h3 : 300 < p.length
  · clear hX hY
    repeat' (first
    | ((with_reducible apply TL.pure); (· exact yV); (· rfl)) | ((with_reducible apply TW.pure); (· exact yV); (· rfl))
    | ((with_reducible apply TL.gives_plain); (· kernel_rfl); (· rfl); (· exact L1 _); (· rfl)) | ((with_reducible apply TW.gives_plain); (· kernel_rfl); (· rfl); (· exact L1 _); (· rfl))
    | ((with_reducible apply TL.gives_plain); (· kernel_rfl); (· rfl); (· exact L2 _); (· rfl)) | ((with_reducible apply TW.gives_plain); (· kernel_rfl); (· rfl); (· exact L2 _); (· rfl))
    | ((with_reducible apply TL.pure); (· exact yA); (· rfl))
    | refine TC.seq ?_ | refine TC.region ?_ | refine TL.nil ?_ | refine TQ.then_normal ?_
    | ((with_reducible apply TL.storeE); (· rfl); (· rfl); (· rfl); (· exact pkA); (· infer_instance)) | ((with_reducible apply TL.store_whole); (· rfl); (· rfl); (· exact oneA); (· rfl); (· exact pkA); (· rfl))
    | refine TC.block ?_ | refine TC.ret ?_ | refine TC.skip ?_ | refine TC.exit ?_ | refine TC.cond rfl ?_
    | refine TQ.down ?_ | refine TQ.in_exit' rfl ?_
    | refine TL.guard_yes rfl rfl ?_ | refine TL.guard_no rfl rfl rfl rfl ?_ | refine TL.guard_no0 rfl rfl rfl ?_ | refine TL.guard_undef rfl rfl rfl ?_ | refine TL.guard_undef0 rfl rfl ?_ | refine TL.guard rfl rfl rfl ?_
    | refine Br.t rfl ?_ | refine Br.f rfl ?_ | refine Br.ky kpA ?_ | refine Br.kn kpA ?_ | refine Br.nky kpA ?_ | refine Br.nkn kpA ?_
    | refine Br.eq0 (fun _ => ?_) (fun _ => ?_) | refine Br.neq0 (fun _ => ?_) (fun _ => ?_) | refine Br.eq (fun _ => ?_) (fun _ => ?_) | refine Br.neq (fun _ => ?_) (fun _ => ?_) | refine Br.not (fun _ => ?_) (fun _ => ?_) | refine Br.dec (fun _ => ?_) (fun _ => ?_) | refine Br.bool (fun _ => ?_) (fun _ => ?_)
    | ((with_reducible apply TL.alloc_ag); (· rfl); intro _) | ((with_reducible apply TL.alloc_sc); (· rfl); (· rfl); intro _) | ((with_reducible apply TL.box_ag); (· rfl); (· rfl); intro _) | ((with_reducible apply TL.box_sc); (· rfl); (· rfl); (· rfl); intro _))
    refine TQ.endR1 (L' := []) Tryz.results10 rvA rfl (.refl _) ?_ selA
    exact ⟨rfl, rfl, rfl⟩
  have wx := wf_of_light hx
  have wy := wf_of_light hy
  obtain ⟨zx, lx⟩ := sz_toJ _ x (Nat.le_refl _) 300 (wfN_of_light hx)
  obtain ⟨zy, ly⟩ := sz_toJ _ y (Nat.le_refl _) 300 (wfN_of_light hy)
  have AW := fun (g2 : Gh) (h : g.le g2) L => awake06_gives (g := g2) (L := L) (hE.le h) (hT.le h) (hU.le h)
  have PU := fun (g2 : Gh) (h : g.le g2) (v w : Value) (hv : IsJ g2 (toJ x) v) (hw : IsJ g2 (toJ y) w) L => puts_does 300 (by decide) (by decide) p (toJ x) (toJ y) v w g2 L (by omega) hv hw zx zy (hE.le h) (hT.le h) (hU.le h)
  unfold PutsR at PU
  obtain ⟨e0, o0, ho⟩ : ∃ e0 o0, putE (toJ x) p (toJ y) = (e0, o0) := ⟨_, _, rfl⟩
  rw [ho] at PU
  cases o0 with
  | none =>
    have hne := putE_none ho
    clear ho
    repeat' (first
    | ((with_reducible apply TL.pure); (· exact yV); (· rfl)) | ((with_reducible apply TW.pure); (· exact yV); (· rfl))
    | ((with_reducible apply TL.gives_plain); (· kernel_rfl); (· rfl); (· exact L1 _); (· rfl)) | ((with_reducible apply TW.gives_plain); (· kernel_rfl); (· rfl); (· exact L1 _); (· rfl))
    | ((with_reducible apply TL.gives_plain); (· kernel_rfl); (· rfl); (· exact L2 _); (· rfl)) | ((with_reducible apply TW.gives_plain); (· kernel_rfl); (· rfl); (· exact L2 _); (· rfl))
    | (refine TL.makes (Enters.plain (by kernel_rfl) (by rfl)) (told06_makes _ x (Nat.le_refl _) cs g _ hX wx) (by rfl) ?_; (rintro v1 g1 h1 j1))
    | (refine TL.makes (Enters.plain (by kernel_rfl) (by rfl)) (told06_makes _ y (Nat.le_refl _) ys g1 _ (IsV.le h1 _ _ hY) wy) (by rfl) ?_; (rintro v2 g2 h2 j2; have h02 := h1.trans h2; have P1 := PU g2 h02 v1 v2 (IsJ.le h2 _ _ j1) j2; clear PU))
    | (refine TL.call (Enters.plain (by kernel_rfl) (by rfl)) (by rfl) (P1 _) ?_; (rintro e g3 Ln h3b ⟨v3, e3, k1, k2, o3, r3⟩; have k2 := k2.symm; subst k1; subst k2; (obtain ⟨rfl, hn3, rfl⟩ := r3; have h03 := h02.trans h3b; have AW1 := AW g3 h03; have hz3 : Hn (¬ ((e3 : Nat) : Int) = 0) := ⟨by omega⟩; clear P1 AW); refine CallK.ret ?_))
    | ((with_reducible apply TL.gives_plain); (· kernel_rfl); (· rfl); (· exact AW1 _); (· rfl)) | ((with_reducible apply TW.gives_plain); (· kernel_rfl); (· rfl); (· exact AW1 _); (· rfl))
    | ((with_reducible apply TA.take 0); (· decide +kernel); (· rfl); (· (first | exact yA | exact yB | exact yM | exact yV)); (· decide +kernel); (· decide +kernel); (· rfl); (· exact fun _ _ _ h => h); (· rfl))
    | ((with_reducible apply TA.take 1); (· decide +kernel); (· rfl); (· (first | exact yA | exact yB | exact yM | exact yV)); (· decide +kernel); (· decide +kernel); (· rfl); (· exact fun _ _ _ h => h); (· rfl))
    | ((with_reducible apply TA.take 2); (· decide +kernel); (· rfl); (· (first | exact yA | exact yB | exact yM | exact yV)); (· decide +kernel); (· decide +kernel); (· rfl); (· exact fun _ _ _ h => h); (· rfl))
    | ((with_reducible apply TA.take 3); (· decide +kernel); (· rfl); (· (first | exact yA | exact yB | exact yM | exact yV)); (· decide +kernel); (· decide +kernel); (· rfl); (· exact fun _ _ _ h => h); (· rfl))
    | ((with_reducible apply TA.take 4); (· decide +kernel); (· rfl); (· (first | exact yA | exact yB | exact yM | exact yV)); (· decide +kernel); (· decide +kernel); (· rfl); (· exact fun _ _ _ h => h); (· rfl))
    | ((with_reducible apply TA.take 5); (· decide +kernel); (· rfl); (· (first | exact yA | exact yB | exact yM | exact yV)); (· decide +kernel); (· decide +kernel); (· rfl); (· exact fun _ _ _ h => h); (· rfl))
    | ((with_reducible apply TA.take 6); (· decide +kernel); (· rfl); (· (first | exact yA | exact yB | exact yM | exact yV)); (· decide +kernel); (· decide +kernel); (· rfl); (· exact fun _ _ _ h => h); (· rfl))
    | ((with_reducible apply TA.take 7); (· decide +kernel); (· rfl); (· (first | exact yA | exact yB | exact yM | exact yV)); (· decide +kernel); (· decide +kernel); (· rfl); (· exact fun _ _ _ h => h); (· rfl))
    | ((with_reducible apply TA.take 8); (· decide +kernel); (· rfl); (· (first | exact yA | exact yB | exact yM | exact yV)); (· decide +kernel); (· decide +kernel); (· rfl); (· exact fun _ _ _ h => h); (· rfl))
    | ((with_reducible apply TA.take 9); (· decide +kernel); (· rfl); (· (first | exact yA | exact yB | exact yM | exact yV)); (· decide +kernel); (· decide +kernel); (· rfl); (· exact fun _ _ _ h => h); (· rfl))
    | ((with_reducible apply TA.take 10); (· decide +kernel); (· rfl); (· (first | exact yA | exact yB | exact yM | exact yV)); (· decide +kernel); (· decide +kernel); (· rfl); (· exact fun _ _ _ h => h); (· rfl))
    | ((with_reducible apply TA.one 0); (· rfl); (· decide +kernel); (· rfl))
    | ((with_reducible apply TA.one 1); (· rfl); (· decide +kernel); (· rfl))
    | ((with_reducible apply TA.one 2); (· rfl); (· decide +kernel); (· rfl))
    | ((with_reducible apply TA.one 3); (· rfl); (· decide +kernel); (· rfl))
    | ((with_reducible apply TA.one 4); (· rfl); (· decide +kernel); (· rfl))
    | ((with_reducible apply TA.one 5); (· rfl); (· decide +kernel); (· rfl))
    | ((with_reducible apply TA.one 6); (· rfl); (· decide +kernel); (· rfl))
    | ((with_reducible apply TA.one 7); (· rfl); (· decide +kernel); (· rfl))
    | ((with_reducible apply TA.one 8); (· rfl); (· decide +kernel); (· rfl))
    | ((with_reducible apply TA.one 9); (· rfl); (· decide +kernel); (· rfl))
    | ((with_reducible apply TA.one 10); (· rfl); (· decide +kernel); (· rfl))
    | refine TQ.any (by first | exact .refl _ | assumption) selA ?_
    | refine TC.region_any 11 (_) (by kernel_rfl) rfl selA ?_ | refine TA.done (by decide +kernel) ?_ | refine TQ.any_panic ?_
    | ((with_reducible apply TL.pure); (· exact yA); (· rfl))
    | refine TC.seq ?_ | refine TC.region ?_ | refine TL.nil ?_ | refine TQ.then_normal ?_
    | ((with_reducible apply TL.storeE); (· rfl); (· rfl); (· rfl); (· exact pkA); (· infer_instance)) | ((with_reducible apply TL.store_whole); (· rfl); (· rfl); (· exact oneA); (· rfl); (· exact pkA); (· rfl))
    | refine TC.block ?_ | refine TC.ret ?_ | refine TC.skip ?_ | refine TC.exit ?_ | refine TC.cond rfl ?_
    | refine TQ.down ?_ | refine TQ.in_exit' rfl ?_
    | refine TL.guard_yes rfl rfl ?_ | refine TL.guard_no rfl rfl rfl rfl ?_ | refine TL.guard_no0 rfl rfl rfl ?_ | refine TL.guard_undef rfl rfl rfl ?_ | refine TL.guard_undef0 rfl rfl ?_ | refine TL.guard rfl rfl rfl ?_
    | refine Br.t rfl ?_ | refine Br.f rfl ?_ | refine Br.ky kpA ?_ | refine Br.kn kpA ?_ | refine Br.nky kpA ?_ | refine Br.nkn kpA ?_
    | refine Br.eq0 (fun _ => ?_) (fun _ => ?_) | refine Br.neq0 (fun _ => ?_) (fun _ => ?_) | refine Br.eq (fun _ => ?_) (fun _ => ?_) | refine Br.neq (fun _ => ?_) (fun _ => ?_) | refine Br.not (fun _ => ?_) (fun _ => ?_) | refine Br.dec (fun _ => ?_) (fun _ => ?_) | refine Br.bool (fun _ => ?_) (fun _ => ?_)
    | ((with_reducible apply TL.alloc_ag); (· rfl); intro _) | ((with_reducible apply TL.alloc_sc); (· rfl); (· rfl); intro _) | ((with_reducible apply TL.box_ag); (· rfl); (· rfl); intro _) | ((with_reducible apply TL.box_sc); (· rfl); (· rfl); (· rfl); intro _))
    refine TQ.less h03 ?_
    refine TQ.endR1 (L' := []) Tryz.results10 rvA rfl (.refl _) ?_ selA
    exact ⟨rfl, rfl, rfl⟩
  | some z =>
    obtain ⟨rfl, _⟩ := putE_some ho
    obtain ⟨hb1, hb2⟩ := putE_back lx ho
    obtain ⟨_, l, hl, lkx, lky, _, lkz⟩ := putE_some ho
    have hsy := Same_refl ly lky
    have SY := fun (g2 : Gh) (h : g.le g2) (v w : Value) (hv : IsJ g2 (toJ y) v) (hw : IsJ g2 (toJ y) w) L => Same_gives (toJ y) (toJ y) v w g2 L hv hw (sm_of_sz _ _ zy (by decide)) (sm_of_sz _ _ zy (by decide)) (hT.le h) (hU.le h)
    rw [hsy] at SY
    have GE := fun (g2 : Gh) (h : g.le g2) (v : Value) (hv : IsJ g2 z v) (hs : smJ z) L => get_does p z v g2 L (by omega) hv hs (hE.le h) (hT.le h) (hU.le h)
    unfold GetR at GE
    rw [hb1] at GE
    have P2 := fun (g2 : Gh) (h : g.le g2) (v w : Value) (hv : IsJ g2 z v) (hw : IsJ g2 (toJ y) w) (zz : szJ 301 z) L => puts_does 301 (by decide) (by decide) p z (toJ y) v w g2 L (by omega) hv hw zz (sz_up _ _ _ zy (by decide)) (hE.le h) (hT.le h) (hU.le h)
    unfold PutsR at P2
    rw [hb2] at P2
    have SZ := fun (g2 : Gh) (h : g.le g2) (v w : Value) (hv : IsJ g2 z v) (hw : IsJ g2 z w) (hs : smJ z) L => Same_gives z z v w g2 L hv hw hs hs (hT.le h) (hU.le h)
    have HZ := fun (lz : lenJ z) => Same_refl lz lkz
    clear ho hl hb1 hb2 hsy
    repeat' (first
    | ((with_reducible apply TL.pure); (· exact yV); (· rfl)) | ((with_reducible apply TW.pure); (· exact yV); (· rfl))
    | ((with_reducible apply TL.gives_plain); (· kernel_rfl); (· rfl); (· exact L1 _); (· rfl)) | ((with_reducible apply TW.gives_plain); (· kernel_rfl); (· rfl); (· exact L1 _); (· rfl))
    | ((with_reducible apply TL.gives_plain); (· kernel_rfl); (· rfl); (· exact L2 _); (· rfl)) | ((with_reducible apply TW.gives_plain); (· kernel_rfl); (· rfl); (· exact L2 _); (· rfl))
    | (refine TL.makes (Enters.plain (by kernel_rfl) (by rfl)) (told06_makes _ x (Nat.le_refl _) cs g _ hX wx) (by rfl) ?_; (rintro v1 g1 h1 j1))
    | (refine TL.makes (Enters.plain (by kernel_rfl) (by rfl)) (told06_makes _ y (Nat.le_refl _) ys g1 _ (IsV.le h1 _ _ hY) wy) (by rfl) ?_; (rintro v2 g2 h2 j2; have h02 := h1.trans h2; have P1 := PU g2 h02 v1 v2 (IsJ.le h2 _ _ j1) j2; clear PU))
    | (refine TL.call (Enters.plain (by kernel_rfl) (by rfl)) (by rfl) (P1 _) ?_; (rintro e g3 Ln h3b ⟨v3, e3, k1, k2, o3, r3⟩; have k2 := k2.symm; subst k1; subst k2; (obtain ⟨rfl, j3, z3⟩ := r3; have h03 := h02.trans h3b; have sm3 := sm_of_sz _ _ z3 (by decide); have G3 := GE g3 h03 v3 j3 sm3; clear P1 GE); refine CallK.ret ?_))
    | (refine TL.call (Enters.plain (by kernel_rfl) (by rfl)) (by rfl) (G3 _) ?_; (rintro e g4 Ln h4 ⟨v4, e4, k1, k2, o4, r4⟩; have k2 := k2.symm; subst k1; subst k2; (obtain ⟨rfl, j4⟩ := r4; have h04 := h03.trans h4; have P4 := P2 g4 h04 v3 v4 (IsJ.le h4 _ _ j3) j4 z3; clear G3 P2); refine CallK.ret ?_))
    | (refine TL.call (Enters.plain (by kernel_rfl) (by rfl)) (by rfl) (P4 _) ?_; (rintro e g5 Ln h5 ⟨v5, e5, k1, k2, o5, r5⟩; have k2 := k2.symm; subst k1; subst k2; (obtain ⟨rfl, j5, z5⟩ := r5; have h05 := h04.trans h5; clear P4); refine CallK.ret ?_))
    | (refine TL.makes (Enters.plain (by kernel_rfl) (by rfl)) (told06_makes _ y (Nat.le_refl _) ys g5 _ (IsV.le h05 _ _ hY) wy) (by rfl) ?_; (rintro v6 g6 h6 j6; have h06 := h05.trans h6; have SY6 := SY g6 h06 v4 v6 (IsJ.le (h5.trans h6) _ _ j4) j6; have SZ6 := SZ g6 h06 v5 v3 (IsJ.le h6 _ _ j5) (IsJ.le ((h4.trans h5).trans h6) _ _ j3) sm3; rw [HZ (IsJ.len _ _ j3)] at SZ6; have AW1 := AW g6 h06; clear SY SZ AW))
    | ((with_reducible apply TL.gives_plain); (· kernel_rfl); (· rfl); (· exact SY6 _); (· rfl)) | ((with_reducible apply TW.gives_plain); (· kernel_rfl); (· rfl); (· exact SY6 _); (· rfl))
    | ((with_reducible apply TL.gives_plain); (· kernel_rfl); (· rfl); (· exact SZ6 _); (· rfl)) | ((with_reducible apply TW.gives_plain); (· kernel_rfl); (· rfl); (· exact SZ6 _); (· rfl))
    | ((with_reducible apply TL.gives_plain); (· kernel_rfl); (· rfl); (· exact AW1 _); (· rfl)) | ((with_reducible apply TW.gives_plain); (· kernel_rfl); (· rfl); (· exact AW1 _); (· rfl))
    | ((with_reducible apply TA.take 0); (· decide +kernel); (· rfl); (· (first | exact yA | exact yB | exact yM | exact yV)); (· decide +kernel); (· decide +kernel); (· rfl); (· exact fun _ _ _ h => h); (· rfl))
    | ((with_reducible apply TA.take 1); (· decide +kernel); (· rfl); (· (first | exact yA | exact yB | exact yM | exact yV)); (· decide +kernel); (· decide +kernel); (· rfl); (· exact fun _ _ _ h => h); (· rfl))
    | ((with_reducible apply TA.take 2); (· decide +kernel); (· rfl); (· (first | exact yA | exact yB | exact yM | exact yV)); (· decide +kernel); (· decide +kernel); (· rfl); (· exact fun _ _ _ h => h); (· rfl))
    | ((with_reducible apply TA.take 3); (· decide +kernel); (· rfl); (· (first | exact yA | exact yB | exact yM | exact yV)); (· decide +kernel); (· decide +kernel); (· rfl); (· exact fun _ _ _ h => h); (· rfl))
    | ((with_reducible apply TA.take 4); (· decide +kernel); (· rfl); (· (first | exact yA | exact yB | exact yM | exact yV)); (· decide +kernel); (· decide +kernel); (· rfl); (· exact fun _ _ _ h => h); (· rfl))
    | ((with_reducible apply TA.take 5); (· decide +kernel); (· rfl); (· (first | exact yA | exact yB | exact yM | exact yV)); (· decide +kernel); (· decide +kernel); (· rfl); (· exact fun _ _ _ h => h); (· rfl))
    | ((with_reducible apply TA.take 6); (· decide +kernel); (· rfl); (· (first | exact yA | exact yB | exact yM | exact yV)); (· decide +kernel); (· decide +kernel); (· rfl); (· exact fun _ _ _ h => h); (· rfl))
    | ((with_reducible apply TA.take 7); (· decide +kernel); (· rfl); (· (first | exact yA | exact yB | exact yM | exact yV)); (· decide +kernel); (· decide +kernel); (· rfl); (· exact fun _ _ _ h => h); (· rfl))
    | ((with_reducible apply TA.take 8); (· decide +kernel); (· rfl); (· (first | exact yA | exact yB | exact yM | exact yV)); (· decide +kernel); (· decide +kernel); (· rfl); (· exact fun _ _ _ h => h); (· rfl))
    | ((with_reducible apply TA.take 9); (· decide +kernel); (· rfl); (· (first | exact yA | exact yB | exact yM | exact yV)); (· decide +kernel); (· decide +kernel); (· rfl); (· exact fun _ _ _ h => h); (· rfl))
    | ((with_reducible apply TA.take 10); (· decide +kernel); (· rfl); (· (first | exact yA | exact yB | exact yM | exact yV)); (· decide +kernel); (· decide +kernel); (· rfl); (· exact fun _ _ _ h => h); (· rfl))
    | ((with_reducible apply TA.one 0); (· rfl); (· decide +kernel); (· rfl))
    | ((with_reducible apply TA.one 1); (· rfl); (· decide +kernel); (· rfl))
    | ((with_reducible apply TA.one 2); (· rfl); (· decide +kernel); (· rfl))
    | ((with_reducible apply TA.one 3); (· rfl); (· decide +kernel); (· rfl))
    | ((with_reducible apply TA.one 4); (· rfl); (· decide +kernel); (· rfl))
    | ((with_reducible apply TA.one 5); (· rfl); (· decide +kernel); (· rfl))
    | ((with_reducible apply TA.one 6); (· rfl); (· decide +kernel); (· rfl))
    | ((with_reducible apply TA.one 7); (· rfl); (· decide +kernel); (· rfl))
    | ((with_reducible apply TA.one 8); (· rfl); (· decide +kernel); (· rfl))
    | ((with_reducible apply TA.one 9); (· rfl); (· decide +kernel); (· rfl))
    | ((with_reducible apply TA.one 10); (· rfl); (· decide +kernel); (· rfl))
    | refine TQ.any (by first | exact .refl _ | assumption) selA ?_
    | refine TC.region_any 11 (_) (by kernel_rfl) rfl selA ?_ | refine TA.done (by decide +kernel) ?_ | refine TQ.any_panic ?_
    | ((with_reducible apply TL.pure); (· exact yA); (· rfl))
    | refine TC.seq ?_ | refine TC.region ?_ | refine TL.nil ?_ | refine TQ.then_normal ?_
    | ((with_reducible apply TL.storeE); (· rfl); (· rfl); (· rfl); (· exact pkA); (· infer_instance)) | ((with_reducible apply TL.store_whole); (· rfl); (· rfl); (· exact oneA); (· rfl); (· exact pkA); (· rfl))
    | refine TC.block ?_ | refine TC.ret ?_ | refine TC.skip ?_ | refine TC.exit ?_ | refine TC.cond rfl ?_
    | refine TQ.down ?_ | refine TQ.in_exit' rfl ?_
    | refine TL.guard_yes rfl rfl ?_ | refine TL.guard_no rfl rfl rfl rfl ?_ | refine TL.guard_no0 rfl rfl rfl ?_ | refine TL.guard_undef rfl rfl rfl ?_ | refine TL.guard_undef0 rfl rfl ?_ | refine TL.guard rfl rfl rfl ?_
    | refine Br.t rfl ?_ | refine Br.f rfl ?_ | refine Br.ky kpA ?_ | refine Br.kn kpA ?_ | refine Br.nky kpA ?_ | refine Br.nkn kpA ?_
    | refine Br.eq0 (fun _ => ?_) (fun _ => ?_) | refine Br.neq0 (fun _ => ?_) (fun _ => ?_) | refine Br.eq (fun _ => ?_) (fun _ => ?_) | refine Br.neq (fun _ => ?_) (fun _ => ?_) | refine Br.not (fun _ => ?_) (fun _ => ?_) | refine Br.dec (fun _ => ?_) (fun _ => ?_) | refine Br.bool (fun _ => ?_) (fun _ => ?_)
    | ((with_reducible apply TL.alloc_ag); (· rfl); intro _) | ((with_reducible apply TL.alloc_sc); (· rfl); (· rfl); intro _) | ((with_reducible apply TL.box_ag); (· rfl); (· rfl); intro _) | ((with_reducible apply TL.box_sc); (· rfl); (· rfl); (· rfl); intro _))
    refine TQ.less h06 ?_
    refine TQ.endR1 (L' := []) Tryz.results10 rvA rfl (.refl _) ?_ selA
    exact ⟨rfl, rfl, rfl⟩
end Go.Proofs.YtacogbfgegcliaaGreatDoor
