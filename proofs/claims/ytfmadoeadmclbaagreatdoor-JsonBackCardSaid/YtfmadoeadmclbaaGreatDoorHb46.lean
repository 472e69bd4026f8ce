/-
  The law JsonBack.
-/
import Derived.Test.YtfmadoeadmclbaaGreatDoorHb42
import Derived.Test.YtfmadoeadmclbaaGreatDoorHb43
import Derived.Test.YtfmadoeadmclbaaGreatDoorHb44
import Derived.Test.YtfmadoeadmclbaaGreatDoorHb45
namespace Go.Proofs.YtfmadoeadmclbaaGreatDoor
open Go.RowKit Go.TL
set_option maxRecDepth 100000

set_option maxHeartbeats 64000000 in
theorem back_short_no (x : DV) (bs : List UInt8) (cs : List Value) (vb : Value) (g : Gh) (hX : IsV g x cs) (hB : Sl g vb bs.length 1 (byteVals bs)) (hT : GTabs g) (hU : GU8 g) (hx : lightB x = true) (hlb : bs.length ≤ 600) (h0 : lookJ (toJ x) 0 = 0) (hn : (prJ (toJ x)).length ≤ 65536) (k : Nat) (hz : jparse bs = .error k) (hk : k ≠ 0) : Gives Tryz.prog 4 #[.agg cs.toArray, vb] g [] (.bool true) := by
  refine .of (Does.of2 Tryz.func4 rfl Tryz.ntmps4 rfl ?_)
  obtain ⟨ab, cb, rfl⟩ := hB.slice
  have L1 := fun L => light_gives x cs g L hX
  rw [hx] at L1
  have wx := wf_of_light hx
  have l1 := hX.len
  obtain ⟨zx, lx⟩ := sz_toJ _ x (Nat.le_refl _) 300 (wfN_of_light hx)
  have sx := sm_of_sz _ _ zx (by decide)
  have mx := m_light hx
  have HB := Hn.mk (show ¬ (600 : Int) < (bs.length : Nat) by omega)
  have AW := fun (g2 : Gh) (h : g.le g2) L => awake04_gives (g := g2) (L := L) (hT.le h) (hU.le h)
  obtain ⟨okx, dx⟩ := ok_zero h0 lx
  have PP := fun (g2 : Gh) (h : g.le g2) (v : Value) (hj : IsJ g2 (toJ x) v) L => jPrint_does (toJ x) v g2 L hj sx h0 (by omega) (hT.le h) (hU.le h)
  unfold PrintR at PP
  have hpp := print_parse okx dx hn
  have PA := fun (g2 : Gh) (h : g.le g2) (b cap : Nat) (hs : Sl g2 (.slice (some ⟨b, 0, none⟩) (prJ (toJ x)).length cap) (prJ (toJ x)).length 1 (byteVals (prJ (toJ x)))) L => jParse_does (prJ (toJ x)) (some ⟨b, 0, none⟩) (prJ (toJ x)).length cap g2 L hs rfl (hU.le h)
  rw [hpp] at PA
  unfold ParseR at PA
  dsimp only at PA
  have SA := fun (g2 : Gh) (h : g.le g2) (v w : Value) (hv : IsJ g2 (toJ x) v) (hw : IsJ g2 (toJ x) w) L => Same_gives (toJ x) (toJ x) v w g2 L hv hw sx sx (hT.le h) (hU.le h)
  rw [Same_refl lx h0] at SA
  have HL := Hn.mk (show (((prJ (toJ x)).length : Nat) : Int) ≤ 65536 by omega)
  generalize prJ (toJ x) = S at *
  have PB := fun (g2 : Gh) (h : g.le g2) L => jParse_does bs ab bs.length cb g2 L (hB.le h) rfl (hU.le h)
  rw [hz] at PB
  unfold ParseR at PB
  dsimp only at PB
  have HK := Hn.mk (show ¬ ((k : Nat) : Int) = 0 by omega)
  clear hB hlb hT hU
  repeat' (first
    | ((with_reducible apply TL.pure); (· exact yQ); (· rfl))
    | ((with_reducible apply TL.pure); (· exact yV); (· rfl)) | ((with_reducible apply TW.pure); (· exact yV); (· rfl))
    | ((with_reducible apply TL.gives_plain); (· kernel_rfl); (· rfl); (· exact L1 _); (· rfl)) | ((with_reducible apply TW.gives_plain); (· kernel_rfl); (· rfl); (· exact L1 _); (· rfl))
    | (refine TL.makes (Enters.plain (by kernel_rfl) (by rfl)) (told04_makes _ x (Nat.le_refl _) cs g _ hX wx) (by rfl) ?_; (rintro v1 g1 h1 j1; have ho1 := j1.one; have Q1 := PP g1 h1 v1 j1; clear PP))
    | (refine TL.call (Enters.plain (by kernel_rfl) (by rfl)) (by rfl) (Q1 _) ?_; (rintro e g2 Ln h2 ⟨b2, c2, k1, k2, s2⟩; have k2 := k2.symm; subst k1; subst k2; (have h02 := h1.trans h2; have Q2 := PA g2 h02 b2 c2 s2; have j12 := IsJ.le h2 _ _ j1; clear Q1 PA s2 j1); refine CallK.ret ?_))
    | (refine TL.call (Enters.plain (by kernel_rfl) (by rfl)) (by rfl) (Q2 _) ?_; (rintro e g3 Ln h3 ⟨k2, v3, k1, j3⟩; have k2 := k2.symm; subst k1; subst k2; (have h03 := h02.trans h3; have Q3 := SA g3 h03 v1 v3 (IsJ.le h3 _ _ j12) j3; have ho3 := IsJ.one j3; clear Q2 SA j12 j3; have QB := PB g3 h03; clear PB); refine CallK.ret ?_))
    | ((with_reducible apply TL.gives_plain); (· kernel_rfl); (· rfl); (· exact Q3 _); (· rfl)) | ((with_reducible apply TW.gives_plain); (· kernel_rfl); (· rfl); (· exact Q3 _); (· rfl))
    | (refine TL.call (Enters.plain (by kernel_rfl) (by rfl)) (by rfl) (QB _) ?_; (rintro e gb Ln hb ⟨k2, k1⟩; have k2 := k2.symm; subst k1; subst k2; (have h0b := h03.trans hb; have QW := AW gb h0b; clear QB AW); refine CallK.ret ?_))
    | ((with_reducible apply TL.gives_plain); (· kernel_rfl); (· rfl); (· exact QW _); (· rfl)) | ((with_reducible apply TW.gives_plain); (· kernel_rfl); (· rfl); (· exact QW _); (· rfl))
    | ((with_reducible apply TL.pure); (· exact yA); (· rfl))
    | refine TC.seq ?_ | refine TC.region ?_ | refine TL.nil ?_ | refine TQ.then_normal ?_
    | ((with_reducible apply TL.storeE); (· rfl); (· rfl); (· rfl); (· exact pkA); (· infer_instance)) | ((with_reducible apply TL.store_whole); (· rfl); (· rfl); (· exact oneA); (· rfl); (· exact pkA); (· rfl))
    | refine TC.block ?_ | refine TC.ret ?_ | refine TC.skip ?_ | refine TC.exit ?_ | refine TC.cond rfl ?_
    | refine TQ.down ?_ | refine TQ.in_exit' rfl ?_
    | refine TL.guard_yes rfl rfl ?_ | refine TL.guard_no rfl rfl rfl rfl ?_ | refine TL.guard_no0 rfl rfl rfl ?_ | refine TL.guard_undef rfl rfl rfl ?_ | refine TL.guard_undef0 rfl rfl ?_ | refine TL.guard rfl rfl rfl ?_
    | refine Br.t rfl ?_ | refine Br.f rfl ?_ | refine Br.ky kpA ?_ | refine Br.kn kpA ?_ | refine Br.nky kpA ?_ | refine Br.nkn kpA ?_
    | refine Br.eq0 (fun _ => ?_) (fun _ => ?_) | refine Br.neq0 (fun _ => ?_) (fun _ => ?_) | refine Br.eq (fun _ => ?_) (fun _ => ?_) | refine Br.neq (fun _ => ?_) (fun _ => ?_) | refine Br.not (fun _ => ?_) (fun _ => ?_) | refine Br.dec (fun _ => ?_) (fun _ => ?_) | refine Br.bool (fun _ => ?_) (fun _ => ?_)
    | ((with_reducible apply TL.alloc_ag); (· rfl); intro _) | ((with_reducible apply TL.alloc_sc); (· rfl); (· rfl); intro _) | ((with_reducible apply TL.box_ag); (· rfl); (· rfl); intro _) | ((with_reducible apply TL.box_sc); (· rfl); (· rfl); (· rfl); intro _))
  refine TQ.less h0b ?_
  refine TQ.endR1 (L' := []) Tryz.results4 rvA rfl (.refl _) ?_ selF
  exact ⟨rfl, rfl, rfl⟩
set_option maxHeartbeats 64000000 in
theorem back_short_yes (x : DV) (bs : List UInt8) (cs : List Value) (vb : Value) (g : Gh) (hX : IsV g x cs) (hB : Sl g vb bs.length 1 (byteVals bs)) (hT : GTabs g) (hU : GU8 g) (hx : lightB x = true) (hlb : bs.length ≤ 600) (h0 : lookJ (toJ x) 0 = 0) (hn : (prJ (toJ x)).length ≤ 65536) (z : J) (hz : jparse bs = .ok z) : Gives Tryz.prog 4 #[.agg cs.toArray, vb] g [] (.bool true) := by
  refine .of (Does.of2 Tryz.func4 rfl Tryz.ntmps4 rfl ?_)
  obtain ⟨ab, cb, rfl⟩ := hB.slice
  have L1 := fun L => light_gives x cs g L hX
  rw [hx] at L1
  have wx := wf_of_light hx
  have l1 := hX.len
  obtain ⟨zx, lx⟩ := sz_toJ _ x (Nat.le_refl _) 300 (wfN_of_light hx)
  have sx := sm_of_sz _ _ zx (by decide)
  have mx := m_light hx
  have HB := Hn.mk (show ¬ (600 : Int) < (bs.length : Nat) by omega)
  have AW := fun (g2 : Gh) (h : g.le g2) L => awake04_gives (g := g2) (L := L) (hT.le h) (hU.le h)
  obtain ⟨okx, dx⟩ := ok_zero h0 lx
  have PP := fun (g2 : Gh) (h : g.le g2) (v : Value) (hj : IsJ g2 (toJ x) v) L => jPrint_does (toJ x) v g2 L hj sx h0 (by omega) (hT.le h) (hU.le h)
  unfold PrintR at PP
  have hpp := print_parse okx dx hn
  have PA := fun (g2 : Gh) (h : g.le g2) (b cap : Nat) (hs : Sl g2 (.slice (some ⟨b, 0, none⟩) (prJ (toJ x)).length cap) (prJ (toJ x)).length 1 (byteVals (prJ (toJ x)))) L => jParse_does (prJ (toJ x)) (some ⟨b, 0, none⟩) (prJ (toJ x)).length cap g2 L hs rfl (hU.le h)
  rw [hpp] at PA
  unfold ParseR at PA
  dsimp only at PA
  have SA := fun (g2 : Gh) (h : g.le g2) (v w : Value) (hv : IsJ g2 (toJ x) v) (hw : IsJ g2 (toJ x) w) L => Same_gives (toJ x) (toJ x) v w g2 L hv hw sx sx (hT.le h) (hU.le h)
  rw [Same_refl lx h0] at SA
  have HL := Hn.mk (show (((prJ (toJ x)).length : Nat) : Int) ≤ 65536 by omega)
  generalize prJ (toJ x) = S at *
  have PB := fun (g2 : Gh) (h : g.le g2) L => jParse_does bs ab bs.length cb g2 L (hB.le h) rfl (hU.le h)
  rw [hz] at PB
  unfold ParseR at PB
  dsimp only at PB
  obtain ⟨okz, dz, mz⟩ := jparse_ok hz
  have lz := len_of_ok _ okz
  have sz := sm_of_m z (by omega) lz
  have kz := look_zero okz dz
  have pz := prJ_len z
  have hpz := print_parse okz dz (by omega)
  have PZ := fun (g2 : Gh) (h : g.le g2) (v : Value) (hj : IsJ g2 z v) L => jPrint_does z v g2 L hj sz kz (by omega) (hT.le h) (hU.le h)
  unfold PrintR at PZ
  have PQ := fun (g2 : Gh) (h : g.le g2) (b cap : Nat) (hs : Sl g2 (.slice (some ⟨b, 0, none⟩) (prJ z).length cap) (prJ z).length 1 (byteVals (prJ z))) L => jParse_does (prJ z) (some ⟨b, 0, none⟩) (prJ z).length cap g2 L hs rfl (hU.le h)
  rw [hpz] at PQ
  unfold ParseR at PQ
  dsimp only at PQ
  have SZ := fun (g2 : Gh) (h : g.le g2) (v w : Value) (hv : IsJ g2 z v) (hw : IsJ g2 z w) L => Same_gives z z v w g2 L hv hw sz sz (hT.le h) (hU.le h)
  rw [Same_refl lz kz] at SZ
  generalize prJ z = T at *
  clear hB hlb hT hU
  repeat' (first
    | ((with_reducible apply TL.pure); (· exact yQ); (· rfl))
    | ((with_reducible apply TL.pure); (· exact yV); (· rfl)) | ((with_reducible apply TW.pure); (· exact yV); (· rfl))
    | ((with_reducible apply TL.gives_plain); (· kernel_rfl); (· rfl); (· exact L1 _); (· rfl)) | ((with_reducible apply TW.gives_plain); (· kernel_rfl); (· rfl); (· exact L1 _); (· rfl))
    | (refine TL.makes (Enters.plain (by kernel_rfl) (by rfl)) (told04_makes _ x (Nat.le_refl _) cs g _ hX wx) (by rfl) ?_; (rintro v1 g1 h1 j1; have ho1 := j1.one; have Q1 := PP g1 h1 v1 j1; clear PP))
    | (refine TL.call (Enters.plain (by kernel_rfl) (by rfl)) (by rfl) (Q1 _) ?_; (rintro e g2 Ln h2 ⟨b2, c2, k1, k2, s2⟩; have k2 := k2.symm; subst k1; subst k2; (have h02 := h1.trans h2; have Q2 := PA g2 h02 b2 c2 s2; have j12 := IsJ.le h2 _ _ j1; clear Q1 PA s2 j1); refine CallK.ret ?_))
    | (refine TL.call (Enters.plain (by kernel_rfl) (by rfl)) (by rfl) (Q2 _) ?_; (rintro e g3 Ln h3 ⟨k2, v3, k1, j3⟩; have k2 := k2.symm; subst k1; subst k2; (have h03 := h02.trans h3; have Q3 := SA g3 h03 v1 v3 (IsJ.le h3 _ _ j12) j3; have ho3 := IsJ.one j3; clear Q2 SA j12 j3; have QB := PB g3 h03; clear PB); refine CallK.ret ?_))
    | ((with_reducible apply TL.gives_plain); (· kernel_rfl); (· rfl); (· exact Q3 _); (· rfl)) | ((with_reducible apply TW.gives_plain); (· kernel_rfl); (· rfl); (· exact Q3 _); (· rfl))
    | (refine TL.call (Enters.plain (by kernel_rfl) (by rfl)) (by rfl) (QB _) ?_; (rintro e gb Ln hb ⟨k2, vz, k1, jz⟩; have k2 := k2.symm; subst k1; subst k2; (have h0b := h03.trans hb; have QZ := PZ gb h0b vz jz; have hoz := IsJ.one jz; clear QB); refine CallK.ret ?_))
    | (refine TL.call (Enters.plain (by kernel_rfl) (by rfl)) (by rfl) (QZ _) ?_; (rintro e gc Ln hc ⟨bc, cc, k1, k2, sc⟩; have k2 := k2.symm; subst k1; subst k2; (have h0c := h0b.trans hc; have QP := PQ gc h0c bc cc sc; have jzc := IsJ.le hc _ _ jz; clear QZ PQ jz); refine CallK.ret ?_))
    | (refine TL.call (Enters.plain (by kernel_rfl) (by rfl)) (by rfl) (QP _) ?_; (rintro e gd Ln hd ⟨k2, vu, k1, ju⟩; have k2 := k2.symm; subst k1; subst k2; (have h0d := h0c.trans hd; have QU := PZ gd h0d vu ju; have hou := IsJ.one ju; have jzd := IsJ.le hd _ _ jzc; have scd := sc.le hd; clear QP PZ jzc sc); refine CallK.ret ?_))
    | (refine TL.call (Enters.plain (by kernel_rfl) (by rfl)) (by rfl) (QU _) ?_; (rintro e ge Ln he ⟨be, ce, k1, k2, se⟩; have k2 := k2.symm; subst k1; subst k2; (have h0e := h0d.trans he; have sce := scd.le he; have QS := SZ ge h0e vz vu (IsJ.le he _ _ jzd) (IsJ.le he _ _ ju); have QW := AW ge h0e; clear QU SZ jzd ju scd AW); refine CallK.ret ?_))
    | ((with_reducible apply TL.gives_plain); (· kernel_rfl); (· rfl); (· exact QS _); (· rfl)) | ((with_reducible apply TW.gives_plain); (· kernel_rfl); (· rfl); (· exact QS _); (· rfl))
    | ((with_reducible apply TL.gives_plain); (· kernel_rfl); (· rfl); (· exact QW _); (· rfl)) | ((with_reducible apply TW.gives_plain); (· kernel_rfl); (· rfl); (· exact QW _); (· rfl))
    | ((with_reducible apply TL.pure (d := 95) (v := .bool true)); (· exact Y.eql_is (decide_eq_true rfl) rfl rfl); (· rfl)) | ((with_reducible apply TW.pure (d := 95) (v := .bool true)); (· exact Y.eql_is (decide_eq_true rfl) rfl rfl); (· rfl))
    | ((with_reducible apply TL.pure); (· exact Y.bytes_row rfl pkA); (· rfl)) | ((with_reducible apply TL.pure); (· exact Y.bytes_src rfl (Src.sl (by assumption)) rfl); (· rfl)) | ((with_reducible apply TW.pure); (· exact Y.bytes_row rfl pkA); (· rfl)) | ((with_reducible apply TW.pure); (· exact Y.bytes_src rfl (Src.sl (by assumption)) rfl); (· rfl))
    | ((with_reducible apply TL.pure); (· exact yA); (· rfl))
    | refine TC.seq ?_ | refine TC.region ?_ | refine TL.nil ?_ | refine TQ.then_normal ?_
    | ((with_reducible apply TL.storeE); (· rfl); (· rfl); (· rfl); (· exact pkA); (· infer_instance)) | ((with_reducible apply TL.store_whole); (· rfl); (· rfl); (· exact oneA); (· rfl); (· exact pkA); (· rfl))
    | refine TC.block ?_ | refine TC.ret ?_ | refine TC.skip ?_ | refine TC.exit ?_ | refine TC.cond rfl ?_
    | refine TQ.down ?_ | refine TQ.in_exit' rfl ?_
    | refine TL.guard_yes rfl rfl ?_ | refine TL.guard_no rfl rfl rfl rfl ?_ | refine TL.guard_no0 rfl rfl rfl ?_ | refine TL.guard_undef rfl rfl rfl ?_ | refine TL.guard_undef0 rfl rfl ?_ | refine TL.guard rfl rfl rfl ?_
    | refine Br.t rfl ?_ | refine Br.f rfl ?_ | refine Br.ky kpA ?_ | refine Br.kn kpA ?_ | refine Br.nky kpA ?_ | refine Br.nkn kpA ?_
    | refine Br.eq0 (fun _ => ?_) (fun _ => ?_) | refine Br.neq0 (fun _ => ?_) (fun _ => ?_) | refine Br.eq (fun _ => ?_) (fun _ => ?_) | refine Br.neq (fun _ => ?_) (fun _ => ?_) | refine Br.not (fun _ => ?_) (fun _ => ?_) | refine Br.dec (fun _ => ?_) (fun _ => ?_) | refine Br.bool (fun _ => ?_) (fun _ => ?_)
    | ((with_reducible apply TL.alloc_ag); (· rfl); intro _) | ((with_reducible apply TL.alloc_sc); (· rfl); (· rfl); intro _) | ((with_reducible apply TL.box_ag); (· rfl); (· rfl); intro _) | ((with_reducible apply TL.box_sc); (· rfl); (· rfl); (· rfl); intro _))
  refine TQ.less h0e ?_
  refine TQ.endR1 (L' := []) Tryz.results4 rvA rfl (.refl _) ?_ selF
  exact ⟨rfl, rfl, rfl⟩
set_option maxHeartbeats 64000000 in
theorem back_long_no (x : DV) (bs : List UInt8) (cs : List Value) (vb : Value) (g : Gh) (hX : IsV g x cs) (hB : Sl g vb bs.length 1 (byteVals bs)) (hT : GTabs g) (hU : GU8 g) (hx : lightB x = true) (hlb : bs.length ≤ 600) (h0 : lookJ (toJ x) 0 = 0) (hn : ¬ (prJ (toJ x)).length ≤ 65536) (k : Nat) (hz : jparse bs = .error k) (hk : k ≠ 0) : Gives Tryz.prog 4 #[.agg cs.toArray, vb] g [] (.bool true) := by
  refine .of (Does.of2 Tryz.func4 rfl Tryz.ntmps4 rfl ?_)
  obtain ⟨ab, cb, rfl⟩ := hB.slice
  have L1 := fun L => light_gives x cs g L hX
  rw [hx] at L1
  have wx := wf_of_light hx
  have l1 := hX.len
  obtain ⟨zx, lx⟩ := sz_toJ _ x (Nat.le_refl _) 300 (wfN_of_light hx)
  have sx := sm_of_sz _ _ zx (by decide)
  have mx := m_light hx
  have HB := Hn.mk (show ¬ (600 : Int) < (bs.length : Nat) by omega)
  have AW := fun (g2 : Gh) (h : g.le g2) L => awake04_gives (g := g2) (L := L) (hT.le h) (hU.le h)
  obtain ⟨okx, dx⟩ := ok_zero h0 lx
  have PP := fun (g2 : Gh) (h : g.le g2) (v : Value) (hj : IsJ g2 (toJ x) v) L => jPrint_does (toJ x) v g2 L hj sx h0 (by omega) (hT.le h) (hU.le h)
  unfold PrintR at PP
  have HL := Hn.mk (show ¬ (((prJ (toJ x)).length : Nat) : Int) ≤ 65536 by omega)
  generalize prJ (toJ x) = S at *
  have PB := fun (g2 : Gh) (h : g.le g2) L => jParse_does bs ab bs.length cb g2 L (hB.le h) rfl (hU.le h)
  rw [hz] at PB
  unfold ParseR at PB
  dsimp only at PB
  have HK := Hn.mk (show ¬ ((k : Nat) : Int) = 0 by omega)
  clear hB hlb hT hU
  repeat' (first
    | ((with_reducible apply TL.pure); (· exact yQ); (· rfl))
    | ((with_reducible apply TL.pure); (· exact yV); (· rfl)) | ((with_reducible apply TW.pure); (· exact yV); (· rfl))
    | ((with_reducible apply TL.gives_plain); (· kernel_rfl); (· rfl); (· exact L1 _); (· rfl)) | ((with_reducible apply TW.gives_plain); (· kernel_rfl); (· rfl); (· exact L1 _); (· rfl))
    | (refine TL.makes (Enters.plain (by kernel_rfl) (by rfl)) (told04_makes _ x (Nat.le_refl _) cs g _ hX wx) (by rfl) ?_; (rintro v1 g1 h1 j1; have ho1 := j1.one; have Q1 := PP g1 h1 v1 j1; clear PP))
    | (refine TL.call (Enters.plain (by kernel_rfl) (by rfl)) (by rfl) (Q1 _) ?_; (rintro e g2 Ln h2 ⟨b2, c2, k1, k2, s2⟩; have k2 := k2.symm; subst k1; subst k2; (have h02 := h1.trans h2; clear Q1 s2 j1; have QB := PB g2 h02; clear PB); refine CallK.ret ?_))
    | (refine TL.call (Enters.plain (by kernel_rfl) (by rfl)) (by rfl) (QB _) ?_; (rintro e gb Ln hb ⟨k2, k1⟩; have k2 := k2.symm; subst k1; subst k2; (have h0b := h02.trans hb; have QW := AW gb h0b; clear QB AW); refine CallK.ret ?_))
    | ((with_reducible apply TL.gives_plain); (· kernel_rfl); (· rfl); (· exact QW _); (· rfl)) | ((with_reducible apply TW.gives_plain); (· kernel_rfl); (· rfl); (· exact QW _); (· rfl))
    | ((with_reducible apply TL.pure); (· exact yA); (· rfl))
    | refine TC.seq ?_ | refine TC.region ?_ | refine TL.nil ?_ | refine TQ.then_normal ?_
    | ((with_reducible apply TL.storeE); (· rfl); (· rfl); (· rfl); (· exact pkA); (· infer_instance)) | ((with_reducible apply TL.store_whole); (· rfl); (· rfl); (· exact oneA); (· rfl); (· exact pkA); (· rfl))
    | refine TC.block ?_ | refine TC.ret ?_ | refine TC.skip ?_ | refine TC.exit ?_ | refine TC.cond rfl ?_
    | refine TQ.down ?_ | refine TQ.in_exit' rfl ?_
    | refine TL.guard_yes rfl rfl ?_ | refine TL.guard_no rfl rfl rfl rfl ?_ | refine TL.guard_no0 rfl rfl rfl ?_ | refine TL.guard_undef rfl rfl rfl ?_ | refine TL.guard_undef0 rfl rfl ?_ | refine TL.guard rfl rfl rfl ?_
    | refine Br.t rfl ?_ | refine Br.f rfl ?_ | refine Br.ky kpA ?_ | refine Br.kn kpA ?_ | refine Br.nky kpA ?_ | refine Br.nkn kpA ?_
    | refine Br.eq0 (fun _ => ?_) (fun _ => ?_) | refine Br.neq0 (fun _ => ?_) (fun _ => ?_) | refine Br.eq (fun _ => ?_) (fun _ => ?_) | refine Br.neq (fun _ => ?_) (fun _ => ?_) | refine Br.not (fun _ => ?_) (fun _ => ?_) | refine Br.dec (fun _ => ?_) (fun _ => ?_) | refine Br.bool (fun _ => ?_) (fun _ => ?_)
    | ((with_reducible apply TL.alloc_ag); (· rfl); intro _) | ((with_reducible apply TL.alloc_sc); (· rfl); (· rfl); intro _) | ((with_reducible apply TL.box_ag); (· rfl); (· rfl); intro _) | ((with_reducible apply TL.box_sc); (· rfl); (· rfl); (· rfl); intro _))
  refine TQ.less h0b ?_
  refine TQ.endR1 (L' := []) Tryz.results4 rvA rfl (.refl _) ?_ selF
  exact ⟨rfl, rfl, rfl⟩
set_option maxHeartbeats 64000000 in
theorem back_long_yes (x : DV) (bs : List UInt8) (cs : List Value) (vb : Value) (g : Gh) (hX : IsV g x cs) (hB : Sl g vb bs.length 1 (byteVals bs)) (hT : GTabs g) (hU : GU8 g) (hx : lightB x = true) (hlb : bs.length ≤ 600) (h0 : lookJ (toJ x) 0 = 0) (hn : ¬ (prJ (toJ x)).length ≤ 65536) (z : J) (hz : jparse bs = .ok z) : Gives Tryz.prog 4 #[.agg cs.toArray, vb] g [] (.bool true) := by
  refine .of (Does.of2 Tryz.func4 rfl Tryz.ntmps4 rfl ?_)
  obtain ⟨ab, cb, rfl⟩ := hB.slice
  have L1 := fun L => light_gives x cs g L hX
  rw [hx] at L1
  have wx := wf_of_light hx
  have l1 := hX.len
  obtain ⟨zx, lx⟩ := sz_toJ _ x (Nat.le_refl _) 300 (wfN_of_light hx)
  have sx := sm_of_sz _ _ zx (by decide)
  have mx := m_light hx
  have HB := Hn.mk (show ¬ (600 : Int) < (bs.length : Nat) by omega)
  have AW := fun (g2 : Gh) (h : g.le g2) L => awake04_gives (g := g2) (L := L) (hT.le h) (hU.le h)
  obtain ⟨okx, dx⟩ := ok_zero h0 lx
  have PP := fun (g2 : Gh) (h : g.le g2) (v : Value) (hj : IsJ g2 (toJ x) v) L => jPrint_does (toJ x) v g2 L hj sx h0 (by omega) (hT.le h) (hU.le h)
  unfold PrintR at PP
  have HL := Hn.mk (show ¬ (((prJ (toJ x)).length : Nat) : Int) ≤ 65536 by omega)
  generalize prJ (toJ x) = S at *
  have PB := fun (g2 : Gh) (h : g.le g2) L => jParse_does bs ab bs.length cb g2 L (hB.le h) rfl (hU.le h)
  rw [hz] at PB
  unfold ParseR at PB
  dsimp only at PB
  obtain ⟨okz, dz, mz⟩ := jparse_ok hz
  have lz := len_of_ok _ okz
  have sz := sm_of_m z (by omega) lz
  have kz := look_zero okz dz
  have pz := prJ_len z
  have hpz := print_parse okz dz (by omega)
  have PZ := fun (g2 : Gh) (h : g.le g2) (v : Value) (hj : IsJ g2 z v) L => jPrint_does z v g2 L hj sz kz (by omega) (hT.le h) (hU.le h)
  unfold PrintR at PZ
  have PQ := fun (g2 : Gh) (h : g.le g2) (b cap : Nat) (hs : Sl g2 (.slice (some ⟨b, 0, none⟩) (prJ z).length cap) (prJ z).length 1 (byteVals (prJ z))) L => jParse_does (prJ z) (some ⟨b, 0, none⟩) (prJ z).length cap g2 L hs rfl (hU.le h)
  rw [hpz] at PQ
  unfold ParseR at PQ
  dsimp only at PQ
  have SZ := fun (g2 : Gh) (h : g.le g2) (v w : Value) (hv : IsJ g2 z v) (hw : IsJ g2 z w) L => Same_gives z z v w g2 L hv hw sz sz (hT.le h) (hU.le h)
  rw [Same_refl lz kz] at SZ
  generalize prJ z = T at *
  clear hB hlb hT hU
  repeat' (first
    | ((with_reducible apply TL.pure); (· exact yQ); (· rfl))
    | ((with_reducible apply TL.pure); (· exact yV); (· rfl)) | ((with_reducible apply TW.pure); (· exact yV); (· rfl))
    | ((with_reducible apply TL.gives_plain); (· kernel_rfl); (· rfl); (· exact L1 _); (· rfl)) | ((with_reducible apply TW.gives_plain); (· kernel_rfl); (· rfl); (· exact L1 _); (· rfl))
    | (refine TL.makes (Enters.plain (by kernel_rfl) (by rfl)) (told04_makes _ x (Nat.le_refl _) cs g _ hX wx) (by rfl) ?_; (rintro v1 g1 h1 j1; have ho1 := j1.one; have Q1 := PP g1 h1 v1 j1; clear PP))
    | (refine TL.call (Enters.plain (by kernel_rfl) (by rfl)) (by rfl) (Q1 _) ?_; (rintro e g2 Ln h2 ⟨b2, c2, k1, k2, s2⟩; have k2 := k2.symm; subst k1; subst k2; (have h02 := h1.trans h2; clear Q1 s2 j1; have QB := PB g2 h02; clear PB); refine CallK.ret ?_))
    | (refine TL.call (Enters.plain (by kernel_rfl) (by rfl)) (by rfl) (QB _) ?_; (rintro e gb Ln hb ⟨k2, vz, k1, jz⟩; have k2 := k2.symm; subst k1; subst k2; (have h0b := h02.trans hb; have QZ := PZ gb h0b vz jz; have hoz := IsJ.one jz; clear QB); refine CallK.ret ?_))
    | (refine TL.call (Enters.plain (by kernel_rfl) (by rfl)) (by rfl) (QZ _) ?_; (rintro e gc Ln hc ⟨bc, cc, k1, k2, sc⟩; have k2 := k2.symm; subst k1; subst k2; (have h0c := h0b.trans hc; have QP := PQ gc h0c bc cc sc; have jzc := IsJ.le hc _ _ jz; clear QZ PQ jz); refine CallK.ret ?_))
    | (refine TL.call (Enters.plain (by kernel_rfl) (by rfl)) (by rfl) (QP _) ?_; (rintro e gd Ln hd ⟨k2, vu, k1, ju⟩; have k2 := k2.symm; subst k1; subst k2; (have h0d := h0c.trans hd; have QU := PZ gd h0d vu ju; have hou := IsJ.one ju; have jzd := IsJ.le hd _ _ jzc; have scd := sc.le hd; clear QP PZ jzc sc); refine CallK.ret ?_))
    | (refine TL.call (Enters.plain (by kernel_rfl) (by rfl)) (by rfl) (QU _) ?_; (rintro e ge Ln he ⟨be, ce, k1, k2, se⟩; have k2 := k2.symm; subst k1; subst k2; (have h0e := h0d.trans he; have sce := scd.le he; have QS := SZ ge h0e vz vu (IsJ.le he _ _ jzd) (IsJ.le he _ _ ju); have QW := AW ge h0e; clear QU SZ jzd ju scd AW); refine CallK.ret ?_))
    | ((with_reducible apply TL.gives_plain); (· kernel_rfl); (· rfl); (· exact QS _); (· rfl)) | ((with_reducible apply TW.gives_plain); (· kernel_rfl); (· rfl); (· exact QS _); (· rfl))
    | ((with_reducible apply TL.gives_plain); (· kernel_rfl); (· rfl); (· exact QW _); (· rfl)) | ((with_reducible apply TW.gives_plain); (· kernel_rfl); (· rfl); (· exact QW _); (· rfl))
    | ((with_reducible apply TL.pure (d := 95) (v := .bool true)); (· exact Y.eql_is (decide_eq_true rfl) rfl rfl); (· rfl)) | ((with_reducible apply TW.pure (d := 95) (v := .bool true)); (· exact Y.eql_is (decide_eq_true rfl) rfl rfl); (· rfl))
    | ((with_reducible apply TL.pure); (· exact Y.bytes_row rfl pkA); (· rfl)) | ((with_reducible apply TL.pure); (· exact Y.bytes_src rfl (Src.sl (by assumption)) rfl); (· rfl)) | ((with_reducible apply TW.pure); (· exact Y.bytes_row rfl pkA); (· rfl)) | ((with_reducible apply TW.pure); (· exact Y.bytes_src rfl (Src.sl (by assumption)) rfl); (· rfl))
    | ((with_reducible apply TL.pure); (· exact yA); (· rfl))
    | refine TC.seq ?_ | refine TC.region ?_ | refine TL.nil ?_ | refine TQ.then_normal ?_
    | ((with_reducible apply TL.storeE); (· rfl); (· rfl); (· rfl); (· exact pkA); (· infer_instance)) | ((with_reducible apply TL.store_whole); (· rfl); (· rfl); (· exact oneA); (· rfl); (· exact pkA); (· rfl))
    | refine TC.block ?_ | refine TC.ret ?_ | refine TC.skip ?_ | refine TC.exit ?_ | refine TC.cond rfl ?_
    | refine TQ.down ?_ | refine TQ.in_exit' rfl ?_
    | refine TL.guard_yes rfl rfl ?_ | refine TL.guard_no rfl rfl rfl rfl ?_ | refine TL.guard_no0 rfl rfl rfl ?_ | refine TL.guard_undef rfl rfl rfl ?_ | refine TL.guard_undef0 rfl rfl ?_ | refine TL.guard rfl rfl rfl ?_
    | refine Br.t rfl ?_ | refine Br.f rfl ?_ | refine Br.ky kpA ?_ | refine Br.kn kpA ?_ | refine Br.nky kpA ?_ | refine Br.nkn kpA ?_
    | refine Br.eq0 (fun _ => ?_) (fun _ => ?_) | refine Br.neq0 (fun _ => ?_) (fun _ => ?_) | refine Br.eq (fun _ => ?_) (fun _ => ?_) | refine Br.neq (fun _ => ?_) (fun _ => ?_) | refine Br.not (fun _ => ?_) (fun _ => ?_) | refine Br.dec (fun _ => ?_) (fun _ => ?_) | refine Br.bool (fun _ => ?_) (fun _ => ?_)
    | ((with_reducible apply TL.alloc_ag); (· rfl); intro _) | ((with_reducible apply TL.alloc_sc); (· rfl); (· rfl); intro _) | ((with_reducible apply TL.box_ag); (· rfl); (· rfl); intro _) | ((with_reducible apply TL.box_sc); (· rfl); (· rfl); (· rfl); intro _))
  refine TQ.less h0e ?_
  refine TQ.endR1 (L' := []) Tryz.results4 rvA rfl (.refl _) ?_ selF
  exact ⟨rfl, rfl, rfl⟩
set_option maxHeartbeats 64000000 in
theorem back_bad_no (x : DV) (bs : List UInt8) (cs : List Value) (vb : Value) (g : Gh) (hX : IsV g x cs) (hB : Sl g vb bs.length 1 (byteVals bs)) (hT : GTabs g) (hU : GU8 g) (hx : lightB x = true) (hlb : bs.length ≤ 600) (h0 : ¬ lookJ (toJ x) 0 = 0) (k : Nat) (hz : jparse bs = .error k) (hk : k ≠ 0) : Gives Tryz.prog 4 #[.agg cs.toArray, vb] g [] (.bool true) := by
  refine .of (Does.of2 Tryz.func4 rfl Tryz.ntmps4 rfl ?_)
  obtain ⟨ab, cb, rfl⟩ := hB.slice
  have L1 := fun L => light_gives x cs g L hX
  rw [hx] at L1
  have wx := wf_of_light hx
  have l1 := hX.len
  obtain ⟨zx, lx⟩ := sz_toJ _ x (Nat.le_refl _) 300 (wfN_of_light hx)
  have sx := sm_of_sz _ _ zx (by decide)
  have mx := m_light hx
  have HB := Hn.mk (show ¬ (600 : Int) < (bs.length : Nat) by omega)
  have AW := fun (g2 : Gh) (h : g.le g2) L => awake04_gives (g := g2) (L := L) (hT.le h) (hU.le h)
  have PN := fun (g2 : Gh) (h : g.le g2) (v : Value) (hj : IsJ g2 (toJ x) v) L => jPrint_no (toJ x) v g2 L hj sx h0 (hT.le h) (hU.le h)
  generalize lookJ (toJ x) 0 = ex at *
  have HE := Hn.mk (show ¬ ((ex : Nat) : Int) = 0 by omega)
  have PB := fun (g2 : Gh) (h : g.le g2) L => jParse_does bs ab bs.length cb g2 L (hB.le h) rfl (hU.le h)
  rw [hz] at PB
  unfold ParseR at PB
  dsimp only at PB
  have HK := Hn.mk (show ¬ ((k : Nat) : Int) = 0 by omega)
  clear hB hlb hT hU
  repeat' (first
    | ((with_reducible apply TL.pure); (· exact yQ); (· rfl))
    | ((with_reducible apply TL.pure); (· exact yV); (· rfl)) | ((with_reducible apply TW.pure); (· exact yV); (· rfl))
    | ((with_reducible apply TL.gives_plain); (· kernel_rfl); (· rfl); (· exact L1 _); (· rfl)) | ((with_reducible apply TW.gives_plain); (· kernel_rfl); (· rfl); (· exact L1 _); (· rfl))
    | (refine TL.makes (Enters.plain (by kernel_rfl) (by rfl)) (told04_makes _ x (Nat.le_refl _) cs g _ hX wx) (by rfl) ?_; (rintro v1 g1 h1 j1; have ho1 := j1.one; have Q1 := PN g1 h1 v1 j1; clear PN; have QB := PB g1 h1; clear PB))
    | ((with_reducible apply TL.gives_plain); (· kernel_rfl); (· rfl); (· exact Q1 _); (· rfl)) | ((with_reducible apply TW.gives_plain); (· kernel_rfl); (· rfl); (· exact Q1 _); (· rfl))
    | (refine TL.call (Enters.plain (by kernel_rfl) (by rfl)) (by rfl) (QB _) ?_; (rintro e gb Ln hb ⟨k2, k1⟩; have k2 := k2.symm; subst k1; subst k2; (have h0b := h1.trans hb; have QW := AW gb h0b; clear QB AW); refine CallK.ret ?_))
    | ((with_reducible apply TL.gives_plain); (· kernel_rfl); (· rfl); (· exact QW _); (· rfl)) | ((with_reducible apply TW.gives_plain); (· kernel_rfl); (· rfl); (· exact QW _); (· rfl))
    | ((with_reducible apply TL.pure); (· exact yA); (· rfl))
    | refine TC.seq ?_ | refine TC.region ?_ | refine TL.nil ?_ | refine TQ.then_normal ?_
    | ((with_reducible apply TL.storeE); (· rfl); (· rfl); (· rfl); (· exact pkA); (· infer_instance)) | ((with_reducible apply TL.store_whole); (· rfl); (· rfl); (· exact oneA); (· rfl); (· exact pkA); (· rfl))
    | refine TC.block ?_ | refine TC.ret ?_ | refine TC.skip ?_ | refine TC.exit ?_ | refine TC.cond rfl ?_
    | refine TQ.down ?_ | refine TQ.in_exit' rfl ?_
    | refine TL.guard_yes rfl rfl ?_ | refine TL.guard_no rfl rfl rfl rfl ?_ | refine TL.guard_no0 rfl rfl rfl ?_ | refine TL.guard_undef rfl rfl rfl ?_ | refine TL.guard_undef0 rfl rfl ?_ | refine TL.guard rfl rfl rfl ?_
    | refine Br.t rfl ?_ | refine Br.f rfl ?_ | refine Br.ky kpA ?_ | refine Br.kn kpA ?_ | refine Br.nky kpA ?_ | refine Br.nkn kpA ?_
    | refine Br.eq0 (fun _ => ?_) (fun _ => ?_) | refine Br.neq0 (fun _ => ?_) (fun _ => ?_) | refine Br.eq (fun _ => ?_) (fun _ => ?_) | refine Br.neq (fun _ => ?_) (fun _ => ?_) | refine Br.not (fun _ => ?_) (fun _ => ?_) | refine Br.dec (fun _ => ?_) (fun _ => ?_) | refine Br.bool (fun _ => ?_) (fun _ => ?_)
    | ((with_reducible apply TL.alloc_ag); (· rfl); intro _) | ((with_reducible apply TL.alloc_sc); (· rfl); (· rfl); intro _) | ((with_reducible apply TL.box_ag); (· rfl); (· rfl); intro _) | ((with_reducible apply TL.box_sc); (· rfl); (· rfl); (· rfl); intro _))
  refine TQ.less h0b ?_
  refine TQ.endR1 (L' := []) Tryz.results4 rvA rfl (.refl _) ?_ selF
  exact ⟨rfl, rfl, rfl⟩
set_option maxHeartbeats 64000000 in
theorem back_bad_yes (x : DV) (bs : List UInt8) (cs : List Value) (vb : Value) (g : Gh) (hX : IsV g x cs) (hB : Sl g vb bs.length 1 (byteVals bs)) (hT : GTabs g) (hU : GU8 g) (hx : lightB x = true) (hlb : bs.length ≤ 600) (h0 : ¬ lookJ (toJ x) 0 = 0) (z : J) (hz : jparse bs = .ok z) : Gives Tryz.prog 4 #[.agg cs.toArray, vb] g [] (.bool true) := by
  refine .of (Does.of2 Tryz.func4 rfl Tryz.ntmps4 rfl ?_)
  obtain ⟨ab, cb, rfl⟩ := hB.slice
  have L1 := fun L => light_gives x cs g L hX
  rw [hx] at L1
  have wx := wf_of_light hx
  have l1 := hX.len
  obtain ⟨zx, lx⟩ := sz_toJ _ x (Nat.le_refl _) 300 (wfN_of_light hx)
  have sx := sm_of_sz _ _ zx (by decide)
  have mx := m_light hx
  have HB := Hn.mk (show ¬ (600 : Int) < (bs.length : Nat) by omega)
  have AW := fun (g2 : Gh) (h : g.le g2) L => awake04_gives (g := g2) (L := L) (hT.le h) (hU.le h)
  have PN := fun (g2 : Gh) (h : g.le g2) (v : Value) (hj : IsJ g2 (toJ x) v) L => jPrint_no (toJ x) v g2 L hj sx h0 (hT.le h) (hU.le h)
  generalize lookJ (toJ x) 0 = ex at *
  have HE := Hn.mk (show ¬ ((ex : Nat) : Int) = 0 by omega)
  have PB := fun (g2 : Gh) (h : g.le g2) L => jParse_does bs ab bs.length cb g2 L (hB.le h) rfl (hU.le h)
  rw [hz] at PB
  unfold ParseR at PB
  dsimp only at PB
  obtain ⟨okz, dz, mz⟩ := jparse_ok hz
  have lz := len_of_ok _ okz
  have sz := sm_of_m z (by omega) lz
  have kz := look_zero okz dz
  have pz := prJ_len z
  have hpz := print_parse okz dz (by omega)
  have PZ := fun (g2 : Gh) (h : g.le g2) (v : Value) (hj : IsJ g2 z v) L => jPrint_does z v g2 L hj sz kz (by omega) (hT.le h) (hU.le h)
  unfold PrintR at PZ
  have PQ := fun (g2 : Gh) (h : g.le g2) (b cap : Nat) (hs : Sl g2 (.slice (some ⟨b, 0, none⟩) (prJ z).length cap) (prJ z).length 1 (byteVals (prJ z))) L => jParse_does (prJ z) (some ⟨b, 0, none⟩) (prJ z).length cap g2 L hs rfl (hU.le h)
  rw [hpz] at PQ
  unfold ParseR at PQ
  dsimp only at PQ
  have SZ := fun (g2 : Gh) (h : g.le g2) (v w : Value) (hv : IsJ g2 z v) (hw : IsJ g2 z w) L => Same_gives z z v w g2 L hv hw sz sz (hT.le h) (hU.le h)
  rw [Same_refl lz kz] at SZ
  generalize prJ z = T at *
  clear hB hlb hT hU
  repeat' (first
    | ((with_reducible apply TL.pure); (· exact yQ); (· rfl))
    | ((with_reducible apply TL.pure); (· exact yV); (· rfl)) | ((with_reducible apply TW.pure); (· exact yV); (· rfl))
    | ((with_reducible apply TL.gives_plain); (· kernel_rfl); (· rfl); (· exact L1 _); (· rfl)) | ((with_reducible apply TW.gives_plain); (· kernel_rfl); (· rfl); (· exact L1 _); (· rfl))
    | (refine TL.makes (Enters.plain (by kernel_rfl) (by rfl)) (told04_makes _ x (Nat.le_refl _) cs g _ hX wx) (by rfl) ?_; (rintro v1 g1 h1 j1; have ho1 := j1.one; have Q1 := PN g1 h1 v1 j1; clear PN; have QB := PB g1 h1; clear PB))
    | ((with_reducible apply TL.gives_plain); (· kernel_rfl); (· rfl); (· exact Q1 _); (· rfl)) | ((with_reducible apply TW.gives_plain); (· kernel_rfl); (· rfl); (· exact Q1 _); (· rfl))
    | (refine TL.call (Enters.plain (by kernel_rfl) (by rfl)) (by rfl) (QB _) ?_; (rintro e gb Ln hb ⟨k2, vz, k1, jz⟩; have k2 := k2.symm; subst k1; subst k2; (have h0b := h1.trans hb; have QZ := PZ gb h0b vz jz; have hoz := IsJ.one jz; clear QB); refine CallK.ret ?_))
    | (refine TL.call (Enters.plain (by kernel_rfl) (by rfl)) (by rfl) (QZ _) ?_; (rintro e gc Ln hc ⟨bc, cc, k1, k2, sc⟩; have k2 := k2.symm; subst k1; subst k2; (have h0c := h0b.trans hc; have QP := PQ gc h0c bc cc sc; have jzc := IsJ.le hc _ _ jz; clear QZ PQ jz); refine CallK.ret ?_))
    | (refine TL.call (Enters.plain (by kernel_rfl) (by rfl)) (by rfl) (QP _) ?_; (rintro e gd Ln hd ⟨k2, vu, k1, ju⟩; have k2 := k2.symm; subst k1; subst k2; (have h0d := h0c.trans hd; have QU := PZ gd h0d vu ju; have hou := IsJ.one ju; have jzd := IsJ.le hd _ _ jzc; have scd := sc.le hd; clear QP PZ jzc sc); refine CallK.ret ?_))
    | (refine TL.call (Enters.plain (by kernel_rfl) (by rfl)) (by rfl) (QU _) ?_; (rintro e ge Ln he ⟨be, ce, k1, k2, se⟩; have k2 := k2.symm; subst k1; subst k2; (have h0e := h0d.trans he; have sce := scd.le he; have QS := SZ ge h0e vz vu (IsJ.le he _ _ jzd) (IsJ.le he _ _ ju); have QW := AW ge h0e; clear QU SZ jzd ju scd AW); refine CallK.ret ?_))
    | ((with_reducible apply TL.gives_plain); (· kernel_rfl); (· rfl); (· exact QS _); (· rfl)) | ((with_reducible apply TW.gives_plain); (· kernel_rfl); (· rfl); (· exact QS _); (· rfl))
    | ((with_reducible apply TL.gives_plain); (· kernel_rfl); (· rfl); (· exact QW _); (· rfl)) | ((with_reducible apply TW.gives_plain); (· kernel_rfl); (· rfl); (· exact QW _); (· rfl))
    | ((with_reducible apply TL.pure (d := 95) (v := .bool true)); (· exact Y.eql_is (decide_eq_true rfl) rfl rfl); (· rfl)) | ((with_reducible apply TW.pure (d := 95) (v := .bool true)); (· exact Y.eql_is (decide_eq_true rfl) rfl rfl); (· rfl))
    | ((with_reducible apply TL.pure); (· exact Y.bytes_row rfl pkA); (· rfl)) | ((with_reducible apply TL.pure); (· exact Y.bytes_src rfl (Src.sl (by assumption)) rfl); (· rfl)) | ((with_reducible apply TW.pure); (· exact Y.bytes_row rfl pkA); (· rfl)) | ((with_reducible apply TW.pure); (· exact Y.bytes_src rfl (Src.sl (by assumption)) rfl); (· rfl))
    | ((with_reducible apply TL.pure); (· exact yA); (· rfl))
    | refine TC.seq ?_ | refine TC.region ?_ | refine TL.nil ?_ | refine TQ.then_normal ?_
    | ((with_reducible apply TL.storeE); (· rfl); (· rfl); (· rfl); (· exact pkA); (· infer_instance)) | ((with_reducible apply TL.store_whole); (· rfl); (· rfl); (· exact oneA); (· rfl); (· exact pkA); (· rfl))
    | refine TC.block ?_ | refine TC.ret ?_ | refine TC.skip ?_ | refine TC.exit ?_ | refine TC.cond rfl ?_
    | refine TQ.down ?_ | refine TQ.in_exit' rfl ?_
    | refine TL.guard_yes rfl rfl ?_ | refine TL.guard_no rfl rfl rfl rfl ?_ | refine TL.guard_no0 rfl rfl rfl ?_ | refine TL.guard_undef rfl rfl rfl ?_ | refine TL.guard_undef0 rfl rfl ?_ | refine TL.guard rfl rfl rfl ?_
    | refine Br.t rfl ?_ | refine Br.f rfl ?_ | refine Br.ky kpA ?_ | refine Br.kn kpA ?_ | refine Br.nky kpA ?_ | refine Br.nkn kpA ?_
    | refine Br.eq0 (fun _ => ?_) (fun _ => ?_) | refine Br.neq0 (fun _ => ?_) (fun _ => ?_) | refine Br.eq (fun _ => ?_) (fun _ => ?_) | refine Br.neq (fun _ => ?_) (fun _ => ?_) | refine Br.not (fun _ => ?_) (fun _ => ?_) | refine Br.dec (fun _ => ?_) (fun _ => ?_) | refine Br.bool (fun _ => ?_) (fun _ => ?_)
    | ((with_reducible apply TL.alloc_ag); (· rfl); intro _) | ((with_reducible apply TL.alloc_sc); (· rfl); (· rfl); intro _) | ((with_reducible apply TL.box_ag); (· rfl); (· rfl); intro _) | ((with_reducible apply TL.box_sc); (· rfl); (· rfl); (· rfl); intro _))
  refine TQ.less h0e ?_
  refine TQ.endR1 (L' := []) Tryz.results4 rvA rfl (.refl _) ?_ selF
  exact ⟨rfl, rfl, rfl⟩
set_option maxHeartbeats 16000000 in
theorem lawJsonBack (x : DV) (bs : List UInt8) (cs : List Value) (vb : Value) (g : Gh) (hX : IsV g x cs) (hB : Sl g vb bs.length 1 (byteVals bs)) (hT : GTabs g) (hU : GU8 g) : Gives Tryz.prog 4 #[.agg cs.toArray, vb] g [] (.bool true) := by
  have l1 := hX.len
  cases hx : lightB x with
  | false =>
    refine .of (Does.of2 Tryz.func4 rfl Tryz.ntmps4 rfl ?_)
    obtain ⟨ab, cb, rfl⟩ := hB.slice
    have L1 := fun L => light_gives x cs g L hX
    rw [hx] at L1
    clear hX hB
    repeat' (first
    | ((with_reducible apply TL.pure); (· exact yQ); (· rfl))
    | ((with_reducible apply TL.pure); (· exact yV); (· rfl)) | ((with_reducible apply TW.pure); (· exact yV); (· rfl))
    | ((with_reducible apply TL.gives_plain); (· kernel_rfl); (· rfl); (· exact L1 _); (· rfl)) | ((with_reducible apply TW.gives_plain); (· kernel_rfl); (· rfl); (· exact L1 _); (· rfl))
    | ((with_reducible apply TL.pure); (· exact yA); (· rfl))
    | refine TC.seq ?_ | refine TC.region ?_ | refine TL.nil ?_ | refine TQ.then_normal ?_
    | ((with_reducible apply TL.storeE); (· rfl); (· rfl); (· rfl); (· exact pkA); (· infer_instance)) | ((with_reducible apply TL.store_whole); (· rfl); (· rfl); (· exact oneA); (· rfl); (· exact pkA); (· rfl))
    | refine TC.block ?_ | refine TC.ret ?_ | refine TC.skip ?_ | refine TC.exit ?_ | refine TC.cond rfl ?_
    | refine TQ.down ?_ | refine TQ.in_exit' rfl ?_
    | refine TL.guard_yes rfl rfl ?_ | refine TL.guard_no rfl rfl rfl rfl ?_ | refine TL.guard_no0 rfl rfl rfl ?_ | refine TL.guard_undef rfl rfl rfl ?_ | refine TL.guard_undef0 rfl rfl ?_ | refine TL.guard rfl rfl rfl ?_
    | refine Br.t rfl ?_ | refine Br.f rfl ?_ | refine Br.ky kpA ?_ | refine Br.kn kpA ?_ | refine Br.nky kpA ?_ | refine Br.nkn kpA ?_
    | refine Br.eq0 (fun _ => ?_) (fun _ => ?_) | refine Br.neq0 (fun _ => ?_) (fun _ => ?_) | refine Br.eq (fun _ => ?_) (fun _ => ?_) | refine Br.neq (fun _ => ?_) (fun _ => ?_) | refine Br.not (fun _ => ?_) (fun _ => ?_) | refine Br.dec (fun _ => ?_) (fun _ => ?_) | refine Br.bool (fun _ => ?_) (fun _ => ?_)
    | ((with_reducible apply TL.alloc_ag); (· rfl); intro _) | ((with_reducible apply TL.alloc_sc); (· rfl); (· rfl); intro _) | ((with_reducible apply TL.box_ag); (· rfl); (· rfl); intro _) | ((with_reducible apply TL.box_sc); (· rfl); (· rfl); (· rfl); intro _))
    refine TQ.endR1 (L' := []) Tryz.results4 rvA rfl (.refl _) ?_ selF
    exact ⟨rfl, rfl, rfl⟩
  | true =>
    by_cases hlb : bs.length ≤ 600
    · cases hz : jparse bs with
      | error k =>
        have hk : k ≠ 0 := jparse_err hz
        by_cases h0 : lookJ (toJ x) 0 = 0
        · by_cases hn : (prJ (toJ x)).length ≤ 65536
          · exact back_short_no x bs cs vb g hX hB hT hU hx hlb h0 hn k hz hk
          · exact back_long_no x bs cs vb g hX hB hT hU hx hlb h0 hn k hz hk
        · exact back_bad_no x bs cs vb g hX hB hT hU hx hlb h0 k hz hk
      | ok z =>
        by_cases h0 : lookJ (toJ x) 0 = 0
        · by_cases hn : (prJ (toJ x)).length ≤ 65536
          · exact back_short_yes x bs cs vb g hX hB hT hU hx hlb h0 hn z hz
          · exact back_long_yes x bs cs vb g hX hB hT hU hx hlb h0 hn z hz
        · exact back_bad_yes x bs cs vb g hX hB hT hU hx hlb h0 z hz
    · refine .of (Does.of2 Tryz.func4 rfl Tryz.ntmps4 rfl ?_)
      obtain ⟨ab, cb, rfl⟩ := hB.slice
      have L1 := fun L => light_gives x cs g L hX
      rw [hx] at L1
      have HB := Hn.mk (show (600 : Int) < (bs.length : Nat) by omega)
      clear hX hB
      repeat' (first
    | ((with_reducible apply TL.pure); (· exact yQ); (· rfl))
    | ((with_reducible apply TL.pure); (· exact yV); (· rfl)) | ((with_reducible apply TW.pure); (· exact yV); (· rfl))
    | ((with_reducible apply TL.gives_plain); (· kernel_rfl); (· rfl); (· exact L1 _); (· rfl)) | ((with_reducible apply TW.gives_plain); (· kernel_rfl); (· rfl); (· exact L1 _); (· rfl))
    | ((with_reducible apply TL.pure); (· exact yA); (· rfl))
    | refine TC.seq ?_ | refine TC.region ?_ | refine TL.nil ?_ | refine TQ.then_normal ?_
    | ((with_reducible apply TL.storeE); (· rfl); (· rfl); (· rfl); (· exact pkA); (· infer_instance)) | ((with_reducible apply TL.store_whole); (· rfl); (· rfl); (· exact oneA); (· rfl); (· exact pkA); (· rfl))
    | refine TC.block ?_ | refine TC.ret ?_ | refine TC.skip ?_ | refine TC.exit ?_ | refine TC.cond rfl ?_
    | refine TQ.down ?_ | refine TQ.in_exit' rfl ?_
    | refine TL.guard_yes rfl rfl ?_ | refine TL.guard_no rfl rfl rfl rfl ?_ | refine TL.guard_no0 rfl rfl rfl ?_ | refine TL.guard_undef rfl rfl rfl ?_ | refine TL.guard_undef0 rfl rfl ?_ | refine TL.guard rfl rfl rfl ?_
    | refine Br.t rfl ?_ | refine Br.f rfl ?_ | refine Br.ky kpA ?_ | refine Br.kn kpA ?_ | refine Br.nky kpA ?_ | refine Br.nkn kpA ?_
    | refine Br.eq0 (fun _ => ?_) (fun _ => ?_) | refine Br.neq0 (fun _ => ?_) (fun _ => ?_) | refine Br.eq (fun _ => ?_) (fun _ => ?_) | refine Br.neq (fun _ => ?_) (fun _ => ?_) | refine Br.not (fun _ => ?_) (fun _ => ?_) | refine Br.dec (fun _ => ?_) (fun _ => ?_) | refine Br.bool (fun _ => ?_) (fun _ => ?_)
    | ((with_reducible apply TL.alloc_ag); (· rfl); intro _) | ((with_reducible apply TL.alloc_sc); (· rfl); (· rfl); intro _) | ((with_reducible apply TL.box_ag); (· rfl); (· rfl); intro _) | ((with_reducible apply TL.box_sc); (· rfl); (· rfl); (· rfl); intro _))
      refine TQ.endR1 (L' := []) Tryz.results4 rvA rfl (.refl _) ?_ selF
      exact ⟨rfl, rfl, rfl⟩
end Go.Proofs.YtfmadoeadmclbaaGreatDoor
