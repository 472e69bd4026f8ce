/-
  The law JsonCompares.
-/
import Derived.Test.YtfmadoeadmclbaaGreatDoorHc1
import Derived.Test.YtfmadoeadmclbaaGreatDoorHc38
import Derived.Test.YtfmadoeadmclbaaGreatDoorHc39
import Derived.Test.YtfmadoeadmclbaaGreatDoorHc40
import Derived.Test.YtfmadoeadmclbaaGreatDoorHc44
import Derived.Test.YtfmadoeadmclbaaGreatDoorHc45
namespace Go.Proofs.YtfmadoeadmclbaaGreatDoor
open Go.RowKit Go.TL
set_option maxRecDepth 100000

theorem wfVs_map {f : DV → DV} : ∀ (l : List DV), (∀ x ∈ l, wfV (f x)) → wfVs (l.map f)
  | [], _ => by rw [List.map_nil, wfVs]; trivial
  | x :: r, h => by rw [List.map_cons, wfVs]; exact ⟨h x List.mem_cons_self, wfVs_map r fun y hy => h y (List.mem_cons_of_mem _ hy)⟩
theorem wfVs_mem : ∀ {l : List DV} {x : DV}, wfVs l → x ∈ l → wfV x
  | y :: r, x, h, hx => by
    rw [wfVs] at h
    rcases List.mem_cons.1 hx with rfl | hx
    · exact h.1
    · exact wfVs_mem h.2 hx
theorem dsz_mem : ∀ {l : List DV} {x : DV}, x ∈ l → dsz x ≤ dszs l
  | y :: r, x, hx => by
    rw [dszs]
    rcases List.mem_cons.1 hx with rfl | hx
    · omega
    · have := dsz_mem hx
      omega
theorem wf_of : ∀ (N : Nat) (x : DV), dsz x ≤ N → wfV x → wfV (ofJ (toJ x))
  | 0, .mk .., h, _ => by rw [dsz] at h; omega
  | N + 1, .mk k b n s items names, h, hw => by
    have IH := wf_of N
    rw [dsz] at h
    rw [wfV] at hw
    obtain ⟨w1, w2, w3, w4⟩ := hw
    rw [toJ_eq]
    by_cases k0 : k = 0
    · rw [if_pos k0, ofJ, wfV]; exact ⟨by simp, by simp, fun h => by omega, fun h => by omega⟩
    rw [if_neg k0]
    by_cases k1 : k = 1
    · rw [if_pos k1, ofJ, wfV]; exact ⟨by simp, by simp, fun h => by omega, fun h => by omega⟩
    rw [if_neg k1]
    by_cases k2 : k = 2
    · rw [if_pos k2, ofJ, wfV]; exact ⟨by simp, by simp, fun h => by omega, fun h => by omega⟩
    rw [if_neg k2]
    by_cases k3 : k = 3
    · rw [if_pos k3, ofJ, wfV]; exact ⟨w1, by simp, fun h => by omega, fun h => by omega⟩
    rw [if_neg k3]
    by_cases k4 : k = 4
    · rw [if_pos k4, ofJ_list, wfV, List.map_map]
      refine ⟨by simp, by simpa using w2, fun h => by omega, fun _ => wfVs_map _ fun y hy => ?_⟩
      exact IH y (by have := dsz_mem hy; omega) (wfVs_mem (w4 (.inl k4)) hy)
    rw [if_neg k4]
    by_cases k5 : k = 5
    · rw [if_pos k5, ofJ_obj, wfV, List.map_map]
      refine ⟨by simp, by simpa using w2, fun _ => by rw [List.length_map]; exact w3 k5, fun _ => wfVs_map _ fun y hy => ?_⟩
      exact IH y (by have := dsz_mem hy; omega) (wfVs_mem (w4 (.inr k5)) hy)
    · rw [if_neg k5, ofJ, wfV]; exact ⟨by simp, by simp, fun h => by omega, fun h => by omega⟩
theorem field_mem {x w : DV} {nm : List UInt8} (h : fieldD x nm = some w) : ∃ k b n s items names, x = .mk k b n s items names ∧ k = 5 ∧ w ∈ items := by
  obtain ⟨k, b, n, s, items, names⟩ := x
  rw [fieldD] at h
  split at h
  · rename_i h5
    obtain ⟨i, _, hi⟩ := Option.bind_eq_some_iff.1 h
    exact ⟨k, b, n, s, items, names, rfl, h5, List.mem_of_getElem? hi⟩
  · cases h
theorem field_wf {x w : DV} {nm : List UInt8} (h : fieldD x nm = some w) (hx : wfV x) : wfV w := by
  obtain ⟨k, b, n, s, items, names, rfl, h5, hm⟩ := field_mem h
  rw [wfV] at hx
  exact wfVs_mem (hx.2.2.2 (.inr h5)) hm
theorem field_ok {x w : DV} {nm : List UInt8} (h : fieldD x nm = some w) (hx : okJ (toJ x)) : okJ (toJ w) := by
  obtain ⟨k, b, n, s, items, names, rfl, h5, hm⟩ := field_mem h
  subst h5
  rw [toJ_5, okJ] at hx
  exact okJs_mem hx.2.2.2 (List.mem_map_of_mem hm)
theorem smJs_mem : ∀ {l : List J} {x : J}, smJs l → x ∈ l → smJ x
  | y :: r, x, h, hx => by
    rw [smJs] at h
    rcases List.mem_cons.1 hx with rfl | hx
    · exact h.1
    · exact smJs_mem h.2 hx
theorem field_sm {x w : DV} {nm : List UInt8} (h : fieldD x nm = some w) (hx : smJ (toJ x)) : smJ (toJ w) := by
  obtain ⟨k, b, n, s, items, names, rfl, h5, hm⟩ := field_mem h
  subst h5
  rw [toJ_5, smJ] at hx
  exact smJs_mem hx.2.2 (List.mem_map_of_mem hm)
set_option maxHeartbeats 64000000 in
theorem com_ok_some_true (x y : DV) (nm : List UInt8) (cs ds : List Value) (g : Gh) (hX : IsV g x cs) (hY : IsV g y ds) (hT : GTabs g) (hU : GU8 g) (hx : lightB x = true) (hy : lightB y = true) (hn : nm.length ≤ 300) (hmx : mayV x 0 = 0) (hmy : mayV y 0 = 0) (hB : sameV x y = true) (w : DV) (hf : fieldD x nm = some w) : Gives Tryz.prog 6 #[.agg cs.toArray, .agg ds.toArray, str nm] g [] (.bool true) := by
  refine .of (Does.of3 Tryz.func6 rfl Tryz.ntmps6 rfl ?_)
  have L1 := fun L => light_gives x cs g L hX
  have L2 := fun L => light_gives y ds g L hY
  rw [hx] at L1
  rw [hy] at L2
  have wx := wf_of_light hx
  have wy := wf_of_light hy
  have l1 := hX.len
  have l2 := hY.len
  obtain ⟨zx, lx⟩ := sz_toJ _ x (Nat.le_refl _) 300 (wfN_of_light hx)
  obtain ⟨zy, ly⟩ := sz_toJ _ y (Nat.le_refl _) 300 (wfN_of_light hy)
  have sx := sm_of_sz _ _ zx (by decide)
  have sy := sm_of_sz _ _ zy (by decide)
  have HL := Hn.mk (show ¬ (300 : Int) < (nm.length : Nat) by omega)
  have AW := fun (g2 : Gh) (h : g.le g2) L => awake04_gives (g := g2) (L := L) (hT.le h) (hU.le h)
  have RX := fun (g2 : Gh) (h : g.le g2) L => rMay_gives x cs g2 L (IsV.le h _ _ hX) wx
  have RY := fun (g2 : Gh) (h : g.le g2) L => rMay_gives y ds g2 L (IsV.le h _ _ hY) wy
  have SV := fun (g2 : Gh) (h : g.le g2) L => rSame4_gives _ x (Nat.le_refl _) y cs ds g2 L (IsV.le h _ _ hX) (IsV.le h _ _ hY) wx wy
  have SA := fun (g2 : Gh) (h : g.le g2) (v w : Value) (hv : IsJ g2 (toJ x) v) (hw : IsJ g2 (toJ y) w) L => Same_gives (toJ x) (toJ y) v w g2 L hv hw sx sy (hT.le h) (hU.le h)
  have FJ := fun (g2 : Gh) (v : Value) (hv : IsJ g2 (toJ x) v) => field_gives (toJ x) v g2 nm hv sx
  have FD := fun (g2 : Gh) (h : g.le g2) => rField4_gives x cs g2 nm (IsV.le h _ _ hX) wx
  rw [field_toJ, hf] at FJ
  rw [hf] at FD
  dsimp only [Option.map] at FJ FD
  have ex := look_toJ _ x (Nat.le_refl _) 0
  have ey := look_toJ _ y (Nat.le_refl _) 0
  rw [hmx] at RX ex
  rw [hmy] at RY ey
  obtain ⟨okx, _⟩ := ok_zero ex lx
  obtain ⟨oky, _⟩ := ok_zero ey ly
  have e1 : SameJ (toJ x) (toJ y) = true := by
    unfold SameJ
    rw [ex, ey, same_toJ _ x (Nat.le_refl _) y (kn_ok _ okx) (kn_ok _ oky) lx ly, hB]; rfl
  rw [e1] at SA
  rw [hB] at SV
  have okw := field_ok hf okx
  have sow := same_of okw
  have ww := field_wf hf wx
  have ww2 := wf_of _ w (Nat.le_refl _) ww
  have sw := field_sm hf sx
  clear hn hf
  repeat' (first
    | ((with_reducible apply TL.pure); (· exact yQ); (· rfl))
    | ((with_reducible apply TL.pure); (· exact yV); (· rfl)) | ((with_reducible apply TW.pure); (· exact yV); (· rfl))
    | ((with_reducible apply TL.gives_plain); (· kernel_rfl); (· rfl); (· exact L1 _); (· rfl)) | ((with_reducible apply TW.gives_plain); (· kernel_rfl); (· rfl); (· exact L1 _); (· rfl))
    | ((with_reducible apply TL.gives_plain); (· kernel_rfl); (· rfl); (· exact L2 _); (· rfl)) | ((with_reducible apply TW.gives_plain); (· kernel_rfl); (· rfl); (· exact L2 _); (· rfl))
    | (refine TL.makes (Enters.plain (by kernel_rfl) (by rfl)) (told04_makes _ x (Nat.le_refl _) cs g _ hX wx) (by rfl) ?_; (rintro v1 g1 h1 j1; have ho1 := j1.one; have hY1 := IsV.le h1 _ _ hY))
    | (refine TL.makes (Enters.plain (by kernel_rfl) (by rfl)) (told04_makes _ y (Nat.le_refl _) ds g1 _ hY1 wy) (by rfl) ?_; (rintro v2 g2 h2 j2; have ho2 := j2.one; have h02 := h1.trans h2; have Q1 := RX g2 h02; have Q2 := RY g2 h02; have Q3 := SA g2 h02 v1 v2 (IsJ.le h2 _ _ j1) j2; have Q4 := SV g2 h02; obtain ⟨vf, bf, GF, of1, hf1⟩ := FJ g2 v1 (IsJ.le h2 _ _ j1); obtain ⟨zc, bd, GD, lz, hd1⟩ := FD g2 h02; obtain ⟨rfl, jf⟩ := hf1; obtain ⟨rfl, jd⟩ := hd1; obtain ⟨dk, db, dn, dt, di, dil, dic, dm, dml, dmc, rfl⟩ := jd.form; have QO := fun L => of04_makes _ (toJ w) (Nat.le_refl _) vf g2 L jf sw; have JD := Hn.mk jd; clear jf jd ; clear RX RY SA SV FJ FD j1 j2))
    | ((with_reducible apply TL.gives_plain); (· kernel_rfl); (· rfl); (· exact Q1 _); (· rfl)) | ((with_reducible apply TW.gives_plain); (· kernel_rfl); (· rfl); (· exact Q1 _); (· rfl))
    | ((with_reducible apply TL.gives_plain); (· kernel_rfl); (· rfl); (· exact Q2 _); (· rfl)) | ((with_reducible apply TW.gives_plain); (· kernel_rfl); (· rfl); (· exact Q2 _); (· rfl))
    | ((with_reducible apply TL.gives_plain); (· kernel_rfl); (· rfl); (· exact Q3 _); (· rfl)) | ((with_reducible apply TW.gives_plain); (· kernel_rfl); (· rfl); (· exact Q3 _); (· rfl))
    | ((with_reducible apply TL.gives_plain); (· kernel_rfl); (· rfl); (· exact Q4 _); (· rfl)) | ((with_reducible apply TW.gives_plain); (· kernel_rfl); (· rfl); (· exact Q4 _); (· rfl))
    | ((with_reducible apply TL.gives_plain); (· kernel_rfl); (· rfl); (· exact GF _); (· rfl)) | ((with_reducible apply TW.gives_plain); (· kernel_rfl); (· rfl); (· exact GF _); (· rfl))
    | ((with_reducible apply TL.gives_plain); (· kernel_rfl); (· rfl); (· exact GD _); (· rfl)) | ((with_reducible apply TW.gives_plain); (· kernel_rfl); (· rfl); (· exact GD _); (· rfl))
    | (refine TL.makes (Enters.plain (by kernel_rfl) (by rfl)) (QO _) (by rfl) ?_; rintro vj gj hgj ⟨cz, hvz, hz⟩; subst hvz; obtain ⟨zk, zb, zn, zs, zi, zil, zic, zm, zml, zmc, rfl⟩ := hz.form; (have h03 := h02.trans hgj; have QS := fun L => rSame4_gives _ (ofJ (toJ w)) (Nat.le_refl _) w _ _ gj L hz (IsV.le hgj _ _ JD.out) ww2 ww; rw [sow] at QS; have QW := AW gj h03; clear QO AW hz))
    | ((with_reducible apply TL.gives_plain); (· kernel_rfl); (· rfl); (· exact QS _); (· rfl)) | ((with_reducible apply TW.gives_plain); (· kernel_rfl); (· rfl); (· exact QS _); (· rfl))
    | ((with_reducible apply TL.gives_plain); (· kernel_rfl); (· rfl); (· exact QW _); (· rfl)) | ((with_reducible apply TW.gives_plain); (· kernel_rfl); (· rfl); (· exact QW _); (· rfl))
    | ((with_reducible apply TA.takeN 0); (· rfl); (· decide +kernel); (· rfl); (· (first | exact yQ | exact yA | exact yB | exact yM | exact yV)); (· decide +kernel); (· decide +kernel); (· rfl); (· exact fun _ _ _ h => h); (· rfl))
    | ((with_reducible apply TA.takeN 1); (· rfl); (· decide +kernel); (· rfl); (· (first | exact yQ | exact yA | exact yB | exact yM | exact yV)); (· decide +kernel); (· decide +kernel); (· rfl); (· exact fun _ _ _ h => h); (· rfl))
    | ((with_reducible apply TA.takeN 2); (· rfl); (· decide +kernel); (· rfl); (· (first | exact yQ | exact yA | exact yB | exact yM | exact yV)); (· decide +kernel); (· decide +kernel); (· rfl); (· exact fun _ _ _ h => h); (· rfl))
    | ((with_reducible apply TA.takeN 3); (· rfl); (· decide +kernel); (· rfl); (· (first | exact yQ | exact yA | exact yB | exact yM | exact yV)); (· decide +kernel); (· decide +kernel); (· rfl); (· exact fun _ _ _ h => h); (· rfl))
    | ((with_reducible apply TA.take_gN 0); (· rfl); (· decide +kernel); (· rfl); (· rfl); (· rfl); (· (first | exact yQ | exact yA | exact yB | exact yM | exact yV)); (· decide +kernel); (· decide +kernel); (· rfl); (· exact fun _ _ _ h => h); (· rfl))
    | ((with_reducible apply TA.take_gN 1); (· rfl); (· decide +kernel); (· rfl); (· rfl); (· rfl); (· (first | exact yQ | exact yA | exact yB | exact yM | exact yV)); (· decide +kernel); (· decide +kernel); (· rfl); (· exact fun _ _ _ h => h); (· rfl))
    | ((with_reducible apply TA.take_gN 2); (· rfl); (· decide +kernel); (· rfl); (· rfl); (· rfl); (· (first | exact yQ | exact yA | exact yB | exact yM | exact yV)); (· decide +kernel); (· decide +kernel); (· rfl); (· exact fun _ _ _ h => h); (· rfl))
    | ((with_reducible apply TA.take_gN 3); (· rfl); (· decide +kernel); (· rfl); (· rfl); (· rfl); (· (first | exact yQ | exact yA | exact yB | exact yM | exact yV)); (· decide +kernel); (· decide +kernel); (· rfl); (· exact fun _ _ _ h => h); (· rfl))
    | ((with_reducible apply TA.no_gN 0); (· rfl); (· decide +kernel); (· rfl); (· rfl); (· rfl); (· rfl); (· decide +kernel); (· decide +kernel); (· rfl); (· exact fun _ _ _ h => h); (· rfl))
    | ((with_reducible apply TA.no_gN 1); (· rfl); (· decide +kernel); (· rfl); (· rfl); (· rfl); (· rfl); (· decide +kernel); (· decide +kernel); (· rfl); (· exact fun _ _ _ h => h); (· rfl))
    | ((with_reducible apply TA.no_gN 2); (· rfl); (· decide +kernel); (· rfl); (· rfl); (· rfl); (· rfl); (· decide +kernel); (· decide +kernel); (· rfl); (· exact fun _ _ _ h => h); (· rfl))
    | ((with_reducible apply TA.no_gN 3); (· rfl); (· decide +kernel); (· rfl); (· rfl); (· rfl); (· rfl); (· decide +kernel); (· decide +kernel); (· rfl); (· exact fun _ _ _ h => h); (· rfl))
    | ((with_reducible apply TA.no_uN 0); (· rfl); (· decide +kernel); (· rfl); (· rfl); (· rfl); (· decide +kernel); (· decide +kernel); (· rfl); (· exact fun _ _ _ h => h); (· rfl))
    | ((with_reducible apply TA.no_uN 1); (· rfl); (· decide +kernel); (· rfl); (· rfl); (· rfl); (· decide +kernel); (· decide +kernel); (· rfl); (· exact fun _ _ _ h => h); (· rfl))
    | ((with_reducible apply TA.no_uN 2); (· rfl); (· decide +kernel); (· rfl); (· rfl); (· rfl); (· decide +kernel); (· decide +kernel); (· rfl); (· exact fun _ _ _ h => h); (· rfl))
    | ((with_reducible apply TA.no_uN 3); (· rfl); (· decide +kernel); (· rfl); (· rfl); (· rfl); (· decide +kernel); (· decide +kernel); (· rfl); (· exact fun _ _ _ h => h); (· rfl))
    | ((with_reducible apply TA.takeN 0); (· rfl); (· decide +kernel); (· rfl); (· (first | exact yQ | exact yA | exact yB | exact yM | exact yV)); (· decide +kernel); (· decide +kernel); (· rfl); (· exact fun _ _ _ h => h); (· rfl))
    | ((with_reducible apply TA.takeN 1); (· rfl); (· decide +kernel); (· rfl); (· (first | exact yQ | exact yA | exact yB | exact yM | exact yV)); (· decide +kernel); (· decide +kernel); (· rfl); (· exact fun _ _ _ h => h); (· rfl))
    | ((with_reducible apply TA.takeN 2); (· rfl); (· decide +kernel); (· rfl); (· (first | exact yQ | exact yA | exact yB | exact yM | exact yV)); (· decide +kernel); (· decide +kernel); (· rfl); (· exact fun _ _ _ h => h); (· rfl))
    | ((with_reducible apply TA.takeN 3); (· rfl); (· decide +kernel); (· rfl); (· (first | exact yQ | exact yA | exact yB | exact yM | exact yV)); (· decide +kernel); (· decide +kernel); (· rfl); (· exact fun _ _ _ h => h); (· rfl))
    | ((with_reducible apply TA.oneN 0); (· rfl); (· rfl); (· decide +kernel); (· rfl))
    | ((with_reducible apply TA.oneN 1); (· rfl); (· rfl); (· decide +kernel); (· rfl))
    | ((with_reducible apply TA.oneN 2); (· rfl); (· rfl); (· decide +kernel); (· rfl))
    | ((with_reducible apply TA.oneN 3); (· rfl); (· rfl); (· decide +kernel); (· rfl))
    | refine TQ.any leF selF ?_
    | refine TC.region_any 6 (_) (by kernel_rfl) rfl selF ?_ | refine TA.done (by decide +kernel) ?_ | refine TQ.any_panic ?_
    | refine TC.region_any 24 (_) (by kernel_rfl) rfl selF ?_ | refine TA.done (by decide +kernel) ?_ | refine TQ.any_panic ?_
    | ((with_reducible apply TL.pure); (· exact yA); (· rfl))
    | refine TC.seq ?_ | refine TC.region ?_ | refine TL.nil ?_ | refine TQ.then_normal ?_
    | ((with_reducible apply TL.storeE); (· rfl); (· rfl); (· rfl); (· exact pkA); (· infer_instance)) | ((with_reducible apply TL.store_whole); (· rfl); (· rfl); (· exact oneA); (· rfl); (· exact pkA); (· rfl))
    | refine TC.block ?_ | refine TC.ret ?_ | refine TC.skip ?_ | refine TC.exit ?_ | refine TC.cond rfl ?_
    | refine TQ.down ?_ | refine TQ.in_exit' rfl ?_
    | refine TL.guard_yes rfl rfl ?_ | refine TL.guard_no rfl rfl rfl rfl ?_ | refine TL.guard_no0 rfl rfl rfl ?_ | refine TL.guard_undef rfl rfl rfl ?_ | refine TL.guard_undef0 rfl rfl ?_ | refine TL.guard rfl rfl rfl ?_
    | refine Br.t rfl ?_ | refine Br.f rfl ?_ | refine Br.ky kpA ?_ | refine Br.kn kpA ?_ | refine Br.nky kpA ?_ | refine Br.nkn kpA ?_
    | refine Br.eq0 (fun _ => ?_) (fun _ => ?_) | refine Br.neq0 (fun _ => ?_) (fun _ => ?_) | refine Br.eq (fun _ => ?_) (fun _ => ?_) | refine Br.neq (fun _ => ?_) (fun _ => ?_) | refine Br.not (fun _ => ?_) (fun _ => ?_) | refine Br.dec (fun _ => ?_) (fun _ => ?_) | refine Br.bool (fun _ => ?_) (fun _ => ?_)
    | ((with_reducible apply TL.alloc_ag); (· rfl); intro _) | ((with_reducible apply TL.alloc_sc); (· rfl); (· rfl); intro _) | ((with_reducible apply TL.box_ag); (· rfl); (· rfl); intro _) | ((with_reducible apply TL.box_sc); (· rfl); (· rfl); (· rfl); intro _)
    | apply TC.region_draw (by kernel_rfl) (by kernel_rfl) | refine TW.nil ?_ | ((with_reducible apply TW.pure); (· exact yA); (· rfl)))
  refine TQ.less h03 ?_
  refine TQ.endR1 (L' := []) Tryz.results6 rvA rfl (.refl _) ?_ selF
  exact ⟨rfl, rfl, rfl⟩
set_option maxHeartbeats 64000000 in
theorem com_ok_some_false (x y : DV) (nm : List UInt8) (cs ds : List Value) (g : Gh) (hX : IsV g x cs) (hY : IsV g y ds) (hT : GTabs g) (hU : GU8 g) (hx : lightB x = true) (hy : lightB y = true) (hn : nm.length ≤ 300) (hmx : mayV x 0 = 0) (hmy : mayV y 0 = 0) (hB : sameV x y = false) (w : DV) (hf : fieldD x nm = some w) : Gives Tryz.prog 6 #[.agg cs.toArray, .agg ds.toArray, str nm] g [] (.bool true) := by
  refine .of (Does.of3 Tryz.func6 rfl Tryz.ntmps6 rfl ?_)
  have L1 := fun L => light_gives x cs g L hX
  have L2 := fun L => light_gives y ds g L hY
  rw [hx] at L1
  rw [hy] at L2
  have wx := wf_of_light hx
  have wy := wf_of_light hy
  have l1 := hX.len
  have l2 := hY.len
  obtain ⟨zx, lx⟩ := sz_toJ _ x (Nat.le_refl _) 300 (wfN_of_light hx)
  obtain ⟨zy, ly⟩ := sz_toJ _ y (Nat.le_refl _) 300 (wfN_of_light hy)
  have sx := sm_of_sz _ _ zx (by decide)
  have sy := sm_of_sz _ _ zy (by decide)
  have HL := Hn.mk (show ¬ (300 : Int) < (nm.length : Nat) by omega)
  have AW := fun (g2 : Gh) (h : g.le g2) L => awake04_gives (g := g2) (L := L) (hT.le h) (hU.le h)
  have RX := fun (g2 : Gh) (h : g.le g2) L => rMay_gives x cs g2 L (IsV.le h _ _ hX) wx
  have RY := fun (g2 : Gh) (h : g.le g2) L => rMay_gives y ds g2 L (IsV.le h _ _ hY) wy
  have SV := fun (g2 : Gh) (h : g.le g2) L => rSame4_gives _ x (Nat.le_refl _) y cs ds g2 L (IsV.le h _ _ hX) (IsV.le h _ _ hY) wx wy
  have SA := fun (g2 : Gh) (h : g.le g2) (v w : Value) (hv : IsJ g2 (toJ x) v) (hw : IsJ g2 (toJ y) w) L => Same_gives (toJ x) (toJ y) v w g2 L hv hw sx sy (hT.le h) (hU.le h)
  have FJ := fun (g2 : Gh) (v : Value) (hv : IsJ g2 (toJ x) v) => field_gives (toJ x) v g2 nm hv sx
  have FD := fun (g2 : Gh) (h : g.le g2) => rField4_gives x cs g2 nm (IsV.le h _ _ hX) wx
  rw [field_toJ, hf] at FJ
  rw [hf] at FD
  dsimp only [Option.map] at FJ FD
  have ex := look_toJ _ x (Nat.le_refl _) 0
  have ey := look_toJ _ y (Nat.le_refl _) 0
  rw [hmx] at RX ex
  rw [hmy] at RY ey
  obtain ⟨okx, _⟩ := ok_zero ex lx
  obtain ⟨oky, _⟩ := ok_zero ey ly
  have e1 : SameJ (toJ x) (toJ y) = false := by
    unfold SameJ
    rw [ex, ey, same_toJ _ x (Nat.le_refl _) y (kn_ok _ okx) (kn_ok _ oky) lx ly, hB]; rfl
  rw [e1] at SA
  rw [hB] at SV
  have okw := field_ok hf okx
  have sow := same_of okw
  have ww := field_wf hf wx
  have ww2 := wf_of _ w (Nat.le_refl _) ww
  have sw := field_sm hf sx
  clear hn hf
  repeat' (first
    | ((with_reducible apply TL.pure); (· exact yQ); (· rfl))
    | ((with_reducible apply TL.pure); (· exact yV); (· rfl)) | ((with_reducible apply TW.pure); (· exact yV); (· rfl))
    | ((with_reducible apply TL.gives_plain); (· kernel_rfl); (· rfl); (· exact L1 _); (· rfl)) | ((with_reducible apply TW.gives_plain); (· kernel_rfl); (· rfl); (· exact L1 _); (· rfl))
    | ((with_reducible apply TL.gives_plain); (· kernel_rfl); (· rfl); (· exact L2 _); (· rfl)) | ((with_reducible apply TW.gives_plain); (· kernel_rfl); (· rfl); (· exact L2 _); (· rfl))
    | (refine TL.makes (Enters.plain (by kernel_rfl) (by rfl)) (told04_makes _ x (Nat.le_refl _) cs g _ hX wx) (by rfl) ?_; (rintro v1 g1 h1 j1; have ho1 := j1.one; have hY1 := IsV.le h1 _ _ hY))
    | (refine TL.makes (Enters.plain (by kernel_rfl) (by rfl)) (told04_makes _ y (Nat.le_refl _) ds g1 _ hY1 wy) (by rfl) ?_; (rintro v2 g2 h2 j2; have ho2 := j2.one; have h02 := h1.trans h2; have Q1 := RX g2 h02; have Q2 := RY g2 h02; have Q3 := SA g2 h02 v1 v2 (IsJ.le h2 _ _ j1) j2; have Q4 := SV g2 h02; obtain ⟨vf, bf, GF, of1, hf1⟩ := FJ g2 v1 (IsJ.le h2 _ _ j1); obtain ⟨zc, bd, GD, lz, hd1⟩ := FD g2 h02; obtain ⟨rfl, jf⟩ := hf1; obtain ⟨rfl, jd⟩ := hd1; obtain ⟨dk, db, dn, dt, di, dil, dic, dm, dml, dmc, rfl⟩ := jd.form; have QO := fun L => of04_makes _ (toJ w) (Nat.le_refl _) vf g2 L jf sw; have JD := Hn.mk jd; clear jf jd ; clear RX RY SA SV FJ FD j1 j2))
    | ((with_reducible apply TL.gives_plain); (· kernel_rfl); (· rfl); (· exact Q1 _); (· rfl)) | ((with_reducible apply TW.gives_plain); (· kernel_rfl); (· rfl); (· exact Q1 _); (· rfl))
    | ((with_reducible apply TL.gives_plain); (· kernel_rfl); (· rfl); (· exact Q2 _); (· rfl)) | ((with_reducible apply TW.gives_plain); (· kernel_rfl); (· rfl); (· exact Q2 _); (· rfl))
    | ((with_reducible apply TL.gives_plain); (· kernel_rfl); (· rfl); (· exact Q3 _); (· rfl)) | ((with_reducible apply TW.gives_plain); (· kernel_rfl); (· rfl); (· exact Q3 _); (· rfl))
    | ((with_reducible apply TL.gives_plain); (· kernel_rfl); (· rfl); (· exact Q4 _); (· rfl)) | ((with_reducible apply TW.gives_plain); (· kernel_rfl); (· rfl); (· exact Q4 _); (· rfl))
    | ((with_reducible apply TL.gives_plain); (· kernel_rfl); (· rfl); (· exact GF _); (· rfl)) | ((with_reducible apply TW.gives_plain); (· kernel_rfl); (· rfl); (· exact GF _); (· rfl))
    | ((with_reducible apply TL.gives_plain); (· kernel_rfl); (· rfl); (· exact GD _); (· rfl)) | ((with_reducible apply TW.gives_plain); (· kernel_rfl); (· rfl); (· exact GD _); (· rfl))
    | (refine TL.makes (Enters.plain (by kernel_rfl) (by rfl)) (QO _) (by rfl) ?_; rintro vj gj hgj ⟨cz, hvz, hz⟩; subst hvz; obtain ⟨zk, zb, zn, zs, zi, zil, zic, zm, zml, zmc, rfl⟩ := hz.form; (have h03 := h02.trans hgj; have QS := fun L => rSame4_gives _ (ofJ (toJ w)) (Nat.le_refl _) w _ _ gj L hz (IsV.le hgj _ _ JD.out) ww2 ww; rw [sow] at QS; have QW := AW gj h03; clear QO AW hz))
    | ((with_reducible apply TL.gives_plain); (· kernel_rfl); (· rfl); (· exact QS _); (· rfl)) | ((with_reducible apply TW.gives_plain); (· kernel_rfl); (· rfl); (· exact QS _); (· rfl))
    | ((with_reducible apply TL.gives_plain); (· kernel_rfl); (· rfl); (· exact QW _); (· rfl)) | ((with_reducible apply TW.gives_plain); (· kernel_rfl); (· rfl); (· exact QW _); (· rfl))
    | ((with_reducible apply TA.takeN 0); (· rfl); (· decide +kernel); (· rfl); (· (first | exact yQ | exact yA | exact yB | exact yM | exact yV)); (· decide +kernel); (· decide +kernel); (· rfl); (· exact fun _ _ _ h => h); (· rfl))
    | ((with_reducible apply TA.takeN 1); (· rfl); (· decide +kernel); (· rfl); (· (first | exact yQ | exact yA | exact yB | exact yM | exact yV)); (· decide +kernel); (· decide +kernel); (· rfl); (· exact fun _ _ _ h => h); (· rfl))
    | ((with_reducible apply TA.takeN 2); (· rfl); (· decide +kernel); (· rfl); (· (first | exact yQ | exact yA | exact yB | exact yM | exact yV)); (· decide +kernel); (· decide +kernel); (· rfl); (· exact fun _ _ _ h => h); (· rfl))
    | ((with_reducible apply TA.takeN 3); (· rfl); (· decide +kernel); (· rfl); (· (first | exact yQ | exact yA | exact yB | exact yM | exact yV)); (· decide +kernel); (· decide +kernel); (· rfl); (· exact fun _ _ _ h => h); (· rfl))
    | ((with_reducible apply TA.take_gN 0); (· rfl); (· decide +kernel); (· rfl); (· rfl); (· rfl); (· (first | exact yQ | exact yA | exact yB | exact yM | exact yV)); (· decide +kernel); (· decide +kernel); (· rfl); (· exact fun _ _ _ h => h); (· rfl))
    | ((with_reducible apply TA.take_gN 1); (· rfl); (· decide +kernel); (· rfl); (· rfl); (· rfl); (· (first | exact yQ | exact yA | exact yB | exact yM | exact yV)); (· decide +kernel); (· decide +kernel); (· rfl); (· exact fun _ _ _ h => h); (· rfl))
    | ((with_reducible apply TA.take_gN 2); (· rfl); (· decide +kernel); (· rfl); (· rfl); (· rfl); (· (first | exact yQ | exact yA | exact yB | exact yM | exact yV)); (· decide +kernel); (· decide +kernel); (· rfl); (· exact fun _ _ _ h => h); (· rfl))
    | ((with_reducible apply TA.take_gN 3); (· rfl); (· decide +kernel); (· rfl); (· rfl); (· rfl); (· (first | exact yQ | exact yA | exact yB | exact yM | exact yV)); (· decide +kernel); (· decide +kernel); (· rfl); (· exact fun _ _ _ h => h); (· rfl))
    | ((with_reducible apply TA.no_gN 0); (· rfl); (· decide +kernel); (· rfl); (· rfl); (· rfl); (· rfl); (· decide +kernel); (· decide +kernel); (· rfl); (· exact fun _ _ _ h => h); (· rfl))
    | ((with_reducible apply TA.no_gN 1); (· rfl); (· decide +kernel); (· rfl); (· rfl); (· rfl); (· rfl); (· decide +kernel); (· decide +kernel); (· rfl); (· exact fun _ _ _ h => h); (· rfl))
    | ((with_reducible apply TA.no_gN 2); (· rfl); (· decide +kernel); (· rfl); (· rfl); (· rfl); (· rfl); (· decide +kernel); (· decide +kernel); (· rfl); (· exact fun _ _ _ h => h); (· rfl))
    | ((with_reducible apply TA.no_gN 3); (· rfl); (· decide +kernel); (· rfl); (· rfl); (· rfl); (· rfl); (· decide +kernel); (· decide +kernel); (· rfl); (· exact fun _ _ _ h => h); (· rfl))
    | ((with_reducible apply TA.no_uN 0); (· rfl); (· decide +kernel); (· rfl); (· rfl); (· rfl); (· decide +kernel); (· decide +kernel); (· rfl); (· exact fun _ _ _ h => h); (· rfl))
    | ((with_reducible apply TA.no_uN 1); (· rfl); (· decide +kernel); (· rfl); (· rfl); (· rfl); (· decide +kernel); (· decide +kernel); (· rfl); (· exact fun _ _ _ h => h); (· rfl))
    | ((with_reducible apply TA.no_uN 2); (· rfl); (· decide +kernel); (· rfl); (· rfl); (· rfl); (· decide +kernel); (· decide +kernel); (· rfl); (· exact fun _ _ _ h => h); (· rfl))
    | ((with_reducible apply TA.no_uN 3); (· rfl); (· decide +kernel); (· rfl); (· rfl); (· rfl); (· decide +kernel); (· decide +kernel); (· rfl); (· exact fun _ _ _ h => h); (· rfl))
    | ((with_reducible apply TA.takeN 0); (· rfl); (· decide +kernel); (· rfl); (· (first | exact yQ | exact yA | exact yB | exact yM | exact yV)); (· decide +kernel); (· decide +kernel); (· rfl); (· exact fun _ _ _ h => h); (· rfl))
    | ((with_reducible apply TA.takeN 1); (· rfl); (· decide +kernel); (· rfl); (· (first | exact yQ | exact yA | exact yB | exact yM | exact yV)); (· decide +kernel); (· decide +kernel); (· rfl); (· exact fun _ _ _ h => h); (· rfl))
    | ((with_reducible apply TA.takeN 2); (· rfl); (· decide +kernel); (· rfl); (· (first | exact yQ | exact yA | exact yB | exact yM | exact yV)); (· decide +kernel); (· decide +kernel); (· rfl); (· exact fun _ _ _ h => h); (· rfl))
    | ((with_reducible apply TA.takeN 3); (· rfl); (· decide +kernel); (· rfl); (· (first | exact yQ | exact yA | exact yB | exact yM | exact yV)); (· decide +kernel); (· decide +kernel); (· rfl); (· exact fun _ _ _ h => h); (· rfl))
    | ((with_reducible apply TA.oneN 0); (· rfl); (· rfl); (· decide +kernel); (· rfl))
    | ((with_reducible apply TA.oneN 1); (· rfl); (· rfl); (· decide +kernel); (· rfl))
    | ((with_reducible apply TA.oneN 2); (· rfl); (· rfl); (· decide +kernel); (· rfl))
    | ((with_reducible apply TA.oneN 3); (· rfl); (· rfl); (· decide +kernel); (· rfl))
    | refine TQ.any leF selF ?_
    | refine TC.region_any 6 (_) (by kernel_rfl) rfl selF ?_ | refine TA.done (by decide +kernel) ?_ | refine TQ.any_panic ?_
    | refine TC.region_any 24 (_) (by kernel_rfl) rfl selF ?_ | refine TA.done (by decide +kernel) ?_ | refine TQ.any_panic ?_
    | ((with_reducible apply TL.pure); (· exact yA); (· rfl))
    | refine TC.seq ?_ | refine TC.region ?_ | refine TL.nil ?_ | refine TQ.then_normal ?_
    | ((with_reducible apply TL.storeE); (· rfl); (· rfl); (· rfl); (· exact pkA); (· infer_instance)) | ((with_reducible apply TL.store_whole); (· rfl); (· rfl); (· exact oneA); (· rfl); (· exact pkA); (· rfl))
    | refine TC.block ?_ | refine TC.ret ?_ | refine TC.skip ?_ | refine TC.exit ?_ | refine TC.cond rfl ?_
    | refine TQ.down ?_ | refine TQ.in_exit' rfl ?_
    | refine TL.guard_yes rfl rfl ?_ | refine TL.guard_no rfl rfl rfl rfl ?_ | refine TL.guard_no0 rfl rfl rfl ?_ | refine TL.guard_undef rfl rfl rfl ?_ | refine TL.guard_undef0 rfl rfl ?_ | refine TL.guard rfl rfl rfl ?_
    | refine Br.t rfl ?_ | refine Br.f rfl ?_ | refine Br.ky kpA ?_ | refine Br.kn kpA ?_ | refine Br.nky kpA ?_ | refine Br.nkn kpA ?_
    | refine Br.eq0 (fun _ => ?_) (fun _ => ?_) | refine Br.neq0 (fun _ => ?_) (fun _ => ?_) | refine Br.eq (fun _ => ?_) (fun _ => ?_) | refine Br.neq (fun _ => ?_) (fun _ => ?_) | refine Br.not (fun _ => ?_) (fun _ => ?_) | refine Br.dec (fun _ => ?_) (fun _ => ?_) | refine Br.bool (fun _ => ?_) (fun _ => ?_)
    | ((with_reducible apply TL.alloc_ag); (· rfl); intro _) | ((with_reducible apply TL.alloc_sc); (· rfl); (· rfl); intro _) | ((with_reducible apply TL.box_ag); (· rfl); (· rfl); intro _) | ((with_reducible apply TL.box_sc); (· rfl); (· rfl); (· rfl); intro _)
    | apply TC.region_draw (by kernel_rfl) (by kernel_rfl) | refine TW.nil ?_ | ((with_reducible apply TW.pure); (· exact yA); (· rfl)))
  refine TQ.less h03 ?_
  refine TQ.endR1 (L' := []) Tryz.results6 rvA rfl (.refl _) ?_ selF
  exact ⟨rfl, rfl, rfl⟩
set_option maxHeartbeats 64000000 in
theorem com_ok_none_true (x y : DV) (nm : List UInt8) (cs ds : List Value) (g : Gh) (hX : IsV g x cs) (hY : IsV g y ds) (hT : GTabs g) (hU : GU8 g) (hx : lightB x = true) (hy : lightB y = true) (hn : nm.length ≤ 300) (hmx : mayV x 0 = 0) (hmy : mayV y 0 = 0) (hB : sameV x y = true) (hf : fieldD x nm = none) : Gives Tryz.prog 6 #[.agg cs.toArray, .agg ds.toArray, str nm] g [] (.bool true) := by
  refine .of (Does.of3 Tryz.func6 rfl Tryz.ntmps6 rfl ?_)
  have L1 := fun L => light_gives x cs g L hX
  have L2 := fun L => light_gives y ds g L hY
  rw [hx] at L1
  rw [hy] at L2
  have wx := wf_of_light hx
  have wy := wf_of_light hy
  have l1 := hX.len
  have l2 := hY.len
  obtain ⟨zx, lx⟩ := sz_toJ _ x (Nat.le_refl _) 300 (wfN_of_light hx)
  obtain ⟨zy, ly⟩ := sz_toJ _ y (Nat.le_refl _) 300 (wfN_of_light hy)
  have sx := sm_of_sz _ _ zx (by decide)
  have sy := sm_of_sz _ _ zy (by decide)
  have HL := Hn.mk (show ¬ (300 : Int) < (nm.length : Nat) by omega)
  have AW := fun (g2 : Gh) (h : g.le g2) L => awake04_gives (g := g2) (L := L) (hT.le h) (hU.le h)
  have RX := fun (g2 : Gh) (h : g.le g2) L => rMay_gives x cs g2 L (IsV.le h _ _ hX) wx
  have RY := fun (g2 : Gh) (h : g.le g2) L => rMay_gives y ds g2 L (IsV.le h _ _ hY) wy
  have SV := fun (g2 : Gh) (h : g.le g2) L => rSame4_gives _ x (Nat.le_refl _) y cs ds g2 L (IsV.le h _ _ hX) (IsV.le h _ _ hY) wx wy
  have SA := fun (g2 : Gh) (h : g.le g2) (v w : Value) (hv : IsJ g2 (toJ x) v) (hw : IsJ g2 (toJ y) w) L => Same_gives (toJ x) (toJ y) v w g2 L hv hw sx sy (hT.le h) (hU.le h)
  have FJ := fun (g2 : Gh) (v : Value) (hv : IsJ g2 (toJ x) v) => field_gives (toJ x) v g2 nm hv sx
  have FD := fun (g2 : Gh) (h : g.le g2) => rField4_gives x cs g2 nm (IsV.le h _ _ hX) wx
  rw [field_toJ, hf] at FJ
  rw [hf] at FD
  dsimp only [Option.map] at FJ FD
  have ex := look_toJ _ x (Nat.le_refl _) 0
  have ey := look_toJ _ y (Nat.le_refl _) 0
  rw [hmx] at RX ex
  rw [hmy] at RY ey
  obtain ⟨okx, _⟩ := ok_zero ex lx
  obtain ⟨oky, _⟩ := ok_zero ey ly
  have e1 : SameJ (toJ x) (toJ y) = true := by
    unfold SameJ
    rw [ex, ey, same_toJ _ x (Nat.le_refl _) y (kn_ok _ okx) (kn_ok _ oky) lx ly, hB]; rfl
  rw [e1] at SA
  rw [hB] at SV
  clear hn hf
  repeat' (first
    | ((with_reducible apply TL.pure); (· exact yQ); (· rfl))
    | ((with_reducible apply TL.pure); (· exact yV); (· rfl)) | ((with_reducible apply TW.pure); (· exact yV); (· rfl))
    | ((with_reducible apply TL.gives_plain); (· kernel_rfl); (· rfl); (· exact L1 _); (· rfl)) | ((with_reducible apply TW.gives_plain); (· kernel_rfl); (· rfl); (· exact L1 _); (· rfl))
    | ((with_reducible apply TL.gives_plain); (· kernel_rfl); (· rfl); (· exact L2 _); (· rfl)) | ((with_reducible apply TW.gives_plain); (· kernel_rfl); (· rfl); (· exact L2 _); (· rfl))
    | (refine TL.makes (Enters.plain (by kernel_rfl) (by rfl)) (told04_makes _ x (Nat.le_refl _) cs g _ hX wx) (by rfl) ?_; (rintro v1 g1 h1 j1; have ho1 := j1.one; have hY1 := IsV.le h1 _ _ hY))
    | (refine TL.makes (Enters.plain (by kernel_rfl) (by rfl)) (told04_makes _ y (Nat.le_refl _) ds g1 _ hY1 wy) (by rfl) ?_; (rintro v2 g2 h2 j2; have ho2 := j2.one; have h02 := h1.trans h2; have Q1 := RX g2 h02; have Q2 := RY g2 h02; have Q3 := SA g2 h02 v1 v2 (IsJ.le h2 _ _ j1) j2; have Q4 := SV g2 h02; obtain ⟨vf, bf, GF, of1, hf1⟩ := FJ g2 v1 (IsJ.le h2 _ _ j1); obtain ⟨zc, bd, GD, lz, hd1⟩ := FD g2 h02; obtain ⟨rfl, rfl⟩ := hf1; obtain ⟨rfl, rfl⟩ := hd1; have QW := AW g2 h02; clear AW ; clear RX RY SA SV FJ FD j1 j2))
    | ((with_reducible apply TL.gives_plain); (· kernel_rfl); (· rfl); (· exact Q1 _); (· rfl)) | ((with_reducible apply TW.gives_plain); (· kernel_rfl); (· rfl); (· exact Q1 _); (· rfl))
    | ((with_reducible apply TL.gives_plain); (· kernel_rfl); (· rfl); (· exact Q2 _); (· rfl)) | ((with_reducible apply TW.gives_plain); (· kernel_rfl); (· rfl); (· exact Q2 _); (· rfl))
    | ((with_reducible apply TL.gives_plain); (· kernel_rfl); (· rfl); (· exact Q3 _); (· rfl)) | ((with_reducible apply TW.gives_plain); (· kernel_rfl); (· rfl); (· exact Q3 _); (· rfl))
    | ((with_reducible apply TL.gives_plain); (· kernel_rfl); (· rfl); (· exact Q4 _); (· rfl)) | ((with_reducible apply TW.gives_plain); (· kernel_rfl); (· rfl); (· exact Q4 _); (· rfl))
    | ((with_reducible apply TL.gives_plain); (· kernel_rfl); (· rfl); (· exact GF _); (· rfl)) | ((with_reducible apply TW.gives_plain); (· kernel_rfl); (· rfl); (· exact GF _); (· rfl))
    | ((with_reducible apply TL.gives_plain); (· kernel_rfl); (· rfl); (· exact GD _); (· rfl)) | ((with_reducible apply TW.gives_plain); (· kernel_rfl); (· rfl); (· exact GD _); (· rfl))
    | ((with_reducible apply TL.gives_plain); (· kernel_rfl); (· rfl); (· exact QW _); (· rfl)) | ((with_reducible apply TW.gives_plain); (· kernel_rfl); (· rfl); (· exact QW _); (· rfl))
    | ((with_reducible apply TA.takeN 0); (· rfl); (· decide +kernel); (· rfl); (· (first | exact yQ | exact yA | exact yB | exact yM | exact yV)); (· decide +kernel); (· decide +kernel); (· rfl); (· exact fun _ _ _ h => h); (· rfl))
    | ((with_reducible apply TA.takeN 1); (· rfl); (· decide +kernel); (· rfl); (· (first | exact yQ | exact yA | exact yB | exact yM | exact yV)); (· decide +kernel); (· decide +kernel); (· rfl); (· exact fun _ _ _ h => h); (· rfl))
    | ((with_reducible apply TA.takeN 2); (· rfl); (· decide +kernel); (· rfl); (· (first | exact yQ | exact yA | exact yB | exact yM | exact yV)); (· decide +kernel); (· decide +kernel); (· rfl); (· exact fun _ _ _ h => h); (· rfl))
    | ((with_reducible apply TA.takeN 3); (· rfl); (· decide +kernel); (· rfl); (· (first | exact yQ | exact yA | exact yB | exact yM | exact yV)); (· decide +kernel); (· decide +kernel); (· rfl); (· exact fun _ _ _ h => h); (· rfl))
    | ((with_reducible apply TA.take_gN 0); (· rfl); (· decide +kernel); (· rfl); (· rfl); (· rfl); (· (first | exact yQ | exact yA | exact yB | exact yM | exact yV)); (· decide +kernel); (· decide +kernel); (· rfl); (· exact fun _ _ _ h => h); (· rfl))
    | ((with_reducible apply TA.take_gN 1); (· rfl); (· decide +kernel); (· rfl); (· rfl); (· rfl); (· (first | exact yQ | exact yA | exact yB | exact yM | exact yV)); (· decide +kernel); (· decide +kernel); (· rfl); (· exact fun _ _ _ h => h); (· rfl))
    | ((with_reducible apply TA.take_gN 2); (· rfl); (· decide +kernel); (· rfl); (· rfl); (· rfl); (· (first | exact yQ | exact yA | exact yB | exact yM | exact yV)); (· decide +kernel); (· decide +kernel); (· rfl); (· exact fun _ _ _ h => h); (· rfl))
    | ((with_reducible apply TA.take_gN 3); (· rfl); (· decide +kernel); (· rfl); (· rfl); (· rfl); (· (first | exact yQ | exact yA | exact yB | exact yM | exact yV)); (· decide +kernel); (· decide +kernel); (· rfl); (· exact fun _ _ _ h => h); (· rfl))
    | ((with_reducible apply TA.no_gN 0); (· rfl); (· decide +kernel); (· rfl); (· rfl); (· rfl); (· rfl); (· decide +kernel); (· decide +kernel); (· rfl); (· exact fun _ _ _ h => h); (· rfl))
    | ((with_reducible apply TA.no_gN 1); (· rfl); (· decide +kernel); (· rfl); (· rfl); (· rfl); (· rfl); (· decide +kernel); (· decide +kernel); (· rfl); (· exact fun _ _ _ h => h); (· rfl))
    | ((with_reducible apply TA.no_gN 2); (· rfl); (· decide +kernel); (· rfl); (· rfl); (· rfl); (· rfl); (· decide +kernel); (· decide +kernel); (· rfl); (· exact fun _ _ _ h => h); (· rfl))
    | ((with_reducible apply TA.no_gN 3); (· rfl); (· decide +kernel); (· rfl); (· rfl); (· rfl); (· rfl); (· decide +kernel); (· decide +kernel); (· rfl); (· exact fun _ _ _ h => h); (· rfl))
    | ((with_reducible apply TA.no_uN 0); (· rfl); (· decide +kernel); (· rfl); (· rfl); (· rfl); (· decide +kernel); (· decide +kernel); (· rfl); (· exact fun _ _ _ h => h); (· rfl))
    | ((with_reducible apply TA.no_uN 1); (· rfl); (· decide +kernel); (· rfl); (· rfl); (· rfl); (· decide +kernel); (· decide +kernel); (· rfl); (· exact fun _ _ _ h => h); (· rfl))
    | ((with_reducible apply TA.no_uN 2); (· rfl); (· decide +kernel); (· rfl); (· rfl); (· rfl); (· decide +kernel); (· decide +kernel); (· rfl); (· exact fun _ _ _ h => h); (· rfl))
    | ((with_reducible apply TA.no_uN 3); (· rfl); (· decide +kernel); (· rfl); (· rfl); (· rfl); (· decide +kernel); (· decide +kernel); (· rfl); (· exact fun _ _ _ h => h); (· rfl))
    | ((with_reducible apply TA.takeN 0); (· rfl); (· decide +kernel); (· rfl); (· (first | exact yQ | exact yA | exact yB | exact yM | exact yV)); (· decide +kernel); (· decide +kernel); (· rfl); (· exact fun _ _ _ h => h); (· rfl))
    | ((with_reducible apply TA.takeN 1); (· rfl); (· decide +kernel); (· rfl); (· (first | exact yQ | exact yA | exact yB | exact yM | exact yV)); (· decide +kernel); (· decide +kernel); (· rfl); (· exact fun _ _ _ h => h); (· rfl))
    | ((with_reducible apply TA.takeN 2); (· rfl); (· decide +kernel); (· rfl); (· (first | exact yQ | exact yA | exact yB | exact yM | exact yV)); (· decide +kernel); (· decide +kernel); (· rfl); (· exact fun _ _ _ h => h); (· rfl))
    | ((with_reducible apply TA.takeN 3); (· rfl); (· decide +kernel); (· rfl); (· (first | exact yQ | exact yA | exact yB | exact yM | exact yV)); (· decide +kernel); (· decide +kernel); (· rfl); (· exact fun _ _ _ h => h); (· rfl))
    | ((with_reducible apply TA.oneN 0); (· rfl); (· rfl); (· decide +kernel); (· rfl))
    | ((with_reducible apply TA.oneN 1); (· rfl); (· rfl); (· decide +kernel); (· rfl))
    | ((with_reducible apply TA.oneN 2); (· rfl); (· rfl); (· decide +kernel); (· rfl))
    | ((with_reducible apply TA.oneN 3); (· rfl); (· rfl); (· decide +kernel); (· rfl))
    | refine TQ.any leF selF ?_
    | refine TC.region_any 6 (_) (by kernel_rfl) rfl selF ?_ | refine TA.done (by decide +kernel) ?_ | refine TQ.any_panic ?_
    | refine TC.region_any 24 (_) (by kernel_rfl) rfl selF ?_ | refine TA.done (by decide +kernel) ?_ | refine TQ.any_panic ?_
    | ((with_reducible apply TL.pure); (· exact yA); (· rfl))
    | refine stS ?_ | (refine stB ?_; intro _) | (refine stC ?_; refine And.intro (fun _ => ?_) (fun _ => ?_))
    | apply TC.region_draw (by kernel_rfl) (by kernel_rfl) | refine TW.nil ?_ | ((with_reducible apply TW.pure); (· exact yA); (· rfl)))
  refine TQ.less h02 ?_
  refine TQ.endR1 (L' := []) Tryz.results6 rvA rfl (.refl _) ?_ selF
  exact ⟨rfl, rfl, rfl⟩
set_option maxHeartbeats 64000000 in
theorem com_ok_none_false (x y : DV) (nm : List UInt8) (cs ds : List Value) (g : Gh) (hX : IsV g x cs) (hY : IsV g y ds) (hT : GTabs g) (hU : GU8 g) (hx : lightB x = true) (hy : lightB y = true) (hn : nm.length ≤ 300) (hmx : mayV x 0 = 0) (hmy : mayV y 0 = 0) (hB : sameV x y = false) (hf : fieldD x nm = none) : Gives Tryz.prog 6 #[.agg cs.toArray, .agg ds.toArray, str nm] g [] (.bool true) := by
  refine .of (Does.of3 Tryz.func6 rfl Tryz.ntmps6 rfl ?_)
  have L1 := fun L => light_gives x cs g L hX
  have L2 := fun L => light_gives y ds g L hY
  rw [hx] at L1
  rw [hy] at L2
  have wx := wf_of_light hx
  have wy := wf_of_light hy
  have l1 := hX.len
  have l2 := hY.len
  obtain ⟨zx, lx⟩ := sz_toJ _ x (Nat.le_refl _) 300 (wfN_of_light hx)
  obtain ⟨zy, ly⟩ := sz_toJ _ y (Nat.le_refl _) 300 (wfN_of_light hy)
  have sx := sm_of_sz _ _ zx (by decide)
  have sy := sm_of_sz _ _ zy (by decide)
  have HL := Hn.mk (show ¬ (300 : Int) < (nm.length : Nat) by omega)
  have AW := fun (g2 : Gh) (h : g.le g2) L => awake04_gives (g := g2) (L := L) (hT.le h) (hU.le h)
  have RX := fun (g2 : Gh) (h : g.le g2) L => rMay_gives x cs g2 L (IsV.le h _ _ hX) wx
  have RY := fun (g2 : Gh) (h : g.le g2) L => rMay_gives y ds g2 L (IsV.le h _ _ hY) wy
  have SV := fun (g2 : Gh) (h : g.le g2) L => rSame4_gives _ x (Nat.le_refl _) y cs ds g2 L (IsV.le h _ _ hX) (IsV.le h _ _ hY) wx wy
  have SA := fun (g2 : Gh) (h : g.le g2) (v w : Value) (hv : IsJ g2 (toJ x) v) (hw : IsJ g2 (toJ y) w) L => Same_gives (toJ x) (toJ y) v w g2 L hv hw sx sy (hT.le h) (hU.le h)
  have FJ := fun (g2 : Gh) (v : Value) (hv : IsJ g2 (toJ x) v) => field_gives (toJ x) v g2 nm hv sx
  have FD := fun (g2 : Gh) (h : g.le g2) => rField4_gives x cs g2 nm (IsV.le h _ _ hX) wx
  rw [field_toJ, hf] at FJ
  rw [hf] at FD
  dsimp only [Option.map] at FJ FD
  have ex := look_toJ _ x (Nat.le_refl _) 0
  have ey := look_toJ _ y (Nat.le_refl _) 0
  rw [hmx] at RX ex
  rw [hmy] at RY ey
  obtain ⟨okx, _⟩ := ok_zero ex lx
  obtain ⟨oky, _⟩ := ok_zero ey ly
  have e1 : SameJ (toJ x) (toJ y) = false := by
    unfold SameJ
    rw [ex, ey, same_toJ _ x (Nat.le_refl _) y (kn_ok _ okx) (kn_ok _ oky) lx ly, hB]; rfl
  rw [e1] at SA
  rw [hB] at SV
  clear hn hf
  repeat' (first
    | ((with_reducible apply TL.pure); (· exact yQ); (· rfl))
    | ((with_reducible apply TL.pure); (· exact yV); (· rfl)) | ((with_reducible apply TW.pure); (· exact yV); (· rfl))
    | ((with_reducible apply TL.gives_plain); (· kernel_rfl); (· rfl); (· exact L1 _); (· rfl)) | ((with_reducible apply TW.gives_plain); (· kernel_rfl); (· rfl); (· exact L1 _); (· rfl))
    | ((with_reducible apply TL.gives_plain); (· kernel_rfl); (· rfl); (· exact L2 _); (· rfl)) | ((with_reducible apply TW.gives_plain); (· kernel_rfl); (· rfl); (· exact L2 _); (· rfl))
    | (refine TL.makes (Enters.plain (by kernel_rfl) (by rfl)) (told04_makes _ x (Nat.le_refl _) cs g _ hX wx) (by rfl) ?_; (rintro v1 g1 h1 j1; have ho1 := j1.one; have hY1 := IsV.le h1 _ _ hY))
    | (refine TL.makes (Enters.plain (by kernel_rfl) (by rfl)) (told04_makes _ y (Nat.le_refl _) ds g1 _ hY1 wy) (by rfl) ?_; (rintro v2 g2 h2 j2; have ho2 := j2.one; have h02 := h1.trans h2; have Q1 := RX g2 h02; have Q2 := RY g2 h02; have Q3 := SA g2 h02 v1 v2 (IsJ.le h2 _ _ j1) j2; have Q4 := SV g2 h02; obtain ⟨vf, bf, GF, of1, hf1⟩ := FJ g2 v1 (IsJ.le h2 _ _ j1); obtain ⟨zc, bd, GD, lz, hd1⟩ := FD g2 h02; obtain ⟨rfl, rfl⟩ := hf1; obtain ⟨rfl, rfl⟩ := hd1; have QW := AW g2 h02; clear AW ; clear RX RY SA SV FJ FD j1 j2))
    | ((with_reducible apply TL.gives_plain); (· kernel_rfl); (· rfl); (· exact Q1 _); (· rfl)) | ((with_reducible apply TW.gives_plain); (· kernel_rfl); (· rfl); (· exact Q1 _); (· rfl))
    | ((with_reducible apply TL.gives_plain); (· kernel_rfl); (· rfl); (· exact Q2 _); (· rfl)) | ((with_reducible apply TW.gives_plain); (· kernel_rfl); (· rfl); (· exact Q2 _); (· rfl))
    | ((with_reducible apply TL.gives_plain); (· kernel_rfl); (· rfl); (· exact Q3 _); (· rfl)) | ((with_reducible apply TW.gives_plain); (· kernel_rfl); (· rfl); (· exact Q3 _); (· rfl))
    | ((with_reducible apply TL.gives_plain); (· kernel_rfl); (· rfl); (· exact Q4 _); (· rfl)) | ((with_reducible apply TW.gives_plain); (· kernel_rfl); (· rfl); (· exact Q4 _); (· rfl))
    | ((with_reducible apply TL.gives_plain); (· kernel_rfl); (· rfl); (· exact GF _); (· rfl)) | ((with_reducible apply TW.gives_plain); (· kernel_rfl); (· rfl); (· exact GF _); (· rfl))
    | ((with_reducible apply TL.gives_plain); (· kernel_rfl); (· rfl); (· exact GD _); (· rfl)) | ((with_reducible apply TW.gives_plain); (· kernel_rfl); (· rfl); (· exact GD _); (· rfl))
    | ((with_reducible apply TL.gives_plain); (· kernel_rfl); (· rfl); (· exact QW _); (· rfl)) | ((with_reducible apply TW.gives_plain); (· kernel_rfl); (· rfl); (· exact QW _); (· rfl))
    | ((with_reducible apply TA.takeN 0); (· rfl); (· decide +kernel); (· rfl); (· (first | exact yQ | exact yA | exact yB | exact yM | exact yV)); (· decide +kernel); (· decide +kernel); (· rfl); (· exact fun _ _ _ h => h); (· rfl))
    | ((with_reducible apply TA.takeN 1); (· rfl); (· decide +kernel); (· rfl); (· (first | exact yQ | exact yA | exact yB | exact yM | exact yV)); (· decide +kernel); (· decide +kernel); (· rfl); (· exact fun _ _ _ h => h); (· rfl))
    | ((with_reducible apply TA.takeN 2); (· rfl); (· decide +kernel); (· rfl); (· (first | exact yQ | exact yA | exact yB | exact yM | exact yV)); (· decide +kernel); (· decide +kernel); (· rfl); (· exact fun _ _ _ h => h); (· rfl))
    | ((with_reducible apply TA.takeN 3); (· rfl); (· decide +kernel); (· rfl); (· (first | exact yQ | exact yA | exact yB | exact yM | exact yV)); (· decide +kernel); (· decide +kernel); (· rfl); (· exact fun _ _ _ h => h); (· rfl))
    | ((with_reducible apply TA.take_gN 0); (· rfl); (· decide +kernel); (· rfl); (· rfl); (· rfl); (· (first | exact yQ | exact yA | exact yB | exact yM | exact yV)); (· decide +kernel); (· decide +kernel); (· rfl); (· exact fun _ _ _ h => h); (· rfl))
    | ((with_reducible apply TA.take_gN 1); (· rfl); (· decide +kernel); (· rfl); (· rfl); (· rfl); (· (first | exact yQ | exact yA | exact yB | exact yM | exact yV)); (· decide +kernel); (· decide +kernel); (· rfl); (· exact fun _ _ _ h => h); (· rfl))
    | ((with_reducible apply TA.take_gN 2); (· rfl); (· decide +kernel); (· rfl); (· rfl); (· rfl); (· (first | exact yQ | exact yA | exact yB | exact yM | exact yV)); (· decide +kernel); (· decide +kernel); (· rfl); (· exact fun _ _ _ h => h); (· rfl))
    | ((with_reducible apply TA.take_gN 3); (· rfl); (· decide +kernel); (· rfl); (· rfl); (· rfl); (· (first | exact yQ | exact yA | exact yB | exact yM | exact yV)); (· decide +kernel); (· decide +kernel); (· rfl); (· exact fun _ _ _ h => h); (· rfl))
    | ((with_reducible apply TA.no_gN 0); (· rfl); (· decide +kernel); (· rfl); (· rfl); (· rfl); (· rfl); (· decide +kernel); (· decide +kernel); (· rfl); (· exact fun _ _ _ h => h); (· rfl))
    | ((with_reducible apply TA.no_gN 1); (· rfl); (· decide +kernel); (· rfl); (· rfl); (· rfl); (· rfl); (· decide +kernel); (· decide +kernel); (· rfl); (· exact fun _ _ _ h => h); (· rfl))
    | ((with_reducible apply TA.no_gN 2); (· rfl); (· decide +kernel); (· rfl); (· rfl); (· rfl); (· rfl); (· decide +kernel); (· decide +kernel); (· rfl); (· exact fun _ _ _ h => h); (· rfl))
    | ((with_reducible apply TA.no_gN 3); (· rfl); (· decide +kernel); (· rfl); (· rfl); (· rfl); (· rfl); (· decide +kernel); (· decide +kernel); (· rfl); (· exact fun _ _ _ h => h); (· rfl))
    | ((with_reducible apply TA.no_uN 0); (· rfl); (· decide +kernel); (· rfl); (· rfl); (· rfl); (· decide +kernel); (· decide +kernel); (· rfl); (· exact fun _ _ _ h => h); (· rfl))
    | ((with_reducible apply TA.no_uN 1); (· rfl); (· decide +kernel); (· rfl); (· rfl); (· rfl); (· decide +kernel); (· decide +kernel); (· rfl); (· exact fun _ _ _ h => h); (· rfl))
    | ((with_reducible apply TA.no_uN 2); (· rfl); (· decide +kernel); (· rfl); (· rfl); (· rfl); (· decide +kernel); (· decide +kernel); (· rfl); (· exact fun _ _ _ h => h); (· rfl))
    | ((with_reducible apply TA.no_uN 3); (· rfl); (· decide +kernel); (· rfl); (· rfl); (· rfl); (· decide +kernel); (· decide +kernel); (· rfl); (· exact fun _ _ _ h => h); (· rfl))
    | ((with_reducible apply TA.takeN 0); (· rfl); (· decide +kernel); (· rfl); (· (first | exact yQ | exact yA | exact yB | exact yM | exact yV)); (· decide +kernel); (· decide +kernel); (· rfl); (· exact fun _ _ _ h => h); (· rfl))
    | ((with_reducible apply TA.takeN 1); (· rfl); (· decide +kernel); (· rfl); (· (first | exact yQ | exact yA | exact yB | exact yM | exact yV)); (· decide +kernel); (· decide +kernel); (· rfl); (· exact fun _ _ _ h => h); (· rfl))
    | ((with_reducible apply TA.takeN 2); (· rfl); (· decide +kernel); (· rfl); (· (first | exact yQ | exact yA | exact yB | exact yM | exact yV)); (· decide +kernel); (· decide +kernel); (· rfl); (· exact fun _ _ _ h => h); (· rfl))
    | ((with_reducible apply TA.takeN 3); (· rfl); (· decide +kernel); (· rfl); (· (first | exact yQ | exact yA | exact yB | exact yM | exact yV)); (· decide +kernel); (· decide +kernel); (· rfl); (· exact fun _ _ _ h => h); (· rfl))
    | ((with_reducible apply TA.oneN 0); (· rfl); (· rfl); (· decide +kernel); (· rfl))
    | ((with_reducible apply TA.oneN 1); (· rfl); (· rfl); (· decide +kernel); (· rfl))
    | ((with_reducible apply TA.oneN 2); (· rfl); (· rfl); (· decide +kernel); (· rfl))
    | ((with_reducible apply TA.oneN 3); (· rfl); (· rfl); (· decide +kernel); (· rfl))
    | refine TQ.any leF selF ?_
    | refine TC.region_any 6 (_) (by kernel_rfl) rfl selF ?_ | refine TA.done (by decide +kernel) ?_ | refine TQ.any_panic ?_
    | refine TC.region_any 24 (_) (by kernel_rfl) rfl selF ?_ | refine TA.done (by decide +kernel) ?_ | refine TQ.any_panic ?_
    | ((with_reducible apply TL.pure); (· exact yA); (· rfl))
    | refine stS ?_ | (refine stB ?_; intro _) | (refine stC ?_; refine And.intro (fun _ => ?_) (fun _ => ?_))
    | apply TC.region_draw (by kernel_rfl) (by kernel_rfl) | refine TW.nil ?_ | ((with_reducible apply TW.pure); (· exact yA); (· rfl)))
  refine TQ.less h02 ?_
  refine TQ.endR1 (L' := []) Tryz.results6 rvA rfl (.refl _) ?_ selF
  exact ⟨rfl, rfl, rfl⟩
set_option maxHeartbeats 64000000 in
theorem com_xbad_some (x y : DV) (nm : List UInt8) (cs ds : List Value) (g : Gh) (hX : IsV g x cs) (hY : IsV g y ds) (hT : GTabs g) (hU : GU8 g) (hx : lightB x = true) (hy : lightB y = true) (hn : nm.length ≤ 300) (hmx : ¬ mayV x 0 = 0) (w : DV) (hf : fieldD x nm = some w) : Gives Tryz.prog 6 #[.agg cs.toArray, .agg ds.toArray, str nm] g [] (.bool true) := by
  refine .of (Does.of3 Tryz.func6 rfl Tryz.ntmps6 rfl ?_)
  have L1 := fun L => light_gives x cs g L hX
  have L2 := fun L => light_gives y ds g L hY
  rw [hx] at L1
  rw [hy] at L2
  have wx := wf_of_light hx
  have wy := wf_of_light hy
  have l1 := hX.len
  have l2 := hY.len
  obtain ⟨zx, lx⟩ := sz_toJ _ x (Nat.le_refl _) 300 (wfN_of_light hx)
  obtain ⟨zy, ly⟩ := sz_toJ _ y (Nat.le_refl _) 300 (wfN_of_light hy)
  have sx := sm_of_sz _ _ zx (by decide)
  have sy := sm_of_sz _ _ zy (by decide)
  have HL := Hn.mk (show ¬ (300 : Int) < (nm.length : Nat) by omega)
  have AW := fun (g2 : Gh) (h : g.le g2) L => awake04_gives (g := g2) (L := L) (hT.le h) (hU.le h)
  have RX := fun (g2 : Gh) (h : g.le g2) L => rMay_gives x cs g2 L (IsV.le h _ _ hX) wx
  have RY := fun (g2 : Gh) (h : g.le g2) L => rMay_gives y ds g2 L (IsV.le h _ _ hY) wy
  have SV := fun (g2 : Gh) (h : g.le g2) L => rSame4_gives _ x (Nat.le_refl _) y cs ds g2 L (IsV.le h _ _ hX) (IsV.le h _ _ hY) wx wy
  have SA := fun (g2 : Gh) (h : g.le g2) (v w : Value) (hv : IsJ g2 (toJ x) v) (hw : IsJ g2 (toJ y) w) L => Same_gives (toJ x) (toJ y) v w g2 L hv hw sx sy (hT.le h) (hU.le h)
  have FJ := fun (g2 : Gh) (v : Value) (hv : IsJ g2 (toJ x) v) => field_gives (toJ x) v g2 nm hv sx
  have FD := fun (g2 : Gh) (h : g.le g2) => rField4_gives x cs g2 nm (IsV.le h _ _ hX) wx
  rw [field_toJ, hf] at FJ
  rw [hf] at FD
  dsimp only [Option.map] at FJ FD
  have ex := look_toJ _ x (Nat.le_refl _) 0
  have ey := look_toJ _ y (Nat.le_refl _) 0
  have e1 : SameJ (toJ x) (toJ y) = false := by
    unfold SameJ
    rw [ex, decide_eq_false hmx]; rfl
  rw [e1] at SA
  generalize mayV x 0 = mx at *
  have HM := Hn.mk (show ¬ ((mx : Nat) : Int) = 0 by omega)
  clear hn hf
  repeat' (first
    | ((with_reducible apply TL.pure); (· exact yQ); (· rfl))
    | ((with_reducible apply TL.pure); (· exact yV); (· rfl)) | ((with_reducible apply TW.pure); (· exact yV); (· rfl))
    | ((with_reducible apply TL.gives_plain); (· kernel_rfl); (· rfl); (· exact L1 _); (· rfl)) | ((with_reducible apply TW.gives_plain); (· kernel_rfl); (· rfl); (· exact L1 _); (· rfl))
    | ((with_reducible apply TL.gives_plain); (· kernel_rfl); (· rfl); (· exact L2 _); (· rfl)) | ((with_reducible apply TW.gives_plain); (· kernel_rfl); (· rfl); (· exact L2 _); (· rfl))
    | (refine TL.makes (Enters.plain (by kernel_rfl) (by rfl)) (told04_makes _ x (Nat.le_refl _) cs g _ hX wx) (by rfl) ?_; (rintro v1 g1 h1 j1; have ho1 := j1.one; have hY1 := IsV.le h1 _ _ hY))
    | (refine TL.makes (Enters.plain (by kernel_rfl) (by rfl)) (told04_makes _ y (Nat.le_refl _) ds g1 _ hY1 wy) (by rfl) ?_; (rintro v2 g2 h2 j2; have ho2 := j2.one; have h02 := h1.trans h2; have Q1 := RX g2 h02; have Q2 := RY g2 h02; have Q3 := SA g2 h02 v1 v2 (IsJ.le h2 _ _ j1) j2; have Q4 := SV g2 h02; obtain ⟨vf, bf, GF, of1, hf1⟩ := FJ g2 v1 (IsJ.le h2 _ _ j1); obtain ⟨zc, bd, GD, lz, hd1⟩ := FD g2 h02; obtain ⟨rfl, jf⟩ := hf1; obtain ⟨rfl, jd⟩ := hd1; obtain ⟨dk, db, dn, dt, di, dil, dic, dm, dml, dmc, rfl⟩ := jd.form; have QW := AW g2 h02; clear AW jf jd; clear RX RY SA SV FJ FD j1 j2))
    | ((with_reducible apply TL.gives_plain); (· kernel_rfl); (· rfl); (· exact Q1 _); (· rfl)) | ((with_reducible apply TW.gives_plain); (· kernel_rfl); (· rfl); (· exact Q1 _); (· rfl))
    | ((with_reducible apply TL.gives_plain); (· kernel_rfl); (· rfl); (· exact Q3 _); (· rfl)) | ((with_reducible apply TW.gives_plain); (· kernel_rfl); (· rfl); (· exact Q3 _); (· rfl))
    | ((with_reducible apply TL.gives_plain); (· kernel_rfl); (· rfl); (· exact GF _); (· rfl)) | ((with_reducible apply TW.gives_plain); (· kernel_rfl); (· rfl); (· exact GF _); (· rfl))
    | ((with_reducible apply TL.gives_plain); (· kernel_rfl); (· rfl); (· exact GD _); (· rfl)) | ((with_reducible apply TW.gives_plain); (· kernel_rfl); (· rfl); (· exact GD _); (· rfl))
    | ((with_reducible apply TL.gives_plain); (· kernel_rfl); (· rfl); (· exact QW _); (· rfl)) | ((with_reducible apply TW.gives_plain); (· kernel_rfl); (· rfl); (· exact QW _); (· rfl))
    | ((with_reducible apply TA.takeN 0); (· rfl); (· decide +kernel); (· rfl); (· (first | exact yQ | exact yA | exact yB | exact yM | exact yV)); (· decide +kernel); (· decide +kernel); (· rfl); (· exact fun _ _ _ h => h); (· rfl))
    | ((with_reducible apply TA.takeN 1); (· rfl); (· decide +kernel); (· rfl); (· (first | exact yQ | exact yA | exact yB | exact yM | exact yV)); (· decide +kernel); (· decide +kernel); (· rfl); (· exact fun _ _ _ h => h); (· rfl))
    | ((with_reducible apply TA.takeN 2); (· rfl); (· decide +kernel); (· rfl); (· (first | exact yQ | exact yA | exact yB | exact yM | exact yV)); (· decide +kernel); (· decide +kernel); (· rfl); (· exact fun _ _ _ h => h); (· rfl))
    | ((with_reducible apply TA.takeN 3); (· rfl); (· decide +kernel); (· rfl); (· (first | exact yQ | exact yA | exact yB | exact yM | exact yV)); (· decide +kernel); (· decide +kernel); (· rfl); (· exact fun _ _ _ h => h); (· rfl))
    | ((with_reducible apply TA.take_gN 0); (· rfl); (· decide +kernel); (· rfl); (· rfl); (· rfl); (· (first | exact yQ | exact yA | exact yB | exact yM | exact yV)); (· decide +kernel); (· decide +kernel); (· rfl); (· exact fun _ _ _ h => h); (· rfl))
    | ((with_reducible apply TA.take_gN 1); (· rfl); (· decide +kernel); (· rfl); (· rfl); (· rfl); (· (first | exact yQ | exact yA | exact yB | exact yM | exact yV)); (· decide +kernel); (· decide +kernel); (· rfl); (· exact fun _ _ _ h => h); (· rfl))
    | ((with_reducible apply TA.take_gN 2); (· rfl); (· decide +kernel); (· rfl); (· rfl); (· rfl); (· (first | exact yQ | exact yA | exact yB | exact yM | exact yV)); (· decide +kernel); (· decide +kernel); (· rfl); (· exact fun _ _ _ h => h); (· rfl))
    | ((with_reducible apply TA.take_gN 3); (· rfl); (· decide +kernel); (· rfl); (· rfl); (· rfl); (· (first | exact yQ | exact yA | exact yB | exact yM | exact yV)); (· decide +kernel); (· decide +kernel); (· rfl); (· exact fun _ _ _ h => h); (· rfl))
    | ((with_reducible apply TA.no_gN 0); (· rfl); (· decide +kernel); (· rfl); (· rfl); (· rfl); (· rfl); (· decide +kernel); (· decide +kernel); (· rfl); (· exact fun _ _ _ h => h); (· rfl))
    | ((with_reducible apply TA.no_gN 1); (· rfl); (· decide +kernel); (· rfl); (· rfl); (· rfl); (· rfl); (· decide +kernel); (· decide +kernel); (· rfl); (· exact fun _ _ _ h => h); (· rfl))
    | ((with_reducible apply TA.no_gN 2); (· rfl); (· decide +kernel); (· rfl); (· rfl); (· rfl); (· rfl); (· decide +kernel); (· decide +kernel); (· rfl); (· exact fun _ _ _ h => h); (· rfl))
    | ((with_reducible apply TA.no_gN 3); (· rfl); (· decide +kernel); (· rfl); (· rfl); (· rfl); (· rfl); (· decide +kernel); (· decide +kernel); (· rfl); (· exact fun _ _ _ h => h); (· rfl))
    | ((with_reducible apply TA.no_uN 0); (· rfl); (· decide +kernel); (· rfl); (· rfl); (· rfl); (· decide +kernel); (· decide +kernel); (· rfl); (· exact fun _ _ _ h => h); (· rfl))
    | ((with_reducible apply TA.no_uN 1); (· rfl); (· decide +kernel); (· rfl); (· rfl); (· rfl); (· decide +kernel); (· decide +kernel); (· rfl); (· exact fun _ _ _ h => h); (· rfl))
    | ((with_reducible apply TA.no_uN 2); (· rfl); (· decide +kernel); (· rfl); (· rfl); (· rfl); (· decide +kernel); (· decide +kernel); (· rfl); (· exact fun _ _ _ h => h); (· rfl))
    | ((with_reducible apply TA.no_uN 3); (· rfl); (· decide +kernel); (· rfl); (· rfl); (· rfl); (· decide +kernel); (· decide +kernel); (· rfl); (· exact fun _ _ _ h => h); (· rfl))
    | ((with_reducible apply TA.takeN 0); (· rfl); (· decide +kernel); (· rfl); (· (first | exact yQ | exact yA | exact yB | exact yM | exact yV)); (· decide +kernel); (· decide +kernel); (· rfl); (· exact fun _ _ _ h => h); (· rfl))
    | ((with_reducible apply TA.takeN 1); (· rfl); (· decide +kernel); (· rfl); (· (first | exact yQ | exact yA | exact yB | exact yM | exact yV)); (· decide +kernel); (· decide +kernel); (· rfl); (· exact fun _ _ _ h => h); (· rfl))
    | ((with_reducible apply TA.takeN 2); (· rfl); (· decide +kernel); (· rfl); (· (first | exact yQ | exact yA | exact yB | exact yM | exact yV)); (· decide +kernel); (· decide +kernel); (· rfl); (· exact fun _ _ _ h => h); (· rfl))
    | ((with_reducible apply TA.takeN 3); (· rfl); (· decide +kernel); (· rfl); (· (first | exact yQ | exact yA | exact yB | exact yM | exact yV)); (· decide +kernel); (· decide +kernel); (· rfl); (· exact fun _ _ _ h => h); (· rfl))
    | ((with_reducible apply TA.oneN 0); (· rfl); (· rfl); (· decide +kernel); (· rfl))
    | ((with_reducible apply TA.oneN 1); (· rfl); (· rfl); (· decide +kernel); (· rfl))
    | ((with_reducible apply TA.oneN 2); (· rfl); (· rfl); (· decide +kernel); (· rfl))
    | ((with_reducible apply TA.oneN 3); (· rfl); (· rfl); (· decide +kernel); (· rfl))
    | refine TQ.any leF selF ?_
    | refine TC.region_any 6 (_) (by kernel_rfl) rfl selF ?_ | refine TA.done (by decide +kernel) ?_ | refine TQ.any_panic ?_
    | refine TC.region_any 24 (_) (by kernel_rfl) rfl selF ?_ | refine TA.done (by decide +kernel) ?_ | refine TQ.any_panic ?_
    | ((with_reducible apply TL.pure); (· exact yA); (· rfl))
    | refine TC.seq ?_ | refine TC.region ?_ | refine TL.nil ?_ | refine TQ.then_normal ?_
    | ((with_reducible apply TL.storeE); (· rfl); (· rfl); (· rfl); (· exact pkA); (· infer_instance)) | ((with_reducible apply TL.store_whole); (· rfl); (· rfl); (· exact oneA); (· rfl); (· exact pkA); (· rfl))
    | refine TC.block ?_ | refine TC.ret ?_ | refine TC.skip ?_ | refine TC.exit ?_ | refine TC.cond rfl ?_
    | refine TQ.down ?_ | refine TQ.in_exit' rfl ?_
    | refine TL.guard_yes rfl rfl ?_ | refine TL.guard_no rfl rfl rfl rfl ?_ | refine TL.guard_no0 rfl rfl rfl ?_ | refine TL.guard_undef rfl rfl rfl ?_ | refine TL.guard_undef0 rfl rfl ?_ | refine TL.guard rfl rfl rfl ?_
    | refine Br.t rfl ?_ | refine Br.f rfl ?_ | refine Br.ky kpA ?_ | refine Br.kn kpA ?_ | refine Br.nky kpA ?_ | refine Br.nkn kpA ?_
    | refine Br.eq0 (fun _ => ?_) (fun _ => ?_) | refine Br.neq0 (fun _ => ?_) (fun _ => ?_) | refine Br.eq (fun _ => ?_) (fun _ => ?_) | refine Br.neq (fun _ => ?_) (fun _ => ?_) | refine Br.not (fun _ => ?_) (fun _ => ?_) | refine Br.dec (fun _ => ?_) (fun _ => ?_) | refine Br.bool (fun _ => ?_) (fun _ => ?_)
    | ((with_reducible apply TL.alloc_ag); (· rfl); intro _) | ((with_reducible apply TL.alloc_sc); (· rfl); (· rfl); intro _) | ((with_reducible apply TL.box_ag); (· rfl); (· rfl); intro _) | ((with_reducible apply TL.box_sc); (· rfl); (· rfl); (· rfl); intro _)
    | apply TC.region_draw (by kernel_rfl) (by kernel_rfl) | refine TW.nil ?_ | ((with_reducible apply TW.pure); (· exact yA); (· rfl)))
  refine TQ.less h02 ?_
  refine TQ.endR1 (L' := []) Tryz.results6 rvA rfl (.refl _) ?_ selF
  exact ⟨rfl, rfl, rfl⟩
set_option maxHeartbeats 64000000 in
theorem com_xbad_none (x y : DV) (nm : List UInt8) (cs ds : List Value) (g : Gh) (hX : IsV g x cs) (hY : IsV g y ds) (hT : GTabs g) (hU : GU8 g) (hx : lightB x = true) (hy : lightB y = true) (hn : nm.length ≤ 300) (hmx : ¬ mayV x 0 = 0) (hf : fieldD x nm = none) : Gives Tryz.prog 6 #[.agg cs.toArray, .agg ds.toArray, str nm] g [] (.bool true) := by
  refine .of (Does.of3 Tryz.func6 rfl Tryz.ntmps6 rfl ?_)
  have L1 := fun L => light_gives x cs g L hX
  have L2 := fun L => light_gives y ds g L hY
  rw [hx] at L1
  rw [hy] at L2
  have wx := wf_of_light hx
  have wy := wf_of_light hy
  have l1 := hX.len
  have l2 := hY.len
  obtain ⟨zx, lx⟩ := sz_toJ _ x (Nat.le_refl _) 300 (wfN_of_light hx)
  obtain ⟨zy, ly⟩ := sz_toJ _ y (Nat.le_refl _) 300 (wfN_of_light hy)
  have sx := sm_of_sz _ _ zx (by decide)
  have sy := sm_of_sz _ _ zy (by decide)
  have HL := Hn.mk (show ¬ (300 : Int) < (nm.length : Nat) by omega)
  have AW := fun (g2 : Gh) (h : g.le g2) L => awake04_gives (g := g2) (L := L) (hT.le h) (hU.le h)
  have RX := fun (g2 : Gh) (h : g.le g2) L => rMay_gives x cs g2 L (IsV.le h _ _ hX) wx
  have RY := fun (g2 : Gh) (h : g.le g2) L => rMay_gives y ds g2 L (IsV.le h _ _ hY) wy
  have SV := fun (g2 : Gh) (h : g.le g2) L => rSame4_gives _ x (Nat.le_refl _) y cs ds g2 L (IsV.le h _ _ hX) (IsV.le h _ _ hY) wx wy
  have SA := fun (g2 : Gh) (h : g.le g2) (v w : Value) (hv : IsJ g2 (toJ x) v) (hw : IsJ g2 (toJ y) w) L => Same_gives (toJ x) (toJ y) v w g2 L hv hw sx sy (hT.le h) (hU.le h)
  have FJ := fun (g2 : Gh) (v : Value) (hv : IsJ g2 (toJ x) v) => field_gives (toJ x) v g2 nm hv sx
  have FD := fun (g2 : Gh) (h : g.le g2) => rField4_gives x cs g2 nm (IsV.le h _ _ hX) wx
  rw [field_toJ, hf] at FJ
  rw [hf] at FD
  dsimp only [Option.map] at FJ FD
  have ex := look_toJ _ x (Nat.le_refl _) 0
  have ey := look_toJ _ y (Nat.le_refl _) 0
  have e1 : SameJ (toJ x) (toJ y) = false := by
    unfold SameJ
    rw [ex, decide_eq_false hmx]; rfl
  rw [e1] at SA
  generalize mayV x 0 = mx at *
  have HM := Hn.mk (show ¬ ((mx : Nat) : Int) = 0 by omega)
  clear hn hf
  repeat' (first
    | ((with_reducible apply TL.pure); (· exact yQ); (· rfl))
    | ((with_reducible apply TL.pure); (· exact yV); (· rfl)) | ((with_reducible apply TW.pure); (· exact yV); (· rfl))
    | ((with_reducible apply TL.gives_plain); (· kernel_rfl); (· rfl); (· exact L1 _); (· rfl)) | ((with_reducible apply TW.gives_plain); (· kernel_rfl); (· rfl); (· exact L1 _); (· rfl))
    | ((with_reducible apply TL.gives_plain); (· kernel_rfl); (· rfl); (· exact L2 _); (· rfl)) | ((with_reducible apply TW.gives_plain); (· kernel_rfl); (· rfl); (· exact L2 _); (· rfl))
    | (refine TL.makes (Enters.plain (by kernel_rfl) (by rfl)) (told04_makes _ x (Nat.le_refl _) cs g _ hX wx) (by rfl) ?_; (rintro v1 g1 h1 j1; have ho1 := j1.one; have hY1 := IsV.le h1 _ _ hY))
    | (refine TL.makes (Enters.plain (by kernel_rfl) (by rfl)) (told04_makes _ y (Nat.le_refl _) ds g1 _ hY1 wy) (by rfl) ?_; (rintro v2 g2 h2 j2; have ho2 := j2.one; have h02 := h1.trans h2; have Q1 := RX g2 h02; have Q2 := RY g2 h02; have Q3 := SA g2 h02 v1 v2 (IsJ.le h2 _ _ j1) j2; have Q4 := SV g2 h02; obtain ⟨vf, bf, GF, of1, hf1⟩ := FJ g2 v1 (IsJ.le h2 _ _ j1); obtain ⟨zc, bd, GD, lz, hd1⟩ := FD g2 h02; obtain ⟨rfl, rfl⟩ := hf1; obtain ⟨rfl, rfl⟩ := hd1; have QW := AW g2 h02; clear AW ; clear RX RY SA SV FJ FD j1 j2))
    | ((with_reducible apply TL.gives_plain); (· kernel_rfl); (· rfl); (· exact Q1 _); (· rfl)) | ((with_reducible apply TW.gives_plain); (· kernel_rfl); (· rfl); (· exact Q1 _); (· rfl))
    | ((with_reducible apply TL.gives_plain); (· kernel_rfl); (· rfl); (· exact Q3 _); (· rfl)) | ((with_reducible apply TW.gives_plain); (· kernel_rfl); (· rfl); (· exact Q3 _); (· rfl))
    | ((with_reducible apply TL.gives_plain); (· kernel_rfl); (· rfl); (· exact GF _); (· rfl)) | ((with_reducible apply TW.gives_plain); (· kernel_rfl); (· rfl); (· exact GF _); (· rfl))
    | ((with_reducible apply TL.gives_plain); (· kernel_rfl); (· rfl); (· exact GD _); (· rfl)) | ((with_reducible apply TW.gives_plain); (· kernel_rfl); (· rfl); (· exact GD _); (· rfl))
    | ((with_reducible apply TL.gives_plain); (· kernel_rfl); (· rfl); (· exact QW _); (· rfl)) | ((with_reducible apply TW.gives_plain); (· kernel_rfl); (· rfl); (· exact QW _); (· rfl))
    | ((with_reducible apply TA.takeN 0); (· rfl); (· decide +kernel); (· rfl); (· (first | exact yQ | exact yA | exact yB | exact yM | exact yV)); (· decide +kernel); (· decide +kernel); (· rfl); (· exact fun _ _ _ h => h); (· rfl))
    | ((with_reducible apply TA.takeN 1); (· rfl); (· decide +kernel); (· rfl); (· (first | exact yQ | exact yA | exact yB | exact yM | exact yV)); (· decide +kernel); (· decide +kernel); (· rfl); (· exact fun _ _ _ h => h); (· rfl))
    | ((with_reducible apply TA.takeN 2); (· rfl); (· decide +kernel); (· rfl); (· (first | exact yQ | exact yA | exact yB | exact yM | exact yV)); (· decide +kernel); (· decide +kernel); (· rfl); (· exact fun _ _ _ h => h); (· rfl))
    | ((with_reducible apply TA.takeN 3); (· rfl); (· decide +kernel); (· rfl); (· (first | exact yQ | exact yA | exact yB | exact yM | exact yV)); (· decide +kernel); (· decide +kernel); (· rfl); (· exact fun _ _ _ h => h); (· rfl))
    | ((with_reducible apply TA.take_gN 0); (· rfl); (· decide +kernel); (· rfl); (· rfl); (· rfl); (· (first | exact yQ | exact yA | exact yB | exact yM | exact yV)); (· decide +kernel); (· decide +kernel); (· rfl); (· exact fun _ _ _ h => h); (· rfl))
    | ((with_reducible apply TA.take_gN 1); (· rfl); (· decide +kernel); (· rfl); (· rfl); (· rfl); (· (first | exact yQ | exact yA | exact yB | exact yM | exact yV)); (· decide +kernel); (· decide +kernel); (· rfl); (· exact fun _ _ _ h => h); (· rfl))
    | ((with_reducible apply TA.take_gN 2); (· rfl); (· decide +kernel); (· rfl); (· rfl); (· rfl); (· (first | exact yQ | exact yA | exact yB | exact yM | exact yV)); (· decide +kernel); (· decide +kernel); (· rfl); (· exact fun _ _ _ h => h); (· rfl))
    | ((with_reducible apply TA.take_gN 3); (· rfl); (· decide +kernel); (· rfl); (· rfl); (· rfl); (· (first | exact yQ | exact yA | exact yB | exact yM | exact yV)); (· decide +kernel); (· decide +kernel); (· rfl); (· exact fun _ _ _ h => h); (· rfl))
    | ((with_reducible apply TA.no_gN 0); (· rfl); (· decide +kernel); (· rfl); (· rfl); (· rfl); (· rfl); (· decide +kernel); (· decide +kernel); (· rfl); (· exact fun _ _ _ h => h); (· rfl))
    | ((with_reducible apply TA.no_gN 1); (· rfl); (· decide +kernel); (· rfl); (· rfl); (· rfl); (· rfl); (· decide +kernel); (· decide +kernel); (· rfl); (· exact fun _ _ _ h => h); (· rfl))
    | ((with_reducible apply TA.no_gN 2); (· rfl); (· decide +kernel); (· rfl); (· rfl); (· rfl); (· rfl); (· decide +kernel); (· decide +kernel); (· rfl); (· exact fun _ _ _ h => h); (· rfl))
    | ((with_reducible apply TA.no_gN 3); (· rfl); (· decide +kernel); (· rfl); (· rfl); (· rfl); (· rfl); (· decide +kernel); (· decide +kernel); (· rfl); (· exact fun _ _ _ h => h); (· rfl))
    | ((with_reducible apply TA.no_uN 0); (· rfl); (· decide +kernel); (· rfl); (· rfl); (· rfl); (· decide +kernel); (· decide +kernel); (· rfl); (· exact fun _ _ _ h => h); (· rfl))
    | ((with_reducible apply TA.no_uN 1); (· rfl); (· decide +kernel); (· rfl); (· rfl); (· rfl); (· decide +kernel); (· decide +kernel); (· rfl); (· exact fun _ _ _ h => h); (· rfl))
    | ((with_reducible apply TA.no_uN 2); (· rfl); (· decide +kernel); (· rfl); (· rfl); (· rfl); (· decide +kernel); (· decide +kernel); (· rfl); (· exact fun _ _ _ h => h); (· rfl))
    | ((with_reducible apply TA.no_uN 3); (· rfl); (· decide +kernel); (· rfl); (· rfl); (· rfl); (· decide +kernel); (· decide +kernel); (· rfl); (· exact fun _ _ _ h => h); (· rfl))
    | ((with_reducible apply TA.takeN 0); (· rfl); (· decide +kernel); (· rfl); (· (first | exact yQ | exact yA | exact yB | exact yM | exact yV)); (· decide +kernel); (· decide +kernel); (· rfl); (· exact fun _ _ _ h => h); (· rfl))
    | ((with_reducible apply TA.takeN 1); (· rfl); (· decide +kernel); (· rfl); (· (first | exact yQ | exact yA | exact yB | exact yM | exact yV)); (· decide +kernel); (· decide +kernel); (· rfl); (· exact fun _ _ _ h => h); (· rfl))
    | ((with_reducible apply TA.takeN 2); (· rfl); (· decide +kernel); (· rfl); (· (first | exact yQ | exact yA | exact yB | exact yM | exact yV)); (· decide +kernel); (· decide +kernel); (· rfl); (· exact fun _ _ _ h => h); (· rfl))
    | ((with_reducible apply TA.takeN 3); (· rfl); (· decide +kernel); (· rfl); (· (first | exact yQ | exact yA | exact yB | exact yM | exact yV)); (· decide +kernel); (· decide +kernel); (· rfl); (· exact fun _ _ _ h => h); (· rfl))
    | ((with_reducible apply TA.oneN 0); (· rfl); (· rfl); (· decide +kernel); (· rfl))
    | ((with_reducible apply TA.oneN 1); (· rfl); (· rfl); (· decide +kernel); (· rfl))
    | ((with_reducible apply TA.oneN 2); (· rfl); (· rfl); (· decide +kernel); (· rfl))
    | ((with_reducible apply TA.oneN 3); (· rfl); (· rfl); (· decide +kernel); (· rfl))
    | refine TQ.any leF selF ?_
    | refine TC.region_any 6 (_) (by kernel_rfl) rfl selF ?_ | refine TA.done (by decide +kernel) ?_ | refine TQ.any_panic ?_
    | refine TC.region_any 24 (_) (by kernel_rfl) rfl selF ?_ | refine TA.done (by decide +kernel) ?_ | refine TQ.any_panic ?_
    | ((with_reducible apply TL.pure); (· exact yA); (· rfl))
    | refine stS ?_ | (refine stB ?_; intro _) | (refine stC ?_; refine And.intro (fun _ => ?_) (fun _ => ?_))
    | apply TC.region_draw (by kernel_rfl) (by kernel_rfl) | refine TW.nil ?_ | ((with_reducible apply TW.pure); (· exact yA); (· rfl)))
  refine TQ.less h02 ?_
  refine TQ.endR1 (L' := []) Tryz.results6 rvA rfl (.refl _) ?_ selF
  exact ⟨rfl, rfl, rfl⟩
set_option maxHeartbeats 64000000 in
theorem com_ybad_some (x y : DV) (nm : List UInt8) (cs ds : List Value) (g : Gh) (hX : IsV g x cs) (hY : IsV g y ds) (hT : GTabs g) (hU : GU8 g) (hx : lightB x = true) (hy : lightB y = true) (hn : nm.length ≤ 300) (hmx : mayV x 0 = 0) (hmy : ¬ mayV y 0 = 0) (w : DV) (hf : fieldD x nm = some w) : Gives Tryz.prog 6 #[.agg cs.toArray, .agg ds.toArray, str nm] g [] (.bool true) := by
  refine .of (Does.of3 Tryz.func6 rfl Tryz.ntmps6 rfl ?_)
  have L1 := fun L => light_gives x cs g L hX
  have L2 := fun L => light_gives y ds g L hY
  rw [hx] at L1
  rw [hy] at L2
  have wx := wf_of_light hx
  have wy := wf_of_light hy
  have l1 := hX.len
  have l2 := hY.len
  obtain ⟨zx, lx⟩ := sz_toJ _ x (Nat.le_refl _) 300 (wfN_of_light hx)
  obtain ⟨zy, ly⟩ := sz_toJ _ y (Nat.le_refl _) 300 (wfN_of_light hy)
  have sx := sm_of_sz _ _ zx (by decide)
  have sy := sm_of_sz _ _ zy (by decide)
  have HL := Hn.mk (show ¬ (300 : Int) < (nm.length : Nat) by omega)
  have AW := fun (g2 : Gh) (h : g.le g2) L => awake04_gives (g := g2) (L := L) (hT.le h) (hU.le h)
  have RX := fun (g2 : Gh) (h : g.le g2) L => rMay_gives x cs g2 L (IsV.le h _ _ hX) wx
  have RY := fun (g2 : Gh) (h : g.le g2) L => rMay_gives y ds g2 L (IsV.le h _ _ hY) wy
  have SV := fun (g2 : Gh) (h : g.le g2) L => rSame4_gives _ x (Nat.le_refl _) y cs ds g2 L (IsV.le h _ _ hX) (IsV.le h _ _ hY) wx wy
  have SA := fun (g2 : Gh) (h : g.le g2) (v w : Value) (hv : IsJ g2 (toJ x) v) (hw : IsJ g2 (toJ y) w) L => Same_gives (toJ x) (toJ y) v w g2 L hv hw sx sy (hT.le h) (hU.le h)
  have FJ := fun (g2 : Gh) (v : Value) (hv : IsJ g2 (toJ x) v) => field_gives (toJ x) v g2 nm hv sx
  have FD := fun (g2 : Gh) (h : g.le g2) => rField4_gives x cs g2 nm (IsV.le h _ _ hX) wx
  rw [field_toJ, hf] at FJ
  rw [hf] at FD
  dsimp only [Option.map] at FJ FD
  have ex := look_toJ _ x (Nat.le_refl _) 0
  have ey := look_toJ _ y (Nat.le_refl _) 0
  have e1 : SameJ (toJ x) (toJ y) = false := by
    unfold SameJ
    rw [ey, decide_eq_false hmy, Bool.and_false]; rfl
  rw [e1] at SA
  rw [hmx] at RX
  generalize mayV y 0 = my at *
  have HM := Hn.mk (show ¬ ((my : Nat) : Int) = 0 by omega)
  clear hn hf
  repeat' (first
    | ((with_reducible apply TL.pure); (· exact yQ); (· rfl))
    | ((with_reducible apply TL.pure); (· exact yV); (· rfl)) | ((with_reducible apply TW.pure); (· exact yV); (· rfl))
    | ((with_reducible apply TL.gives_plain); (· kernel_rfl); (· rfl); (· exact L1 _); (· rfl)) | ((with_reducible apply TW.gives_plain); (· kernel_rfl); (· rfl); (· exact L1 _); (· rfl))
    | ((with_reducible apply TL.gives_plain); (· kernel_rfl); (· rfl); (· exact L2 _); (· rfl)) | ((with_reducible apply TW.gives_plain); (· kernel_rfl); (· rfl); (· exact L2 _); (· rfl))
    | (refine TL.makes (Enters.plain (by kernel_rfl) (by rfl)) (told04_makes _ x (Nat.le_refl _) cs g _ hX wx) (by rfl) ?_; (rintro v1 g1 h1 j1; have ho1 := j1.one; have hY1 := IsV.le h1 _ _ hY))
    | (refine TL.makes (Enters.plain (by kernel_rfl) (by rfl)) (told04_makes _ y (Nat.le_refl _) ds g1 _ hY1 wy) (by rfl) ?_; (rintro v2 g2 h2 j2; have ho2 := j2.one; have h02 := h1.trans h2; have Q1 := RX g2 h02; have Q2 := RY g2 h02; have Q3 := SA g2 h02 v1 v2 (IsJ.le h2 _ _ j1) j2; have Q4 := SV g2 h02; obtain ⟨vf, bf, GF, of1, hf1⟩ := FJ g2 v1 (IsJ.le h2 _ _ j1); obtain ⟨zc, bd, GD, lz, hd1⟩ := FD g2 h02; obtain ⟨rfl, jf⟩ := hf1; obtain ⟨rfl, jd⟩ := hd1; obtain ⟨dk, db, dn, dt, di, dil, dic, dm, dml, dmc, rfl⟩ := jd.form; have QW := AW g2 h02; clear AW jf jd; clear RX RY SA SV FJ FD j1 j2))
    | ((with_reducible apply TL.gives_plain); (· kernel_rfl); (· rfl); (· exact Q1 _); (· rfl)) | ((with_reducible apply TW.gives_plain); (· kernel_rfl); (· rfl); (· exact Q1 _); (· rfl))
    | ((with_reducible apply TL.gives_plain); (· kernel_rfl); (· rfl); (· exact Q2 _); (· rfl)) | ((with_reducible apply TW.gives_plain); (· kernel_rfl); (· rfl); (· exact Q2 _); (· rfl))
    | ((with_reducible apply TL.gives_plain); (· kernel_rfl); (· rfl); (· exact Q3 _); (· rfl)) | ((with_reducible apply TW.gives_plain); (· kernel_rfl); (· rfl); (· exact Q3 _); (· rfl))
    | ((with_reducible apply TL.gives_plain); (· kernel_rfl); (· rfl); (· exact GF _); (· rfl)) | ((with_reducible apply TW.gives_plain); (· kernel_rfl); (· rfl); (· exact GF _); (· rfl))
    | ((with_reducible apply TL.gives_plain); (· kernel_rfl); (· rfl); (· exact GD _); (· rfl)) | ((with_reducible apply TW.gives_plain); (· kernel_rfl); (· rfl); (· exact GD _); (· rfl))
    | ((with_reducible apply TL.gives_plain); (· kernel_rfl); (· rfl); (· exact QW _); (· rfl)) | ((with_reducible apply TW.gives_plain); (· kernel_rfl); (· rfl); (· exact QW _); (· rfl))
    | ((with_reducible apply TA.takeN 0); (· rfl); (· decide +kernel); (· rfl); (· (first | exact yQ | exact yA | exact yB | exact yM | exact yV)); (· decide +kernel); (· decide +kernel); (· rfl); (· exact fun _ _ _ h => h); (· rfl))
    | ((with_reducible apply TA.takeN 1); (· rfl); (· decide +kernel); (· rfl); (· (first | exact yQ | exact yA | exact yB | exact yM | exact yV)); (· decide +kernel); (· decide +kernel); (· rfl); (· exact fun _ _ _ h => h); (· rfl))
    | ((with_reducible apply TA.takeN 2); (· rfl); (· decide +kernel); (· rfl); (· (first | exact yQ | exact yA | exact yB | exact yM | exact yV)); (· decide +kernel); (· decide +kernel); (· rfl); (· exact fun _ _ _ h => h); (· rfl))
    | ((with_reducible apply TA.takeN 3); (· rfl); (· decide +kernel); (· rfl); (· (first | exact yQ | exact yA | exact yB | exact yM | exact yV)); (· decide +kernel); (· decide +kernel); (· rfl); (· exact fun _ _ _ h => h); (· rfl))
    | ((with_reducible apply TA.take_gN 0); (· rfl); (· decide +kernel); (· rfl); (· rfl); (· rfl); (· (first | exact yQ | exact yA | exact yB | exact yM | exact yV)); (· decide +kernel); (· decide +kernel); (· rfl); (· exact fun _ _ _ h => h); (· rfl))
    | ((with_reducible apply TA.take_gN 1); (· rfl); (· decide +kernel); (· rfl); (· rfl); (· rfl); (· (first | exact yQ | exact yA | exact yB | exact yM | exact yV)); (· decide +kernel); (· decide +kernel); (· rfl); (· exact fun _ _ _ h => h); (· rfl))
    | ((with_reducible apply TA.take_gN 2); (· rfl); (· decide +kernel); (· rfl); (· rfl); (· rfl); (· (first | exact yQ | exact yA | exact yB | exact yM | exact yV)); (· decide +kernel); (· decide +kernel); (· rfl); (· exact fun _ _ _ h => h); (· rfl))
    | ((with_reducible apply TA.take_gN 3); (· rfl); (· decide +kernel); (· rfl); (· rfl); (· rfl); (· (first | exact yQ | exact yA | exact yB | exact yM | exact yV)); (· decide +kernel); (· decide +kernel); (· rfl); (· exact fun _ _ _ h => h); (· rfl))
    | ((with_reducible apply TA.no_gN 0); (· rfl); (· decide +kernel); (· rfl); (· rfl); (· rfl); (· rfl); (· decide +kernel); (· decide +kernel); (· rfl); (· exact fun _ _ _ h => h); (· rfl))
    | ((with_reducible apply TA.no_gN 1); (· rfl); (· decide +kernel); (· rfl); (· rfl); (· rfl); (· rfl); (· decide +kernel); (· decide +kernel); (· rfl); (· exact fun _ _ _ h => h); (· rfl))
    | ((with_reducible apply TA.no_gN 2); (· rfl); (· decide +kernel); (· rfl); (· rfl); (· rfl); (· rfl); (· decide +kernel); (· decide +kernel); (· rfl); (· exact fun _ _ _ h => h); (· rfl))
    | ((with_reducible apply TA.no_gN 3); (· rfl); (· decide +kernel); (· rfl); (· rfl); (· rfl); (· rfl); (· decide +kernel); (· decide +kernel); (· rfl); (· exact fun _ _ _ h => h); (· rfl))
    | ((with_reducible apply TA.no_uN 0); (· rfl); (· decide +kernel); (· rfl); (· rfl); (· rfl); (· decide +kernel); (· decide +kernel); (· rfl); (· exact fun _ _ _ h => h); (· rfl))
    | ((with_reducible apply TA.no_uN 1); (· rfl); (· decide +kernel); (· rfl); (· rfl); (· rfl); (· decide +kernel); (· decide +kernel); (· rfl); (· exact fun _ _ _ h => h); (· rfl))
    | ((with_reducible apply TA.no_uN 2); (· rfl); (· decide +kernel); (· rfl); (· rfl); (· rfl); (· decide +kernel); (· decide +kernel); (· rfl); (· exact fun _ _ _ h => h); (· rfl))
    | ((with_reducible apply TA.no_uN 3); (· rfl); (· decide +kernel); (· rfl); (· rfl); (· rfl); (· decide +kernel); (· decide +kernel); (· rfl); (· exact fun _ _ _ h => h); (· rfl))
    | ((with_reducible apply TA.takeN 0); (· rfl); (· decide +kernel); (· rfl); (· (first | exact yQ | exact yA | exact yB | exact yM | exact yV)); (· decide +kernel); (· decide +kernel); (· rfl); (· exact fun _ _ _ h => h); (· rfl))
    | ((with_reducible apply TA.takeN 1); (· rfl); (· decide +kernel); (· rfl); (· (first | exact yQ | exact yA | exact yB | exact yM | exact yV)); (· decide +kernel); (· decide +kernel); (· rfl); (· exact fun _ _ _ h => h); (· rfl))
    | ((with_reducible apply TA.takeN 2); (· rfl); (· decide +kernel); (· rfl); (· (first | exact yQ | exact yA | exact yB | exact yM | exact yV)); (· decide +kernel); (· decide +kernel); (· rfl); (· exact fun _ _ _ h => h); (· rfl))
    | ((with_reducible apply TA.takeN 3); (· rfl); (· decide +kernel); (· rfl); (· (first | exact yQ | exact yA | exact yB | exact yM | exact yV)); (· decide +kernel); (· decide +kernel); (· rfl); (· exact fun _ _ _ h => h); (· rfl))
    | ((with_reducible apply TA.oneN 0); (· rfl); (· rfl); (· decide +kernel); (· rfl))
    | ((with_reducible apply TA.oneN 1); (· rfl); (· rfl); (· decide +kernel); (· rfl))
    | ((with_reducible apply TA.oneN 2); (· rfl); (· rfl); (· decide +kernel); (· rfl))
    | ((with_reducible apply TA.oneN 3); (· rfl); (· rfl); (· decide +kernel); (· rfl))
    | refine TQ.any leF selF ?_
    | refine TC.region_any 6 (_) (by kernel_rfl) rfl selF ?_ | refine TA.done (by decide +kernel) ?_ | refine TQ.any_panic ?_
    | refine TC.region_any 24 (_) (by kernel_rfl) rfl selF ?_ | refine TA.done (by decide +kernel) ?_ | refine TQ.any_panic ?_
    | ((with_reducible apply TL.pure); (· exact yA); (· rfl))
    | refine TC.seq ?_ | refine TC.region ?_ | refine TL.nil ?_ | refine TQ.then_normal ?_
    | ((with_reducible apply TL.storeE); (· rfl); (· rfl); (· rfl); (· exact pkA); (· infer_instance)) | ((with_reducible apply TL.store_whole); (· rfl); (· rfl); (· exact oneA); (· rfl); (· exact pkA); (· rfl))
    | refine TC.block ?_ | refine TC.ret ?_ | refine TC.skip ?_ | refine TC.exit ?_ | refine TC.cond rfl ?_
    | refine TQ.down ?_ | refine TQ.in_exit' rfl ?_
    | refine TL.guard_yes rfl rfl ?_ | refine TL.guard_no rfl rfl rfl rfl ?_ | refine TL.guard_no0 rfl rfl rfl ?_ | refine TL.guard_undef rfl rfl rfl ?_ | refine TL.guard_undef0 rfl rfl ?_ | refine TL.guard rfl rfl rfl ?_
    | refine Br.t rfl ?_ | refine Br.f rfl ?_ | refine Br.ky kpA ?_ | refine Br.kn kpA ?_ | refine Br.nky kpA ?_ | refine Br.nkn kpA ?_
    | refine Br.eq0 (fun _ => ?_) (fun _ => ?_) | refine Br.neq0 (fun _ => ?_) (fun _ => ?_) | refine Br.eq (fun _ => ?_) (fun _ => ?_) | refine Br.neq (fun _ => ?_) (fun _ => ?_) | refine Br.not (fun _ => ?_) (fun _ => ?_) | refine Br.dec (fun _ => ?_) (fun _ => ?_) | refine Br.bool (fun _ => ?_) (fun _ => ?_)
    | ((with_reducible apply TL.alloc_ag); (· rfl); intro _) | ((with_reducible apply TL.alloc_sc); (· rfl); (· rfl); intro _) | ((with_reducible apply TL.box_ag); (· rfl); (· rfl); intro _) | ((with_reducible apply TL.box_sc); (· rfl); (· rfl); (· rfl); intro _)
    | apply TC.region_draw (by kernel_rfl) (by kernel_rfl) | refine TW.nil ?_ | ((with_reducible apply TW.pure); (· exact yA); (· rfl)))
  refine TQ.less h02 ?_
  refine TQ.endR1 (L' := []) Tryz.results6 rvA rfl (.refl _) ?_ selF
  exact ⟨rfl, rfl, rfl⟩
set_option maxHeartbeats 64000000 in
theorem com_ybad_none (x y : DV) (nm : List UInt8) (cs ds : List Value) (g : Gh) (hX : IsV g x cs) (hY : IsV g y ds) (hT : GTabs g) (hU : GU8 g) (hx : lightB x = true) (hy : lightB y = true) (hn : nm.length ≤ 300) (hmx : mayV x 0 = 0) (hmy : ¬ mayV y 0 = 0) (hf : fieldD x nm = none) : Gives Tryz.prog 6 #[.agg cs.toArray, .agg ds.toArray, str nm] g [] (.bool true) := by
  refine .of (Does.of3 Tryz.func6 rfl Tryz.ntmps6 rfl ?_)
  have L1 := fun L => light_gives x cs g L hX
  have L2 := fun L => light_gives y ds g L hY
  rw [hx] at L1
  rw [hy] at L2
  have wx := wf_of_light hx
  have wy := wf_of_light hy
  have l1 := hX.len
  have l2 := hY.len
  obtain ⟨zx, lx⟩ := sz_toJ _ x (Nat.le_refl _) 300 (wfN_of_light hx)
  obtain ⟨zy, ly⟩ := sz_toJ _ y (Nat.le_refl _) 300 (wfN_of_light hy)
  have sx := sm_of_sz _ _ zx (by decide)
  have sy := sm_of_sz _ _ zy (by decide)
  have HL := Hn.mk (show ¬ (300 : Int) < (nm.length : Nat) by omega)
  have AW := fun (g2 : Gh) (h : g.le g2) L => awake04_gives (g := g2) (L := L) (hT.le h) (hU.le h)
  have RX := fun (g2 : Gh) (h : g.le g2) L => rMay_gives x cs g2 L (IsV.le h _ _ hX) wx
  have RY := fun (g2 : Gh) (h : g.le g2) L => rMay_gives y ds g2 L (IsV.le h _ _ hY) wy
  have SV := fun (g2 : Gh) (h : g.le g2) L => rSame4_gives _ x (Nat.le_refl _) y cs ds g2 L (IsV.le h _ _ hX) (IsV.le h _ _ hY) wx wy
  have SA := fun (g2 : Gh) (h : g.le g2) (v w : Value) (hv : IsJ g2 (toJ x) v) (hw : IsJ g2 (toJ y) w) L => Same_gives (toJ x) (toJ y) v w g2 L hv hw sx sy (hT.le h) (hU.le h)
  have FJ := fun (g2 : Gh) (v : Value) (hv : IsJ g2 (toJ x) v) => field_gives (toJ x) v g2 nm hv sx
  have FD := fun (g2 : Gh) (h : g.le g2) => rField4_gives x cs g2 nm (IsV.le h _ _ hX) wx
  rw [field_toJ, hf] at FJ
  rw [hf] at FD
  dsimp only [Option.map] at FJ FD
  have ex := look_toJ _ x (Nat.le_refl _) 0
  have ey := look_toJ _ y (Nat.le_refl _) 0
  have e1 : SameJ (toJ x) (toJ y) = false := by
    unfold SameJ
    rw [ey, decide_eq_false hmy, Bool.and_false]; rfl
  rw [e1] at SA
  rw [hmx] at RX
  generalize mayV y 0 = my at *
  have HM := Hn.mk (show ¬ ((my : Nat) : Int) = 0 by omega)
  clear hn hf
  repeat' (first
    | ((with_reducible apply TL.pure); (· exact yQ); (· rfl))
    | ((with_reducible apply TL.pure); (· exact yV); (· rfl)) | ((with_reducible apply TW.pure); (· exact yV); (· rfl))
    | ((with_reducible apply TL.gives_plain); (· kernel_rfl); (· rfl); (· exact L1 _); (· rfl)) | ((with_reducible apply TW.gives_plain); (· kernel_rfl); (· rfl); (· exact L1 _); (· rfl))
    | ((with_reducible apply TL.gives_plain); (· kernel_rfl); (· rfl); (· exact L2 _); (· rfl)) | ((with_reducible apply TW.gives_plain); (· kernel_rfl); (· rfl); (· exact L2 _); (· rfl))
    | (refine TL.makes (Enters.plain (by kernel_rfl) (by rfl)) (told04_makes _ x (Nat.le_refl _) cs g _ hX wx) (by rfl) ?_; (rintro v1 g1 h1 j1; have ho1 := j1.one; have hY1 := IsV.le h1 _ _ hY))
    | (refine TL.makes (Enters.plain (by kernel_rfl) (by rfl)) (told04_makes _ y (Nat.le_refl _) ds g1 _ hY1 wy) (by rfl) ?_; (rintro v2 g2 h2 j2; have ho2 := j2.one; have h02 := h1.trans h2; have Q1 := RX g2 h02; have Q2 := RY g2 h02; have Q3 := SA g2 h02 v1 v2 (IsJ.le h2 _ _ j1) j2; have Q4 := SV g2 h02; obtain ⟨vf, bf, GF, of1, hf1⟩ := FJ g2 v1 (IsJ.le h2 _ _ j1); obtain ⟨zc, bd, GD, lz, hd1⟩ := FD g2 h02; obtain ⟨rfl, rfl⟩ := hf1; obtain ⟨rfl, rfl⟩ := hd1; have QW := AW g2 h02; clear AW ; clear RX RY SA SV FJ FD j1 j2))
    | ((with_reducible apply TL.gives_plain); (· kernel_rfl); (· rfl); (· exact Q1 _); (· rfl)) | ((with_reducible apply TW.gives_plain); (· kernel_rfl); (· rfl); (· exact Q1 _); (· rfl))
    | ((with_reducible apply TL.gives_plain); (· kernel_rfl); (· rfl); (· exact Q2 _); (· rfl)) | ((with_reducible apply TW.gives_plain); (· kernel_rfl); (· rfl); (· exact Q2 _); (· rfl))
    | ((with_reducible apply TL.gives_plain); (· kernel_rfl); (· rfl); (· exact Q3 _); (· rfl)) | ((with_reducible apply TW.gives_plain); (· kernel_rfl); (· rfl); (· exact Q3 _); (· rfl))
    | ((with_reducible apply TL.gives_plain); (· kernel_rfl); (· rfl); (· exact GF _); (· rfl)) | ((with_reducible apply TW.gives_plain); (· kernel_rfl); (· rfl); (· exact GF _); (· rfl))
    | ((with_reducible apply TL.gives_plain); (· kernel_rfl); (· rfl); (· exact GD _); (· rfl)) | ((with_reducible apply TW.gives_plain); (· kernel_rfl); (· rfl); (· exact GD _); (· rfl))
    | ((with_reducible apply TL.gives_plain); (· kernel_rfl); (· rfl); (· exact QW _); (· rfl)) | ((with_reducible apply TW.gives_plain); (· kernel_rfl); (· rfl); (· exact QW _); (· rfl))
    | ((with_reducible apply TA.takeN 0); (· rfl); (· decide +kernel); (· rfl); (· (first | exact yQ | exact yA | exact yB | exact yM | exact yV)); (· decide +kernel); (· decide +kernel); (· rfl); (· exact fun _ _ _ h => h); (· rfl))
    | ((with_reducible apply TA.takeN 1); (· rfl); (· decide +kernel); (· rfl); (· (first | exact yQ | exact yA | exact yB | exact yM | exact yV)); (· decide +kernel); (· decide +kernel); (· rfl); (· exact fun _ _ _ h => h); (· rfl))
    | ((with_reducible apply TA.takeN 2); (· rfl); (· decide +kernel); (· rfl); (· (first | exact yQ | exact yA | exact yB | exact yM | exact yV)); (· decide +kernel); (· decide +kernel); (· rfl); (· exact fun _ _ _ h => h); (· rfl))
    | ((with_reducible apply TA.takeN 3); (· rfl); (· decide +kernel); (· rfl); (· (first | exact yQ | exact yA | exact yB | exact yM | exact yV)); (· decide +kernel); (· decide +kernel); (· rfl); (· exact fun _ _ _ h => h); (· rfl))
    | ((with_reducible apply TA.take_gN 0); (· rfl); (· decide +kernel); (· rfl); (· rfl); (· rfl); (· (first | exact yQ | exact yA | exact yB | exact yM | exact yV)); (· decide +kernel); (· decide +kernel); (· rfl); (· exact fun _ _ _ h => h); (· rfl))
    | ((with_reducible apply TA.take_gN 1); (· rfl); (· decide +kernel); (· rfl); (· rfl); (· rfl); (· (first | exact yQ | exact yA | exact yB | exact yM | exact yV)); (· decide +kernel); (· decide +kernel); (· rfl); (· exact fun _ _ _ h => h); (· rfl))
    | ((with_reducible apply TA.take_gN 2); (· rfl); (· decide +kernel); (· rfl); (· rfl); (· rfl); (· (first | exact yQ | exact yA | exact yB | exact yM | exact yV)); (· decide +kernel); (· decide +kernel); (· rfl); (· exact fun _ _ _ h => h); (· rfl))
    | ((with_reducible apply TA.take_gN 3); (· rfl); (· decide +kernel); (· rfl); (· rfl); (· rfl); (· (first | exact yQ | exact yA | exact yB | exact yM | exact yV)); (· decide +kernel); (· decide +kernel); (· rfl); (· exact fun _ _ _ h => h); (· rfl))
    | ((with_reducible apply TA.no_gN 0); (· rfl); (· decide +kernel); (· rfl); (· rfl); (· rfl); (· rfl); (· decide +kernel); (· decide +kernel); (· rfl); (· exact fun _ _ _ h => h); (· rfl))
    | ((with_reducible apply TA.no_gN 1); (· rfl); (· decide +kernel); (· rfl); (· rfl); (· rfl); (· rfl); (· decide +kernel); (· decide +kernel); (· rfl); (· exact fun _ _ _ h => h); (· rfl))
    | ((with_reducible apply TA.no_gN 2); (· rfl); (· decide +kernel); (· rfl); (· rfl); (· rfl); (· rfl); (· decide +kernel); (· decide +kernel); (· rfl); (· exact fun _ _ _ h => h); (· rfl))
    | ((with_reducible apply TA.no_gN 3); (· rfl); (· decide +kernel); (· rfl); (· rfl); (· rfl); (· rfl); (· decide +kernel); (· decide +kernel); (· rfl); (· exact fun _ _ _ h => h); (· rfl))
    | ((with_reducible apply TA.no_uN 0); (· rfl); (· decide +kernel); (· rfl); (· rfl); (· rfl); (· decide +kernel); (· decide +kernel); (· rfl); (· exact fun _ _ _ h => h); (· rfl))
    | ((with_reducible apply TA.no_uN 1); (· rfl); (· decide +kernel); (· rfl); (· rfl); (· rfl); (· decide +kernel); (· decide +kernel); (· rfl); (· exact fun _ _ _ h => h); (· rfl))
    | ((with_reducible apply TA.no_uN 2); (· rfl); (· decide +kernel); (· rfl); (· rfl); (· rfl); (· decide +kernel); (· decide +kernel); (· rfl); (· exact fun _ _ _ h => h); (· rfl))
    | ((with_reducible apply TA.no_uN 3); (· rfl); (· decide +kernel); (· rfl); (· rfl); (· rfl); (· decide +kernel); (· decide +kernel); (· rfl); (· exact fun _ _ _ h => h); (· rfl))
    | ((with_reducible apply TA.takeN 0); (· rfl); (· decide +kernel); (· rfl); (· (first | exact yQ | exact yA | exact yB | exact yM | exact yV)); (· decide +kernel); (· decide +kernel); (· rfl); (· exact fun _ _ _ h => h); (· rfl))
    | ((with_reducible apply TA.takeN 1); (· rfl); (· decide +kernel); (· rfl); (· (first | exact yQ | exact yA | exact yB | exact yM | exact yV)); (· decide +kernel); (· decide +kernel); (· rfl); (· exact fun _ _ _ h => h); (· rfl))
    | ((with_reducible apply TA.takeN 2); (· rfl); (· decide +kernel); (· rfl); (· (first | exact yQ | exact yA | exact yB | exact yM | exact yV)); (· decide +kernel); (· decide +kernel); (· rfl); (· exact fun _ _ _ h => h); (· rfl))
    | ((with_reducible apply TA.takeN 3); (· rfl); (· decide +kernel); (· rfl); (· (first | exact yQ | exact yA | exact yB | exact yM | exact yV)); (· decide +kernel); (· decide +kernel); (· rfl); (· exact fun _ _ _ h => h); (· rfl))
    | ((with_reducible apply TA.oneN 0); (· rfl); (· rfl); (· decide +kernel); (· rfl))
    | ((with_reducible apply TA.oneN 1); (· rfl); (· rfl); (· decide +kernel); (· rfl))
    | ((with_reducible apply TA.oneN 2); (· rfl); (· rfl); (· decide +kernel); (· rfl))
    | ((with_reducible apply TA.oneN 3); (· rfl); (· rfl); (· decide +kernel); (· rfl))
    | refine TQ.any leF selF ?_
    | refine TC.region_any 6 (_) (by kernel_rfl) rfl selF ?_ | refine TA.done (by decide +kernel) ?_ | refine TQ.any_panic ?_
    | refine TC.region_any 24 (_) (by kernel_rfl) rfl selF ?_ | refine TA.done (by decide +kernel) ?_ | refine TQ.any_panic ?_
    | ((with_reducible apply TL.pure); (· exact yA); (· rfl))
    | refine stS ?_ | (refine stB ?_; intro _) | (refine stC ?_; refine And.intro (fun _ => ?_) (fun _ => ?_))
    | apply TC.region_draw (by kernel_rfl) (by kernel_rfl) | refine TW.nil ?_ | ((with_reducible apply TW.pure); (· exact yA); (· rfl)))
  refine TQ.less h02 ?_
  refine TQ.endR1 (L' := []) Tryz.results6 rvA rfl (.refl _) ?_ selF
  exact ⟨rfl, rfl, rfl⟩
set_option maxHeartbeats 16000000 in
theorem com_dark (x y : DV) (nm : List UInt8) (cs ds : List Value) (g : Gh) (hX : IsV g x cs) (hY : IsV g y ds) (hT : GTabs g) (hU : GU8 g) (h : lightB x = false ∨ (lightB x = true ∧ lightB y = false) ∨ (lightB x = true ∧ lightB y = true ∧ 300 < nm.length)) : Gives Tryz.prog 6 #[.agg cs.toArray, .agg ds.toArray, str nm] g [] (.bool true) := by
  refine .of (Does.of3 Tryz.func6 rfl Tryz.ntmps6 rfl ?_)
  have L1 := fun L => light_gives x cs g L hX
  have L2 := fun L => light_gives y ds g L hY
  have l1 := hX.len
  have l2 := hY.len
  clear hT hU
  rcases h with hx | ⟨hx, hy⟩ | ⟨hx, hy, hn⟩
  · rw [hx] at L1
    clear hX hY
    repeat' (first
    | ((with_reducible apply TL.pure); (· exact yQ); (· rfl))
    | ((with_reducible apply TL.pure); (· exact yV); (· rfl)) | ((with_reducible apply TW.pure); (· exact yV); (· rfl))
    | ((with_reducible apply TL.gives_plain); (· kernel_rfl); (· rfl); (· exact L1 _); (· rfl)) | ((with_reducible apply TW.gives_plain); (· kernel_rfl); (· rfl); (· exact L1 _); (· rfl))
    | ((with_reducible apply TL.pure); (· exact yA); (· rfl))
    | refine stS ?_ | (refine stB ?_; intro _) | (refine stC ?_; refine And.intro (fun _ => ?_) (fun _ => ?_)))
    refine TQ.endR1 (L' := []) Tryz.results6 rvA rfl (.refl _) ?_ selF
    exact ⟨rfl, rfl, rfl⟩
  · rw [hx] at L1
    rw [hy] at L2
    clear hX hY
    repeat' (first
    | ((with_reducible apply TL.pure); (· exact yQ); (· rfl))
    | ((with_reducible apply TL.pure); (· exact yV); (· rfl)) | ((with_reducible apply TW.pure); (· exact yV); (· rfl))
    | ((with_reducible apply TL.gives_plain); (· kernel_rfl); (· rfl); (· exact L1 _); (· rfl)) | ((with_reducible apply TW.gives_plain); (· kernel_rfl); (· rfl); (· exact L1 _); (· rfl))
    | ((with_reducible apply TL.gives_plain); (· kernel_rfl); (· rfl); (· exact L2 _); (· rfl)) | ((with_reducible apply TW.gives_plain); (· kernel_rfl); (· rfl); (· exact L2 _); (· rfl))
    | ((with_reducible apply TL.pure); (· exact yA); (· rfl))
    | refine stS ?_ | (refine stB ?_; intro _) | (refine stC ?_; refine And.intro (fun _ => ?_) (fun _ => ?_)))
    refine TQ.endR1 (L' := []) Tryz.results6 rvA rfl (.refl _) ?_ selF
    exact ⟨rfl, rfl, rfl⟩
  · rw [hx] at L1
    rw [hy] at L2
    have HL := Hn.mk (show (300 : Int) < (nm.length : Nat) by omega)
    clear hX hY hn
    repeat' (first
    | ((with_reducible apply TL.pure); (· exact yQ); (· rfl))
    | ((with_reducible apply TL.pure); (· exact yV); (· rfl)) | ((with_reducible apply TW.pure); (· exact yV); (· rfl))
    | ((with_reducible apply TL.gives_plain); (· kernel_rfl); (· rfl); (· exact L1 _); (· rfl)) | ((with_reducible apply TW.gives_plain); (· kernel_rfl); (· rfl); (· exact L1 _); (· rfl))
    | ((with_reducible apply TL.gives_plain); (· kernel_rfl); (· rfl); (· exact L2 _); (· rfl)) | ((with_reducible apply TW.gives_plain); (· kernel_rfl); (· rfl); (· exact L2 _); (· rfl))
    | ((with_reducible apply TL.pure); (· exact yA); (· rfl))
    | refine stS ?_ | (refine stB ?_; intro _) | (refine stC ?_; refine And.intro (fun _ => ?_) (fun _ => ?_)))
    refine TQ.endR1 (L' := []) Tryz.results6 rvA rfl (.refl _) ?_ selF
    exact ⟨rfl, rfl, rfl⟩
theorem lawJsonCompares (x y : DV) (nm : List UInt8) (cs ds : List Value) (g : Gh) (hX : IsV g x cs) (hY : IsV g y ds) (hT : GTabs g) (hU : GU8 g) : Gives Tryz.prog 6 #[.agg cs.toArray, .agg ds.toArray, str nm] g [] (.bool true) := by
  cases hx : lightB x with
  | false => exact com_dark x y nm cs ds g hX hY hT hU (.inl hx)
  | true =>
    cases hy : lightB y with
    | false => exact com_dark x y nm cs ds g hX hY hT hU (.inr (.inl ⟨hx, hy⟩))
    | true =>
      by_cases hn : nm.length ≤ 300
      · by_cases hmx : mayV x 0 = 0
        · by_cases hmy : mayV y 0 = 0
          · cases hf : fieldD x nm with
            | some w =>
              cases hB : sameV x y with
              | true => exact com_ok_some_true x y nm cs ds g hX hY hT hU hx hy hn hmx hmy hB w hf
              | false => exact com_ok_some_false x y nm cs ds g hX hY hT hU hx hy hn hmx hmy hB w hf
            | none =>
              cases hB : sameV x y with
              | true => exact com_ok_none_true x y nm cs ds g hX hY hT hU hx hy hn hmx hmy hB hf
              | false => exact com_ok_none_false x y nm cs ds g hX hY hT hU hx hy hn hmx hmy hB hf
          · cases hf : fieldD x nm with
            | some w => exact com_ybad_some x y nm cs ds g hX hY hT hU hx hy hn hmx hmy w hf
            | none => exact com_ybad_none x y nm cs ds g hX hY hT hU hx hy hn hmx hmy hf
        · cases hf : fieldD x nm with
          | some w => exact com_xbad_some x y nm cs ds g hX hY hT hU hx hy hn hmx w hf
          | none => exact com_xbad_none x y nm cs ds g hX hY hT hU hx hy hn hmx hf
      · exact com_dark x y nm cs ds g hX hY hT hU (.inr (.inr ⟨hx, hy, by omega⟩))
end Go.Proofs.YtfmadoeadmclbaaGreatDoor
