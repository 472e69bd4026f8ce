/-
  The walk of layer 9's awake. The walk of the law ShapeBack.
-/
import Derived.Test.YtfanccddokckcaaGreatDoorSb3
import Derived.Test.YtfanccddokckcaaGreatDoorSb40
import Derived.Test.YtfanccddokckcaaGreatDoorSb37
import Derived.Test.YtfanccddokckcaaGreatDoorSb38
import Derived.Test.YtfanccddokckcaaGreatDoorSb45
namespace Go.Proofs.YtfanccddokckcaaGreatDoor
open Go.RowKit Go.TL
set_option maxRecDepth 100000

abbrev aw9P : Pt := (15000000, -20000000)
abbrev aw9R : Rc := ⟨0, 0, 10, 10⟩
theorem aw9a : readX (tellJ 0 [[aw9P]]) = some (0, [[aw9P]]) := by kernel_rfl
theorem aw9b : readX (.num 1) = none := by kernel_rfl
theorem aw9c : ofOk aw9R = true := by kernel_rfl
theorem aw9d : inX 2 [rectL aw9R] (5, 5) = true := by kernel_rfl
theorem aw9e : inX 2 [rectL aw9R] (11, 5) = false := by kernel_rfl
theorem aw9f : rightB 0 [[aw9P]] = true := by kernel_rfl
set_option maxHeartbeats 32000000 in
theorem awake09_gives {g : Gh} {L : List Ent} (hT : GTabs g) (hU : GU8 g) : Gives Tryz.prog 14 #[] g L (.bool true) := by
  refine .of (Does.of0 Tryz.func14 rfl Tryz.ntmps14 rfl ?_)
  have R1 := fun (g1 : Gh) (h : g.le g1) (v : Value) (hv : IsJ g1 (tellJ 0 [[aw9P]]) v) L => sRead_does _ v g1 L hv (by simp [tellJ, whereJ, kindN, ptJ, headS, smJ, smJs]) (hT.le h) (hU.le h)
  have R2 := fun (g1 : Gh) (h : g.le g1) (v : Value) (hv : IsJ g1 (.num 1) v) L => sRead_does _ v g1 L hv (by rw [smJ]; trivial) (hT.le h) (hU.le h)
  have OF := fun g1 L => sOf_does aw9R g1 L
  rw [aw9a] at R1
  rw [aw9b] at R2
  unfold ReadXR at R1 R2
  unfold OfR at OF
  rw [aw9c] at OF
  dsimp only at R1 R2 OF
  have hO2 : ShOk [rectL aw9R] := ok_one (by decide)
  repeat' (first
    | refine wkQ ?_
    | (refine TL.build_slice (d := 11) (by rfl) (by rfl) (by exact oneA) (by rfl) (by rfl) (by rfl) (fun bb => ?_); refine TL.freeze_obj (k := 2) bb 1 .here rfl (by decide) ?_; rintro g1 h1 s1; have j1 := ptJ_is (p := aw9P) (by decide) s1; clear s1)
    | (refine TL.build_rows (d := 14) (len := 2) (sz := 2) [[str typeB, .iface 9 (str pointB)], [str coordB, .iface 72 (.slice (some ⟨_, 0, none⟩) 2 2)]] (by rfl) (by rfl) (by rfl) (by rfl) (by rfl) (by rfl) (by rfl) (by rfl) (fun bb => ?_); refine TL.freeze_obj (k := 2) bb 2 .here rfl (by decide) ?_; rintro g2 h2 s2; have j2 := tell_is (k := 0) (ps := [[aw9P]]) s2 (j1.le h2 _ _); clear s2 j1; have h02 := h1.trans h2; have Q1 := R1 g2 h02 _ j2; clear R1 j2)
    | refine wkV ?_
    | refine stS ?_ | (refine stB ?_; intro _) | (refine stC ?_; refine And.intro (fun _ => ?_) (fun _ => ?_)))
  repeat' (first
    | refine wkQ ?_
    | (refine TL.call (Enters.plain (by kernel_rfl) (by rfl)) (by rfl) (Q1 _) ?_; (rintro e g3 Ln h3 ⟨vp, k2, k1, k3⟩; subst k1; subst k2; obtain ⟨b, o, cap, q, u, rfl, _, hq, _, _, _, hld, hSu⟩ := first_part aw9f k3; obtain rfl : [aw9P] = q := (by simpa using hq); obtain ⟨au, cu, rfl⟩ := hSu.slice; have HLD := Hn.mk hld; have HSU := Hn.mk hSu; have h03 := h02.trans h3; clear k3 hq hld hSu Q1; refine CallK.ret ?_))
    | (refine TL.call (Enters.plain (by kernel_rfl) (by rfl)) (by rfl) (OF _ _) ?_; (rintro e g4 Ln h4 ⟨vq, k2, k1, k3⟩; subst k1; subst k2; obtain ⟨aq, cq, rfl⟩ : ∃ a c, vq = .slice a [rectL aw9R].length c := (by obtain ⟨_, h, _⟩ := k3; exact h.slice); have KQ := Hn.mk k3; have h04 := h03.trans h4; have Q2 := R2 g4 h04 (.iface 70 (.int .i64 1)) (by rw [IsJ]; exact ⟨rfl, by decide, by decide⟩); clear k3 R2; refine CallK.ret ?_))
    | (refine TL.call (Enters.plain (by kernel_rfl) (by rfl)) (by rfl) (Q2 _) ?_; (rintro e g5 Ln h5 ⟨vz, k2, k1, k3⟩; subst k1; subst k2; subst k3; refine CallK.ret ?_))
    | refine wkV ?_
    | refine stS ?_ | (refine stB ?_; intro _) | (refine stC ?_; refine And.intro (fun _ => ?_) (fun _ => ?_)))
  have h35 := h4.trans h5
  have hld := h35.cell HLD.out
  have hSu := HSU.out.le h35
  obtain ⟨b3, o3, rfl, hg3⟩ := hSu.elem (i := 0) (by decide) (by decide)
  have hldp := pt_cells (p := aw9P) hg3 rfl rfl
  have hll : [Value.int .i64 aw9P.1, .int .i64 aw9P.2].length = 2 := rfl
  have I1 := fun L => sIn_gives 2 [rectL aw9R] (.slice aq [rectL aw9R].length cq) (5, 5) g5 L (KQ.out.le h5) hO2
  have I2 := fun L => sIn_gives 2 [rectL aw9R] (.slice aq [rectL aw9R].length cq) (11, 5) g5 L (KQ.out.le h5) hO2
  rw [aw9d] at I1
  rw [aw9e] at I2
  have h05 := h04.trans h5
  clear hg3 hSu HSU HLD KQ Q2 OF hT hU hO2
  repeat' (first
    | refine wkQ ?_
    | ((with_reducible apply TL.pure (d := 55) (v := .bool true)); (· exact Y.eql_pt (p := aw9P) (q := aw9P) (decide_eq_true rfl) rfl rfl); (· rfl)) | ((with_reducible apply TW.pure (d := 55) (v := .bool true)); (· exact Y.eql_pt (p := aw9P) (q := aw9P) (decide_eq_true rfl) rfl rfl); (· rfl))
    | refine wkV ?_
    | ((with_reducible apply TL.pure); (· exact yM); (· rfl)) | ((with_reducible apply TW.pure); (· exact yM); (· rfl))
    | ((with_reducible apply TL.gives_plain); (· kernel_rfl); (· rfl); (· exact I1 _); (· rfl)) | ((with_reducible apply TW.gives_plain); (· kernel_rfl); (· rfl); (· exact I1 _); (· rfl))
    | ((with_reducible apply TL.gives_plain); (· kernel_rfl); (· rfl); (· exact I2 _); (· rfl)) | ((with_reducible apply TW.gives_plain); (· kernel_rfl); (· rfl); (· exact I2 _); (· rfl))
    | refine stS ?_ | (refine stB ?_; intro _) | (refine stC ?_; refine And.intro (fun _ => ?_) (fun _ => ?_)))
  refine TQ.less h05 ?_
  refine TQ.endR1 (L' := Ln) Tryz.results14 rvA rfl (.refl _) ?_ selF
  exact ⟨rfl, rfl, rfl⟩
end Go.Proofs.YtfanccddokckcaaGreatDoor
namespace Go.Proofs.YtfanccddokckcaaGreatDoor
open Go.RowKit Go.TL
set_option maxRecDepth 100000

theorem smJs_all {l : List J} (h : ∀ x ∈ l, smJ x) : smJs l := by
  induction l with
  | nil => rw [smJs]; trivial
  | cons x r ih =>
    rw [smJs]
    exact ⟨h x (List.mem_cons_self ..), ih fun y hy => h y (List.mem_cons_of_mem _ hy)⟩
theorem sm_pt (p : Pt) : smJ (ptJ p) := by unfold ptJ; simp [smJ, smJs]
theorem sm_told {l : List Pt} (h : l.length ≤ 1000000) : smJ (toldJ l) := by
  unfold toldJ
  rw [smJ]
  refine ⟨by rw [List.length_map]; exact h, smJs_all fun x hx => ?_⟩
  obtain ⟨p, _, rfl⟩ := List.mem_map.1 hx
  exact sm_pt p
theorem sm_tell {k : Int} {ps : List (List Pt)} (hO : ShFew ps) (hs : ∀ q ∈ ps, q.length ≤ 10000) : smJ (tellJ k ps) := by
  have hw : smJ (whereJ k ps) := by
    unfold whereJ
    split
    · exact sm_pt _
    · split
      · cases ps with
        | nil => exact sm_told (by simp)
        | cons q r => exact sm_told (hO.ok.part q (List.mem_cons_self ..))
      · rw [smJ]
        refine ⟨by rw [List.length_map]; exact hO.ok.len, smJs_all fun x hx => ?_⟩
        obtain ⟨q, hq, rfl⟩ := List.mem_map.1 hx
        refine sm_told ?_
        have := hs q hq
        rw [List.length_append, List.length_singleton]
        omega
  unfold tellJ
  rw [smJ]
  refine ⟨by simp, ?_, ?_⟩
  · intro n hn
    simp only [List.mem_cons, List.not_mem_nil, or_false] at hn
    rcases hn with rfl | rfl <;> decide
  · rw [smJs, smJs, smJs]
    refine ⟨?_, hw, trivial⟩
    rw [smJ]
    unfold kindN
    split
    · decide
    · split <;> decide
theorem light_small {most : Nat} {ps : List (List Pt)} (_hm : most ≤ 1000) (h : lightD most ps = true) : ∀ q ∈ ps, q.length ≤ 10000 := by
  unfold lightD at h
  rw [Bool.and_eq_true, decide_eq_true_eq, decide_eq_true_eq] at h
  intro p hp
  have h1 : p.length ≤ ps.flatten.length := by
    obtain ⟨a, b, rfl⟩ := List.append_of_mem hp
    simp
    omega
  omega
set_option maxHeartbeats 32000000 in
theorem lawShapeBack (k : Int) (ps : List (List Pt)) (v : Value) (g : Gh) (L : List Ent) (hS : IsParts g v ps) (hb : ∀ q ∈ ps, q.length ≤ 8796093022208) (hl : ps.length ≤ 9223372036854775807) (hT : GTabs g) (hU : GU8 g) : Gives Tryz.prog 4 #[shV k v] g L (.bool true) := by
  refine .of (Does.of1 Tryz.func4 rfl Tryz.ntmps4 rfl ?_)
  have LI := fun L => rLight9_gives k ps v 60 g L hS (by decide) hb hl
  obtain ⟨av, cv, rfl⟩ : ∃ a c, v = .slice a ps.length c := by obtain ⟨_, h, _⟩ := hS; exact h.slice
  cases hli : lightD 60 ps with
  | false =>
    rw [hli] at LI
    clear hS hb hT hU
    repeat' (first
    | ((with_reducible apply TL.pure); (· exact yQ); (· rfl))
    | ((with_reducible apply TL.pure); (· exact yV); (· rfl)) | ((with_reducible apply TW.pure); (· exact yV); (· rfl))
    | ((with_reducible apply TL.gives_plain); (· kernel_rfl); (· rfl); (· exact LI _); (· rfl)) | ((with_reducible apply TW.gives_plain); (· kernel_rfl); (· rfl); (· exact LI _); (· rfl))
    | ((with_reducible apply TL.pure); (· exact yA); (· rfl))
    | refine TC.seq ?_ | refine TC.region ?_ | refine TL.nil ?_ | refine TQ.then_normal ?_
    | ((with_reducible apply TL.storeE); (· rfl); (· rfl); (· rfl); (· exact pkA); (· infer_instance)) | ((with_reducible apply TL.store_whole); (· rfl); (· rfl); (· exact oneA); (· rfl); (· exact pkA); (· rfl))
    | refine TC.block ?_ | refine TC.ret ?_ | refine TC.skip ?_ | refine TC.exit ?_ | refine TC.cond rfl ?_
    | refine TQ.down ?_ | refine TQ.in_exit' rfl ?_
    | refine TL.guard_yes rfl rfl ?_ | refine TL.guard_no rfl rfl rfl rfl ?_ | refine TL.guard_no0 rfl rfl rfl ?_ | refine TL.guard_undef rfl rfl rfl ?_ | refine TL.guard_undef0 rfl rfl ?_ | refine TL.guard rfl rfl rfl ?_
    | refine Br.t rfl ?_ | refine Br.f rfl ?_ | refine Br.ky kpA ?_ | refine Br.kn kpA ?_ | refine Br.nky kpA ?_ | refine Br.nkn kpA ?_
    | refine Br.eq0 (fun _ => ?_) (fun _ => ?_) | refine Br.neq0 (fun _ => ?_) (fun _ => ?_) | refine Br.eq (fun _ => ?_) (fun _ => ?_) | refine Br.neq (fun _ => ?_) (fun _ => ?_) | refine Br.not (fun _ => ?_) (fun _ => ?_) | refine Br.dec (fun _ => ?_) (fun _ => ?_) | refine Br.bool (fun _ => ?_) (fun _ => ?_)
    | ((with_reducible apply TL.alloc_ag); (· rfl); intro _) | ((with_reducible apply TL.alloc_sc); (· rfl); (· rfl); intro _) | ((with_reducible apply TL.box_ag); (· rfl); (· rfl); intro _) | ((with_reducible apply TL.box_sc); (· rfl); (· rfl); (· rfl); intro _))
    refine TQ.endR1 (L' := L) Tryz.results4 rvA rfl (.refl _) ?_ selF
    exact ⟨rfl, rfl, rfl⟩
  | true =>
  rw [hli] at LI
  have hO := light_few (by decide) hli
  have hsm := sm_tell (k := k) hO (light_small (by decide) hli)
  have OF := fun L => of09_does k ps _ g L hS hO.ok
  have TE := fun g1 v1 (h : IsParts g1 v1 ps) L => stell_does k ps v1 g1 L h hO.ok
  have RI := fun g1 (h : g.le g1) L => rRight9_gives k ps _ g1 L (hS.le h) hO.ok
  have AW := fun g1 (h : g.le g1) L => awake09_gives (L := L) (hT.le h) (hU.le h)
  have RD := fun g1 (h : g.le g1) v1 (hv : IsJ g1 (tellJ k ps) v1) L => sRead_does (tellJ k ps) v1 g1 L hv hsm (hT.le h) (hU.le h)
  have AL := fun g1 (h : g.le g1) v1 (hv : IsParts g1 v1 ps) L => alike09_gives k k ps ps v1 _ g1 L hv hO.ok (hS.le h) hO.ok
  unfold TellR at TE
  have HSP := Hn.mk hS
  clear hS hb hl hT hU hsm hli
  cases hr : rightB k ps with
  | false =>
    rw [hr] at TE RI
    dsimp only at TE
    clear RD AL HSP
    repeat' (first
    | ((with_reducible apply TL.pure); (· exact yQ); (· rfl))
    | ((with_reducible apply TL.pure); (· exact yV); (· rfl)) | ((with_reducible apply TW.pure); (· exact yV); (· rfl))
    | ((with_reducible apply TL.gives_plain); (· kernel_rfl); (· rfl); (· exact LI _); (· rfl)) | ((with_reducible apply TW.gives_plain); (· kernel_rfl); (· rfl); (· exact LI _); (· rfl))
    | (refine TL.call (Enters.plain (by kernel_rfl) (by rfl)) (by rfl) (OF _) ?_; (rintro e g1 Ln h1 ⟨vq, k1, k2, k3⟩; have k2 := k2.symm; subst k1; subst k2; have KQ := Hn.mk k3; obtain ⟨aq, cq, rfl⟩ : ∃ a c, vq = .slice a ps.length c := (by obtain ⟨_, h, _⟩ := k3; exact h.slice); have TE1 := TE g1 _ k3; clear k3 TE OF; have hg1 := h1; refine CallK.ret ?_))
    | (refine TL.call (Enters.plain (by kernel_rfl) (by rfl)) (by rfl) (TE1 _) ?_; (rintro e g2 Ln h2 ⟨vt, k1, k2, k3⟩; have k2 := k2.symm; subst k1; subst k2; subst k3; have hg2 := hg1.trans h2; have RI1 := RI g2 hg2; have AW1 := AW g2 hg2; refine CallK.ret ?_))
    | ((with_reducible apply TL.gives_plain); (· kernel_rfl); (· rfl); (· exact RI1 _); (· rfl)) | ((with_reducible apply TW.gives_plain); (· kernel_rfl); (· rfl); (· exact RI1 _); (· rfl))
    | ((with_reducible apply TL.gives_plain); (· kernel_rfl); (· rfl); (· exact AW1 _); (· rfl)) | ((with_reducible apply TW.gives_plain); (· kernel_rfl); (· rfl); (· exact AW1 _); (· rfl))
    | ((with_reducible apply TL.pure); (· exact yA); (· rfl))
    | refine TC.seq ?_ | refine TC.region ?_ | refine TL.nil ?_ | refine TQ.then_normal ?_
    | ((with_reducible apply TL.storeE); (· rfl); (· rfl); (· rfl); (· exact pkA); (· infer_instance)) | ((with_reducible apply TL.store_whole); (· rfl); (· rfl); (· exact oneA); (· rfl); (· exact pkA); (· rfl))
    | refine TC.block ?_ | refine TC.ret ?_ | refine TC.skip ?_ | refine TC.exit ?_ | refine TC.cond rfl ?_
    | refine TQ.down ?_ | refine TQ.in_exit' rfl ?_
    | refine TL.guard_yes rfl rfl ?_ | refine TL.guard_no rfl rfl rfl rfl ?_ | refine TL.guard_no0 rfl rfl rfl ?_ | refine TL.guard_undef rfl rfl rfl ?_ | refine TL.guard_undef0 rfl rfl ?_ | refine TL.guard rfl rfl rfl ?_
    | refine Br.t rfl ?_ | refine Br.f rfl ?_ | refine Br.ky kpA ?_ | refine Br.kn kpA ?_ | refine Br.nky kpA ?_ | refine Br.nkn kpA ?_
    | refine Br.eq0 (fun _ => ?_) (fun _ => ?_) | refine Br.neq0 (fun _ => ?_) (fun _ => ?_) | refine Br.eq (fun _ => ?_) (fun _ => ?_) | refine Br.neq (fun _ => ?_) (fun _ => ?_) | refine Br.not (fun _ => ?_) (fun _ => ?_) | refine Br.dec (fun _ => ?_) (fun _ => ?_) | refine Br.bool (fun _ => ?_) (fun _ => ?_)
    | ((with_reducible apply TL.alloc_ag); (· rfl); intro _) | ((with_reducible apply TL.alloc_sc); (· rfl); (· rfl); intro _) | ((with_reducible apply TL.box_ag); (· rfl); (· rfl); intro _) | ((with_reducible apply TL.box_sc); (· rfl); (· rfl); (· rfl); intro _))
    refine TQ.less hg2 ?_
    refine TQ.endR1 (L' := L) Tryz.results4 rvA rfl (.refl _) ?_ selF
    exact ⟨rfl, rfl, rfl⟩
  | true =>
    rw [hr] at TE
    rw [tell_back hr] at RD
    unfold ReadXR at RD
    dsimp only at TE RD
    have e1 : (decide (k = k) && decide (ps = ps)) = true := by simp
    rw [e1] at AL
    clear RI
    repeat' (first
    | ((with_reducible apply TL.pure); (· exact yQ); (· rfl))
    | ((with_reducible apply TL.pure); (· exact yV); (· rfl)) | ((with_reducible apply TW.pure); (· exact yV); (· rfl))
    | ((with_reducible apply TL.gives_plain); (· kernel_rfl); (· rfl); (· exact LI _); (· rfl)) | ((with_reducible apply TW.gives_plain); (· kernel_rfl); (· rfl); (· exact LI _); (· rfl))
    | (refine TL.call (Enters.plain (by kernel_rfl) (by rfl)) (by rfl) (OF _) ?_; (rintro e g1 Ln h1 ⟨vq, k1, k2, k3⟩; have k2 := k2.symm; subst k1; subst k2; have KQ := Hn.mk k3; obtain ⟨aq, cq, rfl⟩ : ∃ a c, vq = .slice a ps.length c := (by obtain ⟨_, h, _⟩ := k3; exact h.slice); have TE1 := TE g1 _ k3; clear k3 TE OF; have hg1 := h1; refine CallK.ret ?_))
    | (refine TL.call (Enters.plain (by kernel_rfl) (by rfl)) (by rfl) (TE1 _) ?_; (rintro e g2 Ln h2 ⟨vt, k1, k2, k3⟩; have k2 := k2.symm; subst k1; subst k2; have hg2 := hg1.trans h2; have RD1 := RD g2 hg2 vt k3; unfold tellJ at k3; rw [IsJ] at k3; obtain ⟨st, ft, rfl, _, _⟩ := k3; clear TE1 RD; refine CallK.ret ?_))
    | (refine TL.call (Enters.plain (by kernel_rfl) (by rfl)) (by rfl) (RD1 _) ?_; (rintro e g3 Ln h3 ⟨vr, k2, k1, k3⟩; have k2 := k2.symm; subst k1; subst k2; have hg3 := hg2.trans h3; have AL1 := AL g3 hg3 vr k3; have AW1 := AW g3 hg3; obtain ⟨ar, cr, rfl⟩ : ∃ a c, vr = .slice a ps.length c := (by obtain ⟨_, h, _⟩ := k3; exact h.slice); clear k3 AL AW RD1; refine CallK.ret ?_))
    | ((with_reducible apply TL.gives_plain); (· kernel_rfl); (· rfl); (· exact AL1 _); (· rfl)) | ((with_reducible apply TW.gives_plain); (· kernel_rfl); (· rfl); (· exact AL1 _); (· rfl))
    | ((with_reducible apply TL.gives_plain); (· kernel_rfl); (· rfl); (· exact AW1 _); (· rfl)) | ((with_reducible apply TW.gives_plain); (· kernel_rfl); (· rfl); (· exact AW1 _); (· rfl))
    | ((with_reducible apply TL.pure); (· exact yA); (· rfl))
    | refine TC.seq ?_ | refine TC.region ?_ | refine TL.nil ?_ | refine TQ.then_normal ?_
    | ((with_reducible apply TL.storeE); (· rfl); (· rfl); (· rfl); (· exact pkA); (· infer_instance)) | ((with_reducible apply TL.store_whole); (· rfl); (· rfl); (· exact oneA); (· rfl); (· exact pkA); (· rfl))
    | refine TC.block ?_ | refine TC.ret ?_ | refine TC.skip ?_ | refine TC.exit ?_ | refine TC.cond rfl ?_
    | refine TQ.down ?_ | refine TQ.in_exit' rfl ?_
    | refine TL.guard_yes rfl rfl ?_ | refine TL.guard_no rfl rfl rfl rfl ?_ | refine TL.guard_no0 rfl rfl rfl ?_ | refine TL.guard_undef rfl rfl rfl ?_ | refine TL.guard_undef0 rfl rfl ?_ | refine TL.guard rfl rfl rfl ?_
    | refine Br.t rfl ?_ | refine Br.f rfl ?_ | refine Br.ky kpA ?_ | refine Br.kn kpA ?_ | refine Br.nky kpA ?_ | refine Br.nkn kpA ?_
    | refine Br.eq0 (fun _ => ?_) (fun _ => ?_) | refine Br.neq0 (fun _ => ?_) (fun _ => ?_) | refine Br.eq (fun _ => ?_) (fun _ => ?_) | refine Br.neq (fun _ => ?_) (fun _ => ?_) | refine Br.not (fun _ => ?_) (fun _ => ?_) | refine Br.dec (fun _ => ?_) (fun _ => ?_) | refine Br.bool (fun _ => ?_) (fun _ => ?_)
    | ((with_reducible apply TL.alloc_ag); (· rfl); intro _) | ((with_reducible apply TL.alloc_sc); (· rfl); (· rfl); intro _) | ((with_reducible apply TL.box_ag); (· rfl); (· rfl); intro _) | ((with_reducible apply TL.box_sc); (· rfl); (· rfl); (· rfl); intro _))
    refine TQ.less hg3 ?_
    refine TQ.endR1 (L' := L) Tryz.results4 rvA rfl (.refl _) ?_ selF
    exact ⟨rfl, rfl, rfl⟩
end Go.Proofs.YtfanccddokckcaaGreatDoor
