/-
  The law PathGets.
-/
import Derived.Test.YtacogbfgegcliaaGreatDoorHg33
import Derived.Test.YtacogbfgegcliaaGreatDoorHg35
import Derived.Test.YtacogbfgegcliaaGreatDoorHg36
import Derived.Test.YtacogbfgegcliaaGreatDoorHg40
import Derived.Test.YtacogbfgegcliaaGreatDoorHg41
import Derived.Test.YtacogbfgegcliaaGreatDoorHg42
import Derived.Test.YtacogbfgegcliaaGreatDoorHg37
import Derived.Test.YtacogbfgegcliaaGreatDoorHg9
import Derived.Test.YtacogbfgegcliaaGreatDoorHg43
import Derived.Test.YtacogbfgegcliaaGreatDoorHg44
import Derived.Test.YtacogbfgegcliaaGreatDoorHg45
namespace Go.Proofs.YtacogbfgegcliaaGreatDoor
open Go.RowKit Go.TL
set_option maxRecDepth 100000

theorem same06_yes (l : List (List UInt8)) (va vb : Value) (g : Gh) (L : List Ent) (hA : Sl g va l.length 1 (strs l)) (hB : Sl g vb l.length 1 (strs l)) (hl : l.length ≤ 1000000) : Gives Tryz.prog 41 #[va, vb] g L (.bool true) := by
  have h := same06_gives l l va vb g L hA hB hl hl
  rwa [decide_eq_true rfl] at h
theorem allJ_len {x : DV} (h : lightB x = true) : (allJ [] (toJ x)).length ≤ 1000000 := by
  have := all_len (toJ x) []
  have := jsz_light h
  omega
set_option maxHeartbeats 64000000 in
theorem lawPathGets (x : DV) (p : List UInt8) (cs : List Value) (g : Gh) (hX : IsV g x cs) (hp : p.length ≤ 9223372036854775807) (hE : GErr g) (hT : GTabs g) (hU : GU8 g) : Gives Tryz.prog 12 #[.agg cs.toArray, str p] g [] (.bool true) := by
  refine .of (Does.of2 Tryz.func12 rfl Tryz.ntmps12 rfl ?_)
  have L1 := fun L => light_gives x cs g L hX
  have l1 := hX.len
  cases hx : lightB x with
  | false =>
    rw [hx] at L1
    clear hX
    repeat' (first
    | ((with_reducible apply TL.pure); (· exact yV); (· rfl)) | ((with_reducible apply TW.pure); (· exact yV); (· rfl))
    | ((with_reducible apply TL.gives_plain); (· kernel_rfl); (· rfl); (· exact L1 _); (· rfl)) | ((with_reducible apply TW.gives_plain); (· kernel_rfl); (· rfl); (· exact L1 _); (· rfl))
    | ((with_reducible apply TL.pure); (· exact yA); (· rfl))
    | refine TC.seq ?_ | refine TC.region ?_ | refine TL.nil ?_ | refine TQ.then_normal ?_
    | ((with_reducible apply TL.storeE); (· rfl); (· rfl); (· rfl); (· exact pkA); (· infer_instance)) | ((with_reducible apply TL.store_whole); (· rfl); (· rfl); (· exact oneA); (· rfl); (· exact pkA); (· rfl))
    | refine TC.block ?_ | refine TC.ret ?_ | refine TC.skip ?_ | refine TC.exit ?_ | refine TC.cond rfl ?_
    | refine TQ.down ?_ | refine TQ.in_exit' rfl ?_
    | refine TL.guard_yes rfl rfl ?_ | refine TL.guard_no rfl rfl rfl rfl ?_ | refine TL.guard_no0 rfl rfl rfl ?_ | refine TL.guard_undef rfl rfl rfl ?_ | refine TL.guard_undef0 rfl rfl ?_ | refine TL.guard rfl rfl rfl ?_
    | refine Br.t rfl ?_ | refine Br.f rfl ?_ | refine Br.ky kpA ?_ | refine Br.kn kpA ?_ | refine Br.nky kpA ?_ | refine Br.nkn kpA ?_
    | refine Br.eq0 (fun _ => ?_) (fun _ => ?_) | refine Br.neq0 (fun _ => ?_) (fun _ => ?_) | refine Br.eq (fun _ => ?_) (fun _ => ?_) | refine Br.neq (fun _ => ?_) (fun _ => ?_) | refine Br.not (fun _ => ?_) (fun _ => ?_) | refine Br.dec (fun _ => ?_) (fun _ => ?_) | refine Br.bool (fun _ => ?_) (fun _ => ?_)
    | ((with_reducible apply TL.alloc_ag); (· rfl); intro _) | ((with_reducible apply TL.alloc_sc); (· rfl); (· rfl); intro _) | ((with_reducible apply TL.box_ag); (· rfl); (· rfl); intro _) | ((with_reducible apply TL.box_sc); (· rfl); (· rfl); (· rfl); intro _))
    refine TQ.endR1 (L' := []) Tryz.results12 rvA rfl (.refl _) ?_ selA
    exact ⟨rfl, rfl, rfl⟩
  | true =>
  rw [hx] at L1
  by_cases h3 : 300 < p.length
  · clear hX
    repeat' (first
    | ((with_reducible apply TL.pure); (· exact yV); (· rfl)) | ((with_reducible apply TW.pure); (· exact yV); (· rfl))
    | ((with_reducible apply TL.gives_plain); (· kernel_rfl); (· rfl); (· exact L1 _); (· rfl)) | ((with_reducible apply TW.gives_plain); (· kernel_rfl); (· rfl); (· exact L1 _); (· rfl))
    | ((with_reducible apply TL.pure); (· exact yA); (· rfl))
    | refine TC.seq ?_ | refine TC.region ?_ | refine TL.nil ?_ | refine TQ.then_normal ?_
    | ((with_reducible apply TL.storeE); (· rfl); (· rfl); (· rfl); (· exact pkA); (· infer_instance)) | ((with_reducible apply TL.store_whole); (· rfl); (· rfl); (· exact oneA); (· rfl); (· exact pkA); (· rfl))
    | refine TC.block ?_ | refine TC.ret ?_ | refine TC.skip ?_ | refine TC.exit ?_ | refine TC.cond rfl ?_
    | refine TQ.down ?_ | refine TQ.in_exit' rfl ?_
    | refine TL.guard_yes rfl rfl ?_ | refine TL.guard_no rfl rfl rfl rfl ?_ | refine TL.guard_no0 rfl rfl rfl ?_ | refine TL.guard_undef rfl rfl rfl ?_ | refine TL.guard_undef0 rfl rfl ?_ | refine TL.guard rfl rfl rfl ?_
    | refine Br.t rfl ?_ | refine Br.f rfl ?_ | refine Br.ky kpA ?_ | refine Br.kn kpA ?_ | refine Br.nky kpA ?_ | refine Br.nkn kpA ?_
    | refine Br.eq0 (fun _ => ?_) (fun _ => ?_) | refine Br.neq0 (fun _ => ?_) (fun _ => ?_) | refine Br.eq (fun _ => ?_) (fun _ => ?_) | refine Br.neq (fun _ => ?_) (fun _ => ?_) | refine Br.not (fun _ => ?_) (fun _ => ?_) | refine Br.dec (fun _ => ?_) (fun _ => ?_) | refine Br.bool (fun _ => ?_) (fun _ => ?_)
    | ((with_reducible apply TL.alloc_ag); (· rfl); intro _) | ((with_reducible apply TL.alloc_sc); (· rfl); (· rfl); intro _) | ((with_reducible apply TL.box_ag); (· rfl); (· rfl); intro _) | ((with_reducible apply TL.box_sc); (· rfl); (· rfl); (· rfl); intro _))
    refine TQ.endR1 (L' := []) Tryz.results12 rvA rfl (.refl _) ?_ selA
    exact ⟨rfl, rfl, rfl⟩
  have wx := wf_of_light hx
  obtain ⟨zx, lx⟩ := sz_toJ _ x (Nat.le_refl _) 300 (wfN_of_light hx)
  have jx := jsz_light hx
  have sx := sm_of_sz _ _ zx (by decide)
  have A := fun L => steps_does p g L (by omega) hU
  unfold StepsR at A
  have B := fun (g2 : Gh) L => rSteps6_does p g2 L (by omega)
  unfold RStepsR at B
  have AW := fun (g2 : Gh) (h : g.le g2) L => awake06_gives (g := g2) (L := L) (hE.le h) (hT.le h) (hU.le h)
  have AL := fun (g2 : Gh) (h : g.le g2) (v : Value) (hv : IsJ g2 (toJ x) v) L => alls_does (toJ x) v g2 L hv zx (by omega) (hT.le h) (hU.le h)
  unfold AllsR at AL
  have GE := fun (g2 : Gh) (h : g.le g2) (v : Value) (hv : IsJ g2 (toJ x) v) L => get_does p (toJ x) v g2 L (by omega) hv sx (hE.le h) (hT.le h) (hU.le h)
  unfold GetR at GE
  have MA := fun (g2 : Gh) (h : g.le g2) L => rMay_gives x cs g2 L (IsV.le h _ _ hX) wx
  have TO := fun (g2 : Gh) (h : g.le g2) L => told06_makes _ x (Nat.le_refl _) cs g2 L (IsV.le h _ _ hX) wx
  have RA := fun (g2 : Gh) (h : g.le g2) L => rAll6_does _ x (Nat.le_refl _) cs [] g2 L (IsV.le h _ _ hX) (wfN_of_light hx) (by omega) (by decide)
  unfold AllR at RA
  have hlk := look_toJ _ x (Nat.le_refl _) 0
  have hgt := get_toJ
  cases hst : stepsL p with
  | none =>
    rw [hst] at A B
    have hgn : getP p (toJ x) = none := by unfold getP; rw [hst]; split <;> rfl
    rw [hgn] at GE
    have SM := fun (g2 : Gh) L => same06_yes [] (.slice none 0 0) (.slice none 0 0) g2 L .nil .nil (by decide)
    by_cases hm : mayV x 0 = 0
    · rw [hm] at MA hlk
      have hall : allP (toJ x) = allJ [] (toJ x) := by unfold allP; rw [if_pos hlk]
      rw [hall] at AL
      have hln := allJ_len hx
      have SA := fun (g2 : Gh) (va vb : Value) (ha : Sl g2 va (allJ [] (toJ x)).length 1 (strs (allJ [] (toJ x)))) (hb : Sl g2 vb (allJ [] (toJ x)).length 1 (strs (allJ [] (toJ x)))) L => same06_yes (allJ [] (toJ x)) va vb g2 L ha hb hln
      have GD := fun (g2 : Gh) (h : g.le g2) L => rGet6_does [] x cs (.slice none 0 0) g2 L (IsV.le h _ _ hX) wx (fun s hs => by cases hs) (by decide) .nil
      unfold GetDR at GD
      rw [getD] at GD
      dsimp only at GD A B GE
      generalize allJ [] (toJ x) = AA at *
      clear hgt hgn hst hX hall hm hlk
      repeat' (first
    | ((with_reducible apply TL.pure); (· exact yQ); (· rfl))
    | ((with_reducible apply TL.pure); (· exact yV); (· rfl)) | ((with_reducible apply TW.pure); (· exact yV); (· rfl))
    | ((with_reducible apply TL.gives_plain); (· kernel_rfl); (· rfl); (· exact L1 _); (· rfl)) | ((with_reducible apply TW.gives_plain); (· kernel_rfl); (· rfl); (· exact L1 _); (· rfl))
    | (refine TL.call (Enters.plain (by kernel_rfl) (by rfl)) (by rfl) (A _) ?_; (rintro e g1 Ln h1 ⟨vs, es, k1, k2, ho, hr⟩; have k2 := k2.symm; subst k1; subst k2; (obtain ⟨rfl, rfl⟩ := hr; have B1 := B g1; clear A B); refine CallK.ret ?_))
    | (refine TL.call (Enters.plain (by kernel_rfl) (by rfl)) (by rfl) (B1 _) ?_; (rintro e g2 Ln h2 ⟨vs2, es2, k1, k2, ho2, hr2⟩; have k2 := k2.symm; subst k1; subst k2; (obtain ⟨rfl, rfl⟩ := hr2; have h02 := h1.trans h2; have S2 := SM g2; have T2 := TO g2 h02; clear B1); refine CallK.ret ?_))
    | ((with_reducible apply TL.gives_plain); (· kernel_rfl); (· rfl); (· exact S2 _); (· rfl)) | ((with_reducible apply TW.gives_plain); (· kernel_rfl); (· rfl); (· exact S2 _); (· rfl))
    | (refine TL.makes (Enters.plain (by kernel_rfl) (by rfl)) (T2 _) (by rfl) ?_; (rintro v3 g3 h3 j3; have h03 := h02.trans h3; have G3 := GE g3 h03 v3 j3; clear T2 S2))
    | (refine TL.call (Enters.plain (by kernel_rfl) (by rfl)) (by rfl) (G3 _) ?_; (rintro e g4 Ln h4 ⟨v4, e4, k1, k2, o4, r4⟩; have k2 := k2.symm; subst k1; subst k2; (obtain ⟨rfl, rfl⟩ := r4; have h04 := h03.trans h4; have M4 := MA g4 h04; have D4 := GD g4 h04; have T4 := TO g4 h04; clear G3 GE MA GD TO); refine CallK.ret ?_))
    | ((with_reducible apply TL.gives_plain); (· kernel_rfl); (· rfl); (· exact M4 _); (· rfl)) | ((with_reducible apply TW.gives_plain); (· kernel_rfl); (· rfl); (· exact M4 _); (· rfl))
    | (refine TL.call (Enters.plain (by kernel_rfl) (by rfl)) (by rfl) (D4 _) ?_; (rintro e g5 Ln h5 ⟨cz, bz, k1, k2, k3, hz⟩; have k2 := k2.symm; have k3 := k3.symm; subst k1; subst k2; subst k3; (obtain ⟨rfl, hz, _⟩ := hz; obtain ⟨_, _, _, _, _, _, _, _, _, _, rfl⟩ := hz.form; clear D4 hz); refine CallK.ret ?_))
    | (refine TL.makes (Enters.plain (by kernel_rfl) (by rfl)) (T4 _) (by rfl) ?_; (rintro v6 g6 h6 j6; have h06 := h04.trans h6; have A6 := AL g6 h06 v6 j6; clear T4 AL))
    | (refine TL.call (Enters.plain (by kernel_rfl) (by rfl)) (by rfl) (A6 _) ?_; (rintro e g7 Ln h7 ⟨va, k1, k2, oa, hsa⟩; have k2 := k2.symm; subst k1; subst k2; (have h07 := h06.trans h7; have h47 := h6.trans h7; have R7 := RA g7 h07; clear A6 RA); refine CallK.ret ?_))
    | (refine TL.call (Enters.plain (by kernel_rfl) (by rfl)) (by rfl) (R7 _) ?_; (rintro e g8 Ln h8 ⟨ra, rc, k1, k2, k3⟩; have k2 := k2.symm; subst k1; subst k2; subst k3; refine CallK.ret ?_; refine Go.TL.TL.freeze pkA ?_; intro gf hgf hsf; (have h0f := h07.trans hgf; have h4f := h47.trans hgf; have S8 := SA gf va _ (hsa.le hgf) hsf; have AW8 := AW gf h0f; clear R7 SA AW)))
    | ((with_reducible apply TL.gives_plain); (· kernel_rfl); (· rfl); (· exact S8 _); (· rfl)) | ((with_reducible apply TW.gives_plain); (· kernel_rfl); (· rfl); (· exact S8 _); (· rfl))
    | ((with_reducible apply TL.gives_plain); (· kernel_rfl); (· rfl); (· exact AW8 _); (· rfl)) | ((with_reducible apply TW.gives_plain); (· kernel_rfl); (· rfl); (· exact AW8 _); (· rfl))
    | ((with_reducible apply TA.take_gN 0); (· rfl); (· decide +kernel); (· rfl); (· rfl); (· rfl); (· (first | exact yQ | exact yA | exact yB | exact yM | exact yV)); (· decide +kernel); (· decide +kernel); (· rfl); (· exact fun _ _ _ h => h); (· rfl))
    | ((with_reducible apply TA.take_gN 1); (· rfl); (· decide +kernel); (· rfl); (· rfl); (· rfl); (· (first | exact yQ | exact yA | exact yB | exact yM | exact yV)); (· decide +kernel); (· decide +kernel); (· rfl); (· exact fun _ _ _ h => h); (· rfl))
    | ((with_reducible apply TA.take_gN 2); (· rfl); (· decide +kernel); (· rfl); (· rfl); (· rfl); (· (first | exact yQ | exact yA | exact yB | exact yM | exact yV)); (· decide +kernel); (· decide +kernel); (· rfl); (· exact fun _ _ _ h => h); (· rfl))
    | ((with_reducible apply TA.take_gN 3); (· rfl); (· decide +kernel); (· rfl); (· rfl); (· rfl); (· (first | exact yQ | exact yA | exact yB | exact yM | exact yV)); (· decide +kernel); (· decide +kernel); (· rfl); (· exact fun _ _ _ h => h); (· rfl))
    | ((with_reducible apply TA.no_gN 0); (· rfl); (· decide +kernel); (· rfl); (· rfl); (· rfl); (· rfl); (· decide +kernel); (· decide +kernel); (· rfl); (· exact fun _ _ _ h => h); (· rfl))
    | ((with_reducible apply TA.no_gN 1); (· rfl); (· decide +kernel); (· rfl); (· rfl); (· rfl); (· rfl); (· decide +kernel); (· decide +kernel); (· rfl); (· exact fun _ _ _ h => h); (· rfl))
    | ((with_reducible apply TA.no_gN 2); (· rfl); (· decide +kernel); (· rfl); (· rfl); (· rfl); (· rfl); (· decide +kernel); (· decide +kernel); (· rfl); (· exact fun _ _ _ h => h); (· rfl))
    | ((with_reducible apply TA.no_gN 3); (· rfl); (· decide +kernel); (· rfl); (· rfl); (· rfl); (· rfl); (· decide +kernel); (· decide +kernel); (· rfl); (· exact fun _ _ _ h => h); (· rfl))
    | ((with_reducible apply TA.no_uN 0); (· rfl); (· decide +kernel); (· rfl); (· rfl); (· rfl); (· decide +kernel); (· decide +kernel); (· rfl); (· exact fun _ _ _ h => h); (· rfl))
    | ((with_reducible apply TA.no_uN 1); (· rfl); (· decide +kernel); (· rfl); (· rfl); (· rfl); (· decide +kernel); (· decide +kernel); (· rfl); (· exact fun _ _ _ h => h); (· rfl))
    | ((with_reducible apply TA.no_uN 2); (· rfl); (· decide +kernel); (· rfl); (· rfl); (· rfl); (· decide +kernel); (· decide +kernel); (· rfl); (· exact fun _ _ _ h => h); (· rfl))
    | ((with_reducible apply TA.no_uN 3); (· rfl); (· decide +kernel); (· rfl); (· rfl); (· rfl); (· decide +kernel); (· decide +kernel); (· rfl); (· exact fun _ _ _ h => h); (· rfl))
    | ((with_reducible apply TA.takeN 0); (· rfl); (· decide +kernel); (· rfl); (· (first | exact yQ | exact yA | exact yB | exact yM | exact yV)); (· decide +kernel); (· decide +kernel); (· rfl); (· exact fun _ _ _ h => h); (· rfl))
    | ((with_reducible apply TA.takeN 1); (· rfl); (· decide +kernel); (· rfl); (· (first | exact yQ | exact yA | exact yB | exact yM | exact yV)); (· decide +kernel); (· decide +kernel); (· rfl); (· exact fun _ _ _ h => h); (· rfl))
    | ((with_reducible apply TA.takeN 2); (· rfl); (· decide +kernel); (· rfl); (· (first | exact yQ | exact yA | exact yB | exact yM | exact yV)); (· decide +kernel); (· decide +kernel); (· rfl); (· exact fun _ _ _ h => h); (· rfl))
    | ((with_reducible apply TA.takeN 3); (· rfl); (· decide +kernel); (· rfl); (· (first | exact yQ | exact yA | exact yB | exact yM | exact yV)); (· decide +kernel); (· decide +kernel); (· rfl); (· exact fun _ _ _ h => h); (· rfl))
    | ((with_reducible apply TA.oneN 0); (· rfl); (· rfl); (· decide +kernel); (· rfl))
    | ((with_reducible apply TA.oneN 1); (· rfl); (· rfl); (· decide +kernel); (· rfl))
    | ((with_reducible apply TA.oneN 2); (· rfl); (· rfl); (· decide +kernel); (· rfl))
    | ((with_reducible apply TA.oneN 3); (· rfl); (· rfl); (· decide +kernel); (· rfl))
    | refine TQ.any leF selF ?_
    | refine TC.region_any 32 (_) (by kernel_rfl) rfl selF ?_ | refine TA.done (by decide +kernel) ?_ | refine TQ.any_panic ?_
    | ((with_reducible apply TL.pure); (· exact yA); (· rfl))
    | refine TC.seq ?_ | refine TC.region ?_ | refine TL.nil ?_ | refine TQ.then_normal ?_
    | ((with_reducible apply TL.storeE); (· rfl); (· rfl); (· rfl); (· exact pkA); (· infer_instance)) | ((with_reducible apply TL.store_whole); (· rfl); (· rfl); (· exact oneA); (· rfl); (· exact pkA); (· rfl))
    | refine TC.block ?_ | refine TC.ret ?_ | refine TC.skip ?_ | refine TC.exit ?_ | refine TC.cond rfl ?_
    | refine TQ.down ?_ | refine TQ.in_exit' rfl ?_
    | refine TL.guard_yes rfl rfl ?_ | refine TL.guard_no rfl rfl rfl rfl ?_ | refine TL.guard_no0 rfl rfl rfl ?_ | refine TL.guard_undef rfl rfl rfl ?_ | refine TL.guard_undef0 rfl rfl ?_ | refine TL.guard rfl rfl rfl ?_
    | refine Br.t rfl ?_ | refine Br.f rfl ?_ | refine Br.ky kpA ?_ | refine Br.kn kpA ?_ | refine Br.nky kpA ?_ | refine Br.nkn kpA ?_
    | refine Br.eq0 (fun _ => ?_) (fun _ => ?_) | refine Br.neq0 (fun _ => ?_) (fun _ => ?_) | refine Br.eq (fun _ => ?_) (fun _ => ?_) | refine Br.neq (fun _ => ?_) (fun _ => ?_) | refine Br.not (fun _ => ?_) (fun _ => ?_) | refine Br.dec (fun _ => ?_) (fun _ => ?_) | refine Br.bool (fun _ => ?_) (fun _ => ?_)
    | ((with_reducible apply TL.alloc_ag); (· rfl); intro _) | ((with_reducible apply TL.alloc_sc); (· rfl); (· rfl); intro _) | ((with_reducible apply TL.box_ag); (· rfl); (· rfl); intro _) | ((with_reducible apply TL.box_sc); (· rfl); (· rfl); (· rfl); intro _))
      refine TQ.less h0f ?_
      refine TQ.endR1 (L' := []) Tryz.results12 rvA rfl (.refl _) ?_ selF
      exact ⟨rfl, rfl, rfl⟩
    · have hall : allP (toJ x) = [] := by unfold allP; rw [if_neg (by omega)]
      rw [hall] at AL
      dsimp only at A B GE
      have HM : Hn (¬ ((mayV x 0 : Nat) : Int) = 0) := ⟨by omega⟩
      clear hgt hgn hst hX hall hm hlk
      generalize mayV x 0 = mm at *
      repeat' (first
    | ((with_reducible apply TL.pure); (· exact yQ); (· rfl))
    | ((with_reducible apply TL.pure); (· exact yV); (· rfl)) | ((with_reducible apply TW.pure); (· exact yV); (· rfl))
    | ((with_reducible apply TL.gives_plain); (· kernel_rfl); (· rfl); (· exact L1 _); (· rfl)) | ((with_reducible apply TW.gives_plain); (· kernel_rfl); (· rfl); (· exact L1 _); (· rfl))
    | (refine TL.call (Enters.plain (by kernel_rfl) (by rfl)) (by rfl) (A _) ?_; (rintro e g1 Ln h1 ⟨vs, es, k1, k2, ho, hr⟩; have k2 := k2.symm; subst k1; subst k2; (obtain ⟨rfl, rfl⟩ := hr; have B1 := B g1; clear A B); refine CallK.ret ?_))
    | (refine TL.call (Enters.plain (by kernel_rfl) (by rfl)) (by rfl) (B1 _) ?_; (rintro e g2 Ln h2 ⟨vs2, es2, k1, k2, ho2, hr2⟩; have k2 := k2.symm; subst k1; subst k2; (obtain ⟨rfl, rfl⟩ := hr2; have h02 := h1.trans h2; have S2 := SM g2; have T2 := TO g2 h02; clear B1); refine CallK.ret ?_))
    | ((with_reducible apply TL.gives_plain); (· kernel_rfl); (· rfl); (· exact S2 _); (· rfl)) | ((with_reducible apply TW.gives_plain); (· kernel_rfl); (· rfl); (· exact S2 _); (· rfl))
    | (refine TL.makes (Enters.plain (by kernel_rfl) (by rfl)) (T2 _) (by rfl) ?_; (rintro v3 g3 h3 j3; have h03 := h02.trans h3; have G3 := GE g3 h03 v3 j3; clear T2 S2))
    | (refine TL.call (Enters.plain (by kernel_rfl) (by rfl)) (by rfl) (G3 _) ?_; (rintro e g4 Ln h4 ⟨v4, e4, k1, k2, o4, r4⟩; have k2 := k2.symm; subst k1; subst k2; (obtain ⟨rfl, rfl⟩ := r4; have h04 := h03.trans h4; have M4 := MA g4 h04; have T4 := TO g4 h04; clear G3 GE MA TO); refine CallK.ret ?_))
    | ((with_reducible apply TL.gives_plain); (· kernel_rfl); (· rfl); (· exact M4 _); (· rfl)) | ((with_reducible apply TW.gives_plain); (· kernel_rfl); (· rfl); (· exact M4 _); (· rfl))
    | (refine TL.makes (Enters.plain (by kernel_rfl) (by rfl)) (T4 _) (by rfl) ?_; (rintro v5 g5 h5 j5; have h05 := h04.trans h5; have A5 := AL g5 h05 v5 j5; clear T4 AL))
    | (refine TL.call (Enters.plain (by kernel_rfl) (by rfl)) (by rfl) (A5 _) ?_; (rintro e g6 Ln h6 ⟨va, k1, k2, oa, hsa⟩; have k2 := k2.symm; subst k1; subst k2; (have h06 := h05.trans h6; obtain ⟨aa, ca, rfl⟩ := hsa.slice; have AW6 := AW g6 h06; clear A5 AW); refine CallK.ret ?_))
    | ((with_reducible apply TL.gives_plain); (· kernel_rfl); (· rfl); (· exact AW6 _); (· rfl)) | ((with_reducible apply TW.gives_plain); (· kernel_rfl); (· rfl); (· exact AW6 _); (· rfl))
    | ((with_reducible apply TL.pure); (· exact yA); (· rfl))
    | refine TC.seq ?_ | refine TC.region ?_ | refine TL.nil ?_ | refine TQ.then_normal ?_
    | ((with_reducible apply TL.storeE); (· rfl); (· rfl); (· rfl); (· exact pkA); (· infer_instance)) | ((with_reducible apply TL.store_whole); (· rfl); (· rfl); (· exact oneA); (· rfl); (· exact pkA); (· rfl))
    | refine TC.block ?_ | refine TC.ret ?_ | refine TC.skip ?_ | refine TC.exit ?_ | refine TC.cond rfl ?_
    | refine TQ.down ?_ | refine TQ.in_exit' rfl ?_
    | refine TL.guard_yes rfl rfl ?_ | refine TL.guard_no rfl rfl rfl rfl ?_ | refine TL.guard_no0 rfl rfl rfl ?_ | refine TL.guard_undef rfl rfl rfl ?_ | refine TL.guard_undef0 rfl rfl ?_ | refine TL.guard rfl rfl rfl ?_
    | refine Br.t rfl ?_ | refine Br.f rfl ?_ | refine Br.ky kpA ?_ | refine Br.kn kpA ?_ | refine Br.nky kpA ?_ | refine Br.nkn kpA ?_
    | refine Br.eq0 (fun _ => ?_) (fun _ => ?_) | refine Br.neq0 (fun _ => ?_) (fun _ => ?_) | refine Br.eq (fun _ => ?_) (fun _ => ?_) | refine Br.neq (fun _ => ?_) (fun _ => ?_) | refine Br.not (fun _ => ?_) (fun _ => ?_) | refine Br.dec (fun _ => ?_) (fun _ => ?_) | refine Br.bool (fun _ => ?_) (fun _ => ?_)
    | ((with_reducible apply TL.alloc_ag); (· rfl); intro _) | ((with_reducible apply TL.alloc_sc); (· rfl); (· rfl); intro _) | ((with_reducible apply TL.box_ag); (· rfl); (· rfl); intro _) | ((with_reducible apply TL.box_sc); (· rfl); (· rfl); (· rfl); intro _))
      refine TQ.less h06 ?_
      refine TQ.endR1 (L' := []) Tryz.results12 rvA rfl (.refl _) ?_ selF
      exact ⟨rfl, rfl, rfl⟩
  | some l =>
    rw [hst] at A B
    obtain ⟨hpj, hl0, _, _, hgood⟩ := stepsL_some hst
    have hlen : ∀ s ∈ l, s ≠ [] ∧ s.length ≤ 1000000 := fun s hs => ⟨(hgood s hs).1, by have := joinS_len l s hs; rw [← hpj] at this; omega⟩
    have hll : l.length ≤ 1000000 := by have := joinS_count l (fun s hs => (hgood s hs).1); rw [← hpj] at this; omega
    have SM := fun (g2 : Gh) (va vb : Value) (ha : Sl g2 va l.length 1 (strs l)) (hb : Sl g2 vb l.length 1 (strs l)) L => same06_yes l va vb g2 L ha hb hll
    by_cases hm : mayV x 0 = 0
    · rw [hm] at MA hlk
      have hall : allP (toJ x) = allJ [] (toJ x) := by unfold allP; rw [if_pos hlk]
      rw [hall] at AL
      have hln := allJ_len hx
      have SA := fun (g2 : Gh) (va vb : Value) (ha : Sl g2 va (allJ [] (toJ x)).length 1 (strs (allJ [] (toJ x)))) (hb : Sl g2 vb (allJ [] (toJ x)).length 1 (strs (allJ [] (toJ x)))) L => same06_yes (allJ [] (toJ x)) va vb g2 L ha hb hln
      have hgp : getP p (toJ x) = (getD l x).map toJ := by unfold getP; rw [if_pos hlk, hst, ← get_toJ]; rfl
      rw [hgp] at GE
      have GD := fun (g2 : Gh) (h : g.le g2) (vl : Value) (hs : Sl g2 vl l.length 1 (strs l)) L => rGet6_does l x cs vl g2 L (IsV.le h _ _ hX) wx hlen hll hs
      unfold GetDR at GD
      have hus : ∀ u, getP p (toJ x) = some u → SameJ u u = true ∧ smJ u := fun u h => got_same lx sx h
      rw [hgp] at hus
      dsimp only at A B
      cases hz0 : getD l x with
      | none =>
        rw [hz0] at GD GE
        dsimp only [Option.map_none] at GD GE
        generalize allJ [] (toJ x) = AA at *
        clear hgt hst hX hall hm hlk hgp hus hz0 hlen hgood hpj
        repeat' (first
    | ((with_reducible apply TL.pure); (· exact yQ); (· rfl))
    | ((with_reducible apply TL.pure); (· exact yV); (· rfl)) | ((with_reducible apply TW.pure); (· exact yV); (· rfl))
    | ((with_reducible apply TL.gives_plain); (· kernel_rfl); (· rfl); (· exact L1 _); (· rfl)) | ((with_reducible apply TW.gives_plain); (· kernel_rfl); (· rfl); (· exact L1 _); (· rfl))
    | (refine TL.call (Enters.plain (by kernel_rfl) (by rfl)) (by rfl) (A _) ?_; (rintro e g1 Ln h1 ⟨vs, es, k1, k2, ho, hr⟩; have k2 := k2.symm; subst k1; subst k2; (obtain ⟨rfl, hsl⟩ := hr; have B1 := B g1; clear A B); refine CallK.ret ?_))
    | (refine TL.call (Enters.plain (by kernel_rfl) (by rfl)) (by rfl) (B1 _) ?_; (rintro e g2 Ln h2 ⟨vs2, es2, k1, k2, ho2, hr2⟩; have k2 := k2.symm; subst k1; subst k2; (obtain ⟨rfl, hsl2⟩ := hr2; have h02 := h1.trans h2; have S2 := SM g2 vs vs2 (hsl.le h2) hsl2; have T2 := TO g2 h02; clear B1); refine CallK.ret ?_))
    | ((with_reducible apply TL.gives_plain); (· kernel_rfl); (· rfl); (· exact S2 _); (· rfl)) | ((with_reducible apply TW.gives_plain); (· kernel_rfl); (· rfl); (· exact S2 _); (· rfl))
    | (refine TL.makes (Enters.plain (by kernel_rfl) (by rfl)) (T2 _) (by rfl) ?_; (rintro v3 g3 h3 j3; have h03 := h02.trans h3; have G3 := GE g3 h03 v3 j3; clear T2 S2))
    | (refine TL.call (Enters.plain (by kernel_rfl) (by rfl)) (by rfl) (G3 _) ?_; (rintro e g4 Ln h4 ⟨v4, e4, k1, k2, o4, r4⟩; have k2 := k2.symm; subst k1; subst k2; (obtain ⟨rfl, rfl⟩ := r4; have h04 := h03.trans h4; have M4 := MA g4 h04; have D4 := GD g4 h04 vs2 (hsl2.le (h3.trans h4)); have T4 := TO g4 h04; clear G3 GE MA GD TO); refine CallK.ret ?_))
    | ((with_reducible apply TL.gives_plain); (· kernel_rfl); (· rfl); (· exact M4 _); (· rfl)) | ((with_reducible apply TW.gives_plain); (· kernel_rfl); (· rfl); (· exact M4 _); (· rfl))
    | (refine TL.call (Enters.plain (by kernel_rfl) (by rfl)) (by rfl) (D4 _) ?_; (rintro e g5 Ln h5 ⟨cz, bz, k1, k2, k3, hz⟩; have k2 := k2.symm; have k3 := k3.symm; subst k1; subst k2; subst k3; (obtain ⟨rfl, rfl⟩ := hz; clear D4); refine CallK.ret ?_))
    | (refine TL.makes (Enters.plain (by kernel_rfl) (by rfl)) (T4 _) (by rfl) ?_; (rintro v6 g6 h6 j6; have h06 := h04.trans h6; have A6 := AL g6 h06 v6 j6; clear T4 AL))
    | (refine TL.call (Enters.plain (by kernel_rfl) (by rfl)) (by rfl) (A6 _) ?_; (rintro e g7 Ln h7 ⟨va, k1, k2, oa, hsa⟩; have k2 := k2.symm; subst k1; subst k2; (have h07 := h06.trans h7; have h47 := h6.trans h7; have R7 := RA g7 h07; clear A6 RA); refine CallK.ret ?_))
    | (refine TL.call (Enters.plain (by kernel_rfl) (by rfl)) (by rfl) (R7 _) ?_; (rintro e g8 Ln h8 ⟨ra, rc, k1, k2, k3⟩; have k2 := k2.symm; subst k1; subst k2; subst k3; refine CallK.ret ?_; refine Go.TL.TL.freeze pkA ?_; intro gf hgf hsf; (have h0f := h07.trans hgf; have h4f := h47.trans hgf; have S8 := SA gf va _ (hsa.le hgf) hsf; have AW8 := AW gf h0f; clear R7 SA AW)))
    | ((with_reducible apply TL.gives_plain); (· kernel_rfl); (· rfl); (· exact S8 _); (· rfl)) | ((with_reducible apply TW.gives_plain); (· kernel_rfl); (· rfl); (· exact S8 _); (· rfl))
    | ((with_reducible apply TL.gives_plain); (· kernel_rfl); (· rfl); (· exact AW8 _); (· rfl)) | ((with_reducible apply TW.gives_plain); (· kernel_rfl); (· rfl); (· exact AW8 _); (· rfl))
    | ((with_reducible apply TA.take_gN 0); (· rfl); (· decide +kernel); (· rfl); (· rfl); (· rfl); (· (first | exact yQ | exact yA | exact yB | exact yM | exact yV)); (· decide +kernel); (· decide +kernel); (· rfl); (· exact fun _ _ _ h => h); (· rfl))
    | ((with_reducible apply TA.take_gN 1); (· rfl); (· decide +kernel); (· rfl); (· rfl); (· rfl); (· (first | exact yQ | exact yA | exact yB | exact yM | exact yV)); (· decide +kernel); (· decide +kernel); (· rfl); (· exact fun _ _ _ h => h); (· rfl))
    | ((with_reducible apply TA.take_gN 2); (· rfl); (· decide +kernel); (· rfl); (· rfl); (· rfl); (· (first | exact yQ | exact yA | exact yB | exact yM | exact yV)); (· decide +kernel); (· decide +kernel); (· rfl); (· exact fun _ _ _ h => h); (· rfl))
    | ((with_reducible apply TA.take_gN 3); (· rfl); (· decide +kernel); (· rfl); (· rfl); (· rfl); (· (first | exact yQ | exact yA | exact yB | exact yM | exact yV)); (· decide +kernel); (· decide +kernel); (· rfl); (· exact fun _ _ _ h => h); (· rfl))
    | ((with_reducible apply TA.no_gN 0); (· rfl); (· decide +kernel); (· rfl); (· rfl); (· rfl); (· rfl); (· decide +kernel); (· decide +kernel); (· rfl); (· exact fun _ _ _ h => h); (· rfl))
    | ((with_reducible apply TA.no_gN 1); (· rfl); (· decide +kernel); (· rfl); (· rfl); (· rfl); (· rfl); (· decide +kernel); (· decide +kernel); (· rfl); (· exact fun _ _ _ h => h); (· rfl))
    | ((with_reducible apply TA.no_gN 2); (· rfl); (· decide +kernel); (· rfl); (· rfl); (· rfl); (· rfl); (· decide +kernel); (· decide +kernel); (· rfl); (· exact fun _ _ _ h => h); (· rfl))
    | ((with_reducible apply TA.no_gN 3); (· rfl); (· decide +kernel); (· rfl); (· rfl); (· rfl); (· rfl); (· decide +kernel); (· decide +kernel); (· rfl); (· exact fun _ _ _ h => h); (· rfl))
    | ((with_reducible apply TA.no_uN 0); (· rfl); (· decide +kernel); (· rfl); (· rfl); (· rfl); (· decide +kernel); (· decide +kernel); (· rfl); (· exact fun _ _ _ h => h); (· rfl))
    | ((with_reducible apply TA.no_uN 1); (· rfl); (· decide +kernel); (· rfl); (· rfl); (· rfl); (· decide +kernel); (· decide +kernel); (· rfl); (· exact fun _ _ _ h => h); (· rfl))
    | ((with_reducible apply TA.no_uN 2); (· rfl); (· decide +kernel); (· rfl); (· rfl); (· rfl); (· decide +kernel); (· decide +kernel); (· rfl); (· exact fun _ _ _ h => h); (· rfl))
    | ((with_reducible apply TA.no_uN 3); (· rfl); (· decide +kernel); (· rfl); (· rfl); (· rfl); (· decide +kernel); (· decide +kernel); (· rfl); (· exact fun _ _ _ h => h); (· rfl))
    | ((with_reducible apply TA.takeN 0); (· rfl); (· decide +kernel); (· rfl); (· (first | exact yQ | exact yA | exact yB | exact yM | exact yV)); (· decide +kernel); (· decide +kernel); (· rfl); (· exact fun _ _ _ h => h); (· rfl))
    | ((with_reducible apply TA.takeN 1); (· rfl); (· decide +kernel); (· rfl); (· (first | exact yQ | exact yA | exact yB | exact yM | exact yV)); (· decide +kernel); (· decide +kernel); (· rfl); (· exact fun _ _ _ h => h); (· rfl))
    | ((with_reducible apply TA.takeN 2); (· rfl); (· decide +kernel); (· rfl); (· (first | exact yQ | exact yA | exact yB | exact yM | exact yV)); (· decide +kernel); (· decide +kernel); (· rfl); (· exact fun _ _ _ h => h); (· rfl))
    | ((with_reducible apply TA.takeN 3); (· rfl); (· decide +kernel); (· rfl); (· (first | exact yQ | exact yA | exact yB | exact yM | exact yV)); (· decide +kernel); (· decide +kernel); (· rfl); (· exact fun _ _ _ h => h); (· rfl))
    | ((with_reducible apply TA.oneN 0); (· rfl); (· rfl); (· decide +kernel); (· rfl))
    | ((with_reducible apply TA.oneN 1); (· rfl); (· rfl); (· decide +kernel); (· rfl))
    | ((with_reducible apply TA.oneN 2); (· rfl); (· rfl); (· decide +kernel); (· rfl))
    | ((with_reducible apply TA.oneN 3); (· rfl); (· rfl); (· decide +kernel); (· rfl))
    | refine TQ.any leF selF ?_
    | refine TC.region_any 32 (_) (by kernel_rfl) rfl selF ?_ | refine TA.done (by decide +kernel) ?_ | refine TQ.any_panic ?_
    | ((with_reducible apply TL.pure); (· exact yA); (· rfl))
    | refine TC.seq ?_ | refine TC.region ?_ | refine TL.nil ?_ | refine TQ.then_normal ?_
    | ((with_reducible apply TL.storeE); (· rfl); (· rfl); (· rfl); (· exact pkA); (· infer_instance)) | ((with_reducible apply TL.store_whole); (· rfl); (· rfl); (· exact oneA); (· rfl); (· exact pkA); (· rfl))
    | refine TC.block ?_ | refine TC.ret ?_ | refine TC.skip ?_ | refine TC.exit ?_ | refine TC.cond rfl ?_
    | refine TQ.down ?_ | refine TQ.in_exit' rfl ?_
    | refine TL.guard_yes rfl rfl ?_ | refine TL.guard_no rfl rfl rfl rfl ?_ | refine TL.guard_no0 rfl rfl rfl ?_ | refine TL.guard_undef rfl rfl rfl ?_ | refine TL.guard_undef0 rfl rfl ?_ | refine TL.guard rfl rfl rfl ?_
    | refine Br.t rfl ?_ | refine Br.f rfl ?_ | refine Br.ky kpA ?_ | refine Br.kn kpA ?_ | refine Br.nky kpA ?_ | refine Br.nkn kpA ?_
    | refine Br.eq0 (fun _ => ?_) (fun _ => ?_) | refine Br.neq0 (fun _ => ?_) (fun _ => ?_) | refine Br.eq (fun _ => ?_) (fun _ => ?_) | refine Br.neq (fun _ => ?_) (fun _ => ?_) | refine Br.not (fun _ => ?_) (fun _ => ?_) | refine Br.dec (fun _ => ?_) (fun _ => ?_) | refine Br.bool (fun _ => ?_) (fun _ => ?_)
    | ((with_reducible apply TL.alloc_ag); (· rfl); intro _) | ((with_reducible apply TL.alloc_sc); (· rfl); (· rfl); intro _) | ((with_reducible apply TL.box_ag); (· rfl); (· rfl); intro _) | ((with_reducible apply TL.box_sc); (· rfl); (· rfl); (· rfl); intro _))
        refine TQ.less h0f ?_
        refine TQ.endR1 (L' := []) Tryz.results12 rvA rfl (.refl _) ?_ selF
        exact ⟨rfl, rfl, rfl⟩
      | some z =>
        rw [hz0] at GD GE hus
        dsimp only [Option.map_some] at GD GE hus
        obtain ⟨hsu, smu⟩ := hus _ rfl
        have SJ := fun (g2 : Gh) (h : g.le g2) (a b : Value) (ha : IsJ g2 (toJ z) a) (hb : IsJ g2 (toJ z) b) L => Same_gives (toJ z) (toJ z) a b g2 L ha hb smu smu (hT.le h) (hU.le h)
        rw [hsu] at SJ
        generalize allJ [] (toJ x) = AA at *
        clear hgt hst hX hall hm hlk hgp hz0 hlen hgood hpj hus hsu
        repeat' (first
    | ((with_reducible apply TL.pure); (· exact yQ); (· rfl))
    | ((with_reducible apply TL.pure); (· exact yV); (· rfl)) | ((with_reducible apply TW.pure); (· exact yV); (· rfl))
    | ((with_reducible apply TL.gives_plain); (· kernel_rfl); (· rfl); (· exact L1 _); (· rfl)) | ((with_reducible apply TW.gives_plain); (· kernel_rfl); (· rfl); (· exact L1 _); (· rfl))
    | (refine TL.call (Enters.plain (by kernel_rfl) (by rfl)) (by rfl) (A _) ?_; (rintro e g1 Ln h1 ⟨vs, es, k1, k2, ho, hr⟩; have k2 := k2.symm; subst k1; subst k2; (obtain ⟨rfl, hsl⟩ := hr; have B1 := B g1; clear A B); refine CallK.ret ?_))
    | (refine TL.call (Enters.plain (by kernel_rfl) (by rfl)) (by rfl) (B1 _) ?_; (rintro e g2 Ln h2 ⟨vs2, es2, k1, k2, ho2, hr2⟩; have k2 := k2.symm; subst k1; subst k2; (obtain ⟨rfl, hsl2⟩ := hr2; have h02 := h1.trans h2; have S2 := SM g2 vs vs2 (hsl.le h2) hsl2; have T2 := TO g2 h02; clear B1); refine CallK.ret ?_))
    | ((with_reducible apply TL.gives_plain); (· kernel_rfl); (· rfl); (· exact S2 _); (· rfl)) | ((with_reducible apply TW.gives_plain); (· kernel_rfl); (· rfl); (· exact S2 _); (· rfl))
    | (refine TL.makes (Enters.plain (by kernel_rfl) (by rfl)) (T2 _) (by rfl) ?_; (rintro v3 g3 h3 j3; have h03 := h02.trans h3; have G3 := GE g3 h03 v3 j3; clear T2 S2))
    | (refine TL.call (Enters.plain (by kernel_rfl) (by rfl)) (by rfl) (G3 _) ?_; (rintro e g4 Ln h4 ⟨v4, e4, k1, k2, o4, r4⟩; have k2 := k2.symm; subst k1; subst k2; (obtain ⟨rfl, j4⟩ := r4; have h04 := h03.trans h4; have M4 := MA g4 h04; have D4 := GD g4 h04 vs2 (hsl2.le (h3.trans h4)); clear G3 GE MA GD); refine CallK.ret ?_))
    | ((with_reducible apply TL.gives_plain); (· kernel_rfl); (· rfl); (· exact M4 _); (· rfl)) | ((with_reducible apply TW.gives_plain); (· kernel_rfl); (· rfl); (· exact M4 _); (· rfl))
    | (refine TL.call (Enters.plain (by kernel_rfl) (by rfl)) (by rfl) (D4 _) ?_; (rintro e g5 Ln h5 ⟨cz, bz, k1, k2, k3, hz⟩; have k2 := k2.symm; have k3 := k3.symm; subst k1; subst k2; subst k3; (obtain ⟨rfl, hz, hwz⟩ := hz; obtain ⟨_, _, _, _, _, _, _, _, _, _, rfl⟩ := hz.form; have TZ := fun L => told06_makes _ z (Nat.le_refl _) _ g4 L hz hwz; clear D4); refine CallK.ret ?_))
    | (refine TL.makes (Enters.plain (by kernel_rfl) (by rfl)) (TZ _) (by rfl) ?_; (rintro vz gz hgz jz; have SZ := SJ gz (h04.trans hgz) v4 vz (IsJ.le hgz _ _ j4) jz; have T4 := TO gz (h04.trans hgz); clear TZ SJ TO))
    | ((with_reducible apply TL.gives_plain); (· kernel_rfl); (· rfl); (· exact SZ _); (· rfl)) | ((with_reducible apply TW.gives_plain); (· kernel_rfl); (· rfl); (· exact SZ _); (· rfl))
    | (refine TL.makes (Enters.plain (by kernel_rfl) (by rfl)) (T4 _) (by rfl) ?_; (rintro v6 g6 h6 j6; have h06 := (h04.trans hgz).trans h6; have hz6 := hgz.trans h6; have A6 := AL g6 h06 v6 j6; clear T4 AL))
    | (refine TL.call (Enters.plain (by kernel_rfl) (by rfl)) (by rfl) (A6 _) ?_; (rintro e g7 Ln h7 ⟨va, k1, k2, oa, hsa⟩; have k2 := k2.symm; subst k1; subst k2; (have h07 := h06.trans h7; have h47 := hz6.trans h7; have R7 := RA g7 h07; clear A6 RA); refine CallK.ret ?_))
    | (refine TL.call (Enters.plain (by kernel_rfl) (by rfl)) (by rfl) (R7 _) ?_; (rintro e g8 Ln h8 ⟨ra, rc, k1, k2, k3⟩; have k2 := k2.symm; subst k1; subst k2; subst k3; refine CallK.ret ?_; refine Go.TL.TL.freeze pkA ?_; intro gf hgf hsf; (have h0f := h07.trans hgf; have h4f := h47.trans hgf; have S8 := SA gf va _ (hsa.le hgf) hsf; have AW8 := AW gf h0f; clear R7 SA AW)))
    | ((with_reducible apply TL.gives_plain); (· kernel_rfl); (· rfl); (· exact S8 _); (· rfl)) | ((with_reducible apply TW.gives_plain); (· kernel_rfl); (· rfl); (· exact S8 _); (· rfl))
    | ((with_reducible apply TL.gives_plain); (· kernel_rfl); (· rfl); (· exact AW8 _); (· rfl)) | ((with_reducible apply TW.gives_plain); (· kernel_rfl); (· rfl); (· exact AW8 _); (· rfl))
    | ((with_reducible apply TA.take_gN 0); (· rfl); (· decide +kernel); (· rfl); (· rfl); (· rfl); (· (first | exact yQ | exact yA | exact yB | exact yM | exact yV)); (· decide +kernel); (· decide +kernel); (· rfl); (· exact fun _ _ _ h => h); (· rfl))
    | ((with_reducible apply TA.take_gN 1); (· rfl); (· decide +kernel); (· rfl); (· rfl); (· rfl); (· (first | exact yQ | exact yA | exact yB | exact yM | exact yV)); (· decide +kernel); (· decide +kernel); (· rfl); (· exact fun _ _ _ h => h); (· rfl))
    | ((with_reducible apply TA.take_gN 2); (· rfl); (· decide +kernel); (· rfl); (· rfl); (· rfl); (· (first | exact yQ | exact yA | exact yB | exact yM | exact yV)); (· decide +kernel); (· decide +kernel); (· rfl); (· exact fun _ _ _ h => h); (· rfl))
    | ((with_reducible apply TA.take_gN 3); (· rfl); (· decide +kernel); (· rfl); (· rfl); (· rfl); (· (first | exact yQ | exact yA | exact yB | exact yM | exact yV)); (· decide +kernel); (· decide +kernel); (· rfl); (· exact fun _ _ _ h => h); (· rfl))
    | ((with_reducible apply TA.no_gN 0); (· rfl); (· decide +kernel); (· rfl); (· rfl); (· rfl); (· rfl); (· decide +kernel); (· decide +kernel); (· rfl); (· exact fun _ _ _ h => h); (· rfl))
    | ((with_reducible apply TA.no_gN 1); (· rfl); (· decide +kernel); (· rfl); (· rfl); (· rfl); (· rfl); (· decide +kernel); (· decide +kernel); (· rfl); (· exact fun _ _ _ h => h); (· rfl))
    | ((with_reducible apply TA.no_gN 2); (· rfl); (· decide +kernel); (· rfl); (· rfl); (· rfl); (· rfl); (· decide +kernel); (· decide +kernel); (· rfl); (· exact fun _ _ _ h => h); (· rfl))
    | ((with_reducible apply TA.no_gN 3); (· rfl); (· decide +kernel); (· rfl); (· rfl); (· rfl); (· rfl); (· decide +kernel); (· decide +kernel); (· rfl); (· exact fun _ _ _ h => h); (· rfl))
    | ((with_reducible apply TA.no_uN 0); (· rfl); (· decide +kernel); (· rfl); (· rfl); (· rfl); (· decide +kernel); (· decide +kernel); (· rfl); (· exact fun _ _ _ h => h); (· rfl))
    | ((with_reducible apply TA.no_uN 1); (· rfl); (· decide +kernel); (· rfl); (· rfl); (· rfl); (· decide +kernel); (· decide +kernel); (· rfl); (· exact fun _ _ _ h => h); (· rfl))
    | ((with_reducible apply TA.no_uN 2); (· rfl); (· decide +kernel); (· rfl); (· rfl); (· rfl); (· decide +kernel); (· decide +kernel); (· rfl); (· exact fun _ _ _ h => h); (· rfl))
    | ((with_reducible apply TA.no_uN 3); (· rfl); (· decide +kernel); (· rfl); (· rfl); (· rfl); (· decide +kernel); (· decide +kernel); (· rfl); (· exact fun _ _ _ h => h); (· rfl))
    | ((with_reducible apply TA.takeN 0); (· rfl); (· decide +kernel); (· rfl); (· (first | exact yQ | exact yA | exact yB | exact yM | exact yV)); (· decide +kernel); (· decide +kernel); (· rfl); (· exact fun _ _ _ h => h); (· rfl))
    | ((with_reducible apply TA.takeN 1); (· rfl); (· decide +kernel); (· rfl); (· (first | exact yQ | exact yA | exact yB | exact yM | exact yV)); (· decide +kernel); (· decide +kernel); (· rfl); (· exact fun _ _ _ h => h); (· rfl))
    | ((with_reducible apply TA.takeN 2); (· rfl); (· decide +kernel); (· rfl); (· (first | exact yQ | exact yA | exact yB | exact yM | exact yV)); (· decide +kernel); (· decide +kernel); (· rfl); (· exact fun _ _ _ h => h); (· rfl))
    | ((with_reducible apply TA.takeN 3); (· rfl); (· decide +kernel); (· rfl); (· (first | exact yQ | exact yA | exact yB | exact yM | exact yV)); (· decide +kernel); (· decide +kernel); (· rfl); (· exact fun _ _ _ h => h); (· rfl))
    | ((with_reducible apply TA.oneN 0); (· rfl); (· rfl); (· decide +kernel); (· rfl))
    | ((with_reducible apply TA.oneN 1); (· rfl); (· rfl); (· decide +kernel); (· rfl))
    | ((with_reducible apply TA.oneN 2); (· rfl); (· rfl); (· decide +kernel); (· rfl))
    | ((with_reducible apply TA.oneN 3); (· rfl); (· rfl); (· decide +kernel); (· rfl))
    | refine TQ.any leF selF ?_
    | refine TC.region_any 32 (_) (by kernel_rfl) rfl selF ?_ | refine TA.done (by decide +kernel) ?_ | refine TQ.any_panic ?_
    | ((with_reducible apply TL.pure); (· exact yA); (· rfl))
    | refine TC.seq ?_ | refine TC.region ?_ | refine TL.nil ?_ | refine TQ.then_normal ?_
    | ((with_reducible apply TL.storeE); (· rfl); (· rfl); (· rfl); (· exact pkA); (· infer_instance)) | ((with_reducible apply TL.store_whole); (· rfl); (· rfl); (· exact oneA); (· rfl); (· exact pkA); (· rfl))
    | refine TC.block ?_ | refine TC.ret ?_ | refine TC.skip ?_ | refine TC.exit ?_ | refine TC.cond rfl ?_
    | refine TQ.down ?_ | refine TQ.in_exit' rfl ?_
    | refine TL.guard_yes rfl rfl ?_ | refine TL.guard_no rfl rfl rfl rfl ?_ | refine TL.guard_no0 rfl rfl rfl ?_ | refine TL.guard_undef rfl rfl rfl ?_ | refine TL.guard_undef0 rfl rfl ?_ | refine TL.guard rfl rfl rfl ?_
    | refine Br.t rfl ?_ | refine Br.f rfl ?_ | refine Br.ky kpA ?_ | refine Br.kn kpA ?_ | refine Br.nky kpA ?_ | refine Br.nkn kpA ?_
    | refine Br.eq0 (fun _ => ?_) (fun _ => ?_) | refine Br.neq0 (fun _ => ?_) (fun _ => ?_) | refine Br.eq (fun _ => ?_) (fun _ => ?_) | refine Br.neq (fun _ => ?_) (fun _ => ?_) | refine Br.not (fun _ => ?_) (fun _ => ?_) | refine Br.dec (fun _ => ?_) (fun _ => ?_) | refine Br.bool (fun _ => ?_) (fun _ => ?_)
    | ((with_reducible apply TL.alloc_ag); (· rfl); intro _) | ((with_reducible apply TL.alloc_sc); (· rfl); (· rfl); intro _) | ((with_reducible apply TL.box_ag); (· rfl); (· rfl); intro _) | ((with_reducible apply TL.box_sc); (· rfl); (· rfl); (· rfl); intro _))
        refine TQ.less h0f ?_
        refine TQ.endR1 (L' := []) Tryz.results12 rvA rfl (.refl _) ?_ selF
        exact ⟨rfl, rfl, rfl⟩
    · have hall : allP (toJ x) = [] := by unfold allP; rw [if_neg (by omega)]
      rw [hall] at AL
      have hgn : getP p (toJ x) = none := by unfold getP; rw [if_neg (by omega)]
      rw [hgn] at GE
      dsimp only at A B GE
      have HM : Hn (¬ ((mayV x 0 : Nat) : Int) = 0) := ⟨by omega⟩
      clear hgt hgn hst hX hall hm hlk hlen hgood hpj
      generalize mayV x 0 = mm at *
      repeat' (first
    | ((with_reducible apply TL.pure); (· exact yQ); (· rfl))
    | ((with_reducible apply TL.pure); (· exact yV); (· rfl)) | ((with_reducible apply TW.pure); (· exact yV); (· rfl))
    | ((with_reducible apply TL.gives_plain); (· kernel_rfl); (· rfl); (· exact L1 _); (· rfl)) | ((with_reducible apply TW.gives_plain); (· kernel_rfl); (· rfl); (· exact L1 _); (· rfl))
    | (refine TL.call (Enters.plain (by kernel_rfl) (by rfl)) (by rfl) (A _) ?_; (rintro e g1 Ln h1 ⟨vs, es, k1, k2, ho, hr⟩; have k2 := k2.symm; subst k1; subst k2; (obtain ⟨rfl, hsl⟩ := hr; have B1 := B g1; clear A B); refine CallK.ret ?_))
    | (refine TL.call (Enters.plain (by kernel_rfl) (by rfl)) (by rfl) (B1 _) ?_; (rintro e g2 Ln h2 ⟨vs2, es2, k1, k2, ho2, hr2⟩; have k2 := k2.symm; subst k1; subst k2; (obtain ⟨rfl, hsl2⟩ := hr2; have h02 := h1.trans h2; have S2 := SM g2 vs vs2 (hsl.le h2) hsl2; have T2 := TO g2 h02; clear B1); refine CallK.ret ?_))
    | ((with_reducible apply TL.gives_plain); (· kernel_rfl); (· rfl); (· exact S2 _); (· rfl)) | ((with_reducible apply TW.gives_plain); (· kernel_rfl); (· rfl); (· exact S2 _); (· rfl))
    | (refine TL.makes (Enters.plain (by kernel_rfl) (by rfl)) (T2 _) (by rfl) ?_; (rintro v3 g3 h3 j3; have h03 := h02.trans h3; have G3 := GE g3 h03 v3 j3; clear T2 S2))
    | (refine TL.call (Enters.plain (by kernel_rfl) (by rfl)) (by rfl) (G3 _) ?_; (rintro e g4 Ln h4 ⟨v4, e4, k1, k2, o4, r4⟩; have k2 := k2.symm; subst k1; subst k2; (obtain ⟨rfl, rfl⟩ := r4; have h04 := h03.trans h4; have M4 := MA g4 h04; have T4 := TO g4 h04; clear G3 GE MA TO); refine CallK.ret ?_))
    | ((with_reducible apply TL.gives_plain); (· kernel_rfl); (· rfl); (· exact M4 _); (· rfl)) | ((with_reducible apply TW.gives_plain); (· kernel_rfl); (· rfl); (· exact M4 _); (· rfl))
    | (refine TL.makes (Enters.plain (by kernel_rfl) (by rfl)) (T4 _) (by rfl) ?_; (rintro v5 g5 h5 j5; have h05 := h04.trans h5; have A5 := AL g5 h05 v5 j5; clear T4 AL))
    | (refine TL.call (Enters.plain (by kernel_rfl) (by rfl)) (by rfl) (A5 _) ?_; (rintro e g6 Ln h6 ⟨va, k1, k2, oa, hsa⟩; have k2 := k2.symm; subst k1; subst k2; (have h06 := h05.trans h6; obtain ⟨aa, ca, rfl⟩ := hsa.slice; have AW6 := AW g6 h06; clear A5 AW); refine CallK.ret ?_))
    | ((with_reducible apply TL.gives_plain); (· kernel_rfl); (· rfl); (· exact AW6 _); (· rfl)) | ((with_reducible apply TW.gives_plain); (· kernel_rfl); (· rfl); (· exact AW6 _); (· rfl))
    | ((with_reducible apply TL.pure); (· exact yA); (· rfl))
    | refine TC.seq ?_ | refine TC.region ?_ | refine TL.nil ?_ | refine TQ.then_normal ?_
    | ((with_reducible apply TL.storeE); (· rfl); (· rfl); (· rfl); (· exact pkA); (· infer_instance)) | ((with_reducible apply TL.store_whole); (· rfl); (· rfl); (· exact oneA); (· rfl); (· exact pkA); (· rfl))
    | refine TC.block ?_ | refine TC.ret ?_ | refine TC.skip ?_ | refine TC.exit ?_ | refine TC.cond rfl ?_
    | refine TQ.down ?_ | refine TQ.in_exit' rfl ?_
    | refine TL.guard_yes rfl rfl ?_ | refine TL.guard_no rfl rfl rfl rfl ?_ | refine TL.guard_no0 rfl rfl rfl ?_ | refine TL.guard_undef rfl rfl rfl ?_ | refine TL.guard_undef0 rfl rfl ?_ | refine TL.guard rfl rfl rfl ?_
    | refine Br.t rfl ?_ | refine Br.f rfl ?_ | refine Br.ky kpA ?_ | refine Br.kn kpA ?_ | refine Br.nky kpA ?_ | refine Br.nkn kpA ?_
    | refine Br.eq0 (fun _ => ?_) (fun _ => ?_) | refine Br.neq0 (fun _ => ?_) (fun _ => ?_) | refine Br.eq (fun _ => ?_) (fun _ => ?_) | refine Br.neq (fun _ => ?_) (fun _ => ?_) | refine Br.not (fun _ => ?_) (fun _ => ?_) | refine Br.dec (fun _ => ?_) (fun _ => ?_) | refine Br.bool (fun _ => ?_) (fun _ => ?_)
    | ((with_reducible apply TL.alloc_ag); (· rfl); intro _) | ((with_reducible apply TL.alloc_sc); (· rfl); (· rfl); intro _) | ((with_reducible apply TL.box_ag); (· rfl); (· rfl); intro _) | ((with_reducible apply TL.box_sc); (· rfl); (· rfl); (· rfl); intro _))
      refine TQ.less h06 ?_
      refine TQ.endR1 (L' := []) Tryz.results12 rvA rfl (.refl _) ?_ selF
      exact ⟨rfl, rfl, rfl⟩
end Go.Proofs.YtacogbfgegcliaaGreatDoor
