/-
  The walk of the law ShapeMeets.
-/
import Derived.Test.YtfanccddokckcaaGreatDoorSm2
import Derived.Test.YtfanccddokckcaaGreatDoorSm44
import Derived.Test.YtfanccddokckcaaGreatDoorSm45
namespace Go.Proofs.YtfanccddokckcaaGreatDoor
open Go.RowKit Go.TL
set_option maxRecDepth 100000

set_option maxHeartbeats 64000000 in
theorem lawShapeMeets (k : Int) (ps : List (List Pt)) (v : Value) (m : Int) (ts : List (List Pt)) (u : Value) (g : Gh) (L : List Ent) (hS : IsParts g v ps) (hb : ∀ q ∈ ps, q.length ≤ 8796093022208) (hl : ps.length ≤ 9223372036854775807) (hT : IsParts g u ts) (hb' : ∀ q ∈ ts, q.length ≤ 8796093022208) (hl' : ts.length ≤ 9223372036854775807) (hTb : GTabs g) (hU8 : GU8 g) : Gives Tryz.prog 5 #[shV k v, shV m u] g L (.bool true) := by
  refine .of (Does.of2 Tryz.func5 rfl Tryz.ntmps5 rfl ?_)
  have LI := fun L => rLight9_gives k ps v 40 g L hS (by decide) hb hl
  have LJ := fun L => rLight9_gives m ts u 40 g L hT (by decide) hb' hl'
  obtain ⟨av, cv, rfl⟩ := parts_slice hS
  obtain ⟨au, cu, rfl⟩ := parts_slice hT
  cases hli : lightD 40 ps with
  | false =>
    rw [hli] at LI
    clear hS hb hT hTb hU8 LJ hb' hl hl'
    repeat' (first
    | refine wkQ ?_
    | refine wkV ?_
    | ((with_reducible apply TL.gives_plain); (· kernel_rfl); (· rfl); (· exact LI _); (· rfl)) | ((with_reducible apply TW.gives_plain); (· kernel_rfl); (· rfl); (· exact LI _); (· rfl))
    | refine stS ?_ | (refine stB ?_; intro _) | (refine stC ?_; refine And.intro (fun _ => ?_) (fun _ => ?_)))
    refine TQ.endR1 (L' := L) Tryz.results5 rvA rfl (.refl _) ?_ selF
    exact ⟨rfl, rfl, rfl⟩
  | true =>
  rw [hli] at LI
  cases hlj : lightD 40 ts with
  | false =>
    rw [hlj] at LJ
    clear hS hb hT hTb hU8 hb' hl hl'
    repeat' (first
    | refine wkQ ?_
    | refine wkV ?_
    | ((with_reducible apply TL.gives_plain); (· kernel_rfl); (· rfl); (· exact LI _); (· rfl)) | ((with_reducible apply TW.gives_plain); (· kernel_rfl); (· rfl); (· exact LI _); (· rfl))
    | ((with_reducible apply TL.gives_plain); (· kernel_rfl); (· rfl); (· exact LJ _); (· rfl)) | ((with_reducible apply TW.gives_plain); (· kernel_rfl); (· rfl); (· exact LJ _); (· rfl))
    | refine stS ?_ | (refine stB ?_; intro _) | (refine stC ?_; refine And.intro (fun _ => ?_) (fun _ => ?_)))
    refine TQ.endR1 (L' := L) Tryz.results5 rvA rfl (.refl _) ?_ selF
    exact ⟨rfl, rfl, rfl⟩
  | true =>
  rw [hlj] at LJ
  have hO := light_few (by decide) hli
  have hU := light_few (by decide) hlj
  have OF := fun g1 (h : g.le g1) L => of09_does k ps _ g1 L (hS.le h) hO.ok
  have OG := fun g1 (h : g.le g1) L => of09_does m ts _ g1 L (hT.le h) hU.ok
  have RI := fun L => rRight9_gives k ps _ g L hS hO.ok
  have RJ := fun L => rRight9_gives m ts _ g L hT hU.ok
  have AW := fun g1 (h : g.le g1) L => awake09_gives (L := L) (hTb.le h) (hU8.le h)
  have ME := fun g1 v1 v2 (h1 : IsParts g1 v1 ps) (h2 : IsParts g1 v2 ts) L => sMeet_gives k m ps ts v1 v2 g1 L h1 hO.ok h2 hU.ok
  have WI := fun g1 v1 v2 (h1 : IsParts g1 v1 ps) (h2 : IsParts g1 v2 ts) L => sWithin_gives k m ps ts v1 v2 g1 L h1 hO.ok h2 hU.ok
  have OF0 := fun L => OF g (.refl _) L
  have MDR := fun (h1 : rightB k ps = true) (h2 : rightB m ts = true) g1 (h : g.le g1) L => rMeet9_gives k m ps ts _ _ g1 L (hS.le h) hO (hT.le h) hU h1 h2
  have WDR := fun (h1 : rightB k ps = true) (h2 : rightB m ts = true) g1 (h : g.le g1) L => rWithin9_gives k m ps ts _ _ g1 L (hS.le h) hO (hT.le h) hU h1 h2
  clear hS hb hl hT hb' hl' hTb hU8 hli hlj
  cases hr : rightB k ps with
  | false =>
    rw [hr] at RI
    have e1 : meetX k ps m ts = false := by unfold meetX; rw [hr]; rfl
    have e2 : withinX k ps m ts = false := by unfold withinX; rw [hr]; rfl
    rw [e1] at ME
    rw [e2] at WI
    have MD0 := fun (g1 : Gh) (_ : g.le g1) => trivial
    have WD0 := fun (g1 : Gh) (_ : g.le g1) => trivial
    clear MDR WDR RJ
    repeat' (first
    | refine wkQ ?_
    | ((with_reducible apply TL.pure (d := 31) (v := .bool true)); (· exact Y.eqb_tr rfl rfl); (· rfl)) | ((with_reducible apply TW.pure (d := 31) (v := .bool true)); (· exact Y.eqb_tr rfl rfl); (· rfl))
    | refine wkV ?_
    | ((with_reducible apply TL.gives_plain); (· kernel_rfl); (· rfl); (· exact LI _); (· rfl)) | ((with_reducible apply TW.gives_plain); (· kernel_rfl); (· rfl); (· exact LI _); (· rfl))
    | ((with_reducible apply TL.gives_plain); (· kernel_rfl); (· rfl); (· exact LJ _); (· rfl)) | ((with_reducible apply TW.gives_plain); (· kernel_rfl); (· rfl); (· exact LJ _); (· rfl))
    | ((with_reducible apply TL.gives_plain); (· kernel_rfl); (· rfl); (· exact RI _); (· rfl)) | ((with_reducible apply TW.gives_plain); (· kernel_rfl); (· rfl); (· exact RI _); (· rfl))
    | (refine TL.call (Enters.plain (by kernel_rfl) (by rfl)) (by rfl) (OF0 _) ?_; (rintro e g1 Ln h1 ⟨v1, k1, k2, k3⟩; have k2 := k2.symm; subst k1; subst k2; (obtain ⟨a1, c1, rfl⟩ := parts_slice k3; have K1 := Hn.mk k3; have OG1 := OG g1 h1; clear k3 OF0); refine CallK.ret ?_))
    | (refine TL.call (Enters.plain (by kernel_rfl) (by rfl)) (by rfl) (OG1 _) ?_; (rintro e g2 Ln h2 ⟨v2, k1, k2, k3⟩; have k2 := k2.symm; subst k1; subst k2; (obtain ⟨a2, c2, rfl⟩ := parts_slice k3; have hg2 := h1.trans h2; have MX := ME g2 _ _ (K1.out.le h2) k3; have MD := MD0 g2 hg2; have OF2 := OF g2 hg2; clear k3 OG1); refine CallK.ret ?_))
    | (refine TL.call (Enters.plain (by kernel_rfl) (by rfl)) (by rfl) (OF2 _) ?_; (rintro e g3 Ln h3 ⟨v3, k1, k2, k3⟩; have k2 := k2.symm; subst k1; subst k2; (obtain ⟨a3, c3, rfl⟩ := parts_slice k3; have K3 := Hn.mk k3; have hg3 := hg2.trans h3; have OG3 := OG g3 hg3; clear k3 OF2); refine CallK.ret ?_))
    | (refine TL.call (Enters.plain (by kernel_rfl) (by rfl)) (by rfl) (OG3 _) ?_; (rintro e g4 Ln h4 ⟨v4, k1, k2, k3⟩; have k2 := k2.symm; subst k1; subst k2; (obtain ⟨a4, c4, rfl⟩ := parts_slice k3; have hg4 := hg3.trans h4; have WX := WI g4 _ _ (K3.out.le h4) k3; have WD := WD0 g4 hg4; have AW1 := AW g4 hg4; clear k3 OG3); refine CallK.ret ?_))
    | ((with_reducible apply TL.gives_plain); (· kernel_rfl); (· rfl); (· exact MX _); (· rfl)) | ((with_reducible apply TW.gives_plain); (· kernel_rfl); (· rfl); (· exact MX _); (· rfl))
    | ((with_reducible apply TL.gives_plain); (· kernel_rfl); (· rfl); (· exact WX _); (· rfl)) | ((with_reducible apply TW.gives_plain); (· kernel_rfl); (· rfl); (· exact WX _); (· rfl))
    | ((with_reducible apply TL.gives_plain); (· kernel_rfl); (· rfl); (· exact AW1 _); (· rfl)) | ((with_reducible apply TW.gives_plain); (· kernel_rfl); (· rfl); (· exact AW1 _); (· rfl))
    | refine stS ?_ | (refine stB ?_; intro _) | (refine stC ?_; refine And.intro (fun _ => ?_) (fun _ => ?_))
    | ((with_reducible apply TA.takeN 0); (· rfl); (· decide +kernel); (· rfl); (· first | exact Y.eqb_tr rfl rfl | (first | exact yQ | exact yA | exact yB | exact yM | exact yV)); (· decide +kernel); (· decide +kernel); (· rfl); (· exact fun _ _ _ h => h); (· rfl))
    | ((with_reducible apply TA.takeN 1); (· rfl); (· decide +kernel); (· rfl); (· first | exact Y.eqb_tr rfl rfl | (first | exact yQ | exact yA | exact yB | exact yM | exact yV)); (· decide +kernel); (· decide +kernel); (· rfl); (· exact fun _ _ _ h => h); (· rfl))
    | ((with_reducible apply TA.takeN 2); (· rfl); (· decide +kernel); (· rfl); (· first | exact Y.eqb_tr rfl rfl | (first | exact yQ | exact yA | exact yB | exact yM | exact yV)); (· decide +kernel); (· decide +kernel); (· rfl); (· exact fun _ _ _ h => h); (· rfl))
    | ((with_reducible apply TA.takeN 3); (· rfl); (· decide +kernel); (· rfl); (· first | exact Y.eqb_tr rfl rfl | (first | exact yQ | exact yA | exact yB | exact yM | exact yV)); (· decide +kernel); (· decide +kernel); (· rfl); (· exact fun _ _ _ h => h); (· rfl))
    | ((with_reducible apply TA.take_gN 0); (· rfl); (· decide +kernel); (· rfl); (· rfl); (· rfl); (· (first | exact Y.eqb_tr rfl rfl | (first | exact yQ | exact yA | exact yB | exact yM | exact yV))); (· decide +kernel); (· decide +kernel); (· rfl); (· exact fun _ _ _ h => h); (· rfl))
    | ((with_reducible apply TA.take_gN 1); (· rfl); (· decide +kernel); (· rfl); (· rfl); (· rfl); (· (first | exact Y.eqb_tr rfl rfl | (first | exact yQ | exact yA | exact yB | exact yM | exact yV))); (· decide +kernel); (· decide +kernel); (· rfl); (· exact fun _ _ _ h => h); (· rfl))
    | ((with_reducible apply TA.take_gN 2); (· rfl); (· decide +kernel); (· rfl); (· rfl); (· rfl); (· (first | exact Y.eqb_tr rfl rfl | (first | exact yQ | exact yA | exact yB | exact yM | exact yV))); (· decide +kernel); (· decide +kernel); (· rfl); (· exact fun _ _ _ h => h); (· rfl))
    | ((with_reducible apply TA.take_gN 3); (· rfl); (· decide +kernel); (· rfl); (· rfl); (· rfl); (· (first | exact Y.eqb_tr rfl rfl | (first | exact yQ | exact yA | exact yB | exact yM | exact yV))); (· decide +kernel); (· decide +kernel); (· rfl); (· exact fun _ _ _ h => h); (· rfl))
    | refine wkX0 ?_
    | refine wkX1 ?_
    | refine wkX2 ?_
    | refine wkX3 ?_
    | ((with_reducible apply TA.oneN 0); (· rfl); (· rfl); (· decide +kernel); (· rfl))
    | ((with_reducible apply TA.oneN 1); (· rfl); (· rfl); (· decide +kernel); (· rfl))
    | ((with_reducible apply TA.oneN 2); (· rfl); (· rfl); (· decide +kernel); (· rfl))
    | ((with_reducible apply TA.oneN 3); (· rfl); (· rfl); (· decide +kernel); (· rfl))
    | refine TQ.any leF selF ?_
    | refine TC.region_any 30 (_) (by kernel_rfl) rfl selF ?_ | refine TA.done (by decide +kernel) ?_ | refine TQ.any_panic ?_)
    refine TQ.less hg4 ?_
    refine TQ.endR1 (L' := L) Tryz.results5 rvA rfl (.refl _) ?_ selF
    exact ⟨rfl, rfl, rfl⟩
  | true =>
  rw [hr] at RI
  cases hs : rightB m ts with
  | false =>
    rw [hs] at RJ
    have e1 : meetX k ps m ts = false := by unfold meetX; rw [hr, hs]; rfl
    have e2 : withinX k ps m ts = false := by unfold withinX; rw [hr, hs]; rfl
    rw [e1] at ME
    rw [e2] at WI
    have MD0 := fun (g1 : Gh) (_ : g.le g1) => trivial
    have WD0 := fun (g1 : Gh) (_ : g.le g1) => trivial
    clear MDR WDR
    repeat' (first
    | refine wkQ ?_
    | refine wkV ?_
    | ((with_reducible apply TL.gives_plain); (· kernel_rfl); (· rfl); (· exact LI _); (· rfl)) | ((with_reducible apply TW.gives_plain); (· kernel_rfl); (· rfl); (· exact LI _); (· rfl))
    | ((with_reducible apply TL.gives_plain); (· kernel_rfl); (· rfl); (· exact LJ _); (· rfl)) | ((with_reducible apply TW.gives_plain); (· kernel_rfl); (· rfl); (· exact LJ _); (· rfl))
    | ((with_reducible apply TL.gives_plain); (· kernel_rfl); (· rfl); (· exact RI _); (· rfl)) | ((with_reducible apply TW.gives_plain); (· kernel_rfl); (· rfl); (· exact RI _); (· rfl))
    | ((with_reducible apply TL.gives_plain); (· kernel_rfl); (· rfl); (· exact RJ _); (· rfl)) | ((with_reducible apply TW.gives_plain); (· kernel_rfl); (· rfl); (· exact RJ _); (· rfl))
    | (refine TL.call (Enters.plain (by kernel_rfl) (by rfl)) (by rfl) (OF0 _) ?_; (rintro e g1 Ln h1 ⟨v1, k1, k2, k3⟩; have k2 := k2.symm; subst k1; subst k2; (obtain ⟨a1, c1, rfl⟩ := parts_slice k3; have K1 := Hn.mk k3; have OG1 := OG g1 h1; clear k3 OF0); refine CallK.ret ?_))
    | (refine TL.call (Enters.plain (by kernel_rfl) (by rfl)) (by rfl) (OG1 _) ?_; (rintro e g2 Ln h2 ⟨v2, k1, k2, k3⟩; have k2 := k2.symm; subst k1; subst k2; (obtain ⟨a2, c2, rfl⟩ := parts_slice k3; have hg2 := h1.trans h2; have MX := ME g2 _ _ (K1.out.le h2) k3; have MD := MD0 g2 hg2; have OF2 := OF g2 hg2; clear k3 OG1); refine CallK.ret ?_))
    | (refine TL.call (Enters.plain (by kernel_rfl) (by rfl)) (by rfl) (OF2 _) ?_; (rintro e g3 Ln h3 ⟨v3, k1, k2, k3⟩; have k2 := k2.symm; subst k1; subst k2; (obtain ⟨a3, c3, rfl⟩ := parts_slice k3; have K3 := Hn.mk k3; have hg3 := hg2.trans h3; have OG3 := OG g3 hg3; clear k3 OF2); refine CallK.ret ?_))
    | (refine TL.call (Enters.plain (by kernel_rfl) (by rfl)) (by rfl) (OG3 _) ?_; (rintro e g4 Ln h4 ⟨v4, k1, k2, k3⟩; have k2 := k2.symm; subst k1; subst k2; (obtain ⟨a4, c4, rfl⟩ := parts_slice k3; have hg4 := hg3.trans h4; have WX := WI g4 _ _ (K3.out.le h4) k3; have WD := WD0 g4 hg4; have AW1 := AW g4 hg4; clear k3 OG3); refine CallK.ret ?_))
    | ((with_reducible apply TL.gives_plain); (· kernel_rfl); (· rfl); (· exact MX _); (· rfl)) | ((with_reducible apply TW.gives_plain); (· kernel_rfl); (· rfl); (· exact MX _); (· rfl))
    | ((with_reducible apply TL.gives_plain); (· kernel_rfl); (· rfl); (· exact WX _); (· rfl)) | ((with_reducible apply TW.gives_plain); (· kernel_rfl); (· rfl); (· exact WX _); (· rfl))
    | ((with_reducible apply TL.gives_plain); (· kernel_rfl); (· rfl); (· exact AW1 _); (· rfl)) | ((with_reducible apply TW.gives_plain); (· kernel_rfl); (· rfl); (· exact AW1 _); (· rfl))
    | refine stS ?_ | (refine stB ?_; intro _) | (refine stC ?_; refine And.intro (fun _ => ?_) (fun _ => ?_))
    | ((with_reducible apply TA.takeN 0); (· rfl); (· decide +kernel); (· rfl); (· first | exact Y.eqb_tr rfl rfl | (first | exact yQ | exact yA | exact yB | exact yM | exact yV)); (· decide +kernel); (· decide +kernel); (· rfl); (· exact fun _ _ _ h => h); (· rfl))
    | ((with_reducible apply TA.takeN 1); (· rfl); (· decide +kernel); (· rfl); (· first | exact Y.eqb_tr rfl rfl | (first | exact yQ | exact yA | exact yB | exact yM | exact yV)); (· decide +kernel); (· decide +kernel); (· rfl); (· exact fun _ _ _ h => h); (· rfl))
    | ((with_reducible apply TA.takeN 2); (· rfl); (· decide +kernel); (· rfl); (· first | exact Y.eqb_tr rfl rfl | (first | exact yQ | exact yA | exact yB | exact yM | exact yV)); (· decide +kernel); (· decide +kernel); (· rfl); (· exact fun _ _ _ h => h); (· rfl))
    | ((with_reducible apply TA.takeN 3); (· rfl); (· decide +kernel); (· rfl); (· first | exact Y.eqb_tr rfl rfl | (first | exact yQ | exact yA | exact yB | exact yM | exact yV)); (· decide +kernel); (· decide +kernel); (· rfl); (· exact fun _ _ _ h => h); (· rfl))
    | ((with_reducible apply TA.take_gN 0); (· rfl); (· decide +kernel); (· rfl); (· rfl); (· rfl); (· (first | exact Y.eqb_tr rfl rfl | (first | exact yQ | exact yA | exact yB | exact yM | exact yV))); (· decide +kernel); (· decide +kernel); (· rfl); (· exact fun _ _ _ h => h); (· rfl))
    | ((with_reducible apply TA.take_gN 1); (· rfl); (· decide +kernel); (· rfl); (· rfl); (· rfl); (· (first | exact Y.eqb_tr rfl rfl | (first | exact yQ | exact yA | exact yB | exact yM | exact yV))); (· decide +kernel); (· decide +kernel); (· rfl); (· exact fun _ _ _ h => h); (· rfl))
    | ((with_reducible apply TA.take_gN 2); (· rfl); (· decide +kernel); (· rfl); (· rfl); (· rfl); (· (first | exact Y.eqb_tr rfl rfl | (first | exact yQ | exact yA | exact yB | exact yM | exact yV))); (· decide +kernel); (· decide +kernel); (· rfl); (· exact fun _ _ _ h => h); (· rfl))
    | ((with_reducible apply TA.take_gN 3); (· rfl); (· decide +kernel); (· rfl); (· rfl); (· rfl); (· (first | exact Y.eqb_tr rfl rfl | (first | exact yQ | exact yA | exact yB | exact yM | exact yV))); (· decide +kernel); (· decide +kernel); (· rfl); (· exact fun _ _ _ h => h); (· rfl))
    | refine wkX0 ?_
    | refine wkX1 ?_
    | refine wkX2 ?_
    | refine wkX3 ?_
    | ((with_reducible apply TA.oneN 0); (· rfl); (· rfl); (· decide +kernel); (· rfl))
    | ((with_reducible apply TA.oneN 1); (· rfl); (· rfl); (· decide +kernel); (· rfl))
    | ((with_reducible apply TA.oneN 2); (· rfl); (· rfl); (· decide +kernel); (· rfl))
    | ((with_reducible apply TA.oneN 3); (· rfl); (· rfl); (· decide +kernel); (· rfl))
    | refine TQ.any leF selF ?_
    | refine TC.region_any 30 (_) (by kernel_rfl) rfl selF ?_ | refine TA.done (by decide +kernel) ?_ | refine TQ.any_panic ?_)
    refine TQ.less hg4 ?_
    refine TQ.endR1 (L' := L) Tryz.results5 rvA rfl (.refl _) ?_ selF
    exact ⟨rfl, rfl, rfl⟩
  | true =>
    rw [hs] at RJ
    have MD0 := MDR hr hs
    have WD0 := WDR hr hs
    rw [meetD_eq hr hs] at MD0
    rw [withinD_eq hr hs] at WD0
    clear MDR WDR
    generalize meetX k ps m ts = z1 at *
    generalize withinX k ps m ts = z2 at *
    repeat' (first
    | refine wkQ ?_
    | refine wkV ?_
    | ((with_reducible apply TL.gives_plain); (· kernel_rfl); (· rfl); (· exact LI _); (· rfl)) | ((with_reducible apply TW.gives_plain); (· kernel_rfl); (· rfl); (· exact LI _); (· rfl))
    | ((with_reducible apply TL.gives_plain); (· kernel_rfl); (· rfl); (· exact LJ _); (· rfl)) | ((with_reducible apply TW.gives_plain); (· kernel_rfl); (· rfl); (· exact LJ _); (· rfl))
    | ((with_reducible apply TL.gives_plain); (· kernel_rfl); (· rfl); (· exact RI _); (· rfl)) | ((with_reducible apply TW.gives_plain); (· kernel_rfl); (· rfl); (· exact RI _); (· rfl))
    | ((with_reducible apply TL.gives_plain); (· kernel_rfl); (· rfl); (· exact RJ _); (· rfl)) | ((with_reducible apply TW.gives_plain); (· kernel_rfl); (· rfl); (· exact RJ _); (· rfl))
    | (refine TL.call (Enters.plain (by kernel_rfl) (by rfl)) (by rfl) (OF0 _) ?_; (rintro e g1 Ln h1 ⟨v1, k1, k2, k3⟩; have k2 := k2.symm; subst k1; subst k2; (obtain ⟨a1, c1, rfl⟩ := parts_slice k3; have K1 := Hn.mk k3; have OG1 := OG g1 h1; clear k3 OF0); refine CallK.ret ?_))
    | (refine TL.call (Enters.plain (by kernel_rfl) (by rfl)) (by rfl) (OG1 _) ?_; (rintro e g2 Ln h2 ⟨v2, k1, k2, k3⟩; have k2 := k2.symm; subst k1; subst k2; (obtain ⟨a2, c2, rfl⟩ := parts_slice k3; have hg2 := h1.trans h2; have MX := ME g2 _ _ (K1.out.le h2) k3; have MD := MD0 g2 hg2; have OF2 := OF g2 hg2; clear k3 OG1); refine CallK.ret ?_))
    | (refine TL.call (Enters.plain (by kernel_rfl) (by rfl)) (by rfl) (OF2 _) ?_; (rintro e g3 Ln h3 ⟨v3, k1, k2, k3⟩; have k2 := k2.symm; subst k1; subst k2; (obtain ⟨a3, c3, rfl⟩ := parts_slice k3; have K3 := Hn.mk k3; have hg3 := hg2.trans h3; have OG3 := OG g3 hg3; clear k3 OF2); refine CallK.ret ?_))
    | (refine TL.call (Enters.plain (by kernel_rfl) (by rfl)) (by rfl) (OG3 _) ?_; (rintro e g4 Ln h4 ⟨v4, k1, k2, k3⟩; have k2 := k2.symm; subst k1; subst k2; (obtain ⟨a4, c4, rfl⟩ := parts_slice k3; have hg4 := hg3.trans h4; have WX := WI g4 _ _ (K3.out.le h4) k3; have WD := WD0 g4 hg4; have AW1 := AW g4 hg4; clear k3 OG3); refine CallK.ret ?_))
    | ((with_reducible apply TL.gives_plain); (· kernel_rfl); (· rfl); (· exact MX _); (· rfl)) | ((with_reducible apply TW.gives_plain); (· kernel_rfl); (· rfl); (· exact MX _); (· rfl))
    | ((with_reducible apply TL.gives_plain); (· kernel_rfl); (· rfl); (· exact MD _); (· rfl)) | ((with_reducible apply TW.gives_plain); (· kernel_rfl); (· rfl); (· exact MD _); (· rfl))
    | ((with_reducible apply TL.gives_plain); (· kernel_rfl); (· rfl); (· exact WX _); (· rfl)) | ((with_reducible apply TW.gives_plain); (· kernel_rfl); (· rfl); (· exact WX _); (· rfl))
    | ((with_reducible apply TL.gives_plain); (· kernel_rfl); (· rfl); (· exact WD _); (· rfl)) | ((with_reducible apply TW.gives_plain); (· kernel_rfl); (· rfl); (· exact WD _); (· rfl))
    | ((with_reducible apply TL.gives_plain); (· kernel_rfl); (· rfl); (· exact AW1 _); (· rfl)) | ((with_reducible apply TW.gives_plain); (· kernel_rfl); (· rfl); (· exact AW1 _); (· rfl))
    | refine stS ?_ | (refine stB ?_; intro _) | (refine stC ?_; refine And.intro (fun _ => ?_) (fun _ => ?_))
    | ((with_reducible apply TA.takeN 0); (· rfl); (· decide +kernel); (· rfl); (· first | exact Y.eqb_tr rfl rfl | (first | exact yQ | exact yA | exact yB | exact yM | exact yV)); (· decide +kernel); (· decide +kernel); (· rfl); (· exact fun _ _ _ h => h); (· rfl))
    | ((with_reducible apply TA.takeN 1); (· rfl); (· decide +kernel); (· rfl); (· first | exact Y.eqb_tr rfl rfl | (first | exact yQ | exact yA | exact yB | exact yM | exact yV)); (· decide +kernel); (· decide +kernel); (· rfl); (· exact fun _ _ _ h => h); (· rfl))
    | ((with_reducible apply TA.takeN 2); (· rfl); (· decide +kernel); (· rfl); (· first | exact Y.eqb_tr rfl rfl | (first | exact yQ | exact yA | exact yB | exact yM | exact yV)); (· decide +kernel); (· decide +kernel); (· rfl); (· exact fun _ _ _ h => h); (· rfl))
    | ((with_reducible apply TA.takeN 3); (· rfl); (· decide +kernel); (· rfl); (· first | exact Y.eqb_tr rfl rfl | (first | exact yQ | exact yA | exact yB | exact yM | exact yV)); (· decide +kernel); (· decide +kernel); (· rfl); (· exact fun _ _ _ h => h); (· rfl))
    | ((with_reducible apply TA.take_gN 0); (· rfl); (· decide +kernel); (· rfl); (· rfl); (· rfl); (· (first | exact Y.eqb_tr rfl rfl | (first | exact yQ | exact yA | exact yB | exact yM | exact yV))); (· decide +kernel); (· decide +kernel); (· rfl); (· exact fun _ _ _ h => h); (· rfl))
    | ((with_reducible apply TA.take_gN 1); (· rfl); (· decide +kernel); (· rfl); (· rfl); (· rfl); (· (first | exact Y.eqb_tr rfl rfl | (first | exact yQ | exact yA | exact yB | exact yM | exact yV))); (· decide +kernel); (· decide +kernel); (· rfl); (· exact fun _ _ _ h => h); (· rfl))
    | ((with_reducible apply TA.take_gN 2); (· rfl); (· decide +kernel); (· rfl); (· rfl); (· rfl); (· (first | exact Y.eqb_tr rfl rfl | (first | exact yQ | exact yA | exact yB | exact yM | exact yV))); (· decide +kernel); (· decide +kernel); (· rfl); (· exact fun _ _ _ h => h); (· rfl))
    | ((with_reducible apply TA.take_gN 3); (· rfl); (· decide +kernel); (· rfl); (· rfl); (· rfl); (· (first | exact Y.eqb_tr rfl rfl | (first | exact yQ | exact yA | exact yB | exact yM | exact yV))); (· decide +kernel); (· decide +kernel); (· rfl); (· exact fun _ _ _ h => h); (· rfl))
    | refine wkX0 ?_
    | refine wkX1 ?_
    | refine wkX2 ?_
    | refine wkX3 ?_
    | ((with_reducible apply TA.oneN 0); (· rfl); (· rfl); (· decide +kernel); (· rfl))
    | ((with_reducible apply TA.oneN 1); (· rfl); (· rfl); (· decide +kernel); (· rfl))
    | ((with_reducible apply TA.oneN 2); (· rfl); (· rfl); (· decide +kernel); (· rfl))
    | ((with_reducible apply TA.oneN 3); (· rfl); (· rfl); (· decide +kernel); (· rfl))
    | refine TQ.any leF selF ?_
    | refine TC.region_any 30 (_) (by kernel_rfl) rfl selF ?_ | refine TA.done (by decide +kernel) ?_ | refine TQ.any_panic ?_)
    refine TQ.less hg4 ?_
    refine TQ.endR1 (L' := L) Tryz.results5 rvA rfl (.refl _) ?_ selF
    exact ⟨rfl, rfl, rfl⟩
end Go.Proofs.YtfanccddokckcaaGreatDoor
