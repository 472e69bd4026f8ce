/-
  The walk of the law ShapeTells.
-/
import Derived.Test.YtfanccddokckcaaGreatDoorSt2
import Derived.Test.YtfanccddokckcaaGreatDoorSt41
import Derived.Test.YtfanccddokckcaaGreatDoorSt45
namespace Go.Proofs.YtfanccddokckcaaGreatDoor
open Go.RowKit Go.TL
set_option maxRecDepth 100000

theorem sames_self {l : List J} (h : ∀ x ∈ l, sameJ x x = true) : sames l l = true := by
  induction l with
  | nil => rfl
  | cons x r ih =>
    rw [sames, h x (List.mem_cons_self ..), ih fun y hy => h y (List.mem_cons_of_mem _ hy)]; rfl
theorem same_list {l : List J} (h : ∀ x ∈ l, sameJ x x = true) : sameJ (.list l) (.list l) = true := by
  rw [sameJ, sames_self h]; simp
theorem same_pt (p : Pt) : sameJ (ptJ p) (ptJ p) = true := by
  unfold ptJ
  refine same_list fun x hx => ?_
  simp only [List.mem_cons, List.not_mem_nil, or_false] at hx
  rcases hx with rfl | rfl <;> (rw [sameJ]; simp)
theorem same_told (l : List Pt) : sameJ (toldJ l) (toldJ l) = true := by
  unfold toldJ
  refine same_list fun x hx => ?_
  obtain ⟨p, _, rfl⟩ := List.mem_map.1 hx
  exact same_pt p
theorem same_where (k : Int) (ps : List (List Pt)) : sameJ (whereJ k ps) (whereJ k ps) = true := by
  unfold whereJ
  split
  · exact same_pt _
  · split
    · exact same_told _
    · refine same_list fun x hx => ?_
      obtain ⟨q, _, rfl⟩ := List.mem_map.1 hx
      exact same_told _
theorem same_tell {k : Int} {ps : List (List Pt)} (h : rightB k ps = true) : SameJ (tellJ k ps) (tellJ k ps) = true := by
  unfold SameJ
  rw [look_tell h]
  unfold tellJ
  rw [sameJ, sameo, sameo, sameo, same_where, sameJ]
  · simp
  · intro m ms x r n ns y t h; cases h
theorem wfVs_all {l : List DV} (h : ∀ x ∈ l, wfV x) : wfVs l := by
  induction l with
  | nil => rw [wfVs]; trivial
  | cons x r ih =>
    rw [wfVs]
    exact ⟨h x (List.mem_cons_self ..), ih fun y hy => h y (List.mem_cons_of_mem _ hy)⟩
theorem wf_num (n : Int) : wfV (numD n) := by
  unfold numD
  rw [wfV]
  exact ⟨by simp, by simp, fun h => absurd h (by decide), fun h => absurd h (by decide)⟩
theorem wf_pt (p : Pt) : wfV (ptD p) := by
  unfold ptD
  rw [wfV]
  exact ⟨by simp, by simp, fun h => absurd h (by decide), fun _ => wfVs_all fun x hx => by
    simp only [List.mem_cons, List.not_mem_nil, or_false] at hx
    rcases hx with rfl | rfl <;> exact wf_num _⟩
theorem wf_told {l : List Pt} (h : l.length ≤ 100000) : wfV (toldD l) := by
  unfold toldD
  rw [wfV]
  exact ⟨by simp, by rw [List.length_map]; exact h, fun h => absurd h (by decide), fun _ => wfVs_all fun x hx => by
    obtain ⟨p, _, rfl⟩ := List.mem_map.1 hx
    exact wf_pt p⟩
theorem wf_tell {k : Int} {ps : List (List Pt)} (_hl : ps.length ≤ 1000) (hs : ∀ q ∈ ps, q.length ≤ 10000) : wfV (tellD k ps) := by
  have hk := kindN_len k
  have hw : wfV (whereD k ps) := by
    unfold whereD
    split
    · exact wf_pt _
    · split
      · cases ps with
        | nil => exact wf_told (by simp)
        | cons q r => exact wf_told (by have := hs q (List.mem_cons_self ..); show q.length ≤ 100000; omega)
      · rw [wfV]
        exact ⟨by simp, by rw [List.length_map]; omega, fun h => absurd h (by decide), fun _ => wfVs_all fun x hx => by
          obtain ⟨q, hq, rfl⟩ := List.mem_map.1 hx
          refine wf_told ?_
          have := hs q hq
          rw [List.length_append, List.length_singleton]
          omega⟩
  unfold tellD
  rw [wfV]
  refine ⟨by simp, by simp, fun _ => ⟨rfl, fun x hx => ?_⟩, fun _ => wfVs_all fun x hx => ?_⟩
  · simp only [List.mem_cons, List.not_mem_nil, or_false] at hx
    rcases hx with rfl | rfl <;> decide
  · simp only [List.mem_cons, List.not_mem_nil, or_false] at hx
    rcases hx with rfl | rfl
    · rw [wfV]
      exact ⟨by omega, by simp, fun h => absurd h (by decide), fun h => absurd h (by decide)⟩
    · exact hw
set_option maxHeartbeats 64000000 in
theorem lawShapeTells (k : Int) (ps : List (List Pt)) (v : Value) (p : Pt) (g : Gh) (L : List Ent) (hS : IsParts g v ps) (hb : ∀ q ∈ ps, q.length ≤ 8796093022208) (hl : ps.length ≤ 9223372036854775807) (hT : GTabs g) (hU : GU8 g) : Gives Tryz.prog 8 #[shV k v, pt p] g L (.bool true) := by
  refine .of (Does.of2 Tryz.func8 rfl Tryz.ntmps8 rfl ?_)
  have LI := fun L => rLight9_gives k ps v 60 g L hS (by decide) hb hl
  obtain ⟨av, cv, rfl⟩ := parts_slice hS
  cases hli : lightD 60 ps with
  | false =>
    rw [hli] at LI
    clear hS hb hT hU
    repeat' (first
    | refine wkQ ?_
    | refine wkV ?_
    | ((with_reducible apply TL.gives_plain); (· kernel_rfl); (· rfl); (· exact LI _); (· rfl)) | ((with_reducible apply TW.gives_plain); (· kernel_rfl); (· rfl); (· exact LI _); (· rfl))
    | refine stS ?_ | (refine stB ?_; intro _) | (refine stC ?_; refine And.intro (fun _ => ?_) (fun _ => ?_)))
    refine TQ.endR1 (L' := L) Tryz.results8 rvA rfl (.refl _) ?_ selF
    exact ⟨rfl, rfl, rfl⟩
  | true =>
  rw [hli] at LI
  have hO := light_few (by decide) hli
  have hsm0 := light_small (by decide) hli
  have hlen : ps.length ≤ 1000 := by
    unfold lightD at hli
    rw [Bool.and_eq_true, decide_eq_true_eq, decide_eq_true_eq] at hli
    omega
  have hsm := sm_tell (k := k) hO hsm0
  have hwf := wf_tell (k := k) hlen hsm0
  have OF := fun L => of09_does k ps _ g L hS hO.ok
  have TE := fun g1 v1 (h : IsParts g1 v1 ps) L => stell_does k ps v1 g1 L h hO.ok
  have RI := fun g1 (h : g.le g1) L => rRight9_gives k ps _ g1 L (hS.le h) hO.ok
  have AW := fun g1 (h : g.le g1) L => awake09_gives (L := L) (hT.le h) (hU.le h)
  have BX := fun g1 v1 (h : IsParts g1 v1 ps) L => sBox_gives k ps v1 g1 L h hO.ok
  have IN := fun g1 v1 (h : IsParts g1 v1 ps) L => sIn_gives k ps v1 p g1 L h hO.ok
  have ME := fun g1 v1 (h : IsParts g1 v1 ps) L => sMeet_gives k k ps ps v1 v1 g1 L h hO.ok h hO.ok
  have WI := fun g1 v1 (h : IsParts g1 v1 ps) L => sWithin_gives k k ps ps v1 v1 g1 L h hO.ok h hO.ok
  unfold TellR at TE
  cases hr : rightB k ps with
  | false =>
    rw [hr] at TE RI
    have e1 : boxX k ps = ⟨0, 0, 0, 0⟩ := by unfold boxX; rw [hr]; rfl
    have e2 : inX k ps p = false := by unfold inX; rw [hr]; rfl
    have e3 : meetX k ps k ps = false := by unfold meetX; rw [hr]; rfl
    have e4 : withinX k ps k ps = false := by unfold withinX; rw [hr]; rfl
    rw [e1] at BX
    rw [e2] at IN
    rw [e3] at ME
    rw [e4] at WI
    dsimp only at TE
    have bz : decide ((⟨0, 0, 0, 0⟩ : Rc) = ⟨0, 0, 0, 0⟩) = true := decide_eq_true rfl
    clear hS hb hl hT hU hsm hli hsm0 hlen hwf hO
    repeat' (first
    | refine wkQ ?_
    | ((with_reducible apply TL.pure (d := 24) (v := .bool true)); (· exact Y.eql_rc bz rfl rfl); (· rfl)) | ((with_reducible apply TW.pure (d := 24) (v := .bool true)); (· exact Y.eql_rc bz rfl rfl); (· rfl))
    | refine wkV ?_
    | ((with_reducible apply TL.gives_plain); (· kernel_rfl); (· rfl); (· exact LI _); (· rfl)) | ((with_reducible apply TW.gives_plain); (· kernel_rfl); (· rfl); (· exact LI _); (· rfl))
    | (refine TL.call (Enters.plain (by kernel_rfl) (by rfl)) (by rfl) (OF _) ?_; (rintro e g1 Ln h1 ⟨vq, k1, k2, k3⟩; have k2 := k2.symm; subst k1; subst k2; (obtain ⟨aq, cq, rfl⟩ := parts_slice k3; have KQ := Hn.mk k3; have TE1 := TE g1 _ k3; clear k3 TE OF; have hg1 := h1); refine CallK.ret ?_))
    | (refine TL.call (Enters.plain (by kernel_rfl) (by rfl)) (by rfl) (TE1 _) ?_; (rintro e g2 Ln h2 ⟨vt, k1, k2, k3⟩; have k2 := k2.symm; subst k1; subst k2; subst k3; have hg2 := hg1.trans h2; have RI1 := RI g2 hg2; have AW1 := AW g2 hg2; have KQ2 := KQ.out.le h2; have BX1 := BX g2 _ KQ2; have IN1 := IN g2 _ KQ2; have ME1 := ME g2 _ KQ2; have WI1 := WI g2 _ KQ2; clear TE1; refine CallK.ret ?_))
    | ((with_reducible apply TL.gives_plain); (· kernel_rfl); (· rfl); (· exact RI1 _); (· rfl)) | ((with_reducible apply TW.gives_plain); (· kernel_rfl); (· rfl); (· exact RI1 _); (· rfl))
    | ((with_reducible apply TL.gives_plain); (· kernel_rfl); (· rfl); (· exact BX1 _); (· rfl)) | ((with_reducible apply TW.gives_plain); (· kernel_rfl); (· rfl); (· exact BX1 _); (· rfl))
    | ((with_reducible apply TL.gives_plain); (· kernel_rfl); (· rfl); (· exact IN1 _); (· rfl)) | ((with_reducible apply TW.gives_plain); (· kernel_rfl); (· rfl); (· exact IN1 _); (· rfl))
    | ((with_reducible apply TL.gives_plain); (· kernel_rfl); (· rfl); (· exact ME1 _); (· rfl)) | ((with_reducible apply TW.gives_plain); (· kernel_rfl); (· rfl); (· exact ME1 _); (· rfl))
    | ((with_reducible apply TL.gives_plain); (· kernel_rfl); (· rfl); (· exact WI1 _); (· rfl)) | ((with_reducible apply TW.gives_plain); (· kernel_rfl); (· rfl); (· exact WI1 _); (· rfl))
    | ((with_reducible apply TL.gives_plain); (· kernel_rfl); (· rfl); (· exact AW1 _); (· rfl)) | ((with_reducible apply TW.gives_plain); (· kernel_rfl); (· rfl); (· exact AW1 _); (· rfl))
    | refine stS ?_ | (refine stB ?_; intro _) | (refine stC ?_; refine And.intro (fun _ => ?_) (fun _ => ?_)))
    refine TQ.less hg2 ?_
    refine TQ.endR1 (L' := L) Tryz.results8 rvA rfl (.refl _) ?_ selF
    exact ⟨rfl, rfl, rfl⟩
  | true =>
    rw [hr] at TE RI
    dsimp only at TE
    have hp := rtP_of hr
    have RT := fun g1 (h : g.le g1) L => rTell9_does k ps _ g1 L (hS.le h) hO.ok hsm0 hr
    have TO := fun g1 cs (h : IsV g1 (tellD k ps) cs) L => told09_makes _ (tellD k ps) (Nat.le_refl _) cs g1 L h hwf
    rw [toJ_tell] at TO
    have SM := fun g1 (h : g.le g1) v1 v2 (h1 : IsJ g1 (tellJ k ps) v1) (h2 : IsJ g1 (tellJ k ps) v2) L => Same_gives (tellJ k ps) (tellJ k ps) v1 v2 g1 L h1 h2 hsm hsm (hT.le h) (hU.le h)
    rw [same_tell hr] at SM
    have BD := fun g1 (h : g.le g1) L => rBox9_gives k ps _ g1 L (hS.le h) hO.ok hp.ne hp.nep
    rw [boxD_eq hp.nep, ← box_of hr] at BD
    have ID := fun (hp' : mayB p = true) g1 (h : g.le g1) L => rIn9_gives k ps _ p g1 L (hS.le h) hO hp.may hp'
    have e2 : inX k ps p = (mayB p && inSh k ps p) := by unfold inX; rw [hr, Bool.true_and]
    have e3 : mayB p = true → inD k ps p = inSh k ps p := fun h => inD_eq hp.may h
    rw [e2] at IN
    unfold TellDR at RT
    have bj : decide (boxX k ps = boxX k ps) = true := decide_eq_true rfl
    have hmb : mayB p = ((decide ((-1800000000 : Int) ≤ p.1) && decide (p.1 ≤ (1800000000 : Int))) && (decide ((-900000000 : Int) ≤ p.2) && decide (p.2 ≤ (900000000 : Int)))) := rfl
    clear hS hb hl hT hU hsm hli hsm0 hlen hwf hO hp ME WI
    generalize boxX k ps = rb at *
    obtain ⟨b1, c1⟩ : ∃ b, decide ((-1800000000 : Int) ≤ p.1) = b := ⟨_, rfl⟩
    obtain ⟨b2, c2⟩ : ∃ b, decide (p.1 ≤ (1800000000 : Int)) = b := ⟨_, rfl⟩
    obtain ⟨b3, c3⟩ : ∃ b, decide ((-900000000 : Int) ≤ p.2) = b := ⟨_, rfl⟩
    obtain ⟨b4, c4⟩ : ∃ b, decide (p.2 ≤ (900000000 : Int)) = b := ⟨_, rfl⟩
    have h5 : (b1 = true ∧ b2 = true ∧ b3 = true ∧ b4 = true) ∨ (mayB p = false ∧ (b1 = false ∨ (b1 = true ∧ b2 = false) ∨ (b1 = true ∧ b2 = true ∧ b3 = false) ∨ (b1 = true ∧ b2 = true ∧ b3 = true ∧ b4 = false))) := by
      rw [hmb, c1, c2, c3, c4]
      cases b1 <;> cases b2 <;> cases b3 <;> cases b4 <;> simp
    rcases h5 with ⟨rfl, rfl, rfl, rfl⟩ | ⟨hm, h5⟩
    · have hm : mayB p = true := by rw [hmb, c1, c2, c3, c4]; rfl
      have ID := ID hm
      rw [e3 hm] at ID
      rw [hm, Bool.true_and] at IN
      clear e3 hmb
      generalize inSh k ps p = zi at *
      repeat' (first
    | refine wkQ ?_
    | ((with_reducible apply TL.pure (d := 49) (v := .bool true)); (· exact Y.geq_b c1 rfl rfl); (· rfl)) | ((with_reducible apply TW.pure (d := 49) (v := .bool true)); (· exact Y.geq_b c1 rfl rfl); (· rfl))
    | ((with_reducible apply TL.pure (d := 53) (v := .bool true)); (· exact Y.leqB c2 rfl rfl); (· rfl)) | ((with_reducible apply TW.pure (d := 53) (v := .bool true)); (· exact Y.leqB c2 rfl rfl); (· rfl))
    | ((with_reducible apply TL.pure (d := 58) (v := .bool true)); (· exact Y.geq_b c3 rfl rfl); (· rfl)) | ((with_reducible apply TW.pure (d := 58) (v := .bool true)); (· exact Y.geq_b c3 rfl rfl); (· rfl))
    | ((with_reducible apply TL.pure (d := 63) (v := .bool true)); (· exact Y.leqB c4 rfl rfl); (· rfl)) | ((with_reducible apply TW.pure (d := 63) (v := .bool true)); (· exact Y.leqB c4 rfl rfl); (· rfl))
    | refine wkV ?_
    | ((with_reducible apply TL.gives_plain); (· kernel_rfl); (· rfl); (· exact LI _); (· rfl)) | ((with_reducible apply TW.gives_plain); (· kernel_rfl); (· rfl); (· exact LI _); (· rfl))
    | (refine TL.call (Enters.plain (by kernel_rfl) (by rfl)) (by rfl) (OF _) ?_; (rintro e g1 Ln h1 ⟨vq, k1, k2, k3⟩; have k2 := k2.symm; subst k1; subst k2; (obtain ⟨aq, cq, rfl⟩ := parts_slice k3; have KQ := Hn.mk k3; have TE1 := TE g1 _ k3; clear k3 TE OF; have hg1 := h1); refine CallK.ret ?_))
    | (refine TL.call (Enters.plain (by kernel_rfl) (by rfl)) (by rfl) (TE1 _) ?_; (rintro e g2 Ln h2 ⟨vt, k1, k2, k3⟩; have k2 := k2.symm; subst k1; subst k2; have hg2 := hg1.trans h2; have RI1 := RI g2 hg2; have RT1 := RT g2 hg2; have K3 := Hn.mk k3; unfold tellJ at k3; rw [IsJ] at k3; obtain ⟨st, ft, rfl, _, _⟩ := k3; clear TE1 RT; refine CallK.ret ?_))
    | ((with_reducible apply TL.gives_plain); (· kernel_rfl); (· rfl); (· exact RI1 _); (· rfl)) | ((with_reducible apply TW.gives_plain); (· kernel_rfl); (· rfl); (· exact RI1 _); (· rfl))
    | (refine TL.call (Enters.plain (by kernel_rfl) (by rfl)) (by rfl) (RT1 _) ?_; (rintro e g3 Ln h3 ⟨cs, k1, k2, k3⟩; have k2 := k2.symm; subst k1; subst k2; have hg3 := hg2.trans h3; have TO1 := TO g3 cs k3; obtain ⟨_, _, _, _, _, _, _, _, _, _, rfl⟩ := IsV.form k3; clear RT1 TO k3; refine CallK.ret ?_))
    | (refine TL.makes (Enters.plain (by kernel_rfl) (by rfl)) (TO1 _) (by rfl) ?_; (rintro vj g4 h4 hj; have hoj := IsJ.one hj; have hg4 := hg3.trans h4; have h24 := h3.trans h4; have SM1 := SM g4 hg4 _ vj (K3.out.le (h3.trans h4) _ _) hj; have KQ2 := KQ.out.le (h2.trans (h3.trans h4)); have BX1 := BX g4 _ KQ2; have BD1 := BD g4 hg4; have IN1 := IN g4 _ KQ2; have AW1 := AW g4 hg4; have ID1 := ID g4 hg4; clear TO1 SM hj))
    | ((with_reducible apply TL.gives_plain); (· kernel_rfl); (· rfl); (· exact SM1 _); (· rfl)) | ((with_reducible apply TW.gives_plain); (· kernel_rfl); (· rfl); (· exact SM1 _); (· rfl))
    | ((with_reducible apply TL.gives_plain); (· kernel_rfl); (· rfl); (· exact BX1 _); (· rfl)) | ((with_reducible apply TW.gives_plain); (· kernel_rfl); (· rfl); (· exact BX1 _); (· rfl))
    | ((with_reducible apply TL.gives_plain); (· kernel_rfl); (· rfl); (· exact BD1 _); (· rfl)) | ((with_reducible apply TW.gives_plain); (· kernel_rfl); (· rfl); (· exact BD1 _); (· rfl))
    | ((with_reducible apply TL.gives_plain); (· kernel_rfl); (· rfl); (· exact IN1 _); (· rfl)) | ((with_reducible apply TW.gives_plain); (· kernel_rfl); (· rfl); (· exact IN1 _); (· rfl))
    | ((with_reducible apply TL.gives_plain); (· kernel_rfl); (· rfl); (· exact ID1 _); (· rfl)) | ((with_reducible apply TW.gives_plain); (· kernel_rfl); (· rfl); (· exact ID1 _); (· rfl))
    | ((with_reducible apply TL.gives_plain); (· kernel_rfl); (· rfl); (· exact AW1 _); (· rfl)) | ((with_reducible apply TW.gives_plain); (· kernel_rfl); (· rfl); (· exact AW1 _); (· rfl))
    | refine stS ?_ | (refine stB ?_; intro _) | (refine stC ?_; refine And.intro (fun _ => ?_) (fun _ => ?_))
    | ((with_reducible apply TA.takeN 0); (· rfl); (· decide +kernel); (· rfl); (· first | first | exact Y.eql_rc bj rfl rfl | exact Y.eqb_tr rfl rfl | (first | exact yQ | exact yA | exact yB | exact yM | exact yV)); (· decide +kernel); (· decide +kernel); (· rfl); (· exact fun _ _ _ h => h); (· rfl))
    | ((with_reducible apply TA.takeN 1); (· rfl); (· decide +kernel); (· rfl); (· first | first | exact Y.eql_rc bj rfl rfl | exact Y.eqb_tr rfl rfl | (first | exact yQ | exact yA | exact yB | exact yM | exact yV)); (· decide +kernel); (· decide +kernel); (· rfl); (· exact fun _ _ _ h => h); (· rfl))
    | ((with_reducible apply TA.takeN 2); (· rfl); (· decide +kernel); (· rfl); (· first | first | exact Y.eql_rc bj rfl rfl | exact Y.eqb_tr rfl rfl | (first | exact yQ | exact yA | exact yB | exact yM | exact yV)); (· decide +kernel); (· decide +kernel); (· rfl); (· exact fun _ _ _ h => h); (· rfl))
    | ((with_reducible apply TA.takeN 3); (· rfl); (· decide +kernel); (· rfl); (· first | first | exact Y.eql_rc bj rfl rfl | exact Y.eqb_tr rfl rfl | (first | exact yQ | exact yA | exact yB | exact yM | exact yV)); (· decide +kernel); (· decide +kernel); (· rfl); (· exact fun _ _ _ h => h); (· rfl))
    | ((with_reducible apply TA.take_gN 0); (· rfl); (· decide +kernel); (· rfl); (· rfl); (· rfl); (· (first | first | exact Y.eql_rc bj rfl rfl | exact Y.eqb_tr rfl rfl | (first | exact yQ | exact yA | exact yB | exact yM | exact yV))); (· decide +kernel); (· decide +kernel); (· rfl); (· exact fun _ _ _ h => h); (· rfl))
    | ((with_reducible apply TA.take_gN 1); (· rfl); (· decide +kernel); (· rfl); (· rfl); (· rfl); (· (first | first | exact Y.eql_rc bj rfl rfl | exact Y.eqb_tr rfl rfl | (first | exact yQ | exact yA | exact yB | exact yM | exact yV))); (· decide +kernel); (· decide +kernel); (· rfl); (· exact fun _ _ _ h => h); (· rfl))
    | ((with_reducible apply TA.take_gN 2); (· rfl); (· decide +kernel); (· rfl); (· rfl); (· rfl); (· (first | first | exact Y.eql_rc bj rfl rfl | exact Y.eqb_tr rfl rfl | (first | exact yQ | exact yA | exact yB | exact yM | exact yV))); (· decide +kernel); (· decide +kernel); (· rfl); (· exact fun _ _ _ h => h); (· rfl))
    | ((with_reducible apply TA.take_gN 3); (· rfl); (· decide +kernel); (· rfl); (· rfl); (· rfl); (· (first | first | exact Y.eql_rc bj rfl rfl | exact Y.eqb_tr rfl rfl | (first | exact yQ | exact yA | exact yB | exact yM | exact yV))); (· decide +kernel); (· decide +kernel); (· rfl); (· exact fun _ _ _ h => h); (· rfl))
    | refine wkX0 ?_
    | refine wkX1 ?_
    | refine wkX2 ?_
    | refine wkX3 ?_
    | ((with_reducible apply TA.oneN 0); (· rfl); (· rfl); (· decide +kernel); (· rfl))
    | ((with_reducible apply TA.oneN 1); (· rfl); (· rfl); (· decide +kernel); (· rfl))
    | ((with_reducible apply TA.oneN 2); (· rfl); (· rfl); (· decide +kernel); (· rfl))
    | ((with_reducible apply TA.oneN 3); (· rfl); (· rfl); (· decide +kernel); (· rfl))
    | refine TQ.any leF selF ?_
    | refine TC.region_any 28 (_) (by kernel_rfl) rfl selF ?_ | refine TA.done (by decide +kernel) ?_ | refine TQ.any_panic ?_)
      refine TQ.less hg4 ?_
      refine TQ.endR1 (L' := L) Tryz.results8 rvA rfl (.refl _) ?_ selF
      exact ⟨rfl, rfl, rfl⟩
    · rw [hm, Bool.false_and] at IN
      clear ID e3 hmb
      rcases h5 with rfl | ⟨rfl, rfl⟩ | ⟨rfl, rfl, rfl⟩ | ⟨rfl, rfl, rfl, rfl⟩
      all_goals
        repeat' (first
    | refine wkQ ?_
    | ((with_reducible apply TL.pure (d := 49) (v := .bool _)); (· exact Y.geq_b c1 rfl rfl); (· rfl)) | ((with_reducible apply TW.pure (d := 49) (v := .bool _)); (· exact Y.geq_b c1 rfl rfl); (· rfl))
    | ((with_reducible apply TL.pure (d := 53) (v := .bool _)); (· exact Y.leqB c2 rfl rfl); (· rfl)) | ((with_reducible apply TW.pure (d := 53) (v := .bool _)); (· exact Y.leqB c2 rfl rfl); (· rfl))
    | ((with_reducible apply TL.pure (d := 58) (v := .bool _)); (· exact Y.geq_b c3 rfl rfl); (· rfl)) | ((with_reducible apply TW.pure (d := 58) (v := .bool _)); (· exact Y.geq_b c3 rfl rfl); (· rfl))
    | ((with_reducible apply TL.pure (d := 63) (v := .bool _)); (· exact Y.leqB c4 rfl rfl); (· rfl)) | ((with_reducible apply TW.pure (d := 63) (v := .bool _)); (· exact Y.leqB c4 rfl rfl); (· rfl))
    | refine wkV ?_
    | ((with_reducible apply TL.gives_plain); (· kernel_rfl); (· rfl); (· exact LI _); (· rfl)) | ((with_reducible apply TW.gives_plain); (· kernel_rfl); (· rfl); (· exact LI _); (· rfl))
    | (refine TL.call (Enters.plain (by kernel_rfl) (by rfl)) (by rfl) (OF _) ?_; (rintro e g1 Ln h1 ⟨vq, k1, k2, k3⟩; have k2 := k2.symm; subst k1; subst k2; (obtain ⟨aq, cq, rfl⟩ := parts_slice k3; have KQ := Hn.mk k3; have TE1 := TE g1 _ k3; clear k3 TE OF; have hg1 := h1); refine CallK.ret ?_))
    | (refine TL.call (Enters.plain (by kernel_rfl) (by rfl)) (by rfl) (TE1 _) ?_; (rintro e g2 Ln h2 ⟨vt, k1, k2, k3⟩; have k2 := k2.symm; subst k1; subst k2; have hg2 := hg1.trans h2; have RI1 := RI g2 hg2; have RT1 := RT g2 hg2; have K3 := Hn.mk k3; unfold tellJ at k3; rw [IsJ] at k3; obtain ⟨st, ft, rfl, _, _⟩ := k3; clear TE1 RT; refine CallK.ret ?_))
    | ((with_reducible apply TL.gives_plain); (· kernel_rfl); (· rfl); (· exact RI1 _); (· rfl)) | ((with_reducible apply TW.gives_plain); (· kernel_rfl); (· rfl); (· exact RI1 _); (· rfl))
    | (refine TL.call (Enters.plain (by kernel_rfl) (by rfl)) (by rfl) (RT1 _) ?_; (rintro e g3 Ln h3 ⟨cs, k1, k2, k3⟩; have k2 := k2.symm; subst k1; subst k2; have hg3 := hg2.trans h3; have TO1 := TO g3 cs k3; obtain ⟨_, _, _, _, _, _, _, _, _, _, rfl⟩ := IsV.form k3; clear RT1 TO k3; refine CallK.ret ?_))
    | (refine TL.makes (Enters.plain (by kernel_rfl) (by rfl)) (TO1 _) (by rfl) ?_; (rintro vj g4 h4 hj; have hoj := IsJ.one hj; have hg4 := hg3.trans h4; have h24 := h3.trans h4; have SM1 := SM g4 hg4 _ vj (K3.out.le (h3.trans h4) _ _) hj; have KQ2 := KQ.out.le (h2.trans (h3.trans h4)); have BX1 := BX g4 _ KQ2; have BD1 := BD g4 hg4; have IN1 := IN g4 _ KQ2; have AW1 := AW g4 hg4; skip; clear TO1 SM hj))
    | ((with_reducible apply TL.gives_plain); (· kernel_rfl); (· rfl); (· exact SM1 _); (· rfl)) | ((with_reducible apply TW.gives_plain); (· kernel_rfl); (· rfl); (· exact SM1 _); (· rfl))
    | ((with_reducible apply TL.gives_plain); (· kernel_rfl); (· rfl); (· exact BX1 _); (· rfl)) | ((with_reducible apply TW.gives_plain); (· kernel_rfl); (· rfl); (· exact BX1 _); (· rfl))
    | ((with_reducible apply TL.gives_plain); (· kernel_rfl); (· rfl); (· exact BD1 _); (· rfl)) | ((with_reducible apply TW.gives_plain); (· kernel_rfl); (· rfl); (· exact BD1 _); (· rfl))
    | ((with_reducible apply TL.gives_plain); (· kernel_rfl); (· rfl); (· exact IN1 _); (· rfl)) | ((with_reducible apply TW.gives_plain); (· kernel_rfl); (· rfl); (· exact IN1 _); (· rfl))
    | ((with_reducible apply TL.gives_plain); (· kernel_rfl); (· rfl); (· exact AW1 _); (· rfl)) | ((with_reducible apply TW.gives_plain); (· kernel_rfl); (· rfl); (· exact AW1 _); (· rfl))
    | refine stS ?_ | (refine stB ?_; intro _) | (refine stC ?_; refine And.intro (fun _ => ?_) (fun _ => ?_))
    | ((with_reducible apply TA.takeN 0); (· rfl); (· decide +kernel); (· rfl); (· first | first | exact Y.eql_rc bj rfl rfl | exact Y.eqb_tr rfl rfl | (first | exact yQ | exact yA | exact yB | exact yM | exact yV)); (· decide +kernel); (· decide +kernel); (· rfl); (· exact fun _ _ _ h => h); (· rfl))
    | ((with_reducible apply TA.takeN 1); (· rfl); (· decide +kernel); (· rfl); (· first | first | exact Y.eql_rc bj rfl rfl | exact Y.eqb_tr rfl rfl | (first | exact yQ | exact yA | exact yB | exact yM | exact yV)); (· decide +kernel); (· decide +kernel); (· rfl); (· exact fun _ _ _ h => h); (· rfl))
    | ((with_reducible apply TA.takeN 2); (· rfl); (· decide +kernel); (· rfl); (· first | first | exact Y.eql_rc bj rfl rfl | exact Y.eqb_tr rfl rfl | (first | exact yQ | exact yA | exact yB | exact yM | exact yV)); (· decide +kernel); (· decide +kernel); (· rfl); (· exact fun _ _ _ h => h); (· rfl))
    | ((with_reducible apply TA.takeN 3); (· rfl); (· decide +kernel); (· rfl); (· first | first | exact Y.eql_rc bj rfl rfl | exact Y.eqb_tr rfl rfl | (first | exact yQ | exact yA | exact yB | exact yM | exact yV)); (· decide +kernel); (· decide +kernel); (· rfl); (· exact fun _ _ _ h => h); (· rfl))
    | ((with_reducible apply TA.take_gN 0); (· rfl); (· decide +kernel); (· rfl); (· rfl); (· rfl); (· (first | first | exact Y.eql_rc bj rfl rfl | exact Y.eqb_tr rfl rfl | (first | exact yQ | exact yA | exact yB | exact yM | exact yV))); (· decide +kernel); (· decide +kernel); (· rfl); (· exact fun _ _ _ h => h); (· rfl))
    | ((with_reducible apply TA.take_gN 1); (· rfl); (· decide +kernel); (· rfl); (· rfl); (· rfl); (· (first | first | exact Y.eql_rc bj rfl rfl | exact Y.eqb_tr rfl rfl | (first | exact yQ | exact yA | exact yB | exact yM | exact yV))); (· decide +kernel); (· decide +kernel); (· rfl); (· exact fun _ _ _ h => h); (· rfl))
    | ((with_reducible apply TA.take_gN 2); (· rfl); (· decide +kernel); (· rfl); (· rfl); (· rfl); (· (first | first | exact Y.eql_rc bj rfl rfl | exact Y.eqb_tr rfl rfl | (first | exact yQ | exact yA | exact yB | exact yM | exact yV))); (· decide +kernel); (· decide +kernel); (· rfl); (· exact fun _ _ _ h => h); (· rfl))
    | ((with_reducible apply TA.take_gN 3); (· rfl); (· decide +kernel); (· rfl); (· rfl); (· rfl); (· (first | first | exact Y.eql_rc bj rfl rfl | exact Y.eqb_tr rfl rfl | (first | exact yQ | exact yA | exact yB | exact yM | exact yV))); (· decide +kernel); (· decide +kernel); (· rfl); (· exact fun _ _ _ h => h); (· rfl))
    | refine wkX0 ?_
    | refine wkX1 ?_
    | refine wkX2 ?_
    | refine wkX3 ?_
    | ((with_reducible apply TA.oneN 0); (· rfl); (· rfl); (· decide +kernel); (· rfl))
    | ((with_reducible apply TA.oneN 1); (· rfl); (· rfl); (· decide +kernel); (· rfl))
    | ((with_reducible apply TA.oneN 2); (· rfl); (· rfl); (· decide +kernel); (· rfl))
    | ((with_reducible apply TA.oneN 3); (· rfl); (· rfl); (· decide +kernel); (· rfl))
    | refine TQ.any leF selF ?_
    | refine TC.region_any 28 (_) (by kernel_rfl) rfl selF ?_ | refine TA.done (by decide +kernel) ?_ | refine TQ.any_panic ?_)
        refine TQ.less hg4 ?_
        refine TQ.endR1 (L' := L) Tryz.results8 rvA rfl (.refl _) ?_ selF
        exact ⟨rfl, rfl, rfl⟩
end Go.Proofs.YtfanccddokckcaaGreatDoor
