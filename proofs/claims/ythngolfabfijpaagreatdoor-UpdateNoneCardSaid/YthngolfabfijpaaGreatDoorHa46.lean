/-
  The law UpdateNone.
-/
import Derived.Test.YthngolfabfijpaaGreatDoorHa2
import Derived.Test.YthngolfabfijpaaGreatDoorHa36
import Derived.Test.YthngolfabfijpaaGreatDoorHa37
import Derived.Test.YthngolfabfijpaaGreatDoorHa38
import Derived.Test.YthngolfabfijpaaGreatDoorHa45
namespace Go.Proofs.YthngolfabfijpaaGreatDoor
open Go.RowKit Go.TL
set_option maxRecDepth 100000

theorem same_lookN {x : J} (lx : lenJ x) (h : lookJ x 0 = 0) : SameJ x x = true := by
  unfold SameJ
  rw [decide_eq_true h, same_refl x (ok_of_look x 0 h lx).1]; rfl
set_option maxHeartbeats 64000000 in
theorem lawUpdateNone (x : DV) (cs : List Value) (g : Gh) (hX : IsV g x cs) (hE : GErr g) (hT : GTabs g) (hU : GU8 g) : Gives Tryz.prog 7 #[.agg cs.toArray] g [] (.bool true) := by
  refine .of (Does.of1 Tryz.func7 rfl Tryz.ntmps7 rfl ?_)
  have L1 := fun L => light_gives x cs g L hX
  cases hx : lightB x with
  | false =>
    rw [hx] at L1
    obtain ⟨x0, x1, x2, x3, xi, xil, xic, xn, xnl, xnc, rfl⟩ := hX.form
    clear hX
    repeat' (first
    | refine wkQ ?_
    | refine wkV ?_
    | ((with_reducible apply TL.gives_plain); (· kernel_rfl); (· rfl); (· exact L1 _); (· rfl)) | ((with_reducible apply TW.gives_plain); (· kernel_rfl); (· rfl); (· exact L1 _); (· rfl))
    | refine stS ?_ | (refine stB ?_; intro _) | (refine stC ?_; refine And.intro (fun _ => ?_) (fun _ => ?_)))
    refine TQ.endR1 (L' := []) Tryz.results7 rvA rfl (.refl _) ?_ selF
    exact ⟨rfl, rfl, rfl⟩
  | true =>
  rw [hx] at L1
  have wx := wf_of_light hx
  have nx := wfN_of_light hx
  obtain ⟨zx, lx⟩ := sz_toJ _ x (Nat.le_refl _) 300 nx
  have sx := sm_of_sz _ _ zx (by decide)
  have TX := fun (g2 : Gh) (h : g.le g2) L => told22_makes _ x (Nat.le_refl _) cs g2 L (IsV.le h _ _ hX) wx
  have AP := fun (g2 : Gh) (h : g.le g2) (v u : Value) (hv : IsJ g2 (toJ x) v) (hu : IsJ g2 noneU u) L => uApply_does 300 (toJ x) noneU v u g2 L (by decide) (by decide) hv hu zx (by simp [szJ, szJs, setB, unsetB, renameB]) lx (by simp [lenJ, lenJs]) (hE.le h) (hT.le h) (hU.le h)
  rw [none_apply] at AP
  have UR := fun (g2 : Gh) (h : g.le g2) (u : Value) (hu : IsJ g2 noneU u) L => uRight_does noneU u g2 L hu (by simp [smJ, smJs, setB, unsetB, renameB]) (by simp [lenJ, lenJs]) (hT.le h) (hU.le h)
  rw [none_right] at UR
  have AK := fun (g2 : Gh) (h : g.le g2) L => awake22_gives (L := L) (hE.le h) (hT.le h) (hU.le h)
  have MY := fun (g2 : Gh) (h : g.le g2) (v : Value) (hv : IsJ g2 (toJ x) v) L => may_gives (toJ x) v g2 L hv sx (hT.le h) (hU.le h)
  have SM := fun (g2 : Gh) (h : g.le g2) (v v' : Value) (hv : IsJ g2 (toJ x) v) (hv' : IsJ g2 (toJ x) v') L => Same_gives (toJ x) (toJ x) v v' g2 L hv hv' sx sx (hT.le h) (hU.le h)
  unfold ApplyR at AP
  obtain ⟨x0, x1, x2, x3, xi, xil, xic, xn, xnl, xnc, rfl⟩ := hX.form
  clear hX
  cases ho : objJ (toJ x) with
  | false =>
    rw [ho] at AP
    obtain ⟨k, hk0, hk⟩ : ∃ k : Nat, k ≠ 0 ∧ (if lookJ (toJ x) 0 ≠ 0 then (lookJ (toJ x) 0, none) else if false = true then (0, some (toJ x)) else (14, (none : Option J))) = (k, none) := by
      by_cases h : lookJ (toJ x) 0 ≠ 0
      · exact ⟨_, h, by rw [if_pos h]⟩
      · exact ⟨14, by decide, by rw [if_neg h]; rfl⟩
    rw [hk] at AP
    dsimp only at AP
    have HE := Hn.mk (show ¬ ((k : Nat) : Int) = 0 by omega)
    clear hk hk0 MY SM
    repeat' (first
    | refine wkQ ?_
    | refine wkV ?_
    | ((with_reducible apply TL.gives_plain); (· kernel_rfl); (· rfl); (· exact L1 _); (· rfl)) | ((with_reducible apply TW.gives_plain); (· kernel_rfl); (· rfl); (· exact L1 _); (· rfl))
    | (refine TL.build_empty (d := 12) (by rfl) (fun bb => ?_); refine TL.freeze_obj (k := 0) bb 2 .here rfl (by decide) ?_; rintro g1 h1 s1)
    | (refine TL.build_empty (d := 15) (by rfl) (fun bb => ?_); refine TL.freeze_obj (k := 0) bb 1 .here rfl (by decide) ?_; rintro g2 h2 s2)
    | (refine TL.build_empty (d := 18) (by rfl) (fun bb => ?_); refine TL.freeze_obj (k := 0) bb 2 .here rfl (by decide) ?_; rintro g3 h3 s3)
    | (refine TL.build_rows (d := 21) (len := 3) (sz := 2) [[str setB, .iface 43 (.slice (some ⟨_, 0, none⟩) 0 0)], [str unsetB, .iface 54 (.slice (some ⟨_, 0, none⟩) 0 0)], [str renameB, .iface 43 (.slice (some ⟨_, 0, none⟩) 0 0)]] (by rfl) (by rfl) (by rfl) (by rfl) (by rfl) (by rfl) (by rfl) (by rfl) (fun bb => ?_); refine TL.freeze_obj (k := 3) bb 2 .here rfl (by decide) ?_; rintro g4 h4 s4)
    | refine stS ?_ | (refine stB ?_; intro _) | (refine stC ?_; refine And.intro (fun _ => ?_) (fun _ => ?_))
    | apply TC.region_draw (by kernel_rfl) (by kernel_rfl) | refine TW.nil ?_ | ((with_reducible apply TW.pure); (· exact yA); (· rfl)))
    have h04 := h1.trans (h2.trans (h3.trans h4))
    have jn := isJ_obj3 s4 (isJ_obj0 (s1.le (h2.trans (h3.trans h4)))) (isJ_list0 (s2.le (h3.trans h4))) (isJ_obj0 (s3.le h4))
    clear s1 s2 s3 s4 h1 h2 h3 h4
    have Q0 := TX g4 h04
    clear TX
    repeat' (first
    | refine wkQ ?_
    | refine wkV ?_
    | (refine TL.makes (Enters.plain (by kernel_rfl) (by rfl)) (Q0 _) (by rfl) ?_; (rintro v5 g5 h5 j5; have o5 := j5.one; have h05 := h04.trans h5; have hno := objN j5 ho; have jn5 := jn.le h5 _ _; have Q1 := AP g5 h05 v5 _ j5 jn5; clear Q0 jn))
    | (refine TL.call (Enters.plain (by kernel_rfl) (by rfl)) (by rfl) (Q1 _) ?_; (rintro e g6 Ln h6 ⟨w3, k1, ow3, k2, k3⟩; have k1 := k1.symm; subst k1; subst k2; subst k3; (have h06 := h05.trans h6; have jn6 := jn5.le h6 _ _; have Q2 := UR g6 h06 _ jn6; clear Q1 jn5); refine CallK.ret ?_))
    | (refine TL.call (Enters.plain (by kernel_rfl) (by rfl)) (by rfl) (Q2 _) ?_; (rintro e g7 Ln h7 ⟨k1, k2⟩; have k2 := k2.symm; subst k1; subst k2; (have h07 := h06.trans h7; have Q3 := AK g7 h07; clear Q2 jn6); refine CallK.ret ?_))
    | ((with_reducible apply TL.gives_plain); (· kernel_rfl); (· rfl); (· exact Q3 _); (· rfl)) | ((with_reducible apply TW.gives_plain); (· kernel_rfl); (· rfl); (· exact Q3 _); (· rfl))
    | ((with_reducible apply TL.pure (d := 33) (v := .tuple #[.slice none 0 0, .bool false])); (· exact Y.assert_noT rfl hno); (· rfl)) | ((with_reducible apply TW.pure (d := 33) (v := .tuple #[.slice none 0 0, .bool false])); (· exact Y.assert_noT rfl hno); (· rfl))
    | refine wkN0 ?_
    | refine wkN1 ?_
    | refine wkN2 ?_
    | refine wkN3 ?_
    | refine wkG0 ?_
    | refine wkG1 ?_
    | refine wkG2 ?_
    | refine wkG3 ?_
    | refine wkX0 ?_
    | refine wkX1 ?_
    | refine wkX2 ?_
    | refine wkX3 ?_
    | refine wkN0 ?_
    | refine wkN1 ?_
    | refine wkN2 ?_
    | refine wkN3 ?_
    | ((with_reducible apply TA.oneN 0); (· rfl); (· rfl); (· decide +kernel); (· rfl))
    | ((with_reducible apply TA.oneN 1); (· rfl); (· rfl); (· decide +kernel); (· rfl))
    | ((with_reducible apply TA.oneN 2); (· rfl); (· rfl); (· decide +kernel); (· rfl))
    | ((with_reducible apply TA.oneN 3); (· rfl); (· rfl); (· decide +kernel); (· rfl))
    | refine TQ.any leF selF ?_
    | refine TC.region_any 11 (_) (by kernel_rfl) rfl selF ?_ | refine TA.done (by decide +kernel) ?_ | refine TQ.any_panic ?_
    | refine stS ?_ | (refine stB ?_; intro _) | (refine stC ?_; refine And.intro (fun _ => ?_) (fun _ => ?_))
    | apply TC.region_draw (by kernel_rfl) (by kernel_rfl) | refine TW.nil ?_ | ((with_reducible apply TW.pure); (· exact yA); (· rfl)))
    refine TQ.less h07 ?_
    refine TQ.endR1 (L' := []) Tryz.results7 rvA rfl (.refl _) ?_ selF
    exact ⟨rfl, rfl, rfl⟩
  | true =>
    rw [ho, if_pos rfl] at AP
    by_cases h0 : lookJ (toJ x) 0 = 0
    · rw [if_neg (by omega)] at AP
      dsimp only at AP
      rw [h0] at MY
      rw [same_lookN lx h0] at SM
      repeat' (first
    | refine wkQ ?_
    | refine wkV ?_
    | ((with_reducible apply TL.gives_plain); (· kernel_rfl); (· rfl); (· exact L1 _); (· rfl)) | ((with_reducible apply TW.gives_plain); (· kernel_rfl); (· rfl); (· exact L1 _); (· rfl))
    | (refine TL.build_empty (d := 12) (by rfl) (fun bb => ?_); refine TL.freeze_obj (k := 0) bb 2 .here rfl (by decide) ?_; rintro g1 h1 s1)
    | (refine TL.build_empty (d := 15) (by rfl) (fun bb => ?_); refine TL.freeze_obj (k := 0) bb 1 .here rfl (by decide) ?_; rintro g2 h2 s2)
    | (refine TL.build_empty (d := 18) (by rfl) (fun bb => ?_); refine TL.freeze_obj (k := 0) bb 2 .here rfl (by decide) ?_; rintro g3 h3 s3)
    | (refine TL.build_rows (d := 21) (len := 3) (sz := 2) [[str setB, .iface 43 (.slice (some ⟨_, 0, none⟩) 0 0)], [str unsetB, .iface 54 (.slice (some ⟨_, 0, none⟩) 0 0)], [str renameB, .iface 43 (.slice (some ⟨_, 0, none⟩) 0 0)]] (by rfl) (by rfl) (by rfl) (by rfl) (by rfl) (by rfl) (by rfl) (by rfl) (fun bb => ?_); refine TL.freeze_obj (k := 3) bb 2 .here rfl (by decide) ?_; rintro g4 h4 s4)
    | refine stS ?_ | (refine stB ?_; intro _) | (refine stC ?_; refine And.intro (fun _ => ?_) (fun _ => ?_))
    | apply TC.region_draw (by kernel_rfl) (by kernel_rfl) | refine TW.nil ?_ | ((with_reducible apply TW.pure); (· exact yA); (· rfl)))
      have h04 := h1.trans (h2.trans (h3.trans h4))
      have jn := isJ_obj3 s4 (isJ_obj0 (s1.le (h2.trans (h3.trans h4)))) (isJ_list0 (s2.le (h3.trans h4))) (isJ_obj0 (s3.le h4))
      clear s1 s2 s3 s4 h1 h2 h3 h4
      have Q0 := TX g4 h04
      clear TX
      repeat' (first
    | refine wkQ ?_
    | refine wkV ?_
    | (refine TL.makes (Enters.plain (by kernel_rfl) (by rfl)) (Q0 _) (by rfl) ?_; (rintro v5 g5 h5 j5; obtain ⟨kv, av, cv, rfl⟩ := objV j5 ho; have h05 := h04.trans h5; have jn5 := jn.le h5 _ _; have Q1 := AP g5 h05 _ _ j5 jn5; clear Q0 jn))
    | (refine TL.call (Enters.plain (by kernel_rfl) (by rfl)) (by rfl) (Q1 _) ?_; (rintro e g6 Ln h6 ⟨w2, k1, ow2, k2, jw⟩; have k1 := k1.symm; subst k1; subst k2; (have h06 := h05.trans h6; have jn6 := jn5.le h6 _ _; have j6 := j5.le h6 _ _; have Q2 := UR g6 h06 _ jn6; clear Q1 jn5); refine CallK.ret ?_))
    | (refine TL.call (Enters.plain (by kernel_rfl) (by rfl)) (by rfl) (Q2 _) ?_; (rintro e g7 Ln h7 ⟨k1, k2⟩; have k2 := k2.symm; subst k1; subst k2; (have h07 := h06.trans h7; have j7 := j6.le h7 _ _; have Q3 := AK g7 h07; have Q4 := MY g7 h07 _ j7; have Q5 := SM g7 h07 _ _ (jw.le h7 _ _) j7; clear Q2 jn6 j6); refine CallK.ret ?_))
    | ((with_reducible apply TL.gives_plain); (· kernel_rfl); (· rfl); (· exact Q3 _); (· rfl)) | ((with_reducible apply TW.gives_plain); (· kernel_rfl); (· rfl); (· exact Q3 _); (· rfl))
    | ((with_reducible apply TL.gives_plain); (· kernel_rfl); (· rfl); (· exact Q4 _); (· rfl)) | ((with_reducible apply TW.gives_plain); (· kernel_rfl); (· rfl); (· exact Q4 _); (· rfl))
    | ((with_reducible apply TL.gives_plain); (· kernel_rfl); (· rfl); (· exact Q5 _); (· rfl)) | ((with_reducible apply TW.gives_plain); (· kernel_rfl); (· rfl); (· exact Q5 _); (· rfl))
    | refine wkN0 ?_
    | refine wkN1 ?_
    | refine wkN2 ?_
    | refine wkN3 ?_
    | refine wkG0 ?_
    | refine wkG1 ?_
    | refine wkG2 ?_
    | refine wkG3 ?_
    | refine wkX0 ?_
    | refine wkX1 ?_
    | refine wkX2 ?_
    | refine wkX3 ?_
    | refine wkN0 ?_
    | refine wkN1 ?_
    | refine wkN2 ?_
    | refine wkN3 ?_
    | ((with_reducible apply TA.oneN 0); (· rfl); (· rfl); (· decide +kernel); (· rfl))
    | ((with_reducible apply TA.oneN 1); (· rfl); (· rfl); (· decide +kernel); (· rfl))
    | ((with_reducible apply TA.oneN 2); (· rfl); (· rfl); (· decide +kernel); (· rfl))
    | ((with_reducible apply TA.oneN 3); (· rfl); (· rfl); (· decide +kernel); (· rfl))
    | refine TQ.any leF selF ?_
    | refine TC.region_any 11 (_) (by kernel_rfl) rfl selF ?_ | refine TA.done (by decide +kernel) ?_ | refine TQ.any_panic ?_
    | refine stS ?_ | (refine stB ?_; intro _) | (refine stC ?_; refine And.intro (fun _ => ?_) (fun _ => ?_))
    | apply TC.region_draw (by kernel_rfl) (by kernel_rfl) | refine TW.nil ?_ | ((with_reducible apply TW.pure); (· exact yA); (· rfl)))
      refine TQ.less h07 ?_
      refine TQ.endR1 (L' := []) Tryz.results7 rvA rfl (.refl _) ?_ selF
      exact ⟨rfl, rfl, rfl⟩
    · rw [if_pos (by omega)] at AP
      dsimp only at AP
      have HE := Hn.mk (show ¬ ((lookJ (toJ x) 0 : Nat) : Int) = 0 by omega)
      repeat' (first
    | refine wkQ ?_
    | refine wkV ?_
    | ((with_reducible apply TL.gives_plain); (· kernel_rfl); (· rfl); (· exact L1 _); (· rfl)) | ((with_reducible apply TW.gives_plain); (· kernel_rfl); (· rfl); (· exact L1 _); (· rfl))
    | (refine TL.build_empty (d := 12) (by rfl) (fun bb => ?_); refine TL.freeze_obj (k := 0) bb 2 .here rfl (by decide) ?_; rintro g1 h1 s1)
    | (refine TL.build_empty (d := 15) (by rfl) (fun bb => ?_); refine TL.freeze_obj (k := 0) bb 1 .here rfl (by decide) ?_; rintro g2 h2 s2)
    | (refine TL.build_empty (d := 18) (by rfl) (fun bb => ?_); refine TL.freeze_obj (k := 0) bb 2 .here rfl (by decide) ?_; rintro g3 h3 s3)
    | (refine TL.build_rows (d := 21) (len := 3) (sz := 2) [[str setB, .iface 43 (.slice (some ⟨_, 0, none⟩) 0 0)], [str unsetB, .iface 54 (.slice (some ⟨_, 0, none⟩) 0 0)], [str renameB, .iface 43 (.slice (some ⟨_, 0, none⟩) 0 0)]] (by rfl) (by rfl) (by rfl) (by rfl) (by rfl) (by rfl) (by rfl) (by rfl) (fun bb => ?_); refine TL.freeze_obj (k := 3) bb 2 .here rfl (by decide) ?_; rintro g4 h4 s4)
    | refine stS ?_ | (refine stB ?_; intro _) | (refine stC ?_; refine And.intro (fun _ => ?_) (fun _ => ?_))
    | apply TC.region_draw (by kernel_rfl) (by kernel_rfl) | refine TW.nil ?_ | ((with_reducible apply TW.pure); (· exact yA); (· rfl)))
      have h04 := h1.trans (h2.trans (h3.trans h4))
      have jn := isJ_obj3 s4 (isJ_obj0 (s1.le (h2.trans (h3.trans h4)))) (isJ_list0 (s2.le (h3.trans h4))) (isJ_obj0 (s3.le h4))
      clear s1 s2 s3 s4 h1 h2 h3 h4
      have Q0 := TX g4 h04
      clear TX
      repeat' (first
    | refine wkQ ?_
    | refine wkV ?_
    | (refine TL.makes (Enters.plain (by kernel_rfl) (by rfl)) (Q0 _) (by rfl) ?_; (rintro v5 g5 h5 j5; obtain ⟨kv, av, cv, rfl⟩ := objV j5 ho; have h05 := h04.trans h5; have jn5 := jn.le h5 _ _; have Q1 := AP g5 h05 _ _ j5 jn5; clear Q0 jn))
    | (refine TL.call (Enters.plain (by kernel_rfl) (by rfl)) (by rfl) (Q1 _) ?_; (rintro e g6 Ln h6 ⟨w3, k1, ow3, k2, k3⟩; have k1 := k1.symm; subst k1; subst k2; subst k3; (have h06 := h05.trans h6; have jn6 := jn5.le h6 _ _; have j6 := j5.le h6 _ _; have Q2 := UR g6 h06 _ jn6; clear Q1 jn5); refine CallK.ret ?_))
    | (refine TL.call (Enters.plain (by kernel_rfl) (by rfl)) (by rfl) (Q2 _) ?_; (rintro e g7 Ln h7 ⟨k1, k2⟩; have k2 := k2.symm; subst k1; subst k2; (have h07 := h06.trans h7; have j7 := j6.le h7 _ _; have Q3 := AK g7 h07; have Q4 := MY g7 h07 _ j7; clear Q2 jn6 j6); refine CallK.ret ?_))
    | ((with_reducible apply TL.gives_plain); (· kernel_rfl); (· rfl); (· exact Q3 _); (· rfl)) | ((with_reducible apply TW.gives_plain); (· kernel_rfl); (· rfl); (· exact Q3 _); (· rfl))
    | ((with_reducible apply TL.gives_plain); (· kernel_rfl); (· rfl); (· exact Q4 _); (· rfl)) | ((with_reducible apply TW.gives_plain); (· kernel_rfl); (· rfl); (· exact Q4 _); (· rfl))
    | refine wkN0 ?_
    | refine wkN1 ?_
    | refine wkN2 ?_
    | refine wkN3 ?_
    | refine wkG0 ?_
    | refine wkG1 ?_
    | refine wkG2 ?_
    | refine wkG3 ?_
    | refine wkX0 ?_
    | refine wkX1 ?_
    | refine wkX2 ?_
    | refine wkX3 ?_
    | refine wkN0 ?_
    | refine wkN1 ?_
    | refine wkN2 ?_
    | refine wkN3 ?_
    | ((with_reducible apply TA.oneN 0); (· rfl); (· rfl); (· decide +kernel); (· rfl))
    | ((with_reducible apply TA.oneN 1); (· rfl); (· rfl); (· decide +kernel); (· rfl))
    | ((with_reducible apply TA.oneN 2); (· rfl); (· rfl); (· decide +kernel); (· rfl))
    | ((with_reducible apply TA.oneN 3); (· rfl); (· rfl); (· decide +kernel); (· rfl))
    | refine TQ.any leF selF ?_
    | refine TC.region_any 11 (_) (by kernel_rfl) rfl selF ?_ | refine TA.done (by decide +kernel) ?_ | refine TQ.any_panic ?_
    | refine stS ?_ | (refine stB ?_; intro _) | (refine stC ?_; refine And.intro (fun _ => ?_) (fun _ => ?_))
    | apply TC.region_draw (by kernel_rfl) (by kernel_rfl) | refine TW.nil ?_ | ((with_reducible apply TW.pure); (· exact yA); (· rfl)))
      refine TQ.less h07 ?_
      refine TQ.endR1 (L' := []) Tryz.results7 rvA rfl (.refl _) ?_ selF
      exact ⟨rfl, rfl, rfl⟩
end Go.Proofs.YthngolfabfijpaaGreatDoor
