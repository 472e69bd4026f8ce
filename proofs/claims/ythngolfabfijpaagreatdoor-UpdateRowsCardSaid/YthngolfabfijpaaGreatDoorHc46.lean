/-
  The law UpdateRows.
-/
import Derived.Test.YthngolfabfijpaaGreatDoorHc2
import Derived.Test.YthngolfabfijpaaGreatDoorHc36
import Derived.Test.YthngolfabfijpaaGreatDoorHc37
import Derived.Test.YthngolfabfijpaaGreatDoorHc38
import Derived.Test.YthngolfabfijpaaGreatDoorHc45
namespace Go.Proofs.YthngolfabfijpaaGreatDoor
open Go.RowKit Go.TL
set_option maxRecDepth 100000

theorem same_lookR {x : J} (lx : lenJ x) (h : lookJ x 0 = 0) : SameJ x x = true := by
  unfold SameJ
  rw [decide_eq_true h, same_refl x (ok_of_look x 0 h lx).1]; rfl
theorem IsMs.append {g : Gh} : ∀ {ns : List (List UInt8)} {l : List J} {fl : List Value} {ms : List (List UInt8)} {k : List J} {fk : List Value}, IsMs g ns l fl → IsMs g ms k fk → IsMs g (ns ++ ms) (l ++ k) (fl ++ fk)
  | [], [], fl, ms, k, fk, h, h2 => by rw [IsMs] at h; subst h; exact h2
  | n :: ns, x :: r, fl, ms, k, fk, h, h2 => by
    rw [IsMs] at h
    obtain ⟨v, f, rfl, h3, h4⟩ := h
    rw [List.cons_append, List.cons_append, IsMs]
    exact ⟨v, f ++ fk, rfl, h3, h4.append h2⟩
  | [], _ :: _, _, _, _, _, h, _ => by rw [IsMs] at h; exact absurd h id
  | _ :: _, [], _, _, _, _, h, _ => by rw [IsMs] at h; exact absurd h id
theorem IsMs.ones {g : Gh} : ∀ {ns : List (List UInt8)} {l : List J} {fl : List Value}, IsMs g ns l fl → fl.all Value.one = true
  | [], [], fl, h => by rw [IsMs] at h; subst h; rfl
  | n :: ns, x :: r, fl, h => by
    rw [IsMs] at h
    obtain ⟨v, f, rfl, h3, h4⟩ := h
    rw [List.all_cons, List.all_cons, h4.ones, h3.one]; rfl
  | [], _ :: _, _, h => by rw [IsMs] at h; exact absurd h id
  | _ :: _, [], _, h => by rw [IsMs] at h; exact absurd h id
theorem IsJ.obj_inv {g : Gh} {ns : List (List UInt8)} {xs : List J} {v : Value} (h : IsJ g (.obj ns xs) v) : ∃ sl flat, v = .iface 43 sl ∧ Sl g sl xs.length 2 flat ∧ IsMs g ns xs flat := by rw [IsJ] at h; exact h
theorem szJs_append {m : Nat} : ∀ {l k : List J}, szJs m l → szJs m k → szJs m (l ++ k)
  | [], _, _, h => h
  | x :: r, k, h, h2 => by rw [szJs] at h; rw [List.cons_append, szJs]; exact ⟨h.1, szJs_append h.2 h2⟩
theorem lenJs_append : ∀ {l k : List J}, lenJs l → lenJs k → lenJs (l ++ k)
  | [], _, _, h => h
  | x :: r, k, h, h2 => by rw [lenJs] at h; rw [List.cons_append, lenJs]; exact ⟨h.1, lenJs_append h.2 h2⟩
set_option maxHeartbeats 64000000 in
theorem lawUpdateRows (x a b : DV) (cs ts bs : List Value) (g : Gh) (hX : IsV g x cs) (hA : IsV g a ts) (hB : IsV g b bs) (hE : GErr g) (hT : GTabs g) (hU : GU8 g) : Gives Tryz.prog 5 #[.agg cs.toArray, .agg ts.toArray, .agg bs.toArray] g [] (.bool true) := by
  refine .of (Does.of3 Tryz.func5 rfl Tryz.ntmps5 rfl ?_)
  have L1 := fun L => light_gives x cs g L hX
  have L2 := fun L => light_gives a ts g L hA
  have L3 := fun L => light_gives b bs g L hB
  have l1 := hX.len
  have l2 := hA.len
  have l3 := hB.len
  cases hx : lightB x with
  | false =>
    rw [hx] at L1
    clear hX hA hB
    repeat' (first
    | refine wkQ ?_
    | refine wkV ?_
    | ((with_reducible apply TL.gives_plain); (· kernel_rfl); (· rfl); (· exact L1 _); (· rfl)) | ((with_reducible apply TW.gives_plain); (· kernel_rfl); (· rfl); (· exact L1 _); (· rfl))
    | refine stS ?_ | (refine stB ?_; intro _) | (refine stC ?_; refine And.intro (fun _ => ?_) (fun _ => ?_)))
    refine TQ.endR1 (L' := []) Tryz.results5 rvA rfl (.refl _) ?_ selF
    exact ⟨rfl, rfl, rfl⟩
  | true =>
  rw [hx] at L1
  cases ha : lightB a with
  | false =>
    rw [ha] at L2
    clear hX hA hB
    repeat' (first
    | refine wkQ ?_
    | refine wkV ?_
    | ((with_reducible apply TL.gives_plain); (· kernel_rfl); (· rfl); (· exact L1 _); (· rfl)) | ((with_reducible apply TW.gives_plain); (· kernel_rfl); (· rfl); (· exact L1 _); (· rfl))
    | ((with_reducible apply TL.gives_plain); (· kernel_rfl); (· rfl); (· exact L2 _); (· rfl)) | ((with_reducible apply TW.gives_plain); (· kernel_rfl); (· rfl); (· exact L2 _); (· rfl))
    | refine stS ?_ | (refine stB ?_; intro _) | (refine stC ?_; refine And.intro (fun _ => ?_) (fun _ => ?_)))
    refine TQ.endR1 (L' := []) Tryz.results5 rvA rfl (.refl _) ?_ selF
    exact ⟨rfl, rfl, rfl⟩
  | true =>
  rw [ha] at L2
  cases hb : lightB b with
  | false =>
    rw [hb] at L3
    clear hX hA hB
    repeat' (first
    | refine wkQ ?_
    | refine wkV ?_
    | ((with_reducible apply TL.gives_plain); (· kernel_rfl); (· rfl); (· exact L1 _); (· rfl)) | ((with_reducible apply TW.gives_plain); (· kernel_rfl); (· rfl); (· exact L1 _); (· rfl))
    | ((with_reducible apply TL.gives_plain); (· kernel_rfl); (· rfl); (· exact L2 _); (· rfl)) | ((with_reducible apply TW.gives_plain); (· kernel_rfl); (· rfl); (· exact L2 _); (· rfl))
    | ((with_reducible apply TL.gives_plain); (· kernel_rfl); (· rfl); (· exact L3 _); (· rfl)) | ((with_reducible apply TW.gives_plain); (· kernel_rfl); (· rfl); (· exact L3 _); (· rfl))
    | refine stS ?_ | (refine stB ?_; intro _) | (refine stC ?_; refine And.intro (fun _ => ?_) (fun _ => ?_)))
    refine TQ.endR1 (L' := []) Tryz.results5 rvA rfl (.refl _) ?_ selF
    exact ⟨rfl, rfl, rfl⟩
  | true =>
  rw [hb] at L3
  have wx := wf_of_light hx
  have wa := wf_of_light ha
  have wb := wf_of_light hb
  obtain ⟨zx, lx⟩ := sz_toJ _ x (Nat.le_refl _) 300 (wfN_of_light hx)
  obtain ⟨za, la⟩ := sz_toJ _ a (Nat.le_refl _) 300 (wfN_of_light ha)
  obtain ⟨zb, lb⟩ := sz_toJ _ b (Nat.le_refl _) 300 (wfN_of_light hb)
  have TX := fun (g2 : Gh) (h : g.le g2) L => told22_makes _ x (Nat.le_refl _) cs g2 L (IsV.le h _ _ hX) wx
  have TA := fun L => told22_makes _ a (Nat.le_refl _) ts g L hA wa
  have TB := fun (g2 : Gh) (h : g.le g2) L => told22_makes _ b (Nat.le_refl _) bs g2 L (IsV.le h _ _ hB) wb
  have AK := fun (g2 : Gh) (h : g.le g2) L => awake22_gives (g := g2) (L := L) (hE.le h) (hT.le h) (hU.le h)
  clear hX hA hB hx ha hb
  generalize toJ x = X at *
  generalize toJ a = A at *
  generalize toJ b = B at *
  cases hoa : objJ A with
  | false =>
    cases hob : objJ B with
    | false =>
      repeat' (first
    | refine wkQ ?_
    | refine wkV ?_
    | ((with_reducible apply TL.gives_plain); (· kernel_rfl); (· rfl); (· exact L1 _); (· rfl)) | ((with_reducible apply TW.gives_plain); (· kernel_rfl); (· rfl); (· exact L1 _); (· rfl))
    | ((with_reducible apply TL.gives_plain); (· kernel_rfl); (· rfl); (· exact L2 _); (· rfl)) | ((with_reducible apply TW.gives_plain); (· kernel_rfl); (· rfl); (· exact L2 _); (· rfl))
    | ((with_reducible apply TL.gives_plain); (· kernel_rfl); (· rfl); (· exact L3 _); (· rfl)) | ((with_reducible apply TW.gives_plain); (· kernel_rfl); (· rfl); (· exact L3 _); (· rfl))
    | (refine TL.makes (Enters.plain (by kernel_rfl) (by rfl)) (TA _) (by rfl) ?_; (rintro v1 g1 h1 j1; have o1 := j1.one; have n1 := objN j1 hoa; have Q1 := TB g1 h1))
    | (refine TL.makes (Enters.plain (by kernel_rfl) (by rfl)) (Q1 _) (by rfl) ?_; (rintro v2 g2 h2 j2; have o2 := j2.one; have n2 := objN j2 hob; have h02 := h1.trans h2; have Q2 := AK g2 h02; clear Q1 TA))
    | ((with_reducible apply TL.pure (d := 36) (v := .tuple #[.slice none 0 0, .bool false])); (· exact Y.assert_noT rfl n1); (· rfl)) | ((with_reducible apply TW.pure (d := 36) (v := .tuple #[.slice none 0 0, .bool false])); (· exact Y.assert_noT rfl n1); (· rfl))
    | ((with_reducible apply TL.pure (d := 42) (v := .tuple #[.slice none 0 0, .bool false])); (· exact Y.assert_noT rfl n2); (· rfl)) | ((with_reducible apply TW.pure (d := 42) (v := .tuple #[.slice none 0 0, .bool false])); (· exact Y.assert_noT rfl n2); (· rfl))
    | ((with_reducible apply TL.gives_plain); (· kernel_rfl); (· rfl); (· exact Q2 _); (· rfl)) | ((with_reducible apply TW.gives_plain); (· kernel_rfl); (· rfl); (· exact Q2 _); (· rfl))
    | refine wkN0 ?_
    | refine wkN1 ?_
    | refine wkN2 ?_
    | refine wkN3 ?_
    | refine wkG0 ?_
    | refine wkG1 ?_
    | refine wkG2 ?_
    | refine wkG3 ?_
    | refine wkX0 ?_
    | refine wkX1 ?_
    | refine wkX2 ?_
    | refine wkX3 ?_
    | refine wkN0 ?_
    | refine wkN1 ?_
    | refine wkN2 ?_
    | refine wkN3 ?_
    | ((with_reducible apply TA.oneN 0); (· rfl); (· rfl); (· decide +kernel); (· rfl))
    | ((with_reducible apply TA.oneN 1); (· rfl); (· rfl); (· decide +kernel); (· rfl))
    | ((with_reducible apply TA.oneN 2); (· rfl); (· rfl); (· decide +kernel); (· rfl))
    | ((with_reducible apply TA.oneN 3); (· rfl); (· rfl); (· decide +kernel); (· rfl))
    | refine TQ.any leF selF ?_
    | refine TC.region_any 6 (_) (by kernel_rfl) rfl selF ?_ | refine TA.done (by decide +kernel) ?_ | refine TQ.any_panic ?_
    | refine stS ?_ | (refine stB ?_; intro _) | (refine stC ?_; refine And.intro (fun _ => ?_) (fun _ => ?_))
    | apply TC.region_draw (by kernel_rfl) (by kernel_rfl) | refine TW.nil ?_ | ((with_reducible apply TW.pure); (· exact yA); (· rfl)))
      refine TQ.less h02 ?_
      refine TQ.endR1 (L' := []) Tryz.results5 rvA rfl (.refl _) ?_ selF
      exact ⟨rfl, rfl, rfl⟩
    | true =>
      repeat' (first
    | refine wkQ ?_
    | refine wkV ?_
    | ((with_reducible apply TL.gives_plain); (· kernel_rfl); (· rfl); (· exact L1 _); (· rfl)) | ((with_reducible apply TW.gives_plain); (· kernel_rfl); (· rfl); (· exact L1 _); (· rfl))
    | ((with_reducible apply TL.gives_plain); (· kernel_rfl); (· rfl); (· exact L2 _); (· rfl)) | ((with_reducible apply TW.gives_plain); (· kernel_rfl); (· rfl); (· exact L2 _); (· rfl))
    | ((with_reducible apply TL.gives_plain); (· kernel_rfl); (· rfl); (· exact L3 _); (· rfl)) | ((with_reducible apply TW.gives_plain); (· kernel_rfl); (· rfl); (· exact L3 _); (· rfl))
    | (refine TL.makes (Enters.plain (by kernel_rfl) (by rfl)) (TA _) (by rfl) ?_; (rintro v1 g1 h1 j1; have o1 := j1.one; have n1 := objN j1 hoa; have Q1 := TB g1 h1))
    | (refine TL.makes (Enters.plain (by kernel_rfl) (by rfl)) (Q1 _) (by rfl) ?_; (rintro v2 g2 h2 j2; obtain ⟨kv, av, cv, rfl⟩ := objV j2 hob; have h02 := h1.trans h2; have Q2 := AK g2 h02; clear Q1 TA))
    | ((with_reducible apply TL.pure (d := 36) (v := .tuple #[.slice none 0 0, .bool false])); (· exact Y.assert_noT rfl n1); (· rfl)) | ((with_reducible apply TW.pure (d := 36) (v := .tuple #[.slice none 0 0, .bool false])); (· exact Y.assert_noT rfl n1); (· rfl))
    | ((with_reducible apply TL.gives_plain); (· kernel_rfl); (· rfl); (· exact Q2 _); (· rfl)) | ((with_reducible apply TW.gives_plain); (· kernel_rfl); (· rfl); (· exact Q2 _); (· rfl))
    | refine wkN0 ?_
    | refine wkN1 ?_
    | refine wkN2 ?_
    | refine wkN3 ?_
    | refine wkG0 ?_
    | refine wkG1 ?_
    | refine wkG2 ?_
    | refine wkG3 ?_
    | refine wkX0 ?_
    | refine wkX1 ?_
    | refine wkX2 ?_
    | refine wkX3 ?_
    | refine wkN0 ?_
    | refine wkN1 ?_
    | refine wkN2 ?_
    | refine wkN3 ?_
    | ((with_reducible apply TA.oneN 0); (· rfl); (· rfl); (· decide +kernel); (· rfl))
    | ((with_reducible apply TA.oneN 1); (· rfl); (· rfl); (· decide +kernel); (· rfl))
    | ((with_reducible apply TA.oneN 2); (· rfl); (· rfl); (· decide +kernel); (· rfl))
    | ((with_reducible apply TA.oneN 3); (· rfl); (· rfl); (· decide +kernel); (· rfl))
    | refine TQ.any leF selF ?_
    | refine TC.region_any 6 (_) (by kernel_rfl) rfl selF ?_ | refine TA.done (by decide +kernel) ?_ | refine TQ.any_panic ?_
    | refine stS ?_ | (refine stB ?_; intro _) | (refine stC ?_; refine And.intro (fun _ => ?_) (fun _ => ?_))
    | apply TC.region_draw (by kernel_rfl) (by kernel_rfl) | refine TW.nil ?_ | ((with_reducible apply TW.pure); (· exact yA); (· rfl)))
      refine TQ.less h02 ?_
      refine TQ.endR1 (L' := []) Tryz.results5 rvA rfl (.refl _) ?_ selF
      exact ⟨rfl, rfl, rfl⟩
  | true =>
  cases hob : objJ B with
  | false =>
    repeat' (first
    | refine wkQ ?_
    | refine wkV ?_
    | ((with_reducible apply TL.gives_plain); (· kernel_rfl); (· rfl); (· exact L1 _); (· rfl)) | ((with_reducible apply TW.gives_plain); (· kernel_rfl); (· rfl); (· exact L1 _); (· rfl))
    | ((with_reducible apply TL.gives_plain); (· kernel_rfl); (· rfl); (· exact L2 _); (· rfl)) | ((with_reducible apply TW.gives_plain); (· kernel_rfl); (· rfl); (· exact L2 _); (· rfl))
    | ((with_reducible apply TL.gives_plain); (· kernel_rfl); (· rfl); (· exact L3 _); (· rfl)) | ((with_reducible apply TW.gives_plain); (· kernel_rfl); (· rfl); (· exact L3 _); (· rfl))
    | (refine TL.makes (Enters.plain (by kernel_rfl) (by rfl)) (TA _) (by rfl) ?_; (rintro v1 g1 h1 j1; obtain ⟨ku, au, cu, rfl⟩ := objV j1 hoa; have Q1 := TB g1 h1))
    | (refine TL.makes (Enters.plain (by kernel_rfl) (by rfl)) (Q1 _) (by rfl) ?_; (rintro v2 g2 h2 j2; have o2 := j2.one; have n2 := objN j2 hob; have h02 := h1.trans h2; have Q2 := AK g2 h02; clear Q1 TA))
    | ((with_reducible apply TL.pure (d := 42) (v := .tuple #[.slice none 0 0, .bool false])); (· exact Y.assert_noT rfl n2); (· rfl)) | ((with_reducible apply TW.pure (d := 42) (v := .tuple #[.slice none 0 0, .bool false])); (· exact Y.assert_noT rfl n2); (· rfl))
    | ((with_reducible apply TL.gives_plain); (· kernel_rfl); (· rfl); (· exact Q2 _); (· rfl)) | ((with_reducible apply TW.gives_plain); (· kernel_rfl); (· rfl); (· exact Q2 _); (· rfl))
    | refine wkN0 ?_
    | refine wkN1 ?_
    | refine wkN2 ?_
    | refine wkN3 ?_
    | refine wkG0 ?_
    | refine wkG1 ?_
    | refine wkG2 ?_
    | refine wkG3 ?_
    | refine wkX0 ?_
    | refine wkX1 ?_
    | refine wkX2 ?_
    | refine wkX3 ?_
    | refine wkN0 ?_
    | refine wkN1 ?_
    | refine wkN2 ?_
    | refine wkN3 ?_
    | ((with_reducible apply TA.oneN 0); (· rfl); (· rfl); (· decide +kernel); (· rfl))
    | ((with_reducible apply TA.oneN 1); (· rfl); (· rfl); (· decide +kernel); (· rfl))
    | ((with_reducible apply TA.oneN 2); (· rfl); (· rfl); (· decide +kernel); (· rfl))
    | ((with_reducible apply TA.oneN 3); (· rfl); (· rfl); (· decide +kernel); (· rfl))
    | refine TQ.any leF selF ?_
    | refine TC.region_any 6 (_) (by kernel_rfl) rfl selF ?_ | refine TA.done (by decide +kernel) ?_ | refine TQ.any_panic ?_
    | refine stS ?_ | (refine stB ?_; intro _) | (refine stC ?_; refine And.intro (fun _ => ?_) (fun _ => ?_))
    | apply TC.region_draw (by kernel_rfl) (by kernel_rfl) | refine TW.nil ?_ | ((with_reducible apply TW.pure); (· exact yA); (· rfl)))
    refine TQ.less h02 ?_
    refine TQ.endR1 (L' := []) Tryz.results5 rvA rfl (.refl _) ?_ selF
    exact ⟨rfl, rfl, rfl⟩
  | true =>
  have sa := sm_of_sz A _ za (by decide)
  have sb := sm_of_sz B _ zb (by decide)
  have UA := fun (g2 : Gh) (h : g.le g2) (u : Value) (hu : IsJ g2 A u) L => uRight_does A u g2 L hu sa la (hT.le h) (hU.le h)
  have UB := fun (g2 : Gh) (h : g.le g2) (u : Value) (hu : IsJ g2 B u) L => uRight_does B u g2 L hu sb lb (hT.le h) (hU.le h)
  cases hra : rightU A with
  | false =>
    rw [hra] at UA
    repeat' (first
    | refine wkQ ?_
    | refine wkV ?_
    | ((with_reducible apply TL.gives_plain); (· kernel_rfl); (· rfl); (· exact L1 _); (· rfl)) | ((with_reducible apply TW.gives_plain); (· kernel_rfl); (· rfl); (· exact L1 _); (· rfl))
    | ((with_reducible apply TL.gives_plain); (· kernel_rfl); (· rfl); (· exact L2 _); (· rfl)) | ((with_reducible apply TW.gives_plain); (· kernel_rfl); (· rfl); (· exact L2 _); (· rfl))
    | ((with_reducible apply TL.gives_plain); (· kernel_rfl); (· rfl); (· exact L3 _); (· rfl)) | ((with_reducible apply TW.gives_plain); (· kernel_rfl); (· rfl); (· exact L3 _); (· rfl))
    | (refine TL.makes (Enters.plain (by kernel_rfl) (by rfl)) (TA _) (by rfl) ?_; (rintro v1 g1 h1 j1; obtain ⟨ku, au, cu, rfl⟩ := objV j1 hoa; have Q1 := TB g1 h1))
    | (refine TL.makes (Enters.plain (by kernel_rfl) (by rfl)) (Q1 _) (by rfl) ?_; (rintro v2 g2 h2 j2; obtain ⟨kv, av, cv, rfl⟩ := objV j2 hob; have h02 := h1.trans h2; have Q2 := UA g2 h02 _ (j1.le h2 _ _); clear Q1 TA))
    | (refine TL.call (Enters.plain (by kernel_rfl) (by rfl)) (by rfl) (Q2 _) ?_; (rintro e g3 Ln h3 ⟨k1, k2⟩; have k2 := k2.symm; subst k1; subst k2; (have h03 := h02.trans h3; have Q3 := AK g3 h03; clear Q2); refine CallK.ret ?_))
    | ((with_reducible apply TL.gives_plain); (· kernel_rfl); (· rfl); (· exact Q3 _); (· rfl)) | ((with_reducible apply TW.gives_plain); (· kernel_rfl); (· rfl); (· exact Q3 _); (· rfl))
    | refine wkN0 ?_
    | refine wkN1 ?_
    | refine wkN2 ?_
    | refine wkN3 ?_
    | refine wkG0 ?_
    | refine wkG1 ?_
    | refine wkG2 ?_
    | refine wkG3 ?_
    | refine wkX0 ?_
    | refine wkX1 ?_
    | refine wkX2 ?_
    | refine wkX3 ?_
    | refine wkN0 ?_
    | refine wkN1 ?_
    | refine wkN2 ?_
    | refine wkN3 ?_
    | ((with_reducible apply TA.oneN 0); (· rfl); (· rfl); (· decide +kernel); (· rfl))
    | ((with_reducible apply TA.oneN 1); (· rfl); (· rfl); (· decide +kernel); (· rfl))
    | ((with_reducible apply TA.oneN 2); (· rfl); (· rfl); (· decide +kernel); (· rfl))
    | ((with_reducible apply TA.oneN 3); (· rfl); (· rfl); (· decide +kernel); (· rfl))
    | refine TQ.any leF selF ?_
    | refine TC.region_any 6 (_) (by kernel_rfl) rfl selF ?_ | refine TA.done (by decide +kernel) ?_ | refine TQ.any_panic ?_
    | refine stS ?_ | (refine stB ?_; intro _) | (refine stC ?_; refine And.intro (fun _ => ?_) (fun _ => ?_))
    | apply TC.region_draw (by kernel_rfl) (by kernel_rfl) | refine TW.nil ?_ | ((with_reducible apply TW.pure); (· exact yA); (· rfl)))
    refine TQ.less h03 ?_
    refine TQ.endR1 (L' := []) Tryz.results5 rvA rfl (.refl _) ?_ selF
    exact ⟨rfl, rfl, rfl⟩
  | true =>
  rw [hra] at UA
  cases hrb : rightU B with
  | false =>
    rw [hrb] at UB
    repeat' (first
    | refine wkQ ?_
    | refine wkV ?_
    | ((with_reducible apply TL.gives_plain); (· kernel_rfl); (· rfl); (· exact L1 _); (· rfl)) | ((with_reducible apply TW.gives_plain); (· kernel_rfl); (· rfl); (· exact L1 _); (· rfl))
    | ((with_reducible apply TL.gives_plain); (· kernel_rfl); (· rfl); (· exact L2 _); (· rfl)) | ((with_reducible apply TW.gives_plain); (· kernel_rfl); (· rfl); (· exact L2 _); (· rfl))
    | ((with_reducible apply TL.gives_plain); (· kernel_rfl); (· rfl); (· exact L3 _); (· rfl)) | ((with_reducible apply TW.gives_plain); (· kernel_rfl); (· rfl); (· exact L3 _); (· rfl))
    | (refine TL.makes (Enters.plain (by kernel_rfl) (by rfl)) (TA _) (by rfl) ?_; (rintro v1 g1 h1 j1; obtain ⟨ku, au, cu, rfl⟩ := objV j1 hoa; have Q1 := TB g1 h1))
    | (refine TL.makes (Enters.plain (by kernel_rfl) (by rfl)) (Q1 _) (by rfl) ?_; (rintro v2 g2 h2 j2; obtain ⟨kv, av, cv, rfl⟩ := objV j2 hob; have h02 := h1.trans h2; have Q2 := UA g2 h02 _ (j1.le h2 _ _); clear Q1 TA))
    | (refine TL.call (Enters.plain (by kernel_rfl) (by rfl)) (by rfl) (Q2 _) ?_; (rintro e g3 Ln h3 ⟨k1, k2⟩; have k2 := k2.symm; subst k1; subst k2; (have h03 := h02.trans h3; have Q3 := UB g3 h03 _ (j2.le h3 _ _); clear Q2); refine CallK.ret ?_))
    | (refine TL.call (Enters.plain (by kernel_rfl) (by rfl)) (by rfl) (Q3 _) ?_; (rintro e g4 Ln h4 ⟨k1, k2⟩; have k2 := k2.symm; subst k1; subst k2; (have h04 := h03.trans h4; have Q4 := AK g4 h04; clear Q3); refine CallK.ret ?_))
    | ((with_reducible apply TL.gives_plain); (· kernel_rfl); (· rfl); (· exact Q4 _); (· rfl)) | ((with_reducible apply TW.gives_plain); (· kernel_rfl); (· rfl); (· exact Q4 _); (· rfl))
    | refine wkN0 ?_
    | refine wkN1 ?_
    | refine wkN2 ?_
    | refine wkN3 ?_
    | refine wkG0 ?_
    | refine wkG1 ?_
    | refine wkG2 ?_
    | refine wkG3 ?_
    | refine wkX0 ?_
    | refine wkX1 ?_
    | refine wkX2 ?_
    | refine wkX3 ?_
    | refine wkN0 ?_
    | refine wkN1 ?_
    | refine wkN2 ?_
    | refine wkN3 ?_
    | ((with_reducible apply TA.oneN 0); (· rfl); (· rfl); (· decide +kernel); (· rfl))
    | ((with_reducible apply TA.oneN 1); (· rfl); (· rfl); (· decide +kernel); (· rfl))
    | ((with_reducible apply TA.oneN 2); (· rfl); (· rfl); (· decide +kernel); (· rfl))
    | ((with_reducible apply TA.oneN 3); (· rfl); (· rfl); (· decide +kernel); (· rfl))
    | refine TQ.any leF selF ?_
    | refine TC.region_any 6 (_) (by kernel_rfl) rfl selF ?_ | refine TA.done (by decide +kernel) ?_ | refine TQ.any_panic ?_
    | refine stS ?_ | (refine stB ?_; intro _) | (refine stC ?_; refine And.intro (fun _ => ?_) (fun _ => ?_))
    | apply TC.region_draw (by kernel_rfl) (by kernel_rfl) | refine TW.nil ?_ | ((with_reducible apply TW.pure); (· exact yA); (· rfl)))
    refine TQ.less h04 ?_
    refine TQ.endR1 (L' := []) Tryz.results5 rvA rfl (.refl _) ?_ selF
    exact ⟨rfl, rfl, rfl⟩
  | true =>
  rw [hrb] at UB
  obtain ⟨na, xa, rfl, _⟩ := right_obj hra
  obtain ⟨nb, xb, rfl, _⟩ := right_obj hrb
  have la0 := la
  have lb0 := lb
  have za0 := za
  have zb0 := zb
  rw [lenJ] at la0 lb0
  rw [szJ] at za0 zb0
  have lc : lenJ (.obj (na ++ nb) (xa ++ xb)) := by rw [lenJ, List.length_append, List.length_append, la0.1, lb0.1]; exact ⟨rfl, lenJs_append la0.2 lb0.2⟩
  have zc : szJ 600 (.obj (na ++ nb) (xa ++ xb)) := by
    have z1 := sz_up _ _ 600 za (by decide)
    have z2 := sz_up _ _ 600 zb (by decide)
    rw [szJ] at z1 z2
    rw [szJ]
    refine ⟨by rw [List.length_append]; omega, fun n hn => ?_, szJs_append z1.2.2 z2.2.2⟩
    rcases List.mem_append.1 hn with h | h
    · exact z1.2.1 n h
    · exact z2.2.1 n h
  have sc := sm_of_sz _ _ zc (by decide)
  have UC := fun (g2 : Gh) (h : g.le g2) (u : Value) (hu : IsJ g2 (.obj (na ++ nb) (xa ++ xb)) u) L => uRight_does _ u g2 L hu sc lc (hT.le h) (hU.le h)
  obtain ⟨hxa, -, -⟩ := za0
  obtain ⟨hxb, -, -⟩ := zb0
  clear la0 lb0 hoa hob sa sb sc
  repeat' (first
    | refine wkQ ?_
    | refine wkV ?_
    | ((with_reducible apply TL.gives_plain); (· kernel_rfl); (· rfl); (· exact L1 _); (· rfl)) | ((with_reducible apply TW.gives_plain); (· kernel_rfl); (· rfl); (· exact L1 _); (· rfl))
    | ((with_reducible apply TL.gives_plain); (· kernel_rfl); (· rfl); (· exact L2 _); (· rfl)) | ((with_reducible apply TW.gives_plain); (· kernel_rfl); (· rfl); (· exact L2 _); (· rfl))
    | ((with_reducible apply TL.gives_plain); (· kernel_rfl); (· rfl); (· exact L3 _); (· rfl)) | ((with_reducible apply TW.gives_plain); (· kernel_rfl); (· rfl); (· exact L3 _); (· rfl))
    | (refine TL.makes (Enters.plain (by kernel_rfl) (by rfl)) (TA _) (by rfl) ?_; (rintro v1 g1 h1 j1; obtain ⟨sl1, fa, rfl, sla, ma⟩ := IsJ.obj_inv j1; obtain ⟨au, cu, rfl⟩ := sla.slice; have Q1 := TB g1 h1))
    | (refine TL.makes (Enters.plain (by kernel_rfl) (by rfl)) (Q1 _) (by rfl) ?_; (rintro v2 g2 h2 j2; obtain ⟨sl2, fb, rfl, slb, mb⟩ := IsJ.obj_inv j2; obtain ⟨av, cv, rfl⟩ := slb.slice; have h02 := h1.trans h2; have Q2 := UA g2 h02 _ (j1.le h2 _ _); clear Q1 TA))
    | (refine TL.call (Enters.plain (by kernel_rfl) (by rfl)) (by rfl) (Q2 _) ?_; (rintro e g3 Ln h3 ⟨k1, k2⟩; have k2 := k2.symm; subst k1; subst k2; (have h03 := h02.trans h3; have Q3 := UB g3 h03 _ (j2.le h3 _ _); clear Q2); refine CallK.ret ?_))
    | (refine TL.call (Enters.plain (by kernel_rfl) (by rfl)) (by rfl) (Q3 _) ?_; (rintro e g4 Ln h4 ⟨k1, k2⟩; have k2 := k2.symm; subst k1; subst k2; (have h04 := h03.trans h4; have sa4 := sla.le (h2.trans (h3.trans h4)); have sb4 := slb.le (h3.trans h4); have oa := ma.ones; have ob := mb.ones; have lfa := sla.len; have lfb := slb.len; clear Q3); refine CallK.ret ?_))
    | (refine TL.build_empty (by rfl) (fun bb => ?_); refine TL.obj_row (b := bb) (k := 0) (sz := 2) .here rfl (by decide) ?_)
    | ((with_reducible apply TL.append (d := 66)); (· rfl); (· rfl); (· rfl); (· rfl); (· exact pkA); (· exact Src.sl sa4); (· exact lfa); (· exact oa); (· exact ⟨by unfold maxLen; omega, by omega⟩); (· rfl); intro va)
    | ((with_reducible apply TL.append (d := 68)); (· rfl); (· rfl); (· rfl); (· rfl); (· exact pkA); (· exact Src.sl sb4); (· exact lfb); (· exact ob); (· exact ⟨by unfold maxLen; omega, by omega⟩); (· rfl); intro vb)
    | refine wkN0 ?_
    | refine wkN1 ?_
    | refine wkN2 ?_
    | refine wkN3 ?_
    | refine wkG0 ?_
    | refine wkG1 ?_
    | refine wkG2 ?_
    | refine wkG3 ?_
    | refine wkX0 ?_
    | refine wkX1 ?_
    | refine wkX2 ?_
    | refine wkX3 ?_
    | refine wkN0 ?_
    | refine wkN1 ?_
    | refine wkN2 ?_
    | refine wkN3 ?_
    | ((with_reducible apply TA.oneN 0); (· rfl); (· rfl); (· decide +kernel); (· rfl))
    | ((with_reducible apply TA.oneN 1); (· rfl); (· rfl); (· decide +kernel); (· rfl))
    | ((with_reducible apply TA.oneN 2); (· rfl); (· rfl); (· decide +kernel); (· rfl))
    | ((with_reducible apply TA.oneN 3); (· rfl); (· rfl); (· decide +kernel); (· rfl))
    | refine TQ.any leF selF ?_
    | refine TC.region_any 6 (_) (by kernel_rfl) rfl selF ?_ | refine TA.done (by decide +kernel) ?_ | refine TQ.any_panic ?_
    | refine stS ?_ | (refine stB ?_; intro _) | (refine stC ?_; refine And.intro (fun _ => ?_) (fun _ => ?_))
    | apply TC.region_draw (by kernel_rfl) (by kernel_rfl) | refine TW.nil ?_ | ((with_reducible apply TW.pure); (· exact yA); (· rfl)))
  refine TL.freeze (v := vb) pkA ?_
  intro g5 h5 s5
  obtain ⟨aw, cw, rfl⟩ := s5.slice
  have h05 := h04.trans h5
  have jc : IsJ g5 (.obj (na ++ nb) (xa ++ xb)) (.iface 43 (.slice aw (0 + xa.length + xb.length) cw)) := by
    rw [IsJ]
    refine ⟨_, _, rfl, ?_, (IsMs.le (h2.trans (h3.trans (h4.trans h5))) _ _ _ ma).append (IsMs.le (h3.trans (h4.trans h5)) _ _ _ mb)⟩
    rw [List.length_append, ← Nat.zero_add (xa.length + xb.length), ← Nat.add_assoc]
    rw [List.nil_append] at s5
    exact s5
  have ja := j1.le (h2.trans (h3.trans (h4.trans h5))) _ _
  have jb := j2.le (h3.trans (h4.trans h5)) _ _
  have Q4 := UC g5 h05 _ jc
  clear sla slb ma mb j1 j2 sa4 sb4 oa ob lfa lfb s5 UA UB UC L1 L2 L3 TB h1 h2 h3 h4 h5 hxa hxb
  cases hrc : rightU (.obj (na ++ nb) (xa ++ xb)) with
  | false =>
    rw [hrc] at Q4
    repeat' (first
    | refine wkQ ?_
    | refine wkV ?_
    | (refine TL.call (Enters.plain (by kernel_rfl) (by rfl)) (by rfl) (Q4 _) ?_; (rintro e g6 Ln h6 ⟨k1, k2⟩; have k2 := k2.symm; subst k1; subst k2; (have h06 := h05.trans h6; have Q5 := AK g6 h06; clear Q4); refine CallK.ret ?_))
    | ((with_reducible apply TL.gives_plain); (· kernel_rfl); (· rfl); (· exact Q5 _); (· rfl)) | ((with_reducible apply TW.gives_plain); (· kernel_rfl); (· rfl); (· exact Q5 _); (· rfl))
    | refine wkN0 ?_
    | refine wkN1 ?_
    | refine wkN2 ?_
    | refine wkN3 ?_
    | refine wkG0 ?_
    | refine wkG1 ?_
    | refine wkG2 ?_
    | refine wkG3 ?_
    | refine wkX0 ?_
    | refine wkX1 ?_
    | refine wkX2 ?_
    | refine wkX3 ?_
    | refine wkN0 ?_
    | refine wkN1 ?_
    | refine wkN2 ?_
    | refine wkN3 ?_
    | ((with_reducible apply TA.oneN 0); (· rfl); (· rfl); (· decide +kernel); (· rfl))
    | ((with_reducible apply TA.oneN 1); (· rfl); (· rfl); (· decide +kernel); (· rfl))
    | ((with_reducible apply TA.oneN 2); (· rfl); (· rfl); (· decide +kernel); (· rfl))
    | ((with_reducible apply TA.oneN 3); (· rfl); (· rfl); (· decide +kernel); (· rfl))
    | refine TQ.any leF selF ?_
    | refine TC.region_any 6 (_) (by kernel_rfl) rfl selF ?_ | refine TA.done (by decide +kernel) ?_ | refine TQ.any_panic ?_
    | refine stS ?_ | (refine stB ?_; intro _) | (refine stC ?_; refine And.intro (fun _ => ?_) (fun _ => ?_))
    | apply TC.region_draw (by kernel_rfl) (by kernel_rfl) | refine TW.nil ?_ | ((with_reducible apply TW.pure); (· exact yA); (· rfl)))
    refine TQ.less h06 ?_
    refine TQ.endR1 (L' := []) Tryz.results5 rvA rfl (.refl _) ?_ selF
    exact ⟨rfl, rfl, rfl⟩
  | true =>
  rw [hrc] at Q4
  have za6 := sz_up _ _ 600 za (by decide)
  have zx6 := sz_up _ _ 600 zx (by decide)
  have A1 := fun (g2 : Gh) (h : g.le g2) (v u : Value) (hv : IsJ g2 X v) (hu : IsJ g2 (.obj na xa) u) L => uApply_does 600 X _ v u g2 L (by decide) (by decide) hv hu zx6 za6 lx la (hE.le h) (hT.le h) (hU.le h)
  have A3 := fun (g2 : Gh) (h : g.le g2) (v u : Value) (hv : IsJ g2 X v) (hu : IsJ g2 (.obj (na ++ nb) (xa ++ xb)) u) L => uApply_does 600 X _ v u g2 L (by decide) (by decide) hv hu zx6 zc lx lc (hE.le h) (hT.le h) (hU.le h)
  obtain ⟨r1, r2⟩ := apply_rows (cmp := cmpJ) (plus := plusL) (times := timesL) (by decide) lx zx la za hra hrb hrc
  obtain ⟨e0, o0, ho⟩ : ∃ e0 o0, applyU cmpJ plusL timesL X (.obj na xa) = (e0, o0) := ⟨_, _, rfl⟩
  rw [ho] at A1
  unfold ApplyR at A1 A3
  cases o0 with
  | none =>
    have hne := apply_none (fun a b => (plusL_bd a b).1) (fun a b => (timesL_bd a b).1) ho
    have HE := Hn.mk (show ¬ ((e0 : Nat) : Int) = 0 by omega)
    have HEE := Hn.mk (show ((e0 : Nat) : Int) = (e0 : Nat) from rfl)
    rw [r1 e0 ho] at A3
    dsimp only at A1 A3
    clear r1 r2 ho hne hra hrb hrc za za6 zx zx6 zb zc lx la lb lc
    repeat' (first
    | refine wkQ ?_
    | refine wkV ?_
    | (refine TL.call (Enters.plain (by kernel_rfl) (by rfl)) (by rfl) (Q4 _) ?_; (rintro e g6 Ln h6 ⟨k1, k2⟩; have k2 := k2.symm; subst k1; subst k2; (have h06 := h05.trans h6; have ja6 := ja.le h6 _ _; have jc6 := jc.le h6 _ _; have Q5 := TX g6 h06; clear Q4 ja jc); refine CallK.ret ?_))
    | (refine TL.makes (Enters.plain (by kernel_rfl) (by rfl)) (Q5 _) (by rfl) ?_; (rintro v7 g7 h7 j7; have o7 := j7.one; have h07 := h06.trans h7; have jc7 := jc6.le h7 _ _; have Q6 := A1 g7 h07 _ _ j7 (ja6.le h7 _ _); clear Q5 ja6 jc6 A1))
    | (refine TL.call (Enters.plain (by kernel_rfl) (by rfl)) (by rfl) (Q6 _) ?_; (rintro e g8 Ln h8 ⟨w3, k1, ow3, k2, k3⟩; have k1 := k1.symm; subst k1; subst k2; subst k3; (have h08 := h07.trans h8; have jc8 := jc7.le h8 _ _; have Q7 := TX g8 h08; clear Q6 jc7); refine CallK.ret ?_))
    | (refine TL.makes (Enters.plain (by kernel_rfl) (by rfl)) (Q7 _) (by rfl) ?_; (rintro v9 g9 h9 j9; have o9 := j9.one; have h09 := h08.trans h9; have Q8 := A3 g9 h09 _ _ j9 (jc8.le h9 _ _); clear Q7 jc8 A3))
    | (refine TL.call (Enters.plain (by kernel_rfl) (by rfl)) (by rfl) (Q8 _) ?_; (rintro e ga Ln ha ⟨w3, k1, ow3, k2, k3⟩; have k1 := k1.symm; subst k1; subst k2; subst k3; (have h0a := h09.trans ha; have Q9 := AK ga h0a; clear Q8); refine CallK.ret ?_))
    | ((with_reducible apply TL.gives_plain); (· kernel_rfl); (· rfl); (· exact Q9 _); (· rfl)) | ((with_reducible apply TW.gives_plain); (· kernel_rfl); (· rfl); (· exact Q9 _); (· rfl))
    | refine wkN0 ?_
    | refine wkN1 ?_
    | refine wkN2 ?_
    | refine wkN3 ?_
    | refine wkG0 ?_
    | refine wkG1 ?_
    | refine wkG2 ?_
    | refine wkG3 ?_
    | refine wkX0 ?_
    | refine wkX1 ?_
    | refine wkX2 ?_
    | refine wkX3 ?_
    | refine wkN0 ?_
    | refine wkN1 ?_
    | refine wkN2 ?_
    | refine wkN3 ?_
    | ((with_reducible apply TA.oneN 0); (· rfl); (· rfl); (· decide +kernel); (· rfl))
    | ((with_reducible apply TA.oneN 1); (· rfl); (· rfl); (· decide +kernel); (· rfl))
    | ((with_reducible apply TA.oneN 2); (· rfl); (· rfl); (· decide +kernel); (· rfl))
    | ((with_reducible apply TA.oneN 3); (· rfl); (· rfl); (· decide +kernel); (· rfl))
    | refine TQ.any leF selF ?_
    | refine TC.region_any 6 (_) (by kernel_rfl) rfl selF ?_ | refine TA.done (by decide +kernel) ?_ | refine TQ.any_panic ?_
    | refine stS ?_ | (refine stB ?_; intro _) | (refine stC ?_; refine And.intro (fun _ => ?_) (fun _ => ?_))
    | apply TC.region_draw (by kernel_rfl) (by kernel_rfl) | refine TW.nil ?_ | ((with_reducible apply TW.pure); (· exact yA); (· rfl)))
    refine TQ.less h0a ?_
    refine TQ.endR1 (L' := []) Tryz.results5 rvA rfl (.refl _) ?_ selF
    exact ⟨rfl, rfl, rfl⟩
  | some z =>
    obtain ⟨rfl, _, hx0, _, iz⟩ := apply_inv (by decide) lx zx6 la za6 ho
    have zb8 := sz_up _ _ 800 zb (by decide)
    have A2 := fun (g2 : Gh) (h : g.le g2) (v u : Value) (hv : IsJ g2 z v) (hu : IsJ g2 (.obj nb xb) u) L => uApply_does 800 z _ v u g2 L (by decide) (by decide) hv hu iz.sz zb8 iz.len lb (hE.le h) (hT.le h) (hU.le h)
    rw [r2 0 z ho] at A2
    unfold ApplyR at A2
    obtain ⟨e1, o1, ho1⟩ : ∃ e1 o1, applyU cmpJ plusL timesL X (.obj (na ++ nb) (xa ++ xb)) = (e1, o1) := ⟨_, _, rfl⟩
    rw [ho1] at A2 A3
    cases o1 with
    | none =>
      have hne := apply_none (fun a b => (plusL_bd a b).1) (fun a b => (timesL_bd a b).1) ho1
      have HE := Hn.mk (show ¬ ((e1 : Nat) : Int) = 0 by omega)
      have HEE := Hn.mk (show ((e1 : Nat) : Int) = (e1 : Nat) from rfl)
      dsimp only at A1 A2 A3
      clear r1 r2 ho ho1 hne hra hrb hrc za za6 zx zx6 zb zb8 zc lx la lb lc iz hx0
      repeat' (first
    | refine wkQ ?_
    | refine wkV ?_
    | (refine TL.call (Enters.plain (by kernel_rfl) (by rfl)) (by rfl) (Q4 _) ?_; (rintro e g6 Ln h6 ⟨k1, k2⟩; have k2 := k2.symm; subst k1; subst k2; (have h06 := h05.trans h6; have ja6 := ja.le h6 _ _; have jb6 := jb.le h6 _ _; have jc6 := jc.le h6 _ _; have Q5 := TX g6 h06; clear Q4 ja jb jc); refine CallK.ret ?_))
    | (refine TL.makes (Enters.plain (by kernel_rfl) (by rfl)) (Q5 _) (by rfl) ?_; (rintro v7 g7 h7 j7; have o7 := j7.one; have h07 := h06.trans h7; have jc7 := jc6.le h7 _ _; have jb7 := jb6.le h7 _ _; have Q6 := A1 g7 h07 _ _ j7 (ja6.le h7 _ _); clear Q5 ja6 jb6 jc6 A1))
    | (refine TL.call (Enters.plain (by kernel_rfl) (by rfl)) (by rfl) (Q6 _) ?_; (rintro e g8 Ln h8 ⟨wz, k1, owz, k2, jz⟩; have k1 := k1.symm; subst k1; subst k2; (have h08 := h07.trans h8; have jc8 := jc7.le h8 _ _; have Q7 := A2 g8 h08 _ _ jz (jb7.le h8 _ _); clear Q6 jc7 jb7); refine CallK.ret ?_))
    | (refine TL.call (Enters.plain (by kernel_rfl) (by rfl)) (by rfl) (Q7 _) ?_; (rintro e g9 Ln h9 ⟨w3, k1, ow3, k2, k3⟩; have k1 := k1.symm; subst k1; subst k2; subst k3; (have h09 := h08.trans h9; have jc9 := jc8.le h9 _ _; have Q8 := TX g9 h09; clear Q7 jc8); refine CallK.ret ?_))
    | (refine TL.makes (Enters.plain (by kernel_rfl) (by rfl)) (Q8 _) (by rfl) ?_; (rintro va ga ha ja; have oa := ja.one; have h0a := h09.trans ha; have Q9 := A3 ga h0a _ _ ja (jc9.le ha _ _); clear Q8 jc9 A3))
    | (refine TL.call (Enters.plain (by kernel_rfl) (by rfl)) (by rfl) (Q9 _) ?_; (rintro e gb Ln hb ⟨w3, k1, ow3, k2, k3⟩; have k1 := k1.symm; subst k1; subst k2; subst k3; (have h0b := h0a.trans hb; have Qa := AK gb h0b; clear Q9); refine CallK.ret ?_))
    | ((with_reducible apply TL.gives_plain); (· kernel_rfl); (· rfl); (· exact Qa _); (· rfl)) | ((with_reducible apply TW.gives_plain); (· kernel_rfl); (· rfl); (· exact Qa _); (· rfl))
    | refine wkN0 ?_
    | refine wkN1 ?_
    | refine wkN2 ?_
    | refine wkN3 ?_
    | refine wkG0 ?_
    | refine wkG1 ?_
    | refine wkG2 ?_
    | refine wkG3 ?_
    | refine wkX0 ?_
    | refine wkX1 ?_
    | refine wkX2 ?_
    | refine wkX3 ?_
    | refine wkN0 ?_
    | refine wkN1 ?_
    | refine wkN2 ?_
    | refine wkN3 ?_
    | ((with_reducible apply TA.oneN 0); (· rfl); (· rfl); (· decide +kernel); (· rfl))
    | ((with_reducible apply TA.oneN 1); (· rfl); (· rfl); (· decide +kernel); (· rfl))
    | ((with_reducible apply TA.oneN 2); (· rfl); (· rfl); (· decide +kernel); (· rfl))
    | ((with_reducible apply TA.oneN 3); (· rfl); (· rfl); (· decide +kernel); (· rfl))
    | refine TQ.any leF selF ?_
    | refine TC.region_any 6 (_) (by kernel_rfl) rfl selF ?_ | refine TA.done (by decide +kernel) ?_ | refine TQ.any_panic ?_
    | refine stS ?_ | (refine stB ?_; intro _) | (refine stC ?_; refine And.intro (fun _ => ?_) (fun _ => ?_))
    | apply TC.region_draw (by kernel_rfl) (by kernel_rfl) | refine TW.nil ?_ | ((with_reducible apply TW.pure); (· exact yA); (· rfl)))
      refine TQ.less h0b ?_
      refine TQ.endR1 (L' := []) Tryz.results5 rvA rfl (.refl _) ?_ selF
      exact ⟨rfl, rfl, rfl⟩
    | some w =>
      obtain ⟨rfl, _, _, _, iw⟩ := apply_inv (by decide) lx zx6 lc zc ho1
      have sw := sm_of_sz w _ iw.sz (by decide)
      have SM := fun (g2 : Gh) (h : g.le g2) (v v' : Value) (hv : IsJ g2 w v) (hv' : IsJ g2 w v') L => Same_gives w w v v' g2 L hv hv' sw sw (hT.le h) (hU.le h)
      rw [same_lookR iw.len iw.look] at SM
      dsimp only at A1 A2 A3
      clear r1 r2 ho ho1 hra hrb hrc za za6 zx zx6 zb zb8 zc lx la lb lc iz iw sw hx0
      repeat' (first
    | refine wkQ ?_
    | refine wkV ?_
    | (refine TL.call (Enters.plain (by kernel_rfl) (by rfl)) (by rfl) (Q4 _) ?_; (rintro e g6 Ln h6 ⟨k1, k2⟩; have k2 := k2.symm; subst k1; subst k2; (have h06 := h05.trans h6; have ja6 := ja.le h6 _ _; have jb6 := jb.le h6 _ _; have jc6 := jc.le h6 _ _; have Q5 := TX g6 h06; clear Q4 ja jb jc); refine CallK.ret ?_))
    | (refine TL.makes (Enters.plain (by kernel_rfl) (by rfl)) (Q5 _) (by rfl) ?_; (rintro v7 g7 h7 j7; have o7 := j7.one; have h07 := h06.trans h7; have jc7 := jc6.le h7 _ _; have jb7 := jb6.le h7 _ _; have Q6 := A1 g7 h07 _ _ j7 (ja6.le h7 _ _); clear Q5 ja6 jb6 jc6 A1))
    | (refine TL.call (Enters.plain (by kernel_rfl) (by rfl)) (by rfl) (Q6 _) ?_; (rintro e g8 Ln h8 ⟨wz, k1, owz, k2, jz⟩; have k1 := k1.symm; subst k1; subst k2; (have h08 := h07.trans h8; have jc8 := jc7.le h8 _ _; have Q7 := A2 g8 h08 _ _ jz (jb7.le h8 _ _); clear Q6 jc7 jb7 A2); refine CallK.ret ?_))
    | (refine TL.call (Enters.plain (by kernel_rfl) (by rfl)) (by rfl) (Q7 _) ?_; (rintro e g9 Ln h9 ⟨wt, k1, owt, k2, jt⟩; have k1 := k1.symm; subst k1; subst k2; (have h09 := h08.trans h9; have jc9 := jc8.le h9 _ _; have Q8 := TX g9 h09; clear Q7 jc8); refine CallK.ret ?_))
    | (refine TL.makes (Enters.plain (by kernel_rfl) (by rfl)) (Q8 _) (by rfl) ?_; (rintro va ga ha ja; have oa := ja.one; have h0a := h09.trans ha; have jta := jt.le ha _ _; have Q9 := A3 ga h0a _ _ ja (jc9.le ha _ _); clear Q8 jc9 A3 jt))
    | (refine TL.call (Enters.plain (by kernel_rfl) (by rfl)) (by rfl) (Q9 _) ?_; (rintro e gb Ln hb ⟨ww, k1, oww, k2, jw⟩; have k1 := k1.symm; subst k1; subst k2; (have h0b := h0a.trans hb; have Qa := AK gb h0b; have Qb := SM gb h0b _ _ (jta.le hb _ _) jw; clear Q9); refine CallK.ret ?_))
    | ((with_reducible apply TL.gives_plain); (· kernel_rfl); (· rfl); (· exact Qa _); (· rfl)) | ((with_reducible apply TW.gives_plain); (· kernel_rfl); (· rfl); (· exact Qa _); (· rfl))
    | ((with_reducible apply TL.gives_plain); (· kernel_rfl); (· rfl); (· exact Qb _); (· rfl)) | ((with_reducible apply TW.gives_plain); (· kernel_rfl); (· rfl); (· exact Qb _); (· rfl))
    | refine wkN0 ?_
    | refine wkN1 ?_
    | refine wkN2 ?_
    | refine wkN3 ?_
    | refine wkG0 ?_
    | refine wkG1 ?_
    | refine wkG2 ?_
    | refine wkG3 ?_
    | refine wkX0 ?_
    | refine wkX1 ?_
    | refine wkX2 ?_
    | refine wkX3 ?_
    | refine wkN0 ?_
    | refine wkN1 ?_
    | refine wkN2 ?_
    | refine wkN3 ?_
    | ((with_reducible apply TA.oneN 0); (· rfl); (· rfl); (· decide +kernel); (· rfl))
    | ((with_reducible apply TA.oneN 1); (· rfl); (· rfl); (· decide +kernel); (· rfl))
    | ((with_reducible apply TA.oneN 2); (· rfl); (· rfl); (· decide +kernel); (· rfl))
    | ((with_reducible apply TA.oneN 3); (· rfl); (· rfl); (· decide +kernel); (· rfl))
    | refine TQ.any leF selF ?_
    | refine TC.region_any 6 (_) (by kernel_rfl) rfl selF ?_ | refine TA.done (by decide +kernel) ?_ | refine TQ.any_panic ?_
    | refine stS ?_ | (refine stB ?_; intro _) | (refine stC ?_; refine And.intro (fun _ => ?_) (fun _ => ?_))
    | apply TC.region_draw (by kernel_rfl) (by kernel_rfl) | refine TW.nil ?_ | ((with_reducible apply TW.pure); (· exact yA); (· rfl)))
      refine TQ.less h0b ?_
      refine TQ.endR1 (L' := []) Tryz.results5 rvA rfl (.refl _) ?_ selF
      exact ⟨rfl, rfl, rfl⟩
end Go.Proofs.YthngolfabfijpaaGreatDoor
