/-
  The law UpdateSets.
-/
import Derived.Test.YthngolfabfijpaaGreatDoorHb2
import Derived.Test.YthngolfabfijpaaGreatDoorHb37
import Derived.Test.YthngolfabfijpaaGreatDoorHb38
import Derived.Test.YthngolfabfijpaaGreatDoorHb45
namespace Go.Proofs.YthngolfabfijpaaGreatDoor
open Go.RowKit Go.TL
set_option maxRecDepth 100000

theorem same_lookS {x : J} (lx : lenJ x) (h : lookJ x 0 = 0) : SameJ x x = true := by
  unfold SameJ
  rw [decide_eq_true h, same_refl x (ok_of_look x 0 h lx).1]; rfl
theorem one_len {x : J} {nm p : List UInt8} (lx : lenJ x) : lenJ (.obj [nm] [.obj [p] [x]]) := by simp [lenJ, lenJs, lx]
theorem one_sz {x : J} {nm p : List UInt8} {m : Nat} (_hm : 128 ≤ m) (hn : nm.length ≤ m) (hp : p.length ≤ m) (zx : szJ m x) : szJ m (.obj [nm] [.obj [p] [x]]) := by
  simp [szJ, szJs, zx, hn, hp]; omega
theorem set_putE {d x z : J} {p : List UInt8} {e m : Nat} (hm : 128 ≤ m) (ld : lenJ d) (zd : szJ m d) (lx : lenJ x) (zx : szJ m x) (hp : p.length ≤ m) (h : applyU cmpJ plusL timesL d (.obj [setB] [.obj [p] [x]]) = (e, some z)) : putE d p x = (0, some z) ∧ e = 0 ∧ UInv (m + 200) z := by
  obtain ⟨rfl, hr, h0, ho, iv⟩ := apply_inv hm ld zd (one_len lx) (one_sz hm (Nat.le_trans (by decide) hm) hp zx) h
  rw [apply_obj hr h0 ho, all_one (by decide) (fun e z h => by rw [oneU, if_pos rfl] at h; exact (putE_some h).1), oneU, if_pos rfl] at h
  exact ⟨h, rfl, iv⟩
theorem inc_eq {z : J} {p : List UInt8} {m : Int} (hz : lookJ z 0 = 0) (ho : objJ z = true) (hp : (stepsL p).isSome = true) (hm : heldB m = true) (hk : ∀ e u, reckonU plusL z p (.num m) = (e, some u) → e = 0) : applyU cmpJ plusL timesL z (.obj [incB] [.obj [p] [.num m]]) = reckonU plusL z p (.num m) := by
  have hr : rightU (.obj [incB] [.obj [p] [.num m]]) = true := right_one (by decide +kernel) (by decide +kernel) (by decide) (by unfold mayU; rw [if_pos (.inl rfl)]) hp (by rw [look_num, if_pos hm])
  rw [apply_obj hr hz ho, all_one (by decide) (fun e z h => by rw [oneU, if_neg (by decide), if_neg (by decide), if_pos rfl] at h; exact hk e z h), oneU, if_neg (by decide), if_neg (by decide), if_pos rfl]
theorem plusL_eq (a b : Int) (ha : heldB a = true) (hb : heldB b = true) : plusL a b = if 9000000000000000000 < a + b ∨ a + b < -9000000000000000000 then (0, 12) else (a + b, 0) := by rw [plusL, if_pos ⟨ha, hb⟩]
theorem numV {g : Gh} {x : J} {v : Value} (h : IsJ g x v) : (∃ n, x = .num n ∧ v = .iface 50 (.int .i64 n)) ∨ ((∀ n, x ≠ .num n) ∧ NoT v 50) := by
  cases x with
  | num n => rw [IsJ] at h; exact .inl ⟨n, rfl, h.1⟩
  | list xs => exact .inr ⟨fun _ => by simp, h.noT _ (by kernel_rfl)⟩
  | obj ns xs => exact .inr ⟨fun _ => by simp, h.noT _ (by kernel_rfl)⟩
  | null => exact .inr ⟨fun _ => by simp, h.noT _ (by kernel_rfl)⟩
  | bool b => exact .inr ⟨fun _ => by simp, h.noT _ (by kernel_rfl)⟩
  | text s => exact .inr ⟨fun _ => by simp, h.noT _ (by kernel_rfl)⟩
  | other k => exact .inr ⟨fun _ => by simp, h.noT _ (by kernel_rfl)⟩
set_option maxHeartbeats 64000000 in
theorem lawUpdateSets (x : DV) (p : List UInt8) (y : DV) (cs us : List Value) (g : Gh) (hX : IsV g x cs) (_hp : p.length ≤ 9223372036854775807) (hY : IsV g y us) (hE : GErr g) (hT : GTabs g) (hU : GU8 g) : Gives Tryz.prog 6 #[.agg cs.toArray, str p, .agg us.toArray] g [] (.bool true) := by
  refine .of (Does.of3 Tryz.func6 rfl Tryz.ntmps6 rfl ?_)
  have L1 := fun L => light_gives x cs g L hX
  have L2 := fun L => light_gives y us g L hY
  have l1 := hX.len
  have l2 := hY.len
  cases hx : lightB x with
  | false =>
    rw [hx] at L1
    clear hX hY
    repeat' (first
    | refine wkQ ?_
    | refine wkV ?_
    | ((with_reducible apply TL.gives_plain); (· kernel_rfl); (· rfl); (· exact L1 _); (· rfl)) | ((with_reducible apply TW.gives_plain); (· kernel_rfl); (· rfl); (· exact L1 _); (· rfl))
    | refine stS ?_ | (refine stB ?_; intro _) | (refine stC ?_; refine And.intro (fun _ => ?_) (fun _ => ?_)))
    refine TQ.endR1 (L' := []) Tryz.results6 rvA rfl (.refl _) ?_ selF
    exact ⟨rfl, rfl, rfl⟩
  | true =>
  rw [hx] at L1
  cases hy : lightB y with
  | false =>
    rw [hy] at L2
    clear hX hY
    repeat' (first
    | refine wkQ ?_
    | refine wkV ?_
    | ((with_reducible apply TL.gives_plain); (· kernel_rfl); (· rfl); (· exact L1 _); (· rfl)) | ((with_reducible apply TW.gives_plain); (· kernel_rfl); (· rfl); (· exact L1 _); (· rfl))
    | ((with_reducible apply TL.gives_plain); (· kernel_rfl); (· rfl); (· exact L2 _); (· rfl)) | ((with_reducible apply TW.gives_plain); (· kernel_rfl); (· rfl); (· exact L2 _); (· rfl))
    | refine stS ?_ | (refine stB ?_; intro _) | (refine stC ?_; refine And.intro (fun _ => ?_) (fun _ => ?_)))
    refine TQ.endR1 (L' := []) Tryz.results6 rvA rfl (.refl _) ?_ selF
    exact ⟨rfl, rfl, rfl⟩
  | true =>
  rw [hy] at L2
  by_cases h3 : 200 < p.length
  · clear hX hY
    repeat' (first
    | refine wkQ ?_
    | refine wkV ?_
    | ((with_reducible apply TL.gives_plain); (· kernel_rfl); (· rfl); (· exact L1 _); (· rfl)) | ((with_reducible apply TW.gives_plain); (· kernel_rfl); (· rfl); (· exact L1 _); (· rfl))
    | ((with_reducible apply TL.gives_plain); (· kernel_rfl); (· rfl); (· exact L2 _); (· rfl)) | ((with_reducible apply TW.gives_plain); (· kernel_rfl); (· rfl); (· exact L2 _); (· rfl))
    | refine stS ?_ | (refine stB ?_; intro _) | (refine stC ?_; refine And.intro (fun _ => ?_) (fun _ => ?_)))
    refine TQ.endR1 (L' := []) Tryz.results6 rvA rfl (.refl _) ?_ selF
    exact ⟨rfl, rfl, rfl⟩
  have hp2 : p.length ≤ 200 := by omega
  have wx := wf_of_light hx
  have wy := wf_of_light hy
  obtain ⟨zx, lx⟩ := sz_toJ _ x (Nat.le_refl _) 300 (wfN_of_light hx)
  obtain ⟨zy, ly⟩ := sz_toJ _ y (Nat.le_refl _) 300 (wfN_of_light hy)
  have sy := sm_of_sz _ _ zy (by decide)
  have TX := fun (g2 : Gh) (h : g.le g2) L => told22_makes _ x (Nat.le_refl _) cs g2 L (IsV.le h _ _ hX) wx
  have TY := fun (g2 : Gh) (h : g.le g2) L => told22_makes _ y (Nat.le_refl _) us g2 L (IsV.le h _ _ hY) wy
  have AK := fun (g2 : Gh) (h : g.le g2) L => awake22_gives (g := g2) (L := L) (hE.le h) (hT.le h) (hU.le h)
  have AP := fun (g2 : Gh) (h : g.le g2) (v u : Value) (hv : IsJ g2 (toJ x) v) (hu : IsJ g2 (.obj [setB] [.obj [p] [toJ y]]) u) L => uApply_does 300 (toJ x) _ v u g2 L (by decide) (by decide) hv hu zx (one_sz (by decide) (by decide) (by omega) zy) lx (one_len ly) (hE.le h) (hT.le h) (hU.le h)
  obtain ⟨e0, o0, ho⟩ : ∃ e0 o0, applyU cmpJ plusL timesL (toJ x) (.obj [setB] [.obj [p] [toJ y]]) = (e0, o0) := ⟨_, _, rfl⟩
  rw [ho] at AP
  unfold ApplyR at AP
  cases o0 with
  | none =>
    have hne := apply_none (fun a b => (plusL_bd a b).1) (fun a b => (timesL_bd a b).1) ho
    have HE := Hn.mk (show ¬ ((e0 : Nat) : Int) = 0 by omega)
    dsimp only at AP
    clear ho hne hX hY
    repeat' (first
    | refine wkQ ?_
    | refine wkV ?_
    | ((with_reducible apply TL.gives_plain); (· kernel_rfl); (· rfl); (· exact L1 _); (· rfl)) | ((with_reducible apply TW.gives_plain); (· kernel_rfl); (· rfl); (· exact L1 _); (· rfl))
    | ((with_reducible apply TL.gives_plain); (· kernel_rfl); (· rfl); (· exact L2 _); (· rfl)) | ((with_reducible apply TW.gives_plain); (· kernel_rfl); (· rfl); (· exact L2 _); (· rfl))
    | (refine TL.makes (Enters.plain (by kernel_rfl) (by rfl)) (TX g (.refl _) _) (by rfl) ?_; (rintro v1 g1 h1 j1; have o1 := j1.one; have Q1 := TY g1 h1))
    | (refine TL.makes (Enters.plain (by kernel_rfl) (by rfl)) (Q1 _) (by rfl) ?_; (rintro v2 g2 h2 j2; have o2 := j2.one; have h02 := h1.trans h2; have k1 := j1.le h2 _ _; clear Q1 j1))
    | (refine TL.build_rows (d := 41) (len := 1) (sz := 2) [[str p, v2]] (by rfl) (by rfl) (by rfl) (by rfl) (by rfl) (by rfl) (by rfl) (by rfl) (fun bb => ?_); refine TL.freeze_obj (k := 1) bb 2 .here rfl (by decide) ?_; rintro g3 h3 s3)
    | refine wkN0 ?_
    | refine wkN1 ?_
    | refine wkN2 ?_
    | refine wkN3 ?_
    | refine wkG0 ?_
    | refine wkG1 ?_
    | refine wkG2 ?_
    | refine wkG3 ?_
    | refine wkX0 ?_
    | refine wkX1 ?_
    | refine wkX2 ?_
    | refine wkX3 ?_
    | refine wkN0 ?_
    | refine wkN1 ?_
    | refine wkN2 ?_
    | refine wkN3 ?_
    | ((with_reducible apply TA.oneN 0); (· rfl); (· rfl); (· decide +kernel); (· rfl))
    | ((with_reducible apply TA.oneN 1); (· rfl); (· rfl); (· decide +kernel); (· rfl))
    | ((with_reducible apply TA.oneN 2); (· rfl); (· rfl); (· decide +kernel); (· rfl))
    | ((with_reducible apply TA.oneN 3); (· rfl); (· rfl); (· decide +kernel); (· rfl))
    | refine TQ.any leF selF ?_
    | refine TC.region_any 6 (_) (by kernel_rfl) rfl selF ?_ | refine TA.done (by decide +kernel) ?_ | refine TQ.any_panic ?_
    | refine stS ?_ | (refine stB ?_; intro _) | (refine stC ?_; refine And.intro (fun _ => ?_) (fun _ => ?_))
    | apply TC.region_draw (by kernel_rfl) (by kernel_rfl) | refine TW.nil ?_ | ((with_reducible apply TW.pure); (· exact yA); (· rfl)))
    have j3 := isJ_obj1 s3 (j2.le h3 _ _)
    clear s3
    repeat' (first
    | refine wkQ ?_
    | refine wkV ?_
    | (refine TL.build_rows (d := 44) (len := 1) (sz := 2) [[str setB, .iface 43 (.slice (some ⟨_, 0, none⟩) 1 1)]] (by rfl) (by rfl) (by rfl) (by rfl) (by rfl) (by rfl) (by rfl) (by rfl) (fun bb => ?_); refine TL.freeze_obj (k := 1) bb 2 .here rfl (by decide) ?_; rintro g4 h4 s4)
    | refine stS ?_ | (refine stB ?_; intro _) | (refine stC ?_; refine And.intro (fun _ => ?_) (fun _ => ?_))
    | apply TC.region_draw (by kernel_rfl) (by kernel_rfl) | refine TW.nil ?_ | ((with_reducible apply TW.pure); (· exact yA); (· rfl)))
    have h24 := h3.trans h4
    have h04 := h02.trans h24
    have Q2 := AP g4 h04 _ _ (k1.le h24 _ _) (isJ_obj1 s4 (j3.le h4 _ _))
    have j24 := j2.le h24 _ _
    clear s4 j3 h1 h2 h3 h4 AP L1 L2 TX TY k1 j2
    repeat' (first
    | refine wkQ ?_
    | refine wkV ?_
    | (refine TL.call (Enters.plain (by kernel_rfl) (by rfl)) (by rfl) (Q2 _) ?_; (rintro e g5 Ln h5 ⟨w3, k1, ow3, k2, k3⟩; have k1 := k1.symm; subst k1; subst k2; subst k3; (have h05 := h04.trans h5; have Q3 := AK g5 h05; clear Q2); refine CallK.ret ?_))
    | ((with_reducible apply TL.gives_plain); (· kernel_rfl); (· rfl); (· exact Q3 _); (· rfl)) | ((with_reducible apply TW.gives_plain); (· kernel_rfl); (· rfl); (· exact Q3 _); (· rfl))
    | refine wkN0 ?_
    | refine wkN1 ?_
    | refine wkN2 ?_
    | refine wkN3 ?_
    | refine wkG0 ?_
    | refine wkG1 ?_
    | refine wkG2 ?_
    | refine wkG3 ?_
    | refine wkX0 ?_
    | refine wkX1 ?_
    | refine wkX2 ?_
    | refine wkX3 ?_
    | refine wkN0 ?_
    | refine wkN1 ?_
    | refine wkN2 ?_
    | refine wkN3 ?_
    | ((with_reducible apply TA.oneN 0); (· rfl); (· rfl); (· decide +kernel); (· rfl))
    | ((with_reducible apply TA.oneN 1); (· rfl); (· rfl); (· decide +kernel); (· rfl))
    | ((with_reducible apply TA.oneN 2); (· rfl); (· rfl); (· decide +kernel); (· rfl))
    | ((with_reducible apply TA.oneN 3); (· rfl); (· rfl); (· decide +kernel); (· rfl))
    | refine TQ.any leF selF ?_
    | refine TC.region_any 6 (_) (by kernel_rfl) rfl selF ?_ | refine TA.done (by decide +kernel) ?_ | refine TQ.any_panic ?_
    | refine stS ?_ | (refine stB ?_; intro _) | (refine stC ?_; refine And.intro (fun _ => ?_) (fun _ => ?_))
    | apply TC.region_draw (by kernel_rfl) (by kernel_rfl) | refine TW.nil ?_ | ((with_reducible apply TW.pure); (· exact yA); (· rfl)))
    refine TQ.less h05 ?_
    refine TQ.endR1 (L' := []) Tryz.results6 rvA rfl (.refl _) ?_ selF
    exact ⟨rfl, rfl, rfl⟩
  | some z =>
    obtain ⟨hput, rfl, iz⟩ := set_putE (by decide) lx zx ly zy (by omega) ho
    have hgz := (putE_back lx hput).1
    have hyl : lookJ (toJ y) 0 = 0 := by obtain ⟨_, _, _, _, h, _⟩ := putE_some hput; exact h
    have hst : (stepsL p).isSome = true := by obtain ⟨_, l, h, _⟩ := putE_some hput; rw [h]; rfl
    have GP := fun (g2 : Gh) (h : g.le g2) (v : Value) (hv : IsJ g2 z v) L => get_does p z v g2 L (by omega) hv (sm_of_sz z _ iz.sz (by decide)) (hE.le h) (hT.le h) (hU.le h)
    unfold GetR at GP
    rw [hgz] at GP
    have SM := fun (g2 : Gh) (h : g.le g2) (v v' : Value) (hv : IsJ g2 (toJ y) v) (hv' : IsJ g2 (toJ y) v') L => Same_gives (toJ y) (toJ y) v v' g2 L hv hv' sy sy (hT.le h) (hU.le h)
    rw [same_lookS ly hyl] at SM
    dsimp only at AP GP
    clear hX hY ho
    rcases Classical.em (∃ n, toJ y = .num n) with ⟨n, hn⟩ | hn
    · rw [hn] at hput hgz
      obtain ⟨hb1, hb2, hE1, hE2⟩ := sets_back (plus := plusL) plusL_eq lx hput
      have hbb := heldB_iff.1 hb1
      have jn : ∀ (g2 : Gh) (v : Value), IsJ g2 (toJ y) v → v = .iface 50 (.int .i64 n) := fun g2 v h => by rw [hn, IsJ] at h; exact h.1
      have jm : ∀ (g2 : Gh), IsJ g2 (.num n) (.iface 50 (.int .i64 n)) := fun g2 => isJ_num (by omega)
      have jk : ∀ (g2 : Gh), IsJ g2 (.num (-n)) (.iface 50 (.int .i64 (-n))) := fun g2 => isJ_num (by omega)
      have hI := inc_eq iz.look iz.obj hst hb1 (fun e u h => (hE2 e u h).1)
      have A2 := fun (g2 : Gh) (h : g.le g2) (v u : Value) (hv : IsJ g2 z v) (hu : IsJ g2 (.obj [incB] [.obj [p] [.num n]]) u) L => uApply_does 500 z _ v u g2 L (by decide) (by decide) hv hu iz.sz (one_sz (by decide) (by decide) (by omega) (by rw [szJ]; trivial)) iz.len (one_len (by rw [lenJ]; trivial)) (hE.le h) (hT.le h) (hU.le h)
      obtain ⟨e1, o1, ho1⟩ : ∃ e1 o1, reckonU plusL z p (.num n) = (e1, o1) := ⟨_, _, rfl⟩
      rw [hI, ho1] at A2
      unfold ApplyR at A2
      cases o1 with
      | none =>
        obtain rfl := hE1 e1 ho1
        dsimp only at A2
        clear hE1 hE2 hI ho1 hgz hput hb1 hb2 hbb iz hyl hst jk
        repeat' (first
    | refine wkQ ?_
    | refine wkV ?_
    | ((with_reducible apply TL.gives_plain); (· kernel_rfl); (· rfl); (· exact L1 _); (· rfl)) | ((with_reducible apply TW.gives_plain); (· kernel_rfl); (· rfl); (· exact L1 _); (· rfl))
    | ((with_reducible apply TL.gives_plain); (· kernel_rfl); (· rfl); (· exact L2 _); (· rfl)) | ((with_reducible apply TW.gives_plain); (· kernel_rfl); (· rfl); (· exact L2 _); (· rfl))
    | (refine TL.makes (Enters.plain (by kernel_rfl) (by rfl)) (TX g (.refl _) _) (by rfl) ?_; (rintro v1 g1 h1 j1; have o1 := j1.one; have Q1 := TY g1 h1))
    | (refine TL.makes (Enters.plain (by kernel_rfl) (by rfl)) (Q1 _) (by rfl) ?_; (rintro v2 g2 h2 j2; have o2 := j2.one; have h02 := h1.trans h2; have k1 := j1.le h2 _ _; clear Q1 j1))
    | (refine TL.build_rows (d := 41) (len := 1) (sz := 2) [[str p, v2]] (by rfl) (by rfl) (by rfl) (by rfl) (by rfl) (by rfl) (by rfl) (by rfl) (fun bb => ?_); refine TL.freeze_obj (k := 1) bb 2 .here rfl (by decide) ?_; rintro g3 h3 s3)
    | refine wkN0 ?_
    | refine wkN1 ?_
    | refine wkN2 ?_
    | refine wkN3 ?_
    | refine wkG0 ?_
    | refine wkG1 ?_
    | refine wkG2 ?_
    | refine wkG3 ?_
    | refine wkX0 ?_
    | refine wkX1 ?_
    | refine wkX2 ?_
    | refine wkX3 ?_
    | refine wkN0 ?_
    | refine wkN1 ?_
    | refine wkN2 ?_
    | refine wkN3 ?_
    | ((with_reducible apply TA.oneN 0); (· rfl); (· rfl); (· decide +kernel); (· rfl))
    | ((with_reducible apply TA.oneN 1); (· rfl); (· rfl); (· decide +kernel); (· rfl))
    | ((with_reducible apply TA.oneN 2); (· rfl); (· rfl); (· decide +kernel); (· rfl))
    | ((with_reducible apply TA.oneN 3); (· rfl); (· rfl); (· decide +kernel); (· rfl))
    | refine TQ.any leF selF ?_
    | refine TC.region_any 6 (_) (by kernel_rfl) rfl selF ?_ | refine TA.done (by decide +kernel) ?_ | refine TQ.any_panic ?_
    | refine stS ?_ | (refine stB ?_; intro _) | (refine stC ?_; refine And.intro (fun _ => ?_) (fun _ => ?_))
    | apply TC.region_draw (by kernel_rfl) (by kernel_rfl) | refine TW.nil ?_ | ((with_reducible apply TW.pure); (· exact yA); (· rfl)))
        have j3 := isJ_obj1 s3 (j2.le h3 _ _)
        clear s3
        repeat' (first
    | refine wkQ ?_
    | refine wkV ?_
    | (refine TL.build_rows (d := 44) (len := 1) (sz := 2) [[str setB, .iface 43 (.slice (some ⟨_, 0, none⟩) 1 1)]] (by rfl) (by rfl) (by rfl) (by rfl) (by rfl) (by rfl) (by rfl) (by rfl) (fun bb => ?_); refine TL.freeze_obj (k := 1) bb 2 .here rfl (by decide) ?_; rintro g4 h4 s4)
    | refine stS ?_ | (refine stB ?_; intro _) | (refine stC ?_; refine And.intro (fun _ => ?_) (fun _ => ?_))
    | apply TC.region_draw (by kernel_rfl) (by kernel_rfl) | refine TW.nil ?_ | ((with_reducible apply TW.pure); (· exact yA); (· rfl)))
        have h24 := h3.trans h4
        have h04 := h02.trans h24
        have Q2 := AP g4 h04 _ _ (k1.le h24 _ _) (isJ_obj1 s4 (j3.le h4 _ _))
        have j24 := j2.le h24 _ _
        clear s4 j3 h1 h2 h3 h4 AP L1 L2 TX TY k1 j2
        obtain rfl := jn _ _ j24
        repeat' (first
    | refine wkQ ?_
    | refine wkV ?_
    | (refine TL.call (Enters.plain (by kernel_rfl) (by rfl)) (by rfl) (Q2 _) ?_; (rintro e g5 Ln h5 ⟨wz, k1, ow2, k2, jz⟩; have k1 := k1.symm; subst k1; subst k2; (have h05 := h04.trans h5; have Q3 := GP g5 h05 _ jz; have j25 := j24.le h5 _ _; clear Q2 j24 GP); refine CallK.ret ?_))
    | (refine TL.call (Enters.plain (by kernel_rfl) (by rfl)) (by rfl) (Q3 _) ?_; (rintro e g6 Ln h6 ⟨vg, bg, k1, k2, og, k3, jg⟩; have k2 := k2.symm; subst k1; subst k2; subst k3; (have h06 := h05.trans h6; have jz6 := jz.le h6 _ _; have Q4 := SM g6 h06 _ _ (j25.le h6 _ _) jg; have h56 := h6; clear Q3 j25 SM jz); refine CallK.ret ?_))
    | ((with_reducible apply TL.gives_plain); (· kernel_rfl); (· rfl); (· exact Q4 _); (· rfl)) | ((with_reducible apply TW.gives_plain); (· kernel_rfl); (· rfl); (· exact Q4 _); (· rfl))
    | refine wkN0 ?_
    | refine wkN1 ?_
    | refine wkN2 ?_
    | refine wkN3 ?_
    | refine wkG0 ?_
    | refine wkG1 ?_
    | refine wkG2 ?_
    | refine wkG3 ?_
    | refine wkX0 ?_
    | refine wkX1 ?_
    | refine wkX2 ?_
    | refine wkX3 ?_
    | refine wkN0 ?_
    | refine wkN1 ?_
    | refine wkN2 ?_
    | refine wkN3 ?_
    | ((with_reducible apply TA.oneN 0); (· rfl); (· rfl); (· decide +kernel); (· rfl))
    | ((with_reducible apply TA.oneN 1); (· rfl); (· rfl); (· decide +kernel); (· rfl))
    | ((with_reducible apply TA.oneN 2); (· rfl); (· rfl); (· decide +kernel); (· rfl))
    | ((with_reducible apply TA.oneN 3); (· rfl); (· rfl); (· decide +kernel); (· rfl))
    | refine TQ.any leF selF ?_
    | refine TC.region_any 6 (_) (by kernel_rfl) rfl selF ?_ | refine TA.done (by decide +kernel) ?_ | refine TQ.any_panic ?_
    | refine stS ?_ | (refine stB ?_; intro _) | (refine stC ?_; refine And.intro (fun _ => ?_) (fun _ => ?_))
    | apply TC.region_draw (by kernel_rfl) (by kernel_rfl) | refine TW.nil ?_ | ((with_reducible apply TW.pure); (· exact yA); (· rfl))
    | (refine TL.build_rows (d := 84) (len := 1) (sz := 2) [[str p, .iface 50 (.int .i64 n)]] (by rfl) (by rfl) (by rfl) (by rfl) (by rfl) (by rfl) (by rfl) (by rfl) (fun bb => ?_); refine TL.freeze_obj (k := 1) bb 2 .here rfl (by decide) ?_; rintro g7 h7 s7))
        have h07 := h06.trans h7
        have j7 := isJ_obj1 s7 (jm _)
        clear s7 Q4
        repeat' (first
    | refine wkQ ?_
    | refine wkV ?_
    | (refine TL.build_rows (d := 87) (len := 1) (sz := 2) [[str incB, .iface 43 (.slice (some ⟨_, 0, none⟩) 1 1)]] (by rfl) (by rfl) (by rfl) (by rfl) (by rfl) (by rfl) (by rfl) (by rfl) (fun bb => ?_); refine TL.freeze_obj (k := 1) bb 2 .here rfl (by decide) ?_; rintro g8 h8 s8)
    | refine stS ?_ | (refine stB ?_; intro _) | (refine stC ?_; refine And.intro (fun _ => ?_) (fun _ => ?_))
    | apply TC.region_draw (by kernel_rfl) (by kernel_rfl) | refine TW.nil ?_ | ((with_reducible apply TW.pure); (· exact yA); (· rfl)))
        have h08 := h07.trans h8
        have Q5 := A2 g8 h08 _ _ (jz6.le (h7.trans h8) _ _) (isJ_obj1 s8 (j7.le h8 _ _))
        clear s8 j7 jz6 A2
        repeat' (first
    | refine wkQ ?_
    | refine wkV ?_
    | (refine TL.call (Enters.plain (by kernel_rfl) (by rfl)) (by rfl) (Q5 _) ?_; (rintro e g9 Ln h9 ⟨w3, k1, ow3, k2, k3⟩; have k1 := k1.symm; subst k1; subst k2; subst k3; (have h09 := h08.trans h9; have Q6 := AK g9 h09; clear Q5); refine CallK.ret ?_))
    | ((with_reducible apply TL.gives_plain); (· kernel_rfl); (· rfl); (· exact Q6 _); (· rfl)) | ((with_reducible apply TW.gives_plain); (· kernel_rfl); (· rfl); (· exact Q6 _); (· rfl))
    | refine wkN0 ?_
    | refine wkN1 ?_
    | refine wkN2 ?_
    | refine wkN3 ?_
    | refine wkG0 ?_
    | refine wkG1 ?_
    | refine wkG2 ?_
    | refine wkG3 ?_
    | refine wkX0 ?_
    | refine wkX1 ?_
    | refine wkX2 ?_
    | refine wkX3 ?_
    | refine wkN0 ?_
    | refine wkN1 ?_
    | refine wkN2 ?_
    | refine wkN3 ?_
    | ((with_reducible apply TA.oneN 0); (· rfl); (· rfl); (· decide +kernel); (· rfl))
    | ((with_reducible apply TA.oneN 1); (· rfl); (· rfl); (· decide +kernel); (· rfl))
    | ((with_reducible apply TA.oneN 2); (· rfl); (· rfl); (· decide +kernel); (· rfl))
    | ((with_reducible apply TA.oneN 3); (· rfl); (· rfl); (· decide +kernel); (· rfl))
    | refine TQ.any leF selF ?_
    | refine TC.region_any 6 (_) (by kernel_rfl) rfl selF ?_ | refine TA.done (by decide +kernel) ?_ | refine TQ.any_panic ?_
    | refine stS ?_ | (refine stB ?_; intro _) | (refine stC ?_; refine And.intro (fun _ => ?_) (fun _ => ?_))
    | apply TC.region_draw (by kernel_rfl) (by kernel_rfl) | refine TW.nil ?_ | ((with_reducible apply TW.pure); (· exact yA); (· rfl)))
        refine TQ.less h09 ?_
        refine TQ.endR1 (L' := []) Tryz.results6 rvA rfl (.refl _) ?_ selF
        exact ⟨rfl, rfl, rfl⟩
      | some u =>
        obtain ⟨rfl, hgu, hr2⟩ := hE2 e1 u ho1
        obtain ⟨_, hr3, _, _, iu⟩ := apply_inv (cmp := cmpJ) (plus := plusL) (times := timesL) (m := 500) (by decide) iz.len iz.sz (one_len (nm := incB) (p := p) (x := .num n) (by rw [lenJ]; trivial)) (one_sz (by decide) (by decide) (by omega) (by rw [szJ]; trivial)) (hI.trans ho1)
        have hI2 := inc_eq iu.look iu.obj hst hb2 (fun e w h => by rw [hr2] at h; exact (Prod.mk.inj h).1.symm)
        have A3 := fun (g2 : Gh) (h : g.le g2) (v w : Value) (hv : IsJ g2 u v) (hw : IsJ g2 (.obj [incB] [.obj [p] [.num (-n)]]) w) L => uApply_does 700 u _ v w g2 L (by decide) (by decide) hv hw iu.sz (one_sz (by decide) (by decide) (by omega) (by rw [szJ]; trivial)) iu.len (one_len (by rw [lenJ]; trivial)) (hE.le h) (hT.le h) (hU.le h)
        rw [hI2, hr2] at A3
        unfold ApplyR at A3
        dsimp only at A2 A3
        have sz := sm_of_sz z _ iz.sz (by decide)
        have SZ := fun (g2 : Gh) (h : g.le g2) (v v' : Value) (hv : IsJ g2 z v) (hv' : IsJ g2 z v') L => Same_gives z z v v' g2 L hv hv' sz sz (hT.le h) (hU.le h)
        rw [same_lookS iz.len iz.look] at SZ
        have HN := Hn.mk (show IntKind.i64.wrap (0 - n) = -n by rw [IntWalk.i64_in _ (by omega)]; omega)
        clear hE1 hE2 hI hI2 ho1 hgz hput hb1 hb2 hbb iz iu hyl hst hgu hr2 hr3 sz
        repeat' (first
    | refine wkQ ?_
    | refine wkV ?_
    | ((with_reducible apply TL.gives_plain); (· kernel_rfl); (· rfl); (· exact L1 _); (· rfl)) | ((with_reducible apply TW.gives_plain); (· kernel_rfl); (· rfl); (· exact L1 _); (· rfl))
    | ((with_reducible apply TL.gives_plain); (· kernel_rfl); (· rfl); (· exact L2 _); (· rfl)) | ((with_reducible apply TW.gives_plain); (· kernel_rfl); (· rfl); (· exact L2 _); (· rfl))
    | (refine TL.makes (Enters.plain (by kernel_rfl) (by rfl)) (TX g (.refl _) _) (by rfl) ?_; (rintro v1 g1 h1 j1; have o1 := j1.one; have Q1 := TY g1 h1))
    | (refine TL.makes (Enters.plain (by kernel_rfl) (by rfl)) (Q1 _) (by rfl) ?_; (rintro v2 g2 h2 j2; have o2 := j2.one; have h02 := h1.trans h2; have k1 := j1.le h2 _ _; clear Q1 j1))
    | (refine TL.build_rows (d := 41) (len := 1) (sz := 2) [[str p, v2]] (by rfl) (by rfl) (by rfl) (by rfl) (by rfl) (by rfl) (by rfl) (by rfl) (fun bb => ?_); refine TL.freeze_obj (k := 1) bb 2 .here rfl (by decide) ?_; rintro g3 h3 s3)
    | refine wkN0 ?_
    | refine wkN1 ?_
    | refine wkN2 ?_
    | refine wkN3 ?_
    | refine wkG0 ?_
    | refine wkG1 ?_
    | refine wkG2 ?_
    | refine wkG3 ?_
    | refine wkX0 ?_
    | refine wkX1 ?_
    | refine wkX2 ?_
    | refine wkX3 ?_
    | refine wkN0 ?_
    | refine wkN1 ?_
    | refine wkN2 ?_
    | refine wkN3 ?_
    | ((with_reducible apply TA.oneN 0); (· rfl); (· rfl); (· decide +kernel); (· rfl))
    | ((with_reducible apply TA.oneN 1); (· rfl); (· rfl); (· decide +kernel); (· rfl))
    | ((with_reducible apply TA.oneN 2); (· rfl); (· rfl); (· decide +kernel); (· rfl))
    | ((with_reducible apply TA.oneN 3); (· rfl); (· rfl); (· decide +kernel); (· rfl))
    | refine TQ.any leF selF ?_
    | refine TC.region_any 6 (_) (by kernel_rfl) rfl selF ?_ | refine TA.done (by decide +kernel) ?_ | refine TQ.any_panic ?_
    | refine stS ?_ | (refine stB ?_; intro _) | (refine stC ?_; refine And.intro (fun _ => ?_) (fun _ => ?_))
    | apply TC.region_draw (by kernel_rfl) (by kernel_rfl) | refine TW.nil ?_ | ((with_reducible apply TW.pure); (· exact yA); (· rfl)))
        have j3 := isJ_obj1 s3 (j2.le h3 _ _)
        clear s3
        repeat' (first
    | refine wkQ ?_
    | refine wkV ?_
    | (refine TL.build_rows (d := 44) (len := 1) (sz := 2) [[str setB, .iface 43 (.slice (some ⟨_, 0, none⟩) 1 1)]] (by rfl) (by rfl) (by rfl) (by rfl) (by rfl) (by rfl) (by rfl) (by rfl) (fun bb => ?_); refine TL.freeze_obj (k := 1) bb 2 .here rfl (by decide) ?_; rintro g4 h4 s4)
    | refine stS ?_ | (refine stB ?_; intro _) | (refine stC ?_; refine And.intro (fun _ => ?_) (fun _ => ?_))
    | apply TC.region_draw (by kernel_rfl) (by kernel_rfl) | refine TW.nil ?_ | ((with_reducible apply TW.pure); (· exact yA); (· rfl)))
        have h24 := h3.trans h4
        have h04 := h02.trans h24
        have Q2 := AP g4 h04 _ _ (k1.le h24 _ _) (isJ_obj1 s4 (j3.le h4 _ _))
        have j24 := j2.le h24 _ _
        clear s4 j3 h1 h2 h3 h4 AP L1 L2 TX TY k1 j2
        obtain rfl := jn _ _ j24
        repeat' (first
    | refine wkQ ?_
    | refine wkV ?_
    | (refine TL.call (Enters.plain (by kernel_rfl) (by rfl)) (by rfl) (Q2 _) ?_; (rintro e g5 Ln h5 ⟨wz, k1, ow2, k2, jz⟩; have k1 := k1.symm; subst k1; subst k2; (have h05 := h04.trans h5; have Q3 := GP g5 h05 _ jz; have j25 := j24.le h5 _ _; clear Q2 j24 GP); refine CallK.ret ?_))
    | (refine TL.call (Enters.plain (by kernel_rfl) (by rfl)) (by rfl) (Q3 _) ?_; (rintro e g6 Ln h6 ⟨vg, bg, k1, k2, og, k3, jg⟩; have k2 := k2.symm; subst k1; subst k2; subst k3; (have h06 := h05.trans h6; have jz6 := jz.le h6 _ _; have Q4 := SM g6 h06 _ _ (j25.le h6 _ _) jg; have h56 := h6; clear Q3 j25 SM jz); refine CallK.ret ?_))
    | ((with_reducible apply TL.gives_plain); (· kernel_rfl); (· rfl); (· exact Q4 _); (· rfl)) | ((with_reducible apply TW.gives_plain); (· kernel_rfl); (· rfl); (· exact Q4 _); (· rfl))
    | refine wkN0 ?_
    | refine wkN1 ?_
    | refine wkN2 ?_
    | refine wkN3 ?_
    | refine wkG0 ?_
    | refine wkG1 ?_
    | refine wkG2 ?_
    | refine wkG3 ?_
    | refine wkX0 ?_
    | refine wkX1 ?_
    | refine wkX2 ?_
    | refine wkX3 ?_
    | refine wkN0 ?_
    | refine wkN1 ?_
    | refine wkN2 ?_
    | refine wkN3 ?_
    | ((with_reducible apply TA.oneN 0); (· rfl); (· rfl); (· decide +kernel); (· rfl))
    | ((with_reducible apply TA.oneN 1); (· rfl); (· rfl); (· decide +kernel); (· rfl))
    | ((with_reducible apply TA.oneN 2); (· rfl); (· rfl); (· decide +kernel); (· rfl))
    | ((with_reducible apply TA.oneN 3); (· rfl); (· rfl); (· decide +kernel); (· rfl))
    | refine TQ.any leF selF ?_
    | refine TC.region_any 6 (_) (by kernel_rfl) rfl selF ?_ | refine TA.done (by decide +kernel) ?_ | refine TQ.any_panic ?_
    | refine stS ?_ | (refine stB ?_; intro _) | (refine stC ?_; refine And.intro (fun _ => ?_) (fun _ => ?_))
    | apply TC.region_draw (by kernel_rfl) (by kernel_rfl) | refine TW.nil ?_ | ((with_reducible apply TW.pure); (· exact yA); (· rfl))
    | (refine TL.build_rows (d := 84) (len := 1) (sz := 2) [[str p, .iface 50 (.int .i64 n)]] (by rfl) (by rfl) (by rfl) (by rfl) (by rfl) (by rfl) (by rfl) (by rfl) (fun bb => ?_); refine TL.freeze_obj (k := 1) bb 2 .here rfl (by decide) ?_; rintro g7 h7 s7))
        have h07 := h06.trans h7
        have j7 := isJ_obj1 s7 (jm _)
        clear s7 Q4
        repeat' (first
    | refine wkQ ?_
    | refine wkV ?_
    | (refine TL.build_rows (d := 87) (len := 1) (sz := 2) [[str incB, .iface 43 (.slice (some ⟨_, 0, none⟩) 1 1)]] (by rfl) (by rfl) (by rfl) (by rfl) (by rfl) (by rfl) (by rfl) (by rfl) (fun bb => ?_); refine TL.freeze_obj (k := 1) bb 2 .here rfl (by decide) ?_; rintro g8 h8 s8)
    | refine stS ?_ | (refine stB ?_; intro _) | (refine stC ?_; refine And.intro (fun _ => ?_) (fun _ => ?_))
    | apply TC.region_draw (by kernel_rfl) (by kernel_rfl) | refine TW.nil ?_ | ((with_reducible apply TW.pure); (· exact yA); (· rfl)))
        have h08 := h07.trans h8
        have jz8 := jz6.le (h7.trans h8) _ _
        have Q5 := A2 g8 h08 _ _ jz8 (isJ_obj1 s8 (j7.le h8 _ _))
        clear s8 j7 jz6 A2
        repeat' (first
    | refine wkQ ?_
    | refine wkV ?_
    | (refine TL.call (Enters.plain (by kernel_rfl) (by rfl)) (by rfl) (Q5 _) ?_; (rintro e g9 Ln h9 ⟨wu, k1, owu, k2, ju⟩; have k1 := k1.symm; subst k1; subst k2; (have h09 := h08.trans h9; have jz9 := jz8.le h9 _ _; clear Q5 jz8); refine CallK.ret ?_))
    | ((with_reducible apply TL.pure (d := 103) (v := .int .i64 (-n))); (· exact Y.neg rfl HN.out); (· rfl)) | ((with_reducible apply TW.pure (d := 103) (v := .int .i64 (-n))); (· exact Y.neg rfl HN.out); (· rfl))
    | refine stS ?_ | (refine stB ?_; intro _) | (refine stC ?_; refine And.intro (fun _ => ?_) (fun _ => ?_))
    | apply TC.region_draw (by kernel_rfl) (by kernel_rfl) | refine TW.nil ?_ | ((with_reducible apply TW.pure); (· exact yA); (· rfl))
    | (refine TL.build_rows (d := 106) (len := 1) (sz := 2) [[str p, .iface 50 (.int .i64 (-n))]] (by rfl) (by rfl) (by rfl) (by rfl) (by rfl) (by rfl) (by rfl) (by rfl) (fun bb => ?_); refine TL.freeze_obj (k := 1) bb 2 .here rfl (by decide) ?_; rintro ga ha sa))
        have h0a := h09.trans ha
        have ja := isJ_obj1 sa (jk _)
        clear sa
        repeat' (first
    | refine wkQ ?_
    | refine wkV ?_
    | (refine TL.build_rows (d := 109) (len := 1) (sz := 2) [[str incB, .iface 43 (.slice (some ⟨_, 0, none⟩) 1 1)]] (by rfl) (by rfl) (by rfl) (by rfl) (by rfl) (by rfl) (by rfl) (by rfl) (fun bb => ?_); refine TL.freeze_obj (k := 1) bb 2 .here rfl (by decide) ?_; rintro gb hb sb)
    | refine stS ?_ | (refine stB ?_; intro _) | (refine stC ?_; refine And.intro (fun _ => ?_) (fun _ => ?_))
    | apply TC.region_draw (by kernel_rfl) (by kernel_rfl) | refine TW.nil ?_ | ((with_reducible apply TW.pure); (· exact yA); (· rfl)))
        have h0b := h0a.trans hb
        have h9b := ha.trans hb
        have Q6 := A3 gb h0b _ _ (ju.le h9b _ _) (isJ_obj1 sb (ja.le hb _ _))
        have jzb := jz9.le h9b _ _
        clear sb ja ju A3 jz9
        repeat' (first
    | refine wkQ ?_
    | refine wkV ?_
    | (refine TL.call (Enters.plain (by kernel_rfl) (by rfl)) (by rfl) (Q6 _) ?_; (rintro e gc Ln hc ⟨ww, k1, oww, k2, jw⟩; have k1 := k1.symm; subst k1; subst k2; (have h0c := h0b.trans hc; have Q7 := SZ gc h0c _ _ jw (jzb.le hc _ _); have Q8 := AK gc h0c; clear Q6); refine CallK.ret ?_))
    | ((with_reducible apply TL.gives_plain); (· kernel_rfl); (· rfl); (· exact Q7 _); (· rfl)) | ((with_reducible apply TW.gives_plain); (· kernel_rfl); (· rfl); (· exact Q7 _); (· rfl))
    | ((with_reducible apply TL.gives_plain); (· kernel_rfl); (· rfl); (· exact Q8 _); (· rfl)) | ((with_reducible apply TW.gives_plain); (· kernel_rfl); (· rfl); (· exact Q8 _); (· rfl))
    | refine wkN0 ?_
    | refine wkN1 ?_
    | refine wkN2 ?_
    | refine wkN3 ?_
    | refine wkG0 ?_
    | refine wkG1 ?_
    | refine wkG2 ?_
    | refine wkG3 ?_
    | refine wkX0 ?_
    | refine wkX1 ?_
    | refine wkX2 ?_
    | refine wkX3 ?_
    | refine wkN0 ?_
    | refine wkN1 ?_
    | refine wkN2 ?_
    | refine wkN3 ?_
    | ((with_reducible apply TA.oneN 0); (· rfl); (· rfl); (· decide +kernel); (· rfl))
    | ((with_reducible apply TA.oneN 1); (· rfl); (· rfl); (· decide +kernel); (· rfl))
    | ((with_reducible apply TA.oneN 2); (· rfl); (· rfl); (· decide +kernel); (· rfl))
    | ((with_reducible apply TA.oneN 3); (· rfl); (· rfl); (· decide +kernel); (· rfl))
    | refine TQ.any leF selF ?_
    | refine TC.region_any 6 (_) (by kernel_rfl) rfl selF ?_ | refine TA.done (by decide +kernel) ?_ | refine TQ.any_panic ?_
    | refine stS ?_ | (refine stB ?_; intro _) | (refine stC ?_; refine And.intro (fun _ => ?_) (fun _ => ?_))
    | apply TC.region_draw (by kernel_rfl) (by kernel_rfl) | refine TW.nil ?_ | ((with_reducible apply TW.pure); (· exact yA); (· rfl)))
        refine TQ.less h0c ?_
        refine TQ.endR1 (L' := []) Tryz.results6 rvA rfl (.refl _) ?_ selF
        exact ⟨rfl, rfl, rfl⟩
    · have hno : ∀ {g2 : Gh} {v : Value}, IsJ g2 (toJ y) v → NoT v 50 := fun hv => by
        rcases numV hv with ⟨n, h, _⟩ | ⟨_, h⟩
        · exact absurd ⟨n, h⟩ hn
        · exact h
      clear hgz hst hput iz hyl hn
      repeat' (first
    | refine wkQ ?_
    | refine wkV ?_
    | ((with_reducible apply TL.gives_plain); (· kernel_rfl); (· rfl); (· exact L1 _); (· rfl)) | ((with_reducible apply TW.gives_plain); (· kernel_rfl); (· rfl); (· exact L1 _); (· rfl))
    | ((with_reducible apply TL.gives_plain); (· kernel_rfl); (· rfl); (· exact L2 _); (· rfl)) | ((with_reducible apply TW.gives_plain); (· kernel_rfl); (· rfl); (· exact L2 _); (· rfl))
    | (refine TL.makes (Enters.plain (by kernel_rfl) (by rfl)) (TX g (.refl _) _) (by rfl) ?_; (rintro v1 g1 h1 j1; have o1 := j1.one; have Q1 := TY g1 h1))
    | (refine TL.makes (Enters.plain (by kernel_rfl) (by rfl)) (Q1 _) (by rfl) ?_; (rintro v2 g2 h2 j2; have o2 := j2.one; have h02 := h1.trans h2; have k1 := j1.le h2 _ _; clear Q1 j1))
    | (refine TL.build_rows (d := 41) (len := 1) (sz := 2) [[str p, v2]] (by rfl) (by rfl) (by rfl) (by rfl) (by rfl) (by rfl) (by rfl) (by rfl) (fun bb => ?_); refine TL.freeze_obj (k := 1) bb 2 .here rfl (by decide) ?_; rintro g3 h3 s3)
    | refine wkN0 ?_
    | refine wkN1 ?_
    | refine wkN2 ?_
    | refine wkN3 ?_
    | refine wkG0 ?_
    | refine wkG1 ?_
    | refine wkG2 ?_
    | refine wkG3 ?_
    | refine wkX0 ?_
    | refine wkX1 ?_
    | refine wkX2 ?_
    | refine wkX3 ?_
    | refine wkN0 ?_
    | refine wkN1 ?_
    | refine wkN2 ?_
    | refine wkN3 ?_
    | ((with_reducible apply TA.oneN 0); (· rfl); (· rfl); (· decide +kernel); (· rfl))
    | ((with_reducible apply TA.oneN 1); (· rfl); (· rfl); (· decide +kernel); (· rfl))
    | ((with_reducible apply TA.oneN 2); (· rfl); (· rfl); (· decide +kernel); (· rfl))
    | ((with_reducible apply TA.oneN 3); (· rfl); (· rfl); (· decide +kernel); (· rfl))
    | refine TQ.any leF selF ?_
    | refine TC.region_any 6 (_) (by kernel_rfl) rfl selF ?_ | refine TA.done (by decide +kernel) ?_ | refine TQ.any_panic ?_
    | refine stS ?_ | (refine stB ?_; intro _) | (refine stC ?_; refine And.intro (fun _ => ?_) (fun _ => ?_))
    | apply TC.region_draw (by kernel_rfl) (by kernel_rfl) | refine TW.nil ?_ | ((with_reducible apply TW.pure); (· exact yA); (· rfl)))
      have j3 := isJ_obj1 s3 (j2.le h3 _ _)
      clear s3
      repeat' (first
    | refine wkQ ?_
    | refine wkV ?_
    | (refine TL.build_rows (d := 44) (len := 1) (sz := 2) [[str setB, .iface 43 (.slice (some ⟨_, 0, none⟩) 1 1)]] (by rfl) (by rfl) (by rfl) (by rfl) (by rfl) (by rfl) (by rfl) (by rfl) (fun bb => ?_); refine TL.freeze_obj (k := 1) bb 2 .here rfl (by decide) ?_; rintro g4 h4 s4)
    | refine stS ?_ | (refine stB ?_; intro _) | (refine stC ?_; refine And.intro (fun _ => ?_) (fun _ => ?_))
    | apply TC.region_draw (by kernel_rfl) (by kernel_rfl) | refine TW.nil ?_ | ((with_reducible apply TW.pure); (· exact yA); (· rfl)))
      have h24 := h3.trans h4
      have h04 := h02.trans h24
      have Q2 := AP g4 h04 _ _ (k1.le h24 _ _) (isJ_obj1 s4 (j3.le h4 _ _))
      have j24 := j2.le h24 _ _
      clear s4 j3 h1 h2 h3 h4 AP L1 L2 TX TY k1 j2
      have ht := hno j24
      clear hno
      repeat' (first
    | refine wkQ ?_
    | refine wkV ?_
    | (refine TL.call (Enters.plain (by kernel_rfl) (by rfl)) (by rfl) (Q2 _) ?_; (rintro e g5 Ln h5 ⟨wz, k1, ow2, k2, jz⟩; have k1 := k1.symm; subst k1; subst k2; (have h05 := h04.trans h5; have Q3 := GP g5 h05 _ jz; have j25 := j24.le h5 _ _; clear Q2 j24 GP); refine CallK.ret ?_))
    | (refine TL.call (Enters.plain (by kernel_rfl) (by rfl)) (by rfl) (Q3 _) ?_; (rintro e g6 Ln h6 ⟨vg, bg, k1, k2, og, k3, jg⟩; have k2 := k2.symm; subst k1; subst k2; subst k3; (have h06 := h05.trans h6; have Q4 := SM g6 h06 _ _ (j25.le h6 _ _) jg; have Q5 := AK g6 h06; clear Q3 j25 SM AK); refine CallK.ret ?_))
    | ((with_reducible apply TL.gives_plain); (· kernel_rfl); (· rfl); (· exact Q4 _); (· rfl)) | ((with_reducible apply TW.gives_plain); (· kernel_rfl); (· rfl); (· exact Q4 _); (· rfl))
    | ((with_reducible apply TL.gives_plain); (· kernel_rfl); (· rfl); (· exact Q5 _); (· rfl)) | ((with_reducible apply TW.gives_plain); (· kernel_rfl); (· rfl); (· exact Q5 _); (· rfl))
    | ((with_reducible apply TL.pure (d := 72) (v := .tuple #[.int .i64 0, .bool false])); (· exact Y.assert_noT rfl ht); (· rfl)) | ((with_reducible apply TW.pure (d := 72) (v := .tuple #[.int .i64 0, .bool false])); (· exact Y.assert_noT rfl ht); (· rfl))
    | refine wkN0 ?_
    | refine wkN1 ?_
    | refine wkN2 ?_
    | refine wkN3 ?_
    | refine wkG0 ?_
    | refine wkG1 ?_
    | refine wkG2 ?_
    | refine wkG3 ?_
    | refine wkX0 ?_
    | refine wkX1 ?_
    | refine wkX2 ?_
    | refine wkX3 ?_
    | refine wkN0 ?_
    | refine wkN1 ?_
    | refine wkN2 ?_
    | refine wkN3 ?_
    | ((with_reducible apply TA.oneN 0); (· rfl); (· rfl); (· decide +kernel); (· rfl))
    | ((with_reducible apply TA.oneN 1); (· rfl); (· rfl); (· decide +kernel); (· rfl))
    | ((with_reducible apply TA.oneN 2); (· rfl); (· rfl); (· decide +kernel); (· rfl))
    | ((with_reducible apply TA.oneN 3); (· rfl); (· rfl); (· decide +kernel); (· rfl))
    | refine TQ.any leF selF ?_
    | refine TC.region_any 6 (_) (by kernel_rfl) rfl selF ?_ | refine TA.done (by decide +kernel) ?_ | refine TQ.any_panic ?_
    | refine stS ?_ | (refine stB ?_; intro _) | (refine stC ?_; refine And.intro (fun _ => ?_) (fun _ => ?_))
    | apply TC.region_draw (by kernel_rfl) (by kernel_rfl) | refine TW.nil ?_ | ((with_reducible apply TW.pure); (· exact yA); (· rfl)))
      refine TQ.less h06 ?_
      refine TQ.endR1 (L' := []) Tryz.results6 rvA rfl (.refl _) ?_ selF
      exact ⟨rfl, rfl, rfl⟩
end Go.Proofs.YthngolfabfijpaaGreatDoor
