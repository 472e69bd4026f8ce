/-
  The walk of the document's Depth. The law JsonPrints.
-/
import Derived.Test.YtfmadoeadmclbaaGreatDoorHp1
import Derived.Test.YtfmadoeadmclbaaGreatDoorHp39
import Derived.Test.YtfmadoeadmclbaaGreatDoorHp36
import Derived.Test.YtfmadoeadmclbaaGreatDoorHp37
import Derived.Test.YtfmadoeadmclbaaGreatDoorHp41
import Derived.Test.YtfmadoeadmclbaaGreatDoorHp43
import Derived.Test.YtfmadoeadmclbaaGreatDoorHp45
namespace Go.Proofs.YtfmadoeadmclbaaGreatDoor
open Go.RowKit Go.TL
set_option maxRecDepth 100000

theorem depDs_get : ∀ {l : List DV} {i : Nat} {x : DV}, l[i]? = some x → depD x ≤ depDs l
  | [], _, _, h => by simp at h
  | y :: r, 0, x, h => by
    obtain rfl : y = x := by simpa using h
    rw [depDs]; omega
  | y :: r, i + 1, x, h => by
    have := depDs_get (l := r) (i := i) (x := x) (by simpa using h)
    rw [depDs]; omega
theorem depDs_at {l : List DV} {i : Nat} {x : DV} (h : l[i]? = some x) : depDs (l.drop i) = max (depD x) (depDs (l.drop (i + 1))) := by
  rw [drop_of_get h, depDs]
set_option maxHeartbeats 16000000 in
theorem rDepth_gives : ∀ (N : Nat) (x : DV), dsz x ≤ N → ∀ (cs : List Value) (g : Gh) (L : List Ent), IsV g x cs → depD x ≤ 1000 → Gives Tryz.prog 24 #[.agg cs.toArray] g L (.int .i64 (depD x : Nat))
  | 0, .mk .., h, _, _, _, _, _ => by rw [dsz] at h; omega
  | N + 1, .mk k b n s items names, hN, cs, g, L, hV, hD => by
    have IH := rDepth_gives N
    rw [dsz] at hN
    refine .of (Does.of1 Tryz.func24 rfl Tryz.ntmps24 rfl ?_)
    rw [IsV] at hV
    obtain ⟨vi, vn, flat, rfl, _, _, _, hS, hil, hI, hSn, _, _⟩ := hV
    obtain ⟨ai, ci, rfl⟩ := hS.slice
    obtain ⟨an, cn, rfl⟩ := hSn.slice
    rw [depD] at hD ⊢
    by_cases hk : k < 4
    · rw [if_pos hk]
      clear hS hI hSn IH hil
      repeat' (first
    | ((with_reducible apply TL.pure); (· exact yV); (· rfl)) | ((with_reducible apply TW.pure); (· exact yV); (· rfl))
    | ((with_reducible apply TL.pure); (· exact yA); (· rfl))
    | refine stS ?_ | (refine stB ?_; intro _) | (refine stC ?_; refine And.intro (fun _ => ?_) (fun _ => ?_)))
      refine TQ.endR1 (L' := L) Tryz.results24 rvA rfl (.refl _) ?_ selA
      exact ⟨rfl, rfl, rfl⟩
    · rw [if_neg hk] at hD ⊢
      obtain ⟨D, hD2⟩ : ∃ D, D = depDs items := ⟨_, rfl⟩
      rw [← hD2] at hD ⊢
      clear hSn
      repeat' (first
    | ((with_reducible apply TL.pure); (· exact yV); (· rfl)) | ((with_reducible apply TW.pure); (· exact yV); (· rfl))
    | ((with_reducible apply TL.pure); (· exact yA); (· rfl))
    | refine stS ?_ | (refine stB ?_; intro _) | (refine stC ?_; refine And.intro (fun _ => ?_) (fun _ => ?_)))
      rename_i b1
      refine TC.loopL (fun z : Nat × Nat => z.1 ≤ items.length ∧ max z.2 (depDs (items.drop z.1)) = D) (fun z => items.length - z.1) (fun z _ => [(4, .int .i64 (z.1 : Nat)), (3, .int .i64 (z.2 : Nat)), (1, .pointer (some ⟨b1, 0, none⟩))]) (fun _ => .obj b1 (.cells [.int .i64 k, .bool b, .int .i64 n, str s, .slice ai items.length ci, .slice an names.length cn].toArray 29 (0, 0)) :: L) (0, 0) ⟨Nat.zero_le _, by rw [hD2]; simp⟩ subA selA ?_
      rintro ⟨i, m⟩ ⟨hi, hm⟩
      dsimp only at hi hm ⊢
      by_cases hlt : i < items.length
      · obtain ⟨y, hy⟩ : ∃ y, items[i]? = some y := ⟨_, List.getElem?_eq_getElem hlt⟩
        obtain ⟨cs', hV', hcl, hfl⟩ := hI.get hy
        obtain ⟨b3, o3, rfl, hg3⟩ := hS.elem hlt (by decide)
        have hsz := dsz_get hy
        have hdy := depDs_get hy
        rw [depDs_at hy] at hm
        have A := fun L => IH y (by omega) cs' g L hV' (by omega)
        have hld3 : ∀ j2 u, cs'[j2]? = some u → g.cell b3 (o3 + i * 6 + j2) = some u := fun j2 u hu => hg3 j2 u (hfl j2 u hu)
        clear IH hI hS hg3 hfl hV' hD2
        by_cases hgt : m < depD y
        · have HG : Hn (((m : Nat) : Int) < (depD y : Nat)) := ⟨by omega⟩
          have HM : Hn (max (depD y) (depDs (items.drop (i + 1))) = D) := ⟨by omega⟩
          clear hm
          generalize depD y = e at *
          repeat' (first
    | ((with_reducible apply TL.pure); (· exact yV); (· rfl)) | ((with_reducible apply TW.pure); (· exact yV); (· rfl))
    | ((with_reducible apply TL.pure); (· exact yM); (· rfl)) | ((with_reducible apply TW.pure); (· exact yM); (· rfl))
    | ((with_reducible apply TL.gives_plain); (· kernel_rfl); (· rfl); (· exact A _); (· rfl)) | ((with_reducible apply TW.gives_plain); (· kernel_rfl); (· rfl); (· exact A _); (· rfl))
    | ((with_reducible apply TL.pure); (· exact yA); (· rfl))
    | refine stS ?_ | (refine stB ?_; intro _) | (refine stC ?_; refine And.intro (fun _ => ?_) (fun _ => ?_)))
          refine TQ.round (i + 1, e) ?_ ?_ rfl subA selA
          · exact ⟨by dsimp only; omega, HM.out⟩
          · show items.length - (i + 1) < items.length - i
            omega
        · have HG : Hn (¬ ((m : Nat) : Int) < (depD y : Nat)) := ⟨by omega⟩
          have HM : Hn (max m (depDs (items.drop (i + 1))) = D) := ⟨by omega⟩
          clear hm
          generalize depD y = e at *
          repeat' (first
    | ((with_reducible apply TL.pure); (· exact yV); (· rfl)) | ((with_reducible apply TW.pure); (· exact yV); (· rfl))
    | ((with_reducible apply TL.pure); (· exact yM); (· rfl)) | ((with_reducible apply TW.pure); (· exact yM); (· rfl))
    | ((with_reducible apply TL.gives_plain); (· kernel_rfl); (· rfl); (· exact A _); (· rfl)) | ((with_reducible apply TW.gives_plain); (· kernel_rfl); (· rfl); (· exact A _); (· rfl))
    | ((with_reducible apply TL.pure); (· exact yA); (· rfl))
    | refine stS ?_ | (refine stB ?_; intro _) | (refine stC ?_; refine And.intro (fun _ => ?_) (fun _ => ?_)))
          refine TQ.round (i + 1, m) ?_ ?_ rfl subA selA
          · exact ⟨by dsimp only; omega, HM.out⟩
          · show items.length - (i + 1) < items.length - i
            omega
      · rw [List.drop_eq_nil_of_le (by omega), depDs] at hm
        obtain rfl : m = D := by omega
        clear hI hS IH hD2
        repeat' (first
    | ((with_reducible apply TL.pure); (· exact yV); (· rfl)) | ((with_reducible apply TW.pure); (· exact yV); (· rfl))
    | ((with_reducible apply TL.pure); (· exact yA); (· rfl))
    | refine stS ?_ | (refine stB ?_; intro _) | (refine stC ?_; refine And.intro (fun _ => ?_) (fun _ => ?_)))
        refine TQ.endR1 (L' := L) Tryz.results24 rvA rfl (.refl _) ?_ selA
        exact ⟨rfl, rfl, rfl⟩
end Go.Proofs.YtfmadoeadmclbaaGreatDoor
namespace Go.TL
open Go Go.RowKit Go.Proofs.YtfmadoeadmclbaaGreatDoor
theorem TL.tr_fr {P : Program} {ops : Array Oper} {Q : Exit → Act → World → Prop} {l : List Oper} {n : Nat} {ds : List Deferred} {S : Slots} {g : Gh} {L L' M : List Ent} {x : J} {v : Value} (ht : TrJ x v M) (hm : Pick (Go.TL.grp M) L L') (kk : ∀ g', g.le g' → IsJ g' x v → TL P ops Q l n ds S g' L') : TL P ops Q l n ds S g L := .mk fun a w hf hs => by
  obtain ⟨g', hg, hj, hs'⟩ := TrJ.fr x v M ht (hs.perm hm.perm).ungrp
  exact (kk g' hg hj).h a w hf hs'
end Go.TL
namespace Go.Proofs.YtfmadoeadmclbaaGreatDoor
open Go.RowKit Go.TL
set_option maxRecDepth 100000

theorem jCopy_no (x : J) (v : Value) (g : Gh) (L : List Ent) (hV : IsJ g x v) (hS : smJ x) (h0 : lookJ x 0 ≠ 0) (hT : GTabs g) (hU : GU8 g) : Gives Tryz.prog 21 #[v] g L .nilIface := by
  refine .of (Does.of1 Tryz.func21 rfl Tryz.ntmps21 rfl ?_)
  have M := fun L => may_gives x v g L hV hS hT hU
  generalize lookJ x 0 = e at *
  have h2 : Hn (¬ ((e : Nat) : Int) = 0) := ⟨by omega⟩
  clear hV h0
  repeat' (first
    | ((with_reducible apply TL.pure); (· exact yQ); (· rfl))
    | ((with_reducible apply TL.pure); (· exact yV); (· rfl)) | ((with_reducible apply TW.pure); (· exact yV); (· rfl))
    | ((with_reducible apply TL.gives_plain); (· kernel_rfl); (· rfl); (· exact M _); (· rfl)) | ((with_reducible apply TW.gives_plain); (· kernel_rfl); (· rfl); (· exact M _); (· rfl))
    | refine stS ?_ | (refine stB ?_; intro _) | (refine stC ?_; refine And.intro (fun _ => ?_) (fun _ => ?_)))
  refine TQ.endR1 (L' := L) Tryz.results21 rvA rfl (.refl _) ?_ selF
  exact ⟨rfl, rfl, rfl⟩
set_option maxHeartbeats 64000000 in
theorem prt_bad (x : DV) (cs : List Value) (g : Gh) (hX : IsV g x cs) (hT : GTabs g) (hU : GU8 g) (hx : lightB x = true) (h0 : ¬ mayV x 0 = 0) : Gives Tryz.prog 7 #[.agg cs.toArray] g [] (.bool true) := by
  refine .of (Does.of1 Tryz.func7 rfl Tryz.ntmps7 rfl ?_)
  have L1 := fun L => light_gives x cs g L hX
  rw [hx] at L1
  have wx := wf_of_light hx
  have l1 := hX.len
  obtain ⟨zx, lx⟩ := sz_toJ _ x (Nat.le_refl _) 300 (wfN_of_light hx)
  have sx := sm_of_sz _ _ zx (by decide)
  have ex := look_toJ _ x (Nat.le_refl _) 0
  have AW := fun (g2 : Gh) (h : g.le g2) L => awake04_gives (g := g2) (L := L) (hT.le h) (hU.le h)
  have RX := fun (g2 : Gh) (h : g.le g2) L => rMay_gives x cs g2 L (IsV.le h _ _ hX) wx
  have h1 : lookJ (toJ x) 0 ≠ 0 := by rw [ex]; exact h0
  have PN := fun (g2 : Gh) (h : g.le g2) (v : Value) (hj : IsJ g2 (toJ x) v) L => jPrint_no (toJ x) v g2 L hj sx h1 (hT.le h) (hU.le h)
  have CN := fun (g2 : Gh) (h : g.le g2) (v : Value) (hj : IsJ g2 (toJ x) v) L => jCopy_no (toJ x) v g2 L hj sx h1 (hT.le h) (hU.le h)
  have MN := fun (g2 : Gh) (h : g.le g2) (v : Value) (hj : IsJ g2 (toJ x) v) L => may_gives (toJ x) v g2 L hj sx (hT.le h) (hU.le h)
  have DN := fun (g2 : Gh) (h : g.le g2) (v : Value) (hj : IsJ g2 (toJ x) v) L => jDepth_gives (toJ x) v g2 L hj sx (hT.le h) (hU.le h)
  have SN := fun (g2 : Gh) (h : g.le g2) (v : Value) (hj : IsJ g2 (toJ x) v) L => Same_gives (toJ x) (toJ x) v v g2 L hj hj sx sx (hT.le h) (hU.le h)
  have ed : depthJ (toJ x) = -1 := by unfold depthJ; rw [if_neg h1]
  have es : SameJ (toJ x) (toJ x) = false := by unfold SameJ; rw [decide_eq_false h1]; rfl
  rw [ed] at DN
  rw [es] at SN
  rw [ex] at PN MN
  clear ed es ex h1
  generalize mayV x 0 = m at *
  have HM := Hn.mk (show ¬ ((m : Nat) : Int) = 0 by omega)
  clear h0
  repeat' (first
    | ((with_reducible apply TL.pure); (· exact yQ); (· rfl))
    | ((with_reducible apply TL.pure (d := 26) (v := .bool true)); (· exact Y.eql_b (decide_eq_true rfl) rfl rfl); (· rfl)) | ((with_reducible apply TW.pure (d := 26) (v := .bool true)); (· exact Y.eql_b (decide_eq_true rfl) rfl rfl); (· rfl))
    | ((with_reducible apply TL.pure (d := 31) (v := .bool true)); (· exact Y.eql_b (decide_eq_true rfl) rfl rfl); (· rfl)) | ((with_reducible apply TW.pure (d := 31) (v := .bool true)); (· exact Y.eql_b (decide_eq_true rfl) rfl rfl); (· rfl))
    | ((with_reducible apply TL.pure); (· exact yV); (· rfl)) | ((with_reducible apply TW.pure); (· exact yV); (· rfl))
    | ((with_reducible apply TL.gives_plain); (· kernel_rfl); (· rfl); (· exact L1 _); (· rfl)) | ((with_reducible apply TW.gives_plain); (· kernel_rfl); (· rfl); (· exact L1 _); (· rfl))
    | (refine TL.makes (Enters.plain (by kernel_rfl) (by rfl)) (told04_makes _ x (Nat.le_refl _) cs g _ hX wx) (by rfl) ?_; (rintro v1 g1 h1 j1; have ho1 := j1.one; have Q1 := PN g1 h1 v1 j1; have Q2 := RX g1 h1; have Q3 := CN g1 h1 v1 j1; have Q4 := MN g1 h1 v1 j1; have Q5 := DN g1 h1 v1 j1; have Q6 := SN g1 h1 v1 j1; have Q7 := AW g1 h1; clear PN RX CN MN DN SN AW j1))
    | ((with_reducible apply TL.gives_plain); (· kernel_rfl); (· rfl); (· exact Q1 _); (· rfl)) | ((with_reducible apply TW.gives_plain); (· kernel_rfl); (· rfl); (· exact Q1 _); (· rfl))
    | ((with_reducible apply TL.gives_plain); (· kernel_rfl); (· rfl); (· exact Q2 _); (· rfl)) | ((with_reducible apply TW.gives_plain); (· kernel_rfl); (· rfl); (· exact Q2 _); (· rfl))
    | ((with_reducible apply TL.gives_plain); (· kernel_rfl); (· rfl); (· exact Q3 _); (· rfl)) | ((with_reducible apply TW.gives_plain); (· kernel_rfl); (· rfl); (· exact Q3 _); (· rfl))
    | ((with_reducible apply TL.gives_plain); (· kernel_rfl); (· rfl); (· exact Q4 _); (· rfl)) | ((with_reducible apply TW.gives_plain); (· kernel_rfl); (· rfl); (· exact Q4 _); (· rfl))
    | ((with_reducible apply TL.gives_plain); (· kernel_rfl); (· rfl); (· exact Q5 _); (· rfl)) | ((with_reducible apply TW.gives_plain); (· kernel_rfl); (· rfl); (· exact Q5 _); (· rfl))
    | ((with_reducible apply TL.gives_plain); (· kernel_rfl); (· rfl); (· exact Q6 _); (· rfl)) | ((with_reducible apply TW.gives_plain); (· kernel_rfl); (· rfl); (· exact Q6 _); (· rfl))
    | ((with_reducible apply TL.gives_plain); (· kernel_rfl); (· rfl); (· exact Q7 _); (· rfl)) | ((with_reducible apply TW.gives_plain); (· kernel_rfl); (· rfl); (· exact Q7 _); (· rfl))
    | refine stS ?_ | (refine stB ?_; intro _) | (refine stC ?_; refine And.intro (fun _ => ?_) (fun _ => ?_)))
  refine TQ.less h1 ?_
  refine TQ.endR1 (L' := []) Tryz.results7 rvA rfl (.refl _) ?_ selF
  exact ⟨rfl, rfl, rfl⟩
set_option maxHeartbeats 64000000 in
theorem prt_ok (x : DV) (cs : List Value) (g : Gh) (hX : IsV g x cs) (hT : GTabs g) (hU : GU8 g) (hx : lightB x = true) (h0 : mayV x 0 = 0) : Gives Tryz.prog 7 #[.agg cs.toArray] g [] (.bool true) := by
  refine .of (Does.of1 Tryz.func7 rfl Tryz.ntmps7 rfl ?_)
  have L1 := fun L => light_gives x cs g L hX
  rw [hx] at L1
  have wx := wf_of_light hx
  have l1 := hX.len
  obtain ⟨zx, lx⟩ := sz_toJ _ x (Nat.le_refl _) 300 (wfN_of_light hx)
  have sx := sm_of_sz _ _ zx (by decide)
  have mx := m_light hx
  have ex := look_toJ _ x (Nat.le_refl _) 0
  rw [h0] at ex
  obtain ⟨okx, dx⟩ := ok_zero ex lx
  have AW := fun (g2 : Gh) (h : g.le g2) L => awake04_gives (g := g2) (L := L) (hT.le h) (hU.le h)
  have RX := fun (g2 : Gh) (h : g.le g2) L => rMay_gives x cs g2 L (IsV.le h _ _ hX) wx
  rw [h0] at RX
  have PN := fun (g2 : Gh) (h : g.le g2) (v : Value) (hj : IsJ g2 (toJ x) v) L => jPrint_does (toJ x) v g2 L hj sx ex (by omega) (hT.le h) (hU.le h)
  unfold PrintR at PN
  have CN := fun (g2 : Gh) (h : g.le g2) (v : Value) (hj : IsJ g2 (toJ x) v) L => jCopy_does (toJ x) v g2 L hj sx ex (hT.le h) (hU.le h)
  unfold CopyR at CN
  have MN := fun (g2 : Gh) (h : g.le g2) (v : Value) (hj : IsJ g2 (toJ x) v) L => may_gives (toJ x) v g2 L hj sx (hT.le h) (hU.le h)
  rw [ex] at MN
  have DN := fun (g2 : Gh) (h : g.le g2) (v : Value) (hj : IsJ g2 (toJ x) v) L => jDepth_gives (toJ x) v g2 L hj sx (hT.le h) (hU.le h)
  have dd := dep_toJ _ x (Nat.le_refl _) okx
  have ed : depthJ (toJ x) = ((depD x : Nat) : Int) := by unfold depthJ; rw [if_pos ex, dd]
  rw [ed] at DN
  have DR := fun (g2 : Gh) (h : g.le g2) L => rDepth_gives _ x (Nat.le_refl _) cs g2 L (IsV.le h _ _ hX) (by omega)
  have PR := fun (g2 : Gh) (h : g.le g2) L => rPrint4_gives _ x (Nat.le_refl _) cs g2 L (IsV.le h _ _ hX) wx okx (by omega)
  have sow := same_of okx
  have ww2 := wf_of _ x (Nat.le_refl _) wx
  have SV := fun (g2 : Gh) (h : g.le g2) (zs : List Value) (hz : IsV g2 (ofJ (toJ x)) zs) L => rSame4_gives _ (ofJ (toJ x)) (Nat.le_refl _) x zs cs g2 L hz (IsV.le h _ _ hX) ww2 wx
  rw [sow] at SV
  generalize prJ (toJ x) = S at *
  generalize depD x = D at *
  clear dx dd ed sow mx h0 ex
  repeat' (first
    | ((with_reducible apply TL.pure); (· exact yQ); (· rfl))
    | ((with_reducible apply TL.pure); (· exact yV); (· rfl)) | ((with_reducible apply TW.pure); (· exact yV); (· rfl))
    | ((with_reducible apply TL.gives_plain); (· kernel_rfl); (· rfl); (· exact L1 _); (· rfl)) | ((with_reducible apply TW.gives_plain); (· kernel_rfl); (· rfl); (· exact L1 _); (· rfl))
    | (refine TL.makes (Enters.plain (by kernel_rfl) (by rfl)) (told04_makes _ x (Nat.le_refl _) cs g _ hX wx) (by rfl) ?_; (rintro v1 g1 h1 j1; have ho1 := j1.one; have Q1 := PN g1 h1 v1 j1; clear PN))
    | (refine TL.call (Enters.plain (by kernel_rfl) (by rfl)) (by rfl) (Q1 _) ?_; (rintro e g2 Ln h2 ⟨b2, c2, k1, k2, s2⟩; have k2 := k2.symm; subst k1; subst k2; (have h02 := h1.trans h2; have j2 := IsJ.le h2 _ _ j1; have Q2 := RX g2 h02; have Q3 := CN g2 h02 v1 j2; clear Q1 RX CN j1); refine CallK.ret ?_))
    | ((with_reducible apply TL.gives_plain); (· kernel_rfl); (· rfl); (· exact Q2 _); (· rfl)) | ((with_reducible apply TW.gives_plain); (· kernel_rfl); (· rfl); (· exact Q2 _); (· rfl))
    | (refine TL.call (Enters.plain (by kernel_rfl) (by rfl)) (by rfl) (Q3 _) ?_; (rintro e gc Ln hgc ⟨vj, Mj, k1, k2, k3, htj⟩; have k2 := k2.symm; subst k1; subst k2; subst k3; have hoc := TrJ.one htj; refine CallK.ret ?_; refine Go.TL.TL.tr_fr htj pkA ?_; intro gf hgf jf; (have h03 := h02.trans hgf; have j3 := IsJ.le hgf _ _ j2; have s3 := s2.le hgf; have Q4 := MN gf h03 v1 j3; have Q5 := PR gf h03; have QO := fun L => of04_makes _ (toJ x) (Nat.le_refl _) vj gf L jf sx; clear Q2 Q3 MN PR j2 s2 jf)))
    | ((with_reducible apply TL.gives_plain); (· kernel_rfl); (· rfl); (· exact Q4 _); (· rfl)) | ((with_reducible apply TW.gives_plain); (· kernel_rfl); (· rfl); (· exact Q4 _); (· rfl))
    | ((with_reducible apply TL.gives_plain); (· kernel_rfl); (· rfl); (· exact Q5 _); (· rfl)) | ((with_reducible apply TW.gives_plain); (· kernel_rfl); (· rfl); (· exact Q5 _); (· rfl))
    | (refine TL.makes (Enters.plain (by kernel_rfl) (by rfl)) (QO _) (by rfl) ?_; rintro vj2 gj hgj ⟨cz, hvz, hz⟩; subst hvz; obtain ⟨zk, zb, zn, zs, zi, zil, zic, zm, zml, zmc, rfl⟩ := hz.form; (have h04 := h03.trans hgj; have j4 := IsJ.le hgj _ _ j3; have s4 := s3.le hgj; have Q6 := SV gj h04 _ hz; have Q7 := DN gj h04 v1 j4; have Q8 := DR gj h04; have Q9 := AW gj h04; clear QO Q4 Q5 SV DN DR AW j3 s3 hz j4))
    | ((with_reducible apply TL.gives_plain); (· kernel_rfl); (· rfl); (· exact Q6 _); (· rfl)) | ((with_reducible apply TW.gives_plain); (· kernel_rfl); (· rfl); (· exact Q6 _); (· rfl))
    | ((with_reducible apply TL.gives_plain); (· kernel_rfl); (· rfl); (· exact Q7 _); (· rfl)) | ((with_reducible apply TW.gives_plain); (· kernel_rfl); (· rfl); (· exact Q7 _); (· rfl))
    | ((with_reducible apply TL.gives_plain); (· kernel_rfl); (· rfl); (· exact Q8 _); (· rfl)) | ((with_reducible apply TW.gives_plain); (· kernel_rfl); (· rfl); (· exact Q8 _); (· rfl))
    | ((with_reducible apply TL.gives_plain); (· kernel_rfl); (· rfl); (· exact Q9 _); (· rfl)) | ((with_reducible apply TW.gives_plain); (· kernel_rfl); (· rfl); (· exact Q9 _); (· rfl))
    | ((with_reducible apply TA.take_gN 0); (· rfl); (· decide +kernel); (· rfl); (· rfl); (· rfl); (· first | exact Y.eql_is (decide_eq_true rfl) rfl rfl | exact Y.eql_b (decide_eq_true rfl) rfl rfl | exact Y.bytes_src rfl (Src.sl (by assumption)) rfl | (first | exact yQ | exact yA | exact yB | exact yM | exact yV)); (· decide +kernel); (· decide +kernel); (· rfl); (· exact fun _ _ _ h => h); (· rfl))
    | ((with_reducible apply TA.take_gN 1); (· rfl); (· decide +kernel); (· rfl); (· rfl); (· rfl); (· first | exact Y.eql_is (decide_eq_true rfl) rfl rfl | exact Y.eql_b (decide_eq_true rfl) rfl rfl | exact Y.bytes_src rfl (Src.sl (by assumption)) rfl | (first | exact yQ | exact yA | exact yB | exact yM | exact yV)); (· decide +kernel); (· decide +kernel); (· rfl); (· exact fun _ _ _ h => h); (· rfl))
    | ((with_reducible apply TA.take_gN 2); (· rfl); (· decide +kernel); (· rfl); (· rfl); (· rfl); (· first | exact Y.eql_is (decide_eq_true rfl) rfl rfl | exact Y.eql_b (decide_eq_true rfl) rfl rfl | exact Y.bytes_src rfl (Src.sl (by assumption)) rfl | (first | exact yQ | exact yA | exact yB | exact yM | exact yV)); (· decide +kernel); (· decide +kernel); (· rfl); (· exact fun _ _ _ h => h); (· rfl))
    | ((with_reducible apply TA.no_gN 0); (· rfl); (· decide +kernel); (· rfl); (· rfl); (· rfl); (· rfl); (· decide +kernel); (· decide +kernel); (· rfl); (· exact fun _ _ _ h => h); (· rfl))
    | ((with_reducible apply TA.no_gN 1); (· rfl); (· decide +kernel); (· rfl); (· rfl); (· rfl); (· rfl); (· decide +kernel); (· decide +kernel); (· rfl); (· exact fun _ _ _ h => h); (· rfl))
    | ((with_reducible apply TA.no_gN 2); (· rfl); (· decide +kernel); (· rfl); (· rfl); (· rfl); (· rfl); (· decide +kernel); (· decide +kernel); (· rfl); (· exact fun _ _ _ h => h); (· rfl))
    | ((with_reducible apply TA.no_uN 0); (· rfl); (· decide +kernel); (· rfl); (· rfl); (· rfl); (· decide +kernel); (· decide +kernel); (· rfl); (· exact fun _ _ _ h => h); (· rfl))
    | ((with_reducible apply TA.no_uN 1); (· rfl); (· decide +kernel); (· rfl); (· rfl); (· rfl); (· decide +kernel); (· decide +kernel); (· rfl); (· exact fun _ _ _ h => h); (· rfl))
    | ((with_reducible apply TA.no_uN 2); (· rfl); (· decide +kernel); (· rfl); (· rfl); (· rfl); (· decide +kernel); (· decide +kernel); (· rfl); (· exact fun _ _ _ h => h); (· rfl))
    | ((with_reducible apply TA.takeN 0); (· rfl); (· decide +kernel); (· rfl); (· (first | exact yQ | exact yA | exact yB | exact yM | exact yV)); (· decide +kernel); (· decide +kernel); (· rfl); (· exact fun _ _ _ h => h); (· rfl))
    | ((with_reducible apply TA.takeN 1); (· rfl); (· decide +kernel); (· rfl); (· (first | exact yQ | exact yA | exact yB | exact yM | exact yV)); (· decide +kernel); (· decide +kernel); (· rfl); (· exact fun _ _ _ h => h); (· rfl))
    | ((with_reducible apply TA.takeN 2); (· rfl); (· decide +kernel); (· rfl); (· (first | exact yQ | exact yA | exact yB | exact yM | exact yV)); (· decide +kernel); (· decide +kernel); (· rfl); (· exact fun _ _ _ h => h); (· rfl))
    | ((with_reducible apply TA.oneN 0); (· rfl); (· rfl); (· decide +kernel); (· rfl))
    | ((with_reducible apply TA.oneN 1); (· rfl); (· rfl); (· decide +kernel); (· rfl))
    | ((with_reducible apply TA.oneN 2); (· rfl); (· rfl); (· decide +kernel); (· rfl))
    | refine TQ.any leF selF ?_
    | refine TC.region_any 31 (_) (by kernel_rfl) rfl selF ?_ | refine TA.done (by decide +kernel) ?_ | refine TQ.any_panic ?_
    | refine stS ?_ | (refine stB ?_; intro _) | (refine stC ?_; refine And.intro (fun _ => ?_) (fun _ => ?_)))
  refine TQ.less h04 ?_
  refine TQ.endR1 (L' := []) Tryz.results7 rvA rfl (.refl _) ?_ selF
  exact ⟨rfl, rfl, rfl⟩
theorem lawJsonPrints (x : DV) (cs : List Value) (g : Gh) (hX : IsV g x cs) (hT : GTabs g) (hU : GU8 g) : Gives Tryz.prog 7 #[.agg cs.toArray] g [] (.bool true) := by
  cases hx : lightB x with
  | false =>
    refine .of (Does.of1 Tryz.func7 rfl Tryz.ntmps7 rfl ?_)
    have L1 := fun L => light_gives x cs g L hX
    have l1 := hX.len
    rw [hx] at L1
    clear hX
    repeat' (first
    | ((with_reducible apply TL.pure); (· exact yQ); (· rfl))
    | ((with_reducible apply TL.pure); (· exact yV); (· rfl)) | ((with_reducible apply TW.pure); (· exact yV); (· rfl))
    | ((with_reducible apply TL.gives_plain); (· kernel_rfl); (· rfl); (· exact L1 _); (· rfl)) | ((with_reducible apply TW.gives_plain); (· kernel_rfl); (· rfl); (· exact L1 _); (· rfl))
    | refine stS ?_ | (refine stB ?_; intro _) | (refine stC ?_; refine And.intro (fun _ => ?_) (fun _ => ?_)))
    refine TQ.endR1 (L' := []) Tryz.results7 rvA rfl (.refl _) ?_ selF
    exact ⟨rfl, rfl, rfl⟩
  | true =>
    by_cases h0 : mayV x 0 = 0
    · exact prt_ok x cs g hX hT hU hx h0
    · exact prt_bad x cs g hX hT hU hx h0
end Go.Proofs.YtfmadoeadmclbaaGreatDoor
