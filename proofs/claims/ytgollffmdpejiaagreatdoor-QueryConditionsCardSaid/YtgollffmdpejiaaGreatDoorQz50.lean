/-
  The walk of the law QueryConditions.
-/
import Derived.Test.YtgollffmdpejiaaGreatDoorQz3
import Derived.Test.YtgollffmdpejiaaGreatDoorQz45
import Derived.Test.YtgollffmdpejiaaGreatDoorQz44
import Derived.Test.YtgollffmdpejiaaGreatDoorQz49
import Derived.Test.YtgollffmdpejiaaGreatDoorQz48
import Derived.Test.YtgollffmdpejiaaGreatDoorQz38
import Derived.Test.YtgollffmdpejiaaGreatDoorQz7
namespace Go.Proofs.YtgollffmdpejiaaGreatDoor
open Go.RowKit Go.TL
set_option maxRecDepth 100000

theorem IsCs.get {g : Gh} : ∀ {l : List (List UInt8 × List UInt8 × J)} {fl : List Value} {i : Nat} {c : List UInt8 × List UInt8 × J}, IsCs g l fl → l[i]? = some c → ∃ u, IsJ g c.2.2 u ∧ ∀ j w, ([str c.1, str c.2.1, u] : List Value)[j]? = some w → fl[i * 3 + j]? = some w
  | [], fl, i, c, _, hc => by cases i <;> cases hc
  | d :: r, fl, i, c, h, hc => by
    rw [IsCs] at h
    obtain ⟨u, f2, rfl, h2, h3⟩ := h
    cases i with
    | zero =>
      obtain rfl : d = c := Option.some.inj hc
      refine ⟨u, h2, fun j w hw => ?_⟩
      rw [Nat.zero_mul, Nat.zero_add]
      match j, hw with
      | 0, hw => exact hw
      | 1, hw => exact hw
      | 2, hw => exact hw
      | j + 3, hw => cases hw
    | succ i =>
      obtain ⟨u', h4, h5⟩ := IsCs.get (l := r) (fl := f2) (i := i) h3 hc
      refine ⟨u', h4, fun j w hw => ?_⟩
      have h6 := h5 j w hw
      have e2 : (i + 1) * 3 + j = (i * 3 + j) + 1 + 1 + 1 := by omega
      rw [e2, List.getElem?_cons_succ, List.getElem?_cons_succ, List.getElem?_cons_succ]; exact h6
theorem _root_.Go.TL.Y.neq_isQ {P : Program} {n : Nat} {ds : List Deferred} {S : Slots} {g : Gh} {L : List Ent} {ty : TypeId} {pos : String} {aft : Array Edge} {gd : Option (Nat × Bool)} {dst : Option Nat} {x y : Operand} {t t' : TypeId} {s : List UInt8} (hx : ev S x = some (str s)) (hy : ev S y = some (str s)) : Go.TL.Yields P n ds S g L ⟨dst, .binOp .neq t x y t', ty, pos, aft, gd⟩ (.bool false) := by
  have h := Y.neq_str (P := P) (n := n) (ds := ds) (g := g) (L := L) (ty := ty) (pos := pos) (aft := aft) (gd := gd) (dst := dst) (t := t) (t' := t') hx hy
  rw [decide_eq_true rfl] at h
  exact h
theorem readQ_len {x : J} {qs : List Qn} (h : readQ x = some qs) : qs.length ≤ 1000000 := by
  unfold readQ at h
  split at h
  · cases hr : rdQ 32 100 x with
    | none => rw [hr] at h; cases h
    | some r =>
      obtain ⟨q, l⟩ := r
      rw [hr] at h
      cases h
      cases x with
      | obj ns vs =>
        rw [rdQ] at hr
        have := membersQ_len (rdQ_le 31) hr
        show q.length ≤ 1000000
        omega
      | _ =>
        rw [rdQ] at hr
        · cases hr
        · intro _ _ h1; cases h1
  · cases h
theorem condsQ_len : ∀ (l : List Qn), (condsQ l).length ≤ l.length
  | [] => Nat.le_refl _
  | q :: r => by
    have := condsQ_len r
    cases q <;> (simp only [condsQ, List.length_cons]; omega)
set_option maxHeartbeats 64000000 in
theorem lawQueryConditions (z : DV) (cs : List Value) (g : Gh) (L : List Ent) (hV : IsV g z cs) (hT : GTabs g) (hU : GU8 g) (hP : GSp g) : Gives Tryz.prog 6 #[.agg cs.toArray] g L (.bool true) := by
  refine .of (Does.of1 Tryz.func6 rfl Tryz.ntmps6 rfl ?_)
  have LI := fun L => light_gives z cs g L hV
  have HV := Hn.mk hV
  cases hl : lightB z with
  | false =>
    rw [hl] at LI
    obtain ⟨y0, y1, y2, y3, d4, l4, f4, d5, l5, f5, rfl⟩ := IsV.form hV
    clear hV HV hT hU hP
    repeat' (first
    | refine wkQ ?_
    | refine wkV ?_
    | refine wkD (LI _) ?_
    | refine stS ?_ | (refine stB ?_; intro _) | (refine stC ?_; constructor <;> intro _)
    | refine wkW ?_)
    refine TQ.endR1 (L' := L) Tryz.results6 rvA rfl (.refl _) ?_ selF
    exact ⟨rfl, rfl, rfl⟩
  | true =>
  rw [hl] at LI
  have hW := wf_of_light hl
  have sz := sm_toJ _ z (Nat.le_refl _) 300 (of_decide_eq_true hl)
  have TO := fun (g1 : Gh) (h : g.le g1) L => told21_makes _ z (Nat.le_refl _) cs g1 L (hV.le h) hW
  have QK := fun (g1 : Gh) (h : g.le g1) v (hv : IsJ g1 (toJ z) v) L => qKind_gives (toJ z) v g1 L hv sz (hT.le h) (hU.le h)
  have RK := fun (g1 : Gh) (h : g.le g1) L => rKind21_gives z cs g1 L (hV.le h) hW
  have RD := fun (g1 : Gh) (h : g.le g1) v (hv : IsJ g1 (toJ z) v) L => qRead_does (toJ z) v g1 L hv sz (hT.le h) (hU.le h) (hP.le h)
  have AW := fun (g1 : Gh) (h : g.le g1) L => awake21_gives (g := g1) (L := L) (hT.le h) (hU.le h) (hP.le h)
  obtain ⟨K, hK⟩ : ∃ K, K = kindT (toJ z) := ⟨_, rfl⟩
  rw [← hK] at QK RK
  clear hK
  obtain ⟨y0, y1, y2, y3, d4, l4, f4, d5, l5, f5, e⟩ := IsV.form hV
  unfold ReadQR at RD
  cases hr : readQ (toJ z) with
  | none =>
    rw [hr] at RD
    dsimp only at RD
    subst e
    have T1 := TO g (.refl g)
    clear hV hT hU hP hr hW sz
    repeat' (first
    | refine wkQ ?_
    | refine wkV ?_
    | refine wkD (LI _) ?_
    | (refine TL.makes (Enters.plain (by kernel_rfl) (by rfl)) (T1 _) (by rfl) ?_; (rintro v1 g1 h1 j1; have o1 := IsJ.one j1; have QK1 := QK g1 h1 v1 j1; have RK1 := RK g1 h1; have T2 := TO g1 h1; clear j1 T1 QK RK))
    | (refine TL.makes (Enters.plain (by kernel_rfl) (by rfl)) (T2 _) (by rfl) ?_; (rintro v2 g2 h2 j2; have o2 := IsJ.one j2; have H2 := h1.trans h2; have RD1 := RD g2 H2 v2 j2; clear j2 T2 RD TO))
    | refine wkD (QK1 _) ?_
    | refine wkD (RK1 _) ?_
    | (refine TL.call (Enters.plain (by kernel_rfl) (by rfl)) (by rfl) (RD1 _) ?_; (rintro e g3 Ln h3 ⟨kq1, kq2⟩; have kq1 := kq1.symm; subst kq1; subst kq2; have H3 := H2.trans h3; have CN := fun L => qConditions_nil g3 L; have AW1 := AW g3 H3; clear RD1 AW; refine CallK.ret ?_))
    | refine wkD (CN _) ?_
    | refine wkD (AW1 _) ?_
    | refine stS ?_ | (refine stB ?_; intro _) | (refine stC ?_; constructor <;> intro _)
    | ((with_reducible apply TA.takeN 0); (· rfl); (· decide +kernel); (· rfl); (· first | exact Y.neq_isQ rfl rfl | exact yW); (· decide +kernel); (· decide +kernel); (· rfl); (· exact fun _ _ _ h => h); (· rfl))
    | ((with_reducible apply TA.takeN 1); (· rfl); (· decide +kernel); (· rfl); (· first | exact Y.neq_isQ rfl rfl | exact yW); (· decide +kernel); (· decide +kernel); (· rfl); (· exact fun _ _ _ h => h); (· rfl))
    | ((with_reducible apply TA.takeN 2); (· rfl); (· decide +kernel); (· rfl); (· first | exact Y.neq_isQ rfl rfl | exact yW); (· decide +kernel); (· decide +kernel); (· rfl); (· exact fun _ _ _ h => h); (· rfl))
    | ((with_reducible apply TA.takeN 3); (· rfl); (· decide +kernel); (· rfl); (· first | exact Y.neq_isQ rfl rfl | exact yW); (· decide +kernel); (· decide +kernel); (· rfl); (· exact fun _ _ _ h => h); (· rfl))
    | ((with_reducible apply TA.take_gN 0); (· rfl); (· decide +kernel); (· rfl); (· rfl); (· rfl); (· (first | exact Y.neq_isQ rfl rfl | exact yW)); (· decide +kernel); (· decide +kernel); (· rfl); (· exact fun _ _ _ h => h); (· rfl))
    | ((with_reducible apply TA.take_gN 1); (· rfl); (· decide +kernel); (· rfl); (· rfl); (· rfl); (· (first | exact Y.neq_isQ rfl rfl | exact yW)); (· decide +kernel); (· decide +kernel); (· rfl); (· exact fun _ _ _ h => h); (· rfl))
    | ((with_reducible apply TA.take_gN 2); (· rfl); (· decide +kernel); (· rfl); (· rfl); (· rfl); (· (first | exact Y.neq_isQ rfl rfl | exact yW)); (· decide +kernel); (· decide +kernel); (· rfl); (· exact fun _ _ _ h => h); (· rfl))
    | ((with_reducible apply TA.take_gN 3); (· rfl); (· decide +kernel); (· rfl); (· rfl); (· rfl); (· (first | exact Y.neq_isQ rfl rfl | exact yW)); (· decide +kernel); (· decide +kernel); (· rfl); (· exact fun _ _ _ h => h); (· rfl))
    | refine wkX0 ?_
    | refine wkX1 ?_
    | refine wkX2 ?_
    | refine wkX3 ?_
    | refine wkO0 ?_
    | refine wkO1 ?_
    | refine wkO2 ?_
    | refine wkO3 ?_
    | refine TQ.any leF selF ?_
    | refine TC.region_any 6 (_) (by kernel_rfl) rfl selF ?_ | refine TA.done (by decide +kernel) ?_ | refine TQ.any_panic ?_ | fail)
    refine TQ.less H3 ?_
    refine TQ.endR1 (L' := L) Tryz.results6 rvA rfl (.refl _) ?_ selF
    exact ⟨rfl, rfl, rfl⟩
  | some qs =>
    rw [hr] at RD
    dsimp only at RD
    have hlk : lookJ (toJ z) 0 = 0 := by
      unfold readQ at hr
      split at hr
      · assumption
      · cases hr
    have hok : okC z := ⟨hlk, sz, hW⟩
    have hqs := readQ_len hr
    obtain ⟨bz, nz, sz', items, names, rfl, hcq⟩ := readQ_toJ hr
    have hoks := okC_conds hok
    have RC := fun (g1 : Gh) (h : g.le g1) L => rConditions21_does bz nz sz' items names cs g1 L (hV.le h) hW
    unfold CondsVR at RC
    generalize condsV names items = cv at *
    subst e
    have T1 := TO g (.refl g)
    have QC := fun (g1 : Gh) (h : g.le g1) v (hv : IsQuery g1 v qs) L => qConditions_does qs v g1 L hv hqs (hT.le h) (hU.le h)
    unfold CondsR at QC
    rw [hcq, List.length_map] at QC
    have hcl : cv.length ≤ 1000000 := by
      have := condsQ_len qs
      rw [hcq, List.length_map] at this
      exact Nat.le_trans this hqs
    have HG := Hn.mk (And.intro hT (And.intro hU hoks))
    clear hV hT hU hP hr hW sz hok hlk hqs hcq hoks HV
    repeat' (first
    | refine wkQ ?_
    | refine wkV ?_
    | refine wkD (LI _) ?_
    | (refine TL.makes (Enters.plain (by kernel_rfl) (by rfl)) (T1 _) (by rfl) ?_; (rintro v1 g1 h1 j1; have o1 := IsJ.one j1; have QK1 := QK g1 h1 v1 j1; have RK1 := RK g1 h1; have T2 := TO g1 h1; clear j1 T1 QK RK))
    | (refine TL.makes (Enters.plain (by kernel_rfl) (by rfl)) (T2 _) (by rfl) ?_; (rintro v2 g2 h2 j2; have o2 := IsJ.one j2; have H2 := h1.trans h2; have RD1 := RD g2 H2 v2 j2; clear j2 T2 RD TO))
    | refine wkD (QK1 _) ?_
    | refine wkD (RK1 _) ?_
    | (refine TL.call (Enters.plain (by kernel_rfl) (by rfl)) (by rfl) (RD1 _) ?_; (rintro e g3 Ln h3 ⟨kq1, w, kq2, iq⟩; have kq1 := kq1.symm; subst kq1; subst kq2; have ow : w.one = true := (by obtain ⟨_, _, _, rfl, _⟩ := iq; rfl); have H3 := H2.trans h3; have QC1 := QC g3 H3 w iq; clear RD1 iq QC; refine CallK.ret ?_))
    | (refine TL.call (Enters.plain (by kernel_rfl) (by rfl)) (by rfl) (QC1 _) ?_; (rintro e g4 Ln h4 ⟨sl, fl, kq1, kq2, hS1, hC1⟩; have kq2 := kq2.symm; subst kq1; subst kq2; obtain ⟨a1, c1, rfl⟩ := hS1.slice; have HC1 := Hn.mk (And.intro hS1 hC1); have H4 := H3.trans h4; have RC1 := RC g4 H4; clear QC1 RC hS1 hC1; refine CallK.ret ?_))
    | (refine TL.call (Enters.plain (by kernel_rfl) (by rfl)) (by rfl) (RC1 _) ?_; (rintro e g5 Ln h5 ⟨sv, fv, kq1, kq2, hS2, hC2⟩; have kq2 := kq2.symm; subst kq1; subst kq2; obtain ⟨a2, c2, rfl⟩ := hS2.slice; have HC2 := Hn.mk (And.intro hS2 hC2); have H5 := H4.trans h5; clear RC1 hS2 hC2; refine CallK.ret ?_))
    | refine stS ?_ | (refine stB ?_; intro _) | (refine stC ?_; constructor <;> intro _)
    | ((with_reducible apply TA.takeN 0); (· rfl); (· decide +kernel); (· rfl); (· first | exact Y.neq_isQ rfl rfl | exact yW); (· decide +kernel); (· decide +kernel); (· rfl); (· exact fun _ _ _ h => h); (· rfl))
    | ((with_reducible apply TA.takeN 1); (· rfl); (· decide +kernel); (· rfl); (· first | exact Y.neq_isQ rfl rfl | exact yW); (· decide +kernel); (· decide +kernel); (· rfl); (· exact fun _ _ _ h => h); (· rfl))
    | ((with_reducible apply TA.takeN 2); (· rfl); (· decide +kernel); (· rfl); (· first | exact Y.neq_isQ rfl rfl | exact yW); (· decide +kernel); (· decide +kernel); (· rfl); (· exact fun _ _ _ h => h); (· rfl))
    | ((with_reducible apply TA.takeN 3); (· rfl); (· decide +kernel); (· rfl); (· first | exact Y.neq_isQ rfl rfl | exact yW); (· decide +kernel); (· decide +kernel); (· rfl); (· exact fun _ _ _ h => h); (· rfl))
    | ((with_reducible apply TA.take_gN 0); (· rfl); (· decide +kernel); (· rfl); (· rfl); (· rfl); (· (first | exact Y.neq_isQ rfl rfl | exact yW)); (· decide +kernel); (· decide +kernel); (· rfl); (· exact fun _ _ _ h => h); (· rfl))
    | ((with_reducible apply TA.take_gN 1); (· rfl); (· decide +kernel); (· rfl); (· rfl); (· rfl); (· (first | exact Y.neq_isQ rfl rfl | exact yW)); (· decide +kernel); (· decide +kernel); (· rfl); (· exact fun _ _ _ h => h); (· rfl))
    | ((with_reducible apply TA.take_gN 2); (· rfl); (· decide +kernel); (· rfl); (· rfl); (· rfl); (· (first | exact Y.neq_isQ rfl rfl | exact yW)); (· decide +kernel); (· decide +kernel); (· rfl); (· exact fun _ _ _ h => h); (· rfl))
    | ((with_reducible apply TA.take_gN 3); (· rfl); (· decide +kernel); (· rfl); (· rfl); (· rfl); (· (first | exact Y.neq_isQ rfl rfl | exact yW)); (· decide +kernel); (· decide +kernel); (· rfl); (· exact fun _ _ _ h => h); (· rfl))
    | refine wkX0 ?_
    | refine wkX1 ?_
    | refine wkX2 ?_
    | refine wkX3 ?_
    | refine wkO0 ?_
    | refine wkO1 ?_
    | refine wkO2 ?_
    | refine wkO3 ?_
    | refine TQ.any leF selF ?_
    | refine TC.region_any 6 (_) (by kernel_rfl) rfl selF ?_ | refine TA.done (by decide +kernel) ?_ | refine TQ.any_panic ?_ | fail)
    refine TC.loop (α := Nat × Gh) (fun x => x.1 ≤ cv.length ∧ g5.le x.2) (fun x => cv.length - x.1) (fun x => [(7, .int .i64 (x.1 : Nat)), (6, .slice a2 cv.length c2), (5, .slice a1 cv.length c1)]) (fun x => x.2) (fun _ => L) (0, g5) ⟨Nat.zero_le _, .refl _⟩ rfl subA selF ?_
    clear LI RK1 QK1
    rintro ⟨i, gx⟩ ⟨hi, hgx⟩
    try dsimp only at hi hgx ⊢
    have Hx := H5.trans hgx
    by_cases hlt : i < cv.length
    · obtain ⟨c, hc⟩ : ∃ c, cv[i]? = some c := ⟨_, List.getElem?_eq_getElem hlt⟩
      obtain ⟨hT, hU, hoks⟩ := HG.out
      have okc := hoks c (List.mem_of_getElem? hc)
      obtain ⟨hS1, hC1⟩ := HC1.out
      obtain ⟨hS2, hC2⟩ := HC2.out
      obtain ⟨cy, hVy, hy2⟩ := hC2.get hc
      obtain ⟨u, ju, hu2⟩ := hC1.get (i := i) (c := toC c) (by rw [List.getElem?_map, hc]; rfl)
      obtain ⟨b1, o1, rfl, hg1⟩ := hS1.elem hlt (by decide)
      obtain ⟨b2, o2, rfl, hg2⟩ := hS2.elem hlt (by decide)
      have h4x := h5.trans hgx
      have p1 : gx.cell b1 (o1 + i * 3 + 0) = some (str c.1) := h4x.cell (hg1 0 _ (hu2 0 _ rfl))
      have n1 : gx.cell b1 (o1 + i * 3 + 1) = some (str c.2.1) := h4x.cell (hg1 1 _ (hu2 1 _ rfl))
      have w1 : gx.cell b1 (o1 + i * 3 + 2) = some u := h4x.cell (hg1 2 _ (hu2 2 _ rfl))
      have p2 : gx.cell b2 (o2 + i * 8 + 0) = some (str c.1) := hgx.cell (hg2 0 _ (hy2 0 _ rfl))
      have n2 : gx.cell b2 (o2 + i * 8 + 1) = some (str c.2.1) := hgx.cell (hg2 1 _ (hy2 1 _ rfl))
      have hld : ∀ j w, cy[j]? = some w → gx.cell b2 (o2 + i * 8 + 2 + j) = some w := fun j w hw => by
        have h6 := hgx.cell (hg2 (j + 2) w (hy2 (j + 2) w hw))
        rw [show o2 + i * 8 + 2 + j = o2 + i * 8 + (j + 2) by omega]; exact h6
      have hl6 := hVy.len
      have ou := ju.one
      have TC1 := fun L => told21_makes _ c.2.2 (Nat.le_refl _) cy gx L (hVy.le hgx) okc.2.2
      have SA := fun g2 (h : gx.le g2) v (jv : IsJ g2 (toJ c.2.2) v) L => Same_gives (toJ c.2.2) (toJ c.2.2) u v g2 L (IsJ.le (h4x.trans h) _ _ ju) jv okc.2.1 okc.2.1 (hT.le (Hx.trans h)) (hU.le (Hx.trans h))
      rw [okc.same] at SA
      generalize toJ c.2.2 = jc at *
      obtain ⟨cp, cn, cz⟩ := c
      dsimp only at p1 n1 p2 n2
      clear hT hU hoks okc hS1 hC1 hS2 hC2 hVy hy2 ju hu2 hg1 hg2 hc AW HG HC1 HC2
      repeat' (first
    | refine wkQ ?_
    | refine wkV ?_
    | refine wkM ?_
    | (refine TL.makes (Enters.plain (by kernel_rfl) (by rfl)) (TC1 _) (by rfl) ?_; (rintro vj g6 h6 jj; have oj := IsJ.one jj; have SA1 := SA g6 h6 vj jj; clear jj SA))
    | refine wkD (SA1 _) ?_
    | refine stS ?_ | (refine stB ?_; intro _) | (refine stC ?_; constructor <;> intro _)
    | ((with_reducible apply TA.takeN 0); (· rfl); (· decide +kernel); (· rfl); (· first | exact Y.neq_isQ rfl rfl | exact yW); (· decide +kernel); (· decide +kernel); (· rfl); (· exact fun _ _ _ h => h); (· rfl))
    | ((with_reducible apply TA.takeN 1); (· rfl); (· decide +kernel); (· rfl); (· first | exact Y.neq_isQ rfl rfl | exact yW); (· decide +kernel); (· decide +kernel); (· rfl); (· exact fun _ _ _ h => h); (· rfl))
    | ((with_reducible apply TA.takeN 2); (· rfl); (· decide +kernel); (· rfl); (· first | exact Y.neq_isQ rfl rfl | exact yW); (· decide +kernel); (· decide +kernel); (· rfl); (· exact fun _ _ _ h => h); (· rfl))
    | ((with_reducible apply TA.takeN 3); (· rfl); (· decide +kernel); (· rfl); (· first | exact Y.neq_isQ rfl rfl | exact yW); (· decide +kernel); (· decide +kernel); (· rfl); (· exact fun _ _ _ h => h); (· rfl))
    | ((with_reducible apply TA.take_gN 0); (· rfl); (· decide +kernel); (· rfl); (· rfl); (· rfl); (· (first | exact Y.neq_isQ rfl rfl | exact yW)); (· decide +kernel); (· decide +kernel); (· rfl); (· exact fun _ _ _ h => h); (· rfl))
    | ((with_reducible apply TA.take_gN 1); (· rfl); (· decide +kernel); (· rfl); (· rfl); (· rfl); (· (first | exact Y.neq_isQ rfl rfl | exact yW)); (· decide +kernel); (· decide +kernel); (· rfl); (· exact fun _ _ _ h => h); (· rfl))
    | ((with_reducible apply TA.take_gN 2); (· rfl); (· decide +kernel); (· rfl); (· rfl); (· rfl); (· (first | exact Y.neq_isQ rfl rfl | exact yW)); (· decide +kernel); (· decide +kernel); (· rfl); (· exact fun _ _ _ h => h); (· rfl))
    | ((with_reducible apply TA.take_gN 3); (· rfl); (· decide +kernel); (· rfl); (· rfl); (· rfl); (· (first | exact Y.neq_isQ rfl rfl | exact yW)); (· decide +kernel); (· decide +kernel); (· rfl); (· exact fun _ _ _ h => h); (· rfl))
    | refine wkX0 ?_
    | refine wkX1 ?_
    | refine wkX2 ?_
    | refine wkX3 ?_
    | refine wkO0 ?_
    | refine wkO1 ?_
    | refine wkO2 ?_
    | refine wkO3 ?_
    | refine TQ.any leF selF ?_
    | refine TC.region_any 39 (_) (by kernel_rfl) rfl selF ?_ | refine TA.done (by decide +kernel) ?_ | refine TQ.any_panic ?_ | fail)
      refine TQ.round (i + 1, g6) ?_ ?_ rfl subA selF
      · exact ⟨hlt, hgx.trans h6⟩
      · show cv.length - (i + 1) < cv.length - i
        omega
    · obtain rfl : i = cv.length := by omega
      have AW1 := AW gx Hx
      clear AW HG HC1 HC2
      repeat' (first
    | refine wkQ ?_
    | refine wkV ?_
    | refine wkD (AW1 _) ?_
    | refine stS ?_ | (refine stB ?_; intro _) | (refine stC ?_; constructor <;> intro _)
    | refine wkW ?_)
      refine TQ.less Hx ?_
      refine TQ.endR1 (L' := L) Tryz.results6 rvA rfl (.refl _) ?_ selF
      exact ⟨rfl, rfl, rfl⟩
end Go.Proofs.YtgollffmdpejiaaGreatDoor
