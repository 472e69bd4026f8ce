/-
  The document's Box and In, walked.
-/
import Derived.Test.YtfanccddokckcaaGreatDoorSt2
import Derived.Test.YtfanccddokckcaaGreatDoorSt37
import Derived.Test.YtfanccddokckcaaGreatDoorSt43
namespace Go.Proofs.YtfanccddokckcaaGreatDoor
open Go.RowKit Go.TL
set_option maxRecDepth 100000

theorem boxF_cons (r : Rc) (q : List Pt) (l : List (List Pt)) : boxF r (q :: l) = boxF (joinR r (boundsD q)) l := rfl
set_option maxHeartbeats 16000000 in
theorem rBox9_gives (k : Int) (ps : List (List Pt)) (v : Value) (g : Gh) (L : List Ent) (hS : IsParts g v ps) (hO : ShOk ps) (h0 : ps ≠ []) (hn : ∀ q ∈ ps, q ≠ []) : Gives Tryz.prog 32 #[shV k v] g L (rcV (boxD ps)) := by
  refine .of (Does.of1 Tryz.func32 rfl Tryz.ntmps32 rfl ?_)
  obtain ⟨fl, hSl, hpt⟩ := hS
  have hps := hO.len
  have hpos : 0 < ps.length := List.length_pos_iff.2 h0
  have BD := fun (i : Nat) (q : List Pt) (h : ps[i]? = some q) (u : Value) (hu : Sl g u q.length 2 (flatP q)) L => rBounds8_gives q u g L hu (hO.part q (List.mem_of_getElem? h)) (List.length_pos_iff.2 (hn q (List.mem_of_getElem? h)))
  obtain ⟨q0, hq0⟩ : ∃ q, ps[0]? = some q := ⟨_, List.getElem?_eq_getElem hpos⟩
  obtain ⟨R, hR⟩ : ∃ R, R = boxD ps := ⟨_, rfl⟩
  have hI0 : boxF (boundsD q0) (ps.drop 1) = R := by
    rw [hR]
    cases ps with
    | nil => cases hq0
    | cons p r => obtain rfl : p = q0 := by simpa using hq0
                  rfl
  rw [← hR]
  clear hR
  obtain ⟨u, hu, hSu⟩ := hpt 0 q0 hq0
  obtain ⟨cap, b2, o2, rfl, hg1⟩ : ∃ cap b2 o2, v = .slice (some ⟨b2, o2, none⟩) ps.length cap ∧ g.cell b2 (o2 + 0 * 1) = some u := by
    obtain ⟨ao, cap, rfl⟩ := hSl.slice
    obtain ⟨b2, o2, rfl, hg1'⟩ := hSl.elem (i := 0) hpos (by decide)
    exact ⟨cap, b2, o2, rfl, hg1' 0 _ (by rw [Nat.mul_one]; exact hu)⟩
  have B0 := fun L => BD 0 q0 hq0 u hSu L
  obtain ⟨au, cu, rfl⟩ := hSu.slice
  have HS0 := Hn.mk hSl
  have HPT := Hn.mk hpt
  have HBD := Hn.mk BD
  clear hSl hpt BD hSu hu hq0 hO hn
  repeat' (first
    | refine wkQ ?_
    | refine wkV ?_
    | ((with_reducible apply TL.gives_plain); (· kernel_rfl); (· rfl); (· exact B0 _); (· rfl)) | ((with_reducible apply TW.gives_plain); (· kernel_rfl); (· rfl); (· exact B0 _); (· rfl))
    | refine stS ?_ | (refine stB ?_; intro _) | (refine stC ?_; refine And.intro (fun _ => ?_) (fun _ => ?_)))
  rename_i b1 b4 b3
  clear hg1 B0
  refine TC.loop (fun z : Nat × Rc => (1 ≤ z.1 ∧ z.1 ≤ ps.length) ∧ boxF z.2 (ps.drop z.1) = R) (fun z => ps.length - z.1) (fun z => [(4, .int .i64 (z.1 : Nat)), (3, .pointer (some ⟨b3, 0, none⟩)), (2, .pointer (some ⟨b4, 0, none⟩)), (1, .pointer (some ⟨b1, 0, none⟩))]) (fun _ => g) (fun z => .obj b3 (.cells (rcC z.2).toArray 48 (0, 0)) :: .obj b4 (.cells (rcC ⟨0, 0, 0, 0⟩).toArray 48 (0, 0)) :: .obj b1 (.cells [.int .i64 k, .slice (some ⟨b2, o2, none⟩) ps.length cap].toArray 36 (0, 0)) :: L) (1, boundsD q0) ⟨⟨Nat.le_refl _, hpos⟩, hI0⟩ rfl subA selF ?_
  clear hI0
  rintro ⟨i, r⟩ ⟨⟨hi0, hi⟩, hI⟩
  dsimp only at hi0 hi hI ⊢
  by_cases hlt : i < ps.length
  · obtain ⟨q, hq⟩ : ∃ q, ps[i]? = some q := ⟨_, List.getElem?_eq_getElem hlt⟩
    obtain ⟨u, hu, hSu⟩ := HPT.out i q hq
    obtain ⟨b5, o5, he, hg⟩ := HS0.out.elem hlt (by decide)
    obtain ⟨rfl, rfl⟩ : b2 = b5 ∧ o2 = o5 := by simpa using he
    have hld : g.cell b2 (o2 + i * 1) = some u := hg 0 _ (by rw [Nat.mul_one]; exact hu)
    have BI := fun L => HBD.out i q hq u hSu L
    have JN := fun L => rJoin8_gives r (boundsD q) g L
    rw [drop_of_get hq, boxF_cons] at hI
    obtain ⟨av, cv, rfl⟩ := hSu.slice
    clear hg he hu hSu hq HPT HBD HS0
    generalize boundsD q = rq at *
    repeat' (first
    | refine wkQ ?_
    | refine wkV ?_
    | ((with_reducible apply TL.gives_plain); (· kernel_rfl); (· rfl); (· exact BI _); (· rfl)) | ((with_reducible apply TW.gives_plain); (· kernel_rfl); (· rfl); (· exact BI _); (· rfl))
    | ((with_reducible apply TL.gives_plain); (· kernel_rfl); (· rfl); (· exact JN _); (· rfl)) | ((with_reducible apply TW.gives_plain); (· kernel_rfl); (· rfl); (· exact JN _); (· rfl))
    | refine stS ?_ | (refine stB ?_; intro _) | (refine stC ?_; refine And.intro (fun _ => ?_) (fun _ => ?_))
    | refine TC.region_sink 8 9 ([.obj b3 (.cells (rcC r).toArray 48 (0, 0)), .obj b1 (.cells [.int .i64 k, .slice (some ⟨b2, o2, none⟩) ps.length cap].toArray 36 (0, 0))]) (by kernel_rfl) (by decide +kernel) rfl selF ?_ | refine TQ.anyT_panic ?_
    | ((with_reducible apply TB.takeN 0); (· rfl); (· decide +kernel); (· rfl); (· first | (first | exact yQ | exact yA | exact yB | exact yM | exact yV) | fail); (· decide +kernel); (· decide +kernel); (· rfl); (· exact fun _ _ _ h => h); (· rfl))
    | ((with_reducible apply TB.takeN 1); (· rfl); (· decide +kernel); (· rfl); (· first | (first | exact yQ | exact yA | exact yB | exact yM | exact yV) | fail); (· decide +kernel); (· decide +kernel); (· rfl); (· exact fun _ _ _ h => h); (· rfl))
    | ((with_reducible apply TB.takeN 2); (· rfl); (· decide +kernel); (· rfl); (· first | (first | exact yQ | exact yA | exact yB | exact yM | exact yV) | fail); (· decide +kernel); (· decide +kernel); (· rfl); (· exact fun _ _ _ h => h); (· rfl))
    | ((with_reducible apply TB.takeN 3); (· rfl); (· decide +kernel); (· rfl); (· first | (first | exact yQ | exact yA | exact yB | exact yM | exact yV) | fail); (· decide +kernel); (· decide +kernel); (· rfl); (· exact fun _ _ _ h => h); (· rfl))
    | ((with_reducible apply TB.oneN 0); (· rfl); (· rfl); (· decide +kernel); (· rfl); intro hsk)
    | ((with_reducible apply TB.oneN 1); (· rfl); (· rfl); (· decide +kernel); (· rfl); intro hsk)
    | ((with_reducible apply TB.oneN 2); (· rfl); (· rfl); (· decide +kernel); (· rfl); intro hsk)
    | ((with_reducible apply TB.oneN 3); (· rfl); (· rfl); (· decide +kernel); (· rfl); intro hsk)
    | refine TQ.lastT (by decide +kernel) ?_ | refine TQ.anyT (by assumption) leF selF ?_)
    refine TQ.round (i + 1, joinR r rq) ?_ ?_ rfl subA selF
    · exact ⟨⟨by omega, by omega⟩, hI⟩
    · show ps.length - (i + 1) < ps.length - i
      omega
  · obtain rfl : i = ps.length := by omega
    rw [List.drop_length] at hI
    obtain rfl : r = R := hI
    repeat' (first
    | refine wkQ ?_
    | refine wkV ?_
    | refine stS ?_ | (refine stB ?_; intro _) | (refine stC ?_; refine And.intro (fun _ => ?_) (fun _ => ?_)))
    refine TQ.endR1 (L' := L) Tryz.results32 rvA rfl (.refl _) ?_ selF
    exact ⟨rfl, rfl, rfl⟩
theorem onA_drop {es : List (Pt × Pt)} {i : Nat} {e : Pt × Pt} {p : Pt} (h : es[i]? = some e) : onA (es.drop i) p = (onB e.1 e.2 p || onA (es.drop (i + 1)) p) := by
  rw [drop_of_get h]; rfl
set_option maxHeartbeats 32000000 in
theorem rIn9_gives (k : Int) (ps : List (List Pt)) (v : Value) (p : Pt) (g : Gh) (L : List Ent) (hS : IsParts g v ps) (hO : ShFew ps) (hm : ∀ q ∈ ps, q.all mayB = true) (hp : mayB p = true) : Gives Tryz.prog 33 #[shV k v, pt p] g L (.bool (inD k ps p)) := by
  refine .of (Does.of2 Tryz.func33 rfl Tryz.ntmps33 rfl ?_)
  have ED := fun L => rEdges9_does k ps v g L hS hO
  have hel : (allE k ps).length ≤ 1000000 := Nat.le_trans (allE_len_le k ps) hO.all
  have hme := allE_may' (k := k) hm
  obtain ⟨fl, hSl, hpt⟩ := hS
  obtain ⟨ao, cap, rfl⟩ := hSl.slice
  have hps := hO.ok.len
  unfold inD
  obtain ⟨N, hN⟩ : ∃ N, N = cntD k p (ps.drop 0) 0 := ⟨_, rfl⟩
  rw [show cntD k p ps 0 = N from hN.symm]
  generalize allE k ps = es at *
  obtain ⟨R, hR⟩ : ∃ R, R = (onA (es.drop 0) p || decide (N % 2 = 1)) := ⟨_, rfl⟩
  rw [show (onA es p || decide (N % 2 = 1)) = R from hR.symm]
  have HS0 := Hn.mk hSl
  have HPT := Hn.mk hpt
  clear hSl hpt
  repeat' (first
    | refine wkQ ?_
    | refine wkV ?_
    | (refine TL.call (Enters.plain (by kernel_rfl) (by rfl)) (by rfl) (ED _) ?_; (rintro e g2 Ln hg2 ⟨vc, k1, k2, k3⟩; have k2 := k2.symm; subst k1; subst k2; obtain ⟨a1, c1, rfl⟩ := k3.slice; have K3 := Hn.mk k3; clear k3; refine CallK.ret ?_))
    | refine stS ?_ | (refine stB ?_; intro _) | (refine stC ?_; refine And.intro (fun _ => ?_) (fun _ => ?_)))
  rename_i b2 b3
  refine TC.loopK (fun i : Nat => i ≤ es.length ∧ (onA (es.drop i) p || decide (N % 2 = 1)) = R) (fun i => es.length - i) (fun i _ => [(6, .int .i64 (i : Nat)), (5, .slice a1 es.length c1), (3, .pointer (some ⟨b3, 0, none⟩)), (2, .pointer (some ⟨b2, 0, none⟩))]) [] .nil (fun _ L => L) 0 ⟨Nat.zero_le _, hR.symm⟩ subA selF ?_
  clear hR ED
  rintro i ⟨hi, hI⟩
  try dsimp only at hi hI ⊢
  by_cases hlt : i < es.length
  · obtain ⟨x, hx⟩ : ∃ x, es[i]? = some x := ⟨_, List.getElem?_eq_getElem hlt⟩
    obtain ⟨b1, o1, rfl, hg⟩ := K3.out.elem hlt (by decide)
    have hld := ed_cells hg (flatE_get hx).1 (flatE_get hx).2.1 (flatE_get hx).2.2.1 (flatE_get hx).2.2.2
    obtain ⟨hp0, hp1⟩ := ed_part hld
    have hl0 : (ptC x.1).length = 2 := rfl
    have hl1 : (ptC x.2).length = 2 := rfl
    obtain ⟨mx1, mx2⟩ := hme x (List.mem_of_getElem? hx)
    have ON := fun L => rOn8_gives x.1 x.2 p g2 L mx1 mx2 hp
    rw [onA_drop hx] at hI
    clear hld hg hx hme
    cases hz : onB x.1 x.2 p with
    | true =>
      rw [hz] at ON hI
      obtain rfl : true = R := hI
      repeat' (first
    | refine wkQ ?_
    | refine wkV ?_
    | ((with_reducible apply TL.gives_plain); (· kernel_rfl); (· rfl); (· exact ON _); (· rfl)) | ((with_reducible apply TW.gives_plain); (· kernel_rfl); (· rfl); (· exact ON _); (· rfl))
    | refine stS ?_ | (refine stB ?_; intro _) | (refine stC ?_; refine And.intro (fun _ => ?_) (fun _ => ?_))
    | refine wkN0 ?_
    | refine wkN1 ?_
    | refine wkN2 ?_
    | refine wkN3 ?_
    | refine wkG0 ?_
    | refine wkG1 ?_
    | refine wkG2 ?_
    | refine wkG3 ?_
    | refine wkX0 ?_
    | refine wkX1 ?_
    | refine wkX2 ?_
    | refine wkX3 ?_
    | refine wkN0 ?_
    | refine wkN1 ?_
    | refine wkN2 ?_
    | refine wkN3 ?_
    | ((with_reducible apply TA.oneN 0); (· rfl); (· rfl); (· decide +kernel); (· rfl))
    | ((with_reducible apply TA.oneN 1); (· rfl); (· rfl); (· decide +kernel); (· rfl))
    | ((with_reducible apply TA.oneN 2); (· rfl); (· rfl); (· decide +kernel); (· rfl))
    | ((with_reducible apply TA.oneN 3); (· rfl); (· rfl); (· decide +kernel); (· rfl))
    | refine TQ.any leF selF ?_
    | refine TC.region_any 12 (_) (by kernel_rfl) rfl selF ?_ | refine TA.done (by decide +kernel) ?_ | refine TQ.any_panic ?_)
      refine TQ.less hg2 ?_
      refine TQ.endR1 (L' := L) Tryz.results33 rvA rfl (.refl _) ?_ selF
      exact ⟨rfl, rfl, rfl⟩
    | false =>
      rw [hz, Bool.false_or] at hI
      rw [hz] at ON
      repeat' (first
    | refine wkQ ?_
    | refine wkV ?_
    | ((with_reducible apply TL.gives_plain); (· kernel_rfl); (· rfl); (· exact ON _); (· rfl)) | ((with_reducible apply TW.gives_plain); (· kernel_rfl); (· rfl); (· exact ON _); (· rfl))
    | refine stS ?_ | (refine stB ?_; intro _) | (refine stC ?_; refine And.intro (fun _ => ?_) (fun _ => ?_))
    | refine wkN0 ?_
    | refine wkN1 ?_
    | refine wkN2 ?_
    | refine wkN3 ?_
    | refine wkG0 ?_
    | refine wkG1 ?_
    | refine wkG2 ?_
    | refine wkG3 ?_
    | refine wkX0 ?_
    | refine wkX1 ?_
    | refine wkX2 ?_
    | refine wkX3 ?_
    | refine wkN0 ?_
    | refine wkN1 ?_
    | refine wkN2 ?_
    | refine wkN3 ?_
    | ((with_reducible apply TA.oneN 0); (· rfl); (· rfl); (· decide +kernel); (· rfl))
    | ((with_reducible apply TA.oneN 1); (· rfl); (· rfl); (· decide +kernel); (· rfl))
    | ((with_reducible apply TA.oneN 2); (· rfl); (· rfl); (· decide +kernel); (· rfl))
    | ((with_reducible apply TA.oneN 3); (· rfl); (· rfl); (· decide +kernel); (· rfl))
    | refine TQ.any leF selF ?_
    | refine TC.region_any 12 (_) (by kernel_rfl) rfl selF ?_ | refine TA.done (by decide +kernel) ?_ | refine TQ.any_panic ?_)
      refine TQ.round (i + 1) ?_ ?_ rfl subA selF
      · exact ⟨by omega, hI⟩
      · show es.length - (i + 1) < es.length - i
        omega
  · obtain rfl : i = es.length := by omega
    rw [List.drop_length] at hI
    replace hI : decide (N % 2 = 1) = R := hI
    clear K3 hme
    repeat' (first
    | refine wkQ ?_
    | refine wkV ?_
    | refine stS ?_ | (refine stB ?_; intro _) | (refine stC ?_; refine And.intro (fun _ => ?_) (fun _ => ?_)))
    refine TC.loopK (fun z : Nat × Nat => (z.1 ≤ ps.length ∧ z.2 ≤ z.1) ∧ cntD k p (ps.drop z.1) z.2 = N) (fun z => ps.length - z.1) (fun z _ => [(8, .int .i64 (z.1 : Nat)), (7, .int .i64 (z.2 : Nat)), (3, .pointer (some ⟨b3, 0, none⟩)), (2, .pointer (some ⟨b2, 0, none⟩))]) [] .nil (fun _ L => L) (0, 0) ⟨⟨Nat.zero_le _, Nat.le_refl _⟩, hN.symm⟩ subA selF ?_
    clear hN
    rintro ⟨j, c⟩ ⟨⟨hj, hc⟩, hJ⟩
    try dsimp only at hj hc hJ ⊢
    by_cases hlt : j < ps.length
    · obtain ⟨q, hq⟩ : ∃ q, ps[j]? = some q := ⟨_, List.getElem?_eq_getElem hlt⟩
      obtain ⟨u, hu, hSu⟩ := HPT.out j q hq
      obtain ⟨b1, o1, rfl, hg1'⟩ := HS0.out.elem hlt (by decide)
      have hld : g2.cell b1 (o1 + j * 1) = some u := hg2.cell (hg1' 0 _ (by rw [Nat.mul_one]; exact hu))
      have IN := fun L => rInside8_gives q p u g2 L (hSu.le hg2) (hO.ok.part q (List.mem_of_getElem? hq)) (hm q (List.mem_of_getElem? hq)) hp
      obtain ⟨au, cu, rfl⟩ := hSu.slice
      rw [drop_of_get hq, cntD] at hJ
      clear hg1' hSu hu hq hO hm HPT HS0
      by_cases hk : k = 2
      case neg =>
        have bk : decide (k = 2) = false := decide_eq_false hk
        rw [if_neg (fun h => hk h.1)] at hJ
        clear IN
        repeat' (first
    | refine wkQ ?_
    | refine wkV ?_
    | refine stS ?_ | (refine stB ?_; intro _) | (refine stC ?_; refine And.intro (fun _ => ?_) (fun _ => ?_))
    | ((with_reducible apply TA.takeN 0); (· rfl); (· decide +kernel); (· rfl); (· first | exact Y.eql_b bk rfl rfl | (first | exact yQ | exact yA | exact yB | exact yM | exact yV)); (· decide +kernel); (· decide +kernel); (· rfl); (· exact fun _ _ _ h => h); (· rfl))
    | ((with_reducible apply TA.takeN 1); (· rfl); (· decide +kernel); (· rfl); (· first | exact Y.eql_b bk rfl rfl | (first | exact yQ | exact yA | exact yB | exact yM | exact yV)); (· decide +kernel); (· decide +kernel); (· rfl); (· exact fun _ _ _ h => h); (· rfl))
    | ((with_reducible apply TA.takeN 2); (· rfl); (· decide +kernel); (· rfl); (· first | exact Y.eql_b bk rfl rfl | (first | exact yQ | exact yA | exact yB | exact yM | exact yV)); (· decide +kernel); (· decide +kernel); (· rfl); (· exact fun _ _ _ h => h); (· rfl))
    | ((with_reducible apply TA.takeN 3); (· rfl); (· decide +kernel); (· rfl); (· first | exact Y.eql_b bk rfl rfl | (first | exact yQ | exact yA | exact yB | exact yM | exact yV)); (· decide +kernel); (· decide +kernel); (· rfl); (· exact fun _ _ _ h => h); (· rfl))
    | ((with_reducible apply TA.take_gN 0); (· rfl); (· decide +kernel); (· rfl); (· rfl); (· rfl); (· (first | exact Y.eql_b bk rfl rfl | (first | exact yQ | exact yA | exact yB | exact yM | exact yV))); (· decide +kernel); (· decide +kernel); (· rfl); (· exact fun _ _ _ h => h); (· rfl))
    | ((with_reducible apply TA.take_gN 1); (· rfl); (· decide +kernel); (· rfl); (· rfl); (· rfl); (· (first | exact Y.eql_b bk rfl rfl | (first | exact yQ | exact yA | exact yB | exact yM | exact yV))); (· decide +kernel); (· decide +kernel); (· rfl); (· exact fun _ _ _ h => h); (· rfl))
    | ((with_reducible apply TA.take_gN 2); (· rfl); (· decide +kernel); (· rfl); (· rfl); (· rfl); (· (first | exact Y.eql_b bk rfl rfl | (first | exact yQ | exact yA | exact yB | exact yM | exact yV))); (· decide +kernel); (· decide +kernel); (· rfl); (· exact fun _ _ _ h => h); (· rfl))
    | ((with_reducible apply TA.take_gN 3); (· rfl); (· decide +kernel); (· rfl); (· rfl); (· rfl); (· (first | exact Y.eql_b bk rfl rfl | (first | exact yQ | exact yA | exact yB | exact yM | exact yV))); (· decide +kernel); (· decide +kernel); (· rfl); (· exact fun _ _ _ h => h); (· rfl))
    | refine wkX0 ?_
    | refine wkX1 ?_
    | refine wkX2 ?_
    | refine wkX3 ?_
    | ((with_reducible apply TA.oneN 0); (· rfl); (· rfl); (· decide +kernel); (· rfl))
    | ((with_reducible apply TA.oneN 1); (· rfl); (· rfl); (· decide +kernel); (· rfl))
    | ((with_reducible apply TA.oneN 2); (· rfl); (· rfl); (· decide +kernel); (· rfl))
    | ((with_reducible apply TA.oneN 3); (· rfl); (· rfl); (· decide +kernel); (· rfl))
    | refine TQ.any leF selF ?_
    | refine TC.region_any 13 (_) (by kernel_rfl) rfl selF ?_ | refine TA.done (by decide +kernel) ?_ | refine TQ.any_panic ?_)
        refine TQ.round (j + 1, c) ?_ ?_ rfl subA selF
        · exact ⟨⟨by dsimp only; omega, by dsimp only; omega⟩, hJ⟩
        · show ps.length - (j + 1) < ps.length - j
          omega
      have bk : decide (k = 2) = true := decide_eq_true hk
      by_cases hi1 : insD q p = 1
      · have bi : decide (insD q p = 1) = true := decide_eq_true hi1
        rw [if_pos ⟨hk, hi1⟩] at hJ
        generalize insD q p = z at *
        repeat' (first
    | refine wkQ ?_
    | refine wkV ?_
    | ((with_reducible apply TL.gives_plain); (· kernel_rfl); (· rfl); (· exact IN _); (· rfl)) | ((with_reducible apply TW.gives_plain); (· kernel_rfl); (· rfl); (· exact IN _); (· rfl))
    | refine stS ?_ | (refine stB ?_; intro _) | (refine stC ?_; refine And.intro (fun _ => ?_) (fun _ => ?_))
    | ((with_reducible apply TA.takeN 0); (· rfl); (· decide +kernel); (· rfl); (· first | first | exact Y.eql_b bk rfl rfl | exact Y.eql_b bi rfl rfl | (first | exact yQ | exact yA | exact yB | exact yM | exact yV)); (· decide +kernel); (· decide +kernel); (· rfl); (· exact fun _ _ _ h => h); (· rfl))
    | ((with_reducible apply TA.takeN 1); (· rfl); (· decide +kernel); (· rfl); (· first | first | exact Y.eql_b bk rfl rfl | exact Y.eql_b bi rfl rfl | (first | exact yQ | exact yA | exact yB | exact yM | exact yV)); (· decide +kernel); (· decide +kernel); (· rfl); (· exact fun _ _ _ h => h); (· rfl))
    | ((with_reducible apply TA.takeN 2); (· rfl); (· decide +kernel); (· rfl); (· first | first | exact Y.eql_b bk rfl rfl | exact Y.eql_b bi rfl rfl | (first | exact yQ | exact yA | exact yB | exact yM | exact yV)); (· decide +kernel); (· decide +kernel); (· rfl); (· exact fun _ _ _ h => h); (· rfl))
    | ((with_reducible apply TA.takeN 3); (· rfl); (· decide +kernel); (· rfl); (· first | first | exact Y.eql_b bk rfl rfl | exact Y.eql_b bi rfl rfl | (first | exact yQ | exact yA | exact yB | exact yM | exact yV)); (· decide +kernel); (· decide +kernel); (· rfl); (· exact fun _ _ _ h => h); (· rfl))
    | ((with_reducible apply TA.take_gN 0); (· rfl); (· decide +kernel); (· rfl); (· rfl); (· rfl); (· (first | first | exact Y.eql_b bk rfl rfl | exact Y.eql_b bi rfl rfl | (first | exact yQ | exact yA | exact yB | exact yM | exact yV))); (· decide +kernel); (· decide +kernel); (· rfl); (· exact fun _ _ _ h => h); (· rfl))
    | ((with_reducible apply TA.take_gN 1); (· rfl); (· decide +kernel); (· rfl); (· rfl); (· rfl); (· (first | first | exact Y.eql_b bk rfl rfl | exact Y.eql_b bi rfl rfl | (first | exact yQ | exact yA | exact yB | exact yM | exact yV))); (· decide +kernel); (· decide +kernel); (· rfl); (· exact fun _ _ _ h => h); (· rfl))
    | ((with_reducible apply TA.take_gN 2); (· rfl); (· decide +kernel); (· rfl); (· rfl); (· rfl); (· (first | first | exact Y.eql_b bk rfl rfl | exact Y.eql_b bi rfl rfl | (first | exact yQ | exact yA | exact yB | exact yM | exact yV))); (· decide +kernel); (· decide +kernel); (· rfl); (· exact fun _ _ _ h => h); (· rfl))
    | ((with_reducible apply TA.take_gN 3); (· rfl); (· decide +kernel); (· rfl); (· rfl); (· rfl); (· (first | first | exact Y.eql_b bk rfl rfl | exact Y.eql_b bi rfl rfl | (first | exact yQ | exact yA | exact yB | exact yM | exact yV))); (· decide +kernel); (· decide +kernel); (· rfl); (· exact fun _ _ _ h => h); (· rfl))
    | refine wkX0 ?_
    | refine wkX1 ?_
    | refine wkX2 ?_
    | refine wkX3 ?_
    | ((with_reducible apply TA.oneN 0); (· rfl); (· rfl); (· decide +kernel); (· rfl))
    | ((with_reducible apply TA.oneN 1); (· rfl); (· rfl); (· decide +kernel); (· rfl))
    | ((with_reducible apply TA.oneN 2); (· rfl); (· rfl); (· decide +kernel); (· rfl))
    | ((with_reducible apply TA.oneN 3); (· rfl); (· rfl); (· decide +kernel); (· rfl))
    | refine TQ.any leF selF ?_
    | refine TC.region_any 13 (_) (by kernel_rfl) rfl selF ?_ | refine TA.done (by decide +kernel) ?_ | refine TQ.any_panic ?_)
        refine TQ.round (j + 1, c + 1) ?_ ?_ rfl subA selF
        · exact ⟨⟨by dsimp only; omega, by dsimp only; omega⟩, hJ⟩
        · show ps.length - (j + 1) < ps.length - j
          omega
      · have bi : decide (insD q p = 1) = false := decide_eq_false hi1
        rw [if_neg (fun h => hi1 h.2)] at hJ
        generalize insD q p = z at *
        repeat' (first
    | refine wkQ ?_
    | refine wkV ?_
    | ((with_reducible apply TL.gives_plain); (· kernel_rfl); (· rfl); (· exact IN _); (· rfl)) | ((with_reducible apply TW.gives_plain); (· kernel_rfl); (· rfl); (· exact IN _); (· rfl))
    | refine stS ?_ | (refine stB ?_; intro _) | (refine stC ?_; refine And.intro (fun _ => ?_) (fun _ => ?_))
    | ((with_reducible apply TA.takeN 0); (· rfl); (· decide +kernel); (· rfl); (· first | first | exact Y.eql_b bk rfl rfl | exact Y.eql_b bi rfl rfl | (first | exact yQ | exact yA | exact yB | exact yM | exact yV)); (· decide +kernel); (· decide +kernel); (· rfl); (· exact fun _ _ _ h => h); (· rfl))
    | ((with_reducible apply TA.takeN 1); (· rfl); (· decide +kernel); (· rfl); (· first | first | exact Y.eql_b bk rfl rfl | exact Y.eql_b bi rfl rfl | (first | exact yQ | exact yA | exact yB | exact yM | exact yV)); (· decide +kernel); (· decide +kernel); (· rfl); (· exact fun _ _ _ h => h); (· rfl))
    | ((with_reducible apply TA.takeN 2); (· rfl); (· decide +kernel); (· rfl); (· first | first | exact Y.eql_b bk rfl rfl | exact Y.eql_b bi rfl rfl | (first | exact yQ | exact yA | exact yB | exact yM | exact yV)); (· decide +kernel); (· decide +kernel); (· rfl); (· exact fun _ _ _ h => h); (· rfl))
    | ((with_reducible apply TA.takeN 3); (· rfl); (· decide +kernel); (· rfl); (· first | first | exact Y.eql_b bk rfl rfl | exact Y.eql_b bi rfl rfl | (first | exact yQ | exact yA | exact yB | exact yM | exact yV)); (· decide +kernel); (· decide +kernel); (· rfl); (· exact fun _ _ _ h => h); (· rfl))
    | ((with_reducible apply TA.take_gN 0); (· rfl); (· decide +kernel); (· rfl); (· rfl); (· rfl); (· (first | first | exact Y.eql_b bk rfl rfl | exact Y.eql_b bi rfl rfl | (first | exact yQ | exact yA | exact yB | exact yM | exact yV))); (· decide +kernel); (· decide +kernel); (· rfl); (· exact fun _ _ _ h => h); (· rfl))
    | ((with_reducible apply TA.take_gN 1); (· rfl); (· decide +kernel); (· rfl); (· rfl); (· rfl); (· (first | first | exact Y.eql_b bk rfl rfl | exact Y.eql_b bi rfl rfl | (first | exact yQ | exact yA | exact yB | exact yM | exact yV))); (· decide +kernel); (· decide +kernel); (· rfl); (· exact fun _ _ _ h => h); (· rfl))
    | ((with_reducible apply TA.take_gN 2); (· rfl); (· decide +kernel); (· rfl); (· rfl); (· rfl); (· (first | first | exact Y.eql_b bk rfl rfl | exact Y.eql_b bi rfl rfl | (first | exact yQ | exact yA | exact yB | exact yM | exact yV))); (· decide +kernel); (· decide +kernel); (· rfl); (· exact fun _ _ _ h => h); (· rfl))
    | ((with_reducible apply TA.take_gN 3); (· rfl); (· decide +kernel); (· rfl); (· rfl); (· rfl); (· (first | first | exact Y.eql_b bk rfl rfl | exact Y.eql_b bi rfl rfl | (first | exact yQ | exact yA | exact yB | exact yM | exact yV))); (· decide +kernel); (· decide +kernel); (· rfl); (· exact fun _ _ _ h => h); (· rfl))
    | refine wkX0 ?_
    | refine wkX1 ?_
    | refine wkX2 ?_
    | refine wkX3 ?_
    | ((with_reducible apply TA.oneN 0); (· rfl); (· rfl); (· decide +kernel); (· rfl))
    | ((with_reducible apply TA.oneN 1); (· rfl); (· rfl); (· decide +kernel); (· rfl))
    | ((with_reducible apply TA.oneN 2); (· rfl); (· rfl); (· decide +kernel); (· rfl))
    | ((with_reducible apply TA.oneN 3); (· rfl); (· rfl); (· decide +kernel); (· rfl))
    | refine TQ.any leF selF ?_
    | refine TC.region_any 13 (_) (by kernel_rfl) rfl selF ?_ | refine TA.done (by decide +kernel) ?_ | refine TQ.any_panic ?_)
        refine TQ.round (j + 1, c) ?_ ?_ rfl subA selF
        · exact ⟨⟨by dsimp only; omega, by dsimp only; omega⟩, hJ⟩
        · show ps.length - (j + 1) < ps.length - j
          omega
    · obtain rfl : j = ps.length := by omega
      rw [List.drop_length] at hJ
      obtain rfl : c = N := hJ
      have bz : decide (((c % 2 : Nat) : Int) = 1) = R := by rw [← hI]; exact decide_eq_decide.2 (by omega)
      have hr : Hn (((c : Nat) : Int).tmod 2 = ((c % 2 : Nat) : Int)) := ⟨by rfl⟩
      repeat' (first
    | refine wkQ ?_
    | ((with_reducible apply TL.pure (d := 52) (v := .int .i64 ((c % 2 : Nat) : Int))); (· exact Y.rem rfl rfl (by decide) hr.out); (· rfl)) | ((with_reducible apply TW.pure (d := 52) (v := .int .i64 ((c % 2 : Nat) : Int))); (· exact Y.rem rfl rfl (by decide) hr.out); (· rfl))
    | ((with_reducible apply TL.pure (d := 53) (v := .bool R)); (· exact Y.eql_b bz rfl rfl); (· rfl)) | ((with_reducible apply TW.pure (d := 53) (v := .bool R)); (· exact Y.eql_b bz rfl rfl); (· rfl))
    | refine wkV ?_
    | refine stS ?_ | (refine stB ?_; intro _) | (refine stC ?_; refine And.intro (fun _ => ?_) (fun _ => ?_)))
      refine TQ.less hg2 ?_
      refine TQ.endR1 (L' := L) Tryz.results33 rvA rfl (.refl _) ?_ selF
      exact ⟨rfl, rfl, rfl⟩
end Go.Proofs.YtfanccddokckcaaGreatDoor
