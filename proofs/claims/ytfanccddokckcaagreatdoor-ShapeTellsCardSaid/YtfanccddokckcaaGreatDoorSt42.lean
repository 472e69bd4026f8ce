/-
  The laws' own functions over shapes, walked: of, alike; the document's Light. The walk of layer 9's awake. The walk of the law ShapeBack.
-/
import Derived.Test.YtfanccddokckcaaGreatDoorSt2
import Derived.Test.YtfanccddokckcaaGreatDoorSt33
import Derived.Test.YtfanccddokckcaaGreatDoorSt40
import Derived.Test.YtfanccddokckcaaGreatDoorSt14
import Derived.Test.YtfanccddokckcaaGreatDoorSt38
namespace Go.Proofs.YtfanccddokckcaaGreatDoor
open Go.RowKit Go.TL
set_option maxRecDepth 100000

def lightD (most : Nat) (ps : List (List Pt)) : Bool := decide (ps.flatten.length ≤ most) && decide (ps.length ≤ most)
set_option maxHeartbeats 16000000 in
theorem rLight9_gives (k : Int) (ps : List (List Pt)) (v : Value) (most : Nat) (g : Gh) (L : List Ent) (hS : IsParts g v ps) (_hm : most ≤ 1000) (hb : ∀ q ∈ ps, q.length ≤ 8796093022208) (_hl : ps.length ≤ 9223372036854775807) : Gives Tryz.prog 15 #[shV k v, .int .i64 (most : Nat)] g L (.bool (lightD most ps)) := by
  refine .of (Does.of2 Tryz.func15 rfl Tryz.ntmps15 rfl ?_)
  obtain ⟨fl, hSl, hpt⟩ := hS
  obtain ⟨ao, cap, rfl⟩ := hSl.slice
  have HS0 := Hn.mk hSl
  have HPT := Hn.mk hpt
  have HB := Hn.mk hb
  clear hSl hpt hb
  unfold lightD
  by_cases h0 : ps.length ≤ most
  case neg =>
    have b0 : decide (((ps.length : Nat) : Int) ≤ (most : Nat)) = false := decide_eq_false (by omega)
    rw [decide_eq_false h0, Bool.and_false]
    repeat' (first
    | refine wkQ ?_
    | refine wkV ?_
    | refine stS ?_ | (refine stB ?_; intro _) | (refine stC ?_; refine And.intro (fun _ => ?_) (fun _ => ?_)))
    rename_i b2
    refine TC.loopK (fun z : Nat × Int => z.1 ≤ ps.length) (fun z => ps.length - z.1) (fun z _ => [(6, .int .i64 (z.1 : Nat)), (5, .int .i64 z.2), (2, .pointer (some ⟨b2, 0, none⟩)), (1, .int .i64 (most : Nat))]) [] .nil (fun _ L => L) (0, 0) (Nat.zero_le _) subA selF ?_
    rintro ⟨j, c⟩ hj
    try dsimp only at hj ⊢
    by_cases hlt : j < ps.length
    · obtain ⟨q, hq⟩ : ∃ q, ps[j]? = some q := ⟨_, List.getElem?_eq_getElem hlt⟩
      obtain ⟨u, hu, hSu⟩ := HPT.out j q hq
      obtain ⟨b1, o1, rfl, hg1'⟩ := HS0.out.elem hlt (by decide)
      have hld : g.cell b1 (o1 + j * 1) = some u := hg1' 0 _ (by rw [Nat.mul_one]; exact hu)
      obtain ⟨au, cu, rfl⟩ := hSu.slice
      clear hg1' hSu hu hq HPT HS0 HB
      repeat' (first
    | refine wkQ ?_
    | ((with_reducible apply TL.pure (d := 21) (v := .int .i64 (IntKind.i64.wrap (c + (q.length : Nat))))); (· exact Y.add rfl rfl rfl); (· rfl)) | ((with_reducible apply TW.pure (d := 21) (v := .int .i64 (IntKind.i64.wrap (c + (q.length : Nat))))); (· exact Y.add rfl rfl rfl); (· rfl))
    | refine wkV ?_
    | refine stS ?_ | (refine stB ?_; intro _) | (refine stC ?_; refine And.intro (fun _ => ?_) (fun _ => ?_)))
      refine TQ.round (j + 1, IntKind.i64.wrap (c + (q.length : Nat))) ?_ ?_ rfl subA selF
      · show j + 1 ≤ ps.length
        omega
      · show ps.length - (j + 1) < ps.length - j
        omega
    · obtain rfl : j = ps.length := by omega
      cases bc : decide (c ≤ ((most : Nat) : Int)) with
      | true =>
        repeat' (first
    | refine wkQ ?_
    | ((with_reducible apply TL.pure (d := 24) (v := .bool true)); (· exact Y.leqB bc rfl rfl); (· rfl)) | ((with_reducible apply TW.pure (d := 24) (v := .bool true)); (· exact Y.leqB bc rfl rfl); (· rfl))
    | ((with_reducible apply TL.pure (d := 30) (v := .bool false)); (· exact Y.leqB b0 rfl rfl); (· rfl)) | ((with_reducible apply TW.pure (d := 30) (v := .bool false)); (· exact Y.leqB b0 rfl rfl); (· rfl))
    | refine wkV ?_
    | refine stS ?_ | (refine stB ?_; intro _) | (refine stC ?_; refine And.intro (fun _ => ?_) (fun _ => ?_)))
        refine TQ.endR1 (L' := L) Tryz.results15 rvA rfl (.refl _) ?_ selF
        exact ⟨rfl, rfl, rfl⟩
      | false =>
        repeat' (first
    | refine wkQ ?_
    | ((with_reducible apply TL.pure (d := 24) (v := .bool false)); (· exact Y.leqB bc rfl rfl); (· rfl)) | ((with_reducible apply TW.pure (d := 24) (v := .bool false)); (· exact Y.leqB bc rfl rfl); (· rfl))
    | refine wkV ?_
    | refine stS ?_ | (refine stB ?_; intro _) | (refine stC ?_; refine And.intro (fun _ => ?_) (fun _ => ?_)))
        refine TQ.endR1 (L' := L) Tryz.results15 rvA rfl (.refl _) ?_ selF
        exact ⟨rfl, rfl, rfl⟩
  have b0 : decide (((ps.length : Nat) : Int) ≤ (most : Nat)) = true := decide_eq_true (by omega)
  rw [decide_eq_true h0, Bool.and_true]
  obtain ⟨N, hN⟩ : ∃ N, N = ps.flatten.length := ⟨_, rfl⟩
  rw [← hN]
  repeat' (first
    | refine wkQ ?_
    | refine wkV ?_
    | refine stS ?_ | (refine stB ?_; intro _) | (refine stC ?_; refine And.intro (fun _ => ?_) (fun _ => ?_)))
  rename_i b2
  refine TC.loopK (fun z : Nat × Nat => z.1 ≤ ps.length ∧ z.2 ≤ z.1 * 8796093022208 ∧ z.2 + (ps.drop z.1).flatten.length = N) (fun z => ps.length - z.1) (fun z _ => [(6, .int .i64 (z.1 : Nat)), (5, .int .i64 (z.2 : Nat)), (2, .pointer (some ⟨b2, 0, none⟩)), (1, .int .i64 (most : Nat))]) [] .nil (fun _ L => L) (0, 0) ⟨Nat.zero_le _, Nat.zero_le _, by rw [hN]; simp⟩ subA selF ?_
  rintro ⟨j, c⟩ ⟨hj, hc, hI⟩
  try dsimp only at hj hc hI ⊢
  by_cases hlt : j < ps.length
  · obtain ⟨q, hq⟩ : ∃ q, ps[j]? = some q := ⟨_, List.getElem?_eq_getElem hlt⟩
    obtain ⟨u, hu, hSu⟩ := HPT.out j q hq
    obtain ⟨b1, o1, rfl, hg1'⟩ := HS0.out.elem hlt (by decide)
    have hld : g.cell b1 (o1 + j * 1) = some u := hg1' 0 _ (by rw [Nat.mul_one]; exact hu)
    have hql := HB.out q (List.mem_of_getElem? hq)
    obtain ⟨au, cu, rfl⟩ := hSu.slice
    rw [drop_of_get hq, List.flatten_cons, List.length_append] at hI
    have HA := Hn.mk (show IntKind.i64.wrap (((c : Nat) : Int) + (q.length : Nat)) = ((c + q.length : Nat) : Int) by rw [IntWalk.i64_in _ (by omega)]; rfl)
    clear hg1' hSu hu hq HPT HS0 HB
    repeat' (first
    | refine wkQ ?_
    | ((with_reducible apply TL.pure (d := 21) (v := .int .i64 ((c + q.length : Nat) : Int))); (· exact Y.add rfl rfl HA.out); (· rfl)) | ((with_reducible apply TW.pure (d := 21) (v := .int .i64 ((c + q.length : Nat) : Int))); (· exact Y.add rfl rfl HA.out); (· rfl))
    | refine wkV ?_
    | refine stS ?_ | (refine stB ?_; intro _) | (refine stC ?_; refine And.intro (fun _ => ?_) (fun _ => ?_)))
    refine TQ.round (j + 1, c + q.length) ?_ ?_ rfl subA selF
    · exact ⟨by omega, by dsimp only; omega, by dsimp only; omega⟩
    · show ps.length - (j + 1) < ps.length - j
      omega
  · obtain rfl : j = ps.length := by omega
    rw [List.drop_length] at hI
    obtain rfl : c = N := by simpa using hI
    cases bc : decide (((c : Nat) : Int) ≤ ((most : Nat) : Int)) with
    | true =>
      rw [decide_eq_true (show c ≤ most by have := of_decide_eq_true bc; omega)]
      repeat' (first
    | refine wkQ ?_
    | ((with_reducible apply TL.pure (d := 24) (v := .bool true)); (· exact Y.leqB bc rfl rfl); (· rfl)) | ((with_reducible apply TW.pure (d := 24) (v := .bool true)); (· exact Y.leqB bc rfl rfl); (· rfl))
    | ((with_reducible apply TL.pure (d := 30) (v := .bool true)); (· exact Y.leqB b0 rfl rfl); (· rfl)) | ((with_reducible apply TW.pure (d := 30) (v := .bool true)); (· exact Y.leqB b0 rfl rfl); (· rfl))
    | refine wkV ?_
    | refine stS ?_ | (refine stB ?_; intro _) | (refine stC ?_; refine And.intro (fun _ => ?_) (fun _ => ?_)))
      refine TQ.endR1 (L' := L) Tryz.results15 rvA rfl (.refl _) ?_ selF
      exact ⟨rfl, rfl, rfl⟩
    | false =>
      rw [decide_eq_false (show ¬ c ≤ most by have := of_decide_eq_false bc; omega)]
      repeat' (first
    | refine wkQ ?_
    | ((with_reducible apply TL.pure (d := 24) (v := .bool false)); (· exact Y.leqB bc rfl rfl); (· rfl)) | ((with_reducible apply TW.pure (d := 24) (v := .bool false)); (· exact Y.leqB bc rfl rfl); (· rfl))
    | refine wkV ?_
    | refine stS ?_ | (refine stB ?_; intro _) | (refine stC ?_; refine And.intro (fun _ => ?_) (fun _ => ?_)))
      refine TQ.endR1 (L' := L) Tryz.results15 rvA rfl (.refl _) ?_ selF
      exact ⟨rfl, rfl, rfl⟩
theorem light_few {most : Nat} {ps : List (List Pt)} (_hm : most ≤ 1000) (h : lightD most ps = true) : ShFew ps := by
  unfold lightD at h
  rw [Bool.and_eq_true, decide_eq_true_eq, decide_eq_true_eq] at h
  refine ⟨⟨by omega, fun p hp => ?_⟩, by omega⟩
  obtain ⟨i, hi⟩ := List.getElem?_of_mem hp
  have h1 : p.length ≤ ps.flatten.length := by
    obtain ⟨a, b, rfl⟩ := List.append_of_mem hp
    simp
    omega
  omega
structure OfS where
  i : Nat
  v : Value
  fl : List Value
  g : Gh
structure OfI (ps : List (List Pt)) (g : Gh) (x : OfS) : Prop where
  le : x.i ≤ ps.length
  fll : x.fl.length = x.i
  hg : g.le x.g
  pt : ∀ (j : Nat) (p : List Pt), j < x.i → ps[j]? = some p → ∃ u, x.fl[j]? = some u ∧ Sl x.g u p.length 2 (flatP p)
set_option maxHeartbeats 32000000 in
theorem of09_does (k : Int) (ps : List (List Pt)) (v : Value) (g : Gh) (L : List Ent) (hS : IsParts g v ps) (hO : ShOk ps) : Does Tryz.prog 17 #[shV k v] g L (fun e g' L' => ∃ v', e = .returned (shV k v') ∧ L' = L ∧ IsParts g' v' ps) := by
  refine Does.of1 Tryz.func17 rfl Tryz.ntmps17 rfl ?_
  obtain ⟨fl, hSl, hpt⟩ := hS
  obtain ⟨ao, cap, rfl⟩ := hSl.slice
  have hps := hO.len
  have HS0 := Hn.mk hSl
  have HPT := Hn.mk hpt
  have HO := Hn.mk hO
  clear hSl hpt hO
  refine TC.row_nil 54 1 ?_
  repeat' (first
    | refine wkQ ?_
    | refine wkV ?_
    | refine stS ?_ | (refine stB ?_; intro _) | (refine stC ?_; refine And.intro (fun _ => ?_) (fun _ => ?_)))
  rename_i b1 b2 b3
  refine TC.loop (OfI ps g) (fun x => ps.length - x.i) (fun x => [(4, .int .i64 (x.i : Nat)), (3, .pointer (some ⟨b3, 0, none⟩)), (2, .pointer (some ⟨b2, 0, none⟩)), (1, .pointer (some ⟨b1, 0, none⟩))]) (fun x => x.g) (fun x => .obj b3 (.cells [.int .i64 k, x.v].toArray 30 (0, 0)) :: .row 54 1 x.v x.i x.fl :: .obj b2 (.cells [.int .i64 0, .slice none 0 0].toArray 30 (0, 0)) :: .obj b1 (.cells [.int .i64 k, .slice ao ps.length cap].toArray 36 (0, 0)) :: L) ⟨0, .slice none 0 0, [], g⟩ ⟨Nat.zero_le _, rfl, .refl g, fun j p h => absurd h (Nat.not_lt_zero _)⟩ rfl subA selF ?_
  rintro ⟨i, v, fl2, gx⟩ ⟨hi, hfl, hgx, hp⟩
  dsimp only at hi hfl hgx hp ⊢
  refine TC.row_slice (v := v) (.there .here) ?_
  rintro av cv rfl _
  by_cases hlt : i < ps.length
  · obtain ⟨q, hq⟩ : ∃ q, ps[i]? = some q := ⟨_, List.getElem?_eq_getElem hlt⟩
    obtain ⟨u, hu, hSu'⟩ := HPT.out i q hq
    obtain ⟨b5, o5, rfl, hg1'⟩ := HS0.out.elem hlt (by decide)
    have hld : gx.cell b5 (o5 + i * 1) = some u := hgx.cell (hg1' 0 _ (by rw [Nat.mul_one]; exact hu))
    have hql := HO.out.part q (List.mem_of_getElem? hq)
    have hSu := hSu'.le hgx
    have HP := Hn.mk hp
    obtain ⟨au, cu, rfl⟩ := hSu.slice
    clear hg1' hSu' hu HPT HS0 HO hp
    repeat' (first
    | refine wkQ ?_
    | refine wkV ?_
    | ((with_reducible apply TL.pure); (· exact yM); (· rfl)) | ((with_reducible apply TW.pure); (· exact yM); (· rfl))
    | ((with_reducible apply TL.storeK); (· rfl); (· rfl); (· exact rfl); (· exact pkA); (· exact Nat.le_of_ble_eq_true rfl))
    | (refine TL.build_empty (d := 17) (by rfl) (fun bb => ?_); refine TL.obj_row (e := 50) (b := bb) (k := 0) (sz := 2) .here rfl (by decide) ?_)
    | ((with_reducible apply TL.append (d := 23)); (· rfl); (· rfl); (· rfl); (· rfl); (· exact pkA); (· exact Src.sl hSu); (· exact (flatP_len q)); (· exact (flatP_ones q)); (· exact ⟨by unfold maxLen; omega, by omega⟩); (· rfl); intro vf; refine Go.TL.TL.row_slice (v := vf) pkA ?_; rintro a3 c3 rfl _; refine Go.TL.TL.freeze (v := .slice a3 (0 + q.length) c3) pkA ?_; intro g2 hg2 HS2)
    | ((with_reducible apply TL.build_slice); (· rfl); (· rfl); (· exact oneA); (· rfl); (· rfl); (· rfl); intro _) | refine TL.build_one (by rfl) (by first | rfl | assumption) (by rfl) (by rfl) (by rfl) (by rfl) (fun _ => ?_) | refine TL.build_empty (by rfl) (fun _ => ?_)
    | ((with_reducible apply TL.append (e := 54)); (· rfl); (· rfl); (· rfl); (· rfl); (· exact pkA); (· first | exact Src.obj pkA | exact Src.sl (by assumption) | exact Src.row pkA); (· first | rfl | exact (byteVals_length _).trans (Nat.mul_one _).symm); (· first | exact byteVals_all _ | exact oneA); (· exact ⟨by unfold maxLen; omega, by omega⟩); (· rfl); intro vf; refine Go.TL.TL.row_slice (v := vf) pkA ?_; rintro a2 c2 rfl _)
    | refine stS ?_ | (refine stB ?_; intro _) | (refine stC ?_; refine And.intro (fun _ => ?_) (fun _ => ?_))
    | refine TC.region_sink 12 13 ([.obj b3 (.cells [.int .i64 k, .slice av i cv].toArray 30 (0, 0)), .obj b1 (.cells [.int .i64 k, .slice (some ⟨b5, o5, none⟩) ps.length cap].toArray 36 (0, 0))]) (by kernel_rfl) (by decide +kernel) rfl selF ?_ | refine TQ.anyT_panic ?_
    | ((with_reducible apply TB.takeF 0); (· rfl); (· decide +kernel); (· rfl); (· first | (first | exact yQ | exact yA | exact yB | exact yM | exact yV) | fail); (· decide +kernel); (· decide +kernel); (· rfl); (· exact fun _ _ _ h => h); (· rfl))
    | ((with_reducible apply TB.takeF 1); (· rfl); (· decide +kernel); (· rfl); (· first | (first | exact yQ | exact yA | exact yB | exact yM | exact yV) | fail); (· decide +kernel); (· decide +kernel); (· rfl); (· exact fun _ _ _ h => h); (· rfl))
    | ((with_reducible apply TB.takeF 2); (· rfl); (· decide +kernel); (· rfl); (· first | (first | exact yQ | exact yA | exact yB | exact yM | exact yV) | fail); (· decide +kernel); (· decide +kernel); (· rfl); (· exact fun _ _ _ h => h); (· rfl))
    | ((with_reducible apply TB.takeF 3); (· rfl); (· decide +kernel); (· rfl); (· first | (first | exact yQ | exact yA | exact yB | exact yM | exact yV) | fail); (· decide +kernel); (· decide +kernel); (· rfl); (· exact fun _ _ _ h => h); (· rfl))
    | ((with_reducible apply TB.takeF 4); (· rfl); (· decide +kernel); (· rfl); (· first | (first | exact yQ | exact yA | exact yB | exact yM | exact yV) | fail); (· decide +kernel); (· decide +kernel); (· rfl); (· exact fun _ _ _ h => h); (· rfl))
    | ((with_reducible apply TB.takeF 5); (· rfl); (· decide +kernel); (· rfl); (· first | (first | exact yQ | exact yA | exact yB | exact yM | exact yV) | fail); (· decide +kernel); (· decide +kernel); (· rfl); (· exact fun _ _ _ h => h); (· rfl))
    | ((with_reducible apply TB.takeF 6); (· rfl); (· decide +kernel); (· rfl); (· first | (first | exact yQ | exact yA | exact yB | exact yM | exact yV) | fail); (· decide +kernel); (· decide +kernel); (· rfl); (· exact fun _ _ _ h => h); (· rfl))
    | ((with_reducible apply TB.takeF 7); (· rfl); (· decide +kernel); (· rfl); (· first | (first | exact yQ | exact yA | exact yB | exact yM | exact yV) | fail); (· decide +kernel); (· decide +kernel); (· rfl); (· exact fun _ _ _ h => h); (· rfl))
    | ((with_reducible apply TB.takeF 8); (· rfl); (· decide +kernel); (· rfl); (· first | (first | exact yQ | exact yA | exact yB | exact yM | exact yV) | fail); (· decide +kernel); (· decide +kernel); (· rfl); (· exact fun _ _ _ h => h); (· rfl))
    | ((with_reducible apply TB.takeF 9); (· rfl); (· decide +kernel); (· rfl); (· first | (first | exact yQ | exact yA | exact yB | exact yM | exact yV) | fail); (· decide +kernel); (· decide +kernel); (· rfl); (· exact fun _ _ _ h => h); (· rfl))
    | ((with_reducible apply TB.takeF 10); (· rfl); (· decide +kernel); (· rfl); (· first | (first | exact yQ | exact yA | exact yB | exact yM | exact yV) | fail); (· decide +kernel); (· decide +kernel); (· rfl); (· exact fun _ _ _ h => h); (· rfl))
    | ((with_reducible apply TB.takeF 11); (· rfl); (· decide +kernel); (· rfl); (· first | (first | exact yQ | exact yA | exact yB | exact yM | exact yV) | fail); (· decide +kernel); (· decide +kernel); (· rfl); (· exact fun _ _ _ h => h); (· rfl))
    | ((with_reducible apply TB.takeF 12); (· rfl); (· decide +kernel); (· rfl); (· first | (first | exact yQ | exact yA | exact yB | exact yM | exact yV) | fail); (· decide +kernel); (· decide +kernel); (· rfl); (· exact fun _ _ _ h => h); (· rfl))
    | ((with_reducible apply TB.oneF 0); (· rfl); (· rfl); (· decide +kernel); (· rfl); intro hsk)
    | ((with_reducible apply TB.oneF 1); (· rfl); (· rfl); (· decide +kernel); (· rfl); intro hsk)
    | ((with_reducible apply TB.oneF 2); (· rfl); (· rfl); (· decide +kernel); (· rfl); intro hsk)
    | ((with_reducible apply TB.oneF 3); (· rfl); (· rfl); (· decide +kernel); (· rfl); intro hsk)
    | ((with_reducible apply TB.oneF 4); (· rfl); (· rfl); (· decide +kernel); (· rfl); intro hsk)
    | ((with_reducible apply TB.oneF 5); (· rfl); (· rfl); (· decide +kernel); (· rfl); intro hsk)
    | ((with_reducible apply TB.oneF 6); (· rfl); (· rfl); (· decide +kernel); (· rfl); intro hsk)
    | ((with_reducible apply TB.oneF 7); (· rfl); (· rfl); (· decide +kernel); (· rfl); intro hsk)
    | ((with_reducible apply TB.oneF 8); (· rfl); (· rfl); (· decide +kernel); (· rfl); intro hsk)
    | ((with_reducible apply TB.oneF 9); (· rfl); (· rfl); (· decide +kernel); (· rfl); intro hsk)
    | ((with_reducible apply TB.oneF 10); (· rfl); (· rfl); (· decide +kernel); (· rfl); intro hsk)
    | ((with_reducible apply TB.oneF 11); (· rfl); (· rfl); (· decide +kernel); (· rfl); intro hsk)
    | ((with_reducible apply TB.oneF 12); (· rfl); (· rfl); (· decide +kernel); (· rfl); intro hsk)
    | refine TQ.lastT (by decide +kernel) ?_ | refine TQ.anyT (by assumption) leF selF ?_)
    refine TQ.round (OfS.mk (i + 1) (.slice a2 (i + 1) c2) (fl2 ++ [.slice a3 (0 + q.length) c3]) g2) ?_ ?_ rfl subA selF
    · refine ⟨by dsimp only; omega, by dsimp only; rw [List.length_append, List.length_singleton, hfl], hgx.trans hg2, fun j p hj h => ?_⟩
      dsimp only at hj ⊢
      by_cases he : j = i
      · subst he
        rw [hq] at h
        cases h
        refine ⟨_, by rw [List.getElem?_append_right (by omega), show j - fl2.length = 0 by omega]; rfl, ?_⟩
        rw [Nat.zero_add] at HS2 ⊢
        exact HS2
      · obtain ⟨u, h1, h2⟩ := HP.out j p (by omega) h
        exact ⟨u, by rw [List.getElem?_append_left (by omega)]; exact h1, h2.le hg2⟩
    · show ps.length - (i + 1) < ps.length - i
      omega
  · obtain rfl : i = ps.length := by omega
    repeat' (first
    | refine wkQ ?_
    | refine wkV ?_
    | refine stS ?_ | (refine stB ?_; intro _) | (refine stC ?_; refine And.intro (fun _ => ?_) (fun _ => ?_)))
    refine TQ.freeze (v := .slice av ps.length cv) pkA fun g2 hg2 HS2 => ?_
    refine TQ.endR1 (L' := L) Tryz.results17 rvA rfl (hgx.trans hg2) ?_ selF
    exact ⟨_, rfl, rfl, fl2, HS2, fun j p h => by
      obtain ⟨u, h1, h2⟩ := hp j p (List.getElem?_eq_some_iff.1 h).1 h
      exact ⟨u, h1, h2.le hg2⟩⟩
end Go.Proofs.YtfanccddokckcaaGreatDoor
namespace Go.Proofs.YtfanccddokckcaaGreatDoor
open Go.RowKit Go.TL
set_option maxRecDepth 100000

abbrev aw9P : Pt := (15000000, -20000000)
abbrev aw9R : Rc := ⟨0, 0, 10, 10⟩
theorem aw9a : readX (tellJ 0 [[aw9P]]) = some (0, [[aw9P]]) := by kernel_rfl
theorem aw9b : readX (.num 1) = none := by kernel_rfl
theorem aw9c : ofOk aw9R = true := by kernel_rfl
theorem aw9d : inX 2 [rectL aw9R] (5, 5) = true := by kernel_rfl
theorem aw9e : inX 2 [rectL aw9R] (11, 5) = false := by kernel_rfl
theorem aw9f : rightB 0 [[aw9P]] = true := by kernel_rfl
set_option maxHeartbeats 32000000 in
theorem awake09_gives {g : Gh} {L : List Ent} (hT : GTabs g) (hU : GU8 g) : Gives Tryz.prog 14 #[] g L (.bool true) := by
  refine .of (Does.of0 Tryz.func14 rfl Tryz.ntmps14 rfl ?_)
  have R1 := fun (g1 : Gh) (h : g.le g1) (v : Value) (hv : IsJ g1 (tellJ 0 [[aw9P]]) v) L => sRead_does _ v g1 L hv (by simp [tellJ, whereJ, kindN, ptJ, headS, smJ, smJs]) (hT.le h) (hU.le h)
  have R2 := fun (g1 : Gh) (h : g.le g1) (v : Value) (hv : IsJ g1 (.num 1) v) L => sRead_does _ v g1 L hv (by rw [smJ]; trivial) (hT.le h) (hU.le h)
  have OF := fun g1 L => sOf_does aw9R g1 L
  rw [aw9a] at R1
  rw [aw9b] at R2
  unfold ReadXR at R1 R2
  unfold OfR at OF
  rw [aw9c] at OF
  dsimp only at R1 R2 OF
  have hO2 : ShOk [rectL aw9R] := ok_one (by decide)
  repeat' (first
    | refine wkQ ?_
    | (refine TL.build_slice (d := 11) (by rfl) (by rfl) (by exact oneA) (by rfl) (by rfl) (by rfl) (fun bb => ?_); refine TL.freeze_obj (k := 2) bb 1 .here rfl (by decide) ?_; rintro g1 h1 s1; have j1 := ptJ_is (p := aw9P) (by decide) s1; clear s1)
    | (refine TL.build_rows (d := 14) (len := 2) (sz := 2) [[str typeB, .iface 9 (str pointB)], [str coordB, .iface 72 (.slice (some ⟨_, 0, none⟩) 2 2)]] (by rfl) (by rfl) (by rfl) (by rfl) (by rfl) (by rfl) (by rfl) (by rfl) (fun bb => ?_); refine TL.freeze_obj (k := 2) bb 2 .here rfl (by decide) ?_; rintro g2 h2 s2; have j2 := tell_is (k := 0) (ps := [[aw9P]]) s2 (j1.le h2 _ _); clear s2 j1; have h02 := h1.trans h2; have Q1 := R1 g2 h02 _ j2; clear R1 j2)
    | refine wkV ?_
    | refine stS ?_ | (refine stB ?_; intro _) | (refine stC ?_; refine And.intro (fun _ => ?_) (fun _ => ?_)))
  repeat' (first
    | refine wkQ ?_
    | (refine TL.call (Enters.plain (by kernel_rfl) (by rfl)) (by rfl) (Q1 _) ?_; (rintro e g3 Ln h3 ⟨vp, k2, k1, k3⟩; subst k1; subst k2; obtain ⟨b, o, cap, q, u, rfl, _, hq, _, _, _, hld, hSu⟩ := first_part aw9f k3; obtain rfl : [aw9P] = q := (by simpa using hq); obtain ⟨au, cu, rfl⟩ := hSu.slice; have HLD := Hn.mk hld; have HSU := Hn.mk hSu; have h03 := h02.trans h3; clear k3 hq hld hSu Q1; refine CallK.ret ?_))
    | (refine TL.call (Enters.plain (by kernel_rfl) (by rfl)) (by rfl) (OF _ _) ?_; (rintro e g4 Ln h4 ⟨vq, k2, k1, k3⟩; subst k1; subst k2; obtain ⟨aq, cq, rfl⟩ : ∃ a c, vq = .slice a [rectL aw9R].length c := (by obtain ⟨_, h, _⟩ := k3; exact h.slice); have KQ := Hn.mk k3; have h04 := h03.trans h4; have Q2 := R2 g4 h04 (.iface 70 (.int .i64 1)) (by rw [IsJ]; exact ⟨rfl, by decide, by decide⟩); clear k3 R2; refine CallK.ret ?_))
    | (refine TL.call (Enters.plain (by kernel_rfl) (by rfl)) (by rfl) (Q2 _) ?_; (rintro e g5 Ln h5 ⟨vz, k2, k1, k3⟩; subst k1; subst k2; subst k3; refine CallK.ret ?_))
    | refine wkV ?_
    | refine stS ?_ | (refine stB ?_; intro _) | (refine stC ?_; refine And.intro (fun _ => ?_) (fun _ => ?_)))
  have h35 := h4.trans h5
  have hld := h35.cell HLD.out
  have hSu := HSU.out.le h35
  obtain ⟨b3, o3, rfl, hg3⟩ := hSu.elem (i := 0) (by decide) (by decide)
  have hldp := pt_cells (p := aw9P) hg3 rfl rfl
  have hll : [Value.int .i64 aw9P.1, .int .i64 aw9P.2].length = 2 := rfl
  have I1 := fun L => sIn_gives 2 [rectL aw9R] (.slice aq [rectL aw9R].length cq) (5, 5) g5 L (KQ.out.le h5) hO2
  have I2 := fun L => sIn_gives 2 [rectL aw9R] (.slice aq [rectL aw9R].length cq) (11, 5) g5 L (KQ.out.le h5) hO2
  rw [aw9d] at I1
  rw [aw9e] at I2
  have h05 := h04.trans h5
  clear hg3 hSu HSU HLD KQ Q2 OF hT hU hO2
  repeat' (first
    | refine wkQ ?_
    | ((with_reducible apply TL.pure (d := 55) (v := .bool true)); (· exact Y.eql_pt (p := aw9P) (q := aw9P) (decide_eq_true rfl) rfl rfl); (· rfl)) | ((with_reducible apply TW.pure (d := 55) (v := .bool true)); (· exact Y.eql_pt (p := aw9P) (q := aw9P) (decide_eq_true rfl) rfl rfl); (· rfl))
    | refine wkV ?_
    | ((with_reducible apply TL.pure); (· exact yM); (· rfl)) | ((with_reducible apply TW.pure); (· exact yM); (· rfl))
    | ((with_reducible apply TL.gives_plain); (· kernel_rfl); (· rfl); (· exact I1 _); (· rfl)) | ((with_reducible apply TW.gives_plain); (· kernel_rfl); (· rfl); (· exact I1 _); (· rfl))
    | ((with_reducible apply TL.gives_plain); (· kernel_rfl); (· rfl); (· exact I2 _); (· rfl)) | ((with_reducible apply TW.gives_plain); (· kernel_rfl); (· rfl); (· exact I2 _); (· rfl))
    | refine stS ?_ | (refine stB ?_; intro _) | (refine stC ?_; refine And.intro (fun _ => ?_) (fun _ => ?_)))
  refine TQ.less h05 ?_
  refine TQ.endR1 (L' := Ln) Tryz.results14 rvA rfl (.refl _) ?_ selF
  exact ⟨rfl, rfl, rfl⟩
end Go.Proofs.YtfanccddokckcaaGreatDoor
namespace Go.Proofs.YtfanccddokckcaaGreatDoor
open Go.RowKit Go.TL
set_option maxRecDepth 100000

theorem smJs_all {l : List J} (h : ∀ x ∈ l, smJ x) : smJs l := by
  induction l with
  | nil => rw [smJs]; trivial
  | cons x r ih =>
    rw [smJs]
    exact ⟨h x (List.mem_cons_self ..), ih fun y hy => h y (List.mem_cons_of_mem _ hy)⟩
theorem sm_pt (p : Pt) : smJ (ptJ p) := by unfold ptJ; simp [smJ, smJs]
theorem sm_told {l : List Pt} (h : l.length ≤ 1000000) : smJ (toldJ l) := by
  unfold toldJ
  rw [smJ]
  refine ⟨by rw [List.length_map]; exact h, smJs_all fun x hx => ?_⟩
  obtain ⟨p, _, rfl⟩ := List.mem_map.1 hx
  exact sm_pt p
theorem sm_tell {k : Int} {ps : List (List Pt)} (hO : ShFew ps) (hs : ∀ q ∈ ps, q.length ≤ 10000) : smJ (tellJ k ps) := by
  have hw : smJ (whereJ k ps) := by
    unfold whereJ
    split
    · exact sm_pt _
    · split
      · cases ps with
        | nil => exact sm_told (by simp)
        | cons q r => exact sm_told (hO.ok.part q (List.mem_cons_self ..))
      · rw [smJ]
        refine ⟨by rw [List.length_map]; exact hO.ok.len, smJs_all fun x hx => ?_⟩
        obtain ⟨q, hq, rfl⟩ := List.mem_map.1 hx
        refine sm_told ?_
        have := hs q hq
        rw [List.length_append, List.length_singleton]
        omega
  unfold tellJ
  rw [smJ]
  refine ⟨by simp, ?_, ?_⟩
  · intro n hn
    simp only [List.mem_cons, List.not_mem_nil, or_false] at hn
    rcases hn with rfl | rfl <;> decide
  · rw [smJs, smJs, smJs]
    refine ⟨?_, hw, trivial⟩
    rw [smJ]
    unfold kindN
    split
    · decide
    · split <;> decide
theorem light_small {most : Nat} {ps : List (List Pt)} (_hm : most ≤ 1000) (h : lightD most ps = true) : ∀ q ∈ ps, q.length ≤ 10000 := by
  unfold lightD at h
  rw [Bool.and_eq_true, decide_eq_true_eq, decide_eq_true_eq] at h
  intro p hp
  have h1 : p.length ≤ ps.flatten.length := by
    obtain ⟨a, b, rfl⟩ := List.append_of_mem hp
    simp
    omega
  omega
end Go.Proofs.YtfanccddokckcaaGreatDoor
