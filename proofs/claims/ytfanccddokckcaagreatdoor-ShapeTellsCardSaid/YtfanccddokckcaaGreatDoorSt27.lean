/-
  The walk of shape's read: polygons; all of it.
-/
import Derived.Test.YtfanccddokckcaaGreatDoorSt2
import Derived.Test.YtfanccddokckcaaGreatDoorSt26
namespace Go.Proofs.YtfanccddokckcaaGreatDoor
open Go.RowKit Go.TL
set_option maxRecDepth 100000

structure RgS where
  i : Nat
  acc : List (List Pt)
  fl : List Value
  v : Value
  g : Gh
structure RgI (xs : List J) (g : Gh) (x : RgS) : Prop where
  le : x.i ≤ xs.length
  al : x.acc.length = x.i
  fll : x.fl.length = x.i
  hg : g.le x.g
  pts : ∀ (j : Nat) (q : List Pt), x.acc[j]? = some q → ∃ u, x.fl[j]? = some u ∧ Sl x.g u q.length 2 (flatP q)
  sm : ∀ q ∈ x.acc, q.length ≤ 256
  re : mapR xs = (mapR (xs.drop x.i)).map (x.acc ++ ·)
theorem ringJ_le {x : J} {l : List Pt} (h : ringJ x = some l) : l.length ≤ 256 := by
  unfold ringJ at h
  split at h
  · rename_i m hm
    have := placesJ_le hm
    split at h
    · cases h
      rw [List.length_take]; omega
    · cases h
  · cases h
set_option maxHeartbeats 32000000 in
theorem sread_poly (ns : List (List UInt8)) (xs : List J) (w : J) (v : Value) (g : Gh) (L : List Ent) (hv : IsJ g (.obj ns xs) v) (hs : smJ (.obj ns xs)) (hx : xs.length = 2) (hc : fieldJ (.obj ns xs) coordB = some w) (hk : kindS (fieldJ (.obj ns xs) typeB) = 2) : Does Tryz.prog 37 #[v] g L (ReadR (readJ (.obj ns xs)) L) := by
  refine Does.of1 Tryz.func37 rfl Tryz.ntmps37 rfl ?_
  have NO := fun g L => sneed_no g L
  have NY := fun g L => sneed_yes g L
  have NA := fun g L => snames_gives g L
  obtain ⟨v1, b1, F1, o1, m1⟩ := field_gives (.obj ns xs) v g typeB hv hs
  obtain ⟨v2, b2, F2, o2, m2⟩ := field_gives (.obj ns xs) v g coordB hv hs
  rw [readJ_some hx hc, hk, shapeJ, if_neg (by decide), if_neg (by decide), if_pos rfl]
  obtain ⟨t, ht, hk⟩ := kindS_text hk (by decide)
  rw [ht] at m1
  rw [hc] at m2
  obtain ⟨rfl, hy⟩ := m1
  obtain ⟨rfl, hw⟩ := m2
  rw [IsJ] at hv
  replace hy : IsJ g (.text t) v1 := hy
  rw [IsJ] at hy
  subst hy
  obtain ⟨sl0, fl0, rfl, hS, hM0⟩ := hv
  obtain ⟨a0, c0, rfl⟩ := hS.slice
  clear hM0
  have bl : decide (((xs.length : Nat) : Int) = 2) = true := decide_eq_true (by omega)
  have IX : ∀ g1 v, Sl g1 v 3 1 (strs kindsB) → ∀ L, Gives Tryz.prog 77 #[v, str t] g1 L (.int .i64 2) := fun g1 v h L => by
    have := indexS_gives kindsB t v g1 L h (by decide)
    rw [hk] at this; exact this
  have sw := fieldJ_mem hc hs
  clear hS hs hc hk ht
  cases hl : isListJ w with
  | false =>
    have LN := fun g1 (h : g.le g1) L => slist_no w v2 g1 L (hw.le h _ _) hl
    have hp : ringsJ w = none := by cases w <;> first | rfl | cases hl
    rw [hp, okS]
    clear hw hl sw
    repeat' (first
    | refine wkQ ?_
    | ((with_reducible apply TL.pure (d := 23) (v := .bool true)); (· exact Y.eql_b bl rfl rfl); (· rfl)) | ((with_reducible apply TW.pure (d := 23) (v := .bool true)); (· exact Y.eql_b bl rfl rfl); (· rfl))
    | refine wkV ?_
    | ((with_reducible apply TL.slice_keep); (· rfl); (· exact pkA); (· rfl); (· decide); (· rfl); intro g1 hg1 SN)
    | ((with_reducible apply TL.storeK); (· rfl); (· rfl); (· exact rfl); (· exact pkA); (· exact Nat.le_of_ble_eq_true rfl))
    | ((with_reducible apply TL.gives_plain); (· kernel_rfl); (· rfl); (· exact F1 _); (· rfl)) | ((with_reducible apply TW.gives_plain); (· kernel_rfl); (· rfl); (· exact F1 _); (· rfl))
    | ((with_reducible apply TL.gives_plain); (· kernel_rfl); (· rfl); (· exact F2 _); (· rfl)) | ((with_reducible apply TW.gives_plain); (· kernel_rfl); (· rfl); (· exact F2 _); (· rfl))
    | ((with_reducible apply TL.gives_plain); (· kernel_rfl); (· rfl); (· exact NA _ _); (· rfl)) | ((with_reducible apply TW.gives_plain); (· kernel_rfl); (· rfl); (· exact NA _ _); (· rfl))
    | ((with_reducible apply TL.gives_plain); (· kernel_rfl); (· rfl); (· exact IX _ _ SN _); (· rfl)) | ((with_reducible apply TW.gives_plain); (· kernel_rfl); (· rfl); (· exact IX _ _ SN _); (· rfl))
    | ((with_reducible apply TL.gives_plain); (· kernel_rfl); (· rfl); (· exact NY _ _); (· rfl)) | ((with_reducible apply TW.gives_plain); (· kernel_rfl); (· rfl); (· exact NY _ _); (· rfl))
    | refine TL.throws (Enters.plain (by kernel_rfl) (by rfl)) (LN _ (by assumption) _) (by rfl) ?_
    | refine stS ?_ | (refine stB ?_; intro _) | (refine stC ?_; refine And.intro (fun _ => ?_) (fun _ => ?_)))
    refine TQ.end_panic (L' := L) rfl ((by assumption)) ?_ selF
    exact ⟨rfl, rfl⟩
  | true =>
  obtain ⟨zs, rfl⟩ : ∃ zs, w = .list zs := by cases w <;> first | exact ⟨_, rfl⟩ | cases hl
  rw [IsJ] at hw
  rw [smJ] at sw
  obtain ⟨sl, fl, rfl, hS, hJ⟩ := hw
  obtain ⟨a, c, rfl⟩ := hS.slice
  have LY := fun g L => slist_yes (.slice a zs.length c) g L
  have HS := Hn.mk hS
  have HJ := Hn.mk hJ
  have hzl := sw.1
  rw [ringsJ]
  clear hS hJ hl sw
  refine TC.row_nil 54 1 ?_
  repeat' (first
    | refine wkQ ?_
    | ((with_reducible apply TL.pure (d := 23) (v := .bool true)); (· exact Y.eql_b bl rfl rfl); (· rfl)) | ((with_reducible apply TW.pure (d := 23) (v := .bool true)); (· exact Y.eql_b bl rfl rfl); (· rfl))
    | refine wkV ?_
    | ((with_reducible apply TL.slice_keep); (· rfl); (· exact pkA); (· rfl); (· decide); (· rfl); intro g1 hg1 SN)
    | ((with_reducible apply TL.storeK); (· rfl); (· rfl); (· exact rfl); (· exact pkA); (· exact Nat.le_of_ble_eq_true rfl))
    | ((with_reducible apply TL.gives_plain); (· kernel_rfl); (· rfl); (· exact F1 _); (· rfl)) | ((with_reducible apply TW.gives_plain); (· kernel_rfl); (· rfl); (· exact F1 _); (· rfl))
    | ((with_reducible apply TL.gives_plain); (· kernel_rfl); (· rfl); (· exact F2 _); (· rfl)) | ((with_reducible apply TW.gives_plain); (· kernel_rfl); (· rfl); (· exact F2 _); (· rfl))
    | ((with_reducible apply TL.gives_plain); (· kernel_rfl); (· rfl); (· exact NA _ _); (· rfl)) | ((with_reducible apply TW.gives_plain); (· kernel_rfl); (· rfl); (· exact NA _ _); (· rfl))
    | ((with_reducible apply TL.gives_plain); (· kernel_rfl); (· rfl); (· exact IX _ _ SN _); (· rfl)) | ((with_reducible apply TW.gives_plain); (· kernel_rfl); (· rfl); (· exact IX _ _ SN _); (· rfl))
    | ((with_reducible apply TL.gives_plain); (· kernel_rfl); (· rfl); (· exact NY _ _); (· rfl)) | ((with_reducible apply TW.gives_plain); (· kernel_rfl); (· rfl); (· exact NY _ _); (· rfl))
    | ((with_reducible apply TL.gives_plain); (· kernel_rfl); (· rfl); (· exact LY _ _); (· rfl)) | ((with_reducible apply TW.gives_plain); (· kernel_rfl); (· rfl); (· exact LY _ _); (· rfl))
    | refine stS ?_ | (refine stB ?_; intro _) | (refine stC ?_; refine And.intro (fun _ => ?_) (fun _ => ?_)))
  rename_i b2 b9 b11
  refine TC.loop (RgI zs g) (fun x => zs.length - x.i) (fun x => [(75, .int .i64 (x.i : Nat)), (74, .int .i64 (zs.length : Nat)), (73, .slice a zs.length c), (11, .pointer (some ⟨b11, 0, none⟩)), (2, .pointer (some ⟨b2, 0, none⟩))]) (fun x => x.g) (fun x => .obj b11 (.cells [.int .i64 2, x.v].toArray 30 (0, 0)) :: .row 54 1 x.v x.acc.length x.fl :: .obj b2 (.cells [.int .i64 0, .slice none 0 0].toArray 30 (0, 0)) :: L) ⟨0, [], [], .slice none 0 0, g1⟩ ⟨Nat.zero_le _, rfl, rfl, hg1, fun j q h => by simp at h, fun q h => by simp at h, by rw [List.drop_zero]; cases mapR zs <;> rfl⟩ rfl subA selF ?_
  rintro ⟨i, acc, fl2, v, gx⟩ ⟨hi, ha, hfl, hgx, hpt, hsm, hre⟩
  dsimp only at hi ha hfl hgx hpt hsm hre ⊢
  refine TC.row_slice (v := v) (.there .here) ?_
  rintro av cv rfl _
  by_cases hlt : i < zs.length
  · obtain ⟨x, hx⟩ : ∃ x, zs[i]? = some x := ⟨_, List.getElem?_eq_getElem hlt⟩
    obtain ⟨b1, o1, rfl, hg⟩ := (HS.out.le hgx).elem hlt (by decide)
    obtain ⟨w, hw, hj⟩ := HJ.out.get hx
    have hld : gx.cell b1 (o1 + i * 1) = some w := hg 0 _ (by rw [Nat.mul_one]; exact hw)
    have ow := hj.one
    have RG := fun L => sring_does x w gx L (hj.le hgx _ _)
    unfold PlacesR at RG
    rw [drop_of_get hx, mapR] at hre
    cases hp : ringJ x with
    | none =>
      rw [hp] at hre RG
      rw [hre]
      dsimp only at RG
      clear hg hre hw hj hp hpt hsm F1 F2 IX LY NA
      rw [Option.map_none, okS]
      repeat' (first
    | refine wkQ ?_
    | refine wkV ?_
    | ((with_reducible apply TL.pure); (· exact yM); (· rfl)) | ((with_reducible apply TW.pure); (· exact yM); (· rfl))
    | (refine TL.call (Enters.plain (by kernel_rfl) (by rfl)) (by rfl) (RG _) ?_; (rintro e g2 Ln hg2 ⟨k1, k2⟩; have k2 := k2.symm; subst k1; subst k2; refine CallK.panic ?_))
    | refine stS ?_ | (refine stB ?_; intro _) | (refine stC ?_; refine And.intro (fun _ => ?_) (fun _ => ?_))
    | refine TC.region_sink 7 8 ([.obj b11 (.cells [.int .i64 2, .slice av acc.length cv].toArray 30 (0, 0))]) (by kernel_rfl) (by decide +kernel) rfl selF ?_ | refine TQ.anyT_panic ?_
    | ((with_reducible apply TB.takeF 0); (· rfl); (· decide +kernel); (· rfl); (· first | (first | exact yQ | exact yA | exact yB | exact yM | exact yV) | fail); (· decide +kernel); (· decide +kernel); (· rfl); (· exact fun _ _ _ h => h); (· rfl))
    | ((with_reducible apply TB.takeF 1); (· rfl); (· decide +kernel); (· rfl); (· first | (first | exact yQ | exact yA | exact yB | exact yM | exact yV) | fail); (· decide +kernel); (· decide +kernel); (· rfl); (· exact fun _ _ _ h => h); (· rfl))
    | ((with_reducible apply TB.takeF 2); (· rfl); (· decide +kernel); (· rfl); (· first | (first | exact yQ | exact yA | exact yB | exact yM | exact yV) | fail); (· decide +kernel); (· decide +kernel); (· rfl); (· exact fun _ _ _ h => h); (· rfl))
    | ((with_reducible apply TB.takeF 3); (· rfl); (· decide +kernel); (· rfl); (· first | (first | exact yQ | exact yA | exact yB | exact yM | exact yV) | fail); (· decide +kernel); (· decide +kernel); (· rfl); (· exact fun _ _ _ h => h); (· rfl))
    | ((with_reducible apply TB.takeF 4); (· rfl); (· decide +kernel); (· rfl); (· first | (first | exact yQ | exact yA | exact yB | exact yM | exact yV) | fail); (· decide +kernel); (· decide +kernel); (· rfl); (· exact fun _ _ _ h => h); (· rfl))
    | ((with_reducible apply TB.takeF 5); (· rfl); (· decide +kernel); (· rfl); (· first | (first | exact yQ | exact yA | exact yB | exact yM | exact yV) | fail); (· decide +kernel); (· decide +kernel); (· rfl); (· exact fun _ _ _ h => h); (· rfl))
    | ((with_reducible apply TB.takeF 6); (· rfl); (· decide +kernel); (· rfl); (· first | (first | exact yQ | exact yA | exact yB | exact yM | exact yV) | fail); (· decide +kernel); (· decide +kernel); (· rfl); (· exact fun _ _ _ h => h); (· rfl))
    | ((with_reducible apply TB.takeF 7); (· rfl); (· decide +kernel); (· rfl); (· first | (first | exact yQ | exact yA | exact yB | exact yM | exact yV) | fail); (· decide +kernel); (· decide +kernel); (· rfl); (· exact fun _ _ _ h => h); (· rfl))
    | ((with_reducible apply TB.oneF 0); (· rfl); (· rfl); (· decide +kernel); (· rfl); intro hsk)
    | ((with_reducible apply TB.oneF 1); (· rfl); (· rfl); (· decide +kernel); (· rfl); intro hsk)
    | ((with_reducible apply TB.oneF 2); (· rfl); (· rfl); (· decide +kernel); (· rfl); intro hsk)
    | ((with_reducible apply TB.oneF 3); (· rfl); (· rfl); (· decide +kernel); (· rfl); intro hsk)
    | ((with_reducible apply TB.oneF 4); (· rfl); (· rfl); (· decide +kernel); (· rfl); intro hsk)
    | ((with_reducible apply TB.oneF 5); (· rfl); (· rfl); (· decide +kernel); (· rfl); intro hsk)
    | ((with_reducible apply TB.oneF 6); (· rfl); (· rfl); (· decide +kernel); (· rfl); intro hsk)
    | ((with_reducible apply TB.oneF 7); (· rfl); (· rfl); (· decide +kernel); (· rfl); intro hsk)
    | refine TQ.lastT (by decide +kernel) ?_ | refine TQ.anyT (by assumption) leF selF ?_)
      refine TQ.end_panic (L' := L) rfl ((hgx.trans (by assumption))) ?_ selF
      exact ⟨rfl, rfl⟩
    | some p =>
      rw [hp] at hre RG
      have hre2 : mapR zs = (mapR (zs.drop (i + 1))).map ((acc ++ [p]) ++ ·) := by
        rw [hre]
        dsimp only
        rw [Option.map_map]
        congr 1
        funext q
        simp
      have hpl := ringJ_le hp
      dsimp only at RG
      have HR := Hn.mk hre2
      have HP := Hn.mk hpt
      have HM := Hn.mk hsm
      clear hg hre hre2 hw hj hp hpt hsm F1 F2 IX LY NA
      repeat' (first
    | refine wkQ ?_
    | refine wkV ?_
    | ((with_reducible apply TL.pure); (· exact yM); (· rfl)) | ((with_reducible apply TW.pure); (· exact yM); (· rfl))
    | ((with_reducible apply TL.storeK); (· rfl); (· rfl); (· exact rfl); (· exact pkA); (· exact Nat.le_of_ble_eq_true rfl))
    | (refine TL.call (Enters.plain (by kernel_rfl) (by rfl)) (by rfl) (RG _) ?_; (rintro e g2 Ln hg2 ⟨vl, k1, k2, k3⟩; have k2 := k2.symm; subst k1; subst k2; obtain ⟨a1, c1, rfl⟩ := k3.slice; have K3 := Hn.mk k3; clear k3; refine CallK.ret ?_))
    | ((with_reducible apply TL.build_slice); (· rfl); (· rfl); (· exact oneA); (· rfl); (· rfl); (· rfl); intro _) | refine TL.build_one (by rfl) (by first | rfl | assumption) (by rfl) (by rfl) (by rfl) (by rfl) (fun _ => ?_) | refine TL.build_empty (by rfl) (fun _ => ?_)
    | ((with_reducible apply TL.append (e := 54)); (· rfl); (· rfl); (· rfl); (· rfl); (· exact pkA); (· first | exact Src.obj pkA | exact Src.sl (by assumption) | exact Src.row pkA); (· first | rfl | exact (byteVals_length _).trans (Nat.mul_one _).symm); (· first | exact byteVals_all _ | exact oneA); (· exact ⟨by unfold maxLen; omega, by omega⟩); (· rfl); intro vf; refine Go.TL.TL.row_slice (v := vf) pkA ?_; rintro a2 c2 rfl _)
    | refine stS ?_ | (refine stB ?_; intro _) | (refine stC ?_; refine And.intro (fun _ => ?_) (fun _ => ?_))
    | refine TC.region_sink 7 8 ([.obj b11 (.cells [.int .i64 2, .slice av acc.length cv].toArray 30 (0, 0))]) (by kernel_rfl) (by decide +kernel) rfl selF ?_ | refine TQ.anyT_panic ?_
    | ((with_reducible apply TB.takeF 0); (· rfl); (· decide +kernel); (· rfl); (· first | (first | exact yQ | exact yA | exact yB | exact yM | exact yV) | fail); (· decide +kernel); (· decide +kernel); (· rfl); (· exact fun _ _ _ h => h); (· rfl))
    | ((with_reducible apply TB.takeF 1); (· rfl); (· decide +kernel); (· rfl); (· first | (first | exact yQ | exact yA | exact yB | exact yM | exact yV) | fail); (· decide +kernel); (· decide +kernel); (· rfl); (· exact fun _ _ _ h => h); (· rfl))
    | ((with_reducible apply TB.takeF 2); (· rfl); (· decide +kernel); (· rfl); (· first | (first | exact yQ | exact yA | exact yB | exact yM | exact yV) | fail); (· decide +kernel); (· decide +kernel); (· rfl); (· exact fun _ _ _ h => h); (· rfl))
    | ((with_reducible apply TB.takeF 3); (· rfl); (· decide +kernel); (· rfl); (· first | (first | exact yQ | exact yA | exact yB | exact yM | exact yV) | fail); (· decide +kernel); (· decide +kernel); (· rfl); (· exact fun _ _ _ h => h); (· rfl))
    | ((with_reducible apply TB.takeF 4); (· rfl); (· decide +kernel); (· rfl); (· first | (first | exact yQ | exact yA | exact yB | exact yM | exact yV) | fail); (· decide +kernel); (· decide +kernel); (· rfl); (· exact fun _ _ _ h => h); (· rfl))
    | ((with_reducible apply TB.takeF 5); (· rfl); (· decide +kernel); (· rfl); (· first | (first | exact yQ | exact yA | exact yB | exact yM | exact yV) | fail); (· decide +kernel); (· decide +kernel); (· rfl); (· exact fun _ _ _ h => h); (· rfl))
    | ((with_reducible apply TB.takeF 6); (· rfl); (· decide +kernel); (· rfl); (· first | (first | exact yQ | exact yA | exact yB | exact yM | exact yV) | fail); (· decide +kernel); (· decide +kernel); (· rfl); (· exact fun _ _ _ h => h); (· rfl))
    | ((with_reducible apply TB.takeF 7); (· rfl); (· decide +kernel); (· rfl); (· first | (first | exact yQ | exact yA | exact yB | exact yM | exact yV) | fail); (· decide +kernel); (· decide +kernel); (· rfl); (· exact fun _ _ _ h => h); (· rfl))
    | ((with_reducible apply TB.oneF 0); (· rfl); (· rfl); (· decide +kernel); (· rfl); intro hsk)
    | ((with_reducible apply TB.oneF 1); (· rfl); (· rfl); (· decide +kernel); (· rfl); intro hsk)
    | ((with_reducible apply TB.oneF 2); (· rfl); (· rfl); (· decide +kernel); (· rfl); intro hsk)
    | ((with_reducible apply TB.oneF 3); (· rfl); (· rfl); (· decide +kernel); (· rfl); intro hsk)
    | ((with_reducible apply TB.oneF 4); (· rfl); (· rfl); (· decide +kernel); (· rfl); intro hsk)
    | ((with_reducible apply TB.oneF 5); (· rfl); (· rfl); (· decide +kernel); (· rfl); intro hsk)
    | ((with_reducible apply TB.oneF 6); (· rfl); (· rfl); (· decide +kernel); (· rfl); intro hsk)
    | ((with_reducible apply TB.oneF 7); (· rfl); (· rfl); (· decide +kernel); (· rfl); intro hsk)
    | refine TQ.lastT (by decide +kernel) ?_ | refine TQ.anyT (by assumption) leF selF ?_)
      have hlen : acc.length + 1 = (acc ++ [p]).length := by rw [List.length_append, List.length_singleton]
      rw [hlen]
      refine TQ.round (RgS.mk (i + 1) (acc ++ [p]) (fl2 ++ [.slice a1 p.length c1]) (.slice a2 (acc ++ [p]).length c2) g2) ?_ ?_ rfl subA selF
      · refine ⟨by dsimp only; omega, by dsimp only; rw [← hlen, ha], by dsimp only; rw [List.length_append, List.length_singleton, hfl], hgx.trans hg2, fun j q h => ?_, fun q h => ?_, HR.out⟩
        · dsimp only at h ⊢
          rw [List.getElem?_append] at h
          split at h
          · obtain ⟨u, h1, h2⟩ := HP.out j q h
            exact ⟨u, by rw [List.getElem?_append_left (by omega)]; exact h1, h2.le hg2⟩
          · have hj0 : j - acc.length = 0 := by
              have := (List.getElem?_eq_some_iff.1 h).1
              simp at this; omega
            rw [hj0] at h
            obtain rfl : p = q := by simpa using h
            exact ⟨_, by rw [List.getElem?_append_right (by omega), show j - fl2.length = 0 by omega]; rfl, K3.out⟩
        · dsimp only at h
          rcases List.mem_append.1 h with h | h
          · exact HM.out q h
          · rw [List.mem_singleton.1 h]; exact hpl
      · dsimp only; omega
  · have hok : mapR zs = some acc := by
      rw [hre, List.drop_eq_nil_of_le (by omega), mapR]; simp
    rw [hok]
    have hal : acc.length = zs.length := by omega
    have RI : ∀ (g3 : Gh) (v : Value), gx.le g3 → Sl g3 v acc.length 1 fl2 → IsParts g3 v acc := fun g3 v hg h3 => ⟨fl2, h3, fun j q h => by obtain ⟨u, h1, h2⟩ := hpt j q h; exact ⟨u, h1, h2.le hg⟩⟩
    have hO : ShOk acc := ⟨by omega, fun q h => by have := hsm q h; omega⟩
    clear hre hpt hsm F1 F2 IX LY NA HS HJ
    refine TC.freeze (.there .here) fun g3 hg3 HS3 => ?_
    have hP := RI g3 _ hg3 HS3
    have RT := fun L => sright_gives 2 acc (.slice av acc.length cv) g3 L hP hO
    clear HS3
    dsimp only [okS]
    cases hr : rightB 2 acc with
    | false =>
      rw [hr] at RT
      rw [if_neg (by decide)]
      repeat' (first
    | refine wkQ ?_
    | refine wkV ?_
    | ((with_reducible apply TL.gives_plain); (· kernel_rfl); (· rfl); (· exact RT _); (· rfl)) | ((with_reducible apply TW.gives_plain); (· kernel_rfl); (· rfl); (· exact RT _); (· rfl))
    | refine TL.throws (Enters.plain (by kernel_rfl) (by rfl)) (NO _ _) (by rfl) ?_
    | refine stS ?_ | (refine stB ?_; intro _) | (refine stC ?_; refine And.intro (fun _ => ?_) (fun _ => ?_)))
      refine TQ.end_panic (L' := L) rfl ((hgx.trans hg3)) ?_ selF
      exact ⟨rfl, rfl⟩
    | true =>
      rw [hr] at RT
      rw [if_pos rfl]
      repeat' (first
    | refine wkQ ?_
    | refine wkV ?_
    | ((with_reducible apply TL.gives_plain); (· kernel_rfl); (· rfl); (· exact RT _); (· rfl)) | ((with_reducible apply TW.gives_plain); (· kernel_rfl); (· rfl); (· exact RT _); (· rfl))
    | ((with_reducible apply TL.gives_plain); (· kernel_rfl); (· rfl); (· exact NY _ _); (· rfl)) | ((with_reducible apply TW.gives_plain); (· kernel_rfl); (· rfl); (· exact NY _ _); (· rfl))
    | refine stS ?_ | (refine stB ?_; intro _) | (refine stC ?_; refine And.intro (fun _ => ?_) (fun _ => ?_)))
      refine TQ.endR1 (L' := L) Tryz.results37 rvA rfl ((hgx.trans hg3)) ?_ selF
      exact ⟨_, rfl, rfl, hP⟩
theorem sread_does (x : J) (v : Value) (g : Gh) (L : List Ent) (hv : IsJ g x v) (hs : smJ x) : Does Tryz.prog 37 #[v] g L (ReadR (readJ x) L) := by
  cases x with
  | obj ns xs =>
    by_cases hx : xs.length = 2
    · cases hc : fieldJ (.obj ns xs) coordB with
      | none => exact sread_none ns xs v g L hv hs hx (.inl hc)
      | some w =>
        have hk : kindS (fieldJ (.obj ns xs) typeB) = 0 ∨ kindS (fieldJ (.obj ns xs) typeB) = 1 ∨ kindS (fieldJ (.obj ns xs) typeB) = 2 ∨ kindS (fieldJ (.obj ns xs) typeB) = -1 := by
          unfold kindS
          split
          · exact idxK _
          · exact .inr (.inr (.inr rfl))
        rcases hk with hk | hk | hk | hk
        · exact sread_point ns xs w v g L hv hs hx hc hk
        · exact sread_line ns xs w v g L hv hs hx hc hk
        · exact sread_poly ns xs w v g L hv hs hx hc hk
        · exact sread_none ns xs v g L hv hs hx (.inr hk)
    · exact sread_len ns xs v g L hv hx
  | _ => exact sread_not _ v g L hv (fun _ _ => J.noConfusion)
end Go.Proofs.YtfanccddokckcaaGreatDoor
