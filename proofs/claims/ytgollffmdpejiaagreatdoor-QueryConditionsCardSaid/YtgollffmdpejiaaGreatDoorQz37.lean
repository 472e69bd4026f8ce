/-
  The walk of shape's read: polygons; all of it. The walks of shape's Read. Questions as data. The walks of query's need, object, list, named, count, Kind.
-/
import Derived.Test.YtgollffmdpejiaaGreatDoorQz3
import Derived.Test.YtgollffmdpejiaaGreatDoorQz30
import Derived.Test.YtgollffmdpejiaaGreatDoorQz24
import Derived.Test.YtgollffmdpejiaaGreatDoorQz36
import Derived.Test.YtgollffmdpejiaaGreatDoorQz28
import Derived.Test.YtgollffmdpejiaaGreatDoorQz22
import Derived.Test.YtgollffmdpejiaaGreatDoorQz0
namespace Go.Proofs.YtgollffmdpejiaaGreatDoor
open Go.RowKit Go.TL
set_option maxRecDepth 100000

structure RgS where
  i : Nat
  acc : List (List Pt)
  fl : List Value
  v : Value
  g : Gh
structure RgI (xs : List J) (g : Gh) (x : RgS) : Prop where
  le : x.i ≤ xs.length
  al : x.acc.length = x.i
  fll : x.fl.length = x.i
  hg : g.le x.g
  pts : ∀ (j : Nat) (q : List Pt), x.acc[j]? = some q → ∃ u, x.fl[j]? = some u ∧ Sl x.g u q.length 2 (flatP q)
  sm : ∀ q ∈ x.acc, q.length ≤ 256
  re : mapR xs = (mapR (xs.drop x.i)).map (x.acc ++ ·)
theorem ringJ_le {x : J} {l : List Pt} (h : ringJ x = some l) : l.length ≤ 256 := by
  unfold ringJ at h
  split at h
  · rename_i m hm
    have := placesJ_le hm
    split at h
    · cases h
      rw [List.length_take]; omega
    · cases h
  · cases h
set_option maxHeartbeats 32000000 in
theorem sread_poly (ns : List (List UInt8)) (xs : List J) (w : J) (v : Value) (g : Gh) (L : List Ent) (hv : IsJ g (.obj ns xs) v) (hs : smJ (.obj ns xs)) (hx : xs.length = 2) (hc : fieldJ (.obj ns xs) coordB = some w) (hk : kindS (fieldJ (.obj ns xs) typeB) = 2) : Does Tryz.prog 253 #[v] g L (ReadR (readJ (.obj ns xs)) L) := by
  refine Does.of1 Tryz.func253 rfl Tryz.ntmps253 rfl ?_
  have NO := fun g L => sneed_no g L
  have NY := fun g L => sneed_yes g L
  have NA := fun g L => snames_gives g L
  obtain ⟨v1, b1, F1, o1, m1⟩ := field_gives (.obj ns xs) v g typeB hv hs
  obtain ⟨v2, b2, F2, o2, m2⟩ := field_gives (.obj ns xs) v g coordB hv hs
  rw [readJ_some hx hc, hk, shapeJ, if_neg (by decide), if_neg (by decide), if_pos rfl]
  obtain ⟨t, ht, hk⟩ := kindS_text hk (by decide)
  rw [ht] at m1
  rw [hc] at m2
  obtain ⟨rfl, hy⟩ := m1
  obtain ⟨rfl, hw⟩ := m2
  rw [IsJ] at hv
  replace hy : IsJ g (.text t) v1 := hy
  rw [IsJ] at hy
  subst hy
  obtain ⟨sl0, fl0, rfl, hS, hM0⟩ := hv
  obtain ⟨a0, c0, rfl⟩ := hS.slice
  clear hM0
  have bl : decide (((xs.length : Nat) : Int) = 2) = true := decide_eq_true (by omega)
  have IX : ∀ g1 v, Sl g1 v 3 1 (strs kindsB) → ∀ L, Gives Tryz.prog 251 #[v, str t] g1 L (.int .i64 2) := fun g1 v h L => by
    have := indexS_gives kindsB t v g1 L h (by decide)
    rw [hk] at this; exact this
  have sw := fieldJ_mem hc hs
  clear hS hs hc hk ht
  cases hl : isListJ w with
  | false =>
    have LN := fun g1 (h : g.le g1) L => slist_no w v2 g1 L (hw.le h _ _) hl
    have hp : ringsJ w = none := by cases w <;> first | rfl | cases hl
    rw [hp, okS]
    clear hw hl sw
    repeat' (first
    | refine wkQ ?_
    | (refine wkA 23 (v := .bool true) ?_ ?_; · exact Y.eql_b bl rfl rfl)
    | refine wkV ?_
    | ((with_reducible apply TL.slice_keep); (· rfl); (· exact pkA); (· rfl); (· decide); (· rfl); intro g1 hg1 SN)
    | ((with_reducible apply TL.storeK); (· rfl); (· rfl); (· exact rfl); (· exact pkA); (· exact Nat.le_of_ble_eq_true rfl))
    | refine wkD (F1 _) ?_
    | refine wkD (F2 _) ?_
    | refine wkD (NA _ _) ?_
    | refine wkD (IX _ _ SN _) ?_
    | refine wkD (NY _ _) ?_
    | refine TL.throws (Enters.plain (by kernel_rfl) (by rfl)) (LN _ (by assumption) _) (by rfl) ?_
    | refine stS ?_ | (refine stB ?_; intro _) | (refine stC ?_; constructor <;> intro _))
    refine TQ.end_panic (L' := L) rfl ((by assumption)) ?_ selF
    exact ⟨rfl, rfl⟩
  | true =>
  obtain ⟨zs, rfl⟩ : ∃ zs, w = .list zs := by cases w <;> first | exact ⟨_, rfl⟩ | cases hl
  rw [IsJ] at hw
  rw [smJ] at sw
  obtain ⟨sl, fl, rfl, hS, hJ⟩ := hw
  obtain ⟨a, c, rfl⟩ := hS.slice
  have LY := fun g L => slist_yes (.slice a zs.length c) g L
  have HS := Hn.mk hS
  have HJ := Hn.mk hJ
  have hzl := sw.1
  rw [ringsJ]
  clear hS hJ hl sw
  refine TC.row_nil 180 1 ?_
  repeat' (first
    | refine wkQ ?_
    | (refine wkA 23 (v := .bool true) ?_ ?_; · exact Y.eql_b bl rfl rfl)
    | refine wkV ?_
    | ((with_reducible apply TL.slice_keep); (· rfl); (· exact pkA); (· rfl); (· decide); (· rfl); intro g1 hg1 SN)
    | ((with_reducible apply TL.storeK); (· rfl); (· rfl); (· exact rfl); (· exact pkA); (· exact Nat.le_of_ble_eq_true rfl))
    | refine wkD (F1 _) ?_
    | refine wkD (F2 _) ?_
    | refine wkD (NA _ _) ?_
    | refine wkD (IX _ _ SN _) ?_
    | refine wkD (NY _ _) ?_
    | refine wkD (LY _ _) ?_
    | refine stS ?_ | (refine stB ?_; intro _) | (refine stC ?_; constructor <;> intro _))
  rename_i b2 b9 b11
  refine TC.loop (RgI zs g) (fun x => zs.length - x.i) (fun x => [(75, .int .i64 (x.i : Nat)), (74, .int .i64 (zs.length : Nat)), (73, .slice a zs.length c), (11, .pointer (some ⟨b11, 0, none⟩)), (2, .pointer (some ⟨b2, 0, none⟩))]) (fun x => x.g) (fun x => .obj b11 (.cells [.int .i64 2, x.v].toArray 274 (0, 0)) :: .row 180 1 x.v x.acc.length x.fl :: .obj b2 (.cells [.int .i64 0, .slice none 0 0].toArray 274 (0, 0)) :: L) ⟨0, [], [], .slice none 0 0, g1⟩ ⟨Nat.zero_le _, rfl, rfl, hg1, fun j q h => by simp at h, fun q h => by simp at h, by rw [List.drop_zero]; cases mapR zs <;> rfl⟩ rfl subA selF ?_
  rintro ⟨i, acc, fl2, v, gx⟩ ⟨hi, ha, hfl, hgx, hpt, hsm, hre⟩
  dsimp only at hi ha hfl hgx hpt hsm hre ⊢
  refine TC.row_slice (v := v) (.there .here) ?_
  rintro av cv rfl _
  by_cases hlt : i < zs.length
  · obtain ⟨x, hx⟩ : ∃ x, zs[i]? = some x := ⟨_, List.getElem?_eq_getElem hlt⟩
    obtain ⟨b1, o1, rfl, hg⟩ := (HS.out.le hgx).elem hlt (by decide)
    obtain ⟨w, hw, hj⟩ := HJ.out.get hx
    have hld : gx.cell b1 (o1 + i * 1) = some w := hg 0 _ (by rw [Nat.mul_one]; exact hw)
    have ow := hj.one
    have RG := fun L => sring_does x w gx L (hj.le hgx _ _)
    unfold PlacesR at RG
    rw [drop_of_get hx, mapR] at hre
    cases hp : ringJ x with
    | none =>
      rw [hp] at hre RG
      rw [hre]
      dsimp only at RG
      clear hg hre hw hj hp hpt hsm F1 F2 IX LY NA
      rw [Option.map_none, okS]
      repeat' (first
    | refine wkQ ?_
    | refine wkV ?_
    | refine wkM ?_
    | (refine TL.call (Enters.plain (by kernel_rfl) (by rfl)) (by rfl) (RG _) ?_; (rintro e g2 Ln hg2 ⟨k1, k2⟩; have k2 := k2.symm; subst k1; subst k2; refine CallK.panic ?_))
    | refine stS ?_ | (refine stB ?_; intro _) | (refine stC ?_; constructor <;> intro _)
    | refine TC.region_sink 7 8 ([.obj b11 (.cells [.int .i64 2, .slice av acc.length cv].toArray 274 (0, 0))]) (by kernel_rfl) (by decide +kernel) rfl selF ?_ | refine TQ.anyT_panic ?_
    | ((with_reducible apply TB.takeF 0); (· rfl); (· decide +kernel); (· rfl); (· first | (first | exact yQ | exact yA | exact yB | exact yM | exact yV) | fail); (· decide +kernel); (· decide +kernel); (· rfl); (· exact fun _ _ _ h => h); (· rfl))
    | ((with_reducible apply TB.takeF 1); (· rfl); (· decide +kernel); (· rfl); (· first | (first | exact yQ | exact yA | exact yB | exact yM | exact yV) | fail); (· decide +kernel); (· decide +kernel); (· rfl); (· exact fun _ _ _ h => h); (· rfl))
    | ((with_reducible apply TB.takeF 2); (· rfl); (· decide +kernel); (· rfl); (· first | (first | exact yQ | exact yA | exact yB | exact yM | exact yV) | fail); (· decide +kernel); (· decide +kernel); (· rfl); (· exact fun _ _ _ h => h); (· rfl))
    | ((with_reducible apply TB.takeF 3); (· rfl); (· decide +kernel); (· rfl); (· first | (first | exact yQ | exact yA | exact yB | exact yM | exact yV) | fail); (· decide +kernel); (· decide +kernel); (· rfl); (· exact fun _ _ _ h => h); (· rfl))
    | ((with_reducible apply TB.takeF 4); (· rfl); (· decide +kernel); (· rfl); (· first | (first | exact yQ | exact yA | exact yB | exact yM | exact yV) | fail); (· decide +kernel); (· decide +kernel); (· rfl); (· exact fun _ _ _ h => h); (· rfl))
    | ((with_reducible apply TB.takeF 5); (· rfl); (· decide +kernel); (· rfl); (· first | (first | exact yQ | exact yA | exact yB | exact yM | exact yV) | fail); (· decide +kernel); (· decide +kernel); (· rfl); (· exact fun _ _ _ h => h); (· rfl))
    | ((with_reducible apply TB.takeF 6); (· rfl); (· decide +kernel); (· rfl); (· first | (first | exact yQ | exact yA | exact yB | exact yM | exact yV) | fail); (· decide +kernel); (· decide +kernel); (· rfl); (· exact fun _ _ _ h => h); (· rfl))
    | ((with_reducible apply TB.takeF 7); (· rfl); (· decide +kernel); (· rfl); (· first | (first | exact yQ | exact yA | exact yB | exact yM | exact yV) | fail); (· decide +kernel); (· decide +kernel); (· rfl); (· exact fun _ _ _ h => h); (· rfl))
    | ((with_reducible apply TB.oneF 0); (· rfl); (· rfl); (· decide +kernel); (· rfl); intro hsk)
    | ((with_reducible apply TB.oneF 1); (· rfl); (· rfl); (· decide +kernel); (· rfl); intro hsk)
    | ((with_reducible apply TB.oneF 2); (· rfl); (· rfl); (· decide +kernel); (· rfl); intro hsk)
    | ((with_reducible apply TB.oneF 3); (· rfl); (· rfl); (· decide +kernel); (· rfl); intro hsk)
    | ((with_reducible apply TB.oneF 4); (· rfl); (· rfl); (· decide +kernel); (· rfl); intro hsk)
    | ((with_reducible apply TB.oneF 5); (· rfl); (· rfl); (· decide +kernel); (· rfl); intro hsk)
    | ((with_reducible apply TB.oneF 6); (· rfl); (· rfl); (· decide +kernel); (· rfl); intro hsk)
    | ((with_reducible apply TB.oneF 7); (· rfl); (· rfl); (· decide +kernel); (· rfl); intro hsk)
    | refine TQ.lastT (by decide +kernel) ?_ | refine TQ.anyT (by assumption) leF selF ?_ | fail)
      refine TQ.end_panic (L' := L) rfl ((hgx.trans (by assumption))) ?_ selF
      exact ⟨rfl, rfl⟩
    | some p =>
      rw [hp] at hre RG
      have hre2 : mapR zs = (mapR (zs.drop (i + 1))).map ((acc ++ [p]) ++ ·) := by
        rw [hre]
        dsimp only
        rw [Option.map_map]
        congr 1
        funext q
        simp
      have hpl := ringJ_le hp
      dsimp only at RG
      have HR := Hn.mk hre2
      have HP := Hn.mk hpt
      have HM := Hn.mk hsm
      clear hg hre hre2 hw hj hp hpt hsm F1 F2 IX LY NA
      repeat' (first
    | refine wkQ ?_
    | refine wkV ?_
    | refine wkM ?_
    | ((with_reducible apply TL.storeK); (· rfl); (· rfl); (· exact rfl); (· exact pkA); (· exact Nat.le_of_ble_eq_true rfl))
    | (refine TL.call (Enters.plain (by kernel_rfl) (by rfl)) (by rfl) (RG _) ?_; (rintro e g2 Ln hg2 ⟨vl, k1, k2, k3⟩; have k2 := k2.symm; subst k1; subst k2; obtain ⟨a1, c1, rfl⟩ := k3.slice; have K3 := Hn.mk k3; clear k3; refine CallK.ret ?_))
    | ((with_reducible apply TL.build_slice); (· rfl); (· rfl); (· exact oneA); (· rfl); (· rfl); (· rfl); intro _) | refine TL.build_one (by rfl) (by first | rfl | assumption) (by rfl) (by rfl) (by rfl) (by rfl) (fun _ => ?_) | refine TL.build_empty (by rfl) (fun _ => ?_)
    | ((with_reducible apply TL.append (e := 180)); (· rfl); (· rfl); (· rfl); (· rfl); (· exact pkA); (· first | exact Src.obj pkA | exact Src.sl (by assumption) | exact Src.row pkA); (· first | rfl | exact (byteVals_length _).trans (Nat.mul_one _).symm); (· first | exact byteVals_all _ | exact oneA); (· exact ⟨by unfold maxLen; omega, by omega⟩); (· rfl); intro vf; refine Go.TL.TL.row_slice (v := vf) pkA ?_; rintro a2 c2 rfl _)
    | refine stS ?_ | (refine stB ?_; intro _) | (refine stC ?_; constructor <;> intro _)
    | refine TC.region_sink 7 8 ([.obj b11 (.cells [.int .i64 2, .slice av acc.length cv].toArray 274 (0, 0))]) (by kernel_rfl) (by decide +kernel) rfl selF ?_ | refine TQ.anyT_panic ?_
    | ((with_reducible apply TB.takeF 0); (· rfl); (· decide +kernel); (· rfl); (· first | (first | exact yQ | exact yA | exact yB | exact yM | exact yV) | fail); (· decide +kernel); (· decide +kernel); (· rfl); (· exact fun _ _ _ h => h); (· rfl))
    | ((with_reducible apply TB.takeF 1); (· rfl); (· decide +kernel); (· rfl); (· first | (first | exact yQ | exact yA | exact yB | exact yM | exact yV) | fail); (· decide +kernel); (· decide +kernel); (· rfl); (· exact fun _ _ _ h => h); (· rfl))
    | ((with_reducible apply TB.takeF 2); (· rfl); (· decide +kernel); (· rfl); (· first | (first | exact yQ | exact yA | exact yB | exact yM | exact yV) | fail); (· decide +kernel); (· decide +kernel); (· rfl); (· exact fun _ _ _ h => h); (· rfl))
    | ((with_reducible apply TB.takeF 3); (· rfl); (· decide +kernel); (· rfl); (· first | (first | exact yQ | exact yA | exact yB | exact yM | exact yV) | fail); (· decide +kernel); (· decide +kernel); (· rfl); (· exact fun _ _ _ h => h); (· rfl))
    | ((with_reducible apply TB.takeF 4); (· rfl); (· decide +kernel); (· rfl); (· first | (first | exact yQ | exact yA | exact yB | exact yM | exact yV) | fail); (· decide +kernel); (· decide +kernel); (· rfl); (· exact fun _ _ _ h => h); (· rfl))
    | ((with_reducible apply TB.takeF 5); (· rfl); (· decide +kernel); (· rfl); (· first | (first | exact yQ | exact yA | exact yB | exact yM | exact yV) | fail); (· decide +kernel); (· decide +kernel); (· rfl); (· exact fun _ _ _ h => h); (· rfl))
    | ((with_reducible apply TB.takeF 6); (· rfl); (· decide +kernel); (· rfl); (· first | (first | exact yQ | exact yA | exact yB | exact yM | exact yV) | fail); (· decide +kernel); (· decide +kernel); (· rfl); (· exact fun _ _ _ h => h); (· rfl))
    | ((with_reducible apply TB.takeF 7); (· rfl); (· decide +kernel); (· rfl); (· first | (first | exact yQ | exact yA | exact yB | exact yM | exact yV) | fail); (· decide +kernel); (· decide +kernel); (· rfl); (· exact fun _ _ _ h => h); (· rfl))
    | ((with_reducible apply TB.oneF 0); (· rfl); (· rfl); (· decide +kernel); (· rfl); intro hsk)
    | ((with_reducible apply TB.oneF 1); (· rfl); (· rfl); (· decide +kernel); (· rfl); intro hsk)
    | ((with_reducible apply TB.oneF 2); (· rfl); (· rfl); (· decide +kernel); (· rfl); intro hsk)
    | ((with_reducible apply TB.oneF 3); (· rfl); (· rfl); (· decide +kernel); (· rfl); intro hsk)
    | ((with_reducible apply TB.oneF 4); (· rfl); (· rfl); (· decide +kernel); (· rfl); intro hsk)
    | ((with_reducible apply TB.oneF 5); (· rfl); (· rfl); (· decide +kernel); (· rfl); intro hsk)
    | ((with_reducible apply TB.oneF 6); (· rfl); (· rfl); (· decide +kernel); (· rfl); intro hsk)
    | ((with_reducible apply TB.oneF 7); (· rfl); (· rfl); (· decide +kernel); (· rfl); intro hsk)
    | refine TQ.lastT (by decide +kernel) ?_ | refine TQ.anyT (by assumption) leF selF ?_ | fail)
      have hlen : acc.length + 1 = (acc ++ [p]).length := by rw [List.length_append, List.length_singleton]
      rw [hlen]
      refine TQ.round (RgS.mk (i + 1) (acc ++ [p]) (fl2 ++ [.slice a1 p.length c1]) (.slice a2 (acc ++ [p]).length c2) g2) ?_ ?_ rfl subA selF
      · refine ⟨by dsimp only; omega, by dsimp only; rw [← hlen, ha], by dsimp only; rw [List.length_append, List.length_singleton, hfl], hgx.trans hg2, fun j q h => ?_, fun q h => ?_, HR.out⟩
        · dsimp only at h ⊢
          rw [List.getElem?_append] at h
          split at h
          · obtain ⟨u, h1, h2⟩ := HP.out j q h
            exact ⟨u, by rw [List.getElem?_append_left (by omega)]; exact h1, h2.le hg2⟩
          · have hj0 : j - acc.length = 0 := by
              have := (List.getElem?_eq_some_iff.1 h).1
              simp at this; omega
            rw [hj0] at h
            obtain rfl : p = q := by simpa using h
            exact ⟨_, by rw [List.getElem?_append_right (by omega), show j - fl2.length = 0 by omega]; rfl, K3.out⟩
        · dsimp only at h
          rcases List.mem_append.1 h with h | h
          · exact HM.out q h
          · rw [List.mem_singleton.1 h]; exact hpl
      · dsimp only; omega
  · have hok : mapR zs = some acc := by
      rw [hre, List.drop_eq_nil_of_le (by omega), mapR]; simp
    rw [hok]
    have hal : acc.length = zs.length := by omega
    have RI : ∀ (g3 : Gh) (v : Value), gx.le g3 → Sl g3 v acc.length 1 fl2 → IsParts g3 v acc := fun g3 v hg h3 => ⟨fl2, h3, fun j q h => by obtain ⟨u, h1, h2⟩ := hpt j q h; exact ⟨u, h1, h2.le hg⟩⟩
    have hO : ShOk acc := ⟨by omega, fun q h => by have := hsm q h; omega⟩
    clear hre hpt hsm F1 F2 IX LY NA HS HJ
    refine TC.freeze (.there .here) fun g3 hg3 HS3 => ?_
    have hP := RI g3 _ hg3 HS3
    have RT := fun L => sright_gives 2 acc (.slice av acc.length cv) g3 L hP hO
    clear HS3
    dsimp only [okS]
    cases hr : rightB 2 acc with
    | false =>
      rw [hr] at RT
      rw [if_neg (by decide)]
      repeat' (first
    | refine wkQ ?_
    | refine wkV ?_
    | refine wkD (RT _) ?_
    | refine TL.throws (Enters.plain (by kernel_rfl) (by rfl)) (NO _ _) (by rfl) ?_
    | refine stS ?_ | (refine stB ?_; intro _) | (refine stC ?_; constructor <;> intro _))
      refine TQ.end_panic (L' := L) rfl ((hgx.trans hg3)) ?_ selF
      exact ⟨rfl, rfl⟩
    | true =>
      rw [hr] at RT
      rw [if_pos rfl]
      repeat' (first
    | refine wkQ ?_
    | refine wkV ?_
    | refine wkD (RT _) ?_
    | refine wkD (NY _ _) ?_
    | refine stS ?_ | (refine stB ?_; intro _) | (refine stC ?_; constructor <;> intro _))
      refine TQ.endR1 (L' := L) Tryz.results253 rvA rfl ((hgx.trans hg3)) ?_ selF
      exact ⟨_, rfl, rfl, hP⟩
theorem sread_does (x : J) (v : Value) (g : Gh) (L : List Ent) (hv : IsJ g x v) (hs : smJ x) : Does Tryz.prog 253 #[v] g L (ReadR (readJ x) L) := by
  cases x with
  | obj ns xs =>
    by_cases hx : xs.length = 2
    · cases hc : fieldJ (.obj ns xs) coordB with
      | none => exact sread_none ns xs v g L hv hs hx (.inl hc)
      | some w =>
        have hk : kindS (fieldJ (.obj ns xs) typeB) = 0 ∨ kindS (fieldJ (.obj ns xs) typeB) = 1 ∨ kindS (fieldJ (.obj ns xs) typeB) = 2 ∨ kindS (fieldJ (.obj ns xs) typeB) = -1 := by
          unfold kindS
          split
          · exact idxK _
          · exact .inr (.inr (.inr rfl))
        rcases hk with hk | hk | hk | hk
        · exact sread_point ns xs w v g L hv hs hx hc hk
        · exact sread_line ns xs w v g L hv hs hx hc hk
        · exact sread_poly ns xs w v g L hv hs hx hc hk
        · exact sread_none ns xs v g L hv hs hx (.inr hk)
    · exact sread_len ns xs v g L hv hx
  | _ => exact sread_not _ v g L hv (fun _ _ => J.noConfusion)
end Go.Proofs.YtgollffmdpejiaaGreatDoor
namespace Go.Proofs.YtgollffmdpejiaaGreatDoor
open Go.RowKit Go.TL
set_option maxRecDepth 100000

def stopSR : PanicEntry := { v := .iface 301 (.agg #[]), recovered := true }
theorem stail_idle (b c : Nat) (w : World) :
    CallsD Tryz.prog 252 #[.pointer (some ⟨b, 0, none⟩), .pointer (some ⟨c, 0, none⟩)] .returning w fun e u' w' => e = .returned (.tuple #[]) ∧ u' = .returning ∧ w' = w := by
  refine callsD_of_wpS Tryz.func252 rfl fun c₀ cs hu => ?_
  apply wpS_seq
  apply wpS_region
  simp [wpOpsS, go_sem, recoverD, hu, Tryz.ntmps252, Exit.thenS]
  refine wpS_of_wp ?_
  simp only [Array.replicate_succ, Array.replicate_zero, List.push_toArray, List.append_toArray, List.nil_append, List.cons_append, List.setIfInBounds_toArray, List.set_cons_succ, List.set_cons_zero]
  go_wp2
  cases c₀
  simp_all [bodyPostS, results, Tryz.results252]
set_option maxHeartbeats 4000000 in
theorem late_s_stop (b c : Nat) (x0 x1 y : Value) (g : Gh) (L : List Ent) : Late Tryz.prog 252 #[.pointer (some ⟨b, 0, none⟩), .pointer (some ⟨c, 0, none⟩)] (.panicking [stopS]) (.panicking [stopSR]) g (.obj b (.cells [x0, x1].toArray 274 (0, 0)) :: .obj c (.cells [y].toArray 23 (0, 0)) :: L) (.obj b (.cells [.int .i64 0, .slice none 0 0].toArray 274 (0, 0)) :: .obj c (.cells [.int .i64 15].toArray 23 (0, 0)) :: L) :=
  ⟨fun w hs => by
    refine callsD_of_wpS Tryz.func252 rfl fun c₀ cs hu => ?_
    apply wpS_seq
    apply wpS_region
    simp [wpOpsS, go_sem, recoverD, hu, Tryz.ntmps252, Exit.thenS, stopS]
    refine wpS_of_wp ?_
    simp only [Array.replicate_succ, Array.replicate_zero, List.push_toArray, List.append_toArray, List.nil_append, List.cons_append, List.setIfInBounds_toArray, List.set_cons_succ, List.set_cons_zero]
    refine TC.h (n := 17) (ds := []) (S := [(2, .iface 301 (.agg #[])), (0, .pointer (some ⟨b, 0, none⟩)), (1, .pointer (some ⟨c, 0, none⟩))]) (g := g) ?_ _ w ⟨rfl, rfl, fun i v h => ?_⟩ hs
    · repeat' (first
    | refine wkQ ?_
    | ((with_reducible apply TL.storeK); (· rfl); (· rfl); (· exact rfl); (· exact pkA); (· exact Nat.le_of_ble_eq_true rfl))
    | refine wkV ?_
    | refine stS ?_ | (refine stB ?_; intro _) | (refine stC ?_; constructor <;> intro _)
    | refine wkW ?_)
      refine .mk fun a w' hf hs' => ?_
      have h2 : St g (.obj b (.cells [.int .i64 0, .slice none 0 0].toArray 274 (0, 0)) :: .obj c (.cells [.int .i64 15].toArray 23 (0, 0)) :: L) w' := hs'.sel selF
      simp [bodyPostS, results, Tryz.results252, stopSR]
      exact ⟨hf.defers, h2⟩
    · match i, h with
      | 0, h => exact Option.some.inj h
      | 1, h => exact Option.some.inj h
      | 2, h => exact Option.some.inj h
      | i + 3, h => cases h⟩
theorem late_s_idle (b c : Nat) (g : Gh) (L : List Ent) : Late Tryz.prog 252 #[.pointer (some ⟨b, 0, none⟩), .pointer (some ⟨c, 0, none⟩)] .returning .returning g L L :=
  ⟨fun w hs => by
    refine (stail_idle b c w).mono ?_
    rintro e u w' ⟨rfl, rfl, rfl⟩
    exact ⟨⟨_, rfl⟩, rfl, hs⟩⟩
def readX (x : J) : Option (Int × List (List Pt)) := if lookJ x 0 = 0 then readJ x else none
def ReadXR (o : Option (Int × List (List Pt))) (L : List Ent) : Ending → Gh → List Ent → Prop := fun e g' L1 => ∃ v, L1 = L ∧ (match o with
  | some (k, ps) => e = .returned (.tuple #[shV k v, .int .i64 0]) ∧ IsParts g' v ps
  | none => e = .returned (.tuple #[shV 0 v, .int .i64 15]) ∧ v = .slice none 0 0)
set_option maxHeartbeats 16000000 in
theorem sRead_does (x : J) (v : Value) (g : Gh) (L : List Ent) (hv : IsJ g x v) (hs : smJ x) (hT : GTabs g) (hU : GU8 g) : Does Tryz.prog 212 #[v] g L (ReadXR (readX x) L) := by
  refine Does.ofD1 Tryz.func212 rfl Tryz.ntmps212 rfl ?_
  have ov := hv.one
  have MA := fun L => may_gives x v g L hv hs hT hU
  have RD := fun L => sread_does x v g L hv hs
  clear hv hs hT hU
  unfold ReadXR readX
  unfold ReadR at RD
  by_cases h0 : lookJ x 0 ≠ 0
  · rw [if_neg h0]
    have HK := Hn.mk (show ¬ ((lookJ x 0 : Nat) : Int) = 0 by omega)
    generalize lookJ x 0 = k at *
    clear h0
    dsimp only
    repeat' (first
    | refine wkQ ?_
    | refine wkV ?_
    | refine wkD (MA _) ?_
    | ((with_reducible apply TL.storeK); (· rfl); (· rfl); (· exact rfl); (· exact pkA); (· exact Nat.le_of_ble_eq_true rfl))
    | refine stS ?_ | (refine stB ?_; intro _) | (refine stC ?_; constructor <;> intro _))
    refine TQ.endD_ret_none (L' := L) rfl Tryz.results212 rvA rvA (.refl _) ?_ selF
    exact ⟨_, rfl, rfl, rfl⟩
  have h0 : lookJ x 0 = 0 := by omega
  rw [if_pos h0]
  rw [h0] at MA
  cases hr : readJ x with
  | none =>
    rw [hr] at RD
    dsimp only at RD ⊢
    repeat' (first
    | refine wkQ ?_
    | (refine wkA 8 (v := .func (.func 252) #[] [Value.pointer (some ⟨_, 0, none⟩), Value.pointer (some ⟨_, 0, none⟩)].toArray) ?_ ?_; · exact Y.make_func rfl)
    | refine wkV ?_
    | refine wkD (MA _) ?_
    | (refine TL.call (Enters.plain (by kernel_rfl) (by rfl)) (by rfl) (RD _) ?_; (rintro e g1 Ln hg1 ⟨k1, k2⟩; have k2 := k2.symm; subst k1; subst k2; refine CallK.panic ?_))
    | ((with_reducible apply TL.storeK); (· rfl); (· rfl); (· exact rfl); (· exact pkA); (· exact Nat.le_of_ble_eq_true rfl))
      | refine TL.defer_v (by rfl) (by rfl) ?_
    | refine stS ?_ | (refine stB ?_; intro _) | (refine stC ?_; constructor <;> intro _))
    rename_i b2 b3
    refine TQ.only (.obj b2 (.cells [.int .i64 0, .slice none 0 0].toArray 274 (0, 0)) :: .obj b3 (.cells [.int .i64 0].toArray 23 (0, 0)) :: L) selF ?_
    refine TQ.endD_panic2 (L' := L) (vs := []) (caps := [.pointer (some ⟨b2, 0, none⟩), .pointer (some ⟨b3, 0, none⟩)]) (late_s_stop b2 b3 _ _ _ g1 _) rfl rfl (by kernel_rfl) Tryz.results212 rvA rvA hg1 ?_ (.refl _) selF
    exact ⟨_, rfl, rfl, rfl⟩
  | some o =>
    obtain ⟨k, ps⟩ := o
    rw [hr] at RD
    dsimp only at RD ⊢
    repeat' (first
    | refine wkQ ?_
    | (refine wkA 8 (v := .func (.func 252) #[] [Value.pointer (some ⟨_, 0, none⟩), Value.pointer (some ⟨_, 0, none⟩)].toArray) ?_ ?_; · exact Y.make_func rfl)
    | refine wkV ?_
    | refine wkD (MA _) ?_
    | (refine TL.call (Enters.plain (by kernel_rfl) (by rfl)) (by rfl) (RD _) ?_; (rintro e g1 Ln hg1 ⟨vp, k1, k2, k3⟩; have k2 := k2.symm; subst k1; subst k2; (obtain ⟨av, cv, rfl⟩ : ∃ a c, vp = .slice a ps.length c := by obtain ⟨_, h, _⟩ := k3; exact h.slice); have K3 := Hn.mk k3; clear k3; refine CallK.ret ?_))
    | ((with_reducible apply TL.storeK); (· rfl); (· rfl); (· exact rfl); (· exact pkA); (· exact Nat.le_of_ble_eq_true rfl))
      | refine TL.defer_v (by rfl) (by rfl) ?_
    | refine stS ?_ | (refine stB ?_; intro _) | (refine stC ?_; constructor <;> intro _))
    rename_i b2 b3
    refine TQ.only (.obj b2 (.cells [.int .i64 k, .slice av ps.length cv].toArray 274 (0, 0)) :: .obj b3 (.cells [.int .i64 0].toArray 23 (0, 0)) :: L) selF ?_
    refine TQ.endD_ret2 (L' := L) (vs := []) (caps := [.pointer (some ⟨b2, 0, none⟩), .pointer (some ⟨b3, 0, none⟩)]) (late_s_idle b2 b3 g1 _) rfl (by kernel_rfl) Tryz.results212 rvA rvA hg1 ?_ (.refl _) selF
    exact ⟨_, rfl, rfl, K3.out⟩
end Go.Proofs.YtgollffmdpejiaaGreatDoor
namespace Go.Proofs.YtgollffmdpejiaaGreatDoor
open Go.RowKit Go.TL
set_option maxRecDepth 100000

abbrev eqN : List UInt8 := [36, 101, 113]
abbrev neN : List UInt8 := [36, 110, 101]
abbrev ltN : List UInt8 := [36, 108, 116]
abbrev lteN : List UInt8 := [36, 108, 116, 101]
abbrev gtN : List UInt8 := [36, 103, 116]
abbrev gteN : List UInt8 := [36, 103, 116, 101]
abbrev inN : List UInt8 := [36, 105, 110]
abbrev ninN : List UInt8 := [36, 110, 105, 110]
abbrev exN : List UInt8 := [36, 101, 120, 105, 115, 116, 115]
abbrev kindN : List UInt8 := [36, 107, 105, 110, 100]
abbrev withinN : List UInt8 := [36, 119, 105, 116, 104, 105, 110]
abbrev meetsN : List UInt8 := [36, 109, 101, 101, 116, 115]
abbrev boxN : List UInt8 := [36, 98, 111, 120]
abbrev pointN : List UInt8 := [36, 112, 111, 105, 110, 116]
abbrev wordsN : List UInt8 := [36, 119, 111, 114, 100, 115]
abbrev andN : List UInt8 := [36, 97, 110, 100]
abbrev orN : List UInt8 := [36, 111, 114]
abbrev notN : List UInt8 := [36, 110, 111, 116]
def kindX : J → List UInt8
  | .null => [110, 117, 108, 108]
  | .bool _ => [98, 111, 111, 108]
  | .num _ => [110, 117, 109, 98, 101, 114]
  | .text _ => [116, 101, 120, 116]
  | .list _ => [108, 105, 115, 116]
  | _ => [111, 98, 106, 101, 99, 116]
def kindT (x : J) : List UInt8 := if lookJ x 0 = 0 then kindX x else []
def kindsT : List (List UInt8) := [[110, 117, 108, 108], [98, 111, 111, 108], [110, 117, 109, 98, 101, 114], [116, 101, 120, 116], [108, 105, 115, 116], [111, 98, 106, 101, 99, 116]]
def rectJ : J → Option Rc
  | .list [.num a, .num b, .num c, .num d] => if mayR ⟨a, b, c, d⟩ = true then some ⟨a, b, c, d⟩ else none
  | _ => none
def condB (n : List UInt8) (v : J) : Bool :=
  if n = eqN ∨ n = neN ∨ n = ltN ∨ n = lteN ∨ n = gtN ∨ n = gteN then true
  else if n = inN ∨ n = ninN then (match v with | .list _ => true | _ => false)
  else if n = exN then (match v with | .bool _ => true | _ => false)
  else if n = kindN then (match v with | .text s => decide (s ∈ kindsT) | _ => false)
  else if n = withinN then (match readX v with | some (k, _) => decide (k = 2) | none => false)
  else if n = meetsN then (readX v).isSome
  else if n = boxN ∨ n = pointN then (rectJ v).isSome
  else if n = wordsN then (match v with | .text s => decide (stemsL s ≠ []) | _ => false)
  else false
def orB (n : List UInt8) (v : J) : Bool :=
  if n = neN ∨ n = ninN then true else if n = exN then (match v with | .bool b => !b | _ => false) else false
def soB (n : List UInt8) (c : Int) : Bool := if n = ltN then decide (c < 0) else if n = lteN then decide (c ≤ 0) else if n = gtN then decide (0 < c) else decide (0 ≤ c)
def askable (n : List UInt8) : Bool := decide (n = ltN ∨ n = lteN ∨ n = gtN ∨ n = gteN ∨ n = wordsN)
def askB (n : List UInt8) (v x : J) : Bool :=
  if n = ltN ∨ n = lteN ∨ n = gtN ∨ n = gteN then decide (errJ x v = 0) && (decide (kindT x = kindT v) && soB n (cmpJ x v))
  else if n = wordsN then (match v, x with | .text s, .text t => (stemsL s).all fun w => decide (w ∈ stemsL t) | _, _ => false)
  else false
inductive Qn where
  | all (l : List Qn)
  | one (l : List Qn)
  | not (l : List Qn)
  | test (p n : List UInt8) (v : J)
def named (s : List UInt8) : Bool := match s with
  | c :: _ => decide (c = 36)
  | [] => false
def opsJ : J → Bool
  | .obj ns vs => decide (vs ≠ []) && ns.all named
  | _ => false
def condLQ (p : List UInt8) : Nat → List (List UInt8) → List J → Option (List Qn × Nat)
  | left, n :: ns, v :: vs => match left with
    | 0 => none
    | left + 1 => if condB n v = true then (condLQ p left ns vs).map fun r => (.test p n v :: r.1, r.2) else none
  | left, _, _ => some ([], left)
def condsR (p : List UInt8) (v : J) (left : Nat) : Option (List Qn × Nat) := match v with
  | .obj ns vs => if opsJ (.obj ns vs) = true then condLQ p left ns vs else some ([.test p eqN (.obj ns vs)], left)
  | v => some ([.test p eqN v], left)
def manyF (f : Nat → J → Option (List Qn × Nat)) : Nat → List J → Option (List Qn × Nat)
  | left, [] => some ([], left)
  | left, x :: r => match f left x with
    | none => none
    | some (q, l1) => (manyF f l1 r).map fun s => (.all q :: s.1, s.2)
def manyQ (f : Nat → J → Option (List Qn × Nat)) (left : Nat) : J → Option (List Qn × Nat)
  | .list (x :: r) => manyF f left (x :: r)
  | _ => none
def memQ (f : Nat → J → Option (List Qn × Nat)) (n : List UInt8) (v : J) (left : Nat) : Option (List Qn × Nat) :=
  if n = andN then (manyQ f left v).map fun r => ([.all r.1], r.2)
  else if n = orN then (manyQ f left v).map fun r => ([.one r.1], r.2)
  else if n = notN then (f left v).map fun r => ([.not r.1], r.2)
  else if named n = true then none
  else if (stepsL n).isSome = true then condsR n v left else none
def membersQ (f : Nat → J → Option (List Qn × Nat)) : Nat → List (List UInt8) → List J → Option (List Qn × Nat)
  | left, n :: ns, v :: vs => match left with
    | 0 => none
    | left + 1 => match memQ f n v left with
      | none => none
      | some (q, l1) => (membersQ f l1 ns vs).map fun r => (q ++ r.1, r.2)
  | left, _, _ => some ([], left)
def rdQ : Nat → Nat → J → Option (List Qn × Nat)
  | 0, _, _ => none
  | d + 1, left, .obj ns vs => membersQ (rdQ d) left ns vs
  | _ + 1, _, _ => none
def readQ (x : J) : Option (List Qn) := if lookJ x 0 = 0 then (rdQ 32 100 x).map (·.1) else none
def condsQ : List Qn → List (List UInt8 × List UInt8 × J)
  | [] => []
  | .test p n v :: r => (p, n, v) :: condsQ r
  | _ :: r => condsQ r
end Go.Proofs.YtgollffmdpejiaaGreatDoor
namespace Go.Proofs.YtgollffmdpejiaaGreatDoor
open Go.RowKit Go.TL
set_option maxRecDepth 100000

instance : Places Tryz.prog 77 [] [] := ⟨#[], by kernel_rfl, fun w => by simp, fun w => run_zero w⟩
def stopQ : PanicEntry := { v := .iface 77 (.agg #[]), recovered := false }
theorem qneed_yes (g : Gh) (L : List Ent) : Gives Tryz.prog 59 #[.bool true] g L (.tuple #[]) := by
  refine .of (Does.of1 Tryz.func59 rfl Tryz.ntmps59 rfl ?_)
  repeat' (first
    | refine wkQ ?_
    | refine wkV ?_
    | refine stS ?_ | (refine stB ?_; intro _) | (refine stC ?_; constructor <;> intro _))
  refine TQ.end_normal ?_
  refine TQ.endR0 (L' := L) Tryz.results59 rfl (.refl _) ?_ selF
  exact ⟨rfl, rfl, rfl⟩
theorem qneed_no (g : Gh) (L : List Ent) : Throws Tryz.prog 59 #[.bool false] g L [stopQ] := by
  refine .of (Does.of1 Tryz.func59 rfl Tryz.ntmps59 rfl ?_)
  repeat' (first
    | refine wkQ ?_
    | refine wkV ?_
    | refine TL.panic (by rfl) (by rfl) ?_
    | refine stS ?_ | (refine stB ?_; intro _) | (refine stC ?_; constructor <;> intro _))
  refine TQ.end_panic (L' := L) rfl (.refl _) ?_ selA
  exact ⟨rfl, rfl, rfl⟩
theorem qlist_yes (sl : Value) (g : Gh) (L : List Ent) : Gives Tryz.prog 91 #[.iface 50 sl] g L sl := by
  refine .of (Does.of1 Tryz.func91 rfl Tryz.ntmps91 rfl ?_)
  have NY := fun L => qneed_yes g L
  repeat' (first
    | refine wkQ ?_
    | refine wkV ?_
    | refine wkD (NY _) ?_
    | refine stS ?_ | (refine stB ?_; intro _) | (refine stC ?_; constructor <;> intro _))
  refine TQ.endR1 (L' := L) Tryz.results91 rvA rfl (.refl _) ?_ selF
  exact ⟨rfl, rfl, rfl⟩
set_option maxHeartbeats 8000000 in
theorem qlist_no (x : J) (v : Value) (g : Gh) (L : List Ent) (hv : IsJ g x v) (hx : isListJ x = false) : Throws Tryz.prog 91 #[v] g L [stopQ] := by
  refine .of (Does.of1 Tryz.func91 rfl Tryz.ntmps91 rfl ?_)
  have NO := fun L => qneed_no g L
  cases x with
  | list xs => cases hx
  | obj ns zs =>
    rw [IsJ] at hv
    obtain ⟨sl, fl, rfl, hS, _⟩ := hv
    obtain ⟨a, c, rfl⟩ := hS.slice
    clear hS
    repeat' (first
    | refine wkQ ?_
    | refine wkV ?_
    | refine TL.throws (Enters.plain (by kernel_rfl) (by rfl)) (NO _) (by rfl) ?_
    | refine stS ?_ | (refine stB ?_; intro _) | (refine stC ?_; constructor <;> intro _))
    refine TQ.end_panic (L' := L) rfl (.refl _) ?_ selA
    exact ⟨rfl, rfl, rfl⟩
  | num n =>
    rw [IsJ] at hv
    obtain ⟨rfl, _⟩ := hv
    repeat' (first
    | refine wkQ ?_
    | refine wkV ?_
    | refine TL.throws (Enters.plain (by kernel_rfl) (by rfl)) (NO _) (by rfl) ?_
    | refine stS ?_ | (refine stB ?_; intro _) | (refine stC ?_; constructor <;> intro _))
    refine TQ.end_panic (L' := L) rfl (.refl _) ?_ selA
    exact ⟨rfl, rfl, rfl⟩
  | _ =>
    rw [IsJ] at hv
    subst hv
    repeat' (first
    | refine wkQ ?_
    | refine wkV ?_
    | refine TL.throws (Enters.plain (by kernel_rfl) (by rfl)) (NO _) (by rfl) ?_
    | refine stS ?_ | (refine stB ?_; intro _) | (refine stC ?_; constructor <;> intro _))
    refine TQ.end_panic (L' := L) rfl (.refl _) ?_ selA
    exact ⟨rfl, rfl, rfl⟩
def isObjJ : J → Bool
  | .obj _ _ => true
  | _ => false
theorem qobject_yes (sl : Value) (g : Gh) (L : List Ent) : Gives Tryz.prog 60 #[.iface 48 sl] g L sl := by
  refine .of (Does.of1 Tryz.func60 rfl Tryz.ntmps60 rfl ?_)
  have NY := fun L => qneed_yes g L
  repeat' (first
    | refine wkQ ?_
    | refine wkV ?_
    | refine wkD (NY _) ?_
    | refine stS ?_ | (refine stB ?_; intro _) | (refine stC ?_; constructor <;> intro _))
  refine TQ.endR1 (L' := L) Tryz.results60 rvA rfl (.refl _) ?_ selF
  exact ⟨rfl, rfl, rfl⟩
set_option maxHeartbeats 8000000 in
theorem qobject_no (x : J) (v : Value) (g : Gh) (L : List Ent) (hv : IsJ g x v) (hx : isObjJ x = false) : Throws Tryz.prog 60 #[v] g L [stopQ] := by
  refine .of (Does.of1 Tryz.func60 rfl Tryz.ntmps60 rfl ?_)
  have NO := fun L => qneed_no g L
  cases x with
  | obj ns zs => cases hx
  | list xs =>
    rw [IsJ] at hv
    obtain ⟨sl, fl, rfl, hS, _⟩ := hv
    obtain ⟨a, c, rfl⟩ := hS.slice
    clear hS
    repeat' (first
    | refine wkQ ?_
    | refine wkV ?_
    | refine TL.throws (Enters.plain (by kernel_rfl) (by rfl)) (NO _) (by rfl) ?_
    | refine stS ?_ | (refine stB ?_; intro _) | (refine stC ?_; constructor <;> intro _))
    refine TQ.end_panic (L' := L) rfl (.refl _) ?_ selA
    exact ⟨rfl, rfl, rfl⟩
  | num n =>
    rw [IsJ] at hv
    obtain ⟨rfl, _⟩ := hv
    repeat' (first
    | refine wkQ ?_
    | refine wkV ?_
    | refine TL.throws (Enters.plain (by kernel_rfl) (by rfl)) (NO _) (by rfl) ?_
    | refine stS ?_ | (refine stB ?_; intro _) | (refine stC ?_; constructor <;> intro _))
    refine TQ.end_panic (L' := L) rfl (.refl _) ?_ selA
    exact ⟨rfl, rfl, rfl⟩
  | _ =>
    rw [IsJ] at hv
    subst hv
    repeat' (first
    | refine wkQ ?_
    | refine wkV ?_
    | refine TL.throws (Enters.plain (by kernel_rfl) (by rfl)) (NO _) (by rfl) ?_
    | refine stS ?_ | (refine stB ?_; intro _) | (refine stC ?_; constructor <;> intro _))
    refine TQ.end_panic (L' := L) rfl (.refl _) ?_ selA
    exact ⟨rfl, rfl, rfl⟩
theorem qnamed_gives (s : List UInt8) (g : Gh) (L : List Ent) : Gives Tryz.prog 63 #[str s] g L (.bool (named s)) := by
  refine .of (Does.of1 Tryz.func63 rfl Tryz.ntmps63 rfl ?_)
  have hq : Lib.hasPrefix s [36] = named s := by
    cases s with
    | nil => rfl
    | cons c r =>
      show ((36 : UInt8) == c && ([] : List UInt8).isPrefixOf r) = decide (c = 36)
      rw [show ([] : List UInt8).isPrefixOf r = true by cases r <;> rfl, Bool.and_true]
      by_cases h : c = 36
      · subst h; rfl
      · rw [decide_eq_false h]; simp [Ne.symm h]
  have A := fun L => Gives.same (P := Tryz.prog) (f := 92) (args := #[str s, str [36]]) (g := g) (L := L) (v := .bool (named s)) fun w => by
    have := Tryz.strings_HasPrefix ⟨s.toArray⟩ ⟨#[36]⟩ w
    rw [show (ByteArray.mk s.toArray).data.toList = s from by simp, show (ByteArray.mk #[(36 : UInt8)]).data.toList = [36] from rfl, hq] at this
    exact this
  repeat' (first
    | refine wkQ ?_
    | refine wkV ?_
    | refine wkD (A _) ?_
    | refine stS ?_ | (refine stB ?_; intro _) | (refine stC ?_; constructor <;> intro _))
  refine TQ.endR1 (L' := L) Tryz.results63 rvA rfl (.refl _) ?_ selF
  exact ⟨rfl, rfl, rfl⟩
abbrev rdO (b : Nat) (n : Int) : Ent := .obj b (.cells [.int .i64 n].toArray 81 (0, 0))
theorem qcount_yes (b n : Nat) (g : Gh) (L : List Ent) (_hn : n ≤ 1000) : Turns Tryz.prog 61 #[.pointer (some ⟨b, 0, none⟩)] g (rdO b ((n + 1 : Nat) : Int) :: L) (.tuple #[]) (rdO b (n : Nat) :: L) := by
  refine .of (Does.of1 Tryz.func61 rfl Tryz.ntmps61 rfl ?_)
  have NY := fun L => qneed_yes g L
  have w1 : IntKind.i64.wrap (((n + 1 : Nat) : Int) - 1) = ((n : Nat) : Int) := by rw [IntWalk.i64_in _ (by omega)]; omega
  have W1 := Hn.mk w1
  clear w1
  repeat' (first
    | refine wkQ ?_
    | (refine wkA 6 (v := .int .i64 ((n : Nat) : Int)) ?_ ?_; · exact Y.sub rfl rfl W1.out)
    | (refine wkA 13 (v := .bool true) ?_ ?_; · exact Y.geq_b (decide_eq_true (by omega)) rfl rfl)
    | refine wkV ?_
    | ((with_reducible apply TL.storeK); (· rfl); (· rfl); (· rfl); (· exact pkA); (· exact Nat.le_of_ble_eq_true rfl))
    | refine wkD (NY _) ?_
    | refine stS ?_ | (refine stB ?_; intro _) | (refine stC ?_; constructor <;> intro _))
  refine TQ.end_normal ?_
  refine TQ.endR0 (L' := (rdO b (n : Nat) :: L)) Tryz.results61 rfl (.refl _) ?_ selF
  exact ⟨rfl, rfl, rfl⟩
def CntR (b : Nat) (L : List Ent) : Ending → Gh → List Ent → Prop := fun e _ L' => e = .panicked [stopQ] ∧ ∃ n, L' = rdO b n :: L
theorem qcount_no (b : Nat) (g : Gh) (L : List Ent) : Does Tryz.prog 61 #[.pointer (some ⟨b, 0, none⟩)] g (rdO b 0 :: L) (CntR b L) := by
  refine Does.of1 Tryz.func61 rfl Tryz.ntmps61 rfl ?_
  unfold CntR
  have NO := fun L => qneed_no g L
  repeat' (first
    | refine wkQ ?_
    | (refine wkA 6 (v := .int .i64 (-1)) ?_ ?_; · exact Y.sub rfl rfl (by rw [IntWalk.i64_in _ (by omega)]; rfl))
    | (refine wkA 13 (v := .bool false) ?_ ?_; · exact Y.geq_b (decide_eq_false (by omega)) rfl rfl)
    | refine wkV ?_
    | ((with_reducible apply TL.storeK); (· rfl); (· rfl); (· rfl); (· exact pkA); (· exact Nat.le_of_ble_eq_true rfl))
    | refine TL.throws (Enters.plain (by kernel_rfl) (by rfl)) (NO _) (by rfl) ?_
    | refine stS ?_ | (refine stB ?_; intro _) | (refine stC ?_; constructor <;> intro _))
  refine TQ.end_panic (L' := (rdO b (-1) :: L)) rfl (.refl _) ?_ selA
  exact ⟨rfl, _, rfl⟩
set_option maxHeartbeats 16000000 in
theorem qKind_gives (x : J) (v : Value) (g : Gh) (L : List Ent) (hV : IsJ g x v) (hS : smJ x) (hT : GTabs g) (hU : GU8 g) : Gives Tryz.prog 24 #[v] g L (str (kindT x)) := by
  refine .of (Does.of1 Tryz.func24 rfl Tryz.ntmps24 rfl ?_)
  have M := fun L => may_gives x v g L hV hS hT hU
  have ov := hV.one
  unfold kindT
  by_cases h0 : lookJ x 0 = 0
  case neg =>
    rw [if_neg h0]
    have b0 : (!decide (((lookJ x 0 : Nat) : Int) = 0)) = true := by rw [decide_eq_false (by omega)]; rfl
    clear hV hS hT hU
    generalize lookJ x 0 = e at *
    repeat' (first
    | refine wkQ ?_
    | (refine wkA 5 (v := .bool true) ?_ ?_; · exact Y.neq_b b0 rfl rfl)
    | refine wkV ?_
    | refine wkD (M _) ?_
    | refine stS ?_ | (refine stB ?_; intro _) | (refine stC ?_; constructor <;> intro _))
    refine TQ.endR1 (L' := L) Tryz.results24 rvA rfl (.refl _) ?_ selF
    exact ⟨rfl, rfl, rfl⟩
  rw [if_pos h0]
  rw [h0] at M
  clear hS hT hU
  cases x with
  | null =>
    rw [IsJ] at hV
    subst hV
    repeat' (first
    | refine wkQ ?_
    | refine wkV ?_
    | refine wkD (M _) ?_
    | refine stS ?_ | (refine stB ?_; intro _) | (refine stC ?_; constructor <;> intro _))
    refine TQ.endR1 (L' := L) Tryz.results24 rvA rfl (.refl _) ?_ selF
    exact ⟨rfl, rfl, rfl⟩
  | bool b =>
    rw [IsJ] at hV
    subst hV
    repeat' (first
    | refine wkQ ?_
    | refine wkV ?_
    | refine wkD (M _) ?_
    | refine stS ?_ | (refine stB ?_; intro _) | (refine stC ?_; constructor <;> intro _))
    refine TQ.endR1 (L' := L) Tryz.results24 rvA rfl (.refl _) ?_ selF
    exact ⟨rfl, rfl, rfl⟩
  | num n =>
    rw [IsJ] at hV
    obtain ⟨rfl, _⟩ := hV
    repeat' (first
    | refine wkQ ?_
    | refine wkV ?_
    | refine wkD (M _) ?_
    | refine stS ?_ | (refine stB ?_; intro _) | (refine stC ?_; constructor <;> intro _))
    refine TQ.endR1 (L' := L) Tryz.results24 rvA rfl (.refl _) ?_ selF
    exact ⟨rfl, rfl, rfl⟩
  | text s =>
    rw [IsJ] at hV
    subst hV
    repeat' (first
    | refine wkQ ?_
    | refine wkV ?_
    | refine wkD (M _) ?_
    | refine stS ?_ | (refine stB ?_; intro _) | (refine stC ?_; constructor <;> intro _))
    refine TQ.endR1 (L' := L) Tryz.results24 rvA rfl (.refl _) ?_ selF
    exact ⟨rfl, rfl, rfl⟩
  | list l =>
    rw [IsJ] at hV
    obtain ⟨sl, fl, rfl, hS, _⟩ := hV
    obtain ⟨a, c, rfl⟩ := hS.slice
    clear hS
    repeat' (first
    | refine wkQ ?_
    | refine wkV ?_
    | refine wkD (M _) ?_
    | refine stS ?_ | (refine stB ?_; intro _) | (refine stC ?_; constructor <;> intro _))
    refine TQ.endR1 (L' := L) Tryz.results24 rvA rfl (.refl _) ?_ selF
    exact ⟨rfl, rfl, rfl⟩
  | obj ns l =>
    rw [IsJ] at hV
    obtain ⟨sl, fl, rfl, hS, _⟩ := hV
    obtain ⟨a, c, rfl⟩ := hS.slice
    clear hS
    repeat' (first
    | refine wkQ ?_
    | refine wkV ?_
    | refine wkD (M _) ?_
    | refine stS ?_ | (refine stB ?_; intro _) | (refine stC ?_; constructor <;> intro _))
    refine TQ.endR1 (L' := L) Tryz.results24 rvA rfl (.refl _) ?_ selF
    exact ⟨rfl, rfl, rfl⟩
  | other k =>
    exact absurd h0 (by rw [lookJ]; decide)
end Go.Proofs.YtgollffmdpejiaaGreatDoor
