/-
  The walk of the document's put.
-/
import Derived.Test.YthngolfabfijpaaGreatDoorHd2
import Derived.Test.YthngolfabfijpaaGreatDoorHd16
import Derived.Test.YthngolfabfijpaaGreatDoorHd11
import Derived.Test.YthngolfabfijpaaGreatDoorHd21
namespace Go.Proofs.YthngolfabfijpaaGreatDoor
open Go.RowKit Go.TL
set_option maxRecDepth 100000

theorem IsV.names {g g' : Gh} {k : Int} {b : Bool} {n : Int} {t : List UInt8} {items : List DV} {names names' : List (List UInt8)} {vi vn vn' : Value} (h : IsV g (.mk k b n t items names) [.int .i64 k, .bool b, .int .i64 n, str t, vi, vn]) (hg : g.le g') (hS : Sl g' vn' names'.length 1 (strs names')) (hl : names'.length ≤ 9223372036854775807) (hb : ∀ x ∈ names', x.length ≤ 9223372036854775807) : IsV g' (.mk k b n t items names') [.int .i64 k, .bool b, .int .i64 n, str t, vi, vn'] := by
  have h2 := IsV.le hg _ _ h
  rw [IsV] at h2 ⊢
  obtain ⟨vi0, vn0, flat, e, h3, h4, h5, h6, h7, h8, _⟩ := h2
  simp only [List.cons.injEq, true_and, and_true] at e
  obtain ⟨rfl, rfl⟩ := e
  exact ⟨_, _, flat, rfl, h3, h4, h5, h6, h7, h8, hS, hl, hb⟩
def PutDR (o : Option DV) (L : List Ent) : Ending → Gh → List Ent → Prop := fun e g' L' => ∃ (cs : List Value) (b : Bool) (z : DV), e = .returned (.tuple #[.agg cs.toArray, .bool b]) ∧ L' = L ∧ IsV g' z cs ∧ (match o with
  | some w => b = true ∧ z = w
  | none => b = false)
structure PutS where
  g : Gh
  an : Option Addr
  cn : Nat
  ics : List Value
  inner : DV
  j : Nat
  names : List (List UInt8)
theorem IsV.noneD {g : Gh} : IsV g noneD [.int .i64 5, .bool false, .int .i64 0, .string ⟨#[]⟩, .slice none 0 0, .slice none 0 0] := by
  unfold Proofs.YthngolfabfijpaaGreatDoor.noneD
  rw [IsV]
  exact ⟨_, _, [], rfl, by omega, by omega, by simp, .nil, by simp, by rw [IsVs], .nil, by simp, fun x hx => by cases hx⟩
set_option maxHeartbeats 64000000 in
theorem rput6_does : ∀ (l : List (List UInt8)) (x y : DV) (cs us : List Value) (vl : Value) (m : Nat) (g : Gh) (L : List Ent), IsV g x cs → IsV g y us → wfN m x → m ≤ 10000 → (∀ s ∈ l, s ≠ [] ∧ s.length ≤ 1000) → l.length ≤ 1000 → Sl g vl l.length 1 (strs l) → Does Tryz.prog 109 #[.agg cs.toArray, vl, .agg us.toArray] g L (PutDR (putD l x y) L)
  | [], x, y, cs, us, vl, m, g, L, hX, hY, hW, hm, hl, hll, hS => by
    refine Does.of3 Tryz.func109 rfl Tryz.ntmps109 rfl ?_
    obtain ⟨al, cl, rfl⟩ := hS.slice
    obtain ⟨_, _, _, _, _, _, _, _, _, _, rfl⟩ := hX.form
    obtain ⟨_, _, _, _, _, _, _, _, _, _, rfl⟩ := hY.form
    have HY := Hn.mk hY
    clear hX hY hS
    repeat' (first | refine wkQ ?_ | refine stS ?_ | (refine stB ?_; intro _) | fail)
    refine TQ.endR2 (L' := L) Tryz.results109 rvA rvA rfl (.refl _) ?_ selF
    exact ⟨_, true, y, rfl, rfl, HY.out, rfl, rfl⟩
  | s :: r, .mk k b n t items names, y, cs, us, vl, m, g, L, hX, hY, hW, hm, hl, hll, hS => by
    have IH := rput6_does r
    obtain ⟨hs0, hsl⟩ := hl s List.mem_cons_self
    have A := fun L => rat6_gives k b n t items names cs s g L hX (wf_of_N _ m hW (by omega)) hs0 (by omega)
    have hWx := hW
    rw [wfN] at hW
    obtain ⟨w1, w2, w3, w4⟩ := hW
    rw [List.length_cons] at hS hll
    obtain ⟨al, cl, rfl⟩ := hS.slice
    obtain ⟨bs, os, os', rfl, hcs, hos, hld0, hs1⟩ := Sl.from1 hS rfl
    obtain ⟨yk, yb, yn, yt, yi, yil, yic, ym, yml, ymc, rfl⟩ := hY.form
    have hX0 := hX
    rw [IsV] at hX
    obtain ⟨vi, vn, flat, rfl, bk, bn, bt, hSi, hil, hI, hSn, hnl, hnb⟩ := hX
    obtain ⟨ai, ci, rfl⟩ := hSi.slice
    obtain ⟨an, cn, rfl⟩ := hSn.slice
    refine Does.of3 Tryz.func109 rfl Tryz.ntmps109 rfl ?_
    by_cases hk : k = 4 ∨ k = 5
    · have HX := Hn.mk hX0
      refine TC.seq ?_
      refine TC.cutN [_, _] (fun _ : Nat × Nat × Nat => True) (fun z => [(1, .slice (some ⟨bs, os, none⟩) (r.length + 1) cl), (3, .pointer (some ⟨z.1, 0, none⟩)), (5, .pointer (some ⟨z.2.1, 0, none⟩)), (6, .pointer (some ⟨z.2.2, 0, none⟩)), (7, .bool false)]) (fun _ => g) (fun z => .obj z.1 (.cells [.int .i64 k, .bool b, .int .i64 n, str t, .slice ai items.length ci, .slice an names.length cn].toArray 29 (0, 0)) :: .obj z.2.1 (.cells [.int .i64 yk, .bool yb, .int .i64 yn, str yt, .slice yi yil yic, .slice ym yml ymc].toArray 29 (0, 0)) :: .obj z.2.2 (.cells [.int .i64 0, .bool false, .int .i64 0, .string ⟨#[]⟩, .slice none 0 0, .slice none 0 0].toArray 29 (0, 0)) :: L) ?_ ?_
      · dsimp only [ThenL]
        by_cases h4 : k = 4
        · have H4 := Hn.mk h4
          clear hX0 hY hS hSi hI hSn hs1 hld0 bk bn bt hnb IH w3 w4 hl hk HX A
          repeat' (first | refine wkQ ?_ | refine stS ?_ | (refine stB ?_; intro _) | fail)
          refine TQ.cut (_, _, _) ?_ rfl subA selF
          trivial
        · have H4 := Hn.mk h4
          have H5 := Hn.mk (hk.resolve_left h4)
          clear hX0 hY hS hSi hI hSn hs1 hld0 bk bn bt hnb IH w3 w4 hl hk HX A
          repeat' (first | refine wkQ ?_ | refine stS ?_ | (refine stB ?_; intro _) | fail)
          refine TQ.cut (_, _, _) ?_ rfl subA selF
          trivial
      · rintro ⟨b3, b5, b6⟩ _
        dsimp only
        refine TC.seq ?_
        refine TC.cutN [_, _] (fun z : PutS × Nat => g.le z.1.g ∧ IsV z.1.g (.mk k b n t items z.1.names) [.int .i64 k, .bool b, .int .i64 n, str t, .slice ai items.length ci, (.slice z.1.an z.1.names.length z.1.cn)] ∧ IsV z.1.g z.1.inner z.1.ics ∧ wfN m z.1.inner ∧ z.1.j ≤ items.length ∧ putD (s :: r) (.mk k b n t items names) y = (putD r z.1.inner y).map fun w => .mk k b n t (withI items z.1.j w) z.1.names) (fun z => [(1, .slice (some ⟨bs, os, none⟩) (r.length + 1) cl), (3, .pointer (some ⟨b3, 0, none⟩)), (5, .pointer (some ⟨b5, 0, none⟩)), (6, .pointer (some ⟨b6, 0, none⟩)), (7, .bool false), (8, .int .i64 (z.1.j : Nat)), (9, .pointer (some ⟨z.2, 0, none⟩))]) (fun z => z.1.g) (fun z => .obj b3 (.cells [.int .i64 k, .bool b, .int .i64 n, str t, .slice ai items.length ci, (.slice z.1.an z.1.names.length z.1.cn)].toArray 29 (0, 0)) :: .obj b5 (.cells [.int .i64 yk, .bool yb, .int .i64 yn, str yt, .slice yi yil yic, .slice ym yml ymc].toArray 29 (0, 0)) :: .obj b6 (.cells [.int .i64 0, .bool false, .int .i64 0, .string ⟨#[]⟩, .slice none 0 0, .slice none 0 0].toArray 29 (0, 0)) :: .obj z.2 (.cells z.1.ics.toArray 29 (0, 0)) :: L) ?_ ?_
        · dsimp only [ThenL]
          have hV0 := hk
          cases hat : atD k items names s with
          | some j =>
            have hV : atV k items names s = (j : Nat) := by unfold atV; rw [hat]
            rw [hV] at A
            obtain ⟨hjl, _⟩ := at_lt hat (fun e => (w3 e).1)
            obtain ⟨z0, hz0⟩ : ∃ z0, items[j]? = some z0 := ⟨_, List.getElem?_eq_getElem hjl⟩
            obtain ⟨cs', hV', hcl, hfl⟩ := hI.get hz0
            obtain ⟨b7, o7, rfl, hg7⟩ := hSi.elem hjl (by decide)
            obtain ⟨zk, zb, zn, zs, zi, zil, zic, zm, zml, zmc, rfl⟩ := hV'.form
            have hld3 : ∀ j2 u, ([.int .i64 zk, .bool zb, .int .i64 zn, str zs, .slice zi zil zic, .slice zm zml zmc] : List Value)[j2]? = some u → g.cell b7 (o7 + j * 6 + j2) = some u := fun j2 u hu => hg7 j2 u (hfl j2 u hu)
            have HV := Hn.mk hV'
            have HP := Hn.mk (show putD (s :: r) (.mk k b n t items names) y = (putD r z0 y).map fun w => .mk k b n t (withI items j w) names by
              rw [putD, if_pos hk, hat]
              dsimp only
              rw [hz0]
              dsimp only
              congr 1
              funext w
              unfold withI
              rw [if_neg (by omega)])
            have HW := Hn.mk ((w4 hk).get hz0)
            clear hX0 hY hS hSi hI hSn hs1 bk bn bt hnb IH w3 w4 hl hk hg7 hfl hV' hV hat hV0
            repeat' (first | refine wkQ ?_ | refine wkV ?_ | ((with_reducible apply TW.gives_plain); (· kernel_rfl); (· rfl); (· exact A _); (· rfl)) | refine stS ?_ | (refine stB ?_; intro _) | apply TC.region_draw (by kernel_rfl) (by kernel_rfl) | refine TW.nil ?_ | ((with_reducible apply TW.pure); (· exact yA); (· rfl)) | fail)
            refine TQ.cut (⟨g, an, cn, [.int .i64 zk, .bool zb, .int .i64 zn, str zs, .slice zi zil zic, .slice zm zml zmc], z0, j, names⟩, _) ?_ rfl subA selF
            exact ⟨.refl _, HX.out, HV.out, HW.out, by dsimp only; omega, HP.out⟩
          | none =>
            have hV : atV k items names s = -1 := by unfold atV; rw [hat]
            rw [hV] at A
            by_cases h4 : k = 4
            · have H4 := Hn.mk h4
              have h5 : k ≠ 5 := by omega
              have H5 := Hn.mk h5
              have I := fun L => rItem6_gives s g L hs0 (by omega)
              by_cases hi : itemD s = (items.length : Int)
              · rw [hi] at I
                have HP := Hn.mk (show putD (s :: r) (.mk k b n t items names) y = (putD r noneD y).map fun w => .mk k b n t (withI items items.length w) names by
                  rw [putD, if_pos hk, hat]
                  dsimp only
                  rw [if_neg (fun h => h.2 hi), if_neg h5]
                  congr 1
                  funext w
                  unfold withI
                  rw [if_pos rfl])
                have HE : Hn (((items.length : Nat) : Int) = (items.length : Nat)) := ⟨rfl⟩
                clear hX0 hY hS hSi hI hSn hs1 bk bn bt hnb IH w3 w4 hl hk hV hat hV0 hi h4 h5
                repeat' (first | refine wkQ ?_ | refine wkV ?_ | ((with_reducible apply TW.gives_plain); (· kernel_rfl); (· rfl); (· exact A _); (· rfl)) | ((with_reducible apply TL.gives_plain); (· kernel_rfl); (· rfl); (· exact I _); (· rfl)) | refine stS ?_ | (refine stB ?_; intro _) | apply TC.region_draw (by kernel_rfl) (by kernel_rfl) | refine TW.nil ?_ | ((with_reducible apply TW.pure); (· exact yA); (· rfl)) | fail)
                refine TQ.cut (⟨g, an, cn, [.int .i64 5, .bool false, .int .i64 0, .string ⟨#[]⟩, .slice none 0 0, .slice none 0 0], noneD, items.length, names⟩, _) ?_ rfl subA selF
                exact ⟨.refl _, HX.out, .noneD, wfN_noneD _, by dsimp only; omega, HP.out⟩
              · have HP := Hn.mk (show putD (s :: r) (.mk k b n t items names) y = none by
                  rw [putD, if_pos hk, hat]
                  dsimp only
                  rw [if_pos ⟨h4, hi⟩])
                have HE := Hn.mk hi
                clear hX0 hY hS hSi hI hSn hs1 bk bn bt hnb IH w3 w4 hl hk hV hat hV0 hi h4 h5
                repeat' (first | refine wkQ ?_ | refine wkV ?_ | ((with_reducible apply TW.gives_plain); (· kernel_rfl); (· rfl); (· exact A _); (· rfl)) | ((with_reducible apply TL.gives_plain); (· kernel_rfl); (· rfl); (· exact I _); (· rfl)) | refine stS ?_ | (refine stB ?_; intro _) | apply TC.region_draw (by kernel_rfl) (by kernel_rfl) | refine TW.nil ?_ | ((with_reducible apply TW.pure); (· exact yA); (· rfl)) | fail)
                refine TQ.endR2 (L' := L) Tryz.results109 rvA rvA rfl (.refl _) ?_ selF
                refine ⟨_, false, _, rfl, rfl, HX.out, ?_⟩
                rw [HP.out]
            · have h5 := hk.resolve_left h4
              have H4 := Hn.mk h4
              have H5 := Hn.mk h5
              have HP := Hn.mk (show putD (s :: r) (.mk k b n t items names) y = (putD r noneD y).map fun w => .mk k b n t (withI items items.length w) (names ++ [s]) by
                rw [putD, if_pos hk, hat]
                dsimp only
                rw [if_neg (fun h => h4 h.1), if_pos h5]
                congr 1
                funext w
                unfold withI
                rw [if_pos rfl])
              have hnl2 : names.length ≤ 10000 := by rw [(w3 h5).1]; omega
              have HN := Hn.mk (show ∀ x ∈ names ++ [s], x.length ≤ 9223372036854775807 from fun x hx => by
                rcases List.mem_append.1 hx with hx | hx
                · exact hnb x hx
                · rw [List.mem_singleton.1 hx]; omega)
              clear hX0 hY hS hSi hI hs1 bk bn bt hnb IH w3 w4 hl hk hV hat hV0 h4 h5
              repeat' (first | refine wkQ ?_ | refine wkV ?_ | ((with_reducible apply TW.gives_plain); (· kernel_rfl); (· rfl); (· exact A _); (· rfl)) | refine TC.region_sink 10 11 (_) (by kernel_rfl) (by decide +kernel) rfl selF ?_ | ((with_reducible apply TB.takeF 1); (· rfl); (· decide +kernel); (· rfl); (· first | (first | exact yQ | exact yA | exact yB | exact yM | exact yV) | fail); (· decide +kernel); (· decide +kernel); (· rfl); (· exact fun _ _ _ h => h); (· rfl)) | ((with_reducible apply TB.takeF 2); (· rfl); (· decide +kernel); (· rfl); (· first | (first | exact yQ | exact yA | exact yB | exact yM | exact yV) | fail); (· decide +kernel); (· decide +kernel); (· rfl); (· exact fun _ _ _ h => h); (· rfl)) | ((with_reducible apply TB.takeF 4); (· rfl); (· decide +kernel); (· rfl); (· first | (first | exact yQ | exact yA | exact yB | exact yM | exact yV) | fail); (· decide +kernel); (· decide +kernel); (· rfl); (· exact fun _ _ _ h => h); (· rfl)) | ((with_reducible apply TB.takeF 5); (· rfl); (· decide +kernel); (· rfl); (· first | (first | exact yQ | exact yA | exact yB | exact yM | exact yV) | fail); (· decide +kernel); (· decide +kernel); (· rfl); (· exact fun _ _ _ h => h); (· rfl)) | ((with_reducible apply TB.takeF 6); (· rfl); (· decide +kernel); (· rfl); (· first | (first | exact yQ | exact yA | exact yB | exact yM | exact yV) | fail); (· decide +kernel); (· decide +kernel); (· rfl); (· exact fun _ _ _ h => h); (· rfl)) | ((with_reducible apply TB.takeF 9); (· rfl); (· decide +kernel); (· rfl); (· first | (first | exact yQ | exact yA | exact yB | exact yM | exact yV) | fail); (· decide +kernel); (· decide +kernel); (· rfl); (· exact fun _ _ _ h => h); (· rfl)) | ((with_reducible apply TB.two 0 7); (· rfl); (· rfl); (· decide +kernel); (· rfl); (· rfl); intro hsk; rotate_left; intro hsk; rotate_left) | ((with_reducible apply TB.two 3 7); (· rfl); (· rfl); (· decide +kernel); (· rfl); (· rfl); intro hsk; rotate_left; intro hsk; rotate_left) | ((with_reducible apply TB.oneF 0); (· rfl); (· rfl); (· decide +kernel); (· rfl); intro hsk) | ((with_reducible apply TB.oneF 3); (· rfl); (· rfl); (· decide +kernel); (· rfl); intro hsk) | ((with_reducible apply TB.oneF 7); (· rfl); (· rfl); (· decide +kernel); (· rfl); intro hsk) | ((with_reducible apply TB.oneF 8); (· rfl); (· rfl); (· decide +kernel); (· rfl); intro hsk) | ((with_reducible apply TB.oneF 10); (· rfl); (· rfl); (· decide +kernel); (· rfl); intro hsk) | refine TQ.lastT (by decide +kernel) ?_ | refine TQ.anyT (by assumption) leF selF ?_ | (refine TL.build_empty (by rfl) (fun bb => ?_); refine TL.obj_row (b := bb) (k := 0) (sz := 1) .here rfl (by decide) ?_) | ((with_reducible apply TL.append (e := 9)); (· rfl); (· rfl); (· rfl); (· rfl); (· exact pkA); (· first | exact Src.obj pkA | exact Src.sl (by assumption) | exact Src.row pkA); (· first | rfl | exact (strs_len6 _).trans (Nat.mul_one _).symm); (· first | rfl | exact strs_one _); (· exact ⟨by unfold maxLen; omega, by omega⟩); (· rfl); intro vf; refine Go.TL.TL.row_slice (v := vf) pkA ?_; rintro a2 c2 rfl _; try rw [Nat.zero_add, List.nil_append]) | ((with_reducible apply TL.build_slice); (· rfl); (· rfl); (· exact oneA); (· rfl); (· rfl); (· rfl); intro _) | refine stS ?_ | (refine stB ?_; intro _) | apply TC.region_draw (by kernel_rfl) (by kernel_rfl) | refine TW.nil ?_ | ((with_reducible apply TW.pure); (· exact yA); (· rfl)) | fail)
              all_goals
                rw [show names.length + 1 = (names ++ [s]).length by simp]
                refine TQ.freeze (v := .slice a2 (names ++ [s]).length c2) pkA ?_
                intro g' hg' hsl
                refine TQ.cut (⟨g', a2, c2, [.int .i64 5, .bool false, .int .i64 0, .string ⟨#[]⟩, .slice none 0 0, .slice none 0 0], noneD, items.length, names ++ [s]⟩, _) ?_ rfl subA selF
                exact ⟨hg', HX.out.names hg' (by rw [strs_app]; exact hsl) (by rw [List.length_append, List.length_singleton]; omega) HN.out, .noneD, wfN_noneD _, by dsimp only; omega, HP.out⟩
        · rintro ⟨⟨g1, an1, cn1, ics, inner, j, names1⟩, b9⟩ ⟨hg1, hXz, hIn, hWi, hjl, hput⟩
          dsimp only at hg1 hXz hIn hWi hjl hput ⊢
          have B := fun L => IH inner y ics [.int .i64 yk, .bool yb, .int .i64 yn, str yt, .slice yi yil yic, .slice ym yml ymc] (.slice (some ⟨bs, os', none⟩) r.length (cl - 1)) m g1 L hIn (IsV.le hg1 _ _ hY) hWi hm (fun s hs => hl s (List.mem_cons_of_mem _ hs)) (by omega) (hs1.le hg1)
          unfold PutDR at B
          obtain ⟨zk, zb, zn, zs, zi, zil, zic, zm, zml, zmc, rfl⟩ := hIn.form
          have HO := Hn.mk hos
          have HXz := Hn.mk hXz
          rw [hput]
          cases hp : putD r inner y with
          | none =>
            rw [hp] at B
            dsimp only at B
            clear hX0 hY hS hSi hI hSn hs1 bk bn bt hnb IH w3 w4 hl hk hos hXz hIn hWi hput A hp
            repeat' (first | refine wkQ ?_ | (refine TL.call (Enters.plain (by kernel_rfl) (by rfl)) (by rfl) (B _) ?_; (rintro e g3 Ln h3 ⟨cz, bz, zz, k1, k2, hz, hm⟩; have k2 := k2.symm; subst k1; subst k2; obtain ⟨qk, qb, qn, qs, qi, qil, qic, qm, qml, qmc, rfl⟩ := hz.form; (obtain rfl := hm); have HZ := Hn.mk hz; clear hz; refine CallK.ret ?_)) | ((with_reducible apply TA.two 4 8); (· rfl); (· rfl); (· decide +kernel); (· rfl); (· rfl)) | ((with_reducible apply TA.takeF 0); (· rfl); (· decide +kernel); (· rfl); (· first | (first | exact yQ | exact yA | exact yB | exact yM | exact yV) | exact Y.slice_from rfl rfl (show (1 : Int) = (1 : Nat) from rfl) (by omega) hcs HO.out); (· decide +kernel); (· decide +kernel); (· rfl); (· exact fun _ _ _ h => h); (· rfl)) | ((with_reducible apply TA.takeF 1); (· rfl); (· decide +kernel); (· rfl); (· first | (first | exact yQ | exact yA | exact yB | exact yM | exact yV) | exact Y.slice_from rfl rfl (show (1 : Int) = (1 : Nat) from rfl) (by omega) hcs HO.out); (· decide +kernel); (· decide +kernel); (· rfl); (· exact fun _ _ _ h => h); (· rfl)) | ((with_reducible apply TA.takeF 2); (· rfl); (· decide +kernel); (· rfl); (· first | (first | exact yQ | exact yA | exact yB | exact yM | exact yV) | exact Y.slice_from rfl rfl (show (1 : Int) = (1 : Nat) from rfl) (by omega) hcs HO.out); (· decide +kernel); (· decide +kernel); (· rfl); (· exact fun _ _ _ h => h); (· rfl)) | ((with_reducible apply TA.takeF 3); (· rfl); (· decide +kernel); (· rfl); (· first | (first | exact yQ | exact yA | exact yB | exact yM | exact yV) | exact Y.slice_from rfl rfl (show (1 : Int) = (1 : Nat) from rfl) (by omega) hcs HO.out); (· decide +kernel); (· decide +kernel); (· rfl); (· exact fun _ _ _ h => h); (· rfl)) | ((with_reducible apply TA.takeF 5); (· rfl); (· decide +kernel); (· rfl); (· first | (first | exact yQ | exact yA | exact yB | exact yM | exact yV) | exact Y.slice_from rfl rfl (show (1 : Int) = (1 : Nat) from rfl) (by omega) hcs HO.out); (· decide +kernel); (· decide +kernel); (· rfl); (· exact fun _ _ _ h => h); (· rfl)) | ((with_reducible apply TA.takeF 6); (· rfl); (· decide +kernel); (· rfl); (· first | (first | exact yQ | exact yA | exact yB | exact yM | exact yV) | exact Y.slice_from rfl rfl (show (1 : Int) = (1 : Nat) from rfl) (by omega) hcs HO.out); (· decide +kernel); (· decide +kernel); (· rfl); (· exact fun _ _ _ h => h); (· rfl)) | ((with_reducible apply TA.takeF 7); (· rfl); (· decide +kernel); (· rfl); (· first | (first | exact yQ | exact yA | exact yB | exact yM | exact yV) | exact Y.slice_from rfl rfl (show (1 : Int) = (1 : Nat) from rfl) (by omega) hcs HO.out); (· decide +kernel); (· decide +kernel); (· rfl); (· exact fun _ _ _ h => h); (· rfl)) | ((with_reducible apply TA.takeF 10); (· rfl); (· decide +kernel); (· rfl); (· first | (first | exact yQ | exact yA | exact yB | exact yM | exact yV) | exact Y.slice_from rfl rfl (show (1 : Int) = (1 : Nat) from rfl) (by omega) hcs HO.out); (· decide +kernel); (· decide +kernel); (· rfl); (· exact fun _ _ _ h => h); (· rfl)) | ((with_reducible apply TA.oneF 4); (· rfl); (· rfl); (· decide +kernel); (· rfl)) | ((with_reducible apply TA.oneF 8); (· rfl); (· rfl); (· decide +kernel); (· rfl)) | ((with_reducible apply TA.oneF 9); (· rfl); (· rfl); (· decide +kernel); (· rfl)) | refine TQ.any leF selF ?_ | refine TC.region_any 11 (_) (by kernel_rfl) rfl selF ?_ | refine TA.done (by decide +kernel) ?_ | refine stS ?_ | (refine stB ?_; intro _) | fail)
            all_goals
              refine TQ.endR2 (L' := L) Tryz.results109 rvA rvA rfl (hg1.trans h3) ?_ selF
              exact ⟨_, false, _, rfl, rfl, IsV.le h3 _ _ HXz.out, rfl⟩
          | some w =>
            rw [hp] at B
            dsimp only at B
            have WI := fun (g2 : Gh) (h : g1.le g2) (cw : List Value) (hw : IsV g2 w cw) L => rwith6_does k b n t items names1 _ w cw j g2 L (IsV.le h _ _ hXz) hw hjl (by omega)
            clear hX0 hY hS hSi hI hSn hs1 bk bn bt hnb IH w3 w4 hl hk hos hXz hIn hWi hput A hp
            repeat' (first | refine wkQ ?_ | (refine TL.call (Enters.plain (by kernel_rfl) (by rfl)) (by rfl) (B _) ?_; (rintro e g3 Ln h3 ⟨cz, bz, zz, k1, k2, hz, hm⟩; have k2 := k2.symm; subst k1; subst k2; obtain ⟨qk, qb, qn, qs, qi, qil, qic, qm, qml, qmc, rfl⟩ := hz.form; (obtain ⟨rfl, rfl⟩ := hm; have W1 := WI g3 h3 _ hz); have HZ := Hn.mk hz; clear hz; refine CallK.ret ?_)) | (refine TL.call (Enters.plain (by kernel_rfl) (by rfl)) (by rfl) (W1 _) ?_; (rintro e g2 Ln h2 ⟨cz2, k1, k2, hz2⟩; have k2 := k2.symm; subst k1; subst k2; obtain ⟨rk, rb, rn, rs, ri, ril, ric, rm, rml, rmc, rfl⟩ := hz2.form; have HZ2 := Hn.mk hz2; clear hz2; refine CallK.ret ?_)) | ((with_reducible apply TA.two 4 8); (· rfl); (· rfl); (· decide +kernel); (· rfl); (· rfl)) | ((with_reducible apply TA.takeF 0); (· rfl); (· decide +kernel); (· rfl); (· first | (first | exact yQ | exact yA | exact yB | exact yM | exact yV) | exact Y.slice_from rfl rfl (show (1 : Int) = (1 : Nat) from rfl) (by omega) hcs HO.out); (· decide +kernel); (· decide +kernel); (· rfl); (· exact fun _ _ _ h => h); (· rfl)) | ((with_reducible apply TA.takeF 1); (· rfl); (· decide +kernel); (· rfl); (· first | (first | exact yQ | exact yA | exact yB | exact yM | exact yV) | exact Y.slice_from rfl rfl (show (1 : Int) = (1 : Nat) from rfl) (by omega) hcs HO.out); (· decide +kernel); (· decide +kernel); (· rfl); (· exact fun _ _ _ h => h); (· rfl)) | ((with_reducible apply TA.takeF 2); (· rfl); (· decide +kernel); (· rfl); (· first | (first | exact yQ | exact yA | exact yB | exact yM | exact yV) | exact Y.slice_from rfl rfl (show (1 : Int) = (1 : Nat) from rfl) (by omega) hcs HO.out); (· decide +kernel); (· decide +kernel); (· rfl); (· exact fun _ _ _ h => h); (· rfl)) | ((with_reducible apply TA.takeF 3); (· rfl); (· decide +kernel); (· rfl); (· first | (first | exact yQ | exact yA | exact yB | exact yM | exact yV) | exact Y.slice_from rfl rfl (show (1 : Int) = (1 : Nat) from rfl) (by omega) hcs HO.out); (· decide +kernel); (· decide +kernel); (· rfl); (· exact fun _ _ _ h => h); (· rfl)) | ((with_reducible apply TA.takeF 5); (· rfl); (· decide +kernel); (· rfl); (· first | (first | exact yQ | exact yA | exact yB | exact yM | exact yV) | exact Y.slice_from rfl rfl (show (1 : Int) = (1 : Nat) from rfl) (by omega) hcs HO.out); (· decide +kernel); (· decide +kernel); (· rfl); (· exact fun _ _ _ h => h); (· rfl)) | ((with_reducible apply TA.takeF 6); (· rfl); (· decide +kernel); (· rfl); (· first | (first | exact yQ | exact yA | exact yB | exact yM | exact yV) | exact Y.slice_from rfl rfl (show (1 : Int) = (1 : Nat) from rfl) (by omega) hcs HO.out); (· decide +kernel); (· decide +kernel); (· rfl); (· exact fun _ _ _ h => h); (· rfl)) | ((with_reducible apply TA.takeF 7); (· rfl); (· decide +kernel); (· rfl); (· first | (first | exact yQ | exact yA | exact yB | exact yM | exact yV) | exact Y.slice_from rfl rfl (show (1 : Int) = (1 : Nat) from rfl) (by omega) hcs HO.out); (· decide +kernel); (· decide +kernel); (· rfl); (· exact fun _ _ _ h => h); (· rfl)) | ((with_reducible apply TA.takeF 10); (· rfl); (· decide +kernel); (· rfl); (· first | (first | exact yQ | exact yA | exact yB | exact yM | exact yV) | exact Y.slice_from rfl rfl (show (1 : Int) = (1 : Nat) from rfl) (by omega) hcs HO.out); (· decide +kernel); (· decide +kernel); (· rfl); (· exact fun _ _ _ h => h); (· rfl)) | ((with_reducible apply TA.oneF 4); (· rfl); (· rfl); (· decide +kernel); (· rfl)) | ((with_reducible apply TA.oneF 8); (· rfl); (· rfl); (· decide +kernel); (· rfl)) | ((with_reducible apply TA.oneF 9); (· rfl); (· rfl); (· decide +kernel); (· rfl)) | refine TQ.any leF selF ?_ | refine TC.region_any 11 (_) (by kernel_rfl) rfl selF ?_ | refine TA.done (by decide +kernel) ?_ | refine stS ?_ | (refine stB ?_; intro _) | fail)
            all_goals
              refine TQ.endR2 (L' := L) Tryz.results109 rvA rvA rfl (hg1.trans (h3.trans h2)) ?_ selF
              exact ⟨_, true, _, rfl, rfl, HZ2.out, rfl, rfl⟩
    · rw [putD, if_neg hk]
      have hk4 : Hn (¬ k = 4) := ⟨fun e => hk (.inl e)⟩
      have hk5 : Hn (¬ k = 5) := ⟨fun e => hk (.inr e)⟩
      have HX := Hn.mk hX0
      clear hX0 hY hS hSi hI hSn hs1 hld0 bk bn bt hnb IH w3 w4 hl
      repeat' (first | refine wkQ ?_ | refine stS ?_ | (refine stB ?_; intro _) | fail)
      refine TQ.endR2 (L' := L) Tryz.results109 rvA rvA rfl (.refl _) ?_ selF
      exact ⟨_, false, _, rfl, rfl, HX.out, rfl⟩
end Go.Proofs.YthngolfabfijpaaGreatDoor
