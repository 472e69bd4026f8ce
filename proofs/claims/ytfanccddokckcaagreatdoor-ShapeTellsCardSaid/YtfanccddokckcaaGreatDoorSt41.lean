/-
  The document's Tell, walked. The document's Tell, walked: polygons; all of it.
-/
import Derived.Test.YtfanccddokckcaaGreatDoorSt2
import Derived.Test.YtfanccddokckcaaGreatDoorSt40
namespace Go.Proofs.YtfanccddokckcaaGreatDoor
open Go.RowKit Go.TL
set_option maxRecDepth 100000

def closeD (q : List Pt) : DV := toldD (q ++ [q.headD (0, 0)])
def whereD (k : Int) (ps : List (List Pt)) : DV := if k = 0 then ptD (headS ps) else if k = 1 then toldD (ps.headD []) else .mk 4 false 0 [] (ps.map closeD) []
def tellD (k : Int) (ps : List (List Pt)) : DV := .mk 5 false 0 [] [.mk 3 false 0 (kindN k) [] [], whereD k ps] [typeB, coordB]
theorem toJ_pt (p : Pt) : toJ (ptD p) = ptJ p := by
  unfold ptD numD ptJ
  rw [toJ_eq]
  simp [toJ_eq]
theorem toJ_told (l : List Pt) : toJ (toldD l) = toldJ l := by
  unfold toldD toldJ
  rw [toJ_eq]
  simp [toJ_pt]
theorem toJ_close (q : List Pt) : toJ (closeD q) = closeJ q := toJ_told _
theorem toJ_where (k : Int) (ps : List (List Pt)) : toJ (whereD k ps) = whereJ k ps := by
  unfold whereD whereJ
  split
  · exact toJ_pt _
  · split
    · exact toJ_told _
    · rw [toJ_eq]
      simp [toJ_close]
theorem toJ_tell (k : Int) (ps : List (List Pt)) : toJ (tellD k ps) = tellJ k ps := by
  unfold tellD tellJ
  rw [toJ_eq]
  simp [toJ_where]
  rw [toJ_eq]; rfl
theorem told_is {g : Gh} {l : List Pt} {sl : Value} {fl : List Value} (_hl : l.length ≤ 1000000) (h : Sl g sl l.length 6 fl) (hI : IsVs g (l.map ptD) fl) : IsV g (toldD l) (tvC sl) := by
  unfold toldD
  rw [IsV]
  exact ⟨_, _, fl, rfl, by decide, by decide, by simp, by rw [List.length_map]; exact h, by rw [List.length_map]; omega, hI, Sl.nil, by simp, by simp⟩
theorem kindN_len (k : Int) : (kindN k).length ≤ 100 := by unfold kindN; split; decide; split <;> decide
theorem tell_isV {g : Gh} {k : Int} {ps : List (List Pt)} {bn bi : Nat} {cw : List Value} (hn : Sl g (.slice (some ⟨bn, 0, none⟩) 2 2) 2 1 [str typeB, str coordB]) (hi : Sl g (.slice (some ⟨bi, 0, none⟩) 2 2) 2 6 ([.int .i64 3, .bool false, .int .i64 0, str (kindN k), .slice none 0 0, .slice none 0 0] ++ cw)) (hw : IsV g (whereD k ps) cw) :
    IsV g (tellD k ps) [.int .i64 5, .bool false, .int .i64 0, str [], .slice (some ⟨bi, 0, none⟩) 2 2, .slice (some ⟨bn, 0, none⟩) 2 2] := by
  unfold tellD
  rw [IsV]
  have hk := kindN_len k
  refine ⟨_, _, _, rfl, by decide, by decide, by simp, hi, by simp, ?_, hn, by simp, ?_⟩
  · rw [IsVs]
    refine ⟨_, cw, rfl, ?_, ?_⟩
    · rw [IsV]
      exact ⟨_, _, [], rfl, by decide, by decide, by omega, Sl.nil, by simp, by rw [IsVs], Sl.nil, by simp, by simp⟩
    · rw [IsVs]
      exact ⟨cw, [], by simp, hw, by rw [IsVs]⟩
  · intro x hx
    simp only [List.mem_cons, List.not_mem_nil, or_false] at hx
    rcases hx with rfl | rfl <;> decide
def TellDR (k : Int) (ps : List (List Pt)) (L : List Ent) : Ending → Gh → List Ent → Prop := fun e g' L1 => ∃ cs, e = .returned (.agg cs.toArray) ∧ L1 = L ∧ IsV g' (tellD k ps) cs
set_option maxHeartbeats 32000000 in
theorem rTell9_line (ps : List (List Pt)) (v : Value) (g : Gh) (L : List Ent) (hS : IsParts g v ps) (hO : ShOk ps) (hr : rightB 1 ps = true) : Does Tryz.prog 31 #[shV 1 v] g L (TellDR 1 ps L) := by
  refine Does.of1 Tryz.func31 rfl Tryz.ntmps31 rfl ?_
  obtain ⟨b, o, cap, q, u, rfl, hps, hq0, hqd, hql, hqm, hld, hSu⟩ := first_part hr hS
  have hqs := hO.part q (List.mem_of_getElem? hq0)
  have TO := fun L => rtold9_does q u g L hSu hqs hqm
  obtain ⟨au, cu, rfl⟩ := hSu.slice
  clear hSu hS
  repeat' (first
    | refine wkQ ?_
    | refine wkV ?_
    | (refine TL.call (Enters.plain (by kernel_rfl) (by rfl)) (by rfl) (TO _) ?_; (rintro e g1 Ln h1 ⟨sl, ft, k1, k2, k3, k4⟩; have k2 := k2.symm; subst k1; subst k2; obtain ⟨at4, ct4, rfl⟩ := k3.slice; have K3 := Hn.mk (told_is hqs k3 k4); clear k3 k4; refine CallK.ret ?_))
    | (refine TL.build_slice (d := 56) (by rfl) (by rfl) (by exact oneA) (by rfl) (by rfl) (by rfl) (fun bb => ?_); refine TL.freeze_obj (k := 2) bb 1 .here rfl (by decide) ?_; rintro gn hn sn)
    | (refine TL.build_rows (d := 60) (len := 2) (sz := 6) [[.int .i64 3, .bool false, .int .i64 0, str lineB, .slice none 0 0, .slice none 0 0], tvC (.slice at4 q.length ct4)] (by rfl) (by rfl) (by rfl) (by rfl) (by rfl) (by rfl) (by rfl) (by rfl) (fun bb => ?_); refine TL.freeze_obj (k := 2) bb 6 .here rfl (by decide) ?_; rintro gm hm2 sm)
    | refine stS ?_ | (refine stB ?_; intro _) | (refine stC ?_; refine And.intro (fun _ => ?_) (fun _ => ?_)))
  refine TQ.endR1 (L' := L) Tryz.results31 rvA rfl (h1.trans (hn.trans hm2)) ?_ selF
  refine ⟨_, rfl, rfl, tell_isV (sn.le hm2) sm ?_⟩
  unfold whereD
  rw [if_neg (by decide), if_pos rfl, hqd]
  exact K3.out.le (hn.trans hm2)
set_option maxHeartbeats 32000000 in
theorem rTell9_point (ps : List (List Pt)) (v : Value) (g : Gh) (L : List Ent) (hS : IsParts g v ps) (hO : ShOk ps) (hr : rightB 0 ps = true) : Does Tryz.prog 31 #[shV 0 v] g L (TellDR 0 ps L) := by
  refine Does.of1 Tryz.func31 rfl Tryz.ntmps31 rfl ?_
  obtain ⟨b, o, cap, q, u, rfl, hps, hq0, hqd, hql, hqm, hld, hSu⟩ := first_part hr hS
  have hqs := hO.part q (List.mem_of_getElem? hq0)
  have TO := fun L => rtold9_does q u g L hSu hqs hqm
  obtain ⟨au, cu, rfl⟩ := hSu.slice
  obtain ⟨p, hp⟩ : ∃ p, q[0]? = some p := ⟨_, List.getElem?_eq_getElem hql⟩
  have hhd : headS ps = p := headS_get hq0 hp
  clear hSu hS
  repeat' (first
    | refine wkQ ?_
    | refine wkV ?_
    | (refine TL.call (Enters.plain (by kernel_rfl) (by rfl)) (by rfl) (TO _) ?_; (rintro e g1 Ln h1 ⟨sl, ft, k1, k2, k3, k4⟩; have k2 := k2.symm; subst k1; subst k2; obtain ⟨at4, ct4, rfl⟩ := k3.slice; obtain ⟨b8, o8, rfl, hg8⟩ := k3.elem (i := 0) hql (by decide); obtain ⟨cp, hcp, hl6, hcc⟩ := k4.get (show (q.map ptD)[0]? = some (ptD p) by rw [List.getElem?_map, hp]; rfl); have hcp2 := hcp; unfold ptD at hcp2; obtain ⟨a9, c9, a8, c8, rfl⟩ := isV_six hcp2; have hld2 : ∀ j u, ([.int .i64 4, .bool false, .int .i64 0, str [], .slice a9 [numD p.1, numD p.2].length c9, .slice a8 ([] : List (List UInt8)).length c8] : List Value)[j]? = some u → g1.cell b8 (o8 + 0 * 6 + j) = some u := (fun j u hu => hg8 j u (hcc j u hu)); have K3 := Hn.mk hcp; clear k3 k4 hcp hcp2 hg8 hcc; refine CallK.ret ?_))
    | (refine TL.build_slice (d := 56) (by rfl) (by rfl) (by exact oneA) (by rfl) (by rfl) (by rfl) (fun bb => ?_); refine TL.freeze_obj (k := 2) bb 1 .here rfl (by decide) ?_; rintro gn hn sn)
    | (refine TL.build_rows (d := 60) (len := 2) (sz := 6) [[.int .i64 3, .bool false, .int .i64 0, str pointB, .slice none 0 0, .slice none 0 0], [.int .i64 4, .bool false, .int .i64 0, str [], .slice a9 [numD p.1, numD p.2].length c9, .slice a8 ([] : List (List UInt8)).length c8]] (by rfl) (by rfl) (by rfl) (by rfl) (by rfl) (by rfl) (by rfl) (by rfl) (fun bb => ?_); refine TL.freeze_obj (k := 2) bb 6 .here rfl (by decide) ?_; rintro gm hm2 sm)
    | refine stS ?_ | (refine stB ?_; intro _) | (refine stC ?_; refine And.intro (fun _ => ?_) (fun _ => ?_)))
  refine TQ.endR1 (L' := L) Tryz.results31 rvA rfl (h1.trans (hn.trans hm2)) ?_ selF
  refine ⟨_, rfl, rfl, tell_isV (sn.le hm2) sm ?_⟩
  unfold whereD
  rw [if_pos rfl, hhd]
  exact K3.out.le (hn.trans hm2)
end Go.Proofs.YtfanccddokckcaaGreatDoor
namespace Go.Proofs.YtfanccddokckcaaGreatDoor
open Go.RowKit Go.TL
set_option maxRecDepth 100000

structure TpS where
  i : Nat
  fl : List Value
  v : Value
  g : Gh
structure TpI (ps : List (List Pt)) (g : Gh) (x : TpS) : Prop where
  le : x.i ≤ ps.length
  fll : x.fl.length = x.i * 6
  hg : g.le x.g
  is : IsVs x.g ((ps.take x.i).map closeD) x.fl
set_option maxHeartbeats 64000000 in
theorem rTell9_poly (ps : List (List Pt)) (v : Value) (g : Gh) (L : List Ent) (hS : IsParts g v ps) (hO : ShOk ps) (hs : ∀ q ∈ ps, q.length ≤ 10000) (hr : rightB 2 ps = true) : Does Tryz.prog 31 #[shV 2 v] g L (TellDR 2 ps L) := by
  refine Does.of1 Tryz.func31 rfl Tryz.ntmps31 rfl ?_
  have hp := rtP_of hr
  have hS2 := hS
  obtain ⟨b, o, cap, q, u, rfl, hps, hq0, hqd, hql, hqm, hld, hSu⟩ := first_part hr hS
  have hqs := hO.part q (List.mem_of_getElem? hq0)
  have TO := fun L => rtold9_does q u g L hSu hqs hqm
  obtain ⟨au, cu, rfl⟩ := hSu.slice
  obtain ⟨flp, hSl, hpt⟩ := hS2
  have HS := Hn.mk hSl
  have HP := Hn.mk hpt
  have hpl := hO.len
  have HMAY := Hn.mk hp.may
  have HNE := Hn.mk hp.nep
  clear hSu hS hSl hpt hp
  refine TC.row_nil 25 6 ?_
  repeat' (first
    | refine wkQ ?_
    | refine wkV ?_
    | (refine TL.call (Enters.plain (by kernel_rfl) (by rfl)) (by rfl) (TO _) ?_; (rintro e g1 Ln h1 ⟨sl, ft, k1, k2, k3, k4⟩; have k2 := k2.symm; subst k1; subst k2; obtain ⟨at4, ct4, rfl⟩ := k3.slice; clear k3 k4; refine CallK.ret ?_))
    | refine stS ?_ | (refine stB ?_; intro _) | (refine stC ?_; refine And.intro (fun _ => ?_) (fun _ => ?_)))
  rename_i b1 b2 b4
  clear hld TO hq0 hqd hql hqm hqs
  refine TC.loop (TpI ps g) (fun x => ps.length - x.i) (fun x => [(5, .int .i64 (x.i : Nat)), (4, .pointer (some ⟨b4, 0, none⟩)), (3, str polyB), (2, .pointer (some ⟨b2, 0, none⟩)), (1, .pointer (some ⟨b1, 0, none⟩))]) (fun x => x.g) (fun x => .obj b4 (.cells (tvC x.v).toArray 25 (0, 0)) :: .row 25 6 x.v x.i x.fl :: .obj b2 (.cells [.int .i64 0, .bool false, .int .i64 0, .string ⟨#[]⟩, .slice none 0 0, .slice none 0 0].toArray 25 (0, 0)) :: .obj b1 (.cells [.int .i64 2, .slice (some ⟨b, o, none⟩) ps.length cap].toArray 36 (0, 0)) :: L) ⟨0, [], .slice none 0 0, g1⟩ ⟨Nat.zero_le _, rfl, h1, by rw [List.take_zero, List.map_nil, IsVs]⟩ rfl subA selF ?_
  rintro ⟨i, fl, v, gx⟩ ⟨hi, hfl, hgx, hI⟩
  dsimp only at hi hfl hgx hI ⊢
  refine TC.row_slice (v := v) (.there .here) ?_
  rintro av cv rfl _
  by_cases hlt : i < ps.length
  · obtain ⟨q, hq⟩ : ∃ q, ps[i]? = some q := ⟨_, List.getElem?_eq_getElem hlt⟩
    obtain ⟨u, hu, hSu'⟩ := HP.out i q hq
    obtain ⟨b5, o5, he, hg⟩ := HS.out.elem hlt (by decide)
    obtain ⟨rfl, rfl⟩ : b = b5 ∧ o = o5 := by simpa using he
    have hld : gx.cell b (o + i * 1) = some u := hgx.cell (hg 0 _ (by rw [Nat.mul_one]; exact hu))
    have hSu := hSu'.le hgx
    have hqn := HNE.out q (List.mem_of_getElem? hq)
    have hql : 0 < q.length := List.length_pos_iff.2 hqn
    have hqm := HMAY.out q (List.mem_of_getElem? hq)
    have hq1 := hs q (List.mem_of_getElem? hq)
    obtain ⟨p, hp⟩ : ∃ p, q[0]? = some p := ⟨_, List.getElem?_eq_getElem hql⟩
    have hhd : q.headD (0, 0) = p := by cases q with
      | nil => simp at hql
      | cons a r => simpa using hp
    obtain ⟨au, cu, rfl⟩ := hSu.slice
    obtain ⟨b6, o6, rfl, hg6⟩ := hSu.elem (i := 0) hql (by decide)
    have hldp := pt_cells hg6 (flatP_get hp).1 (flatP_get hp).2
    have hll : [Value.int .i64 p.1, .int .i64 p.2].length = 2 := rfl
    have hpm : mayB p = true := List.all_eq_true.1 hqm _ (List.mem_of_getElem? hp)
    have hcm : (q ++ [p]).all mayB = true := by rw [List.all_append, hqm, List.all_cons, hpm]; rfl
    have hlast : (ps.take (i + 1)).map closeD = (ps.take i).map closeD ++ [toldD (q ++ [p])] := by
      rw [List.take_add_one, hq, List.map_append]
      show (ps.take i).map closeD ++ [closeD q] = _
      unfold closeD
      rw [hhd]
    have HL := Hn.mk hlast
    have HI := Hn.mk hI
    have hcl : (q ++ [p]).length = q.length + 1 := by simp
    clear hg he hu hSu' hg6 hlast hI hhd hp hq hqn hs HNE HMAY HP HS
    repeat' (first
    | refine wkQ ?_
    | refine wkV ?_
    | refine stS ?_ | (refine stB ?_; intro _) | (refine stC ?_; refine And.intro (fun _ => ?_) (fun _ => ?_)))
    refine TC.cutN [] (fun z : Value × Gh => gx.le z.2 ∧ Sl z.2 z.1 (q ++ [p]).length 2 (flatP (q ++ [p]))) (fun z => [(6, z.1), (5, .int .i64 (i : Nat)), (4, .pointer (some ⟨b4, 0, none⟩)), (3, str polyB), (2, .pointer (some ⟨b2, 0, none⟩)), (1, .pointer (some ⟨b1, 0, none⟩))]) (fun z => z.2) (fun _ => .obj b4 (.cells (tvC (.slice av i cv)).toArray 25 (0, 0)) :: .row 25 6 (.slice av i cv) i fl :: .obj b2 (.cells [.int .i64 0, .bool false, .int .i64 0, .string ⟨#[]⟩, .slice none 0 0, .slice none 0 0].toArray 25 (0, 0)) :: .obj b1 (.cells [.int .i64 2, .slice (some ⟨b, o, none⟩) ps.length cap].toArray 36 (0, 0)) :: L) ?_ ?_
    · dsimp only [ThenL]
      repeat' (first
    | refine wkQ ?_
    | refine wkV ?_
    | ((with_reducible apply TL.pure); (· exact yM); (· rfl)) | ((with_reducible apply TW.pure); (· exact yM); (· rfl))
    | (refine TL.build_empty (d := 33) (by rfl) (fun bb => ?_); refine TL.obj_row (e := 50) (b := bb) (k := 0) (sz := 2) .here rfl (by decide) ?_)
    | ((with_reducible apply TL.append (d := 39)); (· rfl); (· rfl); (· rfl); (· rfl); (· exact pkA); (· exact Src.sl hSu); (· exact (flatP_len q)); (· exact (flatP_ones q)); (· exact ⟨by unfold maxLen; omega, by omega⟩); (· rfl); intro vf; refine Go.TL.TL.row_slice (v := vf) pkA ?_; rintro a3 c3 rfl _)
    | ((with_reducible apply TL.build_slice); (· rfl); (· rfl); (· exact oneA); (· rfl); (· rfl); (· rfl); intro _) | refine TL.build_one (by rfl) (by first | rfl | assumption) (by rfl) (by rfl) (by rfl) (by rfl) (fun _ => ?_) | refine TL.build_empty (by rfl) (fun _ => ?_)
    | ((with_reducible apply TL.append (e := 50)); (· rfl); (· rfl); (· rfl); (· rfl); (· exact pkA); (· first | exact Src.obj pkA | exact Src.sl (by assumption) | exact Src.row pkA); (· first | rfl | exact (byteVals_length _).trans (Nat.mul_one _).symm); (· first | exact byteVals_all _ | exact oneA); (· exact ⟨by unfold maxLen; omega, by omega⟩); (· rfl); intro vf; refine Go.TL.TL.row_slice (v := vf) pkA ?_; rintro a6 c6 rfl _)
    | refine stS ?_ | (refine stB ?_; intro _) | (refine stC ?_; refine And.intro (fun _ => ?_) (fun _ => ?_))
    | ((with_reducible apply TA.two 0 14); (· rfl); (· rfl); (· decide +kernel); (· rfl); (· rfl))
    | ((with_reducible apply TA.two 6 14); (· rfl); (· rfl); (· decide +kernel); (· rfl); (· rfl))
    | ((with_reducible apply TA.takeN 0); (· rfl); (· decide +kernel); (· rfl); (· first | fail | (first | exact yQ | exact yA | exact yB | exact yM | exact yV)); (· decide +kernel); (· decide +kernel); (· rfl); (· exact fun _ _ _ h => h); (· rfl))
    | ((with_reducible apply TA.takeN 1); (· rfl); (· decide +kernel); (· rfl); (· first | fail | (first | exact yQ | exact yA | exact yB | exact yM | exact yV)); (· decide +kernel); (· decide +kernel); (· rfl); (· exact fun _ _ _ h => h); (· rfl))
    | ((with_reducible apply TA.takeN 2); (· rfl); (· decide +kernel); (· rfl); (· first | fail | (first | exact yQ | exact yA | exact yB | exact yM | exact yV)); (· decide +kernel); (· decide +kernel); (· rfl); (· exact fun _ _ _ h => h); (· rfl))
    | ((with_reducible apply TA.takeN 3); (· rfl); (· decide +kernel); (· rfl); (· first | fail | (first | exact yQ | exact yA | exact yB | exact yM | exact yV)); (· decide +kernel); (· decide +kernel); (· rfl); (· exact fun _ _ _ h => h); (· rfl))
    | ((with_reducible apply TA.take_gN 0); (· rfl); (· decide +kernel); (· rfl); (· rfl); (· rfl); (· (first | fail | (first | exact yQ | exact yA | exact yB | exact yM | exact yV))); (· decide +kernel); (· decide +kernel); (· rfl); (· exact fun _ _ _ h => h); (· rfl))
    | ((with_reducible apply TA.take_gN 1); (· rfl); (· decide +kernel); (· rfl); (· rfl); (· rfl); (· (first | fail | (first | exact yQ | exact yA | exact yB | exact yM | exact yV))); (· decide +kernel); (· decide +kernel); (· rfl); (· exact fun _ _ _ h => h); (· rfl))
    | ((with_reducible apply TA.take_gN 2); (· rfl); (· decide +kernel); (· rfl); (· rfl); (· rfl); (· (first | fail | (first | exact yQ | exact yA | exact yB | exact yM | exact yV))); (· decide +kernel); (· decide +kernel); (· rfl); (· exact fun _ _ _ h => h); (· rfl))
    | ((with_reducible apply TA.take_gN 3); (· rfl); (· decide +kernel); (· rfl); (· rfl); (· rfl); (· (first | fail | (first | exact yQ | exact yA | exact yB | exact yM | exact yV))); (· decide +kernel); (· decide +kernel); (· rfl); (· exact fun _ _ _ h => h); (· rfl))
    | refine wkX0 ?_
    | refine wkX1 ?_
    | refine wkX2 ?_
    | refine wkX3 ?_
    | ((with_reducible apply TA.oneN 0); (· rfl); (· rfl); (· decide +kernel); (· rfl))
    | ((with_reducible apply TA.oneN 1); (· rfl); (· rfl); (· decide +kernel); (· rfl))
    | ((with_reducible apply TA.oneN 2); (· rfl); (· rfl); (· decide +kernel); (· rfl))
    | ((with_reducible apply TA.oneN 3); (· rfl); (· rfl); (· decide +kernel); (· rfl))
    | refine TQ.any leF selF ?_
    | refine TC.region_any 17 (.obj b1 (.cells [.int .i64 2, .slice (some ⟨b, o, none⟩) ps.length cap].toArray 36 (0, 0)) :: L) (by kernel_rfl) rfl selF ?_ | refine TA.done (by decide +kernel) ?_ | refine TQ.any_panic ?_)
      all_goals
        rw [show 0 + q.length + 1 = (q ++ [p]).length by simp, show [] ++ flatP q ++ [Value.int .i64 p.1, .int .i64 p.2] = flatP (q ++ [p]) by rw [flatP_snoc]; rfl]
        refine TQ.freeze (v := .slice a6 (q ++ [p]).length c6) pkA fun g2 hg2 HS2 => ?_
        refine TQ.cut (.slice a6 (q ++ [p]).length c6, g2) ?_ rfl subA selF
        exact ⟨hg2, HS2⟩
    rintro ⟨w, g2⟩ ⟨hg2, hw⟩
    dsimp only at hg2 hw ⊢
    have TO := fun L => rtold9_does (q ++ [p]) w g2 L hw (by omega) hcm
    obtain ⟨aw, cw, rfl⟩ := hw.slice
    have hfin := fun g3 sl ft (k3 : Sl g3 sl (q ++ [p]).length 6 ft) (k4 : IsVs g3 ((q ++ [p]).map ptD) ft) => told_is (l := q ++ [p]) (by omega) k3 k4
    clear hldp hld hSu hw
    repeat' (first
    | refine wkQ ?_
    | refine wkV ?_
    | ((with_reducible apply TL.pure); (· exact yM); (· rfl)) | ((with_reducible apply TW.pure); (· exact yM); (· rfl))
    | ((with_reducible apply TL.storeK); (· rfl); (· rfl); (· exact rfl); (· exact pkA); (· exact Nat.le_of_ble_eq_true rfl))
    | (refine TL.call (Enters.plain (by kernel_rfl) (by rfl)) (by rfl) (TO _) ?_; (rintro e g3 Ln h3 ⟨sl, ft, k1, k2, k3, k4⟩; have k2 := k2.symm; subst k1; subst k2; obtain ⟨at4, ct4, rfl⟩ := k3.slice; have K3 := Hn.mk (hfin _ _ _ k3 k4); clear k3 k4; refine CallK.ret ?_))
    | ((with_reducible apply TL.build_slice); (· rfl); (· rfl); (· exact oneA); (· rfl); (· rfl); (· rfl); intro _) | refine TL.build_one (by rfl) (by first | rfl | assumption) (by rfl) (by rfl) (by rfl) (by rfl) (fun _ => ?_) | refine TL.build_empty (by rfl) (fun _ => ?_)
    | ((with_reducible apply TL.append (e := 25)); (· rfl); (· rfl); (· rfl); (· rfl); (· exact pkA); (· first | exact Src.obj pkA | exact Src.sl (by assumption) | exact Src.row pkA); (· first | rfl | exact (byteVals_length _).trans (Nat.mul_one _).symm); (· first | exact byteVals_all _ | exact oneA); (· exact ⟨by unfold maxLen; omega, by omega⟩); (· rfl); intro vf; refine Go.TL.TL.row_slice (v := vf) pkA ?_; rintro a2 c2 rfl _)
    | refine stS ?_ | (refine stB ?_; intro _) | (refine stC ?_; refine And.intro (fun _ => ?_) (fun _ => ?_))
    | refine TC.region_sink 7 8 ([.obj b4 (.cells (tvC (.slice av i cv)).toArray 25 (0, 0))]) (by kernel_rfl) (by decide +kernel) rfl selF ?_ | refine TQ.anyT_panic ?_
    | ((with_reducible apply TB.takeN 0); (· rfl); (· decide +kernel); (· rfl); (· first | (first | exact yQ | exact yA | exact yB | exact yM | exact yV) | fail); (· decide +kernel); (· decide +kernel); (· rfl); (· exact fun _ _ _ h => h); (· rfl))
    | ((with_reducible apply TB.takeN 1); (· rfl); (· decide +kernel); (· rfl); (· first | (first | exact yQ | exact yA | exact yB | exact yM | exact yV) | fail); (· decide +kernel); (· decide +kernel); (· rfl); (· exact fun _ _ _ h => h); (· rfl))
    | ((with_reducible apply TB.takeN 2); (· rfl); (· decide +kernel); (· rfl); (· first | (first | exact yQ | exact yA | exact yB | exact yM | exact yV) | fail); (· decide +kernel); (· decide +kernel); (· rfl); (· exact fun _ _ _ h => h); (· rfl))
    | ((with_reducible apply TB.takeN 3); (· rfl); (· decide +kernel); (· rfl); (· first | (first | exact yQ | exact yA | exact yB | exact yM | exact yV) | fail); (· decide +kernel); (· decide +kernel); (· rfl); (· exact fun _ _ _ h => h); (· rfl))
    | ((with_reducible apply TB.oneN 0); (· rfl); (· rfl); (· decide +kernel); (· rfl); intro hsk)
    | ((with_reducible apply TB.oneN 1); (· rfl); (· rfl); (· decide +kernel); (· rfl); intro hsk)
    | ((with_reducible apply TB.oneN 2); (· rfl); (· rfl); (· decide +kernel); (· rfl); intro hsk)
    | ((with_reducible apply TB.oneN 3); (· rfl); (· rfl); (· decide +kernel); (· rfl); intro hsk)
    | refine TQ.lastT (by decide +kernel) ?_ | refine TQ.anyT (by assumption) leF selF ?_)
    refine TQ.round (TpS.mk (i + 1) (fl ++ tvC (.slice at4 (q ++ [p]).length ct4)) (.slice a2 (i + 1) c2) g3) ?_ ?_ rfl subA selF
    · refine ⟨by dsimp only; omega, by dsimp only; simp; omega, hgx.trans (hg2.trans h3), ?_⟩
      dsimp only
      rw [HL.out]
      exact (IsVs.le (hg2.trans h3) _ _ HI.out).snoc9 K3.out
    · show ps.length - (i + 1) < ps.length - i
      omega
  · obtain rfl : i = ps.length := by omega
    rw [List.take_length] at hI
    clear HS HP HNE HMAY hs
    refine TC.freeze (.there .here) fun g2 hg2 HS2 => ?_
    have hw : IsV g2 (whereD 2 ps) (tvC (.slice av ps.length cv)) := by
      unfold whereD
      rw [if_neg (by decide), if_neg (by decide), IsV]
      exact ⟨_, _, fl, rfl, by decide, by decide, by simp, by rw [List.length_map]; exact HS2, by rw [List.length_map]; omega, IsVs.le hg2 _ _ hI, Sl.nil, by simp, by simp⟩
    clear HS2 hI
    repeat' (first
    | refine wkQ ?_
    | refine wkV ?_
    | (refine TL.build_slice (d := 56) (by rfl) (by rfl) (by exact oneA) (by rfl) (by rfl) (by rfl) (fun bb => ?_); refine TL.freeze_obj (k := 2) bb 1 .here rfl (by decide) ?_; rintro gn hn sn)
    | (refine TL.build_rows (d := 60) (len := 2) (sz := 6) [[.int .i64 3, .bool false, .int .i64 0, str polyB, .slice none 0 0, .slice none 0 0], tvC (.slice av ps.length cv)] (by rfl) (by rfl) (by rfl) (by rfl) (by rfl) (by rfl) (by rfl) (by rfl) (fun bb => ?_); refine TL.freeze_obj (k := 2) bb 6 .here rfl (by decide) ?_; rintro gm hm2 sm)
    | refine stS ?_ | (refine stB ?_; intro _) | (refine stC ?_; refine And.intro (fun _ => ?_) (fun _ => ?_)))
    refine TQ.endR1 (L' := L) Tryz.results31 rvA rfl (hgx.trans (hg2.trans (hn.trans hm2))) ?_ selF
    exact ⟨_, rfl, rfl, tell_isV (sn.le hm2) sm (hw.le (hn.trans hm2))⟩
theorem rTell9_does (k : Int) (ps : List (List Pt)) (v : Value) (g : Gh) (L : List Ent) (hS : IsParts g v ps) (hO : ShOk ps) (hs : ∀ q ∈ ps, q.length ≤ 10000) (hr : rightB k ps = true) : Does Tryz.prog 31 #[shV k v] g L (TellDR k ps L) := by
  rcases (rtP_of hr).kind with rfl | rfl | rfl
  · exact rTell9_point ps v g L hS hO hr
  · exact rTell9_line ps v g L hS hO hr
  · exact rTell9_poly ps v g L hS hO hs hr
end Go.Proofs.YtfanccddokckcaaGreatDoor
