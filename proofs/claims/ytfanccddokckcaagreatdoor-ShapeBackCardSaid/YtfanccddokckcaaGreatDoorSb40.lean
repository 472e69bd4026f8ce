/-
  The walk of shape's Tell: polygons; all of it. A shape is read from its value as it was: the plain law.
-/
import Derived.Test.YtfanccddokckcaaGreatDoorSb3
import Derived.Test.YtfanccddokckcaaGreatDoorSb39
import Derived.Test.YtfanccddokckcaaGreatDoorSb35
namespace Go.Proofs.YtfanccddokckcaaGreatDoor
open Go.RowKit Go.TL
set_option maxRecDepth 100000

structure TlI (ps : List (List Pt)) (g : Gh) (x : TdS) : Prop where
  le : x.i ≤ ps.length
  fll : x.fl.length = x.i
  hg : g.le x.g
  is : IsJs x.g ((ps.take x.i).map closeJ) x.fl
set_option maxHeartbeats 32000000 in
theorem stell_poly (ps : List (List Pt)) (v : Value) (g : Gh) (L : List Ent) (hS : IsParts g v ps) (hO : ShOk ps) (hr : rightB 2 ps = true) : Does Tryz.prog 16 #[shV 2 v] g L (TellR 2 ps L) := by
  have RI := fun L => sright_gives 2 ps v g L hS hO
  have NA := fun g L => snames_gives g L
  have hP := right_props hr
  obtain ⟨fl0, hSl, hpt⟩ := hS
  obtain ⟨ao, cap, rfl⟩ := hSl.slice
  have hps := hO.len
  refine Does.of1 Tryz.func16 rfl Tryz.ntmps16 rfl ?_
  unfold TellR
  rw [hr] at RI ⊢
  dsimp only
  repeat' (first
    | refine wkQ ?_
    | refine wkV ?_
    | ((with_reducible apply TL.gives_plain); (· kernel_rfl); (· rfl); (· exact RI _); (· rfl)) | ((with_reducible apply TW.gives_plain); (· kernel_rfl); (· rfl); (· exact RI _); (· rfl))
    | (refine TL.build_empty (by rfl) (fun bb => ?_); refine TL.obj_row (e := 20) (b := bb) (k := 0) (sz := 1) .here rfl (by decide) ?_)
    | refine stS ?_ | (refine stB ?_; intro _) | (refine stC ?_; refine And.intro (fun _ => ?_) (fun _ => ?_)))
  rename_i b1
  refine TC.loop (TlI ps g) (fun x => ps.length - x.i) (fun x => [(16, .int .i64 (x.i : Nat)), (15, .int .i64 (ps.length : Nat)), (14, .slice ao ps.length cap), (4, x.v), (1, .pointer (some ⟨b1, 0, none⟩))]) (fun x => x.g) (fun x => .row 20 1 x.v x.i x.fl :: .obj b1 (.cells [.int .i64 2, .slice ao ps.length cap].toArray 30 (0, 0)) :: L) ⟨0, [], .slice (some ⟨bb, 0, none⟩) 0 0, g⟩ ⟨Nat.zero_le _, rfl, .refl _, by rw [List.take_zero, List.map_nil, IsJs]⟩ rfl subA selF ?_
  rintro ⟨i, fl, v, gx⟩ ⟨hi, hfl, hgx, his⟩
  dsimp only at hi hfl hgx his ⊢
  refine TC.row_slice (v := v) pkA ?_
  rintro av cv rfl _
  by_cases hlt : i < ps.length
  · obtain ⟨q, hq⟩ : ∃ q, ps[i]? = some q := ⟨_, List.getElem?_eq_getElem hlt⟩
    obtain ⟨u, hu, hSu⟩ := hpt i q hq
    obtain ⟨b2, o2, rfl, hg2⟩ := (hSl.le hgx).elem hlt (by decide)
    have hld : gx.cell b2 (o2 + i * 1) = some u := hg2 0 _ (by rw [Nat.mul_one]; exact hu)
    have hSx := hSu.le hgx
    have hqm := List.mem_of_getElem? hq
    obtain ⟨hq1, hq2⟩ := okP_all (hP.ok q hqm)
    have hql := hO.part q hqm
    have hq0 : 0 < q.length := List.length_pos_iff.2 hq1
    have hqb : q.length ≤ 256 := by
      have h1 := hP.le
      have h2 := (List.sublist_flatten_of_mem hqm).length_le
      omega
    obtain ⟨p, hp⟩ : ∃ p, q[0]? = some p := ⟨_, List.getElem?_eq_getElem hq0⟩
    obtain ⟨au, cu, rfl⟩ := hSu.slice
    obtain ⟨b3, o3, rfl, hg3⟩ := hSx.elem (i := 0) hq0 (by decide)
    have hldp := pt_cells hg3 (flatP_get hp).1 (flatP_get hp).2
    have hll : [Value.int .i64 p.1, .int .i64 p.2].length = 2 := rfl
    have CL := fun L => clone_does q _ gx L hSx hql hq0
    have hmp := List.all_eq_true.1 hq2 p (List.mem_of_getElem? hp)
    have hcl : closeJ q = toldJ (q ++ [p]) := by
      unfold closeJ
      cases q with
      | nil => cases hp
      | cons a r => obtain rfl : a = p := by simpa using hp
                    rfl
    have TO : ∀ g4 a c, gx.le g4 → Sl g4 (.slice a (q.length + 1) c) (q.length + 1) 2 (flatP q ++ [.int .i64 p.1, .int .i64 p.2]) → ∀ L, Does Tryz.prog 43 #[.slice a (q.length + 1) c] g4 L (fun e g' L' => ∃ sl fl, e = .returned sl ∧ L' = L ∧ Sl g' sl (q ++ [p]).length 1 fl ∧ IsJs g' ((q ++ [p]).map ptJ) fl) := fun g4 a c _ hs L => by
      have hlen : (q ++ [p]).length = q.length + 1 := by simp
      exact stold_does (q ++ [p]) _ g4 L (by rw [hlen, flatP_snoc]; exact hs) (by omega) (by rw [List.all_append, hq2]; simp [hmp])
    have hn : (ps.take (i + 1)).map closeJ = (ps.take i).map closeJ ++ [closeJ q] := by rw [List.take_add_one, hq]; simp
    have HI := Hn.mk his
    clear hg2 hg3 hp hu hq his hpt hSl hSu hSx hO hP hq1 hq2 hmp RI NA hqm
    repeat' (first
    | refine wkQ ?_
    | refine wkV ?_
    | ((with_reducible apply TL.pure); (· exact yM); (· rfl)) | ((with_reducible apply TW.pure); (· exact yM); (· rfl))
    | (refine TL.call (Enters.plain (by kernel_rfl) (by rfl)) (by rfl) (CL _) ?_; (rintro e gc Ln _ ⟨a3, c3, k1, k2, k3⟩; have k2 := k2.symm; subst k1; subst k2; subst k3; refine CallK.ret ?_))
    | ((with_reducible apply TL.append (e := 50)); (· rfl); (· rfl); (· rfl); (· rfl); (· exact pkA); (· exact Src.obj pkA); (· rfl); (· exact oneA); (· exact ⟨by unfold maxLen; omega, by omega⟩); (· rfl); intro vf; refine Go.TL.TL.row_slice (v := vf) pkA ?_; rintro a4 c4 rfl _; refine Go.TL.TL.freeze .here ?_; intro g4 hg4 s4; have TO1 := fun L => TO g4 _ _ hg4 s4 L)
    | ((with_reducible apply TL.build_slice); (· rfl); (· rfl); (· exact oneA); (· rfl); (· rfl); (· rfl); intro _) | refine TL.build_one (by rfl) (by first | rfl | assumption) (by rfl) (by rfl) (by rfl) (by rfl) (fun _ => ?_) | refine TL.build_empty (by rfl) (fun _ => ?_)
    | (refine TL.call (Enters.plain (by kernel_rfl) (by rfl)) (by rfl) (TO1 _) ?_; (rintro e g5 Ln hg5 ⟨sl, f5, k1, k2, k3, k4⟩; have k2 := k2.symm; subst k1; subst k2; obtain ⟨a5, c5, rfl⟩ := k3.slice; have K3 := Hn.mk k3; have K4 := Hn.mk k4; have h45 := hg4.trans hg5; clear k3 k4; refine CallK.ret ?_))
    | ((with_reducible apply TL.append (e := 20)); (· rfl); (· rfl); (· rfl); (· rfl); (· exact pkA); (· first | exact Src.obj pkA | exact Src.sl (by assumption) | exact Src.row pkA); (· first | rfl | exact (byteVals_length _).trans (Nat.mul_one _).symm); (· first | exact byteVals_all _ | exact oneA); (· exact ⟨by unfold maxLen; omega, by omega⟩); (· rfl); intro vf; refine Go.TL.TL.row_slice (v := vf) pkA ?_; rintro a2 c2 rfl _)
    | refine stS ?_ | (refine stB ?_; intro _) | (refine stC ?_; refine And.intro (fun _ => ?_) (fun _ => ?_))
    | ((with_reducible apply TA.two 2 6); (· rfl); (· rfl); (· decide +kernel); (· rfl); (· rfl))
    | refine wkN0 ?_
    | refine wkN1 ?_
    | refine wkN2 ?_
    | refine wkN3 ?_
    | ((with_reducible apply TA.takeN 4); (· rfl); (· decide +kernel); (· rfl); (· (first | exact yQ | exact yA | exact yB | exact yM | exact yV)); (· decide +kernel); (· decide +kernel); (· rfl); (· exact fun _ _ _ h => h); (· rfl))
    | ((with_reducible apply TA.takeN 5); (· rfl); (· decide +kernel); (· rfl); (· (first | exact yQ | exact yA | exact yB | exact yM | exact yV)); (· decide +kernel); (· decide +kernel); (· rfl); (· exact fun _ _ _ h => h); (· rfl))
    | refine wkN0 ?_
    | refine wkN1 ?_
    | refine wkN2 ?_
    | refine wkN3 ?_
    | ((with_reducible apply TA.oneN 0); (· rfl); (· rfl); (· decide +kernel); (· rfl))
    | ((with_reducible apply TA.oneN 1); (· rfl); (· rfl); (· decide +kernel); (· rfl))
    | ((with_reducible apply TA.oneN 2); (· rfl); (· rfl); (· decide +kernel); (· rfl))
    | ((with_reducible apply TA.oneN 3); (· rfl); (· rfl); (· decide +kernel); (· rfl))
    | refine TQ.any leF selF ?_
    | refine TC.region_any 13 ([]) (by kernel_rfl) rfl selF ?_ | refine TA.done (by decide +kernel) ?_ | refine TQ.any_panic ?_)
    all_goals
      refine TQ.round (TdS.mk (i + 1) (fl ++ [.iface 72 (.slice a5 (q ++ [p]).length c5)]) (.slice a2 (i + 1) c2) g5) ?_ ?_ rfl subA selF
      · refine ⟨by dsimp only; omega, by dsimp only; rw [List.length_append, List.length_singleton, hfl], hgx.trans h45, ?_⟩
        dsimp only
        rw [hn, hcl]
        refine (IsJs.le h45 _ _ HI.out).snoc ?_
        rw [toldJ, IsJ]
        exact ⟨_, f5, rfl, by rw [List.length_map]; exact K3.out, K4.out⟩
      · dsimp only; omega
  · obtain rfl : i = ps.length := by omega
    rw [List.take_length] at his
    refine TC.freeze .here fun g3 hg3 HS3 => ?_
    have HI := Hn.mk (show IsJ g3 (whereJ 2 ps) (.iface 72 (.slice av ps.length cv)) by
      rw [whereJ, if_neg (by decide), if_neg (by decide), IsJ]
      exact ⟨_, fl, rfl, by rw [List.length_map]; exact HS3, IsJs.le hg3 _ _ his⟩)
    clear his HS3 hpt hSl hO hP RI
    repeat' (first
    | refine wkQ ?_
    | refine wkV ?_
    | ((with_reducible apply TL.gives_plain); (· kernel_rfl); (· rfl); (· exact NA _ _); (· rfl)) | ((with_reducible apply TW.gives_plain); (· kernel_rfl); (· rfl); (· exact NA _ _); (· rfl))
    | (refine TL.build_rows (d := 60) (len := 2) (sz := 2) [[str typeB, .iface 9 (str polyB)], [str coordB, _]] (by rfl) (by rfl) (by rfl) (by rfl) (by rfl) (by rfl) (by rfl) (by rfl) (fun bb => ?_); refine TL.freeze_obj (k := 2) bb 2 .here rfl (by decide) ?_; rintro g5 hg5 s5)
    | refine stS ?_ | (refine stB ?_; intro _) | (refine stC ?_; refine And.intro (fun _ => ?_) (fun _ => ?_))
    | refine wkN0 ?_
    | refine wkN1 ?_
    | refine wkN2 ?_
    | refine wkN3 ?_
    | ((with_reducible apply TA.takeN 4); (· rfl); (· decide +kernel); (· rfl); (· (first | exact yQ | exact yA | exact yB | exact yM | exact yV)); (· decide +kernel); (· decide +kernel); (· rfl); (· exact fun _ _ _ h => h); (· rfl))
    | ((with_reducible apply TA.takeN 5); (· rfl); (· decide +kernel); (· rfl); (· (first | exact yQ | exact yA | exact yB | exact yM | exact yV)); (· decide +kernel); (· decide +kernel); (· rfl); (· exact fun _ _ _ h => h); (· rfl))
    | ((with_reducible apply TA.takeN 0); (· rfl); (· decide +kernel); (· rfl); (· first | exact Y.index_agg rfl rfl (show ((2 : Nat) : Int) = (2 : Nat) from rfl) (by decide) rfl | (first | exact yQ | exact yA | exact yB | exact yM | exact yV)); (· decide +kernel); (· decide +kernel); (· rfl); (· exact fun _ _ _ h => h); (· rfl))
    | ((with_reducible apply TA.takeN 1); (· rfl); (· decide +kernel); (· rfl); (· first | exact Y.index_agg rfl rfl (show ((2 : Nat) : Int) = (2 : Nat) from rfl) (by decide) rfl | (first | exact yQ | exact yA | exact yB | exact yM | exact yV)); (· decide +kernel); (· decide +kernel); (· rfl); (· exact fun _ _ _ h => h); (· rfl))
    | ((with_reducible apply TA.takeN 2); (· rfl); (· decide +kernel); (· rfl); (· first | exact Y.index_agg rfl rfl (show ((2 : Nat) : Int) = (2 : Nat) from rfl) (by decide) rfl | (first | exact yQ | exact yA | exact yB | exact yM | exact yV)); (· decide +kernel); (· decide +kernel); (· rfl); (· exact fun _ _ _ h => h); (· rfl))
    | ((with_reducible apply TA.takeN 3); (· rfl); (· decide +kernel); (· rfl); (· first | exact Y.index_agg rfl rfl (show ((2 : Nat) : Int) = (2 : Nat) from rfl) (by decide) rfl | (first | exact yQ | exact yA | exact yB | exact yM | exact yV)); (· decide +kernel); (· decide +kernel); (· rfl); (· exact fun _ _ _ h => h); (· rfl))
    | ((with_reducible apply TA.take_gN 0); (· rfl); (· decide +kernel); (· rfl); (· rfl); (· rfl); (· (first | exact Y.index_agg rfl rfl (show ((2 : Nat) : Int) = (2 : Nat) from rfl) (by decide) rfl | (first | exact yQ | exact yA | exact yB | exact yM | exact yV))); (· decide +kernel); (· decide +kernel); (· rfl); (· exact fun _ _ _ h => h); (· rfl))
    | ((with_reducible apply TA.take_gN 1); (· rfl); (· decide +kernel); (· rfl); (· rfl); (· rfl); (· (first | exact Y.index_agg rfl rfl (show ((2 : Nat) : Int) = (2 : Nat) from rfl) (by decide) rfl | (first | exact yQ | exact yA | exact yB | exact yM | exact yV))); (· decide +kernel); (· decide +kernel); (· rfl); (· exact fun _ _ _ h => h); (· rfl))
    | ((with_reducible apply TA.take_gN 2); (· rfl); (· decide +kernel); (· rfl); (· rfl); (· rfl); (· (first | exact Y.index_agg rfl rfl (show ((2 : Nat) : Int) = (2 : Nat) from rfl) (by decide) rfl | (first | exact yQ | exact yA | exact yB | exact yM | exact yV))); (· decide +kernel); (· decide +kernel); (· rfl); (· exact fun _ _ _ h => h); (· rfl))
    | ((with_reducible apply TA.take_gN 3); (· rfl); (· decide +kernel); (· rfl); (· rfl); (· rfl); (· (first | exact Y.index_agg rfl rfl (show ((2 : Nat) : Int) = (2 : Nat) from rfl) (by decide) rfl | (first | exact yQ | exact yA | exact yB | exact yM | exact yV))); (· decide +kernel); (· decide +kernel); (· rfl); (· exact fun _ _ _ h => h); (· rfl))
    | refine wkX0 ?_
    | refine wkX1 ?_
    | refine wkX2 ?_
    | refine wkX3 ?_
    | ((with_reducible apply TA.oneN 0); (· rfl); (· rfl); (· decide +kernel); (· rfl))
    | ((with_reducible apply TA.oneN 1); (· rfl); (· rfl); (· decide +kernel); (· rfl))
    | ((with_reducible apply TA.oneN 2); (· rfl); (· rfl); (· decide +kernel); (· rfl))
    | ((with_reducible apply TA.oneN 3); (· rfl); (· rfl); (· decide +kernel); (· rfl))
    | refine TQ.any leF selF ?_
    | refine TC.region_any 11 (_) (by kernel_rfl) rfl selF ?_ | refine TA.done (by decide +kernel) ?_ | refine TQ.any_panic ?_)
    refine TQ.endR1 (L' := L) Tryz.results16 rvA rfl ((hgx.trans (hg3.trans hg5))) ?_ selF
    exact ⟨_, rfl, rfl, tell_is (k := 2) s5 (HI.out.le hg5 _ _)⟩
theorem stell_does (k : Int) (ps : List (List Pt)) (v : Value) (g : Gh) (L : List Ent) (hS : IsParts g v ps) (hO : ShOk ps) : Does Tryz.prog 16 #[shV k v] g L (TellR k ps L) := by
  cases hr : rightB k ps with
  | false => exact stell_no k ps v g L hS hO hr
  | true =>
    rcases (right_props hr).kd with rfl | rfl | rfl
    · exact stell_point ps v g L hS hO hr
    · exact stell_line ps v g L hS hO hr
    · exact stell_poly ps v g L hS hO hr
end Go.Proofs.YtfanccddokckcaaGreatDoor
namespace Go.Proofs.YtfanccddokckcaaGreatDoor
open Go.RowKit Go.TL

theorem look_pt {p : Pt} (hp : mayB p = true) (w : Nat) (_hw : w < 31) : lookJ (ptJ p) w = 0 := by
  have h := mayB_iff.1 hp
  have h1 : heldB p.1 = true := by unfold heldB; simp; omega
  have h2 : heldB p.2 = true := by unfold heldB; simp; omega
  unfold ptJ
  rw [lookJ, if_neg (by omega), looks, looks, looks, lookJ, lookJ, if_pos h1, if_pos h2]
  simp
theorem looks_all {l : List J} {w : Nat} (h : ∀ x ∈ l, lookJ x (w + 1) = 0) : looks l w = 0 := by
  induction l with
  | nil => rw [looks]
  | cons x r ih =>
    rw [looks, if_pos (h x (List.mem_cons_self ..))]
    exact ih fun y hy => h y (List.mem_cons_of_mem _ hy)
theorem look_told {l : List Pt} (hl : l.all mayB = true) (w : Nat) (_hw : w < 30) : lookJ (toldJ l) w = 0 := by
  unfold toldJ
  rw [lookJ, if_neg (by omega)]
  refine looks_all fun x hx => ?_
  obtain ⟨p, hp, rfl⟩ := List.mem_map.1 hx
  exact look_pt (List.all_eq_true.1 hl p hp) _ (by omega)
theorem head_may {q : List Pt} (hn : q ≠ []) (hq : q.all mayB = true) : mayB (q.headD (0, 0)) = true := by
  cases q with
  | nil => exact absurd rfl hn
  | cons a r => exact List.all_eq_true.1 hq a (List.mem_cons_self ..)
theorem look_close {q : List Pt} (hn : q ≠ []) (hq : q.all mayB = true) (w : Nat) (hw : w < 30) : lookJ (closeJ q) w = 0 := by
  refine look_told ?_ w hw
  rw [List.all_append, hq, List.all_cons, head_may hn hq]; rfl
theorem look_where {k : Int} {ps : List (List Pt)} (h : rightB k ps = true) : lookJ (whereJ k ps) 1 = 0 := by
  have hp := rtP_of h
  unfold whereJ
  split
  · obtain ⟨q, hq, hh⟩ := head_mem hp
    exact look_pt (hp.mayq hq hh) _ (by decide)
  · split
    · cases ps with
      | nil => exact absurd rfl hp.ne
      | cons q r => exact look_told (hp.may q (List.mem_cons_self ..)) _ (by decide)
    · rw [lookJ, if_neg (by decide)]
      refine looks_all fun x hx => ?_
      obtain ⟨q, hq, rfl⟩ := List.mem_map.1 hx
      exact look_close (hp.nep q hq) (hp.may q hq) _ (by decide)
theorem look_tell {k : Int} {ps : List (List Pt)} (h : rightB k ps = true) : lookJ (tellJ k ps) 0 = 0 := by
  have hk : lookJ (.text (kindN k)) 1 = 0 := by
    unfold kindN
    split
    · rfl
    · split <;> rfl
  unfold tellJ
  rw [lookJ, if_neg (by decide), looko, if_neg (by decide), if_neg (by decide), if_pos hk, looko, if_neg (by decide), if_neg (by decide), if_pos (look_where h), looko]
theorem mapP_told (l : List Pt) : mapP (l.map ptJ) = some l := by
  induction l with
  | nil => rfl
  | cons p r ih =>
    rw [List.map_cons, mapP]
    show (match some p with | some q => (mapP (r.map ptJ)).map (q :: ·) | none => none) = _
    rw [ih]; rfl
theorem places_told {l : List Pt} (h : l.length ≤ 256) : placesJ (toldJ l) = some l := by
  unfold toldJ
  rw [placesJ, if_pos (by rw [List.length_map]; exact h), mapP_told]
theorem moves_snoc {q : List Pt} {p a : Pt} (h : movesF q = true) (hl : q[q.length - 1]? = some a) (hn : p ≠ a) : movesF (q ++ [p]) = true := by
  induction q with
  | nil => simp at hl
  | cons x r ih =>
    cases r with
    | nil =>
      obtain rfl : x = a := by simpa using hl
      show (!decide (p = x) && movesF [p]) = true
      rw [decide_eq_false hn]; rfl
    | cons y t =>
      rw [movesF, Bool.and_eq_true] at h
      show (!decide (y = x) && movesF (y :: t ++ [p])) = true
      rw [h.1, Bool.true_and]
      exact ih h.2 (by simpa using hl)
theorem ring_close {q : List Pt} (h3 : 3 ≤ q.length) (hl : q.length + 1 ≤ 256) (hm : movesF q = true) (he : endsE q = false) : ringJ (closeJ q) = some q := by
  have hc : closeJ q = toldJ (q ++ [q.headD (0, 0)]) := rfl
  unfold ringJ
  rw [hc, places_told (by rw [List.length_append, List.length_singleton]; exact hl)]
  cases q with
  | nil => simp at h3
  | cons a r =>
    obtain ⟨b, hb⟩ : ∃ b, (a :: r)[(a :: r).length - 1]? = some b := ⟨_, List.getElem?_eq_getElem (by simp at h3 ⊢)⟩
    have hab : a ≠ b := fun h => by
      unfold endsE at he
      rw [hb, h] at he
      simp at he
    have h1 : endsE (a :: r ++ [a]) = true := by unfold endsE; simp
    have h2 : movesF (a :: r ++ [a]) = true := moves_snoc hm hb hab
    show (if (decide (4 ≤ (a :: r ++ [a]).length) && endsE (a :: r ++ [a])) && movesF (a :: r ++ [a]) = true then some ((a :: r ++ [a]).take ((a :: r ++ [a]).length - 1)) else none) = _
    rw [h1, h2, decide_eq_true (by simp at h3 ⊢; omega), if_pos (by simp)]
    simp
theorem rightL_two : ∀ (ps : List (List Pt)) (c c' : Nat), rightL 2 ps c = some c' → ∀ q ∈ ps, 3 ≤ q.length ∧ q.length + 1 ≤ 256 ∧ movesF q = true ∧ endsE q = false
  | [], _, _, _, q, hq => (List.not_mem_nil hq).elim
  | p :: r, c, c', h, q, hq => by
    rw [rightL] at h
    split at h
    · rename_i h1
      rw [if_pos rfl] at h
      split at h
      · rename_i h2
        rcases List.mem_cons.1 hq with rfl | hq
        · unfold okP at h1
          unfold okR at h2
          simp only [Bool.and_eq_true, decide_eq_true_eq, Bool.not_eq_true'] at h1 h2
          exact ⟨h2.1.1.1, by omega, h1.2, h2.1.1.2⟩
        · exact rightL_two r _ _ h q hq
      · cases h
    · cases h
theorem rightL_cnt {k : Int} (hk : k ≠ 2) : ∀ (ps : List (List Pt)) (c c' : Nat), rightL k ps c = some c' → c' = c + ps.flatten.length
  | [], c, c', h => by cases h; rfl
  | p :: r, c, c', h => by
    rw [rightL] at h
    by_cases h1 : okP p = true
    · rw [if_pos h1, if_neg hk] at h
      have := rightL_cnt hk r _ _ h
      rw [List.flatten_cons, List.length_append]; omega
    · rw [if_neg h1] at h
      cases h
theorem mapR_close {ps : List (List Pt)} (h : ∀ q ∈ ps, ringJ (closeJ q) = some q) : mapR (ps.map closeJ) = some ps := by
  induction ps with
  | nil => rfl
  | cons p r ih =>
    rw [List.map_cons, mapR, h p (List.mem_cons_self ..)]
    show (mapR (r.map closeJ)).map (p :: ·) = _
    rw [ih fun q hq => h q (List.mem_cons_of_mem _ hq)]; rfl
theorem shape_where {k : Int} {ps : List (List Pt)} (h : rightB k ps = true) : shapeJ k (whereJ k ps) = some ps := by
  have hp := rtP_of h
  have h' := h
  unfold rightB at h'
  cases hr : rightL k ps 0 with
  | none => rw [hr] at h'; cases h'
  | some c =>
    rw [hr] at h'
    dsimp only at h'
    unfold finR at h'
    unfold shapeJ whereJ
    by_cases h0 : k = 0
    · subst h0
      rw [if_pos rfl] at h' ⊢
      rw [if_pos rfl]
      have hc := rightL_cnt (by decide) ps 0 c hr
      rw [Bool.and_eq_true, decide_eq_true_eq, decide_eq_true_eq] at h'
      match ps, h', hc with
      | [q], h', hc =>
        have hq : q.length = 1 := by simp at hc; omega
        match q, hq with
        | [p], _ => rfl
    · rw [if_neg h0] at h' ⊢
      rw [if_neg h0]
      by_cases h1 : k = 1
      · subst h1
        rw [if_pos rfl] at h' ⊢
        rw [if_pos rfl]
        have hc := rightL_cnt (by decide) ps 0 c hr
        simp only [Bool.and_eq_true, decide_eq_true_eq] at h'
        match ps, h', hc with
        | [q], h', hc =>
          show (placesJ (toldJ q)).map (fun l => [l]) = _
          rw [places_told (by simp at hc; omega)]; rfl
      · rw [if_neg h1] at h' ⊢
        rw [if_neg h1]
        rw [Bool.and_eq_true, decide_eq_true_eq] at h'
        have h2 := h'.1
        subst h2
        rw [if_pos rfl]
        show mapR (ps.map closeJ) = _
        refine mapR_close fun q hq => ?_
        obtain ⟨q1, q2, q3, q4⟩ := rightL_two ps 0 c hr q hq
        exact ring_close q1 q2 q3 q4
theorem kind_of {k : Int} {ps : List (List Pt)} (h : rightB k ps = true) : kindJ (some (.text (kindN k))) = k := by
  have := (rtP_of h).kind
  rcases this with rfl | rfl | rfl <;> rfl
theorem tell_back {k : Int} {ps : List (List Pt)} (h : rightB k ps = true) : readX (tellJ k ps) = some (k, ps) := by
  unfold readX
  rw [look_tell h, if_pos rfl]
  have f1 : fieldJ (tellJ k ps) typeB = some (.text (kindN k)) := by unfold tellJ; rfl
  have f2 : fieldJ (tellJ k ps) coordB = some (whereJ k ps) := by unfold tellJ; rfl
  have e : tellJ k ps = .obj [typeB, coordB] [.text (kindN k), whereJ k ps] := rfl
  rw [e, readJ_some rfl (by rw [← e]; exact f2), ← e, f1, kind_of h, shape_where h]
  show (if rightB k ps = true then some (k, ps) else none) = _
  rw [if_pos h]
end Go.Proofs.YtfanccddokckcaaGreatDoor
