/-
  The walk of the document's All.
-/
import Derived.Test.YtacogbfgegcliaaGreatDoorHg35
import Derived.Test.YtacogbfgegcliaaGreatDoorHg37
import Derived.Test.YtacogbfgegcliaaGreatDoorHg38
import Derived.Test.YtacogbfgegcliaaGreatDoorHg39
namespace Go.Proofs.YtacogbfgegcliaaGreatDoor
open Go.RowKit Go.TL
set_option maxRecDepth 100000

theorem src_row {g : Gh} {L L' : List Ent} {e : TypeId} {ao : Option Addr} {k c sz : Nat} {xs : List Value} (hm : Pick (.row e sz (.slice ao k c) k xs) L L') : Src g L ao xs := fun w hs => by
  have hr : w.ownsRow 0 e sz (.slice ao k c) k xs := (hs.perm hm.perm).st _ List.mem_cons_self
  obtain ⟨ao', cap, hv, hc, _⟩ := owns_form hr
  obtain ⟨rfl, _⟩ : ao = ao' ∧ c = cap := by simpa using hv
  exact hc
theorem strs_len (l : List (List UInt8)) : (strs l).length = l.length * 1 := by simp [strs]
theorem strs_all (l : List (List UInt8)) : (strs l).all Go.Value.one = true := by
  rw [List.all_eq_true]
  intro u hu
  simp only [strs, List.mem_map] at hu
  obtain ⟨a, _, rfl⟩ := hu
  rfl
def stepD (k : Int) (names : List (List UInt8)) (i : Nat) : List UInt8 := if k = 5 then (names[i]?).getD [] else Lib.decDigits i
def restD (ahead : List UInt8) (k : Int) (items : List DV) (names : List (List UInt8)) (i : Nat) : List (List UInt8) := if k = 5 then allMs ahead (names.drop i) ((items.map toJ).drop i) else if k = 4 then allJs ahead i ((items.map toJ).drop i) else []
theorem restD_all (ahead : List UInt8) (k : Int) (b : Bool) (n : Int) (t : List UInt8) (items : List DV) (names : List (List UInt8)) : allJ ahead (toJ (.mk k b n t items names)) = restD ahead k items names 0 := by
  unfold restD
  by_cases h5 : k = 5
  · rw [if_pos h5, toJ_obj h5, allJ, List.drop_zero, List.drop_zero]
  · rw [if_neg h5]
    by_cases h4 : k = 4
    · rw [if_pos h4, toJ_list h4, allJ, List.drop_zero]
    · rw [if_neg h4, toJ_eq, if_neg h4, if_neg h5]
      repeat' split
      all_goals rw [allJ]
theorem restD_at {ahead : List UInt8} {k : Int} {items : List DV} {names : List (List UInt8)} {i : Nat} {y : DV} (hk : k = 4 ∨ k = 5) (hn : k = 5 → names.length = items.length) (h : items[i]? = some y) : restD ahead k items names i = partA ahead (stepD k names i) (toJ y) ++ restD ahead k items names (i + 1) := by
  have hm : (items.map toJ)[i]? = some (toJ y) := by rw [List.getElem?_map, h]; rfl
  unfold restD stepD
  by_cases h5 : k = 5
  · have hlt : i < items.length := (List.getElem?_eq_some_iff.1 h).1
    obtain ⟨s, hs⟩ : ∃ s, names[i]? = some s := ⟨_, List.getElem?_eq_getElem (by rw [hn h5]; exact hlt)⟩
    rw [if_pos h5, if_pos h5, if_pos h5, hs, allm_at hm hs]; rfl
  · have h4 : k = 4 := hk.resolve_right h5
    rw [if_neg h5, if_neg h5, if_neg h5, if_pos h4, if_pos h4, alls_at hm]
theorem restD_end {ahead : List UInt8} {k : Int} {items : List DV} {names : List (List UInt8)} : restD ahead k items names items.length = [] := by
  unfold restD
  have e : (items.map toJ).drop items.length = [] := List.drop_eq_nil_of_le (by simp)
  rw [e]
  split
  · rw [allMs]
  · split
    · rw [allJs]
    · rfl
set_option maxHeartbeats 32000000 in
theorem rAll6_does : ∀ (N : Nat) (x : DV), dsz x ≤ N → ∀ (cs : List Value) (ahead : List UInt8) (g : Gh) (L : List Ent), IsV g x cs → wfN 300 x → jsz (toJ x) ≤ 1000 → ahead.length ≤ 129 → Does Tryz.prog 44 #[.agg cs.toArray, str ahead] g L (AllR (allJ ahead (toJ x)) g L)
  | 0, .mk .., h, _, _, _, _, _, _, _, _ => by rw [dsz] at h; omega
  | N + 1, .mk k b n t items names, hN, cs, ahead, g, L, hX, hW, hJ, ha => by
    have IH := rAll6_does N
    rw [dsz] at hN
    rw [IsV] at hX
    rw [wfN] at hW
    obtain ⟨vi, vn, flat, rfl, bk, bn, bt, hSi, hil, hI, hSn, hnl, hnb⟩ := hX
    obtain ⟨_, hil2, hW5, hWs⟩ := hW
    obtain ⟨ai, ci, rfl⟩ := hSi.slice
    obtain ⟨an, cn, rfl⟩ := hSn.slice
    refine Does.of2 Tryz.func44 rfl Tryz.ntmps44 rfl ?_
    obtain ⟨R, hR⟩ : ∃ R, R = allJ ahead (toJ (.mk k b n t items names)) := ⟨_, rfl⟩
    rw [← hR]
    rw [restD_all] at hR
    unfold AllR
    refine TC.row_nil 9 1 ?_
    by_cases hk : k = 4 ∨ k = 5
    · have hJs : jsz (toJ (.mk k b n t items names)) = 1 + jszs (items.map toJ) := by
        rcases hk with rfl | rfl
        · rw [toJ_list rfl, jsz]
        · rw [toJ_obj rfl, jsz]
      rw [hJs] at hJ
      clear hJs
      repeat' (first
    | ((with_reducible apply TL.pure); (· exact yV); (· rfl)) | ((with_reducible apply TW.pure); (· exact yV); (· rfl))
    | ((with_reducible apply TL.pure); (· exact yA); (· rfl))
    | refine TC.seq ?_ | refine TC.region ?_ | refine TL.nil ?_ | refine TQ.then_normal ?_
    | ((with_reducible apply TL.storeE); (· rfl); (· rfl); (· rfl); (· exact pkA); (· infer_instance)) | ((with_reducible apply TL.store_whole); (· rfl); (· rfl); (· exact oneA); (· rfl); (· exact pkA); (· rfl))
    | refine TC.block ?_ | refine TC.ret ?_ | refine TC.skip ?_ | refine TC.exit ?_ | refine TC.cond rfl ?_
    | refine TQ.down ?_ | refine TQ.in_exit' rfl ?_
    | refine TL.guard_yes rfl rfl ?_ | refine TL.guard_no rfl rfl rfl rfl ?_ | refine TL.guard_no0 rfl rfl rfl ?_ | refine TL.guard_undef rfl rfl rfl ?_ | refine TL.guard_undef0 rfl rfl ?_ | refine TL.guard rfl rfl rfl ?_
    | refine Br.t rfl ?_ | refine Br.f rfl ?_ | refine Br.ky kpA ?_ | refine Br.kn kpA ?_ | refine Br.nky kpA ?_ | refine Br.nkn kpA ?_
    | refine Br.eq0 (fun _ => ?_) (fun _ => ?_) | refine Br.neq0 (fun _ => ?_) (fun _ => ?_) | refine Br.eq (fun _ => ?_) (fun _ => ?_) | refine Br.neq (fun _ => ?_) (fun _ => ?_) | refine Br.not (fun _ => ?_) (fun _ => ?_) | refine Br.dec (fun _ => ?_) (fun _ => ?_) | refine Br.bool (fun _ => ?_) (fun _ => ?_)
    | ((with_reducible apply TL.alloc_ag); (· rfl); intro _) | ((with_reducible apply TL.alloc_sc); (· rfl); (· rfl); intro _) | ((with_reducible apply TL.box_ag); (· rfl); (· rfl); intro _) | ((with_reducible apply TL.box_sc); (· rfl); (· rfl); (· rfl); intro _))
      rename_i bb
      rcases hk with rfl | rfl
      · refine TC.loopL (α := Nat × Option Addr × Nat × List (List UInt8)) (fun y => y.1 ≤ items.length ∧ y.2.2.2 ++ restD ahead 4 items names y.1 = R ∧ y.2.2.2.length + jszs ((items.map toJ).drop y.1) ≤ 1000) (fun y => items.length - y.1) (fun y _ => [(6, .int .i64 (y.1 : Nat)), (5, .slice y.2.1 y.2.2.2.length y.2.2.1), (2, .pointer (some ⟨bb, 0, none⟩)), (1, str ahead)]) (fun y => .obj bb (.cells [.int .i64 4, .bool b, .int .i64 n, str t, .slice ai items.length ci, .slice an names.length cn].toArray 29 (0, 0)) :: .row 9 1 (.slice y.2.1 y.2.2.2.length y.2.2.1) y.2.2.2.length (strs y.2.2.2) :: L) (0, none, 0, []) ⟨Nat.zero_le _, hR.symm, by rw [List.drop_zero]; show 0 + jszs (items.map toJ) ≤ 1000; omega⟩ subA selA ?_
        clear hR
        rintro ⟨i, a, c, m⟩ ⟨hi, hm, hml⟩
        dsimp only at hi hm hml ⊢
        by_cases hlt : i < items.length
        · obtain ⟨y, hy⟩ : ∃ y, items[i]? = some y := ⟨_, List.getElem?_eq_getElem hlt⟩
          obtain ⟨cs', hV', hcl, hfl⟩ := hI.get hy
          obtain ⟨b3, o3, rfl, hg3⟩ := hSi.elem hlt (by decide)
          have hld3 : ∀ j2 u, cs'[j2]? = some u → g.cell b3 (o3 + i * 6 + j2) = some u := fun j2 u hu => hg3 j2 u (hfl j2 u hu)
          have hWy := wfNs.get (hWs (.inl rfl)) hy
          have hym : (items.map toJ)[i]? = some (toJ y) := by rw [List.getElem?_map, hy]; rfl
          rw [jszs_at hym] at hml
          have hds := dsz_get hy
          rw [restD_at (.inl rfl) (fun e => (hW5 e).1) hy, ← List.append_assoc] at hm
          have F := fun L => rfigures6_gives i g L (by omega)
          have hdl : (Lib.decDigits i).length ≤ 3 := dec_len (by omega) (by omega)
          have hst0 : stepD 4 names i = Lib.decDigits i := by unfold stepD; rw [if_neg (by decide)]
          rw [hst0] at hm
          have hpl := part_len ahead (Lib.decDigits i) (toJ y)
          have ST := fun L => rSteps6_does (ahead ++ (Lib.decDigits i)) g L (by rw [List.length_append]; omega)
          unfold RStepsR at ST
          have hql : (ahead ++ (Lib.decDigits i)).length = ahead.length + (Lib.decDigits i).length := List.length_append
          cases hst : stepsL (ahead ++ (Lib.decDigits i)) with
          | none =>
            rw [hst] at ST
            rw [part_no (by unfold toldB; rw [hst]), List.append_nil] at hm
            have HM := Hn.mk hm
            clear hm hI hSi hSn hWs hW5 hst hst0 IH hV' hfl hg3 hy hym
            repeat' (first
    | ((with_reducible apply TL.pure); (· exact yV); (· rfl)) | ((with_reducible apply TW.pure); (· exact yV); (· rfl))
    | ((with_reducible apply TL.pure); (· exact yM); (· rfl)) | ((with_reducible apply TW.pure); (· exact yM); (· rfl))
    | ((with_reducible apply TL.gives_plain); (· kernel_rfl); (· rfl); (· exact F _); (· rfl)) | ((with_reducible apply TW.gives_plain); (· kernel_rfl); (· rfl); (· exact F _); (· rfl))
    | (refine TL.call (Enters.plain (by kernel_rfl) (by rfl)) (by rfl) (ST _) ?_; (rintro e g1 L1 h1 ⟨v1, e1, k1, k2, _, rfl, rfl⟩; have k2 := k2.symm; subst k1; subst k2; refine CallK.ret ?_))
    | ((with_reducible apply TL.pure); (· exact yA); (· rfl))
    | refine TC.seq ?_ | refine TC.region ?_ | refine TL.nil ?_ | refine TQ.then_normal ?_
    | ((with_reducible apply TL.storeE); (· rfl); (· rfl); (· rfl); (· exact pkA); (· infer_instance)) | ((with_reducible apply TL.store_whole); (· rfl); (· rfl); (· exact oneA); (· rfl); (· exact pkA); (· rfl))
    | refine TC.block ?_ | refine TC.ret ?_ | refine TC.skip ?_ | refine TC.exit ?_ | refine TC.cond rfl ?_
    | refine TQ.down ?_ | refine TQ.in_exit' rfl ?_
    | refine TL.guard_yes rfl rfl ?_ | refine TL.guard_no rfl rfl rfl rfl ?_ | refine TL.guard_no0 rfl rfl rfl ?_ | refine TL.guard_undef rfl rfl rfl ?_ | refine TL.guard_undef0 rfl rfl ?_ | refine TL.guard rfl rfl rfl ?_
    | refine Br.t rfl ?_ | refine Br.f rfl ?_ | refine Br.ky kpA ?_ | refine Br.kn kpA ?_ | refine Br.nky kpA ?_ | refine Br.nkn kpA ?_
    | refine Br.eq0 (fun _ => ?_) (fun _ => ?_) | refine Br.neq0 (fun _ => ?_) (fun _ => ?_) | refine Br.eq (fun _ => ?_) (fun _ => ?_) | refine Br.neq (fun _ => ?_) (fun _ => ?_) | refine Br.not (fun _ => ?_) (fun _ => ?_) | refine Br.dec (fun _ => ?_) (fun _ => ?_) | refine Br.bool (fun _ => ?_) (fun _ => ?_)
    | ((with_reducible apply TL.alloc_ag); (· rfl); intro _) | ((with_reducible apply TL.alloc_sc); (· rfl); (· rfl); intro _) | ((with_reducible apply TL.box_ag); (· rfl); (· rfl); intro _) | ((with_reducible apply TL.box_sc); (· rfl); (· rfl); (· rfl); intro _))
            refine TQ.less h1 ?_
            refine TQ.round (i + 1, a, c, m) ?_ ?_ rfl subA selA
            · exact ⟨by dsimp only; omega, HM.out, by dsimp only; omega⟩
            · show items.length - (i + 1) < items.length - i
              omega
          | some l1 =>
            rw [hst] at ST
            obtain ⟨hpj, hl0, hq128, _, hgood⟩ := stepsL_some hst
            have hcount := joinS_count l1 (fun s hs => (hgood s hs).1)
            rw [← hpj] at hcount
            clear hgood hpj
            obtain ⟨j, hj⟩ : ∃ j, l1.length = j + 1 := ⟨l1.length - 1, by have := List.length_pos_iff.2 hl0; omega⟩
            obtain ⟨u, hu⟩ : ∃ u, l1[j]? = some u := ⟨_, List.getElem?_eq_getElem (by omega)⟩
            have htold := told_of (s := (Lib.decDigits i)) hst hj hu
            have hjl : j < l1.length := by omega
            by_cases he : u = (Lib.decDigits i)
            · rw [decide_eq_true he] at htold
              rw [part_yes htold] at hm
              have B := fun (g1 : Gh) (h1 : g.le g1) L => IH y (by omega) cs' (ahead ++ (Lib.decDigits i) ++ [46]) g1 L (IsV.le h1 _ _ hV') hWy (by omega) (by rw [List.length_append, List.length_singleton]; omega)
              unfold AllR at B
              have hRl := all_len (toJ y) (ahead ++ (Lib.decDigits i) ++ [46])
              have HM := Hn.mk hm
              clear hm hI hSi hSn hWs hW5 hst hst0 IH hV' hfl hg3 hy hym htold
              repeat' (first
    | ((with_reducible apply TL.pure (d := 47) (v := .int .i64 ((j : Nat) : Int))); (· exact Y.sub rfl rfl (by rw [IntWalk.i64_in _ (by omega)]; omega)); (· rfl)) | ((with_reducible apply TW.pure (d := 47) (v := .int .i64 ((j : Nat) : Int))); (· exact Y.sub rfl rfl (by rw [IntWalk.i64_in _ (by omega)]; omega)); (· rfl))
    | ((with_reducible apply TL.pure (d := 51) (v := .bool true)); (· exact Y.eql_is (decide_eq_true he) rfl rfl); (· rfl)) | ((with_reducible apply TW.pure (d := 51) (v := .bool true)); (· exact Y.eql_is (decide_eq_true he) rfl rfl); (· rfl))
    | ((with_reducible apply TL.pure); (· exact yV); (· rfl)) | ((with_reducible apply TW.pure); (· exact yV); (· rfl))
    | ((with_reducible apply TL.pure); (· exact yM); (· rfl)) | ((with_reducible apply TW.pure); (· exact yM); (· rfl))
    | ((with_reducible apply TL.gives_plain); (· kernel_rfl); (· rfl); (· exact F _); (· rfl)) | ((with_reducible apply TW.gives_plain); (· kernel_rfl); (· rfl); (· exact F _); (· rfl))
    | (refine TL.call (Enters.plain (by kernel_rfl) (by rfl)) (by rfl) (ST _) ?_; (rintro e g1 L1 h1 ⟨v1, e1, k1, k2, _, rfl, hsl⟩; have k2 := k2.symm; subst k1; subst k2; obtain ⟨a1, c1, rfl⟩ := hsl.slice; obtain ⟨b5, o5, rfl, hg5⟩ := hsl.elem hjl (by decide); have hld5 : g1.cell b5 (o5 + j * 1) = some (str u) := hg5 0 _ (by rw [Nat.mul_one]; exact strs_get hu); have B1 := fun L => B g1 h1 L; have hld6 : ∀ j2 u2, cs'[j2]? = some u2 → g1.cell b3 (o3 + i * 6 + j2) = some u2 := fun j2 u2 h => h1.cell (hld3 j2 u2 h); clear B ST hg5; refine CallK.ret ?_))
    | ((with_reducible apply TL.build_slice); (· rfl); (· rfl); (· exact oneA); (· rfl); (· rfl); (· rfl); intro _) | refine TL.build_one (by rfl) (by first | rfl | assumption) (by rfl) (by rfl) (by rfl) (by rfl) (fun _ => ?_) | refine TL.build_empty (by rfl) (fun _ => ?_)
    | ((with_reducible apply TL.append (e := 9)); (· rfl); (· rfl); (· rfl); (· rfl); (· exact pkA); (· exact src_row pkA); (· exact strs_len _); (· exact strs_all _); (· exact ⟨by unfold maxLen; omega, by omega⟩); (· rfl); intro vf; refine Go.TL.TL.row_slice (v := vf) pkA ?_; rintro a2 c2 rfl _)
    | ((with_reducible apply TL.append (e := 9)); (· rfl); (· rfl); (· rfl); (· rfl); (· exact pkA); (· first | exact Src.obj pkA | exact Src.sl (by assumption) | exact Src.row pkA); (· first | rfl | exact (byteVals_length _).trans (Nat.mul_one _).symm); (· first | exact byteVals_all _ | exact oneA); (· exact ⟨by unfold maxLen; omega, by omega⟩); (· rfl); intro vf; refine Go.TL.TL.row_slice (v := vf) pkA ?_; rintro a2 c2 rfl _)
    | (refine TL.call (Enters.plain (by kernel_rfl) (by rfl)) (by rfl) (B1 _) ?_; (rintro e g3 L3 h3 ⟨a3, c3, k1, k2, k3⟩; have k2 := k2.symm; subst k1; subst k2; subst k3; refine CallK.ret ?_))
    | ((with_reducible apply TL.pure); (· exact yA); (· rfl))
    | refine TC.seq ?_ | refine TC.region ?_ | refine TL.nil ?_ | refine TQ.then_normal ?_
    | ((with_reducible apply TL.storeE); (· rfl); (· rfl); (· rfl); (· exact pkA); (· infer_instance)) | ((with_reducible apply TL.store_whole); (· rfl); (· rfl); (· exact oneA); (· rfl); (· exact pkA); (· rfl))
    | refine TC.block ?_ | refine TC.ret ?_ | refine TC.skip ?_ | refine TC.exit ?_ | refine TC.cond rfl ?_
    | refine TQ.down ?_ | refine TQ.in_exit' rfl ?_
    | refine TL.guard_yes rfl rfl ?_ | refine TL.guard_no rfl rfl rfl rfl ?_ | refine TL.guard_no0 rfl rfl rfl ?_ | refine TL.guard_undef rfl rfl rfl ?_ | refine TL.guard_undef0 rfl rfl ?_ | refine TL.guard rfl rfl rfl ?_
    | refine Br.t rfl ?_ | refine Br.f rfl ?_ | refine Br.ky kpA ?_ | refine Br.kn kpA ?_ | refine Br.nky kpA ?_ | refine Br.nkn kpA ?_
    | refine Br.eq0 (fun _ => ?_) (fun _ => ?_) | refine Br.neq0 (fun _ => ?_) (fun _ => ?_) | refine Br.eq (fun _ => ?_) (fun _ => ?_) | refine Br.neq (fun _ => ?_) (fun _ => ?_) | refine Br.not (fun _ => ?_) (fun _ => ?_) | refine Br.dec (fun _ => ?_) (fun _ => ?_) | refine Br.bool (fun _ => ?_) (fun _ => ?_)
    | ((with_reducible apply TL.alloc_ag); (· rfl); intro _) | ((with_reducible apply TL.alloc_sc); (· rfl); (· rfl); intro _) | ((with_reducible apply TL.box_ag); (· rfl); (· rfl); intro _) | ((with_reducible apply TL.box_sc); (· rfl); (· rfl); (· rfl); intro _))
              refine TQ.less h1 ?_
              rw [show m.length + 1 + (allJ (ahead ++ (Lib.decDigits i) ++ [46]) (toJ y)).length = (m ++ (ahead ++ (Lib.decDigits i)) :: allJ (ahead ++ (Lib.decDigits i) ++ [46]) (toJ y)).length by simp; omega, show strs m ++ [str (ahead ++ (Lib.decDigits i))] ++ strs (allJ (ahead ++ (Lib.decDigits i) ++ [46]) (toJ y)) = strs (m ++ (ahead ++ (Lib.decDigits i)) :: allJ (ahead ++ (Lib.decDigits i) ++ [46]) (toJ y)) by simp [strs]]
              refine TQ.round (i + 1, a2, c2, m ++ (ahead ++ (Lib.decDigits i)) :: allJ (ahead ++ (Lib.decDigits i) ++ [46]) (toJ y)) ?_ ?_ rfl subA selA
              · exact ⟨by dsimp only; omega, HM.out, by dsimp only; rw [List.length_append, List.length_cons]; omega⟩
              · show items.length - (i + 1) < items.length - i
                omega
            · rw [decide_eq_false he] at htold
              rw [part_no htold, List.append_nil] at hm
              have HM := Hn.mk hm
              clear hm hI hSi hSn hWs hW5 hst hst0 IH hV' hfl hg3 hy hym htold
              repeat' (first
    | ((with_reducible apply TL.pure (d := 47) (v := .int .i64 ((j : Nat) : Int))); (· exact Y.sub rfl rfl (by rw [IntWalk.i64_in _ (by omega)]; omega)); (· rfl)) | ((with_reducible apply TW.pure (d := 47) (v := .int .i64 ((j : Nat) : Int))); (· exact Y.sub rfl rfl (by rw [IntWalk.i64_in _ (by omega)]; omega)); (· rfl))
    | ((with_reducible apply TL.pure (d := 51) (v := .bool false)); (· exact Y.eql_is (decide_eq_false he) rfl rfl); (· rfl)) | ((with_reducible apply TW.pure (d := 51) (v := .bool false)); (· exact Y.eql_is (decide_eq_false he) rfl rfl); (· rfl))
    | ((with_reducible apply TL.pure); (· exact yV); (· rfl)) | ((with_reducible apply TW.pure); (· exact yV); (· rfl))
    | ((with_reducible apply TL.pure); (· exact yM); (· rfl)) | ((with_reducible apply TW.pure); (· exact yM); (· rfl))
    | ((with_reducible apply TL.gives_plain); (· kernel_rfl); (· rfl); (· exact F _); (· rfl)) | ((with_reducible apply TW.gives_plain); (· kernel_rfl); (· rfl); (· exact F _); (· rfl))
    | (refine TL.call (Enters.plain (by kernel_rfl) (by rfl)) (by rfl) (ST _) ?_; (rintro e g1 L1 h1 ⟨v1, e1, k1, k2, _, rfl, hsl⟩; have k2 := k2.symm; subst k1; subst k2; obtain ⟨a1, c1, rfl⟩ := hsl.slice; obtain ⟨b5, o5, rfl, hg5⟩ := hsl.elem hjl (by decide); have hld5 : g1.cell b5 (o5 + j * 1) = some (str u) := hg5 0 _ (by rw [Nat.mul_one]; exact strs_get hu); clear ST hg5; refine CallK.ret ?_))
    | ((with_reducible apply TL.pure); (· exact yA); (· rfl))
    | refine TC.seq ?_ | refine TC.region ?_ | refine TL.nil ?_ | refine TQ.then_normal ?_
    | ((with_reducible apply TL.storeE); (· rfl); (· rfl); (· rfl); (· exact pkA); (· infer_instance)) | ((with_reducible apply TL.store_whole); (· rfl); (· rfl); (· exact oneA); (· rfl); (· exact pkA); (· rfl))
    | refine TC.block ?_ | refine TC.ret ?_ | refine TC.skip ?_ | refine TC.exit ?_ | refine TC.cond rfl ?_
    | refine TQ.down ?_ | refine TQ.in_exit' rfl ?_
    | refine TL.guard_yes rfl rfl ?_ | refine TL.guard_no rfl rfl rfl rfl ?_ | refine TL.guard_no0 rfl rfl rfl ?_ | refine TL.guard_undef rfl rfl rfl ?_ | refine TL.guard_undef0 rfl rfl ?_ | refine TL.guard rfl rfl rfl ?_
    | refine Br.t rfl ?_ | refine Br.f rfl ?_ | refine Br.ky kpA ?_ | refine Br.kn kpA ?_ | refine Br.nky kpA ?_ | refine Br.nkn kpA ?_
    | refine Br.eq0 (fun _ => ?_) (fun _ => ?_) | refine Br.neq0 (fun _ => ?_) (fun _ => ?_) | refine Br.eq (fun _ => ?_) (fun _ => ?_) | refine Br.neq (fun _ => ?_) (fun _ => ?_) | refine Br.not (fun _ => ?_) (fun _ => ?_) | refine Br.dec (fun _ => ?_) (fun _ => ?_) | refine Br.bool (fun _ => ?_) (fun _ => ?_)
    | ((with_reducible apply TL.alloc_ag); (· rfl); intro _) | ((with_reducible apply TL.alloc_sc); (· rfl); (· rfl); intro _) | ((with_reducible apply TL.box_ag); (· rfl); (· rfl); intro _) | ((with_reducible apply TL.box_sc); (· rfl); (· rfl); (· rfl); intro _))
              refine TQ.less h1 ?_
              refine TQ.round (i + 1, a, c, m) ?_ ?_ rfl subA selA
              · exact ⟨by dsimp only; omega, HM.out, by dsimp only; omega⟩
              · show items.length - (i + 1) < items.length - i
                omega
        · obtain rfl : i = items.length := by omega
          rw [restD_end, List.append_nil] at hm
          subst hm
          clear hI hSi hSn hWs hW5 IH
          repeat' (first
    | ((with_reducible apply TL.pure); (· exact yV); (· rfl)) | ((with_reducible apply TW.pure); (· exact yV); (· rfl))
    | ((with_reducible apply TL.pure); (· exact yM); (· rfl)) | ((with_reducible apply TW.pure); (· exact yM); (· rfl))
    | ((with_reducible apply TL.pure); (· exact yA); (· rfl))
    | refine TC.seq ?_ | refine TC.region ?_ | refine TL.nil ?_ | refine TQ.then_normal ?_
    | ((with_reducible apply TL.storeE); (· rfl); (· rfl); (· rfl); (· exact pkA); (· infer_instance)) | ((with_reducible apply TL.store_whole); (· rfl); (· rfl); (· exact oneA); (· rfl); (· exact pkA); (· rfl))
    | refine TC.block ?_ | refine TC.ret ?_ | refine TC.skip ?_ | refine TC.exit ?_ | refine TC.cond rfl ?_
    | refine TQ.down ?_ | refine TQ.in_exit' rfl ?_
    | refine TL.guard_yes rfl rfl ?_ | refine TL.guard_no rfl rfl rfl rfl ?_ | refine TL.guard_no0 rfl rfl rfl ?_ | refine TL.guard_undef rfl rfl rfl ?_ | refine TL.guard_undef0 rfl rfl ?_ | refine TL.guard rfl rfl rfl ?_
    | refine Br.t rfl ?_ | refine Br.f rfl ?_ | refine Br.ky kpA ?_ | refine Br.kn kpA ?_ | refine Br.nky kpA ?_ | refine Br.nkn kpA ?_
    | refine Br.eq0 (fun _ => ?_) (fun _ => ?_) | refine Br.neq0 (fun _ => ?_) (fun _ => ?_) | refine Br.eq (fun _ => ?_) (fun _ => ?_) | refine Br.neq (fun _ => ?_) (fun _ => ?_) | refine Br.not (fun _ => ?_) (fun _ => ?_) | refine Br.dec (fun _ => ?_) (fun _ => ?_) | refine Br.bool (fun _ => ?_) (fun _ => ?_)
    | ((with_reducible apply TL.alloc_ag); (· rfl); intro _) | ((with_reducible apply TL.alloc_sc); (· rfl); (· rfl); intro _) | ((with_reducible apply TL.box_ag); (· rfl); (· rfl); intro _) | ((with_reducible apply TL.box_sc); (· rfl); (· rfl); (· rfl); intro _))
          refine TQ.endR1 (L' := (.row 9 1 (.slice a m.length c) m.length (strs m) :: L)) Tryz.results44 rvA rfl (.refl _) ?_ selA
          exact ⟨a, c, rfl, rfl, rfl⟩
      · refine TC.loopL (α := Nat × Option Addr × Nat × List (List UInt8)) (fun y => y.1 ≤ items.length ∧ y.2.2.2 ++ restD ahead 5 items names y.1 = R ∧ y.2.2.2.length + jszs ((items.map toJ).drop y.1) ≤ 1000) (fun y => items.length - y.1) (fun y _ => [(6, .int .i64 (y.1 : Nat)), (5, .slice y.2.1 y.2.2.2.length y.2.2.1), (2, .pointer (some ⟨bb, 0, none⟩)), (1, str ahead)]) (fun y => .obj bb (.cells [.int .i64 5, .bool b, .int .i64 n, str t, .slice ai items.length ci, .slice an names.length cn].toArray 29 (0, 0)) :: .row 9 1 (.slice y.2.1 y.2.2.2.length y.2.2.1) y.2.2.2.length (strs y.2.2.2) :: L) (0, none, 0, []) ⟨Nat.zero_le _, hR.symm, by rw [List.drop_zero]; show 0 + jszs (items.map toJ) ≤ 1000; omega⟩ subA selA ?_
        clear hR
        rintro ⟨i, a, c, m⟩ ⟨hi, hm, hml⟩
        dsimp only at hi hm hml ⊢
        by_cases hlt : i < items.length
        · obtain ⟨y, hy⟩ : ∃ y, items[i]? = some y := ⟨_, List.getElem?_eq_getElem hlt⟩
          obtain ⟨cs', hV', hcl, hfl⟩ := hI.get hy
          obtain ⟨b3, o3, rfl, hg3⟩ := hSi.elem hlt (by decide)
          have hld3 : ∀ j2 u, cs'[j2]? = some u → g.cell b3 (o3 + i * 6 + j2) = some u := fun j2 u hu => hg3 j2 u (hfl j2 u hu)
          have hWy := wfNs.get (hWs (.inr rfl)) hy
          have hym : (items.map toJ)[i]? = some (toJ y) := by rw [List.getElem?_map, hy]; rfl
          rw [jszs_at hym] at hml
          have hds := dsz_get hy
          rw [restD_at (.inr rfl) (fun e => (hW5 e).1) hy, ← List.append_assoc] at hm
          have F := fun L => rfigures6_gives i g L (by omega)
          have hdl : (Lib.decDigits i).length ≤ 3 := dec_len (by omega) (by omega)
          obtain ⟨nm, hnm⟩ : ∃ s, names[i]? = some s := ⟨_, List.getElem?_eq_getElem (by rw [(hW5 rfl).1]; exact hlt)⟩
          have hnml := (hW5 rfl).2 nm (List.mem_of_getElem? hnm)
          obtain ⟨b6, o6, rfl, hg6⟩ := hSn.elem (show i < names.length by rw [(hW5 rfl).1]; exact hlt) (by decide)
          have hldn : g.cell b6 (o6 + i * 1) = some (str nm) := hg6 0 _ (by rw [Nat.mul_one]; exact strs_get hnm)
          have hin : i < names.length := by rw [(hW5 rfl).1]; exact hlt
          have hst0 : stepD 5 names i = nm := by unfold stepD; rw [if_pos rfl, hnm]; rfl
          rw [hst0] at hm
          have hpl := part_len ahead nm (toJ y)
          have ST := fun L => rSteps6_does (ahead ++ nm) g L (by rw [List.length_append]; omega)
          unfold RStepsR at ST
          have hql : (ahead ++ nm).length = ahead.length + nm.length := List.length_append
          cases hst : stepsL (ahead ++ nm) with
          | none =>
            rw [hst] at ST
            rw [part_no (by unfold toldB; rw [hst]), List.append_nil] at hm
            have HM := Hn.mk hm
            clear hm hI hSi hSn hWs hW5 hst hst0 IH hV' hfl hg3 hy hym
            repeat' (first
    | ((with_reducible apply TL.pure); (· exact yV); (· rfl)) | ((with_reducible apply TW.pure); (· exact yV); (· rfl))
    | ((with_reducible apply TL.pure); (· exact yM); (· rfl)) | ((with_reducible apply TW.pure); (· exact yM); (· rfl))
    | ((with_reducible apply TL.gives_plain); (· kernel_rfl); (· rfl); (· exact F _); (· rfl)) | ((with_reducible apply TW.gives_plain); (· kernel_rfl); (· rfl); (· exact F _); (· rfl))
    | (refine TL.call (Enters.plain (by kernel_rfl) (by rfl)) (by rfl) (ST _) ?_; (rintro e g1 L1 h1 ⟨v1, e1, k1, k2, _, rfl, rfl⟩; have k2 := k2.symm; subst k1; subst k2; refine CallK.ret ?_))
    | ((with_reducible apply TL.pure); (· exact yA); (· rfl))
    | refine TC.seq ?_ | refine TC.region ?_ | refine TL.nil ?_ | refine TQ.then_normal ?_
    | ((with_reducible apply TL.storeE); (· rfl); (· rfl); (· rfl); (· exact pkA); (· infer_instance)) | ((with_reducible apply TL.store_whole); (· rfl); (· rfl); (· exact oneA); (· rfl); (· exact pkA); (· rfl))
    | refine TC.block ?_ | refine TC.ret ?_ | refine TC.skip ?_ | refine TC.exit ?_ | refine TC.cond rfl ?_
    | refine TQ.down ?_ | refine TQ.in_exit' rfl ?_
    | refine TL.guard_yes rfl rfl ?_ | refine TL.guard_no rfl rfl rfl rfl ?_ | refine TL.guard_no0 rfl rfl rfl ?_ | refine TL.guard_undef rfl rfl rfl ?_ | refine TL.guard_undef0 rfl rfl ?_ | refine TL.guard rfl rfl rfl ?_
    | refine Br.t rfl ?_ | refine Br.f rfl ?_ | refine Br.ky kpA ?_ | refine Br.kn kpA ?_ | refine Br.nky kpA ?_ | refine Br.nkn kpA ?_
    | refine Br.eq0 (fun _ => ?_) (fun _ => ?_) | refine Br.neq0 (fun _ => ?_) (fun _ => ?_) | refine Br.eq (fun _ => ?_) (fun _ => ?_) | refine Br.neq (fun _ => ?_) (fun _ => ?_) | refine Br.not (fun _ => ?_) (fun _ => ?_) | refine Br.dec (fun _ => ?_) (fun _ => ?_) | refine Br.bool (fun _ => ?_) (fun _ => ?_)
    | ((with_reducible apply TL.alloc_ag); (· rfl); intro _) | ((with_reducible apply TL.alloc_sc); (· rfl); (· rfl); intro _) | ((with_reducible apply TL.box_ag); (· rfl); (· rfl); intro _) | ((with_reducible apply TL.box_sc); (· rfl); (· rfl); (· rfl); intro _))
            refine TQ.less h1 ?_
            refine TQ.round (i + 1, a, c, m) ?_ ?_ rfl subA selA
            · exact ⟨by dsimp only; omega, HM.out, by dsimp only; omega⟩
            · show items.length - (i + 1) < items.length - i
              omega
          | some l1 =>
            rw [hst] at ST
            obtain ⟨hpj, hl0, hq128, _, hgood⟩ := stepsL_some hst
            have hcount := joinS_count l1 (fun s hs => (hgood s hs).1)
            rw [← hpj] at hcount
            clear hgood hpj
            obtain ⟨j, hj⟩ : ∃ j, l1.length = j + 1 := ⟨l1.length - 1, by have := List.length_pos_iff.2 hl0; omega⟩
            obtain ⟨u, hu⟩ : ∃ u, l1[j]? = some u := ⟨_, List.getElem?_eq_getElem (by omega)⟩
            have htold := told_of (s := nm) hst hj hu
            have hjl : j < l1.length := by omega
            by_cases he : u = nm
            · rw [decide_eq_true he] at htold
              rw [part_yes htold] at hm
              have B := fun (g1 : Gh) (h1 : g.le g1) L => IH y (by omega) cs' (ahead ++ nm ++ [46]) g1 L (IsV.le h1 _ _ hV') hWy (by omega) (by rw [List.length_append, List.length_singleton]; omega)
              unfold AllR at B
              have hRl := all_len (toJ y) (ahead ++ nm ++ [46])
              have HM := Hn.mk hm
              clear hm hI hSi hSn hWs hW5 hst hst0 IH hV' hfl hg3 hy hym htold
              repeat' (first
    | ((with_reducible apply TL.pure (d := 47) (v := .int .i64 ((j : Nat) : Int))); (· exact Y.sub rfl rfl (by rw [IntWalk.i64_in _ (by omega)]; omega)); (· rfl)) | ((with_reducible apply TW.pure (d := 47) (v := .int .i64 ((j : Nat) : Int))); (· exact Y.sub rfl rfl (by rw [IntWalk.i64_in _ (by omega)]; omega)); (· rfl))
    | ((with_reducible apply TL.pure (d := 51) (v := .bool true)); (· exact Y.eql_is (decide_eq_true he) rfl rfl); (· rfl)) | ((with_reducible apply TW.pure (d := 51) (v := .bool true)); (· exact Y.eql_is (decide_eq_true he) rfl rfl); (· rfl))
    | ((with_reducible apply TL.pure); (· exact yV); (· rfl)) | ((with_reducible apply TW.pure); (· exact yV); (· rfl))
    | ((with_reducible apply TL.pure); (· exact yM); (· rfl)) | ((with_reducible apply TW.pure); (· exact yM); (· rfl))
    | ((with_reducible apply TL.gives_plain); (· kernel_rfl); (· rfl); (· exact F _); (· rfl)) | ((with_reducible apply TW.gives_plain); (· kernel_rfl); (· rfl); (· exact F _); (· rfl))
    | (refine TL.call (Enters.plain (by kernel_rfl) (by rfl)) (by rfl) (ST _) ?_; (rintro e g1 L1 h1 ⟨v1, e1, k1, k2, _, rfl, hsl⟩; have k2 := k2.symm; subst k1; subst k2; obtain ⟨a1, c1, rfl⟩ := hsl.slice; obtain ⟨b5, o5, rfl, hg5⟩ := hsl.elem hjl (by decide); have hld5 : g1.cell b5 (o5 + j * 1) = some (str u) := hg5 0 _ (by rw [Nat.mul_one]; exact strs_get hu); have B1 := fun L => B g1 h1 L; have hld6 : ∀ j2 u2, cs'[j2]? = some u2 → g1.cell b3 (o3 + i * 6 + j2) = some u2 := fun j2 u2 h => h1.cell (hld3 j2 u2 h); clear B ST hg5; refine CallK.ret ?_))
    | ((with_reducible apply TL.build_slice); (· rfl); (· rfl); (· exact oneA); (· rfl); (· rfl); (· rfl); intro _) | refine TL.build_one (by rfl) (by first | rfl | assumption) (by rfl) (by rfl) (by rfl) (by rfl) (fun _ => ?_) | refine TL.build_empty (by rfl) (fun _ => ?_)
    | ((with_reducible apply TL.append (e := 9)); (· rfl); (· rfl); (· rfl); (· rfl); (· exact pkA); (· exact src_row pkA); (· exact strs_len _); (· exact strs_all _); (· exact ⟨by unfold maxLen; omega, by omega⟩); (· rfl); intro vf; refine Go.TL.TL.row_slice (v := vf) pkA ?_; rintro a2 c2 rfl _)
    | ((with_reducible apply TL.append (e := 9)); (· rfl); (· rfl); (· rfl); (· rfl); (· exact pkA); (· first | exact Src.obj pkA | exact Src.sl (by assumption) | exact Src.row pkA); (· first | rfl | exact (byteVals_length _).trans (Nat.mul_one _).symm); (· first | exact byteVals_all _ | exact oneA); (· exact ⟨by unfold maxLen; omega, by omega⟩); (· rfl); intro vf; refine Go.TL.TL.row_slice (v := vf) pkA ?_; rintro a2 c2 rfl _)
    | (refine TL.call (Enters.plain (by kernel_rfl) (by rfl)) (by rfl) (B1 _) ?_; (rintro e g3 L3 h3 ⟨a3, c3, k1, k2, k3⟩; have k2 := k2.symm; subst k1; subst k2; subst k3; refine CallK.ret ?_))
    | ((with_reducible apply TL.pure); (· exact yA); (· rfl))
    | refine TC.seq ?_ | refine TC.region ?_ | refine TL.nil ?_ | refine TQ.then_normal ?_
    | ((with_reducible apply TL.storeE); (· rfl); (· rfl); (· rfl); (· exact pkA); (· infer_instance)) | ((with_reducible apply TL.store_whole); (· rfl); (· rfl); (· exact oneA); (· rfl); (· exact pkA); (· rfl))
    | refine TC.block ?_ | refine TC.ret ?_ | refine TC.skip ?_ | refine TC.exit ?_ | refine TC.cond rfl ?_
    | refine TQ.down ?_ | refine TQ.in_exit' rfl ?_
    | refine TL.guard_yes rfl rfl ?_ | refine TL.guard_no rfl rfl rfl rfl ?_ | refine TL.guard_no0 rfl rfl rfl ?_ | refine TL.guard_undef rfl rfl rfl ?_ | refine TL.guard_undef0 rfl rfl ?_ | refine TL.guard rfl rfl rfl ?_
    | refine Br.t rfl ?_ | refine Br.f rfl ?_ | refine Br.ky kpA ?_ | refine Br.kn kpA ?_ | refine Br.nky kpA ?_ | refine Br.nkn kpA ?_
    | refine Br.eq0 (fun _ => ?_) (fun _ => ?_) | refine Br.neq0 (fun _ => ?_) (fun _ => ?_) | refine Br.eq (fun _ => ?_) (fun _ => ?_) | refine Br.neq (fun _ => ?_) (fun _ => ?_) | refine Br.not (fun _ => ?_) (fun _ => ?_) | refine Br.dec (fun _ => ?_) (fun _ => ?_) | refine Br.bool (fun _ => ?_) (fun _ => ?_)
    | ((with_reducible apply TL.alloc_ag); (· rfl); intro _) | ((with_reducible apply TL.alloc_sc); (· rfl); (· rfl); intro _) | ((with_reducible apply TL.box_ag); (· rfl); (· rfl); intro _) | ((with_reducible apply TL.box_sc); (· rfl); (· rfl); (· rfl); intro _))
              refine TQ.less h1 ?_
              rw [show m.length + 1 + (allJ (ahead ++ nm ++ [46]) (toJ y)).length = (m ++ (ahead ++ nm) :: allJ (ahead ++ nm ++ [46]) (toJ y)).length by simp; omega, show strs m ++ [str (ahead ++ nm)] ++ strs (allJ (ahead ++ nm ++ [46]) (toJ y)) = strs (m ++ (ahead ++ nm) :: allJ (ahead ++ nm ++ [46]) (toJ y)) by simp [strs]]
              refine TQ.round (i + 1, a2, c2, m ++ (ahead ++ nm) :: allJ (ahead ++ nm ++ [46]) (toJ y)) ?_ ?_ rfl subA selA
              · exact ⟨by dsimp only; omega, HM.out, by dsimp only; rw [List.length_append, List.length_cons]; omega⟩
              · show items.length - (i + 1) < items.length - i
                omega
            · rw [decide_eq_false he] at htold
              rw [part_no htold, List.append_nil] at hm
              have HM := Hn.mk hm
              clear hm hI hSi hSn hWs hW5 hst hst0 IH hV' hfl hg3 hy hym htold
              repeat' (first
    | ((with_reducible apply TL.pure (d := 47) (v := .int .i64 ((j : Nat) : Int))); (· exact Y.sub rfl rfl (by rw [IntWalk.i64_in _ (by omega)]; omega)); (· rfl)) | ((with_reducible apply TW.pure (d := 47) (v := .int .i64 ((j : Nat) : Int))); (· exact Y.sub rfl rfl (by rw [IntWalk.i64_in _ (by omega)]; omega)); (· rfl))
    | ((with_reducible apply TL.pure (d := 51) (v := .bool false)); (· exact Y.eql_is (decide_eq_false he) rfl rfl); (· rfl)) | ((with_reducible apply TW.pure (d := 51) (v := .bool false)); (· exact Y.eql_is (decide_eq_false he) rfl rfl); (· rfl))
    | ((with_reducible apply TL.pure); (· exact yV); (· rfl)) | ((with_reducible apply TW.pure); (· exact yV); (· rfl))
    | ((with_reducible apply TL.pure); (· exact yM); (· rfl)) | ((with_reducible apply TW.pure); (· exact yM); (· rfl))
    | ((with_reducible apply TL.gives_plain); (· kernel_rfl); (· rfl); (· exact F _); (· rfl)) | ((with_reducible apply TW.gives_plain); (· kernel_rfl); (· rfl); (· exact F _); (· rfl))
    | (refine TL.call (Enters.plain (by kernel_rfl) (by rfl)) (by rfl) (ST _) ?_; (rintro e g1 L1 h1 ⟨v1, e1, k1, k2, _, rfl, hsl⟩; have k2 := k2.symm; subst k1; subst k2; obtain ⟨a1, c1, rfl⟩ := hsl.slice; obtain ⟨b5, o5, rfl, hg5⟩ := hsl.elem hjl (by decide); have hld5 : g1.cell b5 (o5 + j * 1) = some (str u) := hg5 0 _ (by rw [Nat.mul_one]; exact strs_get hu); clear ST hg5; refine CallK.ret ?_))
    | ((with_reducible apply TL.pure); (· exact yA); (· rfl))
    | refine TC.seq ?_ | refine TC.region ?_ | refine TL.nil ?_ | refine TQ.then_normal ?_
    | ((with_reducible apply TL.storeE); (· rfl); (· rfl); (· rfl); (· exact pkA); (· infer_instance)) | ((with_reducible apply TL.store_whole); (· rfl); (· rfl); (· exact oneA); (· rfl); (· exact pkA); (· rfl))
    | refine TC.block ?_ | refine TC.ret ?_ | refine TC.skip ?_ | refine TC.exit ?_ | refine TC.cond rfl ?_
    | refine TQ.down ?_ | refine TQ.in_exit' rfl ?_
    | refine TL.guard_yes rfl rfl ?_ | refine TL.guard_no rfl rfl rfl rfl ?_ | refine TL.guard_no0 rfl rfl rfl ?_ | refine TL.guard_undef rfl rfl rfl ?_ | refine TL.guard_undef0 rfl rfl ?_ | refine TL.guard rfl rfl rfl ?_
    | refine Br.t rfl ?_ | refine Br.f rfl ?_ | refine Br.ky kpA ?_ | refine Br.kn kpA ?_ | refine Br.nky kpA ?_ | refine Br.nkn kpA ?_
    | refine Br.eq0 (fun _ => ?_) (fun _ => ?_) | refine Br.neq0 (fun _ => ?_) (fun _ => ?_) | refine Br.eq (fun _ => ?_) (fun _ => ?_) | refine Br.neq (fun _ => ?_) (fun _ => ?_) | refine Br.not (fun _ => ?_) (fun _ => ?_) | refine Br.dec (fun _ => ?_) (fun _ => ?_) | refine Br.bool (fun _ => ?_) (fun _ => ?_)
    | ((with_reducible apply TL.alloc_ag); (· rfl); intro _) | ((with_reducible apply TL.alloc_sc); (· rfl); (· rfl); intro _) | ((with_reducible apply TL.box_ag); (· rfl); (· rfl); intro _) | ((with_reducible apply TL.box_sc); (· rfl); (· rfl); (· rfl); intro _))
              refine TQ.less h1 ?_
              refine TQ.round (i + 1, a, c, m) ?_ ?_ rfl subA selA
              · exact ⟨by dsimp only; omega, HM.out, by dsimp only; omega⟩
              · show items.length - (i + 1) < items.length - i
                omega
        · obtain rfl : i = items.length := by omega
          rw [restD_end, List.append_nil] at hm
          subst hm
          clear hI hSi hSn hWs hW5 IH
          repeat' (first
    | ((with_reducible apply TL.pure); (· exact yV); (· rfl)) | ((with_reducible apply TW.pure); (· exact yV); (· rfl))
    | ((with_reducible apply TL.pure); (· exact yM); (· rfl)) | ((with_reducible apply TW.pure); (· exact yM); (· rfl))
    | ((with_reducible apply TL.pure); (· exact yA); (· rfl))
    | refine TC.seq ?_ | refine TC.region ?_ | refine TL.nil ?_ | refine TQ.then_normal ?_
    | ((with_reducible apply TL.storeE); (· rfl); (· rfl); (· rfl); (· exact pkA); (· infer_instance)) | ((with_reducible apply TL.store_whole); (· rfl); (· rfl); (· exact oneA); (· rfl); (· exact pkA); (· rfl))
    | refine TC.block ?_ | refine TC.ret ?_ | refine TC.skip ?_ | refine TC.exit ?_ | refine TC.cond rfl ?_
    | refine TQ.down ?_ | refine TQ.in_exit' rfl ?_
    | refine TL.guard_yes rfl rfl ?_ | refine TL.guard_no rfl rfl rfl rfl ?_ | refine TL.guard_no0 rfl rfl rfl ?_ | refine TL.guard_undef rfl rfl rfl ?_ | refine TL.guard_undef0 rfl rfl ?_ | refine TL.guard rfl rfl rfl ?_
    | refine Br.t rfl ?_ | refine Br.f rfl ?_ | refine Br.ky kpA ?_ | refine Br.kn kpA ?_ | refine Br.nky kpA ?_ | refine Br.nkn kpA ?_
    | refine Br.eq0 (fun _ => ?_) (fun _ => ?_) | refine Br.neq0 (fun _ => ?_) (fun _ => ?_) | refine Br.eq (fun _ => ?_) (fun _ => ?_) | refine Br.neq (fun _ => ?_) (fun _ => ?_) | refine Br.not (fun _ => ?_) (fun _ => ?_) | refine Br.dec (fun _ => ?_) (fun _ => ?_) | refine Br.bool (fun _ => ?_) (fun _ => ?_)
    | ((with_reducible apply TL.alloc_ag); (· rfl); intro _) | ((with_reducible apply TL.alloc_sc); (· rfl); (· rfl); intro _) | ((with_reducible apply TL.box_ag); (· rfl); (· rfl); intro _) | ((with_reducible apply TL.box_sc); (· rfl); (· rfl); (· rfl); intro _))
          refine TQ.endR1 (L' := (.row 9 1 (.slice a m.length c) m.length (strs m) :: L)) Tryz.results44 rvA rfl (.refl _) ?_ selA
          exact ⟨a, c, rfl, rfl, rfl⟩
    · have hR0 : R = [] := by
        rw [hR]; unfold restD
        rw [if_neg (fun h => hk (.inr h)), if_neg (fun h => hk (.inl h))]
      subst hR0
      have n4 : Hn (¬ k = 4) := ⟨fun h => hk (.inl h)⟩
      have n5 : Hn (¬ k = 5) := ⟨fun h => hk (.inr h)⟩
      clear hR hI hSi hSn hWs hW5 IH hk
      have F := fun L => rfigures6_gives 0 g L (by omega)
      repeat' (first
    | ((with_reducible apply TL.pure); (· exact yV); (· rfl)) | ((with_reducible apply TW.pure); (· exact yV); (· rfl))
    | ((with_reducible apply TL.pure); (· exact yA); (· rfl))
    | refine TC.seq ?_ | refine TC.region ?_ | refine TL.nil ?_ | refine TQ.then_normal ?_
    | ((with_reducible apply TL.storeE); (· rfl); (· rfl); (· rfl); (· exact pkA); (· infer_instance)) | ((with_reducible apply TL.store_whole); (· rfl); (· rfl); (· exact oneA); (· rfl); (· exact pkA); (· rfl))
    | refine TC.block ?_ | refine TC.ret ?_ | refine TC.skip ?_ | refine TC.exit ?_ | refine TC.cond rfl ?_
    | refine TQ.down ?_ | refine TQ.in_exit' rfl ?_
    | refine TL.guard_yes rfl rfl ?_ | refine TL.guard_no rfl rfl rfl rfl ?_ | refine TL.guard_no0 rfl rfl rfl ?_ | refine TL.guard_undef rfl rfl rfl ?_ | refine TL.guard_undef0 rfl rfl ?_ | refine TL.guard rfl rfl rfl ?_
    | refine Br.t rfl ?_ | refine Br.f rfl ?_ | refine Br.ky kpA ?_ | refine Br.kn kpA ?_ | refine Br.nky kpA ?_ | refine Br.nkn kpA ?_
    | refine Br.eq0 (fun _ => ?_) (fun _ => ?_) | refine Br.neq0 (fun _ => ?_) (fun _ => ?_) | refine Br.eq (fun _ => ?_) (fun _ => ?_) | refine Br.neq (fun _ => ?_) (fun _ => ?_) | refine Br.not (fun _ => ?_) (fun _ => ?_) | refine Br.dec (fun _ => ?_) (fun _ => ?_) | refine Br.bool (fun _ => ?_) (fun _ => ?_)
    | ((with_reducible apply TL.alloc_ag); (· rfl); intro _) | ((with_reducible apply TL.alloc_sc); (· rfl); (· rfl); intro _) | ((with_reducible apply TL.box_ag); (· rfl); (· rfl); intro _) | ((with_reducible apply TL.box_sc); (· rfl); (· rfl); (· rfl); intro _))
      rename_i bb
      refine TC.loopL (fun i : Nat => i = 0) (fun _ => 0) (fun i _ => [(6, .int .i64 (i : Nat)), (5, .slice none 0 0), (2, .pointer (some ⟨bb, 0, none⟩)), (1, str ahead)]) (fun _ => .obj bb (.cells [.int .i64 k, .bool b, .int .i64 n, str t, .slice ai items.length ci, .slice an names.length cn].toArray 29 (0, 0)) :: .row 9 1 (.slice none 0 0) 0 [] :: L) 0 rfl subA selA ?_
      rintro i rfl
      try dsimp only
      by_cases hlt : 0 < items.length
      · repeat' (first
    | ((with_reducible apply TL.pure); (· exact yV); (· rfl)) | ((with_reducible apply TW.pure); (· exact yV); (· rfl))
    | ((with_reducible apply TL.pure); (· exact yM); (· rfl)) | ((with_reducible apply TW.pure); (· exact yM); (· rfl))
    | ((with_reducible apply TL.gives_plain); (· kernel_rfl); (· rfl); (· exact F _); (· rfl)) | ((with_reducible apply TW.gives_plain); (· kernel_rfl); (· rfl); (· exact F _); (· rfl))
    | ((with_reducible apply TL.pure); (· exact yA); (· rfl))
    | refine TC.seq ?_ | refine TC.region ?_ | refine TL.nil ?_ | refine TQ.then_normal ?_
    | ((with_reducible apply TL.storeE); (· rfl); (· rfl); (· rfl); (· exact pkA); (· infer_instance)) | ((with_reducible apply TL.store_whole); (· rfl); (· rfl); (· exact oneA); (· rfl); (· exact pkA); (· rfl))
    | refine TC.block ?_ | refine TC.ret ?_ | refine TC.skip ?_ | refine TC.exit ?_ | refine TC.cond rfl ?_
    | refine TQ.down ?_ | refine TQ.in_exit' rfl ?_
    | refine TL.guard_yes rfl rfl ?_ | refine TL.guard_no rfl rfl rfl rfl ?_ | refine TL.guard_no0 rfl rfl rfl ?_ | refine TL.guard_undef rfl rfl rfl ?_ | refine TL.guard_undef0 rfl rfl ?_ | refine TL.guard rfl rfl rfl ?_
    | refine Br.t rfl ?_ | refine Br.f rfl ?_ | refine Br.ky kpA ?_ | refine Br.kn kpA ?_ | refine Br.nky kpA ?_ | refine Br.nkn kpA ?_
    | refine Br.eq0 (fun _ => ?_) (fun _ => ?_) | refine Br.neq0 (fun _ => ?_) (fun _ => ?_) | refine Br.eq (fun _ => ?_) (fun _ => ?_) | refine Br.neq (fun _ => ?_) (fun _ => ?_) | refine Br.not (fun _ => ?_) (fun _ => ?_) | refine Br.dec (fun _ => ?_) (fun _ => ?_) | refine Br.bool (fun _ => ?_) (fun _ => ?_)
    | ((with_reducible apply TL.alloc_ag); (· rfl); intro _) | ((with_reducible apply TL.alloc_sc); (· rfl); (· rfl); intro _) | ((with_reducible apply TL.box_ag); (· rfl); (· rfl); intro _) | ((with_reducible apply TL.box_sc); (· rfl); (· rfl); (· rfl); intro _))
        refine TQ.endR1 (L' := (.row 9 1 (.slice none 0 0) 0 [] :: L)) Tryz.results44 rvA rfl (.refl _) ?_ selA
        exact ⟨none, 0, rfl, rfl, rfl⟩
      · repeat' (first
    | ((with_reducible apply TL.pure); (· exact yV); (· rfl)) | ((with_reducible apply TW.pure); (· exact yV); (· rfl))
    | ((with_reducible apply TL.pure); (· exact yM); (· rfl)) | ((with_reducible apply TW.pure); (· exact yM); (· rfl))
    | ((with_reducible apply TL.pure); (· exact yA); (· rfl))
    | refine TC.seq ?_ | refine TC.region ?_ | refine TL.nil ?_ | refine TQ.then_normal ?_
    | ((with_reducible apply TL.storeE); (· rfl); (· rfl); (· rfl); (· exact pkA); (· infer_instance)) | ((with_reducible apply TL.store_whole); (· rfl); (· rfl); (· exact oneA); (· rfl); (· exact pkA); (· rfl))
    | refine TC.block ?_ | refine TC.ret ?_ | refine TC.skip ?_ | refine TC.exit ?_ | refine TC.cond rfl ?_
    | refine TQ.down ?_ | refine TQ.in_exit' rfl ?_
    | refine TL.guard_yes rfl rfl ?_ | refine TL.guard_no rfl rfl rfl rfl ?_ | refine TL.guard_no0 rfl rfl rfl ?_ | refine TL.guard_undef rfl rfl rfl ?_ | refine TL.guard_undef0 rfl rfl ?_ | refine TL.guard rfl rfl rfl ?_
    | refine Br.t rfl ?_ | refine Br.f rfl ?_ | refine Br.ky kpA ?_ | refine Br.kn kpA ?_ | refine Br.nky kpA ?_ | refine Br.nkn kpA ?_
    | refine Br.eq0 (fun _ => ?_) (fun _ => ?_) | refine Br.neq0 (fun _ => ?_) (fun _ => ?_) | refine Br.eq (fun _ => ?_) (fun _ => ?_) | refine Br.neq (fun _ => ?_) (fun _ => ?_) | refine Br.not (fun _ => ?_) (fun _ => ?_) | refine Br.dec (fun _ => ?_) (fun _ => ?_) | refine Br.bool (fun _ => ?_) (fun _ => ?_)
    | ((with_reducible apply TL.alloc_ag); (· rfl); intro _) | ((with_reducible apply TL.alloc_sc); (· rfl); (· rfl); intro _) | ((with_reducible apply TL.box_ag); (· rfl); (· rfl); intro _) | ((with_reducible apply TL.box_sc); (· rfl); (· rfl); (· rfl); intro _))
        refine TQ.endR1 (L' := (.row 9 1 (.slice none 0 0) 0 [] :: L)) Tryz.results44 rvA rfl (.refl _) ?_ selA
        exact ⟨none, 0, rfl, rfl, rfl⟩
end Go.Proofs.YtacogbfgegcliaaGreatDoor
