/-
  The walk of path.Steps.
-/
import Derived.Test.YtacogbfgegcliaaGreatDoorHg15
import Derived.Test.YtacogbfgegcliaaGreatDoorHg6
import Derived.Test.YtacogbfgegcliaaGreatDoorHg0
namespace Go.Proofs.YtacogbfgegcliaaGreatDoor
open Go.RowKit Go.TL
set_option maxRecDepth 100000

def StepsR (p : List UInt8) (L : List Ent) : Ending → Gh → List Ent → Prop := fun r g' L1 => ∃ v e, r = .returned (.tuple #[v, .int .i64 (e : Nat)]) ∧ L1 = L ∧ v.one = true ∧ (match stepsL p with
  | some l => e = 0 ∧ Sl g' v l.length 1 (strs l)
  | none => e = 16 ∧ v = .slice none 0 0)
structure StS where
  i : Nat
  from' : Nat
  v : Value
  l : List (List UInt8)
structure StI (p : List UInt8) (x : StS) : Prop where
  le : x.i ≤ p.length + 1
  fl : x.from' ≤ x.i
  ln : x.l.length ≤ x.i
  ii : x.i ≤ p.length → stepsF p [] = (stepsF (p.drop x.i) ((p.drop x.from').take (x.i - x.from'))).map fun r => x.l ++ r
  done : x.i = p.length + 1 → stepsF p [] = some x.l
set_option maxHeartbeats 16000000 in
theorem steps_does (p : List UInt8) (g : Gh) (L : List Ent) (hp : p.length ≤ 1000000) (hU : GU8 g) : Does Tryz.prog 39 #[str p] g L (StepsR p L) := by
  refine Does.of1 Tryz.func39 rfl Tryz.ntmps39 rfl ?_
  unfold StepsR
  have A := fun L => valid_gives p (L := L) hU (by omega)
  by_cases h1 : 128 < p.length
  · have hn : stepsL p = none := by unfold stepsL; rw [if_neg (by omega)]
    rw [hn]
    clear A
    repeat' (first
    | ((with_reducible apply TL.pure); (· exact yV); (· rfl)) | ((with_reducible apply TW.pure); (· exact yV); (· rfl))
    | ((with_reducible apply TL.pure); (· exact yA); (· rfl))
    | refine TC.seq ?_ | refine TC.region ?_ | refine TL.nil ?_ | refine TQ.then_normal ?_
    | ((with_reducible apply TL.storeE); (· rfl); (· rfl); (· rfl); (· exact pkA); (· infer_instance)) | ((with_reducible apply TL.store_whole); (· rfl); (· rfl); (· exact oneA); (· rfl); (· exact pkA); (· rfl))
    | refine TC.block ?_ | refine TC.ret ?_ | refine TC.skip ?_ | refine TC.exit ?_ | refine TC.cond rfl ?_
    | refine TQ.down ?_ | refine TQ.in_exit' rfl ?_
    | refine TL.guard_yes rfl rfl ?_ | refine TL.guard_no rfl rfl rfl rfl ?_ | refine TL.guard_no0 rfl rfl rfl ?_ | refine TL.guard_undef rfl rfl rfl ?_ | refine TL.guard_undef0 rfl rfl ?_ | refine TL.guard rfl rfl rfl ?_
    | refine Br.t rfl ?_ | refine Br.f rfl ?_ | refine Br.ky kpA ?_ | refine Br.kn kpA ?_ | refine Br.nky kpA ?_ | refine Br.nkn kpA ?_
    | refine Br.eq0 (fun _ => ?_) (fun _ => ?_) | refine Br.neq0 (fun _ => ?_) (fun _ => ?_) | refine Br.eq (fun _ => ?_) (fun _ => ?_) | refine Br.neq (fun _ => ?_) (fun _ => ?_) | refine Br.not (fun _ => ?_) (fun _ => ?_) | refine Br.dec (fun _ => ?_) (fun _ => ?_) | refine Br.bool (fun _ => ?_) (fun _ => ?_)
    | ((with_reducible apply TL.alloc_ag); (· rfl); intro _) | ((with_reducible apply TL.alloc_sc); (· rfl); (· rfl); intro _) | ((with_reducible apply TL.box_ag); (· rfl); (· rfl); intro _) | ((with_reducible apply TL.box_sc); (· rfl); (· rfl); (· rfl); intro _))
    refine TQ.endR2 (L' := L) Tryz.results39 rvA rvA rfl (.refl _) ?_ selA
    exact ⟨_, 16, rfl, rfl, rfl, rfl, rfl⟩
  by_cases h2 : utfL p = true
  · rw [h2] at A
    repeat' (first
    | ((with_reducible apply TL.pure); (· exact yV); (· rfl)) | ((with_reducible apply TW.pure); (· exact yV); (· rfl))
    | ((with_reducible apply TL.gives_plain); (· kernel_rfl); (· rfl); (· exact A _); (· rfl)) | ((with_reducible apply TW.gives_plain); (· kernel_rfl); (· rfl); (· exact A _); (· rfl))
    | ((with_reducible apply TL.pure); (· exact yA); (· rfl))
    | ((with_reducible apply TL.byteK); (· rfl); (· rfl); (· exact natA); (· assumption); (· rfl); intro _) | ((with_reducible apply TL.byte); (· rfl); (· rfl); (· exact natA); (· exact omA); (· rfl); intro _ _ _)
    | refine TC.seq ?_ | refine TC.region ?_ | refine TL.nil ?_ | refine TQ.then_normal ?_
    | ((with_reducible apply TL.storeE); (· rfl); (· rfl); (· rfl); (· exact pkA); (· infer_instance)) | ((with_reducible apply TL.store_whole); (· rfl); (· rfl); (· exact oneA); (· rfl); (· exact pkA); (· rfl))
    | refine TC.block ?_ | refine TC.ret ?_ | refine TC.skip ?_ | refine TC.exit ?_ | refine TC.cond rfl ?_
    | refine TQ.down ?_ | refine TQ.in_exit' rfl ?_
    | refine TL.guard_yes rfl rfl ?_ | refine TL.guard_no rfl rfl rfl rfl ?_ | refine TL.guard_no0 rfl rfl rfl ?_ | refine TL.guard_undef rfl rfl rfl ?_ | refine TL.guard_undef0 rfl rfl ?_ | refine TL.guard rfl rfl rfl ?_
    | refine Br.t rfl ?_ | refine Br.f rfl ?_ | refine Br.ky kpA ?_ | refine Br.kn kpA ?_ | refine Br.nky kpA ?_ | refine Br.nkn kpA ?_
    | refine Br.eq0 (fun _ => ?_) (fun _ => ?_) | refine Br.neq0 (fun _ => ?_) (fun _ => ?_) | refine Br.eq (fun _ => ?_) (fun _ => ?_) | refine Br.neq (fun _ => ?_) (fun _ => ?_) | refine Br.not (fun _ => ?_) (fun _ => ?_) | refine Br.dec (fun _ => ?_) (fun _ => ?_) | refine Br.bool (fun _ => ?_) (fun _ => ?_)
    | ((with_reducible apply TL.alloc_ag); (· rfl); intro _) | ((with_reducible apply TL.alloc_sc); (· rfl); (· rfl); intro _) | ((with_reducible apply TL.box_ag); (· rfl); (· rfl); intro _) | ((with_reducible apply TL.box_sc); (· rfl); (· rfl); (· rfl); intro _)
    | apply TC.region_draw (by kernel_rfl) (by kernel_rfl) | refine TW.nil ?_ | ((with_reducible apply TW.pure); (· exact yA); (· rfl))
    | ((with_reducible apply TL.range_str); (· rfl); (· rfl); intro _) | ((with_reducible apply TL.next_str); (· rfl); (· exact pkA); (· rfl); all_goals intro _)
    | ((with_reducible apply TW.byteK); (· rfl); (· rfl); (· exact natA); (· assumption); (· rfl); intro _) | ((with_reducible apply TW.byte); (· rfl); (· rfl); (· exact natA); (· exact omA); (· rfl); intro _ _ _)
    | refine TW.guard_yes rfl rfl ?_ | refine TW.guard_no rfl rfl rfl rfl ?_ | refine TW.guard_undef rfl rfl rfl ?_ | refine TW.guard rfl rfl rfl ?_)
    rename_i bi
    refine TC.row_nil 9 1 ?_
    refine TC.loopL (StI p) (fun x => p.length + 1 - x.i) (fun x _ => [(4, x.v), (5, .int .i64 (x.from' : Nat)), (18, .pointer (some ⟨bi, 0, none⟩)), (0, str p)]) (fun x => .obj bi (.stringIter ⟨(p ++ [46]).toArray⟩ x.i) :: .row 9 1 x.v x.l.length (strs x.l) :: L) ⟨0, 0, .slice none 0 0, []⟩ ?_ subA selA ?_
    · refine ⟨by simp, Nat.le_refl _, Nat.le_refl _, fun _ => ?_, fun h => by simp at h⟩
      show stepsF p [] = _
      rw [Nat.sub_self, List.take_zero, List.drop_zero]
      cases stepsF p [] <;> rfl
    clear A
    rintro ⟨i, fr, v, l⟩ ⟨hi, hfr, hln, hii, hdone⟩
    dsimp only at hi hfr hln hii hdone ⊢
    have hsl : (p ++ [46]).length = p.length + 1 := by simp
    by_cases he : i = p.length + 1
    · have hR : stepsL p = some l := by
        have h1p : 1 ≤ p.length := by
          cases p with
          | nil => have := hdone he; rw [stepsF, if_pos rfl] at this; cases this
          | cons => rw [List.length_cons]; omega
        unfold stepsL
        rw [if_pos ⟨h1p, by omega, h2⟩]
        exact hdone he
      rw [hR]
      have hlen : (p ++ [46]).length ≤ i := by omega
      clear hii hdone hsl
      repeat' (first
    | ((with_reducible apply TL.pure); (· exact yV); (· rfl)) | ((with_reducible apply TW.pure); (· exact yV); (· rfl))
    | ((with_reducible apply TL.next_end); (· rfl); (· exact pkA); (· exact hlen); (· rfl))
    | ((with_reducible apply TL.pure); (· exact yA); (· rfl))
    | refine TC.seq ?_ | refine TC.region ?_ | refine TL.nil ?_ | refine TQ.then_normal ?_
    | ((with_reducible apply TL.storeE); (· rfl); (· rfl); (· rfl); (· exact pkA); (· infer_instance)) | ((with_reducible apply TL.store_whole); (· rfl); (· rfl); (· exact oneA); (· rfl); (· exact pkA); (· rfl))
    | refine TC.block ?_ | refine TC.ret ?_ | refine TC.skip ?_ | refine TC.exit ?_ | refine TC.cond rfl ?_
    | refine TQ.down ?_ | refine TQ.in_exit' rfl ?_
    | refine TL.guard_yes rfl rfl ?_ | refine TL.guard_no rfl rfl rfl rfl ?_ | refine TL.guard_no0 rfl rfl rfl ?_ | refine TL.guard_undef rfl rfl rfl ?_ | refine TL.guard_undef0 rfl rfl ?_ | refine TL.guard rfl rfl rfl ?_
    | refine Br.t rfl ?_ | refine Br.f rfl ?_ | refine Br.ky kpA ?_ | refine Br.kn kpA ?_ | refine Br.nky kpA ?_ | refine Br.nkn kpA ?_
    | refine Br.eq0 (fun _ => ?_) (fun _ => ?_) | refine Br.neq0 (fun _ => ?_) (fun _ => ?_) | refine Br.eq (fun _ => ?_) (fun _ => ?_) | refine Br.neq (fun _ => ?_) (fun _ => ?_) | refine Br.not (fun _ => ?_) (fun _ => ?_) | refine Br.dec (fun _ => ?_) (fun _ => ?_) | refine Br.bool (fun _ => ?_) (fun _ => ?_)
    | ((with_reducible apply TL.alloc_ag); (· rfl); intro _) | ((with_reducible apply TL.alloc_sc); (· rfl); (· rfl); intro _) | ((with_reducible apply TL.box_ag); (· rfl); (· rfl); intro _) | ((with_reducible apply TL.box_sc); (· rfl); (· rfl); (· rfl); intro _))
      refine TQ.freeze (v := v) pkA ?_
      intro gf hgf hsl
      have hone : v.one = true := by obtain ⟨ao, cap, rfl⟩ := hsl.slice; rfl
      refine TQ.endR2 (L' := L) Tryz.results39 rvA rvA rfl (hgf) ?_ selA
      exact ⟨v, 0, rfl, rfl, hone, rfl, hsl⟩
    have hii := hii (by omega)
    clear hdone
    have hlen : i < (p ++ [46]).length := by omega
    obtain ⟨c, k, hck⟩ : ∃ c k, Utf8.decode ⟨(p ++ [46]).toArray⟩ i = (c, k) := ⟨_, _, rfl⟩
    have hdd := hck
    rw [dec_at, List.drop_append_of_le_length (by omega)] at hdd
    obtain ⟨cur, hcur⟩ : ∃ cur, cur = (p.drop fr).take (i - fr) := ⟨_, rfl⟩
    rw [← hcur] at hii
    have hcl : cur.length = i - fr := by rw [hcur, List.length_take, List.length_drop]; omega
    by_cases hdot : i = p.length ∨ p[i]? = some 46
    · have h46 : c = 46 ∧ k = 1 := by
        have : ∃ r, p.drop i ++ [46] = 46 :: r := by
          rcases hdot with h | h
          · rw [h, List.drop_length]; exact ⟨_, rfl⟩
          · obtain ⟨h3, h4⟩ := List.getElem?_eq_some_iff.1 h
            rw [List.drop_eq_getElem_cons h3, h4]; exact ⟨_, rfl⟩
        obtain ⟨r, hr⟩ := this
        rw [hr, (dec_sep 46 r).1 rfl] at hdd
        simpa using hdd.symm
      obtain ⟨rfl, rfl⟩ := h46
      by_cases hif : i = fr
      · have hc0 : cur = [] := List.eq_nil_of_length_eq_zero (by omega)
        have hn : stepsL p = none := by
          unfold stepsL
          split
          · rw [hii, hc0]
            rcases hdot with h | h
            · rw [h, List.drop_length, stepsF, if_pos rfl]; rfl
            · obtain ⟨h3, h4⟩ := List.getElem?_eq_some_iff.1 h
              rw [List.drop_eq_getElem_cons h3, h4, stepsF, if_pos rfl, if_pos rfl]; rfl
          · rfl
        rw [hn]
        subst hif
        clear hii hcur hdd hdot hsl
        repeat' (first
    | ((with_reducible apply TL.pure); (· exact yV); (· rfl)) | ((with_reducible apply TW.pure); (· exact yV); (· rfl))
    | ((with_reducible apply TL.next_at); (· rfl); (· exact pkA); (· exact hlen); (· exact hck); (· rfl))
    | ((with_reducible apply TL.pure); (· exact yA); (· rfl))
    | refine TC.seq ?_ | refine TC.region ?_ | refine TL.nil ?_ | refine TQ.then_normal ?_
    | ((with_reducible apply TL.storeE); (· rfl); (· rfl); (· rfl); (· exact pkA); (· infer_instance)) | ((with_reducible apply TL.store_whole); (· rfl); (· rfl); (· exact oneA); (· rfl); (· exact pkA); (· rfl))
    | refine TC.block ?_ | refine TC.ret ?_ | refine TC.skip ?_ | refine TC.exit ?_ | refine TC.cond rfl ?_
    | refine TQ.down ?_ | refine TQ.in_exit' rfl ?_
    | refine TL.guard_yes rfl rfl ?_ | refine TL.guard_no rfl rfl rfl rfl ?_ | refine TL.guard_no0 rfl rfl rfl ?_ | refine TL.guard_undef rfl rfl rfl ?_ | refine TL.guard_undef0 rfl rfl ?_ | refine TL.guard rfl rfl rfl ?_
    | refine Br.t rfl ?_ | refine Br.f rfl ?_ | refine Br.ky kpA ?_ | refine Br.kn kpA ?_ | refine Br.nky kpA ?_ | refine Br.nkn kpA ?_
    | refine Br.eq0 (fun _ => ?_) (fun _ => ?_) | refine Br.neq0 (fun _ => ?_) (fun _ => ?_) | refine Br.eq (fun _ => ?_) (fun _ => ?_) | refine Br.neq (fun _ => ?_) (fun _ => ?_) | refine Br.not (fun _ => ?_) (fun _ => ?_) | refine Br.dec (fun _ => ?_) (fun _ => ?_) | refine Br.bool (fun _ => ?_) (fun _ => ?_)
    | ((with_reducible apply TL.alloc_ag); (· rfl); intro _) | ((with_reducible apply TL.alloc_sc); (· rfl); (· rfl); intro _) | ((with_reducible apply TL.box_ag); (· rfl); (· rfl); intro _) | ((with_reducible apply TL.box_sc); (· rfl); (· rfl); (· rfl); intro _))
        refine TQ.endR2 (L' := L) Tryz.results39 rvA rvA rfl (.refl _) ?_ selA
        exact ⟨_, 16, rfl, rfl, rfl, rfl, rfl⟩
      · have hne : Hn (¬ ((i : Nat) : Int) = (fr : Nat)) := ⟨by omega⟩
        have hip : i ≤ p.length := by omega
        have HI := Hn.mk hii
        have HC := Hn.mk hcur
        have HD := Hn.mk hdot
        clear hii hcur hdd hdot hsl
        repeat' (first
    | ((with_reducible apply TL.pure); (· exact yV); (· rfl)) | ((with_reducible apply TW.pure); (· exact yV); (· rfl))
    | ((with_reducible apply TL.next_at); (· rfl); (· exact pkA); (· exact hlen); (· exact hck); (· rfl))
    | ((with_reducible apply TL.build_slice); (· rfl); (· rfl); (· exact oneA); (· rfl); (· rfl); (· rfl); intro _) | refine TL.build_one (by rfl) (by first | rfl | assumption) (by rfl) (by rfl) (by rfl) (by rfl) (fun _ => ?_) | refine TL.build_empty (by rfl) (fun _ => ?_)
    | ((with_reducible apply TL.append); (· rfl); (· rfl); (· rfl); (· rfl); (· exact pkA); (· first | exact Src.obj pkA | exact Src.sl (by assumption) | exact Src.row pkA); (· first | rfl | exact (byteVals_length _).trans (Nat.mul_one _).symm); (· first | exact byteVals_all _ | exact oneA); (· exact ⟨by unfold maxLen; omega, by omega⟩); (· rfl); intro _)
    | ((with_reducible apply TL.pure); (· exact yA); (· rfl))
    | refine TC.seq ?_ | refine TC.region ?_ | refine TL.nil ?_ | refine TQ.then_normal ?_
    | ((with_reducible apply TL.storeE); (· rfl); (· rfl); (· rfl); (· exact pkA); (· infer_instance)) | ((with_reducible apply TL.store_whole); (· rfl); (· rfl); (· exact oneA); (· rfl); (· exact pkA); (· rfl))
    | refine TC.block ?_ | refine TC.ret ?_ | refine TC.skip ?_ | refine TC.exit ?_ | refine TC.cond rfl ?_
    | refine TQ.down ?_ | refine TQ.in_exit' rfl ?_
    | refine TL.guard_yes rfl rfl ?_ | refine TL.guard_no rfl rfl rfl rfl ?_ | refine TL.guard_no0 rfl rfl rfl ?_ | refine TL.guard_undef rfl rfl rfl ?_ | refine TL.guard_undef0 rfl rfl ?_ | refine TL.guard rfl rfl rfl ?_
    | refine Br.t rfl ?_ | refine Br.f rfl ?_ | refine Br.ky kpA ?_ | refine Br.kn kpA ?_ | refine Br.nky kpA ?_ | refine Br.nkn kpA ?_
    | refine Br.eq0 (fun _ => ?_) (fun _ => ?_) | refine Br.neq0 (fun _ => ?_) (fun _ => ?_) | refine Br.eq (fun _ => ?_) (fun _ => ?_) | refine Br.neq (fun _ => ?_) (fun _ => ?_) | refine Br.not (fun _ => ?_) (fun _ => ?_) | refine Br.dec (fun _ => ?_) (fun _ => ?_) | refine Br.bool (fun _ => ?_) (fun _ => ?_)
    | ((with_reducible apply TL.alloc_ag); (· rfl); intro _) | ((with_reducible apply TL.alloc_sc); (· rfl); (· rfl); intro _) | ((with_reducible apply TL.box_ag); (· rfl); (· rfl); intro _) | ((with_reducible apply TL.box_sc); (· rfl); (· rfl); (· rfl); intro _))
        rename_i b v'
        rw [← HC.out, show l.length + 1 = (l ++ [cur]).length by simp, show strs l ++ [Value.string ⟨cur.toArray⟩] = strs (l ++ [cur]) by simp [strs]]
        refine TQ.round ⟨i + 1, i + 1, v', l ++ [cur]⟩ ?_ ?_ rfl subA selA
        · refine ⟨by dsimp only; omega, Nat.le_refl _, by simp; omega, fun h => ?_, fun h => ?_⟩
          · have hii := HI.out
            dsimp only at h ⊢
            rcases HD.out with h3 | h3
            · omega
            obtain ⟨h3, h4⟩ := List.getElem?_eq_some_iff.1 h3
            rw [List.drop_eq_getElem_cons h3, h4, stepsF, if_pos rfl, if_neg (fun e => by rw [e] at hcl; simp at hcl; omega)] at hii
            rw [hii, Nat.sub_self, List.take_zero, Option.map_map]
            congr 1
            funext r
            simp
          · have hii := HI.out
            dsimp only at h ⊢
            obtain rfl : i = p.length := by omega
            rw [List.drop_length, stepsF, if_neg (fun e => by rw [e] at hcl; simp at hcl; omega)] at hii
            rw [hii]; rfl
        · show p.length + 1 - (i + 1) < p.length + 1 - i
          omega
    · have hip : i < p.length := by
        apply Nat.lt_of_not_le
        intro h
        exact hdot (.inl (by omega))
      have hx : p.drop i ++ [46] = p[i] :: (p.drop (i + 1) ++ [46]) := by rw [List.drop_eq_getElem_cons hip]; rfl
      have hx46 : p[i] ≠ 46 := fun e => hdot (.inr (by rw [List.getElem?_eq_getElem hip, e]))
      obtain ⟨d1, d2, d3, d4⟩ := (dec_sep p[i] (p.drop (i + 1) ++ [46])).2 hx46
      rw [← hx, hdd] at d1 d2 d3 d4
      dsimp only at d1 d2 d3 d4
      have hk : i + k ≤ p.length := by
        apply Nat.le_of_not_lt
        intro hlt
        refine d4 46 ?_ rfl
        rw [List.take_append, List.mem_append]
        right
        rw [List.length_drop, show k - (p.length - i) = (k - (p.length - i) - 1) + 1 by omega, List.take_succ_cons]
        simp
      have hsp : p.drop i = (p.drop i).take k ++ p.drop (i + k) := by
        conv => lhs; rw [← List.take_append_drop k (p.drop i)]
        rw [List.drop_drop]
      have hrun : stepsF (p.drop i) cur = stepsF (p.drop (i + k)) (cur ++ (p.drop i).take k) := by
        rw [hsp]
        rw [stepsF_run _ _ _ (fun y hy => d4 y (by rw [List.take_append]; exact List.mem_append_left _ hy)), ← hsp]
      have hcc : cur ++ (p.drop i).take k = (p.drop fr).take (i + k - fr) := by
        rw [hcur, show i + k - fr = (i - fr) + k by omega, List.take_add, List.drop_drop, show fr + (i - fr) = i by omega]
      rw [hrun, hcc] at hii
      have hne : Hn (¬ ((c : Nat) : Int) = 46) := ⟨by omega⟩
      have HI := Hn.mk hii
      clear hii hcur hdd hdot hsl hx hsp hrun hcc d4 d3 hx46
      repeat' (first
    | ((with_reducible apply TL.pure); (· exact yV); (· rfl)) | ((with_reducible apply TW.pure); (· exact yV); (· rfl))
    | ((with_reducible apply TL.next_at); (· rfl); (· exact pkA); (· exact hlen); (· exact hck); (· rfl))
    | ((with_reducible apply TL.pure); (· exact yA); (· rfl))
    | refine TC.seq ?_ | refine TC.region ?_ | refine TL.nil ?_ | refine TQ.then_normal ?_
    | ((with_reducible apply TL.storeE); (· rfl); (· rfl); (· rfl); (· exact pkA); (· infer_instance)) | ((with_reducible apply TL.store_whole); (· rfl); (· rfl); (· exact oneA); (· rfl); (· exact pkA); (· rfl))
    | refine TC.block ?_ | refine TC.ret ?_ | refine TC.skip ?_ | refine TC.exit ?_ | refine TC.cond rfl ?_
    | refine TQ.down ?_ | refine TQ.in_exit' rfl ?_
    | refine TL.guard_yes rfl rfl ?_ | refine TL.guard_no rfl rfl rfl rfl ?_ | refine TL.guard_no0 rfl rfl rfl ?_ | refine TL.guard_undef rfl rfl rfl ?_ | refine TL.guard_undef0 rfl rfl ?_ | refine TL.guard rfl rfl rfl ?_
    | refine Br.t rfl ?_ | refine Br.f rfl ?_ | refine Br.ky kpA ?_ | refine Br.kn kpA ?_ | refine Br.nky kpA ?_ | refine Br.nkn kpA ?_
    | refine Br.eq0 (fun _ => ?_) (fun _ => ?_) | refine Br.neq0 (fun _ => ?_) (fun _ => ?_) | refine Br.eq (fun _ => ?_) (fun _ => ?_) | refine Br.neq (fun _ => ?_) (fun _ => ?_) | refine Br.not (fun _ => ?_) (fun _ => ?_) | refine Br.dec (fun _ => ?_) (fun _ => ?_) | refine Br.bool (fun _ => ?_) (fun _ => ?_)
    | ((with_reducible apply TL.alloc_ag); (· rfl); intro _) | ((with_reducible apply TL.alloc_sc); (· rfl); (· rfl); intro _) | ((with_reducible apply TL.box_ag); (· rfl); (· rfl); intro _) | ((with_reducible apply TL.box_sc); (· rfl); (· rfl); (· rfl); intro _))
      refine TQ.round ⟨i + k, fr, v, l⟩ ?_ ?_ rfl subA selA
      · exact ⟨by dsimp only; omega, by dsimp only; omega, by dsimp only; omega, fun h => HI.out, fun h => by dsimp only at h; omega⟩
      · show p.length + 1 - (i + k) < p.length + 1 - i
        omega
  · have hn : stepsL p = none := by unfold stepsL; rw [if_neg (fun h => h2 h.2.2)]
    rw [hn]
    rw [Bool.not_eq_true] at h2
    rw [h2] at A
    repeat' (first
    | ((with_reducible apply TL.pure); (· exact yV); (· rfl)) | ((with_reducible apply TW.pure); (· exact yV); (· rfl))
    | ((with_reducible apply TL.gives_plain); (· kernel_rfl); (· rfl); (· exact A _); (· rfl)) | ((with_reducible apply TW.gives_plain); (· kernel_rfl); (· rfl); (· exact A _); (· rfl))
    | ((with_reducible apply TL.pure); (· exact yA); (· rfl))
    | refine TC.seq ?_ | refine TC.region ?_ | refine TL.nil ?_ | refine TQ.then_normal ?_
    | ((with_reducible apply TL.storeE); (· rfl); (· rfl); (· rfl); (· exact pkA); (· infer_instance)) | ((with_reducible apply TL.store_whole); (· rfl); (· rfl); (· exact oneA); (· rfl); (· exact pkA); (· rfl))
    | refine TC.block ?_ | refine TC.ret ?_ | refine TC.skip ?_ | refine TC.exit ?_ | refine TC.cond rfl ?_
    | refine TQ.down ?_ | refine TQ.in_exit' rfl ?_
    | refine TL.guard_yes rfl rfl ?_ | refine TL.guard_no rfl rfl rfl rfl ?_ | refine TL.guard_no0 rfl rfl rfl ?_ | refine TL.guard_undef rfl rfl rfl ?_ | refine TL.guard_undef0 rfl rfl ?_ | refine TL.guard rfl rfl rfl ?_
    | refine Br.t rfl ?_ | refine Br.f rfl ?_ | refine Br.ky kpA ?_ | refine Br.kn kpA ?_ | refine Br.nky kpA ?_ | refine Br.nkn kpA ?_
    | refine Br.eq0 (fun _ => ?_) (fun _ => ?_) | refine Br.neq0 (fun _ => ?_) (fun _ => ?_) | refine Br.eq (fun _ => ?_) (fun _ => ?_) | refine Br.neq (fun _ => ?_) (fun _ => ?_) | refine Br.not (fun _ => ?_) (fun _ => ?_) | refine Br.dec (fun _ => ?_) (fun _ => ?_) | refine Br.bool (fun _ => ?_) (fun _ => ?_)
    | ((with_reducible apply TL.alloc_ag); (· rfl); intro _) | ((with_reducible apply TL.alloc_sc); (· rfl); (· rfl); intro _) | ((with_reducible apply TL.box_ag); (· rfl); (· rfl); intro _) | ((with_reducible apply TL.box_sc); (· rfl); (· rfl); (· rfl); intro _))
    refine TQ.endR2 (L' := L) Tryz.results39 rvA rvA rfl (.refl _) ?_ selA
    exact ⟨_, 16, rfl, rfl, rfl, rfl, rfl⟩
end Go.Proofs.YtacogbfgegcliaaGreatDoor
