/-
  The walk of the document's Prefix.
-/
import Derived.Test.YtphlggmhgfcmgaaGreatDoorOPrefix
import Derived.Test.YtphlggmhgfcmgaaGreatDoorTLslice
namespace Go.Proofs.YtphlggmhgfcmgaaGreatDoor
open Go.RowKit Go.TL
set_option maxRecDepth 100000

theorem bv_allP (l : List UInt8) : (byteVals l).all Go.Value.one = true := by
  simp [byteVals, Go.Value.one]
set_option maxHeartbeats 8000000 in
theorem rPrefix5_rows (s : List UInt8) (v : Value) (g : Gh) (L : List Ent) (hS : Sl g v s.length 1 (byteVals s)) (hs : s.length ≤ 1000000) : Go.TL.Rows Tryz.prog 7 #[v] g L 5 1 (prefL s).length (byteVals (prefL s)) := by
  refine .of (Does.of1 Tryz.func7 rfl Tryz.ntmps7 rfl ?_)
  obtain ⟨ao, cap, rfl⟩ := hS.slice
  obtain ⟨T, hT⟩ : ∃ T, T = topL s s.length := ⟨_, rfl⟩
  have hP : prefL s = if T = 0 then [] else s.take (T - 1) ++ [s.getD (T - 1) 0 + 1] := by rw [hT]; rfl
  generalize prefL s = R at *
  have HP : Hn _ := ⟨hP⟩
  clear hP
  repeat' (first
    | ((with_reducible apply TL.pure); (· exact yA); (· rfl))
    | refine TC.seq ?_ | refine TC.region ?_ | refine TL.nil ?_ | refine TQ.then_normal ?_
    | ((with_reducible apply TL.storeE); (· rfl); (· rfl); (· rfl); (· exact pkA); (· infer_instance)) | ((with_reducible apply TL.store_whole); (· rfl); (· rfl); (· exact oneA); (· rfl); (· exact pkA); (· rfl))
    | refine TC.block ?_ | refine TC.ret ?_ | refine TC.skip ?_ | refine TC.exit ?_ | refine TC.cond rfl ?_
    | refine TQ.down ?_ | refine TQ.in_exit' rfl ?_
    | refine TL.guard_yes rfl rfl ?_ | refine TL.guard_no rfl rfl rfl rfl ?_ | refine TL.guard_no0 rfl rfl rfl ?_ | refine TL.guard_undef rfl rfl rfl ?_ | refine TL.guard_undef0 rfl rfl ?_ | refine TL.guard rfl rfl rfl ?_
    | refine Br.t rfl ?_ | refine Br.f rfl ?_ | refine Br.ky kpA ?_ | refine Br.kn kpA ?_ | refine Br.nky kpA ?_ | refine Br.nkn kpA ?_
    | refine Br.eq0 (fun _ => ?_) (fun _ => ?_) | refine Br.neq0 (fun _ => ?_) (fun _ => ?_) | refine Br.eq (fun _ => ?_) (fun _ => ?_) | refine Br.neq (fun _ => ?_) (fun _ => ?_) | refine Br.not (fun _ => ?_) (fun _ => ?_) | refine Br.dec (fun _ => ?_) (fun _ => ?_) | refine Br.bool (fun _ => ?_) (fun _ => ?_)
    | ((with_reducible apply TL.alloc_ag); (· rfl); intro _) | ((with_reducible apply TL.alloc_sc); (· rfl); (· rfl); intro _) | ((with_reducible apply TL.box_ag); (· rfl); (· rfl); intro _) | ((with_reducible apply TL.box_sc); (· rfl); (· rfl); (· rfl); intro _))
  refine TC.loopL (fun m : Nat => m ≤ s.length ∧ topL s m = T) (fun m => m) (fun m _ => [(3, .int .i64 (m : Nat)), (0, .slice ao s.length cap)]) (fun _ => L) s.length ⟨Nat.le_refl _, hT.symm⟩ subA selA ?_
  clear hT
  rintro m ⟨hm, hT⟩
  try dsimp only at hm hT ⊢
  cases m with
  | zero =>
    rw [topL] at hT
    subst hT
    have hR : R = [] := by rw [HP.out, if_pos rfl]
    subst hR
    have hSl0 : Sl g (.slice ao 0 cap) 0 1 [] := Sl.nil
    clear hS HP
    repeat' (first
    | ((with_reducible apply TL.pure); (· exact yQ); (· rfl))
    | ((with_reducible apply TL.pure); (· exact yV); (· rfl)) | ((with_reducible apply TW.pure); (· exact yV); (· rfl))
    | (refine TL.build_empty (by rfl) (fun bb => ?_); refine TL.obj_row (b := bb) (k := 0) (sz := 1) .here rfl (by decide) ?_)
    | ((with_reducible apply TL.append); (· rfl); (· rfl); (· rfl); (· rfl); (· exact pkA); (· first | exact Src.obj pkA | exact Src.sl (by assumption) | exact Src.row pkA); (· first | rfl | exact (byteVals_length _).trans (Nat.mul_one _).symm); (· first | exact byteVals_all _ | exact oneA); (· exact ⟨by unfold maxLen; omega, by omega⟩); (· rfl); intro _)
    | ((with_reducible apply TL.pure); (· exact yA); (· rfl))
    | refine TC.seq ?_ | refine TC.region ?_ | refine TL.nil ?_ | refine TQ.then_normal ?_
    | ((with_reducible apply TL.storeE); (· rfl); (· rfl); (· rfl); (· exact pkA); (· infer_instance)) | ((with_reducible apply TL.store_whole); (· rfl); (· rfl); (· exact oneA); (· rfl); (· exact pkA); (· rfl))
    | refine TC.block ?_ | refine TC.ret ?_ | refine TC.skip ?_ | refine TC.exit ?_ | refine TC.cond rfl ?_
    | refine TQ.down ?_ | refine TQ.in_exit' rfl ?_
    | refine TL.guard_yes rfl rfl ?_ | refine TL.guard_no rfl rfl rfl rfl ?_ | refine TL.guard_no0 rfl rfl rfl ?_ | refine TL.guard_undef rfl rfl rfl ?_ | refine TL.guard_undef0 rfl rfl ?_ | refine TL.guard rfl rfl rfl ?_
    | refine Br.t rfl ?_ | refine Br.f rfl ?_ | refine Br.ky kpA ?_ | refine Br.kn kpA ?_ | refine Br.nky kpA ?_ | refine Br.nkn kpA ?_
    | refine Br.eq0 (fun _ => ?_) (fun _ => ?_) | refine Br.neq0 (fun _ => ?_) (fun _ => ?_) | refine Br.eq (fun _ => ?_) (fun _ => ?_) | refine Br.neq (fun _ => ?_) (fun _ => ?_) | refine Br.not (fun _ => ?_) (fun _ => ?_) | refine Br.dec (fun _ => ?_) (fun _ => ?_) | refine Br.bool (fun _ => ?_) (fun _ => ?_)
    | ((with_reducible apply TL.alloc_ag); (· rfl); intro _) | ((with_reducible apply TL.alloc_sc); (· rfl); (· rfl); intro _) | ((with_reducible apply TL.box_ag); (· rfl); (· rfl); intro _) | ((with_reducible apply TL.box_sc); (· rfl); (· rfl); (· rfl); intro _))
    rename_i v'
    refine TQ.endR1 (L' := (.row 5 1 v' 0 [] :: L)) Tryz.results7 rvA rfl (.refl _) ?_ selA
    exact ⟨_, rfl, rfl, rfl⟩
  | succ k =>
    rw [topL] at hT
    have hkl : k < s.length := by omega
    obtain ⟨b, off, rfl, hg⟩ := hS.elem hkl (by decide)
    have hgd : s.getD k 0 = s[k] := by simp [List.getD_eq_getElem?_getD, hkl]
    have hc : s[k]? = some (s.getD k 0) := by rw [hgd]; exact List.getElem?_eq_getElem hkl
    have hld : g.cell b (off + k * 1) = some (.int .u8 ((s.getD k 0).toNat : Nat)) := hg 0 _ (by rw [Nat.mul_one]; exact byteVals_get hc)
    have h256 := UInt8.toNat_lt (s.getD k 0)
    by_cases h255 : s.getD k 0 = 255
    · rw [if_pos h255] at hT
      rw [h255] at hld
      have hld : g.cell b (off + k * 1) = some (.int .u8 255) := hld
      have HT : Hn _ := ⟨hT⟩
      clear hT hg hS hc hgd h255 h256
      repeat' (first
    | ((with_reducible apply TL.pure); (· exact yQ); (· rfl))
    | ((with_reducible apply TL.pure (d := 12) (v := .int .i64 ((k : Nat) : Int))); (· exact Y.sub rfl rfl (by rw [IntWalk.i64_in _ (by omega)]; omega)); (· rfl)) | ((with_reducible apply TW.pure (d := 12) (v := .int .i64 ((k : Nat) : Int))); (· exact Y.sub rfl rfl (by rw [IntWalk.i64_in _ (by omega)]; omega)); (· rfl))
    | ((with_reducible apply TL.pure (d := 18) (v := .int .i64 ((k : Nat) : Int))); (· exact Y.sub rfl rfl (by rw [IntWalk.i64_in _ (by omega)]; omega)); (· rfl)) | ((with_reducible apply TW.pure (d := 18) (v := .int .i64 ((k : Nat) : Int))); (· exact Y.sub rfl rfl (by rw [IntWalk.i64_in _ (by omega)]; omega)); (· rfl))
    | ((with_reducible apply TL.pure); (· exact yV); (· rfl)) | ((with_reducible apply TW.pure); (· exact yV); (· rfl))
    | ((with_reducible apply TL.pure); (· exact yM); (· rfl)) | ((with_reducible apply TW.pure); (· exact yM); (· rfl))
    | ((with_reducible apply TL.pure); (· exact yA); (· rfl))
    | refine TC.seq ?_ | refine TC.region ?_ | refine TL.nil ?_ | refine TQ.then_normal ?_
    | ((with_reducible apply TL.storeE); (· rfl); (· rfl); (· rfl); (· exact pkA); (· infer_instance)) | ((with_reducible apply TL.store_whole); (· rfl); (· rfl); (· exact oneA); (· rfl); (· exact pkA); (· rfl))
    | refine TC.block ?_ | refine TC.ret ?_ | refine TC.skip ?_ | refine TC.exit ?_ | refine TC.cond rfl ?_
    | refine TQ.down ?_ | refine TQ.in_exit' rfl ?_
    | refine TL.guard_yes rfl rfl ?_ | refine TL.guard_no rfl rfl rfl rfl ?_ | refine TL.guard_no0 rfl rfl rfl ?_ | refine TL.guard_undef rfl rfl rfl ?_ | refine TL.guard_undef0 rfl rfl ?_ | refine TL.guard rfl rfl rfl ?_
    | refine Br.t rfl ?_ | refine Br.f rfl ?_ | refine Br.ky kpA ?_ | refine Br.kn kpA ?_ | refine Br.nky kpA ?_ | refine Br.nkn kpA ?_
    | refine Br.eq0 (fun _ => ?_) (fun _ => ?_) | refine Br.neq0 (fun _ => ?_) (fun _ => ?_) | refine Br.eq (fun _ => ?_) (fun _ => ?_) | refine Br.neq (fun _ => ?_) (fun _ => ?_) | refine Br.not (fun _ => ?_) (fun _ => ?_) | refine Br.dec (fun _ => ?_) (fun _ => ?_) | refine Br.bool (fun _ => ?_) (fun _ => ?_)
    | ((with_reducible apply TL.alloc_ag); (· rfl); intro _) | ((with_reducible apply TL.alloc_sc); (· rfl); (· rfl); intro _) | ((with_reducible apply TL.box_ag); (· rfl); (· rfl); intro _) | ((with_reducible apply TL.box_sc); (· rfl); (· rfl); (· rfl); intro _))
      refine TQ.round k ?_ ?_ rfl subA selA
      · exact ⟨by omega, HT.out⟩
      · show k < k + 1
        omega
    · rw [if_neg h255] at hT
      have hR : R = s.take k ++ [s.getD k 0 + 1] := by rw [HP.out, ← hT, if_neg (by omega), show k + 1 - 1 = k by omega]
      obtain ⟨t, ht⟩ : ∃ t, t = s.take (k + 1) := ⟨_, rfl⟩
      have htl : t.length = k + 1 := by rw [ht, List.length_take]; omega
      have htk : t[k]? = some (s.getD k 0) := by rw [ht, List.getElem?_take, if_pos (by omega)]; exact hc
      have htt : t.take k = s.take k := by rw [ht, List.take_take, Nat.min_eq_left (by omega)]
      have hsl2 := hS.take (i := k + 1) (by omega)
      have hsl3 : Sl g (.slice (some ⟨b, off, none⟩) t.length cap) t.length 1 (byteVals t) := by
        rw [htl]
        have : (byteVals s).take ((k + 1) * 1) = byteVals t := by rw [ht, Nat.mul_one]; simp [byteVals]
        rw [this] at hsl2; exact hsl2
      obtain ⟨c, hcc⟩ : ∃ c, c = s.getD k 0 := ⟨_, rfl⟩
      rw [← hcc] at hld h255 h256 hR htk
      have hld3 : ([] ++ byteVals t)[0 + k * 1]? = some (.int .u8 (c.toNat : Nat)) := by
        rw [List.nil_append, Nat.zero_add, Nat.mul_one]; exact byteVals_get htk
      have hll3 : ([] ++ byteVals t).length = k + 1 := by rw [List.nil_append, byteVals_length, htl]
      have hne : Hn (¬ ((c.toNat : Nat) : Int) = 255) := ⟨fun e => h255 (UInt8.toNat_inj.1 (by show c.toNat = 255; omega))⟩
      have hw : IntKind.u8.wrap (((c.toNat : Nat) : Int) + 1) = ((c + 1).toNat : Nat) := by
        have := hne.out
        rw [IntKind.wrap_u8, UInt8.toNat_add, show (1 : UInt8).toNat = 1 from rfl]; omega
      have HW : Hn _ := ⟨hw⟩
      have hcap := hS.cap
      clear hw hT hg hS hc hgd h255 hsl2
      repeat' (first
    | ((with_reducible apply TL.pure); (· exact yQ); (· rfl))
    | ((with_reducible apply TL.pure (d := 12) (v := .int .i64 ((k : Nat) : Int))); (· exact Y.sub rfl rfl (by rw [IntWalk.i64_in _ (by omega)]; omega)); (· rfl)) | ((with_reducible apply TW.pure (d := 12) (v := .int .i64 ((k : Nat) : Int))); (· exact Y.sub rfl rfl (by rw [IntWalk.i64_in _ (by omega)]; omega)); (· rfl))
    | (refine TL.build_empty (by rfl) (fun bb => ?_); refine TL.obj_row (b := bb) (k := 0) (sz := 1) .here rfl (by decide) ?_)
    | ((with_reducible apply TL.pure (d := 22) (v := .slice (some ⟨b, off, none⟩) t.length cap)); (· exact Y.slice_to (i := t.length) rfl rfl (by omega) (by omega)); (· rfl)) | ((with_reducible apply TW.pure (d := 22) (v := .slice (some ⟨b, off, none⟩) t.length cap)); (· exact Y.slice_to (i := t.length) rfl rfl (by omega) (by omega)); (· rfl))
    | ((with_reducible apply TL.append); (· rfl); (· rfl); (· rfl); (· rfl); (· exact pkA); (· exact Src.sl (by assumption)); (· exact (byteVals_length _).trans (Nat.mul_one _).symm); (· exact bv_allP _); (· exact ⟨by unfold maxLen; omega, by omega⟩); (· rfl); intro vf; refine Go.TL.TL.row_form (v := vf) (k := 0 + t.length) pkA (by omega) ?_; rintro bf cf rfl _)
    | ((with_reducible apply TL.pure (d := 28) (v := .int .i64 ((k : Nat) : Int))); (· exact Y.sub rfl rfl (by rw [IntWalk.i64_in _ (by omega)]; omega)); (· rfl)) | ((with_reducible apply TW.pure (d := 28) (v := .int .i64 ((k : Nat) : Int))); (· exact Y.sub rfl rfl (by rw [IntWalk.i64_in _ (by omega)]; omega)); (· rfl))
    | ((with_reducible apply TL.pure (d := 31) (v := .int .u8 ((c + 1).toNat : Nat))); (· exact Y.add rfl rfl HW.out); (· rfl)) | ((with_reducible apply TW.pure (d := 31) (v := .int .u8 ((c + 1).toNat : Nat))); (· exact Y.add rfl rfl HW.out); (· rfl))
    | ((with_reducible apply TL.store_row); (· rfl); (· rfl); (· first | rfl | assumption); (· exact pkA); (· omega))
    | ((with_reducible apply TL.pure); (· exact yV); (· rfl)) | ((with_reducible apply TW.pure); (· exact yV); (· rfl))
    | ((with_reducible apply TL.pure); (· exact yM); (· rfl)) | ((with_reducible apply TW.pure); (· exact yM); (· rfl))
    | ((with_reducible apply TL.pure); (· exact yA); (· rfl))
    | refine TC.seq ?_ | refine TC.region ?_ | refine TL.nil ?_ | refine TQ.then_normal ?_
    | ((with_reducible apply TL.storeE); (· rfl); (· rfl); (· rfl); (· exact pkA); (· infer_instance)) | ((with_reducible apply TL.store_whole); (· rfl); (· rfl); (· exact oneA); (· rfl); (· exact pkA); (· rfl))
    | refine TC.block ?_ | refine TC.ret ?_ | refine TC.skip ?_ | refine TC.exit ?_ | refine TC.cond rfl ?_
    | refine TQ.down ?_ | refine TQ.in_exit' rfl ?_
    | refine TL.guard_yes rfl rfl ?_ | refine TL.guard_no rfl rfl rfl rfl ?_ | refine TL.guard_no0 rfl rfl rfl ?_ | refine TL.guard_undef rfl rfl rfl ?_ | refine TL.guard_undef0 rfl rfl ?_ | refine TL.guard rfl rfl rfl ?_
    | refine Br.t rfl ?_ | refine Br.f rfl ?_ | refine Br.ky kpA ?_ | refine Br.kn kpA ?_ | refine Br.nky kpA ?_ | refine Br.nkn kpA ?_
    | refine Br.eq0 (fun _ => ?_) (fun _ => ?_) | refine Br.neq0 (fun _ => ?_) (fun _ => ?_) | refine Br.eq (fun _ => ?_) (fun _ => ?_) | refine Br.neq (fun _ => ?_) (fun _ => ?_) | refine Br.not (fun _ => ?_) (fun _ => ?_) | refine Br.dec (fun _ => ?_) (fun _ => ?_) | refine Br.bool (fun _ => ?_) (fun _ => ?_)
    | ((with_reducible apply TL.alloc_ag); (· rfl); intro _) | ((with_reducible apply TL.alloc_sc); (· rfl); (· rfl); intro _) | ((with_reducible apply TL.box_ag); (· rfl); (· rfl); intro _) | ((with_reducible apply TL.box_sc); (· rfl); (· rfl); (· rfl); intro _))
      have hv : ([] ++ byteVals t).set (0 + k * 1) (.int .u8 ((c + 1).toNat : Nat)) = byteVals R := by
        rw [hR, List.nil_append, Nat.zero_add, Nat.mul_one]
        apply List.ext_getElem?
        intro i
        rw [List.getElem?_set, byteVals_append]
        by_cases hi : k = i
        · subst hi
          rw [if_pos rfl, if_pos (by rw [byteVals_length]; omega), List.getElem?_append_right (by rw [byteVals_length, List.length_take]; omega), byteVals_length, List.length_take, Nat.min_eq_left (by omega), Nat.sub_self]; rfl
        · rw [if_neg hi]
          by_cases hlt : i < k
          · rw [List.getElem?_append_left (by rw [byteVals_length, List.length_take]; omega), ← htt]
            simp [byteVals, List.getElem?_take, hlt]
          · rw [List.getElem?_eq_none (by rw [byteVals_length]; omega), List.getElem?_eq_none (by rw [List.length_append, byteVals_length, List.length_take]; simp [byteVals]; omega)]
      have hl : 0 + t.length = R.length := by rw [hR, List.length_append, List.length_take, htl]; simp; omega
      rw [hv, hl]
      refine TQ.endR1 (L' := (.row 5 1 (.slice (some ⟨bf, 0, none⟩) R.length cf) R.length (byteVals R) :: L)) Tryz.results7 rvA rfl (.refl _) ?_ selA
      exact ⟨_, rfl, rfl, rfl⟩
end Go.Proofs.YtphlggmhgfcmgaaGreatDoor
