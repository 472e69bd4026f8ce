/-
  The walks of bytes.Clone, order's Prefix.
-/
import Derived.Test.YtphlggmhgfcmgaaGreatDoorOKey
import Derived.Test.YtphlggmhgfcmgaaGreatDoorB1
namespace Go.Proofs.YtphlggmhgfcmgaaGreatDoor
open Go.RowKit Go.TL
set_option maxRecDepth 100000

theorem clone_rows (s : List UInt8) (v : Value) (g : Gh) (L : List Ent) (hS : Sl g v s.length 1 (byteVals s)) (hs : s.length ≤ 140737488355328) : Go.TL.Rows Tryz.prog 11 #[v] g L 5 1 s.length (byteVals s) := by
  obtain ⟨hl, ao, cap, rfl, hc, hcs⟩ := hS
  refine ⟨fun w hw => ?_⟩
  cases ao with
  | none =>
    have h0 : s = [] := by
      cases s with
      | nil => rfl
      | cons c r =>
        obtain ⟨b, off, h, _⟩ := hcs 0 (.int .u8 (c.toNat : Nat)) (by simp [byteVals])
        cases h
    subst h0
    refine (Tryz.bytes_Clone_nil 0 cap w).mono ?_
    rintro e w' ⟨rfl, rfl⟩
    exact ⟨_, rfl, hw.row_nil _ _⟩
  | some a =>
    have hx : ∀ i, i < s.length → w.cell? (a.add i) = some (.int .u8 ((s.map fun c => (c.toNat : Int)).getD i 0)) := fun i hi => by
      obtain ⟨b, off, h, hg⟩ := hcs i (.int .u8 (s[i].toNat : Nat)) (by simp [byteVals, hi])
      obtain rfl : a = ⟨b, off, none⟩ := by simpa using h
      rw [add_eq, hw.cell hg]
      simp [List.getD_eq_getElem?_getD, hi]
    refine (Tryz.bytes_Clone_at a s.length cap (s.map fun c => (c.toNat : Int)) w (by simp) hs hx).mono ?_
    rintro e w' ⟨v', rfl, hr, _, hb⟩
    refine ⟨v', rfl, hw.fresh_row hb ?_⟩
    rw [show (s.map fun c => (c.toNat : Int)).map (Value.int .u8) = byteVals s by simp [byteVals]] at hr
    exact hr
def topL (s : List UInt8) : Nat → Nat
  | 0 => 0
  | m + 1 => if s.getD m 0 = 255 then topL s m else m + 1
/-- The least bytes above all that begin so. -/
def prefL (s : List UInt8) : List UInt8 := if topL s s.length = 0 then [] else s.take (topL s s.length - 1) ++ [s.getD (topL s s.length - 1) 0 + 1]
theorem topL_le (s : List UInt8) : ∀ m, topL s m ≤ m
  | 0 => Nat.le_refl _
  | m + 1 => by
    have := topL_le s m
    rw [topL]; split <;> omega
set_option maxHeartbeats 8000000 in
theorem oPrefix_rows (s : List UInt8) (v : Value) (g : Gh) (L : List Ent) (hS : Sl g v s.length 1 (byteVals s)) (hs : s.length ≤ 1000000) : Go.TL.Rows Tryz.prog 6 #[v] g L 5 1 (prefL s).length (byteVals (prefL s)) := by
  refine .of (Does.of1 Tryz.func6 rfl Tryz.ntmps6 rfl ?_)
  have A := fun L => clone_rows s v g L hS (by omega)
  clear hS
  by_cases h0 : s.length = 0
  · have hp : prefL s = [] := by unfold prefL; rw [h0, topL, if_pos rfl]
    obtain rfl : s = [] := List.eq_nil_of_length_eq_zero h0
    rw [hp]
    repeat' (first
    | refine TL.rows (Enters.plain (by kernel_rfl) (by rfl)) (A _) permA (by rfl) (fun _ => ?_)
    | ((with_reducible apply TL.pure); (· exact yA); (· rfl))
    | refine TC.seq ?_ | refine TC.region ?_ | refine TL.nil ?_ | refine TQ.then_normal ?_
    | ((with_reducible apply TL.storeE); (· rfl); (· rfl); (· rfl); (· exact pkA); (· infer_instance)) | ((with_reducible apply TL.store_whole); (· rfl); (· rfl); (· exact oneA); (· rfl); (· exact pkA); (· rfl))
    | refine TC.block ?_ | refine TC.ret ?_ | refine TC.skip ?_ | refine TC.exit ?_ | refine TC.cond rfl ?_
    | refine TQ.down ?_ | refine TQ.in_exit' rfl ?_
    | refine TL.guard_yes rfl rfl ?_ | refine TL.guard_no rfl rfl rfl rfl ?_ | refine TL.guard_no0 rfl rfl rfl ?_ | refine TL.guard_undef rfl rfl rfl ?_ | refine TL.guard_undef0 rfl rfl ?_ | refine TL.guard rfl rfl rfl ?_
    | refine Br.t rfl ?_ | refine Br.f rfl ?_ | refine Br.ky kpA ?_ | refine Br.kn kpA ?_ | refine Br.nky kpA ?_ | refine Br.nkn kpA ?_
    | refine Br.eq0 (fun _ => ?_) (fun _ => ?_) | refine Br.neq0 (fun _ => ?_) (fun _ => ?_) | refine Br.eq (fun _ => ?_) (fun _ => ?_) | refine Br.neq (fun _ => ?_) (fun _ => ?_) | refine Br.not (fun _ => ?_) (fun _ => ?_) | refine Br.dec (fun _ => ?_) (fun _ => ?_) | refine Br.bool (fun _ => ?_) (fun _ => ?_)
    | ((with_reducible apply TL.alloc_ag); (· rfl); intro _) | ((with_reducible apply TL.alloc_sc); (· rfl); (· rfl); intro _) | ((with_reducible apply TL.box_ag); (· rfl); (· rfl); intro _) | ((with_reducible apply TL.box_sc); (· rfl); (· rfl); (· rfl); intro _))
    rename_i v'
    refine TC.row_slice (v := v') pkA ?_
    rintro ao cap rfl _
    refine TC.loopL (fun _ : Unit => True) (fun _ => 0) (fun _ _ => [(3, .slice ao 0 cap)]) (fun _ => .row 5 1 (.slice ao 0 cap) 0 (byteVals []) :: L) () trivial subA selA ?_
    rintro _ _
    try dsimp only
    repeat' (first
    | ((with_reducible apply TL.pure); (· exact yA); (· rfl))
    | refine TC.seq ?_ | refine TC.region ?_ | refine TL.nil ?_ | refine TQ.then_normal ?_
    | ((with_reducible apply TL.storeE); (· rfl); (· rfl); (· rfl); (· exact pkA); (· infer_instance)) | ((with_reducible apply TL.store_whole); (· rfl); (· rfl); (· exact oneA); (· rfl); (· exact pkA); (· rfl))
    | refine TC.block ?_ | refine TC.ret ?_ | refine TC.skip ?_ | refine TC.exit ?_ | refine TC.cond rfl ?_
    | refine TQ.down ?_ | refine TQ.in_exit' rfl ?_
    | refine TL.guard_yes rfl rfl ?_ | refine TL.guard_no rfl rfl rfl rfl ?_ | refine TL.guard_no0 rfl rfl rfl ?_ | refine TL.guard_undef rfl rfl rfl ?_ | refine TL.guard_undef0 rfl rfl ?_ | refine TL.guard rfl rfl rfl ?_
    | refine Br.t rfl ?_ | refine Br.f rfl ?_ | refine Br.ky kpA ?_ | refine Br.kn kpA ?_ | refine Br.nky kpA ?_ | refine Br.nkn kpA ?_
    | refine Br.eq0 (fun _ => ?_) (fun _ => ?_) | refine Br.neq0 (fun _ => ?_) (fun _ => ?_) | refine Br.eq (fun _ => ?_) (fun _ => ?_) | refine Br.neq (fun _ => ?_) (fun _ => ?_) | refine Br.not (fun _ => ?_) (fun _ => ?_) | refine Br.dec (fun _ => ?_) (fun _ => ?_) | refine Br.bool (fun _ => ?_) (fun _ => ?_)
    | ((with_reducible apply TL.alloc_ag); (· rfl); intro _) | ((with_reducible apply TL.alloc_sc); (· rfl); (· rfl); intro _) | ((with_reducible apply TL.box_ag); (· rfl); (· rfl); intro _) | ((with_reducible apply TL.box_sc); (· rfl); (· rfl); (· rfl); intro _))
    refine TQ.endR1 (L' := (.row 5 1 (.slice ao 0 cap) 0 (byteVals []) :: L)) Tryz.results6 rvA rfl (.refl _) ?_ selA
    exact ⟨_, rfl, rfl, rfl⟩
  obtain ⟨T, hT⟩ : ∃ T, T = topL s s.length := ⟨_, rfl⟩
  have hP : prefL s = if T = 0 then [] else s.take (T - 1) ++ [s.getD (T - 1) 0 + 1] := by rw [hT]; rfl
  generalize prefL s = R at *
  have HP : Hn _ := ⟨hP⟩
  clear hP
  repeat' (first
    | refine TL.rows (Enters.plain (by kernel_rfl) (by rfl)) (A _) permA (by rfl) (fun _ => ?_)
    | ((with_reducible apply TL.pure); (· exact yA); (· rfl))
    | refine TC.seq ?_ | refine TC.region ?_ | refine TL.nil ?_ | refine TQ.then_normal ?_
    | ((with_reducible apply TL.storeE); (· rfl); (· rfl); (· rfl); (· exact pkA); (· infer_instance)) | ((with_reducible apply TL.store_whole); (· rfl); (· rfl); (· exact oneA); (· rfl); (· exact pkA); (· rfl))
    | refine TC.block ?_ | refine TC.ret ?_ | refine TC.skip ?_ | refine TC.exit ?_ | refine TC.cond rfl ?_
    | refine TQ.down ?_ | refine TQ.in_exit' rfl ?_
    | refine TL.guard_yes rfl rfl ?_ | refine TL.guard_no rfl rfl rfl rfl ?_ | refine TL.guard_no0 rfl rfl rfl ?_ | refine TL.guard_undef rfl rfl rfl ?_ | refine TL.guard_undef0 rfl rfl ?_ | refine TL.guard rfl rfl rfl ?_
    | refine Br.t rfl ?_ | refine Br.f rfl ?_ | refine Br.ky kpA ?_ | refine Br.kn kpA ?_ | refine Br.nky kpA ?_ | refine Br.nkn kpA ?_
    | refine Br.eq0 (fun _ => ?_) (fun _ => ?_) | refine Br.neq0 (fun _ => ?_) (fun _ => ?_) | refine Br.eq (fun _ => ?_) (fun _ => ?_) | refine Br.neq (fun _ => ?_) (fun _ => ?_) | refine Br.not (fun _ => ?_) (fun _ => ?_) | refine Br.dec (fun _ => ?_) (fun _ => ?_) | refine Br.bool (fun _ => ?_) (fun _ => ?_)
    | ((with_reducible apply TL.alloc_ag); (· rfl); intro _) | ((with_reducible apply TL.alloc_sc); (· rfl); (· rfl); intro _) | ((with_reducible apply TL.box_ag); (· rfl); (· rfl); intro _) | ((with_reducible apply TL.box_sc); (· rfl); (· rfl); (· rfl); intro _))
  rename_i v'
  refine TC.row_form (v := v') pkA (by omega) ?_
  rintro b cap rfl _
  refine TC.row_obj pkA ?_
  intro cs hcs hcl hkc hcm
  rw [Nat.mul_one] at hcs hcl
  have hget : ∀ m, m < s.length → cs[m]? = some (.int .u8 ((s.getD m 0).toNat : Nat)) := fun m hm => by
    have h1 : (cs.take s.length)[m]? = (byteVals s)[m]? := by rw [hcs]
    rw [List.getElem?_take, if_pos hm] at h1
    rw [h1, byteVals_get (List.getElem?_eq_getElem hm)]
    simp [List.getD_eq_getElem?_getD, hm]
  have HG : Hn _ := ⟨hget⟩
  have HC : Hn _ := ⟨hcs⟩
  clear hget hcs
  refine TC.loopL (fun m : Nat => m ≤ s.length ∧ topL s m = T) (fun m => m) (fun m _ => [(3, .slice (some ⟨b, 0, none⟩) m cap)]) (fun _ => .obj b (.cells cs.toArray 5 (0, 0)) :: L) s.length ⟨Nat.le_refl _, hT.symm⟩ subA selA ?_
  clear hT
  rintro m ⟨hm, hT⟩
  try dsimp only at hm hT ⊢
  cases m with
  | zero =>
    rw [topL] at hT
    subst hT
    repeat' (first
    | ((with_reducible apply TL.pure); (· exact yV); (· rfl)) | ((with_reducible apply TW.pure); (· exact yV); (· rfl))
    | ((with_reducible apply TL.pure); (· exact yA); (· rfl))
    | refine TC.seq ?_ | refine TC.region ?_ | refine TL.nil ?_ | refine TQ.then_normal ?_
    | ((with_reducible apply TL.storeE); (· rfl); (· rfl); (· rfl); (· exact pkA); (· infer_instance)) | ((with_reducible apply TL.store_whole); (· rfl); (· rfl); (· exact oneA); (· rfl); (· exact pkA); (· rfl))
    | refine TC.block ?_ | refine TC.ret ?_ | refine TC.skip ?_ | refine TC.exit ?_ | refine TC.cond rfl ?_
    | refine TQ.down ?_ | refine TQ.in_exit' rfl ?_
    | refine TL.guard_yes rfl rfl ?_ | refine TL.guard_no rfl rfl rfl rfl ?_ | refine TL.guard_no0 rfl rfl rfl ?_ | refine TL.guard_undef rfl rfl rfl ?_ | refine TL.guard_undef0 rfl rfl ?_ | refine TL.guard rfl rfl rfl ?_
    | refine Br.t rfl ?_ | refine Br.f rfl ?_ | refine Br.ky kpA ?_ | refine Br.kn kpA ?_ | refine Br.nky kpA ?_ | refine Br.nkn kpA ?_
    | refine Br.eq0 (fun _ => ?_) (fun _ => ?_) | refine Br.neq0 (fun _ => ?_) (fun _ => ?_) | refine Br.eq (fun _ => ?_) (fun _ => ?_) | refine Br.neq (fun _ => ?_) (fun _ => ?_) | refine Br.not (fun _ => ?_) (fun _ => ?_) | refine Br.dec (fun _ => ?_) (fun _ => ?_) | refine Br.bool (fun _ => ?_) (fun _ => ?_)
    | ((with_reducible apply TL.alloc_ag); (· rfl); intro _) | ((with_reducible apply TL.alloc_sc); (· rfl); (· rfl); intro _) | ((with_reducible apply TL.box_ag); (· rfl); (· rfl); intro _) | ((with_reducible apply TL.box_sc); (· rfl); (· rfl); (· rfl); intro _))
    refine TQ.obj_part (k := 0) (sz := 1) pkA (by omega) (by omega) hcm ?_
    have hR : R = [] := by rw [HP.out, if_pos rfl]
    rw [Nat.zero_mul, List.take_zero]
    subst hR
    refine TQ.endR1 (L' := (.row 5 1 (.slice (some ⟨b, 0, none⟩) 0 cap) 0 [] :: L)) Tryz.results6 rvA rfl (.refl _) ?_ selA
    exact ⟨_, rfl, rfl, rfl⟩
  | succ k =>
    have hc := HG.out k (by omega)
    rw [topL] at hT
    have h256 := UInt8.toNat_lt (s.getD k 0)
    by_cases h255 : s.getD k 0 = 255
    · rw [if_pos h255] at hT
      rw [h255] at hc
      have HT : Hn _ := ⟨hT⟩
      clear hT
      repeat' (first
    | ((with_reducible apply TL.pure (d := 14) (v := .pointer (some ⟨b, k, none⟩))); (· exact Y.index_addr1 rfl rfl (by omega) (by omega)); (· rfl)) | ((with_reducible apply TW.pure (d := 14) (v := .pointer (some ⟨b, k, none⟩))); (· exact Y.index_addr1 rfl rfl (by omega) (by omega)); (· rfl))
    | ((with_reducible apply TL.pure (d := 15) (v := .int .u8 255)); (· exact Y.load rfl pkA hc); (· rfl)) | ((with_reducible apply TW.pure (d := 15) (v := .int .u8 255)); (· exact Y.load rfl pkA hc); (· rfl))
    | ((with_reducible apply TL.pure (d := 22) (v := .slice (some ⟨b, 0, none⟩) k cap)); (· exact Y.slice_to rfl rfl (by omega) (by omega)); (· rfl)) | ((with_reducible apply TW.pure (d := 22) (v := .slice (some ⟨b, 0, none⟩) k cap)); (· exact Y.slice_to rfl rfl (by omega) (by omega)); (· rfl))
    | ((with_reducible apply TL.pure); (· exact yV); (· rfl)) | ((with_reducible apply TW.pure); (· exact yV); (· rfl))
    | ((with_reducible apply TL.pure); (· exact yA); (· rfl))
    | refine TC.seq ?_ | refine TC.region ?_ | refine TL.nil ?_ | refine TQ.then_normal ?_
    | ((with_reducible apply TL.storeE); (· rfl); (· rfl); (· rfl); (· exact pkA); (· infer_instance)) | ((with_reducible apply TL.store_whole); (· rfl); (· rfl); (· exact oneA); (· rfl); (· exact pkA); (· rfl))
    | refine TC.block ?_ | refine TC.ret ?_ | refine TC.skip ?_ | refine TC.exit ?_ | refine TC.cond rfl ?_
    | refine TQ.down ?_ | refine TQ.in_exit' rfl ?_
    | refine TL.guard_yes rfl rfl ?_ | refine TL.guard_no rfl rfl rfl rfl ?_ | refine TL.guard_no0 rfl rfl rfl ?_ | refine TL.guard_undef rfl rfl rfl ?_ | refine TL.guard_undef0 rfl rfl ?_ | refine TL.guard rfl rfl rfl ?_
    | refine Br.t rfl ?_ | refine Br.f rfl ?_ | refine Br.ky kpA ?_ | refine Br.kn kpA ?_ | refine Br.nky kpA ?_ | refine Br.nkn kpA ?_
    | refine Br.eq0 (fun _ => ?_) (fun _ => ?_) | refine Br.neq0 (fun _ => ?_) (fun _ => ?_) | refine Br.eq (fun _ => ?_) (fun _ => ?_) | refine Br.neq (fun _ => ?_) (fun _ => ?_) | refine Br.not (fun _ => ?_) (fun _ => ?_) | refine Br.dec (fun _ => ?_) (fun _ => ?_) | refine Br.bool (fun _ => ?_) (fun _ => ?_)
    | ((with_reducible apply TL.alloc_ag); (· rfl); intro _) | ((with_reducible apply TL.alloc_sc); (· rfl); (· rfl); intro _) | ((with_reducible apply TL.box_ag); (· rfl); (· rfl); intro _) | ((with_reducible apply TL.box_sc); (· rfl); (· rfl); (· rfl); intro _))
      refine TQ.round k ?_ ?_ rfl subA selA
      · exact ⟨by omega, HT.out⟩
      · show k < k + 1
        omega
    · rw [if_neg h255] at hT
      obtain ⟨c, hcc⟩ : ∃ c, c = s.getD k 0 := ⟨_, rfl⟩
      rw [← hcc] at hc h255 h256
      have hne : Hn (¬ ((c.toNat : Nat) : Int) = 255) := ⟨fun e => h255 (UInt8.toNat_inj.1 (by show c.toNat = 255; omega))⟩
      have hw : IntKind.u8.wrap (((c.toNat : Nat) : Int) + 1) = ((c + 1).toNat : Nat) := by
        have := hne.out
        rw [IntKind.wrap_u8, UInt8.toNat_add, show (1 : UInt8).toNat = 1 from rfl]; omega
      have HW : Hn _ := ⟨hw⟩
      clear hw
      repeat' (first
    | ((with_reducible apply TL.pure (d := 14) (v := .pointer (some ⟨b, k, none⟩))); (· exact Y.index_addr1 rfl rfl (by omega) (by omega)); (· rfl)) | ((with_reducible apply TW.pure (d := 14) (v := .pointer (some ⟨b, k, none⟩))); (· exact Y.index_addr1 rfl rfl (by omega) (by omega)); (· rfl))
    | ((with_reducible apply TL.pure (d := 15) (v := .int .u8 (c.toNat : Nat))); (· exact Y.load rfl pkA hc); (· rfl)) | ((with_reducible apply TW.pure (d := 15) (v := .int .u8 (c.toNat : Nat))); (· exact Y.load rfl pkA hc); (· rfl))
    | ((with_reducible apply TL.pure (d := 30) (v := .pointer (some ⟨b, k, none⟩))); (· exact Y.index_addr1 rfl rfl (by omega) (by omega)); (· rfl)) | ((with_reducible apply TW.pure (d := 30) (v := .pointer (some ⟨b, k, none⟩))); (· exact Y.index_addr1 rfl rfl (by omega) (by omega)); (· rfl))
    | ((with_reducible apply TL.pure (d := 31) (v := .int .u8 (c.toNat : Nat))); (· exact Y.load rfl pkA hc); (· rfl)) | ((with_reducible apply TW.pure (d := 31) (v := .int .u8 (c.toNat : Nat))); (· exact Y.load rfl pkA hc); (· rfl))
    | ((with_reducible apply TL.pure (d := 32) (v := .int .u8 ((c + 1).toNat : Nat))); (· exact Y.add rfl rfl HW.out); (· rfl)) | ((with_reducible apply TW.pure (d := 32) (v := .int .u8 ((c + 1).toNat : Nat))); (· exact Y.add rfl rfl HW.out); (· rfl))
    | ((with_reducible apply TL.pure (d := 33) (v := .pointer (some ⟨b, k, none⟩))); (· exact Y.index_addr1 rfl rfl (by omega) (by omega)); (· rfl)) | ((with_reducible apply TW.pure (d := 33) (v := .pointer (some ⟨b, k, none⟩))); (· exact Y.index_addr1 rfl rfl (by omega) (by omega)); (· rfl))
    | ((with_reducible apply TL.storeK); (· rfl); (· rfl); (· rfl); (· exact pkA); (· omega))
    | ((with_reducible apply TL.pure); (· exact yV); (· rfl)) | ((with_reducible apply TW.pure); (· exact yV); (· rfl))
    | ((with_reducible apply TL.pure); (· exact yA); (· rfl))
    | refine TC.seq ?_ | refine TC.region ?_ | refine TL.nil ?_ | refine TQ.then_normal ?_
    | ((with_reducible apply TL.storeE); (· rfl); (· rfl); (· rfl); (· exact pkA); (· infer_instance)) | ((with_reducible apply TL.store_whole); (· rfl); (· rfl); (· exact oneA); (· rfl); (· exact pkA); (· rfl))
    | refine TC.block ?_ | refine TC.ret ?_ | refine TC.skip ?_ | refine TC.exit ?_ | refine TC.cond rfl ?_
    | refine TQ.down ?_ | refine TQ.in_exit' rfl ?_
    | refine TL.guard_yes rfl rfl ?_ | refine TL.guard_no rfl rfl rfl rfl ?_ | refine TL.guard_no0 rfl rfl rfl ?_ | refine TL.guard_undef rfl rfl rfl ?_ | refine TL.guard_undef0 rfl rfl ?_ | refine TL.guard rfl rfl rfl ?_
    | refine Br.t rfl ?_ | refine Br.f rfl ?_ | refine Br.ky kpA ?_ | refine Br.kn kpA ?_ | refine Br.nky kpA ?_ | refine Br.nkn kpA ?_
    | refine Br.eq0 (fun _ => ?_) (fun _ => ?_) | refine Br.neq0 (fun _ => ?_) (fun _ => ?_) | refine Br.eq (fun _ => ?_) (fun _ => ?_) | refine Br.neq (fun _ => ?_) (fun _ => ?_) | refine Br.not (fun _ => ?_) (fun _ => ?_) | refine Br.dec (fun _ => ?_) (fun _ => ?_) | refine Br.bool (fun _ => ?_) (fun _ => ?_)
    | ((with_reducible apply TL.alloc_ag); (· rfl); intro _) | ((with_reducible apply TL.alloc_sc); (· rfl); (· rfl); intro _) | ((with_reducible apply TL.box_ag); (· rfl); (· rfl); intro _) | ((with_reducible apply TL.box_sc); (· rfl); (· rfl); (· rfl); intro _))
      have hR : R = s.take k ++ [c + 1] := by
        rw [HP.out, ← hT, if_neg (by omega), show k + 1 - 1 = k by omega, hcc]
      have hl : (s.take k ++ [c + 1]).length = k + 1 := by rw [List.length_append, List.length_take, List.length_singleton]; omega
      have hv : (cs.set k (.int .u8 ((c + 1).toNat : Nat))).take ((k + 1) * 1) = byteVals (s.take k ++ [c + 1]) := by
        rw [Nat.mul_one, List.take_add_one, List.getElem?_set_self (by omega), List.take_set_of_le (Nat.le_refl _), byteVals_append]
        have h2 := congrArg (List.take k) HC.out
        rw [List.take_take, Nat.min_eq_left (by omega)] at h2
        rw [h2]
        simp [byteVals]
      rw [← hR] at hl hv
      refine TQ.obj_part (k := k + 1) (sz := 1) (cap := cap) pkA (by rw [List.length_set]; omega) (by omega) hcm ?_
      rw [hv, ← hl]
      refine TQ.endR1 (L' := (.row 5 1 (.slice (some ⟨b, 0, none⟩) R.length cap) R.length (byteVals R) :: L)) Tryz.results6 rvA rfl (.refl _) ?_ selA
      exact ⟨_, rfl, rfl, rfl⟩
end Go.Proofs.YtphlggmhgfcmgaaGreatDoor
