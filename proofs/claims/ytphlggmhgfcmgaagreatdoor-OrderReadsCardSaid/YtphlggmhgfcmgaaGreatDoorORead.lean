/-
  The walks of order's reader: next, number.
-/
import Derived.Test.YtphlggmhgfcmgaaGreatDoorOTold
import Derived.Test.YtphlggmhgfcmgaaGreatDoorTLslice
namespace Go.Proofs.YtphlggmhgfcmgaaGreatDoor
open Go.RowKit Go.TL
set_option maxRecDepth 100000

/-- The reader, as it lies. -/
abbrev RdO (br : Nat) (v : Value) (w : Bool) : Ent := .obj br (.cells [v, .bool w].toArray 39 (0, 0))
def nextL : List UInt8 → UInt8 × List UInt8
  | [] => (0, [])
  | c :: t => (c, t)
def NextR (s : List UInt8) (w : Bool) (br : Nat) (g : Gh) (L : List Ent) : Ending → Gh → List Ent → Prop := fun r g' L1 => ∃ v', r = .returned (.int .u8 ((nextL s).1.toNat : Nat)) ∧ g' = g ∧ L1 = RdO br v' (w || s.isEmpty) :: L ∧ Sl g v' (nextL s).2.length 1 (byteVals (nextL s).2)
set_option maxHeartbeats 4000000 in
theorem next_does (s : List UInt8) (w : Bool) (v : Value) (br : Nat) (g : Gh) (L : List Ent) (hS : Sl g v s.length 1 (byteVals s)) (hl : s.length ≤ 1000000) : Does Tryz.prog 13 #[.pointer (some ⟨br, 0, none⟩)] g (RdO br v w :: L) (NextR s w br g L) := by
  refine Does.of1 Tryz.func13 rfl Tryz.ntmps13 rfl ?_
  obtain ⟨ao, cap, rfl⟩ := hS.slice
  unfold NextR RdO
  cases s with
  | nil =>
    have hS2 := Hn.mk hS
    clear hS
    repeat' (first
    | ((with_reducible apply TL.pure); (· exact yV); (· rfl)) | ((with_reducible apply TW.pure); (· exact yV); (· rfl))
    | ((with_reducible apply TL.pure); (· exact yA); (· rfl))
    | refine TC.seq ?_ | refine TC.region ?_ | refine TL.nil ?_ | refine TQ.then_normal ?_
    | ((with_reducible apply TL.storeE); (· rfl); (· rfl); (· rfl); (· exact pkA); (· infer_instance)) | ((with_reducible apply TL.store_whole); (· rfl); (· rfl); (· exact oneA); (· rfl); (· exact pkA); (· rfl))
    | refine TC.block ?_ | refine TC.ret ?_ | refine TC.skip ?_ | refine TC.exit ?_ | refine TC.cond rfl ?_
    | refine TQ.down ?_ | refine TQ.in_exit' rfl ?_
    | refine TL.guard_yes rfl rfl ?_ | refine TL.guard_no rfl rfl rfl rfl ?_ | refine TL.guard_no0 rfl rfl rfl ?_ | refine TL.guard_undef rfl rfl rfl ?_ | refine TL.guard_undef0 rfl rfl ?_ | refine TL.guard rfl rfl rfl ?_
    | refine Br.t rfl ?_ | refine Br.f rfl ?_ | refine Br.ky kpA ?_ | refine Br.kn kpA ?_ | refine Br.nky kpA ?_ | refine Br.nkn kpA ?_
    | refine Br.eq0 (fun _ => ?_) (fun _ => ?_) | refine Br.neq0 (fun _ => ?_) (fun _ => ?_) | refine Br.eq (fun _ => ?_) (fun _ => ?_) | refine Br.neq (fun _ => ?_) (fun _ => ?_) | refine Br.not (fun _ => ?_) (fun _ => ?_) | refine Br.dec (fun _ => ?_) (fun _ => ?_) | refine Br.bool (fun _ => ?_) (fun _ => ?_)
    | ((with_reducible apply TL.alloc_ag); (· rfl); intro _) | ((with_reducible apply TL.alloc_sc); (· rfl); (· rfl); intro _) | ((with_reducible apply TL.box_ag); (· rfl); (· rfl); intro _) | ((with_reducible apply TL.box_sc); (· rfl); (· rfl); (· rfl); intro _))
    refine TQ.endR1 (L' := (.obj br (.cells [.slice ao 0 cap, .bool true].toArray 39 (0, 0)) :: L)) Tryz.results13 rvA rfl (.refl _) ?_ selA
    exact ⟨_, rfl, rfl, by simp, hS2.out⟩
  | cons c t =>
    have hcap := hS.cap
    obtain ⟨b, off, rfl, hg⟩ := hS.elem (i := 0) (by simp) (by decide)
    have hld : g.cell b (off + 0 * 1) = some (.int .u8 (c.toNat : Nat)) := hg 0 _ rfl
    have hlt : 0 < (c :: t).length := by simp
    rw [List.length_cons] at hcap hl
    obtain ⟨off', ho⟩ : ∃ off', off' = if cap = 1 then off else off + 1 * 1 := ⟨_, rfl⟩
    have hS' : Sl g (.slice (some ⟨b, off', none⟩) ((c :: t).length - 1) (cap - 1)) t.length 1 (byteVals t) := by
      cases t with
      | nil => exact Sl.nil
      | cons d u =>
        rw [List.length_cons] at hcap
        rw [if_neg (by omega)] at ho
        refine ⟨by rw [byteVals_length]; omega, _, _, rfl, by rw [List.length_cons]; omega, fun i x hx => ⟨b, off', rfl, ?_⟩⟩
        have := hg (i + 1) x (by rw [Nat.zero_mul, Nat.zero_add]; exact hx)
        rw [ho, show off + 1 * 1 + i = off + 0 * 1 + (i + 1) by omega]
        exact this
    have HS2 := Hn.mk hS'
    have HO := Hn.mk ho
    have hl1 : 0 < t.length + 1 := by omega
    clear hS hg hS' ho
    repeat' (first
    | ((with_reducible apply TL.pure (d := 24) (v := .slice (some ⟨b, off', none⟩) ((c :: t).length - 1) (cap - 1))); (· exact Y.slice_from rfl rfl (show (1 : Int) = (1 : Nat) from rfl) (by rw [List.length_cons]; omega) (by rw [List.length_cons]; omega) HO.out); (· rfl)) | ((with_reducible apply TW.pure (d := 24) (v := .slice (some ⟨b, off', none⟩) ((c :: t).length - 1) (cap - 1))); (· exact Y.slice_from rfl rfl (show (1 : Int) = (1 : Nat) from rfl) (by rw [List.length_cons]; omega) (by rw [List.length_cons]; omega) HO.out); (· rfl))
    | ((with_reducible apply TL.pure); (· exact yV); (· rfl)) | ((with_reducible apply TW.pure); (· exact yV); (· rfl))
    | ((with_reducible apply TL.pure); (· exact yA); (· rfl))
    | refine TC.seq ?_ | refine TC.region ?_ | refine TL.nil ?_ | refine TQ.then_normal ?_
    | ((with_reducible apply TL.storeE); (· rfl); (· rfl); (· rfl); (· exact pkA); (· infer_instance)) | ((with_reducible apply TL.store_whole); (· rfl); (· rfl); (· exact oneA); (· rfl); (· exact pkA); (· rfl))
    | refine TC.block ?_ | refine TC.ret ?_ | refine TC.skip ?_ | refine TC.exit ?_ | refine TC.cond rfl ?_
    | refine TQ.down ?_ | refine TQ.in_exit' rfl ?_
    | refine TL.guard_yes rfl rfl ?_ | refine TL.guard_no rfl rfl rfl rfl ?_ | refine TL.guard_no0 rfl rfl rfl ?_ | refine TL.guard_undef rfl rfl rfl ?_ | refine TL.guard_undef0 rfl rfl ?_ | refine TL.guard rfl rfl rfl ?_
    | refine Br.t rfl ?_ | refine Br.f rfl ?_ | refine Br.ky kpA ?_ | refine Br.kn kpA ?_ | refine Br.nky kpA ?_ | refine Br.nkn kpA ?_
    | refine Br.eq0 (fun _ => ?_) (fun _ => ?_) | refine Br.neq0 (fun _ => ?_) (fun _ => ?_) | refine Br.eq (fun _ => ?_) (fun _ => ?_) | refine Br.neq (fun _ => ?_) (fun _ => ?_) | refine Br.not (fun _ => ?_) (fun _ => ?_) | refine Br.dec (fun _ => ?_) (fun _ => ?_) | refine Br.bool (fun _ => ?_) (fun _ => ?_)
    | ((with_reducible apply TL.alloc_ag); (· rfl); intro _) | ((with_reducible apply TL.alloc_sc); (· rfl); (· rfl); intro _) | ((with_reducible apply TL.box_ag); (· rfl); (· rfl); intro _) | ((with_reducible apply TL.box_sc); (· rfl); (· rfl); (· rfl); intro _))
    refine TQ.endR1 (L' := (.obj br (.cells [.slice (some ⟨b, off', none⟩) ((c :: t).length - 1) (cap - 1), .bool w].toArray 39 (0, 0)) :: L)) Tryz.results13 rvA rfl (.refl _) ?_ selA
    exact ⟨_, rfl, rfl, by simp, HS2.out⟩
/-- Bytes as a number, the highest first. -/
def valB (l : List UInt8) : Nat := l.foldl (fun a c => a * 256 + c.toNat) 0
theorem valB_snoc (l : List UInt8) (c : UInt8) : valB (l ++ [c]) = valB l * 256 + c.toNat := by simp [valB]
theorem valB_lt (l : List UInt8) : valB l < 256 ^ l.length := by
  have key : ∀ (l : List UInt8) (a : Nat), l.foldl (fun a c => a * 256 + c.toNat) a < (a + 1) * 256 ^ l.length := by
    intro l
    induction l with
    | nil => intro a; simp
    | cons c r ih =>
      intro a
      have h := ih (a * 256 + c.toNat)
      have hc := UInt8.toNat_lt c
      rw [List.foldl_cons, List.length_cons, Nat.pow_succ, Nat.mul_comm (256 ^ r.length) 256, ← Nat.mul_assoc]
      exact Nat.lt_of_lt_of_le h (Nat.mul_le_mul_right _ (by omega))
  have := key l 0
  simpa [valB] using this
/-- So many bytes; behind the end 0. -/
def padL (s : List UInt8) (k : Nat) : List UInt8 := s.take k ++ List.replicate (k - s.length) 0
theorem padL_succ (s : List UInt8) (k : Nat) : padL s (k + 1) = padL s k ++ [(nextL (s.drop k)).1] := by
  unfold padL
  by_cases h : k < s.length
  · rw [List.drop_eq_getElem_cons h, nextL, List.take_add_one, List.getElem?_eq_getElem h]
    rw [show k + 1 - s.length = 0 by omega, show k - s.length = 0 by omega]
    simp
  · rw [List.drop_eq_nil_of_le (by omega), nextL, List.take_of_length_le (by omega), List.take_of_length_le (by omega), show k + 1 - s.length = (k - s.length) + 1 by omega, List.replicate_succ']
    simp
theorem padL_len (s : List UInt8) (k : Nat) : (padL s k).length = k := by
  unfold padL; rw [List.length_append, List.length_take, List.length_replicate]; omega
theorem nextL_drop (s : List UInt8) (k : Nat) : (nextL (s.drop k)).2 = s.drop (k + 1) := by
  by_cases h : k < s.length
  · rw [List.drop_eq_getElem_cons h, nextL]
  · rw [List.drop_eq_nil_of_le (by omega), nextL, List.drop_eq_nil_of_le (by omega)]
/-- The number that a key's bytes tell. -/
def rdNum (s : List UInt8) : Int := (valB (padL s 8) : Int) - 9223372036854775808
def NumbR (s : List UInt8) (w : Bool) (br : Nat) (g : Gh) (L : List Ent) : Ending → Gh → List Ent → Prop := fun r g' L1 => ∃ v', r = .returned (.int .i64 (rdNum s)) ∧ g' = g ∧ L1 = RdO br v' (w || decide (s.length < 8)) :: L ∧ Sl g v' (s.drop 8).length 1 (byteVals (s.drop 8))
set_option maxHeartbeats 8000000 in
theorem number_does (s : List UInt8) (w : Bool) (v : Value) (br : Nat) (g : Gh) (L : List Ent) (hS : Sl g v s.length 1 (byteVals s)) (hl : s.length ≤ 1000000) : Does Tryz.prog 20 #[.pointer (some ⟨br, 0, none⟩)] g (RdO br v w :: L) (NumbR s w br g L) := by
  refine Does.of1 Tryz.func20 rfl Tryz.ntmps20 rfl ?_
  unfold NumbR
  repeat' (first
    | ((with_reducible apply TL.pure); (· exact yA); (· rfl))
    | refine TC.seq ?_ | refine TC.region ?_ | refine TL.nil ?_ | refine TQ.then_normal ?_
    | ((with_reducible apply TL.storeE); (· rfl); (· rfl); (· rfl); (· exact pkA); (· infer_instance)) | ((with_reducible apply TL.store_whole); (· rfl); (· rfl); (· exact oneA); (· rfl); (· exact pkA); (· rfl))
    | refine TC.block ?_ | refine TC.ret ?_ | refine TC.skip ?_ | refine TC.exit ?_ | refine TC.cond rfl ?_
    | refine TQ.down ?_ | refine TQ.in_exit' rfl ?_
    | refine TL.guard_yes rfl rfl ?_ | refine TL.guard_no rfl rfl rfl rfl ?_ | refine TL.guard_no0 rfl rfl rfl ?_ | refine TL.guard_undef rfl rfl rfl ?_ | refine TL.guard_undef0 rfl rfl ?_ | refine TL.guard rfl rfl rfl ?_
    | refine Br.t rfl ?_ | refine Br.f rfl ?_ | refine Br.ky kpA ?_ | refine Br.kn kpA ?_ | refine Br.nky kpA ?_ | refine Br.nkn kpA ?_
    | refine Br.eq0 (fun _ => ?_) (fun _ => ?_) | refine Br.neq0 (fun _ => ?_) (fun _ => ?_) | refine Br.eq (fun _ => ?_) (fun _ => ?_) | refine Br.neq (fun _ => ?_) (fun _ => ?_) | refine Br.not (fun _ => ?_) (fun _ => ?_) | refine Br.dec (fun _ => ?_) (fun _ => ?_) | refine Br.bool (fun _ => ?_) (fun _ => ?_)
    | ((with_reducible apply TL.alloc_ag); (· rfl); intro _) | ((with_reducible apply TL.alloc_sc); (· rfl); (· rfl); intro _) | ((with_reducible apply TL.box_ag); (· rfl); (· rfl); intro _) | ((with_reducible apply TL.box_sc); (· rfl); (· rfl); (· rfl); intro _))
  refine TC.slot (t := 3) (u := .int .u64 ((valB (padL s 0) : Nat) : Int)) rfl (by rw [show padL s 0 = [] by simp [padL]]; rfl) ?_
  refine TC.loopL (fun x : Nat × Value => x.1 ≤ 8 ∧ Sl g x.2 (s.drop x.1).length 1 (byteVals (s.drop x.1))) (fun x => 8 - x.1) (fun x _ => [(4, .int .i64 (x.1 : Nat)), (3, .int .u64 (valB (padL s x.1) : Nat)), (0, .pointer (some ⟨br, 0, none⟩))]) (fun x => RdO br x.2 (w || decide (s.length < x.1)) :: L) (0, v) ⟨Nat.zero_le _, by rw [List.drop_zero]; exact hS⟩ subA (by rw [show decide (s.length < 0) = false by simp, Bool.or_false]; exact Sel.refl) ?_
  clear hS
  rintro ⟨i, v⟩ ⟨hi, hS⟩
  try dsimp only at hi hS ⊢
  have hvl := valB_lt (padL s i)
  rw [padL_len] at hvl
  by_cases hlt : i < 8
  · have A := fun L => next_does (s.drop i) (w || decide (s.length < i)) v br g L hS (by rw [List.length_drop]; omega)
    have hb : valB (padL s i) < 72057594037927936 := Nat.lt_of_lt_of_le hvl (by
      have : 256 ^ i ≤ 256 ^ 7 := Nat.pow_le_pow_right (by decide) (by omega)
      simpa using this)
    have hc := UInt8.toNat_lt (nextL (s.drop i)).1
    have hsn : valB (padL s (i + 1)) = valB (padL s i) * 256 + (nextL (s.drop i)).1.toNat := by rw [padL_succ, valB_snoc]
    have hfl : ((w || decide (s.length < i)) || (s.drop i).isEmpty) = (w || decide (s.length < i + 1)) := by
      rw [Bool.or_assoc]
      congr 1
      rw [Bool.eq_iff_iff]
      simp only [Bool.or_eq_true, decide_eq_true_eq, List.isEmpty_iff, List.drop_eq_nil_iff]
      omega
    unfold NextR at A
    rw [hfl, nextL_drop] at A
    generalize (nextL (s.drop i)).1 = c at *
    obtain ⟨p, hp⟩ : ∃ p, p = valB (padL s i) := ⟨_, rfl⟩
    rw [← hp] at hb hsn ⊢
    have z1 : IntKind.u64.wrap (((p : Nat) : Int) * 2 ^ 8) = ((p * 256 : Nat) : Int) := by
      rw [IntWalk.u64_in _ (by omega)]; omega
    have z2 : IntKind.u64.wrap ((p * 256 ||| c.toNat : Nat) : Int) = ((valB (padL s (i + 1)) : Nat) : Int) := by
      have := Nat.two_pow_add_eq_or_of_lt (i := 8) (b := c.toNat) (by omega) p
      rw [show p * 256 = 2 ^ 8 * p by omega, ← this, hsn, show 2 ^ 8 * p + c.toNat = p * 256 + c.toNat by omega]
      exact IntWalk.u64_in _ (by omega)
    have Z1 := Hn.mk z1
    have Z2 := Hn.mk z2
    clear z1 z2 hsn hfl hp hvl hS
    repeat' (first
    | ((with_reducible apply TL.pure (d := 7) (v := .int .u64 ((p * 256 : Nat) : Int))); (· exact Y.shl rfl rfl (show (8 : Int) = (8 : Nat) from rfl) (by decide) Z1.out); (· rfl)) | ((with_reducible apply TW.pure (d := 7) (v := .int .u64 ((p * 256 : Nat) : Int))); (· exact Y.shl rfl rfl (show (8 : Int) = (8 : Nat) from rfl) (by decide) Z1.out); (· rfl))
    | ((with_reducible apply TL.pure (d := 11) (v := .int .u64 ((valB (padL s (i + 1)) : Nat) : Int))); (· exact Y.or rfl rfl rfl rfl (by show p * 256 < 2 ^ 64; omega) (by show c.toNat < 2 ^ 64; omega) Z2.out); (· rfl)) | ((with_reducible apply TW.pure (d := 11) (v := .int .u64 ((valB (padL s (i + 1)) : Nat) : Int))); (· exact Y.or rfl rfl rfl rfl (by show p * 256 < 2 ^ 64; omega) (by show c.toNat < 2 ^ 64; omega) Z2.out); (· rfl))
    | ((with_reducible apply TL.pure); (· exact yV); (· rfl)) | ((with_reducible apply TW.pure); (· exact yV); (· rfl))
    | (refine TL.call (Enters.plain (by kernel_rfl) (by rfl)) (by rfl) (Does.perm (A _) permA) ?_; rintro e gn Ln _ ⟨vn, k1, k2, k3, hn⟩; have k2 := k2.symm; subst k1; subst k2; subst k3; refine CallK.ret ?_)
    | ((with_reducible apply TL.pure); (· exact yA); (· rfl))
    | refine TC.seq ?_ | refine TC.region ?_ | refine TL.nil ?_ | refine TQ.then_normal ?_
    | ((with_reducible apply TL.storeE); (· rfl); (· rfl); (· rfl); (· exact pkA); (· infer_instance)) | ((with_reducible apply TL.store_whole); (· rfl); (· rfl); (· exact oneA); (· rfl); (· exact pkA); (· rfl))
    | refine TC.block ?_ | refine TC.ret ?_ | refine TC.skip ?_ | refine TC.exit ?_ | refine TC.cond rfl ?_
    | refine TQ.down ?_ | refine TQ.in_exit' rfl ?_
    | refine TL.guard_yes rfl rfl ?_ | refine TL.guard_no rfl rfl rfl rfl ?_ | refine TL.guard_no0 rfl rfl rfl ?_ | refine TL.guard_undef rfl rfl rfl ?_ | refine TL.guard_undef0 rfl rfl ?_ | refine TL.guard rfl rfl rfl ?_
    | refine Br.t rfl ?_ | refine Br.f rfl ?_ | refine Br.ky kpA ?_ | refine Br.kn kpA ?_ | refine Br.nky kpA ?_ | refine Br.nkn kpA ?_
    | refine Br.eq0 (fun _ => ?_) (fun _ => ?_) | refine Br.neq0 (fun _ => ?_) (fun _ => ?_) | refine Br.eq (fun _ => ?_) (fun _ => ?_) | refine Br.neq (fun _ => ?_) (fun _ => ?_) | refine Br.not (fun _ => ?_) (fun _ => ?_) | refine Br.dec (fun _ => ?_) (fun _ => ?_) | refine Br.bool (fun _ => ?_) (fun _ => ?_)
    | ((with_reducible apply TL.alloc_ag); (· rfl); intro _) | ((with_reducible apply TL.alloc_sc); (· rfl); (· rfl); intro _) | ((with_reducible apply TL.box_ag); (· rfl); (· rfl); intro _) | ((with_reducible apply TL.box_sc); (· rfl); (· rfl); (· rfl); intro _))
    refine TQ.round (i + 1, vn) ?_ ?_ rfl subA selA
    · exact ⟨by omega, hn⟩
    · show 8 - (i + 1) < 8 - i
      omega
  · obtain rfl : i = 8 := by omega
    have hb : valB (padL s 8) < 18446744073709551616 := hvl
    have hx := xor_top _ hb
    obtain ⟨p, hp⟩ : ∃ p, p = valB (padL s 8) := ⟨_, rfl⟩
    have hn : rdNum s = (p : Int) - 9223372036854775808 := by rw [hp]; rfl
    rw [← hp] at hb hx ⊢
    rw [hn]
    obtain ⟨q, hq⟩ : ∃ q, q = p ^^^ 9223372036854775808 := ⟨_, rfl⟩
    rw [← hq] at hx
    have hqb : q < 18446744073709551616 := by rw [hx]; split <;> omega
    have z1 : IntKind.u64.wrap ((p ^^^ 9223372036854775808 : Nat) : Int) = (q : Nat) := by rw [← hq]; exact IntWalk.u64_in _ (by omega)
    have z2 : IntKind.i64.wrap ((q : Nat) : Int) = (p : Int) - 9223372036854775808 := by
      rw [IntKind.wrap_i64, hx]; split <;> omega
    have Z1 := Hn.mk z1
    have Z2 := Hn.mk z2
    have HS2 := Hn.mk hS
    clear z1 z2 hx hq hp hn hvl hS hqb
    repeat' (first
    | ((with_reducible apply TL.pure (d := 14) (v := .int .u64 ((q : Nat) : Int))); (· exact Y.xor (b := 9223372036854775808) rfl rfl rfl rfl (by show p < 2 ^ 64; omega) (by decide) Z1.out); (· rfl)) | ((with_reducible apply TW.pure (d := 14) (v := .int .u64 ((q : Nat) : Int))); (· exact Y.xor (b := 9223372036854775808) rfl rfl rfl rfl (by show p < 2 ^ 64; omega) (by decide) Z1.out); (· rfl))
    | ((with_reducible apply TL.pure (d := 15) (v := .int .i64 ((p : Int) - 9223372036854775808))); (· exact Y.conv_int rfl Z2.out); (· rfl)) | ((with_reducible apply TW.pure (d := 15) (v := .int .i64 ((p : Int) - 9223372036854775808))); (· exact Y.conv_int rfl Z2.out); (· rfl))
    | ((with_reducible apply TL.pure); (· exact yV); (· rfl)) | ((with_reducible apply TW.pure); (· exact yV); (· rfl))
    | ((with_reducible apply TL.pure); (· exact yA); (· rfl))
    | refine TC.seq ?_ | refine TC.region ?_ | refine TL.nil ?_ | refine TQ.then_normal ?_
    | ((with_reducible apply TL.storeE); (· rfl); (· rfl); (· rfl); (· exact pkA); (· infer_instance)) | ((with_reducible apply TL.store_whole); (· rfl); (· rfl); (· exact oneA); (· rfl); (· exact pkA); (· rfl))
    | refine TC.block ?_ | refine TC.ret ?_ | refine TC.skip ?_ | refine TC.exit ?_ | refine TC.cond rfl ?_
    | refine TQ.down ?_ | refine TQ.in_exit' rfl ?_
    | refine TL.guard_yes rfl rfl ?_ | refine TL.guard_no rfl rfl rfl rfl ?_ | refine TL.guard_no0 rfl rfl rfl ?_ | refine TL.guard_undef rfl rfl rfl ?_ | refine TL.guard_undef0 rfl rfl ?_ | refine TL.guard rfl rfl rfl ?_
    | refine Br.t rfl ?_ | refine Br.f rfl ?_ | refine Br.ky kpA ?_ | refine Br.kn kpA ?_ | refine Br.nky kpA ?_ | refine Br.nkn kpA ?_
    | refine Br.eq0 (fun _ => ?_) (fun _ => ?_) | refine Br.neq0 (fun _ => ?_) (fun _ => ?_) | refine Br.eq (fun _ => ?_) (fun _ => ?_) | refine Br.neq (fun _ => ?_) (fun _ => ?_) | refine Br.not (fun _ => ?_) (fun _ => ?_) | refine Br.dec (fun _ => ?_) (fun _ => ?_) | refine Br.bool (fun _ => ?_) (fun _ => ?_)
    | ((with_reducible apply TL.alloc_ag); (· rfl); intro _) | ((with_reducible apply TL.alloc_sc); (· rfl); (· rfl); intro _) | ((with_reducible apply TL.box_ag); (· rfl); (· rfl); intro _) | ((with_reducible apply TL.box_sc); (· rfl); (· rfl); (· rfl); intro _))
    refine TQ.endR1 (L' := (RdO br v (w || decide (s.length < 8)) :: L)) Tryz.results20 rvA rfl (.refl _) ?_ selA
    exact ⟨v, rfl, rfl, rfl, HS2.out⟩
end Go.Proofs.YtphlggmhgfcmgaaGreatDoor
