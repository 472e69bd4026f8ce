/-
  The walk of order's reader: value.
-/
import Derived.Test.YtphlggmhgfcmgaaGreatDoorORead3
namespace Go.Proofs.YtphlggmhgfcmgaaGreatDoor
open Go.RowKit Go.TL
set_option maxRecDepth 100000

def valK (lst obj : List UInt8 → Option (J × List UInt8)) (k : UInt8) (s : List UInt8) : Option (J × List UInt8) :=
  if k = 1 then some (.null, s) else if k = 2 then some (.bool false, s) else if k = 3 then some (.bool true, s) else if k = 4 then (if s.length < 8 then none else some (.num (rdNum s), s.drop 8))
  else if k = 5 then (wordP s).map fun p => (.text p.1, p.2) else if k = 6 then lst s else if k = 7 then obj s else none
/-- The value of a kind that these bytes begin with, so many others deep at most, and what is behind. -/
def valP : Nat → UInt8 → List UInt8 → Option (J × List UInt8)
  | 0, k, s => valK (fun _ => none) (fun _ => none) k s
  | d + 1, k, s => valK (fun s => (listP (valP d) (s.length + 1) s).map fun p => (.list p.1, p.2)) (fun s => (objP (valP d) (s.length + 1) s).map fun p => (.obj p.1.1 p.1.2, p.2)) k s
theorem rdNum_bd (s : List UInt8) : -9223372036854775808 ≤ rdNum s ∧ rdNum s ≤ 9223372036854775807 := by
  have h := valB_lt (padL s 8)
  rw [padL_len] at h
  unfold rdNum
  omega
theorem outv_some {w : Bool} {g : Gh} {x : Value} {s : List UInt8} {j : J} (h : IsJ g j x) : OutV (some (j, s)) w w g x s := by
  unfold OutV
  cases w with
  | true => rw [if_pos rfl]
  | false => rw [if_neg (by decide)]; exact ⟨rfl, rfl, h⟩
set_option maxHeartbeats 32000000 in
theorem value_with (lst obj : List UInt8 → Option (J × List UInt8)) (within : Nat) (hw : within ≤ 32) (br : Nat)
    (AL : ∀ (s : List UInt8) (w : Bool) (v : Value) (g : Gh) (L : List Ent), within < 32 → Sl g v s.length 1 (byteVals s) → s.length ≤ 1000000 → Does Tryz.prog 22 #[.pointer (some ⟨br, 0, none⟩), .int .u8 6, .int .i64 (within + 1 : Nat)] g (RdO br v w :: L) (ValR (lst s) s w br L))
    (AO : ∀ (s : List UInt8) (w : Bool) (v : Value) (g : Gh) (L : List Ent), within < 32 → Sl g v s.length 1 (byteVals s) → s.length ≤ 1000000 → Does Tryz.prog 22 #[.pointer (some ⟨br, 0, none⟩), .int .u8 7, .int .i64 (within + 1 : Nat)] g (RdO br v w :: L) (ValR (obj s) s w br L))
    (hno : 32 ≤ within → ∀ s, lst s = none ∧ obj s = none)
    (k : UInt8) (s : List UInt8) (w : Bool) (v : Value) (g : Gh) (L : List Ent) (hS : Sl g v s.length 1 (byteVals s)) (hl : s.length ≤ 1000000) : Does Tryz.prog 12 #[.pointer (some ⟨br, 0, none⟩), .int .u8 (k.toNat : Nat), .int .i64 (within : Nat)] g (RdO br v w :: L) (ValR (valK lst obj k s) s w br L) := by
  refine Does.of3 Tryz.func12 rfl Tryz.ntmps12 rfl ?_
  unfold valK
  by_cases h1 : k = 1
  · subst h1
    rw [if_pos rfl]
    have HS1 := Hn.mk hS
    clear hS
    repeat' (first
    | ((with_reducible apply TL.pure); (· exact yV); (· rfl)) | ((with_reducible apply TW.pure); (· exact yV); (· rfl))
    | ((with_reducible apply TL.pure); (· exact yA); (· rfl))
    | refine TC.seq ?_ | refine TC.region ?_ | refine TL.nil ?_ | refine TQ.then_normal ?_
    | ((with_reducible apply TL.storeE); (· rfl); (· rfl); (· rfl); (· exact pkA); (· infer_instance)) | ((with_reducible apply TL.store_whole); (· rfl); (· rfl); (· exact oneA); (· rfl); (· exact pkA); (· rfl))
    | refine TC.block ?_ | refine TC.ret ?_ | refine TC.skip ?_ | refine TC.exit ?_ | refine TC.cond rfl ?_
    | refine TQ.down ?_ | refine TQ.in_exit' rfl ?_
    | refine TL.guard_yes rfl rfl ?_ | refine TL.guard_no rfl rfl rfl rfl ?_ | refine TL.guard_no0 rfl rfl rfl ?_ | refine TL.guard_undef rfl rfl rfl ?_ | refine TL.guard_undef0 rfl rfl ?_ | refine TL.guard rfl rfl rfl ?_
    | refine Br.t rfl ?_ | refine Br.f rfl ?_ | refine Br.ky kpA ?_ | refine Br.kn kpA ?_ | refine Br.nky kpA ?_ | refine Br.nkn kpA ?_
    | refine Br.eq0 (fun _ => ?_) (fun _ => ?_) | refine Br.neq0 (fun _ => ?_) (fun _ => ?_) | refine Br.eq (fun _ => ?_) (fun _ => ?_) | refine Br.neq (fun _ => ?_) (fun _ => ?_) | refine Br.not (fun _ => ?_) (fun _ => ?_) | refine Br.dec (fun _ => ?_) (fun _ => ?_) | refine Br.bool (fun _ => ?_) (fun _ => ?_)
    | ((with_reducible apply TL.alloc_ag); (· rfl); intro _) | ((with_reducible apply TL.alloc_sc); (· rfl); (· rfl); intro _) | ((with_reducible apply TL.box_ag); (· rfl); (· rfl); intro _) | ((with_reducible apply TL.box_sc); (· rfl); (· rfl); (· rfl); intro _))
    refine TQ.endR1 (L' := (RdO br v w :: L)) Tryz.results12 rvA rfl (.refl _) ?_ selA
    exact ⟨v, w, _, s, rfl, rfl, rfl, HS1.out, Nat.le_refl _, outv_some (by rw [IsJ])⟩
  rw [if_neg h1]
  by_cases h2 : k = 2
  · subst h2
    rw [if_pos rfl]
    have HS1 := Hn.mk hS
    clear hS
    repeat' (first
    | ((with_reducible apply TL.pure); (· exact yV); (· rfl)) | ((with_reducible apply TW.pure); (· exact yV); (· rfl))
    | ((with_reducible apply TL.pure); (· exact yA); (· rfl))
    | refine TC.seq ?_ | refine TC.region ?_ | refine TL.nil ?_ | refine TQ.then_normal ?_
    | ((with_reducible apply TL.storeE); (· rfl); (· rfl); (· rfl); (· exact pkA); (· infer_instance)) | ((with_reducible apply TL.store_whole); (· rfl); (· rfl); (· exact oneA); (· rfl); (· exact pkA); (· rfl))
    | refine TC.block ?_ | refine TC.ret ?_ | refine TC.skip ?_ | refine TC.exit ?_ | refine TC.cond rfl ?_
    | refine TQ.down ?_ | refine TQ.in_exit' rfl ?_
    | refine TL.guard_yes rfl rfl ?_ | refine TL.guard_no rfl rfl rfl rfl ?_ | refine TL.guard_no0 rfl rfl rfl ?_ | refine TL.guard_undef rfl rfl rfl ?_ | refine TL.guard_undef0 rfl rfl ?_ | refine TL.guard rfl rfl rfl ?_
    | refine Br.t rfl ?_ | refine Br.f rfl ?_ | refine Br.ky kpA ?_ | refine Br.kn kpA ?_ | refine Br.nky kpA ?_ | refine Br.nkn kpA ?_
    | refine Br.eq0 (fun _ => ?_) (fun _ => ?_) | refine Br.neq0 (fun _ => ?_) (fun _ => ?_) | refine Br.eq (fun _ => ?_) (fun _ => ?_) | refine Br.neq (fun _ => ?_) (fun _ => ?_) | refine Br.not (fun _ => ?_) (fun _ => ?_) | refine Br.dec (fun _ => ?_) (fun _ => ?_) | refine Br.bool (fun _ => ?_) (fun _ => ?_)
    | ((with_reducible apply TL.alloc_ag); (· rfl); intro _) | ((with_reducible apply TL.alloc_sc); (· rfl); (· rfl); intro _) | ((with_reducible apply TL.box_ag); (· rfl); (· rfl); intro _) | ((with_reducible apply TL.box_sc); (· rfl); (· rfl); (· rfl); intro _))
    refine TQ.endR1 (L' := (RdO br v w :: L)) Tryz.results12 rvA rfl (.refl _) ?_ selA
    exact ⟨v, w, _, s, rfl, rfl, rfl, HS1.out, Nat.le_refl _, outv_some (by rw [IsJ]; rfl)⟩
  rw [if_neg h2]
  by_cases h3 : k = 3
  · subst h3
    rw [if_pos rfl]
    have HS1 := Hn.mk hS
    clear hS
    repeat' (first
    | ((with_reducible apply TL.pure); (· exact yV); (· rfl)) | ((with_reducible apply TW.pure); (· exact yV); (· rfl))
    | ((with_reducible apply TL.pure); (· exact yA); (· rfl))
    | refine TC.seq ?_ | refine TC.region ?_ | refine TL.nil ?_ | refine TQ.then_normal ?_
    | ((with_reducible apply TL.storeE); (· rfl); (· rfl); (· rfl); (· exact pkA); (· infer_instance)) | ((with_reducible apply TL.store_whole); (· rfl); (· rfl); (· exact oneA); (· rfl); (· exact pkA); (· rfl))
    | refine TC.block ?_ | refine TC.ret ?_ | refine TC.skip ?_ | refine TC.exit ?_ | refine TC.cond rfl ?_
    | refine TQ.down ?_ | refine TQ.in_exit' rfl ?_
    | refine TL.guard_yes rfl rfl ?_ | refine TL.guard_no rfl rfl rfl rfl ?_ | refine TL.guard_no0 rfl rfl rfl ?_ | refine TL.guard_undef rfl rfl rfl ?_ | refine TL.guard_undef0 rfl rfl ?_ | refine TL.guard rfl rfl rfl ?_
    | refine Br.t rfl ?_ | refine Br.f rfl ?_ | refine Br.ky kpA ?_ | refine Br.kn kpA ?_ | refine Br.nky kpA ?_ | refine Br.nkn kpA ?_
    | refine Br.eq0 (fun _ => ?_) (fun _ => ?_) | refine Br.neq0 (fun _ => ?_) (fun _ => ?_) | refine Br.eq (fun _ => ?_) (fun _ => ?_) | refine Br.neq (fun _ => ?_) (fun _ => ?_) | refine Br.not (fun _ => ?_) (fun _ => ?_) | refine Br.dec (fun _ => ?_) (fun _ => ?_) | refine Br.bool (fun _ => ?_) (fun _ => ?_)
    | ((with_reducible apply TL.alloc_ag); (· rfl); intro _) | ((with_reducible apply TL.alloc_sc); (· rfl); (· rfl); intro _) | ((with_reducible apply TL.box_ag); (· rfl); (· rfl); intro _) | ((with_reducible apply TL.box_sc); (· rfl); (· rfl); (· rfl); intro _))
    refine TQ.endR1 (L' := (RdO br v w :: L)) Tryz.results12 rvA rfl (.refl _) ?_ selA
    exact ⟨v, w, _, s, rfl, rfl, rfl, HS1.out, Nat.le_refl _, outv_some (by rw [IsJ]; rfl)⟩
  rw [if_neg h3]
  by_cases h4 : k = 4
  · subst h4
    rw [if_pos rfl]
    have A := fun L => number_does s w v br g L hS hl
    unfold NumbR at A
    clear hS
    repeat' (first
    | (refine TL.call (Enters.plain (by kernel_rfl) (by rfl)) (by rfl) (Does.perm (A _) (by first | exact List.Perm.refl _ | exact Pk.cons pkA (List.Perm.refl _))) ?_; (rintro e gw Ln _ ⟨vn, k1, k2, k3, hn⟩; have k2 := k2.symm; subst k1; subst k2; subst k3; refine CallK.ret ?_))
    | ((with_reducible apply TL.pure); (· exact yV); (· rfl)) | ((with_reducible apply TW.pure); (· exact yV); (· rfl))
    | ((with_reducible apply TL.pure); (· exact yA); (· rfl))
    | refine TC.seq ?_ | refine TC.region ?_ | refine TL.nil ?_ | refine TQ.then_normal ?_
    | ((with_reducible apply TL.storeE); (· rfl); (· rfl); (· rfl); (· exact pkA); (· infer_instance)) | ((with_reducible apply TL.store_whole); (· rfl); (· rfl); (· exact oneA); (· rfl); (· exact pkA); (· rfl))
    | refine TC.block ?_ | refine TC.ret ?_ | refine TC.skip ?_ | refine TC.exit ?_ | refine TC.cond rfl ?_
    | refine TQ.down ?_ | refine TQ.in_exit' rfl ?_
    | refine TL.guard_yes rfl rfl ?_ | refine TL.guard_no rfl rfl rfl rfl ?_ | refine TL.guard_no0 rfl rfl rfl ?_ | refine TL.guard_undef rfl rfl rfl ?_ | refine TL.guard_undef0 rfl rfl ?_ | refine TL.guard rfl rfl rfl ?_
    | refine Br.t rfl ?_ | refine Br.f rfl ?_ | refine Br.ky kpA ?_ | refine Br.kn kpA ?_ | refine Br.nky kpA ?_ | refine Br.nkn kpA ?_
    | refine Br.eq0 (fun _ => ?_) (fun _ => ?_) | refine Br.neq0 (fun _ => ?_) (fun _ => ?_) | refine Br.eq (fun _ => ?_) (fun _ => ?_) | refine Br.neq (fun _ => ?_) (fun _ => ?_) | refine Br.not (fun _ => ?_) (fun _ => ?_) | refine Br.dec (fun _ => ?_) (fun _ => ?_) | refine Br.bool (fun _ => ?_) (fun _ => ?_)
    | ((with_reducible apply TL.alloc_ag); (· rfl); intro _) | ((with_reducible apply TL.alloc_sc); (· rfl); (· rfl); intro _) | ((with_reducible apply TL.box_ag); (· rfl); (· rfl); intro _) | ((with_reducible apply TL.box_sc); (· rfl); (· rfl); (· rfl); intro _))
    refine TQ.endR1 (L' := (RdO br vn (w || decide (s.length < 8)) :: L)) Tryz.results12 rvA rfl (.refl _) ?_ selA
    refine ⟨vn, _, _, s.drop 8, rfl, rfl, rfl, by rw [List.length_drop] at hn ⊢; exact hn, by simp, ?_⟩
    by_cases h8 : s.length < 8
    · rw [if_pos h8, decide_eq_true h8, Bool.or_true]
      exact out_wrong _ _ _ _ _ (.inr rfl)
    · rw [if_neg h8, decide_eq_false h8, Bool.or_false]
      exact outv_some (by rw [IsJ]; exact ⟨rfl, rdNum_bd s⟩)
  rw [if_neg h4]
  by_cases h5 : k = 5
  · subst h5
    rw [if_pos rfl]
    have A := fun L => word_does s w v br g L hS hl
    unfold WordR at A
    clear hS
    repeat' (first
    | (refine TL.call (Enters.plain (by kernel_rfl) (by rfl)) (by rfl) (Does.perm (A _) (by first | exact List.Perm.refl _ | exact Pk.cons pkA (List.Perm.refl _))) ?_; (rintro e gw Ln _ ⟨vw, ww, xw, sw, k1, k2, k3, hsw, hlw, hxw, how⟩; have k2 := k2.symm; subst k1; subst k2; subst k3; refine CallK.ret ?_))
    | ((with_reducible apply TL.pure); (· exact yV); (· rfl)) | ((with_reducible apply TW.pure); (· exact yV); (· rfl))
    | ((with_reducible apply TL.pure); (· exact yA); (· rfl))
    | refine TC.seq ?_ | refine TC.region ?_ | refine TL.nil ?_ | refine TQ.then_normal ?_
    | ((with_reducible apply TL.storeE); (· rfl); (· rfl); (· rfl); (· exact pkA); (· infer_instance)) | ((with_reducible apply TL.store_whole); (· rfl); (· rfl); (· exact oneA); (· rfl); (· exact pkA); (· rfl))
    | refine TC.block ?_ | refine TC.ret ?_ | refine TC.skip ?_ | refine TC.exit ?_ | refine TC.cond rfl ?_
    | refine TQ.down ?_ | refine TQ.in_exit' rfl ?_
    | refine TL.guard_yes rfl rfl ?_ | refine TL.guard_no rfl rfl rfl rfl ?_ | refine TL.guard_no0 rfl rfl rfl ?_ | refine TL.guard_undef rfl rfl rfl ?_ | refine TL.guard_undef0 rfl rfl ?_ | refine TL.guard rfl rfl rfl ?_
    | refine Br.t rfl ?_ | refine Br.f rfl ?_ | refine Br.ky kpA ?_ | refine Br.kn kpA ?_ | refine Br.nky kpA ?_ | refine Br.nkn kpA ?_
    | refine Br.eq0 (fun _ => ?_) (fun _ => ?_) | refine Br.neq0 (fun _ => ?_) (fun _ => ?_) | refine Br.eq (fun _ => ?_) (fun _ => ?_) | refine Br.neq (fun _ => ?_) (fun _ => ?_) | refine Br.not (fun _ => ?_) (fun _ => ?_) | refine Br.dec (fun _ => ?_) (fun _ => ?_) | refine Br.bool (fun _ => ?_) (fun _ => ?_)
    | ((with_reducible apply TL.alloc_ag); (· rfl); intro _) | ((with_reducible apply TL.alloc_sc); (· rfl); (· rfl); intro _) | ((with_reducible apply TL.box_ag); (· rfl); (· rfl); intro _) | ((with_reducible apply TL.box_sc); (· rfl); (· rfl); (· rfl); intro _))
    refine TQ.endR1 (L' := (RdO br vw ww :: L)) Tryz.results12 rvA rfl (.refl _) ?_ selA
    refine ⟨vw, ww, _, sw, rfl, rfl, rfl, hsw, hlw, ?_⟩
    unfold OutW at how
    unfold OutV
    cases w with
    | true => rw [if_pos rfl] at how ⊢; exact how
    | false =>
      rw [if_neg (by decide)] at how ⊢
      cases hp : wordP s with
      | none => rw [hp] at how; exact how
      | some q =>
        rw [hp] at how
        obtain ⟨a, r⟩ := q
        obtain ⟨e1, e2, e3⟩ := how
        exact ⟨e1, e2, by rw [IsJ, e3]⟩
  rw [if_neg h5]
  by_cases h6 : k = 6
  · subst h6
    rw [if_pos rfl]
    by_cases hlt : within < 32
    · have A := fun L => AL s w v g L hlt hS hl
      unfold ValR at A
      clear hS
      repeat' (first
    | (refine TL.call (Enters.plain (by kernel_rfl) (by rfl)) (by rfl) (Does.perm (A _) (by first | exact List.Perm.refl _ | exact Pk.cons pkA (List.Perm.refl _))) ?_; (rintro e g1 Ln hg1 ⟨vv, wv, xv, sv, k1, hx1, k3, hsv, hlv, hov⟩; subst k1; subst k3; refine CallK.ret ?_))
    | ((with_reducible apply TL.pure); (· exact yV); (· rfl)) | ((with_reducible apply TW.pure); (· exact yV); (· rfl))
    | ((with_reducible apply TL.pure); (· exact yA); (· rfl))
    | refine TC.seq ?_ | refine TC.region ?_ | refine TL.nil ?_ | refine TQ.then_normal ?_
    | ((with_reducible apply TL.storeE); (· rfl); (· rfl); (· rfl); (· exact pkA); (· infer_instance)) | ((with_reducible apply TL.store_whole); (· rfl); (· rfl); (· exact oneA); (· rfl); (· exact pkA); (· rfl))
    | refine TC.block ?_ | refine TC.ret ?_ | refine TC.skip ?_ | refine TC.exit ?_ | refine TC.cond rfl ?_
    | refine TQ.down ?_ | refine TQ.in_exit' rfl ?_
    | refine TL.guard_yes rfl rfl ?_ | refine TL.guard_no rfl rfl rfl rfl ?_ | refine TL.guard_no0 rfl rfl rfl ?_ | refine TL.guard_undef rfl rfl rfl ?_ | refine TL.guard_undef0 rfl rfl ?_ | refine TL.guard rfl rfl rfl ?_
    | refine Br.t rfl ?_ | refine Br.f rfl ?_ | refine Br.ky kpA ?_ | refine Br.kn kpA ?_ | refine Br.nky kpA ?_ | refine Br.nkn kpA ?_
    | refine Br.eq0 (fun _ => ?_) (fun _ => ?_) | refine Br.neq0 (fun _ => ?_) (fun _ => ?_) | refine Br.eq (fun _ => ?_) (fun _ => ?_) | refine Br.neq (fun _ => ?_) (fun _ => ?_) | refine Br.not (fun _ => ?_) (fun _ => ?_) | refine Br.dec (fun _ => ?_) (fun _ => ?_) | refine Br.bool (fun _ => ?_) (fun _ => ?_)
    | ((with_reducible apply TL.alloc_ag); (· rfl); intro _) | ((with_reducible apply TL.alloc_sc); (· rfl); (· rfl); intro _) | ((with_reducible apply TL.box_ag); (· rfl); (· rfl); intro _) | ((with_reducible apply TL.box_sc); (· rfl); (· rfl); (· rfl); intro _))
      refine TQ.endR1 (L' := (RdO br vv wv :: L)) Tryz.results12 rvA rfl (hg1) ?_ selA
      exact ⟨vv, wv, xv, sv, rfl, hx1, rfl, hsv, hlv, hov⟩
    · have HS1 := Hn.mk hS
      clear hS
      repeat' (first
    | ((with_reducible apply TL.pure); (· exact yV); (· rfl)) | ((with_reducible apply TW.pure); (· exact yV); (· rfl))
    | ((with_reducible apply TL.pure); (· exact yA); (· rfl))
    | refine TC.seq ?_ | refine TC.region ?_ | refine TL.nil ?_ | refine TQ.then_normal ?_
    | ((with_reducible apply TL.storeE); (· rfl); (· rfl); (· rfl); (· exact pkA); (· infer_instance)) | ((with_reducible apply TL.store_whole); (· rfl); (· rfl); (· exact oneA); (· rfl); (· exact pkA); (· rfl))
    | refine TC.block ?_ | refine TC.ret ?_ | refine TC.skip ?_ | refine TC.exit ?_ | refine TC.cond rfl ?_
    | refine TQ.down ?_ | refine TQ.in_exit' rfl ?_
    | refine TL.guard_yes rfl rfl ?_ | refine TL.guard_no rfl rfl rfl rfl ?_ | refine TL.guard_no0 rfl rfl rfl ?_ | refine TL.guard_undef rfl rfl rfl ?_ | refine TL.guard_undef0 rfl rfl ?_ | refine TL.guard rfl rfl rfl ?_
    | refine Br.t rfl ?_ | refine Br.f rfl ?_ | refine Br.ky kpA ?_ | refine Br.kn kpA ?_ | refine Br.nky kpA ?_ | refine Br.nkn kpA ?_
    | refine Br.eq0 (fun _ => ?_) (fun _ => ?_) | refine Br.neq0 (fun _ => ?_) (fun _ => ?_) | refine Br.eq (fun _ => ?_) (fun _ => ?_) | refine Br.neq (fun _ => ?_) (fun _ => ?_) | refine Br.not (fun _ => ?_) (fun _ => ?_) | refine Br.dec (fun _ => ?_) (fun _ => ?_) | refine Br.bool (fun _ => ?_) (fun _ => ?_)
    | ((with_reducible apply TL.alloc_ag); (· rfl); intro _) | ((with_reducible apply TL.alloc_sc); (· rfl); (· rfl); intro _) | ((with_reducible apply TL.box_ag); (· rfl); (· rfl); intro _) | ((with_reducible apply TL.box_sc); (· rfl); (· rfl); (· rfl); intro _))
      refine TQ.endR1 (L' := (RdO br v true :: L)) Tryz.results12 rvA rfl (.refl _) ?_ selA
      exact ⟨v, true, _, s, rfl, rfl, rfl, HS1.out, Nat.le_refl _, out_wrong _ _ _ _ _ (.inr (hno (by omega) s).1)⟩
  rw [if_neg h6]
  by_cases h7 : k = 7
  · subst h7
    rw [if_pos rfl]
    by_cases hlt : within < 32
    · have A := fun L => AO s w v g L hlt hS hl
      unfold ValR at A
      clear hS
      repeat' (first
    | (refine TL.call (Enters.plain (by kernel_rfl) (by rfl)) (by rfl) (Does.perm (A _) (by first | exact List.Perm.refl _ | exact Pk.cons pkA (List.Perm.refl _))) ?_; (rintro e g1 Ln hg1 ⟨vv, wv, xv, sv, k1, hx1, k3, hsv, hlv, hov⟩; subst k1; subst k3; refine CallK.ret ?_))
    | ((with_reducible apply TL.pure); (· exact yV); (· rfl)) | ((with_reducible apply TW.pure); (· exact yV); (· rfl))
    | ((with_reducible apply TL.pure); (· exact yA); (· rfl))
    | refine TC.seq ?_ | refine TC.region ?_ | refine TL.nil ?_ | refine TQ.then_normal ?_
    | ((with_reducible apply TL.storeE); (· rfl); (· rfl); (· rfl); (· exact pkA); (· infer_instance)) | ((with_reducible apply TL.store_whole); (· rfl); (· rfl); (· exact oneA); (· rfl); (· exact pkA); (· rfl))
    | refine TC.block ?_ | refine TC.ret ?_ | refine TC.skip ?_ | refine TC.exit ?_ | refine TC.cond rfl ?_
    | refine TQ.down ?_ | refine TQ.in_exit' rfl ?_
    | refine TL.guard_yes rfl rfl ?_ | refine TL.guard_no rfl rfl rfl rfl ?_ | refine TL.guard_no0 rfl rfl rfl ?_ | refine TL.guard_undef rfl rfl rfl ?_ | refine TL.guard_undef0 rfl rfl ?_ | refine TL.guard rfl rfl rfl ?_
    | refine Br.t rfl ?_ | refine Br.f rfl ?_ | refine Br.ky kpA ?_ | refine Br.kn kpA ?_ | refine Br.nky kpA ?_ | refine Br.nkn kpA ?_
    | refine Br.eq0 (fun _ => ?_) (fun _ => ?_) | refine Br.neq0 (fun _ => ?_) (fun _ => ?_) | refine Br.eq (fun _ => ?_) (fun _ => ?_) | refine Br.neq (fun _ => ?_) (fun _ => ?_) | refine Br.not (fun _ => ?_) (fun _ => ?_) | refine Br.dec (fun _ => ?_) (fun _ => ?_) | refine Br.bool (fun _ => ?_) (fun _ => ?_)
    | ((with_reducible apply TL.alloc_ag); (· rfl); intro _) | ((with_reducible apply TL.alloc_sc); (· rfl); (· rfl); intro _) | ((with_reducible apply TL.box_ag); (· rfl); (· rfl); intro _) | ((with_reducible apply TL.box_sc); (· rfl); (· rfl); (· rfl); intro _))
      refine TQ.endR1 (L' := (RdO br vv wv :: L)) Tryz.results12 rvA rfl (hg1) ?_ selA
      exact ⟨vv, wv, xv, sv, rfl, hx1, rfl, hsv, hlv, hov⟩
    · have HS1 := Hn.mk hS
      clear hS
      repeat' (first
    | ((with_reducible apply TL.pure); (· exact yV); (· rfl)) | ((with_reducible apply TW.pure); (· exact yV); (· rfl))
    | ((with_reducible apply TL.pure); (· exact yA); (· rfl))
    | refine TC.seq ?_ | refine TC.region ?_ | refine TL.nil ?_ | refine TQ.then_normal ?_
    | ((with_reducible apply TL.storeE); (· rfl); (· rfl); (· rfl); (· exact pkA); (· infer_instance)) | ((with_reducible apply TL.store_whole); (· rfl); (· rfl); (· exact oneA); (· rfl); (· exact pkA); (· rfl))
    | refine TC.block ?_ | refine TC.ret ?_ | refine TC.skip ?_ | refine TC.exit ?_ | refine TC.cond rfl ?_
    | refine TQ.down ?_ | refine TQ.in_exit' rfl ?_
    | refine TL.guard_yes rfl rfl ?_ | refine TL.guard_no rfl rfl rfl rfl ?_ | refine TL.guard_no0 rfl rfl rfl ?_ | refine TL.guard_undef rfl rfl rfl ?_ | refine TL.guard_undef0 rfl rfl ?_ | refine TL.guard rfl rfl rfl ?_
    | refine Br.t rfl ?_ | refine Br.f rfl ?_ | refine Br.ky kpA ?_ | refine Br.kn kpA ?_ | refine Br.nky kpA ?_ | refine Br.nkn kpA ?_
    | refine Br.eq0 (fun _ => ?_) (fun _ => ?_) | refine Br.neq0 (fun _ => ?_) (fun _ => ?_) | refine Br.eq (fun _ => ?_) (fun _ => ?_) | refine Br.neq (fun _ => ?_) (fun _ => ?_) | refine Br.not (fun _ => ?_) (fun _ => ?_) | refine Br.dec (fun _ => ?_) (fun _ => ?_) | refine Br.bool (fun _ => ?_) (fun _ => ?_)
    | ((with_reducible apply TL.alloc_ag); (· rfl); intro _) | ((with_reducible apply TL.alloc_sc); (· rfl); (· rfl); intro _) | ((with_reducible apply TL.box_ag); (· rfl); (· rfl); intro _) | ((with_reducible apply TL.box_sc); (· rfl); (· rfl); (· rfl); intro _))
      refine TQ.endR1 (L' := (RdO br v true :: L)) Tryz.results12 rvA rfl (.refl _) ?_ selA
      exact ⟨v, true, _, s, rfl, rfl, rfl, HS1.out, Nat.le_refl _, out_wrong _ _ _ _ _ (.inr (hno (by omega) s).2)⟩
  rw [if_neg h7]
  have HN : ∀ m : Nat, m < 256 → k ≠ (UInt8.ofNat m) → Hn (¬ (k.toNat : Int) = (m : Int)) := fun m hm hk => ⟨fun h => hk (UInt8.toNat_inj.1 (by rw [UInt8.toNat_ofNat_of_lt' hm]; omega))⟩
  have n1 := HN 1 (by decide) h1
  have n2 := HN 2 (by decide) h2
  have n3 := HN 3 (by decide) h3
  have n4 := HN 4 (by decide) h4
  have n5 := HN 5 (by decide) h5
  have n6 := HN 6 (by decide) h6
  have n7 := HN 7 (by decide) h7
  have HS1 := Hn.mk hS
  clear hS h1 h2 h3 h4 h5 h6 h7 HN
  repeat' (first
    | ((with_reducible apply TL.pure); (· exact yV); (· rfl)) | ((with_reducible apply TW.pure); (· exact yV); (· rfl))
    | ((with_reducible apply TL.pure); (· exact yA); (· rfl))
    | refine TC.seq ?_ | refine TC.region ?_ | refine TL.nil ?_ | refine TQ.then_normal ?_
    | ((with_reducible apply TL.storeE); (· rfl); (· rfl); (· rfl); (· exact pkA); (· infer_instance)) | ((with_reducible apply TL.store_whole); (· rfl); (· rfl); (· exact oneA); (· rfl); (· exact pkA); (· rfl))
    | refine TC.block ?_ | refine TC.ret ?_ | refine TC.skip ?_ | refine TC.exit ?_ | refine TC.cond rfl ?_
    | refine TQ.down ?_ | refine TQ.in_exit' rfl ?_
    | refine TL.guard_yes rfl rfl ?_ | refine TL.guard_no rfl rfl rfl rfl ?_ | refine TL.guard_no0 rfl rfl rfl ?_ | refine TL.guard_undef rfl rfl rfl ?_ | refine TL.guard_undef0 rfl rfl ?_ | refine TL.guard rfl rfl rfl ?_
    | refine Br.t rfl ?_ | refine Br.f rfl ?_ | refine Br.ky kpA ?_ | refine Br.kn kpA ?_ | refine Br.nky kpA ?_ | refine Br.nkn kpA ?_
    | refine Br.eq0 (fun _ => ?_) (fun _ => ?_) | refine Br.neq0 (fun _ => ?_) (fun _ => ?_) | refine Br.eq (fun _ => ?_) (fun _ => ?_) | refine Br.neq (fun _ => ?_) (fun _ => ?_) | refine Br.not (fun _ => ?_) (fun _ => ?_) | refine Br.dec (fun _ => ?_) (fun _ => ?_) | refine Br.bool (fun _ => ?_) (fun _ => ?_)
    | ((with_reducible apply TL.alloc_ag); (· rfl); intro _) | ((with_reducible apply TL.alloc_sc); (· rfl); (· rfl); intro _) | ((with_reducible apply TL.box_ag); (· rfl); (· rfl); intro _) | ((with_reducible apply TL.box_sc); (· rfl); (· rfl); (· rfl); intro _))
  refine TQ.endR1 (L' := (RdO br v true :: L)) Tryz.results12 rvA rfl (.refl _) ?_ selA
  exact ⟨v, true, _, s, rfl, rfl, rfl, HS1.out, Nat.le_refl _, out_wrong _ _ _ _ _ (.inr rfl)⟩
theorem value_does : ∀ (d within : Nat), within + d = 32 → ∀ (br : Nat) (k : UInt8) (s : List UInt8) (w : Bool) (v : Value) (g : Gh) (L : List Ent), Sl g v s.length 1 (byteVals s) → s.length ≤ 1000000 → Does Tryz.prog 12 #[.pointer (some ⟨br, 0, none⟩), .int .u8 (k.toNat : Nat), .int .i64 (within : Nat)] g (RdO br v w :: L) (ValR (valP d k s) s w br L)
  | 0, within, hd, br, k, s, w, v, g, L, hS, hl => by
    rw [valP]
    exact value_with _ _ within (by omega) br (fun _ _ _ _ _ h => by omega) (fun _ _ _ _ _ h => by omega) (fun _ _ => ⟨rfl, rfl⟩) k s w v g L hS hl
  | d + 1, within, hd, br, k, s, w, v, g, L, hS, hl => by
    rw [valP]
    exact value_with _ _ within (by omega) br (fun s w v g L _ hS hl => list_does (valP d) (within + 1) br (fun c t w v g L hS hl => value_does d (within + 1) (by omega) br c t w v g L hS hl) s w v g L hS hl)
      (fun s w v g L _ hS hl => obj_does (valP d) (within + 1) br (fun c t w v g L hS hl => value_does d (within + 1) (by omega) br c t w v g L hS hl) s w v g L hS hl) (fun h => by omega) k s w v g L hS hl
end Go.Proofs.YtphlggmhgfcmgaaGreatDoor
