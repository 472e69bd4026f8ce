/-
  The walk of the document's value of a key.
-/
import Derived.Test.YtphlggmhgfcmgaaGreatDoorOReadR
import Derived.Test.YtphlggmhgfcmgaaGreatDoorORead4
import Derived.Test.YtphlggmhgfcmgaaGreatDoorOBackLaw
import Derived.Test.YtphlggmhgfcmgaaGreatDoorTold05
namespace Go.Proofs.YtphlggmhgfcmgaaGreatDoor
open Go.RowKit Go.TL
set_option maxRecDepth 100000

abbrev sixV (a : Int) (b : Bool) (c : Int) (d : List UInt8) (vi vn : Value) : List Value := [.int .i64 a, .bool b, .int .i64 c, str d, vi, vn]
/-- What the document's value tells of these bytes. -/
def VR (s : List UInt8) (o : Option (J × List UInt8)) (L : List Ent) : Ending → Gh → List Ent → Prop := fun r g' L1 => ∃ a b c d vi vn e, r = .returned (.tuple #[.agg (sixV a b c d vi vn).toArray, .int .i64 e]) ∧ vi.one = true ∧ vn.one = true ∧ L1 = L ∧ (match o with
  | none => e = -1
  | some (j, r) => ∃ m : Nat, e = (m : Int) ∧ m ≤ s.length ∧ r = s.drop m ∧ ∃ x, IsV g' x (sixV a b c d vi vn) ∧ toJ x = j ∧ wfV x)
def atL (f : UInt8 → List UInt8 → Option (J × List UInt8)) : List UInt8 → Option (J × List UInt8)
  | [] => none
  | c :: t => f c t
theorem wordP_drop {s a r : List UInt8} (h : wordP s = some (a, r)) : r = s.drop (s.length - r.length) := by
  have h1 := esc_wordP _ s a r (Nat.le_refl _) h
  subst h1
  have e : (escL a ++ [0, 1] ++ r).length - r.length = (escL a ++ [0, 1]).length := by
    have h2 : (escL a ++ [0, 1] ++ r).length = (escL a ++ [0, 1]).length + r.length := List.length_append
    omega
  rw [e, List.drop_left]
/-- A list on the way: where, how many, the slice, its cells, what stays. -/
structure LrS where
  i : Nat
  m : Nat
  lv : Value
  fl : List Value
  gh : Gh
structure LrI (f : UInt8 → List UInt8 → Option (J × List UInt8)) (s : List UInt8) (k0 : Nat) (g : Gh) (x : LrS) : Prop where
  le : x.i ≤ s.length
  gl : g.le x.gh
  ml : x.m + k0 ≤ x.i
  fll : x.fl.length = x.m * 6
  ex : ∃ ds k, IsVs x.gh ds x.fl ∧ wfVs ds ∧ ds.length = x.m ∧ (s.drop x.i).length < k ∧ listP f ((s.drop k0).length + 1) (s.drop k0) = (listP f k (s.drop x.i)).map fun p => (ds.map toJ ++ p.1, p.2)
theorem wfVs.snoc : ∀ {l : List DV} {x : DV}, wfVs l → wfV x → wfVs (l ++ [x])
  | [], x, _, h => by rw [List.nil_append, wfVs, wfVs]; exact ⟨h, trivial⟩
  | y :: r, x, h, hx => by
    rw [wfVs] at h
    rw [List.cons_append, wfVs]; exact ⟨h.1, h.2.snoc hx⟩
theorem IsVs.snoc2 {g : Gh} : ∀ {l : List DV} {flat : List Value} {x : DV} {cs : List Value}, IsVs g l flat → IsV g x cs → IsVs g (l ++ [x]) (flat ++ cs)
  | [], flat, x, cs, h, hx => by
    rw [IsVs] at h; subst h
    rw [List.nil_append, List.nil_append, IsVs]
    exact ⟨cs, [], by simp, hx, by rw [IsVs]⟩
  | y :: r, flat, x, cs, h, hx => by
    rw [IsVs] at h
    obtain ⟨c, fl, rfl, h1, h2⟩ := h
    rw [List.cons_append, IsVs]
    exact ⟨c, fl ++ cs, by simp, h1, h2.snoc2 hx⟩
theorem isV_flat {g : Gh} {k n : Int} {b : Bool} {s : List UInt8} (hk : -9223372036854775808 ≤ k ∧ k ≤ 9223372036854775807) (hn : -9223372036854775808 ≤ n ∧ n ≤ 9223372036854775807) (hs : s.length ≤ 9223372036854775807) : IsV g (.mk k b n s [] []) (sixV k b n s (.slice none 0 0) (.slice none 0 0)) := by
  rw [IsV]
  exact ⟨_, _, [], rfl, hk, hn, hs, Sl.nil, Nat.zero_le _, by rw [IsVs], Sl.nil, Nat.zero_le _, by simp⟩
theorem wf_flat {k n : Int} {b : Bool} {s : List UInt8} (hs : s.length ≤ 100000) : wfV (.mk k b n s [] []) := by
  rw [wfV, wfVs]
  exact ⟨hs, by simp, fun _ => ⟨rfl, by simp⟩, fun _ => trivial⟩
/-- A number's bytes, the first one less by half. -/
def numI (r : List UInt8) (i : Nat) : Int := (valB (r.take i) : Int) - 128 * 256 ^ (i - 1)
theorem numI_step {r : List UInt8} {i : Nat} {c : UInt8} (hc : r[i]? = some c) (h1 : 1 ≤ i) : numI r (i + 1) = 256 * numI r i + (c.toNat : Nat) := by
  unfold numI
  have h2 : (256 : Int) ^ (i + 1 - 1) = 256 * 256 ^ (i - 1) := by
    rw [show i + 1 - 1 = (i - 1) + 1 by omega, Int.pow_succ]; omega
  rw [List.take_add_one, hc, Option.toList_some, valB_snoc, h2]
  generalize (256 : Int) ^ (i - 1) = p
  generalize valB (r.take i) = q
  omega
theorem numI_bd (r : List UInt8) (i : Nat) (h1 : 1 ≤ i) (h7 : i ≤ 7) : -36028797018963968 ≤ numI r i ∧ numI r i < 36028797018963968 := by
  unfold numI
  have h := valB_lt (r.take i)
  have h2 : (256 : Nat) ^ (r.take i).length ≤ 256 ^ i := Nat.pow_le_pow_right (by decide) (by rw [List.length_take]; omega)
  have h3 : (256 : Nat) ^ i = 256 * 256 ^ (i - 1) := by
    conv => lhs; rw [show i = (i - 1) + 1 by omega]
    rw [Nat.pow_succ]; omega
  have h4 : (256 : Nat) ^ (i - 1) ≤ 256 ^ 6 := Nat.pow_le_pow_right (by decide) (by omega)
  have h5 : (256 : Nat) ^ 6 = 281474976710656 := by decide
  have h6 : (256 : Int) ^ (i - 1) = ((256 ^ (i - 1) : Nat) : Int) := by simp
  rw [h6]
  generalize (256 : Nat) ^ (i - 1) = p at *
  generalize (256 : Nat) ^ i = u at *
  generalize (256 : Nat) ^ (r.take i).length = t at *
  generalize valB (r.take i) = q at *
  omega
theorem numI_end {r : List UInt8} (h : 8 ≤ r.length) : numI r 8 = rdNum r := by
  unfold numI rdNum padL
  rw [show 8 - r.length = 0 by omega, List.replicate_zero, List.append_nil]
  rfl
theorem numI_one {r : List UInt8} {c : UInt8} (h : r[0]? = some c) : numI r 1 = (c.toNat : Nat) - 128 := by
  unfold numI
  rw [List.take_one, List.head?_eq_getElem?, h]
  simp [valB]
theorem wordP_at {s a r : List UInt8} {k : Nat} (h : wordP (s.drop k) = some (a, r)) : r = s.drop (s.length - r.length) ∧ a.length ≤ s.length ∧ r.length ≤ s.length := by
  have h1 := wordP_drop h
  have h2 := wordP_len _ _ (Nat.le_refl _) h
  rw [List.length_drop] at h2
  refine ⟨?_, by omega, by omega⟩
  rw [h1, List.drop_drop, List.length_drop, List.length_drop]
  congr 1
  omega
set_option maxHeartbeats 32000000 in
/-- What is neither a list nor an object. -/
theorem rflat5_does (s : List UInt8) (v : Value) (within k0 : Nat) (c : UInt8) (g : Gh) (L : List Ent) (hk : s[k0]? = some c) (hS : Sl g v s.length 1 (byteVals s)) (hs : s.length ≤ 100000) (hw : within ≤ 32) (hc : c ≠ 6 ∧ c ≠ 7 ∨ within = 32) :
    Does Tryz.prog 15 #[v, .int .i64 (k0 : Nat), .int .i64 (within : Nat)] g L (VR s (valK (fun _ => none) (fun _ => none) c (s.drop (k0 + 1))) L) := by
  refine Does.of3 Tryz.func15 rfl Tryz.ntmps15 rfl ?_
  have RD := fun L => rread5_gives s (k0 + 1) v g L hS (by omega) (by have := (List.getElem?_eq_some_iff.1 hk).1; omega)
  obtain ⟨ao, cap, rfl⟩ := hS.slice
  have hlt := (List.getElem?_eq_some_iff.1 hk).1
  obtain ⟨b, off, rfl, hg⟩ := hS.elem hlt (by decide)
  have hld : g.cell b (off + k0 * 1) = some (.int .u8 (c.toNat : Nat)) := hg 0 _ (by rw [Nat.mul_one]; exact byteVals_get hk)
  have HS1 := Hn.mk hS
  have HG := Hn.mk hg
  clear hg hS
  unfold VR valK
  by_cases c1 : c = 1
  · subst c1
    have hld : g.cell b (off + k0 * 1) = some (.int .u8 1) := hld
    clear RD hk hc
    rw [if_pos rfl]
    repeat' (first
    | ((with_reducible apply TL.pure); (· exact yV); (· rfl)) | ((with_reducible apply TW.pure); (· exact yV); (· rfl))
    | ((with_reducible apply TL.pure); (· exact yM); (· rfl)) | ((with_reducible apply TW.pure); (· exact yM); (· rfl))
    | ((with_reducible apply TL.pure); (· exact yA); (· rfl))
    | refine TC.seq ?_ | refine TC.region ?_ | refine TL.nil ?_ | refine TQ.then_normal ?_
    | ((with_reducible apply TL.storeE); (· rfl); (· rfl); (· rfl); (· exact pkA); (· infer_instance)) | ((with_reducible apply TL.store_whole); (· rfl); (· rfl); (· exact oneA); (· rfl); (· exact pkA); (· rfl))
    | refine TC.block ?_ | refine TC.ret ?_ | refine TC.skip ?_ | refine TC.exit ?_ | refine TC.cond rfl ?_
    | refine TQ.down ?_ | refine TQ.in_exit' rfl ?_
    | refine TL.guard_yes rfl rfl ?_ | refine TL.guard_no rfl rfl rfl rfl ?_ | refine TL.guard_no0 rfl rfl rfl ?_ | refine TL.guard_undef rfl rfl rfl ?_ | refine TL.guard_undef0 rfl rfl ?_ | refine TL.guard rfl rfl rfl ?_
    | refine Br.t rfl ?_ | refine Br.f rfl ?_ | refine Br.ky kpA ?_ | refine Br.kn kpA ?_ | refine Br.nky kpA ?_ | refine Br.nkn kpA ?_
    | refine Br.eq0 (fun _ => ?_) (fun _ => ?_) | refine Br.neq0 (fun _ => ?_) (fun _ => ?_) | refine Br.eq (fun _ => ?_) (fun _ => ?_) | refine Br.neq (fun _ => ?_) (fun _ => ?_) | refine Br.not (fun _ => ?_) (fun _ => ?_) | refine Br.dec (fun _ => ?_) (fun _ => ?_) | refine Br.bool (fun _ => ?_) (fun _ => ?_)
    | ((with_reducible apply TL.alloc_ag); (· rfl); intro _) | ((with_reducible apply TL.alloc_sc); (· rfl); (· rfl); intro _) | ((with_reducible apply TL.box_ag); (· rfl); (· rfl); intro _) | ((with_reducible apply TL.box_sc); (· rfl); (· rfl); (· rfl); intro _))
    refine TQ.endR2 (L' := L) Tryz.results15 rvA rvA rfl (.refl _) ?_ selA
    exact ⟨0, false, 0, [], _, _, _, rfl, rfl, rfl, rfl, k0 + 1, rfl, by omega, rfl, .mk 0 false 0 [] [] [], isV_flat (by decide) (by decide) (by simp), by rw [toJ_eq]; rfl, wf_flat (by simp)⟩
  rw [if_neg c1]
  by_cases c2 : c = 2
  · subst c2
    have hld : g.cell b (off + k0 * 1) = some (.int .u8 2) := hld
    clear RD hk hc
    rw [if_pos rfl]
    repeat' (first
    | ((with_reducible apply TL.pure); (· exact yV); (· rfl)) | ((with_reducible apply TW.pure); (· exact yV); (· rfl))
    | ((with_reducible apply TL.pure); (· exact yM); (· rfl)) | ((with_reducible apply TW.pure); (· exact yM); (· rfl))
    | ((with_reducible apply TL.pure); (· exact yA); (· rfl))
    | refine TC.seq ?_ | refine TC.region ?_ | refine TL.nil ?_ | refine TQ.then_normal ?_
    | ((with_reducible apply TL.storeE); (· rfl); (· rfl); (· rfl); (· exact pkA); (· infer_instance)) | ((with_reducible apply TL.store_whole); (· rfl); (· rfl); (· exact oneA); (· rfl); (· exact pkA); (· rfl))
    | refine TC.block ?_ | refine TC.ret ?_ | refine TC.skip ?_ | refine TC.exit ?_ | refine TC.cond rfl ?_
    | refine TQ.down ?_ | refine TQ.in_exit' rfl ?_
    | refine TL.guard_yes rfl rfl ?_ | refine TL.guard_no rfl rfl rfl rfl ?_ | refine TL.guard_no0 rfl rfl rfl ?_ | refine TL.guard_undef rfl rfl rfl ?_ | refine TL.guard_undef0 rfl rfl ?_ | refine TL.guard rfl rfl rfl ?_
    | refine Br.t rfl ?_ | refine Br.f rfl ?_ | refine Br.ky kpA ?_ | refine Br.kn kpA ?_ | refine Br.nky kpA ?_ | refine Br.nkn kpA ?_
    | refine Br.eq0 (fun _ => ?_) (fun _ => ?_) | refine Br.neq0 (fun _ => ?_) (fun _ => ?_) | refine Br.eq (fun _ => ?_) (fun _ => ?_) | refine Br.neq (fun _ => ?_) (fun _ => ?_) | refine Br.not (fun _ => ?_) (fun _ => ?_) | refine Br.dec (fun _ => ?_) (fun _ => ?_) | refine Br.bool (fun _ => ?_) (fun _ => ?_)
    | ((with_reducible apply TL.alloc_ag); (· rfl); intro _) | ((with_reducible apply TL.alloc_sc); (· rfl); (· rfl); intro _) | ((with_reducible apply TL.box_ag); (· rfl); (· rfl); intro _) | ((with_reducible apply TL.box_sc); (· rfl); (· rfl); (· rfl); intro _))
    refine TQ.endR2 (L' := L) Tryz.results15 rvA rvA rfl (.refl _) ?_ selA
    exact ⟨1, false, 0, [], _, _, _, rfl, rfl, rfl, rfl, k0 + 1, rfl, by omega, rfl, .mk 1 false 0 [] [] [], isV_flat (by decide) (by decide) (by simp), by rw [toJ_eq]; rfl, wf_flat (by simp)⟩
  rw [if_neg c2]
  by_cases c3 : c = 3
  · subst c3
    have hld : g.cell b (off + k0 * 1) = some (.int .u8 3) := hld
    clear RD hk hc
    rw [if_pos rfl]
    repeat' (first
    | ((with_reducible apply TL.pure); (· exact yV); (· rfl)) | ((with_reducible apply TW.pure); (· exact yV); (· rfl))
    | ((with_reducible apply TL.pure); (· exact yM); (· rfl)) | ((with_reducible apply TW.pure); (· exact yM); (· rfl))
    | ((with_reducible apply TL.pure); (· exact yA); (· rfl))
    | refine TC.seq ?_ | refine TC.region ?_ | refine TL.nil ?_ | refine TQ.then_normal ?_
    | ((with_reducible apply TL.storeE); (· rfl); (· rfl); (· rfl); (· exact pkA); (· infer_instance)) | ((with_reducible apply TL.store_whole); (· rfl); (· rfl); (· exact oneA); (· rfl); (· exact pkA); (· rfl))
    | refine TC.block ?_ | refine TC.ret ?_ | refine TC.skip ?_ | refine TC.exit ?_ | refine TC.cond rfl ?_
    | refine TQ.down ?_ | refine TQ.in_exit' rfl ?_
    | refine TL.guard_yes rfl rfl ?_ | refine TL.guard_no rfl rfl rfl rfl ?_ | refine TL.guard_no0 rfl rfl rfl ?_ | refine TL.guard_undef rfl rfl rfl ?_ | refine TL.guard_undef0 rfl rfl ?_ | refine TL.guard rfl rfl rfl ?_
    | refine Br.t rfl ?_ | refine Br.f rfl ?_ | refine Br.ky kpA ?_ | refine Br.kn kpA ?_ | refine Br.nky kpA ?_ | refine Br.nkn kpA ?_
    | refine Br.eq0 (fun _ => ?_) (fun _ => ?_) | refine Br.neq0 (fun _ => ?_) (fun _ => ?_) | refine Br.eq (fun _ => ?_) (fun _ => ?_) | refine Br.neq (fun _ => ?_) (fun _ => ?_) | refine Br.not (fun _ => ?_) (fun _ => ?_) | refine Br.dec (fun _ => ?_) (fun _ => ?_) | refine Br.bool (fun _ => ?_) (fun _ => ?_)
    | ((with_reducible apply TL.alloc_ag); (· rfl); intro _) | ((with_reducible apply TL.alloc_sc); (· rfl); (· rfl); intro _) | ((with_reducible apply TL.box_ag); (· rfl); (· rfl); intro _) | ((with_reducible apply TL.box_sc); (· rfl); (· rfl); (· rfl); intro _))
    refine TQ.endR2 (L' := L) Tryz.results15 rvA rvA rfl (.refl _) ?_ selA
    exact ⟨1, true, 0, [], _, _, _, rfl, rfl, rfl, rfl, k0 + 1, rfl, by omega, rfl, .mk 1 true 0 [] [] [], isV_flat (by decide) (by decide) (by simp), by rw [toJ_eq]; rfl, wf_flat (by simp)⟩
  rw [if_neg c3]
  by_cases c4 : c = 4
  · subst c4
    have hld : g.cell b (off + k0 * 1) = some (.int .u8 4) := hld
    clear RD hc
    rw [if_pos rfl, List.length_drop]
    by_cases h8 : s.length - (k0 + 1) < 8
    · rw [if_pos h8]
      clear hk
      repeat' (first
    | ((with_reducible apply TL.pure); (· exact yV); (· rfl)) | ((with_reducible apply TW.pure); (· exact yV); (· rfl))
    | ((with_reducible apply TL.pure); (· exact yM); (· rfl)) | ((with_reducible apply TW.pure); (· exact yM); (· rfl))
    | ((with_reducible apply TL.pure); (· exact yA); (· rfl))
    | refine TC.seq ?_ | refine TC.region ?_ | refine TL.nil ?_ | refine TQ.then_normal ?_
    | ((with_reducible apply TL.storeE); (· rfl); (· rfl); (· rfl); (· exact pkA); (· infer_instance)) | ((with_reducible apply TL.store_whole); (· rfl); (· rfl); (· exact oneA); (· rfl); (· exact pkA); (· rfl))
    | refine TC.block ?_ | refine TC.ret ?_ | refine TC.skip ?_ | refine TC.exit ?_ | refine TC.cond rfl ?_
    | refine TQ.down ?_ | refine TQ.in_exit' rfl ?_
    | refine TL.guard_yes rfl rfl ?_ | refine TL.guard_no rfl rfl rfl rfl ?_ | refine TL.guard_no0 rfl rfl rfl ?_ | refine TL.guard_undef rfl rfl rfl ?_ | refine TL.guard_undef0 rfl rfl ?_ | refine TL.guard rfl rfl rfl ?_
    | refine Br.t rfl ?_ | refine Br.f rfl ?_ | refine Br.ky kpA ?_ | refine Br.kn kpA ?_ | refine Br.nky kpA ?_ | refine Br.nkn kpA ?_
    | refine Br.eq0 (fun _ => ?_) (fun _ => ?_) | refine Br.neq0 (fun _ => ?_) (fun _ => ?_) | refine Br.eq (fun _ => ?_) (fun _ => ?_) | refine Br.neq (fun _ => ?_) (fun _ => ?_) | refine Br.not (fun _ => ?_) (fun _ => ?_) | refine Br.dec (fun _ => ?_) (fun _ => ?_) | refine Br.bool (fun _ => ?_) (fun _ => ?_)
    | ((with_reducible apply TL.alloc_ag); (· rfl); intro _) | ((with_reducible apply TL.alloc_sc); (· rfl); (· rfl); intro _) | ((with_reducible apply TL.box_ag); (· rfl); (· rfl); intro _) | ((with_reducible apply TL.box_sc); (· rfl); (· rfl); (· rfl); intro _))
      refine TQ.endR2 (L' := L) Tryz.results15 rvA rvA rfl (.refl _) ?_ selA
      exact ⟨0, false, 0, [], _, _, _, rfl, rfl, rfl, rfl, rfl⟩
    · rw [if_neg h8]
      obtain ⟨r, hr⟩ : ∃ r, r = s.drop (k0 + 1) := ⟨_, rfl⟩
      have hrl : 8 ≤ r.length := by rw [hr, List.length_drop]; omega
      have hrg : ∀ i, i < 8 → ∃ d : UInt8, r[i]? = some d ∧ g.cell b (off + (k0 + 1 + i) * 1) = some (.int .u8 (d.toNat : Nat)) := fun i hi => by
        obtain ⟨d, hd⟩ : ∃ d, r[i]? = some d := ⟨_, List.getElem?_eq_getElem (by omega)⟩
        have hd2 : s[k0 + 1 + i]? = some d := by rw [hr, List.getElem?_drop] at hd; exact hd
        refine ⟨d, hd, ?_⟩
        have := HG.out (1 + i) (.int .u8 (d.toNat : Nat)) (by rw [Nat.mul_one, show k0 + (1 + i) = k0 + 1 + i by omega]; exact byteVals_get hd2)
        rw [show off + (k0 + 1 + i) * 1 = off + k0 * 1 + (1 + i) by omega]; exact this
      rw [← hr]
      obtain ⟨c0, hc0, hl0⟩ := hrg 0 (by omega)
      have hl0 : g.cell b (off + (k0 + 1) * 1) = some (.int .u8 (c0.toNat : Nat)) := hl0
      have hN1 := numI_one hc0
      have b0 := UInt8.toNat_lt c0
      clear hk
      repeat' (first
    | ((with_reducible apply TL.pure); (· exact yV); (· rfl)) | ((with_reducible apply TW.pure); (· exact yV); (· rfl))
    | ((with_reducible apply TL.pure); (· exact yM); (· rfl)) | ((with_reducible apply TW.pure); (· exact yM); (· rfl))
    | ((with_reducible apply TL.pure); (· exact yA); (· rfl))
    | refine TC.seq ?_ | refine TC.region ?_ | refine TL.nil ?_ | refine TQ.then_normal ?_
    | ((with_reducible apply TL.storeE); (· rfl); (· rfl); (· rfl); (· exact pkA); (· infer_instance)) | ((with_reducible apply TL.store_whole); (· rfl); (· rfl); (· exact oneA); (· rfl); (· exact pkA); (· rfl))
    | refine TC.block ?_ | refine TC.ret ?_ | refine TC.skip ?_ | refine TC.exit ?_ | refine TC.cond rfl ?_
    | refine TQ.down ?_ | refine TQ.in_exit' rfl ?_
    | refine TL.guard_yes rfl rfl ?_ | refine TL.guard_no rfl rfl rfl rfl ?_ | refine TL.guard_no0 rfl rfl rfl ?_ | refine TL.guard_undef rfl rfl rfl ?_ | refine TL.guard_undef0 rfl rfl ?_ | refine TL.guard rfl rfl rfl ?_
    | refine Br.t rfl ?_ | refine Br.f rfl ?_ | refine Br.ky kpA ?_ | refine Br.kn kpA ?_ | refine Br.nky kpA ?_ | refine Br.nkn kpA ?_
    | refine Br.eq0 (fun _ => ?_) (fun _ => ?_) | refine Br.neq0 (fun _ => ?_) (fun _ => ?_) | refine Br.eq (fun _ => ?_) (fun _ => ?_) | refine Br.neq (fun _ => ?_) (fun _ => ?_) | refine Br.not (fun _ => ?_) (fun _ => ?_) | refine Br.dec (fun _ => ?_) (fun _ => ?_) | refine Br.bool (fun _ => ?_) (fun _ => ?_)
    | ((with_reducible apply TL.alloc_ag); (· rfl); intro _) | ((with_reducible apply TL.alloc_sc); (· rfl); (· rfl); intro _) | ((with_reducible apply TL.box_ag); (· rfl); (· rfl); intro _) | ((with_reducible apply TL.box_sc); (· rfl); (· rfl); (· rfl); intro _))
      rename_i b6
      refine TC.slot (t := 9) (u := .int .i64 (numI r 1)) rfl (by rw [hN1]) ?_
      clear hN1
      refine TC.loopL (fun i : Nat => 1 ≤ i ∧ i ≤ 8) (fun i => 8 - i) (fun i _ => [(10, .int .i64 (i : Nat)), (9, .int .i64 (numI r i)), (1, .int .i64 ((k0 + 1 : Nat) : Int)), (0, .slice (some ⟨b, off, none⟩) s.length cap), (6, .pointer (some ⟨b6, 0, none⟩))]) (fun _ => .obj b6 (.cells [.int .i64 0, .bool false, .int .i64 0, str [], .slice none 0 0, .slice none 0 0].toArray 29 (0, 0)) :: L) 1 ⟨by omega, by omega⟩ subA selA ?_
      rintro i ⟨hi1, hi8⟩
      try dsimp only at hi1 hi8 ⊢
      by_cases hlt8 : i < 8
      · obtain ⟨d, hd, hld2⟩ := hrg i hlt8
        have bd := numI_bd r i hi1 (by omega)
        have st := numI_step hd hi1
        have db := UInt8.toNat_lt d
        obtain ⟨q, hq⟩ : ∃ q, q = numI r i := ⟨_, rfl⟩
        obtain ⟨q', hq'⟩ : ∃ q', q' = numI r (i + 1) := ⟨_, rfl⟩
        rw [← hq] at bd st ⊢
        rw [← hq'] at st
        have z1 : IntKind.i64.wrap (256 * q) = 256 * q := IntWalk.i64_in _ (by omega)
        have z2 : IntKind.i64.wrap (256 * q + ((d.toNat : Nat) : Int)) = q' := by rw [st]; exact IntWalk.i64_in _ (by omega)
        have Z1 := Hn.mk z1
        have Z2 := Hn.mk z2
        have HQ := Hn.mk hq'
        clear z1 z2 hrg hr hd st hq hq'
        repeat' (first
    | ((with_reducible apply TL.pure (d := 66) (v := .int .i64 (256 * q))); (· exact Y.mul rfl rfl Z1.out); (· rfl)) | ((with_reducible apply TW.pure (d := 66) (v := .int .i64 (256 * q))); (· exact Y.mul rfl rfl Z1.out); (· rfl))
    | ((with_reducible apply TL.pure (d := 74) (v := .int .i64 q')); (· exact Y.add rfl rfl Z2.out); (· rfl)) | ((with_reducible apply TW.pure (d := 74) (v := .int .i64 q')); (· exact Y.add rfl rfl Z2.out); (· rfl))
    | ((with_reducible apply TL.pure); (· exact yV); (· rfl)) | ((with_reducible apply TW.pure); (· exact yV); (· rfl))
    | ((with_reducible apply TL.pure); (· exact yM); (· rfl)) | ((with_reducible apply TW.pure); (· exact yM); (· rfl))
    | ((with_reducible apply TL.pure); (· exact yA); (· rfl))
    | refine TC.seq ?_ | refine TC.region ?_ | refine TL.nil ?_ | refine TQ.then_normal ?_
    | ((with_reducible apply TL.storeE); (· rfl); (· rfl); (· rfl); (· exact pkA); (· infer_instance)) | ((with_reducible apply TL.store_whole); (· rfl); (· rfl); (· exact oneA); (· rfl); (· exact pkA); (· rfl))
    | refine TC.block ?_ | refine TC.ret ?_ | refine TC.skip ?_ | refine TC.exit ?_ | refine TC.cond rfl ?_
    | refine TQ.down ?_ | refine TQ.in_exit' rfl ?_
    | refine TL.guard_yes rfl rfl ?_ | refine TL.guard_no rfl rfl rfl rfl ?_ | refine TL.guard_no0 rfl rfl rfl ?_ | refine TL.guard_undef rfl rfl rfl ?_ | refine TL.guard_undef0 rfl rfl ?_ | refine TL.guard rfl rfl rfl ?_
    | refine Br.t rfl ?_ | refine Br.f rfl ?_ | refine Br.ky kpA ?_ | refine Br.kn kpA ?_ | refine Br.nky kpA ?_ | refine Br.nkn kpA ?_
    | refine Br.eq0 (fun _ => ?_) (fun _ => ?_) | refine Br.neq0 (fun _ => ?_) (fun _ => ?_) | refine Br.eq (fun _ => ?_) (fun _ => ?_) | refine Br.neq (fun _ => ?_) (fun _ => ?_) | refine Br.not (fun _ => ?_) (fun _ => ?_) | refine Br.dec (fun _ => ?_) (fun _ => ?_) | refine Br.bool (fun _ => ?_) (fun _ => ?_)
    | ((with_reducible apply TL.alloc_ag); (· rfl); intro _) | ((with_reducible apply TL.alloc_sc); (· rfl); (· rfl); intro _) | ((with_reducible apply TL.box_ag); (· rfl); (· rfl); intro _) | ((with_reducible apply TL.box_sc); (· rfl); (· rfl); (· rfl); intro _))
        refine TQ.slot (t := 9) (u := .int .i64 (numI r (i + 1))) rfl (by rw [HQ.out]) ?_
        refine TQ.round (i + 1) ?_ ?_ rfl subA selA
        · exact ⟨by omega, by omega⟩
        · show 8 - (i + 1) < 8 - i
          omega
      · obtain rfl : i = 8 := by omega
        have hN8 := numI_end hrl
        have nb := rdNum_bd r
        rw [hN8]
        clear hrg hN8
        repeat' (first
    | ((with_reducible apply TL.pure); (· exact yV); (· rfl)) | ((with_reducible apply TW.pure); (· exact yV); (· rfl))
    | ((with_reducible apply TL.pure); (· exact yM); (· rfl)) | ((with_reducible apply TW.pure); (· exact yM); (· rfl))
    | ((with_reducible apply TL.pure); (· exact yA); (· rfl))
    | refine TC.seq ?_ | refine TC.region ?_ | refine TL.nil ?_ | refine TQ.then_normal ?_
    | ((with_reducible apply TL.storeE); (· rfl); (· rfl); (· rfl); (· exact pkA); (· infer_instance)) | ((with_reducible apply TL.store_whole); (· rfl); (· rfl); (· exact oneA); (· rfl); (· exact pkA); (· rfl))
    | refine TC.block ?_ | refine TC.ret ?_ | refine TC.skip ?_ | refine TC.exit ?_ | refine TC.cond rfl ?_
    | refine TQ.down ?_ | refine TQ.in_exit' rfl ?_
    | refine TL.guard_yes rfl rfl ?_ | refine TL.guard_no rfl rfl rfl rfl ?_ | refine TL.guard_no0 rfl rfl rfl ?_ | refine TL.guard_undef rfl rfl rfl ?_ | refine TL.guard_undef0 rfl rfl ?_ | refine TL.guard rfl rfl rfl ?_
    | refine Br.t rfl ?_ | refine Br.f rfl ?_ | refine Br.ky kpA ?_ | refine Br.kn kpA ?_ | refine Br.nky kpA ?_ | refine Br.nkn kpA ?_
    | refine Br.eq0 (fun _ => ?_) (fun _ => ?_) | refine Br.neq0 (fun _ => ?_) (fun _ => ?_) | refine Br.eq (fun _ => ?_) (fun _ => ?_) | refine Br.neq (fun _ => ?_) (fun _ => ?_) | refine Br.not (fun _ => ?_) (fun _ => ?_) | refine Br.dec (fun _ => ?_) (fun _ => ?_) | refine Br.bool (fun _ => ?_) (fun _ => ?_)
    | ((with_reducible apply TL.alloc_ag); (· rfl); intro _) | ((with_reducible apply TL.alloc_sc); (· rfl); (· rfl); intro _) | ((with_reducible apply TL.box_ag); (· rfl); (· rfl); intro _) | ((with_reducible apply TL.box_sc); (· rfl); (· rfl); (· rfl); intro _))
        refine TQ.endR2 (L' := L) Tryz.results15 rvA rvA rfl (.refl _) ?_ selA
        exact ⟨2, false, rdNum r, [], _, _, _, rfl, rfl, rfl, rfl, k0 + 1 + 8, rfl, by omega, by rw [hr, List.drop_drop], .mk 2 false (rdNum r) [] [] [], isV_flat (by decide) nb (by simp), by rw [toJ_eq]; rfl, wf_flat (by simp)⟩
  rw [if_neg c4]
  by_cases c5 : c = 5
  · subst c5
    have hld : g.cell b (off + k0 * 1) = some (.int .u8 5) := hld
    clear hc hk
    rw [if_pos rfl]
    cases hwp : wordP (s.drop (k0 + 1)) with
    | none =>
      rw [hwp] at RD
      unfold readV at RD
      repeat' (first
    | ((with_reducible apply TL.pure); (· exact yV); (· rfl)) | ((with_reducible apply TW.pure); (· exact yV); (· rfl))
    | ((with_reducible apply TL.pure); (· exact yM); (· rfl)) | ((with_reducible apply TW.pure); (· exact yM); (· rfl))
    | ((with_reducible apply TL.gives_plain); (· kernel_rfl); (· rfl); (· exact RD _); (· rfl)) | ((with_reducible apply TW.gives_plain); (· kernel_rfl); (· rfl); (· exact RD _); (· rfl))
    | ((with_reducible apply TL.pure); (· exact yA); (· rfl))
    | refine TC.seq ?_ | refine TC.region ?_ | refine TL.nil ?_ | refine TQ.then_normal ?_
    | ((with_reducible apply TL.storeE); (· rfl); (· rfl); (· rfl); (· exact pkA); (· infer_instance)) | ((with_reducible apply TL.store_whole); (· rfl); (· rfl); (· exact oneA); (· rfl); (· exact pkA); (· rfl))
    | refine TC.block ?_ | refine TC.ret ?_ | refine TC.skip ?_ | refine TC.exit ?_ | refine TC.cond rfl ?_
    | refine TQ.down ?_ | refine TQ.in_exit' rfl ?_
    | refine TL.guard_yes rfl rfl ?_ | refine TL.guard_no rfl rfl rfl rfl ?_ | refine TL.guard_no0 rfl rfl rfl ?_ | refine TL.guard_undef rfl rfl rfl ?_ | refine TL.guard_undef0 rfl rfl ?_ | refine TL.guard rfl rfl rfl ?_
    | refine Br.t rfl ?_ | refine Br.f rfl ?_ | refine Br.ky kpA ?_ | refine Br.kn kpA ?_ | refine Br.nky kpA ?_ | refine Br.nkn kpA ?_
    | refine Br.eq0 (fun _ => ?_) (fun _ => ?_) | refine Br.neq0 (fun _ => ?_) (fun _ => ?_) | refine Br.eq (fun _ => ?_) (fun _ => ?_) | refine Br.neq (fun _ => ?_) (fun _ => ?_) | refine Br.not (fun _ => ?_) (fun _ => ?_) | refine Br.dec (fun _ => ?_) (fun _ => ?_) | refine Br.bool (fun _ => ?_) (fun _ => ?_)
    | ((with_reducible apply TL.alloc_ag); (· rfl); intro _) | ((with_reducible apply TL.alloc_sc); (· rfl); (· rfl); intro _) | ((with_reducible apply TL.box_ag); (· rfl); (· rfl); intro _) | ((with_reducible apply TL.box_sc); (· rfl); (· rfl); (· rfl); intro _))
      refine TQ.endR2 (L' := L) Tryz.results15 rvA rvA rfl (.refl _) ?_ selA
      exact ⟨3, false, 0, [], _, _, _, rfl, rfl, rfl, rfl, rfl⟩
    | some q =>
      obtain ⟨a, r⟩ := q
      rw [hwp] at RD
      unfold readV at RD
      dsimp only at RD
      obtain ⟨w1, w2, w3⟩ := wordP_at hwp
      repeat' (first
    | ((with_reducible apply TL.pure); (· exact yV); (· rfl)) | ((with_reducible apply TW.pure); (· exact yV); (· rfl))
    | ((with_reducible apply TL.pure); (· exact yM); (· rfl)) | ((with_reducible apply TW.pure); (· exact yM); (· rfl))
    | ((with_reducible apply TL.gives_plain); (· kernel_rfl); (· rfl); (· exact RD _); (· rfl)) | ((with_reducible apply TW.gives_plain); (· kernel_rfl); (· rfl); (· exact RD _); (· rfl))
    | ((with_reducible apply TL.pure); (· exact yA); (· rfl))
    | refine TC.seq ?_ | refine TC.region ?_ | refine TL.nil ?_ | refine TQ.then_normal ?_
    | ((with_reducible apply TL.storeE); (· rfl); (· rfl); (· rfl); (· exact pkA); (· infer_instance)) | ((with_reducible apply TL.store_whole); (· rfl); (· rfl); (· exact oneA); (· rfl); (· exact pkA); (· rfl))
    | refine TC.block ?_ | refine TC.ret ?_ | refine TC.skip ?_ | refine TC.exit ?_ | refine TC.cond rfl ?_
    | refine TQ.down ?_ | refine TQ.in_exit' rfl ?_
    | refine TL.guard_yes rfl rfl ?_ | refine TL.guard_no rfl rfl rfl rfl ?_ | refine TL.guard_no0 rfl rfl rfl ?_ | refine TL.guard_undef rfl rfl rfl ?_ | refine TL.guard_undef0 rfl rfl ?_ | refine TL.guard rfl rfl rfl ?_
    | refine Br.t rfl ?_ | refine Br.f rfl ?_ | refine Br.ky kpA ?_ | refine Br.kn kpA ?_ | refine Br.nky kpA ?_ | refine Br.nkn kpA ?_
    | refine Br.eq0 (fun _ => ?_) (fun _ => ?_) | refine Br.neq0 (fun _ => ?_) (fun _ => ?_) | refine Br.eq (fun _ => ?_) (fun _ => ?_) | refine Br.neq (fun _ => ?_) (fun _ => ?_) | refine Br.not (fun _ => ?_) (fun _ => ?_) | refine Br.dec (fun _ => ?_) (fun _ => ?_) | refine Br.bool (fun _ => ?_) (fun _ => ?_)
    | ((with_reducible apply TL.alloc_ag); (· rfl); intro _) | ((with_reducible apply TL.alloc_sc); (· rfl); (· rfl); intro _) | ((with_reducible apply TL.box_ag); (· rfl); (· rfl); intro _) | ((with_reducible apply TL.box_sc); (· rfl); (· rfl); (· rfl); intro _))
      refine TQ.endR2 (L' := L) Tryz.results15 rvA rvA rfl (.refl _) ?_ selA
      exact ⟨3, false, 0, a, _, _, _, rfl, rfl, rfl, rfl, s.length - r.length, rfl, by omega, w1, .mk 3 false 0 a [] [], isV_flat (by decide) (by decide) (by omega), by rw [toJ_eq]; rfl, wf_flat (by omega)⟩
  rw [if_neg c5]
  clear RD hk
  have ne : ∀ d : UInt8, c ≠ d → Hn (¬ ((c.toNat : Nat) : Int) = (d.toNat : Nat)) := fun d h => ⟨fun e => h (UInt8.toNat_inj.1 (by omega))⟩
  have n1 : Hn (¬ ((c.toNat : Nat) : Int) = 1) := ne 1 c1
  have n2 : Hn (¬ ((c.toNat : Nat) : Int) = 2) := ne 2 c2
  have n3 : Hn (¬ ((c.toNat : Nat) : Int) = 3) := ne 3 c3
  have n4 : Hn (¬ ((c.toNat : Nat) : Int) = 4) := ne 4 c4
  have n5 : Hn (¬ ((c.toNat : Nat) : Int) = 5) := ne 5 c5
  have hno : (if c = 6 then (none : Option (J × List UInt8)) else if c = 7 then none else none) = none := by split <;> simp
  rw [hno]
  have cb := UInt8.toNat_lt c
  by_cases c6 : c = 6
  · obtain rfl : within = 32 := by
      rcases hc with h | h
      · exact absurd c6 h.1
      · exact h
    subst c6
    have hld : g.cell b (off + k0 * 1) = some (.int .u8 6) := hld
    clear ne n1 n2 n3 n4 n5
    repeat' (first
    | ((with_reducible apply TL.pure); (· exact yV); (· rfl)) | ((with_reducible apply TW.pure); (· exact yV); (· rfl))
    | ((with_reducible apply TL.pure); (· exact yM); (· rfl)) | ((with_reducible apply TW.pure); (· exact yM); (· rfl))
    | ((with_reducible apply TL.pure); (· exact yA); (· rfl))
    | refine TC.seq ?_ | refine TC.region ?_ | refine TL.nil ?_ | refine TQ.then_normal ?_
    | ((with_reducible apply TL.storeE); (· rfl); (· rfl); (· rfl); (· exact pkA); (· infer_instance)) | ((with_reducible apply TL.store_whole); (· rfl); (· rfl); (· exact oneA); (· rfl); (· exact pkA); (· rfl))
    | refine TC.block ?_ | refine TC.ret ?_ | refine TC.skip ?_ | refine TC.exit ?_ | refine TC.cond rfl ?_
    | refine TQ.down ?_ | refine TQ.in_exit' rfl ?_
    | refine TL.guard_yes rfl rfl ?_ | refine TL.guard_no rfl rfl rfl rfl ?_ | refine TL.guard_no0 rfl rfl rfl ?_ | refine TL.guard_undef rfl rfl rfl ?_ | refine TL.guard_undef0 rfl rfl ?_ | refine TL.guard rfl rfl rfl ?_
    | refine Br.t rfl ?_ | refine Br.f rfl ?_ | refine Br.ky kpA ?_ | refine Br.kn kpA ?_ | refine Br.nky kpA ?_ | refine Br.nkn kpA ?_
    | refine Br.eq0 (fun _ => ?_) (fun _ => ?_) | refine Br.neq0 (fun _ => ?_) (fun _ => ?_) | refine Br.eq (fun _ => ?_) (fun _ => ?_) | refine Br.neq (fun _ => ?_) (fun _ => ?_) | refine Br.not (fun _ => ?_) (fun _ => ?_) | refine Br.dec (fun _ => ?_) (fun _ => ?_) | refine Br.bool (fun _ => ?_) (fun _ => ?_)
    | ((with_reducible apply TL.alloc_ag); (· rfl); intro _) | ((with_reducible apply TL.alloc_sc); (· rfl); (· rfl); intro _) | ((with_reducible apply TL.box_ag); (· rfl); (· rfl); intro _) | ((with_reducible apply TL.box_sc); (· rfl); (· rfl); (· rfl); intro _))
    refine TQ.endR2 (L' := L) Tryz.results15 rvA rvA rfl (.refl _) ?_ selA
    exact ⟨0, false, 0, [], _, _, _, rfl, rfl, rfl, rfl, rfl⟩
  by_cases c7 : c = 7
  · obtain rfl : within = 32 := by
      rcases hc with h | h
      · exact absurd c7 h.2
      · exact h
    subst c7
    have hld : g.cell b (off + k0 * 1) = some (.int .u8 7) := hld
    clear ne n1 n2 n3 n4 n5
    repeat' (first
    | ((with_reducible apply TL.pure); (· exact yV); (· rfl)) | ((with_reducible apply TW.pure); (· exact yV); (· rfl))
    | ((with_reducible apply TL.pure); (· exact yM); (· rfl)) | ((with_reducible apply TW.pure); (· exact yM); (· rfl))
    | ((with_reducible apply TL.pure); (· exact yA); (· rfl))
    | refine TC.seq ?_ | refine TC.region ?_ | refine TL.nil ?_ | refine TQ.then_normal ?_
    | ((with_reducible apply TL.storeE); (· rfl); (· rfl); (· rfl); (· exact pkA); (· infer_instance)) | ((with_reducible apply TL.store_whole); (· rfl); (· rfl); (· exact oneA); (· rfl); (· exact pkA); (· rfl))
    | refine TC.block ?_ | refine TC.ret ?_ | refine TC.skip ?_ | refine TC.exit ?_ | refine TC.cond rfl ?_
    | refine TQ.down ?_ | refine TQ.in_exit' rfl ?_
    | refine TL.guard_yes rfl rfl ?_ | refine TL.guard_no rfl rfl rfl rfl ?_ | refine TL.guard_no0 rfl rfl rfl ?_ | refine TL.guard_undef rfl rfl rfl ?_ | refine TL.guard_undef0 rfl rfl ?_ | refine TL.guard rfl rfl rfl ?_
    | refine Br.t rfl ?_ | refine Br.f rfl ?_ | refine Br.ky kpA ?_ | refine Br.kn kpA ?_ | refine Br.nky kpA ?_ | refine Br.nkn kpA ?_
    | refine Br.eq0 (fun _ => ?_) (fun _ => ?_) | refine Br.neq0 (fun _ => ?_) (fun _ => ?_) | refine Br.eq (fun _ => ?_) (fun _ => ?_) | refine Br.neq (fun _ => ?_) (fun _ => ?_) | refine Br.not (fun _ => ?_) (fun _ => ?_) | refine Br.dec (fun _ => ?_) (fun _ => ?_) | refine Br.bool (fun _ => ?_) (fun _ => ?_)
    | ((with_reducible apply TL.alloc_ag); (· rfl); intro _) | ((with_reducible apply TL.alloc_sc); (· rfl); (· rfl); intro _) | ((with_reducible apply TL.box_ag); (· rfl); (· rfl); intro _) | ((with_reducible apply TL.box_sc); (· rfl); (· rfl); (· rfl); intro _))
    refine TQ.endR2 (L' := L) Tryz.results15 rvA rvA rfl (.refl _) ?_ selA
    exact ⟨0, false, 0, [], _, _, _, rfl, rfl, rfl, rfl, rfl⟩
  have n6 : Hn (¬ ((c.toNat : Nat) : Int) = 6) := ne 6 c6
  have n7 : Hn (¬ ((c.toNat : Nat) : Int) = 7) := ne 7 c7
  clear ne
  repeat' (first
    | ((with_reducible apply TL.pure); (· exact yV); (· rfl)) | ((with_reducible apply TW.pure); (· exact yV); (· rfl))
    | ((with_reducible apply TL.pure); (· exact yM); (· rfl)) | ((with_reducible apply TW.pure); (· exact yM); (· rfl))
    | ((with_reducible apply TL.pure); (· exact yA); (· rfl))
    | refine TC.seq ?_ | refine TC.region ?_ | refine TL.nil ?_ | refine TQ.then_normal ?_
    | ((with_reducible apply TL.storeE); (· rfl); (· rfl); (· rfl); (· exact pkA); (· infer_instance)) | ((with_reducible apply TL.store_whole); (· rfl); (· rfl); (· exact oneA); (· rfl); (· exact pkA); (· rfl))
    | refine TC.block ?_ | refine TC.ret ?_ | refine TC.skip ?_ | refine TC.exit ?_ | refine TC.cond rfl ?_
    | refine TQ.down ?_ | refine TQ.in_exit' rfl ?_
    | refine TL.guard_yes rfl rfl ?_ | refine TL.guard_no rfl rfl rfl rfl ?_ | refine TL.guard_no0 rfl rfl rfl ?_ | refine TL.guard_undef rfl rfl rfl ?_ | refine TL.guard_undef0 rfl rfl ?_ | refine TL.guard rfl rfl rfl ?_
    | refine Br.t rfl ?_ | refine Br.f rfl ?_ | refine Br.ky kpA ?_ | refine Br.kn kpA ?_ | refine Br.nky kpA ?_ | refine Br.nkn kpA ?_
    | refine Br.eq0 (fun _ => ?_) (fun _ => ?_) | refine Br.neq0 (fun _ => ?_) (fun _ => ?_) | refine Br.eq (fun _ => ?_) (fun _ => ?_) | refine Br.neq (fun _ => ?_) (fun _ => ?_) | refine Br.not (fun _ => ?_) (fun _ => ?_) | refine Br.dec (fun _ => ?_) (fun _ => ?_) | refine Br.bool (fun _ => ?_) (fun _ => ?_)
    | ((with_reducible apply TL.alloc_ag); (· rfl); intro _) | ((with_reducible apply TL.alloc_sc); (· rfl); (· rfl); intro _) | ((with_reducible apply TL.box_ag); (· rfl); (· rfl); intro _) | ((with_reducible apply TL.box_sc); (· rfl); (· rfl); (· rfl); intro _))
  refine TQ.endR2 (L' := L) Tryz.results15 rvA rvA rfl (.refl _) ?_ selA
  exact ⟨0, false, 0, [], _, _, _, rfl, rfl, rfl, rfl, rfl⟩
end Go.Proofs.YtphlggmhgfcmgaaGreatDoor
