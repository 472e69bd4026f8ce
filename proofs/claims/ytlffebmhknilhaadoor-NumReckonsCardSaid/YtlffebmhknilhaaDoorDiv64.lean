/-
  The walk of bits.Div64 at the divisor 10000000: the divisor, shifted, has a lower half of 0, so both corrections end at once.
-/
import Derived.Test.YtlffebmhknilhaaDoorTLbits
import Derived.Test.YtlffebmhknilhaaDoorTypes
import Derived.Test.YtlffebmhknilhaaDoorShelf
namespace Go.Proofs.YtlffebmhknilhaaDoor
open Go.RowKit Go.TL
set_option maxRecDepth 100000

theorem wrap3 (a b c : Int) : IntKind.u64.wrap (IntKind.u64.wrap (IntKind.u64.wrap a + b) - IntKind.u64.wrap c) = IntKind.u64.wrap (a + b - c) := by
  have w : ∀ n, IntKind.u64.wrap n = n % 18446744073709551616 := fun n => by simp [IntKind.wrap, IntKind.bits, IntKind.signed]
  rw [w, w, w, w, w, Int.emod_add_emod, ← Int.sub_emod]
theorem W39 : IntKind.u64.wrap (10000000 * 2 ^ 40) = 10995116277760000000 := by rw [IntWalk.u64_in _ (by omega)]; omega
theorem W41 : (10995116277760000000 : Int).fdiv (2 ^ 32) = 2560000000 := by decide
theorem W43 : IntKind.u64.wrap ((10995116277760000000 &&& 4294967295 : Nat) : Int) = 0 := by decide
theorem W49 : IntKind.u64.wrap (64 - 40) = 24 := by decide
/-- The long division by halves. -/
structure DivH (h lo U l0 q1 r1 V q0 r0 : Nat) : Prop where
  hU : U = h * 1099511627776 + lo / 16777216
  hl : l0 = lo % 16777216
  hq1 : q1 = U / 2560000000
  hr1 : r1 = U % 2560000000
  hV : V = r1 * 4294967296 + l0 * 256
  hq0 : q0 = V / 2560000000
  hr0 : r0 = V % 2560000000
theorem DivH.out {h lo U l0 q1 r1 V q0 r0 : Nat} (d : DivH h lo U l0 q1 r1 V q0 r0) (hh : h < 10000000) (hlo : lo < 18446744073709551616) :
    q1 < 4294967296 ∧ q0 < 4294967296 ∧ q1 * 4294967296 + q0 = (h * 18446744073709551616 + lo) / 10000000 ∧ r0 / 256 = (h * 18446744073709551616 + lo) % 10000000 := by
  obtain ⟨hU, hl, hq1, hr1, hV, hq0, hr0⟩ := d
  have e1 : U = 2560000000 * q1 + r1 := by omega
  have e2 : V = 2560000000 * q0 + r0 := by omega
  have e3 : r1 < 2560000000 := by omega
  have e4 : r0 < 2560000000 := by omega
  have e5 : l0 < 16777216 := by omega
  have e6 : lo = (lo / 16777216) * 16777216 + l0 := by omega
  refine ⟨by omega, by omega, ?_, ?_⟩
  · omega
  · omega
set_option maxHeartbeats 4000000 in
theorem div64_gives (h lo : Nat) (g : Gh) (L : List Ent) (hh : h < 10000000) (hlo : lo < 18446744073709551616) :
    Gives Tryd.prog 34 #[.int .u64 h, .int .u64 lo, .int .u64 10000000] g L (.tuple #[.int .u64 (((h * 18446744073709551616 + lo) / 10000000 : Nat) : Int), .int .u64 (((h * 18446744073709551616 + lo) % 10000000 : Nat) : Int)]) := by
  have A1 : Gives Tryd.prog 52 #[.int .u64 10000000] g L (.int .i64 40) := .same fun w => by
    have h := Tryd.bits_LeadingZeros64 10000000 w (by omega) (by omega)
    rwa [show (64 : Int) - (Lib.bitLen (Int.toNat 10000000) : Int) = 40 by decide +kernel] at h
  by_cases h0 : h = 0
  · subst h0
    refine .of (Does.of3 Tryd.func34 rfl Tryd.ntmps34 rfl ?_)
    repeat' (first
    | ((with_reducible apply TL.pure); (· exact yA); (· rfl))
    | ((with_reducible apply TL.byteK); (· rfl); (· rfl); (· exact natA); (· assumption); (· rfl); intro _) | ((with_reducible apply TL.byte); (· rfl); (· rfl); (· exact natA); (· exact omA); (· rfl); intro _ _ _)
    | refine TC.seq ?_ | refine TC.region ?_ | refine TL.nil ?_ | refine TQ.then_normal ?_
    | ((with_reducible apply TL.storeE); (· rfl); (· rfl); (· rfl); (· exact pkA); (· infer_instance)) | ((with_reducible apply TL.store_whole); (· rfl); (· rfl); (· rfl); (· rfl); (· exact pkA); (· rfl))
    | refine TC.block ?_ | refine TC.ret ?_ | refine TC.skip ?_ | refine TC.exit ?_
    | ((with_reducible apply TC.cond_true); (· rfl)) | ((with_reducible apply TC.cond_false); (· rfl)) | refine TC.cond_ky rfl kpA ?_ | refine TC.cond_kn rfl kpA ?_ | refine TC.cond_nky rfl kpA ?_ | refine TC.cond_nkn rfl kpA ?_ | refine TC.cond_eq0 rfl (fun _ => ?_) (fun _ => ?_) | refine TC.cond_neq0 rfl (fun _ => ?_) (fun _ => ?_) | refine TC.cond_eq rfl (fun _ => ?_) (fun _ => ?_) | refine TC.cond_neq rfl (fun _ => ?_) (fun _ => ?_) | refine TC.cond_not rfl (fun _ => ?_) (fun _ => ?_) | refine TC.cond_dec rfl (fun _ => ?_) (fun _ => ?_) | refine TC.cond_bool rfl (fun _ => ?_) (fun _ => ?_)
    | refine TQ.then_ret ?_ | refine TQ.then_exit ?_ | refine TQ.then_panic ?_ | refine TQ.in_normal ?_ | refine TQ.in_ret ?_ | refine TQ.in_exit ?_ | refine TQ.in_exit' rfl ?_ | refine TQ.in_panic ?_
    | refine TQ.round_ret ?_ | refine TQ.round_exit ?_ | refine TQ.round_panic ?_ | refine TQ.cut_ret ?_ | refine TQ.cut_exit ?_ | refine TQ.cut_panic ?_
    | ((with_reducible apply TL.guard_yes); (· rfl); (· rfl)) | ((with_reducible apply TL.guard_no); (· rfl); (· rfl); (· rfl); (· rfl)) | ((with_reducible apply TL.guard_no0); (· rfl); (· rfl); (· rfl)) | ((with_reducible apply TL.guard_undef); (· rfl); (· rfl); (· rfl)) | ((with_reducible apply TL.guard_undef0); (· rfl); (· rfl))
    | refine TL.guard_ky rfl rfl kpA ?_ | refine TL.guard_kn rfl rfl kpA ?_ | refine TL.guard_nky rfl rfl kpA ?_ | refine TL.guard_nkn rfl rfl kpA ?_ | refine TL.guard_eq0 rfl rfl rfl (fun _ => ?_) (fun _ => ?_) | refine TL.guard_neq0 rfl rfl rfl (fun _ => ?_) (fun _ => ?_) | refine TL.guard_eq rfl rfl rfl (fun _ => ?_) (fun _ => ?_) | refine TL.guard_neq rfl rfl rfl (fun _ => ?_) (fun _ => ?_) | refine TL.guard_ndec rfl rfl rfl (fun _ => ?_) (fun _ => ?_) | refine TL.guard_dec rfl rfl rfl (fun _ => ?_) (fun _ => ?_) | refine TL.guard_split rfl rfl rfl (fun _ => ?_) (fun _ => ?_)
    | ((with_reducible apply TL.alloc_ag); (· rfl); intro _) | ((with_reducible apply TL.alloc_sc); (· rfl); (· rfl); intro _) | ((with_reducible apply TL.box_ag); (· rfl); (· rfl); intro _) | ((with_reducible apply TL.box_sc); (· rfl); (· rfl); (· rfl); intro _)
    | ((with_reducible apply TL.range_str); (· rfl); (· rfl); intro _) | ((with_reducible apply TL.next_str); (· rfl); (· exact pkA); (· rfl); all_goals intro _)
    | apply TC.region_draw (by kernel_rfl) (by kernel_rfl) | refine TW.nil ?_
    | ((with_reducible apply TW.pure); (· exact yA); (· rfl)) | ((with_reducible apply TW.byteK); (· rfl); (· rfl); (· exact natA); (· assumption); (· rfl); intro _) | ((with_reducible apply TW.byte); (· rfl); (· rfl); (· exact natA); (· exact omA); (· rfl); intro _ _ _)
    | ((with_reducible apply TW.guard_yes); (· rfl); (· rfl)) | ((with_reducible apply TW.guard_no); (· rfl); (· rfl); (· rfl); (· rfl)) | ((with_reducible apply TW.guard_undef); (· rfl); (· rfl); (· rfl))
    | refine TW.guard_ky rfl rfl kpA ?_ | refine TW.guard_kn rfl rfl kpA ?_ | refine TW.guard_nky rfl rfl kpA ?_ | refine TW.guard_nkn rfl rfl kpA ?_ | refine TW.guard_eq0 rfl rfl rfl (fun _ => ?_) (fun _ => ?_) | refine TW.guard_neq0 rfl rfl rfl (fun _ => ?_) (fun _ => ?_) | refine TW.guard_eq rfl rfl rfl (fun _ => ?_) (fun _ => ?_) | refine TW.guard_neq rfl rfl rfl (fun _ => ?_) (fun _ => ?_) | refine TW.guard_ndec rfl rfl rfl (fun _ => ?_) (fun _ => ?_) | refine TW.guard_dec rfl rfl rfl (fun _ => ?_) (fun _ => ?_) | refine TW.guard_split rfl rfl rfl (fun _ => ?_) (fun _ => ?_))
    refine TQ.endR2 (L' := L) Tryd.results34 (by first | exact RVal.tmp rfl | exact RVal.cells rfl pkA (by rfl) | exact RVal.cell rfl pkA rfl) (by first | exact RVal.tmp rfl | exact RVal.cells rfl pkA (by rfl) | exact RVal.cell rfl pkA rfl) rfl (.refl _) ?_ (by repeat (first | exact Sel.refl | exact Sel.nil | apply Sel.cons (by (repeat (first | exact Pick.here | apply Pick.there))) | apply Sel.drop))
    refine ⟨?_, rfl, rfl⟩
    simp only [Nat.zero_mul, Nat.zero_add]
    rfl
  obtain ⟨U, hU⟩ : ∃ U, U = h * 1099511627776 + lo / 16777216 := ⟨_, rfl⟩
  obtain ⟨l0, hl⟩ : ∃ l0, l0 = lo % 16777216 := ⟨_, rfl⟩
  obtain ⟨q1, hq1⟩ : ∃ q1, q1 = U / 2560000000 := ⟨_, rfl⟩
  obtain ⟨r1, hr1⟩ : ∃ r1, r1 = U % 2560000000 := ⟨_, rfl⟩
  obtain ⟨V, hV⟩ : ∃ V, V = r1 * 4294967296 + l0 * 256 := ⟨_, rfl⟩
  obtain ⟨q0, hq0⟩ : ∃ q0, q0 = V / 2560000000 := ⟨_, rfl⟩
  obtain ⟨r0, hr0⟩ : ∃ r0, r0 = V % 2560000000 := ⟨_, rfl⟩
  obtain ⟨k1, k0, kq, kr⟩ := DivH.out ⟨hU, hl, hq1, hr1, hV, hq0, hr0⟩ hh hlo
  rw [← kq, ← kr]
  have e1 : U = 2560000000 * q1 + r1 := by omega
  have e2 : V = 2560000000 * q0 + r0 := by omega
  have e3 : r1 < 2560000000 := by omega
  have e4 : r0 < 2560000000 := by omega
  have e5 : l0 < 16777216 := by omega
  have b1 : Hn (h * 1099511627776 < 18446744073709551616) := ⟨by omega⟩
  have b2 : Hn (lo / 16777216 < 18446744073709551616) := ⟨by omega⟩
  have b3 : Hn (l0 * 1099511627776 < 18446744073709551616) := ⟨by omega⟩
  have Z46 : IntKind.u64.wrap ((h : Int) * 2 ^ 40) = ((h * 1099511627776 : Nat) : Int) := by rw [IntWalk.u64_in _ (by omega)]; omega
  have H50 : Hn ((lo : Int).fdiv (2 ^ 24) = ((lo / 16777216 : Nat) : Int)) := ⟨by rw [Int.fdiv_eq_ediv_of_nonneg _ (by decide)]; omega⟩
  have Z51 : IntKind.u64.wrap (((h * 1099511627776) ||| (lo / 16777216) : Nat) : Int) = (U : Nat) := by
    have : (h * 1099511627776) ||| (lo / 16777216) = U := by
      rw [hU, show h * 1099511627776 = h <<< 40 by rw [Nat.shiftLeft_eq], ← Nat.shiftLeft_add_eq_or_of_lt (by omega)]
    rw [this, IntWalk.u64_in _ (by omega)]
  have Z54 : IntKind.u64.wrap ((lo : Int) * 2 ^ 40) = ((l0 * 1099511627776 : Nat) : Int) := by
    simp [IntKind.wrap, IntKind.bits, IntKind.signed]; omega
  have Z56 : ((l0 * 1099511627776 : Nat) : Int).fdiv (2 ^ 32) = ((l0 * 256 : Nat) : Int) := by
    rw [Int.fdiv_eq_ediv_of_nonneg _ (by decide)]; omega
  have Z58 : IntKind.u64.wrap (((l0 * 1099511627776) &&& 4294967295 : Nat) : Int) = 0 := by
    rw [show (4294967295 : Nat) = 2 ^ 32 - 1 by decide, Nat.and_two_pow_sub_one_eq_mod, show l0 * 1099511627776 % 2 ^ 32 = 0 by omega]; rfl
  have Z61 : IntKind.u64.wrap ((U : Int).tdiv 2560000000) = (q1 : Nat) := by
    rw [Int.tdiv_eq_ediv_of_nonneg (by omega), IntWalk.u64_in _ (by omega)]; omega
  have Z66 : IntKind.u64.wrap ((U : Int) - (q1 : Int) * 2560000000) = (r1 : Nat) := by rw [IntWalk.u64_in _ (by omega)]; omega
  have Z93 : IntKind.u64.wrap (IntKind.u64.wrap (IntKind.u64.wrap ((U : Int) * 4294967296) + ((l0 * 256 : Nat) : Int)) - IntKind.u64.wrap ((q1 : Int) * 10995116277760000000)) = (V : Nat) := by
    rw [wrap3, IntWalk.u64_in _ (by omega)]; omega
  have Z96 : IntKind.u64.wrap ((V : Int).tdiv 2560000000) = (q0 : Nat) := by
    rw [Int.tdiv_eq_ediv_of_nonneg (by omega), IntWalk.u64_in _ (by omega)]; omega
  have Z101 : IntKind.u64.wrap ((V : Int) - (q0 : Int) * 2560000000) = (r0 : Nat) := by rw [IntWalk.u64_in _ (by omega)]; omega
  have Z132 : IntKind.u64.wrap (IntKind.u64.wrap (IntKind.u64.wrap ((V : Int) * 4294967296) + 0) - IntKind.u64.wrap ((q0 : Int) * 10995116277760000000)) = ((r0 * 4294967296 : Nat) : Int) := by
    rw [wrap3, IntWalk.u64_in _ (by omega)]; omega
  have Z134 : ((r0 * 4294967296 : Nat) : Int).fdiv (2 ^ 40) = ((r0 / 256 : Nat) : Int) := by
    rw [Int.fdiv_eq_ediv_of_nonneg _ (by decide)]; omega
  have H46 : Hn _ := ⟨Z46⟩
  have H51 : Hn _ := ⟨Z51⟩
  have H54 : Hn _ := ⟨Z54⟩
  have H56 : Hn _ := ⟨Z56⟩
  have H58 : Hn _ := ⟨Z58⟩
  have H61 : Hn _ := ⟨Z61⟩
  have H66 : Hn _ := ⟨Z66⟩
  have H93 : Hn _ := ⟨Z93⟩
  have H96 : Hn _ := ⟨Z96⟩
  have H101 : Hn _ := ⟨Z101⟩
  have H132 : Hn _ := ⟨Z132⟩
  have H134 : Hn _ := ⟨Z134⟩
  clear Z46 Z51 Z54 Z56 Z58 Z61 Z66 Z93 Z96 Z101 Z132 Z134
  clear hU hl hq1 hr1 hV hq0 hr0 kq kr e1 e2
  refine .of (Does.of3 Tryd.func34 rfl Tryd.ntmps34 rfl ?_)
  repeat' (first
    | ((with_reducible apply TL.pure (d := 39) (v := .int .u64 10995116277760000000)); (· exact Y.shl rfl rfl isNat (by decide) W39); (· rfl)) | ((with_reducible apply TW.pure (d := 39) (v := .int .u64 10995116277760000000)); (· exact Y.shl rfl rfl isNat (by decide) W39); (· rfl))
    | ((with_reducible apply TL.pure (d := 41) (v := .int .u64 2560000000)); (· exact Y.shr rfl rfl isNat (by decide) W41); (· rfl)) | ((with_reducible apply TW.pure (d := 41) (v := .int .u64 2560000000)); (· exact Y.shr rfl rfl isNat (by decide) W41); (· rfl))
    | ((with_reducible apply TL.pure (d := 43) (v := .int .u64 0)); (· exact Y.and (a := 10995116277760000000) (b := 4294967295) rfl rfl rfl rfl (by decide) (by decide) W43); (· rfl)) | ((with_reducible apply TW.pure (d := 43) (v := .int .u64 0)); (· exact Y.and (a := 10995116277760000000) (b := 4294967295) rfl rfl rfl rfl (by decide) (by decide) W43); (· rfl))
    | ((with_reducible apply TL.pure (d := 46) (v := .int .u64 ((h * 1099511627776 : Nat) : Int))); (· exact Y.shl rfl rfl isNat (by decide) H46.out); (· rfl)) | ((with_reducible apply TW.pure (d := 46) (v := .int .u64 ((h * 1099511627776 : Nat) : Int))); (· exact Y.shl rfl rfl isNat (by decide) H46.out); (· rfl))
    | ((with_reducible apply TL.pure (d := 49) (v := .int .u64 24)); (· exact Y.sub rfl rfl W49); (· rfl)) | ((with_reducible apply TW.pure (d := 49) (v := .int .u64 24)); (· exact Y.sub rfl rfl W49); (· rfl))
    | ((with_reducible apply TL.pure (d := 50) (v := .int .u64 ((lo / 16777216 : Nat) : Int))); (· exact Y.shr rfl rfl isNat (by decide) H50.out); (· rfl)) | ((with_reducible apply TW.pure (d := 50) (v := .int .u64 ((lo / 16777216 : Nat) : Int))); (· exact Y.shr rfl rfl isNat (by decide) H50.out); (· rfl))
    | ((with_reducible apply TL.pure (d := 51) (v := .int .u64 (U : Nat))); (· exact Y.or rfl rfl isNat isNat b1.out b2.out H51.out); (· rfl)) | ((with_reducible apply TW.pure (d := 51) (v := .int .u64 (U : Nat))); (· exact Y.or rfl rfl isNat isNat b1.out b2.out H51.out); (· rfl))
    | ((with_reducible apply TL.pure (d := 54) (v := .int .u64 ((l0 * 1099511627776 : Nat) : Int))); (· exact Y.shl rfl rfl isNat (by decide) H54.out); (· rfl)) | ((with_reducible apply TW.pure (d := 54) (v := .int .u64 ((l0 * 1099511627776 : Nat) : Int))); (· exact Y.shl rfl rfl isNat (by decide) H54.out); (· rfl))
    | ((with_reducible apply TL.pure (d := 56) (v := .int .u64 ((l0 * 256 : Nat) : Int))); (· exact Y.shr rfl rfl isNat (by decide) H56.out); (· rfl)) | ((with_reducible apply TW.pure (d := 56) (v := .int .u64 ((l0 * 256 : Nat) : Int))); (· exact Y.shr rfl rfl isNat (by decide) H56.out); (· rfl))
    | ((with_reducible apply TL.pure (d := 58) (v := .int .u64 0)); (· exact Y.and (a := l0 * 1099511627776) (b := 4294967295) rfl rfl rfl rfl b3.out (by decide) H58.out); (· rfl)) | ((with_reducible apply TW.pure (d := 58) (v := .int .u64 0)); (· exact Y.and (a := l0 * 1099511627776) (b := 4294967295) rfl rfl rfl rfl b3.out (by decide) H58.out); (· rfl))
    | ((with_reducible apply TL.pure (d := 61) (v := .int .u64 (q1 : Nat))); (· exact Y.quo rfl rfl (by decide) H61.out); (· rfl)) | ((with_reducible apply TW.pure (d := 61) (v := .int .u64 (q1 : Nat))); (· exact Y.quo rfl rfl (by decide) H61.out); (· rfl))
    | ((with_reducible apply TL.pure (d := 66) (v := .int .u64 (r1 : Nat))); (· exact Y.sub rfl rfl H66.out); (· rfl)) | ((with_reducible apply TW.pure (d := 66) (v := .int .u64 (r1 : Nat))); (· exact Y.sub rfl rfl H66.out); (· rfl))
    | ((with_reducible apply TL.gives_plain); (· kernel_rfl); (· rfl); (· exact A1); (· rfl)) | ((with_reducible apply TW.gives_plain); (· kernel_rfl); (· rfl); (· exact A1); (· rfl))
    | ((with_reducible apply TL.pure); (· exact yA); (· rfl))
    | ((with_reducible apply TL.byteK); (· rfl); (· rfl); (· exact natA); (· assumption); (· rfl); intro _) | ((with_reducible apply TL.byte); (· rfl); (· rfl); (· exact natA); (· exact omA); (· rfl); intro _ _ _)
    | refine TC.seq ?_ | refine TC.region ?_ | refine TL.nil ?_ | refine TQ.then_normal ?_
    | ((with_reducible apply TL.storeE); (· rfl); (· rfl); (· rfl); (· exact pkA); (· infer_instance)) | ((with_reducible apply TL.store_whole); (· rfl); (· rfl); (· rfl); (· rfl); (· exact pkA); (· rfl))
    | refine TC.block ?_ | refine TC.ret ?_ | refine TC.skip ?_ | refine TC.exit ?_
    | ((with_reducible apply TC.cond_true); (· rfl)) | ((with_reducible apply TC.cond_false); (· rfl)) | refine TC.cond_ky rfl kpA ?_ | refine TC.cond_kn rfl kpA ?_ | refine TC.cond_nky rfl kpA ?_ | refine TC.cond_nkn rfl kpA ?_ | refine TC.cond_eq0 rfl (fun _ => ?_) (fun _ => ?_) | refine TC.cond_neq0 rfl (fun _ => ?_) (fun _ => ?_) | refine TC.cond_eq rfl (fun _ => ?_) (fun _ => ?_) | refine TC.cond_neq rfl (fun _ => ?_) (fun _ => ?_) | refine TC.cond_not rfl (fun _ => ?_) (fun _ => ?_) | refine TC.cond_dec rfl (fun _ => ?_) (fun _ => ?_) | refine TC.cond_bool rfl (fun _ => ?_) (fun _ => ?_)
    | refine TQ.then_ret ?_ | refine TQ.then_exit ?_ | refine TQ.then_panic ?_ | refine TQ.in_normal ?_ | refine TQ.in_ret ?_ | refine TQ.in_exit ?_ | refine TQ.in_exit' rfl ?_ | refine TQ.in_panic ?_
    | refine TQ.round_ret ?_ | refine TQ.round_exit ?_ | refine TQ.round_panic ?_ | refine TQ.cut_ret ?_ | refine TQ.cut_exit ?_ | refine TQ.cut_panic ?_
    | ((with_reducible apply TL.guard_yes); (· rfl); (· rfl)) | ((with_reducible apply TL.guard_no); (· rfl); (· rfl); (· rfl); (· rfl)) | ((with_reducible apply TL.guard_no0); (· rfl); (· rfl); (· rfl)) | ((with_reducible apply TL.guard_undef); (· rfl); (· rfl); (· rfl)) | ((with_reducible apply TL.guard_undef0); (· rfl); (· rfl))
    | refine TL.guard_ky rfl rfl kpA ?_ | refine TL.guard_kn rfl rfl kpA ?_ | refine TL.guard_nky rfl rfl kpA ?_ | refine TL.guard_nkn rfl rfl kpA ?_ | refine TL.guard_eq0 rfl rfl rfl (fun _ => ?_) (fun _ => ?_) | refine TL.guard_neq0 rfl rfl rfl (fun _ => ?_) (fun _ => ?_) | refine TL.guard_eq rfl rfl rfl (fun _ => ?_) (fun _ => ?_) | refine TL.guard_neq rfl rfl rfl (fun _ => ?_) (fun _ => ?_) | refine TL.guard_ndec rfl rfl rfl (fun _ => ?_) (fun _ => ?_) | refine TL.guard_dec rfl rfl rfl (fun _ => ?_) (fun _ => ?_) | refine TL.guard_split rfl rfl rfl (fun _ => ?_) (fun _ => ?_)
    | ((with_reducible apply TL.alloc_ag); (· rfl); intro _) | ((with_reducible apply TL.alloc_sc); (· rfl); (· rfl); intro _) | ((with_reducible apply TL.box_ag); (· rfl); (· rfl); intro _) | ((with_reducible apply TL.box_sc); (· rfl); (· rfl); (· rfl); intro _)
    | ((with_reducible apply TL.range_str); (· rfl); (· rfl); intro _) | ((with_reducible apply TL.next_str); (· rfl); (· exact pkA); (· rfl); all_goals intro _)
    | apply TC.region_draw (by kernel_rfl) (by kernel_rfl) | refine TW.nil ?_
    | ((with_reducible apply TW.pure); (· exact yA); (· rfl)) | ((with_reducible apply TW.byteK); (· rfl); (· rfl); (· exact natA); (· assumption); (· rfl); intro _) | ((with_reducible apply TW.byte); (· rfl); (· rfl); (· exact natA); (· exact omA); (· rfl); intro _ _ _)
    | ((with_reducible apply TW.guard_yes); (· rfl); (· rfl)) | ((with_reducible apply TW.guard_no); (· rfl); (· rfl); (· rfl); (· rfl)) | ((with_reducible apply TW.guard_undef); (· rfl); (· rfl); (· rfl))
    | refine TW.guard_ky rfl rfl kpA ?_ | refine TW.guard_kn rfl rfl kpA ?_ | refine TW.guard_nky rfl rfl kpA ?_ | refine TW.guard_nkn rfl rfl kpA ?_ | refine TW.guard_eq0 rfl rfl rfl (fun _ => ?_) (fun _ => ?_) | refine TW.guard_neq0 rfl rfl rfl (fun _ => ?_) (fun _ => ?_) | refine TW.guard_eq rfl rfl rfl (fun _ => ?_) (fun _ => ?_) | refine TW.guard_neq rfl rfl rfl (fun _ => ?_) (fun _ => ?_) | refine TW.guard_ndec rfl rfl rfl (fun _ => ?_) (fun _ => ?_) | refine TW.guard_dec rfl rfl rfl (fun _ => ?_) (fun _ => ?_) | refine TW.guard_split rfl rfl rfl (fun _ => ?_) (fun _ => ?_))
  refine TC.loopK (fun _ : Unit => True) (fun _ => 0) (fun _ S => S) [] (by repeat (first | exact Drop.nil | apply Drop.cons (by (repeat (first | exact Pick.here | apply Pick.there))))) (fun _ L => L) () trivial (by repeat (first | exact trivial | refine ⟨rfl, ?_⟩)) (by repeat (first | exact Sel.refl | exact Sel.nil | apply Sel.cons (by (repeat (first | exact Pick.here | apply Pick.there))) | apply Sel.drop)) ?_
  intro _ _
  repeat' (first
    | ((with_reducible apply TL.pure (d := 93) (v := .int .u64 (V : Nat))); (· exact Y.sub rfl rfl H93.out); (· rfl)) | ((with_reducible apply TW.pure (d := 93) (v := .int .u64 (V : Nat))); (· exact Y.sub rfl rfl H93.out); (· rfl))
    | ((with_reducible apply TL.pure (d := 96) (v := .int .u64 (q0 : Nat))); (· exact Y.quo rfl rfl (by decide) H96.out); (· rfl)) | ((with_reducible apply TW.pure (d := 96) (v := .int .u64 (q0 : Nat))); (· exact Y.quo rfl rfl (by decide) H96.out); (· rfl))
    | ((with_reducible apply TL.pure (d := 101) (v := .int .u64 (r0 : Nat))); (· exact Y.sub rfl rfl H101.out); (· rfl)) | ((with_reducible apply TW.pure (d := 101) (v := .int .u64 (r0 : Nat))); (· exact Y.sub rfl rfl H101.out); (· rfl))
    | ((with_reducible apply TL.pure); (· exact yA); (· rfl))
    | ((with_reducible apply TL.byteK); (· rfl); (· rfl); (· exact natA); (· assumption); (· rfl); intro _) | ((with_reducible apply TL.byte); (· rfl); (· rfl); (· exact natA); (· exact omA); (· rfl); intro _ _ _)
    | refine TC.seq ?_ | refine TC.region ?_ | refine TL.nil ?_ | refine TQ.then_normal ?_
    | ((with_reducible apply TL.storeE); (· rfl); (· rfl); (· rfl); (· exact pkA); (· infer_instance)) | ((with_reducible apply TL.store_whole); (· rfl); (· rfl); (· rfl); (· rfl); (· exact pkA); (· rfl))
    | refine TC.block ?_ | refine TC.ret ?_ | refine TC.skip ?_ | refine TC.exit ?_
    | ((with_reducible apply TC.cond_true); (· rfl)) | ((with_reducible apply TC.cond_false); (· rfl)) | refine TC.cond_ky rfl kpA ?_ | refine TC.cond_kn rfl kpA ?_ | refine TC.cond_nky rfl kpA ?_ | refine TC.cond_nkn rfl kpA ?_ | refine TC.cond_eq0 rfl (fun _ => ?_) (fun _ => ?_) | refine TC.cond_neq0 rfl (fun _ => ?_) (fun _ => ?_) | refine TC.cond_eq rfl (fun _ => ?_) (fun _ => ?_) | refine TC.cond_neq rfl (fun _ => ?_) (fun _ => ?_) | refine TC.cond_not rfl (fun _ => ?_) (fun _ => ?_) | refine TC.cond_dec rfl (fun _ => ?_) (fun _ => ?_) | refine TC.cond_bool rfl (fun _ => ?_) (fun _ => ?_)
    | refine TQ.then_ret ?_ | refine TQ.then_exit ?_ | refine TQ.then_panic ?_ | refine TQ.in_normal ?_ | refine TQ.in_ret ?_ | refine TQ.in_exit ?_ | refine TQ.in_exit' rfl ?_ | refine TQ.in_panic ?_
    | refine TQ.round_ret ?_ | refine TQ.round_exit ?_ | refine TQ.round_panic ?_ | refine TQ.cut_ret ?_ | refine TQ.cut_exit ?_ | refine TQ.cut_panic ?_
    | ((with_reducible apply TL.guard_yes); (· rfl); (· rfl)) | ((with_reducible apply TL.guard_no); (· rfl); (· rfl); (· rfl); (· rfl)) | ((with_reducible apply TL.guard_no0); (· rfl); (· rfl); (· rfl)) | ((with_reducible apply TL.guard_undef); (· rfl); (· rfl); (· rfl)) | ((with_reducible apply TL.guard_undef0); (· rfl); (· rfl))
    | refine TL.guard_ky rfl rfl kpA ?_ | refine TL.guard_kn rfl rfl kpA ?_ | refine TL.guard_nky rfl rfl kpA ?_ | refine TL.guard_nkn rfl rfl kpA ?_ | refine TL.guard_eq0 rfl rfl rfl (fun _ => ?_) (fun _ => ?_) | refine TL.guard_neq0 rfl rfl rfl (fun _ => ?_) (fun _ => ?_) | refine TL.guard_eq rfl rfl rfl (fun _ => ?_) (fun _ => ?_) | refine TL.guard_neq rfl rfl rfl (fun _ => ?_) (fun _ => ?_) | refine TL.guard_ndec rfl rfl rfl (fun _ => ?_) (fun _ => ?_) | refine TL.guard_dec rfl rfl rfl (fun _ => ?_) (fun _ => ?_) | refine TL.guard_split rfl rfl rfl (fun _ => ?_) (fun _ => ?_)
    | ((with_reducible apply TL.alloc_ag); (· rfl); intro _) | ((with_reducible apply TL.alloc_sc); (· rfl); (· rfl); intro _) | ((with_reducible apply TL.box_ag); (· rfl); (· rfl); intro _) | ((with_reducible apply TL.box_sc); (· rfl); (· rfl); (· rfl); intro _)
    | ((with_reducible apply TL.range_str); (· rfl); (· rfl); intro _) | ((with_reducible apply TL.next_str); (· rfl); (· exact pkA); (· rfl); all_goals intro _)
    | apply TC.region_draw (by kernel_rfl) (by kernel_rfl) | refine TW.nil ?_
    | ((with_reducible apply TW.pure); (· exact yA); (· rfl)) | ((with_reducible apply TW.byteK); (· rfl); (· rfl); (· exact natA); (· assumption); (· rfl); intro _) | ((with_reducible apply TW.byte); (· rfl); (· rfl); (· exact natA); (· exact omA); (· rfl); intro _ _ _)
    | ((with_reducible apply TW.guard_yes); (· rfl); (· rfl)) | ((with_reducible apply TW.guard_no); (· rfl); (· rfl); (· rfl); (· rfl)) | ((with_reducible apply TW.guard_undef); (· rfl); (· rfl); (· rfl))
    | refine TW.guard_ky rfl rfl kpA ?_ | refine TW.guard_kn rfl rfl kpA ?_ | refine TW.guard_nky rfl rfl kpA ?_ | refine TW.guard_nkn rfl rfl kpA ?_ | refine TW.guard_eq0 rfl rfl rfl (fun _ => ?_) (fun _ => ?_) | refine TW.guard_neq0 rfl rfl rfl (fun _ => ?_) (fun _ => ?_) | refine TW.guard_eq rfl rfl rfl (fun _ => ?_) (fun _ => ?_) | refine TW.guard_neq rfl rfl rfl (fun _ => ?_) (fun _ => ?_) | refine TW.guard_ndec rfl rfl rfl (fun _ => ?_) (fun _ => ?_) | refine TW.guard_dec rfl rfl rfl (fun _ => ?_) (fun _ => ?_) | refine TW.guard_split rfl rfl rfl (fun _ => ?_) (fun _ => ?_))
  refine TC.loopK (fun _ : Unit => True) (fun _ => 0) (fun _ S => S) [] (by repeat (first | exact Drop.nil | apply Drop.cons (by (repeat (first | exact Pick.here | apply Pick.there))))) (fun _ L => L) () trivial (by repeat (first | exact trivial | refine ⟨rfl, ?_⟩)) (by repeat (first | exact Sel.refl | exact Sel.nil | apply Sel.cons (by (repeat (first | exact Pick.here | apply Pick.there))) | apply Sel.drop)) ?_
  intro _ _
  repeat' (first
    | ((with_reducible apply TL.pure (d := 132) (v := .int .u64 ((r0 * 4294967296 : Nat) : Int))); (· exact Y.sub rfl rfl H132.out); (· rfl)) | ((with_reducible apply TW.pure (d := 132) (v := .int .u64 ((r0 * 4294967296 : Nat) : Int))); (· exact Y.sub rfl rfl H132.out); (· rfl))
    | ((with_reducible apply TL.pure (d := 134) (v := .int .u64 ((r0 / 256 : Nat) : Int))); (· exact Y.shr rfl rfl isNat (by decide) H134.out); (· rfl)) | ((with_reducible apply TW.pure (d := 134) (v := .int .u64 ((r0 / 256 : Nat) : Int))); (· exact Y.shr rfl rfl isNat (by decide) H134.out); (· rfl))
    | ((with_reducible apply TL.pure); (· exact yA); (· rfl))
    | ((with_reducible apply TL.byteK); (· rfl); (· rfl); (· exact natA); (· assumption); (· rfl); intro _) | ((with_reducible apply TL.byte); (· rfl); (· rfl); (· exact natA); (· exact omA); (· rfl); intro _ _ _)
    | refine TC.seq ?_ | refine TC.region ?_ | refine TL.nil ?_ | refine TQ.then_normal ?_
    | ((with_reducible apply TL.storeE); (· rfl); (· rfl); (· rfl); (· exact pkA); (· infer_instance)) | ((with_reducible apply TL.store_whole); (· rfl); (· rfl); (· rfl); (· rfl); (· exact pkA); (· rfl))
    | refine TC.block ?_ | refine TC.ret ?_ | refine TC.skip ?_ | refine TC.exit ?_
    | ((with_reducible apply TC.cond_true); (· rfl)) | ((with_reducible apply TC.cond_false); (· rfl)) | refine TC.cond_ky rfl kpA ?_ | refine TC.cond_kn rfl kpA ?_ | refine TC.cond_nky rfl kpA ?_ | refine TC.cond_nkn rfl kpA ?_ | refine TC.cond_eq0 rfl (fun _ => ?_) (fun _ => ?_) | refine TC.cond_neq0 rfl (fun _ => ?_) (fun _ => ?_) | refine TC.cond_eq rfl (fun _ => ?_) (fun _ => ?_) | refine TC.cond_neq rfl (fun _ => ?_) (fun _ => ?_) | refine TC.cond_not rfl (fun _ => ?_) (fun _ => ?_) | refine TC.cond_dec rfl (fun _ => ?_) (fun _ => ?_) | refine TC.cond_bool rfl (fun _ => ?_) (fun _ => ?_)
    | refine TQ.then_ret ?_ | refine TQ.then_exit ?_ | refine TQ.then_panic ?_ | refine TQ.in_normal ?_ | refine TQ.in_ret ?_ | refine TQ.in_exit ?_ | refine TQ.in_exit' rfl ?_ | refine TQ.in_panic ?_
    | refine TQ.round_ret ?_ | refine TQ.round_exit ?_ | refine TQ.round_panic ?_ | refine TQ.cut_ret ?_ | refine TQ.cut_exit ?_ | refine TQ.cut_panic ?_
    | ((with_reducible apply TL.guard_yes); (· rfl); (· rfl)) | ((with_reducible apply TL.guard_no); (· rfl); (· rfl); (· rfl); (· rfl)) | ((with_reducible apply TL.guard_no0); (· rfl); (· rfl); (· rfl)) | ((with_reducible apply TL.guard_undef); (· rfl); (· rfl); (· rfl)) | ((with_reducible apply TL.guard_undef0); (· rfl); (· rfl))
    | refine TL.guard_ky rfl rfl kpA ?_ | refine TL.guard_kn rfl rfl kpA ?_ | refine TL.guard_nky rfl rfl kpA ?_ | refine TL.guard_nkn rfl rfl kpA ?_ | refine TL.guard_eq0 rfl rfl rfl (fun _ => ?_) (fun _ => ?_) | refine TL.guard_neq0 rfl rfl rfl (fun _ => ?_) (fun _ => ?_) | refine TL.guard_eq rfl rfl rfl (fun _ => ?_) (fun _ => ?_) | refine TL.guard_neq rfl rfl rfl (fun _ => ?_) (fun _ => ?_) | refine TL.guard_ndec rfl rfl rfl (fun _ => ?_) (fun _ => ?_) | refine TL.guard_dec rfl rfl rfl (fun _ => ?_) (fun _ => ?_) | refine TL.guard_split rfl rfl rfl (fun _ => ?_) (fun _ => ?_)
    | ((with_reducible apply TL.alloc_ag); (· rfl); intro _) | ((with_reducible apply TL.alloc_sc); (· rfl); (· rfl); intro _) | ((with_reducible apply TL.box_ag); (· rfl); (· rfl); intro _) | ((with_reducible apply TL.box_sc); (· rfl); (· rfl); (· rfl); intro _)
    | ((with_reducible apply TL.range_str); (· rfl); (· rfl); intro _) | ((with_reducible apply TL.next_str); (· rfl); (· exact pkA); (· rfl); all_goals intro _)
    | apply TC.region_draw (by kernel_rfl) (by kernel_rfl) | refine TW.nil ?_
    | ((with_reducible apply TW.pure); (· exact yA); (· rfl)) | ((with_reducible apply TW.byteK); (· rfl); (· rfl); (· exact natA); (· assumption); (· rfl); intro _) | ((with_reducible apply TW.byte); (· rfl); (· rfl); (· exact natA); (· exact omA); (· rfl); intro _ _ _)
    | ((with_reducible apply TW.guard_yes); (· rfl); (· rfl)) | ((with_reducible apply TW.guard_no); (· rfl); (· rfl); (· rfl); (· rfl)) | ((with_reducible apply TW.guard_undef); (· rfl); (· rfl); (· rfl))
    | refine TW.guard_ky rfl rfl kpA ?_ | refine TW.guard_kn rfl rfl kpA ?_ | refine TW.guard_nky rfl rfl kpA ?_ | refine TW.guard_nkn rfl rfl kpA ?_ | refine TW.guard_eq0 rfl rfl rfl (fun _ => ?_) (fun _ => ?_) | refine TW.guard_neq0 rfl rfl rfl (fun _ => ?_) (fun _ => ?_) | refine TW.guard_eq rfl rfl rfl (fun _ => ?_) (fun _ => ?_) | refine TW.guard_neq rfl rfl rfl (fun _ => ?_) (fun _ => ?_) | refine TW.guard_ndec rfl rfl rfl (fun _ => ?_) (fun _ => ?_) | refine TW.guard_dec rfl rfl rfl (fun _ => ?_) (fun _ => ?_) | refine TW.guard_split rfl rfl rfl (fun _ => ?_) (fun _ => ?_))
  refine TQ.endR2 (L' := L) Tryd.results34 (by first | exact RVal.tmp rfl | exact RVal.cells rfl pkA (by rfl) | exact RVal.cell rfl pkA rfl) (by first | exact RVal.tmp rfl | exact RVal.cells rfl pkA (by rfl) | exact RVal.cell rfl pkA rfl) rfl (.refl _) ?_ (by repeat (first | exact Sel.refl | exact Sel.nil | apply Sel.cons (by (repeat (first | exact Pick.here | apply Pick.there))) | apply Sel.drop))
  exact ⟨rfl, rfl, rfl⟩
end Go.Proofs.YtlffebmhknilhaaDoor
