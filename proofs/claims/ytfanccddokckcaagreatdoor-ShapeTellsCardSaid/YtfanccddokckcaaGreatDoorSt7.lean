/-
  The walks of wide.Mul, Compare; geom.turn.
-/
import Derived.Test.YtfanccddokckcaaGreatDoorSt2
import Derived.Test.YtfanccddokckcaaGreatDoorSt5
import Derived.Test.YtfanccddokckcaaGreatDoorSt6
namespace Go.Proofs.YtfanccddokckcaaGreatDoor
open Go.RowKit Go.TL
set_option maxRecDepth 100000

theorem bmul64_gives (x y : Nat) (g : Gh) (L : List Ent) (hx : x < 18446744073709551616) (hy : y < 18446744073709551616) : Gives Tryz.prog 144 #[.int .u64 x, .int .u64 y] g L (.tuple #[.int .u64 ((x * y / 18446744073709551616 : Nat) : Int), .int .u64 ((x * y % 18446744073709551616 : Nat) : Int)]) := .same fun w => Tryz.bits_Mul64 x y hx hy w
abbrev wdV (p : Int) : Value := .agg #[.int .i64 (p / 18446744073709551616), .int .u64 (p % 18446744073709551616)]
theorem mul_split (x y : Int) : (18446744073709551616 + x) * (18446744073709551616 + y) = 18446744073709551616 * (18446744073709551616 + x + y) + x * y := by
  rw [Int.add_mul, Int.mul_add, Int.mul_add]; omega
set_option maxHeartbeats 4000000 in
theorem wMul_gives (x y : Int) (g : Gh) (L : List Ent) (_hx : -4000000000 ≤ x ∧ x ≤ 4000000000) (_hy : -4000000000 ≤ y ∧ y ≤ 4000000000) : Gives Tryz.prog 130 #[.int .i64 x, .int .i64 y] g L (wdV (x * y)) := by
  refine .of (Does.of2 Tryz.func130 rfl Tryz.ntmps130 rfl ?_)
  have hb : -16000000000000000000 ≤ x * y ∧ x * y ≤ 16000000000000000000 := by
    have h1 : (x * y).natAbs ≤ 4000000000 * 4000000000 := by
      rw [Int.natAbs_mul]; exact Nat.mul_le_mul (by omega) (by omega)
    omega
  obtain ⟨u, hu⟩ : ∃ u : Nat, (u : Int) = if x < 0 then 18446744073709551616 + x else x := ⟨(if x < 0 then 18446744073709551616 + x else x).toNat, by split <;> omega⟩
  obtain ⟨v, hv⟩ : ∃ v : Nat, (v : Int) = if y < 0 then 18446744073709551616 + y else y := ⟨(if y < 0 then 18446744073709551616 + y else y).toNat, by split <;> omega⟩
  have hu2 : u < 18446744073709551616 := by split at hu <;> omega
  have hv2 : v < 18446744073709551616 := by split at hv <;> omega
  have M := fun L => bmul64_gives u v g L hu2 hv2
  have hm : ((u * v : Nat) : Int) = (u : Int) * v := Int.natCast_mul u v
  have wu : IntKind.u64.wrap x = u := by rw [IntKind.wrap_u64]; split at hu <;> omega
  have wv : IntKind.u64.wrap y = v := by rw [IntKind.wrap_u64]; split at hv <;> omega
  obtain ⟨P, hP⟩ : ∃ P, P = x * y := ⟨_, rfl⟩
  rw [← hP] at hb ⊢
  obtain ⟨h, hh⟩ : ∃ h : Nat, h = u * v / 18446744073709551616 := ⟨_, rfl⟩
  obtain ⟨lo, hlo⟩ : ∃ lo : Nat, lo = u * v % 18446744073709551616 := ⟨_, rfl⟩
  rw [← hh, ← hlo] at M
  have hl : (lo : Int) = P % 18446744073709551616 := by
    rw [hlo, Int.natCast_emod, hm, hu, hv, hP]
    by_cases x0 : x < 0 <;> by_cases y0 : y < 0
    · rw [if_pos x0, if_pos y0, mul_split]; omega
    · rw [if_pos x0, if_neg y0, Int.add_mul]; omega
    · rw [if_neg x0, if_pos y0, Int.mul_add]; omega
    · rw [if_neg x0, if_neg y0]; rfl
  have hq : (h : Int) = P / 18446744073709551616 + (if x < 0 then y else 0) + (if y < 0 then x else 0) + (if x < 0 ∧ y < 0 then 18446744073709551616 else 0) := by
    rw [hh, Int.natCast_ediv, hm, hu, hv, hP]
    by_cases x0 : x < 0 <;> by_cases y0 : y < 0
    · rw [if_pos x0, if_pos y0, mul_split, if_pos x0, if_pos y0, if_pos ⟨x0, y0⟩]; omega
    · rw [if_pos x0, if_neg y0, Int.add_mul, if_pos x0, if_neg y0, if_neg (fun h => y0 h.2)]; omega
    · rw [if_neg x0, if_pos y0, Int.mul_add, if_neg x0, if_pos y0, if_neg (fun h => x0 h.1)]; omega
    · rw [if_neg x0, if_neg y0, if_neg x0, if_neg y0, if_neg (fun h => x0 h.1)]; simp
  obtain ⟨q, hqq⟩ : ∃ q, q = P / 18446744073709551616 := ⟨_, rfl⟩
  have hqb : -1 ≤ q ∧ q ≤ 0 := by omega
  have hl3 : P % 18446744073709551616 = (lo : Int) := hl.symm
  unfold wdV
  rw [hl3, ← hqq]
  rw [← hqq] at hq
  have HU := Hn.mk wu
  have HV := Hn.mk wv
  clear hb wu wv hm hu2 hv2 hlo hh hl hl3 hqq hP
  by_cases x0 : x < 0 <;> by_cases y0 : y < 0
  · have H1 := Hn.mk (show IntKind.i64.wrap (h : Int) = q + x + y by rw [if_pos x0, if_pos y0, if_pos ⟨x0, y0⟩] at hq; rw [IntKind.wrap_i64]; omega)
    have H2 := Hn.mk (show IntKind.i64.wrap (q + x + y - y) = q + x by rw [IntWalk.i64_in _ (by omega)]; omega)
    have H3 := Hn.mk (show IntKind.i64.wrap (q + x - x) = q by rw [IntWalk.i64_in _ (by omega)]; omega)
    have b0 : decide (x < 0) = true := decide_eq_true x0
    have b1 : decide (y < 0) = true := decide_eq_true y0
    clear hu hv hq
    repeat' (first
    | refine wkQ ?_
    | ((with_reducible apply TL.pure (d := 10) (v := .int .u64 u)); (· exact Y.conv_int rfl HU.out); (· rfl)) | ((with_reducible apply TW.pure (d := 10) (v := .int .u64 u)); (· exact Y.conv_int rfl HU.out); (· rfl))
    | ((with_reducible apply TL.pure (d := 12) (v := .int .u64 v)); (· exact Y.conv_int rfl HV.out); (· rfl)) | ((with_reducible apply TW.pure (d := 12) (v := .int .u64 v)); (· exact Y.conv_int rfl HV.out); (· rfl))
    | ((with_reducible apply TL.pure (d := 17) (v := .int .i64 (q + x + y))); (· exact Y.conv_int rfl H1.out); (· rfl)) | ((with_reducible apply TW.pure (d := 17) (v := .int .i64 (q + x + y))); (· exact Y.conv_int rfl H1.out); (· rfl))
    | ((with_reducible apply TL.pure (d := 19) (v := .bool true)); (· exact Y.lss_b b0 rfl rfl); (· rfl)) | ((with_reducible apply TW.pure (d := 19) (v := .bool true)); (· exact Y.lss_b b0 rfl rfl); (· rfl))
    | ((with_reducible apply TL.pure (d := 24) (v := .bool true)); (· exact Y.lss_b b1 rfl rfl); (· rfl)) | ((with_reducible apply TW.pure (d := 24) (v := .bool true)); (· exact Y.lss_b b1 rfl rfl); (· rfl))
    | ((with_reducible apply TL.pure (d := 22) (v := .int .i64 (q + x))); (· exact Y.sub rfl rfl H2.out); (· rfl)) | ((with_reducible apply TW.pure (d := 22) (v := .int .i64 (q + x))); (· exact Y.sub rfl rfl H2.out); (· rfl))
    | ((with_reducible apply TL.pure (d := 27) (v := .int .i64 q)); (· exact Y.sub rfl rfl H3.out); (· rfl)) | ((with_reducible apply TW.pure (d := 27) (v := .int .i64 q)); (· exact Y.sub rfl rfl H3.out); (· rfl))
    | refine wkV ?_
    | ((with_reducible apply TL.gives_plain); (· kernel_rfl); (· rfl); (· exact M _); (· rfl)) | ((with_reducible apply TW.gives_plain); (· kernel_rfl); (· rfl); (· exact M _); (· rfl))
    | refine stS ?_ | (refine stB ?_; intro _) | (refine stC ?_; refine And.intro (fun _ => ?_) (fun _ => ?_)))
    refine TQ.endR1 (L' := L) Tryz.results130 rvA rfl (.refl _) ?_ selF
    exact ⟨rfl, rfl, rfl⟩
  · have H1 := Hn.mk (show IntKind.i64.wrap (h : Int) = q + y by rw [if_pos x0, if_neg y0, if_neg (fun h => y0 h.2)] at hq; rw [IntKind.wrap_i64]; omega)
    have H2 := Hn.mk (show IntKind.i64.wrap (q + y - y) = q by rw [IntWalk.i64_in _ (by omega)]; omega)
    have b0 : decide (x < 0) = true := decide_eq_true x0
    have b1 : decide (y < 0) = false := decide_eq_false y0
    clear hu hv hq
    repeat' (first
    | refine wkQ ?_
    | ((with_reducible apply TL.pure (d := 10) (v := .int .u64 u)); (· exact Y.conv_int rfl HU.out); (· rfl)) | ((with_reducible apply TW.pure (d := 10) (v := .int .u64 u)); (· exact Y.conv_int rfl HU.out); (· rfl))
    | ((with_reducible apply TL.pure (d := 12) (v := .int .u64 v)); (· exact Y.conv_int rfl HV.out); (· rfl)) | ((with_reducible apply TW.pure (d := 12) (v := .int .u64 v)); (· exact Y.conv_int rfl HV.out); (· rfl))
    | ((with_reducible apply TL.pure (d := 17) (v := .int .i64 (q + y))); (· exact Y.conv_int rfl H1.out); (· rfl)) | ((with_reducible apply TW.pure (d := 17) (v := .int .i64 (q + y))); (· exact Y.conv_int rfl H1.out); (· rfl))
    | ((with_reducible apply TL.pure (d := 19) (v := .bool true)); (· exact Y.lss_b b0 rfl rfl); (· rfl)) | ((with_reducible apply TW.pure (d := 19) (v := .bool true)); (· exact Y.lss_b b0 rfl rfl); (· rfl))
    | ((with_reducible apply TL.pure (d := 24) (v := .bool false)); (· exact Y.lss_b b1 rfl rfl); (· rfl)) | ((with_reducible apply TW.pure (d := 24) (v := .bool false)); (· exact Y.lss_b b1 rfl rfl); (· rfl))
    | ((with_reducible apply TL.pure (d := 22) (v := .int .i64 q)); (· exact Y.sub rfl rfl H2.out); (· rfl)) | ((with_reducible apply TW.pure (d := 22) (v := .int .i64 q)); (· exact Y.sub rfl rfl H2.out); (· rfl))
    | refine wkV ?_
    | ((with_reducible apply TL.gives_plain); (· kernel_rfl); (· rfl); (· exact M _); (· rfl)) | ((with_reducible apply TW.gives_plain); (· kernel_rfl); (· rfl); (· exact M _); (· rfl))
    | refine stS ?_ | (refine stB ?_; intro _) | (refine stC ?_; refine And.intro (fun _ => ?_) (fun _ => ?_)))
    refine TQ.endR1 (L' := L) Tryz.results130 rvA rfl (.refl _) ?_ selF
    exact ⟨rfl, rfl, rfl⟩
  · have H1 := Hn.mk (show IntKind.i64.wrap (h : Int) = q + x by rw [if_neg x0, if_pos y0, if_neg (fun h => x0 h.1)] at hq; rw [IntKind.wrap_i64]; omega)
    have H3 := Hn.mk (show IntKind.i64.wrap (q + x - x) = q by rw [IntWalk.i64_in _ (by omega)]; omega)
    have b0 : decide (x < 0) = false := decide_eq_false x0
    have b1 : decide (y < 0) = true := decide_eq_true y0
    clear hu hv hq
    repeat' (first
    | refine wkQ ?_
    | ((with_reducible apply TL.pure (d := 10) (v := .int .u64 u)); (· exact Y.conv_int rfl HU.out); (· rfl)) | ((with_reducible apply TW.pure (d := 10) (v := .int .u64 u)); (· exact Y.conv_int rfl HU.out); (· rfl))
    | ((with_reducible apply TL.pure (d := 12) (v := .int .u64 v)); (· exact Y.conv_int rfl HV.out); (· rfl)) | ((with_reducible apply TW.pure (d := 12) (v := .int .u64 v)); (· exact Y.conv_int rfl HV.out); (· rfl))
    | ((with_reducible apply TL.pure (d := 17) (v := .int .i64 (q + x))); (· exact Y.conv_int rfl H1.out); (· rfl)) | ((with_reducible apply TW.pure (d := 17) (v := .int .i64 (q + x))); (· exact Y.conv_int rfl H1.out); (· rfl))
    | ((with_reducible apply TL.pure (d := 19) (v := .bool false)); (· exact Y.lss_b b0 rfl rfl); (· rfl)) | ((with_reducible apply TW.pure (d := 19) (v := .bool false)); (· exact Y.lss_b b0 rfl rfl); (· rfl))
    | ((with_reducible apply TL.pure (d := 24) (v := .bool true)); (· exact Y.lss_b b1 rfl rfl); (· rfl)) | ((with_reducible apply TW.pure (d := 24) (v := .bool true)); (· exact Y.lss_b b1 rfl rfl); (· rfl))
    | ((with_reducible apply TL.pure (d := 27) (v := .int .i64 q)); (· exact Y.sub rfl rfl H3.out); (· rfl)) | ((with_reducible apply TW.pure (d := 27) (v := .int .i64 q)); (· exact Y.sub rfl rfl H3.out); (· rfl))
    | refine wkV ?_
    | ((with_reducible apply TL.gives_plain); (· kernel_rfl); (· rfl); (· exact M _); (· rfl)) | ((with_reducible apply TW.gives_plain); (· kernel_rfl); (· rfl); (· exact M _); (· rfl))
    | refine stS ?_ | (refine stB ?_; intro _) | (refine stC ?_; refine And.intro (fun _ => ?_) (fun _ => ?_)))
    refine TQ.endR1 (L' := L) Tryz.results130 rvA rfl (.refl _) ?_ selF
    exact ⟨rfl, rfl, rfl⟩
  · have H1 := Hn.mk (show IntKind.i64.wrap (h : Int) = q by rw [if_neg x0, if_neg y0, if_neg (fun h => x0 h.1)] at hq; rw [IntKind.wrap_i64]; omega)
    have b0 : decide (x < 0) = false := decide_eq_false x0
    have b1 : decide (y < 0) = false := decide_eq_false y0
    clear hu hv hq
    repeat' (first
    | refine wkQ ?_
    | ((with_reducible apply TL.pure (d := 10) (v := .int .u64 u)); (· exact Y.conv_int rfl HU.out); (· rfl)) | ((with_reducible apply TW.pure (d := 10) (v := .int .u64 u)); (· exact Y.conv_int rfl HU.out); (· rfl))
    | ((with_reducible apply TL.pure (d := 12) (v := .int .u64 v)); (· exact Y.conv_int rfl HV.out); (· rfl)) | ((with_reducible apply TW.pure (d := 12) (v := .int .u64 v)); (· exact Y.conv_int rfl HV.out); (· rfl))
    | ((with_reducible apply TL.pure (d := 17) (v := .int .i64 q)); (· exact Y.conv_int rfl H1.out); (· rfl)) | ((with_reducible apply TW.pure (d := 17) (v := .int .i64 q)); (· exact Y.conv_int rfl H1.out); (· rfl))
    | ((with_reducible apply TL.pure (d := 19) (v := .bool false)); (· exact Y.lss_b b0 rfl rfl); (· rfl)) | ((with_reducible apply TW.pure (d := 19) (v := .bool false)); (· exact Y.lss_b b0 rfl rfl); (· rfl))
    | ((with_reducible apply TL.pure (d := 24) (v := .bool false)); (· exact Y.lss_b b1 rfl rfl); (· rfl)) | ((with_reducible apply TW.pure (d := 24) (v := .bool false)); (· exact Y.lss_b b1 rfl rfl); (· rfl))
    | refine wkV ?_
    | ((with_reducible apply TL.gives_plain); (· kernel_rfl); (· rfl); (· exact M _); (· rfl)) | ((with_reducible apply TW.gives_plain); (· kernel_rfl); (· rfl); (· exact M _); (· rfl))
    | refine stS ?_ | (refine stB ?_; intro _) | (refine stC ?_; refine And.intro (fun _ => ?_) (fun _ => ?_)))
    refine TQ.endR1 (L' := L) Tryz.results130 rvA rfl (.refl _) ?_ selF
    exact ⟨rfl, rfl, rfl⟩
def cmpG (a b : Int) : Int := if a < b then -1 else if b < a then 1 else 0
theorem nanI_gives (a : Int) (g : Gh) (L : List Ent) : Gives Tryz.prog 159 #[.int .i64 a] g L (.bool false) := by
  refine .of (Does.of1 Tryz.func159 rfl Tryz.ntmps159 rfl ?_)
  repeat' (first
    | refine wkQ ?_
    | ((with_reducible apply TL.pure (d := 5) (v := .bool false)); (· exact Y.neq_b (by simp) rfl rfl); (· rfl)) | ((with_reducible apply TW.pure (d := 5) (v := .bool false)); (· exact Y.neq_b (by simp) rfl rfl); (· rfl))
    | refine wkV ?_
    | refine stS ?_ | (refine stB ?_; intro _) | (refine stC ?_; refine And.intro (fun _ => ?_) (fun _ => ?_)))
  refine TQ.endR1 (L' := L) Tryz.results159 rvA rfl (.refl _) ?_ selF
  exact ⟨rfl, rfl, rfl⟩
theorem nanU_gives (a : Int) (g : Gh) (L : List Ent) : Gives Tryz.prog 160 #[.int .u64 a] g L (.bool false) := by
  refine .of (Does.of1 Tryz.func160 rfl Tryz.ntmps160 rfl ?_)
  repeat' (first
    | refine wkQ ?_
    | ((with_reducible apply TL.pure (d := 5) (v := .bool false)); (· exact Y.neq_b (by simp) rfl rfl); (· rfl)) | ((with_reducible apply TW.pure (d := 5) (v := .bool false)); (· exact Y.neq_b (by simp) rfl rfl); (· rfl))
    | refine wkV ?_
    | refine stS ?_ | (refine stB ?_; intro _) | (refine stC ?_; refine And.intro (fun _ => ?_) (fun _ => ?_)))
  refine TQ.endR1 (L' := L) Tryz.results160 rvA rfl (.refl _) ?_ selF
  exact ⟨rfl, rfl, rfl⟩
theorem cmpG_gives (a b : Int) (g : Gh) (L : List Ent) : Gives Tryz.prog 146 #[.int .i64 a, .int .i64 b] g L (.int .i64 (cmpG a b)) := by
  refine .of (Does.of2 Tryz.func146 rfl Tryz.ntmps146 rfl ?_)
  have N1 := fun L => nanI_gives a g L
  have N2 := fun L => nanI_gives b g L
  unfold cmpG
  by_cases h1 : a < b
  · rw [if_pos h1]
    have b1 := decide_eq_true h1
    repeat' (first
    | refine wkQ ?_
    | ((with_reducible apply TL.pure (d := 16) (v := .bool true)); (· exact Y.lss_b b1 rfl rfl); (· rfl)) | ((with_reducible apply TW.pure (d := 16) (v := .bool true)); (· exact Y.lss_b b1 rfl rfl); (· rfl))
    | refine wkV ?_
    | ((with_reducible apply TL.gives_plain); (· kernel_rfl); (· rfl); (· exact N1 _); (· rfl)) | ((with_reducible apply TW.gives_plain); (· kernel_rfl); (· rfl); (· exact N1 _); (· rfl))
    | ((with_reducible apply TL.gives_plain); (· kernel_rfl); (· rfl); (· exact N2 _); (· rfl)) | ((with_reducible apply TW.gives_plain); (· kernel_rfl); (· rfl); (· exact N2 _); (· rfl))
    | refine stS ?_ | (refine stB ?_; intro _) | (refine stC ?_; refine And.intro (fun _ => ?_) (fun _ => ?_)))
    refine TQ.endR1 (L' := L) Tryz.results146 rvA rfl (.refl _) ?_ selF
    exact ⟨rfl, rfl, rfl⟩
  · rw [if_neg h1]
    have b1 := decide_eq_false h1
    by_cases h2 : b < a
    · rw [if_pos h2]
      have b2 := decide_eq_true h2
      repeat' (first
    | refine wkQ ?_
    | ((with_reducible apply TL.pure (d := 16) (v := .bool false)); (· exact Y.lss_b b1 rfl rfl); (· rfl)) | ((with_reducible apply TW.pure (d := 16) (v := .bool false)); (· exact Y.lss_b b1 rfl rfl); (· rfl))
    | ((with_reducible apply TL.pure (d := 19) (v := .bool true)); (· exact Y.gtr_b b2 rfl rfl); (· rfl)) | ((with_reducible apply TW.pure (d := 19) (v := .bool true)); (· exact Y.gtr_b b2 rfl rfl); (· rfl))
    | refine wkV ?_
    | ((with_reducible apply TL.gives_plain); (· kernel_rfl); (· rfl); (· exact N1 _); (· rfl)) | ((with_reducible apply TW.gives_plain); (· kernel_rfl); (· rfl); (· exact N1 _); (· rfl))
    | ((with_reducible apply TL.gives_plain); (· kernel_rfl); (· rfl); (· exact N2 _); (· rfl)) | ((with_reducible apply TW.gives_plain); (· kernel_rfl); (· rfl); (· exact N2 _); (· rfl))
    | refine stS ?_ | (refine stB ?_; intro _) | (refine stC ?_; refine And.intro (fun _ => ?_) (fun _ => ?_)))
      refine TQ.endR1 (L' := L) Tryz.results146 rvA rfl (.refl _) ?_ selF
      exact ⟨rfl, rfl, rfl⟩
    · rw [if_neg h2]
      have b2 := decide_eq_false h2
      repeat' (first
    | refine wkQ ?_
    | ((with_reducible apply TL.pure (d := 16) (v := .bool false)); (· exact Y.lss_b b1 rfl rfl); (· rfl)) | ((with_reducible apply TW.pure (d := 16) (v := .bool false)); (· exact Y.lss_b b1 rfl rfl); (· rfl))
    | ((with_reducible apply TL.pure (d := 19) (v := .bool false)); (· exact Y.gtr_b b2 rfl rfl); (· rfl)) | ((with_reducible apply TW.pure (d := 19) (v := .bool false)); (· exact Y.gtr_b b2 rfl rfl); (· rfl))
    | refine wkV ?_
    | ((with_reducible apply TL.gives_plain); (· kernel_rfl); (· rfl); (· exact N1 _); (· rfl)) | ((with_reducible apply TW.gives_plain); (· kernel_rfl); (· rfl); (· exact N1 _); (· rfl))
    | ((with_reducible apply TL.gives_plain); (· kernel_rfl); (· rfl); (· exact N2 _); (· rfl)) | ((with_reducible apply TW.gives_plain); (· kernel_rfl); (· rfl); (· exact N2 _); (· rfl))
    | refine stS ?_ | (refine stB ?_; intro _) | (refine stC ?_; refine And.intro (fun _ => ?_) (fun _ => ?_)))
      refine TQ.endR1 (L' := L) Tryz.results146 rvA rfl (.refl _) ?_ selF
      exact ⟨rfl, rfl, rfl⟩
theorem cmpU_gives (a b : Int) (g : Gh) (L : List Ent) : Gives Tryz.prog 147 #[.int .u64 a, .int .u64 b] g L (.int .i64 (cmpG a b)) := by
  refine .of (Does.of2 Tryz.func147 rfl Tryz.ntmps147 rfl ?_)
  have N1 := fun L => nanU_gives a g L
  have N2 := fun L => nanU_gives b g L
  unfold cmpG
  by_cases h1 : a < b
  · rw [if_pos h1]
    have b1 := decide_eq_true h1
    repeat' (first
    | refine wkQ ?_
    | ((with_reducible apply TL.pure (d := 16) (v := .bool true)); (· exact Y.lss_b b1 rfl rfl); (· rfl)) | ((with_reducible apply TW.pure (d := 16) (v := .bool true)); (· exact Y.lss_b b1 rfl rfl); (· rfl))
    | refine wkV ?_
    | ((with_reducible apply TL.gives_plain); (· kernel_rfl); (· rfl); (· exact N1 _); (· rfl)) | ((with_reducible apply TW.gives_plain); (· kernel_rfl); (· rfl); (· exact N1 _); (· rfl))
    | ((with_reducible apply TL.gives_plain); (· kernel_rfl); (· rfl); (· exact N2 _); (· rfl)) | ((with_reducible apply TW.gives_plain); (· kernel_rfl); (· rfl); (· exact N2 _); (· rfl))
    | refine stS ?_ | (refine stB ?_; intro _) | (refine stC ?_; refine And.intro (fun _ => ?_) (fun _ => ?_)))
    refine TQ.endR1 (L' := L) Tryz.results147 rvA rfl (.refl _) ?_ selF
    exact ⟨rfl, rfl, rfl⟩
  · rw [if_neg h1]
    have b1 := decide_eq_false h1
    by_cases h2 : b < a
    · rw [if_pos h2]
      have b2 := decide_eq_true h2
      repeat' (first
    | refine wkQ ?_
    | ((with_reducible apply TL.pure (d := 16) (v := .bool false)); (· exact Y.lss_b b1 rfl rfl); (· rfl)) | ((with_reducible apply TW.pure (d := 16) (v := .bool false)); (· exact Y.lss_b b1 rfl rfl); (· rfl))
    | ((with_reducible apply TL.pure (d := 19) (v := .bool true)); (· exact Y.gtr_b b2 rfl rfl); (· rfl)) | ((with_reducible apply TW.pure (d := 19) (v := .bool true)); (· exact Y.gtr_b b2 rfl rfl); (· rfl))
    | refine wkV ?_
    | ((with_reducible apply TL.gives_plain); (· kernel_rfl); (· rfl); (· exact N1 _); (· rfl)) | ((with_reducible apply TW.gives_plain); (· kernel_rfl); (· rfl); (· exact N1 _); (· rfl))
    | ((with_reducible apply TL.gives_plain); (· kernel_rfl); (· rfl); (· exact N2 _); (· rfl)) | ((with_reducible apply TW.gives_plain); (· kernel_rfl); (· rfl); (· exact N2 _); (· rfl))
    | refine stS ?_ | (refine stB ?_; intro _) | (refine stC ?_; refine And.intro (fun _ => ?_) (fun _ => ?_)))
      refine TQ.endR1 (L' := L) Tryz.results147 rvA rfl (.refl _) ?_ selF
      exact ⟨rfl, rfl, rfl⟩
    · rw [if_neg h2]
      have b2 := decide_eq_false h2
      repeat' (first
    | refine wkQ ?_
    | ((with_reducible apply TL.pure (d := 16) (v := .bool false)); (· exact Y.lss_b b1 rfl rfl); (· rfl)) | ((with_reducible apply TW.pure (d := 16) (v := .bool false)); (· exact Y.lss_b b1 rfl rfl); (· rfl))
    | ((with_reducible apply TL.pure (d := 19) (v := .bool false)); (· exact Y.gtr_b b2 rfl rfl); (· rfl)) | ((with_reducible apply TW.pure (d := 19) (v := .bool false)); (· exact Y.gtr_b b2 rfl rfl); (· rfl))
    | refine wkV ?_
    | ((with_reducible apply TL.gives_plain); (· kernel_rfl); (· rfl); (· exact N1 _); (· rfl)) | ((with_reducible apply TW.gives_plain); (· kernel_rfl); (· rfl); (· exact N1 _); (· rfl))
    | ((with_reducible apply TL.gives_plain); (· kernel_rfl); (· rfl); (· exact N2 _); (· rfl)) | ((with_reducible apply TW.gives_plain); (· kernel_rfl); (· rfl); (· exact N2 _); (· rfl))
    | refine stS ?_ | (refine stB ?_; intro _) | (refine stC ?_; refine And.intro (fun _ => ?_) (fun _ => ?_)))
      refine TQ.endR1 (L' := L) Tryz.results147 rvA rfl (.refl _) ?_ selF
      exact ⟨rfl, rfl, rfl⟩
end Go.Proofs.YtfanccddokckcaaGreatDoor
