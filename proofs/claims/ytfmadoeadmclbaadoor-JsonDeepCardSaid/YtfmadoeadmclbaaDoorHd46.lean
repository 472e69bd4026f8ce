/-
  The law JsonDeep.
-/
import Derived.Test.YtfmadoeadmclbaaDoorHd43
import Derived.Test.YtfmadoeadmclbaaDoorHd45
namespace Go.Proofs.YtfmadoeadmclbaaDoor
open Go.RowKit Go.TL
set_option maxRecDepth 100000

structure DpS where
  i : Nat
  s : List UInt8
  t : List UInt8
set_option maxHeartbeats 64000000 in
theorem lawJsonDeep (n : Nat) (o : Bool) (g : Gh) (hn : n ≤ 255) (hT : GTabs g) (hU : GU8 g) : Gives Tryd.prog 3 #[.int .u8 (n : Nat), .bool o] g [] (.bool true) := by
  refine .of (Does.of2 Tryd.func3 rfl Tryd.ntmps3 rfl ?_)
  have AW := fun (g2 : Gh) (h : g.le g2) L => awake04_gives (g := g2) (L := L) (hT.le h) (hU.le h)
  repeat' (first
    | ((with_reducible apply TL.pure); (· exact yQ); (· rfl))
    | ((with_reducible apply TL.pure); (· exact yV); (· rfl)) | ((with_reducible apply TW.pure); (· exact yV); (· rfl))
    | ((with_reducible apply TL.pure); (· exact yA); (· rfl))
    | refine TC.seq ?_ | refine TC.region ?_ | refine TL.nil ?_ | refine TQ.then_normal ?_
    | ((with_reducible apply TL.storeE); (· rfl); (· rfl); (· rfl); (· exact pkA); (· infer_instance)) | ((with_reducible apply TL.store_whole); (· rfl); (· rfl); (· exact oneA); (· rfl); (· exact pkA); (· rfl))
    | refine TC.block ?_ | refine TC.ret ?_ | refine TC.skip ?_ | refine TC.exit ?_ | refine TC.cond rfl ?_
    | refine TQ.down ?_ | refine TQ.in_exit' rfl ?_
    | refine TL.guard_yes rfl rfl ?_ | refine TL.guard_no rfl rfl rfl rfl ?_ | refine TL.guard_no0 rfl rfl rfl ?_ | refine TL.guard_undef rfl rfl rfl ?_ | refine TL.guard_undef0 rfl rfl ?_ | refine TL.guard rfl rfl rfl ?_
    | refine Br.t rfl ?_ | refine Br.f rfl ?_ | refine Br.ky kpA ?_ | refine Br.kn kpA ?_ | refine Br.nky kpA ?_ | refine Br.nkn kpA ?_
    | refine Br.eq0 (fun _ => ?_) (fun _ => ?_) | refine Br.neq0 (fun _ => ?_) (fun _ => ?_) | refine Br.eq (fun _ => ?_) (fun _ => ?_) | refine Br.neq (fun _ => ?_) (fun _ => ?_) | refine Br.not (fun _ => ?_) (fun _ => ?_) | refine Br.dec (fun _ => ?_) (fun _ => ?_) | refine Br.bool (fun _ => ?_) (fun _ => ?_)
    | ((with_reducible apply TL.alloc_ag); (· rfl); intro _) | ((with_reducible apply TL.alloc_sc); (· rfl); (· rfl); intro _) | ((with_reducible apply TL.box_ag); (· rfl); (· rfl); intro _) | ((with_reducible apply TL.box_sc); (· rfl); (· rfl); (· rfl); intro _))
  refine TC.loopL (α := DpS) (fun x => x.i ≤ n ∧ x.s = repL x.i (opB o) ∧ x.t = repL x.i (clB o)) (fun x => n - x.i) (fun x _ => [(7, .int .i64 (x.i : Nat)), (5, str x.s), (6, str x.t), (0, .int .u8 (n : Nat)), (1, .bool o)]) (fun _ => []) ⟨0, [], []⟩ ⟨Nat.zero_le _, rfl, rfl⟩ subA selF ?_
  rintro ⟨i, s, t⟩ ⟨hi, hs, ht⟩
  dsimp only at hi hs ht ⊢
  have ls : s.length ≤ 5 * i := by
    rw [hs, repL_len]
    cases o with
    | true => show i * 5 ≤ 5 * i; omega
    | false => show i * 1 ≤ 5 * i; omega
  have lt : t.length ≤ 5 * i := by
    rw [ht, repL_len]
    cases o with
    | true => show i * 1 ≤ 5 * i; omega
    | false => show i * 1 ≤ 5 * i; omega
  by_cases hlt : i < n
  · have HS := Hn.mk (show s ++ opB o = repL (i + 1) (opB o) by rw [repL, repL_comm, hs])
    have HT := Hn.mk (show clB o ++ t = repL (i + 1) (clB o) by rw [repL, ht])
    clear hs ht
    cases o with
    | true =>
      repeat' (first
    | ((with_reducible apply TL.pure); (· exact yQ); (· rfl))
    | ((with_reducible apply TL.pure); (· exact yV); (· rfl)) | ((with_reducible apply TW.pure); (· exact yV); (· rfl))
    | ((with_reducible apply TL.pure); (· exact yA); (· rfl))
    | refine TC.seq ?_ | refine TC.region ?_ | refine TL.nil ?_ | refine TQ.then_normal ?_
    | ((with_reducible apply TL.storeE); (· rfl); (· rfl); (· rfl); (· exact pkA); (· infer_instance)) | ((with_reducible apply TL.store_whole); (· rfl); (· rfl); (· exact oneA); (· rfl); (· exact pkA); (· rfl))
    | refine TC.block ?_ | refine TC.ret ?_ | refine TC.skip ?_ | refine TC.exit ?_ | refine TC.cond rfl ?_
    | refine TQ.down ?_ | refine TQ.in_exit' rfl ?_
    | refine TL.guard_yes rfl rfl ?_ | refine TL.guard_no rfl rfl rfl rfl ?_ | refine TL.guard_no0 rfl rfl rfl ?_ | refine TL.guard_undef rfl rfl rfl ?_ | refine TL.guard_undef0 rfl rfl ?_ | refine TL.guard rfl rfl rfl ?_
    | refine Br.t rfl ?_ | refine Br.f rfl ?_ | refine Br.ky kpA ?_ | refine Br.kn kpA ?_ | refine Br.nky kpA ?_ | refine Br.nkn kpA ?_
    | refine Br.eq0 (fun _ => ?_) (fun _ => ?_) | refine Br.neq0 (fun _ => ?_) (fun _ => ?_) | refine Br.eq (fun _ => ?_) (fun _ => ?_) | refine Br.neq (fun _ => ?_) (fun _ => ?_) | refine Br.not (fun _ => ?_) (fun _ => ?_) | refine Br.dec (fun _ => ?_) (fun _ => ?_) | refine Br.bool (fun _ => ?_) (fun _ => ?_)
    | ((with_reducible apply TL.alloc_ag); (· rfl); intro _) | ((with_reducible apply TL.alloc_sc); (· rfl); (· rfl); intro _) | ((with_reducible apply TL.box_ag); (· rfl); (· rfl); intro _) | ((with_reducible apply TL.box_sc); (· rfl); (· rfl); (· rfl); intro _))
      refine TQ.round ⟨i + 1, s ++ opB true, clB true ++ t⟩ ?_ ?_ rfl subA selF
      · exact ⟨by dsimp only; omega, HS.out, HT.out⟩
      · show n - (i + 1) < n - i
        omega
    | false =>
      repeat' (first
    | ((with_reducible apply TL.pure); (· exact yQ); (· rfl))
    | ((with_reducible apply TL.pure); (· exact yV); (· rfl)) | ((with_reducible apply TW.pure); (· exact yV); (· rfl))
    | ((with_reducible apply TL.pure); (· exact yA); (· rfl))
    | refine TC.seq ?_ | refine TC.region ?_ | refine TL.nil ?_ | refine TQ.then_normal ?_
    | ((with_reducible apply TL.storeE); (· rfl); (· rfl); (· rfl); (· exact pkA); (· infer_instance)) | ((with_reducible apply TL.store_whole); (· rfl); (· rfl); (· exact oneA); (· rfl); (· exact pkA); (· rfl))
    | refine TC.block ?_ | refine TC.ret ?_ | refine TC.skip ?_ | refine TC.exit ?_ | refine TC.cond rfl ?_
    | refine TQ.down ?_ | refine TQ.in_exit' rfl ?_
    | refine TL.guard_yes rfl rfl ?_ | refine TL.guard_no rfl rfl rfl rfl ?_ | refine TL.guard_no0 rfl rfl rfl ?_ | refine TL.guard_undef rfl rfl rfl ?_ | refine TL.guard_undef0 rfl rfl ?_ | refine TL.guard rfl rfl rfl ?_
    | refine Br.t rfl ?_ | refine Br.f rfl ?_ | refine Br.ky kpA ?_ | refine Br.kn kpA ?_ | refine Br.nky kpA ?_ | refine Br.nkn kpA ?_
    | refine Br.eq0 (fun _ => ?_) (fun _ => ?_) | refine Br.neq0 (fun _ => ?_) (fun _ => ?_) | refine Br.eq (fun _ => ?_) (fun _ => ?_) | refine Br.neq (fun _ => ?_) (fun _ => ?_) | refine Br.not (fun _ => ?_) (fun _ => ?_) | refine Br.dec (fun _ => ?_) (fun _ => ?_) | refine Br.bool (fun _ => ?_) (fun _ => ?_)
    | ((with_reducible apply TL.alloc_ag); (· rfl); intro _) | ((with_reducible apply TL.alloc_sc); (· rfl); (· rfl); intro _) | ((with_reducible apply TL.box_ag); (· rfl); (· rfl); intro _) | ((with_reducible apply TL.box_sc); (· rfl); (· rfl); (· rfl); intro _))
      refine TQ.round ⟨i + 1, s ++ opB false, clB false ++ t⟩ ?_ ?_ rfl subA selF
      · exact ⟨by dsimp only; omega, HS.out, HT.out⟩
      · show n - (i + 1) < n - i
        omega
  · obtain rfl : i = n := by omega
    have hx : s ++ [49] ++ t = prJ (nestJ o i) := by rw [nest_text, hs, ht]
    have hl := nest_len o i (by omega)
    rw [← hx] at hl
    have PA := fun (g2 : Gh) (h : g.le g2) (b cap : Nat) (hs : Sl g2 (.slice (some ⟨b, 0, none⟩) (s ++ [49] ++ t).length cap) (s ++ [49] ++ t).length 1 (byteVals (s ++ [49] ++ t))) L => jParse_does (s ++ [49] ++ t) (some ⟨b, 0, none⟩) (s ++ [49] ++ t).length cap g2 L hs rfl (hU.le h)
    by_cases h32 : 32 < i
    · have hp := parse_deep o h32 (by rw [← hx]; omega)
      rw [← hx] at hp
      rw [hp] at PA
      unfold ParseR at PA
      dsimp only at PA
      have H32 := Hn.mk (show (32 : Int) < (i : Nat) by omega)
      clear hs ht hx hp
      repeat' (first
    | ((with_reducible apply TL.pure); (· exact yQ); (· rfl))
    | ((with_reducible apply TL.pure); (· exact yV); (· rfl)) | ((with_reducible apply TW.pure); (· exact yV); (· rfl))
    | ((with_reducible apply TL.to_bytes); (· rfl); (· rfl); intro bb cb gb hgb hsb; have Q1 := PA gb hgb bb cb hsb; clear PA hsb)
    | (refine TL.call (Enters.plain (by kernel_rfl) (by rfl)) (by rfl) (Q1 _) ?_; (rintro e g2 Ln h2 ⟨k2, k1⟩; have k2 := k2.symm; subst k1; subst k2; (have h02 := hgb.trans h2; have QW := AW g2 h02; clear Q1 AW); refine CallK.ret ?_))
    | ((with_reducible apply TL.gives_plain); (· kernel_rfl); (· rfl); (· exact QW _); (· rfl)) | ((with_reducible apply TW.gives_plain); (· kernel_rfl); (· rfl); (· exact QW _); (· rfl))
    | ((with_reducible apply TL.pure); (· exact yA); (· rfl))
    | refine TC.seq ?_ | refine TC.region ?_ | refine TL.nil ?_ | refine TQ.then_normal ?_
    | ((with_reducible apply TL.storeE); (· rfl); (· rfl); (· rfl); (· exact pkA); (· infer_instance)) | ((with_reducible apply TL.store_whole); (· rfl); (· rfl); (· exact oneA); (· rfl); (· exact pkA); (· rfl))
    | refine TC.block ?_ | refine TC.ret ?_ | refine TC.skip ?_ | refine TC.exit ?_ | refine TC.cond rfl ?_
    | refine TQ.down ?_ | refine TQ.in_exit' rfl ?_
    | refine TL.guard_yes rfl rfl ?_ | refine TL.guard_no rfl rfl rfl rfl ?_ | refine TL.guard_no0 rfl rfl rfl ?_ | refine TL.guard_undef rfl rfl rfl ?_ | refine TL.guard_undef0 rfl rfl ?_ | refine TL.guard rfl rfl rfl ?_
    | refine Br.t rfl ?_ | refine Br.f rfl ?_ | refine Br.ky kpA ?_ | refine Br.kn kpA ?_ | refine Br.nky kpA ?_ | refine Br.nkn kpA ?_
    | refine Br.eq0 (fun _ => ?_) (fun _ => ?_) | refine Br.neq0 (fun _ => ?_) (fun _ => ?_) | refine Br.eq (fun _ => ?_) (fun _ => ?_) | refine Br.neq (fun _ => ?_) (fun _ => ?_) | refine Br.not (fun _ => ?_) (fun _ => ?_) | refine Br.dec (fun _ => ?_) (fun _ => ?_) | refine Br.bool (fun _ => ?_) (fun _ => ?_)
    | ((with_reducible apply TL.alloc_ag); (· rfl); intro _) | ((with_reducible apply TL.alloc_sc); (· rfl); (· rfl); intro _) | ((with_reducible apply TL.box_ag); (· rfl); (· rfl); intro _) | ((with_reducible apply TL.box_sc); (· rfl); (· rfl); (· rfl); intro _))
      refine TQ.less h02 ?_
      refine TQ.endR1 (L' := []) Tryd.results3 rvA rfl (.refl _) ?_ selF
      exact ⟨rfl, rfl, rfl⟩
    · obtain ⟨ok, dp⟩ := nest_ok o i
      have hp := print_parse ok (by omega) (by rw [← hx]; omega)
      rw [← hx] at hp
      rw [hp] at PA
      unfold ParseR at PA
      dsimp only at PA
      have lz := look_zero ok (by omega)
      have pz := jparse_ok hp
      have sm := sm_of_m _ (by omega) (len_of_ok _ ok)
      have DD := fun (g2 : Gh) (h : g.le g2) (v : Value) (hj : IsJ g2 (nestJ o i) v) L => jDepth_gives (nestJ o i) v g2 L hj sm (hT.le h) (hU.le h)
      have hd : depthJ (nestJ o i) = ((i : Nat) : Int) := by unfold depthJ; rw [if_pos lz, dp]
      rw [hd] at DD
      have H32 := Hn.mk (show ¬ (32 : Int) < (i : Nat) by omega)
      clear hs ht hx hp pz lz hd dp ok sm
      repeat' (first
    | ((with_reducible apply TL.pure); (· exact yQ); (· rfl))
    | ((with_reducible apply TL.pure); (· exact yV); (· rfl)) | ((with_reducible apply TW.pure); (· exact yV); (· rfl))
    | ((with_reducible apply TL.to_bytes); (· rfl); (· rfl); intro bb cb gb hgb hsb; have Q1 := PA gb hgb bb cb hsb; clear PA hsb)
    | (refine TL.call (Enters.plain (by kernel_rfl) (by rfl)) (by rfl) (Q1 _) ?_; (rintro e g2 Ln h2 ⟨k2, v2, k1, j2⟩; have k2 := k2.symm; subst k1; subst k2; (have h02 := hgb.trans h2; have Q2 := DD g2 h02 v2 j2; have ho2 := IsJ.one j2; have QW := AW g2 h02; clear Q1 AW DD j2); refine CallK.ret ?_))
    | ((with_reducible apply TL.gives_plain); (· kernel_rfl); (· rfl); (· exact Q2 _); (· rfl)) | ((with_reducible apply TW.gives_plain); (· kernel_rfl); (· rfl); (· exact Q2 _); (· rfl))
    | ((with_reducible apply TL.gives_plain); (· kernel_rfl); (· rfl); (· exact QW _); (· rfl)) | ((with_reducible apply TW.gives_plain); (· kernel_rfl); (· rfl); (· exact QW _); (· rfl))
    | ((with_reducible apply TL.pure (d := 52) (v := .bool true)); (· exact Y.eql_b (decide_eq_true rfl) rfl rfl); (· rfl)) | ((with_reducible apply TW.pure (d := 52) (v := .bool true)); (· exact Y.eql_b (decide_eq_true rfl) rfl rfl); (· rfl))
    | ((with_reducible apply TL.pure); (· exact yA); (· rfl))
    | refine TC.seq ?_ | refine TC.region ?_ | refine TL.nil ?_ | refine TQ.then_normal ?_
    | ((with_reducible apply TL.storeE); (· rfl); (· rfl); (· rfl); (· exact pkA); (· infer_instance)) | ((with_reducible apply TL.store_whole); (· rfl); (· rfl); (· exact oneA); (· rfl); (· exact pkA); (· rfl))
    | refine TC.block ?_ | refine TC.ret ?_ | refine TC.skip ?_ | refine TC.exit ?_ | refine TC.cond rfl ?_
    | refine TQ.down ?_ | refine TQ.in_exit' rfl ?_
    | refine TL.guard_yes rfl rfl ?_ | refine TL.guard_no rfl rfl rfl rfl ?_ | refine TL.guard_no0 rfl rfl rfl ?_ | refine TL.guard_undef rfl rfl rfl ?_ | refine TL.guard_undef0 rfl rfl ?_ | refine TL.guard rfl rfl rfl ?_
    | refine Br.t rfl ?_ | refine Br.f rfl ?_ | refine Br.ky kpA ?_ | refine Br.kn kpA ?_ | refine Br.nky kpA ?_ | refine Br.nkn kpA ?_
    | refine Br.eq0 (fun _ => ?_) (fun _ => ?_) | refine Br.neq0 (fun _ => ?_) (fun _ => ?_) | refine Br.eq (fun _ => ?_) (fun _ => ?_) | refine Br.neq (fun _ => ?_) (fun _ => ?_) | refine Br.not (fun _ => ?_) (fun _ => ?_) | refine Br.dec (fun _ => ?_) (fun _ => ?_) | refine Br.bool (fun _ => ?_) (fun _ => ?_)
    | ((with_reducible apply TL.alloc_ag); (· rfl); intro _) | ((with_reducible apply TL.alloc_sc); (· rfl); (· rfl); intro _) | ((with_reducible apply TL.box_ag); (· rfl); (· rfl); intro _) | ((with_reducible apply TL.box_sc); (· rfl); (· rfl); (· rfl); intro _))
      refine TQ.less h02 ?_
      refine TQ.endR1 (L' := []) Tryd.results3 rvA rfl (.refl _) ?_ selF
      exact ⟨rfl, rfl, rfl⟩
end Go.Proofs.YtfmadoeadmclbaaDoor
