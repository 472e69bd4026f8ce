/-
  The law OrderReads.
-/
import Derived.Test.YtphlggmhgfcmgaaGreatDoorOValR2
import Derived.Test.YtphlggmhgfcmgaaGreatDoorOPrefR
import Derived.Test.YtphlggmhgfcmgaaGreatDoorTLorder
import Derived.Test.YtphlggmhgfcmgaaGreatDoorOAwake
import Derived.Test.YtphlggmhgfcmgaaGreatDoorOBackLaw
namespace Go.Proofs.YtphlggmhgfcmgaaGreatDoor
open Go.RowKit Go.TL
set_option maxRecDepth 100000

theorem _root_.Go.TL.Y.neq_isR {P : Program} {n : Nat} {ds : List Deferred} {S : Slots} {g : Gh} {L : List Ent} {ty : TypeId} {pos : String} {aft : Array Edge} {gd : Option (Nat × Bool)} {dst : Option Nat} {x y : Operand} {t t' : TypeId} {s : List UInt8} (hx : ev S x = some (str s)) (hy : ev S y = some (str s)) : Go.TL.Yields P n ds S g L ⟨dst, .binOp .neq t x y t', ty, pos, aft, gd⟩ (.bool false) := by
  have h := Y.neq_str (P := P) (n := n) (ds := ds) (g := g) (L := L) (ty := ty) (pos := pos) (aft := aft) (gd := gd) (dst := dst) (t := t) (t' := t') hx hy
  rw [decide_eq_true rfl] at h
  exact h
set_option maxHeartbeats 32000000 in
theorem lawOrderReads (s : List UInt8) (v : Value) (g : Gh) (hS : Sl g v s.length 1 (byteVals s)) (hT : GTabs g) (hU : GU8 g) : Gives Tryz.prog 3 #[v] g [] (.bool true) := by
  refine .of (Does.of1 Tryz.func3 rfl Tryz.ntmps3 rfl ?_)
  obtain ⟨ao, cap, rfl⟩ := hS.slice
  by_cases hl : 600 < s.length
  · clear hS
    repeat' (first
    | ((with_reducible apply TL.pure); (· exact yQ); (· rfl))
    | ((with_reducible apply TL.pure); (· exact yV); (· rfl)) | ((with_reducible apply TW.pure); (· exact yV); (· rfl))
    | ((with_reducible apply TL.pure); (· exact yA); (· rfl))
    | refine TC.seq ?_ | refine TC.region ?_ | refine TL.nil ?_ | refine TQ.then_normal ?_
    | ((with_reducible apply TL.storeE); (· rfl); (· rfl); (· rfl); (· exact pkA); (· infer_instance)) | ((with_reducible apply TL.store_whole); (· rfl); (· rfl); (· exact oneA); (· rfl); (· exact pkA); (· rfl))
    | refine TC.block ?_ | refine TC.ret ?_ | refine TC.skip ?_ | refine TC.exit ?_ | refine TC.cond rfl ?_
    | refine TQ.down ?_ | refine TQ.in_exit' rfl ?_
    | refine TL.guard_yes rfl rfl ?_ | refine TL.guard_no rfl rfl rfl rfl ?_ | refine TL.guard_no0 rfl rfl rfl ?_ | refine TL.guard_undef rfl rfl rfl ?_ | refine TL.guard_undef0 rfl rfl ?_ | refine TL.guard rfl rfl rfl ?_
    | refine Br.t rfl ?_ | refine Br.f rfl ?_ | refine Br.ky kpA ?_ | refine Br.kn kpA ?_ | refine Br.nky kpA ?_ | refine Br.nkn kpA ?_
    | refine Br.eq0 (fun _ => ?_) (fun _ => ?_) | refine Br.neq0 (fun _ => ?_) (fun _ => ?_) | refine Br.eq (fun _ => ?_) (fun _ => ?_) | refine Br.neq (fun _ => ?_) (fun _ => ?_) | refine Br.not (fun _ => ?_) (fun _ => ?_) | refine Br.dec (fun _ => ?_) (fun _ => ?_) | refine Br.bool (fun _ => ?_) (fun _ => ?_)
    | ((with_reducible apply TL.alloc_ag); (· rfl); intro _) | ((with_reducible apply TL.alloc_sc); (· rfl); (· rfl); intro _) | ((with_reducible apply TL.box_ag); (· rfl); (· rfl); intro _) | ((with_reducible apply TL.box_sc); (· rfl); (· rfl); (· rfl); intro _))
    refine TQ.endR1 (L' := []) Tryz.results3 rvA rfl (.refl _) ?_ selF
    exact ⟨rfl, rfl, rfl⟩
  have hle : ¬ 131072 < s.length := by omega
  have U := fun (g1 : Gh) (h : g.le g1) v1 (hs : Sl g1 v1 s.length 1 (byteVals s)) L => oUnkey_does s v1 g1 L hs (by omega) (hT.le h) (hU.le h)
  have RU := fun (g1 : Gh) (h : g.le g1) L => rUnkey5_does s _ g1 L (hS.le h) (by omega)
  have PP := fun (g1 : Gh) (h : g.le g1) v1 (hs : Sl g1 v1 s.length 1 (byteVals s)) L => oPrefix_rows s v1 g1 L hs (by omega)
  have RP := fun (g1 : Gh) (h : g.le g1) L => rPrefix5_rows s _ g1 L (hS.le h) (by omega)
  have AW := fun (g1 : Gh) (h : g.le g1) L => awake05_gives (g := g1) (L := L) (hT.le h) (hU.le h)
  unfold UnkR at U
  unfold RUnkR at RU
  cases hu : unkP s with
  | none =>
    rw [hu] at U RU
    dsimp only at U RU
    repeat' (first
    | ((with_reducible apply TL.pure); (· exact yQ); (· rfl))
    | ((with_reducible apply TL.pure); (· exact yV); (· rfl)) | ((with_reducible apply TW.pure); (· exact yV); (· rfl))
    | (refine TL.build_empty (by rfl) (fun bb => ?_); refine TL.obj_row (b := bb) (k := 0) (sz := 1) .here rfl (by decide) ?_)
    | ((with_reducible apply TL.append); (· rfl); (· rfl); (· rfl); (· rfl); (· exact pkA); (· exact Src.sl (by assumption)); (· exact (byteVals_length _).trans (Nat.mul_one _).symm); (· exact bv_allP _); (· exact ⟨by unfold maxLen; omega, by omega⟩); (· rfl); intro vf; refine Go.TL.TL.freeze pkA ?_; (rintro g1 hg1 hs1; rw [Nat.zero_add, List.nil_append] at hs1; have U1 := U g1 hg1 _ hs1; clear hs1 U))
    | (refine TL.call (Enters.plain (by kernel_rfl) (by rfl)) (by rfl) (U1 _) ?_; (rintro e g2 Ln hg2 ⟨z, ez, k1, k3, hz1, hz⟩; subst k1; subst k3; (rw [if_neg hle] at hz; obtain ⟨rfl, rfl⟩ := hz; have hg02 := hg1.trans hg2; have RU1 := RU g2 hg02; clear RU); refine CallK.ret ?_))
    | (refine TL.call (Enters.plain (by kernel_rfl) (by rfl)) (by rfl) (RU1 _) ?_; (rintro e g3 Ln hg3 ⟨xa, xb, xc, xd, vi, vn, ee, k1, o1, o2, k3, hr⟩; subst k1; subst k3; have hall := six_one xa xb xc xd o1 o2; (subst hr; have hg03 := hg02.trans hg3); refine CallK.ret ?_))
    | ((with_reducible apply TL.store_whole (us := sixV xa xb xc xd vi vn)); (· rfl); (· rfl); (· exact hall); (· rfl); (· exact pkA); (· rfl))
    | ((with_reducible apply TL.pure); (· exact yA); (· rfl))
    | refine TC.seq ?_ | refine TC.region ?_ | refine TL.nil ?_ | refine TQ.then_normal ?_
    | ((with_reducible apply TL.storeE); (· rfl); (· rfl); (· rfl); (· exact pkA); (· infer_instance)) | ((with_reducible apply TL.store_whole); (· rfl); (· rfl); (· exact oneA); (· rfl); (· exact pkA); (· rfl))
    | refine TC.block ?_ | refine TC.ret ?_ | refine TC.skip ?_ | refine TC.exit ?_ | refine TC.cond rfl ?_
    | refine TQ.down ?_ | refine TQ.in_exit' rfl ?_
    | refine TL.guard_yes rfl rfl ?_ | refine TL.guard_no rfl rfl rfl rfl ?_ | refine TL.guard_no0 rfl rfl rfl ?_ | refine TL.guard_undef rfl rfl rfl ?_ | refine TL.guard_undef0 rfl rfl ?_ | refine TL.guard rfl rfl rfl ?_
    | refine Br.t rfl ?_ | refine Br.f rfl ?_ | refine Br.ky kpA ?_ | refine Br.kn kpA ?_ | refine Br.nky kpA ?_ | refine Br.nkn kpA ?_
    | refine Br.eq0 (fun _ => ?_) (fun _ => ?_) | refine Br.neq0 (fun _ => ?_) (fun _ => ?_) | refine Br.eq (fun _ => ?_) (fun _ => ?_) | refine Br.neq (fun _ => ?_) (fun _ => ?_) | refine Br.not (fun _ => ?_) (fun _ => ?_) | refine Br.dec (fun _ => ?_) (fun _ => ?_) | refine Br.bool (fun _ => ?_) (fun _ => ?_)
    | ((with_reducible apply TL.alloc_ag); (· rfl); intro _) | ((with_reducible apply TL.alloc_sc); (· rfl); (· rfl); intro _) | ((with_reducible apply TL.box_ag); (· rfl); (· rfl); intro _) | ((with_reducible apply TL.box_sc); (· rfl); (· rfl); (· rfl); intro _))
    rename_i b5
    refine TC.weak (S' := [(0, .slice ao s.length cap), (2, .bool false), (3, .nilIface), (4, .int .i64 5), (5, .pointer (some ⟨b5, 0, none⟩)), (6, .int .i64 5)]) ?_ subA selF
    have hS3 := hS.le hg03
    clear hS hT hU U1 RU1 hg1 hg2 hz1
    repeat' (first
    | ((with_reducible apply TL.pure); (· exact yQ); (· rfl))
    | ((with_reducible apply TL.pure); (· exact yV); (· rfl)) | ((with_reducible apply TW.pure); (· exact yV); (· rfl))
    | (refine TL.build_empty (by rfl) (fun bb => ?_); refine TL.obj_row (b := bb) (k := 0) (sz := 1) .here rfl (by decide) ?_)
    | ((with_reducible apply TL.append); (· rfl); (· rfl); (· rfl); (· rfl); (· exact pkA); (· exact Src.sl (by assumption)); (· exact (byteVals_length _).trans (Nat.mul_one _).symm); (· exact bv_allP _); (· exact ⟨by unfold maxLen; omega, by omega⟩); (· rfl); intro vf; refine Go.TL.TL.freeze pkA ?_; (rintro g4 hg4 hs4; rw [Nat.zero_add, List.nil_append] at hs4; have hg04 := hg03.trans hg4; have P1 := PP g4 hg04 _ hs4; have R1 := RP g4 hg04; have AW1 := AW g4 hg04; clear hs4 PP RP AW))
    | refine TL.rows (Enters.plain (by kernel_rfl) (by rfl)) (P1 _) permA (by rfl) (fun _ => ?_)
    | refine TL.rows (Enters.plain (by kernel_rfl) (by rfl)) (R1 _) permA (by rfl) (fun _ => ?_)
    | ((with_reducible apply TL.pure); (· exact Y.bytes_row rfl pkA); (· rfl)) | ((with_reducible apply TL.pure); (· exact Y.bytes_src rfl (Src.sl (by assumption)) rfl); (· rfl)) | ((with_reducible apply TW.pure); (· exact Y.bytes_row rfl pkA); (· rfl)) | ((with_reducible apply TW.pure); (· exact Y.bytes_src rfl (Src.sl (by assumption)) rfl); (· rfl))
    | ((with_reducible apply TL.gives_plain); (· kernel_rfl); (· rfl); (· exact AW1 _); (· rfl)) | ((with_reducible apply TW.gives_plain); (· kernel_rfl); (· rfl); (· exact AW1 _); (· rfl))
    | ((with_reducible apply TA.two 8 10); (· rfl); (· rfl); (· decide +kernel); (· rfl); (· rfl))
    | ((with_reducible apply TA.two 8 11); (· rfl); (· rfl); (· decide +kernel); (· rfl); (· rfl))
    | ((with_reducible apply TA.takeN 0); (· rfl); (· decide +kernel); (· rfl); (· first | exact Y.neq_isR rfl rfl | (first | exact yQ | exact yA | exact yB | exact yM | exact yV)); (· decide +kernel); (· decide +kernel); (· rfl); (· exact fun _ _ _ h => h); (· rfl))
    | ((with_reducible apply TA.takeN 1); (· rfl); (· decide +kernel); (· rfl); (· first | exact Y.neq_isR rfl rfl | (first | exact yQ | exact yA | exact yB | exact yM | exact yV)); (· decide +kernel); (· decide +kernel); (· rfl); (· exact fun _ _ _ h => h); (· rfl))
    | ((with_reducible apply TA.takeN 2); (· rfl); (· decide +kernel); (· rfl); (· first | exact Y.neq_isR rfl rfl | (first | exact yQ | exact yA | exact yB | exact yM | exact yV)); (· decide +kernel); (· decide +kernel); (· rfl); (· exact fun _ _ _ h => h); (· rfl))
    | ((with_reducible apply TA.takeN 3); (· rfl); (· decide +kernel); (· rfl); (· first | exact Y.neq_isR rfl rfl | (first | exact yQ | exact yA | exact yB | exact yM | exact yV)); (· decide +kernel); (· decide +kernel); (· rfl); (· exact fun _ _ _ h => h); (· rfl))
    | ((with_reducible apply TA.takeN 4); (· rfl); (· decide +kernel); (· rfl); (· first | exact Y.neq_isR rfl rfl | (first | exact yQ | exact yA | exact yB | exact yM | exact yV)); (· decide +kernel); (· decide +kernel); (· rfl); (· exact fun _ _ _ h => h); (· rfl))
    | ((with_reducible apply TA.takeN 5); (· rfl); (· decide +kernel); (· rfl); (· first | exact Y.neq_isR rfl rfl | (first | exact yQ | exact yA | exact yB | exact yM | exact yV)); (· decide +kernel); (· decide +kernel); (· rfl); (· exact fun _ _ _ h => h); (· rfl))
    | ((with_reducible apply TA.take_gN 0); (· rfl); (· decide +kernel); (· rfl); (· rfl); (· rfl); (· (first | exact Y.neq_isR rfl rfl | (first | exact yQ | exact yA | exact yB | exact yM | exact yV))); (· decide +kernel); (· decide +kernel); (· rfl); (· exact fun _ _ _ h => h); (· rfl))
    | ((with_reducible apply TA.take_gN 1); (· rfl); (· decide +kernel); (· rfl); (· rfl); (· rfl); (· (first | exact Y.neq_isR rfl rfl | (first | exact yQ | exact yA | exact yB | exact yM | exact yV))); (· decide +kernel); (· decide +kernel); (· rfl); (· exact fun _ _ _ h => h); (· rfl))
    | ((with_reducible apply TA.take_gN 2); (· rfl); (· decide +kernel); (· rfl); (· rfl); (· rfl); (· (first | exact Y.neq_isR rfl rfl | (first | exact yQ | exact yA | exact yB | exact yM | exact yV))); (· decide +kernel); (· decide +kernel); (· rfl); (· exact fun _ _ _ h => h); (· rfl))
    | ((with_reducible apply TA.take_gN 3); (· rfl); (· decide +kernel); (· rfl); (· rfl); (· rfl); (· (first | exact Y.neq_isR rfl rfl | (first | exact yQ | exact yA | exact yB | exact yM | exact yV))); (· decide +kernel); (· decide +kernel); (· rfl); (· exact fun _ _ _ h => h); (· rfl))
    | ((with_reducible apply TA.take_gN 4); (· rfl); (· decide +kernel); (· rfl); (· rfl); (· rfl); (· (first | exact Y.neq_isR rfl rfl | (first | exact yQ | exact yA | exact yB | exact yM | exact yV))); (· decide +kernel); (· decide +kernel); (· rfl); (· exact fun _ _ _ h => h); (· rfl))
    | ((with_reducible apply TA.take_gN 5); (· rfl); (· decide +kernel); (· rfl); (· rfl); (· rfl); (· (first | exact Y.neq_isR rfl rfl | (first | exact yQ | exact yA | exact yB | exact yM | exact yV))); (· decide +kernel); (· decide +kernel); (· rfl); (· exact fun _ _ _ h => h); (· rfl))
    | ((with_reducible apply TA.no_gN 0); (· rfl); (· decide +kernel); (· rfl); (· rfl); (· rfl); (· rfl); (· decide +kernel); (· decide +kernel); (· rfl); (· exact fun _ _ _ h => h); (· rfl))
    | ((with_reducible apply TA.no_gN 1); (· rfl); (· decide +kernel); (· rfl); (· rfl); (· rfl); (· rfl); (· decide +kernel); (· decide +kernel); (· rfl); (· exact fun _ _ _ h => h); (· rfl))
    | ((with_reducible apply TA.no_gN 2); (· rfl); (· decide +kernel); (· rfl); (· rfl); (· rfl); (· rfl); (· decide +kernel); (· decide +kernel); (· rfl); (· exact fun _ _ _ h => h); (· rfl))
    | ((with_reducible apply TA.no_gN 3); (· rfl); (· decide +kernel); (· rfl); (· rfl); (· rfl); (· rfl); (· decide +kernel); (· decide +kernel); (· rfl); (· exact fun _ _ _ h => h); (· rfl))
    | ((with_reducible apply TA.no_gN 4); (· rfl); (· decide +kernel); (· rfl); (· rfl); (· rfl); (· rfl); (· decide +kernel); (· decide +kernel); (· rfl); (· exact fun _ _ _ h => h); (· rfl))
    | ((with_reducible apply TA.no_gN 5); (· rfl); (· decide +kernel); (· rfl); (· rfl); (· rfl); (· rfl); (· decide +kernel); (· decide +kernel); (· rfl); (· exact fun _ _ _ h => h); (· rfl))
    | ((with_reducible apply TA.no_uN 0); (· rfl); (· decide +kernel); (· rfl); (· rfl); (· rfl); (· decide +kernel); (· decide +kernel); (· rfl); (· exact fun _ _ _ h => h); (· rfl))
    | ((with_reducible apply TA.no_uN 1); (· rfl); (· decide +kernel); (· rfl); (· rfl); (· rfl); (· decide +kernel); (· decide +kernel); (· rfl); (· exact fun _ _ _ h => h); (· rfl))
    | ((with_reducible apply TA.no_uN 2); (· rfl); (· decide +kernel); (· rfl); (· rfl); (· rfl); (· decide +kernel); (· decide +kernel); (· rfl); (· exact fun _ _ _ h => h); (· rfl))
    | ((with_reducible apply TA.no_uN 3); (· rfl); (· decide +kernel); (· rfl); (· rfl); (· rfl); (· decide +kernel); (· decide +kernel); (· rfl); (· exact fun _ _ _ h => h); (· rfl))
    | ((with_reducible apply TA.no_uN 4); (· rfl); (· decide +kernel); (· rfl); (· rfl); (· rfl); (· decide +kernel); (· decide +kernel); (· rfl); (· exact fun _ _ _ h => h); (· rfl))
    | ((with_reducible apply TA.no_uN 5); (· rfl); (· decide +kernel); (· rfl); (· rfl); (· rfl); (· decide +kernel); (· decide +kernel); (· rfl); (· exact fun _ _ _ h => h); (· rfl))
    | ((with_reducible apply TA.oneN 0); (· rfl); (· rfl); (· decide +kernel); (· rfl))
    | ((with_reducible apply TA.oneN 1); (· rfl); (· rfl); (· decide +kernel); (· rfl))
    | ((with_reducible apply TA.oneN 2); (· rfl); (· rfl); (· decide +kernel); (· rfl))
    | ((with_reducible apply TA.oneN 3); (· rfl); (· rfl); (· decide +kernel); (· rfl))
    | ((with_reducible apply TA.oneN 4); (· rfl); (· rfl); (· decide +kernel); (· rfl))
    | ((with_reducible apply TA.oneN 5); (· rfl); (· rfl); (· decide +kernel); (· rfl))
    | refine TQ.any leF selF ?_
    | refine TC.region_any 14 (_) (by kernel_rfl) rfl selF ?_ | refine TA.done (by decide +kernel) ?_ | refine TQ.any_panic ?_
    | ((with_reducible apply TL.pure); (· exact yA); (· rfl))
    | refine TC.seq ?_ | refine TC.region ?_ | refine TL.nil ?_ | refine TQ.then_normal ?_
    | ((with_reducible apply TL.storeE); (· rfl); (· rfl); (· rfl); (· exact pkA); (· infer_instance)) | ((with_reducible apply TL.store_whole); (· rfl); (· rfl); (· exact oneA); (· rfl); (· exact pkA); (· rfl))
    | refine TC.block ?_ | refine TC.ret ?_ | refine TC.skip ?_ | refine TC.exit ?_ | refine TC.cond rfl ?_
    | refine TQ.down ?_ | refine TQ.in_exit' rfl ?_
    | refine TL.guard_yes rfl rfl ?_ | refine TL.guard_no rfl rfl rfl rfl ?_ | refine TL.guard_no0 rfl rfl rfl ?_ | refine TL.guard_undef rfl rfl rfl ?_ | refine TL.guard_undef0 rfl rfl ?_ | refine TL.guard rfl rfl rfl ?_
    | refine Br.t rfl ?_ | refine Br.f rfl ?_ | refine Br.ky kpA ?_ | refine Br.kn kpA ?_ | refine Br.nky kpA ?_ | refine Br.nkn kpA ?_
    | refine Br.eq0 (fun _ => ?_) (fun _ => ?_) | refine Br.neq0 (fun _ => ?_) (fun _ => ?_) | refine Br.eq (fun _ => ?_) (fun _ => ?_) | refine Br.neq (fun _ => ?_) (fun _ => ?_) | refine Br.not (fun _ => ?_) (fun _ => ?_) | refine Br.dec (fun _ => ?_) (fun _ => ?_) | refine Br.bool (fun _ => ?_) (fun _ => ?_)
    | ((with_reducible apply TL.alloc_ag); (· rfl); intro _) | ((with_reducible apply TL.alloc_sc); (· rfl); (· rfl); intro _) | ((with_reducible apply TL.box_ag); (· rfl); (· rfl); intro _) | ((with_reducible apply TL.box_sc); (· rfl); (· rfl); (· rfl); intro _)
    | apply TC.region_draw (by kernel_rfl) (by kernel_rfl) | refine TW.nil ?_ | ((with_reducible apply TW.pure); (· exact yA); (· rfl)))
    all_goals refine TQ.less hg04 ?_
    all_goals refine TQ.endR1 (L' := []) Tryz.results3 rvA rfl (.refl _) ?_ selF
    all_goals exact ⟨rfl, rfl, rfl⟩
  | some j =>
    obtain ⟨_, lj⟩ := key_unk hu
    rw [hu] at U RU
    dsimp only at U RU
    repeat' (first
    | ((with_reducible apply TL.pure); (· exact yQ); (· rfl))
    | ((with_reducible apply TL.pure); (· exact yV); (· rfl)) | ((with_reducible apply TW.pure); (· exact yV); (· rfl))
    | (refine TL.build_empty (by rfl) (fun bb => ?_); refine TL.obj_row (b := bb) (k := 0) (sz := 1) .here rfl (by decide) ?_)
    | ((with_reducible apply TL.append); (· rfl); (· rfl); (· rfl); (· rfl); (· exact pkA); (· exact Src.sl (by assumption)); (· exact (byteVals_length _).trans (Nat.mul_one _).symm); (· exact bv_allP _); (· exact ⟨by unfold maxLen; omega, by omega⟩); (· rfl); intro vf; refine Go.TL.TL.freeze pkA ?_; (rintro g1 hg1 hs1; rw [Nat.zero_add, List.nil_append] at hs1; have U1 := U g1 hg1 _ hs1; clear hs1 U))
    | (refine TL.call (Enters.plain (by kernel_rfl) (by rfl)) (by rfl) (U1 _) ?_; (rintro e g2 Ln hg2 ⟨z, ez, k1, k3, hz1, hz⟩; subst k1; subst k3; (rw [if_neg hle] at hz; obtain ⟨rfl, jz, sz, _⟩ := hz; have hg02 := hg1.trans hg2; have RU1 := RU g2 hg02; clear RU); refine CallK.ret ?_))
    | (refine TL.call (Enters.plain (by kernel_rfl) (by rfl)) (by rfl) (RU1 _) ?_; (rintro e g3 Ln hg3 ⟨xa, xb, xc, xd, vi, vn, ee, k1, o1, o2, k3, hr⟩; subst k1; subst k3; have hall := six_one xa xb xc xd o1 o2; (obtain ⟨rfl, xx, hxv, hxj, hxw⟩ := hr; have hg03 := hg02.trans hg3); refine CallK.ret ?_))
    | ((with_reducible apply TL.store_whole (us := sixV xa xb xc xd vi vn)); (· rfl); (· rfl); (· exact hall); (· rfl); (· exact pkA); (· rfl))
    | ((with_reducible apply TL.pure); (· exact yA); (· rfl))
    | refine TC.seq ?_ | refine TC.region ?_ | refine TL.nil ?_ | refine TQ.then_normal ?_
    | ((with_reducible apply TL.storeE); (· rfl); (· rfl); (· rfl); (· exact pkA); (· infer_instance)) | ((with_reducible apply TL.store_whole); (· rfl); (· rfl); (· exact oneA); (· rfl); (· exact pkA); (· rfl))
    | refine TC.block ?_ | refine TC.ret ?_ | refine TC.skip ?_ | refine TC.exit ?_ | refine TC.cond rfl ?_
    | refine TQ.down ?_ | refine TQ.in_exit' rfl ?_
    | refine TL.guard_yes rfl rfl ?_ | refine TL.guard_no rfl rfl rfl rfl ?_ | refine TL.guard_no0 rfl rfl rfl ?_ | refine TL.guard_undef rfl rfl rfl ?_ | refine TL.guard_undef0 rfl rfl ?_ | refine TL.guard rfl rfl rfl ?_
    | refine Br.t rfl ?_ | refine Br.f rfl ?_ | refine Br.ky kpA ?_ | refine Br.kn kpA ?_ | refine Br.nky kpA ?_ | refine Br.nkn kpA ?_
    | refine Br.eq0 (fun _ => ?_) (fun _ => ?_) | refine Br.neq0 (fun _ => ?_) (fun _ => ?_) | refine Br.eq (fun _ => ?_) (fun _ => ?_) | refine Br.neq (fun _ => ?_) (fun _ => ?_) | refine Br.not (fun _ => ?_) (fun _ => ?_) | refine Br.dec (fun _ => ?_) (fun _ => ?_) | refine Br.bool (fun _ => ?_) (fun _ => ?_)
    | ((with_reducible apply TL.alloc_ag); (· rfl); intro _) | ((with_reducible apply TL.alloc_sc); (· rfl); (· rfl); intro _) | ((with_reducible apply TL.box_ag); (· rfl); (· rfl); intro _) | ((with_reducible apply TL.box_sc); (· rfl); (· rfl); (· rfl); intro _))
    rename_i b5
    refine TC.weak (S' := [(0, .slice ao s.length cap), (2, .bool false), (3, z), (4, .int .i64 0), (5, .pointer (some ⟨b5, 0, none⟩)), (6, .int .i64 0)]) ?_ subA selF
    have hS3 := hS.le hg03
    have ss := same_self (x := xx) (by rw [← look_toJ _ xx (Nat.le_refl _), hxj]; exact lj) (by rw [hxj]; exact IsJ.nb _ _ jz)
    rw [hxj] at ss
    have TO := fun g4 (h : g3.le g4) L => told_makes _ xx (Nat.le_refl _) _ g4 L (hxv.le h) hxw
    rw [hxj] at TO
    have SA := fun g5 (h : g3.le g5) y (jy : IsJ g5 j y) L => Same_gives j j z y g5 L (IsJ.le (hg3.trans h) _ _ jz) jy sz sz (hT.le (hg03.trans h)) (hU.le (hg03.trans h))
    rw [ss] at SA
    clear hS hT hU U1 RU1 hg1 hg2 hxv hxw jz
    repeat' (first
    | ((with_reducible apply TL.pure); (· exact yQ); (· rfl))
    | ((with_reducible apply TL.pure); (· exact yV); (· rfl)) | ((with_reducible apply TW.pure); (· exact yV); (· rfl))
    | (refine TL.build_empty (by rfl) (fun bb => ?_); refine TL.obj_row (b := bb) (k := 0) (sz := 1) .here rfl (by decide) ?_)
    | ((with_reducible apply TL.append); (· rfl); (· rfl); (· rfl); (· rfl); (· exact pkA); (· exact Src.sl (by assumption)); (· exact (byteVals_length _).trans (Nat.mul_one _).symm); (· exact bv_allP _); (· exact ⟨by unfold maxLen; omega, by omega⟩); (· rfl); intro vf; refine Go.TL.TL.freeze pkA ?_; (rintro g4 hg4 hs4; rw [Nat.zero_add, List.nil_append] at hs4; have hg04 := hg03.trans hg4; have P1 := PP g4 hg04 _ hs4; have R1 := RP g4 hg04; have TO1 := TO g4 hg4; clear hs4 PP RP TO))
    | refine TL.rows (Enters.plain (by kernel_rfl) (by rfl)) (P1 _) permA (by rfl) (fun _ => ?_)
    | refine TL.rows (Enters.plain (by kernel_rfl) (by rfl)) (R1 _) permA (by rfl) (fun _ => ?_)
    | ((with_reducible apply TL.pure); (· exact Y.bytes_row rfl pkA); (· rfl)) | ((with_reducible apply TL.pure); (· exact Y.bytes_src rfl (Src.sl (by assumption)) rfl); (· rfl)) | ((with_reducible apply TW.pure); (· exact Y.bytes_row rfl pkA); (· rfl)) | ((with_reducible apply TW.pure); (· exact Y.bytes_src rfl (Src.sl (by assumption)) rfl); (· rfl))
    | (refine TL.makes (Enters.plain (by kernel_rfl) (by rfl)) (TO1 _) (by rfl) ?_; (rintro vj g5 hg5 hj; have hoj := IsJ.one hj; have hg05 := hg04.trans hg5; have SA1 := SA g5 (hg4.trans hg5) vj hj; have AW1 := AW g5 hg05; clear hj))
    | ((with_reducible apply TL.gives_plain); (· kernel_rfl); (· rfl); (· exact SA1 _); (· rfl)) | ((with_reducible apply TW.gives_plain); (· kernel_rfl); (· rfl); (· exact SA1 _); (· rfl))
    | ((with_reducible apply TL.gives_plain); (· kernel_rfl); (· rfl); (· exact AW1 _); (· rfl)) | ((with_reducible apply TW.gives_plain); (· kernel_rfl); (· rfl); (· exact AW1 _); (· rfl))
    | ((with_reducible apply TA.two 8 10); (· rfl); (· rfl); (· decide +kernel); (· rfl); (· rfl))
    | ((with_reducible apply TA.two 8 11); (· rfl); (· rfl); (· decide +kernel); (· rfl); (· rfl))
    | ((with_reducible apply TA.takeN 0); (· rfl); (· decide +kernel); (· rfl); (· first | exact Y.neq_isR rfl rfl | (first | exact yQ | exact yA | exact yB | exact yM | exact yV)); (· decide +kernel); (· decide +kernel); (· rfl); (· exact fun _ _ _ h => h); (· rfl))
    | ((with_reducible apply TA.takeN 1); (· rfl); (· decide +kernel); (· rfl); (· first | exact Y.neq_isR rfl rfl | (first | exact yQ | exact yA | exact yB | exact yM | exact yV)); (· decide +kernel); (· decide +kernel); (· rfl); (· exact fun _ _ _ h => h); (· rfl))
    | ((with_reducible apply TA.takeN 2); (· rfl); (· decide +kernel); (· rfl); (· first | exact Y.neq_isR rfl rfl | (first | exact yQ | exact yA | exact yB | exact yM | exact yV)); (· decide +kernel); (· decide +kernel); (· rfl); (· exact fun _ _ _ h => h); (· rfl))
    | ((with_reducible apply TA.takeN 3); (· rfl); (· decide +kernel); (· rfl); (· first | exact Y.neq_isR rfl rfl | (first | exact yQ | exact yA | exact yB | exact yM | exact yV)); (· decide +kernel); (· decide +kernel); (· rfl); (· exact fun _ _ _ h => h); (· rfl))
    | ((with_reducible apply TA.takeN 4); (· rfl); (· decide +kernel); (· rfl); (· first | exact Y.neq_isR rfl rfl | (first | exact yQ | exact yA | exact yB | exact yM | exact yV)); (· decide +kernel); (· decide +kernel); (· rfl); (· exact fun _ _ _ h => h); (· rfl))
    | ((with_reducible apply TA.takeN 5); (· rfl); (· decide +kernel); (· rfl); (· first | exact Y.neq_isR rfl rfl | (first | exact yQ | exact yA | exact yB | exact yM | exact yV)); (· decide +kernel); (· decide +kernel); (· rfl); (· exact fun _ _ _ h => h); (· rfl))
    | ((with_reducible apply TA.take_gN 0); (· rfl); (· decide +kernel); (· rfl); (· rfl); (· rfl); (· (first | exact Y.neq_isR rfl rfl | (first | exact yQ | exact yA | exact yB | exact yM | exact yV))); (· decide +kernel); (· decide +kernel); (· rfl); (· exact fun _ _ _ h => h); (· rfl))
    | ((with_reducible apply TA.take_gN 1); (· rfl); (· decide +kernel); (· rfl); (· rfl); (· rfl); (· (first | exact Y.neq_isR rfl rfl | (first | exact yQ | exact yA | exact yB | exact yM | exact yV))); (· decide +kernel); (· decide +kernel); (· rfl); (· exact fun _ _ _ h => h); (· rfl))
    | ((with_reducible apply TA.take_gN 2); (· rfl); (· decide +kernel); (· rfl); (· rfl); (· rfl); (· (first | exact Y.neq_isR rfl rfl | (first | exact yQ | exact yA | exact yB | exact yM | exact yV))); (· decide +kernel); (· decide +kernel); (· rfl); (· exact fun _ _ _ h => h); (· rfl))
    | ((with_reducible apply TA.take_gN 3); (· rfl); (· decide +kernel); (· rfl); (· rfl); (· rfl); (· (first | exact Y.neq_isR rfl rfl | (first | exact yQ | exact yA | exact yB | exact yM | exact yV))); (· decide +kernel); (· decide +kernel); (· rfl); (· exact fun _ _ _ h => h); (· rfl))
    | ((with_reducible apply TA.take_gN 4); (· rfl); (· decide +kernel); (· rfl); (· rfl); (· rfl); (· (first | exact Y.neq_isR rfl rfl | (first | exact yQ | exact yA | exact yB | exact yM | exact yV))); (· decide +kernel); (· decide +kernel); (· rfl); (· exact fun _ _ _ h => h); (· rfl))
    | ((with_reducible apply TA.take_gN 5); (· rfl); (· decide +kernel); (· rfl); (· rfl); (· rfl); (· (first | exact Y.neq_isR rfl rfl | (first | exact yQ | exact yA | exact yB | exact yM | exact yV))); (· decide +kernel); (· decide +kernel); (· rfl); (· exact fun _ _ _ h => h); (· rfl))
    | ((with_reducible apply TA.no_gN 0); (· rfl); (· decide +kernel); (· rfl); (· rfl); (· rfl); (· rfl); (· decide +kernel); (· decide +kernel); (· rfl); (· exact fun _ _ _ h => h); (· rfl))
    | ((with_reducible apply TA.no_gN 1); (· rfl); (· decide +kernel); (· rfl); (· rfl); (· rfl); (· rfl); (· decide +kernel); (· decide +kernel); (· rfl); (· exact fun _ _ _ h => h); (· rfl))
    | ((with_reducible apply TA.no_gN 2); (· rfl); (· decide +kernel); (· rfl); (· rfl); (· rfl); (· rfl); (· decide +kernel); (· decide +kernel); (· rfl); (· exact fun _ _ _ h => h); (· rfl))
    | ((with_reducible apply TA.no_gN 3); (· rfl); (· decide +kernel); (· rfl); (· rfl); (· rfl); (· rfl); (· decide +kernel); (· decide +kernel); (· rfl); (· exact fun _ _ _ h => h); (· rfl))
    | ((with_reducible apply TA.no_gN 4); (· rfl); (· decide +kernel); (· rfl); (· rfl); (· rfl); (· rfl); (· decide +kernel); (· decide +kernel); (· rfl); (· exact fun _ _ _ h => h); (· rfl))
    | ((with_reducible apply TA.no_gN 5); (· rfl); (· decide +kernel); (· rfl); (· rfl); (· rfl); (· rfl); (· decide +kernel); (· decide +kernel); (· rfl); (· exact fun _ _ _ h => h); (· rfl))
    | ((with_reducible apply TA.no_uN 0); (· rfl); (· decide +kernel); (· rfl); (· rfl); (· rfl); (· decide +kernel); (· decide +kernel); (· rfl); (· exact fun _ _ _ h => h); (· rfl))
    | ((with_reducible apply TA.no_uN 1); (· rfl); (· decide +kernel); (· rfl); (· rfl); (· rfl); (· decide +kernel); (· decide +kernel); (· rfl); (· exact fun _ _ _ h => h); (· rfl))
    | ((with_reducible apply TA.no_uN 2); (· rfl); (· decide +kernel); (· rfl); (· rfl); (· rfl); (· decide +kernel); (· decide +kernel); (· rfl); (· exact fun _ _ _ h => h); (· rfl))
    | ((with_reducible apply TA.no_uN 3); (· rfl); (· decide +kernel); (· rfl); (· rfl); (· rfl); (· decide +kernel); (· decide +kernel); (· rfl); (· exact fun _ _ _ h => h); (· rfl))
    | ((with_reducible apply TA.no_uN 4); (· rfl); (· decide +kernel); (· rfl); (· rfl); (· rfl); (· decide +kernel); (· decide +kernel); (· rfl); (· exact fun _ _ _ h => h); (· rfl))
    | ((with_reducible apply TA.no_uN 5); (· rfl); (· decide +kernel); (· rfl); (· rfl); (· rfl); (· decide +kernel); (· decide +kernel); (· rfl); (· exact fun _ _ _ h => h); (· rfl))
    | ((with_reducible apply TA.oneN 0); (· rfl); (· rfl); (· decide +kernel); (· rfl))
    | ((with_reducible apply TA.oneN 1); (· rfl); (· rfl); (· decide +kernel); (· rfl))
    | ((with_reducible apply TA.oneN 2); (· rfl); (· rfl); (· decide +kernel); (· rfl))
    | ((with_reducible apply TA.oneN 3); (· rfl); (· rfl); (· decide +kernel); (· rfl))
    | ((with_reducible apply TA.oneN 4); (· rfl); (· rfl); (· decide +kernel); (· rfl))
    | ((with_reducible apply TA.oneN 5); (· rfl); (· rfl); (· decide +kernel); (· rfl))
    | refine TQ.any leF selF ?_
    | refine TC.region_any 14 (_) (by kernel_rfl) rfl selF ?_ | refine TA.done (by decide +kernel) ?_ | refine TQ.any_panic ?_
    | ((with_reducible apply TL.pure); (· exact yA); (· rfl))
    | refine TC.seq ?_ | refine TC.region ?_ | refine TL.nil ?_ | refine TQ.then_normal ?_
    | ((with_reducible apply TL.storeE); (· rfl); (· rfl); (· rfl); (· exact pkA); (· infer_instance)) | ((with_reducible apply TL.store_whole); (· rfl); (· rfl); (· exact oneA); (· rfl); (· exact pkA); (· rfl))
    | refine TC.block ?_ | refine TC.ret ?_ | refine TC.skip ?_ | refine TC.exit ?_ | refine TC.cond rfl ?_
    | refine TQ.down ?_ | refine TQ.in_exit' rfl ?_
    | refine TL.guard_yes rfl rfl ?_ | refine TL.guard_no rfl rfl rfl rfl ?_ | refine TL.guard_no0 rfl rfl rfl ?_ | refine TL.guard_undef rfl rfl rfl ?_ | refine TL.guard_undef0 rfl rfl ?_ | refine TL.guard rfl rfl rfl ?_
    | refine Br.t rfl ?_ | refine Br.f rfl ?_ | refine Br.ky kpA ?_ | refine Br.kn kpA ?_ | refine Br.nky kpA ?_ | refine Br.nkn kpA ?_
    | refine Br.eq0 (fun _ => ?_) (fun _ => ?_) | refine Br.neq0 (fun _ => ?_) (fun _ => ?_) | refine Br.eq (fun _ => ?_) (fun _ => ?_) | refine Br.neq (fun _ => ?_) (fun _ => ?_) | refine Br.not (fun _ => ?_) (fun _ => ?_) | refine Br.dec (fun _ => ?_) (fun _ => ?_) | refine Br.bool (fun _ => ?_) (fun _ => ?_)
    | ((with_reducible apply TL.alloc_ag); (· rfl); intro _) | ((with_reducible apply TL.alloc_sc); (· rfl); (· rfl); intro _) | ((with_reducible apply TL.box_ag); (· rfl); (· rfl); intro _) | ((with_reducible apply TL.box_sc); (· rfl); (· rfl); (· rfl); intro _)
    | apply TC.region_draw (by kernel_rfl) (by kernel_rfl) | refine TW.nil ?_ | ((with_reducible apply TW.pure); (· exact yA); (· rfl)))
    all_goals refine TQ.less hg05 ?_
    all_goals refine TQ.endR1 (L' := []) Tryz.results3 rvA rfl (.refl _) ?_ selF
    all_goals exact ⟨rfl, rfl, rfl⟩
end Go.Proofs.YtphlggmhgfcmgaaGreatDoor
