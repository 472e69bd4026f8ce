/-
  The walk of layer 4's awake.
-/
import Derived.Test.YtfmadoeadmclbaaDoorHd34
import Derived.Test.YtfmadoeadmclbaaDoorHd42
namespace Go.Proofs.YtfmadoeadmclbaaDoor
open Go.RowKit Go.TL
set_option maxRecDepth 100000

abbrev awS1 : List UInt8 := [32, 123, 34, 97, 34, 58, 91, 49, 46, 53, 48, 44, 110, 117, 108, 108, 44, 34, 92, 117, 48, 48, 101, 57, 92, 47, 34, 93, 125, 32]
abbrev awS2 : List UInt8 := [123, 34, 97, 34, 58, 49, 44, 34, 97, 34, 58, 50, 125]
abbrev awS3 : List UInt8 := [91, 49, 101, 57, 57, 93]
abbrev awS4 : List UInt8 := [34, 92, 117, 100, 56, 48, 48, 34]
abbrev awP : List UInt8 := [123, 34, 97, 34, 58, 91, 49, 46, 53, 44, 110, 117, 108, 108, 44, 34, 195, 169, 47, 34, 93, 125]
abbrev awX : J := .obj [[97]] [.list [.num 15000000, .null, .text [195, 169, 47]]]
theorem awj1 : jparse awS1 = .ok awX := by kernel_rfl
theorem awj2 : jparse awS2 = .error 13 := by kernel_rfl
theorem awj3 : jparse awS3 = .error 12 := by kernel_rfl
theorem awj4 : jparse awS4 = .error 11 := by kernel_rfl
theorem awl : lookJ awX 0 = 0 := by kernel_rfl
theorem awn : printL 15000000 = ([49, 46, 53], 0) := by
  have d1 : Lib.decDigits 1 = [49] := by rw [Lib.decDigits]; rfl
  have d2 : Lib.decDigits 5000000 = [53, 48, 48, 48, 48, 48, 48] := by
    rw [Lib.decDigits, dif_neg (by omega), Lib.decDigits, dif_neg (by omega), Lib.decDigits, dif_neg (by omega), Lib.decDigits, dif_neg (by omega), Lib.decDigits, dif_neg (by omega), Lib.decDigits, dif_neg (by omega), Lib.decDigits, dif_pos (by omega)]
    rfl
  rw [printL, if_neg (by omega), if_neg (by omega)]
  have e1 : (15000000 : Int).natAbs / 10000000 = 1 := by decide
  have e2 : (15000000 : Int).natAbs % 10000000 = 5000000 := by decide
  rw [e1, e2, if_neg (by omega), d1, restL, d2]
  rfl
theorem awp : prJ awX = awP := by
  rw [prJ, prMs, prJ, prJs, prJ, awn]
  rfl
set_option maxHeartbeats 32000000 in
theorem awake04_gives {g : Gh} {L : List Ent} (hT : GTabs g) (hU : GU8 g) : Gives Tryd.prog 5 #[] g L (.bool true) := by
  refine .of (Does.of0 Tryd.func5 rfl Tryd.ntmps5 rfl ?_)
  have P1 := fun (g2 : Gh) (h : g.le g2) (b : Nat) (hs : Sl g2 (.slice (some ⟨b, 0, none⟩) 30 30) 30 1 (byteVals awS1)) L => jParse_does awS1 (some ⟨b, 0, none⟩) 30 30 g2 L hs rfl (hU.le h)
  have P2 := fun (g2 : Gh) (h : g.le g2) (b : Nat) (hs : Sl g2 (.slice (some ⟨b, 0, none⟩) 13 13) 13 1 (byteVals awS2)) L => jParse_does awS2 (some ⟨b, 0, none⟩) 13 13 g2 L hs rfl (hU.le h)
  have P3 := fun (g2 : Gh) (h : g.le g2) (b : Nat) (hs : Sl g2 (.slice (some ⟨b, 0, none⟩) 6 6) 6 1 (byteVals awS3)) L => jParse_does awS3 (some ⟨b, 0, none⟩) 6 6 g2 L hs rfl (hU.le h)
  have P4 := fun (g2 : Gh) (h : g.le g2) (b : Nat) (hs : Sl g2 (.slice (some ⟨b, 0, none⟩) 8 8) 8 1 (byteVals awS4)) L => jParse_does awS4 (some ⟨b, 0, none⟩) 8 8 g2 L hs rfl (hU.le h)
  rw [awj1] at P1
  rw [awj2] at P2
  rw [awj3] at P3
  rw [awj4] at P4
  unfold ParseR at P1 P2 P3 P4
  dsimp only at P1 P2 P3 P4
  have PP := fun (g2 : Gh) (h : g.le g2) (v : Value) (hj : IsJ g2 awX v) L => jPrint_does awX v g2 L hj (by simp [smJ, smJs]) awl (by decide) (hT.le h) (hU.le h)
  rw [awp] at PP
  unfold PrintR at PP
  have hlp : awP.length = 22 := rfl
  rw [hlp] at PP
  repeat' (first
    | ((with_reducible apply TL.pure); (· exact yQ); (· rfl))
    | ((with_reducible apply TL.build_slice (len := 30)); (· rfl); (· rfl); (· exact oneA); (· rfl); (· rfl); (· rfl); intro bb)
    | ((with_reducible apply TL.mark_bytes (k := 30)); (· rfl); (· exact pkA); (· rfl); (· rfl); intro g1 h1 s1; (have Q1 := P1 g1 h1 _ s1; clear P1 s1))
    | (refine TL.call (Enters.plain (by kernel_rfl) (by rfl)) (by rfl) (Q1 _) ?_; (rintro e g2 Ln h2 ⟨k2, v2, k1, j2⟩; have k2 := k2.symm; subst k1; subst k2; (have h02 := h1.trans h2; have Q := PP g2 h02 v2 j2; have hov := IsJ.one j2; clear Q1 PP j2); refine CallK.ret ?_))
    | (refine TL.call (Enters.plain (by kernel_rfl) (by rfl)) (by rfl) (Q _) ?_; (rintro e g3 Ln h3 ⟨bp, cp, k1, k2, s3⟩; have k2 := k2.symm; subst k1; subst k2; (have h03 := h02.trans h3; clear Q); refine CallK.ret ?_))
    | ((with_reducible apply TL.build_slice (len := 13)); (· rfl); (· rfl); (· exact oneA); (· rfl); (· rfl); (· rfl); intro bb)
    | ((with_reducible apply TL.mark_bytes (k := 13)); (· rfl); (· exact pkA); (· rfl); (· rfl); intro g4 h4 s4; (have h04 := h03.trans h4; have s34 := s3.le h4; have Q2 := P2 g4 h04 _ s4; clear P2 s4 s3))
    | (refine TL.call (Enters.plain (by kernel_rfl) (by rfl)) (by rfl) (Q2 _) ?_; (rintro e g5 Ln h5 ⟨k2, k1⟩; have k2 := k2.symm; subst k1; subst k2; (have h05 := h04.trans h5; have s35 := s34.le h5; clear Q2 s34); refine CallK.ret ?_))
    | ((with_reducible apply TL.build_slice (len := 6)); (· rfl); (· rfl); (· exact oneA); (· rfl); (· rfl); (· rfl); intro bb)
    | ((with_reducible apply TL.mark_bytes (k := 6)); (· rfl); (· exact pkA); (· rfl); (· rfl); intro g6 h6 s6; (have h06 := h05.trans h6; have s36 := s35.le h6; have Q3 := P3 g6 h06 _ s6; clear P3 s6 s35))
    | (refine TL.call (Enters.plain (by kernel_rfl) (by rfl)) (by rfl) (Q3 _) ?_; (rintro e g7 Ln h7 ⟨k2, k1⟩; have k2 := k2.symm; subst k1; subst k2; (have h07 := h06.trans h7; have s37 := s36.le h7; clear Q3 s36); refine CallK.ret ?_))
    | ((with_reducible apply TL.build_slice (len := 8)); (· rfl); (· rfl); (· exact oneA); (· rfl); (· rfl); (· rfl); intro bb)
    | ((with_reducible apply TL.mark_bytes (k := 8)); (· rfl); (· exact pkA); (· rfl); (· rfl); intro g8 h8 s8; (have h08 := h07.trans h8; have s38 := s37.le h8; have Q4 := P4 g8 h08 _ s8; clear P4 s8 s37))
    | (refine TL.call (Enters.plain (by kernel_rfl) (by rfl)) (by rfl) (Q4 _) ?_; (rintro e g9 Ln h9 ⟨k2, k1⟩; have k2 := k2.symm; subst k1; subst k2; (have h09 := h08.trans h9; have s39 := s38.le h9; clear Q4 s38); refine CallK.ret ?_))
    | ((with_reducible apply TL.pure); (· exact Y.bytes_row rfl pkA); (· rfl)) | ((with_reducible apply TL.pure); (· exact Y.bytes_src rfl (Src.sl (by assumption)) rfl); (· rfl)) | ((with_reducible apply TW.pure); (· exact Y.bytes_row rfl pkA); (· rfl)) | ((with_reducible apply TW.pure); (· exact Y.bytes_src rfl (Src.sl (by assumption)) rfl); (· rfl))
    | ((with_reducible apply TL.pure); (· exact yV); (· rfl)) | ((with_reducible apply TW.pure); (· exact yV); (· rfl))
    | ((with_reducible apply TL.pure); (· exact yA); (· rfl))
    | refine TC.seq ?_ | refine TC.region ?_ | refine TL.nil ?_ | refine TQ.then_normal ?_
    | ((with_reducible apply TL.storeE); (· rfl); (· rfl); (· rfl); (· exact pkA); (· infer_instance)) | ((with_reducible apply TL.store_whole); (· rfl); (· rfl); (· exact oneA); (· rfl); (· exact pkA); (· rfl))
    | refine TC.block ?_ | refine TC.ret ?_ | refine TC.skip ?_ | refine TC.exit ?_ | refine TC.cond rfl ?_
    | refine TQ.down ?_ | refine TQ.in_exit' rfl ?_
    | refine TL.guard_yes rfl rfl ?_ | refine TL.guard_no rfl rfl rfl rfl ?_ | refine TL.guard_no0 rfl rfl rfl ?_ | refine TL.guard_undef rfl rfl rfl ?_ | refine TL.guard_undef0 rfl rfl ?_ | refine TL.guard rfl rfl rfl ?_
    | refine Br.t rfl ?_ | refine Br.f rfl ?_ | refine Br.ky kpA ?_ | refine Br.kn kpA ?_ | refine Br.nky kpA ?_ | refine Br.nkn kpA ?_
    | refine Br.eq0 (fun _ => ?_) (fun _ => ?_) | refine Br.neq0 (fun _ => ?_) (fun _ => ?_) | refine Br.eq (fun _ => ?_) (fun _ => ?_) | refine Br.neq (fun _ => ?_) (fun _ => ?_) | refine Br.not (fun _ => ?_) (fun _ => ?_) | refine Br.dec (fun _ => ?_) (fun _ => ?_) | refine Br.bool (fun _ => ?_) (fun _ => ?_)
    | ((with_reducible apply TL.alloc_ag); (· rfl); intro _) | ((with_reducible apply TL.alloc_sc); (· rfl); (· rfl); intro _) | ((with_reducible apply TL.box_ag); (· rfl); (· rfl); intro _) | ((with_reducible apply TL.box_sc); (· rfl); (· rfl); (· rfl); intro _))
  refine TQ.less h09 ?_
  refine TQ.endR1 (L' := L) Tryd.results5 rvA rfl (.refl _) ?_ selF
  exact ⟨rfl, rfl, rfl⟩
end Go.Proofs.YtfmadoeadmclbaaDoor
