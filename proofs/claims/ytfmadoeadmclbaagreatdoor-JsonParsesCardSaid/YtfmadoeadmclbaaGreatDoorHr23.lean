/-
  The walk of the document's Parse: four digits of 16; a sign's bytes. The walk of the document's Parse: four digits of 16.
-/
import Derived.Test.YtfmadoeadmclbaaGreatDoorHr2
import Derived.Test.YtfmadoeadmclbaaGreatDoorHr22
import Derived.Test.YtfmadoeadmclbaaGreatDoorHr20
namespace Go.TL
open Go Go.RowKit Go.Proofs.YtfmadoeadmclbaaGreatDoor
section
variable {P : Program} {n : Nat} {ds : List Deferred} {S : Slots} {g : Gh} {L : List Ent} {gd : Option (Nat × Bool)} {dst : Option Nat} {x y : Operand} {t t' ty : TypeId} {pos : String} {aft : Array Edge} {a m : Nat} {q : Int}
theorem Y.quoN (hx : ev S x = some (.int .i64 (a : Nat))) (hy : ev S y = some (.int .i64 q)) (hq : q = (m : Nat)) (_h0 : 0 < m) (_ha : a < 1099511627776) : Yields P n ds S g L ⟨dst, .binOp .quo t x y t', ty, pos, aft, gd⟩ (.int .i64 ((a / m : Nat) : Int)) :=
  Y.quo hx hy (by omega) (by
    subst hq
    have : ((a : Nat) : Int).tdiv (m : Nat) = ((a / m : Nat) : Int) := by rw [Int.tdiv_eq_ediv_of_nonneg (by omega)]; rfl
    rw [this]
    have := Nat.div_le_self a m
    generalize a / m = z at *
    exact IntWalk.i64_in _ (by omega))
theorem Y.remN (hx : ev S x = some (.int .i64 (a : Nat))) (hy : ev S y = some (.int .i64 q)) (hq : q = (m : Nat)) (_h0 : 0 < m) : Yields P n ds S g L ⟨dst, .binOp .rem t x y t', ty, pos, aft, gd⟩ (.int .i64 ((a % m : Nat) : Int)) :=
  Y.rem hx hy (by omega) (by subst hq; rw [Int.tmod_eq_emod_of_nonneg (by omega)]; rfl)
end
end Go.TL
namespace Go.Proofs.YtfmadoeadmclbaaGreatDoor
open Go.RowKit Go.TL
set_option maxRecDepth 100000
theorem u8w (n : Nat) (_h : n < 256) : IntKind.u8.wrap (n : Int) = (((UInt8.ofNat n).toNat : Nat) : Int) := by
  rw [IntWalk.u8_in _ (by omega)]
  rw [show (UInt8.ofNat n).toNat = n by simp; omega]
theorem addN (p q : Nat) (z : Int) (_hz : z = (p : Nat)) (_h : p + q < 1099511627776) : IntKind.i64.wrap (z + (q : Int)) = ((p + q : Nat) : Int) := (IntWalk.i64_in _ (by omega)).trans (by omega)

set_option maxHeartbeats 32000000 in
theorem rSign_gives (c : Nat) (g : Gh) (L : List Ent) (_hc : c < 1114112) : Gives Tryz.prog 78 #[.int .i64 (c : Nat)] g L (str (signB c)) := by
  refine .of (Does.of1 Tryz.func78 rfl Tryz.ntmps78 rfl ?_)
  by_cases h1 : c < 128
  · have e : signB c = [UInt8.ofNat c] := by unfold signB; rw [if_pos h1]
    rw [e]
    repeat' (first
    | ((with_reducible apply TL.pure (d := 6) (v := .int .u8 ((UInt8.ofNat c).toNat : Nat))); (· exact Y.conv_int rfl (u8w _ (by omega))); (· rfl)) | ((with_reducible apply TW.pure (d := 6) (v := .int .u8 ((UInt8.ofNat c).toNat : Nat))); (· exact Y.conv_int rfl (u8w _ (by omega))); (· rfl))
    | ((with_reducible apply TL.pure (d := 8) (v := str [UInt8.ofNat c])); (· exact Y.bytes_src rfl (Src.obj (fz := (0, 0)) pkA) rfl); (· rfl)) | ((with_reducible apply TW.pure (d := 8) (v := str [UInt8.ofNat c])); (· exact Y.bytes_src rfl (Src.obj (fz := (0, 0)) pkA) rfl); (· rfl))
    | refine wkV ?_
    | ((with_reducible apply TL.build_slice (len := 1)); (· rfl); (· rfl); (· exact oneA); (· rfl); (· rfl); (· rfl); intro bb)
    | apply Br.ky kpA | apply Br.kn kpA
    | refine stS ?_ | (refine stB ?_; intro _) | (refine stC ?_; refine And.intro (fun _ => ?_) (fun _ => ?_)))
    refine TQ.endR1 (L' := L) Tryz.results78 rvA rfl (.refl _) ?_ selF
    exact ⟨rfl, rfl, rfl⟩
  by_cases h2 : c < 2048
  · have e : signB c = [UInt8.ofNat (192 + c / 64), UInt8.ofNat (128 + c % 64)] := by unfold signB; rw [if_neg h1, if_pos h2]
    rw [e]
    repeat' (first
    | ((with_reducible apply TL.pure (d := 12) (v := .int .i64 ((c / 64 : Nat) : Int))); (· exact Y.quoN (m := 64) (q := 64) rfl rfl (by omega) (by omega) (by omega)); (· rfl)) | ((with_reducible apply TW.pure (d := 12) (v := .int .i64 ((c / 64 : Nat) : Int))); (· exact Y.quoN (m := 64) (q := 64) rfl rfl (by omega) (by omega) (by omega)); (· rfl))
    | ((with_reducible apply TL.pure (d := 13) (v := .int .i64 ((192 + c / 64 : Nat) : Int))); (· exact Y.add rfl rfl (addN 192 (c / 64) 192 (by omega) (by omega))); (· rfl)) | ((with_reducible apply TW.pure (d := 13) (v := .int .i64 ((192 + c / 64 : Nat) : Int))); (· exact Y.add rfl rfl (addN 192 (c / 64) 192 (by omega) (by omega))); (· rfl))
    | ((with_reducible apply TL.pure (d := 14) (v := .int .u8 ((UInt8.ofNat (192 + c / 64)).toNat : Nat))); (· exact Y.conv_int rfl (u8w _ (by omega))); (· rfl)) | ((with_reducible apply TW.pure (d := 14) (v := .int .u8 ((UInt8.ofNat (192 + c / 64)).toNat : Nat))); (· exact Y.conv_int rfl (u8w _ (by omega))); (· rfl))
    
    | ((with_reducible apply TL.pure (d := 16) (v := .int .i64 ((c % 64 : Nat) : Int))); (· exact Y.remN (m := 64) (q := 64) rfl rfl (by omega) (by omega)); (· rfl)) | ((with_reducible apply TW.pure (d := 16) (v := .int .i64 ((c % 64 : Nat) : Int))); (· exact Y.remN (m := 64) (q := 64) rfl rfl (by omega) (by omega)); (· rfl))
    | ((with_reducible apply TL.pure (d := 17) (v := .int .i64 ((128 + c % 64 : Nat) : Int))); (· exact Y.add rfl rfl (addN 128 (c % 64) 128 (by omega) (by omega))); (· rfl)) | ((with_reducible apply TW.pure (d := 17) (v := .int .i64 ((128 + c % 64 : Nat) : Int))); (· exact Y.add rfl rfl (addN 128 (c % 64) 128 (by omega) (by omega))); (· rfl))
    | ((with_reducible apply TL.pure (d := 18) (v := .int .u8 ((UInt8.ofNat (128 + c % 64)).toNat : Nat))); (· exact Y.conv_int rfl (u8w _ (by omega))); (· rfl)) | ((with_reducible apply TW.pure (d := 18) (v := .int .u8 ((UInt8.ofNat (128 + c % 64)).toNat : Nat))); (· exact Y.conv_int rfl (u8w _ (by omega))); (· rfl))
    | ((with_reducible apply TL.pure (d := 20) (v := str [UInt8.ofNat (192 + c / 64), UInt8.ofNat (128 + c % 64)])); (· exact Y.bytes_src rfl (Src.obj (fz := (0, 0)) pkA) rfl); (· rfl)) | ((with_reducible apply TW.pure (d := 20) (v := str [UInt8.ofNat (192 + c / 64), UInt8.ofNat (128 + c % 64)])); (· exact Y.bytes_src rfl (Src.obj (fz := (0, 0)) pkA) rfl); (· rfl))
    | ((with_reducible apply TL.pure); (· exact yV); (· rfl)) | ((with_reducible apply TW.pure); (· exact yV); (· rfl))
    | ((with_reducible apply TL.build_slice (len := 2)); (· rfl); (· rfl); (· exact oneA); (· rfl); (· rfl); (· rfl); intro bb)
    | apply Br.ky kpA | apply Br.kn kpA
    | refine stS ?_ | (refine stB ?_; intro _) | (refine stC ?_; refine And.intro (fun _ => ?_) (fun _ => ?_)))
    refine TQ.endR1 (L' := L) Tryz.results78 rvA rfl (.refl _) ?_ selF
    exact ⟨rfl, rfl, rfl⟩
  by_cases h3 : c < 65536
  · have e : signB c = [UInt8.ofNat (224 + c / 4096), UInt8.ofNat (128 + c / 64 % 64), UInt8.ofNat (128 + c % 64)] := by unfold signB; rw [if_neg h1, if_neg h2, if_pos h3]
    rw [e]
    repeat' (first
    | ((with_reducible apply TL.pure (d := 24) (v := .int .i64 ((c / 4096 : Nat) : Int))); (· exact Y.quoN (m := 4096) (q := 4096) rfl rfl (by omega) (by omega) (by omega)); (· rfl)) | ((with_reducible apply TW.pure (d := 24) (v := .int .i64 ((c / 4096 : Nat) : Int))); (· exact Y.quoN (m := 4096) (q := 4096) rfl rfl (by omega) (by omega) (by omega)); (· rfl))
    | ((with_reducible apply TL.pure (d := 25) (v := .int .i64 ((224 + c / 4096 : Nat) : Int))); (· exact Y.add rfl rfl (addN 224 (c / 4096) 224 (by omega) (by omega))); (· rfl)) | ((with_reducible apply TW.pure (d := 25) (v := .int .i64 ((224 + c / 4096 : Nat) : Int))); (· exact Y.add rfl rfl (addN 224 (c / 4096) 224 (by omega) (by omega))); (· rfl))
    | ((with_reducible apply TL.pure (d := 26) (v := .int .u8 ((UInt8.ofNat (224 + c / 4096)).toNat : Nat))); (· exact Y.conv_int rfl (u8w _ (by omega))); (· rfl)) | ((with_reducible apply TW.pure (d := 26) (v := .int .u8 ((UInt8.ofNat (224 + c / 4096)).toNat : Nat))); (· exact Y.conv_int rfl (u8w _ (by omega))); (· rfl))
    
    | ((with_reducible apply TL.pure (d := 28) (v := .int .i64 ((c / 64 : Nat) : Int))); (· exact Y.quoN (m := 64) (q := 64) rfl rfl (by omega) (by omega) (by omega)); (· rfl)) | ((with_reducible apply TW.pure (d := 28) (v := .int .i64 ((c / 64 : Nat) : Int))); (· exact Y.quoN (m := 64) (q := 64) rfl rfl (by omega) (by omega) (by omega)); (· rfl))
    | ((with_reducible apply TL.pure (d := 29) (v := .int .i64 ((c / 64 % 64 : Nat) : Int))); (· exact Y.remN (m := 64) (q := 64) rfl rfl (by omega) (by omega)); (· rfl)) | ((with_reducible apply TW.pure (d := 29) (v := .int .i64 ((c / 64 % 64 : Nat) : Int))); (· exact Y.remN (m := 64) (q := 64) rfl rfl (by omega) (by omega)); (· rfl))
    | ((with_reducible apply TL.pure (d := 30) (v := .int .i64 ((128 + c / 64 % 64 : Nat) : Int))); (· exact Y.add rfl rfl (addN 128 (c / 64 % 64) 128 (by omega) (by omega))); (· rfl)) | ((with_reducible apply TW.pure (d := 30) (v := .int .i64 ((128 + c / 64 % 64 : Nat) : Int))); (· exact Y.add rfl rfl (addN 128 (c / 64 % 64) 128 (by omega) (by omega))); (· rfl))
    | ((with_reducible apply TL.pure (d := 31) (v := .int .u8 ((UInt8.ofNat (128 + c / 64 % 64)).toNat : Nat))); (· exact Y.conv_int rfl (u8w _ (by omega))); (· rfl)) | ((with_reducible apply TW.pure (d := 31) (v := .int .u8 ((UInt8.ofNat (128 + c / 64 % 64)).toNat : Nat))); (· exact Y.conv_int rfl (u8w _ (by omega))); (· rfl))
    
    | ((with_reducible apply TL.pure (d := 33) (v := .int .i64 ((c % 64 : Nat) : Int))); (· exact Y.remN (m := 64) (q := 64) rfl rfl (by omega) (by omega)); (· rfl)) | ((with_reducible apply TW.pure (d := 33) (v := .int .i64 ((c % 64 : Nat) : Int))); (· exact Y.remN (m := 64) (q := 64) rfl rfl (by omega) (by omega)); (· rfl))
    | ((with_reducible apply TL.pure (d := 34) (v := .int .i64 ((128 + c % 64 : Nat) : Int))); (· exact Y.add rfl rfl (addN 128 (c % 64) 128 (by omega) (by omega))); (· rfl)) | ((with_reducible apply TW.pure (d := 34) (v := .int .i64 ((128 + c % 64 : Nat) : Int))); (· exact Y.add rfl rfl (addN 128 (c % 64) 128 (by omega) (by omega))); (· rfl))
    | ((with_reducible apply TL.pure (d := 35) (v := .int .u8 ((UInt8.ofNat (128 + c % 64)).toNat : Nat))); (· exact Y.conv_int rfl (u8w _ (by omega))); (· rfl)) | ((with_reducible apply TW.pure (d := 35) (v := .int .u8 ((UInt8.ofNat (128 + c % 64)).toNat : Nat))); (· exact Y.conv_int rfl (u8w _ (by omega))); (· rfl))
    | ((with_reducible apply TL.pure (d := 37) (v := str [UInt8.ofNat (224 + c / 4096), UInt8.ofNat (128 + c / 64 % 64), UInt8.ofNat (128 + c % 64)])); (· exact Y.bytes_src rfl (Src.obj (fz := (0, 0)) pkA) rfl); (· rfl)) | ((with_reducible apply TW.pure (d := 37) (v := str [UInt8.ofNat (224 + c / 4096), UInt8.ofNat (128 + c / 64 % 64), UInt8.ofNat (128 + c % 64)])); (· exact Y.bytes_src rfl (Src.obj (fz := (0, 0)) pkA) rfl); (· rfl))
    | ((with_reducible apply TL.pure); (· exact yV); (· rfl)) | ((with_reducible apply TW.pure); (· exact yV); (· rfl))
    | ((with_reducible apply TL.build_slice (len := 3)); (· rfl); (· rfl); (· exact oneA); (· rfl); (· rfl); (· rfl); intro bb)
    | apply Br.ky kpA | apply Br.kn kpA
    | refine stS ?_ | (refine stB ?_; intro _) | (refine stC ?_; refine And.intro (fun _ => ?_) (fun _ => ?_)))
    refine TQ.endR1 (L' := L) Tryz.results78 rvA rfl (.refl _) ?_ selF
    exact ⟨rfl, rfl, rfl⟩
  · have e : signB c = [UInt8.ofNat (240 + c / 262144), UInt8.ofNat (128 + c / 4096 % 64), UInt8.ofNat (128 + c / 64 % 64), UInt8.ofNat (128 + c % 64)] := by unfold signB; rw [if_neg h1, if_neg h2, if_neg h3]
    rw [e]
    repeat' (first
    | ((with_reducible apply TL.pure (d := 39) (v := .int .i64 ((c / 262144 : Nat) : Int))); (· exact Y.quoN (m := 262144) (q := 262144) rfl rfl (by omega) (by omega) (by omega)); (· rfl)) | ((with_reducible apply TW.pure (d := 39) (v := .int .i64 ((c / 262144 : Nat) : Int))); (· exact Y.quoN (m := 262144) (q := 262144) rfl rfl (by omega) (by omega) (by omega)); (· rfl))
    | ((with_reducible apply TL.pure (d := 40) (v := .int .i64 ((240 + c / 262144 : Nat) : Int))); (· exact Y.add rfl rfl (addN 240 (c / 262144) 240 (by omega) (by omega))); (· rfl)) | ((with_reducible apply TW.pure (d := 40) (v := .int .i64 ((240 + c / 262144 : Nat) : Int))); (· exact Y.add rfl rfl (addN 240 (c / 262144) 240 (by omega) (by omega))); (· rfl))
    | ((with_reducible apply TL.pure (d := 41) (v := .int .u8 ((UInt8.ofNat (240 + c / 262144)).toNat : Nat))); (· exact Y.conv_int rfl (u8w _ (by omega))); (· rfl)) | ((with_reducible apply TW.pure (d := 41) (v := .int .u8 ((UInt8.ofNat (240 + c / 262144)).toNat : Nat))); (· exact Y.conv_int rfl (u8w _ (by omega))); (· rfl))
    
    | ((with_reducible apply TL.pure (d := 43) (v := .int .i64 ((c / 4096 : Nat) : Int))); (· exact Y.quoN (m := 4096) (q := 4096) rfl rfl (by omega) (by omega) (by omega)); (· rfl)) | ((with_reducible apply TW.pure (d := 43) (v := .int .i64 ((c / 4096 : Nat) : Int))); (· exact Y.quoN (m := 4096) (q := 4096) rfl rfl (by omega) (by omega) (by omega)); (· rfl))
    | ((with_reducible apply TL.pure (d := 44) (v := .int .i64 ((c / 4096 % 64 : Nat) : Int))); (· exact Y.remN (m := 64) (q := 64) rfl rfl (by omega) (by omega)); (· rfl)) | ((with_reducible apply TW.pure (d := 44) (v := .int .i64 ((c / 4096 % 64 : Nat) : Int))); (· exact Y.remN (m := 64) (q := 64) rfl rfl (by omega) (by omega)); (· rfl))
    | ((with_reducible apply TL.pure (d := 45) (v := .int .i64 ((128 + c / 4096 % 64 : Nat) : Int))); (· exact Y.add rfl rfl (addN 128 (c / 4096 % 64) 128 (by omega) (by omega))); (· rfl)) | ((with_reducible apply TW.pure (d := 45) (v := .int .i64 ((128 + c / 4096 % 64 : Nat) : Int))); (· exact Y.add rfl rfl (addN 128 (c / 4096 % 64) 128 (by omega) (by omega))); (· rfl))
    | ((with_reducible apply TL.pure (d := 46) (v := .int .u8 ((UInt8.ofNat (128 + c / 4096 % 64)).toNat : Nat))); (· exact Y.conv_int rfl (u8w _ (by omega))); (· rfl)) | ((with_reducible apply TW.pure (d := 46) (v := .int .u8 ((UInt8.ofNat (128 + c / 4096 % 64)).toNat : Nat))); (· exact Y.conv_int rfl (u8w _ (by omega))); (· rfl))
    
    | ((with_reducible apply TL.pure (d := 48) (v := .int .i64 ((c / 64 : Nat) : Int))); (· exact Y.quoN (m := 64) (q := 64) rfl rfl (by omega) (by omega) (by omega)); (· rfl)) | ((with_reducible apply TW.pure (d := 48) (v := .int .i64 ((c / 64 : Nat) : Int))); (· exact Y.quoN (m := 64) (q := 64) rfl rfl (by omega) (by omega) (by omega)); (· rfl))
    | ((with_reducible apply TL.pure (d := 49) (v := .int .i64 ((c / 64 % 64 : Nat) : Int))); (· exact Y.remN (m := 64) (q := 64) rfl rfl (by omega) (by omega)); (· rfl)) | ((with_reducible apply TW.pure (d := 49) (v := .int .i64 ((c / 64 % 64 : Nat) : Int))); (· exact Y.remN (m := 64) (q := 64) rfl rfl (by omega) (by omega)); (· rfl))
    | ((with_reducible apply TL.pure (d := 50) (v := .int .i64 ((128 + c / 64 % 64 : Nat) : Int))); (· exact Y.add rfl rfl (addN 128 (c / 64 % 64) 128 (by omega) (by omega))); (· rfl)) | ((with_reducible apply TW.pure (d := 50) (v := .int .i64 ((128 + c / 64 % 64 : Nat) : Int))); (· exact Y.add rfl rfl (addN 128 (c / 64 % 64) 128 (by omega) (by omega))); (· rfl))
    | ((with_reducible apply TL.pure (d := 51) (v := .int .u8 ((UInt8.ofNat (128 + c / 64 % 64)).toNat : Nat))); (· exact Y.conv_int rfl (u8w _ (by omega))); (· rfl)) | ((with_reducible apply TW.pure (d := 51) (v := .int .u8 ((UInt8.ofNat (128 + c / 64 % 64)).toNat : Nat))); (· exact Y.conv_int rfl (u8w _ (by omega))); (· rfl))
    
    | ((with_reducible apply TL.pure (d := 53) (v := .int .i64 ((c % 64 : Nat) : Int))); (· exact Y.remN (m := 64) (q := 64) rfl rfl (by omega) (by omega)); (· rfl)) | ((with_reducible apply TW.pure (d := 53) (v := .int .i64 ((c % 64 : Nat) : Int))); (· exact Y.remN (m := 64) (q := 64) rfl rfl (by omega) (by omega)); (· rfl))
    | ((with_reducible apply TL.pure (d := 54) (v := .int .i64 ((128 + c % 64 : Nat) : Int))); (· exact Y.add rfl rfl (addN 128 (c % 64) 128 (by omega) (by omega))); (· rfl)) | ((with_reducible apply TW.pure (d := 54) (v := .int .i64 ((128 + c % 64 : Nat) : Int))); (· exact Y.add rfl rfl (addN 128 (c % 64) 128 (by omega) (by omega))); (· rfl))
    | ((with_reducible apply TL.pure (d := 55) (v := .int .u8 ((UInt8.ofNat (128 + c % 64)).toNat : Nat))); (· exact Y.conv_int rfl (u8w _ (by omega))); (· rfl)) | ((with_reducible apply TW.pure (d := 55) (v := .int .u8 ((UInt8.ofNat (128 + c % 64)).toNat : Nat))); (· exact Y.conv_int rfl (u8w _ (by omega))); (· rfl))
    | ((with_reducible apply TL.pure (d := 57) (v := str [UInt8.ofNat (240 + c / 262144), UInt8.ofNat (128 + c / 4096 % 64), UInt8.ofNat (128 + c / 64 % 64), UInt8.ofNat (128 + c % 64)])); (· exact Y.bytes_src rfl (Src.obj (fz := (0, 0)) pkA) rfl); (· rfl)) | ((with_reducible apply TW.pure (d := 57) (v := str [UInt8.ofNat (240 + c / 262144), UInt8.ofNat (128 + c / 4096 % 64), UInt8.ofNat (128 + c / 64 % 64), UInt8.ofNat (128 + c % 64)])); (· exact Y.bytes_src rfl (Src.obj (fz := (0, 0)) pkA) rfl); (· rfl))
    | ((with_reducible apply TL.pure); (· exact yV); (· rfl)) | ((with_reducible apply TW.pure); (· exact yV); (· rfl))
    | ((with_reducible apply TL.build_slice (len := 4)); (· rfl); (· rfl); (· exact oneA); (· rfl); (· rfl); (· rfl); intro bb)
    | apply Br.ky kpA | apply Br.kn kpA
    | refine stS ?_ | (refine stB ?_; intro _) | (refine stC ?_; refine And.intro (fun _ => ?_) (fun _ => ?_)))
    refine TQ.endR1 (L' := L) Tryz.results78 rvA rfl (.refl _) ?_ selF
    exact ⟨rfl, rfl, rfl⟩
end Go.Proofs.YtfmadoeadmclbaaGreatDoor
namespace Go.Proofs.YtfmadoeadmclbaaGreatDoor
open Go.RowKit Go.TL
set_option maxRecDepth 100000
def hexV : Option (Nat × List UInt8) → Int
  | some p => (p.1 : Nat)
  | none => -1
set_option maxHeartbeats 32000000 in
theorem rhex_gives (s : List UInt8) (i : Nat) (g : Gh) (L : List Ent) (_hi : i ≤ s.length) (_hs : s.length ≤ 1000000) : Gives Tryz.prog 79 #[str s, .int .i64 (i : Nat)] g L (.int .i64 (hexV (hexL (s.drop i)))) := by
  refine .of (Does.of2 Tryz.func79 rfl Tryz.ntmps79 rfl ?_)
  obtain ⟨R, hR⟩ : ∃ R, R = hexL (s.drop i) := ⟨_, rfl⟩
  rw [← hR]
  by_cases hl : s.length - i < 4
  · have : R = none := by
      cases hh : R with
      | none => rfl
      | some p =>
        obtain ⟨a, r⟩ := p
        have := (hexL_drop (hR.symm.trans hh)).2
        rw [List.length_drop] at this; omega
    subst this
    clear hR
    repeat' (first
    | refine wkQ ?_
    | refine wkV ?_
    | refine stS ?_ | (refine stB ?_; intro _) | (refine stC ?_; refine And.intro (fun _ => ?_) (fun _ => ?_)))
    refine TQ.endR1 (L' := L) Tryz.results79 rvA rfl (.refl _) ?_ selF
    exact ⟨rfl, rfl, rfl⟩
  · unfold hexL at hR
    repeat' (first
    | refine wkQ ?_
    | refine wkV ?_
    | refine stS ?_ | (refine stB ?_; intro _) | (refine stC ?_; refine And.intro (fun _ => ?_) (fun _ => ?_)))
    refine TC.loopL (α := Nat × Nat) (fun x => x.1 ≤ 4 ∧ hexF (4 - x.1) x.2 (s.drop (i + x.1)) = R ∧ (x.1 = 0 → x.2 ≤ 0) ∧ (x.1 = 1 → x.2 ≤ 15) ∧ (x.1 = 2 → x.2 ≤ 255) ∧ (x.1 = 3 → x.2 ≤ 4095) ∧ (x.1 = 4 → x.2 ≤ 65535)) (fun x => 4 - x.1) (fun x _ => [(6, .int .i64 ((i + x.1 : Nat) : Int)), (5, .int .i64 (x.2 : Nat)), (1, .int .i64 (i : Nat)), (0, str s)]) (fun _ => L) (0, 0) ⟨by omega, hR.symm, by omega, by omega, by omega, by omega, by omega⟩ subA selF ?_
    clear hR
    rintro ⟨k, n⟩ ⟨hk, hR, n0, n1, n2, n3, n4⟩
    dsimp only at hk hR n0 n1 n2 n3 n4 ⊢
    have nb : n ≤ 65535 := by omega
    by_cases hlt : k < 4
    · obtain ⟨c, hc⟩ : ∃ c, s[i + k]? = some c := ⟨_, List.getElem?_eq_getElem (by omega)⟩
      rw [show 4 - k = (4 - (k + 1)) + 1 by omega, drop_of_get hc, hexF] at hR
      have hcb := UInt8.toNat_lt c
      unfold hexD at hR
      by_cases h1 : 48 ≤ c.toNat ∧ c.toNat ≤ 57
      · rw [if_pos h1] at hR
        dsimp only at hR
        have HR := Hn.mk hR
        clear hR
        repeat' (first
    | ((with_reducible apply TL.pure (d := 22) (v := .int .u8 (c.toNat : Nat))); (· exact Y.index_at hc rfl rfl rfl); (· rfl)) | ((with_reducible apply TW.pure (d := 22) (v := .int .u8 (c.toNat : Nat))); (· exact Y.index_at hc rfl rfl rfl); (· rfl))
    | ((with_reducible apply TL.pure (d := 23) (v := .int .i64 (c.toNat : Nat))); (· exact Y.conv_int rfl (IntWalk.i64_in _ (by omega))); (· rfl)) | ((with_reducible apply TW.pure (d := 23) (v := .int .i64 (c.toNat : Nat))); (· exact Y.conv_int rfl (IntWalk.i64_in _ (by omega))); (· rfl))
    | refine wkV ?_
    | refine stS ?_ | (refine stB ?_; intro _) | (refine stC ?_; refine And.intro (fun _ => ?_) (fun _ => ?_)))
        refine TQ.slot (t := 5) (u := .int .i64 ((16 * n + (c.toNat - 48) : Nat) : Int)) rfl (congrArg (Value.int .i64) (by omega)) ?_
        refine TQ.round (k + 1, 16 * n + (c.toNat - 48)) ?_ ?_ rfl subA selF
        · exact ⟨by omega, HR.out, by omega, by omega, by omega, by omega, by omega⟩
        · show 4 - (k + 1) < 4 - k
          omega
      rw [if_neg h1] at hR
      by_cases h2 : 65 ≤ c.toNat ∧ c.toNat ≤ 70
      · rw [if_pos h2] at hR
        dsimp only at hR
        have HR := Hn.mk hR
        clear hR
        repeat' (first
    | ((with_reducible apply TL.pure (d := 22) (v := .int .u8 (c.toNat : Nat))); (· exact Y.index_at hc rfl rfl rfl); (· rfl)) | ((with_reducible apply TW.pure (d := 22) (v := .int .u8 (c.toNat : Nat))); (· exact Y.index_at hc rfl rfl rfl); (· rfl))
    | ((with_reducible apply TL.pure (d := 23) (v := .int .i64 (c.toNat : Nat))); (· exact Y.conv_int rfl (IntWalk.i64_in _ (by omega))); (· rfl)) | ((with_reducible apply TW.pure (d := 23) (v := .int .i64 (c.toNat : Nat))); (· exact Y.conv_int rfl (IntWalk.i64_in _ (by omega))); (· rfl))
    | refine wkV ?_
    | refine stS ?_ | (refine stB ?_; intro _) | (refine stC ?_; refine And.intro (fun _ => ?_) (fun _ => ?_)))
        refine TQ.slot (t := 5) (u := .int .i64 ((16 * n + (c.toNat - 55) : Nat) : Int)) rfl (congrArg (Value.int .i64) (by omega)) ?_
        refine TQ.round (k + 1, 16 * n + (c.toNat - 55)) ?_ ?_ rfl subA selF
        · exact ⟨by omega, HR.out, by omega, by omega, by omega, by omega, by omega⟩
        · show 4 - (k + 1) < 4 - k
          omega
      rw [if_neg h2] at hR
      by_cases h3 : 97 ≤ c.toNat ∧ c.toNat ≤ 102
      · rw [if_pos h3] at hR
        dsimp only at hR
        have HR := Hn.mk hR
        clear hR
        repeat' (first
    | ((with_reducible apply TL.pure (d := 22) (v := .int .u8 (c.toNat : Nat))); (· exact Y.index_at hc rfl rfl rfl); (· rfl)) | ((with_reducible apply TW.pure (d := 22) (v := .int .u8 (c.toNat : Nat))); (· exact Y.index_at hc rfl rfl rfl); (· rfl))
    | ((with_reducible apply TL.pure (d := 23) (v := .int .i64 (c.toNat : Nat))); (· exact Y.conv_int rfl (IntWalk.i64_in _ (by omega))); (· rfl)) | ((with_reducible apply TW.pure (d := 23) (v := .int .i64 (c.toNat : Nat))); (· exact Y.conv_int rfl (IntWalk.i64_in _ (by omega))); (· rfl))
    | refine wkV ?_
    | refine stS ?_ | (refine stB ?_; intro _) | (refine stC ?_; refine And.intro (fun _ => ?_) (fun _ => ?_)))
        refine TQ.slot (t := 5) (u := .int .i64 ((16 * n + (c.toNat - 87) : Nat) : Int)) rfl (congrArg (Value.int .i64) (by omega)) ?_
        refine TQ.round (k + 1, 16 * n + (c.toNat - 87)) ?_ ?_ rfl subA selF
        · exact ⟨by omega, HR.out, by omega, by omega, by omega, by omega, by omega⟩
        · show 4 - (k + 1) < 4 - k
          omega
      · rw [if_neg h3] at hR
        dsimp only at hR
        subst hR
        repeat' (first
    | ((with_reducible apply TL.pure (d := 22) (v := .int .u8 (c.toNat : Nat))); (· exact Y.index_at hc rfl rfl rfl); (· rfl)) | ((with_reducible apply TW.pure (d := 22) (v := .int .u8 (c.toNat : Nat))); (· exact Y.index_at hc rfl rfl rfl); (· rfl))
    | ((with_reducible apply TL.pure (d := 23) (v := .int .i64 (c.toNat : Nat))); (· exact Y.conv_int rfl (IntWalk.i64_in _ (by omega))); (· rfl)) | ((with_reducible apply TW.pure (d := 23) (v := .int .i64 (c.toNat : Nat))); (· exact Y.conv_int rfl (IntWalk.i64_in _ (by omega))); (· rfl))
    | refine wkV ?_
    | refine stS ?_ | (refine stB ?_; intro _) | (refine stC ?_; refine And.intro (fun _ => ?_) (fun _ => ?_)))
        all_goals
          refine TQ.endR1 (L' := L) Tryz.results79 rvA rfl (.refl _) ?_ selF
          exact ⟨rfl, rfl, rfl⟩
    · obtain rfl : k = 4 := by omega
      rw [Nat.sub_self, hexF] at hR
      subst hR
      repeat' (first
    | refine wkV ?_
    | refine stS ?_ | (refine stB ?_; intro _) | (refine stC ?_; refine And.intro (fun _ => ?_) (fun _ => ?_)))
      refine TQ.endR1 (L' := L) Tryz.results79 rvA rfl (.refl _) ?_ selF
      exact ⟨rfl, rfl, rfl⟩
end Go.Proofs.YtfmadoeadmclbaaGreatDoor
