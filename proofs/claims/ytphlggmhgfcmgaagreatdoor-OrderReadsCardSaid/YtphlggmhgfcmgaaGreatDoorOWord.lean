/-
  The walk of order.word.
-/
import Derived.Test.YtphlggmhgfcmgaaGreatDoorRKeyL
import Derived.Test.YtphlggmhgfcmgaaGreatDoorRMay
namespace Go.Proofs.YtphlggmhgfcmgaaGreatDoor
open Go.RowKit Go.TL
set_option maxRecDepth 100000

set_option maxHeartbeats 8000000 in
/-- A row of bytes that the caller owns grows by a text's key. -/
theorem oword_does (bs s : List UInt8) (v : Value) (g : Gh) (L : List Ent) (hb : bs.length ≤ 100000000) (hs : s.length ≤ 1000000) :
    Does Tryz.prog 42 #[v, str s] g (.row 5 1 v bs.length (byteVals bs) :: L) fun r g' L1 => ∃ v', r = .returned v' ∧ g' = g ∧ L1 = .row 5 1 v' (bs ++ wordL s).length (byteVals (bs ++ wordL s)) :: L := by
  refine Does.of2 Tryz.func42 rfl Tryz.ntmps42 rfl ?_
  refine TC.row_slice (v := v) pkA ?_
  rintro ao cap rfl _
  repeat' (first
    | ((with_reducible apply TL.build_slice); (· rfl); (· rfl); (· exact oneA); (· rfl); (· rfl); (· rfl); intro _) | refine TL.build_one (by rfl) (by first | rfl | assumption) (by rfl) (by rfl) (by rfl) (by rfl) (fun _ => ?_) | refine TL.build_empty (by rfl) (fun _ => ?_)
    | ((with_reducible apply TL.append); (· rfl); (· rfl); (· rfl); (· rfl); (· exact pkA); (· first | exact Src.obj pkA | exact Src.sl (by assumption) | exact Src.row pkA); (· first | rfl | exact (byteVals_length _).trans (Nat.mul_one _).symm); (· first | exact byteVals_all _ | exact oneA); (· exact ⟨by unfold maxLen; omega, by omega⟩); (· rfl); intro _)
    | ((with_reducible apply TL.pure); (· exact yA); (· rfl))
    | refine TC.seq ?_ | refine TC.region ?_ | refine TL.nil ?_ | refine TQ.then_normal ?_
    | ((with_reducible apply TL.storeE); (· rfl); (· rfl); (· rfl); (· exact pkA); (· infer_instance)) | ((with_reducible apply TL.store_whole); (· rfl); (· rfl); (· exact oneA); (· rfl); (· exact pkA); (· rfl))
    | refine TC.block ?_ | refine TC.ret ?_ | refine TC.skip ?_ | refine TC.exit ?_ | refine TC.cond rfl ?_
    | refine TQ.down ?_ | refine TQ.in_exit' rfl ?_
    | refine TL.guard_yes rfl rfl ?_ | refine TL.guard_no rfl rfl rfl rfl ?_ | refine TL.guard_no0 rfl rfl rfl ?_ | refine TL.guard_undef rfl rfl rfl ?_ | refine TL.guard_undef0 rfl rfl ?_ | refine TL.guard rfl rfl rfl ?_
    | refine Br.t rfl ?_ | refine Br.f rfl ?_ | refine Br.ky kpA ?_ | refine Br.kn kpA ?_ | refine Br.nky kpA ?_ | refine Br.nkn kpA ?_
    | refine Br.eq0 (fun _ => ?_) (fun _ => ?_) | refine Br.neq0 (fun _ => ?_) (fun _ => ?_) | refine Br.eq (fun _ => ?_) (fun _ => ?_) | refine Br.neq (fun _ => ?_) (fun _ => ?_) | refine Br.not (fun _ => ?_) (fun _ => ?_) | refine Br.dec (fun _ => ?_) (fun _ => ?_) | refine Br.bool (fun _ => ?_) (fun _ => ?_)
    | ((with_reducible apply TL.alloc_ag); (· rfl); intro _) | ((with_reducible apply TL.alloc_sc); (· rfl); (· rfl); intro _) | ((with_reducible apply TL.box_ag); (· rfl); (· rfl); intro _) | ((with_reducible apply TL.box_sc); (· rfl); (· rfl); (· rfl); intro _))
  rename_i b0 v0
  rw [show bs.length + 1 = (bs ++ [5]).length by simp, show byteVals bs ++ [Value.int .u8 5] = byteVals (bs ++ [5]) by rw [byteVals_append]; rfl]
  refine TC.loopL (fun x : Nat × Value => x.1 ≤ s.length) (fun x => s.length - x.1) (fun x _ => [(11, .int .i64 (x.1 : Nat)), (10, .int .i64 (s.length : Nat)), (0, x.2), (1, str s)]) (fun x => .row 5 1 x.2 ((bs ++ [5]) ++ escL (s.take x.1)).length (byteVals ((bs ++ [5]) ++ escL (s.take x.1))) :: L) (0, v0) (Nat.zero_le _) subA (by rw [List.take_zero, show escL [] = [] from rfl, List.append_nil]; repeat (first | exact Sel.refl | exact Sel.nil | apply Sel.cons (by (repeat (first | exact Pick.here | apply Pick.there))) | apply Sel.drop)) ?_
  rintro ⟨i, v⟩ hi
  dsimp only at hi ⊢
  have hlen := escL_len (s.take i)
  have htl : (s.take i).length ≤ s.length := List.length_take_le' _ _
  have hl2 : ((bs ++ [5]) ++ escL (s.take i)).length ≤ 200000000 := by simp only [List.length_append, List.length_singleton]; omega
  by_cases hlt : i < s.length
  · obtain ⟨c, hc⟩ : ∃ c, s[i]? = some c := ⟨_, List.getElem?_eq_getElem hlt⟩
    have hsn := escL_snoc hc
    have hq0 : (bs ++ [5]) ++ escL (s.take (i + 1)) = ((bs ++ [5]) ++ escL (s.take i)) ++ (if c = 0 then [0, 255] else [c]) := by rw [hsn, List.append_assoc (bs ++ [5])]
    generalize hE : ((bs ++ [5]) ++ escL (s.take i)) = E at *
    have hcc : (c.toNat : Int) = 0 → c = 0 := fun h => UInt8.toNat_inj.1 (by show c.toNat = 0; omega)
    clear hlen htl hsn hE
    repeat' (first
    | ((with_reducible apply TL.build_slice); (· rfl); (· rfl); (· exact oneA); (· rfl); (· rfl); (· rfl); intro _) | refine TL.build_one (by rfl) (by first | rfl | assumption) (by rfl) (by rfl) (by rfl) (by rfl) (fun _ => ?_) | refine TL.build_empty (by rfl) (fun _ => ?_)
    | ((with_reducible apply TL.append); (· rfl); (· rfl); (· rfl); (· rfl); (· exact pkA); (· first | exact Src.obj pkA | exact Src.sl (by assumption) | exact Src.row pkA); (· first | rfl | exact (byteVals_length _).trans (Nat.mul_one _).symm); (· first | exact byteVals_all _ | exact oneA); (· exact ⟨by unfold maxLen; omega, by omega⟩); (· rfl); intro _)
    | ((with_reducible apply TL.pure); (· exact yA); (· rfl))
    | ((with_reducible apply TL.byteK); (· rfl); (· rfl); (· exact natA); (· assumption); (· rfl); intro _) | ((with_reducible apply TL.byte); (· rfl); (· rfl); (· exact natA); (· exact omA); (· rfl); intro _ _ _)
    | refine TC.seq ?_ | refine TC.region ?_ | refine TL.nil ?_ | refine TQ.then_normal ?_
    | ((with_reducible apply TL.storeE); (· rfl); (· rfl); (· rfl); (· exact pkA); (· infer_instance)) | ((with_reducible apply TL.store_whole); (· rfl); (· rfl); (· exact oneA); (· rfl); (· exact pkA); (· rfl))
    | refine TC.block ?_ | refine TC.ret ?_ | refine TC.skip ?_ | refine TC.exit ?_ | refine TC.cond rfl ?_
    | refine TQ.down ?_ | refine TQ.in_exit' rfl ?_
    | refine TL.guard_yes rfl rfl ?_ | refine TL.guard_no rfl rfl rfl rfl ?_ | refine TL.guard_no0 rfl rfl rfl ?_ | refine TL.guard_undef rfl rfl rfl ?_ | refine TL.guard_undef0 rfl rfl ?_ | refine TL.guard rfl rfl rfl ?_
    | refine Br.t rfl ?_ | refine Br.f rfl ?_ | refine Br.ky kpA ?_ | refine Br.kn kpA ?_ | refine Br.nky kpA ?_ | refine Br.nkn kpA ?_
    | refine Br.eq0 (fun _ => ?_) (fun _ => ?_) | refine Br.neq0 (fun _ => ?_) (fun _ => ?_) | refine Br.eq (fun _ => ?_) (fun _ => ?_) | refine Br.neq (fun _ => ?_) (fun _ => ?_) | refine Br.not (fun _ => ?_) (fun _ => ?_) | refine Br.dec (fun _ => ?_) (fun _ => ?_) | refine Br.bool (fun _ => ?_) (fun _ => ?_)
    | ((with_reducible apply TL.alloc_ag); (· rfl); intro _) | ((with_reducible apply TL.alloc_sc); (· rfl); (· rfl); intro _) | ((with_reducible apply TL.box_ag); (· rfl); (· rfl); intro _) | ((with_reducible apply TL.box_sc); (· rfl); (· rfl); (· rfl); intro _)
    | apply TC.region_draw (by kernel_rfl) (by kernel_rfl) | refine TW.nil ?_ | ((with_reducible apply TW.pure); (· exact yA); (· rfl))
    | ((with_reducible apply TL.range_str); (· rfl); (· rfl); intro _) | ((with_reducible apply TL.next_str); (· rfl); (· exact pkA); (· rfl); all_goals intro _)
    | ((with_reducible apply TW.byteK); (· rfl); (· rfl); (· exact natA); (· assumption); (· rfl); intro _) | ((with_reducible apply TW.byte); (· rfl); (· rfl); (· exact natA); (· exact omA); (· rfl); intro _ _ _)
    | refine TW.guard_yes rfl rfl ?_ | refine TW.guard_no rfl rfl rfl rfl ?_ | refine TW.guard_undef rfl rfl rfl ?_ | refine TW.guard rfl rfl rfl ?_)
    · rename_i v'
      have h : c.toNat = 0 := by assumption
      have hc0 := hcc (by omega)
      subst hc0
      rw [if_pos rfl] at hq0
      rw [show E.length + 1 + 1 = ((bs ++ [5]) ++ escL (s.take (i + 1))).length by rw [hq0, List.length_append]; rfl, show byteVals E ++ [Value.int .u8 ((0 : UInt8).toNat : Nat)] ++ [Value.int .u8 255] = byteVals ((bs ++ [5]) ++ escL (s.take (i + 1))) by rw [hq0, byteVals_append, List.append_assoc]; rfl]
      refine TQ.round (i + 1, v') ?_ ?_ rfl subA selA
      · show i + 1 ≤ s.length
        omega
      · show s.length - (i + 1) < s.length - i
        omega
    · rename_i v' _ h
      rw [if_neg (fun e => by rw [e] at h; exact absurd h (by decide))] at hq0
      rw [show E.length + 1 = ((bs ++ [5]) ++ escL (s.take (i + 1))).length by rw [hq0, List.length_append]; rfl, show byteVals E ++ [Value.int .u8 (c.toNat : Nat)] = byteVals ((bs ++ [5]) ++ escL (s.take (i + 1))) by rw [hq0, byteVals_append]; rfl]
      refine TQ.round (i + 1, v') ?_ ?_ rfl subA selA
      · show i + 1 ≤ s.length
        omega
      · show s.length - (i + 1) < s.length - i
        omega
  · obtain rfl : i = s.length := by omega
    rw [List.take_length] at hl2 ⊢
    have hq : bs ++ wordL s = ((bs ++ [5]) ++ escL s) ++ [0, 1] := by simp [wordL]
    generalize ((bs ++ [5]) ++ escL s) = E at *
    clear hlen htl
    repeat' (first
    | ((with_reducible apply TL.build_slice); (· rfl); (· rfl); (· exact oneA); (· rfl); (· rfl); (· rfl); intro _) | refine TL.build_one (by rfl) (by first | rfl | assumption) (by rfl) (by rfl) (by rfl) (by rfl) (fun _ => ?_) | refine TL.build_empty (by rfl) (fun _ => ?_)
    | ((with_reducible apply TL.append); (· rfl); (· rfl); (· rfl); (· rfl); (· exact pkA); (· first | exact Src.obj pkA | exact Src.sl (by assumption) | exact Src.row pkA); (· first | rfl | exact (byteVals_length _).trans (Nat.mul_one _).symm); (· first | exact byteVals_all _ | exact oneA); (· exact ⟨by unfold maxLen; omega, by omega⟩); (· rfl); intro _)
    | ((with_reducible apply TL.pure); (· exact yA); (· rfl))
    | refine TC.seq ?_ | refine TC.region ?_ | refine TL.nil ?_ | refine TQ.then_normal ?_
    | ((with_reducible apply TL.storeE); (· rfl); (· rfl); (· rfl); (· exact pkA); (· infer_instance)) | ((with_reducible apply TL.store_whole); (· rfl); (· rfl); (· exact oneA); (· rfl); (· exact pkA); (· rfl))
    | refine TC.block ?_ | refine TC.ret ?_ | refine TC.skip ?_ | refine TC.exit ?_ | refine TC.cond rfl ?_
    | refine TQ.down ?_ | refine TQ.in_exit' rfl ?_
    | refine TL.guard_yes rfl rfl ?_ | refine TL.guard_no rfl rfl rfl rfl ?_ | refine TL.guard_no0 rfl rfl rfl ?_ | refine TL.guard_undef rfl rfl rfl ?_ | refine TL.guard_undef0 rfl rfl ?_ | refine TL.guard rfl rfl rfl ?_
    | refine Br.t rfl ?_ | refine Br.f rfl ?_ | refine Br.ky kpA ?_ | refine Br.kn kpA ?_ | refine Br.nky kpA ?_ | refine Br.nkn kpA ?_
    | refine Br.eq0 (fun _ => ?_) (fun _ => ?_) | refine Br.neq0 (fun _ => ?_) (fun _ => ?_) | refine Br.eq (fun _ => ?_) (fun _ => ?_) | refine Br.neq (fun _ => ?_) (fun _ => ?_) | refine Br.not (fun _ => ?_) (fun _ => ?_) | refine Br.dec (fun _ => ?_) (fun _ => ?_) | refine Br.bool (fun _ => ?_) (fun _ => ?_)
    | ((with_reducible apply TL.alloc_ag); (· rfl); intro _) | ((with_reducible apply TL.alloc_sc); (· rfl); (· rfl); intro _) | ((with_reducible apply TL.box_ag); (· rfl); (· rfl); intro _) | ((with_reducible apply TL.box_sc); (· rfl); (· rfl); (· rfl); intro _))
    rename_i v'
    rw [show E.length + 2 = (bs ++ wordL s).length by rw [hq, List.length_append]; rfl, show byteVals E ++ [Value.int .u8 0, Value.int .u8 1] = byteVals (bs ++ wordL s) by rw [hq, byteVals_append]; rfl]
    refine TQ.endR1 (L' := (.row 5 1 v' (bs ++ wordL s).length (byteVals (bs ++ wordL s)) :: L)) Tryz.results42 rvA rfl (.refl _) ?_ selA
    exact ⟨v', rfl, rfl, rfl⟩
end Go.Proofs.YtphlggmhgfcmgaaGreatDoor
