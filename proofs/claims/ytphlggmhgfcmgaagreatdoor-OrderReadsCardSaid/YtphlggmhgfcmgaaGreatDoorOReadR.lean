/-
  The walk of the document's read.
-/
import Derived.Test.YtphlggmhgfcmgaaGreatDoorOPrefix
import Derived.Test.YtphlggmhgfcmgaaGreatDoorORead2
namespace Go.Proofs.YtphlggmhgfcmgaaGreatDoor
open Go.RowKit Go.TL
set_option maxRecDepth 100000

/-- What the document's read tells. -/
def readV (s : List UInt8) : Option (List UInt8 × List UInt8) → Value
  | none => .tuple #[str [], .int .i64 (-1)]
  | some (a, r) => .tuple #[str a, .int .i64 ((s.length - r.length : Nat) : Int)]
set_option maxHeartbeats 8000000 in
theorem rread5_gives (s : List UInt8) (k : Nat) (v : Value) (g : Gh) (L : List Ent) (hS : Sl g v s.length 1 (byteVals s)) (hs : s.length ≤ 1000000) (hk : k ≤ s.length) : Gives Tryz.prog 25 #[v, .int .i64 (k : Nat)] g L (readV s (wordP (s.drop k))) := by
  refine .of (Does.of2 Tryz.func25 rfl Tryz.ntmps25 rfl ?_)
  obtain ⟨ao, cap, rfl⟩ := hS.slice
  repeat' (first
    | ((with_reducible apply TL.pure); (· exact yA); (· rfl))
    | refine TC.seq ?_ | refine TC.region ?_ | refine TL.nil ?_ | refine TQ.then_normal ?_
    | ((with_reducible apply TL.storeE); (· rfl); (· rfl); (· rfl); (· exact pkA); (· infer_instance)) | ((with_reducible apply TL.store_whole); (· rfl); (· rfl); (· exact oneA); (· rfl); (· exact pkA); (· rfl))
    | refine TC.block ?_ | refine TC.ret ?_ | refine TC.skip ?_ | refine TC.exit ?_ | refine TC.cond rfl ?_
    | refine TQ.down ?_ | refine TQ.in_exit' rfl ?_
    | refine TL.guard_yes rfl rfl ?_ | refine TL.guard_no rfl rfl rfl rfl ?_ | refine TL.guard_no0 rfl rfl rfl ?_ | refine TL.guard_undef rfl rfl rfl ?_ | refine TL.guard_undef0 rfl rfl ?_ | refine TL.guard rfl rfl rfl ?_
    | refine Br.t rfl ?_ | refine Br.f rfl ?_ | refine Br.ky kpA ?_ | refine Br.kn kpA ?_ | refine Br.nky kpA ?_ | refine Br.nkn kpA ?_
    | refine Br.eq0 (fun _ => ?_) (fun _ => ?_) | refine Br.neq0 (fun _ => ?_) (fun _ => ?_) | refine Br.eq (fun _ => ?_) (fun _ => ?_) | refine Br.neq (fun _ => ?_) (fun _ => ?_) | refine Br.not (fun _ => ?_) (fun _ => ?_) | refine Br.dec (fun _ => ?_) (fun _ => ?_) | refine Br.bool (fun _ => ?_) (fun _ => ?_)
    | ((with_reducible apply TL.alloc_ag); (· rfl); intro _) | ((with_reducible apply TL.alloc_sc); (· rfl); (· rfl); intro _) | ((with_reducible apply TL.box_ag); (· rfl); (· rfl); intro _) | ((with_reducible apply TL.box_sc); (· rfl); (· rfl); (· rfl); intro _))
  refine TC.row_nil 5 1 ?_
  refine TC.loopL (fun x : Nat × Value × List UInt8 => x.1 ≤ s.length ∧ k + x.2.2.length ≤ x.1 ∧ wordP (s.drop k) = (wordP (s.drop x.1)).map fun p => (x.2.2 ++ p.1, p.2)) (fun x => s.length - x.1) (fun x _ => [(0, .slice ao s.length cap), (1, .int .i64 (x.1 : Nat)), (6, x.2.1)]) (fun x => .row 5 1 x.2.1 x.2.2.length (byteVals x.2.2) :: L) (k, .slice none 0 0, []) ⟨hk, Nat.le_refl _, by cases wordP (s.drop k) <;> rfl⟩ subA selA ?_
  rintro ⟨i, v, acc⟩ ⟨hi, hki, hy⟩
  dsimp only at hi hki hy ⊢
  have HS := Hn.mk hS
  by_cases h1 : i < s.length
  · obtain ⟨b, off, rfl, hg⟩ := hS.elem h1 (by decide)
    have hc : s[i]? = some s[i] := List.getElem?_eq_getElem h1
    have hd : s.drop i = s[i] :: s.drop (i + 1) := List.drop_eq_getElem_cons h1
    have hld : g.cell b (off + i * 1) = some (.int .u8 ((s[i]).toNat : Nat)) := hg 0 _ (by rw [Nat.mul_one]; exact byteVals_get hc)
    generalize s[i] = c at *
    rw [hd] at hy
    by_cases hc0 : c = 0
    · subst hc0
      have hld : g.cell b (off + i * 1) = some (.int .u8 0) := hld
      by_cases h2 : i + 1 < s.length
      · have hc2 : s[i + 1]? = some s[i + 1] := List.getElem?_eq_getElem h2
        have hd2 : s.drop (i + 1) = s[i + 1] :: s.drop (i + 1 + 1) := List.drop_eq_getElem_cons h2
        have hld2 : g.cell b (off + (i + 1) * 1) = some (.int .u8 ((s[i + 1]).toNat : Nat)) := by
          have := hg 1 (.int .u8 ((s[i + 1]).toNat : Nat)) (by rw [Nat.mul_one]; exact byteVals_get hc2)
          rw [show off + (i + 1) * 1 = off + i * 1 + 1 by omega]; exact this
        generalize s[i + 1] = d at *
        rw [hd2, wordP, if_pos rfl] at hy
        by_cases hd1 : d = 1
        · subst hd1
          have hld2 : g.cell b (off + (i + 1) * 1) = some (.int .u8 1) := hld2
          rw [if_pos rfl] at hy
          have hr : wordP (s.drop k) = some (acc, s.drop (i + 1 + 1)) := by rw [hy]; simp
          rw [hr]
          have hv : readV s (some (acc, s.drop (i + 1 + 1))) = .tuple #[str acc, .int .i64 ((i + 2 : Nat) : Int)] := by
            unfold readV
            dsimp only
            rw [List.length_drop, show s.length - (s.length - (i + 1 + 1)) = i + 2 by omega]
          rw [hv]
          clear hy hr hv hd hd2 hg hS hc hc2
          repeat' (first
    | ((with_reducible apply TL.pure); (· exact yV); (· rfl)) | ((with_reducible apply TW.pure); (· exact yV); (· rfl))
    | ((with_reducible apply TL.pure); (· exact yM); (· rfl)) | ((with_reducible apply TW.pure); (· exact yM); (· rfl))
    | ((with_reducible apply TL.pure); (· exact Y.bytes_row rfl pkA); (· rfl)) | ((with_reducible apply TL.pure); (· exact Y.bytes_src rfl (Src.sl (by assumption)) rfl); (· rfl)) | ((with_reducible apply TW.pure); (· exact Y.bytes_row rfl pkA); (· rfl)) | ((with_reducible apply TW.pure); (· exact Y.bytes_src rfl (Src.sl (by assumption)) rfl); (· rfl))
    | ((with_reducible apply TL.pure); (· exact yA); (· rfl))
    | refine TC.seq ?_ | refine TC.region ?_ | refine TL.nil ?_ | refine TQ.then_normal ?_
    | ((with_reducible apply TL.storeE); (· rfl); (· rfl); (· rfl); (· exact pkA); (· infer_instance)) | ((with_reducible apply TL.store_whole); (· rfl); (· rfl); (· exact oneA); (· rfl); (· exact pkA); (· rfl))
    | refine TC.block ?_ | refine TC.ret ?_ | refine TC.skip ?_ | refine TC.exit ?_ | refine TC.cond rfl ?_
    | refine TQ.down ?_ | refine TQ.in_exit' rfl ?_
    | refine TL.guard_yes rfl rfl ?_ | refine TL.guard_no rfl rfl rfl rfl ?_ | refine TL.guard_no0 rfl rfl rfl ?_ | refine TL.guard_undef rfl rfl rfl ?_ | refine TL.guard_undef0 rfl rfl ?_ | refine TL.guard rfl rfl rfl ?_
    | refine Br.t rfl ?_ | refine Br.f rfl ?_ | refine Br.ky kpA ?_ | refine Br.kn kpA ?_ | refine Br.nky kpA ?_ | refine Br.nkn kpA ?_
    | refine Br.eq0 (fun _ => ?_) (fun _ => ?_) | refine Br.neq0 (fun _ => ?_) (fun _ => ?_) | refine Br.eq (fun _ => ?_) (fun _ => ?_) | refine Br.neq (fun _ => ?_) (fun _ => ?_) | refine Br.not (fun _ => ?_) (fun _ => ?_) | refine Br.dec (fun _ => ?_) (fun _ => ?_) | refine Br.bool (fun _ => ?_) (fun _ => ?_)
    | ((with_reducible apply TL.alloc_ag); (· rfl); intro _) | ((with_reducible apply TL.alloc_sc); (· rfl); (· rfl); intro _) | ((with_reducible apply TL.box_ag); (· rfl); (· rfl); intro _) | ((with_reducible apply TL.box_sc); (· rfl); (· rfl); (· rfl); intro _))
          refine TQ.endR2 (L' := L) Tryz.results25 rvA rvA rfl (.refl _) ?_ selA
          exact ⟨rfl, rfl, rfl⟩
        · rw [if_neg hd1] at hy
          have n1 : Hn (¬ ((d.toNat : Nat) : Int) = 1) := ⟨fun e => hd1 (UInt8.toNat_inj.1 (by show d.toNat = 1; omega))⟩
          by_cases hd255 : d = 255
          · subst hd255
            have hld2 : g.cell b (off + (i + 1) * 1) = some (.int .u8 255) := hld2
            rw [if_pos rfl] at hy
            have HY := Hn.mk hy
            clear hy hd hd2 hg hS hc hc2
            repeat' (first
    | ((with_reducible apply TL.pure); (· exact yV); (· rfl)) | ((with_reducible apply TW.pure); (· exact yV); (· rfl))
    | ((with_reducible apply TL.pure); (· exact yM); (· rfl)) | ((with_reducible apply TW.pure); (· exact yM); (· rfl))
    | ((with_reducible apply TL.build_slice); (· rfl); (· rfl); (· exact oneA); (· rfl); (· rfl); (· rfl); intro _) | refine TL.build_one (by rfl) (by first | rfl | assumption) (by rfl) (by rfl) (by rfl) (by rfl) (fun _ => ?_) | refine TL.build_empty (by rfl) (fun _ => ?_)
    | ((with_reducible apply TL.append); (· rfl); (· rfl); (· rfl); (· rfl); (· exact pkA); (· first | exact Src.obj pkA | exact Src.sl (by assumption) | exact Src.row pkA); (· first | rfl | exact (byteVals_length _).trans (Nat.mul_one _).symm); (· first | exact byteVals_all _ | exact oneA); (· exact ⟨by unfold maxLen; omega, by omega⟩); (· rfl); intro _)
    | ((with_reducible apply TL.pure); (· exact yA); (· rfl))
    | refine TC.seq ?_ | refine TC.region ?_ | refine TL.nil ?_ | refine TQ.then_normal ?_
    | ((with_reducible apply TL.storeE); (· rfl); (· rfl); (· rfl); (· exact pkA); (· infer_instance)) | ((with_reducible apply TL.store_whole); (· rfl); (· rfl); (· exact oneA); (· rfl); (· exact pkA); (· rfl))
    | refine TC.block ?_ | refine TC.ret ?_ | refine TC.skip ?_ | refine TC.exit ?_ | refine TC.cond rfl ?_
    | refine TQ.down ?_ | refine TQ.in_exit' rfl ?_
    | refine TL.guard_yes rfl rfl ?_ | refine TL.guard_no rfl rfl rfl rfl ?_ | refine TL.guard_no0 rfl rfl rfl ?_ | refine TL.guard_undef rfl rfl rfl ?_ | refine TL.guard_undef0 rfl rfl ?_ | refine TL.guard rfl rfl rfl ?_
    | refine Br.t rfl ?_ | refine Br.f rfl ?_ | refine Br.ky kpA ?_ | refine Br.kn kpA ?_ | refine Br.nky kpA ?_ | refine Br.nkn kpA ?_
    | refine Br.eq0 (fun _ => ?_) (fun _ => ?_) | refine Br.neq0 (fun _ => ?_) (fun _ => ?_) | refine Br.eq (fun _ => ?_) (fun _ => ?_) | refine Br.neq (fun _ => ?_) (fun _ => ?_) | refine Br.not (fun _ => ?_) (fun _ => ?_) | refine Br.dec (fun _ => ?_) (fun _ => ?_) | refine Br.bool (fun _ => ?_) (fun _ => ?_)
    | ((with_reducible apply TL.alloc_ag); (· rfl); intro _) | ((with_reducible apply TL.alloc_sc); (· rfl); (· rfl); intro _) | ((with_reducible apply TL.box_ag); (· rfl); (· rfl); intro _) | ((with_reducible apply TL.box_sc); (· rfl); (· rfl); (· rfl); intro _))
            rename_i b2 v'
            rw [show acc.length + 1 = (acc ++ [0]).length by simp, show byteVals acc ++ [Value.int .u8 0] = byteVals (acc ++ [0]) by simp [byteVals]]
            refine TQ.round (i + 2, v', acc ++ [0]) ?_ ?_ rfl subA selA
            · refine ⟨by dsimp only; omega, by simp; omega, ?_⟩
              dsimp only
              rw [HY.out, Option.map_map]
              congr 1
              funext p
              simp
            · show s.length - (i + 2) < s.length - i
              omega
          · rw [if_neg hd255] at hy
            have n255 : Hn (¬ ((d.toNat : Nat) : Int) = 255) := ⟨fun e => hd255 (UInt8.toNat_inj.1 (by show d.toNat = 255; omega))⟩
            have hr : wordP (s.drop k) = none := by rw [hy]; rfl
            rw [hr]
            clear hy hr hd hd2 hg hS hc hc2
            repeat' (first
    | ((with_reducible apply TL.pure); (· exact yV); (· rfl)) | ((with_reducible apply TW.pure); (· exact yV); (· rfl))
    | ((with_reducible apply TL.pure); (· exact yM); (· rfl)) | ((with_reducible apply TW.pure); (· exact yM); (· rfl))
    | ((with_reducible apply TL.pure); (· exact yA); (· rfl))
    | refine TC.seq ?_ | refine TC.region ?_ | refine TL.nil ?_ | refine TQ.then_normal ?_
    | ((with_reducible apply TL.storeE); (· rfl); (· rfl); (· rfl); (· exact pkA); (· infer_instance)) | ((with_reducible apply TL.store_whole); (· rfl); (· rfl); (· exact oneA); (· rfl); (· exact pkA); (· rfl))
    | refine TC.block ?_ | refine TC.ret ?_ | refine TC.skip ?_ | refine TC.exit ?_ | refine TC.cond rfl ?_
    | refine TQ.down ?_ | refine TQ.in_exit' rfl ?_
    | refine TL.guard_yes rfl rfl ?_ | refine TL.guard_no rfl rfl rfl rfl ?_ | refine TL.guard_no0 rfl rfl rfl ?_ | refine TL.guard_undef rfl rfl rfl ?_ | refine TL.guard_undef0 rfl rfl ?_ | refine TL.guard rfl rfl rfl ?_
    | refine Br.t rfl ?_ | refine Br.f rfl ?_ | refine Br.ky kpA ?_ | refine Br.kn kpA ?_ | refine Br.nky kpA ?_ | refine Br.nkn kpA ?_
    | refine Br.eq0 (fun _ => ?_) (fun _ => ?_) | refine Br.neq0 (fun _ => ?_) (fun _ => ?_) | refine Br.eq (fun _ => ?_) (fun _ => ?_) | refine Br.neq (fun _ => ?_) (fun _ => ?_) | refine Br.not (fun _ => ?_) (fun _ => ?_) | refine Br.dec (fun _ => ?_) (fun _ => ?_) | refine Br.bool (fun _ => ?_) (fun _ => ?_)
    | ((with_reducible apply TL.alloc_ag); (· rfl); intro _) | ((with_reducible apply TL.alloc_sc); (· rfl); (· rfl); intro _) | ((with_reducible apply TL.box_ag); (· rfl); (· rfl); intro _) | ((with_reducible apply TL.box_sc); (· rfl); (· rfl); (· rfl); intro _))
            refine TQ.endR2 (L' := L) Tryz.results25 rvA rvA rfl (.refl _) ?_ selA
            exact ⟨rfl, rfl, rfl⟩
      · have hr : wordP (s.drop k) = none := by rw [hy, List.drop_eq_nil_of_le (by omega)]; rfl
        rw [hr]
        clear hy hr hd hg hS hc
        repeat' (first
    | ((with_reducible apply TL.pure); (· exact yV); (· rfl)) | ((with_reducible apply TW.pure); (· exact yV); (· rfl))
    | ((with_reducible apply TL.pure); (· exact yM); (· rfl)) | ((with_reducible apply TW.pure); (· exact yM); (· rfl))
    | ((with_reducible apply TL.pure); (· exact yA); (· rfl))
    | refine TC.seq ?_ | refine TC.region ?_ | refine TL.nil ?_ | refine TQ.then_normal ?_
    | ((with_reducible apply TL.storeE); (· rfl); (· rfl); (· rfl); (· exact pkA); (· infer_instance)) | ((with_reducible apply TL.store_whole); (· rfl); (· rfl); (· exact oneA); (· rfl); (· exact pkA); (· rfl))
    | refine TC.block ?_ | refine TC.ret ?_ | refine TC.skip ?_ | refine TC.exit ?_ | refine TC.cond rfl ?_
    | refine TQ.down ?_ | refine TQ.in_exit' rfl ?_
    | refine TL.guard_yes rfl rfl ?_ | refine TL.guard_no rfl rfl rfl rfl ?_ | refine TL.guard_no0 rfl rfl rfl ?_ | refine TL.guard_undef rfl rfl rfl ?_ | refine TL.guard_undef0 rfl rfl ?_ | refine TL.guard rfl rfl rfl ?_
    | refine Br.t rfl ?_ | refine Br.f rfl ?_ | refine Br.ky kpA ?_ | refine Br.kn kpA ?_ | refine Br.nky kpA ?_ | refine Br.nkn kpA ?_
    | refine Br.eq0 (fun _ => ?_) (fun _ => ?_) | refine Br.neq0 (fun _ => ?_) (fun _ => ?_) | refine Br.eq (fun _ => ?_) (fun _ => ?_) | refine Br.neq (fun _ => ?_) (fun _ => ?_) | refine Br.not (fun _ => ?_) (fun _ => ?_) | refine Br.dec (fun _ => ?_) (fun _ => ?_) | refine Br.bool (fun _ => ?_) (fun _ => ?_)
    | ((with_reducible apply TL.alloc_ag); (· rfl); intro _) | ((with_reducible apply TL.alloc_sc); (· rfl); (· rfl); intro _) | ((with_reducible apply TL.box_ag); (· rfl); (· rfl); intro _) | ((with_reducible apply TL.box_sc); (· rfl); (· rfl); (· rfl); intro _))
        refine TQ.endR2 (L' := L) Tryz.results25 rvA rvA rfl (.refl _) ?_ selA
        exact ⟨rfl, rfl, rfl⟩
    · have n0 : Hn (¬ ((c.toNat : Nat) : Int) = 0) := ⟨fun e => hc0 (UInt8.toNat_inj.1 (by show c.toNat = 0; omega))⟩
      rw [wordP_cons hc0] at hy
      have HY := Hn.mk hy
      clear hy hd hg hS hc
      repeat' (first
    | ((with_reducible apply TL.pure); (· exact yV); (· rfl)) | ((with_reducible apply TW.pure); (· exact yV); (· rfl))
    | ((with_reducible apply TL.pure); (· exact yM); (· rfl)) | ((with_reducible apply TW.pure); (· exact yM); (· rfl))
    | ((with_reducible apply TL.build_slice); (· rfl); (· rfl); (· exact oneA); (· rfl); (· rfl); (· rfl); intro _) | refine TL.build_one (by rfl) (by first | rfl | assumption) (by rfl) (by rfl) (by rfl) (by rfl) (fun _ => ?_) | refine TL.build_empty (by rfl) (fun _ => ?_)
    | ((with_reducible apply TL.append); (· rfl); (· rfl); (· rfl); (· rfl); (· exact pkA); (· first | exact Src.obj pkA | exact Src.sl (by assumption) | exact Src.row pkA); (· first | rfl | exact (byteVals_length _).trans (Nat.mul_one _).symm); (· first | exact byteVals_all _ | exact oneA); (· exact ⟨by unfold maxLen; omega, by omega⟩); (· rfl); intro _)
    | ((with_reducible apply TL.pure); (· exact yA); (· rfl))
    | refine TC.seq ?_ | refine TC.region ?_ | refine TL.nil ?_ | refine TQ.then_normal ?_
    | ((with_reducible apply TL.storeE); (· rfl); (· rfl); (· rfl); (· exact pkA); (· infer_instance)) | ((with_reducible apply TL.store_whole); (· rfl); (· rfl); (· exact oneA); (· rfl); (· exact pkA); (· rfl))
    | refine TC.block ?_ | refine TC.ret ?_ | refine TC.skip ?_ | refine TC.exit ?_ | refine TC.cond rfl ?_
    | refine TQ.down ?_ | refine TQ.in_exit' rfl ?_
    | refine TL.guard_yes rfl rfl ?_ | refine TL.guard_no rfl rfl rfl rfl ?_ | refine TL.guard_no0 rfl rfl rfl ?_ | refine TL.guard_undef rfl rfl rfl ?_ | refine TL.guard_undef0 rfl rfl ?_ | refine TL.guard rfl rfl rfl ?_
    | refine Br.t rfl ?_ | refine Br.f rfl ?_ | refine Br.ky kpA ?_ | refine Br.kn kpA ?_ | refine Br.nky kpA ?_ | refine Br.nkn kpA ?_
    | refine Br.eq0 (fun _ => ?_) (fun _ => ?_) | refine Br.neq0 (fun _ => ?_) (fun _ => ?_) | refine Br.eq (fun _ => ?_) (fun _ => ?_) | refine Br.neq (fun _ => ?_) (fun _ => ?_) | refine Br.not (fun _ => ?_) (fun _ => ?_) | refine Br.dec (fun _ => ?_) (fun _ => ?_) | refine Br.bool (fun _ => ?_) (fun _ => ?_)
    | ((with_reducible apply TL.alloc_ag); (· rfl); intro _) | ((with_reducible apply TL.alloc_sc); (· rfl); (· rfl); intro _) | ((with_reducible apply TL.box_ag); (· rfl); (· rfl); intro _) | ((with_reducible apply TL.box_sc); (· rfl); (· rfl); (· rfl); intro _))
      rename_i b2 v'
      rw [show acc.length + 1 = (acc ++ [c]).length by simp, show byteVals acc ++ [Value.int .u8 (c.toNat : Nat)] = byteVals (acc ++ [c]) by simp [byteVals]]
      refine TQ.round (i + 1, v', acc ++ [c]) ?_ ?_ rfl subA selA
      · refine ⟨by dsimp only; omega, by simp; omega, ?_⟩
        dsimp only
        rw [HY.out, Option.map_map]
        congr 1
        funext p
        simp
      · show s.length - (i + 1) < s.length - i
        omega
  · have hr : wordP (s.drop k) = none := by rw [hy, List.drop_eq_nil_of_le (by omega)]; rfl
    rw [hr]
    clear hy hr hS
    repeat' (first
    | ((with_reducible apply TL.pure); (· exact yA); (· rfl))
    | refine TC.seq ?_ | refine TC.region ?_ | refine TL.nil ?_ | refine TQ.then_normal ?_
    | ((with_reducible apply TL.storeE); (· rfl); (· rfl); (· rfl); (· exact pkA); (· infer_instance)) | ((with_reducible apply TL.store_whole); (· rfl); (· rfl); (· exact oneA); (· rfl); (· exact pkA); (· rfl))
    | refine TC.block ?_ | refine TC.ret ?_ | refine TC.skip ?_ | refine TC.exit ?_ | refine TC.cond rfl ?_
    | refine TQ.down ?_ | refine TQ.in_exit' rfl ?_
    | refine TL.guard_yes rfl rfl ?_ | refine TL.guard_no rfl rfl rfl rfl ?_ | refine TL.guard_no0 rfl rfl rfl ?_ | refine TL.guard_undef rfl rfl rfl ?_ | refine TL.guard_undef0 rfl rfl ?_ | refine TL.guard rfl rfl rfl ?_
    | refine Br.t rfl ?_ | refine Br.f rfl ?_ | refine Br.ky kpA ?_ | refine Br.kn kpA ?_ | refine Br.nky kpA ?_ | refine Br.nkn kpA ?_
    | refine Br.eq0 (fun _ => ?_) (fun _ => ?_) | refine Br.neq0 (fun _ => ?_) (fun _ => ?_) | refine Br.eq (fun _ => ?_) (fun _ => ?_) | refine Br.neq (fun _ => ?_) (fun _ => ?_) | refine Br.not (fun _ => ?_) (fun _ => ?_) | refine Br.dec (fun _ => ?_) (fun _ => ?_) | refine Br.bool (fun _ => ?_) (fun _ => ?_)
    | ((with_reducible apply TL.alloc_ag); (· rfl); intro _) | ((with_reducible apply TL.alloc_sc); (· rfl); (· rfl); intro _) | ((with_reducible apply TL.box_ag); (· rfl); (· rfl); intro _) | ((with_reducible apply TL.box_sc); (· rfl); (· rfl); (· rfl); intro _))
    refine TQ.endR2 (L' := L) Tryz.results25 rvA rvA rfl (.refl _) ?_ selA
    exact ⟨rfl, rfl, rfl⟩
end Go.Proofs.YtphlggmhgfcmgaaGreatDoor
