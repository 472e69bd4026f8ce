/-
  The walk of json's copied.
-/
import Derived.Test.YtfmadoeadmclbaaGreatDoorHp1
import Derived.Test.YtfmadoeadmclbaaGreatDoorHp44
import Derived.Test.YtfmadoeadmclbaaGreatDoorHp12
namespace Go.Proofs.YtfmadoeadmclbaaGreatDoor
open Go.RowKit Go.TL
set_option maxRecDepth 100000

def CopyR (x : J) (g : Gh) (L : List Ent) : Ending → Gh → List Ent → Prop := fun r g' L1 => ∃ v M, r = .returned v ∧ g' = g ∧ L1 = grp M :: L ∧ TrJ x v M
set_option maxHeartbeats 16000000 in
theorem copied_does : ∀ (N : Nat) (x : J), jsz x ≤ N → ∀ (v : Value) (g : Gh) (L : List Ent), IsJ g x v → smJ x → Does Tryz.prog 39 #[v] g L (CopyR x g L)
  | 0, x, h, _, _, _, _, _ => by cases x <;> (rw [jsz] at h; omega)
  | N + 1, .null, hN, v, g, L, hV, hS => by
    rw [IsJ] at hV
    subst hV
    refine Does.of1 Tryz.func39 rfl Tryz.ntmps39 rfl ?_
    repeat' (first
    | ((with_reducible apply TL.pure); (· exact yV); (· rfl)) | ((with_reducible apply TW.pure); (· exact yV); (· rfl))
    | ((with_reducible apply TL.pure); (· exact yA); (· rfl))
    | refine stS ?_ | (refine stB ?_; intro _) | (refine stC ?_; refine And.intro (fun _ => ?_) (fun _ => ?_)))
    refine TQ.grp_nil ?_
    refine TQ.endR1 (L' := (grp [] :: L)) Tryz.results39 rvA rfl (.refl _) ?_ selA
    exact ⟨_, [], rfl, rfl, rfl, by rw [TrJ]; exact ⟨rfl, rfl⟩⟩
  | N + 1, .bool b, hN, v, g, L, hV, hS => by
    rw [IsJ] at hV
    subst hV
    refine Does.of1 Tryz.func39 rfl Tryz.ntmps39 rfl ?_
    repeat' (first
    | ((with_reducible apply TL.pure); (· exact yV); (· rfl)) | ((with_reducible apply TW.pure); (· exact yV); (· rfl))
    | ((with_reducible apply TL.pure); (· exact yA); (· rfl))
    | refine stS ?_ | (refine stB ?_; intro _) | (refine stC ?_; refine And.intro (fun _ => ?_) (fun _ => ?_)))
    refine TQ.grp_nil ?_
    refine TQ.endR1 (L' := (grp [] :: L)) Tryz.results39 rvA rfl (.refl _) ?_ selA
    exact ⟨_, [], rfl, rfl, rfl, by rw [TrJ]; exact ⟨rfl, rfl⟩⟩
  | N + 1, .num n, hN, v, g, L, hV, hS => by
    rw [IsJ] at hV
    obtain ⟨rfl, hb⟩ := hV
    refine Does.of1 Tryz.func39 rfl Tryz.ntmps39 rfl ?_
    repeat' (first
    | ((with_reducible apply TL.pure); (· exact yV); (· rfl)) | ((with_reducible apply TW.pure); (· exact yV); (· rfl))
    | ((with_reducible apply TL.pure); (· exact yA); (· rfl))
    | refine stS ?_ | (refine stB ?_; intro _) | (refine stC ?_; refine And.intro (fun _ => ?_) (fun _ => ?_)))
    refine TQ.grp_nil ?_
    refine TQ.endR1 (L' := (grp [] :: L)) Tryz.results39 rvA rfl (.refl _) ?_ selA
    exact ⟨_, [], rfl, rfl, rfl, by rw [TrJ]; exact ⟨rfl, hb, rfl⟩⟩
  | N + 1, .text s, hN, v, g, L, hV, hS => by
    rw [IsJ] at hV
    subst hV
    refine Does.of1 Tryz.func39 rfl Tryz.ntmps39 rfl ?_
    repeat' (first
    | ((with_reducible apply TL.pure); (· exact yV); (· rfl)) | ((with_reducible apply TW.pure); (· exact yV); (· rfl))
    | ((with_reducible apply TL.pure); (· exact yA); (· rfl))
    | refine stS ?_ | (refine stB ?_; intro _) | (refine stC ?_; refine And.intro (fun _ => ?_) (fun _ => ?_)))
    refine TQ.grp_nil ?_
    refine TQ.endR1 (L' := (grp [] :: L)) Tryz.results39 rvA rfl (.refl _) ?_ selA
    exact ⟨_, [], rfl, rfl, rfl, by rw [TrJ]; exact ⟨rfl, rfl⟩⟩
  | N + 1, .other k, hN, v, g, L, hV, hS => by
    rw [IsJ] at hV
    subst hV
    refine Does.of1 Tryz.func39 rfl Tryz.ntmps39 rfl ?_
    repeat' (first
    | ((with_reducible apply TL.pure); (· exact yV); (· rfl)) | ((with_reducible apply TW.pure); (· exact yV); (· rfl))
    | ((with_reducible apply TL.pure); (· exact yA); (· rfl))
    | refine stS ?_ | (refine stB ?_; intro _) | (refine stC ?_; refine And.intro (fun _ => ?_) (fun _ => ?_)))
    refine TQ.grp_nil ?_
    refine TQ.endR1 (L' := (grp [] :: L)) Tryz.results39 rvA rfl (.refl _) ?_ selA
    exact ⟨_, [], rfl, rfl, rfl, by rw [TrJ]; exact ⟨rfl, rfl⟩⟩
  | N + 1, .list xs, hN, v, g, L, hV, hS => by
    have IH := copied_does N
    rw [jsz] at hN
    rw [IsJ] at hV
    obtain ⟨sl, flat, rfl, hSl, hJs⟩ := hV
    obtain ⟨ao, cap, rfl⟩ := hSl.slice
    rw [smJ] at hS
    obtain ⟨hl, hS⟩ := hS
    refine Does.of1 Tryz.func39 rfl Tryz.ntmps39 rfl ?_
    repeat' (first
    | ((with_reducible apply TL.pure); (· exact yV); (· rfl)) | ((with_reducible apply TW.pure); (· exact yV); (· rfl))
    | ((with_reducible apply TL.make_room); (· rfl); (· rfl); (· rfl); (· omega); (· unfold maxLen; omega); (· rfl); intro _)
    | ((with_reducible apply TL.pure); (· exact yA); (· rfl))
    | refine stS ?_ | (refine stB ?_; intro _) | (refine stC ?_; refine And.intro (fun _ => ?_) (fun _ => ?_)))
    rename_i b0
    refine TC.grp_nil ?_
    refine TC.loopL (α := Nat × Value × List Value × List Ent) (fun x => x.1 ≤ xs.length ∧ x.2.2.1.length = x.1 ∧ TrJs (xs.take x.1) x.2.2.1 x.2.2.2) (fun x => xs.length - x.1) (fun x _ => [(20, .int .i64 (x.1 : Nat)), (19, .int .i64 (xs.length : Nat)), (18, .slice ao xs.length cap), (4, x.2.1)]) (fun x => grp x.2.2.2 :: .row 20 1 x.2.1 x.1 x.2.2.1 :: L) (0, .slice (some ⟨b0, 0, none⟩) 0 xs.length, [], []) ⟨Nat.zero_le _, rfl, by rw [List.take_zero, TrJs]; exact ⟨rfl, rfl⟩⟩ subA selA ?_
    rintro ⟨i, ov, fl, M⟩ ⟨hi, hfl, hT⟩
    dsimp only at hi hfl hT ⊢
    by_cases hlt : i < xs.length
    · obtain ⟨x, hx⟩ : ∃ x, xs[i]? = some x := ⟨_, List.getElem?_eq_getElem hlt⟩
      obtain ⟨v, hv, hJ⟩ := hJs.get hx
      obtain ⟨b1, o1, rfl, hg⟩ := hSl.elem hlt (by decide)
      have hld : g.cell b1 (o1 + i * 1) = some v := hg 0 v (by rw [Nat.mul_one]; exact hv)
      have hsz := jsz_get hx
      have A := fun L => IH x (by omega) v g L hJ (smJs_get hS hx)
      unfold CopyR at A
      have hlast : xs.take (i + 1) = xs.take i ++ [x] := by rw [List.take_add_one, hx]; rfl
      clear hJs hSl hg hS hv hJ IH
      repeat' (first
    | ((with_reducible apply TL.pure); (· exact yV); (· rfl)) | ((with_reducible apply TW.pure); (· exact yV); (· rfl))
    | (refine TL.call (Enters.plain (by kernel_rfl) (by rfl)) (by rfl) (A _) ?_; (rintro e g1 Ln hg1 ⟨vj, Mj, k1, k2, k3, htj⟩; have k2 := k2.symm; subst k1; subst k2; subst k3; have ho := TrJ.one htj; refine CallK.ret ?_))
    | ((with_reducible apply TL.build_slice); (· rfl); (· rfl); (· exact oneA); (· rfl); (· rfl); (· rfl); intro _) | refine TL.build_one (by rfl) (by first | rfl | assumption) (by rfl) (by rfl) (by rfl) (by rfl) (fun _ => ?_) | refine TL.build_empty (by rfl) (fun _ => ?_)
    | ((with_reducible apply TL.append); (· rfl); (· rfl); (· rfl); (· rfl); (· exact pkA); (· first | exact Src.obj pkA | exact Src.sl (by assumption) | exact Src.row pkA); (· first | rfl | exact (byteVals_length _).trans (Nat.mul_one _).symm); (· first | exact byteVals_all _ | exact oneA); (· exact ⟨by unfold maxLen; omega, by omega⟩); (· rfl); intro _)
    | ((with_reducible apply TL.pure); (· exact yA); (· rfl))
    | refine stS ?_ | (refine stB ?_; intro _) | (refine stC ?_; refine And.intro (fun _ => ?_) (fun _ => ?_)))
      rename_i b2 v'
      refine TQ.join (M1 := Mj) (M2 := M) pkA pkA ?_
      refine TQ.round (i + 1, v', fl ++ [vj], M ++ Mj) ?_ ?_ rfl subA selA
      · refine ⟨by dsimp only; omega, by simp [hfl], ?_⟩
        show TrJs (xs.take (i + 1)) (fl ++ [vj]) (M ++ Mj)
        rw [hlast]
        exact hT.snoc htj
      · show xs.length - (i + 1) < xs.length - i
        omega
    · obtain rfl : i = xs.length := by omega
      rw [List.take_length] at hT
      clear hJs hSl hS IH
      refine TC.row_slice (v := ov) pkA ?_
      rintro a2 c2 rfl _
      repeat' (first
    | ((with_reducible apply TL.pure); (· exact yV); (· rfl)) | ((with_reducible apply TW.pure); (· exact yV); (· rfl))
    | ((with_reducible apply TL.pure); (· exact yA); (· rfl))
    | refine stS ?_ | (refine stB ?_; intro _) | (refine stC ?_; refine And.intro (fun _ => ?_) (fun _ => ?_)))
      refine TQ.gcons (e := .row 20 1 (.slice a2 xs.length c2) xs.length fl) (M := M) pkA pkA ?_
      refine TQ.endR1 (L' := (grp (.row 20 1 (.slice a2 xs.length c2) xs.length fl :: M) :: L)) Tryz.results39 rvA rfl (.refl _) ?_ selA
      exact ⟨_, _, rfl, rfl, rfl, by rw [TrJ]; exact ⟨a2, c2, fl, M, rfl, rfl, hT⟩⟩
  | N + 1, .obj ns xs, hN, v, g, L, hV, hS => by
    have IH := copied_does N
    rw [jsz] at hN
    rw [IsJ] at hV
    obtain ⟨sl, flat, rfl, hSl, hMs⟩ := hV
    obtain ⟨ao, cap, rfl⟩ := hSl.slice
    rw [smJ] at hS
    obtain ⟨hl, hnl, hS⟩ := hS
    have hnx := hMs.len
    refine Does.of1 Tryz.func39 rfl Tryz.ntmps39 rfl ?_
    repeat' (first
    | ((with_reducible apply TL.pure); (· exact yV); (· rfl)) | ((with_reducible apply TW.pure); (· exact yV); (· rfl))
    | ((with_reducible apply TL.make_room); (· rfl); (· rfl); (· rfl); (· omega); (· unfold maxLen; omega); (· rfl); intro _)
    | ((with_reducible apply TL.pure); (· exact yA); (· rfl))
    | refine stS ?_ | (refine stB ?_; intro _) | (refine stC ?_; refine And.intro (fun _ => ?_) (fun _ => ?_)))
    rename_i b0
    refine TC.grp_nil ?_
    refine TC.loopL (α := Nat × Value × List Value × List Ent) (fun x => x.1 ≤ xs.length ∧ x.2.2.1.length = x.1 * 2 ∧ TrMs (ns.take x.1) (xs.take x.1) x.2.2.1 x.2.2.2) (fun x => xs.length - x.1) (fun x _ => [(40, .int .i64 (x.1 : Nat)), (39, .int .i64 (xs.length : Nat)), (38, .slice ao xs.length cap), (8, x.2.1)]) (fun x => grp x.2.2.2 :: .row 70 2 x.2.1 x.1 x.2.2.1 :: L) (0, .slice (some ⟨b0, 0, none⟩) 0 xs.length, [], []) ⟨Nat.zero_le _, rfl, by rw [List.take_zero, List.take_zero, TrMs]; exact ⟨rfl, rfl⟩⟩ subA selA ?_
    rintro ⟨i, ov, fl, M⟩ ⟨hi, hfl, hT⟩
    dsimp only at hi hfl hT ⊢
    by_cases hlt : i < xs.length
    · obtain ⟨x, hx⟩ : ∃ x, xs[i]? = some x := ⟨_, List.getElem?_eq_getElem hlt⟩
      obtain ⟨nm, v, hnm, hv0, hv1, hJ⟩ := hMs.get hx
      obtain ⟨b1, o1, rfl, hg⟩ := hSl.elem hlt (by decide)
      have hld : ∀ j u, [str nm, v][j]? = some u → g.cell b1 (o1 + i * 2 + j) = some u := fun j u hu => by
        match j, hu with
        | 0, hu => simp at hu; subst hu; exact hg 0 _ hv0
        | 1, hu => simp at hu; subst hu; exact hg 1 _ hv1
        | j + 2, hu => simp at hu
      have hll : [str nm, v].length = 2 := rfl
      have hone := hJ.one
      have hsz := jsz_get hx
      have A := fun L => IH x (by omega) v g L hJ (smJs_get hS hx)
      unfold CopyR at A
      have hlast : xs.take (i + 1) = xs.take i ++ [x] := by rw [List.take_add_one, hx]; rfl
      have hlast2 : ns.take (i + 1) = ns.take i ++ [nm] := by rw [List.take_add_one, hnm]; rfl
      clear hMs hSl hg hS hv0 hv1 hJ IH hnl
      repeat' (first
    | ((with_reducible apply TL.pure); (· exact yV); (· rfl)) | ((with_reducible apply TW.pure); (· exact yV); (· rfl))
    | ((with_reducible apply TL.pure); (· exact yA); (· rfl))
    | refine stS ?_ | (refine stB ?_; intro _) | (refine stC ?_; refine And.intro (fun _ => ?_) (fun _ => ?_)))
      rename_i b2
      repeat' (first
    | ((with_reducible apply TL.pure); (· exact yV); (· rfl)) | ((with_reducible apply TW.pure); (· exact yV); (· rfl))
    | ((with_reducible apply TA.take 0); (· decide +kernel); (· rfl); (· (first | exact yA | exact yB | exact yM | exact yV)); (· decide +kernel); (· decide +kernel); (· rfl); (· exact fun _ _ _ h => h); (· rfl))
    | ((with_reducible apply TA.take 1); (· decide +kernel); (· rfl); (· (first | exact yA | exact yB | exact yM | exact yV)); (· decide +kernel); (· decide +kernel); (· rfl); (· exact fun _ _ _ h => h); (· rfl))
    | ((with_reducible apply TA.take 2); (· decide +kernel); (· rfl); (· (first | exact yA | exact yB | exact yM | exact yV)); (· decide +kernel); (· decide +kernel); (· rfl); (· exact fun _ _ _ h => h); (· rfl))
    | ((with_reducible apply TA.take 3); (· decide +kernel); (· rfl); (· (first | exact yA | exact yB | exact yM | exact yV)); (· decide +kernel); (· decide +kernel); (· rfl); (· exact fun _ _ _ h => h); (· rfl))
    | ((with_reducible apply TA.take 4); (· decide +kernel); (· rfl); (· (first | exact yA | exact yB | exact yM | exact yV)); (· decide +kernel); (· decide +kernel); (· rfl); (· exact fun _ _ _ h => h); (· rfl))
    | ((with_reducible apply TA.take 5); (· decide +kernel); (· rfl); (· (first | exact yA | exact yB | exact yM | exact yV)); (· decide +kernel); (· decide +kernel); (· rfl); (· exact fun _ _ _ h => h); (· rfl))
    | ((with_reducible apply TA.take 6); (· decide +kernel); (· rfl); (· (first | exact yA | exact yB | exact yM | exact yV)); (· decide +kernel); (· decide +kernel); (· rfl); (· exact fun _ _ _ h => h); (· rfl))
    | ((with_reducible apply TA.take 7); (· decide +kernel); (· rfl); (· (first | exact yA | exact yB | exact yM | exact yV)); (· decide +kernel); (· decide +kernel); (· rfl); (· exact fun _ _ _ h => h); (· rfl))
    | ((with_reducible apply TA.take 8); (· decide +kernel); (· rfl); (· (first | exact yA | exact yB | exact yM | exact yV)); (· decide +kernel); (· decide +kernel); (· rfl); (· exact fun _ _ _ h => h); (· rfl))
    | ((with_reducible apply TA.take 9); (· decide +kernel); (· rfl); (· (first | exact yA | exact yB | exact yM | exact yV)); (· decide +kernel); (· decide +kernel); (· rfl); (· exact fun _ _ _ h => h); (· rfl))
    | ((with_reducible apply TA.one 0); (· rfl); (· decide +kernel); (· rfl))
    | ((with_reducible apply TA.one 1); (· rfl); (· decide +kernel); (· rfl))
    | ((with_reducible apply TA.one 2); (· rfl); (· decide +kernel); (· rfl))
    | ((with_reducible apply TA.one 3); (· rfl); (· decide +kernel); (· rfl))
    | ((with_reducible apply TA.one 4); (· rfl); (· decide +kernel); (· rfl))
    | ((with_reducible apply TA.one 5); (· rfl); (· decide +kernel); (· rfl))
    | ((with_reducible apply TA.one 6); (· rfl); (· decide +kernel); (· rfl))
    | ((with_reducible apply TA.one 7); (· rfl); (· decide +kernel); (· rfl))
    | ((with_reducible apply TA.one 8); (· rfl); (· decide +kernel); (· rfl))
    | ((with_reducible apply TA.one 9); (· rfl); (· decide +kernel); (· rfl))
    | refine TQ.any leA selA ?_
    | refine TC.region_any 10 (.obj b2 (.cells [str nm, v].toArray 70 (0, 0)) :: L) (by kernel_rfl) rfl selA ?_ | refine TA.done (by decide +kernel) ?_ | refine TQ.any_panic ?_
    | (refine TL.call (Enters.plain (by kernel_rfl) (by rfl)) (by rfl) (A _) ?_; (rintro e g1 Ln hg1 ⟨vj, Mj, k1, k2, k3, htj⟩; have k2 := k2.symm; subst k1; subst k2; subst k3; have ho := TrJ.one htj; refine CallK.ret ?_))
    | ((with_reducible apply TL.build_slice); (· rfl); (· rfl); (· exact oneA); (· rfl); (· rfl); (· rfl); intro _) | refine TL.build_one (by rfl) (by first | rfl | assumption) (by rfl) (by rfl) (by rfl) (by rfl) (fun _ => ?_) | refine TL.build_empty (by rfl) (fun _ => ?_)
    | ((with_reducible apply TL.append); (· rfl); (· rfl); (· rfl); (· rfl); (· exact pkA); (· first | exact Src.obj pkA | exact Src.sl (by assumption) | exact Src.row pkA); (· first | rfl | exact (byteVals_length _).trans (Nat.mul_one _).symm); (· first | exact byteVals_all _ | exact oneA); (· exact ⟨by unfold maxLen; omega, by omega⟩); (· rfl); intro _)
    | ((with_reducible apply TL.pure); (· exact yA); (· rfl))
    | refine TC.seq ?_ | refine TC.region ?_ | refine TL.nil ?_ | refine TQ.then_normal ?_
    | ((with_reducible apply TL.storeE); (· rfl); (· rfl); (· rfl); (· exact pkA); (· infer_instance)) | ((with_reducible apply TL.store_whole); (· rfl); (· rfl); (· exact oneA); (· rfl); (· exact pkA); (· rfl))
    | refine TC.block ?_ | refine TC.ret ?_ | refine TC.skip ?_ | refine TC.exit ?_ | refine TC.cond rfl ?_
    | refine TQ.down ?_ | refine TQ.in_exit' rfl ?_
    | refine TL.guard_yes rfl rfl ?_ | refine TL.guard_no rfl rfl rfl rfl ?_ | refine TL.guard_no0 rfl rfl rfl ?_ | refine TL.guard_undef rfl rfl rfl ?_ | refine TL.guard_undef0 rfl rfl ?_ | refine TL.guard rfl rfl rfl ?_
    | refine Br.t rfl ?_ | refine Br.f rfl ?_ | refine Br.ky kpA ?_ | refine Br.kn kpA ?_ | refine Br.nky kpA ?_ | refine Br.nkn kpA ?_
    | refine Br.eq0 (fun _ => ?_) (fun _ => ?_) | refine Br.neq0 (fun _ => ?_) (fun _ => ?_) | refine Br.eq (fun _ => ?_) (fun _ => ?_) | refine Br.neq (fun _ => ?_) (fun _ => ?_) | refine Br.not (fun _ => ?_) (fun _ => ?_) | refine Br.dec (fun _ => ?_) (fun _ => ?_) | refine Br.bool (fun _ => ?_) (fun _ => ?_)
    | ((with_reducible apply TL.alloc_ag); (· rfl); intro _) | ((with_reducible apply TL.alloc_sc); (· rfl); (· rfl); intro _) | ((with_reducible apply TL.box_ag); (· rfl); (· rfl); intro _) | ((with_reducible apply TL.box_sc); (· rfl); (· rfl); (· rfl); intro _))
      rename_i b3 v'
      refine TQ.join (M1 := Mj) (M2 := M) pkA pkA ?_
      refine TQ.round (i + 1, v', fl ++ [str nm, vj], M ++ Mj) ?_ ?_ rfl subA selA
      · refine ⟨by dsimp only; omega, by simp [hfl]; omega, ?_⟩
        show TrMs (ns.take (i + 1)) (xs.take (i + 1)) (fl ++ [str nm, vj]) (M ++ Mj)
        rw [hlast, hlast2]
        exact hT.snoc htj
      · show xs.length - (i + 1) < xs.length - i
        omega
    · obtain rfl : i = xs.length := by omega
      rw [List.take_length, List.take_of_length_le (by omega)] at hT
      clear hMs hSl hS IH hnl
      refine TC.row_slice (v := ov) pkA ?_
      rintro a2 c2 rfl _
      repeat' (first
    | ((with_reducible apply TL.pure); (· exact yV); (· rfl)) | ((with_reducible apply TW.pure); (· exact yV); (· rfl))
    | ((with_reducible apply TL.pure); (· exact yA); (· rfl))
    | refine stS ?_ | (refine stB ?_; intro _) | (refine stC ?_; refine And.intro (fun _ => ?_) (fun _ => ?_)))
      refine TQ.gcons (e := .row 70 2 (.slice a2 xs.length c2) xs.length fl) (M := M) pkA pkA ?_
      refine TQ.endR1 (L' := (grp (.row 70 2 (.slice a2 xs.length c2) xs.length fl :: M) :: L)) Tryz.results39 rvA rfl (.refl _) ?_ selA
      exact ⟨_, _, rfl, rfl, rfl, by rw [TrJ]; exact ⟨a2, c2, fl, M, rfl, rfl, hT⟩⟩
theorem jCopy_does (x : J) (v : Value) (g : Gh) (L : List Ent) (hV : IsJ g x v) (hS : smJ x) (h0 : lookJ x 0 = 0) (hT : GTabs g) (hU : GU8 g) : Does Tryz.prog 21 #[v] g L (CopyR x g L) := by
  refine Does.of1 Tryz.func21 rfl Tryz.ntmps21 rfl ?_
  have M := fun L => may_gives x v g L hV hS hT hU
  rw [h0] at M
  have C := fun L => copied_does _ x (Nat.le_refl _) v g L hV hS
  unfold CopyR at C
  have ho := hV.one
  clear hV
  repeat' (first
    | ((with_reducible apply TL.pure); (· exact yV); (· rfl)) | ((with_reducible apply TW.pure); (· exact yV); (· rfl))
    | ((with_reducible apply TL.gives_plain); (· kernel_rfl); (· rfl); (· exact M _); (· rfl)) | ((with_reducible apply TW.gives_plain); (· kernel_rfl); (· rfl); (· exact M _); (· rfl))
    | (refine TL.call (Enters.plain (by kernel_rfl) (by rfl)) (by rfl) (C _) ?_; (rintro e g1 Ln hg1 ⟨vj, Mj, k1, k2, k3, htj⟩; have k2 := k2.symm; subst k1; subst k2; subst k3; have ho := TrJ.one htj; refine CallK.ret ?_))
    | ((with_reducible apply TL.pure); (· exact yA); (· rfl))
    | refine stS ?_ | (refine stB ?_; intro _) | (refine stC ?_; refine And.intro (fun _ => ?_) (fun _ => ?_)))
  refine TQ.endR1 (L' := (grp Mj :: L)) Tryz.results21 rvA rfl (.refl _) ?_ selA
  exact ⟨_, Mj, rfl, rfl, rfl, htj⟩
end Go.Proofs.YtfmadoeadmclbaaGreatDoor
