/-
  The walk of the document's Depth.
-/
import Derived.Test.YtacogbfgegcliaaGreatDoorHp35
namespace Go.Proofs.YtacogbfgegcliaaGreatDoor
open Go.RowKit Go.TL
set_option maxRecDepth 100000

theorem depDs_get : ∀ {l : List DV} {i : Nat} {x : DV}, l[i]? = some x → depD x ≤ depDs l
  | [], _, _, h => by simp at h
  | y :: r, 0, x, h => by
    obtain rfl : y = x := by simpa using h
    rw [depDs]; omega
  | y :: r, i + 1, x, h => by
    have := depDs_get (l := r) (i := i) (x := x) (by simpa using h)
    rw [depDs]; omega
theorem depDs_at {l : List DV} {i : Nat} {x : DV} (h : l[i]? = some x) : depDs (l.drop i) = max (depD x) (depDs (l.drop (i + 1))) := by
  rw [drop_of_get h, depDs]
theorem depDs_set : ∀ (l : List DV) (i : Nat) (x : DV), depDs (l.set i x) ≤ max (depDs l) (depD x)
  | [], _, _ => by rw [List.set_nil]; exact Nat.le_max_left ..
  | y :: r, 0, x => by rw [List.set_cons_zero, depDs, depDs]; omega
  | y :: r, i + 1, x => by
    have := depDs_set r i x
    rw [List.set_cons_succ, depDs, depDs]; omega
theorem depDs_snoc : ∀ (l : List DV) (x : DV), depDs (l ++ [x]) ≤ max (depDs l) (depD x)
  | [], x => by
    have h0 : depDs [] = 0 := by rw [depDs]
    have h1 : depDs [x] = max (depD x) 0 := by rw [depDs, h0]
    rw [List.nil_append]; omega
  | y :: r, x => by
    have := depDs_snoc r x
    rw [List.cons_append, depDs, depDs]; omega
theorem dep_put : ∀ (l : List (List UInt8)) (x y z : DV), putD l x y = some z → depD z ≤ max (depD x) (depD y + l.length + 1)
  | [], x, y, z, h => by
    rw [putD] at h
    obtain rfl := Option.some.inj h
    omega
  | s :: r, .mk k b n t items names, y, z, h => by
    rw [putD] at h
    split at h
    · rename_i hk
      have hk4 : ¬ k < 4 := by omega
      split at h
      · split at h
        · rename_i i _ _ z0 hz0
          obtain ⟨w, hw, rfl⟩ := Option.map_eq_some_iff.1 h
          have h1 := dep_put r z0 y w hw
          have h2 := depDs_set items i w
          have h3 := depDs_get hz0
          rw [depD, depD, if_neg hk4, if_neg hk4, List.length_cons]; omega
        · cases h
      · split at h
        · cases h
        · obtain ⟨w, hw, rfl⟩ := Option.map_eq_some_iff.1 h
          have h1 := dep_put r noneD y w hw
          have h2 := depDs_snoc items w
          have h3 : depD noneD = 1 := rfl
          rw [depD, depD, if_neg hk4, if_neg hk4, List.length_cons]; omega
    · cases h
set_option maxHeartbeats 16000000 in
theorem rDepth_gives : ∀ (N : Nat) (x : DV), dsz x ≤ N → ∀ (cs : List Value) (g : Gh) (L : List Ent), IsV g x cs → depD x ≤ 1000 → Gives Tryz.prog 31 #[.agg cs.toArray] g L (.int .i64 (depD x : Nat))
  | 0, .mk .., h, _, _, _, _, _ => by rw [dsz] at h; omega
  | N + 1, .mk k b n s items names, hN, cs, g, L, hV, hD => by
    have IH := rDepth_gives N
    rw [dsz] at hN
    refine .of (Does.of1 Tryz.func31 rfl Tryz.ntmps31 rfl ?_)
    rw [IsV] at hV
    obtain ⟨vi, vn, flat, rfl, _, _, _, hS, hil, hI, hSn, _, _⟩ := hV
    obtain ⟨ai, ci, rfl⟩ := hS.slice
    obtain ⟨an, cn, rfl⟩ := hSn.slice
    rw [depD] at hD ⊢
    by_cases hk : k < 4
    · rw [if_pos hk]
      clear hS hI hSn IH hil
      repeat' (first
    | ((with_reducible apply TL.pure); (· exact yV); (· rfl)) | ((with_reducible apply TW.pure); (· exact yV); (· rfl))
    | ((with_reducible apply TL.pure); (· exact yA); (· rfl))
    | refine TC.seq ?_ | refine TC.region ?_ | refine TL.nil ?_ | refine TQ.then_normal ?_
    | ((with_reducible apply TL.storeE); (· rfl); (· rfl); (· rfl); (· exact pkA); (· infer_instance)) | ((with_reducible apply TL.store_whole); (· rfl); (· rfl); (· exact oneA); (· rfl); (· exact pkA); (· rfl))
    | refine TC.block ?_ | refine TC.ret ?_ | refine TC.skip ?_ | refine TC.exit ?_ | refine TC.cond rfl ?_
    | refine TQ.down ?_ | refine TQ.in_exit' rfl ?_
    | refine TL.guard_yes rfl rfl ?_ | refine TL.guard_no rfl rfl rfl rfl ?_ | refine TL.guard_no0 rfl rfl rfl ?_ | refine TL.guard_undef rfl rfl rfl ?_ | refine TL.guard_undef0 rfl rfl ?_ | refine TL.guard rfl rfl rfl ?_
    | refine Br.t rfl ?_ | refine Br.f rfl ?_ | refine Br.ky kpA ?_ | refine Br.kn kpA ?_ | refine Br.nky kpA ?_ | refine Br.nkn kpA ?_
    | refine Br.eq0 (fun _ => ?_) (fun _ => ?_) | refine Br.neq0 (fun _ => ?_) (fun _ => ?_) | refine Br.eq (fun _ => ?_) (fun _ => ?_) | refine Br.neq (fun _ => ?_) (fun _ => ?_) | refine Br.not (fun _ => ?_) (fun _ => ?_) | refine Br.dec (fun _ => ?_) (fun _ => ?_) | refine Br.bool (fun _ => ?_) (fun _ => ?_)
    | ((with_reducible apply TL.alloc_ag); (· rfl); intro _) | ((with_reducible apply TL.alloc_sc); (· rfl); (· rfl); intro _) | ((with_reducible apply TL.box_ag); (· rfl); (· rfl); intro _) | ((with_reducible apply TL.box_sc); (· rfl); (· rfl); (· rfl); intro _))
      refine TQ.endR1 (L' := L) Tryz.results31 rvA rfl (.refl _) ?_ selA
      exact ⟨rfl, rfl, rfl⟩
    · rw [if_neg hk] at hD ⊢
      obtain ⟨D, hD2⟩ : ∃ D, D = depDs items := ⟨_, rfl⟩
      rw [← hD2] at hD ⊢
      clear hSn
      repeat' (first
    | ((with_reducible apply TL.pure); (· exact yV); (· rfl)) | ((with_reducible apply TW.pure); (· exact yV); (· rfl))
    | ((with_reducible apply TL.pure); (· exact yA); (· rfl))
    | refine TC.seq ?_ | refine TC.region ?_ | refine TL.nil ?_ | refine TQ.then_normal ?_
    | ((with_reducible apply TL.storeE); (· rfl); (· rfl); (· rfl); (· exact pkA); (· infer_instance)) | ((with_reducible apply TL.store_whole); (· rfl); (· rfl); (· exact oneA); (· rfl); (· exact pkA); (· rfl))
    | refine TC.block ?_ | refine TC.ret ?_ | refine TC.skip ?_ | refine TC.exit ?_ | refine TC.cond rfl ?_
    | refine TQ.down ?_ | refine TQ.in_exit' rfl ?_
    | refine TL.guard_yes rfl rfl ?_ | refine TL.guard_no rfl rfl rfl rfl ?_ | refine TL.guard_no0 rfl rfl rfl ?_ | refine TL.guard_undef rfl rfl rfl ?_ | refine TL.guard_undef0 rfl rfl ?_ | refine TL.guard rfl rfl rfl ?_
    | refine Br.t rfl ?_ | refine Br.f rfl ?_ | refine Br.ky kpA ?_ | refine Br.kn kpA ?_ | refine Br.nky kpA ?_ | refine Br.nkn kpA ?_
    | refine Br.eq0 (fun _ => ?_) (fun _ => ?_) | refine Br.neq0 (fun _ => ?_) (fun _ => ?_) | refine Br.eq (fun _ => ?_) (fun _ => ?_) | refine Br.neq (fun _ => ?_) (fun _ => ?_) | refine Br.not (fun _ => ?_) (fun _ => ?_) | refine Br.dec (fun _ => ?_) (fun _ => ?_) | refine Br.bool (fun _ => ?_) (fun _ => ?_)
    | ((with_reducible apply TL.alloc_ag); (· rfl); intro _) | ((with_reducible apply TL.alloc_sc); (· rfl); (· rfl); intro _) | ((with_reducible apply TL.box_ag); (· rfl); (· rfl); intro _) | ((with_reducible apply TL.box_sc); (· rfl); (· rfl); (· rfl); intro _))
      rename_i b1
      refine TC.loopL (fun z : Nat × Nat => z.1 ≤ items.length ∧ max z.2 (depDs (items.drop z.1)) = D) (fun z => items.length - z.1) (fun z _ => [(4, .int .i64 (z.1 : Nat)), (3, .int .i64 (z.2 : Nat)), (1, .pointer (some ⟨b1, 0, none⟩))]) (fun _ => .obj b1 (.cells [.int .i64 k, .bool b, .int .i64 n, str s, .slice ai items.length ci, .slice an names.length cn].toArray 29 (0, 0)) :: L) (0, 0) ⟨Nat.zero_le _, by rw [hD2]; simp⟩ subA selA ?_
      rintro ⟨i, m⟩ ⟨hi, hm⟩
      dsimp only at hi hm ⊢
      by_cases hlt : i < items.length
      · obtain ⟨y, hy⟩ : ∃ y, items[i]? = some y := ⟨_, List.getElem?_eq_getElem hlt⟩
        obtain ⟨cs', hV', hcl, hfl⟩ := hI.get hy
        obtain ⟨b3, o3, rfl, hg3⟩ := hS.elem hlt (by decide)
        have hsz := dsz_get hy
        have hdy := depDs_get hy
        rw [depDs_at hy] at hm
        have A := fun L => IH y (by omega) cs' g L hV' (by omega)
        have hld3 : ∀ j2 u, cs'[j2]? = some u → g.cell b3 (o3 + i * 6 + j2) = some u := fun j2 u hu => hg3 j2 u (hfl j2 u hu)
        clear IH hI hS hg3 hfl hV' hD2
        by_cases hgt : m < depD y
        · have HG : Hn (((m : Nat) : Int) < (depD y : Nat)) := ⟨by omega⟩
          have HM : Hn (max (depD y) (depDs (items.drop (i + 1))) = D) := ⟨by omega⟩
          clear hm
          generalize depD y = e at *
          repeat' (first
    | ((with_reducible apply TL.pure); (· exact yV); (· rfl)) | ((with_reducible apply TW.pure); (· exact yV); (· rfl))
    | ((with_reducible apply TL.pure); (· exact yM); (· rfl)) | ((with_reducible apply TW.pure); (· exact yM); (· rfl))
    | ((with_reducible apply TL.gives_plain); (· kernel_rfl); (· rfl); (· exact A _); (· rfl)) | ((with_reducible apply TW.gives_plain); (· kernel_rfl); (· rfl); (· exact A _); (· rfl))
    | ((with_reducible apply TL.pure); (· exact yA); (· rfl))
    | refine TC.seq ?_ | refine TC.region ?_ | refine TL.nil ?_ | refine TQ.then_normal ?_
    | ((with_reducible apply TL.storeE); (· rfl); (· rfl); (· rfl); (· exact pkA); (· infer_instance)) | ((with_reducible apply TL.store_whole); (· rfl); (· rfl); (· exact oneA); (· rfl); (· exact pkA); (· rfl))
    | refine TC.block ?_ | refine TC.ret ?_ | refine TC.skip ?_ | refine TC.exit ?_ | refine TC.cond rfl ?_
    | refine TQ.down ?_ | refine TQ.in_exit' rfl ?_
    | refine TL.guard_yes rfl rfl ?_ | refine TL.guard_no rfl rfl rfl rfl ?_ | refine TL.guard_no0 rfl rfl rfl ?_ | refine TL.guard_undef rfl rfl rfl ?_ | refine TL.guard_undef0 rfl rfl ?_ | refine TL.guard rfl rfl rfl ?_
    | refine Br.t rfl ?_ | refine Br.f rfl ?_ | refine Br.ky kpA ?_ | refine Br.kn kpA ?_ | refine Br.nky kpA ?_ | refine Br.nkn kpA ?_
    | refine Br.eq0 (fun _ => ?_) (fun _ => ?_) | refine Br.neq0 (fun _ => ?_) (fun _ => ?_) | refine Br.eq (fun _ => ?_) (fun _ => ?_) | refine Br.neq (fun _ => ?_) (fun _ => ?_) | refine Br.not (fun _ => ?_) (fun _ => ?_) | refine Br.dec (fun _ => ?_) (fun _ => ?_) | refine Br.bool (fun _ => ?_) (fun _ => ?_)
    | ((with_reducible apply TL.alloc_ag); (· rfl); intro _) | ((with_reducible apply TL.alloc_sc); (· rfl); (· rfl); intro _) | ((with_reducible apply TL.box_ag); (· rfl); (· rfl); intro _) | ((with_reducible apply TL.box_sc); (· rfl); (· rfl); (· rfl); intro _))
          refine TQ.round (i + 1, e) ?_ ?_ rfl subA selA
          · exact ⟨by dsimp only; omega, HM.out⟩
          · show items.length - (i + 1) < items.length - i
            omega
        · have HG : Hn (¬ ((m : Nat) : Int) < (depD y : Nat)) := ⟨by omega⟩
          have HM : Hn (max m (depDs (items.drop (i + 1))) = D) := ⟨by omega⟩
          clear hm
          generalize depD y = e at *
          repeat' (first
    | ((with_reducible apply TL.pure); (· exact yV); (· rfl)) | ((with_reducible apply TW.pure); (· exact yV); (· rfl))
    | ((with_reducible apply TL.pure); (· exact yM); (· rfl)) | ((with_reducible apply TW.pure); (· exact yM); (· rfl))
    | ((with_reducible apply TL.gives_plain); (· kernel_rfl); (· rfl); (· exact A _); (· rfl)) | ((with_reducible apply TW.gives_plain); (· kernel_rfl); (· rfl); (· exact A _); (· rfl))
    | ((with_reducible apply TL.pure); (· exact yA); (· rfl))
    | refine TC.seq ?_ | refine TC.region ?_ | refine TL.nil ?_ | refine TQ.then_normal ?_
    | ((with_reducible apply TL.storeE); (· rfl); (· rfl); (· rfl); (· exact pkA); (· infer_instance)) | ((with_reducible apply TL.store_whole); (· rfl); (· rfl); (· exact oneA); (· rfl); (· exact pkA); (· rfl))
    | refine TC.block ?_ | refine TC.ret ?_ | refine TC.skip ?_ | refine TC.exit ?_ | refine TC.cond rfl ?_
    | refine TQ.down ?_ | refine TQ.in_exit' rfl ?_
    | refine TL.guard_yes rfl rfl ?_ | refine TL.guard_no rfl rfl rfl rfl ?_ | refine TL.guard_no0 rfl rfl rfl ?_ | refine TL.guard_undef rfl rfl rfl ?_ | refine TL.guard_undef0 rfl rfl ?_ | refine TL.guard rfl rfl rfl ?_
    | refine Br.t rfl ?_ | refine Br.f rfl ?_ | refine Br.ky kpA ?_ | refine Br.kn kpA ?_ | refine Br.nky kpA ?_ | refine Br.nkn kpA ?_
    | refine Br.eq0 (fun _ => ?_) (fun _ => ?_) | refine Br.neq0 (fun _ => ?_) (fun _ => ?_) | refine Br.eq (fun _ => ?_) (fun _ => ?_) | refine Br.neq (fun _ => ?_) (fun _ => ?_) | refine Br.not (fun _ => ?_) (fun _ => ?_) | refine Br.dec (fun _ => ?_) (fun _ => ?_) | refine Br.bool (fun _ => ?_) (fun _ => ?_)
    | ((with_reducible apply TL.alloc_ag); (· rfl); intro _) | ((with_reducible apply TL.alloc_sc); (· rfl); (· rfl); intro _) | ((with_reducible apply TL.box_ag); (· rfl); (· rfl); intro _) | ((with_reducible apply TL.box_sc); (· rfl); (· rfl); (· rfl); intro _))
          refine TQ.round (i + 1, m) ?_ ?_ rfl subA selA
          · exact ⟨by dsimp only; omega, HM.out⟩
          · show items.length - (i + 1) < items.length - i
            omega
      · rw [List.drop_eq_nil_of_le (by omega), depDs] at hm
        obtain rfl : m = D := by omega
        clear hI hS IH hD2
        repeat' (first
    | ((with_reducible apply TL.pure); (· exact yV); (· rfl)) | ((with_reducible apply TW.pure); (· exact yV); (· rfl))
    | ((with_reducible apply TL.pure); (· exact yA); (· rfl))
    | refine TC.seq ?_ | refine TC.region ?_ | refine TL.nil ?_ | refine TQ.then_normal ?_
    | ((with_reducible apply TL.storeE); (· rfl); (· rfl); (· rfl); (· exact pkA); (· infer_instance)) | ((with_reducible apply TL.store_whole); (· rfl); (· rfl); (· exact oneA); (· rfl); (· exact pkA); (· rfl))
    | refine TC.block ?_ | refine TC.ret ?_ | refine TC.skip ?_ | refine TC.exit ?_ | refine TC.cond rfl ?_
    | refine TQ.down ?_ | refine TQ.in_exit' rfl ?_
    | refine TL.guard_yes rfl rfl ?_ | refine TL.guard_no rfl rfl rfl rfl ?_ | refine TL.guard_no0 rfl rfl rfl ?_ | refine TL.guard_undef rfl rfl rfl ?_ | refine TL.guard_undef0 rfl rfl ?_ | refine TL.guard rfl rfl rfl ?_
    | refine Br.t rfl ?_ | refine Br.f rfl ?_ | refine Br.ky kpA ?_ | refine Br.kn kpA ?_ | refine Br.nky kpA ?_ | refine Br.nkn kpA ?_
    | refine Br.eq0 (fun _ => ?_) (fun _ => ?_) | refine Br.neq0 (fun _ => ?_) (fun _ => ?_) | refine Br.eq (fun _ => ?_) (fun _ => ?_) | refine Br.neq (fun _ => ?_) (fun _ => ?_) | refine Br.not (fun _ => ?_) (fun _ => ?_) | refine Br.dec (fun _ => ?_) (fun _ => ?_) | refine Br.bool (fun _ => ?_) (fun _ => ?_)
    | ((with_reducible apply TL.alloc_ag); (· rfl); intro _) | ((with_reducible apply TL.alloc_sc); (· rfl); (· rfl); intro _) | ((with_reducible apply TL.box_ag); (· rfl); (· rfl); intro _) | ((with_reducible apply TL.box_sc); (· rfl); (· rfl); (· rfl); intro _))
        refine TQ.endR1 (L' := L) Tryz.results31 rvA rfl (.refl _) ?_ selA
        exact ⟨rfl, rfl, rfl⟩
end Go.Proofs.YtacogbfgegcliaaGreatDoor
