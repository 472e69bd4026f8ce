/-
  The walks of json.Field, path.next. A text gone through sign by sign, with a dot between.
-/
import Derived.Test.YtacogbfgegcliaaGreatDoorHg14
import Derived.Test.YtacogbfgegcliaaGreatDoorHg11
import Derived.Test.YtacogbfgegcliaaGreatDoorHg8
import Derived.Lib.MapLaws
namespace Go.Proofs.YtacogbfgegcliaaGreatDoor
open Go.RowKit Go.TL
set_option maxRecDepth 100000

def fieldJ (j : J) (s : List UInt8) : Option J := match j with
  | .obj ns xs => (idxN ns s).bind (xs[·]?)
  | _ => none
set_option maxHeartbeats 16000000 in
theorem field_gives (x : J) (v : Value) (g : Gh) (nm : List UInt8) (hV : IsJ g x v) (hS : smJ x) : ∃ v' b, (∀ L, Gives Tryz.prog 26 #[v, str nm] g L (.tuple #[v', .bool b])) ∧ v'.one = true ∧ (match fieldJ x nm with
    | some y => b = true ∧ IsJ g y v'
    | none => b = false ∧ v' = .nilIface) := by
  cases x with
  | obj ns xs =>
    rw [IsJ] at hV
    obtain ⟨sl, flat, rfl, hSl, hMs⟩ := hV
    obtain ⟨ao, cap, rfl⟩ := hSl.slice
    rw [smJ] at hS
    obtain ⟨hl, hnl, hS⟩ := hS
    have hnx := hMs.len
    unfold fieldJ
    dsimp only
    cases hk : idxN ns nm with
    | none =>
      have hno := idxN_none hk
      refine ⟨_, false, fun L => .of (Does.of2 Tryz.func26 rfl Tryz.ntmps26 rfl ?_), rfl, rfl, rfl⟩
      repeat' (first
    | ((with_reducible apply TL.pure); (· exact yV); (· rfl)) | ((with_reducible apply TW.pure); (· exact yV); (· rfl))
    | ((with_reducible apply TL.pure); (· exact yA); (· rfl))
    | refine TC.seq ?_ | refine TC.region ?_ | refine TL.nil ?_ | refine TQ.then_normal ?_
    | ((with_reducible apply TL.storeE); (· rfl); (· rfl); (· rfl); (· exact pkA); (· infer_instance)) | ((with_reducible apply TL.store_whole); (· rfl); (· rfl); (· exact oneA); (· rfl); (· exact pkA); (· rfl))
    | refine TC.block ?_ | refine TC.ret ?_ | refine TC.skip ?_ | refine TC.exit ?_ | refine TC.cond rfl ?_
    | refine TQ.down ?_ | refine TQ.in_exit' rfl ?_
    | refine TL.guard_yes rfl rfl ?_ | refine TL.guard_no rfl rfl rfl rfl ?_ | refine TL.guard_no0 rfl rfl rfl ?_ | refine TL.guard_undef rfl rfl rfl ?_ | refine TL.guard_undef0 rfl rfl ?_ | refine TL.guard rfl rfl rfl ?_
    | refine Br.t rfl ?_ | refine Br.f rfl ?_ | refine Br.ky kpA ?_ | refine Br.kn kpA ?_ | refine Br.nky kpA ?_ | refine Br.nkn kpA ?_
    | refine Br.eq0 (fun _ => ?_) (fun _ => ?_) | refine Br.neq0 (fun _ => ?_) (fun _ => ?_) | refine Br.eq (fun _ => ?_) (fun _ => ?_) | refine Br.neq (fun _ => ?_) (fun _ => ?_) | refine Br.not (fun _ => ?_) (fun _ => ?_) | refine Br.dec (fun _ => ?_) (fun _ => ?_) | refine Br.bool (fun _ => ?_) (fun _ => ?_)
    | ((with_reducible apply TL.alloc_ag); (· rfl); intro _) | ((with_reducible apply TL.alloc_sc); (· rfl); (· rfl); intro _) | ((with_reducible apply TL.box_ag); (· rfl); (· rfl); intro _) | ((with_reducible apply TL.box_sc); (· rfl); (· rfl); (· rfl); intro _))
      refine TC.loopK (fun i : Nat => i ≤ xs.length) (fun i => xs.length - i) (fun i _ => [(19, .int .i64 (i : Nat)), (18, .int .i64 (xs.length : Nat)), (17, .slice ao xs.length cap), (1, str nm)]) [] (by repeat (first | apply Drop.nil | apply Drop.cons (by (repeat (first | apply Pick.here | apply Pick.there))))) (fun _ L => L) 0 (Nat.zero_le _) subA selA ?_
      rintro i hi
      try dsimp only at hi ⊢
      by_cases hlt : i < xs.length
      · obtain ⟨x, hx⟩ : ∃ x, xs[i]? = some x := ⟨_, List.getElem?_eq_getElem (by omega)⟩
        obtain ⟨s, v, hns, hv0, hv1, hJ⟩ := hMs.get hx
        obtain ⟨b1, o1, rfl, hg⟩ := hSl.elem (i := i) (by omega) (by decide)
        have hld : ∀ j u, [str s, v][j]? = some u → g.cell b1 (o1 + i * 2 + j) = some u := fun j u hu => by
          match j, hu with
          | 0, hu => simp at hu; subst hu; exact hg 0 _ hv0
          | 1, hu => simp at hu; subst hu; exact hg 1 _ hv1
          | j + 2, hu => simp at hu
        have hll : [str s, v].length = 2 := rfl
        have hone := hJ.one
        have hne := hno s (List.mem_of_getElem? hns)
        clear hMs hSl hg hS hv0 hv1 hJ hno
        repeat' (first
    | ((with_reducible apply TL.pure); (· exact yV); (· rfl)) | ((with_reducible apply TW.pure); (· exact yV); (· rfl))
    | ((with_reducible apply TL.pure (d := 26) (v := .bool false)); (· exact Y.eql_is (decide_eq_false hne) rfl rfl); (· rfl)) | ((with_reducible apply TW.pure (d := 26) (v := .bool false)); (· exact Y.eql_is (decide_eq_false hne) rfl rfl); (· rfl))
    | ((with_reducible apply TL.pure); (· exact yA); (· rfl))
    | refine TC.seq ?_ | refine TC.region ?_ | refine TL.nil ?_ | refine TQ.then_normal ?_
    | ((with_reducible apply TL.storeE); (· rfl); (· rfl); (· rfl); (· exact pkA); (· infer_instance)) | ((with_reducible apply TL.store_whole); (· rfl); (· rfl); (· exact oneA); (· rfl); (· exact pkA); (· rfl))
    | refine TC.block ?_ | refine TC.ret ?_ | refine TC.skip ?_ | refine TC.exit ?_ | refine TC.cond rfl ?_
    | refine TQ.down ?_ | refine TQ.in_exit' rfl ?_
    | refine TL.guard_yes rfl rfl ?_ | refine TL.guard_no rfl rfl rfl rfl ?_ | refine TL.guard_no0 rfl rfl rfl ?_ | refine TL.guard_undef rfl rfl rfl ?_ | refine TL.guard_undef0 rfl rfl ?_ | refine TL.guard rfl rfl rfl ?_
    | refine Br.t rfl ?_ | refine Br.f rfl ?_ | refine Br.ky kpA ?_ | refine Br.kn kpA ?_ | refine Br.nky kpA ?_ | refine Br.nkn kpA ?_
    | refine Br.eq0 (fun _ => ?_) (fun _ => ?_) | refine Br.neq0 (fun _ => ?_) (fun _ => ?_) | refine Br.eq (fun _ => ?_) (fun _ => ?_) | refine Br.neq (fun _ => ?_) (fun _ => ?_) | refine Br.not (fun _ => ?_) (fun _ => ?_) | refine Br.dec (fun _ => ?_) (fun _ => ?_) | refine Br.bool (fun _ => ?_) (fun _ => ?_)
    | ((with_reducible apply TL.alloc_ag); (· rfl); intro _) | ((with_reducible apply TL.alloc_sc); (· rfl); (· rfl); intro _) | ((with_reducible apply TL.box_ag); (· rfl); (· rfl); intro _) | ((with_reducible apply TL.box_sc); (· rfl); (· rfl); (· rfl); intro _))
        refine TQ.round (i + 1) ?_ ?_ rfl subA selA
        · show i + 1 ≤ xs.length
          omega
        · show xs.length - (i + 1) < xs.length - i
          omega
      · obtain rfl : i = xs.length := by omega
        clear hMs hSl hS hno
        repeat' (first
    | ((with_reducible apply TL.pure); (· exact yA); (· rfl))
    | refine TC.seq ?_ | refine TC.region ?_ | refine TL.nil ?_ | refine TQ.then_normal ?_
    | ((with_reducible apply TL.storeE); (· rfl); (· rfl); (· rfl); (· exact pkA); (· infer_instance)) | ((with_reducible apply TL.store_whole); (· rfl); (· rfl); (· exact oneA); (· rfl); (· exact pkA); (· rfl))
    | refine TC.block ?_ | refine TC.ret ?_ | refine TC.skip ?_ | refine TC.exit ?_ | refine TC.cond rfl ?_
    | refine TQ.down ?_ | refine TQ.in_exit' rfl ?_
    | refine TL.guard_yes rfl rfl ?_ | refine TL.guard_no rfl rfl rfl rfl ?_ | refine TL.guard_no0 rfl rfl rfl ?_ | refine TL.guard_undef rfl rfl rfl ?_ | refine TL.guard_undef0 rfl rfl ?_ | refine TL.guard rfl rfl rfl ?_
    | refine Br.t rfl ?_ | refine Br.f rfl ?_ | refine Br.ky kpA ?_ | refine Br.kn kpA ?_ | refine Br.nky kpA ?_ | refine Br.nkn kpA ?_
    | refine Br.eq0 (fun _ => ?_) (fun _ => ?_) | refine Br.neq0 (fun _ => ?_) (fun _ => ?_) | refine Br.eq (fun _ => ?_) (fun _ => ?_) | refine Br.neq (fun _ => ?_) (fun _ => ?_) | refine Br.not (fun _ => ?_) (fun _ => ?_) | refine Br.dec (fun _ => ?_) (fun _ => ?_) | refine Br.bool (fun _ => ?_) (fun _ => ?_)
    | ((with_reducible apply TL.alloc_ag); (· rfl); intro _) | ((with_reducible apply TL.alloc_sc); (· rfl); (· rfl); intro _) | ((with_reducible apply TL.box_ag); (· rfl); (· rfl); intro _) | ((with_reducible apply TL.box_sc); (· rfl); (· rfl); (· rfl); intro _))
        refine TQ.endR2 (L' := L) Tryz.results26 rvA rvA rfl (.refl _) ?_ selA
        exact ⟨rfl, rfl, rfl⟩
    | some k =>
      obtain ⟨hk1, hk2⟩ := idxN_some hk
      have hkl := idxN_lt hk
      obtain ⟨y, hy⟩ : ∃ y, xs[k]? = some y := ⟨_, List.getElem?_eq_getElem (by omega)⟩
      obtain ⟨s', v', hns', _, hv', hJ'⟩ := hMs.get hy
      have hb : (some k).bind (xs[·]?) = some y := hy
      rw [hb]
      refine ⟨v', true, fun L => .of (Does.of2 Tryz.func26 rfl Tryz.ntmps26 rfl ?_), hJ'.one, rfl, hJ'⟩
      have hone' := hJ'.one
      repeat' (first
    | ((with_reducible apply TL.pure); (· exact yV); (· rfl)) | ((with_reducible apply TW.pure); (· exact yV); (· rfl))
    | ((with_reducible apply TL.pure); (· exact yA); (· rfl))
    | refine TC.seq ?_ | refine TC.region ?_ | refine TL.nil ?_ | refine TQ.then_normal ?_
    | ((with_reducible apply TL.storeE); (· rfl); (· rfl); (· rfl); (· exact pkA); (· infer_instance)) | ((with_reducible apply TL.store_whole); (· rfl); (· rfl); (· exact oneA); (· rfl); (· exact pkA); (· rfl))
    | refine TC.block ?_ | refine TC.ret ?_ | refine TC.skip ?_ | refine TC.exit ?_ | refine TC.cond rfl ?_
    | refine TQ.down ?_ | refine TQ.in_exit' rfl ?_
    | refine TL.guard_yes rfl rfl ?_ | refine TL.guard_no rfl rfl rfl rfl ?_ | refine TL.guard_no0 rfl rfl rfl ?_ | refine TL.guard_undef rfl rfl rfl ?_ | refine TL.guard_undef0 rfl rfl ?_ | refine TL.guard rfl rfl rfl ?_
    | refine Br.t rfl ?_ | refine Br.f rfl ?_ | refine Br.ky kpA ?_ | refine Br.kn kpA ?_ | refine Br.nky kpA ?_ | refine Br.nkn kpA ?_
    | refine Br.eq0 (fun _ => ?_) (fun _ => ?_) | refine Br.neq0 (fun _ => ?_) (fun _ => ?_) | refine Br.eq (fun _ => ?_) (fun _ => ?_) | refine Br.neq (fun _ => ?_) (fun _ => ?_) | refine Br.not (fun _ => ?_) (fun _ => ?_) | refine Br.dec (fun _ => ?_) (fun _ => ?_) | refine Br.bool (fun _ => ?_) (fun _ => ?_)
    | ((with_reducible apply TL.alloc_ag); (· rfl); intro _) | ((with_reducible apply TL.alloc_sc); (· rfl); (· rfl); intro _) | ((with_reducible apply TL.box_ag); (· rfl); (· rfl); intro _) | ((with_reducible apply TL.box_sc); (· rfl); (· rfl); (· rfl); intro _))
      refine TC.loopK (fun i : Nat => i ≤ k) (fun i => xs.length - i) (fun i _ => [(19, .int .i64 (i : Nat)), (18, .int .i64 (xs.length : Nat)), (17, .slice ao xs.length cap), (1, str nm)]) [] (by repeat (first | apply Drop.nil | apply Drop.cons (by (repeat (first | apply Pick.here | apply Pick.there))))) (fun _ L => L) 0 (Nat.zero_le _) subA selA ?_
      rintro i hi
      try dsimp only at hi ⊢
      by_cases hlt : i = k
      · subst hlt
        obtain rfl : s' = nm := by rw [hns'] at hk1; exact Option.some.inj hk1
        obtain ⟨b1, o1, rfl, hg⟩ := hSl.elem (i := i) (by omega) (by decide)
        have hld : ∀ j u, [str s', v'][j]? = some u → g.cell b1 (o1 + i * 2 + j) = some u := fun j u hu => by
          match j, hu with
          | 0, hu => simp at hu; subst hu; exact hg 0 _ (by assumption)
          | 1, hu => simp at hu; subst hu; exact hg 1 _ hv'
          | j + 2, hu => simp at hu
        have hll : [str s', v'].length = 2 := rfl
        have hlt : i < xs.length := by omega
        clear hMs hSl hg hS hv' hJ' hk2
        repeat' (first
    | ((with_reducible apply TL.pure); (· exact yV); (· rfl)) | ((with_reducible apply TW.pure); (· exact yV); (· rfl))
    | ((with_reducible apply TL.pure (d := 26) (v := .bool true)); (· exact Y.eql_is (decide_eq_true rfl) rfl rfl); (· rfl)) | ((with_reducible apply TW.pure (d := 26) (v := .bool true)); (· exact Y.eql_is (decide_eq_true rfl) rfl rfl); (· rfl))
    | ((with_reducible apply TL.pure); (· exact yA); (· rfl))
    | refine TC.seq ?_ | refine TC.region ?_ | refine TL.nil ?_ | refine TQ.then_normal ?_
    | ((with_reducible apply TL.storeE); (· rfl); (· rfl); (· rfl); (· exact pkA); (· infer_instance)) | ((with_reducible apply TL.store_whole); (· rfl); (· rfl); (· exact oneA); (· rfl); (· exact pkA); (· rfl))
    | refine TC.block ?_ | refine TC.ret ?_ | refine TC.skip ?_ | refine TC.exit ?_ | refine TC.cond rfl ?_
    | refine TQ.down ?_ | refine TQ.in_exit' rfl ?_
    | refine TL.guard_yes rfl rfl ?_ | refine TL.guard_no rfl rfl rfl rfl ?_ | refine TL.guard_no0 rfl rfl rfl ?_ | refine TL.guard_undef rfl rfl rfl ?_ | refine TL.guard_undef0 rfl rfl ?_ | refine TL.guard rfl rfl rfl ?_
    | refine Br.t rfl ?_ | refine Br.f rfl ?_ | refine Br.ky kpA ?_ | refine Br.kn kpA ?_ | refine Br.nky kpA ?_ | refine Br.nkn kpA ?_
    | refine Br.eq0 (fun _ => ?_) (fun _ => ?_) | refine Br.neq0 (fun _ => ?_) (fun _ => ?_) | refine Br.eq (fun _ => ?_) (fun _ => ?_) | refine Br.neq (fun _ => ?_) (fun _ => ?_) | refine Br.not (fun _ => ?_) (fun _ => ?_) | refine Br.dec (fun _ => ?_) (fun _ => ?_) | refine Br.bool (fun _ => ?_) (fun _ => ?_)
    | ((with_reducible apply TL.alloc_ag); (· rfl); intro _) | ((with_reducible apply TL.alloc_sc); (· rfl); (· rfl); intro _) | ((with_reducible apply TL.box_ag); (· rfl); (· rfl); intro _) | ((with_reducible apply TL.box_sc); (· rfl); (· rfl); (· rfl); intro _))
        refine TQ.endR2 (L' := L) Tryz.results26 rvA rvA rfl (.refl _) ?_ selA
        exact ⟨rfl, rfl, rfl⟩
      · obtain ⟨x, hx⟩ : ∃ x, xs[i]? = some x := ⟨_, List.getElem?_eq_getElem (by omega)⟩
        obtain ⟨s, v, hns, hv0, hv1, hJ⟩ := hMs.get hx
        obtain ⟨b1, o1, rfl, hg⟩ := hSl.elem (i := i) (by omega) (by decide)
        have hld : ∀ j u, [str s, v][j]? = some u → g.cell b1 (o1 + i * 2 + j) = some u := fun j u hu => by
          match j, hu with
          | 0, hu => simp at hu; subst hu; exact hg 0 _ hv0
          | 1, hu => simp at hu; subst hu; exact hg 1 _ hv1
          | j + 2, hu => simp at hu
        have hll : [str s, v].length = 2 := rfl
        have hone := hJ.one
        have hne : s ≠ nm := fun e => hk2 i (by omega) (by rw [hns, e])
        have hlt : i < xs.length := by omega
        clear hMs hSl hg hS hv0 hv1 hJ hk2 hJ'
        repeat' (first
    | ((with_reducible apply TL.pure); (· exact yV); (· rfl)) | ((with_reducible apply TW.pure); (· exact yV); (· rfl))
    | ((with_reducible apply TL.pure (d := 26) (v := .bool false)); (· exact Y.eql_is (decide_eq_false hne) rfl rfl); (· rfl)) | ((with_reducible apply TW.pure (d := 26) (v := .bool false)); (· exact Y.eql_is (decide_eq_false hne) rfl rfl); (· rfl))
    | ((with_reducible apply TL.pure); (· exact yA); (· rfl))
    | refine TC.seq ?_ | refine TC.region ?_ | refine TL.nil ?_ | refine TQ.then_normal ?_
    | ((with_reducible apply TL.storeE); (· rfl); (· rfl); (· rfl); (· exact pkA); (· infer_instance)) | ((with_reducible apply TL.store_whole); (· rfl); (· rfl); (· exact oneA); (· rfl); (· exact pkA); (· rfl))
    | refine TC.block ?_ | refine TC.ret ?_ | refine TC.skip ?_ | refine TC.exit ?_ | refine TC.cond rfl ?_
    | refine TQ.down ?_ | refine TQ.in_exit' rfl ?_
    | refine TL.guard_yes rfl rfl ?_ | refine TL.guard_no rfl rfl rfl rfl ?_ | refine TL.guard_no0 rfl rfl rfl ?_ | refine TL.guard_undef rfl rfl rfl ?_ | refine TL.guard_undef0 rfl rfl ?_ | refine TL.guard rfl rfl rfl ?_
    | refine Br.t rfl ?_ | refine Br.f rfl ?_ | refine Br.ky kpA ?_ | refine Br.kn kpA ?_ | refine Br.nky kpA ?_ | refine Br.nkn kpA ?_
    | refine Br.eq0 (fun _ => ?_) (fun _ => ?_) | refine Br.neq0 (fun _ => ?_) (fun _ => ?_) | refine Br.eq (fun _ => ?_) (fun _ => ?_) | refine Br.neq (fun _ => ?_) (fun _ => ?_) | refine Br.not (fun _ => ?_) (fun _ => ?_) | refine Br.dec (fun _ => ?_) (fun _ => ?_) | refine Br.bool (fun _ => ?_) (fun _ => ?_)
    | ((with_reducible apply TL.alloc_ag); (· rfl); intro _) | ((with_reducible apply TL.alloc_sc); (· rfl); (· rfl); intro _) | ((with_reducible apply TL.box_ag); (· rfl); (· rfl); intro _) | ((with_reducible apply TL.box_sc); (· rfl); (· rfl); (· rfl); intro _))
        refine TQ.round (i + 1) ?_ ?_ rfl subA selA
        · show i + 1 ≤ k
          omega
        · show xs.length - (i + 1) < xs.length - i
          omega
  | _ =>
    rw [IsJ] at hV
    first
      | (obtain ⟨sl, flat, rfl, hSl, hMs⟩ := hV
         obtain ⟨ao, cap, rfl⟩ := hSl.slice
         refine ⟨_, false, fun L => .of (Does.of2 Tryz.func26 rfl Tryz.ntmps26 rfl ?_), rfl, rfl, rfl⟩)
      | (obtain ⟨rfl, _⟩ := hV
         refine ⟨_, false, fun L => .of (Does.of2 Tryz.func26 rfl Tryz.ntmps26 rfl ?_), rfl, rfl, rfl⟩)
      | (subst hV
         refine ⟨_, false, fun L => .of (Does.of2 Tryz.func26 rfl Tryz.ntmps26 rfl ?_), rfl, rfl, rfl⟩)
    repeat' (first
    | ((with_reducible apply TL.pure); (· exact yV); (· rfl)) | ((with_reducible apply TW.pure); (· exact yV); (· rfl))
    | ((with_reducible apply TL.pure); (· exact yA); (· rfl))
    | refine TC.seq ?_ | refine TC.region ?_ | refine TL.nil ?_ | refine TQ.then_normal ?_
    | ((with_reducible apply TL.storeE); (· rfl); (· rfl); (· rfl); (· exact pkA); (· infer_instance)) | ((with_reducible apply TL.store_whole); (· rfl); (· rfl); (· exact oneA); (· rfl); (· exact pkA); (· rfl))
    | refine TC.block ?_ | refine TC.ret ?_ | refine TC.skip ?_ | refine TC.exit ?_ | refine TC.cond rfl ?_
    | refine TQ.down ?_ | refine TQ.in_exit' rfl ?_
    | refine TL.guard_yes rfl rfl ?_ | refine TL.guard_no rfl rfl rfl rfl ?_ | refine TL.guard_no0 rfl rfl rfl ?_ | refine TL.guard_undef rfl rfl rfl ?_ | refine TL.guard_undef0 rfl rfl ?_ | refine TL.guard rfl rfl rfl ?_
    | refine Br.t rfl ?_ | refine Br.f rfl ?_ | refine Br.ky kpA ?_ | refine Br.kn kpA ?_ | refine Br.nky kpA ?_ | refine Br.nkn kpA ?_
    | refine Br.eq0 (fun _ => ?_) (fun _ => ?_) | refine Br.neq0 (fun _ => ?_) (fun _ => ?_) | refine Br.eq (fun _ => ?_) (fun _ => ?_) | refine Br.neq (fun _ => ?_) (fun _ => ?_) | refine Br.not (fun _ => ?_) (fun _ => ?_) | refine Br.dec (fun _ => ?_) (fun _ => ?_) | refine Br.bool (fun _ => ?_) (fun _ => ?_)
    | ((with_reducible apply TL.alloc_ag); (· rfl); intro _) | ((with_reducible apply TL.alloc_sc); (· rfl); (· rfl); intro _) | ((with_reducible apply TL.box_ag); (· rfl); (· rfl); intro _) | ((with_reducible apply TL.box_sc); (· rfl); (· rfl); (· rfl); intro _))
    refine TQ.endR2 (L' := L) Tryz.results26 rvA rvA rfl (.refl _) ?_ selA
    exact ⟨rfl, rfl, rfl⟩
end Go.Proofs.YtacogbfgegcliaaGreatDoor
namespace Go.Proofs.YtacogbfgegcliaaGreatDoor
open Go.RowKit

theorem dec_small (x : UInt8) (r : List UInt8) (h : x.toNat < 128) : Lib.decodeL (x :: r) = (x.toNat, 1) := by
  rw [decode_eq]
  dsimp only
  exact if_pos h
theorem dec_sep (x : UInt8) (r : List UInt8) : (x = 46 → Lib.decodeL (x :: r) = (46, 1)) ∧ (x ≠ 46 → (Lib.decodeL (x :: r)).1 ≠ 46 ∧ 1 ≤ (Lib.decodeL (x :: r)).2 ∧ (Lib.decodeL (x :: r)).2 ≤ (x :: r).length ∧ ∀ y ∈ (x :: r).take (Lib.decodeL (x :: r)).2, y ≠ 46) := by
  refine ⟨fun h => by subst h; exact dec_small 46 r (by decide), fun h => ?_⟩
  have hle := Lib.decodeL_le (x :: r) (by simp)
  rcases decode_sign x r with ⟨h0, hd⟩ | ⟨h0, h2, h3⟩
  · rw [hd]
    exact ⟨by decide, Nat.le_refl _, by simp, fun y hy => by
      obtain rfl : y = x := by simpa using hy
      exact h⟩
  · rcases signL_ge x r h0 with ⟨hx, _⟩ | ⟨hx, hk, hall⟩
    · rw [dec_small x r hx]
      exact ⟨fun e => h (UInt8.toNat_inj.1 e), Nat.le_refl _, by simp, fun y hy => by
        obtain rfl : y = x := by simpa using hy
        exact h⟩
    · rw [← h2] at hk hall
      refine ⟨fun e => ?_, by omega, hle, fun y hy e => ?_⟩
      · have he := Lib.encode_decode (x :: r) (by simp) h3
        rw [e] at he
        have h5 := congrArg List.length he
        rw [List.length_take, Nat.min_eq_left hle] at h5
        have h6 : (Lib.encodeRune ((46 : Nat) : Int)).length = 1 := by decide
        omega
      · have := hall y hy
        subst e
        simp at this
theorem dec_at (s : List UInt8) (j : Nat) : Utf8.decode ⟨s.toArray⟩ j = Lib.decodeL (s.drop j) := by
  have := Lib.decodeL_drop ⟨s.toArray⟩ j
  simpa using this.symm
end Go.Proofs.YtacogbfgegcliaaGreatDoor
