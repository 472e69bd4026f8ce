/-
  What paths do to values: the plain law. The walk of json.Field.
-/
import Derived.Test.YtfanccddokckcaaGreatDoorSt21
import Derived.Lib.AtoiAllCases
import Derived.Lib.ItoaMem
import Derived.Test.YtfanccddokckcaaGreatDoorSt23
import Derived.Test.YtfanccddokckcaaGreatDoorSt2
import Derived.Test.YtfanccddokckcaaGreatDoorSt22
namespace Go.Proofs.YtfanccddokckcaaGreatDoor
open Go.RowKit

def idxN : List (List UInt8) → List UInt8 → Option Nat
  | [], _ => none
  | n :: r, s => if n = s then some 0 else (idxN r s).map (· + 1)
theorem idxN_some : ∀ {ns : List (List UInt8)} {s : List UInt8} {k : Nat}, idxN ns s = some k → ns[k]? = some s ∧ ∀ i, i < k → ns[i]? ≠ some s
  | [], _, _, h => by cases h
  | n :: r, s, k, h => by
    rw [idxN] at h
    by_cases e : n = s
    · rw [if_pos e] at h
      obtain rfl := Option.some.inj h
      exact ⟨by simp [e], fun i hi => by omega⟩
    · rw [if_neg e] at h
      obtain ⟨j, hj, rfl⟩ := Option.map_eq_some_iff.1 h
      obtain ⟨h1, h2⟩ := idxN_some hj
      refine ⟨by simpa using h1, fun i hi => ?_⟩
      cases i with
      | zero => simpa using e
      | succ i => simpa using h2 i (by omega)
theorem idxN_none : ∀ {ns : List (List UInt8)} {s : List UInt8}, idxN ns s = none → ∀ n ∈ ns, n ≠ s
  | [], _, _, _, h => by cases h
  | n :: r, s, h, m, hm => by
    rw [idxN] at h
    by_cases e : n = s
    · rw [if_pos e] at h; cases h
    · rw [if_neg e] at h
      rcases List.mem_cons.1 hm with rfl | hm
      · exact e
      · exact idxN_none (Option.map_eq_none_iff.1 h) m hm
theorem idxN_lt {ns : List (List UInt8)} {s : List UInt8} {k : Nat} (h : idxN ns s = some k) : k < ns.length := (List.getElem?_eq_some_iff.1 (idxN_some h).1).1
end Go.Proofs.YtfanccddokckcaaGreatDoor
namespace Go.Proofs.YtfanccddokckcaaGreatDoor
open Go.RowKit Go.TL
set_option maxRecDepth 100000

def fieldJ (j : J) (s : List UInt8) : Option J := match j with
  | .obj ns xs => (idxN ns s).bind (xs[·]?)
  | _ => none
set_option maxHeartbeats 16000000 in
theorem field_gives (x : J) (v : Value) (g : Gh) (nm : List UInt8) (hV : IsJ g x v) (hS : smJ x) : ∃ v' b, (∀ L, Gives Tryz.prog 76 #[v, str nm] g L (.tuple #[v', .bool b])) ∧ v'.one = true ∧ (match fieldJ x nm with
    | some y => b = true ∧ IsJ g y v'
    | none => b = false ∧ v' = .nilIface) := by
  cases x with
  | obj ns xs =>
    rw [IsJ] at hV
    obtain ⟨sl, flat, rfl, hSl, hMs⟩ := hV
    obtain ⟨ao, cap, rfl⟩ := hSl.slice
    rw [smJ] at hS
    obtain ⟨hl, hnl, hS⟩ := hS
    have hnx := hMs.len
    unfold fieldJ
    dsimp only
    cases hk : idxN ns nm with
    | none =>
      have hno := idxN_none hk
      refine ⟨_, false, fun L => .of (Does.of2 Tryz.func76 rfl Tryz.ntmps76 rfl ?_), rfl, rfl, rfl⟩
      repeat' (first
    | refine wkV ?_
    | refine stS ?_ | (refine stB ?_; intro _) | (refine stC ?_; refine And.intro (fun _ => ?_) (fun _ => ?_)))
      refine TC.loopK (fun i : Nat => i ≤ xs.length) (fun i => xs.length - i) (fun i _ => [(19, .int .i64 (i : Nat)), (18, .int .i64 (xs.length : Nat)), (17, .slice ao xs.length cap), (1, str nm)]) [] (by repeat (first | apply Drop.nil | apply Drop.cons (by (repeat (first | apply Pick.here | apply Pick.there))))) (fun _ L => L) 0 (Nat.zero_le _) subA selA ?_
      rintro i hi
      try dsimp only at hi ⊢
      by_cases hlt : i < xs.length
      · obtain ⟨x, hx⟩ : ∃ x, xs[i]? = some x := ⟨_, List.getElem?_eq_getElem (by omega)⟩
        obtain ⟨s, v, hns, hv0, hv1, hJ⟩ := hMs.get hx
        obtain ⟨b1, o1, rfl, hg⟩ := hSl.elem (i := i) (by omega) (by decide)
        have hld : ∀ j u, [str s, v][j]? = some u → g.cell b1 (o1 + i * 2 + j) = some u := fun j u hu => by
          match j, hu with
          | 0, hu => simp at hu; subst hu; exact hg 0 _ hv0
          | 1, hu => simp at hu; subst hu; exact hg 1 _ hv1
          | j + 2, hu => simp at hu
        have hll : [str s, v].length = 2 := rfl
        have hone := hJ.one
        have hne := hno s (List.mem_of_getElem? hns)
        clear hMs hSl hg hS hv0 hv1 hJ hno
        repeat' (first
    | refine wkV ?_
    | ((with_reducible apply TL.pure (d := 26) (v := .bool false)); (· exact Y.eql_is (decide_eq_false hne) rfl rfl); (· rfl)) | ((with_reducible apply TW.pure (d := 26) (v := .bool false)); (· exact Y.eql_is (decide_eq_false hne) rfl rfl); (· rfl))
    | refine wkP ?_
    | refine TC.seq ?_ | refine TC.region ?_ | refine TL.nil ?_ | refine TQ.then_normal ?_
    | ((with_reducible apply TL.storeE); (· rfl); (· rfl); (· rfl); (· exact pkA); (· infer_instance)) | ((with_reducible apply TL.store_whole); (· rfl); (· rfl); (· exact oneA); (· rfl); (· exact pkA); (· rfl))
    | refine TC.block ?_ | refine TC.ret ?_ | refine TC.skip ?_ | refine TC.exit ?_ | refine TC.cond rfl ?_
    | refine TQ.down ?_ | refine TQ.in_exit' rfl ?_
    | refine TL.guard_yes rfl rfl ?_ | refine TL.guard_no rfl rfl rfl rfl ?_ | refine TL.guard_no0 rfl rfl rfl ?_ | refine TL.guard_undef rfl rfl rfl ?_ | refine TL.guard_undef0 rfl rfl ?_ | refine TL.guard rfl rfl rfl ?_
    | refine Br.t rfl ?_ | refine Br.f rfl ?_ | refine Br.ky kpA ?_ | refine Br.kn kpA ?_ | refine Br.nky kpA ?_ | refine Br.nkn kpA ?_
    | refine Br.eq0 (fun _ => ?_) (fun _ => ?_) | refine Br.neq0 (fun _ => ?_) (fun _ => ?_) | refine Br.eq (fun _ => ?_) (fun _ => ?_) | refine Br.neq (fun _ => ?_) (fun _ => ?_) | refine Br.not (fun _ => ?_) (fun _ => ?_) | refine Br.dec (fun _ => ?_) (fun _ => ?_) | refine Br.bool (fun _ => ?_) (fun _ => ?_)
    | ((with_reducible apply TL.alloc_ag); (· rfl); intro _) | ((with_reducible apply TL.alloc_sc); (· rfl); (· rfl); intro _) | ((with_reducible apply TL.box_ag); (· rfl); (· rfl); intro _) | ((with_reducible apply TL.box_sc); (· rfl); (· rfl); (· rfl); intro _))
        refine TQ.round (i + 1) ?_ ?_ rfl subA selA
        · show i + 1 ≤ xs.length
          omega
        · show xs.length - (i + 1) < xs.length - i
          omega
      · obtain rfl : i = xs.length := by omega
        clear hMs hSl hS hno
        repeat' (first
    | refine stS ?_ | (refine stB ?_; intro _) | (refine stC ?_; refine And.intro (fun _ => ?_) (fun _ => ?_)))
        refine TQ.endR2 (L' := L) Tryz.results76 rvA rvA rfl (.refl _) ?_ selA
        exact ⟨rfl, rfl, rfl⟩
    | some k =>
      obtain ⟨hk1, hk2⟩ := idxN_some hk
      have hkl := idxN_lt hk
      obtain ⟨y, hy⟩ : ∃ y, xs[k]? = some y := ⟨_, List.getElem?_eq_getElem (by omega)⟩
      obtain ⟨s', v', hns', _, hv', hJ'⟩ := hMs.get hy
      have hb : (some k).bind (xs[·]?) = some y := hy
      rw [hb]
      refine ⟨v', true, fun L => .of (Does.of2 Tryz.func76 rfl Tryz.ntmps76 rfl ?_), hJ'.one, rfl, hJ'⟩
      have hone' := hJ'.one
      repeat' (first
    | refine wkV ?_
    | refine stS ?_ | (refine stB ?_; intro _) | (refine stC ?_; refine And.intro (fun _ => ?_) (fun _ => ?_)))
      refine TC.loopK (fun i : Nat => i ≤ k) (fun i => xs.length - i) (fun i _ => [(19, .int .i64 (i : Nat)), (18, .int .i64 (xs.length : Nat)), (17, .slice ao xs.length cap), (1, str nm)]) [] (by repeat (first | apply Drop.nil | apply Drop.cons (by (repeat (first | apply Pick.here | apply Pick.there))))) (fun _ L => L) 0 (Nat.zero_le _) subA selA ?_
      rintro i hi
      try dsimp only at hi ⊢
      by_cases hlt : i = k
      · subst hlt
        obtain rfl : s' = nm := by rw [hns'] at hk1; exact Option.some.inj hk1
        obtain ⟨b1, o1, rfl, hg⟩ := hSl.elem (i := i) (by omega) (by decide)
        have hld : ∀ j u, [str s', v'][j]? = some u → g.cell b1 (o1 + i * 2 + j) = some u := fun j u hu => by
          match j, hu with
          | 0, hu => simp at hu; subst hu; exact hg 0 _ (by assumption)
          | 1, hu => simp at hu; subst hu; exact hg 1 _ hv'
          | j + 2, hu => simp at hu
        have hll : [str s', v'].length = 2 := rfl
        have hlt : i < xs.length := by omega
        clear hMs hSl hg hS hv' hJ' hk2
        repeat' (first
    | refine wkV ?_
    | ((with_reducible apply TL.pure (d := 26) (v := .bool true)); (· exact Y.eql_is (decide_eq_true rfl) rfl rfl); (· rfl)) | ((with_reducible apply TW.pure (d := 26) (v := .bool true)); (· exact Y.eql_is (decide_eq_true rfl) rfl rfl); (· rfl))
    | refine wkP ?_
    | refine TC.seq ?_ | refine TC.region ?_ | refine TL.nil ?_ | refine TQ.then_normal ?_
    | ((with_reducible apply TL.storeE); (· rfl); (· rfl); (· rfl); (· exact pkA); (· infer_instance)) | ((with_reducible apply TL.store_whole); (· rfl); (· rfl); (· exact oneA); (· rfl); (· exact pkA); (· rfl))
    | refine TC.block ?_ | refine TC.ret ?_ | refine TC.skip ?_ | refine TC.exit ?_ | refine TC.cond rfl ?_
    | refine TQ.down ?_ | refine TQ.in_exit' rfl ?_
    | refine TL.guard_yes rfl rfl ?_ | refine TL.guard_no rfl rfl rfl rfl ?_ | refine TL.guard_no0 rfl rfl rfl ?_ | refine TL.guard_undef rfl rfl rfl ?_ | refine TL.guard_undef0 rfl rfl ?_ | refine TL.guard rfl rfl rfl ?_
    | refine Br.t rfl ?_ | refine Br.f rfl ?_ | refine Br.ky kpA ?_ | refine Br.kn kpA ?_ | refine Br.nky kpA ?_ | refine Br.nkn kpA ?_
    | refine Br.eq0 (fun _ => ?_) (fun _ => ?_) | refine Br.neq0 (fun _ => ?_) (fun _ => ?_) | refine Br.eq (fun _ => ?_) (fun _ => ?_) | refine Br.neq (fun _ => ?_) (fun _ => ?_) | refine Br.not (fun _ => ?_) (fun _ => ?_) | refine Br.dec (fun _ => ?_) (fun _ => ?_) | refine Br.bool (fun _ => ?_) (fun _ => ?_)
    | ((with_reducible apply TL.alloc_ag); (· rfl); intro _) | ((with_reducible apply TL.alloc_sc); (· rfl); (· rfl); intro _) | ((with_reducible apply TL.box_ag); (· rfl); (· rfl); intro _) | ((with_reducible apply TL.box_sc); (· rfl); (· rfl); (· rfl); intro _))
        refine TQ.endR2 (L' := L) Tryz.results76 rvA rvA rfl (.refl _) ?_ selA
        exact ⟨rfl, rfl, rfl⟩
      · obtain ⟨x, hx⟩ : ∃ x, xs[i]? = some x := ⟨_, List.getElem?_eq_getElem (by omega)⟩
        obtain ⟨s, v, hns, hv0, hv1, hJ⟩ := hMs.get hx
        obtain ⟨b1, o1, rfl, hg⟩ := hSl.elem (i := i) (by omega) (by decide)
        have hld : ∀ j u, [str s, v][j]? = some u → g.cell b1 (o1 + i * 2 + j) = some u := fun j u hu => by
          match j, hu with
          | 0, hu => simp at hu; subst hu; exact hg 0 _ hv0
          | 1, hu => simp at hu; subst hu; exact hg 1 _ hv1
          | j + 2, hu => simp at hu
        have hll : [str s, v].length = 2 := rfl
        have hone := hJ.one
        have hne : s ≠ nm := fun e => hk2 i (by omega) (by rw [hns, e])
        have hlt : i < xs.length := by omega
        clear hMs hSl hg hS hv0 hv1 hJ hk2 hJ'
        repeat' (first
    | refine wkV ?_
    | ((with_reducible apply TL.pure (d := 26) (v := .bool false)); (· exact Y.eql_is (decide_eq_false hne) rfl rfl); (· rfl)) | ((with_reducible apply TW.pure (d := 26) (v := .bool false)); (· exact Y.eql_is (decide_eq_false hne) rfl rfl); (· rfl))
    | refine wkP ?_
    | refine TC.seq ?_ | refine TC.region ?_ | refine TL.nil ?_ | refine TQ.then_normal ?_
    | ((with_reducible apply TL.storeE); (· rfl); (· rfl); (· rfl); (· exact pkA); (· infer_instance)) | ((with_reducible apply TL.store_whole); (· rfl); (· rfl); (· exact oneA); (· rfl); (· exact pkA); (· rfl))
    | refine TC.block ?_ | refine TC.ret ?_ | refine TC.skip ?_ | refine TC.exit ?_ | refine TC.cond rfl ?_
    | refine TQ.down ?_ | refine TQ.in_exit' rfl ?_
    | refine TL.guard_yes rfl rfl ?_ | refine TL.guard_no rfl rfl rfl rfl ?_ | refine TL.guard_no0 rfl rfl rfl ?_ | refine TL.guard_undef rfl rfl rfl ?_ | refine TL.guard_undef0 rfl rfl ?_ | refine TL.guard rfl rfl rfl ?_
    | refine Br.t rfl ?_ | refine Br.f rfl ?_ | refine Br.ky kpA ?_ | refine Br.kn kpA ?_ | refine Br.nky kpA ?_ | refine Br.nkn kpA ?_
    | refine Br.eq0 (fun _ => ?_) (fun _ => ?_) | refine Br.neq0 (fun _ => ?_) (fun _ => ?_) | refine Br.eq (fun _ => ?_) (fun _ => ?_) | refine Br.neq (fun _ => ?_) (fun _ => ?_) | refine Br.not (fun _ => ?_) (fun _ => ?_) | refine Br.dec (fun _ => ?_) (fun _ => ?_) | refine Br.bool (fun _ => ?_) (fun _ => ?_)
    | ((with_reducible apply TL.alloc_ag); (· rfl); intro _) | ((with_reducible apply TL.alloc_sc); (· rfl); (· rfl); intro _) | ((with_reducible apply TL.box_ag); (· rfl); (· rfl); intro _) | ((with_reducible apply TL.box_sc); (· rfl); (· rfl); (· rfl); intro _))
        refine TQ.round (i + 1) ?_ ?_ rfl subA selA
        · show i + 1 ≤ k
          omega
        · show xs.length - (i + 1) < xs.length - i
          omega
  | _ =>
    rw [IsJ] at hV
    first
      | (obtain ⟨sl, flat, rfl, hSl, hMs⟩ := hV
         obtain ⟨ao, cap, rfl⟩ := hSl.slice
         refine ⟨_, false, fun L => .of (Does.of2 Tryz.func76 rfl Tryz.ntmps76 rfl ?_), rfl, rfl, rfl⟩)
      | (obtain ⟨rfl, _⟩ := hV
         refine ⟨_, false, fun L => .of (Does.of2 Tryz.func76 rfl Tryz.ntmps76 rfl ?_), rfl, rfl, rfl⟩)
      | (subst hV
         refine ⟨_, false, fun L => .of (Does.of2 Tryz.func76 rfl Tryz.ntmps76 rfl ?_), rfl, rfl, rfl⟩)
    repeat' (first
    | refine wkV ?_
    | refine stS ?_ | (refine stB ?_; intro _) | (refine stC ?_; refine And.intro (fun _ => ?_) (fun _ => ?_)))
    refine TQ.endR2 (L' := L) Tryz.results76 rvA rvA rfl (.refl _) ?_ selA
    exact ⟨rfl, rfl, rfl⟩
end Go.Proofs.YtfanccddokckcaaGreatDoor
