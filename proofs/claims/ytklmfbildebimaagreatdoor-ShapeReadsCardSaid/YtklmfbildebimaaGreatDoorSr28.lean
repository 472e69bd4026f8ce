/-
  The walks of json.caught, May. The walks of json.same, Same. What paths do to values: the plain law. The walk of json.Field.
-/
import Derived.Test.YtklmfbildebimaaGreatDoorSr2
import Derived.Test.YtklmfbildebimaaGreatDoorSr27
import Derived.Test.YtklmfbildebimaaGreatDoorSr24
import Derived.Lib.AtoiAllCases
import Derived.Lib.ItoaMem
namespace Go.Proofs.YtklmfbildebimaaGreatDoor
open Go.RowKit Go.TL
set_option maxRecDepth 100000

def stopR (k : Nat) : PanicEntry := { v := .iface 125 (.agg #[.int .i64 (k : Nat)]), recovered := true }
set_option maxHeartbeats 1000000 in
theorem catch_stop (b k : Nat) (x : Value) (w : World) (h2 : w.cell? ⟨b, 0, none⟩ = some x) (z2 : w.frozen? ⟨b, 0, none⟩ = false) (l2 : b < w.heap.size) :
    CallsD Tryz.prog 47 #[.pointer (some ⟨b, 0, none⟩)] (.panicking [stopV k]) w fun e u' w' =>
      e = .returned (.tuple #[]) ∧ u' = .panicking [stopR k] ∧ w' = (w.setCell ⟨b, 0, none⟩ (.int .i64 (k : Nat))).alloc (.cells #[.int .i64 (k : Nat)] 125) := by
  refine callsD_of_wpS Tryz.func47 rfl fun c₀ cs hu => ?_
  apply wpS_seq
  apply wpS_region
  simp [wpOpsS, go_sem, recoverD, hu, Tryz.ntmps47, Exit.thenS, stopV]
  refine wpS_of_wp ?_
  simp only [Array.replicate_succ, Array.replicate_zero, List.push_toArray, List.append_toArray, List.nil_append, List.cons_append, List.setIfInBounds_toArray, List.set_cons_succ, List.set_cons_zero]
  have hta : ∀ w, (Instr.typeAssert (.iface 125 (.agg #[.int .i64 (k : Nat)])) 20 125 true).run Tryz.prog w = .ok (.tuple #[.agg #[.int .i64 (k : Nat)], .bool true]) w := fun _ => by kernel_rfl
  have c2 : ∀ o, (w.alloc o).cell? ⟨b, 0, none⟩ = some x := fun o => (World.cell?_alloc_lt _ _ _ l2).trans h2
  have d2 : ∀ o, (w.alloc o).frozen? ⟨b, 0, none⟩ = false := fun o => (World.frozen?_alloc_old _ _ _ (by show b ≠ _; omega)).trans z2
  clear h2 z2
  go_wp2_with fail
  simp [bodyPostS, results, Tryz.results47, stopR]
theorem catch_idle (b : Nat) (w : World) :
    CallsD Tryz.prog 47 #[.pointer (some ⟨b, 0, none⟩)] .returning w fun e u' w' => e = .returned (.tuple #[]) ∧ u' = .returning ∧ w' = w := by
  refine callsD_of_wpS Tryz.func47 rfl fun c₀ cs hu => ?_
  apply wpS_seq
  apply wpS_region
  simp [wpOpsS, go_sem, recoverD, hu, Tryz.ntmps47, Exit.thenS]
  refine wpS_of_wp ?_
  simp only [Array.replicate_succ, Array.replicate_zero, List.push_toArray, List.append_toArray, List.nil_append, List.cons_append, List.setIfInBounds_toArray, List.set_cons_succ, List.set_cons_zero]
  go_wp2
  cases c₀
  simp_all [bodyPostS, results, Tryz.results47]
theorem late_stop (b k : Nat) (x : Value) (g : Gh) (L : List Ent) : Late Tryz.prog 47 #[.pointer (some ⟨b, 0, none⟩)] (.panicking [stopV k]) (.panicking [stopR k]) g (.obj b (.cells [x].toArray 31 (0, 0)) :: L) (.obj b (.cells [.int .i64 (k : Nat)].toArray 31 (0, 0)) :: L) :=
  ⟨fun w hs => by
    have h := hs.st _ List.mem_cons_self
    have hl : b < w.heap.size := hs.lt b (by simp [fps, Ent.fp])
    refine (catch_stop b k x w (obj_cell h 0) (obj_frozen h 0) hl).mono ?_
    rintro e u w' ⟨rfl, rfl, rfl⟩
    exact ⟨⟨_, rfl⟩, rfl, ((hs.set _ 0).alloc _).tail⟩⟩
theorem late_idle (b : Nat) (g : Gh) (L : List Ent) : Late Tryz.prog 47 #[.pointer (some ⟨b, 0, none⟩)] .returning .returning g L L :=
  ⟨fun w hs => by
    refine (catch_idle b w).mono ?_
    rintro e u w' ⟨rfl, rfl, rfl⟩
    exact ⟨⟨_, rfl⟩, rfl, hs⟩⟩
theorem may_gives (x : J) (v : Value) (g : Gh) (L : List Ent) (hV : IsJ g x v) (hS : smJ x) (hT : GTabs g) (hU : GU8 g) : Gives Tryz.prog 22 #[v] g L (.int .i64 (lookJ x 0 : Nat)) := by
  refine .of (Does.ofD1 Tryz.func22 rfl Tryz.ntmps22 rfl ?_)
  have A := fun L => look_does _ x (Nat.le_refl _) v g L 0 hV hS (by decide) hT hU
  generalize lookJ x 0 = r at *
  clear hV hS hT hU
  repeat' (first
    | refine TL.looks (Enters.plain (by kernel_rfl) (by rfl)) (A _) (by rfl) (fun _ => ?_) (fun _ => ?_)
    | refine TL.defer (by rfl) ?_
    | refine stS ?_ | (refine stB ?_; intro _) | (refine stC ?_; refine And.intro (fun _ => ?_) (fun _ => ?_)))
  · rename_i b h0
    have hr := h0.out
    subst hr
    refine TQ.endD_ret1 (L' := L) (vs := [.pointer (some ⟨b, 0, none⟩)]) (caps := []) (late_idle b g _) rfl (by kernel_rfl) Tryz.results22 rvA (.refl _) ?_ (.refl _) selA
    exact ⟨rfl, rfl, rfl⟩
  · rename_i b h0
    refine TQ.endD_panic1 (L' := L) (vs := [.pointer (some ⟨b, 0, none⟩)]) (caps := []) (late_stop b r _ g L) rfl rfl (by kernel_rfl) Tryz.results22 rvA (.refl _) ?_ (.refl _) selA
    exact ⟨rfl, rfl, rfl⟩
theorem look_toJ : ∀ (N : Nat) (x : DV), dsz x ≤ N → ∀ w, lookJ (toJ x) w = mayV x w
  | 0, .mk .., h, _ => by rw [dsz] at h; omega
  | N + 1, .mk k b n s items names, h, w => by
    have IH := look_toJ N
    rw [dsz] at h
    rw [toJ_eq, mayV]
    have H1 : ∀ l : List DV, dszs l ≤ N → looks (l.map toJ) w = mays l w := by
      intro l
      induction l with
      | nil => intro _; rfl
      | cons x r ih =>
        intro hl
        rw [dszs] at hl
        rw [List.map_cons, looks, mays, IH x (by omega), ih (by omega)]
    have H2 : ∀ (l : List DV) (seen ns : List (List UInt8)), dszs l ≤ N → looko seen ns (l.map toJ) w = mayo seen ns l w := by
      intro l
      induction l with
      | nil => intro _ _ _; rfl
      | cons x r ih =>
        intro seen ns hl
        rw [dszs] at hl
        rw [List.map_cons, looko, mayo, IH x (by omega), ih _ _ (by omega)]
    by_cases k0 : k = 0
    · rw [if_pos k0, if_pos (.inl k0)]; rfl
    rw [if_neg k0]
    by_cases k1 : k = 1
    · rw [if_pos k1, if_pos (.inr k1)]; rfl
    rw [if_neg k1, if_neg (show ¬ (k = 0 ∨ k = 1) by omega)]
    by_cases k2 : k = 2
    · rw [if_pos k2, if_pos k2, lookJ]
    rw [if_neg k2, if_neg k2]
    by_cases k3 : k = 3
    · rw [if_pos k3, if_pos k3, lookJ]
    rw [if_neg k3, if_neg k3]
    by_cases k4 : k = 4
    · rw [if_pos k4, if_pos k4, lookJ, H1 items (by omega)]
    rw [if_neg k4, if_neg k4]
    by_cases k5 : k = 5
    · rw [if_pos k5, if_pos k5, lookJ, H2 items [] names (by omega)]
    rw [if_neg k5, if_neg k5, lookJ]
theorem sm_toJ : ∀ (N : Nat) (x : DV), dsz x ≤ N → ∀ l, 0 ≤ cnt x l → smJ (toJ x)
  | 0, .mk .., h, _, _ => by rw [dsz] at h; omega
  | N + 1, .mk k b n s items names, h, l, hc => by
    have IH := sm_toJ N
    rw [dsz] at h
    rw [cnt] at hc
    split at hc
    · omega
    rename_i hno
    rw [toJ_eq]
    have H1 : ∀ (o : Bool) (ns : List (List UInt8)) (r : List DV) (m : Int), dszs r ≤ N → 0 ≤ cnts o ns r m → smJs (r.map toJ) ∧ (o = true → ∀ n ∈ ns.take r.length, n.length ≤ 300) := by
      intro o ns r
      induction r generalizing ns with
      | nil => intro m _ _; exact ⟨by rw [List.map_nil, smJs]; trivial, by simp⟩
      | cons x r ih =>
        intro m hl hm
        rw [dszs] at hl
        rw [cnts] at hm
        split at hm
        · omega
        · rename_i h1
          split at hm
          · omega
          · rename_i h2
            have h3 := ih ns.tail _ (by omega) hm
            refine ⟨by rw [List.map_cons, smJs]; exact ⟨IH x (by omega) m (by omega), h3.1⟩, fun ho nm hn => ?_⟩
            cases ns with
            | nil => simp at hn
            | cons a t =>
              rw [List.length_cons, List.take_succ_cons, List.mem_cons] at hn
              rcases hn with rfl | hn
              · have : ¬ (o = true ∧ 300 < nm.length) := h1
                have : ¬ 300 < nm.length := fun e => this ⟨ho, e⟩
                omega
              · exact h3.2 ho nm hn
    by_cases k0 : k = 0
    · rw [if_pos k0, smJ]; trivial
    rw [if_neg k0]
    by_cases k1 : k = 1
    · rw [if_pos k1, smJ]; trivial
    rw [if_neg k1]
    by_cases k2 : k = 2
    · rw [if_pos k2, smJ]; trivial
    rw [if_neg k2]
    by_cases k3 : k = 3
    · rw [if_pos k3, smJ]; omega
    rw [if_neg k3]
    by_cases k4 : k = 4
    · rw [if_pos (.inl k4)] at hc
      rw [if_pos k4, smJ, List.length_map]
      exact ⟨by omega, (H1 _ _ _ _ (by omega) hc).1⟩
    rw [if_neg k4]
    by_cases k5 : k = 5
    · rw [if_pos (.inr k5)] at hc
      rw [if_pos k5, smJ, List.length_map]
      have h3 := H1 _ _ _ _ (by omega) hc
      have hl : names.length = items.length := by omega
      refine ⟨by omega, fun nm hn => ?_, h3.1⟩
      have := h3.2 (by simp [k5]) nm (by rw [← hl, List.take_length]; exact hn)
      omega
    rw [if_neg k5, smJ]; trivial
end Go.Proofs.YtklmfbildebimaaGreatDoor
namespace Go.Proofs.YtklmfbildebimaaGreatDoor
open Go.RowKit Go.TL
set_option maxRecDepth 100000

theorem IsJ.some {g : Gh} {y : J} {v : Value} (h : IsJ g y v) (hy : y ≠ .null) : ∃ T u, v = .iface T u := by
  cases y <;> rw [IsJ] at h
  · exact absurd rfl hy
  · exact ⟨_, _, h⟩
  · exact ⟨_, _, h.1⟩
  · exact ⟨_, _, h⟩
  · obtain ⟨sl, _, h, _⟩ := h
    exact ⟨_, _, h⟩
  · obtain ⟨sl, _, h, _⟩ := h
    exact ⟨_, _, h⟩
  · exact ⟨_, _, h⟩
end Go.Proofs.YtklmfbildebimaaGreatDoor
namespace Go.Proofs.YtklmfbildebimaaGreatDoor
open Go.RowKit

def idxN : List (List UInt8) → List UInt8 → Option Nat
  | [], _ => none
  | n :: r, s => if n = s then some 0 else (idxN r s).map (· + 1)
theorem idxN_some : ∀ {ns : List (List UInt8)} {s : List UInt8} {k : Nat}, idxN ns s = some k → ns[k]? = some s ∧ ∀ i, i < k → ns[i]? ≠ some s
  | [], _, _, h => by cases h
  | n :: r, s, k, h => by
    rw [idxN] at h
    by_cases e : n = s
    · rw [if_pos e] at h
      obtain rfl := Option.some.inj h
      exact ⟨by simp [e], fun i hi => by omega⟩
    · rw [if_neg e] at h
      obtain ⟨j, hj, rfl⟩ := Option.map_eq_some_iff.1 h
      obtain ⟨h1, h2⟩ := idxN_some hj
      refine ⟨by simpa using h1, fun i hi => ?_⟩
      cases i with
      | zero => simpa using e
      | succ i => simpa using h2 i (by omega)
theorem idxN_none : ∀ {ns : List (List UInt8)} {s : List UInt8}, idxN ns s = none → ∀ n ∈ ns, n ≠ s
  | [], _, _, _, h => by cases h
  | n :: r, s, h, m, hm => by
    rw [idxN] at h
    by_cases e : n = s
    · rw [if_pos e] at h; cases h
    · rw [if_neg e] at h
      rcases List.mem_cons.1 hm with rfl | hm
      · exact e
      · exact idxN_none (Option.map_eq_none_iff.1 h) m hm
theorem idxN_lt {ns : List (List UInt8)} {s : List UInt8} {k : Nat} (h : idxN ns s = some k) : k < ns.length := (List.getElem?_eq_some_iff.1 (idxN_some h).1).1
end Go.Proofs.YtklmfbildebimaaGreatDoor
namespace Go.Proofs.YtklmfbildebimaaGreatDoor
open Go.RowKit Go.TL
set_option maxRecDepth 100000

def fieldJ (j : J) (s : List UInt8) : Option J := match j with
  | .obj ns xs => (idxN ns s).bind (xs[·]?)
  | _ => none
set_option maxHeartbeats 16000000 in
theorem field_gives (x : J) (v : Value) (g : Gh) (nm : List UInt8) (hV : IsJ g x v) (hS : smJ x) : ∃ v' b, (∀ L, Gives Tryz.prog 50 #[v, str nm] g L (.tuple #[v', .bool b])) ∧ v'.one = true ∧ (match fieldJ x nm with
    | some y => b = true ∧ IsJ g y v'
    | none => b = false ∧ v' = .nilIface) := by
  cases x with
  | obj ns xs =>
    rw [IsJ] at hV
    obtain ⟨sl, flat, rfl, hSl, hMs⟩ := hV
    obtain ⟨ao, cap, rfl⟩ := hSl.slice
    rw [smJ] at hS
    obtain ⟨hl, hnl, hS⟩ := hS
    have hnx := hMs.len
    unfold fieldJ
    dsimp only
    cases hk : idxN ns nm with
    | none =>
      have hno := idxN_none hk
      refine ⟨_, false, fun L => .of (Does.of2 Tryz.func50 rfl Tryz.ntmps50 rfl ?_), rfl, rfl, rfl⟩
      repeat' (first
    | refine wkV ?_
    | refine stS ?_ | (refine stB ?_; intro _) | (refine stC ?_; refine And.intro (fun _ => ?_) (fun _ => ?_)))
      refine TC.loopK (fun i : Nat => i ≤ xs.length) (fun i => xs.length - i) (fun i _ => [(19, .int .i64 (i : Nat)), (18, .int .i64 (xs.length : Nat)), (17, .slice ao xs.length cap), (1, str nm)]) [] (by repeat (first | apply Drop.nil | apply Drop.cons (by (repeat (first | apply Pick.here | apply Pick.there))))) (fun _ L => L) 0 (Nat.zero_le _) subA selA ?_
      rintro i hi
      try dsimp only at hi ⊢
      by_cases hlt : i < xs.length
      · obtain ⟨x, hx⟩ : ∃ x, xs[i]? = some x := ⟨_, List.getElem?_eq_getElem (by omega)⟩
        obtain ⟨s, v, hns, hv0, hv1, hJ⟩ := hMs.get hx
        obtain ⟨b1, o1, rfl, hg⟩ := hSl.elem (i := i) (by omega) (by decide)
        have hld : ∀ j u, [str s, v][j]? = some u → g.cell b1 (o1 + i * 2 + j) = some u := fun j u hu => by
          match j, hu with
          | 0, hu => simp at hu; subst hu; exact hg 0 _ hv0
          | 1, hu => simp at hu; subst hu; exact hg 1 _ hv1
          | j + 2, hu => simp at hu
        have hll : [str s, v].length = 2 := rfl
        have hone := hJ.one
        have hne := hno s (List.mem_of_getElem? hns)
        clear hMs hSl hg hS hv0 hv1 hJ hno
        repeat' (first
    | refine wkV ?_
    | ((with_reducible apply TL.pure (d := 26) (v := .bool false)); (· exact Y.eql_is (decide_eq_false hne) rfl rfl); (· rfl)) | ((with_reducible apply TW.pure (d := 26) (v := .bool false)); (· exact Y.eql_is (decide_eq_false hne) rfl rfl); (· rfl))
    | refine wkP ?_
    | refine TC.seq ?_ | refine TC.region ?_ | refine TL.nil ?_ | refine TQ.then_normal ?_
    | ((with_reducible apply TL.storeE); (· rfl); (· rfl); (· rfl); (· exact pkA); (· infer_instance)) | ((with_reducible apply TL.store_whole); (· rfl); (· rfl); (· exact oneA); (· rfl); (· exact pkA); (· rfl))
    | refine TC.block ?_ | refine TC.ret ?_ | refine TC.skip ?_ | refine TC.exit ?_ | refine TC.cond rfl ?_
    | refine TQ.down ?_ | refine TQ.in_exit' rfl ?_
    | refine TL.guard_yes rfl rfl ?_ | refine TL.guard_no rfl rfl rfl rfl ?_ | refine TL.guard_no0 rfl rfl rfl ?_ | refine TL.guard_undef rfl rfl rfl ?_ | refine TL.guard_undef0 rfl rfl ?_ | refine TL.guard rfl rfl rfl ?_
    | refine Br.t rfl ?_ | refine Br.f rfl ?_ | refine Br.ky kpA ?_ | refine Br.kn kpA ?_ | refine Br.nky kpA ?_ | refine Br.nkn kpA ?_
    | refine Br.eq0 (fun _ => ?_) (fun _ => ?_) | refine Br.neq0 (fun _ => ?_) (fun _ => ?_) | refine Br.eq (fun _ => ?_) (fun _ => ?_) | refine Br.neq (fun _ => ?_) (fun _ => ?_) | refine Br.not (fun _ => ?_) (fun _ => ?_) | refine Br.dec (fun _ => ?_) (fun _ => ?_) | refine Br.bool (fun _ => ?_) (fun _ => ?_)
    | ((with_reducible apply TL.alloc_ag); (· rfl); intro _) | ((with_reducible apply TL.alloc_sc); (· rfl); (· rfl); intro _) | ((with_reducible apply TL.box_ag); (· rfl); (· rfl); intro _) | ((with_reducible apply TL.box_sc); (· rfl); (· rfl); (· rfl); intro _))
        refine TQ.round (i + 1) ?_ ?_ rfl subA selA
        · show i + 1 ≤ xs.length
          omega
        · show xs.length - (i + 1) < xs.length - i
          omega
      · obtain rfl : i = xs.length := by omega
        clear hMs hSl hS hno
        repeat' (first
    | refine stS ?_ | (refine stB ?_; intro _) | (refine stC ?_; refine And.intro (fun _ => ?_) (fun _ => ?_)))
        refine TQ.endR2 (L' := L) Tryz.results50 rvA rvA rfl (.refl _) ?_ selA
        exact ⟨rfl, rfl, rfl⟩
    | some k =>
      obtain ⟨hk1, hk2⟩ := idxN_some hk
      have hkl := idxN_lt hk
      obtain ⟨y, hy⟩ : ∃ y, xs[k]? = some y := ⟨_, List.getElem?_eq_getElem (by omega)⟩
      obtain ⟨s', v', hns', _, hv', hJ'⟩ := hMs.get hy
      have hb : (some k).bind (xs[·]?) = some y := hy
      rw [hb]
      refine ⟨v', true, fun L => .of (Does.of2 Tryz.func50 rfl Tryz.ntmps50 rfl ?_), hJ'.one, rfl, hJ'⟩
      have hone' := hJ'.one
      repeat' (first
    | refine wkV ?_
    | refine stS ?_ | (refine stB ?_; intro _) | (refine stC ?_; refine And.intro (fun _ => ?_) (fun _ => ?_)))
      refine TC.loopK (fun i : Nat => i ≤ k) (fun i => xs.length - i) (fun i _ => [(19, .int .i64 (i : Nat)), (18, .int .i64 (xs.length : Nat)), (17, .slice ao xs.length cap), (1, str nm)]) [] (by repeat (first | apply Drop.nil | apply Drop.cons (by (repeat (first | apply Pick.here | apply Pick.there))))) (fun _ L => L) 0 (Nat.zero_le _) subA selA ?_
      rintro i hi
      try dsimp only at hi ⊢
      by_cases hlt : i = k
      · subst hlt
        obtain rfl : s' = nm := by rw [hns'] at hk1; exact Option.some.inj hk1
        obtain ⟨b1, o1, rfl, hg⟩ := hSl.elem (i := i) (by omega) (by decide)
        have hld : ∀ j u, [str s', v'][j]? = some u → g.cell b1 (o1 + i * 2 + j) = some u := fun j u hu => by
          match j, hu with
          | 0, hu => simp at hu; subst hu; exact hg 0 _ (by assumption)
          | 1, hu => simp at hu; subst hu; exact hg 1 _ hv'
          | j + 2, hu => simp at hu
        have hll : [str s', v'].length = 2 := rfl
        have hlt : i < xs.length := by omega
        clear hMs hSl hg hS hv' hJ' hk2
        repeat' (first
    | refine wkV ?_
    | ((with_reducible apply TL.pure (d := 26) (v := .bool true)); (· exact Y.eql_is (decide_eq_true rfl) rfl rfl); (· rfl)) | ((with_reducible apply TW.pure (d := 26) (v := .bool true)); (· exact Y.eql_is (decide_eq_true rfl) rfl rfl); (· rfl))
    | refine wkP ?_
    | refine TC.seq ?_ | refine TC.region ?_ | refine TL.nil ?_ | refine TQ.then_normal ?_
    | ((with_reducible apply TL.storeE); (· rfl); (· rfl); (· rfl); (· exact pkA); (· infer_instance)) | ((with_reducible apply TL.store_whole); (· rfl); (· rfl); (· exact oneA); (· rfl); (· exact pkA); (· rfl))
    | refine TC.block ?_ | refine TC.ret ?_ | refine TC.skip ?_ | refine TC.exit ?_ | refine TC.cond rfl ?_
    | refine TQ.down ?_ | refine TQ.in_exit' rfl ?_
    | refine TL.guard_yes rfl rfl ?_ | refine TL.guard_no rfl rfl rfl rfl ?_ | refine TL.guard_no0 rfl rfl rfl ?_ | refine TL.guard_undef rfl rfl rfl ?_ | refine TL.guard_undef0 rfl rfl ?_ | refine TL.guard rfl rfl rfl ?_
    | refine Br.t rfl ?_ | refine Br.f rfl ?_ | refine Br.ky kpA ?_ | refine Br.kn kpA ?_ | refine Br.nky kpA ?_ | refine Br.nkn kpA ?_
    | refine Br.eq0 (fun _ => ?_) (fun _ => ?_) | refine Br.neq0 (fun _ => ?_) (fun _ => ?_) | refine Br.eq (fun _ => ?_) (fun _ => ?_) | refine Br.neq (fun _ => ?_) (fun _ => ?_) | refine Br.not (fun _ => ?_) (fun _ => ?_) | refine Br.dec (fun _ => ?_) (fun _ => ?_) | refine Br.bool (fun _ => ?_) (fun _ => ?_)
    | ((with_reducible apply TL.alloc_ag); (· rfl); intro _) | ((with_reducible apply TL.alloc_sc); (· rfl); (· rfl); intro _) | ((with_reducible apply TL.box_ag); (· rfl); (· rfl); intro _) | ((with_reducible apply TL.box_sc); (· rfl); (· rfl); (· rfl); intro _))
        refine TQ.endR2 (L' := L) Tryz.results50 rvA rvA rfl (.refl _) ?_ selA
        exact ⟨rfl, rfl, rfl⟩
      · obtain ⟨x, hx⟩ : ∃ x, xs[i]? = some x := ⟨_, List.getElem?_eq_getElem (by omega)⟩
        obtain ⟨s, v, hns, hv0, hv1, hJ⟩ := hMs.get hx
        obtain ⟨b1, o1, rfl, hg⟩ := hSl.elem (i := i) (by omega) (by decide)
        have hld : ∀ j u, [str s, v][j]? = some u → g.cell b1 (o1 + i * 2 + j) = some u := fun j u hu => by
          match j, hu with
          | 0, hu => simp at hu; subst hu; exact hg 0 _ hv0
          | 1, hu => simp at hu; subst hu; exact hg 1 _ hv1
          | j + 2, hu => simp at hu
        have hll : [str s, v].length = 2 := rfl
        have hone := hJ.one
        have hne : s ≠ nm := fun e => hk2 i (by omega) (by rw [hns, e])
        have hlt : i < xs.length := by omega
        clear hMs hSl hg hS hv0 hv1 hJ hk2 hJ'
        repeat' (first
    | refine wkV ?_
    | ((with_reducible apply TL.pure (d := 26) (v := .bool false)); (· exact Y.eql_is (decide_eq_false hne) rfl rfl); (· rfl)) | ((with_reducible apply TW.pure (d := 26) (v := .bool false)); (· exact Y.eql_is (decide_eq_false hne) rfl rfl); (· rfl))
    | refine wkP ?_
    | refine TC.seq ?_ | refine TC.region ?_ | refine TL.nil ?_ | refine TQ.then_normal ?_
    | ((with_reducible apply TL.storeE); (· rfl); (· rfl); (· rfl); (· exact pkA); (· infer_instance)) | ((with_reducible apply TL.store_whole); (· rfl); (· rfl); (· exact oneA); (· rfl); (· exact pkA); (· rfl))
    | refine TC.block ?_ | refine TC.ret ?_ | refine TC.skip ?_ | refine TC.exit ?_ | refine TC.cond rfl ?_
    | refine TQ.down ?_ | refine TQ.in_exit' rfl ?_
    | refine TL.guard_yes rfl rfl ?_ | refine TL.guard_no rfl rfl rfl rfl ?_ | refine TL.guard_no0 rfl rfl rfl ?_ | refine TL.guard_undef rfl rfl rfl ?_ | refine TL.guard_undef0 rfl rfl ?_ | refine TL.guard rfl rfl rfl ?_
    | refine Br.t rfl ?_ | refine Br.f rfl ?_ | refine Br.ky kpA ?_ | refine Br.kn kpA ?_ | refine Br.nky kpA ?_ | refine Br.nkn kpA ?_
    | refine Br.eq0 (fun _ => ?_) (fun _ => ?_) | refine Br.neq0 (fun _ => ?_) (fun _ => ?_) | refine Br.eq (fun _ => ?_) (fun _ => ?_) | refine Br.neq (fun _ => ?_) (fun _ => ?_) | refine Br.not (fun _ => ?_) (fun _ => ?_) | refine Br.dec (fun _ => ?_) (fun _ => ?_) | refine Br.bool (fun _ => ?_) (fun _ => ?_)
    | ((with_reducible apply TL.alloc_ag); (· rfl); intro _) | ((with_reducible apply TL.alloc_sc); (· rfl); (· rfl); intro _) | ((with_reducible apply TL.box_ag); (· rfl); (· rfl); intro _) | ((with_reducible apply TL.box_sc); (· rfl); (· rfl); (· rfl); intro _))
        refine TQ.round (i + 1) ?_ ?_ rfl subA selA
        · show i + 1 ≤ k
          omega
        · show xs.length - (i + 1) < xs.length - i
          omega
  | _ =>
    rw [IsJ] at hV
    first
      | (obtain ⟨sl, flat, rfl, hSl, hMs⟩ := hV
         obtain ⟨ao, cap, rfl⟩ := hSl.slice
         refine ⟨_, false, fun L => .of (Does.of2 Tryz.func50 rfl Tryz.ntmps50 rfl ?_), rfl, rfl, rfl⟩)
      | (obtain ⟨rfl, _⟩ := hV
         refine ⟨_, false, fun L => .of (Does.of2 Tryz.func50 rfl Tryz.ntmps50 rfl ?_), rfl, rfl, rfl⟩)
      | (subst hV
         refine ⟨_, false, fun L => .of (Does.of2 Tryz.func50 rfl Tryz.ntmps50 rfl ?_), rfl, rfl, rfl⟩)
    repeat' (first
    | refine wkV ?_
    | refine stS ?_ | (refine stB ?_; intro _) | (refine stC ?_; refine And.intro (fun _ => ?_) (fun _ => ?_)))
    refine TQ.endR2 (L' := L) Tryz.results50 rvA rvA rfl (.refl _) ?_ selA
    exact ⟨rfl, rfl, rfl⟩
end Go.Proofs.YtklmfbildebimaaGreatDoor
