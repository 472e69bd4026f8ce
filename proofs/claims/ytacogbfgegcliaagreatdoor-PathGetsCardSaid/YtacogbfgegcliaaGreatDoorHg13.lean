/-
  What paths do to values: the plain law. The walks of path.member, item, next.
-/
import Derived.Test.YtacogbfgegcliaaGreatDoorHg8
import Derived.Test.YtacogbfgegcliaaGreatDoorHg12
import Derived.Test.YtacogbfgegcliaaGreatDoorHg7
import Derived.Test.YtacogbfgegcliaaGreatDoorHg0
namespace Go.Proofs.YtacogbfgegcliaaGreatDoor
open Go.RowKit

def idxN : List (List UInt8) → List UInt8 → Option Nat
  | [], _ => none
  | n :: r, s => if n = s then some 0 else (idxN r s).map (· + 1)
theorem idxN_some : ∀ {ns : List (List UInt8)} {s : List UInt8} {k : Nat}, idxN ns s = some k → ns[k]? = some s ∧ ∀ i, i < k → ns[i]? ≠ some s
  | [], _, _, h => by cases h
  | n :: r, s, k, h => by
    rw [idxN] at h
    by_cases e : n = s
    · rw [if_pos e] at h
      obtain rfl := Option.some.inj h
      exact ⟨by simp [e], fun i hi => by omega⟩
    · rw [if_neg e] at h
      obtain ⟨j, hj, rfl⟩ := Option.map_eq_some_iff.1 h
      obtain ⟨h1, h2⟩ := idxN_some hj
      refine ⟨by simpa using h1, fun i hi => ?_⟩
      cases i with
      | zero => simpa using e
      | succ i => simpa using h2 i (by omega)
theorem idxN_none : ∀ {ns : List (List UInt8)} {s : List UInt8}, idxN ns s = none → ∀ n ∈ ns, n ≠ s
  | [], _, _, _, h => by cases h
  | n :: r, s, h, m, hm => by
    rw [idxN] at h
    by_cases e : n = s
    · rw [if_pos e] at h; cases h
    · rw [if_neg e] at h
      rcases List.mem_cons.1 hm with rfl | hm
      · exact e
      · exact idxN_none (Option.map_eq_none_iff.1 h) m hm
theorem idxN_lt {ns : List (List UInt8)} {s : List UInt8} {k : Nat} (h : idxN ns s = some k) : k < ns.length := (List.getElem?_eq_some_iff.1 (idxN_some h).1).1
def nextJ (j : J) (s : List UInt8) : Option J := match j with
  | .obj ns xs => (idxN ns s).bind (xs[·]?)
  | .list xs => (itemL s).bind (xs[·]?)
  | _ => none
def getJ : List (List UInt8) → J → Option J
  | [], j => some j
  | s :: r, j => (nextJ j s).bind (getJ r)
def putJ : List (List UInt8) → J → J → Option J
  | [], _, x => some x
  | s :: r, .obj ns xs, x => match idxN ns s with
    | some i => match xs[i]? with
      | some y => (putJ r y x).map fun z => .obj ns (xs.set i z)
      | none => none
    | none => (putJ r (.obj [] []) x).map fun z => .obj (ns ++ [s]) (xs ++ [z])
  | s :: r, .list xs, x => match itemL s with
    | none => none
    | some i => match xs[i]? with
      | some y => (putJ r y x).map fun z => .list (xs.set i z)
      | none => if i = xs.length then (putJ r (.obj [] []) x).map fun z => .list (xs ++ [z]) else none
  | _ :: _, _, _ => none
def dropJ : List (List UInt8) → J → Option J
  | [], _ => none
  | s :: r, .obj ns xs => match idxN ns s with
    | some i => match xs[i]? with
      | some y => if r = [] then some (.obj (ns.eraseIdx i) (xs.eraseIdx i)) else (dropJ r y).map fun z => .obj ns (xs.set i z)
      | none => none
    | none => none
  | s :: r, .list xs => match itemL s with
    | none => none
    | some i => match xs[i]? with
      | some y => if r = [] then some (.list (xs.eraseIdx i)) else (dropJ r y).map fun z => .list (xs.set i z)
      | none => none
  | _ :: _, _ => none
mutual
def depJ : J → Nat
  | .list xs => depJs xs + 1
  | .obj _ xs => depJs xs + 1
  | .null => 0
  | .bool _ => 0
  | .num _ => 0
  | .text _ => 0
  | .other _ => 0
def depJs : List J → Nat
  | [] => 0
  | x :: r => max (depJ x) (depJs r)
end
mutual
def okJ : J → Prop
  | .null => True
  | .bool _ => True
  | .num n => heldB n = true
  | .text s => utfL s = true
  | .list xs => okJs xs
  | .obj ns xs => ns.length = xs.length ∧ ns.Nodup ∧ (∀ n ∈ ns, utfL n = true) ∧ okJs xs
  | .other _ => False
def okJs : List J → Prop
  | [] => True
  | x :: r => okJ x ∧ okJs r
end
theorem looks_get : ∀ {l : List J} {i : Nat} {x : J} {w : Nat}, looks l w = 0 → l[i]? = some x → lookJ x (w + 1) = 0
  | [], _, _, _, _, h => by simp at h
  | y :: r, 0, x, w, h, hx => by
    obtain rfl : y = x := by simpa using hx
    rw [looks] at h
    split at h
    · assumption
    · exact h
  | y :: r, i + 1, x, w, h, hx => by
    rw [looks] at h
    split at h
    · exact looks_get h (i := i) (by simpa using hx)
    · exact absurd h (by assumption)
theorem looko_get : ∀ {l : List J} {seen ns : List (List UInt8)} {i : Nat} {x : J} {w : Nat}, looko seen ns l w = 0 → l[i]? = some x → lookJ x (w + 1) = 0
  | [], _, _, _, _, _, _, h => by simp at h
  | y :: r, seen, ns, 0, x, w, h, hx => by
    obtain rfl : y = x := by simpa using hx
    rw [looko] at h
    split at h
    · cases h
    split at h
    · cases h
    split at h
    · assumption
    · exact h
  | y :: r, seen, ns, i + 1, x, w, h, hx => by
    rw [looko] at h
    split at h
    · cases h
    split at h
    · cases h
    split at h
    · exact looko_get h (i := i) (by simpa using hx)
    · exact absurd h (by assumption)
mutual
theorem look_mono : ∀ (x : J) (w : Nat), lookJ x (w + 1) = 0 → lookJ x w = 0
  | .null, _, h => by rw [lookJ] at h ⊢
  | .bool _, _, h => by rw [lookJ] at h ⊢
  | .num _, _, h => by rw [lookJ] at h ⊢; exact h
  | .text _, _, h => by rw [lookJ] at h ⊢; exact h
  | .other _, _, h => by rw [lookJ] at h ⊢; exact h
  | .list xs, w, h => by
    rw [lookJ] at h ⊢
    split at h
    · cases h
    · rw [if_neg (by omega)]; exact looks_mono xs w h
  | .obj ns xs, w, h => by
    rw [lookJ] at h ⊢
    split at h
    · cases h
    · rw [if_neg (by omega)]; exact looko_mono [] ns xs w h
theorem looks_mono : ∀ (l : List J) (w : Nat), looks l (w + 1) = 0 → looks l w = 0
  | [], _, _ => by rw [looks]
  | x :: r, w, h => by
    rw [looks] at h ⊢
    split at h
    · rename_i h1
      rw [if_pos (look_mono x (w + 1) h1)]; exact looks_mono r w h
    · exact absurd h (by assumption)
theorem looko_mono : ∀ (seen ns : List (List UInt8)) (l : List J) (w : Nat), looko seen ns l (w + 1) = 0 → looko seen ns l w = 0
  | _, _, [], _, _ => by rw [looko]
  | seen, ns, x :: r, w, h => by
    rw [looko] at h ⊢
    split at h
    · cases h
    rename_i h1
    split at h
    · cases h
    rename_i h2
    split at h
    · rename_i h3
      rw [if_neg h1, if_neg h2, if_pos (look_mono x (w + 1) h3)]; exact looko_mono _ _ r w h
    · exact absurd h (by assumption)
end
theorem look_next {j x : J} {s : List UInt8} {w : Nat} (h : lookJ j w = 0) (hx : nextJ j s = some x) : lookJ x (w + 1) = 0 := by
  unfold nextJ at hx
  cases j with
  | list xs =>
    obtain ⟨i, _, hi⟩ := Option.bind_eq_some_iff.1 hx
    rw [lookJ] at h
    split at h
    · cases h
    · exact looks_get h hi
  | obj ns xs =>
    obtain ⟨i, _, hi⟩ := Option.bind_eq_some_iff.1 hx
    rw [lookJ] at h
    split at h
    · cases h
    · exact looko_get h hi
  | _ => cases hx
theorem sm_next {j x : J} {s : List UInt8} (h : smJ j) (hx : nextJ j s = some x) : smJ x := by
  unfold nextJ at hx
  cases j with
  | list xs =>
    obtain ⟨i, _, hi⟩ := Option.bind_eq_some_iff.1 hx
    rw [smJ] at h
    exact smJs_get h.2 hi
  | obj ns xs =>
    obtain ⟨i, _, hi⟩ := Option.bind_eq_some_iff.1 hx
    rw [smJ] at h
    exact smJs_get h.2.2 hi
  | _ => cases hx
def getP (p : List UInt8) (j : J) : Option J := if lookJ j 0 = 0 then (stepsL p).bind fun l => getJ l j else none
end Go.Proofs.YtacogbfgegcliaaGreatDoor
namespace Go.Proofs.YtacogbfgegcliaaGreatDoor
open Go.RowKit Go.TL
set_option maxRecDepth 100000

theorem pmember1_gives (s nm : List UInt8) (v : Value) (b : Nat) (g : Gh) (L : List Ent) : Gives Tryz.prog 134 #[.agg #[str s, v], .pointer (some ⟨b, 0, none⟩)] g (.obj b (.cells [str nm].toArray 9 (0, 0)) :: L) (.bool (decide (s = nm))) := by
  refine .of (Does.of2 Tryz.func134 rfl Tryz.ntmps134 rfl ?_)
  repeat' (first
    | ((with_reducible apply TL.pure); (· exact yV); (· rfl)) | ((with_reducible apply TW.pure); (· exact yV); (· rfl))
    | ((with_reducible apply TL.pure); (· exact yA); (· rfl))
    | refine TC.seq ?_ | refine TC.region ?_ | refine TL.nil ?_ | refine TQ.then_normal ?_
    | ((with_reducible apply TL.storeE); (· rfl); (· rfl); (· rfl); (· exact pkA); (· infer_instance)) | ((with_reducible apply TL.store_whole); (· rfl); (· rfl); (· exact oneA); (· rfl); (· exact pkA); (· rfl))
    | refine TC.block ?_ | refine TC.ret ?_ | refine TC.skip ?_ | refine TC.exit ?_ | refine TC.cond rfl ?_
    | refine TQ.down ?_ | refine TQ.in_exit' rfl ?_
    | refine TL.guard_yes rfl rfl ?_ | refine TL.guard_no rfl rfl rfl rfl ?_ | refine TL.guard_no0 rfl rfl rfl ?_ | refine TL.guard_undef rfl rfl rfl ?_ | refine TL.guard_undef0 rfl rfl ?_ | refine TL.guard rfl rfl rfl ?_
    | refine Br.t rfl ?_ | refine Br.f rfl ?_ | refine Br.ky kpA ?_ | refine Br.kn kpA ?_ | refine Br.nky kpA ?_ | refine Br.nkn kpA ?_
    | refine Br.eq0 (fun _ => ?_) (fun _ => ?_) | refine Br.neq0 (fun _ => ?_) (fun _ => ?_) | refine Br.eq (fun _ => ?_) (fun _ => ?_) | refine Br.neq (fun _ => ?_) (fun _ => ?_) | refine Br.not (fun _ => ?_) (fun _ => ?_) | refine Br.dec (fun _ => ?_) (fun _ => ?_) | refine Br.bool (fun _ => ?_) (fun _ => ?_)
    | ((with_reducible apply TL.alloc_ag); (· rfl); intro _) | ((with_reducible apply TL.alloc_sc); (· rfl); (· rfl); intro _) | ((with_reducible apply TL.box_ag); (· rfl); (· rfl); intro _) | ((with_reducible apply TL.box_sc); (· rfl); (· rfl); (· rfl); intro _))
  refine TQ.endR1 (L' := (.obj b (.cells [str nm].toArray 9 (0, 0)) :: L)) Tryz.results134 rvA rfl (.refl _) ?_ selA
  exact ⟨rfl, rfl, rfl⟩
set_option maxHeartbeats 8000000 in
theorem indexMp_gives (ns : List (List UInt8)) (nm : List UInt8) (ao : Option Addr) (n cap b : Nat) (flat : List Value) (g : Gh) (L : List Ent) (hl : ns.length = n) (hn : n ≤ 1000000000) (hS : Sl g (.slice ao n cap) n 2 flat) (hM : Mem ns n flat) :
    Gives Tryz.prog 133 #[.slice ao n cap, .func (.func 134) #[] #[.pointer (some ⟨b, 0, none⟩)]] g (.obj b (.cells [str nm].toArray 9 (0, 0)) :: L) (.int .i64 (idxL nm ns 0)) := by
  refine .of (Does.of2 Tryz.func133 rfl Tryz.ntmps133 rfl ?_)
  obtain ⟨R, hR⟩ : ∃ R, R = idxL nm ns 0 := ⟨_, rfl⟩
  rw [← hR]
  repeat' (first
    | ((with_reducible apply TL.pure); (· exact yA); (· rfl))
    | refine TC.seq ?_ | refine TC.region ?_ | refine TL.nil ?_ | refine TQ.then_normal ?_
    | ((with_reducible apply TL.storeE); (· rfl); (· rfl); (· rfl); (· exact pkA); (· infer_instance)) | ((with_reducible apply TL.store_whole); (· rfl); (· rfl); (· exact oneA); (· rfl); (· exact pkA); (· rfl))
    | refine TC.block ?_ | refine TC.ret ?_ | refine TC.skip ?_ | refine TC.exit ?_ | refine TC.cond rfl ?_
    | refine TQ.down ?_ | refine TQ.in_exit' rfl ?_
    | refine TL.guard_yes rfl rfl ?_ | refine TL.guard_no rfl rfl rfl rfl ?_ | refine TL.guard_no0 rfl rfl rfl ?_ | refine TL.guard_undef rfl rfl rfl ?_ | refine TL.guard_undef0 rfl rfl ?_ | refine TL.guard rfl rfl rfl ?_
    | refine Br.t rfl ?_ | refine Br.f rfl ?_ | refine Br.ky kpA ?_ | refine Br.kn kpA ?_ | refine Br.nky kpA ?_ | refine Br.nkn kpA ?_
    | refine Br.eq0 (fun _ => ?_) (fun _ => ?_) | refine Br.neq0 (fun _ => ?_) (fun _ => ?_) | refine Br.eq (fun _ => ?_) (fun _ => ?_) | refine Br.neq (fun _ => ?_) (fun _ => ?_) | refine Br.not (fun _ => ?_) (fun _ => ?_) | refine Br.dec (fun _ => ?_) (fun _ => ?_) | refine Br.bool (fun _ => ?_) (fun _ => ?_)
    | ((with_reducible apply TL.alloc_ag); (· rfl); intro _) | ((with_reducible apply TL.alloc_sc); (· rfl); (· rfl); intro _) | ((with_reducible apply TL.box_ag); (· rfl); (· rfl); intro _) | ((with_reducible apply TL.box_sc); (· rfl); (· rfl); (· rfl); intro _))
  refine TC.loopK (fun i : Nat => i ≤ n ∧ idxL nm (ns.drop i) i = R) (fun i => n - i) (fun i _ => [(8, .int .i64 (i : Nat)), (7, .int .i64 (n : Nat)), (0, .slice ao n cap), (1, .func (.func 134) #[] #[.pointer (some ⟨b, 0, none⟩)])]) [] (by repeat (first | apply Drop.nil | apply Drop.cons (by (repeat (first | apply Pick.here | apply Pick.there))))) (fun _ L => L) 0 ⟨Nat.zero_le _, hR.symm⟩ subA selA ?_
  clear hR
  rintro i ⟨hi, hR⟩
  try dsimp only at hi hR ⊢
  by_cases hlt : i < n
  · obtain ⟨s, v, hns, h0, h1⟩ := hM i hlt
    obtain ⟨b1, o1, rfl, hg⟩ := hS.elem hlt (by decide)
    have hld : ∀ j u, [str s, v][j]? = some u → g.cell b1 (o1 + i * 2 + j) = some u := fun j u hu => by
      match j, hu with
      | 0, hu => simp at hu; subst hu; exact hg 0 _ h0
      | 1, hu => simp at hu; subst hu; exact hg 1 _ h1
      | j + 2, hu => simp at hu
    have hll : [str s, v].length = 2 := rfl
    rw [idxL_at hns] at hR
    clear hM hS hg h0 h1
    by_cases he : s = nm
    · have A : Gives Tryz.prog 134 #[.agg #[str s, v], .pointer (some ⟨b, 0, none⟩)] g (.obj b (.cells [str nm].toArray 9 (0, 0)) :: L) (.bool true) := by
        have := pmember1_gives s nm v b g L
        rw [decide_eq_true he] at this; exact this
      rw [if_pos he] at hR
      subst hR
      clear he
      repeat' (first
    | ((with_reducible apply TL.pure); (· exact yV); (· rfl)) | ((with_reducible apply TW.pure); (· exact yV); (· rfl))
    | refine TL.gives (Enters.func (by rfl) (by kernel_rfl) (by rfl)) (A) (by rfl) ?_ | refine TW.gives (Enters.func (by rfl) (by kernel_rfl) (by rfl)) (A) (by rfl) ?_
    | ((with_reducible apply TL.pure); (· exact yA); (· rfl))
    | refine TC.seq ?_ | refine TC.region ?_ | refine TL.nil ?_ | refine TQ.then_normal ?_
    | ((with_reducible apply TL.storeE); (· rfl); (· rfl); (· rfl); (· exact pkA); (· infer_instance)) | ((with_reducible apply TL.store_whole); (· rfl); (· rfl); (· exact oneA); (· rfl); (· exact pkA); (· rfl))
    | refine TC.block ?_ | refine TC.ret ?_ | refine TC.skip ?_ | refine TC.exit ?_ | refine TC.cond rfl ?_
    | refine TQ.down ?_ | refine TQ.in_exit' rfl ?_
    | refine TL.guard_yes rfl rfl ?_ | refine TL.guard_no rfl rfl rfl rfl ?_ | refine TL.guard_no0 rfl rfl rfl ?_ | refine TL.guard_undef rfl rfl rfl ?_ | refine TL.guard_undef0 rfl rfl ?_ | refine TL.guard rfl rfl rfl ?_
    | refine Br.t rfl ?_ | refine Br.f rfl ?_ | refine Br.ky kpA ?_ | refine Br.kn kpA ?_ | refine Br.nky kpA ?_ | refine Br.nkn kpA ?_
    | refine Br.eq0 (fun _ => ?_) (fun _ => ?_) | refine Br.neq0 (fun _ => ?_) (fun _ => ?_) | refine Br.eq (fun _ => ?_) (fun _ => ?_) | refine Br.neq (fun _ => ?_) (fun _ => ?_) | refine Br.not (fun _ => ?_) (fun _ => ?_) | refine Br.dec (fun _ => ?_) (fun _ => ?_) | refine Br.bool (fun _ => ?_) (fun _ => ?_)
    | ((with_reducible apply TL.alloc_ag); (· rfl); intro _) | ((with_reducible apply TL.alloc_sc); (· rfl); (· rfl); intro _) | ((with_reducible apply TL.box_ag); (· rfl); (· rfl); intro _) | ((with_reducible apply TL.box_sc); (· rfl); (· rfl); (· rfl); intro _))
      refine TQ.endR1 (L' := (.obj b (.cells [str nm].toArray 9 (0, 0)) :: L)) Tryz.results133 rvA rfl (.refl _) ?_ selA
      exact ⟨rfl, rfl, rfl⟩
    · have A : Gives Tryz.prog 134 #[.agg #[str s, v], .pointer (some ⟨b, 0, none⟩)] g (.obj b (.cells [str nm].toArray 9 (0, 0)) :: L) (.bool false) := by
        have := pmember1_gives s nm v b g L
        rw [decide_eq_false he] at this; exact this
      rw [if_neg he] at hR
      have HR : Hn _ := ⟨hR⟩
      clear he hR
      repeat' (first
    | ((with_reducible apply TL.pure); (· exact yV); (· rfl)) | ((with_reducible apply TW.pure); (· exact yV); (· rfl))
    | refine TL.gives (Enters.func (by rfl) (by kernel_rfl) (by rfl)) (A) (by rfl) ?_ | refine TW.gives (Enters.func (by rfl) (by kernel_rfl) (by rfl)) (A) (by rfl) ?_
    | ((with_reducible apply TL.pure); (· exact yA); (· rfl))
    | refine TC.seq ?_ | refine TC.region ?_ | refine TL.nil ?_ | refine TQ.then_normal ?_
    | ((with_reducible apply TL.storeE); (· rfl); (· rfl); (· rfl); (· exact pkA); (· infer_instance)) | ((with_reducible apply TL.store_whole); (· rfl); (· rfl); (· exact oneA); (· rfl); (· exact pkA); (· rfl))
    | refine TC.block ?_ | refine TC.ret ?_ | refine TC.skip ?_ | refine TC.exit ?_ | refine TC.cond rfl ?_
    | refine TQ.down ?_ | refine TQ.in_exit' rfl ?_
    | refine TL.guard_yes rfl rfl ?_ | refine TL.guard_no rfl rfl rfl rfl ?_ | refine TL.guard_no0 rfl rfl rfl ?_ | refine TL.guard_undef rfl rfl rfl ?_ | refine TL.guard_undef0 rfl rfl ?_ | refine TL.guard rfl rfl rfl ?_
    | refine Br.t rfl ?_ | refine Br.f rfl ?_ | refine Br.ky kpA ?_ | refine Br.kn kpA ?_ | refine Br.nky kpA ?_ | refine Br.nkn kpA ?_
    | refine Br.eq0 (fun _ => ?_) (fun _ => ?_) | refine Br.neq0 (fun _ => ?_) (fun _ => ?_) | refine Br.eq (fun _ => ?_) (fun _ => ?_) | refine Br.neq (fun _ => ?_) (fun _ => ?_) | refine Br.not (fun _ => ?_) (fun _ => ?_) | refine Br.dec (fun _ => ?_) (fun _ => ?_) | refine Br.bool (fun _ => ?_) (fun _ => ?_)
    | ((with_reducible apply TL.alloc_ag); (· rfl); intro _) | ((with_reducible apply TL.alloc_sc); (· rfl); (· rfl); intro _) | ((with_reducible apply TL.box_ag); (· rfl); (· rfl); intro _) | ((with_reducible apply TL.box_sc); (· rfl); (· rfl); (· rfl); intro _))
      refine TQ.round (i + 1) ?_ ?_ rfl subA selA
      · exact ⟨by omega, HR.out⟩
      · show n - (i + 1) < n - i
        omega
  · obtain rfl : i = n := by omega
    rw [← hl, List.drop_length, idxL] at hR
    subst hR
    clear hM hS
    repeat' (first
    | ((with_reducible apply TL.pure); (· exact yA); (· rfl))
    | refine TC.seq ?_ | refine TC.region ?_ | refine TL.nil ?_ | refine TQ.then_normal ?_
    | ((with_reducible apply TL.storeE); (· rfl); (· rfl); (· rfl); (· exact pkA); (· infer_instance)) | ((with_reducible apply TL.store_whole); (· rfl); (· rfl); (· exact oneA); (· rfl); (· exact pkA); (· rfl))
    | refine TC.block ?_ | refine TC.ret ?_ | refine TC.skip ?_ | refine TC.exit ?_ | refine TC.cond rfl ?_
    | refine TQ.down ?_ | refine TQ.in_exit' rfl ?_
    | refine TL.guard_yes rfl rfl ?_ | refine TL.guard_no rfl rfl rfl rfl ?_ | refine TL.guard_no0 rfl rfl rfl ?_ | refine TL.guard_undef rfl rfl rfl ?_ | refine TL.guard_undef0 rfl rfl ?_ | refine TL.guard rfl rfl rfl ?_
    | refine Br.t rfl ?_ | refine Br.f rfl ?_ | refine Br.ky kpA ?_ | refine Br.kn kpA ?_ | refine Br.nky kpA ?_ | refine Br.nkn kpA ?_
    | refine Br.eq0 (fun _ => ?_) (fun _ => ?_) | refine Br.neq0 (fun _ => ?_) (fun _ => ?_) | refine Br.eq (fun _ => ?_) (fun _ => ?_) | refine Br.neq (fun _ => ?_) (fun _ => ?_) | refine Br.not (fun _ => ?_) (fun _ => ?_) | refine Br.dec (fun _ => ?_) (fun _ => ?_) | refine Br.bool (fun _ => ?_) (fun _ => ?_)
    | ((with_reducible apply TL.alloc_ag); (· rfl); intro _) | ((with_reducible apply TL.alloc_sc); (· rfl); (· rfl); intro _) | ((with_reducible apply TL.box_ag); (· rfl); (· rfl); intro _) | ((with_reducible apply TL.box_sc); (· rfl); (· rfl); (· rfl); intro _))
    refine TQ.endR1 (L' := (.obj b (.cells [str nm].toArray 9 (0, 0)) :: L)) Tryz.results133 rvA rfl (.refl _) ?_ selA
    exact ⟨rfl, rfl, rfl⟩
theorem idxL_idxN (nm : List UInt8) : ∀ (ns : List (List UInt8)) (i : Nat), idxL nm ns i = match idxN ns nm with | some k => ((i + k : Nat) : Int) | none => -1
  | [], i => rfl
  | n :: r, i => by
    rw [idxL, idxN]
    by_cases h : n = nm
    · rw [if_pos h, if_pos h]; rfl
    · rw [if_neg h, if_neg h, idxL_idxN nm r (i + 1)]
      cases idxN r nm with
      | none => rfl
      | some k => show ((i + 1 + k : Nat) : Int) = ((i + (k + 1) : Nat) : Int); omega
def idxV (ns : List (List UInt8)) (nm : List UInt8) : Int := match idxN ns nm with | some k => (k : Int) | none => -1
theorem pmember_gives (ns : List (List UInt8)) (nm : List UInt8) (ao : Option Addr) (n cap : Nat) (flat : List Value) (g : Gh) (L : List Ent) (hl : ns.length = n) (hn : n ≤ 1000000000) (hS : Sl g (.slice ao n cap) n 2 flat) (hM : Mem ns n flat) :
    Gives Tryz.prog 100 #[.slice ao n cap, str nm] g L (.int .i64 (idxV ns nm)) := by
  refine .of (Does.of2 Tryz.func100 rfl Tryz.ntmps100 rfl ?_)
  have A := fun b L => indexMp_gives ns nm ao n cap b flat g L hl hn hS hM
  rw [idxL_idxN] at A
  simp only [Nat.zero_add] at A
  clear hS hM
  repeat' (first
    | ((with_reducible apply TL.gives_plain); (· kernel_rfl); (· rfl); (· exact A _ _); (· rfl)) | ((with_reducible apply TW.gives_plain); (· kernel_rfl); (· rfl); (· exact A _ _); (· rfl))
    | ((with_reducible apply TL.pure); (· exact yA); (· rfl))
    | refine TC.seq ?_ | refine TC.region ?_ | refine TL.nil ?_ | refine TQ.then_normal ?_
    | ((with_reducible apply TL.storeE); (· rfl); (· rfl); (· rfl); (· exact pkA); (· infer_instance)) | ((with_reducible apply TL.store_whole); (· rfl); (· rfl); (· exact oneA); (· rfl); (· exact pkA); (· rfl))
    | refine TC.block ?_ | refine TC.ret ?_ | refine TC.skip ?_ | refine TC.exit ?_ | refine TC.cond rfl ?_
    | refine TQ.down ?_ | refine TQ.in_exit' rfl ?_
    | refine TL.guard_yes rfl rfl ?_ | refine TL.guard_no rfl rfl rfl rfl ?_ | refine TL.guard_no0 rfl rfl rfl ?_ | refine TL.guard_undef rfl rfl rfl ?_ | refine TL.guard_undef0 rfl rfl ?_ | refine TL.guard rfl rfl rfl ?_
    | refine Br.t rfl ?_ | refine Br.f rfl ?_ | refine Br.ky kpA ?_ | refine Br.kn kpA ?_ | refine Br.nky kpA ?_ | refine Br.nkn kpA ?_
    | refine Br.eq0 (fun _ => ?_) (fun _ => ?_) | refine Br.neq0 (fun _ => ?_) (fun _ => ?_) | refine Br.eq (fun _ => ?_) (fun _ => ?_) | refine Br.neq (fun _ => ?_) (fun _ => ?_) | refine Br.not (fun _ => ?_) (fun _ => ?_) | refine Br.dec (fun _ => ?_) (fun _ => ?_) | refine Br.bool (fun _ => ?_) (fun _ => ?_)
    | ((with_reducible apply TL.alloc_ag); (· rfl); intro _) | ((with_reducible apply TL.alloc_sc); (· rfl); (· rfl); intro _) | ((with_reducible apply TL.box_ag); (· rfl); (· rfl); intro _) | ((with_reducible apply TL.box_sc); (· rfl); (· rfl); (· rfl); intro _))
  refine TQ.endR1 (L' := L) Tryz.results100 rvA rfl (.refl _) ?_ selA
  exact ⟨rfl, rfl, rfl⟩
end Go.Proofs.YtacogbfgegcliaaGreatDoor
