/-
  The walk of an object's has. The walks of shape's names, slices.Index over strings.
-/
import Derived.Test.YtklmfbildebimaaGreatDoorSr2
import Derived.Test.YtklmfbildebimaaGreatDoorSr24
import Derived.Test.YtklmfbildebimaaGreatDoorSr22
import Derived.Test.YtklmfbildebimaaGreatDoorSr23
namespace Go.Proofs.YtklmfbildebimaaGreatDoor
open Go.RowKit Go.TL
set_option maxRecDepth 100000

theorem has1_gives (s nm : List UInt8) (v : Value) (b : Nat) (g : Gh) (L : List Ent) : Gives Tryz.prog 101 #[.agg #[str s, v], .pointer (some ⟨b, 0, none⟩)] g (.obj b (.cells [str nm].toArray 9 (0, 0)) :: L) (.bool (decide (s = nm))) := by
  refine .of (Does.of2 Tryz.func101 rfl Tryz.ntmps101 rfl ?_)
  repeat' (first
    | refine wkV ?_
    | refine stS ?_ | (refine stB ?_; intro _) | (refine stC ?_; refine And.intro (fun _ => ?_) (fun _ => ?_)))
  refine TQ.endR1 (L' := (.obj b (.cells [str nm].toArray 9 (0, 0)) :: L)) Tryz.results101 rvA rfl (.refl _) ?_ selA
  exact ⟨rfl, rfl, rfl⟩
def idxL (nm : List UInt8) : List (List UInt8) → Nat → Int
  | [], _ => -1
  | n :: r, i => if n = nm then (i : Int) else idxL nm r (i + 1)
theorem idxL_at {nm s : List UInt8} {ns : List (List UInt8)} {i : Nat} (h : ns[i]? = some s) : idxL nm (ns.drop i) i = if s = nm then (i : Int) else idxL nm (ns.drop (i + 1)) (i + 1) := by
  obtain ⟨hi, he⟩ := List.getElem?_eq_some_iff.1 h
  rw [List.drop_eq_getElem_cons hi, he, idxL]
theorem idxL_bd (nm : List UInt8) : ∀ (ns : List (List UInt8)) (i : Nat), -1 ≤ idxL nm ns i ∧ idxL nm ns i ≤ i + ns.length
  | [], i => by rw [idxL]; simp
  | n :: r, i => by
    have := idxL_bd nm r (i + 1)
    rw [idxL, List.length_cons]
    split <;> omega
theorem idxL_mem (nm : List UInt8) : ∀ (ns : List (List UInt8)) (i : Nat), decide (0 ≤ idxL nm ns i) = decide (nm ∈ ns)
  | [], i => by rw [idxL]; simp
  | n :: r, i => by
    have := idxL_mem nm r (i + 1)
    rw [idxL]
    by_cases h : n = nm
    · subst h; rw [if_pos rfl]; simp
    · rw [if_neg h, this]
      have h2 : ¬ nm = n := fun e => h e.symm
      simp [h2]
def Mem (ns : List (List UInt8)) (n : Nat) (flat : List Value) : Prop := ∀ i, i < n → ∃ s v, ns[i]? = some s ∧ flat[i * 2]? = some (str s) ∧ flat[i * 2 + 1]? = some v
set_option maxHeartbeats 8000000 in
theorem indexM_gives (ns : List (List UInt8)) (nm : List UInt8) (ao : Option Addr) (n cap b : Nat) (flat : List Value) (g : Gh) (L : List Ent) (hl : ns.length = n) (_hn : n ≤ 1000000000) (hS : Sl g (.slice ao n cap) n 2 flat) (hM : Mem ns n flat) :
    Gives Tryz.prog 120 #[.slice ao n cap, .func (.func 101) #[] #[.pointer (some ⟨b, 0, none⟩)]] g (.obj b (.cells [str nm].toArray 9 (0, 0)) :: L) (.int .i64 (idxL nm ns 0)) := by
  refine .of (Does.of2 Tryz.func120 rfl Tryz.ntmps120 rfl ?_)
  obtain ⟨R, hR⟩ : ∃ R, R = idxL nm ns 0 := ⟨_, rfl⟩
  rw [← hR]
  repeat' (first
    | refine stS ?_ | (refine stB ?_; intro _) | (refine stC ?_; refine And.intro (fun _ => ?_) (fun _ => ?_)))
  refine TC.loopK (fun i : Nat => i ≤ n ∧ idxL nm (ns.drop i) i = R) (fun i => n - i) (fun i _ => [(8, .int .i64 (i : Nat)), (7, .int .i64 (n : Nat)), (0, .slice ao n cap), (1, .func (.func 101) #[] #[.pointer (some ⟨b, 0, none⟩)])]) [] (by repeat (first | apply Drop.nil | apply Drop.cons (by (repeat (first | apply Pick.here | apply Pick.there))))) (fun _ L => L) 0 ⟨Nat.zero_le _, hR.symm⟩ subA selA ?_
  clear hR
  rintro i ⟨hi, hR⟩
  try dsimp only at hi hR ⊢
  by_cases hlt : i < n
  · obtain ⟨s, v, hns, h0, h1⟩ := hM i hlt
    obtain ⟨b1, o1, rfl, hg⟩ := hS.elem hlt (by decide)
    have hld : ∀ j u, [str s, v][j]? = some u → g.cell b1 (o1 + i * 2 + j) = some u := fun j u hu => by
      match j, hu with
      | 0, hu => simp at hu; subst hu; exact hg 0 _ h0
      | 1, hu => simp at hu; subst hu; exact hg 1 _ h1
      | j + 2, hu => simp at hu
    have hll : [str s, v].length = 2 := rfl
    rw [idxL_at hns] at hR
    clear hM hS hg h0 h1
    by_cases he : s = nm
    · have A : Gives Tryz.prog 101 #[.agg #[str s, v], .pointer (some ⟨b, 0, none⟩)] g (.obj b (.cells [str nm].toArray 9 (0, 0)) :: L) (.bool true) := by
        have := has1_gives s nm v b g L
        rw [decide_eq_true he] at this; exact this
      rw [if_pos he] at hR
      subst hR
      clear he
      repeat' (first
    | refine wkV ?_
    | refine TL.gives (Enters.func (by rfl) (by kernel_rfl) (by rfl)) (A) (by rfl) ?_ | refine TW.gives (Enters.func (by rfl) (by kernel_rfl) (by rfl)) (A) (by rfl) ?_
    | refine stS ?_ | (refine stB ?_; intro _) | (refine stC ?_; refine And.intro (fun _ => ?_) (fun _ => ?_)))
      refine TQ.endR1 (L' := (.obj b (.cells [str nm].toArray 9 (0, 0)) :: L)) Tryz.results120 rvA rfl (.refl _) ?_ selA
      exact ⟨rfl, rfl, rfl⟩
    · have A : Gives Tryz.prog 101 #[.agg #[str s, v], .pointer (some ⟨b, 0, none⟩)] g (.obj b (.cells [str nm].toArray 9 (0, 0)) :: L) (.bool false) := by
        have := has1_gives s nm v b g L
        rw [decide_eq_false he] at this; exact this
      rw [if_neg he] at hR
      have HR : Hn _ := ⟨hR⟩
      clear he hR
      repeat' (first
    | refine wkV ?_
    | refine TL.gives (Enters.func (by rfl) (by kernel_rfl) (by rfl)) (A) (by rfl) ?_ | refine TW.gives (Enters.func (by rfl) (by kernel_rfl) (by rfl)) (A) (by rfl) ?_
    | refine stS ?_ | (refine stB ?_; intro _) | (refine stC ?_; refine And.intro (fun _ => ?_) (fun _ => ?_)))
      refine TQ.round (i + 1) ?_ ?_ rfl subA selA
      · exact ⟨by omega, HR.out⟩
      · show n - (i + 1) < n - i
        omega
  · obtain rfl : i = n := by omega
    rw [← hl, List.drop_length, idxL] at hR
    subst hR
    clear hM hS
    repeat' (first
    | refine stS ?_ | (refine stB ?_; intro _) | (refine stC ?_; refine And.intro (fun _ => ?_) (fun _ => ?_)))
    refine TQ.endR1 (L' := (.obj b (.cells [str nm].toArray 9 (0, 0)) :: L)) Tryz.results120 rvA rfl (.refl _) ?_ selA
    exact ⟨rfl, rfl, rfl⟩
theorem containsM_gives (ns : List (List UInt8)) (nm : List UInt8) (ao : Option Addr) (n cap b : Nat) (flat : List Value) (g : Gh) (L : List Ent) (hl : ns.length = n) (hn : n ≤ 1000000000) (hS : Sl g (.slice ao n cap) n 2 flat) (hM : Mem ns n flat) :
    Gives Tryz.prog 100 #[.slice ao n cap, .func (.func 101) #[] #[.pointer (some ⟨b, 0, none⟩)]] g (.obj b (.cells [str nm].toArray 9 (0, 0)) :: L) (.bool (decide (nm ∈ ns))) := by
  refine .of (Does.of2 Tryz.func100 rfl Tryz.ntmps100 rfl ?_)
  have A := indexM_gives ns nm ao n cap b flat g L hl hn hS hM
  have hb := idxL_bd nm ns 0
  rw [← idxL_mem nm ns 0]
  generalize idxL nm ns 0 = k at *
  clear hS hM
  repeat' (first
    | ((with_reducible apply TL.gives_plain); (· kernel_rfl); (· rfl); (· exact A); (· rfl)) | ((with_reducible apply TW.gives_plain); (· kernel_rfl); (· rfl); (· exact A); (· rfl))
    | refine stS ?_ | (refine stB ?_; intro _) | (refine stC ?_; refine And.intro (fun _ => ?_) (fun _ => ?_)))
  refine TQ.endR1 (L' := (.obj b (.cells [str nm].toArray 9 (0, 0)) :: L)) Tryz.results100 rvA rfl (.refl _) ?_ selA
  exact ⟨rfl, rfl, rfl⟩
theorem has_gives (ns : List (List UInt8)) (nm : List UInt8) (ao : Option Addr) (n cap : Nat) (flat : List Value) (g : Gh) (L : List Ent) (hl : ns.length = n) (hn : n ≤ 1000000000) (hS : Sl g (.slice ao n cap) n 2 flat) (hM : Mem ns n flat) :
    Gives Tryz.prog 82 #[.slice ao n cap, str nm] g L (.bool (decide (nm ∈ ns))) := by
  refine .of (Does.of2 Tryz.func82 rfl Tryz.ntmps82 rfl ?_)
  have A := fun b L => containsM_gives ns nm ao n cap b flat g L hl hn hS hM
  clear hS hM
  repeat' (first
    | ((with_reducible apply TL.gives_plain); (· kernel_rfl); (· rfl); (· exact A _ _); (· rfl)) | ((with_reducible apply TW.gives_plain); (· kernel_rfl); (· rfl); (· exact A _ _); (· rfl))
    | refine stS ?_ | (refine stB ?_; intro _) | (refine stC ?_; refine And.intro (fun _ => ?_) (fun _ => ?_)))
  refine TQ.endR1 (L' := L) Tryz.results82 rvA rfl (.refl _) ?_ selA
  exact ⟨rfl, rfl, rfl⟩
end Go.Proofs.YtklmfbildebimaaGreatDoor
namespace Go.Proofs.YtklmfbildebimaaGreatDoor
open Go.RowKit Go.TL
set_option maxRecDepth 100000

abbrev pointB : List UInt8 := [80, 111, 105, 110, 116]
abbrev lineB : List UInt8 := [76, 105, 110, 101, 83, 116, 114, 105, 110, 103]
abbrev polyB : List UInt8 := [80, 111, 108, 121, 103, 111, 110]
abbrev kindsB : List (List UInt8) := [pointB, lineB, polyB]
theorem snames_gives (g : Gh) (L : List Ent) : Gives Tryz.prog 51 #[] g L (.agg #[str pointB, str lineB, str polyB]) := by
  refine .of (Does.of0 Tryz.func51 rfl Tryz.ntmps51 rfl ?_)
  repeat' (first
    | refine wkQ ?_
    | ((with_reducible apply TL.pure (d := 1) (v := .agg #[str pointB, str lineB, str polyB])); (· exact Y.build_three rfl rfl rfl rfl rfl rfl); (· rfl)) | ((with_reducible apply TW.pure (d := 1) (v := .agg #[str pointB, str lineB, str polyB])); (· exact Y.build_three rfl rfl rfl rfl rfl rfl); (· rfl))
    | refine wkV ?_
    | refine stS ?_ | (refine stB ?_; intro _) | (refine stC ?_; refine And.intro (fun _ => ?_) (fun _ => ?_)))
  try refine TQ.end_normal ?_
  refine TQ.endR1 (L' := L) Tryz.results51 rvA rfl (.refl _) ?_ selF
  exact ⟨rfl, rfl, rfl⟩
set_option maxHeartbeats 8000000 in
theorem indexS_gives (ns : List (List UInt8)) (nm : List UInt8) (v : Value) (g : Gh) (L : List Ent) (hS : Sl g v ns.length 1 (strs ns)) (_hl : ns.length ≤ 1000000) : Gives Tryz.prog 52 #[v, str nm] g L (.int .i64 (idxL nm ns 0)) := by
  refine .of (Does.of2 Tryz.func52 rfl Tryz.ntmps52 rfl ?_)
  obtain ⟨ao, cap, rfl⟩ := hS.slice
  obtain ⟨R, hR⟩ : ∃ R, R = idxL nm (ns.drop 0) 0 := ⟨_, rfl⟩
  rw [show idxL nm ns 0 = R from hR.symm]
  repeat' (first
    | refine wkQ ?_
    | refine wkV ?_
    | refine stS ?_ | (refine stB ?_; intro _) | (refine stC ?_; refine And.intro (fun _ => ?_) (fun _ => ?_)))
  refine TC.loopK (fun i : Nat => i ≤ ns.length ∧ idxL nm (ns.drop i) i = R) (fun i => ns.length - i) (fun i _ => [(8, .int .i64 (i : Nat)), (7, .int .i64 (ns.length : Nat)), (0, .slice ao ns.length cap), (1, str nm)]) [] .nil (fun _ L => L) 0 ⟨Nat.zero_le _, hR.symm⟩ subA selF ?_
  clear hR
  rintro i ⟨hi, hR⟩
  try dsimp only at hi hR ⊢
  by_cases hlt : i < ns.length
  · obtain ⟨s, hs⟩ : ∃ s, ns[i]? = some s := ⟨_, List.getElem?_eq_getElem hlt⟩
    obtain ⟨b1, o1, rfl, hg⟩ := hS.elem hlt (by decide)
    have hld : g.cell b1 (o1 + i * 1) = some (str s) := hg 0 _ (by rw [Nat.mul_one]; show (ns.map str)[i]? = _; rw [List.getElem?_map, hs]; rfl)
    rw [idxL_at hs] at hR
    clear hS hg hs
    by_cases he : s = nm
    · have be : decide (nm = s) = true := decide_eq_true he.symm
      rw [if_pos he] at hR
      subst hR
      repeat' (first
    | refine wkQ ?_
    | ((with_reducible apply TL.pure (d := 16) (v := .bool true)); (· exact Y.eql_is be rfl rfl); (· rfl)) | ((with_reducible apply TW.pure (d := 16) (v := .bool true)); (· exact Y.eql_is be rfl rfl); (· rfl))
    | refine wkV ?_
    | ((with_reducible apply TL.pure); (· exact yM); (· rfl)) | ((with_reducible apply TW.pure); (· exact yM); (· rfl))
    | refine stS ?_ | (refine stB ?_; intro _) | (refine stC ?_; refine And.intro (fun _ => ?_) (fun _ => ?_)))
      refine TQ.endR1 (L' := L) Tryz.results52 rvA rfl (.refl _) ?_ selF
      exact ⟨rfl, rfl, rfl⟩
    · have be : decide (nm = s) = false := decide_eq_false fun h => he h.symm
      rw [if_neg he] at hR
      have HR := Hn.mk hR
      clear hR
      repeat' (first
    | refine wkQ ?_
    | ((with_reducible apply TL.pure (d := 16) (v := .bool false)); (· exact Y.eql_is be rfl rfl); (· rfl)) | ((with_reducible apply TW.pure (d := 16) (v := .bool false)); (· exact Y.eql_is be rfl rfl); (· rfl))
    | refine wkV ?_
    | ((with_reducible apply TL.pure); (· exact yM); (· rfl)) | ((with_reducible apply TW.pure); (· exact yM); (· rfl))
    | refine stS ?_ | (refine stB ?_; intro _) | (refine stC ?_; refine And.intro (fun _ => ?_) (fun _ => ?_)))
      refine TQ.round (i + 1) ?_ ?_ rfl subA selF
      · exact ⟨by omega, HR.out⟩
      · show ns.length - (i + 1) < ns.length - i
        omega
  · obtain rfl : i = ns.length := by omega
    rw [List.drop_length, idxL] at hR
    subst hR
    clear hS
    repeat' (first
    | refine wkQ ?_
    | refine wkV ?_
    | refine stS ?_ | (refine stB ?_; intro _) | (refine stC ?_; refine And.intro (fun _ => ?_) (fun _ => ?_)))
    refine TQ.endR1 (L' := L) Tryz.results52 rvA rfl (.refl _) ?_ selF
    exact ⟨rfl, rfl, rfl⟩
end Go.Proofs.YtklmfbildebimaaGreatDoor
