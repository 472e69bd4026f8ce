/-
  The walk of json.Field. A text gone through sign by sign, with a dot between. The walk of path.Steps.
-/
import Derived.Test.YthngolfabfijpaaGreatDoorHc2
import Derived.Test.YthngolfabfijpaaGreatDoorHc12
import Derived.Test.YthngolfabfijpaaGreatDoorHc10
import Derived.Test.YthngolfabfijpaaGreatDoorHc9
import Derived.Lib.MapLaws
import Derived.Test.YthngolfabfijpaaGreatDoorHc8
import Derived.Test.YthngolfabfijpaaGreatDoorHc0
namespace Go.Proofs.YthngolfabfijpaaGreatDoor
open Go.RowKit Go.TL
set_option maxRecDepth 100000

def fieldJ (j : J) (s : List UInt8) : Option J := match j with
  | .obj ns xs => (idxN ns s).bind (xs[·]?)
  | _ => none
set_option maxHeartbeats 16000000 in
theorem field_gives (x : J) (v : Value) (g : Gh) (nm : List UInt8) (hV : IsJ g x v) (hS : smJ x) : ∃ v' b, (∀ L, Gives Tryz.prog 77 #[v, str nm] g L (.tuple #[v', .bool b])) ∧ v'.one = true ∧ (match fieldJ x nm with
    | some y => b = true ∧ IsJ g y v'
    | none => b = false ∧ v' = .nilIface) := by
  cases x with
  | obj ns xs =>
    rw [IsJ] at hV
    obtain ⟨sl, flat, rfl, hSl, hMs⟩ := hV
    obtain ⟨ao, cap, rfl⟩ := hSl.slice
    rw [smJ] at hS
    obtain ⟨hl, hnl, hS⟩ := hS
    have hnx := hMs.len
    unfold fieldJ
    dsimp only
    cases hk : idxN ns nm with
    | none =>
      have hno := idxN_none hk
      refine ⟨_, false, fun L => .of (Does.of2 Tryz.func77 rfl Tryz.ntmps77 rfl ?_), rfl, rfl, rfl⟩
      repeat' (first
    | refine wkV ?_
    | refine stS ?_ | (refine stB ?_; intro _) | (refine stC ?_; refine And.intro (fun _ => ?_) (fun _ => ?_)))
      refine TC.loopK (fun i : Nat => i ≤ xs.length) (fun i => xs.length - i) (fun i _ => [(19, .int .i64 (i : Nat)), (18, .int .i64 (xs.length : Nat)), (17, .slice ao xs.length cap), (1, str nm)]) [] (by repeat (first | apply Drop.nil | apply Drop.cons (by (repeat (first | apply Pick.here | apply Pick.there))))) (fun _ L => L) 0 (Nat.zero_le _) subA selA ?_
      rintro i hi
      try dsimp only at hi ⊢
      by_cases hlt : i < xs.length
      · obtain ⟨x, hx⟩ : ∃ x, xs[i]? = some x := ⟨_, List.getElem?_eq_getElem (by omega)⟩
        obtain ⟨s, v, hns, hv0, hv1, hJ⟩ := hMs.get hx
        obtain ⟨b1, o1, rfl, hg⟩ := hSl.elem (i := i) (by omega) (by decide)
        have hld : ∀ j u, [str s, v][j]? = some u → g.cell b1 (o1 + i * 2 + j) = some u := fun j u hu => by
          match j, hu with
          | 0, hu => simp at hu; subst hu; exact hg 0 _ hv0
          | 1, hu => simp at hu; subst hu; exact hg 1 _ hv1
          | j + 2, hu => simp at hu
        have hll : [str s, v].length = 2 := rfl
        have hone := hJ.one
        have hne := hno s (List.mem_of_getElem? hns)
        clear hMs hSl hg hS hv0 hv1 hJ hno
        repeat' (first
    | refine wkV ?_
    | ((with_reducible apply TL.pure (d := 26) (v := .bool false)); (· exact Y.eql_is (decide_eq_false hne) rfl rfl); (· rfl)) | ((with_reducible apply TW.pure (d := 26) (v := .bool false)); (· exact Y.eql_is (decide_eq_false hne) rfl rfl); (· rfl))
    | refine wkP ?_
    | refine TC.seq ?_ | refine TC.region ?_ | refine TL.nil ?_ | refine TQ.then_normal ?_
    | ((with_reducible apply TL.storeE); (· rfl); (· rfl); (· rfl); (· exact pkA); (· infer_instance)) | ((with_reducible apply TL.store_whole); (· rfl); (· rfl); (· exact oneA); (· rfl); (· exact pkA); (· rfl))
    | refine TC.block ?_ | refine TC.ret ?_ | refine TC.skip ?_ | refine TC.exit ?_ | refine TC.cond rfl ?_
    | refine TQ.down ?_ | refine TQ.in_exit' rfl ?_
    | refine TL.guard_yes rfl rfl ?_ | refine TL.guard_no rfl rfl rfl rfl ?_ | refine TL.guard_no0 rfl rfl rfl ?_ | refine TL.guard_undef rfl rfl rfl ?_ | refine TL.guard_undef0 rfl rfl ?_ | refine TL.guard rfl rfl rfl ?_
    | refine Br.t rfl ?_ | refine Br.f rfl ?_ | refine Br.ky kpA ?_ | refine Br.kn kpA ?_ | refine Br.nky kpA ?_ | refine Br.nkn kpA ?_
    | refine Br.eq0 (fun _ => ?_) (fun _ => ?_) | refine Br.neq0 (fun _ => ?_) (fun _ => ?_) | refine Br.eq (fun _ => ?_) (fun _ => ?_) | refine Br.neq (fun _ => ?_) (fun _ => ?_) | refine Br.not (fun _ => ?_) (fun _ => ?_) | refine Br.dec (fun _ => ?_) (fun _ => ?_) | refine Br.bool (fun _ => ?_) (fun _ => ?_)
    | ((with_reducible apply TL.alloc_ag); (· rfl); intro _) | ((with_reducible apply TL.alloc_sc); (· rfl); (· rfl); intro _) | ((with_reducible apply TL.box_ag); (· rfl); (· rfl); intro _) | ((with_reducible apply TL.box_sc); (· rfl); (· rfl); (· rfl); intro _))
        refine TQ.round (i + 1) ?_ ?_ rfl subA selA
        · show i + 1 ≤ xs.length
          omega
        · show xs.length - (i + 1) < xs.length - i
          omega
      · obtain rfl : i = xs.length := by omega
        clear hMs hSl hS hno
        repeat' (first
    | refine stS ?_ | (refine stB ?_; intro _) | (refine stC ?_; refine And.intro (fun _ => ?_) (fun _ => ?_)))
        refine TQ.endR2 (L' := L) Tryz.results77 rvA rvA rfl (.refl _) ?_ selA
        exact ⟨rfl, rfl, rfl⟩
    | some k =>
      obtain ⟨hk1, hk2⟩ := idxN_some hk
      have hkl := idxN_lt hk
      obtain ⟨y, hy⟩ : ∃ y, xs[k]? = some y := ⟨_, List.getElem?_eq_getElem (by omega)⟩
      obtain ⟨s', v', hns', _, hv', hJ'⟩ := hMs.get hy
      have hb : (some k).bind (xs[·]?) = some y := hy
      rw [hb]
      refine ⟨v', true, fun L => .of (Does.of2 Tryz.func77 rfl Tryz.ntmps77 rfl ?_), hJ'.one, rfl, hJ'⟩
      have hone' := hJ'.one
      repeat' (first
    | refine wkV ?_
    | refine stS ?_ | (refine stB ?_; intro _) | (refine stC ?_; refine And.intro (fun _ => ?_) (fun _ => ?_)))
      refine TC.loopK (fun i : Nat => i ≤ k) (fun i => xs.length - i) (fun i _ => [(19, .int .i64 (i : Nat)), (18, .int .i64 (xs.length : Nat)), (17, .slice ao xs.length cap), (1, str nm)]) [] (by repeat (first | apply Drop.nil | apply Drop.cons (by (repeat (first | apply Pick.here | apply Pick.there))))) (fun _ L => L) 0 (Nat.zero_le _) subA selA ?_
      rintro i hi
      try dsimp only at hi ⊢
      by_cases hlt : i = k
      · subst hlt
        obtain rfl : s' = nm := by rw [hns'] at hk1; exact Option.some.inj hk1
        obtain ⟨b1, o1, rfl, hg⟩ := hSl.elem (i := i) (by omega) (by decide)
        have hld : ∀ j u, [str s', v'][j]? = some u → g.cell b1 (o1 + i * 2 + j) = some u := fun j u hu => by
          match j, hu with
          | 0, hu => simp at hu; subst hu; exact hg 0 _ (by assumption)
          | 1, hu => simp at hu; subst hu; exact hg 1 _ hv'
          | j + 2, hu => simp at hu
        have hll : [str s', v'].length = 2 := rfl
        have hlt : i < xs.length := by omega
        clear hMs hSl hg hS hv' hJ' hk2
        repeat' (first
    | refine wkV ?_
    | ((with_reducible apply TL.pure (d := 26) (v := .bool true)); (· exact Y.eql_is (decide_eq_true rfl) rfl rfl); (· rfl)) | ((with_reducible apply TW.pure (d := 26) (v := .bool true)); (· exact Y.eql_is (decide_eq_true rfl) rfl rfl); (· rfl))
    | refine wkP ?_
    | refine TC.seq ?_ | refine TC.region ?_ | refine TL.nil ?_ | refine TQ.then_normal ?_
    | ((with_reducible apply TL.storeE); (· rfl); (· rfl); (· rfl); (· exact pkA); (· infer_instance)) | ((with_reducible apply TL.store_whole); (· rfl); (· rfl); (· exact oneA); (· rfl); (· exact pkA); (· rfl))
    | refine TC.block ?_ | refine TC.ret ?_ | refine TC.skip ?_ | refine TC.exit ?_ | refine TC.cond rfl ?_
    | refine TQ.down ?_ | refine TQ.in_exit' rfl ?_
    | refine TL.guard_yes rfl rfl ?_ | refine TL.guard_no rfl rfl rfl rfl ?_ | refine TL.guard_no0 rfl rfl rfl ?_ | refine TL.guard_undef rfl rfl rfl ?_ | refine TL.guard_undef0 rfl rfl ?_ | refine TL.guard rfl rfl rfl ?_
    | refine Br.t rfl ?_ | refine Br.f rfl ?_ | refine Br.ky kpA ?_ | refine Br.kn kpA ?_ | refine Br.nky kpA ?_ | refine Br.nkn kpA ?_
    | refine Br.eq0 (fun _ => ?_) (fun _ => ?_) | refine Br.neq0 (fun _ => ?_) (fun _ => ?_) | refine Br.eq (fun _ => ?_) (fun _ => ?_) | refine Br.neq (fun _ => ?_) (fun _ => ?_) | refine Br.not (fun _ => ?_) (fun _ => ?_) | refine Br.dec (fun _ => ?_) (fun _ => ?_) | refine Br.bool (fun _ => ?_) (fun _ => ?_)
    | ((with_reducible apply TL.alloc_ag); (· rfl); intro _) | ((with_reducible apply TL.alloc_sc); (· rfl); (· rfl); intro _) | ((with_reducible apply TL.box_ag); (· rfl); (· rfl); intro _) | ((with_reducible apply TL.box_sc); (· rfl); (· rfl); (· rfl); intro _))
        refine TQ.endR2 (L' := L) Tryz.results77 rvA rvA rfl (.refl _) ?_ selA
        exact ⟨rfl, rfl, rfl⟩
      · obtain ⟨x, hx⟩ : ∃ x, xs[i]? = some x := ⟨_, List.getElem?_eq_getElem (by omega)⟩
        obtain ⟨s, v, hns, hv0, hv1, hJ⟩ := hMs.get hx
        obtain ⟨b1, o1, rfl, hg⟩ := hSl.elem (i := i) (by omega) (by decide)
        have hld : ∀ j u, [str s, v][j]? = some u → g.cell b1 (o1 + i * 2 + j) = some u := fun j u hu => by
          match j, hu with
          | 0, hu => simp at hu; subst hu; exact hg 0 _ hv0
          | 1, hu => simp at hu; subst hu; exact hg 1 _ hv1
          | j + 2, hu => simp at hu
        have hll : [str s, v].length = 2 := rfl
        have hone := hJ.one
        have hne : s ≠ nm := fun e => hk2 i (by omega) (by rw [hns, e])
        have hlt : i < xs.length := by omega
        clear hMs hSl hg hS hv0 hv1 hJ hk2 hJ'
        repeat' (first
    | refine wkV ?_
    | ((with_reducible apply TL.pure (d := 26) (v := .bool false)); (· exact Y.eql_is (decide_eq_false hne) rfl rfl); (· rfl)) | ((with_reducible apply TW.pure (d := 26) (v := .bool false)); (· exact Y.eql_is (decide_eq_false hne) rfl rfl); (· rfl))
    | refine wkP ?_
    | refine TC.seq ?_ | refine TC.region ?_ | refine TL.nil ?_ | refine TQ.then_normal ?_
    | ((with_reducible apply TL.storeE); (· rfl); (· rfl); (· rfl); (· exact pkA); (· infer_instance)) | ((with_reducible apply TL.store_whole); (· rfl); (· rfl); (· exact oneA); (· rfl); (· exact pkA); (· rfl))
    | refine TC.block ?_ | refine TC.ret ?_ | refine TC.skip ?_ | refine TC.exit ?_ | refine TC.cond rfl ?_
    | refine TQ.down ?_ | refine TQ.in_exit' rfl ?_
    | refine TL.guard_yes rfl rfl ?_ | refine TL.guard_no rfl rfl rfl rfl ?_ | refine TL.guard_no0 rfl rfl rfl ?_ | refine TL.guard_undef rfl rfl rfl ?_ | refine TL.guard_undef0 rfl rfl ?_ | refine TL.guard rfl rfl rfl ?_
    | refine Br.t rfl ?_ | refine Br.f rfl ?_ | refine Br.ky kpA ?_ | refine Br.kn kpA ?_ | refine Br.nky kpA ?_ | refine Br.nkn kpA ?_
    | refine Br.eq0 (fun _ => ?_) (fun _ => ?_) | refine Br.neq0 (fun _ => ?_) (fun _ => ?_) | refine Br.eq (fun _ => ?_) (fun _ => ?_) | refine Br.neq (fun _ => ?_) (fun _ => ?_) | refine Br.not (fun _ => ?_) (fun _ => ?_) | refine Br.dec (fun _ => ?_) (fun _ => ?_) | refine Br.bool (fun _ => ?_) (fun _ => ?_)
    | ((with_reducible apply TL.alloc_ag); (· rfl); intro _) | ((with_reducible apply TL.alloc_sc); (· rfl); (· rfl); intro _) | ((with_reducible apply TL.box_ag); (· rfl); (· rfl); intro _) | ((with_reducible apply TL.box_sc); (· rfl); (· rfl); (· rfl); intro _))
        refine TQ.round (i + 1) ?_ ?_ rfl subA selA
        · show i + 1 ≤ k
          omega
        · show xs.length - (i + 1) < xs.length - i
          omega
  | _ =>
    rw [IsJ] at hV
    first
      | (obtain ⟨sl, flat, rfl, hSl, hMs⟩ := hV
         obtain ⟨ao, cap, rfl⟩ := hSl.slice
         refine ⟨_, false, fun L => .of (Does.of2 Tryz.func77 rfl Tryz.ntmps77 rfl ?_), rfl, rfl, rfl⟩)
      | (obtain ⟨rfl, _⟩ := hV
         refine ⟨_, false, fun L => .of (Does.of2 Tryz.func77 rfl Tryz.ntmps77 rfl ?_), rfl, rfl, rfl⟩)
      | (subst hV
         refine ⟨_, false, fun L => .of (Does.of2 Tryz.func77 rfl Tryz.ntmps77 rfl ?_), rfl, rfl, rfl⟩)
    repeat' (first
    | refine wkV ?_
    | refine stS ?_ | (refine stB ?_; intro _) | (refine stC ?_; refine And.intro (fun _ => ?_) (fun _ => ?_)))
    refine TQ.endR2 (L' := L) Tryz.results77 rvA rvA rfl (.refl _) ?_ selA
    exact ⟨rfl, rfl, rfl⟩
end Go.Proofs.YthngolfabfijpaaGreatDoor
namespace Go.Proofs.YthngolfabfijpaaGreatDoor
open Go.RowKit

theorem dec_small (x : UInt8) (r : List UInt8) (h : x.toNat < 128) : Lib.decodeL (x :: r) = (x.toNat, 1) := by
  rw [decode_eq]
  dsimp only
  exact if_pos h
theorem dec_sep (x : UInt8) (r : List UInt8) : (x = 46 → Lib.decodeL (x :: r) = (46, 1)) ∧ (x ≠ 46 → (Lib.decodeL (x :: r)).1 ≠ 46 ∧ 1 ≤ (Lib.decodeL (x :: r)).2 ∧ (Lib.decodeL (x :: r)).2 ≤ (x :: r).length ∧ ∀ y ∈ (x :: r).take (Lib.decodeL (x :: r)).2, y ≠ 46) := by
  refine ⟨fun h => by subst h; exact dec_small 46 r (by decide), fun h => ?_⟩
  have hle := Lib.decodeL_le (x :: r) (by simp)
  rcases decode_sign x r with ⟨h0, hd⟩ | ⟨h0, h2, h3⟩
  · rw [hd]
    exact ⟨by decide, Nat.le_refl _, by simp, fun y hy => by
      obtain rfl : y = x := by simpa using hy
      exact h⟩
  · rcases signL_ge x r h0 with ⟨hx, _⟩ | ⟨hx, hk, hall⟩
    · rw [dec_small x r hx]
      exact ⟨fun e => h (UInt8.toNat_inj.1 e), Nat.le_refl _, by simp, fun y hy => by
        obtain rfl : y = x := by simpa using hy
        exact h⟩
    · rw [← h2] at hk hall
      refine ⟨fun e => ?_, by omega, hle, fun y hy e => ?_⟩
      · have he := Lib.encode_decode (x :: r) (by simp) h3
        rw [e] at he
        have h5 := congrArg List.length he
        rw [List.length_take, Nat.min_eq_left hle] at h5
        have h6 : (Lib.encodeRune ((46 : Nat) : Int)).length = 1 := by decide
        omega
      · have := hall y hy
        subst e
        simp at this
theorem dec_at (s : List UInt8) (j : Nat) : Utf8.decode ⟨s.toArray⟩ j = Lib.decodeL (s.drop j) := by
  have := Lib.decodeL_drop ⟨s.toArray⟩ j
  simpa using this.symm
end Go.Proofs.YthngolfabfijpaaGreatDoor
namespace Go.Proofs.YthngolfabfijpaaGreatDoor
open Go.RowKit Go.TL
set_option maxRecDepth 100000

def StepsR (p : List UInt8) (L : List Ent) : Ending → Gh → List Ent → Prop := fun r g' L1 => ∃ v e, r = .returned (.tuple #[v, .int .i64 (e : Nat)]) ∧ L1 = L ∧ v.one = true ∧ (match stepsL p with
  | some l => e = 0 ∧ Sl g' v l.length 1 (strs l)
  | none => e = 16 ∧ v = .slice none 0 0)
structure StS where
  i : Nat
  from' : Nat
  v : Value
  l : List (List UInt8)
structure StI (p : List UInt8) (x : StS) : Prop where
  le : x.i ≤ p.length + 1
  fl : x.from' ≤ x.i
  ln : x.l.length ≤ x.i
  ii : x.i ≤ p.length → stepsF p [] = (stepsF (p.drop x.i) ((p.drop x.from').take (x.i - x.from'))).map fun r => x.l ++ r
  done : x.i = p.length + 1 → stepsF p [] = some x.l
set_option maxHeartbeats 16000000 in
theorem steps_does (p : List UInt8) (g : Gh) (L : List Ent) (_hp : p.length ≤ 1000000) (hU : GU8 g) : Does Tryz.prog 39 #[str p] g L (StepsR p L) := by
  refine Does.of1 Tryz.func39 rfl Tryz.ntmps39 rfl ?_
  unfold StepsR
  have A := fun L => valid_gives p (L := L) hU (by omega)
  by_cases h1 : 128 < p.length
  · have hn : stepsL p = none := by unfold stepsL; rw [if_neg (by omega)]
    rw [hn]
    clear A
    repeat' (first
    | refine wkV ?_
    | refine stS ?_ | (refine stB ?_; intro _) | (refine stC ?_; refine And.intro (fun _ => ?_) (fun _ => ?_)))
    refine TQ.endR2 (L' := L) Tryz.results39 rvA rvA rfl (.refl _) ?_ selA
    exact ⟨_, 16, rfl, rfl, rfl, rfl, rfl⟩
  by_cases h2 : utfL p = true
  · rw [h2] at A
    repeat' (first
    | refine wkV ?_
    | ((with_reducible apply TL.gives_plain); (· kernel_rfl); (· rfl); (· exact A _); (· rfl)) | ((with_reducible apply TW.gives_plain); (· kernel_rfl); (· rfl); (· exact A _); (· rfl))
    | refine wkP ?_
    | ((with_reducible apply TL.byteK); (· rfl); (· rfl); (· exact natA); (· assumption); (· rfl); intro _) | ((with_reducible apply TL.byte); (· rfl); (· rfl); (· exact natA); (· exact omA); (· rfl); intro _ _ _)
    | refine stS ?_ | (refine stB ?_; intro _) | (refine stC ?_; refine And.intro (fun _ => ?_) (fun _ => ?_))
    | apply TC.region_draw (by kernel_rfl) (by kernel_rfl) | refine TW.nil ?_ | ((with_reducible apply TW.pure); (· exact yA); (· rfl))
    | ((with_reducible apply TL.range_str); (· rfl); (· rfl); intro _) | ((with_reducible apply TL.next_str); (· rfl); (· exact pkA); (· rfl); all_goals intro _)
    | ((with_reducible apply TW.byteK); (· rfl); (· rfl); (· exact natA); (· assumption); (· rfl); intro _) | ((with_reducible apply TW.byte); (· rfl); (· rfl); (· exact natA); (· exact omA); (· rfl); intro _ _ _)
    | refine TW.guard_yes rfl rfl ?_ | refine TW.guard_no rfl rfl rfl rfl ?_ | refine TW.guard_undef rfl rfl rfl ?_ | refine TW.guard rfl rfl rfl ?_)
    rename_i bi
    refine TC.row_nil 9 1 ?_
    refine TC.loopL (StI p) (fun x => p.length + 1 - x.i) (fun x _ => [(4, x.v), (5, .int .i64 (x.from' : Nat)), (18, .pointer (some ⟨bi, 0, none⟩)), (0, str p)]) (fun x => .obj bi (.stringIter ⟨(p ++ [46]).toArray⟩ x.i) :: .row 9 1 x.v x.l.length (strs x.l) :: L) ⟨0, 0, .slice none 0 0, []⟩ ?_ subA selA ?_
    · refine ⟨by simp, Nat.le_refl _, Nat.le_refl _, fun _ => ?_, fun h => by simp at h⟩
      show stepsF p [] = _
      rw [Nat.sub_self, List.take_zero, List.drop_zero]
      cases stepsF p [] <;> rfl
    clear A
    rintro ⟨i, fr, v, l⟩ ⟨hi, hfr, hln, hii, hdone⟩
    dsimp only at hi hfr hln hii hdone ⊢
    have hsl : (p ++ [46]).length = p.length + 1 := by simp
    by_cases he : i = p.length + 1
    · have hR : stepsL p = some l := by
        have h1p : 1 ≤ p.length := by
          cases p with
          | nil => have := hdone he; rw [stepsF, if_pos rfl] at this; cases this
          | cons => rw [List.length_cons]; omega
        unfold stepsL
        rw [if_pos ⟨h1p, by omega, h2⟩]
        exact hdone he
      rw [hR]
      have hlen : (p ++ [46]).length ≤ i := by omega
      clear hii hdone hsl
      repeat' (first
    | refine wkV ?_
    | ((with_reducible apply TL.next_end); (· rfl); (· exact pkA); (· exact hlen); (· rfl))
    | refine stS ?_ | (refine stB ?_; intro _) | (refine stC ?_; refine And.intro (fun _ => ?_) (fun _ => ?_)))
      refine TQ.freeze (v := v) pkA ?_
      intro gf hgf hsl
      have hone : v.one = true := by obtain ⟨ao, cap, rfl⟩ := hsl.slice; rfl
      refine TQ.endR2 (L' := L) Tryz.results39 rvA rvA rfl (hgf) ?_ selA
      exact ⟨v, 0, rfl, rfl, hone, rfl, hsl⟩
    have hii := hii (by omega)
    clear hdone
    have hlen : i < (p ++ [46]).length := by omega
    obtain ⟨c, k, hck⟩ : ∃ c k, Utf8.decode ⟨(p ++ [46]).toArray⟩ i = (c, k) := ⟨_, _, rfl⟩
    have hdd := hck
    rw [dec_at, List.drop_append_of_le_length (by omega)] at hdd
    obtain ⟨cur, hcur⟩ : ∃ cur, cur = (p.drop fr).take (i - fr) := ⟨_, rfl⟩
    rw [← hcur] at hii
    have hcl : cur.length = i - fr := by rw [hcur, List.length_take, List.length_drop]; omega
    by_cases hdot : i = p.length ∨ p[i]? = some 46
    · have h46 : c = 46 ∧ k = 1 := by
        have : ∃ r, p.drop i ++ [46] = 46 :: r := by
          rcases hdot with h | h
          · rw [h, List.drop_length]; exact ⟨_, rfl⟩
          · obtain ⟨h3, h4⟩ := List.getElem?_eq_some_iff.1 h
            rw [List.drop_eq_getElem_cons h3, h4]; exact ⟨_, rfl⟩
        obtain ⟨r, hr⟩ := this
        rw [hr, (dec_sep 46 r).1 rfl] at hdd
        simpa using hdd.symm
      obtain ⟨rfl, rfl⟩ := h46
      by_cases hif : i = fr
      · have hc0 : cur = [] := List.eq_nil_of_length_eq_zero (by omega)
        have hn : stepsL p = none := by
          unfold stepsL
          split
          · rw [hii, hc0]
            rcases hdot with h | h
            · rw [h, List.drop_length, stepsF, if_pos rfl]; rfl
            · obtain ⟨h3, h4⟩ := List.getElem?_eq_some_iff.1 h
              rw [List.drop_eq_getElem_cons h3, h4, stepsF, if_pos rfl, if_pos rfl]; rfl
          · rfl
        rw [hn]
        subst hif
        clear hii hcur hdd hdot hsl
        repeat' (first
    | refine wkV ?_
    | ((with_reducible apply TL.next_at); (· rfl); (· exact pkA); (· exact hlen); (· exact hck); (· rfl))
    | refine stS ?_ | (refine stB ?_; intro _) | (refine stC ?_; refine And.intro (fun _ => ?_) (fun _ => ?_)))
        refine TQ.endR2 (L' := L) Tryz.results39 rvA rvA rfl (.refl _) ?_ selA
        exact ⟨_, 16, rfl, rfl, rfl, rfl, rfl⟩
      · have hne : Hn (¬ ((i : Nat) : Int) = (fr : Nat)) := ⟨by omega⟩
        have hip : i ≤ p.length := by omega
        have HI := Hn.mk hii
        have HC := Hn.mk hcur
        have HD := Hn.mk hdot
        clear hii hcur hdd hdot hsl
        repeat' (first
    | refine wkV ?_
    | ((with_reducible apply TL.next_at); (· rfl); (· exact pkA); (· exact hlen); (· exact hck); (· rfl))
    | ((with_reducible apply TL.build_slice); (· rfl); (· rfl); (· exact oneA); (· rfl); (· rfl); (· rfl); intro _) | refine TL.build_one (by rfl) (by first | rfl | assumption) (by rfl) (by rfl) (by rfl) (by rfl) (fun _ => ?_) | refine TL.build_empty (by rfl) (fun _ => ?_)
    | ((with_reducible apply TL.append); (· rfl); (· rfl); (· rfl); (· rfl); (· exact pkA); (· first | exact Src.obj pkA | exact Src.sl (by assumption) | exact Src.row pkA); (· first | rfl | exact (byteVals_length _).trans (Nat.mul_one _).symm); (· first | exact byteVals_all _ | exact oneA); (· exact ⟨by unfold maxLen; omega, by omega⟩); (· rfl); intro _)
    | refine stS ?_ | (refine stB ?_; intro _) | (refine stC ?_; refine And.intro (fun _ => ?_) (fun _ => ?_)))
        rename_i b v'
        rw [← HC.out, show l.length + 1 = (l ++ [cur]).length by simp, show strs l ++ [Value.string ⟨cur.toArray⟩] = strs (l ++ [cur]) by simp [strs]]
        refine TQ.round ⟨i + 1, i + 1, v', l ++ [cur]⟩ ?_ ?_ rfl subA selA
        · refine ⟨by dsimp only; omega, Nat.le_refl _, by simp; omega, fun h => ?_, fun h => ?_⟩
          · have hii := HI.out
            dsimp only at h ⊢
            rcases HD.out with h3 | h3
            · omega
            obtain ⟨h3, h4⟩ := List.getElem?_eq_some_iff.1 h3
            rw [List.drop_eq_getElem_cons h3, h4, stepsF, if_pos rfl, if_neg (fun e => by rw [e] at hcl; simp at hcl; omega)] at hii
            rw [hii, Nat.sub_self, List.take_zero, Option.map_map]
            congr 1
            funext r
            simp
          · have hii := HI.out
            dsimp only at h ⊢
            obtain rfl : i = p.length := by omega
            rw [List.drop_length, stepsF, if_neg (fun e => by rw [e] at hcl; simp at hcl; omega)] at hii
            rw [hii]; rfl
        · show p.length + 1 - (i + 1) < p.length + 1 - i
          omega
    · have hip : i < p.length := by
        apply Nat.lt_of_not_le
        intro h
        exact hdot (.inl (by omega))
      have hx : p.drop i ++ [46] = p[i] :: (p.drop (i + 1) ++ [46]) := by rw [List.drop_eq_getElem_cons hip]; rfl
      have hx46 : p[i] ≠ 46 := fun e => hdot (.inr (by rw [List.getElem?_eq_getElem hip, e]))
      obtain ⟨d1, d2, d3, d4⟩ := (dec_sep p[i] (p.drop (i + 1) ++ [46])).2 hx46
      rw [← hx, hdd] at d1 d2 d3 d4
      dsimp only at d1 d2 d3 d4
      have hk : i + k ≤ p.length := by
        apply Nat.le_of_not_lt
        intro hlt
        refine d4 46 ?_ rfl
        rw [List.take_append, List.mem_append]
        right
        rw [List.length_drop, show k - (p.length - i) = (k - (p.length - i) - 1) + 1 by omega, List.take_succ_cons]
        simp
      have hsp : p.drop i = (p.drop i).take k ++ p.drop (i + k) := by
        conv => lhs; rw [← List.take_append_drop k (p.drop i)]
        rw [List.drop_drop]
      have hrun : stepsF (p.drop i) cur = stepsF (p.drop (i + k)) (cur ++ (p.drop i).take k) := by
        rw [hsp]
        rw [stepsF_run _ _ _ (fun y hy => d4 y (by rw [List.take_append]; exact List.mem_append_left _ hy)), ← hsp]
      have hcc : cur ++ (p.drop i).take k = (p.drop fr).take (i + k - fr) := by
        rw [hcur, show i + k - fr = (i - fr) + k by omega, List.take_add, List.drop_drop, show fr + (i - fr) = i by omega]
      rw [hrun, hcc] at hii
      have hne : Hn (¬ ((c : Nat) : Int) = 46) := ⟨by omega⟩
      have HI := Hn.mk hii
      clear hii hcur hdd hdot hsl hx hsp hrun hcc d4 d3 hx46
      repeat' (first
    | refine wkV ?_
    | ((with_reducible apply TL.next_at); (· rfl); (· exact pkA); (· exact hlen); (· exact hck); (· rfl))
    | refine stS ?_ | (refine stB ?_; intro _) | (refine stC ?_; refine And.intro (fun _ => ?_) (fun _ => ?_)))
      refine TQ.round ⟨i + k, fr, v, l⟩ ?_ ?_ rfl subA selA
      · exact ⟨by dsimp only; omega, by dsimp only; omega, by dsimp only; omega, fun h => HI.out, fun h => by dsimp only at h; omega⟩
      · show p.length + 1 - (i + k) < p.length + 1 - i
        omega
  · have hn : stepsL p = none := by unfold stepsL; rw [if_neg (fun h => h2 h.2.2)]
    rw [hn]
    rw [Bool.not_eq_true] at h2
    rw [h2] at A
    repeat' (first
    | refine wkV ?_
    | ((with_reducible apply TL.gives_plain); (· kernel_rfl); (· rfl); (· exact A _); (· rfl)) | ((with_reducible apply TW.gives_plain); (· kernel_rfl); (· rfl); (· exact A _); (· rfl))
    | refine stS ?_ | (refine stB ?_; intro _) | (refine stC ?_; refine And.intro (fun _ => ?_) (fun _ => ?_)))
    refine TQ.endR2 (L' := L) Tryz.results39 rvA rvA rfl (.refl _) ?_ selA
    exact ⟨_, 16, rfl, rfl, rfl, rfl, rfl⟩
end Go.Proofs.YthngolfabfijpaaGreatDoor
