/-
  The walk of update's parts.
-/
import Derived.Test.YthngolfabfijpaaGreatDoorHc2
import Derived.Test.YthngolfabfijpaaGreatDoorHc32
namespace Go.Proofs.YthngolfabfijpaaGreatDoor
open Go.RowKit Go.TL
set_option maxRecDepth 100000

def partsP (nm : List UInt8) (v : J) : Option (List (List UInt8) × List J) :=
  if nm = unsetB then (match v with
    | .list xs => (textsJ xs).map fun l => (l, l.map fun _ => J.null)
    | _ => none)
  else match v with
    | .obj ns xs => some (ns, xs)
    | _ => none
def PartsR (o : Option (List (List UInt8) × List J)) (L : List Ent) : Ending → Gh → List Ent → Prop := fun e g' L1 => ∃ v, e = .returned (.tuple #[v, .bool o.isSome]) ∧ L1 = L ∧ (match o with
  | some (ps, vs) => ∃ flat, Sl g' v ps.length 2 flat ∧ IsMs g' ps vs flat ∧ ps.length = vs.length
  | none => v = .slice none 0 0)
def nilMs : List (List UInt8) → List Value
  | [] => []
  | s :: r => str s :: .nilIface :: nilMs r
theorem nilMs_is {g : Gh} : ∀ (l : List (List UInt8)), IsMs g l (l.map fun _ => J.null) (nilMs l)
  | [] => by rw [List.map_nil, IsMs, nilMs]
  | s :: r => by rw [List.map_cons, IsMs, nilMs]; exact ⟨_, _, rfl, by rw [IsJ], nilMs_is r⟩
theorem nilMs_snoc : ∀ (l : List (List UInt8)) (s : List UInt8), nilMs (l ++ [s]) = nilMs l ++ [str s, .nilIface]
  | [], s => rfl
  | x :: r, s => by rw [List.cons_append, nilMs, nilMs_snoc r s, nilMs]; rfl
structure PaS where
  i : Nat
  acc : List (List UInt8)
  v : Value
structure PaI (xs : List J) (x : PaS) : Prop where
  le : x.i ≤ xs.length
  al : x.acc.length = x.i
  re : textsJ xs = (textsJ (xs.drop x.i)).map (x.acc ++ ·)
set_option maxHeartbeats 16000000 in
theorem uparts_does (nm : List UInt8) (y : J) (u : Value) (g : Gh) (L : List Ent) (hy : IsJ g y u) (sy : smJ y) : Does Tryz.prog 35 #[.agg #[str nm, u]] g L (PartsR (partsP nm y) L) := by
  refine Does.of1 Tryz.func35 rfl Tryz.ntmps35 rfl ?_
  have ou := hy.one
  unfold PartsR partsP
  by_cases hn : nm = unsetB
  case neg =>
    rw [if_neg hn]
    have HN := Hn.mk (show ¬ nm = [36, 117, 110, 115, 101, 116] from hn)
    clear hn sy
    cases y with
    | obj ns xs =>
      have hm := hy
      rw [IsJ] at hy
      obtain ⟨sl, fl, rfl, hS, hM⟩ := hy
      obtain ⟨a, c, rfl⟩ := hS.slice
      have HS := Hn.mk hS
      have hl := hM.len
      clear hS hm
      repeat' (first
    | refine wkQ ?_
    | refine wkV ?_
    | refine stS ?_ | (refine stB ?_; intro _) | (refine stC ?_; refine And.intro (fun _ => ?_) (fun _ => ?_)))
      refine TQ.endR2 (L' := L) Tryz.results35 rvA rvA rfl (.refl _) ?_ selF
      exact ⟨_, rfl, rfl, fl, by rw [hl]; exact HS.out, hM, hl⟩
    | list xs =>
      rw [IsJ] at hy
      obtain ⟨sl, fl, rfl, hS, _⟩ := hy
      obtain ⟨a, c, rfl⟩ := hS.slice
      clear hS
      repeat' (first
    | refine wkQ ?_
    | refine wkV ?_
    | refine stS ?_ | (refine stB ?_; intro _) | (refine stC ?_; refine And.intro (fun _ => ?_) (fun _ => ?_)))
      refine TQ.endR2 (L' := L) Tryz.results35 rvA rvA rfl (.refl _) ?_ selF
      exact ⟨_, rfl, rfl, rfl⟩
    | num n =>
      rw [IsJ] at hy
      obtain ⟨rfl, _⟩ := hy
      repeat' (first
    | refine wkQ ?_
    | refine wkV ?_
    | refine stS ?_ | (refine stB ?_; intro _) | (refine stC ?_; refine And.intro (fun _ => ?_) (fun _ => ?_)))
      refine TQ.endR2 (L' := L) Tryz.results35 rvA rvA rfl (.refl _) ?_ selF
      exact ⟨_, rfl, rfl, rfl⟩
    | _ =>
      rw [IsJ] at hy
      subst hy
      repeat' (first
    | refine wkQ ?_
    | refine wkV ?_
    | refine stS ?_ | (refine stB ?_; intro _) | (refine stC ?_; refine And.intro (fun _ => ?_) (fun _ => ?_)))
      refine TQ.endR2 (L' := L) Tryz.results35 rvA rvA rfl (.refl _) ?_ selF
      exact ⟨_, rfl, rfl, rfl⟩
  rw [if_pos hn]
  subst hn
  cases y with
  | list xs =>
    rw [IsJ] at hy
    rw [smJ] at sy
    obtain ⟨sl, fl, rfl, hS, hJ⟩ := hy
    obtain ⟨a, c, rfl⟩ := hS.slice
    have hxl := sy.1
    have HS := Hn.mk hS
    have HJ := Hn.mk hJ
    clear hS hJ sy
    dsimp only
    repeat' (first
    | refine wkQ ?_
    | refine wkV ?_
    | refine stS ?_ | (refine stB ?_; intro _) | (refine stC ?_; refine And.intro (fun _ => ?_) (fun _ => ?_)))
    refine TC.row_nil 47 2 ?_
    refine TC.loop (PaI xs) (fun x => xs.length - x.i) (fun x => [(32, .int .i64 (x.i : Nat)), (31, .int .i64 (xs.length : Nat)), (30, .slice a xs.length c), (8, x.v), (7, .bool true)]) (fun _ => g) (fun x => .row 47 2 x.v x.acc.length (nilMs x.acc) :: L) ⟨0, [], .slice none 0 0⟩ ⟨Nat.zero_le _, rfl, by rw [List.drop_zero]; cases textsJ xs <;> rfl⟩ rfl subA selF ?_
    rintro ⟨i, acc, v⟩ ⟨hi, ha, hre⟩
    dsimp only at hi ha hre ⊢
    refine TC.row_slice (v := v) pkA ?_
    rintro av cv rfl _
    by_cases hlt : i < xs.length
    · obtain ⟨x, hx⟩ : ∃ x, xs[i]? = some x := ⟨_, List.getElem?_eq_getElem hlt⟩
      obtain ⟨b1, o1, rfl, hg⟩ := HS.out.elem hlt (by decide)
      obtain ⟨w, hw, hj⟩ := HJ.out.get hx
      have hld : g.cell b1 (o1 + i * 1) = some w := hg 0 _ (by rw [Nat.mul_one]; exact hw)
      have ow := hj.one
      rw [drop_of_get hx] at hre
      by_cases ht : ∃ s, x = .text s
      · obtain ⟨s, rfl⟩ := ht
        rw [IsJ] at hj
        subst hj
        have hre2 : textsJ xs = (textsJ (xs.drop (i + 1))).map ((acc ++ [s]) ++ ·) := by
          rw [hre]
          show ((textsJ (xs.drop (i + 1))).map (s :: ·)).map (acc ++ ·) = _
          rw [Option.map_map]
          congr 1
          funext q
          simp
        have HR := Hn.mk hre2
        clear hg hre hre2 hw
        repeat' (first
    | refine wkQ ?_
    | refine wkV ?_
    | ((with_reducible apply TL.pure); (· exact yM); (· rfl)) | ((with_reducible apply TW.pure); (· exact yM); (· rfl))
    | ((with_reducible apply TL.build_slice); (· rfl); (· rfl); (· exact oneA); (· rfl); (· rfl); (· rfl); intro _) | refine TL.build_one (by rfl) (by first | rfl | assumption) (by rfl) (by rfl) (by rfl) (by rfl) (fun _ => ?_) | refine TL.build_empty (by rfl) (fun _ => ?_)
    | ((with_reducible apply TL.append (e := 47)); (· rfl); (· rfl); (· rfl); (· rfl); (· exact pkA); (· exact Src.obj pkA); (· rfl); (· first | rfl | exact oneA); (· exact ⟨by unfold maxLen; omega, by omega⟩); (· rfl); intro vf; refine Go.TL.TL.row_slice (v := vf) pkA ?_; rintro a2 c2 rfl _)
    | refine stS ?_ | (refine stB ?_; intro _) | (refine stC ?_; refine And.intro (fun _ => ?_) (fun _ => ?_)))
        have hlen : acc.length + 1 = (acc ++ [s]).length := by rw [List.length_append, List.length_singleton]
        have hkey : ∀ y, y = [str s, Value.nilIface] → nilMs acc ++ y = nilMs (acc ++ [s]) := fun y h => by rw [h, nilMs_snoc]
        rw [hlen, hkey]
        rotate_left
        · rfl
        refine TQ.round ⟨i + 1, acc ++ [s], .slice a2 (acc ++ [s]).length c2⟩ ?_ ?_ rfl subA selF
        · exact ⟨by dsimp only; omega, by dsimp only; rw [← hlen, ha], HR.out⟩
        · dsimp only; omega
      · have hno : textsJ xs = none := by
          rw [hre]
          cases x with
          | text s => exact absurd ⟨s, rfl⟩ ht
          | _ => rfl
        rw [hno]
        clear hg hre hno hw
        cases x with
        | text s => exact absurd ⟨s, rfl⟩ ht
        | num n =>
          rw [IsJ] at hj
          obtain ⟨rfl, _⟩ := hj
          repeat' (first
    | refine wkQ ?_
    | refine wkV ?_
    | ((with_reducible apply TL.pure); (· exact yM); (· rfl)) | ((with_reducible apply TW.pure); (· exact yM); (· rfl))
    | refine stS ?_ | (refine stB ?_; intro _) | (refine stC ?_; refine And.intro (fun _ => ?_) (fun _ => ?_)))
          refine TQ.endR2 (L' := L) Tryz.results35 rvA rvA rfl (.refl _) ?_ selF
          exact ⟨_, rfl, rfl, rfl⟩
        | list zs =>
          rw [IsJ] at hj
          obtain ⟨sl, fl, rfl, hS, _⟩ := hj
          obtain ⟨a, c, rfl⟩ := hS.slice
          clear hS
          repeat' (first
    | refine wkQ ?_
    | refine wkV ?_
    | ((with_reducible apply TL.pure); (· exact yM); (· rfl)) | ((with_reducible apply TW.pure); (· exact yM); (· rfl))
    | refine stS ?_ | (refine stB ?_; intro _) | (refine stC ?_; refine And.intro (fun _ => ?_) (fun _ => ?_)))
          refine TQ.endR2 (L' := L) Tryz.results35 rvA rvA rfl (.refl _) ?_ selF
          exact ⟨_, rfl, rfl, rfl⟩
        | obj ns zs =>
          rw [IsJ] at hj
          obtain ⟨sl, fl, rfl, hS, _⟩ := hj
          obtain ⟨a, c, rfl⟩ := hS.slice
          clear hS
          repeat' (first
    | refine wkQ ?_
    | refine wkV ?_
    | ((with_reducible apply TL.pure); (· exact yM); (· rfl)) | ((with_reducible apply TW.pure); (· exact yM); (· rfl))
    | refine stS ?_ | (refine stB ?_; intro _) | (refine stC ?_; refine And.intro (fun _ => ?_) (fun _ => ?_)))
          refine TQ.endR2 (L' := L) Tryz.results35 rvA rvA rfl (.refl _) ?_ selF
          exact ⟨_, rfl, rfl, rfl⟩
        | _ =>
          rw [IsJ] at hj
          subst hj
          repeat' (first
    | refine wkQ ?_
    | refine wkV ?_
    | ((with_reducible apply TL.pure); (· exact yM); (· rfl)) | ((with_reducible apply TW.pure); (· exact yM); (· rfl))
    | refine stS ?_ | (refine stB ?_; intro _) | (refine stC ?_; refine And.intro (fun _ => ?_) (fun _ => ?_)))
          refine TQ.endR2 (L' := L) Tryz.results35 rvA rvA rfl (.refl _) ?_ selF
          exact ⟨_, rfl, rfl, rfl⟩
    · have hok : textsJ xs = some acc := by
        rw [hre, List.drop_eq_nil_of_le (by omega), textsJ]; simp
      rw [hok]
      clear hre
      repeat' (first
    | refine wkQ ?_
    | refine wkV ?_
    | refine stS ?_ | (refine stB ?_; intro _) | (refine stC ?_; refine And.intro (fun _ => ?_) (fun _ => ?_)))
      refine TQ.freeze (v := .slice av acc.length cv) pkA ?_
      intro g' hg' hsl
      refine TQ.endR2 (L' := L) Tryz.results35 rvA rvA rfl (hg') ?_ selF
      exact ⟨_, rfl, rfl, nilMs acc, hsl, nilMs_is acc, by rw [List.length_map]⟩
  | obj ns xs =>
    rw [IsJ] at hy
    obtain ⟨sl, fl, rfl, hS, _⟩ := hy
    obtain ⟨a, c, rfl⟩ := hS.slice
    clear hS
    repeat' (first
    | refine wkQ ?_
    | refine wkV ?_
    | refine stS ?_ | (refine stB ?_; intro _) | (refine stC ?_; refine And.intro (fun _ => ?_) (fun _ => ?_)))
    refine TC.loop (fun _ : Unit => True) (fun _ => 0) (fun _ => [(32, .int .i64 0), (31, .int .i64 0), (8, .slice none 0 0), (7, .bool false)]) (fun _ => g) (fun _ => L) () trivial rfl subA selF ?_
    rintro _ _
    repeat' (first
    | refine wkQ ?_
    | refine wkV ?_
    | refine stS ?_ | (refine stB ?_; intro _) | (refine stC ?_; refine And.intro (fun _ => ?_) (fun _ => ?_)))
    refine TQ.endR2 (L' := L) Tryz.results35 rvA rvA rfl (.refl _) ?_ selF
    exact ⟨_, rfl, rfl, rfl⟩
  | num n =>
    rw [IsJ] at hy
    obtain ⟨rfl, _⟩ := hy
    repeat' (first
    | refine wkQ ?_
    | refine wkV ?_
    | refine stS ?_ | (refine stB ?_; intro _) | (refine stC ?_; refine And.intro (fun _ => ?_) (fun _ => ?_)))
    refine TC.loop (fun _ : Unit => True) (fun _ => 0) (fun _ => [(32, .int .i64 0), (31, .int .i64 0), (8, .slice none 0 0), (7, .bool false)]) (fun _ => g) (fun _ => L) () trivial rfl subA selF ?_
    rintro _ _
    repeat' (first
    | refine wkQ ?_
    | refine wkV ?_
    | refine stS ?_ | (refine stB ?_; intro _) | (refine stC ?_; refine And.intro (fun _ => ?_) (fun _ => ?_)))
    refine TQ.endR2 (L' := L) Tryz.results35 rvA rvA rfl (.refl _) ?_ selF
    exact ⟨_, rfl, rfl, rfl⟩
  | _ =>
    rw [IsJ] at hy
    subst hy
    repeat' (first
    | refine wkQ ?_
    | refine wkV ?_
    | refine stS ?_ | (refine stB ?_; intro _) | (refine stC ?_; refine And.intro (fun _ => ?_) (fun _ => ?_)))
    refine TC.loop (fun _ : Unit => True) (fun _ => 0) (fun _ => [(32, .int .i64 0), (31, .int .i64 0), (8, .slice none 0 0), (7, .bool false)]) (fun _ => g) (fun _ => L) () trivial rfl subA selF ?_
    rintro _ _
    repeat' (first
    | refine wkQ ?_
    | refine wkV ?_
    | refine stS ?_ | (refine stB ?_; intro _) | (refine stC ?_; refine And.intro (fun _ => ?_) (fun _ => ?_)))
    refine TQ.endR2 (L' := L) Tryz.results35 rvA rvA rfl (.refl _) ?_ selF
    exact ⟨_, rfl, rfl, rfl⟩
end Go.Proofs.YthngolfabfijpaaGreatDoor
