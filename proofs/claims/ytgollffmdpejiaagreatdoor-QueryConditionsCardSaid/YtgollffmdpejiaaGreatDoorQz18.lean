/-
  The walks of shape's need, list, place. The walk of shape's place. The walk of shape's places.
-/
import Derived.Test.YtgollffmdpejiaaGreatDoorQz3
import Derived.Test.YtgollffmdpejiaaGreatDoorQz17
namespace Go.Proofs.YtgollffmdpejiaaGreatDoor
open Go.RowKit Go.TL
set_option maxRecDepth 100000

instance : Places Tryz.prog 301 [] [] := ⟨#[], by kernel_rfl, fun w => by simp, fun w => run_zero w⟩
def stopS : PanicEntry := { v := .iface 301 (.agg #[]), recovered := false }
theorem sneed_yes (g : Gh) (L : List Ent) : Gives Tryz.prog 282 #[.bool true] g L (.tuple #[]) := by
  refine .of (Does.of1 Tryz.func282 rfl Tryz.ntmps282 rfl ?_)
  repeat' (first
    | refine wkQ ?_
    | refine wkV ?_
    | refine stS ?_ | (refine stB ?_; intro _) | (refine stC ?_; constructor <;> intro _))
  refine TQ.end_normal ?_
  refine TQ.endR0 (L' := L) Tryz.results282 rfl (.refl _) ?_ selF
  exact ⟨rfl, rfl, rfl⟩
theorem sneed_no (g : Gh) (L : List Ent) : Throws Tryz.prog 282 #[.bool false] g L [stopS] := by
  refine .of (Does.of1 Tryz.func282 rfl Tryz.ntmps282 rfl ?_)
  repeat' (first
    | refine wkQ ?_
    | refine wkV ?_
    | refine TL.panic (by rfl) (by rfl) ?_
    | refine stS ?_ | (refine stB ?_; intro _) | (refine stC ?_; constructor <;> intro _))
  refine TQ.end_panic (L' := L) rfl (.refl _) ?_ selA
  exact ⟨rfl, rfl, rfl⟩
theorem slist_yes (sl : Value) (g : Gh) (L : List Ent) : Gives Tryz.prog 287 #[.iface 50 sl] g L sl := by
  refine .of (Does.of1 Tryz.func287 rfl Tryz.ntmps287 rfl ?_)
  have NY := fun L => sneed_yes g L
  repeat' (first
    | refine wkQ ?_
    | refine wkV ?_
    | refine wkD (NY _) ?_
    | refine stS ?_ | (refine stB ?_; intro _) | (refine stC ?_; constructor <;> intro _))
  refine TQ.endR1 (L' := L) Tryz.results287 rvA rfl (.refl _) ?_ selF
  exact ⟨rfl, rfl, rfl⟩
def isListJ : J → Bool
  | .list _ => true
  | _ => false
set_option maxHeartbeats 8000000 in
theorem slist_no (x : J) (v : Value) (g : Gh) (L : List Ent) (hv : IsJ g x v) (hx : isListJ x = false) : Throws Tryz.prog 287 #[v] g L [stopS] := by
  refine .of (Does.of1 Tryz.func287 rfl Tryz.ntmps287 rfl ?_)
  have NO := fun L => sneed_no g L
  cases x with
  | list xs => cases hx
  | obj ns zs =>
    rw [IsJ] at hv
    obtain ⟨sl, fl, rfl, hS, _⟩ := hv
    obtain ⟨a, c, rfl⟩ := hS.slice
    clear hS
    repeat' (first
    | refine wkQ ?_
    | refine wkV ?_
    | refine TL.throws (Enters.plain (by kernel_rfl) (by rfl)) (NO _) (by rfl) ?_
    | refine stS ?_ | (refine stB ?_; intro _) | (refine stC ?_; constructor <;> intro _))
    refine TQ.end_panic (L' := L) rfl (.refl _) ?_ selA
    exact ⟨rfl, rfl, rfl⟩
  | num n =>
    rw [IsJ] at hv
    obtain ⟨rfl, _⟩ := hv
    repeat' (first
    | refine wkQ ?_
    | refine wkV ?_
    | refine TL.throws (Enters.plain (by kernel_rfl) (by rfl)) (NO _) (by rfl) ?_
    | refine stS ?_ | (refine stB ?_; intro _) | (refine stC ?_; constructor <;> intro _))
    refine TQ.end_panic (L' := L) rfl (.refl _) ?_ selA
    exact ⟨rfl, rfl, rfl⟩
  | _ =>
    rw [IsJ] at hv
    subst hv
    repeat' (first
    | refine wkQ ?_
    | refine wkV ?_
    | refine TL.throws (Enters.plain (by kernel_rfl) (by rfl)) (NO _) (by rfl) ?_
    | refine stS ?_ | (refine stB ?_; intro _) | (refine stC ?_; constructor <;> intro _))
    refine TQ.end_panic (L' := L) rfl (.refl _) ?_ selA
    exact ⟨rfl, rfl, rfl⟩
end Go.Proofs.YtgollffmdpejiaaGreatDoor
namespace Go.Proofs.YtgollffmdpejiaaGreatDoor
open Go.RowKit Go.TL
set_option maxRecDepth 100000

def placeJ : J → Option Pt
  | .list [.num a, .num b] => some (a, b)
  | _ => none
theorem placeJ_0 {x y : J} (h : ∀ a, x ≠ .num a) : placeJ (.list [x, y]) = none := by
  cases x <;> first | rfl | exact absurd rfl (h _)
theorem placeJ_1 {a : Int} {y : J} (h : ∀ b, y ≠ .num b) : placeJ (.list [.num a, y]) = none := by
  cases y <;> first | rfl | exact absurd rfl (h _)
theorem placeJ_l {xs : List J} (h : xs.length ≠ 2) : placeJ (.list xs) = none := by
  match xs, h with
  | [], _ => rfl
  | [x], _ => cases x <;> rfl
  | [_, _], h => exact absurd rfl h
  | x :: y :: z :: r, _ => cases x <;> first | rfl | (cases y <;> rfl)
def PlaceR (o : Option Pt) (g : Gh) (L : List Ent) : Ending → Gh → List Ent → Prop := fun e g1 L1 => match o with
  | some p => e = .returned (pt p) ∧ g1 = g ∧ L1 = L
  | none => e = .panicked [stopS] ∧ g1 = g ∧ L1 = L
structure PlI (x y : J) (z : Nat × Int × Int) : Prop where
  h : (z.1 = 0 ∧ z.2 = (0, 0)) ∨ (z.1 = 1 ∧ z.2.2 = 0 ∧ x = .num z.2.1) ∨ (z.1 = 2 ∧ x = .num z.2.1 ∧ y = .num z.2.2)
set_option maxHeartbeats 16000000 in
theorem splace_does (x : J) (v : Value) (g : Gh) (L : List Ent) (hv : IsJ g x v) : Does Tryz.prog 285 #[v] g L (PlaceR (placeJ x) g L) := by
  refine Does.of1 Tryz.func285 rfl Tryz.ntmps285 rfl ?_
  have NY := fun L => sneed_yes g L
  have NO := fun L => sneed_no g L
  have ov := hv.one
  cases hx : isListJ x with
  | false =>
    have LN := fun L => slist_no x v g L hv hx
    have hp : placeJ x = none := by cases x <;> first | rfl | cases hx
    rw [hp]
    clear hv hx
    repeat' (first
    | refine wkQ ?_
    | refine wkV ?_
    | refine TL.throws (Enters.plain (by kernel_rfl) (by rfl)) (LN _) (by rfl) ?_
    | refine stS ?_ | (refine stB ?_; intro _) | (refine stC ?_; constructor <;> intro _))
    refine TQ.end_panic (L' := L) rfl (.refl _) ?_ selA
    exact ⟨rfl, rfl, rfl⟩
  | true =>
  obtain ⟨xs, rfl⟩ : ∃ xs, x = .list xs := by cases x <;> first | exact ⟨_, rfl⟩ | cases hx
  rw [IsJ] at hv
  obtain ⟨sl, fl, rfl, hS, hJ⟩ := hv
  have LY := fun L => slist_yes sl g L
  obtain ⟨a, c, rfl⟩ := hS.slice
  by_cases h2 : xs.length = 2
  case neg =>
    have b2 : decide (((xs.length : Nat) : Int) = 2) = false := decide_eq_false (by omega)
    rw [placeJ_l h2]
    clear hS hJ
    repeat' (first
    | refine wkQ ?_
    | (refine wkA 13 (v := .bool false) ?_ ?_; · exact Y.eql_b b2 rfl rfl)
    | refine wkV ?_
    | refine wkD (LY _) ?_
    | refine TL.throws (Enters.plain (by kernel_rfl) (by rfl)) (NO _) (by rfl) ?_
    | refine stS ?_ | (refine stB ?_; intro _) | (refine stC ?_; constructor <;> intro _))
    refine TQ.end_panic (L' := L) rfl (.refl _) ?_ selA
    exact ⟨rfl, rfl, rfl⟩
  match xs, h2 with
  | [x, y], _ =>
  rw [IsJs] at hJ
  obtain ⟨v0, fl0, rfl, h0, hJ⟩ := hJ
  rw [IsJs] at hJ
  obtain ⟨v1, fl1, rfl, h1, hJ⟩ := hJ
  obtain ⟨b1, o1, rfl, hg⟩ := hS.elem (i := 0) (show 0 < 2 by decide) (by decide)
  obtain ⟨b3, o3, he2, hg2⟩ := hS.elem (i := 1) (show 1 < 2 by decide) (by decide)
  obtain ⟨rfl, rfl⟩ : b1 = b3 ∧ o1 = o3 := by simpa using he2
  have hld0 : g.cell b1 (o1 + 0 * 1) = some v0 := hg 0 _ rfl
  have hld1 : g.cell b1 (o1 + 1 * 1) = some v1 := hg2 0 _ rfl
  have ov0 := h0.one
  have ov1 := h1.one
  clear hS hg hg2 he2 hJ
  dsimp only [List.length_cons, List.length_nil] at LY ⊢
  repeat' (first
    | refine wkQ ?_
    | refine wkV ?_
    | refine wkD (LY _) ?_
    | refine wkD (NY _) ?_
    | refine stS ?_ | (refine stB ?_; intro _) | (refine stC ?_; constructor <;> intro _))
  rename_i b4 b5
  refine TC.loop (PlI x y) (fun z => 2 - z.1) (fun z => [(17, .int .i64 (z.1 : Nat)), (16, .int .i64 2), (15, .slice (some ⟨b1, o1, none⟩) 2 c), (4, .pointer (some ⟨b5, 0, none⟩)), (2, .pointer (some ⟨b4, 0, none⟩))]) (fun _ => g) (fun z => .obj b5 (.cells [.int .i64 z.2.1, .int .i64 z.2.2].toArray 349 (0, 0)) :: .obj b4 (.cells [.int .i64 0, .int .i64 0].toArray 179 (0, 0)) :: L) (0, 0, 0) ⟨.inl ⟨rfl, rfl⟩⟩ rfl subA selF ?_
  rintro ⟨i, p, q⟩ ⟨hI⟩
  dsimp only at hI ⊢
  rcases hI with ⟨rfl, hI⟩ | ⟨rfl, rfl, rfl⟩ | ⟨rfl, rfl, rfl⟩
  · obtain ⟨rfl, rfl⟩ : p = 0 ∧ q = 0 := by simpa using hI
    clear hI
    cases x with
    | num n =>
      rw [IsJ] at h0
      obtain ⟨rfl, _⟩ := h0
      repeat' (first
    | refine wkQ ?_
    | refine wkV ?_
    | refine wkM ?_
    | refine wkD (NY _) ?_
    | ((with_reducible apply TL.pure); (· exact yB); (· rfl)) | ((with_reducible apply TW.pure); (· exact yB); (· rfl))
    | refine stS ?_ | (refine stB ?_; intro _) | (refine stC ?_; constructor <;> intro _))
      refine TQ.round (1, n, 0) ?_ ?_ rfl subA selF
      · exact ⟨.inr (.inl ⟨rfl, rfl, rfl⟩)⟩
      · dsimp only; omega
    | list zs =>
      rw [placeJ_0 (fun _ => J.noConfusion)]
      rw [IsJ] at h0
      obtain ⟨sl, fl, rfl, hS, _⟩ := h0
      obtain ⟨a, c, rfl⟩ := hS.slice
      clear hS
      repeat' (first
    | refine wkQ ?_
    | refine wkV ?_
    | refine wkM ?_
    | refine TL.throws (Enters.plain (by kernel_rfl) (by rfl)) (NO _) (by rfl) ?_
    | refine stS ?_ | (refine stB ?_; intro _) | (refine stC ?_; constructor <;> intro _))
      refine TQ.end_panic (L' := L) rfl (.refl _) ?_ selA
      exact ⟨rfl, rfl, rfl⟩
    | obj ns zs =>
      rw [placeJ_0 (fun _ => J.noConfusion)]
      rw [IsJ] at h0
      obtain ⟨sl, fl, rfl, hS, _⟩ := h0
      obtain ⟨a, c, rfl⟩ := hS.slice
      clear hS
      repeat' (first
    | refine wkQ ?_
    | refine wkV ?_
    | refine wkM ?_
    | refine TL.throws (Enters.plain (by kernel_rfl) (by rfl)) (NO _) (by rfl) ?_
    | refine stS ?_ | (refine stB ?_; intro _) | (refine stC ?_; constructor <;> intro _))
      refine TQ.end_panic (L' := L) rfl (.refl _) ?_ selA
      exact ⟨rfl, rfl, rfl⟩
    | _ =>
      rw [placeJ_0 (fun _ => J.noConfusion)]
      rw [IsJ] at h0
      subst h0
      repeat' (first
    | refine wkQ ?_
    | refine wkV ?_
    | refine wkM ?_
    | refine TL.throws (Enters.plain (by kernel_rfl) (by rfl)) (NO _) (by rfl) ?_
    | refine stS ?_ | (refine stB ?_; intro _) | (refine stC ?_; constructor <;> intro _))
      refine TQ.end_panic (L' := L) rfl (.refl _) ?_ selA
      exact ⟨rfl, rfl, rfl⟩
  · clear h0 hld0
    cases y with
    | num n =>
      rw [IsJ] at h1
      obtain ⟨rfl, _⟩ := h1
      repeat' (first
    | refine wkQ ?_
    | refine wkV ?_
    | refine wkM ?_
    | refine wkD (NY _) ?_
    | ((with_reducible apply TL.pure); (· exact yB); (· rfl)) | ((with_reducible apply TW.pure); (· exact yB); (· rfl))
    | refine stS ?_ | (refine stB ?_; intro _) | (refine stC ?_; constructor <;> intro _))
      refine TQ.round (2, p, n) ?_ ?_ rfl subA selF
      · exact ⟨.inr (.inr ⟨rfl, rfl, rfl⟩)⟩
      · dsimp only; omega
    | list zs =>
      rw [placeJ_1 (fun _ => J.noConfusion)]
      rw [IsJ] at h1
      obtain ⟨sl, fl, rfl, hS, _⟩ := h1
      obtain ⟨a, c, rfl⟩ := hS.slice
      clear hS
      repeat' (first
    | refine wkQ ?_
    | refine wkV ?_
    | refine wkM ?_
    | refine TL.throws (Enters.plain (by kernel_rfl) (by rfl)) (NO _) (by rfl) ?_
    | refine stS ?_ | (refine stB ?_; intro _) | (refine stC ?_; constructor <;> intro _))
      refine TQ.end_panic (L' := L) rfl (.refl _) ?_ selA
      exact ⟨rfl, rfl, rfl⟩
    | obj ns zs =>
      rw [placeJ_1 (fun _ => J.noConfusion)]
      rw [IsJ] at h1
      obtain ⟨sl, fl, rfl, hS, _⟩ := h1
      obtain ⟨a, c, rfl⟩ := hS.slice
      clear hS
      repeat' (first
    | refine wkQ ?_
    | refine wkV ?_
    | refine wkM ?_
    | refine TL.throws (Enters.plain (by kernel_rfl) (by rfl)) (NO _) (by rfl) ?_
    | refine stS ?_ | (refine stB ?_; intro _) | (refine stC ?_; constructor <;> intro _))
      refine TQ.end_panic (L' := L) rfl (.refl _) ?_ selA
      exact ⟨rfl, rfl, rfl⟩
    | _ =>
      rw [placeJ_1 (fun _ => J.noConfusion)]
      rw [IsJ] at h1
      subst h1
      repeat' (first
    | refine wkQ ?_
    | refine wkV ?_
    | refine wkM ?_
    | refine TL.throws (Enters.plain (by kernel_rfl) (by rfl)) (NO _) (by rfl) ?_
    | refine stS ?_ | (refine stB ?_; intro _) | (refine stC ?_; constructor <;> intro _))
      refine TQ.end_panic (L' := L) rfl (.refl _) ?_ selA
      exact ⟨rfl, rfl, rfl⟩
  · clear h0 h1 hld0 hld1
    repeat' (first
    | refine wkQ ?_
    | refine wkV ?_
    | ((with_reducible apply TL.pure); (· exact yB); (· rfl)) | ((with_reducible apply TW.pure); (· exact yB); (· rfl))
    | refine stS ?_ | (refine stB ?_; intro _) | (refine stC ?_; constructor <;> intro _))
    refine TQ.endR1 (L' := L) Tryz.results285 rvA rfl (.refl _) ?_ selF
    exact ⟨rfl, rfl, rfl⟩
theorem splace_yes {x : J} {p : Pt} (h : placeJ x = some p) (v : Value) (g : Gh) (L : List Ent) (hv : IsJ g x v) : Gives Tryz.prog 285 #[v] g L (pt p) := by
  have := splace_does x v g L hv
  rw [h] at this
  exact .of this
theorem splace_no {x : J} (h : placeJ x = none) (v : Value) (g : Gh) (L : List Ent) (hv : IsJ g x v) : Throws Tryz.prog 285 #[v] g L [stopS] := by
  have := splace_does x v g L hv
  rw [h] at this
  exact .of this
end Go.Proofs.YtgollffmdpejiaaGreatDoor
namespace Go.Proofs.YtgollffmdpejiaaGreatDoor
open Go.RowKit Go.TL
set_option maxRecDepth 100000

def mapP : List J → Option (List Pt)
  | [] => some []
  | x :: r => match placeJ x with
    | some p => (mapP r).map (p :: ·)
    | none => none
def placesJ : J → Option (List Pt)
  | .list xs => if xs.length ≤ 256 then mapP xs else none
  | _ => none
def PlacesR (o : Option (List Pt)) (L : List Ent) : Ending → Gh → List Ent → Prop := fun e g' L1 => match o with
  | some l => ∃ v, e = .returned v ∧ L1 = L ∧ Sl g' v l.length 2 (flatP l)
  | none => e = .panicked [stopS] ∧ L1 = L
theorem flatP_snoc (l : List Pt) (p : Pt) : flatP (l ++ [p]) = flatP l ++ [.int .i64 p.1, .int .i64 p.2] := by simp [flatP]
structure PsS where
  i : Nat
  acc : List Pt
  v : Value
structure PsI (xs : List J) (x : PsS) : Prop where
  le : x.i ≤ xs.length
  al : x.acc.length = x.i
  re : mapP xs = (mapP (xs.drop x.i)).map (x.acc ++ ·)
set_option maxHeartbeats 16000000 in
theorem splaces_does (x : J) (v : Value) (g : Gh) (L : List Ent) (hv : IsJ g x v) : Does Tryz.prog 286 #[v] g L (PlacesR (placesJ x) L) := by
  refine Does.of1 Tryz.func286 rfl Tryz.ntmps286 rfl ?_
  have NY := fun L => sneed_yes g L
  have NO := fun L => sneed_no g L
  have ov := hv.one
  unfold PlacesR
  cases hx : isListJ x with
  | false =>
    have LN := fun L => slist_no x v g L hv hx
    have hp : placesJ x = none := by cases x <;> first | rfl | cases hx
    rw [hp]
    clear hv hx
    repeat' (first
    | refine wkQ ?_
    | refine wkV ?_
    | refine TL.throws (Enters.plain (by kernel_rfl) (by rfl)) (LN _) (by rfl) ?_
    | refine stS ?_ | (refine stB ?_; intro _) | (refine stC ?_; constructor <;> intro _))
    refine TQ.end_panic (L' := L) rfl (.refl _) ?_ selA
    exact ⟨rfl, rfl⟩
  | true =>
  obtain ⟨xs, rfl⟩ : ∃ xs, x = .list xs := by cases x <;> first | exact ⟨_, rfl⟩ | cases hx
  rw [IsJ] at hv
  obtain ⟨sl, fl, rfl, hS, hJ⟩ := hv
  have LY := fun L => slist_yes sl g L
  obtain ⟨a, c, rfl⟩ := hS.slice
  rw [placesJ]
  by_cases h2 : xs.length ≤ 256
  case neg =>
    have b2 : decide (((xs.length : Nat) : Int) ≤ 256) = false := decide_eq_false (by omega)
    rw [if_neg h2]
    clear hS hJ
    repeat' (first
    | refine wkQ ?_
    | (refine wkA 11 (v := .bool false) ?_ ?_; · exact Y.leqB b2 rfl rfl)
    | refine wkV ?_
    | refine wkD (LY _) ?_
    | refine TL.throws (Enters.plain (by kernel_rfl) (by rfl)) (NO _) (by rfl) ?_
    | refine stS ?_ | (refine stB ?_; intro _) | (refine stC ?_; constructor <;> intro _))
    refine TQ.end_panic (L' := L) rfl (.refl _) ?_ selA
    exact ⟨rfl, rfl⟩
  rw [if_pos h2]
  have b2 : decide (((xs.length : Nat) : Int) ≤ 256) = true := decide_eq_true (by omega)
  have HS := Hn.mk hS
  have HJ := Hn.mk hJ
  clear hS hJ hx
  repeat' (first
    | refine wkQ ?_
    | (refine wkA 11 (v := .bool true) ?_ ?_; · exact Y.leqB b2 rfl rfl)
    | refine wkV ?_
    | refine wkD (LY _) ?_
    | refine wkD (NY _) ?_
    | ((with_reducible apply TL.make_room); (· rfl); (· rfl); (· rfl); (· omega); (· unfold maxLen; omega); (· rfl); intro _)
    | refine stS ?_ | (refine stB ?_; intro _) | (refine stC ?_; constructor <;> intro _))
  rename_i b4
  refine TC.loop (PsI xs) (fun x => xs.length - x.i) (fun x => [(18, .int .i64 (x.i : Nat)), (17, .int .i64 (xs.length : Nat)), (16, .slice a xs.length c), (4, x.v)]) (fun _ => g) (fun x => .row 179 2 x.v x.acc.length (flatP x.acc) :: L) ⟨0, [], .slice (some ⟨b4, 0, none⟩) 0 xs.length⟩ ⟨Nat.zero_le _, rfl, by rw [List.drop_zero]; cases mapP xs <;> rfl⟩ rfl subA selF ?_
  rintro ⟨i, acc, v⟩ ⟨hi, ha, hre⟩
  dsimp only at hi ha hre ⊢
  refine TC.row_slice (v := v) pkA ?_
  rintro av cv rfl _
  by_cases hlt : i < xs.length
  · obtain ⟨x, hx⟩ : ∃ x, xs[i]? = some x := ⟨_, List.getElem?_eq_getElem hlt⟩
    obtain ⟨b1, o1, rfl, hg⟩ := HS.out.elem hlt (by decide)
    obtain ⟨w, hw, hj⟩ := HJ.out.get hx
    have hld : g.cell b1 (o1 + i * 1) = some w := hg 0 _ (by rw [Nat.mul_one]; exact hw)
    have ow := hj.one
    rw [drop_of_get hx, mapP] at hre
    cases hp : placeJ x with
    | none =>
      have PN := fun L => splace_no hp w g L hj
      rw [hp] at hre
      rw [hre]
      clear hg hre hw hj hp
      repeat' (first
    | refine wkQ ?_
    | refine wkV ?_
    | refine wkM ?_
    | refine TL.throws (Enters.plain (by kernel_rfl) (by rfl)) (PN _) (by rfl) ?_
    | refine stS ?_ | (refine stB ?_; intro _) | (refine stC ?_; constructor <;> intro _))
      refine TQ.end_panic (L' := L) rfl ((.refl _)) ?_ selF
      exact ⟨rfl, rfl⟩
    | some p =>
      have PY := fun L => splace_yes hp w g L hj
      rw [hp] at hre
      have hre2 : mapP xs = (mapP (xs.drop (i + 1))).map ((acc ++ [p]) ++ ·) := by
        rw [hre]
        dsimp only
        rw [Option.map_map]
        congr 1
        funext q
        simp
      have HR := Hn.mk hre2
      clear hg hre hre2 hw hj hp
      repeat' (first
    | refine wkQ ?_
    | refine wkV ?_
    | refine wkM ?_
    | refine wkD (PY _) ?_
    | ((with_reducible apply TL.build_slice); (· rfl); (· rfl); (· exact oneA); (· rfl); (· rfl); (· rfl); intro _) | refine TL.build_one (by rfl) (by first | rfl | assumption) (by rfl) (by rfl) (by rfl) (by rfl) (fun _ => ?_) | refine TL.build_empty (by rfl) (fun _ => ?_)
    | ((with_reducible apply TL.append (e := 179)); (· rfl); (· rfl); (· rfl); (· rfl); (· exact pkA); (· first | exact Src.obj pkA | exact Src.sl (by assumption) | exact Src.row pkA); (· first | rfl | exact (byteVals_length _).trans (Nat.mul_one _).symm); (· first | exact byteVals_all _ | exact oneA); (· exact ⟨by unfold maxLen; omega, by omega⟩); (· rfl); intro vf; refine Go.TL.TL.row_slice (v := vf) pkA ?_; rintro a2 c2 rfl _)
    | refine stS ?_ | (refine stB ?_; intro _) | (refine stC ?_; constructor <;> intro _))
      have hlen : acc.length + 1 = (acc ++ [p]).length := by rw [List.length_append, List.length_singleton]
      have hkey : ∀ y, y = [Value.int .i64 p.1, .int .i64 p.2] → flatP acc ++ y = flatP (acc ++ [p]) := fun y h => by rw [h, flatP_snoc]
      rw [hlen, hkey]
      rotate_left
      · rfl
      refine TQ.round ⟨i + 1, acc ++ [p], .slice a2 (acc ++ [p]).length c2⟩ ?_ ?_ rfl subA selF
      · exact ⟨by dsimp only; omega, by dsimp only; rw [← hlen, ha], HR.out⟩
      · dsimp only; omega
  · have hok : mapP xs = some acc := by
      rw [hre, List.drop_eq_nil_of_le (by omega), mapP]; simp
    rw [hok]
    clear hre
    repeat' (first
    | refine wkQ ?_
    | refine wkV ?_
    | refine stS ?_ | (refine stB ?_; intro _) | (refine stC ?_; constructor <;> intro _))
    refine TQ.freeze .here fun g2 hg2 HS2 => ?_
    refine TQ.endR1 (L' := L) Tryz.results286 rvA rfl (hg2) ?_ selF
    exact ⟨_, rfl, rfl, HS2⟩
end Go.Proofs.YtgollffmdpejiaaGreatDoor
