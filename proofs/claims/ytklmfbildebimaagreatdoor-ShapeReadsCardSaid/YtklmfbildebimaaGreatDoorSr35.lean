/-
  The document's place and places, walked. The document's places, walked.
-/
import Derived.Test.YtklmfbildebimaaGreatDoorSr2
import Derived.Test.YtklmfbildebimaaGreatDoorSr34
import Derived.Test.YtklmfbildebimaaGreatDoorSr21
namespace Go.Proofs.YtklmfbildebimaaGreatDoor
open Go.RowKit Go.TL
set_option maxRecDepth 100000

def pairD : List DV → Option Pt
  | [x, y] => if x.kind = 2 ∧ y.kind = 2 then some (x.n, y.n) else none
  | _ => none
def placeD (z : DV) : Option Pt := if z.kind = 4 then pairD z.items else none
theorem pairD_len : ∀ {l : List DV}, l.length ≠ 2 → pairD l = none
  | [], _ => rfl
  | [_], _ => rfl
  | [_, _], h => absurd rfl h
  | _ :: _ :: _ :: _, _ => rfl
theorem toJ_num {k : Int} {b : Bool} {n : Int} {s : List UInt8} {i : List DV} {ns : List (List UInt8)} (h : k = 2) : toJ (.mk k b n s i ns) = .num n := by
  subst h; rw [toJ_eq]; rfl
theorem toJ_not_num {k : Int} {b : Bool} {n : Int} {s : List UInt8} {i : List DV} {ns : List (List UInt8)} (h : k ≠ 2) (a : Int) : toJ (.mk k b n s i ns) ≠ .num a := by
  rw [toJ_eq, if_neg h]
  split
  · intro h; cases h
  · split
    · intro h; cases h
    · split
      · intro h; cases h
      · split
        · intro h; cases h
        · split <;> (intro h; cases h)
theorem place_toJ (z : DV) : placeJ (toJ z) = placeD z := by
  obtain ⟨k, b, n, s, items, ns⟩ := z
  show _ = if k = 4 then pairD items else none
  by_cases hk : k = 4
  · subst hk
    rw [if_pos rfl, show toJ (.mk 4 b n s items ns) = .list (items.map toJ) by rw [toJ_eq]; rfl]
    by_cases h2 : items.length = 2
    case neg => rw [pairD_len h2]; exact placeJ_l (by rw [List.length_map]; exact h2)
    obtain ⟨x, y, rfl⟩ : ∃ x y, items = [x, y] := by
      match items, h2 with
      | [x, y], _ => exact ⟨_, _, rfl⟩
    obtain ⟨k1, b1, n1, s1, i1, m1⟩ := x
    obtain ⟨k2, b2, n2, s2, i2, m2⟩ := y
    · show placeJ (.list [toJ (.mk k1 b1 n1 s1 i1 m1), toJ (.mk k2 b2 n2 s2 i2 m2)]) = if k1 = 2 ∧ k2 = 2 then some (n1, n2) else none
      by_cases h1 : k1 = 2
      · rw [toJ_num h1]
        by_cases h2 : k2 = 2
        · rw [toJ_num h2, if_pos ⟨h1, h2⟩]; rfl
        · rw [if_neg (fun h => h2 h.2)]
          exact placeJ_1 (toJ_not_num h2)
      · rw [if_neg (fun h => h1 h.1)]
        exact placeJ_0 (toJ_not_num h1)
  · rw [if_neg hk, toJ_eq]
    have hl : ∀ x : J, (∀ l, x ≠ .list l) → placeJ x = none := fun x h => by cases x <;> first | rfl | exact absurd rfl (h _)
    refine hl _ fun l => ?_
    rw [if_neg hk]
    split
    · intro h; cases h
    · split
      · intro h; cases h
      · split
        · intro h; cases h
        · split
          · intro h; cases h
          · split <;> (intro h; cases h)
def PlD (o : Option Pt) : Value := match o with
  | some p => .tuple #[pt p, .bool true]
  | none => .tuple #[pt (0, 0), .bool false]
theorem kind_cell {g : Gh} {fl : List Value} {items : List DV} {v : Value} (hS : Sl g v items.length 6 fl) (hI : IsVs g items fl) {i : Nat} {k : Int} {b : Bool} {n : Int} {s : List UInt8} {it : List DV} {ns : List (List UInt8)} (h : items[i]? = some (.mk k b n s it ns)) :
    ∃ b1 o1 c, v = .slice (some ⟨b1, o1, none⟩) items.length c ∧ g.cell b1 (o1 + i * 6) = some (.int .i64 k) ∧ g.cell b1 (o1 + i * 6 + 2) = some (.int .i64 n) := by
  obtain ⟨cs', hV', hl6, hcs⟩ := hI.get h
  obtain ⟨ao, c, rfl⟩ := hS.slice
  obtain ⟨b1, o1, rfl, hg⟩ := hS.elem (List.getElem?_eq_some_iff.1 h).1 (by decide)
  rw [IsV] at hV'
  obtain ⟨vi, vn, flat, rfl, _⟩ := hV'
  exact ⟨b1, o1, c, rfl, hg 0 _ (hcs 0 _ rfl), hg 2 _ (hcs 2 _ rfl)⟩
set_option maxHeartbeats 32000000 in
theorem rplace9_gives (z : DV) (cs : List Value) (g : Gh) (L : List Ent) (hV : IsV g z cs) : Gives Tryz.prog 27 #[.agg cs.toArray] g L (PlD (placeD z)) := by
  refine .of (Does.of1 Tryz.func27 rfl Tryz.ntmps27 rfl ?_)
  obtain ⟨k, b, n, s, items, ns⟩ := z
  rw [IsV] at hV
  obtain ⟨vi, vn, flat, rfl, _, _, _, hS, hl, hI, hN, _, _⟩ := hV
  obtain ⟨ai, ci, rfl⟩ := hS.slice
  obtain ⟨an, cn, rfl⟩ := hN.slice
  rw [show placeD (.mk k b n s items ns) = if k = 4 then pairD items else none from rfl]
  by_cases hk : k = 4
  case neg =>
    have bk : (!decide (k = 4)) = true := by rw [decide_eq_false hk]; rfl
    rw [if_neg hk]
    clear hS hI hN
    repeat' (first
    | refine wkQ ?_
    | ((with_reducible apply TL.pure (d := 6) (v := .bool true)); (· exact Y.neq_b bk rfl rfl); (· rfl)) | ((with_reducible apply TW.pure (d := 6) (v := .bool true)); (· exact Y.neq_b bk rfl rfl); (· rfl))
    | refine wkV ?_
    | refine stS ?_ | (refine stB ?_; intro _) | (refine stC ?_; refine And.intro (fun _ => ?_) (fun _ => ?_)))
    refine TQ.endR2 (L' := L) Tryz.results27 rvA rvA rfl (.refl _) ?_ selF
    exact ⟨rfl, rfl, rfl⟩
  have bk : (!decide (k = 4)) = false := by rw [decide_eq_true hk]; rfl
  rw [if_pos hk]
  by_cases h2 : items.length = 2
  case neg =>
    have b2 : (!decide (((items.length : Nat) : Int) = 2)) = true := by rw [decide_eq_false (by omega)]; rfl
    rw [pairD_len h2]
    clear hS hI hN
    repeat' (first
    | refine wkQ ?_
    | ((with_reducible apply TL.pure (d := 6) (v := .bool false)); (· exact Y.neq_b bk rfl rfl); (· rfl)) | ((with_reducible apply TW.pure (d := 6) (v := .bool false)); (· exact Y.neq_b bk rfl rfl); (· rfl))
    | ((with_reducible apply TL.pure (d := 11) (v := .bool true)); (· exact Y.neq_b b2 rfl rfl); (· rfl)) | ((with_reducible apply TW.pure (d := 11) (v := .bool true)); (· exact Y.neq_b b2 rfl rfl); (· rfl))
    | refine wkV ?_
    | refine stS ?_ | (refine stB ?_; intro _) | (refine stC ?_; refine And.intro (fun _ => ?_) (fun _ => ?_)))
    refine TQ.endR2 (L' := L) Tryz.results27 rvA rvA rfl (.refl _) ?_ selF
    exact ⟨rfl, rfl, rfl⟩
  have b2 : (!decide (((items.length : Nat) : Int) = 2)) = false := by rw [decide_eq_true (by omega)]; rfl
  obtain ⟨k1, b1', n1, s1, i1, m1, k2, b2', n2, s2, i2, m2, hxy⟩ : ∃ k1 b1 n1 s1 i1 m1 k2 b2 n2 s2 i2 m2, items = [DV.mk k1 b1 n1 s1 i1 m1, DV.mk k2 b2 n2 s2 i2 m2] := by
    match items, h2 with
    | [.mk .., .mk ..], _ => exact ⟨_, _, _, _, _, _, _, _, _, _, _, _, rfl⟩
  obtain ⟨b1, o1, c1, e1, h10, h12⟩ := kind_cell hS hI (i := 0) (by rw [hxy]; rfl)
  obtain ⟨b3, o3, c3, e3, h20, h22⟩ := kind_cell hS hI (i := 1) (by rw [hxy]; rfl)
  obtain ⟨rfl, rfl⟩ : ai = some ⟨b1, o1, none⟩ ∧ ci = c1 := by simpa using e1
  obtain ⟨⟨rfl, rfl⟩, _⟩ : (b1 = b3 ∧ o1 = o3) ∧ ci = c3 := by simpa using e3
  rw [h2] at b2 ⊢
  rw [hxy]
  clear e1 e3 hS hI hN h2 hl hxy
  by_cases hk1 : k1 = 2
  case neg =>
    have d1 : (!decide (k1 = 2)) = true := by rw [decide_eq_false hk1]; rfl
    rw [show pairD [DV.mk k1 b1' n1 s1 i1 m1, DV.mk k2 b2' n2 s2 i2 m2] = none from if_neg fun h => hk1 h.1]
    repeat' (first
    | refine wkQ ?_
    | ((with_reducible apply TL.pure (d := 6) (v := .bool false)); (· exact Y.neq_b bk rfl rfl); (· rfl)) | ((with_reducible apply TW.pure (d := 6) (v := .bool false)); (· exact Y.neq_b bk rfl rfl); (· rfl))
    | ((with_reducible apply TL.pure (d := 11) (v := .bool false)); (· exact Y.neq_b b2 rfl rfl); (· rfl)) | ((with_reducible apply TW.pure (d := 11) (v := .bool false)); (· exact Y.neq_b b2 rfl rfl); (· rfl))
    | ((with_reducible apply TL.pure (d := 19) (v := .bool true)); (· exact Y.neq_b d1 rfl rfl); (· rfl)) | ((with_reducible apply TW.pure (d := 19) (v := .bool true)); (· exact Y.neq_b d1 rfl rfl); (· rfl))
    | refine wkV ?_
    | refine stS ?_ | (refine stB ?_; intro _) | (refine stC ?_; refine And.intro (fun _ => ?_) (fun _ => ?_)))
    refine TQ.endR2 (L' := L) Tryz.results27 rvA rvA rfl (.refl _) ?_ selF
    exact ⟨rfl, rfl, rfl⟩
  have d1 : (!decide (k1 = 2)) = false := by rw [decide_eq_true hk1]; rfl
  by_cases hk2 : k2 = 2
  case neg =>
    have d2 : (!decide (k2 = 2)) = true := by rw [decide_eq_false hk2]; rfl
    rw [show pairD [DV.mk k1 b1' n1 s1 i1 m1, DV.mk k2 b2' n2 s2 i2 m2] = none from if_neg fun h => hk2 h.2]
    repeat' (first
    | refine wkQ ?_
    | ((with_reducible apply TL.pure (d := 6) (v := .bool false)); (· exact Y.neq_b bk rfl rfl); (· rfl)) | ((with_reducible apply TW.pure (d := 6) (v := .bool false)); (· exact Y.neq_b bk rfl rfl); (· rfl))
    | ((with_reducible apply TL.pure (d := 11) (v := .bool false)); (· exact Y.neq_b b2 rfl rfl); (· rfl)) | ((with_reducible apply TW.pure (d := 11) (v := .bool false)); (· exact Y.neq_b b2 rfl rfl); (· rfl))
    | ((with_reducible apply TL.pure (d := 19) (v := .bool false)); (· exact Y.neq_b d1 rfl rfl); (· rfl)) | ((with_reducible apply TW.pure (d := 19) (v := .bool false)); (· exact Y.neq_b d1 rfl rfl); (· rfl))
    | ((with_reducible apply TL.pure (d := 27) (v := .bool true)); (· exact Y.neq_b d2 rfl rfl); (· rfl)) | ((with_reducible apply TW.pure (d := 27) (v := .bool true)); (· exact Y.neq_b d2 rfl rfl); (· rfl))
    | refine wkV ?_
    | refine stS ?_ | (refine stB ?_; intro _) | (refine stC ?_; refine And.intro (fun _ => ?_) (fun _ => ?_)))
    refine TQ.endR2 (L' := L) Tryz.results27 rvA rvA rfl (.refl _) ?_ selF
    exact ⟨rfl, rfl, rfl⟩
  have d2 : (!decide (k2 = 2)) = false := by rw [decide_eq_true hk2]; rfl
  rw [show pairD [DV.mk k1 b1' n1 s1 i1 m1, DV.mk k2 b2' n2 s2 i2 m2] = some (n1, n2) from if_pos ⟨hk1, hk2⟩]
  repeat' (first
    | refine wkQ ?_
    | ((with_reducible apply TL.pure (d := 6) (v := .bool false)); (· exact Y.neq_b bk rfl rfl); (· rfl)) | ((with_reducible apply TW.pure (d := 6) (v := .bool false)); (· exact Y.neq_b bk rfl rfl); (· rfl))
    | ((with_reducible apply TL.pure (d := 11) (v := .bool false)); (· exact Y.neq_b b2 rfl rfl); (· rfl)) | ((with_reducible apply TW.pure (d := 11) (v := .bool false)); (· exact Y.neq_b b2 rfl rfl); (· rfl))
    | ((with_reducible apply TL.pure (d := 19) (v := .bool false)); (· exact Y.neq_b d1 rfl rfl); (· rfl)) | ((with_reducible apply TW.pure (d := 19) (v := .bool false)); (· exact Y.neq_b d1 rfl rfl); (· rfl))
    | ((with_reducible apply TL.pure (d := 27) (v := .bool false)); (· exact Y.neq_b d2 rfl rfl); (· rfl)) | ((with_reducible apply TW.pure (d := 27) (v := .bool false)); (· exact Y.neq_b d2 rfl rfl); (· rfl))
    | (refine TC.region_tail 11 (by kernel_rfl) (by kernel_rfl) ?_; simp only [List.take_succ_cons, List.take_zero, List.drop_succ_cons, List.drop_zero]) | refine TQ.tail ?_
    | refine wkV ?_
    | ((with_reducible apply TL.pure); (· exact yM); (· rfl)) | ((with_reducible apply TW.pure); (· exact yM); (· rfl))
    | refine stS ?_ | (refine stB ?_; intro _) | (refine stC ?_; refine And.intro (fun _ => ?_) (fun _ => ?_))
    | apply TC.region_draw (by kernel_rfl) (by kernel_rfl) | refine TW.nil ?_ | ((with_reducible apply TW.pure); (· exact yA); (· rfl)))
  refine TQ.endR2 (L' := L) Tryz.results27 rvA rvA rfl (.refl _) ?_ selF
  exact ⟨rfl, rfl, rfl⟩
end Go.Proofs.YtklmfbildebimaaGreatDoor
namespace Go.Proofs.YtklmfbildebimaaGreatDoor
open Go.RowKit Go.TL
set_option maxRecDepth 100000

def mapD : List DV → Option (List Pt)
  | [] => some []
  | x :: r => match placeD x with
    | some p => (mapD r).map (p :: ·)
    | none => none
def placesD (z : DV) : Option (List Pt) := if z.kind = 4 then mapD z.items else none
theorem map_toJ (l : List DV) : mapP (l.map toJ) = mapD l := by
  induction l with
  | nil => rfl
  | cons x r ih =>
    rw [List.map_cons, mapP, mapD, place_toJ, ih]
    cases placeD x <;> rfl
def PlsR (o : Option (List Pt)) (L : List Ent) : Ending → Gh → List Ent → Prop := fun e g' L1 => L1 = L ∧ (match o with
  | some l => ∃ v, e = .returned (.tuple #[v, .bool true]) ∧ Sl g' v l.length 2 (flatP l)
  | none => e = .returned (.tuple #[.slice none 0 0, .bool false]))
structure PdI (items : List DV) (x : PsS) : Prop where
  le : x.i ≤ items.length
  al : x.acc.length = x.i
  re : mapD items = (mapD (items.drop x.i)).map (x.acc ++ ·)
set_option maxHeartbeats 32000000 in
theorem rplaces9_does (z : DV) (cs : List Value) (g : Gh) (L : List Ent) (hV : IsV g z cs) (hn : z.items.length ≤ 1000000) : Does Tryz.prog 28 #[.agg cs.toArray] g L (PlsR (placesD z) L) := by
  refine Does.of1 Tryz.func28 rfl Tryz.ntmps28 rfl ?_
  obtain ⟨k, b, n, s, items, ns⟩ := z
  replace hn : items.length ≤ 1000000 := hn
  rw [IsV] at hV
  obtain ⟨vi, vn, flat, rfl, _, _, _, hS, hl, hI, hN, _, _⟩ := hV
  obtain ⟨ai, ci, rfl⟩ := hS.slice
  obtain ⟨an, cn, rfl⟩ := hN.slice
  unfold PlsR
  rw [show placesD (.mk k b n s items ns) = if k = 4 then mapD items else none from rfl]
  by_cases hk : k = 4
  case neg =>
    have bk : (!decide (k = 4)) = true := by rw [decide_eq_false hk]; rfl
    rw [if_neg hk]
    clear hS hI hN
    repeat' (first
    | refine wkQ ?_
    | ((with_reducible apply TL.pure (d := 10) (v := .bool true)); (· exact Y.neq_b bk rfl rfl); (· rfl)) | ((with_reducible apply TW.pure (d := 10) (v := .bool true)); (· exact Y.neq_b bk rfl rfl); (· rfl))
    | refine wkV ?_
    | refine stS ?_ | (refine stB ?_; intro _) | (refine stC ?_; refine And.intro (fun _ => ?_) (fun _ => ?_)))
    refine TQ.endR2 (L' := L) Tryz.results28 rvA rvA rfl (.refl _) ?_ selF
    exact ⟨rfl, rfl⟩
  have bk : (!decide (k = 4)) = false := by rw [decide_eq_true hk]; rfl
  rw [if_pos hk]
  have HS := Hn.mk hS
  have HI := Hn.mk hI
  clear hS hI hN
  refine TC.row_nil 42 2 ?_
  repeat' (first
    | refine wkQ ?_
    | ((with_reducible apply TL.pure (d := 10) (v := .bool false)); (· exact Y.neq_b bk rfl rfl); (· rfl)) | ((with_reducible apply TW.pure (d := 10) (v := .bool false)); (· exact Y.neq_b bk rfl rfl); (· rfl))
    | refine wkV ?_
    | refine stS ?_ | (refine stB ?_; intro _) | (refine stC ?_; refine And.intro (fun _ => ?_) (fun _ => ?_)))
  rename_i b1
  refine TC.loop (PdI items) (fun x => items.length - x.i) (fun x => [(5, .int .i64 (x.i : Nat)), (4, x.v), (1, .pointer (some ⟨b1, 0, none⟩))]) (fun _ => g) (fun x => .row 42 2 x.v x.acc.length (flatP x.acc) :: .obj b1 (.cells [.int .i64 k, .bool b, .int .i64 n, str s, .slice ai items.length ci, .slice an ns.length cn].toArray 25 (0, 0)) :: L) ⟨0, [], .slice none 0 0⟩ ⟨Nat.zero_le _, rfl, by rw [List.drop_zero]; cases mapD items <;> rfl⟩ rfl subA selF ?_
  rintro ⟨i, acc, v⟩ ⟨hi, ha, hre⟩
  dsimp only at hi ha hre ⊢
  refine TC.row_slice (v := v) pkA ?_
  rintro av cv rfl _
  by_cases hlt : i < items.length
  · obtain ⟨x, hx⟩ : ∃ x, items[i]? = some x := ⟨_, List.getElem?_eq_getElem hlt⟩
    obtain ⟨cs', hV', hl6, hcs⟩ := HI.out.get hx
    obtain ⟨b5, o5, rfl, hg⟩ := HS.out.elem hlt (by decide)
    have hld : ∀ j u, cs'[j]? = some u → g.cell b5 (o5 + i * 6 + j) = some u := fun j u hu => hg j u (hcs j u hu)
    have PL := fun L => rplace9_gives x cs' g L hV'
    rw [drop_of_get hx, mapD] at hre
    clear hg hcs hx HI HS hV'
    cases hp : placeD x with
    | none =>
      rw [hp] at hre PL
      rw [hre]
      unfold PlD at PL
      dsimp only at PL
      clear hre
      repeat' (first
    | refine wkQ ?_
    | refine wkV ?_
    | ((with_reducible apply TL.gives_plain); (· kernel_rfl); (· rfl); (· exact PL _); (· rfl)) | ((with_reducible apply TW.gives_plain); (· kernel_rfl); (· rfl); (· exact PL _); (· rfl))
    | refine stS ?_ | (refine stB ?_; intro _) | (refine stC ?_; refine And.intro (fun _ => ?_) (fun _ => ?_)))
      refine TQ.endR2 (L' := L) Tryz.results28 rvA rvA rfl (.refl _) ?_ selF
      exact ⟨rfl, rfl⟩
    | some p =>
      rw [hp] at hre PL
      have hre2 : mapD items = (mapD (items.drop (i + 1))).map ((acc ++ [p]) ++ ·) := by
        rw [hre]
        dsimp only
        rw [Option.map_map]
        congr 1
        funext q
        simp
      have HR := Hn.mk hre2
      unfold PlD at PL
      dsimp only at PL
      clear hre hre2
      repeat' (first
    | refine wkQ ?_
    | refine wkV ?_
    | ((with_reducible apply TL.gives_plain); (· kernel_rfl); (· rfl); (· exact PL _); (· rfl)) | ((with_reducible apply TW.gives_plain); (· kernel_rfl); (· rfl); (· exact PL _); (· rfl))
    | ((with_reducible apply TL.build_slice); (· rfl); (· rfl); (· exact oneA); (· rfl); (· rfl); (· rfl); intro _) | refine TL.build_one (by rfl) (by first | rfl | assumption) (by rfl) (by rfl) (by rfl) (by rfl) (fun _ => ?_) | refine TL.build_empty (by rfl) (fun _ => ?_)
    | ((with_reducible apply TL.append (e := 42)); (· rfl); (· rfl); (· rfl); (· rfl); (· exact pkA); (· first | exact Src.obj pkA | exact Src.sl (by assumption) | exact Src.row pkA); (· first | rfl | exact (byteVals_length _).trans (Nat.mul_one _).symm); (· first | exact byteVals_all _ | exact oneA); (· exact ⟨by unfold maxLen; omega, by omega⟩); (· rfl); intro vf; refine Go.TL.TL.row_slice (v := vf) pkA ?_; rintro a2 c2 rfl _)
    | refine stS ?_ | (refine stB ?_; intro _) | (refine stC ?_; refine And.intro (fun _ => ?_) (fun _ => ?_)))
      have hlen : acc.length + 1 = (acc ++ [p]).length := by rw [List.length_append, List.length_singleton]
      have hkey : ∀ y, y = [Value.int .i64 p.1, .int .i64 p.2] → flatP acc ++ y = flatP (acc ++ [p]) := fun y h => by rw [h, flatP_snoc]
      rw [hlen, hkey]
      rotate_left
      · rfl
      refine TQ.round ⟨i + 1, acc ++ [p], .slice a2 (acc ++ [p]).length c2⟩ ?_ ?_ rfl subA selF
      · exact ⟨by dsimp only; omega, by dsimp only; rw [← hlen, ha], HR.out⟩
      · dsimp only; omega
  · have hok : mapD items = some acc := by
      rw [hre, List.drop_eq_nil_of_le (by omega), mapD]; simp
    rw [hok]
    clear hre
    repeat' (first
    | refine wkQ ?_
    | refine wkV ?_
    | refine stS ?_ | (refine stB ?_; intro _) | (refine stC ?_; refine And.intro (fun _ => ?_) (fun _ => ?_)))
    refine TQ.freeze (v := .slice av acc.length cv) pkA fun g2 hg2 HS2 => ?_
    refine TQ.endR2 (L' := L) Tryz.results28 rvA rvA rfl hg2 ?_ selF
    exact ⟨rfl, _, rfl, HS2⟩
end Go.Proofs.YtklmfbildebimaaGreatDoor
