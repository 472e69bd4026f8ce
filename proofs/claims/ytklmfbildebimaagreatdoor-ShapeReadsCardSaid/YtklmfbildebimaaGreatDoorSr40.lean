/-
  The walk of shape's told. The walk of shape's Tell: points, lines. A shape is read from its value as it was: the plain law. The walk of the document's Field. Rows of the document's values: longer, shorter, one of them another. The document's Read, walked: what is no shape.
-/
import Derived.Test.YtklmfbildebimaaGreatDoorSr33
import Derived.Test.YtklmfbildebimaaGreatDoorSr2
import Derived.Test.YtklmfbildebimaaGreatDoorSr5
import Derived.Test.YtklmfbildebimaaGreatDoorSr28
import Derived.Test.YtklmfbildebimaaGreatDoorSr35
import Derived.Test.YtklmfbildebimaaGreatDoorSr39
import Derived.Test.YtklmfbildebimaaGreatDoorSr26
namespace Go.Proofs.YtklmfbildebimaaGreatDoor
open Go.RowKit Go.TL
set_option maxRecDepth 100000

def ptJ (p : Pt) : J := .list [.num p.1, .num p.2]
def toldJ (l : List Pt) : J := .list (l.map ptJ)
theorem ptJ_is {g : Gh} {p : Pt} {b : Nat} (hp : mayB p = true) (h : Sl g (.slice (some ⟨b, 0, none⟩) 2 2) 2 1 [.iface 61 (.int .i64 p.1), .iface 61 (.int .i64 p.2)]) : IsJ g (ptJ p) (.iface 63 (.slice (some ⟨b, 0, none⟩) 2 2)) := by
  have hb := mayB_bd hp
  rw [ptJ, IsJ]
  refine ⟨_, _, rfl, h, ?_⟩
  rw [IsJs]
  refine ⟨_, _, rfl, by rw [IsJ]; exact ⟨rfl, by omega, by omega⟩, ?_⟩
  rw [IsJs]
  refine ⟨_, _, rfl, by rw [IsJ]; exact ⟨rfl, by omega, by omega⟩, ?_⟩
  rw [IsJs]
end Go.Proofs.YtklmfbildebimaaGreatDoor
namespace Go.Proofs.YtklmfbildebimaaGreatDoor
open Go.RowKit Go.TL
set_option maxRecDepth 100000

def closeJ (q : List Pt) : J := toldJ (q ++ [q.headD (0, 0)])
def whereJ (k : Int) (ps : List (List Pt)) : J := if k = 0 then ptJ (headS ps) else if k = 1 then toldJ (ps.headD []) else .list (ps.map closeJ)
def kindN (k : Int) : List UInt8 := if k = 0 then pointB else if k = 1 then lineB else polyB
def tellJ (k : Int) (ps : List (List Pt)) : J := .obj [typeB, coordB] [.text (kindN k), whereJ k ps]
theorem tell_is {g : Gh} {b : Nat} {k : Int} {ps : List (List Pt)} {w : Value} (h : Sl g (.slice (some ⟨b, 0, none⟩) 2 2) 2 2 [str typeB, .iface 9 (str (kindN k)), str coordB, w]) (hw : IsJ g (whereJ k ps) w) : IsJ g (tellJ k ps) (.iface 65 (.slice (some ⟨b, 0, none⟩) 2 2)) := by
  rw [tellJ, IsJ]
  refine ⟨_, _, rfl, h, ?_⟩
  rw [IsMs]
  refine ⟨_, _, rfl, by rw [IsJ], ?_⟩
  rw [IsMs]
  refine ⟨_, _, rfl, hw, ?_⟩
  rw [IsMs]
theorem first_part {k : Int} {ps : List (List Pt)} {g : Gh} {v : Value} (hr : rightB k ps = true) (hS : IsParts g v ps) : ∃ b o cap q u, v = .slice (some ⟨b, o, none⟩) ps.length cap ∧ 0 < ps.length ∧ ps[0]? = some q ∧ ps.headD [] = q ∧ 0 < q.length ∧ q.all mayB = true ∧ g.cell b (o + 0 * 1) = some u ∧ Sl g u q.length 2 (flatP q) := by
  have hP := right_props hr
  obtain ⟨fl, hSl, hpt⟩ := hS
  have h0 : 0 < ps.length := List.length_pos_iff.2 hP.ne
  obtain ⟨q, hq⟩ : ∃ q, ps[0]? = some q := ⟨_, List.getElem?_eq_getElem h0⟩
  obtain ⟨u, hu, hSu⟩ := hpt 0 q hq
  obtain ⟨ao, cap, rfl⟩ := hSl.slice
  obtain ⟨b, o, rfl, hg⟩ := hSl.elem (i := 0) h0 (by decide)
  obtain ⟨h1, h2⟩ := okP_all (hP.ok q (List.mem_of_getElem? hq))
  refine ⟨b, o, cap, q, u, rfl, h0, hq, ?_, List.length_pos_iff.2 h1, h2, hg 0 _ hu, hSu⟩
  cases ps with
  | nil => cases hq
  | cons a r => obtain rfl : a = q := by simpa using hq
                rfl
end Go.Proofs.YtklmfbildebimaaGreatDoor
namespace Go.Proofs.YtklmfbildebimaaGreatDoor
open Go.RowKit Go.TL

theorem moves_snoc {q : List Pt} {p a : Pt} (h : movesF q = true) (hl : q[q.length - 1]? = some a) (hn : p ≠ a) : movesF (q ++ [p]) = true := by
  induction q with
  | nil => simp at hl
  | cons x r ih =>
    cases r with
    | nil =>
      obtain rfl : x = a := by simpa using hl
      show (!decide (p = x) && movesF [p]) = true
      rw [decide_eq_false hn]; rfl
    | cons y t =>
      rw [movesF, Bool.and_eq_true] at h
      show (!decide (y = x) && movesF (y :: t ++ [p])) = true
      rw [h.1, Bool.true_and]
      exact ih h.2 (by simpa using hl)
theorem rightL_two : ∀ (ps : List (List Pt)) (c c' : Nat), rightL 2 ps c = some c' → ∀ q ∈ ps, 3 ≤ q.length ∧ q.length + 1 ≤ 256 ∧ movesF q = true ∧ endsE q = false
  | [], _, _, _, q, hq => (List.not_mem_nil hq).elim
  | p :: r, c, c', h, q, hq => by
    rw [rightL] at h
    split at h
    · rename_i h1
      rw [if_pos rfl] at h
      split at h
      · rename_i h2
        rcases List.mem_cons.1 hq with rfl | hq
        · unfold okP at h1
          unfold okR at h2
          simp only [Bool.and_eq_true, decide_eq_true_eq, Bool.not_eq_true'] at h1 h2
          exact ⟨h2.1.1.1, by omega, h1.2, h2.1.1.2⟩
        · exact rightL_two r _ _ h q hq
      · cases h
    · cases h
end Go.Proofs.YtklmfbildebimaaGreatDoor
namespace Go.Proofs.YtklmfbildebimaaGreatDoor
open Go.RowKit Go.TL
set_option maxRecDepth 100000

def fieldD : DV → List UInt8 → Option DV
  | .mk k _ _ _ items names, nm => if k = 5 then (idxN names nm).bind (items[·]?) else none
theorem field_toJ (x : DV) (nm : List UInt8) : fieldJ (toJ x) nm = (fieldD x nm).map toJ := by
  obtain ⟨k, b, n, s, items, names⟩ := x
  rw [toJ_eq, fieldD]
  by_cases k5 : k = 5
  · subst k5
    rw [if_neg (by decide), if_neg (by decide), if_neg (by decide), if_neg (by decide), if_neg (by decide), if_pos rfl, if_pos rfl]
    unfold fieldJ
    dsimp only
    cases idxN names nm with
    | none => rfl
    | some i => exact List.getElem?_map ..
  · rw [if_neg k5, if_neg k5]
    repeat' split
    all_goals rfl
set_option maxHeartbeats 16000000 in
theorem rField4_gives (x : DV) (cs : List Value) (g : Gh) (nm : List UInt8) (hV : IsV g x cs) (hW : wfV x) : ∃ zs b, (∀ L, Gives Tryz.prog 25 #[.agg cs.toArray, str nm] g L (.tuple #[.agg zs.toArray, .bool b])) ∧ zs.length = 6 ∧ (match fieldD x nm with
    | some w => b = true ∧ IsV g w zs
    | none => b = false ∧ zs = [.int .i64 0, .bool false, .int .i64 0, .string ⟨#[]⟩, .slice none 0 0, .slice none 0 0]) := by
  obtain ⟨k, b, n, s, items, names⟩ := x
  rw [IsV] at hV
  rw [wfV] at hW
  obtain ⟨vi, vn, flat, rfl, _, _, _, hS, hil, hI, hSn, hnl, _⟩ := hV
  obtain ⟨ai, ci, rfl⟩ := hS.slice
  obtain ⟨an, cn, rfl⟩ := hSn.slice
  obtain ⟨w1, w2, w3, w4⟩ := hW
  rw [fieldD]
  by_cases k5 : k = 5
  · subst k5
    obtain ⟨wn, _⟩ := w3 rfl
    rw [if_pos rfl]
    cases hk : idxN names nm with
    | none =>
      have hno := idxN_none hk
      refine ⟨[.int .i64 0, .bool false, .int .i64 0, .string ⟨#[]⟩, .slice none 0 0, .slice none 0 0], false, fun L => .of (Does.of2 Tryz.func25 rfl Tryz.ntmps25 rfl ?_), rfl, rfl, rfl⟩
      clear hI w3 w4
      repeat' (first
    | refine wkQ ?_
    | refine wkV ?_
    | ((with_reducible apply TL.pure); (· exact yM); (· rfl)) | ((with_reducible apply TW.pure); (· exact yM); (· rfl))
    | refine stS ?_ | (refine stB ?_; intro _) | (refine stC ?_; refine And.intro (fun _ => ?_) (fun _ => ?_)))
      rename_i b2 b4
      refine TC.loopL (fun i : Nat => i ≤ items.length) (fun i => items.length - i) (fun i _ => [(6, .int .i64 (i : Nat)), (1, str nm), (2, .pointer (some ⟨b2, 0, none⟩)), (4, .pointer (some ⟨b4, 0, none⟩))]) (fun _ => .obj b2 (.cells [.int .i64 5, .bool b, .int .i64 n, str s, .slice ai items.length ci, .slice an names.length cn].toArray 25 (0, 0)) :: .obj b4 (.cells [.int .i64 0, .bool false, .int .i64 0, .string ⟨#[]⟩, .slice none 0 0, .slice none 0 0].toArray 25 (0, 0)) :: L) 0 (Nat.zero_le _) subA selF ?_
      rintro i hi
      try dsimp only at hi ⊢
      by_cases hlt : i < items.length
      · obtain ⟨nn, hnn⟩ : ∃ nn, names[i]? = some nn := ⟨_, List.getElem?_eq_getElem (by omega)⟩
        obtain ⟨b9, o9, rfl, hg9⟩ := hSn.elem (i := i) (by omega) (by decide)
        have hld : g.cell b9 (o9 + i * 1) = some (str nn) := hg9 0 _ (by rw [Nat.mul_one]; exact strs_get hnn)
        have hne := hno nn (List.mem_of_getElem? hnn)
        have HNE := Hn.mk (decide_eq_false hne)
        clear hS hSn hg9 hno hne hnn
        repeat' (first
    | refine wkQ ?_
    | ((with_reducible apply TL.pure (d := 23) (v := .bool false)); (· exact Y.eql_is HNE.out rfl rfl); (· rfl)) | ((with_reducible apply TW.pure (d := 23) (v := .bool false)); (· exact Y.eql_is HNE.out rfl rfl); (· rfl))
    | refine wkV ?_
    | ((with_reducible apply TL.pure); (· exact yM); (· rfl)) | ((with_reducible apply TW.pure); (· exact yM); (· rfl))
    | refine stS ?_ | (refine stB ?_; intro _) | (refine stC ?_; refine And.intro (fun _ => ?_) (fun _ => ?_)))
        refine TQ.round (i + 1) ?_ ?_ rfl subA selF
        · show i + 1 ≤ items.length
          omega
        · show items.length - (i + 1) < items.length - i
          omega
      · obtain rfl : i = items.length := by omega
        clear hS hSn hno
        repeat' (first
    | refine wkQ ?_
    | refine wkV ?_
    | ((with_reducible apply TL.pure); (· exact yM); (· rfl)) | ((with_reducible apply TW.pure); (· exact yM); (· rfl))
    | refine stS ?_ | (refine stB ?_; intro _) | (refine stC ?_; refine And.intro (fun _ => ?_) (fun _ => ?_)))
        refine TQ.endR2 (L' := L) Tryz.results25 rvA rvA rfl (.refl _) ?_ selF
        exact ⟨rfl, rfl, rfl⟩
    | some j =>
      obtain ⟨hk1, hk2⟩ := idxN_some hk
      have hkl := idxN_lt hk
      obtain ⟨y, hy⟩ : ∃ y, items[j]? = some y := ⟨_, List.getElem?_eq_getElem (by omega)⟩
      obtain ⟨c1, hV1, hcl1, hfl1⟩ := hI.get hy
      have hb : (some j).bind (items[·]?) = some y := hy
      rw [hb]
      obtain ⟨zk, zb, zn, zs, zi, zil, zic, zm, zml, zmc, rfl⟩ : ∃ zk zb zn zs zi zil zic zm zml zmc, c1 = [.int .i64 zk, .bool zb, .int .i64 zn, str zs, .slice zi zil zic, .slice zm zml zmc] := by
        obtain ⟨k2, b2, n2, s2, i2, m2⟩ := y
        rw [IsV] at hV1
        obtain ⟨vi2, vn2, _, e, _, _, _, h1, _, _, h2, _⟩ := hV1
        obtain ⟨_, _, e1⟩ := h1.slice
        obtain ⟨_, _, e2⟩ := h2.slice
        subst e1; subst e2
        exact ⟨_, _, _, _, _, _, _, _, _, _, e⟩
      refine ⟨[.int .i64 zk, .bool zb, .int .i64 zn, str zs, .slice zi zil zic, .slice zm zml zmc], true, fun L => .of (Does.of2 Tryz.func25 rfl Tryz.ntmps25 rfl ?_), rfl, rfl, hV1⟩
      clear hI w3 w4 hb
      repeat' (first
    | refine wkQ ?_
    | refine wkV ?_
    | ((with_reducible apply TL.pure); (· exact yM); (· rfl)) | ((with_reducible apply TW.pure); (· exact yM); (· rfl))
    | refine stS ?_ | (refine stB ?_; intro _) | (refine stC ?_; refine And.intro (fun _ => ?_) (fun _ => ?_)))
      rename_i b2 b4
      refine TC.loopL (fun i : Nat => i ≤ j) (fun i => items.length - i) (fun i _ => [(6, .int .i64 (i : Nat)), (1, str nm), (2, .pointer (some ⟨b2, 0, none⟩)), (4, .pointer (some ⟨b4, 0, none⟩))]) (fun _ => .obj b2 (.cells [.int .i64 5, .bool b, .int .i64 n, str s, .slice ai items.length ci, .slice an names.length cn].toArray 25 (0, 0)) :: .obj b4 (.cells [.int .i64 0, .bool false, .int .i64 0, .string ⟨#[]⟩, .slice none 0 0, .slice none 0 0].toArray 25 (0, 0)) :: L) 0 (Nat.zero_le _) subA selF ?_
      rintro i hi
      try dsimp only at hi ⊢
      have hlt : i < items.length := by omega
      by_cases hij : i = j
      · subst hij
        obtain ⟨b9, o9, rfl, hg9⟩ := hSn.elem (i := i) (by omega) (by decide)
        obtain ⟨b7, o7, rfl, hg7⟩ := hS.elem hlt (by decide)
        have hld : g.cell b9 (o9 + i * 1) = some (str nm) := hg9 0 _ (by rw [Nat.mul_one]; exact strs_get hk1)
        have hld3 : ∀ j2 u, ([.int .i64 zk, .bool zb, .int .i64 zn, str zs, .slice zi zil zic, .slice zm zml zmc] : List Value)[j2]? = some u → g.cell b7 (o7 + i * 6 + j2) = some u := fun j2 u hu => hg7 j2 u (hfl1 j2 u hu)
        clear hS hSn hg9 hg7 hfl1 hk1 hk2 hV1 hy hk
        repeat' (first
    | refine wkQ ?_
    | ((with_reducible apply TL.pure (d := 23) (v := .bool true)); (· exact Y.eql_is (decide_eq_true rfl) rfl rfl); (· rfl)) | ((with_reducible apply TW.pure (d := 23) (v := .bool true)); (· exact Y.eql_is (decide_eq_true rfl) rfl rfl); (· rfl))
    | refine wkV ?_
    | ((with_reducible apply TL.pure); (· exact yM); (· rfl)) | ((with_reducible apply TW.pure); (· exact yM); (· rfl))
    | refine stS ?_ | (refine stB ?_; intro _) | (refine stC ?_; refine And.intro (fun _ => ?_) (fun _ => ?_)))
        refine TQ.endR2 (L' := L) Tryz.results25 rvA rvA rfl (.refl _) ?_ selF
        exact ⟨rfl, rfl, rfl⟩
      · obtain ⟨nn, hnn⟩ : ∃ nn, names[i]? = some nn := ⟨_, List.getElem?_eq_getElem (by omega)⟩
        obtain ⟨b9, o9, rfl, hg9⟩ := hSn.elem (i := i) (by omega) (by decide)
        have hld : g.cell b9 (o9 + i * 1) = some (str nn) := hg9 0 _ (by rw [Nat.mul_one]; exact strs_get hnn)
        have hne : nn ≠ nm := fun e => hk2 i (by omega) (by rw [hnn, e])
        have HNE := Hn.mk (decide_eq_false hne)
        clear hS hSn hg9 hne hnn hk1 hk2 hV1 hy hfl1 hk
        repeat' (first
    | refine wkQ ?_
    | ((with_reducible apply TL.pure (d := 23) (v := .bool false)); (· exact Y.eql_is HNE.out rfl rfl); (· rfl)) | ((with_reducible apply TW.pure (d := 23) (v := .bool false)); (· exact Y.eql_is HNE.out rfl rfl); (· rfl))
    | refine wkV ?_
    | ((with_reducible apply TL.pure); (· exact yM); (· rfl)) | ((with_reducible apply TW.pure); (· exact yM); (· rfl))
    | refine stS ?_ | (refine stB ?_; intro _) | (refine stC ?_; refine And.intro (fun _ => ?_) (fun _ => ?_)))
        refine TQ.round (i + 1) ?_ ?_ rfl subA selF
        · show i + 1 ≤ j
          omega
        · show items.length - (i + 1) < items.length - i
          omega
  · rw [if_neg k5]
    have HK := Hn.mk k5
    refine ⟨[.int .i64 0, .bool false, .int .i64 0, .string ⟨#[]⟩, .slice none 0 0, .slice none 0 0], false, fun L => .of (Does.of2 Tryz.func25 rfl Tryz.ntmps25 rfl ?_), rfl, rfl, rfl⟩
    clear hI w3 w4 hS hSn
    repeat' (first
    | refine wkQ ?_
    | refine wkV ?_
    | ((with_reducible apply TL.pure); (· exact yM); (· rfl)) | ((with_reducible apply TW.pure); (· exact yM); (· rfl))
    | refine stS ?_ | (refine stB ?_; intro _) | (refine stC ?_; refine And.intro (fun _ => ?_) (fun _ => ?_)))
    refine TQ.endR2 (L' := L) Tryz.results25 rvA rvA rfl (.refl _) ?_ selF
    exact ⟨rfl, rfl, rfl⟩
end Go.Proofs.YtklmfbildebimaaGreatDoor
namespace Go.Proofs.YtklmfbildebimaaGreatDoor
open Go.RowKit Go.TL
set_option maxRecDepth 100000

theorem IsVs.len {g : Gh} : ∀ {l : List DV} {flat : List Value}, IsVs g l flat → flat.length = l.length * 6
  | [], _, h => by rw [IsVs] at h; subst h; rfl
  | x :: r, _, h => by
    rw [IsVs] at h
    obtain ⟨cs, fl, rfl, h1, h2⟩ := h
    rw [List.length_append, h1.len, h2.len, List.length_cons]; omega
theorem IsVs.append {g : Gh} {m : List DV} {fm : List Value} (hm : IsVs g m fm) : ∀ {l : List DV} {flat : List Value}, IsVs g l flat → IsVs g (l ++ m) (flat ++ fm)
  | [], _, h => by rw [IsVs] at h; subst h; exact hm
  | x :: r, _, h => by
    rw [IsVs] at h
    obtain ⟨cs, fl, rfl, h1, h2⟩ := h
    rw [List.cons_append, IsVs]
    exact ⟨cs, fl ++ fm, List.append_assoc .., h1, IsVs.append hm h2⟩
theorem IsVs.one {g : Gh} {x : DV} {cs : List Value} (h : IsV g x cs) : IsVs g [x] cs := by
  rw [IsVs]; exact ⟨cs, [], (List.append_nil _).symm, h, by rw [IsVs]⟩
theorem IsVs.take {g : Gh} : ∀ {l : List DV} {flat : List Value} (i : Nat), IsVs g l flat → IsVs g (l.take i) (flat.take (i * 6))
  | [], _, i, h => by rw [IsVs] at h; subst h; rw [List.take_nil, List.take_nil, IsVs]
  | x :: r, _, 0, h => by rw [Nat.zero_mul, List.take_zero, List.take_zero, IsVs]
  | x :: r, _, i + 1, h => by
    rw [IsVs] at h
    obtain ⟨cs, fl, rfl, h1, h2⟩ := h
    have hl := h1.len
    rw [List.take_succ_cons, IsVs]
    refine ⟨cs, fl.take (i * 6), ?_, h1, IsVs.take i h2⟩
    rw [List.take_append, List.take_of_length_le (by omega), show (i + 1) * 6 - cs.length = i * 6 by omega]
theorem IsVs.drop {g : Gh} : ∀ {l : List DV} {flat : List Value} (i : Nat), IsVs g l flat → IsVs g (l.drop i) (flat.drop (i * 6))
  | [], _, i, h => by rw [IsVs] at h; subst h; rw [List.drop_nil, List.drop_nil, IsVs]
  | x :: r, _, 0, h => by rw [Nat.zero_mul, List.drop_zero, List.drop_zero]; exact h
  | x :: r, _, i + 1, h => by
    rw [IsVs] at h
    obtain ⟨cs, fl, rfl, h1, h2⟩ := h
    have hl := h1.len
    rw [List.drop_succ_cons, List.drop_append, List.drop_eq_nil_of_le (show cs.length ≤ (i + 1) * 6 by omega), List.nil_append, show (i + 1) * 6 - cs.length = i * 6 by omega]
    exact IsVs.drop i h2
theorem IsVs.set {g : Gh} {l : List DV} {flat : List Value} {i : Nat} {y : DV} {us : List Value} (h : IsVs g l flat) (hy : IsV g y us) (hi : i < l.length) : IsVs g (l.set i y) (flat.take (i * 6) ++ (us ++ flat.drop (i * 6 + 6))) := by
  rw [List.set_eq_take_append_cons_drop, if_pos hi]
  refine .append ?_ (h.take i)
  have h2 := h.drop (i + 1)
  rw [show (i + 1) * 6 = i * 6 + 6 by omega] at h2
  exact .append h2 (.one hy)
theorem IsV.form {g : Gh} {x : DV} {cs : List Value} (h : IsV g x cs) : ∃ k b n s ai ni ci an nn cn, cs = [.int .i64 k, .bool b, .int .i64 n, str s, .slice ai ni ci, .slice an nn cn] := by
  obtain ⟨k, b, n, s, items, names⟩ := x
  rw [IsV] at h
  obtain ⟨vi, vn, flat, rfl, _, _, _, h1, _, _, h2, _⟩ := h
  obtain ⟨a, c, rfl⟩ := h1.slice
  obtain ⟨a2, c2, rfl⟩ := h2.slice
  exact ⟨_, _, _, _, _, _, _, _, _, _, rfl⟩
end Go.Proofs.YtklmfbildebimaaGreatDoor
namespace Go.Proofs.YtklmfbildebimaaGreatDoor
open Go.RowKit Go.TL
set_option maxRecDepth 100000

def ringD2 (x : DV) : Option (List Pt) := match placesD x with
  | some l => if decide (4 ≤ l.length) && endsE l = true then some (l.take (l.length - 1)) else none
  | none => none
def mapRD : List DV → Option (List (List Pt))
  | [] => some []
  | x :: r => match ringD2 x with
    | some p => (mapRD r).map (p :: ·)
    | none => none
def partsD (t : List UInt8) (w : DV) : Option (Int × List (List Pt)) :=
  if t = pointB then (placeD w).map fun p => (0, [[p]]) else if t = lineB then (placesD w).map fun l => (1, [l]) else if t = polyB then (if w.kind = 4 then (mapRD w.items).map fun l => (2, l) else none) else none
def okD : Option (Int × List (List Pt)) → Option (Int × List (List Pt))
  | some (k, ps) => if rightB k ps = true then some (k, ps) else none
  | none => none
def readW (n : Nat) (a b : Option DV) : Option (Int × List (List Pt)) := match a, b with
  | some nm, some w => if n = 2 ∧ nm.kind = 3 then okD (partsD nm.s w) else none
  | _, _ => none
def readD (z : DV) : Option (Int × List (List Pt)) := if mayV z 0 = 0 then readW z.items.length (fieldD z typeB) (fieldD z coordB) else none
def RdR (o : Option (Int × List (List Pt))) (L : List Ent) : Ending → Gh → List Ent → Prop := fun e g' L1 => ∃ v, L1 = L ∧ (match o with
  | some (k, ps) => e = .returned (.tuple #[shV k v, .int .i64 0]) ∧ IsParts g' v ps
  | none => e = .returned (.tuple #[shV 0 v, .int .i64 15]) ∧ v = .slice none 0 0)
set_option maxHeartbeats 32000000 in
theorem rRead9_no (z : DV) (cs : List Value) (g : Gh) (L : List Ent) (hV : IsV g z cs) (hW : wfV z) (hn : mayV z 0 ≠ 0 ∨ fieldD z typeB = none ∨ fieldD z coordB = none ∨ z.items.length ≠ 2 ∨ ∀ nm, fieldD z typeB = some nm → nm.kind ≠ 3) : Does Tryz.prog 8 #[.agg cs.toArray] g L (RdR none L) := by
  refine Does.of1 Tryz.func8 rfl Tryz.ntmps8 rfl ?_
  obtain ⟨zs, bt, F1, hz6, hm1⟩ := rField4_gives z cs g typeB hV hW
  obtain ⟨ys, bc, F2, hy6, hm2⟩ := rField4_gives z cs g coordB hV hW
  have MY := fun L => rMay_gives z cs g L hV hW
  obtain ⟨k, b, n, s, items, ns⟩ := z
  have hn' : mayV (.mk k b n s items ns) 0 ≠ 0 ∨ fieldD (.mk k b n s items ns) typeB = none ∨ fieldD (.mk k b n s items ns) coordB = none ∨ items.length ≠ 2 ∨ ∀ nm, fieldD (.mk k b n s items ns) typeB = some nm → nm.kind ≠ 3 := hn
  rw [IsV] at hV
  obtain ⟨vi, vn, flat, rfl, _, _, _, hS, hl, hI, hN, _, _⟩ := hV
  obtain ⟨ai, ci, rfl⟩ := hS.slice
  obtain ⟨an, cn, rfl⟩ := hN.slice
  obtain ⟨kz, z1, z2, z3, a4, l4, c4, a5, l5, c5, rfl, hkz⟩ : ∃ kz z1 z2 z3 a4 l4 c4 a5 l5 c5, zs = [.int .i64 kz, .bool z1, .int .i64 z2, str z3, .slice a4 l4 c4, .slice a5 l5 c5] ∧ ∀ nm, fieldD (.mk k b n s items ns) typeB = some nm → kz = nm.kind := by
    cases h : fieldD (.mk k b n s items ns) typeB with
    | none => rw [h] at hm1; obtain ⟨_, rfl⟩ := hm1; exact ⟨0, false, 0, [], _, _, _, _, _, _, rfl, fun nm hh => by cases hh⟩
    | some nm =>
      rw [h] at hm1
      obtain ⟨_, hv⟩ := hm1
      obtain ⟨k', b', n', s', i', m'⟩ := nm
      rw [IsV] at hv
      obtain ⟨vi, vn, fl, rfl, _, _, _, q1, _, _, q2, _⟩ := hv
      obtain ⟨_, _, rfl⟩ := q1.slice
      obtain ⟨_, _, rfl⟩ := q2.slice
      exact ⟨_, _, _, _, _, _, _, _, _, _, rfl, fun nm hh => by cases hh; rfl⟩
  obtain ⟨y0, y1, y2, y3, d4, e4, f4, d5, e5, f5, rfl⟩ : ∃ y0 y1 y2 y3 d4 e4 f4 d5 e5 f5, ys = [.int .i64 y0, .bool y1, .int .i64 y2, str y3, .slice d4 e4 f4, .slice d5 e5 f5] := by
    cases h : fieldD (.mk k b n s items ns) coordB with
    | none => rw [h] at hm2; obtain ⟨_, rfl⟩ := hm2; exact ⟨0, false, 0, [], _, _, _, _, _, _, rfl⟩
    | some nm => rw [h] at hm2; exact IsV.form hm2.2
  have hbt : bt = true → ∃ nm, fieldD (.mk k b n s items ns) typeB = some nm := fun h => by
    cases hh : fieldD (.mk k b n s items ns) typeB with
    | none => rw [hh] at hm1; rw [hm1.1] at h; cases h
    | some nm => exact ⟨nm, rfl⟩
  have hbt' : bt = true → fieldD (.mk k b n s items ns) typeB ≠ none := fun h hh => by obtain ⟨nm, e⟩ := hbt h; rw [hh] at e; cases e
  have hbc : bc = true → fieldD (.mk k b n s items ns) coordB ≠ none := fun h hh => by
    rw [hh] at hm2; rw [hm2.1] at h; cases h
  generalize mayV (.mk k b n s items ns) 0 = mv at *
  clear hS hI hN hm1 hm2
  have hfin : ∀ e g2 L2, e = .returned (.tuple #[shV 0 (.slice none 0 0), .int .i64 15]) ∧ g2 = g ∧ L2 = L → RdR none L e g2 L2 := fun e g2 L2 h => ⟨_, h.2.2, h.1, rfl⟩
  by_cases h0 : mv = 0
  case neg =>
    have d0 : (!decide (((mv : Nat) : Int) = 0)) = true := by rw [decide_eq_false (by omega)]; rfl
    clear hn hn' hbt hbt' hbc hkz
    repeat' (first
    | refine wkQ ?_
    | ((with_reducible apply TL.pure (d := 28) (v := .bool true)); (· exact Y.neq_b d0 rfl rfl); (· rfl)) | ((with_reducible apply TW.pure (d := 28) (v := .bool true)); (· exact Y.neq_b d0 rfl rfl); (· rfl))
    | refine wkV ?_
    | ((with_reducible apply TL.gives_plain); (· kernel_rfl); (· rfl); (· exact F1 _); (· rfl)) | ((with_reducible apply TW.gives_plain); (· kernel_rfl); (· rfl); (· exact F1 _); (· rfl))
    | ((with_reducible apply TL.gives_plain); (· kernel_rfl); (· rfl); (· exact F2 _); (· rfl)) | ((with_reducible apply TW.gives_plain); (· kernel_rfl); (· rfl); (· exact F2 _); (· rfl))
    | ((with_reducible apply TL.gives_plain); (· kernel_rfl); (· rfl); (· exact MY _); (· rfl)) | ((with_reducible apply TW.gives_plain); (· kernel_rfl); (· rfl); (· exact MY _); (· rfl))
    | refine stS ?_ | (refine stB ?_; intro _) | (refine stC ?_; refine And.intro (fun _ => ?_) (fun _ => ?_)))
    refine TQ.endR2 (L' := L) Tryz.results8 rvA rvA rfl (.refl _) ?_ selF
    exact hfin _ _ _ ⟨rfl, rfl, rfl⟩
  have d0 : (!decide (((mv : Nat) : Int) = 0)) = false := by rw [decide_eq_true (by omega)]; rfl
  cases bt with
  | false =>
    clear hn hn' hbt hbt' hbc hkz
    repeat' (first
    | refine wkQ ?_
    | ((with_reducible apply TL.pure (d := 28) (v := .bool false)); (· exact Y.neq_b d0 rfl rfl); (· rfl)) | ((with_reducible apply TW.pure (d := 28) (v := .bool false)); (· exact Y.neq_b d0 rfl rfl); (· rfl))
    | refine wkV ?_
    | ((with_reducible apply TL.gives_plain); (· kernel_rfl); (· rfl); (· exact F1 _); (· rfl)) | ((with_reducible apply TW.gives_plain); (· kernel_rfl); (· rfl); (· exact F1 _); (· rfl))
    | ((with_reducible apply TL.gives_plain); (· kernel_rfl); (· rfl); (· exact F2 _); (· rfl)) | ((with_reducible apply TW.gives_plain); (· kernel_rfl); (· rfl); (· exact F2 _); (· rfl))
    | ((with_reducible apply TL.gives_plain); (· kernel_rfl); (· rfl); (· exact MY _); (· rfl)) | ((with_reducible apply TW.gives_plain); (· kernel_rfl); (· rfl); (· exact MY _); (· rfl))
    | refine stS ?_ | (refine stB ?_; intro _) | (refine stC ?_; refine And.intro (fun _ => ?_) (fun _ => ?_)))
    refine TQ.endR2 (L' := L) Tryz.results8 rvA rvA rfl (.refl _) ?_ selF
    exact hfin _ _ _ ⟨rfl, rfl, rfl⟩
  | true =>
  cases bc with
  | false =>
    clear hn hn' hbt hbt' hbc hkz
    repeat' (first
    | refine wkQ ?_
    | ((with_reducible apply TL.pure (d := 28) (v := .bool false)); (· exact Y.neq_b d0 rfl rfl); (· rfl)) | ((with_reducible apply TW.pure (d := 28) (v := .bool false)); (· exact Y.neq_b d0 rfl rfl); (· rfl))
    | refine wkV ?_
    | ((with_reducible apply TL.gives_plain); (· kernel_rfl); (· rfl); (· exact F1 _); (· rfl)) | ((with_reducible apply TW.gives_plain); (· kernel_rfl); (· rfl); (· exact F1 _); (· rfl))
    | ((with_reducible apply TL.gives_plain); (· kernel_rfl); (· rfl); (· exact F2 _); (· rfl)) | ((with_reducible apply TW.gives_plain); (· kernel_rfl); (· rfl); (· exact F2 _); (· rfl))
    | ((with_reducible apply TL.gives_plain); (· kernel_rfl); (· rfl); (· exact MY _); (· rfl)) | ((with_reducible apply TW.gives_plain); (· kernel_rfl); (· rfl); (· exact MY _); (· rfl))
    | refine stS ?_ | (refine stB ?_; intro _) | (refine stC ?_; refine And.intro (fun _ => ?_) (fun _ => ?_)))
    refine TQ.endR2 (L' := L) Tryz.results8 rvA rvA rfl (.refl _) ?_ selF
    exact hfin _ _ _ ⟨rfl, rfl, rfl⟩
  | true =>
  by_cases h2 : items.length = 2
  case neg =>
    have d2 : (!decide (((items.length : Nat) : Int) = 2)) = true := by rw [decide_eq_false (by omega)]; rfl
    clear hn hn' hbt hbt' hbc hkz
    repeat' (first
    | refine wkQ ?_
    | ((with_reducible apply TL.pure (d := 28) (v := .bool false)); (· exact Y.neq_b d0 rfl rfl); (· rfl)) | ((with_reducible apply TW.pure (d := 28) (v := .bool false)); (· exact Y.neq_b d0 rfl rfl); (· rfl))
    | ((with_reducible apply TL.pure (d := 41) (v := .bool true)); (· exact Y.neq_b d2 rfl rfl); (· rfl)) | ((with_reducible apply TW.pure (d := 41) (v := .bool true)); (· exact Y.neq_b d2 rfl rfl); (· rfl))
    | refine wkV ?_
    | ((with_reducible apply TL.gives_plain); (· kernel_rfl); (· rfl); (· exact F1 _); (· rfl)) | ((with_reducible apply TW.gives_plain); (· kernel_rfl); (· rfl); (· exact F1 _); (· rfl))
    | ((with_reducible apply TL.gives_plain); (· kernel_rfl); (· rfl); (· exact F2 _); (· rfl)) | ((with_reducible apply TW.gives_plain); (· kernel_rfl); (· rfl); (· exact F2 _); (· rfl))
    | ((with_reducible apply TL.gives_plain); (· kernel_rfl); (· rfl); (· exact MY _); (· rfl)) | ((with_reducible apply TW.gives_plain); (· kernel_rfl); (· rfl); (· exact MY _); (· rfl))
    | refine stS ?_ | (refine stB ?_; intro _) | (refine stC ?_; refine And.intro (fun _ => ?_) (fun _ => ?_)))
    refine TQ.endR2 (L' := L) Tryz.results8 rvA rvA rfl (.refl _) ?_ selF
    exact hfin _ _ _ ⟨rfl, rfl, rfl⟩
  have d2 : (!decide (((items.length : Nat) : Int) = 2)) = false := by rw [decide_eq_true (by omega)]; rfl
  have h3 : kz ≠ 3 := by
    obtain ⟨nm, hnm⟩ := hbt rfl
    rcases hn' with h | h | h | h | h
    · exact absurd h0 h
    · exact absurd h (hbt' rfl)
    · exact absurd h (hbc rfl)
    · exact absurd h2 h
    · rw [hkz nm hnm]; exact h nm hnm
  have d3 : (!decide (kz = 3)) = true := by rw [decide_eq_false h3]; rfl
  clear hn hn' hbt hbt' hbc hkz
  repeat' (first
    | refine wkQ ?_
    | ((with_reducible apply TL.pure (d := 28) (v := .bool false)); (· exact Y.neq_b d0 rfl rfl); (· rfl)) | ((with_reducible apply TW.pure (d := 28) (v := .bool false)); (· exact Y.neq_b d0 rfl rfl); (· rfl))
    | ((with_reducible apply TL.pure (d := 41) (v := .bool false)); (· exact Y.neq_b d2 rfl rfl); (· rfl)) | ((with_reducible apply TW.pure (d := 41) (v := .bool false)); (· exact Y.neq_b d2 rfl rfl); (· rfl))
    | ((with_reducible apply TL.pure (d := 46) (v := .bool true)); (· exact Y.neq_b d3 rfl rfl); (· rfl)) | ((with_reducible apply TW.pure (d := 46) (v := .bool true)); (· exact Y.neq_b d3 rfl rfl); (· rfl))
    | refine wkV ?_
    | ((with_reducible apply TL.gives_plain); (· kernel_rfl); (· rfl); (· exact F1 _); (· rfl)) | ((with_reducible apply TW.gives_plain); (· kernel_rfl); (· rfl); (· exact F1 _); (· rfl))
    | ((with_reducible apply TL.gives_plain); (· kernel_rfl); (· rfl); (· exact F2 _); (· rfl)) | ((with_reducible apply TW.gives_plain); (· kernel_rfl); (· rfl); (· exact F2 _); (· rfl))
    | ((with_reducible apply TL.gives_plain); (· kernel_rfl); (· rfl); (· exact MY _); (· rfl)) | ((with_reducible apply TW.gives_plain); (· kernel_rfl); (· rfl); (· exact MY _); (· rfl))
    | refine stS ?_ | (refine stB ?_; intro _) | (refine stC ?_; refine And.intro (fun _ => ?_) (fun _ => ?_)))
  refine TQ.endR2 (L' := L) Tryz.results8 rvA rvA rfl (.refl _) ?_ selF
  exact hfin _ _ _ ⟨rfl, rfl, rfl⟩
end Go.Proofs.YtklmfbildebimaaGreatDoor
