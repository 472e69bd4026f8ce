/-
  query's Rect. Makers of conditions: boxed, pointed. The table of the makers of conditions.
-/
import Derived.Test.YtgollffmdpejiaaGreatDoorQz3
import Derived.Test.YtgollffmdpejiaaGreatDoorQz40
import Derived.Test.YtgollffmdpejiaaGreatDoorQz13
namespace Go.Proofs.YtgollffmdpejiaaGreatDoor
open Go.RowKit Go.TL
set_option maxRecDepth 100000

def rectR : J → Rc
  | .list [.num a, .num b, .num c, .num d] => ⟨a, b, c, d⟩
  | _ => ⟨0, 0, 0, 0⟩
theorem rectJ_R {x : J} {r : Rc} (h : rectJ x = some r) : r = rectR x := by
  unfold rectJ at h
  split at h
  · split at h
    · cases h; rfl
    · cases h
  · cases h
theorem numQ {g : Gh} {x : J} {v : Value} (h : IsJ g x v) : (∃ n, x = .num n ∧ v = .iface 70 (.int .i64 n) ∧ -9223372036854775808 ≤ n ∧ n ≤ 9223372036854775807) ∨ ((∀ n, x ≠ .num n) ∧ NoT v 70) := by
  cases x with
  | num n => rw [IsJ] at h; exact .inl ⟨n, rfl, h⟩
  | _ => exact .inr ⟨fun n e => (by cases e), h.noT _ rfl⟩
def numD : J → Int
  | .num n => n
  | _ => 0
def rc4 (a b c d : Int) : Nat → List Value
  | 0 => [.int .i64 0, .int .i64 0, .int .i64 0, .int .i64 0]
  | 1 => [.int .i64 a, .int .i64 0, .int .i64 0, .int .i64 0]
  | 2 => [.int .i64 a, .int .i64 b, .int .i64 0, .int .i64 0]
  | 3 => [.int .i64 a, .int .i64 b, .int .i64 c, .int .i64 0]
  | _ => [.int .i64 a, .int .i64 b, .int .i64 c, .int .i64 d]
theorem rc4_0 (a b c d : Int) : rc4 a b c d 0 = [.int .i64 0, .int .i64 0, .int .i64 0, .int .i64 0] := rfl
theorem rc4_1 (a b c d : Int) : rc4 a b c d 1 = [.int .i64 a, .int .i64 0, .int .i64 0, .int .i64 0] := rfl
theorem rc4_2 (a b c d : Int) : rc4 a b c d 2 = [.int .i64 a, .int .i64 b, .int .i64 0, .int .i64 0] := rfl
theorem rc4_3 (a b c d : Int) : rc4 a b c d 3 = [.int .i64 a, .int .i64 b, .int .i64 c, .int .i64 0] := rfl
theorem rc4_4 (a b c d : Int) : rc4 a b c d 4 = [.int .i64 a, .int .i64 b, .int .i64 c, .int .i64 d] := rfl
def isNumJ (x : J) : Prop := ∃ n, x = .num n
theorem rectR_no {x0 x1 x2 x3 : J} (h : ¬ (isNumJ x0 ∧ isNumJ x1 ∧ isNumJ x2 ∧ isNumJ x3)) : rectR (.list [x0, x1, x2, x3]) = ⟨0, 0, 0, 0⟩ ∧ rectJ (.list [x0, x1, x2, x3]) = none := by
  cases x0 with
  | num a => cases x1 with
    | num b => cases x2 with
      | num c => cases x3 with
        | num d => exact absurd ⟨⟨a, rfl⟩, ⟨b, rfl⟩, ⟨c, rfl⟩, ⟨d, rfl⟩⟩ h
        | _ => exact ⟨rfl, rfl⟩
      | _ => exact ⟨rfl, rfl⟩
    | _ => exact ⟨rfl, rfl⟩
  | _ => exact ⟨rfl, rfl⟩
theorem rect_len {l : List J} (h : l.length ≠ 4) : rectR (.list l) = ⟨0, 0, 0, 0⟩ ∧ rectJ (.list l) = none := by
  match l, h with
  | [], _ => exact ⟨rfl, rfl⟩
  | [x], _ => cases x <;> exact ⟨rfl, rfl⟩
  | [x, y], _ => cases x <;> first | exact ⟨rfl, rfl⟩ | (cases y <;> exact ⟨rfl, rfl⟩)
  | [x, y, z], _ => cases x <;> first | exact ⟨rfl, rfl⟩ | (cases y <;> first | exact ⟨rfl, rfl⟩ | (cases z <;> exact ⟨rfl, rfl⟩))
  | [_, _, _, _], h => exact absurd rfl h
  | a :: b :: c :: d :: e :: r, _ =>
    refine ⟨?_, ?_⟩
    · unfold rectR; split
      · rename_i hh; simp at hh
      · rfl
    · unfold rectJ; split
      · rename_i hh; simp at hh
      · rfl
set_option maxHeartbeats 64000000 in
theorem qRect_gives (x : J) (v : Value) (g : Gh) (L : List Ent) (hX : IsJ g x v) : Gives Tryz.prog 225 #[v] g L (.tuple #[rcV (rectR x), .bool (rectJ x).isSome]) := by
  refine .of (Does.of1 Tryz.func225 rfl Tryz.ntmps225 rfl ?_)
  cases hx : isListJ x with
  | false =>
    have hr : rectR x = ⟨0, 0, 0, 0⟩ ∧ rectJ x = none := by cases x <;> first | exact ⟨rfl, rfl⟩ | cases hx
    rw [hr.1, hr.2]
    have ov := hX.one
    have hn : NoT v 50 := by cases x <;> first | exact hX.noT _ rfl | cases hx
    clear hX hr hx
    repeat' (first
    | refine wkQ ?_
    | (refine wkA 14 (v := .tuple #[.slice none 0 0, .bool false]) ?_ ?_; · exact Y.assert_noT rfl hn)
    | refine wkV ?_
    | refine stS ?_ | (refine stB ?_; intro _) | (refine stC ?_; constructor <;> intro _))
    refine TQ.endR2 (L' := L) Tryz.results225 rvA rvA rfl (.refl _) ?_ selF
    exact ⟨rfl, rfl, rfl⟩
  | true =>
  obtain ⟨l, rfl⟩ : ∃ l, x = .list l := by cases x <;> first | exact ⟨_, rfl⟩ | cases hx
  rw [IsJ] at hX
  obtain ⟨sl, fl, rfl, hS, hI⟩ := hX
  obtain ⟨ao, cap, rfl⟩ := hS.slice
  clear hx
  by_cases h4 : l.length = 4
  case neg =>
    obtain ⟨r1, r2⟩ := rect_len h4
    rw [r1, r2]
    have b0 : (!decide (((l.length : Nat) : Int) = 4)) = true := by rw [decide_eq_false (by omega)]; rfl
    clear hS hI r1 r2
    repeat' (first
    | refine wkQ ?_
    | (refine wkA 22 (v := .bool true) ?_ ?_; · exact Y.neq_b b0 rfl rfl)
    | refine wkV ?_
    | refine stS ?_ | (refine stB ?_; intro _) | (refine stC ?_; constructor <;> intro _))
    refine TQ.endR2 (L' := L) Tryz.results225 rvA rvA rfl (.refl _) ?_ selF
    exact ⟨rfl, rfl, rfl⟩
  obtain ⟨x0, x1, x2, x3, rfl⟩ : ∃ a b c d, l = [a, b, c, d] := by
    match l, h4 with
    | [a, b, c, d], _ => exact ⟨a, b, c, d, rfl⟩
  clear h4
  have hE : ∀ (i : Nat) x, [x0, x1, x2, x3][i]? = some x → ∃ u b1 o1, ao = some ⟨b1, o1, none⟩ ∧ g.cell b1 (o1 + i * 1) = some u ∧ IsJ g x u := fun i x h => by
    obtain ⟨u, hu, hj⟩ := hI.get h
    obtain ⟨b1, o1, he, hg⟩ := hS.elem (i := i) (by have := (List.getElem?_eq_some_iff.1 h).1; simpa using this) (by decide)
    exact ⟨u, b1, o1, he, hg 0 _ (by rw [Nat.mul_one]; exact hu), hj⟩
  have b0 : (!decide (((([x0, x1, x2, x3] : List J).length : Nat) : Int) = 4)) = false := rfl
  clear hS hI
  have HRn : Hn (¬ (isNumJ x0 ∧ isNumJ x1 ∧ isNumJ x2 ∧ isNumJ x3) → rectR (.list [x0, x1, x2, x3]) = ⟨0, 0, 0, 0⟩ ∧ rectJ (.list [x0, x1, x2, x3]) = none) := ⟨rectR_no⟩
  repeat' (first
    | refine wkQ ?_
    | (refine wkA 22 (v := .bool false) ?_ ?_; · exact Y.neq_b b0 rfl rfl)
    | refine wkV ?_
    | refine stS ?_ | (refine stB ?_; intro _) | (refine stC ?_; constructor <;> intro _))
  rename_i b2 b6
  refine TC.loopL (fun i : Nat => i ≤ 4 ∧ (0 < i → isNumJ x0) ∧ (1 < i → isNumJ x1) ∧ (2 < i → isNumJ x2) ∧ (3 < i → isNumJ x3)) (fun i => 4 - i) (fun i _ => [(27, .int .i64 (i : Nat)), (26, .int .i64 ((4 : Nat) : Int)), (25, .slice ao 4 cap), (6, .pointer (some ⟨b6, 0, none⟩)), (2, .pointer (some ⟨b2, 0, none⟩)), (3, .bool false)]) (fun i => .obj b6 (.cells (rc4 (numD x0) (numD x1) (numD x2) (numD x3) i).toArray 313 (0, 0)) :: .obj b2 (.cells [.int .i64 0, .int .i64 0, .int .i64 0, .int .i64 0].toArray 169 (0, 0)) :: L) 0 ⟨by omega, fun h => absurd h (by omega), fun h => absurd h (by omega), fun h => absurd h (by omega), fun h => absurd h (by omega)⟩ subA selA ?_
  rintro i ⟨hi, i0, i1, i2, i3⟩
  try dsimp only at hi i0 i1 i2 i3 ⊢
  by_cases hlt : i < 4
  · rcases (by omega : i = 0 ∨ i = 1 ∨ i = 2 ∨ i = 3) with rfl | rfl | rfl | rfl
    · obtain ⟨u, b1, o1, rfl, hld, hj⟩ := hE 0 x0 rfl
      rcases numQ hj with ⟨n, rfl, rfl, _, _⟩ | ⟨hno, hnt⟩
      · clear hE hj HRn
        rw [rc4_0]
        repeat' (first
    | refine wkQ ?_
    | (refine wkA 42 (v := .pointer (some ⟨b6, 0, none⟩)) ?_ ?_; · exact Y.index_arr1 rfl rfl rfl (by decide))
    | refine wkV ?_
    | refine wkM ?_
    | refine stS ?_ | (refine stB ?_; intro _) | (refine stC ?_; constructor <;> intro _))
        refine TQ.round (0 + 1) ?_ ?_ rfl subA ?_
        · exact ⟨by omega, fun _ => ⟨_, rfl⟩, fun h => absurd h (by omega), fun h => absurd h (by omega), fun h => absurd h (by omega)⟩
        · show 4 - (0 + 1) < 4 - 0
          omega
        · try dsimp only
          rw [show 0 + 1 = 1 from rfl, rc4_1]
          exact selF
      · obtain ⟨r1, r2⟩ := HRn.out (fun h => by obtain ⟨n, hn⟩ := h.1; exact hno n hn)
        rw [r1, r2]
        have ou := hj.one
        clear hE hj HRn r1 r2 hno
        rw [rc4_0]
        repeat' (first
    | refine wkQ ?_
    | (refine wkA 34 (v := .tuple #[.int .i64 0, .bool false]) ?_ ?_; · exact Y.assert_noT rfl hnt)
    | refine wkV ?_
    | refine wkM ?_
    | refine stS ?_ | (refine stB ?_; intro _) | (refine stC ?_; constructor <;> intro _))
        refine TQ.endR2 (L' := L) Tryz.results225 rvA rvA rfl (.refl _) ?_ selF
        exact ⟨rfl, rfl, rfl⟩
    · obtain ⟨u, b1, o1, rfl, hld, hj⟩ := hE 1 x1 rfl
      rcases numQ hj with ⟨n, rfl, rfl, _, _⟩ | ⟨hno, hnt⟩
      · clear hE hj HRn
        rw [rc4_1]
        repeat' (first
    | refine wkQ ?_
    | (refine wkA 42 (v := .pointer (some ⟨b6, 1, none⟩)) ?_ ?_; · exact Y.index_arr1 rfl rfl rfl (by decide))
    | refine wkV ?_
    | refine wkM ?_
    | refine stS ?_ | (refine stB ?_; intro _) | (refine stC ?_; constructor <;> intro _))
        refine TQ.round (1 + 1) ?_ ?_ rfl subA ?_
        · exact ⟨by omega, fun _ => i0 (by omega), fun _ => ⟨_, rfl⟩, fun h => absurd h (by omega), fun h => absurd h (by omega)⟩
        · show 4 - (1 + 1) < 4 - 1
          omega
        · try dsimp only
          rw [show 1 + 1 = 2 from rfl, rc4_2]
          exact selF
      · obtain ⟨r1, r2⟩ := HRn.out (fun h => by obtain ⟨n, hn⟩ := h.2.1; exact hno n hn)
        rw [r1, r2]
        have ou := hj.one
        clear hE hj HRn r1 r2 hno
        rw [rc4_1]
        repeat' (first
    | refine wkQ ?_
    | (refine wkA 34 (v := .tuple #[.int .i64 0, .bool false]) ?_ ?_; · exact Y.assert_noT rfl hnt)
    | refine wkV ?_
    | refine wkM ?_
    | refine stS ?_ | (refine stB ?_; intro _) | (refine stC ?_; constructor <;> intro _))
        refine TQ.endR2 (L' := L) Tryz.results225 rvA rvA rfl (.refl _) ?_ selF
        exact ⟨rfl, rfl, rfl⟩
    · obtain ⟨u, b1, o1, rfl, hld, hj⟩ := hE 2 x2 rfl
      rcases numQ hj with ⟨n, rfl, rfl, _, _⟩ | ⟨hno, hnt⟩
      · clear hE hj HRn
        rw [rc4_2]
        repeat' (first
    | refine wkQ ?_
    | (refine wkA 42 (v := .pointer (some ⟨b6, 2, none⟩)) ?_ ?_; · exact Y.index_arr1 rfl rfl rfl (by decide))
    | refine wkV ?_
    | refine wkM ?_
    | refine stS ?_ | (refine stB ?_; intro _) | (refine stC ?_; constructor <;> intro _))
        refine TQ.round (2 + 1) ?_ ?_ rfl subA ?_
        · exact ⟨by omega, fun _ => i0 (by omega), fun _ => i1 (by omega), fun _ => ⟨_, rfl⟩, fun h => absurd h (by omega)⟩
        · show 4 - (2 + 1) < 4 - 2
          omega
        · try dsimp only
          rw [show 2 + 1 = 3 from rfl, rc4_3]
          exact selF
      · obtain ⟨r1, r2⟩ := HRn.out (fun h => by obtain ⟨n, hn⟩ := h.2.2.1; exact hno n hn)
        rw [r1, r2]
        have ou := hj.one
        clear hE hj HRn r1 r2 hno
        rw [rc4_2]
        repeat' (first
    | refine wkQ ?_
    | (refine wkA 34 (v := .tuple #[.int .i64 0, .bool false]) ?_ ?_; · exact Y.assert_noT rfl hnt)
    | refine wkV ?_
    | refine wkM ?_
    | refine stS ?_ | (refine stB ?_; intro _) | (refine stC ?_; constructor <;> intro _))
        refine TQ.endR2 (L' := L) Tryz.results225 rvA rvA rfl (.refl _) ?_ selF
        exact ⟨rfl, rfl, rfl⟩
    · obtain ⟨u, b1, o1, rfl, hld, hj⟩ := hE 3 x3 rfl
      rcases numQ hj with ⟨n, rfl, rfl, _, _⟩ | ⟨hno, hnt⟩
      · clear hE hj HRn
        rw [rc4_3]
        repeat' (first
    | refine wkQ ?_
    | (refine wkA 42 (v := .pointer (some ⟨b6, 3, none⟩)) ?_ ?_; · exact Y.index_arr1 rfl rfl rfl (by decide))
    | refine wkV ?_
    | refine wkM ?_
    | refine stS ?_ | (refine stB ?_; intro _) | (refine stC ?_; constructor <;> intro _))
        refine TQ.round (3 + 1) ?_ ?_ rfl subA ?_
        · exact ⟨by omega, fun _ => i0 (by omega), fun _ => i1 (by omega), fun _ => i2 (by omega), fun _ => ⟨_, rfl⟩⟩
        · show 4 - (3 + 1) < 4 - 3
          omega
        · try dsimp only
          rw [show 3 + 1 = 4 from rfl, rc4_4]
          exact selF
      · obtain ⟨r1, r2⟩ := HRn.out (fun h => by obtain ⟨n, hn⟩ := h.2.2.2; exact hno n hn)
        rw [r1, r2]
        have ou := hj.one
        clear hE hj HRn r1 r2 hno
        rw [rc4_3]
        repeat' (first
    | refine wkQ ?_
    | (refine wkA 34 (v := .tuple #[.int .i64 0, .bool false]) ?_ ?_; · exact Y.assert_noT rfl hnt)
    | refine wkV ?_
    | refine wkM ?_
    | refine stS ?_ | (refine stB ?_; intro _) | (refine stC ?_; constructor <;> intro _))
        refine TQ.endR2 (L' := L) Tryz.results225 rvA rvA rfl (.refl _) ?_ selF
        exact ⟨rfl, rfl, rfl⟩
  · obtain rfl : i = 4 := by omega
    obtain ⟨a, rfl⟩ := i0 (by omega)
    obtain ⟨b, rfl⟩ := i1 (by omega)
    obtain ⟨c, rfl⟩ := i2 (by omega)
    obtain ⟨d, rfl⟩ := i3 (by omega)
    have MR := fun L => MayRect_gives ⟨a, b, c, d⟩ g L
    have hs : (rectJ (.list [.num a, .num b, .num c, .num d])).isSome = mayR ⟨a, b, c, d⟩ := by
      show (if mayR ⟨a, b, c, d⟩ = true then some (⟨a, b, c, d⟩ : Rc) else none).isSome = _
      cases mayR ⟨a, b, c, d⟩ <;> rfl
    rw [hs]
    clear hE HRn hs i0 i1 i2 i3
    generalize mayR ⟨a, b, c, d⟩ = mr at *
    rw [rc4_4]
    dsimp only [numD, rectR]
    repeat' (first
    | refine wkQ ?_
    | (refine wkA 44 (v := .pointer (some ⟨b6, 0, none⟩)) ?_ ?_; · exact Y.index_arr1 rfl rfl rfl (by decide))
    | (refine wkA 46 (v := .pointer (some ⟨b6, 1, none⟩)) ?_ ?_; · exact Y.index_arr1 rfl rfl rfl (by decide))
    | (refine wkA 48 (v := .pointer (some ⟨b6, 2, none⟩)) ?_ ?_; · exact Y.index_arr1 rfl rfl rfl (by decide))
    | (refine wkA 50 (v := .pointer (some ⟨b6, 3, none⟩)) ?_ ?_; · exact Y.index_arr1 rfl rfl rfl (by decide))
    | refine wkV ?_
    | refine wkD (MR _) ?_
    | (refine TC.region_tail 3 (by kernel_rfl) (by kernel_rfl) ?_; simp only [List.take_succ_cons, List.take_zero, List.drop_succ_cons, List.drop_zero]) | refine TQ.tail ?_
    | refine stS ?_ | (refine stB ?_; intro _) | (refine stC ?_; constructor <;> intro _)
    | refine wkW ?_)
    refine TQ.endR2 (L' := L) Tryz.results225 rvA rvA rfl (.refl _) ?_ selF
    exact ⟨rfl, rfl, rfl⟩
end Go.Proofs.YtgollffmdpejiaaGreatDoor
namespace Go.Proofs.YtgollffmdpejiaaGreatDoor
open Go.RowKit Go.TL
set_option maxRecDepth 100000

abbrev rcL (r : Rc) : List Value := [.int .i64 r.x0, .int .i64 r.y0, .int .i64 r.x1, .int .i64 r.y1]
set_option maxHeartbeats 16000000 in
theorem boxed_does (x : J) (v : Value) (g : Gh) (L : List Ent) (hX : IsJ g x v) (_sX : smJ x) (_hT : GTabs g) (_hU : GU8 g) : Does Tryz.prog 174 #[v] g L (MkR boxN x L) := by
  refine Does.of1 Tryz.func174 rfl Tryz.ntmps174 rfl ?_
  have NY := fun g L => qneed_yes g L
  have NO := fun g L => qneed_no g L
  have RE := fun L => qRect_gives x v g L hX
  have ov := hX.one
  have hb : condB boxN x = (rectJ x).isSome := rfl
  have ho : orB boxN x = false := rfl
  unfold MkR
  rw [hb, ho]
  clear hX
  cases hr : rectJ x with
  | none =>
    rw [hr] at RE
    generalize rectR x = r at *
    repeat' (first
    | refine wkQ ?_
    | refine wkV ?_
    | refine wkD (RE _) ?_
    | refine TL.throws (Enters.plain (by kernel_rfl) (by rfl)) (NO _ _) (by rfl) ?_
    | refine stS ?_ | (refine stB ?_; intro _) | (refine stC ?_; constructor <;> intro _))
    refine TQ.end_panic (L' := L) rfl (.refl _) ?_ selA
    exact ⟨rfl, rfl⟩
  | some r =>
    have hR := rectJ_R hr
    rw [hr, ← hR] at RE
    repeat' (first
    | refine wkQ ?_
    | refine wkV ?_
    | refine wkD (RE _) ?_
    | refine wkD (NY _ _) ?_
    | (refine wkA 13 (v := .func (.func 226) #[] ([Value.pointer (some ⟨_, 0, none⟩)] : List Value).toArray) ?_ ?_; · exact Y.make_func rfl)
    | refine stS ?_ | (refine stB ?_; intro _) | (refine stC ?_; constructor <;> intro _))
    rename_i b
    refine TQ.keep_obj (vs := rcL r) pkA (Nat.le_of_ble_eq_true rfl) fun g2 hg2 hc2 => ?_
    refine TQ.endR2 (L' := L) Tryz.results174 rvA rvA rfl (hg2) ?_ selF
    exact ⟨rfl, _, rfl, AskW.no rfl rfl⟩
set_option maxHeartbeats 16000000 in
theorem pointed_does (x : J) (v : Value) (g : Gh) (L : List Ent) (hX : IsJ g x v) (_sX : smJ x) (_hT : GTabs g) (_hU : GU8 g) : Does Tryz.prog 175 #[v] g L (MkR pointN x L) := by
  refine Does.of1 Tryz.func175 rfl Tryz.ntmps175 rfl ?_
  have NY := fun g L => qneed_yes g L
  have NO := fun g L => qneed_no g L
  have RE := fun L => qRect_gives x v g L hX
  have ov := hX.one
  have hb : condB pointN x = (rectJ x).isSome := rfl
  have ho : orB pointN x = false := rfl
  unfold MkR
  rw [hb, ho]
  clear hX
  cases hr : rectJ x with
  | none =>
    rw [hr] at RE
    generalize rectR x = r at *
    repeat' (first
    | refine wkQ ?_
    | refine wkV ?_
    | refine wkD (RE _) ?_
    | refine TL.throws (Enters.plain (by kernel_rfl) (by rfl)) (NO _ _) (by rfl) ?_
    | refine stS ?_ | (refine stB ?_; intro _) | (refine stC ?_; constructor <;> intro _))
    refine TQ.end_panic (L' := L) rfl (.refl _) ?_ selA
    exact ⟨rfl, rfl⟩
  | some r =>
    have hR := rectJ_R hr
    rw [hr, ← hR] at RE
    repeat' (first
    | refine wkQ ?_
    | refine wkV ?_
    | refine wkD (RE _) ?_
    | refine wkD (NY _ _) ?_
    | (refine wkA 13 (v := .func (.func 227) #[] ([Value.pointer (some ⟨_, 0, none⟩)] : List Value).toArray) ?_ ?_; · exact Y.make_func rfl)
    | refine stS ?_ | (refine stB ?_; intro _) | (refine stC ?_; constructor <;> intro _))
    rename_i b
    refine TQ.keep_obj (vs := rcL r) pkA (Nat.le_of_ble_eq_true rfl) fun g2 hg2 hc2 => ?_
    refine TQ.endR2 (L' := L) Tryz.results175 rvA rvA rfl (hg2) ?_ selF
    exact ⟨rfl, _, rfl, AskW.no rfl rfl⟩
end Go.Proofs.YtgollffmdpejiaaGreatDoor
namespace Go.Proofs.YtgollffmdpejiaaGreatDoor
open Go.RowKit Go.TL
set_option maxRecDepth 100000

theorem nowQ (a b : List UInt8) : Instr.sameNow .string (str a) (str b) = some (decide (a = b)) := by
  show some ((⟨a.toArray⟩ : ByteArray) == ⟨b.toArray⟩) = _
  congr 1
  by_cases h : a = b
  · subst h
    rw [decide_eq_true rfl]
    show (a.toArray == a.toArray) = true
    exact beq_self_eq_true _
  · rw [decide_eq_false h]
    show (a.toArray == b.toArray) = false
    rw [beq_eq_false_iff_ne]
    intro e
    exact h (by simpa using e)
theorem findQ {k : List UInt8} {a : List UInt8} {v : Value} {n i : Nat} {es : List MapEntry} : Instr.findNow .string (str k) (⟨str a, v, n⟩ :: es) i = if k = a then some (some (i, v)) else Instr.findNow .string (str k) es (i + 1) := by
  rw [Instr.findNow]
  dsimp only
  rw [nowQ]
  by_cases h : k = a
  · rw [if_pos h, decide_eq_true h]
  · rw [if_neg h, decide_eq_false h]
def entQ : Nat → List (List UInt8 × Value) → List MapEntry
  | _, [] => []
  | c, p :: r => ⟨str p.1, p.2, c⟩ :: entQ (c + 1) r
theorem makers_find {g : Gh} (n : List UInt8) : ∀ (l : List (List UInt8 × Value)) (c i : Nat), (∀ p ∈ l, MakeOk g p.2 p.1) →
    (∃ j mk, Instr.findNow .string (str n) (entQ c l) i = some (some (j, mk)) ∧ MakeOk g mk n ∧ n ∈ l.map (·.1)) ∨ (Instr.findNow .string (str n) (entQ c l) i = some none ∧ n ∉ l.map (·.1))
  | [], c, i, _ => .inr ⟨rfl, by simp⟩
  | p :: r, c, i, h => by
    rw [entQ, findQ]
    by_cases hn : n = p.1
    · rw [if_pos hn]
      exact .inl ⟨i, p.2, rfl, hn ▸ h p (List.mem_cons_self), by rw [hn]; simp⟩
    · rw [if_neg hn]
      rcases makers_find n r (c + 1) (i + 1) (fun q hq => h q (List.mem_cons_of_mem _ hq)) with ⟨j, mk, h1, h2, h3⟩ | ⟨h1, h2⟩
      · exact .inl ⟨j, mk, h1, h2, List.mem_cons_of_mem _ h3⟩
      · exact .inr ⟨h1, fun hm => by rcases List.mem_cons.1 hm with h4 | h4; exact hn h4; exact h2 h4⟩
abbrev fnV (F : FuncId) : Value := .func (.func F) #[] #[]
def makersL (a b c d e f : Value) : List (List UInt8 × Value) := [(eqN, fnV 157), (neN, fnV 159), (ltN, a), (lteN, b), (gtN, c), (gteN, d), (inN, fnV 166), (ninN, fnV 168), (exN, fnV 169), (kindN, fnV 170), (withinN, e), (meetsN, f), (boxN, fnV 174), (pointN, fnV 175), (wordsN, fnV 176)]
def namesQ : List (List UInt8) := [eqN, neN, ltN, lteN, gtN, gteN, inN, ninN, exN, kindN, withinN, meetsN, boxN, pointN, wordsN]
def MakersOk (g : Gh) (es : Array MapEntry) : Prop := ∀ n, (∃ j mk, Instr.findNow .string (str n) es.toList 0 = some (some (j, mk)) ∧ MakeOk g mk n ∧ n ∈ namesQ) ∨ (Instr.findNow .string (str n) es.toList 0 = some none ∧ n ∉ namesQ)
theorem makers_ok {g : Gh} {a b c d e f : Value} (hT : GTabs g) (hU : GU8 g) (hP : GSp g) (ha : MakeOk g a ltN) (hb : MakeOk g b lteN) (hc : MakeOk g c gtN) (hd : MakeOk g d gteN) (he : MakeOk g e withinN) (hf : MakeOk g f meetsN) : MakersOk g (entQ 0 (makersL a b c d e f)).toArray := by
  intro n
  refine makers_find n (makersL a b c d e f) 0 0 fun p hp => ?_
  rcases List.mem_cons.1 hp with rfl | hp
  · exact ⟨⟨157, [], rfl, by kernel_rfl, fun g2 hg x v L hx sx => testA_does x v g2 L hx sx (hT.le hg) (hU.le hg)⟩⟩
  rcases List.mem_cons.1 hp with rfl | hp
  · exact ⟨⟨159, [], rfl, by kernel_rfl, fun g2 hg x v L hx sx => testB_does x v g2 L hx sx (hT.le hg) (hU.le hg)⟩⟩
  rcases List.mem_cons.1 hp with rfl | hp
  · exact ha
  rcases List.mem_cons.1 hp with rfl | hp
  · exact hb
  rcases List.mem_cons.1 hp with rfl | hp
  · exact hc
  rcases List.mem_cons.1 hp with rfl | hp
  · exact hd
  rcases List.mem_cons.1 hp with rfl | hp
  · exact ⟨⟨166, [], rfl, by kernel_rfl, fun g2 hg x v L hx sx => testG_does x v g2 L hx sx (hT.le hg) (hU.le hg)⟩⟩
  rcases List.mem_cons.1 hp with rfl | hp
  · exact ⟨⟨168, [], rfl, by kernel_rfl, fun g2 hg x v L hx sx => testH_does x v g2 L hx sx (hT.le hg) (hU.le hg)⟩⟩
  rcases List.mem_cons.1 hp with rfl | hp
  · exact ⟨⟨169, [], rfl, by kernel_rfl, fun g2 hg x v L hx sx => exists_does x v g2 L hx⟩⟩
  rcases List.mem_cons.1 hp with rfl | hp
  · exact ⟨⟨170, [], rfl, by kernel_rfl, fun g2 hg x v L hx sx => kind_does x v g2 L hx (hT.le hg) (hU.le hg)⟩⟩
  rcases List.mem_cons.1 hp with rfl | hp
  · exact he
  rcases List.mem_cons.1 hp with rfl | hp
  · exact hf
  rcases List.mem_cons.1 hp with rfl | hp
  · exact ⟨⟨174, [], rfl, by kernel_rfl, fun g2 hg x v L hx sx => boxed_does x v g2 L hx sx (hT.le hg) (hU.le hg)⟩⟩
  rcases List.mem_cons.1 hp with rfl | hp
  · exact ⟨⟨175, [], rfl, by kernel_rfl, fun g2 hg x v L hx sx => pointed_does x v g2 L hx sx (hT.le hg) (hU.le hg)⟩⟩
  rcases List.mem_cons.1 hp with rfl | hp
  · exact ⟨⟨176, [], rfl, by kernel_rfl, fun g2 hg x v L hx sx => spoken_does x v g2 L hx sx (hP.le hg)⟩⟩
  cases hp
set_option maxHeartbeats 16000000 in
theorem tests_does (g : Gh) (L : List Ent) (hT : GTabs g) (hU : GU8 g) (hP : GSp g) : Does Tryz.prog 126 #[] g L fun e g' L1 => ∃ b es, e = .returned (.map (some b)) ∧ L1 = .obj b (.map es 15) :: L ∧ MakersOk g' es := by
  refine Does.of0 Tryz.func126 rfl Tryz.ntmps126 rfl ?_
  have hQ := Gh.le.refl g
  repeat' (first
    | refine wkQ ?_
    | refine wkV ?_
    | (refine TL.insertS (by rfl) (by rfl) (by rfl) pkA (by rfl) ?_)
    | (refine TL.call (Enters.plain (by kernel_rfl) (by rfl)) (by rfl) (compared_does ltN _ _ _ _ testC_so (hT.le hQ) (hU.le hQ) (fun _ => rfl) (fun _ => rfl) (fun _ _ => rfl)) ?_; (rintro e g1 Ln hg1 ⟨f, k1, k2, m1⟩; have k2 := k2.symm; subst k1; subst k2; have hQ := hQ.trans hg1; skip; refine CallK.ret ?_))
    | (refine TL.call (Enters.plain (by kernel_rfl) (by rfl)) (by rfl) (compared_does lteN _ _ _ _ testD_so (hT.le hQ) (hU.le hQ) (fun _ => rfl) (fun _ => rfl) (fun _ _ => rfl)) ?_; (rintro e g1 Ln hg1 ⟨f, k1, k2, m2⟩; have k2 := k2.symm; subst k1; subst k2; have hQ := hQ.trans hg1; (have m1 := m1.le hg1); refine CallK.ret ?_))
    | (refine TL.call (Enters.plain (by kernel_rfl) (by rfl)) (by rfl) (compared_does gtN _ _ _ _ testE_so (hT.le hQ) (hU.le hQ) (fun _ => rfl) (fun _ => rfl) (fun _ _ => rfl)) ?_; (rintro e g1 Ln hg1 ⟨f, k1, k2, m3⟩; have k2 := k2.symm; subst k1; subst k2; have hQ := hQ.trans hg1; (have m1 := m1.le hg1; have m2 := m2.le hg1); refine CallK.ret ?_))
    | (refine TL.call (Enters.plain (by kernel_rfl) (by rfl)) (by rfl) (compared_does gteN _ _ _ _ testF_so (hT.le hQ) (hU.le hQ) (fun _ => rfl) (fun _ => rfl) (fun _ _ => rfl)) ?_; (rintro e g1 Ln hg1 ⟨f, k1, k2, m4⟩; have k2 := k2.symm; subst k1; subst k2; have hQ := hQ.trans hg1; (have m1 := m1.le hg1; have m2 := m2.le hg1; have m3 := m3.le hg1); refine CallK.ret ?_))
    | (refine TL.call (Enters.plain (by kernel_rfl) (by rfl)) (by rfl) (shaped_does withinN (.func (.func 172) #[] #[]) true _ _ rfl (hT.le hQ) (hU.le hQ) (fun x => by show (match readX x with | some (k, _) => decide (k = 2) | none => false) = _; cases readX x <;> rfl) (fun _ => rfl) rfl) ?_; (rintro e g1 Ln hg1 ⟨f, k1, k2, m5⟩; have k2 := k2.symm; subst k1; subst k2; have hQ := hQ.trans hg1; (have m1 := m1.le hg1; have m2 := m2.le hg1; have m3 := m3.le hg1; have m4 := m4.le hg1); refine CallK.ret ?_))
    | (refine TL.call (Enters.plain (by kernel_rfl) (by rfl)) (by rfl) (shaped_does meetsN (.func (.func 173) #[] #[]) false _ _ rfl (hT.le hQ) (hU.le hQ) (fun x => by show (readX x).isSome = _; cases readX x <;> rfl) (fun _ => rfl) rfl) ?_; (rintro e g1 Ln hg1 ⟨f, k1, k2, m6⟩; have k2 := k2.symm; subst k1; subst k2; have hQ := hQ.trans hg1; (have m1 := m1.le hg1; have m2 := m2.le hg1; have m3 := m3.le hg1; have m4 := m4.le hg1; have m5 := m5.le hg1); refine CallK.ret ?_))
    | (refine TL.make_map (by rfl) ?_; intro bm)
    | refine stS ?_ | (refine stB ?_; intro _) | (refine stC ?_; constructor <;> intro _))
  refine TQ.endR1 (L' := .obj bm (.map (entQ 0 (makersL _ _ _ _ _ _)).toArray 15) :: L) Tryz.results126 rvA rfl hQ ?_ selF
  exact ⟨bm, _, rfl, rfl, makers_ok (hT.le hQ) (hU.le hQ) (hP.le hQ) m1 m2 m3 m4 m5 m6⟩
end Go.Proofs.YtgollffmdpejiaaGreatDoor
