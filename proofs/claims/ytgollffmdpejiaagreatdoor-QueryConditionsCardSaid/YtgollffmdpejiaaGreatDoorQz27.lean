/-
  The walks of order's kind, cmp.Compare, cmp.Or, rows, members, compare.
-/
import Derived.Test.YtgollffmdpejiaaGreatDoorQz3
import Derived.Test.YtgollffmdpejiaaGreatDoorQz21
import Derived.Test.YtgollffmdpejiaaGreatDoorQz23
namespace Go.Proofs.YtgollffmdpejiaaGreatDoor
open Go.RowKit Go.TL
set_option maxRecDepth 100000

def kindJ : J → Int
  | .null => 1
  | .bool b => if b = true then 3 else 2
  | .num _ => 4
  | .text _ => 5
  | .list _ => 6
  | .obj _ _ => 7
  | .other _ => 1
theorem okind_gives (x : J) (v : Value) (g : Gh) (L : List Ent) (hV : IsJ g x v) : Gives Tryz.prog 84 #[v] g L (.int .u8 (kindJ x)) := by
  refine .of (Does.of1 Tryz.func84 rfl Tryz.ntmps84 rfl ?_)
  cases x with
  | null =>
    rw [IsJ] at hV
    subst hV
    repeat' (first
    | refine wkV ?_
    | refine stS ?_ | (refine stB ?_; intro _) | (refine stC ?_; constructor <;> intro _))
    refine TQ.endR1 (L' := L) Tryz.results84 rvA rfl (.refl _) ?_ selA
    exact ⟨rfl, rfl, rfl⟩
  | bool b =>
    rw [IsJ] at hV
    subst hV
    cases b <;> dsimp only [kindJ]
    all_goals
      repeat' (first
    | refine wkV ?_
    | refine stS ?_ | (refine stB ?_; intro _) | (refine stC ?_; constructor <;> intro _))
      refine TQ.endR1 (L' := L) Tryz.results84 rvA rfl (.refl _) ?_ selA
      exact ⟨rfl, rfl, rfl⟩
  | num b =>
    rw [IsJ] at hV
    obtain ⟨rfl, _⟩ := hV
    repeat' (first
    | refine wkV ?_
    | refine stS ?_ | (refine stB ?_; intro _) | (refine stC ?_; constructor <;> intro _))
    refine TQ.endR1 (L' := L) Tryz.results84 rvA rfl (.refl _) ?_ selA
    exact ⟨rfl, rfl, rfl⟩
  | text b =>
    rw [IsJ] at hV
    subst hV
    repeat' (first
    | refine wkV ?_
    | refine stS ?_ | (refine stB ?_; intro _) | (refine stC ?_; constructor <;> intro _))
    refine TQ.endR1 (L' := L) Tryz.results84 rvA rfl (.refl _) ?_ selA
    exact ⟨rfl, rfl, rfl⟩
  | list xs =>
    rw [IsJ] at hV
    obtain ⟨sl, flat, rfl, _⟩ := hV
    repeat' (first
    | refine wkV ?_
    | refine stS ?_ | (refine stB ?_; intro _) | (refine stC ?_; constructor <;> intro _))
    refine TQ.endR1 (L' := L) Tryz.results84 rvA rfl (.refl _) ?_ selA
    exact ⟨rfl, rfl, rfl⟩
  | obj ns xs =>
    rw [IsJ] at hV
    obtain ⟨sl, flat, rfl, _⟩ := hV
    repeat' (first
    | refine wkV ?_
    | refine stS ?_ | (refine stB ?_; intro _) | (refine stC ?_; constructor <;> intro _))
    refine TQ.endR1 (L' := L) Tryz.results84 rvA rfl (.refl _) ?_ selA
    exact ⟨rfl, rfl, rfl⟩
  | other k =>
    rw [IsJ] at hV
    subst hV
    repeat' (first
    | refine wkV ?_
    | refine stS ?_ | (refine stB ?_; intro _) | (refine stC ?_; constructor <;> intro _))
    refine TQ.endR1 (L' := L) Tryz.results84 rvA rfl (.refl _) ?_ selA
    exact ⟨rfl, rfl, rfl⟩
theorem nanByte_gives (a : Int) (g : Gh) (L : List Ent) : Gives Tryz.prog 119 #[.int .u8 a] g L (.bool false) := by
  refine .of (Does.of1 Tryz.func119 rfl Tryz.ntmps119 rfl ?_)
  repeat' (first
    | refine stS ?_ | (refine stB ?_; intro _) | (refine stC ?_; constructor <;> intro _))
  refine TQ.endR1 (L' := L) Tryz.results119 rvA rfl (.refl _) ?_ selA
  exact ⟨by simp, rfl, rfl⟩
theorem nanNum_gives (a : Int) (g : Gh) (L : List Ent) : Gives Tryz.prog 120 #[.int .i64 a] g L (.bool false) := by
  refine .of (Does.of1 Tryz.func120 rfl Tryz.ntmps120 rfl ?_)
  repeat' (first
    | refine stS ?_ | (refine stB ?_; intro _) | (refine stC ?_; constructor <;> intro _))
  refine TQ.endR1 (L' := L) Tryz.results120 rvA rfl (.refl _) ?_ selA
  exact ⟨by simp, rfl, rfl⟩
theorem nanInt_gives (a : Int) (g : Gh) (L : List Ent) : Gives Tryz.prog 156 #[.int .i64 a] g L (.bool false) := by
  refine .of (Does.of1 Tryz.func156 rfl Tryz.ntmps156 rfl ?_)
  repeat' (first
    | refine stS ?_ | (refine stB ?_; intro _) | (refine stC ?_; constructor <;> intro _))
  refine TQ.endR1 (L' := L) Tryz.results156 rvA rfl (.refl _) ?_ selA
  exact ⟨by simp, rfl, rfl⟩
theorem cmpByte_gives (a b : Int) (g : Gh) (L : List Ent) : Gives Tryz.prog 85 #[.int .u8 a, .int .u8 b] g L (.int .i64 (cmpI a b)) := by
  refine .of (Does.of2 Tryz.func85 rfl Tryz.ntmps85 rfl ?_)
  repeat' (first
    | refine wkD (nanByte_gives _ _ _) ?_
    | refine wkP ?_
    | ((with_reducible apply TL.byteK); (· rfl); (· rfl); (· exact natA); (· assumption); (· rfl); intro _) | ((with_reducible apply TL.byte); (· rfl); (· rfl); (· exact natA); (· exact omA); (· rfl); intro _ _ _)
    | refine stS ?_ | (refine stB ?_; intro _) | (refine stC ?_; constructor <;> intro _)
    | refine wkW ?_
    | ((with_reducible apply TL.range_str); (· rfl); (· rfl); intro _) | ((with_reducible apply TL.next_str); (· rfl); (· exact pkA); (· rfl); all_goals intro _)
    | ((with_reducible apply TW.byteK); (· rfl); (· rfl); (· exact natA); (· assumption); (· rfl); intro _) | ((with_reducible apply TW.byte); (· rfl); (· rfl); (· exact natA); (· exact omA); (· rfl); intro _ _ _)
    | refine TW.guard_yes rfl rfl ?_ | refine TW.guard_no rfl rfl rfl rfl ?_ | refine TW.guard_undef rfl rfl rfl ?_ | refine TW.guard rfl rfl rfl ?_ | fail)
  · rename_i h
    refine TQ.endR1 (L' := L) Tryz.results85 rvA rfl (.refl _) ?_ selA
    exact ⟨by rw [cmpI, if_pos h], rfl, rfl⟩
  · rename_i h h2
    refine TQ.endR1 (L' := L) Tryz.results85 rvA rfl (.refl _) ?_ selA
    exact ⟨by rw [cmpI, if_neg h, if_pos h2], rfl, rfl⟩
  · rename_i h h2
    refine TQ.endR1 (L' := L) Tryz.results85 rvA rfl (.refl _) ?_ selA
    exact ⟨by rw [cmpI, if_neg h, if_neg h2], rfl, rfl⟩
theorem cmpNum_gives (a b : Int) (g : Gh) (L : List Ent) : Gives Tryz.prog 86 #[.int .i64 a, .int .i64 b] g L (.int .i64 (cmpI a b)) := by
  refine .of (Does.of2 Tryz.func86 rfl Tryz.ntmps86 rfl ?_)
  repeat' (first
    | refine wkD (nanNum_gives _ _ _) ?_
    | refine wkP ?_
    | ((with_reducible apply TL.byteK); (· rfl); (· rfl); (· exact natA); (· assumption); (· rfl); intro _) | ((with_reducible apply TL.byte); (· rfl); (· rfl); (· exact natA); (· exact omA); (· rfl); intro _ _ _)
    | refine stS ?_ | (refine stB ?_; intro _) | (refine stC ?_; constructor <;> intro _)
    | refine wkW ?_
    | ((with_reducible apply TL.range_str); (· rfl); (· rfl); intro _) | ((with_reducible apply TL.next_str); (· rfl); (· exact pkA); (· rfl); all_goals intro _)
    | ((with_reducible apply TW.byteK); (· rfl); (· rfl); (· exact natA); (· assumption); (· rfl); intro _) | ((with_reducible apply TW.byte); (· rfl); (· rfl); (· exact natA); (· exact omA); (· rfl); intro _ _ _)
    | refine TW.guard_yes rfl rfl ?_ | refine TW.guard_no rfl rfl rfl rfl ?_ | refine TW.guard_undef rfl rfl rfl ?_ | refine TW.guard rfl rfl rfl ?_ | fail)
  · rename_i h
    refine TQ.endR1 (L' := L) Tryz.results86 rvA rfl (.refl _) ?_ selA
    exact ⟨by rw [cmpI, if_pos h], rfl, rfl⟩
  · rename_i h h2
    refine TQ.endR1 (L' := L) Tryz.results86 rvA rfl (.refl _) ?_ selA
    exact ⟨by rw [cmpI, if_neg h, if_pos h2], rfl, rfl⟩
  · rename_i h h2
    refine TQ.endR1 (L' := L) Tryz.results86 rvA rfl (.refl _) ?_ selA
    exact ⟨by rw [cmpI, if_neg h, if_neg h2], rfl, rfl⟩
theorem cmpInt_gives (a b : Int) (g : Gh) (L : List Ent) : Gives Tryz.prog 122 #[.int .i64 a, .int .i64 b] g L (.int .i64 (cmpI a b)) := by
  refine .of (Does.of2 Tryz.func122 rfl Tryz.ntmps122 rfl ?_)
  repeat' (first
    | refine wkD (nanInt_gives _ _ _) ?_
    | refine wkP ?_
    | ((with_reducible apply TL.byteK); (· rfl); (· rfl); (· exact natA); (· assumption); (· rfl); intro _) | ((with_reducible apply TL.byte); (· rfl); (· rfl); (· exact natA); (· exact omA); (· rfl); intro _ _ _)
    | refine stS ?_ | (refine stB ?_; intro _) | (refine stC ?_; constructor <;> intro _)
    | refine wkW ?_
    | ((with_reducible apply TL.range_str); (· rfl); (· rfl); intro _) | ((with_reducible apply TL.next_str); (· rfl); (· exact pkA); (· rfl); all_goals intro _)
    | ((with_reducible apply TW.byteK); (· rfl); (· rfl); (· exact natA); (· assumption); (· rfl); intro _) | ((with_reducible apply TW.byte); (· rfl); (· rfl); (· exact natA); (· exact omA); (· rfl); intro _ _ _)
    | refine TW.guard_yes rfl rfl ?_ | refine TW.guard_no rfl rfl rfl rfl ?_ | refine TW.guard_undef rfl rfl rfl ?_ | refine TW.guard rfl rfl rfl ?_ | fail)
  · rename_i h
    refine TQ.endR1 (L' := L) Tryz.results122 rvA rfl (.refl _) ?_ selA
    exact ⟨by rw [cmpI, if_pos h], rfl, rfl⟩
  · rename_i h h2
    refine TQ.endR1 (L' := L) Tryz.results122 rvA rfl (.refl _) ?_ selA
    exact ⟨by rw [cmpI, if_neg h, if_pos h2], rfl, rfl⟩
  · rename_i h h2
    refine TQ.endR1 (L' := L) Tryz.results122 rvA rfl (.refl _) ?_ selA
    exact ⟨by rw [cmpI, if_neg h, if_neg h2], rfl, rfl⟩
theorem cmpB_lib : ∀ (a b : List UInt8), Lib.compareBytes a b = cmpB a b
  | [], [] => by rw [Lib.compareBytes, cmpB, Op.bytesLess]; rfl
  | [], _ :: _ => by rw [Lib.compareBytes, cmpB, Op.bytesLess]; rfl
  | _ :: _, [] => by rw [Lib.compareBytes, cmpB, Op.bytesLess]; rfl
  | x :: a, y :: b => by
    have ih := cmpB_lib a b
    rw [Lib.compareBytes, cmpB, Op.bytesLess, ih]
    by_cases h1 : x < y
    · rw [if_pos h1, if_pos (by simp [h1])]
    · rw [if_neg h1]
      by_cases h2 : y < x
      · rw [if_pos h2]
        have hne : x ≠ y := fun e => by subst e; exact absurd h2 (UInt8.lt_irrefl x)
        rw [if_neg (by simp [h1, hne]), if_neg (by simp [hne])]
      · rw [if_neg h2]
        have he : x = y := UInt8.le_antisymm (UInt8.not_lt.1 h2) (UInt8.not_lt.1 h1)
        subst he
        rw [cmpB]
        by_cases h3 : Op.bytesLess a b = true
        · rw [if_pos h3, if_pos (by simp [h3])]
        · rw [if_neg h3, if_neg (show ¬ ((decide (x < x) || x == x && Op.bytesLess a b) = true) by simp [h3, UInt8.lt_irrefl])]
          by_cases h4 : a = b
          · rw [if_pos h4, if_pos (by rw [h4])]
          · rw [if_neg h4, if_neg (by simp [h4])]
theorem sCompare_gives (a b : List UInt8) (g : Gh) (L : List Ent) : Gives Tryz.prog 87 #[str a, str b] g L (.int .i64 (cmpB a b)) :=
  .same fun w => by
    have := Tryz.strings_Compare ⟨a.toArray⟩ ⟨b.toArray⟩ w
    rw [show (ByteArray.mk a.toArray).data.toList = a from by simp, show (ByteArray.mk b.toArray).data.toList = b from by simp, cmpB_lib] at this
    exact this
theorem cmpB_bd (a b : List UInt8) : -1 ≤ cmpB a b ∧ cmpB a b ≤ 1 := by
  unfold cmpB; repeat' split
  all_goals omega
theorem cmpI_bd (a b : Int) : -1 ≤ cmpI a b ∧ cmpI a b ≤ 1 := by
  unfold cmpI; repeat' split
  all_goals omega
theorem cmpB_self (a : List UInt8) : cmpB a a = 0 := by
  rw [← cmpB_lib]
  induction a with
  | nil => rfl
  | cons x r ih => rw [Lib.compareBytes, if_neg (UInt8.lt_irrefl x), if_neg (UInt8.lt_irrefl x), ih]
theorem cmpB_eq0 {a b : List UInt8} (h : cmpB a b = 0) : a = b := by
  unfold cmpB at h
  split at h
  · omega
  · split at h
    · assumption
    · omega
mutual
def cmpJ : J → J → Int
  | .null, y => cmpI 1 (kindJ y)
  | .bool b, y => cmpI (if b = true then 3 else 2) (kindJ y)
  | .num a, y => match y with
    | .num b => cmpI a b
    | y => cmpI 4 (kindJ y)
  | .text a, y => match y with
    | .text b => cmpB a b
    | y => cmpI 5 (kindJ y)
  | .list xs, y => match y with
    | .list ys => cmpJs false [] [] xs ys xs.length ys.length
    | y => cmpI 6 (kindJ y)
  | .obj ms xs, y => match y with
    | .obj ns ys => cmpJs true ms ns xs ys xs.length ys.length
    | y => cmpI 7 (kindJ y)
  | .other _, y => cmpI 1 (kindJ y)
def cmpJs (o : Bool) : List (List UInt8) → List (List UInt8) → List J → List J → Nat → Nat → Int
  | ns, ms, x :: r, ys, a, c => match ys with
    | [] => cmpI a c
    | y :: t => if o = true ∧ ns.headD [] ≠ ms.headD [] then cmpB (ns.headD []) (ms.headD []) else if cmpJ x y ≠ 0 then cmpJ x y else cmpJs o ns.tail ms.tail r t a c
  | _, _, [], _, a, c => cmpI a c
end
mutual
theorem cmpJ_bd : ∀ (x y : J), -1 ≤ cmpJ x y ∧ cmpJ x y ≤ 1
  | .null, y => by rw [cmpJ]; exact cmpI_bd _ _
  | .bool b, y => by rw [cmpJ]; exact cmpI_bd _ _
  | .other b, y => by rw [cmpJ]; exact cmpI_bd _ _
  | .num b, y => by
    by_cases hy : ∃ c, y = .num c
    · obtain ⟨c, rfl⟩ := hy
      rw [cmpJ]; exact cmpI_bd _ _
    · rw [cmpJ]
      · exact cmpI_bd _ _
      · exact fun c h => hy ⟨c, h⟩
  | .text b, y => by
    by_cases hy : ∃ c, y = .text c
    · obtain ⟨c, rfl⟩ := hy
      rw [cmpJ]; exact cmpB_bd _ _
    · rw [cmpJ]
      · exact cmpI_bd _ _
      · exact fun c h => hy ⟨c, h⟩
  | .list xs, y => by
    by_cases hy : ∃ c, y = .list c
    · obtain ⟨c, rfl⟩ := hy
      rw [cmpJ]; exact cmpJs_bd _ _ _ _ _ _ _
    · rw [cmpJ]
      · exact cmpI_bd _ _
      · exact fun c h => hy ⟨c, h⟩
  | .obj ns xs, y => by
    by_cases hy : ∃ ms ys, y = .obj ms ys
    · obtain ⟨ms, ys, rfl⟩ := hy
      rw [cmpJ]; exact cmpJs_bd _ _ _ _ _ _ _
    · rw [cmpJ]
      · exact cmpI_bd _ _
      · exact fun c d h => hy ⟨c, d, h⟩
theorem cmpJs_bd (o : Bool) : ∀ (ns ms : List (List UInt8)) (l m : List J) (a c : Nat), -1 ≤ cmpJs o ns ms l m a c ∧ cmpJs o ns ms l m a c ≤ 1
  | ns, ms, x :: r, [], a, c => by
    rw [cmpJs]; exact cmpI_bd _ _
  | ns, ms, x :: r, y :: t, a, c => by
    rw [cmpJs]
    have h1 := cmpJ_bd x y
    have h2 := cmpJs_bd o ns.tail ms.tail r t a c
    have h3 := cmpB_bd (ns.headD []) (ms.headD [])
    repeat' split
    all_goals omega
  | _, _, [], m, a, c => by
    rw [cmpJs]; exact cmpI_bd _ _
end
theorem cmpJs_at {o : Bool} {ns ms : List (List UInt8)} {l m : List J} {i : Nat} {x y : J} (hx : l[i]? = some x) (hy : m[i]? = some y) (a c : Nat) :
    cmpJs o (ns.drop i) (ms.drop i) (l.drop i) (m.drop i) a c = if o = true ∧ (ns.drop i).headD [] ≠ (ms.drop i).headD [] then cmpB ((ns.drop i).headD []) ((ms.drop i).headD []) else if cmpJ x y ≠ 0 then cmpJ x y else cmpJs o (ns.drop (i + 1)) (ms.drop (i + 1)) (l.drop (i + 1)) (m.drop (i + 1)) a c := by
  obtain ⟨hi, he⟩ := List.getElem?_eq_some_iff.1 hx
  obtain ⟨hi2, he2⟩ := List.getElem?_eq_some_iff.1 hy
  rw [List.drop_eq_getElem_cons hi, he, List.drop_eq_getElem_cons hi2, he2, cmpJs, List.tail_drop, List.tail_drop]
theorem cmpJs_end {o : Bool} {ns ms : List (List UInt8)} {l m : List J} {i : Nat} (h : l.length ≤ i ∨ m.length ≤ i) (a c : Nat) : cmpJs o ns ms (l.drop i) (m.drop i) a c = cmpI a c := by
  rcases h with h | h
  · rw [List.drop_eq_nil_of_le h]
    rw [cmpJs]
  · rw [List.drop_eq_nil_of_le h]
    cases l.drop i with
    | nil => rw [cmpJs]
    | cons x r => rw [cmpJs]
set_option maxHeartbeats 8000000 in
theorem rowsAny_gives (xs ys : List J) (fx fy : List Value) (ax ay : Option Addr) (cx cy : Nat) (g : Gh) (L : List Ent) (hx : Sl g (.slice ax xs.length cx) xs.length 1 fx) (hy : Sl g (.slice ay ys.length cy) ys.length 1 fy) (jx : IsJs g xs fx) (jy : IsJs g ys fy) (_lx : xs.length ≤ 1000000) (_ly : ys.length ≤ 1000000)
    (H : ∀ (i : Nat) (x y : J) (vx vy : Value), xs[i]? = some x → ys[i]? = some y → IsJ g x vx → IsJ g y vy → ∀ L, Gives Tryz.prog 58 #[vx, vy] g L (.int .i64 (cmpJ x y))) :
    Gives Tryz.prog 88 #[.slice ax xs.length cx, .slice ay ys.length cy, .func (.func 58) #[] #[]] g L (.int .i64 (cmpJs false [] [] xs ys xs.length ys.length)) := by
  refine .of (Does.of3 Tryz.func88 rfl Tryz.ntmps88 rfl ?_)
  obtain ⟨R, hR⟩ : ∃ R, R = cmpJs false [] [] xs ys xs.length ys.length := ⟨_, rfl⟩
  rw [← hR]
  obtain ⟨m, hm⟩ : ∃ m : Nat, m = if ys.length < xs.length then ys.length else xs.length := ⟨_, rfl⟩
  have hmx : m ≤ xs.length := by rw [hm]; split <;> omega
  have hmy : m ≤ ys.length := by rw [hm]; split <;> omega
  have hme : m = xs.length ∨ m = ys.length := by rw [hm]; split <;> omega
  have hmi : (if ((ys.length : Nat) : Int) < (xs.length : Nat) then ((ys.length : Nat) : Int) else (xs.length : Nat)) = (m : Nat) := by rw [hm]; split <;> split <;> omega
  have HM : Hn _ := ⟨hmi⟩
  clear hmi hm
  repeat' (first
    | (refine wkA 13 (v := .int .i64 (m : Nat)) ?_ ?_; · exact Y.min_int rfl rfl HM.out)
    | refine stS ?_ | (refine stB ?_; intro _) | (refine stC ?_; constructor <;> intro _))
  refine TC.loopK (fun i : Nat => i ≤ m ∧ cmpJs false ([].drop i) ([].drop i) (xs.drop i) (ys.drop i) xs.length ys.length = R) (fun i => m - i) (fun i _ => [(14, .int .i64 (i : Nat)), (13, .int .i64 (m : Nat)), (0, .slice ax xs.length cx), (1, .slice ay ys.length cy), (2, .func (.func 58) #[] #[])]) [] (by repeat (first | apply Drop.nil | apply Drop.cons (by (repeat (first | apply Pick.here | apply Pick.there))))) (fun _ L => L) 0 ⟨Nat.zero_le _, hR.symm⟩ subA selA ?_
  clear hR
  rintro i ⟨hi, hR⟩
  try dsimp only at hi hR ⊢
  by_cases hlt : i < m
  · obtain ⟨x, hxi⟩ : ∃ x, xs[i]? = some x := ⟨_, List.getElem?_eq_getElem (by omega)⟩
    obtain ⟨y, hyi⟩ : ∃ y, ys[i]? = some y := ⟨_, List.getElem?_eq_getElem (by omega)⟩
    obtain ⟨vx, h1, k1⟩ := jx.get hxi
    obtain ⟨vy, h2, k2⟩ := jy.get hyi
    obtain ⟨b1, o1, rfl, g1⟩ := hx.elem (i := i) (by omega) (by decide)
    obtain ⟨b2, o2, rfl, g2⟩ := hy.elem (i := i) (by omega) (by decide)
    have ld1 : g.cell b1 (o1 + i * 1) = some vx := g1 0 vx (by rw [Nat.mul_one]; exact h1)
    have ld2 : g.cell b2 (o2 + i * 1) = some vy := g2 0 vy (by rw [Nat.mul_one]; exact h2)
    have A := H i x y vx vy hxi hyi k1 k2
    rw [cmpJs_at hxi hyi, if_neg (by simp)] at hR
    have bd := cmpJ_bd x y
    generalize cmpJ x y = r at *
    clear hx hy jx jy H g1 g2 h1 h2 k1 k2
    by_cases hr : r = 0
    · subst hr
      rw [if_neg (by simp)] at hR
      have HR : Hn _ := ⟨hR⟩
      clear hR
      repeat' (first
    | refine wkV ?_
    | refine TL.gives (Enters.func (by rfl) (by kernel_rfl) (by rfl)) (A _) (by rfl) ?_ | refine TW.gives (Enters.func (by rfl) (by kernel_rfl) (by rfl)) (A _) (by rfl) ?_
    | refine stS ?_ | (refine stB ?_; intro _) | (refine stC ?_; constructor <;> intro _)
    | refine wkW ?_)
      refine TQ.round (i + 1) ?_ ?_ rfl subA selA
      · exact ⟨by omega, HR.out⟩
      · show m - (i + 1) < m - i
        omega
    · rw [if_pos hr] at hR
      subst hR
      have h2 : Hn (¬ r = 0) := ⟨hr⟩
      repeat' (first
    | refine wkV ?_
    | refine TL.gives (Enters.func (by rfl) (by kernel_rfl) (by rfl)) (A _) (by rfl) ?_ | refine TW.gives (Enters.func (by rfl) (by kernel_rfl) (by rfl)) (A _) (by rfl) ?_
    | refine stS ?_ | (refine stB ?_; intro _) | (refine stC ?_; constructor <;> intro _)
    | refine wkW ?_)
      refine TQ.endR1 (L' := L) Tryz.results88 rvA rfl (.refl _) ?_ selA
      exact ⟨rfl, rfl, rfl⟩
  · rw [cmpJs_end (by omega)] at hR
    subst hR
    clear hx hy jx jy H
    repeat' (first
    | refine wkV ?_
    | refine wkD (cmpInt_gives _ _ _ _) ?_
    | refine stS ?_ | (refine stB ?_; intro _) | (refine stC ?_; constructor <;> intro _))
    refine TQ.endR1 (L' := L) Tryz.results88 rvA rfl (.refl _) ?_ selA
    exact ⟨rfl, rfl, rfl⟩
theorem cmpOr_gives (p q : Int) (b : Nat) (g : Gh) (L : List Ent) : Gives Tryz.prog 123 #[.slice (some ⟨b, 0, none⟩) 2 2] g (.obj b (.cells [.int .i64 p, .int .i64 q].toArray 3 (0, 0)) :: L) (.int .i64 (if p ≠ 0 then p else q)) := by
  refine .of (Does.of1 Tryz.func123 rfl Tryz.ntmps123 rfl ?_)
  obtain ⟨R, hR⟩ : ∃ R, R = if p ≠ 0 then p else q := ⟨_, rfl⟩
  rw [← hR]
  repeat' (first
    | refine stS ?_ | (refine stB ?_; intro _) | (refine stC ?_; constructor <;> intro _))
  refine TC.loopK (fun i : Nat => i ≤ 2 ∧ (1 ≤ i → p = 0) ∧ (2 ≤ i → q = 0)) (fun i => 2 - i) (fun i _ => [(8, .int .i64 (i : Nat)), (7, .int .i64 2), (6, .slice (some ⟨b, 0, none⟩) 2 2), (3, .int .i64 0)]) [] (by repeat (first | apply Drop.nil | apply Drop.cons (by (repeat (first | apply Pick.here | apply Pick.there))))) (fun _ L => L) 0 ⟨by omega, by omega, by omega⟩ subA selA ?_
  rintro i ⟨hi, h1, h2⟩
  try dsimp only at hi h1 h2 ⊢
  have hcs : i = 0 ∨ i = 1 ∨ i = 2 := by omega
  rcases hcs with rfl | rfl | rfl
  · by_cases hp : p = 0
    · subst hp
      repeat' (first
    | refine wkV ?_
    | refine stS ?_ | (refine stB ?_; intro _) | (refine stC ?_; constructor <;> intro _))
      refine TQ.round 1 ?_ ?_ rfl subA selA
      · exact ⟨by omega, by omega, by omega⟩
      · decide
    · rw [if_pos hp] at hR
      rw [hR]
      clear hR
      have h2 : Hn (¬ p = 0) := ⟨hp⟩
      repeat' (first
    | refine wkV ?_
    | refine stS ?_ | (refine stB ?_; intro _) | (refine stC ?_; constructor <;> intro _))
      refine TQ.endR1 (L' := (.obj b (.cells [.int .i64 p, .int .i64 q].toArray 3 (0, 0)) :: L)) Tryz.results123 rvA rfl (.refl _) ?_ selA
      exact ⟨rfl, rfl, rfl⟩
  · have hp := h1 (by omega)
    subst hp
    rw [if_neg (by simp)] at hR
    by_cases hq : q = 0
    · subst hq
      repeat' (first
    | refine wkV ?_
    | refine stS ?_ | (refine stB ?_; intro _) | (refine stC ?_; constructor <;> intro _))
      refine TQ.round 2 ?_ ?_ rfl subA selA
      · exact ⟨by omega, by omega, by omega⟩
      · decide
    · rw [hR]
      clear hR
      have h2 : Hn (¬ q = 0) := ⟨hq⟩
      repeat' (first
    | refine wkV ?_
    | refine stS ?_ | (refine stB ?_; intro _) | (refine stC ?_; constructor <;> intro _))
      refine TQ.endR1 (L' := (.obj b (.cells [.int .i64 0, .int .i64 q].toArray 3 (0, 0)) :: L)) Tryz.results123 rvA rfl (.refl _) ?_ selA
      exact ⟨rfl, rfl, rfl⟩
  · have hp := h1 (by omega)
    have hq := h2 (by omega)
    subst hp
    subst hq
    rw [if_neg (by simp)] at hR
    subst hR
    repeat' (first
    | refine wkV ?_
    | refine stS ?_ | (refine stB ?_; intro _) | (refine stC ?_; constructor <;> intro _))
    refine TQ.endR1 (L' := (.obj b (.cells [.int .i64 0, .int .i64 0].toArray 3 (0, 0)) :: L)) Tryz.results123 rvA rfl (.refl _) ?_ selA
    exact ⟨rfl, rfl, rfl⟩
end Go.Proofs.YtgollffmdpejiaaGreatDoor
