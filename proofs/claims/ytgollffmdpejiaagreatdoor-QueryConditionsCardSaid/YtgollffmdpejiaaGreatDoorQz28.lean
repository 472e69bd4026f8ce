/-
  The walks of order's members, rows of members, compare, Compare.
-/
import Derived.Test.YtgollffmdpejiaaGreatDoorQz3
import Derived.Test.YtgollffmdpejiaaGreatDoorQz27
namespace Go.Proofs.YtgollffmdpejiaaGreatDoor
open Go.RowKit Go.TL
set_option maxRecDepth 100000

def memC (s t : List UInt8) (c : Int) : Int := if cmpB s t ≠ 0 then cmpB s t else c
set_option maxHeartbeats 8000000 in
theorem members_gives (s t : List UInt8) (vx vy : Value) (c : Int) (g : Gh) (L : List Ent) (H : ∀ L, Gives Tryz.prog 58 #[vx, vy] g L (.int .i64 c)) (_hx : vx.one = true) (_hy : vy.one = true) : Gives Tryz.prog 90 #[.agg #[str s, vx], .agg #[str t, vy]] g L (.int .i64 (memC s t c)) := by
  refine .of (Does.of2 Tryz.func90 rfl Tryz.ntmps90 rfl ?_)
  unfold memC
  have A := fun L => sCompare_gives s t g L
  generalize cmpB s t = p at *
  repeat' (first
    | refine wkV ?_
    | refine wkD (A _) ?_
    | refine wkD (H _) ?_
    | refine wkD (cmpOr_gives _ _ _ _ _) ?_
    | ((with_reducible apply TL.build_slice); (· rfl); (· rfl); (· exact oneA); (· rfl); (· rfl); (· rfl); intro _) | refine TL.build_one (by rfl) (by first | rfl | assumption) (by rfl) (by rfl) (by rfl) (by rfl) (fun _ => ?_) | refine TL.build_empty (by rfl) (fun _ => ?_)
    | ((with_reducible apply TA.take 0); (· decide +kernel); (· rfl); (· (first | exact yA | exact yB | exact yM | exact yV)); (· decide +kernel); (· decide +kernel); (· rfl); (· exact fun _ _ _ h => h); (· rfl))
    | ((with_reducible apply TA.take 1); (· decide +kernel); (· rfl); (· (first | exact yA | exact yB | exact yM | exact yV)); (· decide +kernel); (· decide +kernel); (· rfl); (· exact fun _ _ _ h => h); (· rfl))
    | ((with_reducible apply TA.take 2); (· decide +kernel); (· rfl); (· (first | exact yA | exact yB | exact yM | exact yV)); (· decide +kernel); (· decide +kernel); (· rfl); (· exact fun _ _ _ h => h); (· rfl))
    | ((with_reducible apply TA.take 3); (· decide +kernel); (· rfl); (· (first | exact yA | exact yB | exact yM | exact yV)); (· decide +kernel); (· decide +kernel); (· rfl); (· exact fun _ _ _ h => h); (· rfl))
    | ((with_reducible apply TA.take 4); (· decide +kernel); (· rfl); (· (first | exact yA | exact yB | exact yM | exact yV)); (· decide +kernel); (· decide +kernel); (· rfl); (· exact fun _ _ _ h => h); (· rfl))
    | ((with_reducible apply TA.take 5); (· decide +kernel); (· rfl); (· (first | exact yA | exact yB | exact yM | exact yV)); (· decide +kernel); (· decide +kernel); (· rfl); (· exact fun _ _ _ h => h); (· rfl))
    | ((with_reducible apply TA.take 6); (· decide +kernel); (· rfl); (· (first | exact yA | exact yB | exact yM | exact yV)); (· decide +kernel); (· decide +kernel); (· rfl); (· exact fun _ _ _ h => h); (· rfl))
    | ((with_reducible apply TA.take 7); (· decide +kernel); (· rfl); (· (first | exact yA | exact yB | exact yM | exact yV)); (· decide +kernel); (· decide +kernel); (· rfl); (· exact fun _ _ _ h => h); (· rfl))
    | ((with_reducible apply TA.take 8); (· decide +kernel); (· rfl); (· (first | exact yA | exact yB | exact yM | exact yV)); (· decide +kernel); (· decide +kernel); (· rfl); (· exact fun _ _ _ h => h); (· rfl))
    | ((with_reducible apply TA.take 9); (· decide +kernel); (· rfl); (· (first | exact yA | exact yB | exact yM | exact yV)); (· decide +kernel); (· decide +kernel); (· rfl); (· exact fun _ _ _ h => h); (· rfl))
    | ((with_reducible apply TA.take 10); (· decide +kernel); (· rfl); (· (first | exact yA | exact yB | exact yM | exact yV)); (· decide +kernel); (· decide +kernel); (· rfl); (· exact fun _ _ _ h => h); (· rfl))
    | ((with_reducible apply TA.take 11); (· decide +kernel); (· rfl); (· (first | exact yA | exact yB | exact yM | exact yV)); (· decide +kernel); (· decide +kernel); (· rfl); (· exact fun _ _ _ h => h); (· rfl))
    | ((with_reducible apply TA.take 12); (· decide +kernel); (· rfl); (· (first | exact yA | exact yB | exact yM | exact yV)); (· decide +kernel); (· decide +kernel); (· rfl); (· exact fun _ _ _ h => h); (· rfl))
    | ((with_reducible apply TA.one 0); (· rfl); (· decide +kernel); (· rfl))
    | ((with_reducible apply TA.one 1); (· rfl); (· decide +kernel); (· rfl))
    | ((with_reducible apply TA.one 2); (· rfl); (· decide +kernel); (· rfl))
    | ((with_reducible apply TA.one 3); (· rfl); (· decide +kernel); (· rfl))
    | ((with_reducible apply TA.one 4); (· rfl); (· decide +kernel); (· rfl))
    | ((with_reducible apply TA.one 5); (· rfl); (· decide +kernel); (· rfl))
    | ((with_reducible apply TA.one 6); (· rfl); (· decide +kernel); (· rfl))
    | ((with_reducible apply TA.one 7); (· rfl); (· decide +kernel); (· rfl))
    | ((with_reducible apply TA.one 8); (· rfl); (· decide +kernel); (· rfl))
    | ((with_reducible apply TA.one 9); (· rfl); (· decide +kernel); (· rfl))
    | ((with_reducible apply TA.one 10); (· rfl); (· decide +kernel); (· rfl))
    | ((with_reducible apply TA.one 11); (· rfl); (· decide +kernel); (· rfl))
    | ((with_reducible apply TA.one 12); (· rfl); (· decide +kernel); (· rfl))
    | refine TQ.any leA selA ?_
    | refine TC.region_any 13 (_) (by kernel_rfl) rfl selA ?_ | refine TA.done (by decide +kernel) ?_ | refine TQ.any_panic ?_
    | refine stS ?_ | (refine stB ?_; intro _) | (refine stC ?_; constructor <;> intro _))
  refine TQ.endR1 (L' := L) Tryz.results90 rvA rfl (.refl _) ?_ selA
  exact ⟨rfl, rfl, rfl⟩
set_option maxHeartbeats 8000000 in
theorem rowsMem_gives (ms ns : List (List UInt8)) (xs ys : List J) (fx fy : List Value) (ax ay : Option Addr) (cx cy : Nat) (g : Gh) (L : List Ent) (hx : Sl g (.slice ax xs.length cx) xs.length 2 fx) (hy : Sl g (.slice ay ys.length cy) ys.length 2 fy) (jx : IsMs g ms xs fx) (jy : IsMs g ns ys fy) (_lx : xs.length ≤ 1000000) (_ly : ys.length ≤ 1000000)
    (H : ∀ (i : Nat) (x y : J) (vx vy : Value), xs[i]? = some x → ys[i]? = some y → IsJ g x vx → IsJ g y vy → ∀ L, Gives Tryz.prog 58 #[vx, vy] g L (.int .i64 (cmpJ x y))) :
    Gives Tryz.prog 89 #[.slice ax xs.length cx, .slice ay ys.length cy, .func (.func 90) #[] #[]] g L (.int .i64 (cmpJs true ms ns xs ys xs.length ys.length)) := by
  refine .of (Does.of3 Tryz.func89 rfl Tryz.ntmps89 rfl ?_)
  obtain ⟨R, hR⟩ : ∃ R, R = cmpJs true ms ns xs ys xs.length ys.length := ⟨_, rfl⟩
  rw [← hR]
  obtain ⟨m, hm⟩ : ∃ m : Nat, m = if ys.length < xs.length then ys.length else xs.length := ⟨_, rfl⟩
  have hmx : m ≤ xs.length := by rw [hm]; split <;> omega
  have hmy : m ≤ ys.length := by rw [hm]; split <;> omega
  have hme : m = xs.length ∨ m = ys.length := by rw [hm]; split <;> omega
  have hmi : (if ((ys.length : Nat) : Int) < (xs.length : Nat) then ((ys.length : Nat) : Int) else (xs.length : Nat)) = (m : Nat) := by rw [hm]; split <;> split <;> omega
  have HM : Hn _ := ⟨hmi⟩
  clear hmi hm
  repeat' (first
    | (refine wkA 13 (v := .int .i64 (m : Nat)) ?_ ?_; · exact Y.min_int rfl rfl HM.out)
    | refine stS ?_ | (refine stB ?_; intro _) | (refine stC ?_; constructor <;> intro _))
  refine TC.loopK (fun i : Nat => i ≤ m ∧ cmpJs true (ms.drop i) (ns.drop i) (xs.drop i) (ys.drop i) xs.length ys.length = R) (fun i => m - i) (fun i _ => [(14, .int .i64 (i : Nat)), (13, .int .i64 (m : Nat)), (0, .slice ax xs.length cx), (1, .slice ay ys.length cy), (2, .func (.func 90) #[] #[])]) [] (by repeat (first | apply Drop.nil | apply Drop.cons (by (repeat (first | apply Pick.here | apply Pick.there))))) (fun _ L => L) 0 ⟨Nat.zero_le _, hR.symm⟩ subA selA ?_
  clear hR
  rintro i ⟨hi, hR⟩
  try dsimp only at hi hR ⊢
  by_cases hlt : i < m
  · obtain ⟨x, hxi⟩ : ∃ x, xs[i]? = some x := ⟨_, List.getElem?_eq_getElem (by omega)⟩
    obtain ⟨y, hyi⟩ : ∃ y, ys[i]? = some y := ⟨_, List.getElem?_eq_getElem (by omega)⟩
    obtain ⟨s, vx, e1, h1, h3, k1⟩ := jx.get hxi
    obtain ⟨t, vy, e2, h2, h4, k2⟩ := jy.get hyi
    obtain ⟨b1, o1, rfl, g1⟩ := hx.elem (i := i) (by omega) (by decide)
    obtain ⟨b2, o2, rfl, g2⟩ := hy.elem (i := i) (by omega) (by decide)
    have ld1 : ∀ j u, [str s, vx][j]? = some u → g.cell b1 (o1 + i * 2 + j) = some u := fun j u hu => by
      match j, hu with
      | 0, hu => simp at hu; subst hu; exact g1 0 _ h1
      | 1, hu => simp at hu; subst hu; exact g1 1 _ h3
      | j + 2, hu => simp at hu
    have ll1 : [str s, vx].length = 2 := rfl
    have ld2 : ∀ j u, [str t, vy][j]? = some u → g.cell b2 (o2 + i * 2 + j) = some u := fun j u hu => by
      match j, hu with
      | 0, hu => simp at hu; subst hu; exact g2 0 _ h2
      | 1, hu => simp at hu; subst hu; exact g2 1 _ h4
      | j + 2, hu => simp at hu
    have ll2 : [str t, vy].length = 2 := rfl
    have A := fun L => members_gives s t vx vy (cmpJ x y) g L (H i x y vx vy hxi hyi k1 k2) k1.one k2.one
    have d1 : (ms.drop i).headD [] = s := by rw [List.headD_eq_head?_getD, List.head?_drop, e1]; rfl
    have d2 : (ns.drop i).headD [] = t := by rw [List.headD_eq_head?_getD, List.head?_drop, e2]; rfl
    rw [cmpJs_at hxi hyi, d1, d2] at hR
    have hR2 : (if memC s t (cmpJ x y) ≠ 0 then memC s t (cmpJ x y) else cmpJs true (ms.drop (i + 1)) (ns.drop (i + 1)) (xs.drop (i + 1)) (ys.drop (i + 1)) xs.length ys.length) = R := by
      rw [← hR]
      unfold memC
      by_cases hst : s = t
      · subst hst
        rw [cmpB_self, if_neg (show ¬ ((0 : Int) ≠ 0) by simp), if_neg (show ¬ (true = true ∧ s ≠ s) by simp)]
      · have h0 : cmpB s t ≠ 0 := fun e => hst (cmpB_eq0 e)
        rw [if_pos h0, if_pos h0, if_pos (show (true = true ∧ s ≠ t) from ⟨rfl, hst⟩)]
    have hR := hR2
    clear hR2
    have bd : -1 ≤ memC s t (cmpJ x y) ∧ memC s t (cmpJ x y) ≤ 1 := by
      have h1 := cmpB_bd s t
      have h2 := cmpJ_bd x y
      unfold memC; split <;> omega
    generalize memC s t (cmpJ x y) = r at *
    clear hx hy jx jy H g1 g2 h1 h2 h3 h4 k1 k2 d1 d2 e1 e2
    by_cases hr : r = 0
    · subst hr
      rw [if_neg (by simp)] at hR
      have HR : Hn _ := ⟨hR⟩
      clear hR
      repeat' (first
    | (refine wkA 21 (v := .agg #[str s, vx]) ?_ ?_; · exact Y.load_cells rfl ld1 ll1)
    | (refine wkA 25 (v := .agg #[str t, vy]) ?_ ?_; · exact Y.load_cells rfl ld2 ll2)
    | refine wkV ?_
    | refine TL.gives (Enters.func (by rfl) (by kernel_rfl) (by rfl)) (A _) (by rfl) ?_ | refine TW.gives (Enters.func (by rfl) (by kernel_rfl) (by rfl)) (A _) (by rfl) ?_
    | refine stS ?_ | (refine stB ?_; intro _) | (refine stC ?_; constructor <;> intro _)
    | refine wkW ?_)
      refine TQ.round (i + 1) ?_ ?_ rfl subA selA
      · exact ⟨by omega, HR.out⟩
      · show m - (i + 1) < m - i
        omega
    · rw [if_pos hr] at hR
      subst hR
      have h2 : Hn (¬ r = 0) := ⟨hr⟩
      repeat' (first
    | (refine wkA 21 (v := .agg #[str s, vx]) ?_ ?_; · exact Y.load_cells rfl ld1 ll1)
    | (refine wkA 25 (v := .agg #[str t, vy]) ?_ ?_; · exact Y.load_cells rfl ld2 ll2)
    | refine wkV ?_
    | refine TL.gives (Enters.func (by rfl) (by kernel_rfl) (by rfl)) (A _) (by rfl) ?_ | refine TW.gives (Enters.func (by rfl) (by kernel_rfl) (by rfl)) (A _) (by rfl) ?_
    | refine stS ?_ | (refine stB ?_; intro _) | (refine stC ?_; constructor <;> intro _)
    | refine wkW ?_)
      refine TQ.endR1 (L' := L) Tryz.results89 rvA rfl (.refl _) ?_ selA
      exact ⟨rfl, rfl, rfl⟩
  · rw [cmpJs_end (by omega)] at hR
    subst hR
    clear hx hy jx jy H
    repeat' (first
    | refine wkV ?_
    | refine wkD (cmpInt_gives _ _ _ _) ?_
    | refine stS ?_ | (refine stB ?_; intro _) | (refine stC ?_; constructor <;> intro _))
    refine TQ.endR1 (L' := L) Tryz.results89 rvA rfl (.refl _) ?_ selA
    exact ⟨rfl, rfl, rfl⟩
theorem cmpI_ne {a b : Int} (_h : a ≠ b) : cmpI a b ≠ 0 := by
  unfold cmpI; repeat' split
  all_goals omega
theorem cmpI_self (a : Int) : cmpI a a = 0 := by
  unfold cmpI; rw [if_neg (by omega), if_neg (by omega)]
theorem cmpJ_kind (x y : J) (h : kindJ x ≠ kindJ y) : cmpJ x y = cmpI (kindJ x) (kindJ y) := by
  cases x with
  | null => rw [cmpJ]; rfl
  | bool b => rw [cmpJ]; rfl
  | other k => rw [cmpJ]; rfl
  | num a =>
    rw [cmpJ]
    · rfl
    · intro c e; subst e; exact h rfl
  | text a =>
    rw [cmpJ]
    · rfl
    · intro c e; subst e; exact h rfl
  | list a =>
    rw [cmpJ]
    · rfl
    · intro c e; subst e; exact h rfl
  | obj a b =>
    rw [cmpJ]
    · rfl
    · intro c d e; subst e; exact h rfl
theorem kind4 {y : J} (h : 4 = kindJ y) : ∃ b, y = .num b := by
  cases y <;> simp [kindJ] at h ⊢
  split at h <;> omega
theorem kind5 {y : J} (h : 5 = kindJ y) : ∃ b, y = .text b := by
  cases y <;> simp [kindJ] at h ⊢
  split at h <;> omega
theorem kind6 {y : J} (h : 6 = kindJ y) : ∃ b, y = .list b := by
  cases y <;> simp [kindJ] at h ⊢
  split at h <;> omega
theorem kind7 {y : J} (h : 7 = kindJ y) : ∃ a b, y = .obj a b := by
  cases y <;> simp [kindJ] at h ⊢
  split at h <;> omega
set_option maxHeartbeats 16000000 in
theorem ocompare_gives : ∀ (N : Nat) (x : J), jsz x ≤ N → ∀ (y : J) (vx vy : Value) (g : Gh) (L : List Ent), IsJ g x vx → IsJ g y vy → smJ x → smJ y → Gives Tryz.prog 58 #[vx, vy] g L (.int .i64 (cmpJ x y))
  | 0, x, h, _, _, _, _, _, _, _, _, _ => by cases x <;> (rw [jsz] at h; omega)
  | N + 1, x, hN, y, vx, vy, g, L, hX, hY, sX, sY => by
    have IH := ocompare_gives N
    have K1 := fun L => okind_gives x vx g L hX
    have K2 := fun L => okind_gives y vy g L hY
    refine .of (Does.of2 Tryz.func58 rfl Tryz.ntmps58 rfl ?_)
    by_cases hk : kindJ x = kindJ y
    · rw [← hk] at K2
      have C := fun L => cmpByte_gives (kindJ x) (kindJ x) g L
      rw [cmpI_self] at C
      cases x with
      | null =>
        rw [cmpJ, ← hk]
        have hz : cmpI 1 (kindJ .null) = 0 := by decide
        rw [hz]
        have e : kindJ .null = 1 := rfl
        rw [e] at K1 K2 C
        clear hX hY hk
        repeat' (first
    | refine wkV ?_
    | refine wkD (K1 _) ?_
    | refine wkD (K2 _) ?_
    | refine wkD (C _) ?_
    | refine stS ?_ | (refine stB ?_; intro _) | (refine stC ?_; constructor <;> intro _))
        refine TQ.endR1 (L' := L) Tryz.results58 rvA rfl (.refl _) ?_ selA
        exact ⟨rfl, rfl, rfl⟩
      | other k =>
        rw [cmpJ, ← hk]
        have hz : cmpI 1 (kindJ (.other k)) = 0 := by rw [show kindJ (.other k) = 1 from rfl]; decide
        rw [hz]
        have e : kindJ (.other k) = 1 := rfl
        rw [e] at K1 K2 C
        clear hX hY hk
        repeat' (first
    | refine wkV ?_
    | refine wkD (K1 _) ?_
    | refine wkD (K2 _) ?_
    | refine wkD (C _) ?_
    | refine stS ?_ | (refine stB ?_; intro _) | (refine stC ?_; constructor <;> intro _))
        refine TQ.endR1 (L' := L) Tryz.results58 rvA rfl (.refl _) ?_ selA
        exact ⟨rfl, rfl, rfl⟩
      | bool b =>
        rw [cmpJ, ← hk]
        have hz : cmpI (if b = true then 3 else 2) (kindJ (.bool b)) = 0 := by cases b <;> decide
        rw [hz]
        obtain ⟨e, he⟩ : ∃ e : Nat, kindJ (.bool b) = (e : Nat) ∧ 2 ≤ e ∧ e ≤ 3 := by
          cases b with
          | false => exact ⟨2, rfl, by omega, by omega⟩
          | true => exact ⟨3, rfl, by omega, by omega⟩
        rw [he.1] at K1 K2 C
        have h2 := he.2
        clear hX hY hk he hz
        repeat' (first
    | refine wkV ?_
    | refine wkD (K1 _) ?_
    | refine wkD (K2 _) ?_
    | refine wkD (C _) ?_
    | refine stS ?_ | (refine stB ?_; intro _) | (refine stC ?_; constructor <;> intro _))
        refine TQ.endR1 (L' := L) Tryz.results58 rvA rfl (.refl _) ?_ selA
        exact ⟨rfl, rfl, rfl⟩
      | num a =>
        obtain ⟨b, rfl⟩ := kind4 (y := y) hk
        rw [cmpJ]
        rw [IsJ] at hX hY
        obtain ⟨rfl, x0, x1⟩ := hX
        obtain ⟨rfl, y0, y1⟩ := hY
        have e : kindJ (.num a) = 4 := rfl
        rw [e] at K1 K2 C
        clear hk
        repeat' (first
    | refine wkV ?_
    | refine wkD (K1 _) ?_
    | refine wkD (K2 _) ?_
    | refine wkD (C _) ?_
    | refine wkD (cmpNum_gives _ _ _ _) ?_
    | refine stS ?_ | (refine stB ?_; intro _) | (refine stC ?_; constructor <;> intro _)
    | refine wkW ?_)
        refine TQ.endR1 (L' := L) Tryz.results58 rvA rfl (.refl _) ?_ selA
        exact ⟨rfl, rfl, rfl⟩
      | text a =>
        obtain ⟨b, rfl⟩ := kind5 (y := y) hk
        rw [cmpJ]
        rw [IsJ] at hX hY
        subst hX
        subst hY
        have e : kindJ (.text a) = 5 := rfl
        rw [e] at K1 K2 C
        clear hk
        repeat' (first
    | refine wkV ?_
    | refine wkD (K1 _) ?_
    | refine wkD (K2 _) ?_
    | refine wkD (C _) ?_
    | refine wkD (sCompare_gives _ _ _ _) ?_
    | refine stS ?_ | (refine stB ?_; intro _) | (refine stC ?_; constructor <;> intro _)
    | refine wkW ?_)
        refine TQ.endR1 (L' := L) Tryz.results58 rvA rfl (.refl _) ?_ selA
        exact ⟨rfl, rfl, rfl⟩
      | list xs =>
        obtain ⟨ys, rfl⟩ := kind6 (y := y) hk
        rw [cmpJ]
        rw [IsJ] at hX hY
        obtain ⟨sl, flat, rfl, hSl, hJs⟩ := hX
        obtain ⟨ao, cap, rfl⟩ := hSl.slice
        obtain ⟨sl2, flat2, rfl, hSl2, hJs2⟩ := hY
        obtain ⟨ao2, cap2, rfl⟩ := hSl2.slice
        rw [smJ] at sX sY
        rw [jsz] at hN
        have A := fun L => rowsAny_gives xs ys flat flat2 ao ao2 cap cap2 g L hSl hSl2 hJs hJs2 sX.1 sY.1 (fun i x y vx vy hx hy jx jy L => IH x (by have := jsz_get hx; omega) y vx vy g L jx jy (smJs_get sX.2 hx) (smJs_get sY.2 hy))
        have e : kindJ (.list xs) = 6 := rfl
        rw [e] at K1 K2 C
        generalize cmpJs false [] [] xs ys xs.length ys.length = r at *
        clear hk IH hJs hJs2 hSl hSl2
        repeat' (first
    | refine wkV ?_
    | refine wkD (K1 _) ?_
    | refine wkD (K2 _) ?_
    | refine wkD (C _) ?_
    | refine wkD (A _) ?_
    | refine stS ?_ | (refine stB ?_; intro _) | (refine stC ?_; constructor <;> intro _)
    | refine wkW ?_)
        refine TQ.endR1 (L' := L) Tryz.results58 rvA rfl (.refl _) ?_ selA
        exact ⟨rfl, rfl, rfl⟩
      | obj ms xs =>
        obtain ⟨ns, ys, rfl⟩ := kind7 (y := y) hk
        rw [cmpJ]
        rw [IsJ] at hX hY
        obtain ⟨sl, flat, rfl, hSl, hJs⟩ := hX
        obtain ⟨ao, cap, rfl⟩ := hSl.slice
        obtain ⟨sl2, flat2, rfl, hSl2, hJs2⟩ := hY
        obtain ⟨ao2, cap2, rfl⟩ := hSl2.slice
        rw [smJ] at sX sY
        rw [jsz] at hN
        have A := fun L => rowsMem_gives ms ns xs ys flat flat2 ao ao2 cap cap2 g L hSl hSl2 hJs hJs2 sX.1 sY.1 (fun i x y vx vy hx hy jx jy L => IH x (by have := jsz_get hx; omega) y vx vy g L jx jy (smJs_get sX.2.2 hx) (smJs_get sY.2.2 hy))
        have e : kindJ (.obj ms xs) = 7 := rfl
        rw [e] at K1 K2 C
        generalize cmpJs true ms ns xs ys xs.length ys.length = r at *
        clear hk IH hJs hJs2 hSl hSl2
        repeat' (first
    | refine wkV ?_
    | refine wkD (K1 _) ?_
    | refine wkD (K2 _) ?_
    | refine wkD (C _) ?_
    | refine wkD (A _) ?_
    | refine stS ?_ | (refine stB ?_; intro _) | (refine stC ?_; constructor <;> intro _)
    | refine wkW ?_)
        refine TQ.endR1 (L' := L) Tryz.results58 rvA rfl (.refl _) ?_ selA
        exact ⟨rfl, rfl, rfl⟩
    · rw [cmpJ_kind x y hk]
      have C := fun L => cmpByte_gives (kindJ x) (kindJ y) g L
      have h0 := cmpI_ne hk
      generalize cmpI (kindJ x) (kindJ y) = r at *
      have h2 : Hn (¬ r = 0) := ⟨h0⟩
      clear hX hY hk IH
      repeat' (first
    | refine wkV ?_
    | refine wkD (K1 _) ?_
    | refine wkD (K2 _) ?_
    | refine wkD (C _) ?_
    | refine stS ?_ | (refine stB ?_; intro _) | (refine stC ?_; constructor <;> intro _))
      refine TQ.endR1 (L' := L) Tryz.results58 rvA rfl (.refl _) ?_ selA
      exact ⟨rfl, rfl, rfl⟩
def errJ (x y : J) : Nat := if lookJ x 0 ≠ 0 then lookJ x 0 else lookJ y 0
set_option maxHeartbeats 8000000 in
theorem oCompare_gives (x y : J) (vx vy : Value) (g : Gh) (L : List Ent) (hX : IsJ g x vx) (hY : IsJ g y vy) (sX : smJ x) (sY : smJ y) (hT : GTabs g) (hU : GU8 g) :
    Gives Tryz.prog 34 #[vx, vy] g L (.tuple #[.int .i64 (if errJ x y = 0 then cmpJ x y else 0), .int .i64 (errJ x y : Nat)]) := by
  refine .of (Does.of2 Tryz.func34 rfl Tryz.ntmps34 rfl ?_)
  have A := fun L => may_gives x vx g L hX sX hT hU
  have B := fun L => may_gives y vy g L hY sY hT hU
  have C := fun L => ocompare_gives _ x (Nat.le_refl _) y vx vy g L hX hY sX sY
  have ox := hX.one
  have oy := hY.one
  unfold errJ
  clear hX hY sX sY hT hU
  generalize lookJ x 0 = p at *
  generalize lookJ y 0 = q at *
  generalize cmpJ x y = r at *
  repeat' (first
    | (refine wkA 11 (v := .agg #[vx, vy]) ?_ ?_; · exact Y.build_two rfl rfl ox oy)
    | refine wkV ?_
    | refine stS ?_ | (refine stB ?_; intro _) | (refine stC ?_; constructor <;> intro _))
  refine TC.loopK (fun i : Nat => i ≤ 2 ∧ (1 ≤ i → p = 0) ∧ (2 ≤ i → q = 0)) (fun i => 2 - i) (fun i _ => [(12, .int .i64 (i : Nat)), (11, .agg #[vx, vy]), (0, vx), (1, vy)]) [] (by repeat (first | apply Drop.nil | apply Drop.cons (by (repeat (first | apply Pick.here | apply Pick.there))))) (fun _ L => L) 0 ⟨by omega, by omega, by omega⟩ subA selA ?_
  rintro i ⟨hi, h1, h2⟩
  try dsimp only at hi h1 h2 ⊢
  have hcs : i = 0 ∨ i = 1 ∨ i = 2 := by omega
  rcases hcs with rfl | rfl | rfl
  · by_cases hp : p = 0
    · subst hp
      repeat' (first
    | (refine wkA 14 (v := vx) ?_ ?_; · exact Y.index_agg rfl rfl (show ((0 : Nat) : Int) = (0 : Nat) from rfl) (by decide) rfl)
    | refine wkV ?_
    | refine wkD (A _) ?_
    | refine stS ?_ | (refine stB ?_; intro _) | (refine stC ?_; constructor <;> intro _))
      refine TQ.round 1 ?_ ?_ rfl subA selA
      · exact ⟨by omega, by omega, by omega⟩
      · decide
    · have h3 : Hn (¬ ((p : Nat) : Int) = 0) := ⟨by omega⟩
      repeat' (first
    | (refine wkA 14 (v := vx) ?_ ?_; · exact Y.index_agg rfl rfl (show ((0 : Nat) : Int) = (0 : Nat) from rfl) (by decide) rfl)
    | refine wkV ?_
    | refine wkD (A _) ?_
    | refine stS ?_ | (refine stB ?_; intro _) | (refine stC ?_; constructor <;> intro _))
      refine TQ.endR2 (L' := L) Tryz.results34 rvA rvA rfl (.refl _) ?_ selA
      exact ⟨by rw [if_pos hp, if_neg hp], rfl, rfl⟩
  · have hp := h1 (by omega)
    subst hp
    by_cases hq : q = 0
    · subst hq
      repeat' (first
    | (refine wkA 14 (v := vy) ?_ ?_; · exact Y.index_agg rfl rfl (show ((1 : Nat) : Int) = (1 : Nat) from rfl) (by decide) rfl)
    | refine wkV ?_
    | refine wkD (B _) ?_
    | refine stS ?_ | (refine stB ?_; intro _) | (refine stC ?_; constructor <;> intro _))
      refine TQ.round 2 ?_ ?_ rfl subA selA
      · exact ⟨by omega, by omega, by omega⟩
      · decide
    · have h3 : Hn (¬ ((q : Nat) : Int) = 0) := ⟨by omega⟩
      repeat' (first
    | (refine wkA 14 (v := vy) ?_ ?_; · exact Y.index_agg rfl rfl (show ((1 : Nat) : Int) = (1 : Nat) from rfl) (by decide) rfl)
    | refine wkV ?_
    | refine wkD (B _) ?_
    | refine stS ?_ | (refine stB ?_; intro _) | (refine stC ?_; constructor <;> intro _))
      refine TQ.endR2 (L' := L) Tryz.results34 rvA rvA rfl (.refl _) ?_ selA
      exact ⟨by rw [if_neg (show ¬ ((0 : Nat) ≠ 0) by simp), if_neg hq], rfl, rfl⟩
  · have hp := h1 (by omega)
    have hq := h2 (by omega)
    subst hp
    subst hq
    repeat' (first
    | refine wkV ?_
    | refine wkD (C _) ?_
    | refine stS ?_ | (refine stB ?_; intro _) | (refine stC ?_; constructor <;> intro _))
    refine TQ.endR2 (L' := L) Tryz.results34 rvA rvA rfl (.refl _) ?_ selA
    exact ⟨rfl, rfl, rfl⟩
end Go.Proofs.YtgollffmdpejiaaGreatDoor
