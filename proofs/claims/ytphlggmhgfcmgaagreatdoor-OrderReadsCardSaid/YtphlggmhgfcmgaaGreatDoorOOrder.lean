/-
  Layer 5, plain laws: keys have the order of their values.
-/
import Derived.Test.YtphlggmhgfcmgaaGreatDoorOTell
namespace Go.Proofs.YtphlggmhgfcmgaaGreatDoor
open Go.RowKit Go.TL
set_option maxRecDepth 100000

/-- Held against one another with whatever behind them, they tell this; if it is 0, what is behind tells. -/
def PC (u v : List UInt8) (c : Int) : Prop := ∀ a b, cmpB (u ++ a) (v ++ b) = if c ≠ 0 then c else cmpB a b
theorem PC.comp {u v u' v' : List UInt8} {c c' : Int} (h : PC u v c) (h' : PC u' v' c') : PC (u ++ u') (v ++ v') (if c ≠ 0 then c else c') := fun a b => by
  rw [List.append_assoc, List.append_assoc, h]
  by_cases hc : c ≠ 0
  · rw [if_pos hc, if_pos hc, if_pos hc]
  · rw [if_neg hc, if_neg hc, h']
theorem PC.same {u v : List UInt8} {c : Int} (w : List UInt8) (h : PC u v c) : PC (w ++ u) (w ++ v) c := fun a b => by
  rw [List.append_assoc, List.append_assoc, ← h a b]
  induction w with
  | nil => rfl
  | cons x r ih =>
    rw [← cmpB_lib, ← cmpB_lib] at ih ⊢
    rw [List.cons_append, List.cons_append, Lib.compareBytes, if_neg (UInt8.lt_irrefl x), if_neg (UInt8.lt_irrefl x)]
    exact ih
theorem PC.nil : PC [] [] 0 := fun a b => by simp
theorem PC.lt {x y : UInt8} (h : x < y) (u v : List UInt8) : PC (x :: u) (y :: v) (-1) := fun a b => by
  rw [← cmpB_lib, List.cons_append, List.cons_append, Lib.compareBytes, if_pos h, if_pos (by decide)]
theorem PC.gt {x y : UInt8} (h : y < x) (u v : List UInt8) : PC (x :: u) (y :: v) 1 := fun a b => by
  have h2 : ¬ x < y := fun e => by
    rw [UInt8.lt_iff_toNat_lt] at h e; omega
  rw [← cmpB_lib, List.cons_append, List.cons_append, Lib.compareBytes, if_neg h2, if_pos h, if_pos (by decide)]
theorem PC.cons {u v : List UInt8} {c : Int} (x : UInt8) (h : PC u v c) : PC (x :: u) (x :: v) c := PC.same [x] h
theorem PC.is {u v : List UInt8} {c : Int} (h : PC u v c) : cmpB u v = c := by
  have := h [] []
  rw [List.append_nil, List.append_nil] at this
  rw [this]
  by_cases hc : c ≠ 0
  · rw [if_pos hc]
  · rw [if_neg hc, cmpB_self]; omega
theorem esc_order : ∀ (s t : List UInt8), PC (escL s ++ [0, 1]) (escL t ++ [0, 1]) (cmpB s t)
  | [], [] => by
    rw [cmpB_self]
    exact PC.same [0, 1] PC.nil
  | [], y :: t => by
    have hc : cmpB [] (y :: t) = -1 := by rw [← cmpB_lib]; rfl
    have he : escL (y :: t) = (if y = 0 then [0, 255] else [y]) ++ escL t := by simp [escL]
    rw [hc, he]
    by_cases h : y = 0
    · rw [if_pos h]
      exact PC.cons 0 (PC.lt (by decide) _ _)
    · rw [if_neg h]
      refine PC.lt ?_ _ _
      rw [UInt8.lt_iff_toNat_lt]
      have h2 : y.toNat ≠ 0 := fun e => h (UInt8.toNat_inj.1 e)
      show 0 < y.toNat
      omega
  | x :: s, [] => by
    have hc : cmpB (x :: s) [] = 1 := by rw [← cmpB_lib]; rfl
    have he : escL (x :: s) = (if x = 0 then [0, 255] else [x]) ++ escL s := by simp [escL]
    rw [hc, he]
    by_cases h : x = 0
    · rw [if_pos h]
      exact PC.cons 0 (PC.gt (by decide) _ _)
    · rw [if_neg h]
      refine PC.gt ?_ _ _
      rw [UInt8.lt_iff_toNat_lt]
      have h2 : x.toNat ≠ 0 := fun e => h (UInt8.toNat_inj.1 e)
      show 0 < x.toNat
      omega
  | x :: s, y :: t => by
    have ih := esc_order s t
    have he : ∀ (z : UInt8) r, escL (z :: r) = (if z = 0 then [0, 255] else [z]) ++ escL r := fun z r => by simp [escL]
    rw [he, he, List.append_assoc, List.append_assoc]
    by_cases hxy : x = y
    · subst hxy
      have hc : cmpB (x :: s) (x :: t) = cmpB s t := by
        rw [← cmpB_lib, ← cmpB_lib, Lib.compareBytes, if_neg (UInt8.lt_irrefl x), if_neg (UInt8.lt_irrefl x)]
      rw [hc]
      exact PC.same _ ih
    · have hne : x.toNat ≠ y.toNat := fun e => hxy (UInt8.toNat_inj.1 e)
      have first : ∀ z : UInt8, ∃ r, (if z = 0 then [0, 255] else [z]) = z :: r := fun z => by
        by_cases hz : z = 0
        · subst hz; exact ⟨[255], rfl⟩
        · rw [if_neg hz]; exact ⟨[], rfl⟩
      obtain ⟨r1, e1⟩ := first x
      obtain ⟨r2, e2⟩ := first y
      rw [e1, e2]
      by_cases hlt : x < y
      · have hc : cmpB (x :: s) (y :: t) = -1 := by rw [← cmpB_lib, Lib.compareBytes, if_pos hlt]
        rw [hc]; exact PC.lt hlt _ _
      · have hgt : y < x := by rw [UInt8.lt_iff_toNat_lt] at hlt ⊢; omega
        have hc : cmpB (x :: s) (y :: t) = 1 := by rw [← cmpB_lib, Lib.compareBytes, if_neg hlt, if_pos hgt]
        rw [hc]; exact PC.gt hgt _ _
theorem word_order (s t : List UInt8) : PC (wordL s) (wordL t) (cmpB s t) := PC.cons 5 (esc_order s t)
/-- Figures to base 256, the highest first. -/
def beD : Nat → Nat → List UInt8
  | 0, _ => []
  | k + 1, m => UInt8.ofNat (m / 256 ^ k) :: beD k (m % 256 ^ k)
theorem be_order : ∀ (k m m' : Nat), m < 256 ^ k → m' < 256 ^ k → PC (beD k m) (beD k m') (cmpI m m')
  | 0, m, m', h, h' => by
    have e : m = 0 := by simpa using h
    have e' : m' = 0 := by simpa using h'
    subst e; subst e'
    exact PC.nil
  | k + 1, m, m', h, h' => by
    rw [beD, beD]
    obtain ⟨D, hD⟩ : ∃ D, D = 256 ^ k := ⟨_, rfl⟩
    have hD0 : 0 < D := by rw [hD]; exact Nat.pow_pos (by decide)
    have hs : 256 ^ (k + 1) = D * 256 := by rw [hD, Nat.pow_succ]
    rw [hs] at h h'
    have ih := be_order k (m % 256 ^ k) (m' % 256 ^ k) (Nat.mod_lt _ (by rw [← hD]; exact hD0)) (Nat.mod_lt _ (by rw [← hD]; exact hD0))
    rw [← hD] at ih ⊢
    have q1 : m / D < 256 := Nat.div_lt_of_lt_mul h
    have q2 : m' / D < 256 := Nat.div_lt_of_lt_mul h'
    have t1 : (UInt8.ofNat (m / D)).toNat = m / D := by rw [UInt8.toNat_ofNat']; exact Nat.mod_eq_of_lt q1
    have t2 : (UInt8.ofNat (m' / D)).toNat = m' / D := by rw [UInt8.toNat_ofNat']; exact Nat.mod_eq_of_lt q2
    have d1 := Nat.div_add_mod m D
    have d2 := Nat.div_add_mod m' D
    have r1 := Nat.mod_lt m hD0
    have r2 := Nat.mod_lt m' hD0
    rcases Nat.lt_trichotomy (m / D) (m' / D) with hlt | heq | hgt
    · have hmul := Nat.mul_le_mul_left D hlt
      rw [Nat.mul_succ] at hmul
      have hc : cmpI m m' = -1 := by unfold cmpI; rw [if_pos (by omega)]
      rw [hc]
      exact PC.lt (by rw [UInt8.lt_iff_toNat_lt, t1, t2]; exact hlt) _ _
    · rw [heq] at d1 ⊢
      have hc : cmpI m m' = cmpI ((m % D : Nat) : Int) ((m' % D : Nat) : Int) := by
        unfold cmpI
        generalize D * (m' / D) = X at *
        by_cases h1 : m < m'
        · rw [if_pos (by omega), if_pos (by omega)]
        · rw [if_neg (by omega), if_neg (show ¬ ((m % D : Nat) : Int) < ((m' % D : Nat) : Int) by omega)]
          by_cases h2 : m' < m
          · rw [if_pos (by omega), if_pos (by omega)]
          · rw [if_neg (by omega), if_neg (by omega)]
      rw [hc]
      exact PC.cons _ ih
    · have hmul := Nat.mul_le_mul_left D hgt
      rw [Nat.mul_succ] at hmul
      have hc : cmpI m m' = 1 := by unfold cmpI; rw [if_neg (by omega), if_pos (by omega)]
      rw [hc]
      exact PC.gt (by rw [UInt8.lt_iff_toNat_lt, t1, t2]; exact hgt) _ _
theorem beL_beD (m : Nat) (h : m < 18446744073709551616) : beL m 8 = beD 8 m := by
  simp only [beL, beD, show List.range 8 = [0, 1, 2, 3, 4, 5, 6, 7] from rfl, List.map_cons, List.map_nil]
  simp only [List.cons.injEq, and_true, true_and]
  have ofNat_eq : ∀ {a b : Nat}, a % 256 = b % 256 → UInt8.ofNat a = UInt8.ofNat b := fun {a b} h => by
    apply UInt8.toNat_inj.1
    rw [UInt8.toNat_ofNat', UInt8.toNat_ofNat']; exact h
  refine ⟨ofNat_eq ?_, ofNat_eq ?_, ofNat_eq ?_, ofNat_eq ?_, ofNat_eq ?_, ofNat_eq ?_, ofNat_eq ?_⟩
  all_goals omega
mutual
/-- Numbers that there are. -/
def nbJ : J → Prop
  | .null => True
  | .bool _ => True
  | .num n => -9223372036854775808 ≤ n ∧ n ≤ 9223372036854775807
  | .text _ => True
  | .list xs => nbJs xs
  | .obj ns xs => ns.length = xs.length ∧ nbJs xs
  | .other _ => True
def nbJs : List J → Prop
  | [] => True
  | x :: r => nbJ x ∧ nbJs r
end
mutual
theorem IsJ.nb {g : Gh} : ∀ (x : J) (v : Value), IsJ g x v → nbJ x
  | .null, _, _ => by rw [nbJ]; trivial
  | .bool _, _, _ => by rw [nbJ]; trivial
  | .text _, _, _ => by rw [nbJ]; trivial
  | .other _, _, _ => by rw [nbJ]; trivial
  | .num n, v, h => by rw [IsJ] at h; rw [nbJ]; exact h.2
  | .list xs, v, h => by
    rw [IsJ] at h
    obtain ⟨sl, flat, _, _, h3⟩ := h
    rw [nbJ]; exact IsJs.nb xs flat h3
  | .obj ns xs, v, h => by
    rw [IsJ] at h
    obtain ⟨sl, flat, _, _, h3⟩ := h
    rw [nbJ]; exact ⟨h3.len, IsMs.nb ns xs flat h3⟩
theorem IsJs.nb {g : Gh} : ∀ (l : List J) (flat : List Value), IsJs g l flat → nbJs l
  | [], _, _ => by rw [nbJs]; trivial
  | x :: r, flat, h => by
    rw [IsJs] at h
    obtain ⟨v, fl, _, h2, h3⟩ := h
    rw [nbJs]; exact ⟨IsJ.nb x v h2, IsJs.nb r fl h3⟩
theorem IsMs.nb {g : Gh} : ∀ (ns : List (List UInt8)) (l : List J) (flat : List Value), IsMs g ns l flat → nbJs l
  | _, [], _, _ => by rw [nbJs]; trivial
  | n :: ns, x :: r, flat, h => by
    rw [IsMs] at h
    obtain ⟨v, fl, _, h2, h3⟩ := h
    rw [nbJs]; exact ⟨IsJ.nb x v h2, IsMs.nb ns r fl h3⟩
  | [], _ :: _, _, h => by rw [IsMs] at h; exact h.elim
end
/-- A key begins with the kind's place. -/
theorem key_head (x : J) : ∃ c r, keyJ x = c :: r ∧ ((c.toNat : Nat) : Int) = kindJ x := by
  cases x <;> rw [keyJ]
  · exact ⟨_, _, rfl, rfl⟩
  · rename_i b
    cases b <;> exact ⟨_, _, rfl, rfl⟩
  · exact ⟨_, _, rfl, rfl⟩
  · exact ⟨_, _, rfl, rfl⟩
  · exact ⟨_, _, rfl, rfl⟩
  · exact ⟨_, _, rfl, rfl⟩
  · exact ⟨_, _, rfl, rfl⟩
theorem key_order : ∀ (N : Nat) (x : J), jsz x ≤ N → ∀ y, nbJ x → nbJ y → PC (keyJ x) (keyJ y) (cmpJ x y)
  | 0, x, h, _, _, _ => by cases x <;> (rw [jsz] at h; omega)
  | N + 1, x, h, y, hx, hy => by
    have IH := key_order N
    by_cases hk : kindJ x = kindJ y
    · have HS : ∀ (o : Bool) (l l' : List J) (ns ms : List (List UInt8)) (d : Nat), jszs l ≤ N → nbJs l → nbJs l' → PC ((if o = true then keyJo ns l else keyJs l) ++ [0]) ((if o = true then keyJo ms l' else keyJs l') ++ [0]) (cmpJs o ns ms l l' (l.length + d) (l'.length + d)) := by
        intro o l
        induction l with
        | nil =>
          intro l' ns ms d _ _ _
          have e : ∀ ns, (if o = true then keyJo ns [] else keyJs []) = [] := fun ns => by rw [keyJo, keyJs]; split <;> rfl
          rw [e, cmpJs]
          cases l' with
          | nil =>
            rw [e, cmpI_self]
            exact PC.same [0] PC.nil
          | cons y t =>
            have hc : cmpI ((([] : List J).length + d : Nat) : Int) (((y :: t).length + d : Nat) : Int) = -1 := by
              unfold cmpI; rw [if_pos (by simp only [List.length_cons, List.length_nil]; omega)]
            rw [hc]
            cases o with
            | true =>
              rw [if_pos rfl, keyJo]
              exact PC.lt (by decide) _ _
            | false =>
              obtain ⟨c, r, hc, hkc⟩ := key_head y
              have := kindJ_bd y
              rw [if_neg (by decide), keyJs, hc]
              refine PC.lt ?_ _ _
              rw [UInt8.lt_iff_toNat_lt]
              show 0 < c.toNat
              omega
        | cons x r ih =>
          intro l' ns ms d hd ho ho'
          rw [jszs] at hd
          rw [nbJs] at ho
          cases l' with
          | nil =>
            have e : ∀ ns, (if o = true then keyJo ns [] else keyJs []) = [] := fun ns => by rw [keyJo, keyJs]; split <;> rfl
            have hc : cmpI (((x :: r).length + d : Nat) : Int) ((([] : List J).length + d : Nat) : Int) = 1 := by
              unfold cmpI; rw [if_neg (by simp only [List.length_cons, List.length_nil]; omega), if_pos (by simp only [List.length_cons, List.length_nil]; omega)]
            rw [cmpJs, e, hc]
            cases o with
            | true =>
              rw [if_pos rfl, keyJo]
              exact PC.gt (by decide) _ _
            | false =>
              obtain ⟨c, r', hc, hkc⟩ := key_head x
              have := kindJ_bd x
              rw [if_neg (by decide), keyJs, hc]
              refine PC.gt ?_ _ _
              rw [UInt8.lt_iff_toNat_lt]
              show 0 < c.toNat
              omega
          | cons y t =>
            rw [nbJs] at ho'
            have h1 := IH x (by omega) y ho.1 ho'.1
            have h2 := ih t ns.tail ms.tail (d + 1) (by omega) ho.2 ho'.2
            rw [cmpJs, List.length_cons, List.length_cons, show r.length + 1 + d = r.length + (d + 1) by omega, show t.length + 1 + d = t.length + (d + 1) by omega]
            cases o with
            | false =>
              rw [if_neg (by decide), if_neg (by decide)] at h2 ⊢
              rw [if_neg (by simp), keyJs, keyJs, List.append_assoc, List.append_assoc]
              exact h1.comp h2
            | true =>
              rw [if_pos rfl, if_pos rfl] at h2 ⊢
              rw [keyJo, keyJo, List.append_assoc, List.append_assoc, List.append_assoc, List.append_assoc]
              have h3 := (word_order (ns.headD []) (ms.headD [])).comp (h1.comp h2)
              by_cases hn : ns.headD [] = ms.headD []
              · rw [if_neg (fun e => e.2 hn)]
                rw [hn, cmpB_self, if_neg (by simp)] at h3
                rw [hn]; exact h3
              · rw [if_pos ⟨rfl, hn⟩]
                rw [if_pos (fun e => hn (cmpB_eq0 e))] at h3
                exact h3
      cases x with
      | null =>
        rw [cmpJ, ← hk, show cmpI 1 (kindJ .null) = 0 from by decide]
        cases y <;> simp only [kindJ] at hk
        · rw [keyJ]; exact PC.same [1] PC.nil
        · split at hk <;> omega
        · omega
        · omega
        · omega
        · omega
        · rw [keyJ, keyJ]; exact PC.same [1] PC.nil
      | other k =>
        rw [cmpJ, ← hk, show cmpI 1 (kindJ (.other k)) = 0 from cmpI_self 1]
        cases y <;> simp only [kindJ] at hk
        · rw [keyJ, keyJ]; exact PC.same [1] PC.nil
        · split at hk <;> omega
        · omega
        · omega
        · omega
        · omega
        · rw [keyJ, keyJ]; exact PC.same [1] PC.nil
      | bool b =>
        rw [cmpJ, ← hk, show kindJ (.bool b) = (if b = true then 3 else 2) from rfl, cmpI_self]
        cases y <;> simp only [kindJ] at hk
        · split at hk <;> omega
        · rename_i b'
          have : b = b' := by cases b <;> cases b' <;> simp at hk <;> rfl
          subst this
          rw [keyJ]; exact PC.same [_] PC.nil
        · split at hk <;> omega
        · split at hk <;> omega
        · split at hk <;> omega
        · split at hk <;> omega
        · split at hk <;> omega
      | num a =>
        obtain ⟨b, rfl⟩ := kind4 (y := y) hk
        rw [nbJ] at hx hy
        rw [cmpJ, keyJ, keyJ, beL_beD _ (by omega), beL_beD _ (by omega)]
        have := be_order 8 (a + 9223372036854775808).toNat (b + 9223372036854775808).toNat (by show _ < 18446744073709551616; omega) (by show _ < 18446744073709551616; omega)
        have hc : cmpI (((a + 9223372036854775808).toNat : Nat) : Int) (((b + 9223372036854775808).toNat : Nat) : Int) = cmpI a b := by
          unfold cmpI
          by_cases h1 : a < b
          · rw [if_pos (by omega), if_pos h1]
          · rw [if_neg (by omega), if_neg h1]
            by_cases h2 : b < a
            · rw [if_pos (by omega), if_pos h2]
            · rw [if_neg (by omega), if_neg h2]
        rw [hc] at this
        exact PC.cons 4 this
      | text a =>
        obtain ⟨b, rfl⟩ := kind5 (y := y) hk
        rw [cmpJ, keyJ, keyJ]
        exact word_order a b
      | list xs =>
        obtain ⟨ys, rfl⟩ := kind6 (y := y) hk
        rw [nbJ] at hx hy
        rw [jsz] at h
        rw [cmpJ, keyJ, keyJ]
        have := HS false xs ys [] [] 0 (by omega) hx hy
        rw [if_neg (by decide), if_neg (by decide)] at this
        exact PC.cons 6 this
      | obj ns xs =>
        obtain ⟨ms, ys, rfl⟩ := kind7 (y := y) hk
        rw [nbJ] at hx hy
        rw [jsz] at h
        rw [cmpJ, keyJ, keyJ]
        have := HS true xs ys ns ms 0 (by omega) hx.2 hy.2
        rw [if_pos rfl, if_pos rfl] at this
        exact PC.cons 7 this
    · rw [cmpJ_kind x y hk]
      obtain ⟨c, r, hc, hkc⟩ := key_head x
      obtain ⟨c', r', hc', hkc'⟩ := key_head y
      rw [hc, hc', ← hkc, ← hkc']
      rw [← hkc, ← hkc'] at hk
      by_cases hlt : c < c'
      · have h1 := hlt
        rw [UInt8.lt_iff_toNat_lt] at h1
        have e : cmpI ((c.toNat : Nat) : Int) ((c'.toNat : Nat) : Int) = -1 := by unfold cmpI; rw [if_pos (by omega)]
        rw [e]; exact PC.lt hlt _ _
      · have h1 := hlt
        rw [UInt8.lt_iff_toNat_lt] at h1
        have e : cmpI ((c.toNat : Nat) : Int) ((c'.toNat : Nat) : Int) = 1 := by unfold cmpI; rw [if_neg (by omega), if_pos (by omega)]
        rw [e]; exact PC.gt (by rw [UInt8.lt_iff_toNat_lt]; omega) _ _
/-- Values compare as their keys. -/
theorem cmp_keys {x y : DV} (hx : mayV x 0 = 0) (hy : mayV y 0 = 0) (bx : nbJ (toJ x)) (b2 : nbJ (toJ y)) : cmpV x y = cmpB (keyJ (toJ x)) (keyJ (toJ y)) := by
  rw [(key_order _ (toJ x) (Nat.le_refl _) (toJ y) bx b2).is, cmp_toJ _ x (Nat.le_refl _) y (ok_may' x 0 hx) (ok_may' y 0 hy)]
/-- Numbers that the document holds. -/
theorem IsV.nb {g : Gh} : ∀ (N : Nat) (x : DV), dsz x ≤ N → ∀ cs, IsV g x cs → wfV x → nbJ (toJ x)
  | 0, .mk .., h, _, _, _ => by rw [dsz] at h; omega
  | N + 1, .mk k b n s items names, h, cs, hV, hW => by
    have IH := IsV.nb (g := g) N
    rw [dsz] at h
    rw [IsV] at hV
    rw [wfV] at hW
    obtain ⟨vi, vn, flat, _, _, hn, _, _, _, hfl, _⟩ := hV
    have HS : ∀ (l : List DV) (fl : List Value), dszs l ≤ N → IsVs g l fl → wfVs l → nbJs (l.map toJ) := by
      intro l
      induction l with
      | nil => intro _ _ _ _; rw [List.map_nil, nbJs]; trivial
      | cons x r ih =>
        intro fl hd hI hw
        rw [dszs] at hd
        rw [IsVs] at hI
        rw [wfVs] at hw
        obtain ⟨c0, f0, _, h1, h2⟩ := hI
        rw [List.map_cons, nbJs]
        exact ⟨IH x (by omega) c0 h1 hw.1, ih f0 (by omega) h2 hw.2⟩
    rw [toJ_eq]
    by_cases k0 : k = 0
    · rw [if_pos k0, nbJ]; trivial
    rw [if_neg k0]
    by_cases k1 : k = 1
    · rw [if_pos k1, nbJ]; trivial
    rw [if_neg k1]
    by_cases k2 : k = 2
    · rw [if_pos k2, nbJ]; exact hn
    rw [if_neg k2]
    by_cases k3 : k = 3
    · rw [if_pos k3, nbJ]; trivial
    rw [if_neg k3]
    by_cases k4 : k = 4
    · rw [if_pos k4, nbJ]; exact HS items flat (by omega) hfl (hW.2.2.2 (.inl k4))
    rw [if_neg k4]
    by_cases k5 : k = 5
    · rw [if_pos k5, nbJ, List.length_map]; exact ⟨(hW.2.2.1 k5).1, HS items flat (by omega) hfl (hW.2.2.2 (.inr k5))⟩
    rw [if_neg k5, nbJ]; trivial
end Go.Proofs.YtphlggmhgfcmgaaGreatDoor
