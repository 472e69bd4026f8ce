/-
  What was put is what the path leads to; elsewhere nothing turns; all paths lead to something, each told once.
-/
import Derived.Test.YtacogbfgegcliaaGreatDoorPathE
namespace Go.Proofs.YtacogbfgegcliaaGreatDoor
open Go.RowKit Go.TL

theorem idxN_snoc : ∀ {ns : List (List UInt8)} {s : List UInt8}, idxN ns s = none → idxN (ns ++ [s]) s = some ns.length
  | [], s, _ => by rw [List.nil_append, idxN, if_pos rfl]; rfl
  | n :: r, s, h => by
    rw [idxN] at h
    split at h
    · cases h
    · rename_i hn
      rw [List.cons_append, idxN, if_neg hn, idxN_snoc (Option.map_eq_none_iff.1 h)]; rfl
theorem idxN_snoc_ne : ∀ {ns : List (List UInt8)} {s t : List UInt8}, s ≠ t → idxN (ns ++ [s]) t = idxN ns t
  | [], s, t, h => by
    rw [List.nil_append, idxN, idxN, if_neg h]; rfl
  | n :: r, s, t, h => by rw [List.cons_append, idxN, idxN, idxN_snoc_ne h]
theorem idxN_of_get : ∀ {ns : List (List UInt8)} {i : Nat} {s : List UInt8}, ns.Nodup → ns[i]? = some s → idxN ns s = some i
  | [], _, _, _, h => by simp at h
  | n :: r, 0, s, _, h => by
    obtain rfl : n = s := by simpa using h
    rw [idxN, if_pos rfl]
  | n :: r, i + 1, s, hd, h => by
    have h' : r[i]? = some s := by simpa using h
    have hd := List.nodup_cons.1 hd
    rw [idxN, if_neg (fun e => hd.1 (by rw [e]; exact List.mem_of_getElem? h')), idxN_of_get hd.2 h']; rfl
theorem get_obj {ns : List (List UInt8)} {xs : List J} {s : List UInt8} {r : List (List UInt8)} : getJ (s :: r) (.obj ns xs) = ((idxN ns s).bind (xs[·]?)).bind (getJ r) := rfl
theorem get_list {xs : List J} {s : List UInt8} {r : List (List UInt8)} : getJ (s :: r) (.list xs) = ((itemL s).bind (xs[·]?)).bind (getJ r) := rfl
theorem lenJs_get : ∀ {l : List J} {i : Nat} {x : J}, lenJs l → l[i]? = some x → lenJ x
  | [], _, _, _, h => by simp at h
  | y :: r, 0, x, hs, h => by
    rw [lenJs] at hs
    obtain rfl : y = x := by simpa using h
    exact hs.1
  | y :: r, i + 1, x, hs, h => by
    rw [lenJs] at hs
    exact lenJs_get (l := r) (i := i) hs.2 (by simpa using h)
theorem get_put : ∀ (l : List (List UInt8)) (x y z : J), lenJ x → putJ l x y = some z → getJ l z = some y ∧ putJ l z y = some z
  | [], x, y, z, _, h => by
    rw [putJ] at h
    obtain rfl := Option.some.inj h
    exact ⟨rfl, rfl⟩
  | s :: r, x, y, z, hx, h => by
    have IH := fun x z => get_put r x y z
    have he : lenJ (.obj [] []) := by rw [lenJ, lenJs]; simp
    cases x with
    | obj ns xs =>
      rw [putJ] at h
      rw [lenJ] at hx
      split at h
      · rename_i i hi
        split at h
        · rename_i y' hy'
          obtain ⟨w, hw, rfl⟩ := Option.map_eq_some_iff.1 h
          obtain ⟨h1, h2⟩ := IH _ _ (lenJs_get hx.2 hy') hw
          have hlt := (List.getElem?_eq_some_iff.1 hy').1
          have hg : (xs.set i w)[i]? = some w := by simp [hlt]
          refine ⟨by rw [get_obj, hi]; simp only [Option.bind_some, hg]; exact h1, ?_⟩
          rw [putJ, hi]
          simp only [hg, h2, Option.map_some, List.set_set]
        · cases h
      · rename_i hi
        obtain ⟨w, hw, rfl⟩ := Option.map_eq_some_iff.1 h
        obtain ⟨h1, h2⟩ := IH _ _ he hw
        have hg : (xs ++ [w])[ns.length]? = some w := by rw [hx.1]; simp
        refine ⟨by rw [get_obj, idxN_snoc hi]; simp only [Option.bind_some, hg]; exact h1, ?_⟩
        rw [putJ, idxN_snoc hi]
        simp only [hg, h2, Option.map_some]
        rw [hx.1]; simp
    | list xs =>
      rw [putJ] at h
      rw [lenJ] at hx
      split at h
      · cases h
      · rename_i i hi
        split at h
        · rename_i y' hy'
          obtain ⟨w, hw, rfl⟩ := Option.map_eq_some_iff.1 h
          obtain ⟨h1, h2⟩ := IH _ _ (lenJs_get hx hy') hw
          have hlt := (List.getElem?_eq_some_iff.1 hy').1
          have hg : (xs.set i w)[i]? = some w := by simp [hlt]
          refine ⟨by rw [get_list, hi]; simp only [Option.bind_some, hg]; exact h1, ?_⟩
          rw [putJ, hi]
          simp only [hg, h2, Option.map_some, List.set_set]
        · split at h
          · rename_i hil
            obtain ⟨w, hw, rfl⟩ := Option.map_eq_some_iff.1 h
            obtain ⟨h1, h2⟩ := IH _ _ he hw
            have hg : (xs ++ [w])[i]? = some w := by rw [hil]; simp
            refine ⟨by rw [get_list, hi]; simp only [Option.bind_some, hg]; exact h1, ?_⟩
            rw [putJ, hi]
            simp only [hg, h2, Option.map_some]
            rw [hil]; simp
          · cases h
    | _ => rw [putJ] at h <;> first | cases h | (intros; simp)
theorem get_other : ∀ (l m : List (List UInt8)) (x y z : J), lenJ x → putJ l x y = some z → ¬ l <+: m → ¬ m <+: l → (getJ m x).isSome → getJ m z = getJ m x
  | [], m, x, y, z, _, _, h, _, _ => absurd (List.nil_prefix) h
  | s :: r, [], x, y, z, _, _, _, h, _ => absurd (List.nil_prefix) h
  | s :: r, t :: m, x, y, z, hx, h, h1, h2, hg => by
    cases x with
    | obj ns xs =>
      rw [putJ] at h
      rw [lenJ] at hx
      rw [get_obj] at hg ⊢
      by_cases hst : s = t
      · subst hst
        have h1 : ¬ r <+: m := fun e => h1 (List.cons_prefix_cons.2 ⟨rfl, e⟩)
        have h2 : ¬ m <+: r := fun e => h2 (List.cons_prefix_cons.2 ⟨rfl, e⟩)
        split at h
        · rename_i i hi
          split at h
          · rename_i y' hy'
            obtain ⟨w, hw, rfl⟩ := Option.map_eq_some_iff.1 h
            rw [hi] at hg ⊢
            have hg2 : (some i).bind (xs[·]?) = some y' := hy'
            have hlt := (List.getElem?_eq_some_iff.1 hy').1
            have hg3 : (some i).bind ((xs.set i w)[·]?) = some w := by simp [hlt]
            rw [hg2] at hg ⊢
            rw [get_obj, hi, hg3]
            exact get_other r m y' y w (lenJs_get hx.2 hy') hw h1 h2 hg
          · cases h
        · rename_i hi
          rw [hi] at hg; cases hg
      · split at h
        · rename_i i hi
          split at h
          · rename_i y' hy'
            obtain ⟨w, hw, rfl⟩ := Option.map_eq_some_iff.1 h
            rw [get_obj]
            cases hj : idxN ns t with
            | none => rfl
            | some j =>
              have hij : i ≠ j := fun e => by
                have a := (idxN_some hi).1
                have b := (idxN_some hj).1
                rw [e, b] at a
                exact hst (Option.some.inj a).symm
              simp only [Option.bind_some, List.getElem?_set_ne hij]
          · cases h
        · rename_i hi
          obtain ⟨w, hw, rfl⟩ := Option.map_eq_some_iff.1 h
          rw [get_obj, idxN_snoc_ne hst]
          cases hj : idxN ns t with
          | none => rfl
          | some j =>
            have := idxN_lt hj
            simp only [Option.bind_some]
            rw [List.getElem?_append_left (by omega)]
    | list xs =>
      rw [putJ] at h
      rw [lenJ] at hx
      rw [get_list] at hg ⊢
      by_cases hst : s = t
      · subst hst
        have h1 : ¬ r <+: m := fun e => h1 (List.cons_prefix_cons.2 ⟨rfl, e⟩)
        have h2 : ¬ m <+: r := fun e => h2 (List.cons_prefix_cons.2 ⟨rfl, e⟩)
        split at h
        · cases h
        · rename_i i hi
          split at h
          · rename_i y' hy'
            obtain ⟨w, hw, rfl⟩ := Option.map_eq_some_iff.1 h
            rw [hi] at hg ⊢
            have hg2 : (some i).bind (xs[·]?) = some y' := hy'
            have hlt := (List.getElem?_eq_some_iff.1 hy').1
            have hg3 : (some i).bind ((xs.set i w)[·]?) = some w := by simp [hlt]
            rw [hg2] at hg ⊢
            rw [get_list, hi, hg3]
            exact get_other r m y' y w (lenJs_get hx hy') hw h1 h2 hg
          · rename_i hy'
            rw [hi] at hg
            have hg2 : (some i).bind (xs[·]?) = none := hy'
            rw [hg2] at hg; cases hg
      · split at h
        · cases h
        · rename_i i hi
          have hne : ∀ j, itemL t = some j → i ≠ j := fun j hj e => hst (by rw [item_some hi, item_some hj, e])
          split at h
          · rename_i y' hy'
            obtain ⟨w, hw, rfl⟩ := Option.map_eq_some_iff.1 h
            rw [get_list]
            cases hj : itemL t with
            | none => rfl
            | some j => simp only [Option.bind_some, List.getElem?_set_ne (hne j hj)]
          · split at h
            · rename_i hil
              obtain ⟨w, hw, rfl⟩ := Option.map_eq_some_iff.1 h
              rw [get_list]
              cases hj : itemL t with
              | none => rfl
              | some j =>
                simp only [Option.bind_some]
                by_cases hjl : j < xs.length
                · rw [List.getElem?_append_left hjl]
                · have hn : (some j).bind (xs[·]?) = none := List.getElem?_eq_none (by omega)
                  rw [hj, hn] at hg; cases hg
            · cases h
    | _ => rw [putJ] at h <;> first | cases h | (intros; simp)
theorem drop_some : ∀ (l : List (List UInt8)) (z y : J), l ≠ [] → getJ l z = some y → ∃ w, dropJ l z = some w
  | [], z, y, h, _ => absurd rfl h
  | s :: r, z, y, _, h => by
    cases z with
    | obj ns xs =>
      rw [get_obj] at h
      obtain ⟨u, hu, h⟩ := Option.bind_eq_some_iff.1 h
      obtain ⟨i, hi, hu⟩ := Option.bind_eq_some_iff.1 hu
      rw [dropJ, hi]
      simp only [hu]
      by_cases hr : r = []
      · rw [if_pos hr]; exact ⟨_, rfl⟩
      · obtain ⟨w, hw⟩ := drop_some r u y hr h
        rw [if_neg hr, hw]; exact ⟨_, rfl⟩
    | list xs =>
      rw [get_list] at h
      obtain ⟨u, hu, h⟩ := Option.bind_eq_some_iff.1 h
      obtain ⟨i, hi, hu⟩ := Option.bind_eq_some_iff.1 hu
      rw [dropJ, hi]
      simp only [hu]
      by_cases hr : r = []
      · rw [if_pos hr]; exact ⟨_, rfl⟩
      · obtain ⟨w, hw⟩ := drop_some r u y hr h
        rw [if_neg hr, hw]; exact ⟨_, rfl⟩
    | _ => cases h
theorem drop_gone : ∀ (l : List (List UInt8)) (z w : J), okJ z → dropJ l z = some w → (∀ xs, getJ l.dropLast z ≠ some (.list xs)) → getJ l w = none
  | [], z, w, _, h, _ => by rw [dropJ] at h; cases h
  | s :: r, z, w, hz, h, hp => by
    cases z with
    | obj ns xs =>
      rw [dropJ] at h
      rw [okJ] at hz
      split at h
      · rename_i i hi
        split at h
        · rename_i y hy
          split at h
          · rename_i hr
            subst hr
            obtain rfl := Option.some.inj h
            rw [get_obj]
            have hno : idxN (ns.eraseIdx i) s = none := by
              cases hj : idxN (ns.eraseIdx i) s with
              | none => rfl
              | some j =>
                have h1 := List.mem_of_getElem? (idxN_some hj).1
                have h2 := (idxN_some hi).1
                exfalso
                obtain ⟨k, hk, hks⟩ := List.mem_eraseIdx_iff_getElem?.1 h1
                have := idxN_of_get hz.2.1 hks
                rw [hi] at this
                exact hk (Option.some.inj this).symm
            rw [hno]; rfl
          · rename_i hr
            obtain ⟨u, hu, rfl⟩ := Option.map_eq_some_iff.1 h
            have hlt := (List.getElem?_eq_some_iff.1 hy).1
            have hg3 : (some i).bind ((xs.set i u)[·]?) = some u := by simp [hlt]
            rw [get_obj, hi, hg3]
            refine drop_gone r y u (okJs_get hz.2.2.2 hy) hu (fun ys e => ?_)
            rw [List.dropLast_cons_of_ne_nil hr] at hp
            refine hp ys ?_
            rw [get_obj, hi]
            have hg2 : (some i).bind (xs[·]?) = some y := hy
            rw [hg2]; exact e
        · cases h
      · cases h
    | list xs =>
      rw [dropJ] at h
      rw [okJ] at hz
      split at h
      · cases h
      · rename_i i hi
        split at h
        · rename_i y hy
          split at h
          · rename_i hr
            subst hr
            exact absurd rfl (hp xs)
          · rename_i hr
            obtain ⟨u, hu, rfl⟩ := Option.map_eq_some_iff.1 h
            have hlt := (List.getElem?_eq_some_iff.1 hy).1
            have hg3 : (some i).bind ((xs.set i u)[·]?) = some u := by simp [hlt]
            rw [get_list, hi, hg3]
            refine drop_gone r y u (okJs_get hz hy) hu (fun ys e => ?_)
            rw [List.dropLast_cons_of_ne_nil hr] at hp
            refine hp ys ?_
            rw [get_list, hi]
            have hg2 : (some i).bind (xs[·]?) = some y := hy
            rw [hg2]; exact e
        · cases h
    | _ => rw [dropJ] at h <;> first | cases h | (intros; simp)
/-! ### Steps and texts -/
theorem joinS_append : ∀ (a b : List (List UInt8)), a ≠ [] → b ≠ [] → joinS (a ++ b) = joinS a ++ 46 :: joinS b
  | [], _, h, _ => absurd rfl h
  | [s], b, _, hb => by rw [List.singleton_append, joinS_cons hb]; rfl
  | s :: t :: r, b, _, hb => by
    have e : joinS (s :: t :: r) = s ++ 46 :: joinS (t :: r) := joinS_cons (by simp)
    rw [List.cons_append, joinS_cons (by simp), joinS_append (t :: r) b (by simp) hb, e]; simp
def beginsB (p q : List UInt8) : Bool := decide (p = q) || (decide (q.length < p.length) && (decide (p.take q.length = q) && decide (p[q.length]? = some 46)))
theorem begins_of {l m : List (List UInt8)} (hm : m ≠ []) (h : m <+: l) : beginsB (joinS l) (joinS m) = true := by
  obtain ⟨r, rfl⟩ := h
  unfold beginsB
  by_cases hr : r = []
  · subst hr; simp
  · rw [joinS_append m r hm hr]; simp
def Good (c : List (List UInt8)) : Prop := ∀ s ∈ c, s ≠ [] ∧ ∀ y ∈ s, y ≠ 46
def aheadS (c : List (List UInt8)) : List UInt8 := if c = [] then [] else joinS c ++ [46]
theorem joinS_inj {a b : List (List UInt8)} (ha : a ≠ []) (hb : b ≠ []) (ga : Good a) (gb : Good b) (h : joinS a = joinS b) : a = b := by
  have h1 := steps_joinS a ha ga
  rw [h, steps_joinS b hb gb] at h1
  exact (Option.some.inj h1).symm
theorem aheadS_snoc (c : List (List UInt8)) (s : List UInt8) : aheadS c ++ s = joinS (c ++ [s]) := by
  unfold aheadS
  split
  · rename_i h; subst h; rfl
  · rename_i h; rw [joinS_append c [s] h (by simp)]; simp [joinS]
theorem aheadS_next (c : List (List UInt8)) (s : List UInt8) : aheadS c ++ s ++ [46] = aheadS (c ++ [s]) := by
  rw [aheadS_snoc]; unfold aheadS; rw [if_neg (by simp)]
theorem aheadS_inj {a b : List (List UInt8)} (ga : Good a) (gb : Good b) (h : aheadS a = aheadS b) : a = b := by
  unfold aheadS at h
  by_cases ha : a = []
  · by_cases hb : b = []
    · rw [ha, hb]
    · rw [if_pos ha, if_neg hb] at h; exact absurd h.symm (by simp)
  · by_cases hb : b = []
    · rw [if_neg ha, if_pos hb] at h; exact absurd h (by simp)
    · rw [if_neg ha, if_neg hb] at h
      exact joinS_inj ha hb ga gb (List.append_inj_left' h rfl)
theorem told_steps {c : List (List UInt8)} {s : List UInt8} (gc : Good c) (h : toldB (aheadS c ++ s) s = true) : stepsL (aheadS c ++ s) = some (c ++ [s]) ∧ Good (c ++ [s]) := by
  unfold toldB at h
  cases hl : stepsL (aheadS c ++ s) with
  | none => rw [hl] at h; cases h
  | some l =>
    rw [hl] at h
    have hlast : l.getLast? = some s := by simpa using h
    obtain ⟨h1, h2, _, _, h5⟩ := stepsL_some hl
    obtain ⟨l', rfl⟩ : ∃ l', l = l' ++ [s] := by
      refine ⟨l.dropLast, ?_⟩
      have := List.dropLast_concat_getLast h2
      rw [List.getLast?_eq_some_getLast h2] at hlast
      rw [Option.some.inj hlast] at this
      exact this.symm
    have g2 : Good (l' ++ [s]) := fun t ht => ⟨(h5 t ht).1, (h5 t ht).2.1⟩
    rw [← aheadS_snoc l' s] at h1
    have h3 := List.append_inj_left' h1 rfl
    have := aheadS_inj gc (fun t ht => g2 t (by simp [ht])) h3
    subst this
    exact ⟨rfl, g2⟩
theorem allJs_mem : ∀ (r : List J) (ahead q : List UInt8) (i : Nat), q ∈ allJs ahead i r → ∃ k x, r[k]? = some x ∧ toldB (ahead ++ Lib.decDigits (i + k)) (Lib.decDigits (i + k)) = true ∧ (q = ahead ++ Lib.decDigits (i + k) ∨ q ∈ allJ (ahead ++ Lib.decDigits (i + k) ++ [46]) x)
  | [], _, _, _, h => by rw [allJs] at h; cases h
  | x :: r, ahead, q, i, h => by
    rw [allJs] at h
    rcases List.mem_append.1 h with h | h
    · split at h
      · rename_i ht
        exact ⟨0, x, rfl, ht, List.mem_cons.1 h⟩
      · cases h
    · obtain ⟨k, y, h1, h2, h3⟩ := allJs_mem r ahead q (i + 1) h
      rw [show i + 1 + k = i + (k + 1) by omega] at h2 h3
      exact ⟨k + 1, y, by simpa using h1, h2, h3⟩
theorem allMs_mem : ∀ (r : List J) (ns : List (List UInt8)) (ahead q : List UInt8), ns.length = r.length → q ∈ allMs ahead ns r → ∃ (k : Nat) (x : J) (s : List UInt8), r[k]? = some x ∧ ns[k]? = some s ∧ toldB (ahead ++ s) s = true ∧ (q = ahead ++ s ∨ q ∈ allJ (ahead ++ s ++ [46]) x)
  | [], _, _, _, _, h => by rw [allMs] at h; cases h
  | x :: r, [], _, _, hn, _ => by simp at hn
  | x :: r, n :: ns, ahead, q, hn, h => by
    rw [allMs, List.headD_cons, List.tail_cons] at h
    rcases List.mem_append.1 h with h | h
    · split at h
      · rename_i ht
        exact ⟨0, x, n, rfl, rfl, ht, List.mem_cons.1 h⟩
      · cases h
    · obtain ⟨k, y, s, h1, h2, h3⟩ := allMs_mem r ns ahead q (by simpa using hn) h
      exact ⟨k + 1, y, s, by simpa using h1, by simpa using h2, h3⟩
theorem all_get : ∀ (N : Nat) (x : J), jsz x ≤ N → okJ x → ∀ (c : List (List UInt8)) (q : List UInt8), Good c → q ∈ allJ (aheadS c) x → ∃ m y, m ≠ [] ∧ stepsL q = some (c ++ m) ∧ getJ m x = some y
  | 0, x, h, _, _, _, _, _ => by cases x <;> (rw [jsz] at h; omega)
  | N + 1, .list xs, hN, hx, c, q, gc, hq => by
    rw [jsz] at hN
    rw [okJ] at hx
    rw [allJ] at hq
    obtain ⟨k, x, h1, h2, h3⟩ := allJs_mem xs _ q 0 hq
    rw [Nat.zero_add] at h2 h3
    obtain ⟨h4, h5⟩ := told_steps gc h2
    have hnx : nextJ (.list xs) (Lib.decDigits k) = some x := by unfold nextJ; rw [item_dec]; exact h1
    rcases h3 with rfl | h3
    · exact ⟨[Lib.decDigits k], x, by simp, h4, by rw [getJ, hnx]; rfl⟩
    · rw [aheadS_next] at h3
      obtain ⟨m, y, h6, h7, h8⟩ := all_get N x (by have := jsz_get h1; omega) (okJs_get hx h1) _ q h5 h3
      exact ⟨Lib.decDigits k :: m, y, by simp, by rw [h7]; simp, by rw [getJ, hnx]; exact h8⟩
  | N + 1, .obj ns xs, hN, hx, c, q, gc, hq => by
    rw [jsz] at hN
    rw [okJ] at hx
    rw [allJ] at hq
    obtain ⟨k, x, s, h1, h0, h2, h3⟩ := allMs_mem xs ns _ q hx.1 hq
    obtain ⟨h4, h5⟩ := told_steps gc h2
    have hnx : nextJ (.obj ns xs) s = some x := by
      show (idxN ns s).bind (xs[·]?) = some x
      rw [idxN_of_get hx.2.1 h0]; exact h1
    rcases h3 with rfl | h3
    · exact ⟨[s], x, by simp, h4, by rw [getJ, hnx]; rfl⟩
    · rw [aheadS_next] at h3
      obtain ⟨m, y, h6, h7, h8⟩ := all_get N x (by have := jsz_get h1; omega) (okJs_get hx.2.2.2 h1) _ q h5 h3
      exact ⟨s :: m, y, by simp, by rw [h7]; simp, by rw [getJ, hnx]; exact h8⟩
  | N + 1, .null, _, _, _, _, _, h => by rw [allJ] at h; cases h
  | N + 1, .bool _, _, _, _, _, _, h => by rw [allJ] at h; cases h
  | N + 1, .num _, _, _, _, _, _, h => by rw [allJ] at h; cases h
  | N + 1, .text _, _, _, _, _, _, h => by rw [allJ] at h; cases h
  | N + 1, .other _, _, _, _, _, _, h => by rw [allJ] at h; cases h
theorem all_steps {x : J} (hx : okJ x) {c : List (List UInt8)} {q : List UInt8} (gc : Good c) (h : q ∈ allJ (aheadS c) x) : ∃ m, m ≠ [] ∧ stepsL q = some (c ++ m) := by
  obtain ⟨m, _, h1, h2, _⟩ := all_get _ x (Nat.le_refl _) hx c q gc h
  exact ⟨m, h1, h2⟩
theorem block_nodup {x : J} (hx : okJ x) {c : List (List UInt8)} {s : List UInt8} (gc : Good c) (hd : Good (c ++ [s]) → (allJ (aheadS (c ++ [s])) x).Nodup) : (if toldB (aheadS c ++ s) s = true then (aheadS c ++ s) :: allJ (aheadS c ++ s ++ [46]) x else []).Nodup ∧
    ∀ q ∈ (if toldB (aheadS c ++ s) s = true then (aheadS c ++ s) :: allJ (aheadS c ++ s ++ [46]) x else []), ∃ m, stepsL q = some (c ++ s :: m) := by
  split
  · rename_i ht
    obtain ⟨h1, h2⟩ := told_steps gc ht
    rw [aheadS_next]
    refine ⟨List.nodup_cons.2 ⟨fun hm => ?_, hd h2⟩, fun q hq => ?_⟩
    · obtain ⟨m, hm0, hm⟩ := all_steps hx h2 hm
      rw [h1] at hm
      have := congrArg List.length (Option.some.inj hm)
      have h3 : m.length ≠ 0 := fun e => hm0 (List.eq_nil_of_length_eq_zero e)
      simp only [List.length_append] at this
      omega
    · rcases List.mem_cons.1 hq with rfl | hq
      · exact ⟨[], h1⟩
      · obtain ⟨m, _, hm⟩ := all_steps hx h2 hq
        exact ⟨m, by rw [hm]; simp⟩
  · exact ⟨List.nodup_nil, fun q hq => by cases hq⟩
theorem dec_inj {a b : Nat} (h : Lib.decDigits a = Lib.decDigits b) : a = b := by rw [← num_dec a, h, num_dec]
theorem allJs_head {r : List J} (ho : okJs r) {c : List (List UInt8)} (gc : Good c) {i : Nat} {q : List UInt8} (h : q ∈ allJs (aheadS c) i r) : ∃ k m, stepsL q = some (c ++ Lib.decDigits (i + k) :: m) := by
  obtain ⟨k, x, h1, h2, h3⟩ := allJs_mem r _ q i h
  obtain ⟨h4, h5⟩ := told_steps gc h2
  rcases h3 with rfl | h3
  · exact ⟨k, [], h4⟩
  · rw [aheadS_next] at h3
    obtain ⟨m, _, hm⟩ := all_steps (okJs_get ho h1) h5 h3
    exact ⟨k, m, by rw [hm]; simp⟩
theorem allMs_head {r : List J} {ns : List (List UInt8)} (ho : okJs r) (hn : ns.length = r.length) {c : List (List UInt8)} (gc : Good c) {q : List UInt8} (h : q ∈ allMs (aheadS c) ns r) : ∃ s m, s ∈ ns ∧ stepsL q = some (c ++ s :: m) := by
  obtain ⟨k, x, s, h1, h0, h2, h3⟩ := allMs_mem r ns _ q hn h
  obtain ⟨h4, h5⟩ := told_steps gc h2
  rcases h3 with rfl | h3
  · exact ⟨s, [], List.mem_of_getElem? h0, h4⟩
  · rw [aheadS_next] at h3
    obtain ⟨m, _, hm⟩ := all_steps (okJs_get ho h1) h5 h3
    exact ⟨s, m, List.mem_of_getElem? h0, by rw [hm]; simp⟩
theorem allJs_nodup {N : Nat} (IH : ∀ x : J, jsz x ≤ N → okJ x → ∀ c, Good c → (allJ (aheadS c) x).Nodup) : ∀ (r : List J) (c : List (List UInt8)) (i : Nat), jszs r ≤ N → okJs r → Good c → (allJs (aheadS c) i r).Nodup
  | [], _, _, _, _, _ => by rw [allJs]; exact List.nodup_nil
  | x :: r, c, i, hN, ho, gc => by
    rw [jszs] at hN
    have ho' := ho
    rw [okJs] at ho
    obtain ⟨b1, b2⟩ := block_nodup (x := x) (s := Lib.decDigits i) ho.1 gc (fun g2 => IH x (by omega) ho.1 _ g2)
    rw [allJs]
    refine List.nodup_append.2 ⟨b1, allJs_nodup IH r c (i + 1) (by omega) ho.2 gc, fun a ha b hb e => ?_⟩
    subst e
    obtain ⟨m, hm⟩ := b2 a ha
    obtain ⟨k, m2, hm2⟩ := allJs_head ho.2 gc hb
    rw [hm] at hm2
    have := List.append_cancel_left (Option.some.inj hm2)
    have := dec_inj (List.cons.inj this).1
    omega
theorem allMs_nodup {N : Nat} (IH : ∀ x : J, jsz x ≤ N → okJ x → ∀ c, Good c → (allJ (aheadS c) x).Nodup) : ∀ (r : List J) (ns c : List (List UInt8)), ns.length = r.length → ns.Nodup → jszs r ≤ N → okJs r → Good c → (allMs (aheadS c) ns r).Nodup
  | [], _, _, _, _, _, _, _ => by rw [allMs]; exact List.nodup_nil
  | x :: r, [], _, hn, _, _, _, _ => by simp at hn
  | x :: r, n :: ns, c, hn, hd, hN, ho, gc => by
    rw [jszs] at hN
    rw [okJs] at ho
    have hn2 : ns.length = r.length := by simpa using hn
    obtain ⟨hd1, hd2⟩ := List.nodup_cons.1 hd
    obtain ⟨b1, b2⟩ := block_nodup (x := x) (s := n) ho.1 gc (fun g2 => IH x (by omega) ho.1 _ g2)
    rw [allMs, List.headD_cons, List.tail_cons]
    refine List.nodup_append.2 ⟨b1, allMs_nodup IH r ns c hn2 hd2 (by omega) ho.2 gc, fun a ha b hb e => ?_⟩
    subst e
    obtain ⟨m, hm⟩ := b2 a ha
    obtain ⟨s, m2, hs, hm2⟩ := allMs_head ho.2 hn2 gc hb
    rw [hm] at hm2
    have := List.append_cancel_left (Option.some.inj hm2)
    exact hd1 (by rw [(List.cons.inj this).1]; exact hs)
theorem all_nodup : ∀ (N : Nat) (x : J), jsz x ≤ N → okJ x → ∀ c, Good c → (allJ (aheadS c) x).Nodup
  | 0, x, h, _, _, _ => by cases x <;> (rw [jsz] at h; omega)
  | N + 1, .list xs, hN, hx, c, gc => by
    rw [jsz] at hN
    rw [okJ] at hx
    rw [allJ]
    exact allJs_nodup (all_nodup N) xs c 0 (by omega) hx gc
  | N + 1, .obj ns xs, hN, hx, c, gc => by
    rw [jsz] at hN
    rw [okJ] at hx
    rw [allJ]
    exact allMs_nodup (all_nodup N) xs ns c hx.1 hx.2.1 (by omega) hx.2.2.2 gc
  | N + 1, .null, _, _, _, _ => by rw [allJ]; exact List.nodup_nil
  | N + 1, .bool _, _, _, _, _ => by rw [allJ]; exact List.nodup_nil
  | N + 1, .num _, _, _, _, _ => by rw [allJ]; exact List.nodup_nil
  | N + 1, .text _, _, _, _, _ => by rw [allJ]; exact List.nodup_nil
  | N + 1, .other _, _, _, _, _ => by rw [allJ]; exact List.nodup_nil
end Go.Proofs.YtacogbfgegcliaaGreatDoor
