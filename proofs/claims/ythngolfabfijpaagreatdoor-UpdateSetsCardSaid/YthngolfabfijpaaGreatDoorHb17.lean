/-
  The document's numbers in steps; its values, how great; all paths. What was put is what the path leads to; elsewhere nothing turns; all paths lead to something, each told once. What Put and Drop tell; a value is like itself.
-/
import Derived.Test.YthngolfabfijpaaGreatDoorHb16
import Derived.Test.YthngolfabfijpaaGreatDoorHb11
namespace Go.Proofs.YthngolfabfijpaaGreatDoor
open Go.RowKit

/-! ### A step as a number -/
/-! ### The document's values, how great -/
mutual
def wfN (m : Nat) : DV → Prop
  | .mk k _ _ s items names => s.length ≤ m ∧ items.length ≤ m ∧ (k = 5 → names.length = items.length ∧ ∀ x ∈ names, x.length ≤ m) ∧ (k = 4 ∨ k = 5 → wfNs m items)
def wfNs (m : Nat) : List DV → Prop
  | [] => True
  | x :: r => wfN m x ∧ wfNs m r
end
mutual
theorem wfN_of_cnt : ∀ (x : DV) (l : Int), l ≤ 1000 → 0 ≤ cnt x l → wfN 300 x
  | .mk k b n s items names, l, hl, h => by
    rw [cnt] at h
    split at h
    · omega
    rename_i hc
    rw [wfN]
    split at h
    · rename_i hk
      have := wfNs_of_cnts (decide (k = 5)) names items (l - 1) (by omega) (by omega) h
      refine ⟨by omega, by omega, fun hk5 => ?_, fun _ => this.1⟩
      have hlen : names.length = items.length := by
        by_cases e : names.length = items.length
        · exact e
        · exact absurd (.inr (.inr (.inr ⟨hk5, e⟩))) hc
      exact ⟨hlen, fun x hx => this.2 (by simp [hk5]) hlen x hx⟩
    · rename_i hk
      exact ⟨by omega, by omega, fun h5 => absurd (.inr h5) hk, fun h5 => absurd h5 hk⟩
theorem wfNs_of_cnts (o : Bool) : ∀ (ns : List (List UInt8)) (l : List DV) (m : Int), 0 ≤ m → m ≤ 1000 → 0 ≤ cnts o ns l m → wfNs 300 l ∧ (o = true → ns.length = l.length → ∀ x ∈ ns, x.length ≤ 300)
  | ns, [], m, h0, hm, h => by
    rw [wfNs]
    refine ⟨trivial, fun _ hl x hx => ?_⟩
    rw [List.eq_nil_of_length_eq_zero hl] at hx
    cases hx
  | ns, x :: r, m, h0, hm, h => by
    rw [cnts] at h
    split at h
    · omega
    rename_i hc
    split at h
    · omega
    rename_i hc2
    have hb := cnt_bd x m h0 hm
    have h1 := wfN_of_cnt x m hm (by omega)
    have h2 := wfNs_of_cnts o ns.tail r (cnt x m) (by omega) (by omega) h
    rw [wfNs]
    refine ⟨⟨h1, h2.1⟩, fun ho hl y hy => ?_⟩
    cases ns with
    | nil => cases hy
    | cons a t =>
      rcases List.mem_cons.1 hy with rfl | hy
      · simp only [List.headD_cons] at hc
        by_cases e : 300 < y.length
        · exact absurd ⟨ho, e⟩ hc
        · omega
      · exact h2.2 ho (by simpa using hl) y hy
end
theorem wfN_of_light {x : DV} (h : lightB x = true) : wfN 300 x := wfN_of_cnt x 300 (by decide) (of_decide_eq_true h)
theorem wfNs.get : ∀ {l : List DV} {m i : Nat} {x : DV}, wfNs m l → l[i]? = some x → wfN m x
  | [], _, _, _, _, h => by simp at h
  | y :: r, m, 0, x, h, hx => by
    rw [wfNs] at h
    obtain rfl : y = x := by simpa using hx
    exact h.1
  | y :: r, m, i + 1, x, h, hx => by
    rw [wfNs] at h
    exact wfNs.get h.2 (i := i) (by simpa using hx)
theorem wfNs.set : ∀ {l : List DV} {m i : Nat} {x : DV}, wfNs m l → wfN m x → wfNs m (l.set i x)
  | [], _, _, _, _, _ => by rw [List.set_nil, wfNs]; trivial
  | y :: r, m, 0, x, h, hx => by
    rw [wfNs] at h
    rw [List.set_cons_zero, wfNs]; exact ⟨hx, h.2⟩
  | y :: r, m, i + 1, x, h, hx => by
    rw [wfNs] at h
    rw [List.set_cons_succ, wfNs]; exact ⟨h.1, wfNs.set h.2 hx⟩
theorem wfNs.snoc : ∀ {l : List DV} {m : Nat} {x : DV}, wfNs m l → wfN m x → wfNs m (l ++ [x])
  | [], _, _, _, hx => by rw [List.nil_append, wfNs, wfNs]; exact ⟨hx, trivial⟩
  | y :: r, m, x, h, hx => by
    rw [wfNs] at h
    rw [List.cons_append, wfNs]; exact ⟨h.1, wfNs.snoc h.2 hx⟩
theorem szs_map : ∀ (l : List DV) (m : Nat), (∀ x ∈ l, szJ m (toJ x)) → szJs m (l.map toJ)
  | [], _, _ => by rw [List.map_nil, szJs]; trivial
  | x :: r, m, h => by rw [List.map_cons, szJs]; exact ⟨h x (by simp), szs_map r m (fun y hy => h y (by simp [hy]))⟩
theorem lens_map : ∀ (l : List DV), (∀ x ∈ l, lenJ (toJ x)) → lenJs (l.map toJ)
  | [], _ => by rw [List.map_nil, lenJs]; trivial
  | x :: r, h => by rw [List.map_cons, lenJs]; exact ⟨h x (by simp), lens_map r (fun y hy => h y (by simp [hy]))⟩
theorem wfNs.mem {l : List DV} {m : Nat} {x : DV} (h : wfNs m l) (hx : x ∈ l) : wfN m x := by
  obtain ⟨i, hi⟩ := List.getElem?_of_mem hx
  exact h.get hi
theorem sz_toJ : ∀ (N : Nat) (x : DV), dsz x ≤ N → ∀ m, wfN m x → szJ m (toJ x) ∧ lenJ (toJ x)
  | 0, .mk .., h, _, _ => by rw [dsz] at h; omega
  | N + 1, .mk k b n s items names, h, m, hw => by
    have IH := sz_toJ N
    rw [dsz] at h
    rw [wfN] at hw
    have hI : k = 4 ∨ k = 5 → ∀ x ∈ items, szJ m (toJ x) ∧ lenJ (toJ x) := fun hk x hx => by
      obtain ⟨i, hi⟩ := List.getElem?_of_mem hx
      exact IH x (by have := dsz_get hi; omega) m ((hw.2.2.2 hk).mem hx)
    rw [toJ_eq]
    split
    · rw [szJ, lenJ]; simp
    split
    · rw [szJ, lenJ]; simp
    split
    · rw [szJ, lenJ]; simp
    split
    · rw [szJ, lenJ]; exact ⟨hw.1, trivial⟩
    split
    · rename_i hk
      rw [szJ, lenJ, List.length_map]
      exact ⟨⟨hw.2.1, szs_map _ _ fun x hx => (hI (.inl hk) x hx).1⟩, lens_map _ fun x hx => (hI (.inl hk) x hx).2⟩
    split
    · rename_i hk
      rw [szJ, lenJ, List.length_map]
      exact ⟨⟨hw.2.1, (hw.2.2.1 hk).2, szs_map _ _ fun x hx => (hI (.inr hk) x hx).1⟩, (hw.2.2.1 hk).1, lens_map _ fun x hx => (hI (.inr hk) x hx).2⟩
    · rw [szJ, lenJ]; simp
/-! ### Depth -/
/-! ### What becomes of the document's values -/
/-! ### All paths -/
end Go.Proofs.YthngolfabfijpaaGreatDoor
namespace Go.Proofs.YthngolfabfijpaaGreatDoor
open Go.RowKit Go.TL

theorem idxN_snoc : ∀ {ns : List (List UInt8)} {s : List UInt8}, idxN ns s = none → idxN (ns ++ [s]) s = some ns.length
  | [], s, _ => by rw [List.nil_append, idxN, if_pos rfl]; rfl
  | n :: r, s, h => by
    rw [idxN] at h
    split at h
    · cases h
    · rename_i hn
      rw [List.cons_append, idxN, if_neg hn, idxN_snoc (Option.map_eq_none_iff.1 h)]; rfl
theorem get_obj {ns : List (List UInt8)} {xs : List J} {s : List UInt8} {r : List (List UInt8)} : getJ (s :: r) (.obj ns xs) = ((idxN ns s).bind (xs[·]?)).bind (getJ r) := rfl
theorem get_list {xs : List J} {s : List UInt8} {r : List (List UInt8)} : getJ (s :: r) (.list xs) = ((itemL s).bind (xs[·]?)).bind (getJ r) := rfl
theorem lenJs_get : ∀ {l : List J} {i : Nat} {x : J}, lenJs l → l[i]? = some x → lenJ x
  | [], _, _, _, h => by simp at h
  | y :: r, 0, x, hs, h => by
    rw [lenJs] at hs
    obtain rfl : y = x := by simpa using h
    exact hs.1
  | y :: r, i + 1, x, hs, h => by
    rw [lenJs] at hs
    exact lenJs_get (l := r) (i := i) hs.2 (by simpa using h)
theorem get_put : ∀ (l : List (List UInt8)) (x y z : J), lenJ x → putJ l x y = some z → getJ l z = some y ∧ putJ l z y = some z
  | [], x, y, z, _, h => by
    rw [putJ] at h
    obtain rfl := Option.some.inj h
    exact ⟨rfl, rfl⟩
  | s :: r, x, y, z, hx, h => by
    have IH := fun x z => get_put r x y z
    have he : lenJ (.obj [] []) := by rw [lenJ, lenJs]; simp
    cases x with
    | obj ns xs =>
      rw [putJ] at h
      rw [lenJ] at hx
      split at h
      · rename_i i hi
        split at h
        · rename_i y' hy'
          obtain ⟨w, hw, rfl⟩ := Option.map_eq_some_iff.1 h
          obtain ⟨h1, h2⟩ := IH _ _ (lenJs_get hx.2 hy') hw
          have hlt := (List.getElem?_eq_some_iff.1 hy').1
          have hg : (xs.set i w)[i]? = some w := by simp [hlt]
          refine ⟨by rw [get_obj, hi]; simp only [Option.bind_some, hg]; exact h1, ?_⟩
          rw [putJ, hi]
          simp only [hg, h2, Option.map_some, List.set_set]
        · cases h
      · rename_i hi
        obtain ⟨w, hw, rfl⟩ := Option.map_eq_some_iff.1 h
        obtain ⟨h1, h2⟩ := IH _ _ he hw
        have hg : (xs ++ [w])[ns.length]? = some w := by rw [hx.1]; simp
        refine ⟨by rw [get_obj, idxN_snoc hi]; simp only [Option.bind_some, hg]; exact h1, ?_⟩
        rw [putJ, idxN_snoc hi]
        simp only [hg, h2, Option.map_some]
        rw [hx.1]; simp
    | list xs =>
      rw [putJ] at h
      rw [lenJ] at hx
      split at h
      · cases h
      · rename_i i hi
        split at h
        · rename_i y' hy'
          obtain ⟨w, hw, rfl⟩ := Option.map_eq_some_iff.1 h
          obtain ⟨h1, h2⟩ := IH _ _ (lenJs_get hx hy') hw
          have hlt := (List.getElem?_eq_some_iff.1 hy').1
          have hg : (xs.set i w)[i]? = some w := by simp [hlt]
          refine ⟨by rw [get_list, hi]; simp only [Option.bind_some, hg]; exact h1, ?_⟩
          rw [putJ, hi]
          simp only [hg, h2, Option.map_some, List.set_set]
        · split at h
          · rename_i hil
            obtain ⟨w, hw, rfl⟩ := Option.map_eq_some_iff.1 h
            obtain ⟨h1, h2⟩ := IH _ _ he hw
            have hg : (xs ++ [w])[i]? = some w := by rw [hil]; simp
            refine ⟨by rw [get_list, hi]; simp only [Option.bind_some, hg]; exact h1, ?_⟩
            rw [putJ, hi]
            simp only [hg, h2, Option.map_some]
            rw [hil]; simp
          · cases h
    | _ => rw [putJ] at h <;> first | cases h | (intros; simp)
theorem drop_some : ∀ (l : List (List UInt8)) (z y : J), l ≠ [] → getJ l z = some y → ∃ w, dropJ l z = some w
  | [], z, y, h, _ => absurd rfl h
  | s :: r, z, y, _, h => by
    cases z with
    | obj ns xs =>
      rw [get_obj] at h
      obtain ⟨u, hu, h⟩ := Option.bind_eq_some_iff.1 h
      obtain ⟨i, hi, hu⟩ := Option.bind_eq_some_iff.1 hu
      rw [dropJ, hi]
      simp only [hu]
      by_cases hr : r = []
      · rw [if_pos hr]; exact ⟨_, rfl⟩
      · obtain ⟨w, hw⟩ := drop_some r u y hr h
        rw [if_neg hr, hw]; exact ⟨_, rfl⟩
    | list xs =>
      rw [get_list] at h
      obtain ⟨u, hu, h⟩ := Option.bind_eq_some_iff.1 h
      obtain ⟨i, hi, hu⟩ := Option.bind_eq_some_iff.1 hu
      rw [dropJ, hi]
      simp only [hu]
      by_cases hr : r = []
      · rw [if_pos hr]; exact ⟨_, rfl⟩
      · obtain ⟨w, hw⟩ := drop_some r u y hr h
        rw [if_neg hr, hw]; exact ⟨_, rfl⟩
    | _ => cases h
/-! ### Steps and texts -/
end Go.Proofs.YthngolfabfijpaaGreatDoor
namespace Go.Proofs.YthngolfabfijpaaGreatDoor
open Go.RowKit Go.TL

mutual
theorem same_refl : ∀ (x : J), okJ x → sameJ x x = true
  | .null, _ => by rw [sameJ]
  | .bool _, _ => by rw [sameJ]; simp
  | .num _, _ => by rw [sameJ]; simp
  | .text _, _ => by rw [sameJ]; simp
  | .list xs, h => by
    rw [okJ] at h
    rw [sameJ, sames_refl xs h]; simp
  | .obj ns xs, h => by
    rw [okJ] at h
    rw [sameJ, sameo_refl ns xs h.1 h.2.2.2]; simp
  | .other _, h => by rw [okJ] at h; exact h.elim
theorem sames_refl : ∀ (l : List J), okJs l → sames l l = true
  | [], _ => by rw [sames]; intros; simp_all
  | x :: r, h => by
    rw [okJs] at h
    rw [sames, same_refl x h.1, sames_refl r h.2]; rfl
theorem sameo_refl : ∀ (ns : List (List UInt8)) (l : List J), ns.length = l.length → okJs l → sameo ns l ns l = true
  | ns, [], hn, _ => by
    obtain rfl : ns = [] := List.eq_nil_of_length_eq_zero hn
    rw [sameo]; intros; simp_all
  | [], _ :: _, hn, _ => by simp at hn
  | n :: ns, x :: r, hn, h => by
    rw [okJs] at h
    rw [sameo, same_refl x h.1, sameo_refl ns r (by simpa using hn) h.2]; simp
end
def putE (x : J) (p : List UInt8) (y : J) : Nat × Option J := match stepsL p with
  | none => (16, none)
  | some l => if lookJ x 0 ≠ 0 then (lookJ x 0, none) else if lookJ y 0 ≠ 0 then (lookJ y 0, none) else match putJ l x y with
    | none => (14, none)
    | some z => if lookJ z 0 ≠ 0 then (lookJ z 0, none) else (0, some z)
def dropE (x : J) (p : List UInt8) : Nat × Option J := match stepsL p with
  | none => (16, none)
  | some l => if lookJ x 0 ≠ 0 then (lookJ x 0, none) else match dropJ l x with
    | none => (7, none)
    | some z => (0, some z)
theorem put_ok {l : List (List UInt8)} {p : List UInt8} {x y z : J} (hp : stepsL p = some l) (lx : lenJ x) (ly : lenJ y) (hx : lookJ x 0 = 0) (hy : lookJ y 0 = 0) (h : putJ l x y = some z) : okJ z :=
  ok_put l x y z (fun s hs => ((stepsL_some hp).2.2.2.2 s hs).2.2) (ok_of_look x 0 hx lx).1 (ok_of_look y 0 hy ly).1 h
theorem look_ok0 {z : J} (h : okJ z) : lookJ z 0 = if depJ z ≤ 32 then 0 else 10 := by
  rw [look_of_ok z 0 h]
  split <;> split <;> first | rfl | omega
theorem drop_ok {l : List (List UInt8)} {x z : J} (lx : lenJ x) (hx : lookJ x 0 = 0) (h : dropJ l x = some z) : okJ z := ok_drop l x z (ok_of_look x 0 hx lx).1 h
mutual
theorem dep_set : ∀ (l : List J) (i : Nat) (y z : J), l[i]? = some y → depJ z ≤ depJ y → depJs (l.set i z) ≤ depJs l
  | [], _, _, _, h, _ => by simp at h
  | x :: r, 0, y, z, h, hz => by
    obtain rfl : x = y := by simpa using h
    rw [List.set_cons_zero, depJs, depJs]; omega
  | x :: r, i + 1, y, z, h, hz => by
    have := dep_set r i y z (by simpa using h) hz
    rw [List.set_cons_succ, depJs, depJs]; omega
end
theorem dep_erase : ∀ (l : List J) (i : Nat), depJs (l.eraseIdx i) ≤ depJs l
  | [], _ => by rw [List.eraseIdx_nil]; exact Nat.le_refl _
  | x :: r, 0 => by rw [List.eraseIdx_cons_zero, depJs]; omega
  | x :: r, i + 1 => by
    have := dep_erase r i
    rw [List.eraseIdx_cons_succ, depJs, depJs]; omega
theorem dep_drop : ∀ (l : List (List UInt8)) (x z : J), dropJ l x = some z → depJ z ≤ depJ x
  | [], x, z, h => by rw [dropJ] at h; cases h
  | s :: r, x, z, h => by
    have IH := fun x z => dep_drop r x z
    cases x with
    | obj ns xs =>
      rw [dropJ] at h
      split at h
      · split at h
        · rename_i y hy
          split at h
          · obtain rfl := Option.some.inj h
            rw [depJ, depJ]; have := dep_erase xs (by assumption); omega
          · obtain ⟨w, hw, rfl⟩ := Option.map_eq_some_iff.1 h
            rw [depJ, depJ]
            have := dep_set _ _ _ _ hy (IH _ _ hw)
            omega
        · cases h
      · cases h
    | list xs =>
      rw [dropJ] at h
      split at h
      · cases h
      · split at h
        · rename_i y hy
          split at h
          · obtain rfl := Option.some.inj h
            rw [depJ, depJ]; have := dep_erase xs (by assumption); omega
          · obtain ⟨w, hw, rfl⟩ := Option.map_eq_some_iff.1 h
            rw [depJ, depJ]
            have := dep_set _ _ _ _ hy (IH _ _ hw)
            omega
        · cases h
    | _ => rw [dropJ] at h <;> first | cases h | (intros; simp)
theorem drop_look {l : List (List UInt8)} {x z : J} (lx : lenJ x) (hx : lookJ x 0 = 0) (h : dropJ l x = some z) : lookJ z 0 = 0 := by
  have h1 := ok_of_look x 0 hx lx
  have h2 := dep_drop l x z h
  rw [look_ok0 (drop_ok lx hx h), if_pos (by omega)]
theorem putE_some {x y z : J} {p : List UInt8} {e : Nat} (h : putE x p y = (e, some z)) : e = 0 ∧ ∃ l, stepsL p = some l ∧ lookJ x 0 = 0 ∧ lookJ y 0 = 0 ∧ putJ l x y = some z ∧ lookJ z 0 = 0 := by
  unfold putE at h
  split at h
  · cases h
  · rename_i l hl
    split at h
    · cases h
    split at h
    · cases h
    split at h
    · cases h
    · rename_i z' hz
      split at h
      · cases h
      · obtain ⟨rfl, h2⟩ := Prod.mk.inj h
        obtain rfl := Option.some.inj h2
        exact ⟨rfl, l, hl, by omega, by omega, hz, by omega⟩
theorem putE_none {x y : J} {p : List UInt8} {e : Nat} (h : putE x p y = (e, none)) : e ≠ 0 := by
  unfold putE at h
  split at h
  · obtain ⟨rfl, _⟩ := Prod.mk.inj h; decide
  · split at h
    · obtain ⟨rfl, _⟩ := Prod.mk.inj h; assumption
    split at h
    · obtain ⟨rfl, _⟩ := Prod.mk.inj h; assumption
    split at h
    · obtain ⟨rfl, _⟩ := Prod.mk.inj h; decide
    · split at h
      · obtain ⟨rfl, _⟩ := Prod.mk.inj h; assumption
      · cases h
theorem dropE_some {x z : J} {p : List UInt8} {e : Nat} (h : dropE x p = (e, some z)) : e = 0 ∧ ∃ l, stepsL p = some l ∧ lookJ x 0 = 0 ∧ dropJ l x = some z := by
  unfold dropE at h
  split at h
  · cases h
  · rename_i l hl
    split at h
    · cases h
    split at h
    · cases h
    · rename_i z' hz
      obtain ⟨rfl, h2⟩ := Prod.mk.inj h
      obtain rfl := Option.some.inj h2
      exact ⟨rfl, l, hl, by omega, hz⟩
theorem dropE_none {x : J} {p : List UInt8} {e : Nat} (h : dropE x p = (e, none)) : e ≠ 0 := by
  unfold dropE at h
  split at h
  · obtain ⟨rfl, _⟩ := Prod.mk.inj h; decide
  · split at h
    · obtain ⟨rfl, _⟩ := Prod.mk.inj h; assumption
    split at h
    · obtain ⟨rfl, _⟩ := Prod.mk.inj h; decide
    · cases h
theorem putE_back {x y z : J} {p : List UInt8} (lx : lenJ x) (h : putE x p y = (0, some z)) : getP p z = some y ∧ putE z p y = (0, some z) := by
  obtain ⟨_, l, h1, h2, h3, h4, h5⟩ := putE_some h
  obtain ⟨k1, k2⟩ := get_put l x y z lx h4
  refine ⟨by unfold getP; rw [if_pos h5, h1]; exact k1, ?_⟩
  unfold putE
  rw [h1]
  dsimp only
  rw [if_neg (by omega), if_neg (by omega), k2]
  dsimp only
  rw [if_neg (by omega)]
end Go.Proofs.YthngolfabfijpaaGreatDoor
