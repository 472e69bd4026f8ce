/-
  The paths that are told: one part behind the other; how many they are.
-/
import Derived.Test.YtacogbfgegcliaaGreatDoorPathG
import Derived.Test.YtacogbfgegcliaaGreatDoorB4
namespace Go.Proofs.YtacogbfgegcliaaGreatDoor
open Go.RowKit Go.TL
set_option maxRecDepth 100000

def partA (ahead s : List UInt8) (x : J) : List (List UInt8) := if toldB (ahead ++ s) s = true then (ahead ++ s) :: allJ (ahead ++ s ++ [46]) x else []
theorem alls_at {ahead : List UInt8} {xs : List J} {i : Nat} {x : J} (h : xs[i]? = some x) : allJs ahead i (xs.drop i) = partA ahead (Lib.decDigits i) x ++ allJs ahead (i + 1) (xs.drop (i + 1)) := by
  obtain ⟨h1, h2⟩ := List.getElem?_eq_some_iff.1 h
  rw [List.drop_eq_getElem_cons h1, h2, allJs]; rfl
theorem allm_at {ahead : List UInt8} {ns : List (List UInt8)} {xs : List J} {i : Nat} {s : List UInt8} {x : J} (h : xs[i]? = some x) (hn : ns[i]? = some s) : allMs ahead (ns.drop i) (xs.drop i) = partA ahead s x ++ allMs ahead (ns.drop (i + 1)) (xs.drop (i + 1)) := by
  obtain ⟨h1, h2⟩ := List.getElem?_eq_some_iff.1 h
  obtain ⟨h3, h4⟩ := List.getElem?_eq_some_iff.1 hn
  rw [List.drop_eq_getElem_cons h1, h2, List.drop_eq_getElem_cons h3, h4, allMs, List.headD_cons, List.tail_cons]; rfl
mutual
theorem all_len : ∀ (x : J) (ahead : List UInt8), (allJ ahead x).length + 1 ≤ jsz x
  | .list xs, ahead => by rw [allJ, jsz]; have := alls_len xs ahead 0; omega
  | .obj ns xs, ahead => by rw [allJ, jsz]; have := allm_len xs ns ahead; omega
  | .null, _ => by rw [allJ, jsz]; simp
  | .bool _, _ => by rw [allJ, jsz]; simp
  | .num _, _ => by rw [allJ, jsz]; simp
  | .text _, _ => by rw [allJ, jsz]; simp
  | .other _, _ => by rw [allJ, jsz]; simp
theorem alls_len : ∀ (l : List J) (ahead : List UInt8) (i : Nat), (allJs ahead i l).length ≤ jszs l
  | [], _, _ => by rw [allJs]; simp
  | x :: r, ahead, i => by
    rw [allJs, jszs, List.length_append]
    have h1 := all_len x (ahead ++ Lib.decDigits i ++ [46])
    have h2 := alls_len r ahead (i + 1)
    split
    · rw [List.length_cons]; omega
    · rw [List.length_nil]; omega
theorem allm_len : ∀ (l : List J) (ns : List (List UInt8)) (ahead : List UInt8), (allMs ahead ns l).length ≤ jszs l
  | [], _, _ => by rw [allMs]; simp
  | x :: r, ns, ahead => by
    rw [allMs, jszs, List.length_append]
    have h1 := all_len x (ahead ++ ns.headD [] ++ [46])
    have h2 := allm_len r ns.tail ahead
    split
    · rw [List.length_cons]; omega
    · rw [List.length_nil]; omega
end
theorem part_len (ahead s : List UInt8) (x : J) : (partA ahead s x).length ≤ jsz x := by
  unfold partA
  have := all_len x (ahead ++ s ++ [46])
  split
  · rw [List.length_cons]; omega
  · rw [List.length_nil]; omega
theorem jszs_at {xs : List J} {i : Nat} {x : J} (h : xs[i]? = some x) : jszs (xs.drop i) = jsz x + jszs (xs.drop (i + 1)) := by
  obtain ⟨h1, h2⟩ := List.getElem?_eq_some_iff.1 h
  rw [List.drop_eq_getElem_cons h1, h2, jszs]
theorem itoa_nat (i : Nat) : Lib.itoa ((i : Nat) : Int) = Lib.decDigits i := by
  unfold Lib.itoa
  rw [if_neg (by omega), Int.toNat_natCast]
theorem strs_snoc (l : List (List UInt8)) (s : List UInt8) : strs (l ++ [s]) = strs l ++ [str s] := by unfold strs; rw [List.map_append]; rfl
theorem len_snoc (l : List (List UInt8)) (s : List UInt8) : (l ++ [s]).length = l.length + 1 := by simp
theorem szJs_at {m : Nat} : ∀ {l : List J} {i : Nat} {x : J}, szJs m l → l[i]? = some x → szJ m x
  | [], _, _, _, h => by simp at h
  | x :: r, 0, y, hs, h => by
    rw [szJs] at hs
    obtain rfl : x = y := by simpa using h
    exact hs.1
  | x :: r, i + 1, y, hs, h => by
    rw [szJs] at hs
    exact szJs_at (i := i) hs.2 (by simpa using h)
theorem part_no {ahead s : List UInt8} {x : J} (h : toldB (ahead ++ s) s = false) : partA ahead s x = [] := by unfold partA; rw [if_neg (by rw [h]; decide)]
theorem part_yes {ahead s : List UInt8} {x : J} (h : toldB (ahead ++ s) s = true) : partA ahead s x = (ahead ++ s) :: allJ (ahead ++ s ++ [46]) x := by unfold partA; rw [if_pos h]
theorem told_of {q s t : List UInt8} {l : List (List UInt8)} {k : Nat} (h : stepsL q = some l) (hk : l.length = k + 1) (ht : l[k]? = some t) : toldB q s = decide (t = s) := by
  unfold toldB
  rw [h]
  show (l.getLast? == some s) = decide (t = s)
  rw [List.getLast?_eq_getElem?, hk, Nat.add_sub_cancel, ht]
  rw [Bool.eq_iff_iff]; simp
mutual
theorem jsz_cnt : ∀ (x : DV) (l : Int), 0 ≤ cnt x l → (jsz (toJ x) : Int) + cnt x l ≤ l
  | .mk k b n s items names, l, h => by
    rw [cnt] at h ⊢
    split at h
    · omega
    rename_i hc
    rw [if_neg hc]
    split at h
    · rename_i hk
      rw [if_pos hk]
      have := jszs_cnts (decide (k = 5)) names items (l - 1) h
      have e : jsz (toJ (.mk k b n s items names)) = 1 + jszs (items.map toJ) := by
        rw [toJ_eq]
        rcases hk with rfl | rfl
        · rw [if_neg (by decide), if_neg (by decide), if_neg (by decide), if_neg (by decide), if_pos rfl, jsz]
        · rw [if_neg (by decide), if_neg (by decide), if_neg (by decide), if_neg (by decide), if_neg (by decide), if_pos rfl, jsz]
      rw [e]
      omega
    · rename_i hk
      rw [if_neg hk]
      have e : jsz (toJ (.mk k b n s items names)) = 1 := by
        rw [toJ_eq, if_neg (c := k = 4) (fun h => hk (.inl h)), if_neg (c := k = 5) (fun h => hk (.inr h))]
        repeat' split
        all_goals rw [jsz]
      rw [e]
      omega
theorem jszs_cnts (o : Bool) : ∀ (ns : List (List UInt8)) (l : List DV) (m : Int), 0 ≤ cnts o ns l m → (jszs (l.map toJ) : Int) + cnts o ns l m ≤ m
  | ns, [], m, h => by
    rw [cnts] at h ⊢
    rw [List.map_nil, jszs]; omega
  | ns, x :: r, m, h => by
    rw [cnts] at h ⊢
    split at h
    · omega
    rename_i hc
    rw [if_neg hc]
    split at h
    · omega
    rename_i hc2
    rw [if_neg hc2]
    have h1 := jsz_cnt x m (by omega)
    have h2 := jszs_cnts o ns.tail r (cnt x m) h
    rw [List.map_cons, jszs]
    omega
end
theorem jsz_light {x : DV} (h : lightB x = true) : jsz (toJ x) ≤ 300 := by
  have h0 : 0 ≤ cnt x 300 := of_decide_eq_true h
  have := jsz_cnt x 300 h0
  omega
theorem allP_get {x : J} (lx : lenJ x) {q : List UInt8} (h : q ∈ allP x) : (∃ u, getP q x = some u) ∧ q.length ≤ 1000 := by
  unfold allP at h
  split at h
  · rename_i h0
    obtain ⟨u, hu⟩ := all_getP lx h0 h
    refine ⟨⟨u, hu⟩, ?_⟩
    obtain ⟨m, y, _, hq, _⟩ := all_get _ x (Nat.le_refl _) (ok_of_look x 0 h0 lx).1 [] q (fun s hs => by cases hs) h
    have := (stepsL_some hq).2.2.1
    omega
  · cases h
theorem allP_nodup {x : J} (lx : lenJ x) : (allP x).Nodup := by
  unfold allP
  split
  · rename_i h0
    exact all_nodup0 lx h0
  · exact List.nodup_nil
theorem nodup_ne {l : List (List UInt8)} (hn : l.Nodup) {k i : Nat} {a b : List UInt8} (hk : l[k]? = some a) (hi : l[i]? = some b) (h : k < i) : a ≠ b := by
  intro e
  subst e
  obtain ⟨h1, h2⟩ := List.getElem?_eq_some_iff.1 hk
  obtain ⟨h3, h4⟩ := List.getElem?_eq_some_iff.1 hi
  exact List.pairwise_iff_getElem.1 hn k i h1 h3 h (h2.trans h4.symm)
end Go.Proofs.YtacogbfgegcliaaGreatDoor
