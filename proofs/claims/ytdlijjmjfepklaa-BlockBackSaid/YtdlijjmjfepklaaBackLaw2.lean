/-
  The plain law of layer 18's bytes: what is read is what was written.
-/
import Derived.Test.YtdlijjmjfepklaaBackLaw
namespace Go.Proofs.Ytdlijjmjfepklaa
open Go.RowKit

theorem rdAts_inv (len : Int) : ∀ (f : Nat) (a : Int) (s : List UInt8) (l : List Int) (t : List UInt8), rdAts len f a s = some (l, t) → s = rowB a l ++ t := by
  intro f
  induction f with
  | zero => intro a s l t h; simp [rdAts] at h; obtain ⟨rfl, rfl⟩ := h; simp [rowB]
  | succ f ih =>
    intro a s l t h
    rw [rdAts] at h
    split at h
    · simp at h
    · rename_i x t1 hx
      split at h
      · simp only [Option.map_eq_some_iff, Prod.mk.injEq] at h
        obtain ⟨q, hq, rfl, rfl⟩ := h
        rw [rowB, rdNum_inv hx, ih _ _ _ _ hq, show a + (1 + (x : Int)) - a - 1 = (x : Int) by omega, Int.toNat_natCast, List.append_assoc]
      · simp at h
theorem rdAts_fwd (len : Int) (hlen : len ≤ 1048576) : ∀ (l : List Int) (a : Int) (t : List UInt8), -1 ≤ a → goodFrom a len l = true → rdAts len l.length a (rowB a l ++ t) = some (l, t) := by
  intro l
  induction l with
  | nil => intro a t _ _; simp [rdAts, rowB]
  | cons x r ih =>
    intro a t ha h
    simp only [goodFrom, Bool.and_eq_true, Bool.not_eq_true', decide_eq_false_iff_not] at h
    obtain ⟨⟨h1, h2⟩, h3⟩ := h
    obtain ⟨q, hq⟩ : ∃ q : Nat, x - a - 1 = (q : Int) := ⟨(x - a - 1).toNat, by omega⟩
    rw [rowB, hq, Int.toNat_natCast, List.append_assoc, List.length_cons, rdAts, (num_fwd (most := 1048576) _ (by omega) (by omega)).1]
    simp only []
    have e : a + (1 + (q : Int)) = x := by omega
    rw [e, if_pos (by omega), ih x t (by omega) h3]
    rfl
theorem rdPost_inv {last row len : Int} {s t : List UInt8} {ats : List Int} (h : rdPost last s = some ((row, len, ats), t)) :
    s = numB (row - last - 1).toNat ++ (numB (len - 1).toNat ++ (numB (ats.length - 1) ++ (rowB (-1) ats ++ t))) := by
  unfold rdPost at h
  split at h
  · simp at h
  · rename_i a s1 h1
    split at h
    · simp at h
    · rename_i b s2 h2
      split at h
      · simp at h
      · rename_i c s3 h3
        simp only [Option.map_eq_some_iff, Prod.mk.injEq] at h
        obtain ⟨q, hq, ⟨rfl, rfl, rfl⟩, rfl⟩ := h
        have hl := rdAts_length _ _ _ _ _ _ hq
        rw [rdNum_inv h1, rdNum_inv h2, rdNum_inv h3, rdAts_inv _ _ _ _ _ _ hq, hl, show last + 1 + (a : Int) - last - 1 = (a : Int) by omega, show 1 + (b : Int) - 1 = (b : Int) by omega, Int.toNat_natCast, Int.toNat_natCast, show 1 + c - 1 = c by omega]
theorem postB_bounds {row len : Int} {xs : List Int} (h : postB row len xs = true) : 0 ≤ row ∧ row ≤ 9007199254740992 ∧ 1 ≤ len ∧ len ≤ 1048576 ∧ 0 < xs.length ∧ goodFrom (-1) len xs = true := by
  simp only [postB, Bool.and_eq_true, Bool.not_eq_true', decide_eq_false_iff_not, beq_eq_false_iff_ne] at h
  obtain ⟨⟨⟨⟨⟨h1, h2⟩, h3⟩, h4⟩, h5⟩, h6⟩ := h
  exact ⟨by omega, by omega, by omega, by omega, by omega, h6⟩
theorem good_length {len : Int} : ∀ (l : List Int) (a : Int), -1 ≤ a → goodFrom a len l = true → (l.length : Int) ≤ max 0 (len - a - 1) := by
  intro l
  induction l with
  | nil => intro a _ _; simp; omega
  | cons x r ih =>
    intro a ha h
    simp only [goodFrom, Bool.and_eq_true, Bool.not_eq_true', decide_eq_false_iff_not] at h
    have := ih x (by omega) h.2
    rw [List.length_cons]; push_cast; omega
theorem rdPost_fwd {last row len : Int} {ats : List Int} (t : List UInt8) (hl : -1 ≤ last) (hr : last < row) (h : postB row len ats = true) :
    rdPost last (numB (row - last - 1).toNat ++ (numB (len - 1).toNat ++ (numB (ats.length - 1) ++ (rowB (-1) ats ++ t)))) = some ((row, len, ats), t) := by
  obtain ⟨b1, b2, b3, b4, b5, b6⟩ := postB_bounds h
  have hgl := good_length ats (-1) (by omega) b6
  unfold rdPost
  rw [(num_fwd (most := 9007199254740992) _ (by omega) (by omega)).1]
  simp only []
  rw [(num_fwd (most := 1048576) _ (by omega) (by omega)).1]
  simp only []
  rw [(num_fwd (most := 1048576) _ (by omega) (by omega)).1]
  simp only []
  have e1 : 1 + (((len - 1).toNat : Nat) : Int) = len := by omega
  have e2 : 1 + (ats.length - 1) = ats.length := by omega
  have e3 : last + 1 + (((row - last - 1).toNat : Nat) : Int) = row := by omega
  rw [e1, e2, e3, rdAts_fwd len b4 ats (-1) t (by omega) b6]
  rfl
theorem rdAll_inv : ∀ (f : Nat) (last : Int) (s : List UInt8) (l : List PV) (t : List UInt8), rdAll f last s = some (l, t) → s = packL last l ++ t ∧ l.length = f ∧ l.map PV.norm = l := by
  intro f
  induction f with
  | zero => intro last s l t h; simp [rdAll] at h; obtain ⟨rfl, rfl⟩ := h; simp [packL]
  | succ f ih =>
    intro last s l t h
    rw [rdAll] at h
    split at h
    · simp at h
    · rename_i p t1 hp
      simp only [Option.map_eq_some_iff, Prod.mk.injEq] at h
      obtain ⟨q, hq, rfl, rfl⟩ := h
      obtain ⟨row, len, ats⟩ := p
      obtain ⟨i1, i2, i3⟩ := ih _ _ _ _ hq
      refine ⟨?_, by rw [List.length_cons, i2], by rw [List.map_cons, i3]; rfl⟩
      rw [rdPost_inv hp, i1]
      simp [packL, postOf]
theorem rdAll_fwd : ∀ (l : List PV) (last : Int) (t : List UInt8), -1 ≤ last → listB last l = true → rdAll l.length last (packL last l ++ t) = some (l.map PV.norm, t) := by
  intro l
  induction l with
  | nil => intro last t _ _; simp [rdAll, packL]
  | cons p r ih =>
    intro last t hl h
    simp only [listB, Bool.and_eq_true, Bool.not_eq_true', decide_eq_false_iff_not] at h
    obtain ⟨⟨h1, h2⟩, h3⟩ := h
    have b := postB_bounds h1
    rw [List.length_cons, rdAll, packL]
    simp only [List.append_assoc]
    rw [rdPost_fwd _ hl (by omega) h1]
    simp only []
    rw [ih p.row t (by omega) h3]
    rfl
theorem right_list {l : List PV} (h : rightB l = true) : listB (-1) l = true ∧ l.length ≤ 64 := by
  simp only [rightB, Bool.and_eq_true, decide_eq_true_eq] at h
  exact h
theorem rdList_inv {s : List UInt8} {l : List PV} (h : rdList s = some l) : rightB l = true ∧ s = packB l ∧ l.map PV.norm = l := by
  unfold rdList at h
  split at h
  · simp at h
  · rename_i k t hk
    split at h
    · simp at h
    · rename_i l2 u hl
      split at h
      · rename_i hc
        simp only [Option.some.injEq] at h
        subst h
        obtain ⟨i1, i2, i3⟩ := rdAll_inv _ _ _ _ _ hl
        refine ⟨hc.2, ?_, i3⟩
        rw [rdNum_inv hk, i1, hc.1, packB, i2, List.append_nil]
      · simp at h
theorem rdList_fwd {l : List PV} (h : rightB l = true) : rdList (packB l) = some (l.map PV.norm) := by
  obtain ⟨h1, h2⟩ := right_list h
  unfold rdList packB
  rw [(num_fwd (most := 64) _ h2 (by omega)).1]
  simp only []
  have := rdAll_fwd l (-1) [] (by omega) h1
  rw [List.append_nil] at this
  rw [this]
  simp [rightB_norm, h]

/-- The document's reader: the places, so many. -/
def gtAts : Nat → Int → List UInt8 → Option (List Int × List UInt8)
  | 0, _, s => some ([], s)
  | f + 1, a, s => match gtNum s with
    | none => none
    | some (x, t) => if x ≤ 1048576 then (gtAts f (a + (1 + (x : Int))) t).map (fun q => ((a + (1 + (x : Int))) :: q.1, q.2)) else none
def gtThree (s : List UInt8) : Option (Nat × List UInt8) := match gtNum s with
  | none => none
  | some (x, t) => if x ≤ 9007199254740992 then some (x, t) else none
def gtPost (L : Nat) (last : Int) (s : List UInt8) : Option ((Int × Int × List Int) × List UInt8) :=
  match gtThree s with
  | none => none
  | some (a, s1) => match gtThree s1 with
    | none => none
    | some (b, s2) => match gtThree s2 with
      | none => none
      | some (c, s3) => if c < L then (gtAts (c + 1) (-1) s3).map fun q => ((last + (1 + (a : Int)), (b : Int) + 1, q.1), q.2) else none
def gtAll (L : Nat) : Nat → Int → List UInt8 → Option (List PV × List UInt8)
  | 0, _, s => some ([], s)
  | f + 1, last, s => match gtPost L last s with
    | none => none
    | some (p, t) => (gtAll L f p.1 t).map fun q => (postOf p :: q.1, q.2)
def gtList (s : List UInt8) : Option (List PV) := match gtNum s with
  | none => none
  | some (k, t) => if k ≤ 64 then (match gtAll s.length k (-1) t with
    | none => none
    | some (l, _) => if rightB l = true ∧ packB l = s then some l else none) else none

theorem gtAts_fwd (len : Int) (hlen : len ≤ 1048576) : ∀ (l : List Int) (a : Int) (t : List UInt8), -1 ≤ a → goodFrom a len l = true → gtAts l.length a (rowB a l ++ t) = some (l, t) := by
  intro l
  induction l with
  | nil => intro a t _ _; simp [gtAts, rowB]
  | cons x r ih =>
    intro a t ha h
    simp only [goodFrom, Bool.and_eq_true, Bool.not_eq_true', decide_eq_false_iff_not] at h
    obtain ⟨⟨h1, h2⟩, h3⟩ := h
    obtain ⟨q, hq⟩ : ∃ q : Nat, x - a - 1 = (q : Int) := ⟨(x - a - 1).toNat, by omega⟩
    rw [rowB, hq, Int.toNat_natCast, List.append_assoc, List.length_cons, gtAts, (num_fwd (most := 1048576) _ (by omega) (by omega)).2]
    simp only []
    have e : a + (1 + (q : Int)) = x := by omega
    rw [e, if_pos (by omega), ih x t (by omega) h3]
    rfl
theorem gtThree_fwd {n : Nat} (t : List UInt8) (h : n ≤ 9007199254740992) : gtThree (numB n ++ t) = some (n, t) := by
  rw [gtThree, (num_fwd t (Nat.le_refl _) h).2]; simp [h]
theorem gtPost_fwd {L : Nat} {last row len : Int} {ats : List Int} (t : List UInt8) (hl : -1 ≤ last) (hr : last < row) (h : postB row len ats = true) (hL : ats.length ≤ L) :
    gtPost L last (numB (row - last - 1).toNat ++ (numB (len - 1).toNat ++ (numB (ats.length - 1) ++ (rowB (-1) ats ++ t)))) = some ((row, len, ats), t) := by
  obtain ⟨b1, b2, b3, b4, b5, b6⟩ := postB_bounds h
  have hgl := good_length ats (-1) (by omega) b6
  unfold gtPost
  rw [gtThree_fwd _ (by omega)]
  simp only []
  rw [gtThree_fwd _ (by omega)]
  simp only []
  rw [gtThree_fwd _ (by omega)]
  simp only []
  have e1 : (((len - 1).toNat : Nat) : Int) + 1 = len := by omega
  have e2 : (ats.length - 1) + 1 = ats.length := by omega
  have e3 : last + (1 + (((row - last - 1).toNat : Nat) : Int)) = row := by omega
  rw [if_pos (by omega), e1, e2, e3, gtAts_fwd len b4 ats (-1) t (by omega) b6]
  rfl
theorem numB_pos (n : Nat) : 0 < (numB n).length := by simp [numB]
theorem rowB_length : ∀ (l : List Int) (a : Int), l.length ≤ (rowB a l).length := by
  intro l
  induction l with
  | nil => intro a; simp
  | cons x r ih => intro a; have := ih x; have := numB_pos (x - a - 1).toNat; rw [rowB, List.length_append, List.length_cons]; omega
theorem gtAll_fwd (L : Nat) : ∀ (l : List PV) (last : Int) (t : List UInt8), -1 ≤ last → listB last l = true → (packL last l).length ≤ L → gtAll L l.length last (packL last l ++ t) = some (l.map PV.norm, t) := by
  intro l
  induction l with
  | nil => intro last t _ _ _; simp [gtAll, packL]
  | cons p r ih =>
    intro last t hl h hL
    simp only [listB, Bool.and_eq_true, Bool.not_eq_true', decide_eq_false_iff_not] at h
    obtain ⟨⟨h1, h2⟩, h3⟩ := h
    have b := postB_bounds h1
    have hrl := rowB_length p.ats (-1)
    rw [packL] at hL
    simp only [List.length_append] at hL
    rw [List.length_cons, gtAll, packL]
    simp only [List.append_assoc]
    rw [gtPost_fwd _ hl (by omega) h1 (by omega)]
    simp only []
    rw [ih p.row t (by omega) h3 (by omega)]
    rfl
theorem gtAll_norm (L : Nat) : ∀ (f : Nat) (last : Int) (s : List UInt8) (l : List PV) (t : List UInt8), gtAll L f last s = some (l, t) → l.map PV.norm = l := by
  intro f
  induction f with
  | zero => intro last s l t h; simp [gtAll] at h; obtain ⟨rfl, rfl⟩ := h; rfl
  | succ f ih =>
    intro last s l t h
    rw [gtAll] at h
    split at h
    · simp at h
    · simp only [Option.map_eq_some_iff, Prod.mk.injEq] at h
      obtain ⟨q, hq, rfl, rfl⟩ := h
      rw [List.map_cons, ih _ _ _ _ hq]; rfl
/-- Both readers read the same lists. -/
theorem readers_same (s : List UInt8) : gtList s = rdList s := by
  cases hr : rdList s with
  | some l =>
    obtain ⟨h1, rfl, h3⟩ := rdList_inv hr
    obtain ⟨g1, g2⟩ := right_list h1
    have := gtAll_fwd (packB l).length l (-1) [] (by omega) g1 (by rw [packB, List.length_append]; omega)
    rw [List.append_nil, h3] at this
    have hn : gtNum (packB l) = some (l.length, packL (-1) l) := by
      rw [packB]; exact (num_fwd _ (Nat.le_refl _) (by omega)).2
    unfold gtList
    rw [hn]
    simp only []
    rw [if_pos g2, this]
    simp [h1]
  | none =>
    cases hg : gtList s with
    | none => rfl
    | some l =>
      exfalso
      unfold gtList at hg
      split at hg
      · simp at hg
      · split at hg
        · split at hg
          · simp at hg
          · rename_i l2 u hl
            split at hg
            · rename_i hc
              simp only [Option.some.injEq] at hg
              subst hg
              have := rdList_fwd hc.1
              rw [hc.2, hr] at this
              simp at this
            · simp at hg
        · simp at hg
end Go.Proofs.Ytdlijjmjfepklaa
