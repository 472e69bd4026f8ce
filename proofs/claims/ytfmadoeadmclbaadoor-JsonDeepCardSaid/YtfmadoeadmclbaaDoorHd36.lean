/-
  JSON texts as data: a value's rest is no longer than what it was read from.
-/
import Derived.Test.YtfmadoeadmclbaaDoorHd10
namespace Go.Proofs.YtfmadoeadmclbaaDoor
open Go.RowKit Go.TL
def LenOk (f : List UInt8 → Except Nat (J × List UInt8)) : Prop := ∀ s x r, f s = .ok (x, r) → r.length ≤ s.length
theorem lstP_len {f : List UInt8 → Except Nat (J × List UInt8)} (hf : LenOk f) : ∀ (n : Nat) (s : List UInt8) (xs : List J) (r : List UInt8), lstP f n s = .ok (xs, r) → r.length ≤ s.length
  | 0, s, xs, r, h => by rw [lstP] at h; cases h
  | n + 1, s, xs, r, h => by
    rw [lstP] at h
    cases h1 : f s with
    | error e => rw [h1] at h; cases h
    | ok p =>
      obtain ⟨x, u⟩ := p
      have l1 := hf _ _ _ h1
      have l2 := blL_len u
      rw [h1] at h
      dsimp only at h
      cases h2 : blL u with
      | nil => rw [h2] at h; cases h
      | cons c t =>
        rw [h2] at h l2
        dsimp only at h
        rw [List.length_cons] at l2
        split at h
        · injection h with h; injection h with h3 h4; subst h4; omega
        · split at h
          · cases h5 : lstP f n t with
            | error e => rw [h5] at h; cases h
            | ok p =>
              obtain ⟨ys, w⟩ := p
              have l3 := lstP_len hf n _ _ _ h5
              rw [h5] at h
              injection h with h; injection h with h3 h4; subst h4; omega
          · cases h
theorem mbrP_len {f : List UInt8 → Except Nat (J × List UInt8)} (hf : LenOk f) : ∀ (n : Nat) (seen : List (List UInt8)) (s : List UInt8) (p : List (List UInt8) × List J) (r : List UInt8), mbrP f n seen s = .ok (p, r) → r.length ≤ s.length
  | 0, _, s, xs, r, h => by rw [mbrP] at h; cases h
  | n + 1, seen, s, xs, r, h => by
    rw [mbrP] at h
    have l0 := blL_len s
    cases h0 : blL s with
    | nil => rw [h0] at h; cases h
    | cons q s1 =>
      rw [h0] at h l0
      dsimp only at h
      rw [List.length_cons] at l0
      split at h
      · cases ht : textL s1 with
        | none => rw [ht] at h; cases h
        | some p =>
          obtain ⟨nm, s2⟩ := p
          have lt := textL_len ht
          rw [ht] at h
          dsimp only at h
          split at h
          · cases h
          · have lb := blL_len s2
            cases hb : blL s2 with
            | nil => rw [hb] at h; cases h
            | cons k s3 =>
              rw [hb] at h lb
              dsimp only at h
              rw [List.length_cons] at lb
              split at h
              · cases h1 : f s3 with
                | error e => rw [h1] at h; cases h
                | ok p =>
                  obtain ⟨x, u⟩ := p
                  have l1 := hf _ _ _ h1
                  have l2 := blL_len u
                  rw [h1] at h
                  dsimp only at h
                  cases h2 : blL u with
                  | nil => rw [h2] at h; cases h
                  | cons c t =>
                    rw [h2] at h l2
                    dsimp only at h
                    rw [List.length_cons] at l2
                    split at h
                    · injection h with h; injection h with h3 h4; subst h4; omega
                    · split at h
                      · cases h5 : mbrP f n (seen ++ [nm]) t with
                        | error e => rw [h5] at h; cases h
                        | ok p =>
                          obtain ⟨⟨ns, ys⟩, w⟩ := p
                          have l3 := mbrP_len hf n _ _ _ _ h5
                          rw [h5] at h
                          injection h with h; injection h with h3 h4; subst h4; omega
                      · cases h
              · cases h
      · cases h
theorem wordW_len {w : List UInt8} {j : J} {s : List UInt8} {x : J} {r : List UInt8} (h : wordW w j s = .ok (x, r)) : r.length ≤ s.length := by
  unfold wordW at h
  split at h
  · injection h with h; injection h with h3 h4; subst h4; rw [List.length_drop]; omega
  · cases h
theorem numW_len {s : List UInt8} {x : J} {r : List UInt8} (h : numW s = .ok (x, r)) : r.length ≤ s.length := by
  unfold numW at h
  split at h
  · cases h
  · split at h
    · injection h with h; injection h with h3 h4; subst h4; rw [List.length_drop]; omega
    · cases h
theorem valW_len {l o : List UInt8 → Except Nat (J × List UInt8)} (hl : LenOk l) (ho : LenOk o) : LenOk (valW l o) := by
  intro s x r h
  unfold valW at h
  have l0 := blL_len s
  cases h0 : blL s with
  | nil => rw [h0] at h; cases h
  | cons c t =>
    rw [h0] at h l0
    dsimp only at h
    split at h
    · exact Nat.le_trans (wordW_len h) l0
    · split at h
      · exact Nat.le_trans (wordW_len h) l0
      · split at h
        · exact Nat.le_trans (wordW_len h) l0
        · split at h
          · cases ht : textL t with
            | none => rw [ht] at h; cases h
            | some p =>
              obtain ⟨y, u⟩ := p
              have lt := textL_len ht
              rw [ht] at h
              rw [List.length_cons] at l0
              injection h with h; injection h with h3 h4; subst h4; omega
          · rw [List.length_cons] at l0
            split at h
            · have := hl _ _ _ h; omega
            · split at h
              · have := ho _ _ _ h; omega
              · have := numW_len h; rw [List.length_cons] at this; omega
theorem lstW_len {f : List UInt8 → Except Nat (J × List UInt8)} (hf : LenOk f) : LenOk (lstW f) := by
  intro s x r h
  unfold lstW at h
  have l0 := blL_len s
  split at h
  · injection h with h; injection h with h3 h4; subst h4; rw [List.length_drop]; omega
  · cases h5 : lstP f ((blL s).length + 1) (blL s) with
    | error e => rw [h5] at h; cases h
    | ok p =>
      obtain ⟨ys, w⟩ := p
      have l3 := lstP_len hf _ _ _ _ h5
      rw [h5] at h
      injection h with h; injection h with h3 h4; subst h4; omega
theorem mbrW_len {f : List UInt8 → Except Nat (J × List UInt8)} (hf : LenOk f) : LenOk (mbrW f) := by
  intro s x r h
  unfold mbrW at h
  have l0 := blL_len s
  split at h
  · injection h with h; injection h with h3 h4; subst h4; rw [List.length_drop]; omega
  · cases h5 : mbrP f ((blL s).length + 1) [] (blL s) with
    | error e => rw [h5] at h; cases h
    | ok p =>
      obtain ⟨⟨ns, ys⟩, w⟩ := p
      have l3 := mbrP_len hf _ _ _ _ _ h5
      rw [h5] at h
      injection h with h; injection h with h3 h4; subst h4; omega
theorem valT_len : ∀ d, LenOk (valT d)
  | 0 => fun s x r h => valW_len (l := fun _ => .error 10) (o := fun _ => .error 10) (fun _ _ _ h => by cases h) (fun _ _ _ h => by cases h) s x r (by rw [valT] at h; exact h)
  | d + 1 => fun s x r h => valW_len (lstW_len (valT_len d)) (mbrW_len (valT_len d)) s x r (by rw [valT] at h; exact h)
end Go.Proofs.YtfmadoeadmclbaaDoor
