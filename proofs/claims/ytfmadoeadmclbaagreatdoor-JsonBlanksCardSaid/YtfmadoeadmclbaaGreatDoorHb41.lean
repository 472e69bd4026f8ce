/-
  What is read stays so with more behind it; cut short, no list or object is a text.
-/
import Derived.Test.YtfmadoeadmclbaaGreatDoorHb40
import Derived.Test.YtfmadoeadmclbaaGreatDoorHb27
namespace Go.Proofs.YtfmadoeadmclbaaGreatDoor
open Go.RowKit

theorem blL_ext {s : List UInt8} {c : UInt8} {u : List UInt8} (h : blL s = c :: u) (t : List UInt8) : blL (s ++ t) = c :: (u ++ t) := by
  induction s with
  | nil => cases h
  | cons d s ih =>
    rw [blL] at h
    rw [List.cons_append, blL]
    split at h
    · rename_i hb
      rw [if_pos hb]; exact ih h
    · rename_i hb
      rw [if_neg hb]
      obtain ⟨rfl, rfl⟩ := List.cons.inj h
      rfl
theorem hexF_ext : ∀ (k n : Nat) (s : List UInt8) (a : Nat) (r t : List UInt8), hexF k n s = some (a, r) → hexF k n (s ++ t) = some (a, r ++ t)
  | 0, n, s, a, r, t, h => by
    rw [hexF] at h ⊢
    obtain ⟨rfl, rfl⟩ := Prod.mk.inj (Option.some.inj h)
    rfl
  | k + 1, n, [], a, r, t, h => by rw [hexF] at h; cases h
  | k + 1, n, c :: s, a, r, t, h => by
    rw [hexF] at h
    rw [List.cons_append, hexF]
    split at h
    · cases h
    · exact hexF_ext k _ s a r t h
theorem escJ_ext {s : List UInt8} {k : Nat} {r : List UInt8} (t : List UInt8) (h : escJ s = some (k, r)) : escJ (s ++ t) = some (k, r ++ t) := by
  cases s with
  | nil => rw [escJ] at h; cases h
  | cons c s =>
    rw [escJ] at h
    rw [List.cons_append, escJ]
    split at h
    · obtain ⟨rfl, rfl⟩ := Prod.mk.inj (Option.some.inj h)
      rfl
    · split at h
      · rename_i h117
        rw [if_pos h117]
        cases hu : hexL s with
        | none => rw [hu] at h; cases h
        | some p =>
          obtain ⟨a, u⟩ := p
          rw [hu] at h
          dsimp only at h
          have := hexF_ext 4 0 s a u t hu
          unfold hexL
          rw [this]
          dsimp only
          split at h
          · rename_i h1
            obtain ⟨rfl, rfl⟩ := Prod.mk.inj (Option.some.inj h)
            rw [if_pos h1]
          · rename_i h1
            rw [if_neg h1]
            split at h
            · cases h
            · rename_i h2
              rw [if_neg h2]
              match u, h with
              | [], h => rw [pairL] at h <;> first | cases h | (intros; simp_all)
              | [x], h => rw [pairL] at h <;> first | cases h | (intros; simp_all)
              | x :: y :: v, h =>
                rw [pairL] at h
                rw [List.cons_append, List.cons_append, pairL]
                split at h
                · rename_i h3
                  rw [if_pos h3]
                  cases hw : hexL v with
                  | none => rw [hw] at h; cases h
                  | some p =>
                    obtain ⟨b, w⟩ := p
                    rw [hw] at h
                    dsimp only at h
                    have := hexF_ext 4 0 v b w t hw
                    unfold hexL
                    rw [this]
                    dsimp only
                    split at h
                    · rename_i h4
                      obtain ⟨rfl, rfl⟩ := Prod.mk.inj (Option.some.inj h)
                      rw [if_pos h4]
                    · cases h
                · cases h
      · cases h
theorem textL_ext : ∀ (n : Nat) (s x r t : List UInt8), s.length ≤ n → textL s = some (x, r) → textL (s ++ t) = some (x, r ++ t)
  | _, [], _, _, _, _, h => by rw [textL_eq] at h; cases h
  | 0, c :: s, _, _, _, hl, _ => by simp at hl
  | n + 1, c :: s, x, r, t, hl, h => by
    rw [List.length_cons] at hl
    rw [textL_eq] at h
    rw [List.cons_append, textL_eq]
    dsimp only at h ⊢
    split at h
    · rename_i h1
      obtain ⟨rfl, rfl⟩ := Prod.mk.inj (Option.some.inj h)
      rw [if_pos h1]
    · rename_i h1
      rw [if_neg h1]
      split at h
      · cases h
      · rename_i h2
        rw [if_neg h2]
        split at h
        · rename_i h3
          rw [if_pos h3]
          cases hu : escJ s with
          | none => rw [hu] at h; cases h
          | some p =>
            obtain ⟨k, u⟩ := p
            rw [hu] at h
            dsimp only at h
            obtain ⟨⟨x', r'⟩, h4, h5⟩ := Option.map_eq_some_iff.1 h
            obtain ⟨rfl, rfl⟩ := Prod.mk.inj h5
            have := escJ_len hu
            rw [escJ_ext t hu]
            dsimp only
            rw [textL_ext n u x' r' t (by omega) h4]
            rfl
        · rename_i h3
          rw [if_neg h3]
          split at h
          · cases h
          · rename_i h0
            obtain ⟨⟨x', r'⟩, h4, h5⟩ := Option.map_eq_some_iff.1 h
            obtain ⟨rfl, rfl⟩ := Prod.mk.inj h5
            have hle := signL_le (c :: s)
            have hs := signL_more (c :: s) t h0
            rw [List.cons_append] at hs
            rw [hs, if_neg h0]
            have hd : (c :: (s ++ t)).drop (signL (c :: s)) = (c :: s).drop (signL (c :: s)) ++ t := by
              rw [← List.cons_append]; exact List.drop_append_of_le_length hle.2
            have htk : (c :: (s ++ t)).take (signL (c :: s)) = (c :: s).take (signL (c :: s)) := by
              rw [← List.cons_append]; exact List.take_append_of_le_length hle.2
            rw [hd, htk, textL_ext n _ x' r' t (by rw [List.length_drop, List.length_cons]; omega) h4]
            rfl
def goodR (r : List UInt8) : Prop := ∃ c u, r = c :: u ∧ isFig c = false ∧ c ≠ 46 ∧ c ≠ 101 ∧ c ≠ 69
theorem goodR_of {u : List UInt8} {c : UInt8} {t : List UInt8} (h : blL u = c :: t) (hc : isFig c = false ∧ c ≠ 46 ∧ c ≠ 101 ∧ c ≠ 69) : goodR u := by
  cases u with
  | nil => cases h
  | cons d u =>
    rw [blL] at h
    split at h
    · rename_i hb
      have hh : ∀ i : Fin 256, isBl (UInt8.ofNat i.val) = true → isFig (UInt8.ofNat i.val) = false ∧ UInt8.ofNat i.val ≠ 46 ∧ UInt8.ofNat i.val ≠ 101 ∧ UInt8.ofNat i.val ≠ 69 := by decide +kernel
      have h2 := hh ⟨d.toNat, d.toNat_lt⟩
      simp only [UInt8.ofNat_toNat] at h2
      exact ⟨d, u, rfl, h2 hb⟩
    · obtain ⟨rfl, rfl⟩ := List.cons.inj h
      exact ⟨d, u, rfl, hc⟩
def ExtF (f : List UInt8 → Except Nat (J × List UInt8)) : Prop := ∀ s x r t, f s = .ok (x, r) → goodR r → f (s ++ t) = .ok (x, r ++ t)
def ExtA (f : List UInt8 → Except Nat (J × List UInt8)) : Prop := ∀ s x r t, f s = .ok (x, r) → f (s ++ t) = .ok (x, r ++ t)
theorem lstP_ext {f : List UInt8 → Except Nat (J × List UInt8)} (hf : ExtF f) : ∀ (n m : Nat) (s : List UInt8) (xs : List J) (r t : List UInt8), n ≤ m → lstP f n s = .ok (xs, r) → lstP f m (s ++ t) = .ok (xs, r ++ t)
  | 0, _, s, xs, r, t, _, h => by rw [lstP] at h; cases h
  | n + 1, 0, s, xs, r, t, hm, _ => by omega
  | n + 1, m + 1, s, xs, r, t, hm, h => by
    rw [lstP] at h ⊢
    cases h1 : f s with
    | error e => rw [h1] at h; cases h
    | ok p =>
      obtain ⟨x, u⟩ := p
      rw [h1] at h
      dsimp only at h
      cases h2 : blL u with
      | nil => rw [h2] at h; cases h
      | cons c v =>
        rw [h2] at h
        dsimp only at h
        split at h
        · rename_i hc
          injection h with h; injection h with h3 h4; subst h3; subst h4
          rw [hf s x u t h1 (goodR_of h2 (by subst hc; decide))]
          dsimp only
          rw [blL_ext h2]
          dsimp only
          rw [if_pos hc]
        · rename_i hc
          split at h
          · rename_i hc2
            cases h5 : lstP f n v with
            | error e => rw [h5] at h; cases h
            | ok p =>
              obtain ⟨ys, w⟩ := p
              rw [h5] at h
              injection h with h; injection h with h3 h4; subst h3; subst h4
              rw [hf s x u t h1 (goodR_of h2 (by subst hc2; decide))]
              dsimp only
              rw [blL_ext h2]
              dsimp only
              rw [if_neg hc, if_pos hc2, lstP_ext hf n m v ys w t (by omega) h5]
          · cases h
theorem mbrP_ext {f : List UInt8 → Except Nat (J × List UInt8)} (hf : ExtF f) : ∀ (n m : Nat) (seen : List (List UInt8)) (s : List UInt8) (p : List (List UInt8) × List J) (r t : List UInt8), n ≤ m → mbrP f n seen s = .ok (p, r) → mbrP f m seen (s ++ t) = .ok (p, r ++ t)
  | 0, _, _, s, xs, r, t, _, h => by rw [mbrP] at h; cases h
  | n + 1, 0, _, s, xs, r, t, hm, _ => by omega
  | n + 1, m + 1, seen, s, p, r, t, hm, h => by
    rw [mbrP] at h ⊢
    cases h0 : blL s with
    | nil => rw [h0] at h; cases h
    | cons q s1 =>
      rw [h0] at h
      rw [blL_ext h0]
      dsimp only at h ⊢
      split at h
      · rename_i hq
        rw [if_pos hq]
        cases ht : textL s1 with
        | none => rw [ht] at h; cases h
        | some p2 =>
          obtain ⟨nm, s2⟩ := p2
          rw [ht] at h
          rw [textL_ext _ s1 nm s2 t (Nat.le_refl _) ht]
          dsimp only at h ⊢
          split at h
          · cases h
          · rename_i hs
            rw [if_neg hs]
            cases hb : blL s2 with
            | nil => rw [hb] at h; cases h
            | cons k s3 =>
              rw [hb] at h
              rw [blL_ext hb]
              dsimp only at h ⊢
              split at h
              · rename_i hk
                rw [if_pos hk]
                cases h1 : f s3 with
                | error e => rw [h1] at h; cases h
                | ok p3 =>
                  obtain ⟨x, u⟩ := p3
                  rw [h1] at h
                  dsimp only at h
                  cases h2 : blL u with
                  | nil => rw [h2] at h; cases h
                  | cons c v =>
                    rw [h2] at h
                    dsimp only at h
                    split at h
                    · rename_i hc
                      injection h with h; injection h with h3 h4; subst h3; subst h4
                      rw [hf s3 x u t h1 (goodR_of h2 (by subst hc; decide))]
                      dsimp only
                      rw [blL_ext h2]
                      dsimp only
                      rw [if_pos hc]
                    · rename_i hc
                      split at h
                      · rename_i hc2
                        cases h5 : mbrP f n (seen ++ [nm]) v with
                        | error e => rw [h5] at h; cases h
                        | ok p4 =>
                          obtain ⟨⟨ns, ys⟩, w⟩ := p4
                          rw [h5] at h
                          injection h with h; injection h with h3 h4; subst h3; subst h4
                          rw [hf s3 x u t h1 (goodR_of h2 (by subst hc2; decide))]
                          dsimp only
                          rw [blL_ext h2]
                          dsimp only
                          rw [if_neg hc, if_pos hc2, mbrP_ext hf n m (seen ++ [nm]) v (ns, ys) w t (by omega) h5]
                      · cases h
              · cases h
      · cases h
theorem lstW_ext {f : List UInt8 → Except Nat (J × List UInt8)} (hf : ExtF f) (h0 : ∀ p, f [] ≠ .ok p) : ExtA (lstW f) := by
  intro s x r t h
  unfold lstW at h ⊢
  cases hb : blL s with
  | nil =>
    rw [hb] at h
    rw [if_neg (by simp)] at h
    cases h5 : lstP f (([] : List UInt8).length + 1) [] with
    | error e => rw [h5] at h; cases h
    | ok p =>
      obtain ⟨xs, u⟩ := p
      rw [lstP] at h5
      cases h1 : f [] with
      | error e => rw [h1] at h5; cases h5
      | ok p => exact absurd h1 (h0 p)
  | cons c u =>
    rw [hb] at h
    rw [blL_ext hb]
    split at h
    · rename_i hh
      injection h with h; injection h with h3 h4; subst h3; subst h4
      rw [if_pos (by simpa using hh)]
      rfl
    · rename_i hh
      rw [if_neg (by simpa using hh)]
      cases h5 : lstP f ((c :: u).length + 1) (c :: u) with
      | error e => rw [h5] at h; cases h
      | ok p =>
        obtain ⟨xs, w⟩ := p
        rw [h5] at h
        injection h with h; injection h with h3 h4; subst h3; subst h4
        have := lstP_ext hf _ ((c :: (u ++ t)).length + 1) _ _ _ t (by simp) h5
        rw [List.cons_append] at this
        rw [this]
theorem mbrW_ext {f : List UInt8 → Except Nat (J × List UInt8)} (hf : ExtF f) : ExtA (mbrW f) := by
  intro s x r t h
  unfold mbrW at h ⊢
  cases hb : blL s with
  | nil =>
    rw [hb] at h
    rw [if_neg (by simp), mbrP] at h
    cases h
  | cons c u =>
    rw [hb] at h
    rw [blL_ext hb]
    split at h
    · rename_i hh
      injection h with h; injection h with h3 h4; subst h3; subst h4
      rw [if_pos (by simpa using hh)]
      rfl
    · rename_i hh
      rw [if_neg (by simpa using hh)]
      cases h5 : mbrP f ((c :: u).length + 1) [] (c :: u) with
      | error e => rw [h5] at h; cases h
      | ok p =>
        obtain ⟨⟨ns, xs⟩, w⟩ := p
        rw [h5] at h
        injection h with h; injection h with h3 h4; subst h3; subst h4
        have := mbrP_ext hf _ ((c :: (u ++ t)).length + 1) _ _ _ _ t (by simp) h5
        rw [List.cons_append] at this
        rw [this]
theorem wordW_ext {w : List UInt8} {j : J} {s : List UInt8} {x : J} {r : List UInt8} (t : List UInt8) (h : wordW w j s = .ok (x, r)) : wordW w j (s ++ t) = .ok (x, r ++ t) := by
  unfold wordW at h ⊢
  split at h
  · rename_i hh
    injection h with h; injection h with h3 h4; subst h3; subst h4
    have hl : w.length ≤ s.length := by
      have := congrArg List.length hh
      rw [List.length_take] at this; omega
    rw [List.take_append_of_le_length hl, if_pos hh, List.drop_append_of_le_length hl]
  · cases h
theorem numW_ext {s : List UInt8} {x : J} {r : List UInt8} (t : List UInt8) (h : numW s = .ok (x, r)) (hr : goodR r) : numW (s ++ t) = .ok (x, r ++ t) := by
  unfold numW at h
  split at h
  · cases h
  · rename_i h0
    split at h
    · rename_i hp
      injection h with h; injection h with h3 h4; subst h3; subst h4
      have hsl := scan_le s
      obtain ⟨u, hu⟩ : ∃ u, u = s.take (scanL s) := ⟨_, rfl⟩
      have hul : u.length = scanL s := by rw [hu, List.length_take]; omega
      have hsu : scanL u = u.length := by
        rw [← hu] at hp
        unfold parseL at hp
        split at hp
        · cases hp
        · split at hp
          · cases hp
          · rename_i p hc
            split at hp
            · rename_i hz
              rw [scanL, hc]; exact hz
            · cases hp
      have hse : numEnd (s.drop (scanL s) ++ t) := by
        obtain ⟨c, v, hcv, hc⟩ := hr
        rw [hcv]
        intro d hd
        obtain rfl : c = d := by simpa using hd
        exact hc
      have hst : s ++ t = u ++ (s.drop (scanL s) ++ t) := by rw [← List.append_assoc, hu, List.take_append_drop]
      have hun : u ≠ [] := fun e => by rw [e] at hul; exact h0 hul.symm
      have h3 := scan_more hsu hun hse
      rw [hul] at h3
      unfold numW
      rw [hst, h3, if_neg h0, List.take_left' hul, ← hu] 
      rw [← hu] at hp
      rw [if_pos hp, List.drop_left' hul]
    · cases h
theorem valW_ext {l o : List UInt8 → Except Nat (J × List UInt8)} (hl : ExtA l) (ho : ExtA o) : ExtF (valW l o) := by
  intro s x r t h hr
  unfold valW at h ⊢
  cases h0 : blL s with
  | nil => rw [h0] at h; cases h
  | cons c u =>
    rw [h0] at h
    rw [blL_ext h0]
    dsimp only at h ⊢
    split at h
    · rename_i h1; rw [if_pos h1]; exact wordW_ext t h
    rename_i h1; rw [if_neg h1]
    split at h
    · rename_i h1; rw [if_pos h1]; exact wordW_ext t h
    rename_i h1; rw [if_neg h1]
    split at h
    · rename_i h1; rw [if_pos h1]; exact wordW_ext t h
    rename_i h1; rw [if_neg h1]
    split at h
    · rename_i h1
      rw [if_pos h1]
      cases ht : textL u with
      | none => rw [ht] at h; cases h
      | some p =>
        obtain ⟨y, v⟩ := p
        rw [ht] at h
        injection h with h; injection h with h3 h4; subst h3; subst h4
        rw [textL_ext _ u y v t (Nat.le_refl _) ht]
    rename_i h1; rw [if_neg h1]
    split at h
    · rename_i h1; rw [if_pos h1]; exact hl _ _ _ t h
    rename_i h1; rw [if_neg h1]
    split at h
    · rename_i h1; rw [if_pos h1]; exact ho _ _ _ t h
    rename_i h1; rw [if_neg h1]
    exact numW_ext t h hr
theorem valT_nil (d : Nat) (p : J × List UInt8) : valT d [] ≠ .ok p := by
  cases d <;> (rw [valT]; intro h; cases h)
theorem valT_ext : ∀ (d : Nat), ExtF (valT d)
  | 0 => fun s x r t h hr => by
    rw [valT] at h ⊢
    exact valW_ext (fun _ _ _ _ h => by cases h) (fun _ _ _ _ h => by cases h) s x r t h hr
  | d + 1 => fun s x r t h hr => by
    rw [valT] at h ⊢
    exact valW_ext (lstW_ext (valT_ext d) (valT_nil d)) (mbrW_ext (valT_ext d)) s x r t h hr
theorem join_end2 (xs : List J) : prJ (.list xs) = 91 :: ((prJs 91 xs).drop 1 ++ [93]) := by
  rw [prJ]
  unfold endL
  cases xs with
  | nil => rw [prJs]; rfl
  | cons x r => rw [prJs, List.isEmpty_cons, if_neg (by decide)]; simp
theorem joinm_end2 (ns : List (List UInt8)) (xs : List J) : prJ (.obj ns xs) = 123 :: ((prMs 123 ns xs).drop 1 ++ [125]) := by
  rw [prJ]
  unfold endL
  cases xs with
  | nil => rw [prMs]; rfl
  | cons x r => rw [prMs, List.isEmpty_cons, if_neg (by decide)]; simp
theorem cut_err {x : J} (hk : okJ x) (hd : depJ x ≤ 32) (hx : 0 < depJ x) {k : Nat} (hkl : k < (prJ x).length) : ∃ e, jparse ((prJ x).take k) = .error e := by
  cases hj : jparse ((prJ x).take k) with
  | error e => exact ⟨e, rfl⟩
  | ok y =>
    exfalso
    have hb := val_back (pre := []) (post := []) (fun _ h => by cases h) (fun _ h => by cases h) (jsz x) x (Nat.le_refl _) 32 [] hk hd (fun c h => by cases h)
    rw [prW_nil, List.append_nil, List.append_nil] at hb
    have htl : tlW [] x = [] := by unfold tlW; split <;> rfl
    rw [htl] at hb
    unfold jparse at hj
    split at hj
    · cases hj
    · cases h1 : valT 32 ((prJ x).take k) with
      | error e => rw [h1] at hj; cases hj
      | ok p =>
        obtain ⟨z, r⟩ := p
        rw [valT] at h1 hb
        unfold valW at h1 hb
        have hsplit : (prJ x).take k ++ (prJ x).drop k = prJ x := List.take_append_drop ..
        have hne : (prJ x).drop k ≠ [] := fun e => by
          have := congrArg List.length e
          rw [List.length_drop, List.length_nil] at this; omega
        have hhead : ∃ u, prJ x = 91 :: u ∨ prJ x = 123 :: u := by
          cases x with
          | list xs =>
            rw [join_end2]
            exact ⟨_, .inl rfl⟩
          | obj ns xs =>
            rw [joinm_end2]
            exact ⟨_, .inr rfl⟩
          | _ => rw [depJ] at hx; omega
        obtain ⟨u, hu⟩ := hhead
        cases k with
        | zero => rw [List.take_zero] at h1; cases h1
        | succ k =>
          rcases hu with hu | hu
          · rw [hu] at h1 hb hsplit hne
            rw [List.take_succ_cons, blL_of rfl] at h1
            rw [blL_of rfl] at hb
            rw [List.drop_succ_cons] at hne
            dsimp only at h1 hb
            rw [if_neg (by decide), if_neg (by decide), if_neg (by decide), if_neg (by decide), if_pos rfl] at h1 hb
            have h2 := lstW_ext (valT_ext 31) (valT_nil 31) _ _ _ (u.drop k) h1
            rw [List.take_append_drop, hb] at h2
            injection h2 with h2; injection h2 with h3 h4
            have := List.append_eq_nil_iff.1 h4.symm
            exact hne this.2
          · rw [hu] at h1 hb hsplit hne
            rw [List.take_succ_cons, blL_of rfl] at h1
            rw [blL_of rfl] at hb
            rw [List.drop_succ_cons] at hne
            dsimp only at h1 hb
            rw [if_neg (by decide), if_neg (by decide), if_neg (by decide), if_neg (by decide), if_neg (by decide), if_pos rfl] at h1 hb
            have h2 := mbrW_ext (valT_ext 31) _ _ _ (u.drop k) h1
            rw [List.take_append_drop, hb] at h2
            injection h2 with h2; injection h2 with h3 h4
            have := List.append_eq_nil_iff.1 h4.symm
            exact hne this.2
end Go.Proofs.YtfmadoeadmclbaaGreatDoor
