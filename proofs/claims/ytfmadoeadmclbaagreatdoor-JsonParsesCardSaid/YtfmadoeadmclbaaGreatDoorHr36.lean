/-
  What paths do to values: the plain law. What paths do to the document's values; how great values are; depth. What a text is read as may be, but for what it is within.
-/
import Derived.Test.YtfmadoeadmclbaaGreatDoorHr17
import Derived.Test.YtfmadoeadmclbaaGreatDoorHr14
import Derived.Test.YtfmadoeadmclbaaGreatDoorHr11
import Derived.Test.YtfmadoeadmclbaaGreatDoorHr19
import Derived.Test.YtfmadoeadmclbaaGreatDoorHr24
namespace Go.Proofs.YtfmadoeadmclbaaGreatDoor
open Go.RowKit

mutual
def depJ : J → Nat
  | .list xs => depJs xs + 1
  | .obj _ xs => depJs xs + 1
  | .null => 0
  | .bool _ => 0
  | .num _ => 0
  | .text _ => 0
  | .other _ => 0
def depJs : List J → Nat
  | [] => 0
  | x :: r => max (depJ x) (depJs r)
end
mutual
def okJ : J → Prop
  | .null => True
  | .bool _ => True
  | .num n => heldB n = true
  | .text s => utfL s = true
  | .list xs => okJs xs
  | .obj ns xs => ns.length = xs.length ∧ ns.Nodup ∧ (∀ n ∈ ns, utfL n = true) ∧ okJs xs
  | .other _ => False
def okJs : List J → Prop
  | [] => True
  | x :: r => okJ x ∧ okJs r
end
end Go.Proofs.YtfmadoeadmclbaaGreatDoor
namespace Go.Proofs.YtfmadoeadmclbaaGreatDoor
open Go.RowKit Go.TL

/-! ### How great -/
/-! ### What may be, but for depth -/
theorem okJs_get : ∀ {l : List J} {i : Nat} {x : J}, okJs l → l[i]? = some x → okJ x
  | [], _, _, _, h => by simp at h
  | y :: r, 0, x, hs, h => by
    rw [okJs] at hs
    obtain rfl : y = x := by simpa using h
    exact hs.1
  | y :: r, i + 1, x, hs, h => by
    rw [okJs] at hs
    exact okJs_get (l := r) (i := i) hs.2 (by simpa using h)
theorem nodup_snoc {α : Type} {l : List α} {a : α} (h : l.Nodup) (ha : a ∉ l) : (l ++ [a]).Nodup :=
  List.nodup_append.2 ⟨h, by simp, fun x hx y hy e => ha (by obtain rfl : y = a := by simpa using hy
                                                             exact e ▸ hx)⟩
mutual
def lenJ : J → Prop
  | .null => True
  | .bool _ => True
  | .num _ => True
  | .text _ => True
  | .list xs => lenJs xs
  | .obj ns xs => ns.length = xs.length ∧ lenJs xs
  | .other _ => True
def lenJs : List J → Prop
  | [] => True
  | x :: r => lenJ x ∧ lenJs r
end
mutual
theorem len_of_ok : ∀ (x : J), okJ x → lenJ x
  | .null, _ => by rw [lenJ]; trivial
  | .bool _, _ => by rw [lenJ]; trivial
  | .num _, _ => by rw [lenJ]; trivial
  | .text _, _ => by rw [lenJ]; trivial
  | .other _, _ => by rw [lenJ]; trivial
  | .list xs, h => by rw [okJ] at h; rw [lenJ]; exact lens_of_ok xs h
  | .obj ns xs, h => by rw [okJ] at h; rw [lenJ]; exact ⟨h.1, lens_of_ok xs h.2.2.2⟩
theorem lens_of_ok : ∀ (l : List J), okJs l → lenJs l
  | [], _ => by rw [lenJs]; trivial
  | x :: r, h => by rw [okJs] at h; rw [lenJs]; exact ⟨len_of_ok x h.1, lens_of_ok r h.2⟩
end
mutual
theorem IsJ.len {g : Gh} : ∀ (x : J) (v : Value), IsJ g x v → lenJ x
  | .null, _, _ => by rw [lenJ]; trivial
  | .bool _, _, _ => by rw [lenJ]; trivial
  | .num _, _, _ => by rw [lenJ]; trivial
  | .text _, _, _ => by rw [lenJ]; trivial
  | .other _, _, _ => by rw [lenJ]; trivial
  | .list xs, _, h => by
    rw [IsJ] at h
    obtain ⟨_, fl, _, _, h⟩ := h
    rw [lenJ]; exact IsJs.lens xs fl h
  | .obj ns xs, _, h => by
    rw [IsJ] at h
    obtain ⟨_, fl, _, _, h⟩ := h
    rw [lenJ]; exact ⟨h.len, IsMs.lens ns xs fl h⟩
theorem IsJs.lens {g : Gh} : ∀ (l : List J) (fl : List Value), IsJs g l fl → lenJs l
  | [], _, _ => by rw [lenJs]; trivial
  | x :: r, fl, h => by
    rw [IsJs] at h
    obtain ⟨v, f, _, h1, h2⟩ := h
    rw [lenJs]; exact ⟨IsJ.len x v h1, IsJs.lens r f h2⟩
theorem IsMs.lens {g : Gh} : ∀ (ns : List (List UInt8)) (l : List J) (fl : List Value), IsMs g ns l fl → lenJs l
  | _, [], _, _ => by rw [lenJs]; trivial
  | [], _ :: _, _, h => by rw [IsMs] at h; exact h.elim
  | n :: ns, x :: r, fl, h => by
    rw [IsMs] at h
    obtain ⟨v, f, _, h1, h2⟩ := h
    rw [lenJs]; exact ⟨IsJ.len x v h1, IsMs.lens ns r f h2⟩
end
mutual
theorem ok_of_look : ∀ (x : J) (w : Nat), lookJ x w = 0 → lenJ x → okJ x ∧ (depJ x = 0 ∨ depJ x + w ≤ 32)
  | .null, _, _, _ => by rw [okJ, depJ]; simp
  | .bool _, _, _, _ => by rw [okJ, depJ]; simp
  | .num n, _, h, _ => by rw [lookJ] at h; rw [okJ, depJ]; split at h <;> simp_all
  | .text s, _, h, _ => by rw [lookJ] at h; rw [okJ, depJ]; split at h <;> simp_all
  | .other _, _, h, _ => by rw [lookJ] at h; cases h
  | .list xs, w, h, hl => by
    rw [lookJ] at h
    rw [lenJ] at hl
    split at h
    · cases h
    · obtain ⟨h1, h2⟩ := oks_of_look xs w h hl
      rw [okJ, depJ]
      exact ⟨h1, .inr (by rcases h2 with h2 | h2 <;> omega)⟩
  | .obj ns xs, w, h, hl => by
    rw [lookJ] at h
    rw [lenJ] at hl
    split at h
    · cases h
    · obtain ⟨h1, h2, h3, h4⟩ := oko_of_look [] ns xs w h hl.2 hl.1
      rw [okJ, depJ]
      exact ⟨⟨hl.1, h3 (List.nodup_nil), fun n hn => h4 n hn, h1⟩, .inr (by rcases h2 with h2 | h2 <;> omega)⟩
theorem oks_of_look : ∀ (l : List J) (w : Nat), looks l w = 0 → lenJs l → okJs l ∧ (depJs l = 0 ∨ depJs l + (w + 1) ≤ 32)
  | [], _, _, _ => by rw [okJs, depJs]; simp
  | x :: r, w, h, hl => by
    rw [looks] at h
    rw [lenJs] at hl
    split at h
    · rename_i h1
      obtain ⟨a1, a2⟩ := ok_of_look x (w + 1) h1 hl.1
      obtain ⟨b1, b2⟩ := oks_of_look r w h hl.2
      rw [okJs, depJs]
      exact ⟨⟨a1, b1⟩, by omega⟩
    · exact absurd h (by assumption)
theorem oko_of_look : ∀ (seen ns : List (List UInt8)) (l : List J) (w : Nat), looko seen ns l w = 0 → lenJs l → ns.length = l.length → okJs l ∧ (depJs l = 0 ∨ depJs l + (w + 1) ≤ 32) ∧ (seen.Nodup → (seen ++ ns).Nodup) ∧ ∀ n ∈ ns, utfL n = true
  | seen, ns, [], _, _, _, hn => by
    obtain rfl : ns = [] := List.eq_nil_of_length_eq_zero hn
    rw [okJs, depJs]; simp
  | seen, [], _ :: _, _, _, _, hn => by simp at hn
  | seen, n :: ns, x :: r, w, h, hl, hn => by
    rw [looko] at h
    rw [lenJs] at hl
    rw [List.headD_cons, List.tail_cons] at h
    split at h
    · cases h
    rename_i hu
    split at h
    · cases h
    rename_i hs
    split at h
    · rename_i h1
      obtain ⟨a1, a2⟩ := ok_of_look x (w + 1) h1 hl.1
      obtain ⟨b1, b2, b3, b4⟩ := oko_of_look (seen ++ [n]) ns r w h hl.2 (by simpa using hn)
      rw [okJs, depJs]
      refine ⟨⟨a1, b1⟩, by omega, fun hd => ?_, fun m hm => ?_⟩
      · have := b3 (nodup_snoc hd hs)
        rw [List.append_assoc] at this; exact this
      · rcases List.mem_cons.1 hm with rfl | hm
        · simpa using hu
        · exact b4 m hm
    · exact absurd h (by assumption)
end
end Go.Proofs.YtfmadoeadmclbaaGreatDoor
namespace Go.Proofs.YtfmadoeadmclbaaGreatDoor
open Go.RowKit

theorem signL_signB {c : Nat} (h : goodC c) : signL (signB c) = (signB c).length := by
  obtain ⟨h1, h2⟩ := h
  have tn : ∀ n : Nat, n < 256 → (UInt8.ofNat n).toNat = n := fun n hn => by simp; omega
  unfold signB
  by_cases c1 : c < 128
  · rw [if_pos c1]
    unfold signL
    dsimp only
    rw [tn c (by omega), if_pos c1]; rfl
  by_cases c2 : c < 2048
  · rw [if_neg c1, if_pos c2]
    unfold signL hdrL
    dsimp only
    rw [tn (192 + c / 64) (by omega), if_neg (by omega), if_pos (by omega)]
    dsimp only
    rw [if_neg (by simp)]
    simp only [List.take_succ_cons, List.take_zero, contL]
    rw [tn (128 + c % 64) (by omega), if_pos (by omega)]
    dsimp only
    unfold okL
    rw [if_neg (by omega)]; rfl
  by_cases c3 : c < 65536
  · rw [if_neg c1, if_neg c2, if_pos c3]
    unfold signL hdrL
    dsimp only
    rw [tn (224 + c / 4096) (by omega), if_neg (by omega), if_neg (by omega), if_pos (by omega)]
    dsimp only
    rw [if_neg (by simp)]
    simp only [List.take_succ_cons, List.take_zero, contL]
    rw [tn (128 + c / 64 % 64) (by omega), tn (128 + c % 64) (by omega), if_pos (by omega), if_pos (by omega)]
    dsimp only
    unfold okL
    rw [if_neg (by omega)]; rfl
  · rw [if_neg c1, if_neg c2, if_neg c3]
    unfold signL hdrL
    dsimp only
    rw [tn (240 + c / 262144) (by omega), if_neg (by omega), if_neg (by omega), if_neg (by omega), if_pos (by omega)]
    dsimp only
    rw [if_neg (by simp)]
    simp only [List.take_succ_cons, List.take_zero, contL]
    rw [tn (128 + c / 4096 % 64) (by omega), tn (128 + c / 64 % 64) (by omega), tn (128 + c % 64) (by omega), if_pos (by omega), if_pos (by omega), if_pos (by omega)]
    dsimp only
    unfold okL
    rw [if_neg (by omega)]; rfl
theorem utf_sign {c : Nat} (h : goodC c) (t : List UInt8) : utfL (signB c ++ t) = utfL t := by
  have hl := signL_signB h
  have h1 := signB_len c
  rw [utfL_eq, if_neg (by intro e; have := congrArg List.length e; rw [List.length_append, List.length_nil] at this; omega), signL_more _ t (by omega), hl, if_neg (by omega), List.drop_left' rfl]
theorem utf_take {x : UInt8} {r : List UInt8} (h : signL (x :: r) ≠ 0) (t : List UInt8) : utfL ((x :: r).take (signL (x :: r)) ++ t) = utfL t := by
  obtain ⟨c, k, h1, h2, h3, h4, h5, h6, _⟩ := decode_bytes x r h
  rw [← h2, h5]
  exact utf_sign h6 t
theorem esc_len4 {s : List UInt8} {k : Nat} {r : List UInt8} (h : escJ s = some (k, r)) : (signB k).length + r.length ≤ s.length := by
  have h4 := signB_len k
  cases s with
  | nil => rw [escJ] at h; cases h
  | cons c t =>
    rw [escJ] at h
    rw [List.length_cons]
    split at h
    · rename_i q hq
      obtain ⟨rfl, rfl⟩ := Prod.mk.inj (Option.some.inj h)
      have h1 : (signB q).length = 1 := by
        unfold shortL at hq
        repeat' split at hq
        all_goals first | (obtain rfl := Option.some.inj hq; decide) | cases hq
      omega
    · split at h
      · split at h
        · cases h
        · rename_i a u hu
          obtain ⟨g1, g2⟩ := hexF_drop _ _ _ _ _ hu
          have g3 : u.length + 4 ≤ t.length := by rw [g1, List.length_drop]; omega
          split at h
          · obtain ⟨rfl, rfl⟩ := Prod.mk.inj (Option.some.inj h)
            omega
          split at h
          · cases h
          · have h2 : pairL a (u.drop 0) = some (k, r) := h
            rw [pairL_at] at h2
            split at h2
            · split at h2
              · cases h2
              · rename_i b w hw
                obtain ⟨g4, g5⟩ := hexF_drop _ _ _ _ _ hw
                split at h2
                · obtain ⟨_, rfl⟩ := Prod.mk.inj (Option.some.inj h2)
                  rw [g4, List.length_drop, List.length_drop]
                  rw [List.length_drop] at g5
                  omega
                · cases h2
            · cases h2
      · cases h
theorem textF_ok : ∀ (f : Nat) (s x r : List UInt8), textF f s = some (x, r) → utfL x = true ∧ x.length + r.length + 1 ≤ s.length
  | 0, _, _, _, h => by rw [textF] at h; cases h
  | f + 1, [], _, _, h => by rw [textF] at h; cases h
  | f + 1, c :: t, x, r, h => by
    rw [textF] at h
    rw [List.length_cons]
    split at h
    · obtain ⟨rfl, rfl⟩ := Prod.mk.inj (Option.some.inj h)
      exact ⟨rfl, by simp⟩
    split at h
    · cases h
    split at h
    · split at h
      · cases h
      · rename_i k u hu
        obtain ⟨⟨x', r'⟩, h1, h2⟩ := Option.map_eq_some_iff.1 h
        obtain ⟨rfl, rfl⟩ := Prod.mk.inj h2
        obtain ⟨i1, i2⟩ := textF_ok f u _ _ h1
        refine ⟨by rw [utf_sign (esc_good hu)]; exact i1, ?_⟩
        have hl := esc_len4 hu
        rw [List.length_append]
        dsimp only at i2 ⊢
        omega
    split at h
    · cases h
    · rename_i h0
      obtain ⟨⟨x', r'⟩, h1, h2⟩ := Option.map_eq_some_iff.1 h
      obtain ⟨rfl, rfl⟩ := Prod.mk.inj h2
      obtain ⟨i1, i2⟩ := textF_ok f _ _ _ h1
      have hle := signL_le (c :: t)
      rw [List.length_drop] at i2
      refine ⟨by rw [utf_take h0]; exact i1, ?_⟩
      rw [List.length_append, List.length_take]
      rw [List.length_cons] at hle i2
      dsimp only at i2 ⊢
      rw [List.length_cons]
      omega
theorem textL_ok {s x r : List UInt8} (h : textL s = some (x, r)) : utfL x = true ∧ x.length + r.length + 1 ≤ s.length := textF_ok _ _ _ _ h
def OkF (d : Nat) (f : List UInt8 → Except Nat (J × List UInt8)) : Prop := ∀ s x r, f s = .ok (x, r) → okJ x ∧ depJ x ≤ d ∧ mJ x + 100 * r.length ≤ 100 * s.length
theorem lstP_ok {d : Nat} {f : List UInt8 → Except Nat (J × List UInt8)} (hf : OkF d f) : ∀ (n : Nat) (s : List UInt8) (xs : List J) (r : List UInt8), lstP f n s = .ok (xs, r) → okJs xs ∧ depJs xs ≤ d ∧ mJs xs + 100 * r.length + 99 ≤ 100 * s.length
  | 0, s, xs, r, h => by rw [lstP] at h; cases h
  | n + 1, s, xs, r, h => by
    rw [lstP] at h
    cases h1 : f s with
    | error e => rw [h1] at h; cases h
    | ok p =>
      obtain ⟨x, u⟩ := p
      obtain ⟨a1, a2, a3⟩ := hf _ _ _ h1
      have l2 := blL_len u
      rw [h1] at h
      dsimp only at h
      cases h2 : blL u with
      | nil => rw [h2] at h; cases h
      | cons c t =>
        rw [h2] at h l2
        dsimp only at h
        rw [List.length_cons] at l2
        split at h
        · injection h with h; injection h with h3 h4; subst h3; subst h4
          rw [okJs, okJs, depJs, depJs, mJs, mJs]
          exact ⟨⟨a1, trivial⟩, by omega, by omega⟩
        · split at h
          · cases h5 : lstP f n t with
            | error e => rw [h5] at h; cases h
            | ok p =>
              obtain ⟨ys, w⟩ := p
              obtain ⟨b1, b2, b3⟩ := lstP_ok hf n _ _ _ h5
              rw [h5] at h
              injection h with h; injection h with h3 h4; subst h3; subst h4
              rw [okJs, depJs, mJs]
              exact ⟨⟨a1, b1⟩, by omega, by omega⟩
          · cases h
theorem mbrP_ok {d : Nat} {f : List UInt8 → Except Nat (J × List UInt8)} (hf : OkF d f) : ∀ (n : Nat) (seen : List (List UInt8)) (s : List UInt8) (ns : List (List UInt8)) (xs : List J) (r : List UInt8), mbrP f n seen s = .ok ((ns, xs), r) →
    ns.length = xs.length ∧ ns.Nodup ∧ (∀ m ∈ ns, utfL m = true ∧ m ∉ seen) ∧ okJs xs ∧ depJs xs ≤ d ∧ mJm ns xs + 100 * r.length + 98 ≤ 100 * s.length
  | 0, _, s, ns, xs, r, h => by rw [mbrP] at h; cases h
  | n + 1, seen, s, ns, xs, r, h => by
    rw [mbrP] at h
    have l0 := blL_len s
    cases h0 : blL s with
    | nil => rw [h0] at h; cases h
    | cons q s1 =>
      rw [h0] at h l0
      dsimp only at h
      rw [List.length_cons] at l0
      split at h
      · cases ht : textL s1 with
        | none => rw [ht] at h; cases h
        | some p =>
          obtain ⟨nm, s2⟩ := p
          obtain ⟨t1, t2⟩ := textL_ok ht
          rw [ht] at h
          dsimp only at h
          split at h
          · cases h
          · rename_i hns
            have lb := blL_len s2
            cases hb : blL s2 with
            | nil => rw [hb] at h; cases h
            | cons k s3 =>
              rw [hb] at h lb
              dsimp only at h
              rw [List.length_cons] at lb
              split at h
              · cases h1 : f s3 with
                | error e => rw [h1] at h; cases h
                | ok p =>
                  obtain ⟨x, u⟩ := p
                  obtain ⟨a1, a2, a3⟩ := hf _ _ _ h1
                  have l2 := blL_len u
                  rw [h1] at h
                  dsimp only at h
                  cases h2 : blL u with
                  | nil => rw [h2] at h; cases h
                  | cons c t =>
                    rw [h2] at h l2
                    dsimp only at h
                    rw [List.length_cons] at l2
                    split at h
                    · injection h with h; injection h with h3 h4; injection h3 with h3 h5; subst h3; subst h4; subst h5
                      rw [okJs, okJs, depJs, depJs, mJm, mJm, List.headD_cons]
                      refine ⟨rfl, by simp, fun m hm => ?_, ⟨a1, trivial⟩, by omega, by omega⟩
                      rw [List.mem_singleton.1 hm]
                      exact ⟨t1, hns⟩
                    · split at h
                      · cases h5 : mbrP f n (seen ++ [nm]) t with
                        | error e => rw [h5] at h; cases h
                        | ok p =>
                          obtain ⟨⟨ns', ys⟩, w⟩ := p
                          obtain ⟨b0, b1, b2, b3, b4, b5⟩ := mbrP_ok hf n _ _ _ _ _ h5
                          rw [h5] at h
                          injection h with h; injection h with h3 h4; injection h3 with h3 h6; subst h3; subst h4; subst h6
                          rw [okJs, depJs, mJm, List.headD_cons, List.tail_cons, List.length_cons, List.length_cons]
                          refine ⟨by omega, List.nodup_cons.2 ⟨fun hm => (b2 nm hm).2 (by simp), b1⟩, fun m hm => ?_, ⟨a1, b3⟩, by omega, by omega⟩
                          rcases List.mem_cons.1 hm with rfl | hm
                          · exact ⟨t1, hns⟩
                          · exact ⟨(b2 m hm).1, fun h => (b2 m hm).2 (List.mem_append_left _ h)⟩
                      · cases h
              · cases h
      · cases h
theorem wordW_ok {w : List UInt8} {j : J} {s : List UInt8} {x : J} {r : List UInt8} (hw : 0 < w.length) (h : wordW w j s = .ok (x, r)) : x = j ∧ r.length + 1 ≤ s.length := by
  unfold wordW at h
  split at h
  · rename_i hh
    injection h with h; injection h with h3 h4; subst h4
    have := congrArg List.length hh
    rw [List.length_take] at this
    rw [List.length_drop]; exact ⟨h3.symm, by omega⟩
  · cases h
theorem numW_ok {s : List UInt8} {x : J} {r : List UInt8} (h : numW s = .ok (x, r)) : (∃ n, x = .num n ∧ heldB n = true) ∧ r.length + 1 ≤ s.length := by
  unfold numW at h
  split at h
  · cases h
  · rename_i h0
    split at h
    · injection h with h; injection h with h3 h4; subst h4
      have hv := parseL_val (s.take (scanL s))
      have hsl := scan_le s
      rw [List.length_drop]
      exact ⟨⟨_, h3.symm, heldB_iff.2 hv⟩, by omega⟩
    · cases h
theorem valW_ok {d : Nat} {l o : List UInt8 → Except Nat (J × List UInt8)} (hl : OkF d l) (ho : OkF d o) : OkF d (valW l o) := by
  intro s x r h
  unfold valW at h
  have l0 := blL_len s
  cases h0 : blL s with
  | nil => rw [h0] at h; cases h
  | cons c t =>
    rw [h0] at h l0
    dsimp only at h
    rw [List.length_cons] at l0
    split at h
    · obtain ⟨rfl, h1⟩ := wordW_ok (by decide) h
      rw [List.length_cons] at h1
      rw [okJ, depJ, mJ]; exact ⟨trivial, by omega, by omega⟩
    split at h
    · obtain ⟨rfl, h1⟩ := wordW_ok (by decide) h
      rw [List.length_cons] at h1
      rw [okJ, depJ, mJ]; exact ⟨trivial, by omega, by omega⟩
    split at h
    · obtain ⟨rfl, h1⟩ := wordW_ok (by decide) h
      rw [List.length_cons] at h1
      rw [okJ, depJ, mJ]; exact ⟨trivial, by omega, by omega⟩
    split at h
    · cases ht : textL t with
      | none => rw [ht] at h; cases h
      | some p =>
        obtain ⟨y, u⟩ := p
        obtain ⟨t1, t2⟩ := textL_ok ht
        rw [ht] at h
        injection h with h; injection h with h3 h4; subst h3; subst h4
        rw [okJ, depJ, mJ]; exact ⟨t1, by omega, by omega⟩
    split at h
    · obtain ⟨a1, a2, a3⟩ := hl _ _ _ h
      exact ⟨a1, a2, by omega⟩
    split at h
    · obtain ⟨a1, a2, a3⟩ := ho _ _ _ h
      exact ⟨a1, a2, by omega⟩
    · obtain ⟨⟨n, rfl, hn⟩, h1⟩ := numW_ok h
      rw [List.length_cons] at h1
      rw [okJ, depJ, mJ]; exact ⟨hn, by omega, by omega⟩
theorem err_ok (d e : Nat) : OkF d (fun _ => .error e) := fun _ _ _ h => by cases h
theorem lstW_ok {d : Nat} {f : List UInt8 → Except Nat (J × List UInt8)} (hf : OkF d f) : OkF (d + 1) (lstW f) := by
  intro s x r h
  unfold lstW at h
  have l0 := blL_len s
  split at h
  · rename_i hh
    injection h with h; injection h with h3 h4; subst h3; subst h4
    rw [okJ, okJs, depJ, depJs, mJ, mJs, List.length_drop]
    have : 0 < (blL s).length := by
      cases hb : blL s with
      | nil => rw [hb] at hh; cases hh
      | cons c t => simp
    exact ⟨trivial, by omega, by omega⟩
  · cases h5 : lstP f ((blL s).length + 1) (blL s) with
    | error e => rw [h5] at h; cases h
    | ok p =>
      obtain ⟨xs, u⟩ := p
      rw [h5] at h
      injection h with h; injection h with h3 h4; subst h3; subst h4
      obtain ⟨b1, b2, b3⟩ := lstP_ok hf _ _ _ _ h5
      rw [okJ, depJ, mJ]
      exact ⟨b1, by omega, by omega⟩
theorem mbrW_ok {d : Nat} {f : List UInt8 → Except Nat (J × List UInt8)} (hf : OkF d f) : OkF (d + 1) (mbrW f) := by
  intro s x r h
  unfold mbrW at h
  have l0 := blL_len s
  split at h
  · rename_i hh
    injection h with h; injection h with h3 h4; subst h3; subst h4
    rw [okJ, okJs, depJ, depJs, mJ, mJm, List.length_drop]
    have : 0 < (blL s).length := by
      cases hb : blL s with
      | nil => rw [hb] at hh; cases hh
      | cons c t => simp
    exact ⟨⟨rfl, List.nodup_nil, (fun n h => by cases h), trivial⟩, by omega, by omega⟩
  · cases h5 : mbrP f ((blL s).length + 1) [] (blL s) with
    | error e => rw [h5] at h; cases h
    | ok p =>
      obtain ⟨⟨ns, xs⟩, u⟩ := p
      rw [h5] at h
      injection h with h; injection h with h3 h4; subst h3; subst h4
      obtain ⟨b0, b1, b2, b3, b4, b5⟩ := mbrP_ok hf _ _ _ _ _ _ h5
      rw [okJ, depJ, mJ]
      exact ⟨⟨b0, b1, fun n hn => (b2 n hn).1, b3⟩, by omega, by omega⟩
theorem valT_ok : ∀ (d : Nat), OkF d (valT d)
  | 0 => fun s x r h => by
    rw [valT] at h
    exact valW_ok (err_ok 0 10) (err_ok 0 10) s x r h
  | d + 1 => fun s x r h => by
    rw [valT] at h
    have := valT_ok d
    exact valW_ok (lstW_ok this) (mbrW_ok this) s x r h
theorem jparse_ok {s : List UInt8} {x : J} (h : jparse s = .ok x) : okJ x ∧ depJ x ≤ 32 ∧ mJ x ≤ 100 * s.length := by
  unfold jparse at h
  split at h
  · cases h
  · cases h1 : valT 32 s with
    | error e => rw [h1] at h; cases h
    | ok p =>
      obtain ⟨y, r⟩ := p
      rw [h1] at h
      dsimp only at h
      obtain ⟨a1, a2, a3⟩ := valT_ok 32 _ _ _ h1
      split at h
      · injection h with h; subst h
        exact ⟨a1, a2, by omega⟩
      · cases h
end Go.Proofs.YtfmadoeadmclbaaGreatDoor
