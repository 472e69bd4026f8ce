/-
  What a key tells is the value that it was made of; bytes that are a key are that value's.
-/
import Derived.Test.YtphlggmhgfcmgaaGreatDoorOUnkey
import Derived.Test.YtphlggmhgfcmgaaGreatDoorOSame
namespace Go.Proofs.YtphlggmhgfcmgaaGreatDoor
open Go.RowKit Go.TL
set_option maxRecDepth 100000

theorem fold_val : ∀ (l : List UInt8) (a : Nat), l.foldl (fun a c => a * 256 + c.toNat) a = a * 256 ^ l.length + valB l
  | [], a => by simp [valB]
  | c :: l, a => by
    have h1 := fold_val l (a * 256 + c.toNat)
    have h2 := fold_val l (0 * 256 + c.toNat)
    unfold valB
    rw [List.foldl_cons, List.foldl_cons, h1, h2, List.length_cons, Nat.pow_succ, Nat.add_mul, Nat.add_mul, Nat.mul_assoc, Nat.mul_comm 256, Nat.zero_mul]
    omega
theorem valB_cons (c : UInt8) (l : List UInt8) : valB (c :: l) = c.toNat * 256 ^ l.length + valB l := by
  have := fold_val l (0 * 256 + c.toNat)
  unfold valB
  rw [List.foldl_cons, this]
  simp [valB]
theorem beD_len : ∀ (k m : Nat), (beD k m).length = k
  | 0, _ => rfl
  | k + 1, m => by rw [beD, List.length_cons, beD_len k]
theorem valB_beD : ∀ (k m : Nat), m < 256 ^ k → valB (beD k m) = m
  | 0, m, h => by
    have : m = 0 := by simpa using h
    subst this; rfl
  | k + 1, m, h => by
    rw [beD, valB_cons, beD_len, valB_beD k _ (Nat.mod_lt _ (Nat.pow_pos (by decide)))]
    have hq : m / 256 ^ k < 256 := Nat.div_lt_of_lt_mul (by rw [Nat.pow_succ] at h; exact h)
    have ht : (UInt8.ofNat (m / 256 ^ k)).toNat = m / 256 ^ k := by rw [UInt8.toNat_ofNat']; exact Nat.mod_eq_of_lt hq
    rw [ht, Nat.mul_comm]
    exact Nat.div_add_mod m _
theorem beD_valB : ∀ (l : List UInt8), beD l.length (valB l) = l
  | [] => rfl
  | c :: l => by
    have hl := valB_lt l
    rw [List.length_cons, beD, valB_cons]
    have h1 : (c.toNat * 256 ^ l.length + valB l) / 256 ^ l.length = c.toNat := by
      rw [Nat.mul_comm, Nat.mul_add_div (Nat.pow_pos (by decide)), Nat.div_eq_of_lt hl, Nat.add_zero]
    have h2 : (c.toNat * 256 ^ l.length + valB l) % 256 ^ l.length = valB l := by
      rw [Nat.mul_comm, Nat.mul_add_mod, Nat.mod_eq_of_lt hl]
    rw [h1, h2, beD_valB l]
    congr 1
    apply UInt8.toNat_inj.1
    rw [UInt8.toNat_ofNat']
    exact Nat.mod_eq_of_lt (UInt8.toNat_lt c)
theorem padL_long {s : List UInt8} {k : Nat} (h : k ≤ s.length) : padL s k = s.take k := by
  unfold padL
  rw [show k - s.length = 0 by omega]
  simp
theorem rdNum_be (n : Int) (h0 : -9223372036854775808 ≤ n) (h1 : n ≤ 9223372036854775807) (r : List UInt8) : rdNum (beL (n + 9223372036854775808).toNat 8 ++ r) = n := by
  unfold rdNum
  rw [padL_long (by rw [List.length_append, beL_len]; omega), List.take_append_of_le_length (by rw [beL_len]; omega), List.take_of_length_le (by rw [beL_len]; omega), beL_beD _ (by omega), valB_beD _ _ (by rw [show (256 : Nat) ^ 8 = 18446744073709551616 by decide]; omega)]
  omega
theorem be_rdNum {s : List UInt8} (h : 8 ≤ s.length) : beL (rdNum s + 9223372036854775808).toNat 8 = s.take 8 := by
  have hv := valB_lt (padL s 8)
  rw [padL_len] at hv
  have hl : (s.take 8).length = 8 := by rw [List.length_take]; omega
  have hb := beD_valB (s.take 8)
  rw [hl] at hb
  have h8 : (256 : Nat) ^ 8 = 18446744073709551616 := by decide
  have he : (rdNum s + 9223372036854775808).toNat = valB (s.take 8) := by
    unfold rdNum
    rw [padL_long h]
    omega
  rw [he, beL_beD _ (by rw [padL_long h] at hv; omega)]
  exact hb
theorem wordP_esc : ∀ (s r : List UInt8), wordP (escL s ++ [0, 1] ++ r) = some (s, r)
  | [], r => by
    show wordP (0 :: 1 :: r) = _
    rw [wordP, if_pos rfl, if_pos rfl]
  | c :: s, r => by
    have ih := wordP_esc s r
    have he : escL (c :: s) = (if c = 0 then [0, 255] else [c]) ++ escL s := by simp [escL]
    rw [he]
    by_cases hc : c = 0
    · rw [if_pos hc]
      show wordP (0 :: 255 :: (escL s ++ [0, 1] ++ r)) = _
      rw [wordP, if_pos rfl, if_neg (by decide), if_pos rfl, ih, hc]
      rfl
    · rw [if_neg hc]
      show wordP (c :: (escL s ++ [0, 1] ++ r)) = _
      rw [wordP_cons hc, ih]
      rfl
theorem esc_wordP : ∀ (n : Nat) (s a r : List UInt8), s.length ≤ n → wordP s = some (a, r) → s = escL a ++ [0, 1] ++ r
  | _, [], _, _, _, h => by rw [wordP] at h; cases h
  | _, [c], _, _, _, h => by rw [wordP] at h; cases h
  | 0, c :: d :: t, _, _, hn, _ => by simp at hn
  | n + 1, c :: d :: t, a, r, hn, h => by
    rw [List.length_cons, List.length_cons] at hn
    rw [wordP] at h
    have he : ∀ (c : UInt8) s, escL (c :: s) = (if c = 0 then [0, 255] else [c]) ++ escL s := fun c s => by simp [escL]
    split at h
    · rename_i hc
      subst hc
      split at h
      · rename_i hd
        obtain ⟨rfl, rfl⟩ : [] = a ∧ t = r := by simpa using h
        subst hd; rfl
      · split at h
        · rename_i hd
          subst hd
          obtain ⟨⟨a', r'⟩, h1, h2⟩ := Option.map_eq_some_iff.1 h
          obtain ⟨rfl, rfl⟩ : 0 :: a' = a ∧ r' = r := by simpa using h2
          rw [he, if_pos rfl, esc_wordP n t a' r' (by omega) h1]
          rfl
        · cases h
    · rename_i hc
      obtain ⟨⟨a', r'⟩, h1, h2⟩ := Option.map_eq_some_iff.1 h
      obtain ⟨rfl, rfl⟩ : c :: a' = a ∧ r' = r := by simpa using h2
      rw [he, if_neg hc, esc_wordP n (d :: t) a' r' (by simp only [List.length_cons]; omega) h1]
      rfl
/-- What a value's key tells, whatever stands behind. -/
theorem val_key : ∀ (N : Nat) (x : J), jsz x ≤ N → ∀ (d w : Nat), w + d = 32 → lookJ x w = 0 → nbJ x → ∀ r, ∃ c t, keyJ x = c :: t ∧ c ≠ 0 ∧ valP d c (t ++ r) = some (x, r)
  | 0, x, h, _, _, _, _, _, _ => by cases x <;> (rw [jsz] at h; omega)
  | N + 1, x, hN, d, w, hd, hx, hb, r => by
    have IH := val_key N
    have VK : ∀ c s, (c ≠ 6 ∧ c ≠ 7) → valP d c s = valK (fun _ => none) (fun _ => none) c s := fun c s hc => by
      cases d with
      | zero => rw [valP]
      | succ d =>
        rw [valP]
        unfold valK
        simp only [if_neg hc.1, if_neg hc.2]
    cases x with
    | null => exact ⟨1, [], by rw [keyJ], by decide, by rw [VK _ _ (by decide)]; rfl⟩
    | bool b =>
      cases b with
      | false => exact ⟨2, [], by rw [keyJ]; rfl, by decide, by rw [VK _ _ (by decide)]; rfl⟩
      | true => exact ⟨3, [], by rw [keyJ]; rfl, by decide, by rw [VK _ _ (by decide)]; rfl⟩
    | num n =>
      rw [nbJ] at hb
      refine ⟨4, beL (n + 9223372036854775808).toNat 8, by rw [keyJ], by decide, ?_⟩
      rw [VK _ _ (by decide)]
      unfold valK
      rw [if_neg (by decide), if_neg (by decide), if_neg (by decide), if_pos rfl, if_neg (by rw [List.length_append, beL_len]; omega), rdNum_be n hb.1 hb.2, List.drop_append_of_le_length (by rw [beL_len]; omega), List.drop_of_length_le (by rw [beL_len]; omega), List.nil_append]
    | text s =>
      refine ⟨5, escL s ++ [0, 1], by rw [keyJ]; rfl, by decide, ?_⟩
      rw [VK _ _ (by decide)]
      unfold valK
      rw [if_neg (by decide), if_neg (by decide), if_neg (by decide), if_neg (by decide), if_pos rfl, wordP_esc]
      rfl
    | other k => rw [lookJ] at hx; exact absurd hx (by decide)
    | list xs =>
      rw [lookJ] at hx
      rw [nbJ] at hb
      rw [jsz] at hN
      by_cases h32 : 32 ≤ w
      · rw [if_pos h32] at hx; exact absurd hx (by decide)
      rw [if_neg h32] at hx
      cases d with
      | zero => omega
      | succ d =>
      have H : ∀ (l : List J) (n : Nat), jszs l ≤ N → looks l w = 0 → nbJs l → (keyJs l ++ ([0] ++ r)).length < n → listP (valP d) n (keyJs l ++ ([0] ++ r)) = some (l, r) := by
        intro l
        induction l with
        | nil =>
          intro n _ _ _ hn
          cases n with
          | zero => omega
          | succ n => rw [keyJs]; show listP _ _ (0 :: r) = _; rw [listP, if_pos rfl]
        | cons x l ih =>
          intro n h1 h2 h3 hn
          rw [jszs] at h1
          rw [looks] at h2
          rw [nbJs] at h3
          have hx0 : lookJ x (w + 1) = 0 := by
            by_cases h : lookJ x (w + 1) = 0
            · exact h
            · rw [if_neg h] at h2; exact h2
          rw [if_pos hx0] at h2
          obtain ⟨c, t, e1, e2, e3⟩ := IH x (by omega) d (w + 1) (by omega) hx0 h3.1 (keyJs l ++ ([0] ++ r))
          rw [keyJs, List.append_assoc, e1, List.cons_append] at hn ⊢
          rw [List.length_cons, List.length_append] at hn
          cases n with
          | zero => omega
          | succ n =>
          rw [listP, if_neg e2, e3]
          show Option.map _ (listP (valP d) n (keyJs l ++ ([0] ++ r))) = _
          rw [ih n (by omega) h2 h3.2 (by omega)]
          rfl
      refine ⟨6, keyJs xs ++ [0], by rw [keyJ], by decide, ?_⟩
      rw [valP]
      unfold valK
      rw [if_neg (by decide), if_neg (by decide), if_neg (by decide), if_neg (by decide), if_neg (by decide), if_pos rfl, List.append_assoc]
      dsimp only
      rw [H xs _ (by omega) hx hb (Nat.lt_succ_self _)]
      rfl
    | obj ns xs =>
      rw [lookJ] at hx
      rw [nbJ] at hb
      rw [jsz] at hN
      by_cases h32 : 32 ≤ w
      · rw [if_pos h32] at hx; exact absurd hx (by decide)
      rw [if_neg h32] at hx
      cases d with
      | zero => omega
      | succ d =>
      have H : ∀ (l : List J) (ns seen : List (List UInt8)) (n : Nat), jszs l ≤ N → looko seen ns l w = 0 → ns.length = l.length → nbJs l → (keyJo ns l ++ ([0] ++ r)).length < n → objP (valP d) n (keyJo ns l ++ ([0] ++ r)) = some ((ns, l), r) := by
        intro l
        induction l with
        | nil =>
          intro ns seen n _ _ h0 _ hn
          obtain rfl : ns = [] := List.eq_nil_of_length_eq_zero h0
          cases n with
          | zero => omega
          | succ n => rw [keyJo]; show objP _ _ (0 :: r) = _; rw [objP, if_pos rfl]
        | cons x l ih =>
          intro ns seen n h1 h2 h0 h3 hn
          cases ns with
          | nil => simp at h0
          | cons a ns =>
          rw [jszs] at h1
          rw [looko] at h2
          rw [nbJs] at h3
          rw [List.headD_cons, List.tail_cons] at h2
          by_cases hu : utfL a = false
          · rw [if_pos hu] at h2; exact absurd h2 (by decide)
          rw [if_neg hu] at h2
          by_cases hm : a ∈ seen
          · rw [if_pos hm] at h2; exact absurd h2 (by decide)
          rw [if_neg hm] at h2
          have hx0 : lookJ x (w + 1) = 0 := by
            by_cases h : lookJ x (w + 1) = 0
            · exact h
            · rw [if_neg h] at h2; exact h2
          rw [if_pos hx0] at h2
          obtain ⟨c, t, e1, e2, e3⟩ := IH x (by omega) d (w + 1) (by omega) hx0 h3.1 (keyJo ns l ++ ([0] ++ r))
          have hk : keyJo (a :: ns) (x :: l) ++ ([0] ++ r) = 5 :: (escL a ++ [0, 1] ++ (c :: (t ++ (keyJo ns l ++ ([0] ++ r))))) := by
            rw [keyJo, List.headD_cons, List.tail_cons, e1]
            unfold wordL
            simp
          rw [hk] at hn ⊢
          simp only [List.length_cons, List.length_append] at hn h0
          cases n with
          | zero => omega
          | succ n =>
          rw [objP, if_neg (by decide), if_pos rfl, wordP_esc]
          simp only [e3]
          rw [ih ns _ n (by omega) h2 (by omega) h3.2 (by simp only [List.length_append, List.length_cons, List.length_nil]; omega)]
          rfl
      refine ⟨7, keyJo ns xs ++ [0], by rw [keyJ], by decide, ?_⟩
      rw [valP]
      unfold valK
      rw [if_neg (by decide), if_neg (by decide), if_neg (by decide), if_neg (by decide), if_neg (by decide), if_neg (by decide), if_pos rfl, List.append_assoc]
      dsimp only
      rw [H xs ns [] _ (by omega) hx hb.1 hb.2 (Nat.lt_succ_self _)]
      rfl
/-- Bytes that tell a value begin with its key. -/
def InvF (f : UInt8 → List UInt8 → Option (J × List UInt8)) : Prop := ∀ k s j r, f k s = some (j, r) → k :: s = keyJ j ++ r
theorem list_inv {f : UInt8 → List UInt8 → Option (J × List UInt8)} (hf : InvF f) : ∀ (n : Nat) (s : List UInt8) (xs : List J) (r : List UInt8), listP f n s = some (xs, r) → s = keyJs xs ++ ([0] ++ r)
  | 0, _, _, _, h => by rw [listP] at h; cases h
  | _ + 1, [], _, _, h => by rw [listP] at h; cases h
  | n + 1, c :: t, xs, r, h => by
    rw [listP] at h
    split at h
    · rename_i hc
      obtain ⟨rfl, rfl⟩ : [] = xs ∧ t = r := by simpa using h
      subst hc
      rw [keyJs]; rfl
    · cases hc : f c t with
      | none => rw [hc] at h; cases h
      | some q =>
        obtain ⟨x, r1⟩ := q
        rw [hc] at h
        obtain ⟨⟨ys, r2⟩, h1, h2⟩ := Option.map_eq_some_iff.1 h
        obtain ⟨rfl, rfl⟩ : x :: ys = xs ∧ r2 = r := by simpa using h2
        rw [hf _ _ _ _ hc, list_inv hf n r1 ys r2 h1, keyJs, List.append_assoc]
theorem obj_inv {f : UInt8 → List UInt8 → Option (J × List UInt8)} (hf : InvF f) : ∀ (n : Nat) (s : List UInt8) (ns : List (List UInt8)) (xs : List J) (r : List UInt8), objP f n s = some ((ns, xs), r) → s = keyJo ns xs ++ ([0] ++ r)
  | 0, _, _, _, _, h => by rw [objP] at h; cases h
  | _ + 1, [], _, _, _, h => by rw [objP] at h; cases h
  | n + 1, c :: t, ns, xs, r, h => by
    rw [objP] at h
    split at h
    · rename_i hc
      obtain ⟨⟨rfl, rfl⟩, rfl⟩ : ([] = ns ∧ [] = xs) ∧ t = r := by simpa using h
      subst hc
      rw [keyJo]; rfl
    · split at h
      · rename_i _ hc5
        subst hc5
        cases hw : wordP t with
        | none => rw [hw] at h; cases h
        | some q =>
          obtain ⟨a, r1⟩ := q
          rw [hw] at h
          have hl := esc_wordP _ t a r1 (Nat.le_refl _) hw
          cases r1 with
          | nil => cases h
          | cons d u =>
            dsimp only at h
            cases hc : f d u with
            | none => rw [hc] at h; cases h
            | some q =>
              obtain ⟨x, r1⟩ := q
              rw [hc] at h
              obtain ⟨⟨⟨ms, ys⟩, r2⟩, h1, h2⟩ := Option.map_eq_some_iff.1 h
              obtain ⟨⟨rfl, rfl⟩, rfl⟩ : (a :: ms = ns ∧ x :: ys = xs) ∧ r2 = r := by simpa using h2
              rw [hl, hf _ _ _ _ hc, obj_inv hf n r1 ms ys r2 h1, keyJo, List.headD_cons, List.tail_cons]
              unfold wordL
              simp
      · cases h
theorem valK_inv {lst obj : List UInt8 → Option (J × List UInt8)} (hL : ∀ s j r, lst s = some (j, r) → 6 :: s = keyJ j ++ r) (hO : ∀ s j r, obj s = some (j, r) → 7 :: s = keyJ j ++ r) : InvF (valK lst obj) := fun k s j r h => by
  unfold valK at h
  split at h
  · rename_i hk
    obtain ⟨rfl, rfl⟩ : J.null = j ∧ s = r := by simpa using h
    rw [hk, keyJ]; rfl
  split at h
  · rename_i hk
    obtain ⟨rfl, rfl⟩ : J.bool false = j ∧ s = r := by simpa using h
    rw [hk, keyJ]; rfl
  split at h
  · rename_i hk
    obtain ⟨rfl, rfl⟩ : J.bool true = j ∧ s = r := by simpa using h
    rw [hk, keyJ]; rfl
  split at h
  · rename_i hk
    split at h
    · cases h
    · obtain ⟨rfl, rfl⟩ : J.num (rdNum s) = j ∧ s.drop 8 = r := by simpa using h
      rw [hk, keyJ, be_rdNum (by omega), List.cons_append, List.take_append_drop]
  split at h
  · rename_i hk
    obtain ⟨⟨a, r1⟩, h1, h2⟩ := Option.map_eq_some_iff.1 h
    obtain ⟨rfl, rfl⟩ : J.text a = j ∧ r1 = r := by simpa using h2
    rw [hk, keyJ, esc_wordP _ s a r1 (Nat.le_refl _) h1]
    rfl
  split at h
  · rename_i hk
    rw [hk]; exact hL s j r h
  split at h
  · rename_i hk
    rw [hk]; exact hO s j r h
  · cases h
theorem val_inv : ∀ d, InvF (valP d)
  | 0 => fun k s j r h => by
    rw [valP] at h
    exact valK_inv (fun _ _ _ h => by cases h) (fun _ _ _ h => by cases h) k s j r h
  | d + 1 => fun k s j r h => by
    rw [valP] at h
    refine valK_inv (fun s j r h => ?_) (fun s j r h => ?_) k s j r h
    · obtain ⟨⟨xs, r1⟩, h1, h2⟩ := Option.map_eq_some_iff.1 h
      obtain ⟨rfl, rfl⟩ : J.list xs = j ∧ r1 = r := by simpa using h2
      rw [list_inv (val_inv d) _ s xs r1 h1, keyJ]
      simp
    · obtain ⟨⟨⟨ns, xs⟩, r1⟩, h1, h2⟩ := Option.map_eq_some_iff.1 h
      obtain ⟨rfl, rfl⟩ : J.obj ns xs = j ∧ r1 = r := by simpa using h2
      rw [obj_inv (val_inv d) _ s ns xs r1 h1, keyJ]
      simp
/-- A key's value is the one that it was made of. -/
theorem unk_key {x : J} (h : lookJ x 0 = 0) (hb : nbJ x) : unkP (keyJ x) = some x := by
  obtain ⟨c, t, e1, _, e3⟩ := val_key _ x (Nat.le_refl _) 32 0 rfl h hb []
  rw [List.append_nil] at e3
  unfold unkP
  rw [e1, nextL]
  simp only [e3]
  rw [if_pos ⟨h, by simp⟩]
/-- Bytes that are a key are just that value's. -/
theorem key_unk {bs : List UInt8} {x : J} (h : unkP bs = some x) : keyJ x = bs ∧ lookJ x 0 = 0 := by
  unfold unkP at h
  split at h
  · rename_i j hv
    split at h
    · rename_i hj
      obtain rfl := Option.some.inj h
      have := val_inv 32 _ _ _ _ hv
      rw [List.append_nil] at this
      refine ⟨?_, hj.1⟩
      rw [← this]
      cases bs with
      | nil => exact absurd rfl hj.2
      | cons c t => rfl
    · cases h
  · cases h
/-- A value that may be is alike itself. -/
theorem same_self {x : DV} (hx : mayV x 0 = 0) (b : nbJ (toJ x)) : SameJ (toJ x) (toJ x) = true := by
  rcases holds_law hx hx b b with h | h | h
  · exact absurd rfl h.2.2.1
  · exact absurd rfl h.2.2.1
  · exact h.2.2.2
end Go.Proofs.YtphlggmhgfcmgaaGreatDoor
