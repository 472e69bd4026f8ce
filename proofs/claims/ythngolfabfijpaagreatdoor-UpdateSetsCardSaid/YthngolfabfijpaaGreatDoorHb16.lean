/-
  What paths do to the document's values; how great values are; depth.
-/
import Derived.Test.YthngolfabfijpaaGreatDoorHb12
import Derived.Test.YthngolfabfijpaaGreatDoorHb10
namespace Go.Proofs.YthngolfabfijpaaGreatDoor
open Go.RowKit Go.TL

/-! ### How great -/
mutual
def szJ (m : Nat) : J → Prop
  | .null => True
  | .bool _ => True
  | .num _ => True
  | .text s => s.length ≤ m
  | .list xs => xs.length ≤ m ∧ szJs m xs
  | .obj ns xs => xs.length ≤ m ∧ (∀ n ∈ ns, n.length ≤ m) ∧ szJs m xs
  | .other _ => True
def szJs (m : Nat) : List J → Prop
  | [] => True
  | x :: r => szJ m x ∧ szJs m r
end
mutual
theorem sm_of_sz : ∀ (x : J) (m : Nat), szJ m x → m ≤ 1000000 → smJ x
  | .null, _, _, _ => by rw [smJ]; trivial
  | .bool _, _, _, _ => by rw [smJ]; trivial
  | .num _, _, _, _ => by rw [smJ]; trivial
  | .other _, _, _, _ => by rw [smJ]; trivial
  | .text s, m, h, hm => by rw [szJ] at h; rw [smJ]; omega
  | .list xs, m, h, hm => by rw [szJ] at h; rw [smJ]; exact ⟨by omega, sms_of_sz xs m h.2 hm⟩
  | .obj ns xs, m, h, hm => by rw [szJ] at h; rw [smJ]; exact ⟨by omega, fun n hn => Nat.le_trans (h.2.1 n hn) hm, sms_of_sz xs m h.2.2 hm⟩
theorem sms_of_sz : ∀ (l : List J) (m : Nat), szJs m l → m ≤ 1000000 → smJs l
  | [], _, _, _ => by rw [smJs]; trivial
  | x :: r, m, h, hm => by rw [szJs] at h; rw [smJs]; exact ⟨sm_of_sz x m h.1 hm, sms_of_sz r m h.2 hm⟩
end
mutual
theorem sz_up : ∀ (x : J) (m k : Nat), szJ m x → m ≤ k → szJ k x
  | .null, _, _, _, _ => by rw [szJ]; trivial
  | .bool _, _, _, _, _ => by rw [szJ]; trivial
  | .num _, _, _, _, _ => by rw [szJ]; trivial
  | .other _, _, _, _, _ => by rw [szJ]; trivial
  | .text s, m, k, h, hm => by rw [szJ] at h ⊢; omega
  | .list xs, m, k, h, hm => by rw [szJ] at h ⊢; exact ⟨by omega, szs_up xs m k h.2 hm⟩
  | .obj ns xs, m, k, h, hm => by rw [szJ] at h ⊢; exact ⟨by omega, fun n hn => Nat.le_trans (h.2.1 n hn) hm, szs_up xs m k h.2.2 hm⟩
theorem szs_up : ∀ (l : List J) (m k : Nat), szJs m l → m ≤ k → szJs k l
  | [], _, _, _, _ => by rw [szJs]; trivial
  | x :: r, m, k, h, hm => by rw [szJs] at h ⊢; exact ⟨sz_up x m k h.1 hm, szs_up r m k h.2 hm⟩
end
theorem szJs_get : ∀ {l : List J} {m i : Nat} {x : J}, szJs m l → l[i]? = some x → szJ m x
  | [], _, _, _, _, h => by simp at h
  | y :: r, m, 0, x, hs, h => by
    rw [szJs] at hs
    obtain rfl : y = x := by simpa using h
    exact hs.1
  | y :: r, m, i + 1, x, hs, h => by
    rw [szJs] at hs
    exact szJs_get (l := r) (i := i) hs.2 (by simpa using h)
theorem szJs_set : ∀ {l : List J} {m i : Nat} {x : J}, szJs m l → szJ m x → szJs m (l.set i x)
  | [], _, _, _, _, _ => by rw [List.set_nil, szJs]; trivial
  | y :: r, m, 0, x, hs, h => by
    rw [szJs] at hs
    rw [List.set_cons_zero, szJs]; exact ⟨h, hs.2⟩
  | y :: r, m, i + 1, x, hs, h => by
    rw [szJs] at hs
    rw [List.set_cons_succ, szJs]; exact ⟨hs.1, szJs_set hs.2 h⟩
theorem szJs_snoc : ∀ {l : List J} {m : Nat} {x : J}, szJs m l → szJ m x → szJs m (l ++ [x])
  | [], _, _, _, h => by rw [List.nil_append, szJs, szJs]; exact ⟨h, trivial⟩
  | y :: r, m, x, hs, h => by
    rw [szJs] at hs
    rw [List.cons_append, szJs]; exact ⟨hs.1, szJs_snoc hs.2 h⟩
theorem szJs_erase : ∀ {l : List J} {m i : Nat}, szJs m l → szJs m (l.eraseIdx i)
  | [], _, _, _ => by rw [List.eraseIdx_nil, szJs]; trivial
  | y :: r, m, 0, hs => by
    rw [szJs] at hs
    rw [List.eraseIdx_cons_zero]; exact hs.2
  | y :: r, m, i + 1, hs => by
    rw [szJs] at hs
    rw [List.eraseIdx_cons_succ, szJs]; exact ⟨hs.1, szJs_erase hs.2⟩
theorem sz_put : ∀ (l : List (List UInt8)) (x y z : J) (m : Nat), (∀ s ∈ l, s.length ≤ m) → szJ m x → szJ m y → putJ l x y = some z → szJ (m + 1) z
  | [], x, y, z, m, _, _, hy, h => by
    rw [putJ] at h
    obtain rfl := Option.some.inj h
    exact sz_up _ _ _ hy (by omega)
  | s :: r, x, y, z, m, hl, hx, hy, h => by
    have IH := fun x z => sz_put r x y z m (fun s hs => hl s (by simp [hs]))
    have he : szJ m (.obj [] []) := by rw [szJ, szJs]; simp
    cases x with
    | obj ns xs =>
      rw [putJ] at h
      have hx' := sz_up _ _ (m + 1) hx (by omega)
      rw [szJ] at hx hx'
      split at h
      · rename_i i hi
        split at h
        · rename_i y' hy'
          obtain ⟨w, hw, rfl⟩ := Option.map_eq_some_iff.1 h
          rw [szJ, List.length_set]
          exact ⟨by omega, hx'.2.1, szJs_set hx'.2.2 (IH _ _ (szJs_get hx.2.2 hy') hy hw)⟩
        · cases h
      · obtain ⟨w, hw, rfl⟩ := Option.map_eq_some_iff.1 h
        rw [szJ, List.length_append]
        refine ⟨by simp; omega, fun n hn => ?_, szJs_snoc hx'.2.2 (IH _ _ he hy hw)⟩
        rcases List.mem_append.1 hn with hn | hn
        · exact hx'.2.1 n hn
        · obtain rfl : n = s := by simpa using hn
          have := hl n (by simp); omega
    | list xs =>
      rw [putJ] at h
      have hx' := sz_up _ _ (m + 1) hx (by omega)
      rw [szJ] at hx hx'
      split at h
      · cases h
      · rename_i i hi
        split at h
        · rename_i y' hy'
          obtain ⟨w, hw, rfl⟩ := Option.map_eq_some_iff.1 h
          rw [szJ, List.length_set]
          exact ⟨by omega, szJs_set hx'.2 (IH _ _ (szJs_get hx.2 hy') hy hw)⟩
        · split at h
          · obtain ⟨w, hw, rfl⟩ := Option.map_eq_some_iff.1 h
            rw [szJ, List.length_append]
            exact ⟨by simp; omega, szJs_snoc hx'.2 (IH _ _ he hy hw)⟩
          · cases h
    | _ => rw [putJ] at h <;> first | cases h | (intros; simp)
theorem sz_drop : ∀ (l : List (List UInt8)) (x z : J) (m : Nat), szJ m x → dropJ l x = some z → szJ m z
  | [], x, z, m, _, h => by rw [dropJ] at h; cases h
  | s :: r, x, z, m, hx, h => by
    have IH := fun x z => sz_drop r x z m
    cases x with
    | obj ns xs =>
      rw [dropJ] at h
      rw [szJ] at hx
      split at h
      · rename_i i hi
        split at h
        · rename_i y' hy'
          split at h
          · obtain rfl := Option.some.inj h
            rw [szJ]
            exact ⟨Nat.le_trans (List.length_eraseIdx_le _ _) hx.1, fun n hn => hx.2.1 n ((List.eraseIdx_sublist _ _).subset hn), szJs_erase hx.2.2⟩
          · obtain ⟨w, hw, rfl⟩ := Option.map_eq_some_iff.1 h
            rw [szJ, List.length_set]
            exact ⟨hx.1, hx.2.1, szJs_set hx.2.2 (IH _ _ (szJs_get hx.2.2 hy') hw)⟩
        · cases h
      · cases h
    | list xs =>
      rw [dropJ] at h
      rw [szJ] at hx
      split at h
      · cases h
      · rename_i i hi
        split at h
        · rename_i y' hy'
          split at h
          · obtain rfl := Option.some.inj h
            rw [szJ]
            exact ⟨Nat.le_trans (List.length_eraseIdx_le _ _) hx.1, szJs_erase hx.2⟩
          · obtain ⟨w, hw, rfl⟩ := Option.map_eq_some_iff.1 h
            rw [szJ, List.length_set]
            exact ⟨hx.1, szJs_set hx.2 (IH _ _ (szJs_get hx.2 hy') hw)⟩
        · cases h
    | _ => rw [dropJ] at h <;> first | cases h | (intros; simp)
/-! ### What may be, but for depth -/
theorem okJs_get : ∀ {l : List J} {i : Nat} {x : J}, okJs l → l[i]? = some x → okJ x
  | [], _, _, _, h => by simp at h
  | y :: r, 0, x, hs, h => by
    rw [okJs] at hs
    obtain rfl : y = x := by simpa using h
    exact hs.1
  | y :: r, i + 1, x, hs, h => by
    rw [okJs] at hs
    exact okJs_get (l := r) (i := i) hs.2 (by simpa using h)
theorem okJs_set : ∀ {l : List J} {i : Nat} {x : J}, okJs l → okJ x → okJs (l.set i x)
  | [], _, _, _, _ => by rw [List.set_nil, okJs]; trivial
  | y :: r, 0, x, hs, h => by
    rw [okJs] at hs
    rw [List.set_cons_zero, okJs]; exact ⟨h, hs.2⟩
  | y :: r, i + 1, x, hs, h => by
    rw [okJs] at hs
    rw [List.set_cons_succ, okJs]; exact ⟨hs.1, okJs_set hs.2 h⟩
theorem okJs_snoc : ∀ {l : List J} {x : J}, okJs l → okJ x → okJs (l ++ [x])
  | [], _, _, h => by rw [List.nil_append, okJs, okJs]; exact ⟨h, trivial⟩
  | y :: r, x, hs, h => by
    rw [okJs] at hs
    rw [List.cons_append, okJs]; exact ⟨hs.1, okJs_snoc hs.2 h⟩
theorem okJs_erase : ∀ {l : List J} {i : Nat}, okJs l → okJs (l.eraseIdx i)
  | [], _, _ => by rw [List.eraseIdx_nil, okJs]; trivial
  | y :: r, 0, hs => by
    rw [okJs] at hs
    rw [List.eraseIdx_cons_zero]; exact hs.2
  | y :: r, i + 1, hs => by
    rw [okJs] at hs
    rw [List.eraseIdx_cons_succ, okJs]; exact ⟨hs.1, okJs_erase hs.2⟩
theorem nodup_snoc {α : Type} {l : List α} {a : α} (h : l.Nodup) (ha : a ∉ l) : (l ++ [a]).Nodup :=
  List.nodup_append.2 ⟨h, by simp, fun x hx y hy e => ha (by obtain rfl : y = a := by simpa using hy
                                                             exact e ▸ hx)⟩
mutual
def lenJ : J → Prop
  | .null => True
  | .bool _ => True
  | .num _ => True
  | .text _ => True
  | .list xs => lenJs xs
  | .obj ns xs => ns.length = xs.length ∧ lenJs xs
  | .other _ => True
def lenJs : List J → Prop
  | [] => True
  | x :: r => lenJ x ∧ lenJs r
end
mutual
theorem len_of_ok : ∀ (x : J), okJ x → lenJ x
  | .null, _ => by rw [lenJ]; trivial
  | .bool _, _ => by rw [lenJ]; trivial
  | .num _, _ => by rw [lenJ]; trivial
  | .text _, _ => by rw [lenJ]; trivial
  | .other _, _ => by rw [lenJ]; trivial
  | .list xs, h => by rw [okJ] at h; rw [lenJ]; exact lens_of_ok xs h
  | .obj ns xs, h => by rw [okJ] at h; rw [lenJ]; exact ⟨h.1, lens_of_ok xs h.2.2.2⟩
theorem lens_of_ok : ∀ (l : List J), okJs l → lenJs l
  | [], _ => by rw [lenJs]; trivial
  | x :: r, h => by rw [okJs] at h; rw [lenJs]; exact ⟨len_of_ok x h.1, lens_of_ok r h.2⟩
end
mutual
theorem IsJ.len {g : Gh} : ∀ (x : J) (v : Value), IsJ g x v → lenJ x
  | .null, _, _ => by rw [lenJ]; trivial
  | .bool _, _, _ => by rw [lenJ]; trivial
  | .num _, _, _ => by rw [lenJ]; trivial
  | .text _, _, _ => by rw [lenJ]; trivial
  | .other _, _, _ => by rw [lenJ]; trivial
  | .list xs, _, h => by
    rw [IsJ] at h
    obtain ⟨_, fl, _, _, h⟩ := h
    rw [lenJ]; exact IsJs.lens xs fl h
  | .obj ns xs, _, h => by
    rw [IsJ] at h
    obtain ⟨_, fl, _, _, h⟩ := h
    rw [lenJ]; exact ⟨h.len, IsMs.lens ns xs fl h⟩
theorem IsJs.lens {g : Gh} : ∀ (l : List J) (fl : List Value), IsJs g l fl → lenJs l
  | [], _, _ => by rw [lenJs]; trivial
  | x :: r, fl, h => by
    rw [IsJs] at h
    obtain ⟨v, f, _, h1, h2⟩ := h
    rw [lenJs]; exact ⟨IsJ.len x v h1, IsJs.lens r f h2⟩
theorem IsMs.lens {g : Gh} : ∀ (ns : List (List UInt8)) (l : List J) (fl : List Value), IsMs g ns l fl → lenJs l
  | _, [], _, _ => by rw [lenJs]; trivial
  | [], _ :: _, _, h => by rw [IsMs] at h; exact h.elim
  | n :: ns, x :: r, fl, h => by
    rw [IsMs] at h
    obtain ⟨v, f, _, h1, h2⟩ := h
    rw [lenJs]; exact ⟨IsJ.len x v h1, IsMs.lens ns r f h2⟩
end
mutual
theorem ok_of_look : ∀ (x : J) (w : Nat), lookJ x w = 0 → lenJ x → okJ x ∧ (depJ x = 0 ∨ depJ x + w ≤ 32)
  | .null, _, _, _ => by rw [okJ, depJ]; simp
  | .bool _, _, _, _ => by rw [okJ, depJ]; simp
  | .num n, _, h, _ => by rw [lookJ] at h; rw [okJ, depJ]; split at h <;> simp_all
  | .text s, _, h, _ => by rw [lookJ] at h; rw [okJ, depJ]; split at h <;> simp_all
  | .other _, _, h, _ => by rw [lookJ] at h; cases h
  | .list xs, w, h, hl => by
    rw [lookJ] at h
    rw [lenJ] at hl
    split at h
    · cases h
    · obtain ⟨h1, h2⟩ := oks_of_look xs w h hl
      rw [okJ, depJ]
      exact ⟨h1, .inr (by rcases h2 with h2 | h2 <;> omega)⟩
  | .obj ns xs, w, h, hl => by
    rw [lookJ] at h
    rw [lenJ] at hl
    split at h
    · cases h
    · obtain ⟨h1, h2, h3, h4⟩ := oko_of_look [] ns xs w h hl.2 hl.1
      rw [okJ, depJ]
      exact ⟨⟨hl.1, h3 (List.nodup_nil), fun n hn => h4 n hn, h1⟩, .inr (by rcases h2 with h2 | h2 <;> omega)⟩
theorem oks_of_look : ∀ (l : List J) (w : Nat), looks l w = 0 → lenJs l → okJs l ∧ (depJs l = 0 ∨ depJs l + (w + 1) ≤ 32)
  | [], _, _, _ => by rw [okJs, depJs]; simp
  | x :: r, w, h, hl => by
    rw [looks] at h
    rw [lenJs] at hl
    split at h
    · rename_i h1
      obtain ⟨a1, a2⟩ := ok_of_look x (w + 1) h1 hl.1
      obtain ⟨b1, b2⟩ := oks_of_look r w h hl.2
      rw [okJs, depJs]
      exact ⟨⟨a1, b1⟩, by omega⟩
    · exact absurd h (by assumption)
theorem oko_of_look : ∀ (seen ns : List (List UInt8)) (l : List J) (w : Nat), looko seen ns l w = 0 → lenJs l → ns.length = l.length → okJs l ∧ (depJs l = 0 ∨ depJs l + (w + 1) ≤ 32) ∧ (seen.Nodup → (seen ++ ns).Nodup) ∧ ∀ n ∈ ns, utfL n = true
  | seen, ns, [], _, _, _, hn => by
    obtain rfl : ns = [] := List.eq_nil_of_length_eq_zero hn
    rw [okJs, depJs]; simp
  | seen, [], _ :: _, _, _, _, hn => by simp at hn
  | seen, n :: ns, x :: r, w, h, hl, hn => by
    rw [looko] at h
    rw [lenJs] at hl
    rw [List.headD_cons, List.tail_cons] at h
    split at h
    · cases h
    rename_i hu
    split at h
    · cases h
    rename_i hs
    split at h
    · rename_i h1
      obtain ⟨a1, a2⟩ := ok_of_look x (w + 1) h1 hl.1
      obtain ⟨b1, b2, b3, b4⟩ := oko_of_look (seen ++ [n]) ns r w h hl.2 (by simpa using hn)
      rw [okJs, depJs]
      refine ⟨⟨a1, b1⟩, by omega, fun hd => ?_, fun m hm => ?_⟩
      · have := b3 (nodup_snoc hd hs)
        rw [List.append_assoc] at this; exact this
      · rcases List.mem_cons.1 hm with rfl | hm
        · simpa using hu
        · exact b4 m hm
    · exact absurd h (by assumption)
end
mutual
theorem look_of_ok : ∀ (x : J) (w : Nat), okJ x → lookJ x w = if depJ x = 0 ∨ depJ x + w ≤ 32 then 0 else 10
  | .null, w, _ => by rw [lookJ, depJ]; simp
  | .bool _, w, _ => by rw [lookJ, depJ]; simp
  | .num n, w, h => by rw [okJ] at h; rw [lookJ, depJ, if_pos h]; simp
  | .text s, w, h => by rw [okJ] at h; rw [lookJ, depJ, if_pos h]; simp
  | .other _, _, h => by rw [okJ] at h; exact h.elim
  | .list xs, w, h => by
    rw [okJ] at h
    rw [lookJ, depJ]
    by_cases hw : 32 ≤ w
    · rw [if_pos hw, if_neg (by omega)]
    · rw [if_neg hw, looks_of_ok xs w h]
      split <;> split <;> first | rfl | omega
  | .obj ns xs, w, h => by
    rw [okJ] at h
    rw [lookJ, depJ]
    by_cases hw : 32 ≤ w
    · rw [if_pos hw, if_neg (by omega)]
    · rw [if_neg hw, looko_of_ok [] ns xs w h.2.2.2 h.1 (by simpa using h.2.1) h.2.2.1]
      split <;> split <;> first | rfl | omega
theorem looks_of_ok : ∀ (l : List J) (w : Nat), okJs l → looks l w = if depJs l = 0 ∨ depJs l + (w + 1) ≤ 32 then 0 else 10
  | [], w, _ => by rw [looks, depJs]; simp
  | x :: r, w, h => by
    rw [okJs] at h
    rw [looks, depJs, look_of_ok x (w + 1) h.1, looks_of_ok r w h.2]
    by_cases h1 : depJ x = 0 ∨ depJ x + (w + 1) ≤ 32
    · rw [if_pos h1, if_pos rfl]
      split <;> split <;> first | rfl | omega
    · rw [if_neg h1, if_neg (by decide), if_neg (by omega)]
theorem looko_of_ok : ∀ (seen ns : List (List UInt8)) (l : List J) (w : Nat), okJs l → ns.length = l.length → (seen ++ ns).Nodup → (∀ n ∈ ns, utfL n = true) → looko seen ns l w = if depJs l = 0 ∨ depJs l + (w + 1) ≤ 32 then 0 else 10
  | seen, ns, [], w, _, _, _, _ => by rw [looko, depJs]; simp
  | seen, [], _ :: _, _, _, hn, _, _ => by simp at hn
  | seen, n :: ns, x :: r, w, h, hn, hd, hu => by
    rw [okJs] at h
    have hns : n ∉ seen := fun hm => (List.nodup_append.1 hd).2.2 n hm n (by simp) rfl
    rw [looko, List.headD_cons, List.tail_cons, if_neg (by rw [hu n (by simp)]; simp), if_neg hns, depJs, look_of_ok x (w + 1) h.1, looko_of_ok (seen ++ [n]) ns r w h.2 (by simpa using hn) (by rw [List.append_assoc]; exact hd) (fun m hm => hu m (by simp [hm]))]
    by_cases h1 : depJ x = 0 ∨ depJ x + (w + 1) ≤ 32
    · rw [if_pos h1, if_pos rfl]
      split <;> split <;> first | rfl | omega
    · rw [if_neg h1, if_neg (by decide), if_neg (by omega)]
end
theorem ok_put : ∀ (l : List (List UInt8)) (x y z : J), (∀ s ∈ l, utfL s = true) → okJ x → okJ y → putJ l x y = some z → okJ z
  | [], x, y, z, _, _, hy, h => by
    rw [putJ] at h
    obtain rfl := Option.some.inj h
    exact hy
  | s :: r, x, y, z, hl, hx, hy, h => by
    have IH := fun x z => ok_put r x y z (fun s hs => hl s (by simp [hs]))
    have he : okJ (.obj [] []) := by rw [okJ, okJs]; simp
    cases x with
    | obj ns xs =>
      rw [putJ] at h
      rw [okJ] at hx
      split at h
      · rename_i i hi
        split at h
        · rename_i y' hy'
          obtain ⟨w, hw, rfl⟩ := Option.map_eq_some_iff.1 h
          rw [okJ, List.length_set]
          exact ⟨hx.1, hx.2.1, hx.2.2.1, okJs_set hx.2.2.2 (IH _ _ (okJs_get hx.2.2.2 hy') hy hw)⟩
        · cases h
      · rename_i hi
        obtain ⟨w, hw, rfl⟩ := Option.map_eq_some_iff.1 h
        rw [okJ, List.length_append, List.length_append]
        refine ⟨by simp [hx.1], nodup_snoc hx.2.1 (fun hm => idxN_none hi s hm rfl), fun n hn => ?_, okJs_snoc hx.2.2.2 (IH _ _ he hy hw)⟩
        rcases List.mem_append.1 hn with hn | hn
        · exact hx.2.2.1 n hn
        · obtain rfl : n = s := by simpa using hn
          exact hl n (by simp)
    | list xs =>
      rw [putJ] at h
      rw [okJ] at hx
      split at h
      · cases h
      · rename_i i hi
        split at h
        · rename_i y' hy'
          obtain ⟨w, hw, rfl⟩ := Option.map_eq_some_iff.1 h
          rw [okJ]
          exact okJs_set hx (IH _ _ (okJs_get hx hy') hy hw)
        · split at h
          · obtain ⟨w, hw, rfl⟩ := Option.map_eq_some_iff.1 h
            rw [okJ]
            exact okJs_snoc hx (IH _ _ he hy hw)
          · cases h
    | _ => rw [putJ] at h <;> first | cases h | (intros; simp)
theorem nodup_erase {α : Type} {l : List α} (h : l.Nodup) (i : Nat) : (l.eraseIdx i).Nodup := h.sublist (List.eraseIdx_sublist _ _)
theorem ok_drop : ∀ (l : List (List UInt8)) (x z : J), okJ x → dropJ l x = some z → okJ z
  | [], x, z, _, h => by rw [dropJ] at h; cases h
  | s :: r, x, z, hx, h => by
    have IH := fun x z => ok_drop r x z
    cases x with
    | obj ns xs =>
      rw [dropJ] at h
      rw [okJ] at hx
      split at h
      · rename_i i hi
        have hil := idxN_lt hi
        split at h
        · rename_i y' hy'
          split at h
          · obtain rfl := Option.some.inj h
            rw [okJ]
            exact ⟨by rw [List.length_eraseIdx, List.length_eraseIdx, hx.1], nodup_erase hx.2.1 i, fun n hn => hx.2.2.1 n ((List.eraseIdx_sublist _ _).subset hn), okJs_erase hx.2.2.2⟩
          · obtain ⟨w, hw, rfl⟩ := Option.map_eq_some_iff.1 h
            rw [okJ, List.length_set]
            exact ⟨hx.1, hx.2.1, hx.2.2.1, okJs_set hx.2.2.2 (IH _ _ (okJs_get hx.2.2.2 hy') hw)⟩
        · cases h
      · cases h
    | list xs =>
      rw [dropJ] at h
      rw [okJ] at hx
      split at h
      · cases h
      · rename_i i hi
        split at h
        · rename_i y' hy'
          split at h
          · obtain rfl := Option.some.inj h
            rw [okJ]
            exact okJs_erase hx
          · obtain ⟨w, hw, rfl⟩ := Option.map_eq_some_iff.1 h
            rw [okJ]
            exact okJs_set hx (IH _ _ (okJs_get hx hy') hw)
        · cases h
    | _ => rw [dropJ] at h <;> first | cases h | (intros; simp)
end Go.Proofs.YthngolfabfijpaaGreatDoor
