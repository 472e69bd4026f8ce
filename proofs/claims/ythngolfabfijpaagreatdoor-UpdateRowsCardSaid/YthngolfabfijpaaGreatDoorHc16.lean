/-
  What paths do to the document's values; how great values are; depth. The document's numbers in steps; its values, how great; all paths. What was put is what the path leads to; elsewhere nothing turns; all paths lead to something, each told once. What Put and Drop tell; a value is like itself.
-/
import Derived.Test.YthngolfabfijpaaGreatDoorHc12
import Derived.Test.YthngolfabfijpaaGreatDoorHc10
import Derived.Test.YthngolfabfijpaaGreatDoorHc11
namespace Go.Proofs.YthngolfabfijpaaGreatDoor
open Go.RowKit Go.TL

/-! ### How great -/
mutual
def szJ (m : Nat) : J → Prop
  | .null => True
  | .bool _ => True
  | .num _ => True
  | .text s => s.length ≤ m
  | .list xs => xs.length ≤ m ∧ szJs m xs
  | .obj ns xs => xs.length ≤ m ∧ (∀ n ∈ ns, n.length ≤ m) ∧ szJs m xs
  | .other _ => True
def szJs (m : Nat) : List J → Prop
  | [] => True
  | x :: r => szJ m x ∧ szJs m r
end
mutual
theorem sm_of_sz : ∀ (x : J) (m : Nat), szJ m x → m ≤ 1000000 → smJ x
  | .null, _, _, _ => by rw [smJ]; trivial
  | .bool _, _, _, _ => by rw [smJ]; trivial
  | .num _, _, _, _ => by rw [smJ]; trivial
  | .other _, _, _, _ => by rw [smJ]; trivial
  | .text s, m, h, hm => by rw [szJ] at h; rw [smJ]; omega
  | .list xs, m, h, hm => by rw [szJ] at h; rw [smJ]; exact ⟨by omega, sms_of_sz xs m h.2 hm⟩
  | .obj ns xs, m, h, hm => by rw [szJ] at h; rw [smJ]; exact ⟨by omega, fun n hn => Nat.le_trans (h.2.1 n hn) hm, sms_of_sz xs m h.2.2 hm⟩
theorem sms_of_sz : ∀ (l : List J) (m : Nat), szJs m l → m ≤ 1000000 → smJs l
  | [], _, _, _ => by rw [smJs]; trivial
  | x :: r, m, h, hm => by rw [szJs] at h; rw [smJs]; exact ⟨sm_of_sz x m h.1 hm, sms_of_sz r m h.2 hm⟩
end
mutual
theorem sz_up : ∀ (x : J) (m k : Nat), szJ m x → m ≤ k → szJ k x
  | .null, _, _, _, _ => by rw [szJ]; trivial
  | .bool _, _, _, _, _ => by rw [szJ]; trivial
  | .num _, _, _, _, _ => by rw [szJ]; trivial
  | .other _, _, _, _, _ => by rw [szJ]; trivial
  | .text s, m, k, h, hm => by rw [szJ] at h ⊢; omega
  | .list xs, m, k, h, hm => by rw [szJ] at h ⊢; exact ⟨by omega, szs_up xs m k h.2 hm⟩
  | .obj ns xs, m, k, h, hm => by rw [szJ] at h ⊢; exact ⟨by omega, fun n hn => Nat.le_trans (h.2.1 n hn) hm, szs_up xs m k h.2.2 hm⟩
theorem szs_up : ∀ (l : List J) (m k : Nat), szJs m l → m ≤ k → szJs k l
  | [], _, _, _, _ => by rw [szJs]; trivial
  | x :: r, m, k, h, hm => by rw [szJs] at h ⊢; exact ⟨sz_up x m k h.1 hm, szs_up r m k h.2 hm⟩
end
theorem szJs_get : ∀ {l : List J} {m i : Nat} {x : J}, szJs m l → l[i]? = some x → szJ m x
  | [], _, _, _, _, h => by simp at h
  | y :: r, m, 0, x, hs, h => by
    rw [szJs] at hs
    obtain rfl : y = x := by simpa using h
    exact hs.1
  | y :: r, m, i + 1, x, hs, h => by
    rw [szJs] at hs
    exact szJs_get (l := r) (i := i) hs.2 (by simpa using h)
theorem szJs_set : ∀ {l : List J} {m i : Nat} {x : J}, szJs m l → szJ m x → szJs m (l.set i x)
  | [], _, _, _, _, _ => by rw [List.set_nil, szJs]; trivial
  | y :: r, m, 0, x, hs, h => by
    rw [szJs] at hs
    rw [List.set_cons_zero, szJs]; exact ⟨h, hs.2⟩
  | y :: r, m, i + 1, x, hs, h => by
    rw [szJs] at hs
    rw [List.set_cons_succ, szJs]; exact ⟨hs.1, szJs_set hs.2 h⟩
theorem szJs_snoc : ∀ {l : List J} {m : Nat} {x : J}, szJs m l → szJ m x → szJs m (l ++ [x])
  | [], _, _, _, h => by rw [List.nil_append, szJs, szJs]; exact ⟨h, trivial⟩
  | y :: r, m, x, hs, h => by
    rw [szJs] at hs
    rw [List.cons_append, szJs]; exact ⟨hs.1, szJs_snoc hs.2 h⟩
theorem szJs_erase : ∀ {l : List J} {m i : Nat}, szJs m l → szJs m (l.eraseIdx i)
  | [], _, _, _ => by rw [List.eraseIdx_nil, szJs]; trivial
  | y :: r, m, 0, hs => by
    rw [szJs] at hs
    rw [List.eraseIdx_cons_zero]; exact hs.2
  | y :: r, m, i + 1, hs => by
    rw [szJs] at hs
    rw [List.eraseIdx_cons_succ, szJs]; exact ⟨hs.1, szJs_erase hs.2⟩
theorem sz_put : ∀ (l : List (List UInt8)) (x y z : J) (m : Nat), (∀ s ∈ l, s.length ≤ m) → szJ m x → szJ m y → putJ l x y = some z → szJ (m + 1) z
  | [], x, y, z, m, _, _, hy, h => by
    rw [putJ] at h
    obtain rfl := Option.some.inj h
    exact sz_up _ _ _ hy (by omega)
  | s :: r, x, y, z, m, hl, hx, hy, h => by
    have IH := fun x z => sz_put r x y z m (fun s hs => hl s (by simp [hs]))
    have he : szJ m (.obj [] []) := by rw [szJ, szJs]; simp
    cases x with
    | obj ns xs =>
      rw [putJ] at h
      have hx' := sz_up _ _ (m + 1) hx (by omega)
      rw [szJ] at hx hx'
      split at h
      · rename_i i hi
        split at h
        · rename_i y' hy'
          obtain ⟨w, hw, rfl⟩ := Option.map_eq_some_iff.1 h
          rw [szJ, List.length_set]
          exact ⟨by omega, hx'.2.1, szJs_set hx'.2.2 (IH _ _ (szJs_get hx.2.2 hy') hy hw)⟩
        · cases h
      · obtain ⟨w, hw, rfl⟩ := Option.map_eq_some_iff.1 h
        rw [szJ, List.length_append]
        refine ⟨by simp; omega, fun n hn => ?_, szJs_snoc hx'.2.2 (IH _ _ he hy hw)⟩
        rcases List.mem_append.1 hn with hn | hn
        · exact hx'.2.1 n hn
        · obtain rfl : n = s := by simpa using hn
          have := hl n (by simp); omega
    | list xs =>
      rw [putJ] at h
      have hx' := sz_up _ _ (m + 1) hx (by omega)
      rw [szJ] at hx hx'
      split at h
      · cases h
      · rename_i i hi
        split at h
        · rename_i y' hy'
          obtain ⟨w, hw, rfl⟩ := Option.map_eq_some_iff.1 h
          rw [szJ, List.length_set]
          exact ⟨by omega, szJs_set hx'.2 (IH _ _ (szJs_get hx.2 hy') hy hw)⟩
        · split at h
          · obtain ⟨w, hw, rfl⟩ := Option.map_eq_some_iff.1 h
            rw [szJ, List.length_append]
            exact ⟨by simp; omega, szJs_snoc hx'.2 (IH _ _ he hy hw)⟩
          · cases h
    | _ => rw [putJ] at h <;> first | cases h | (intros; simp)
theorem sz_drop : ∀ (l : List (List UInt8)) (x z : J) (m : Nat), szJ m x → dropJ l x = some z → szJ m z
  | [], x, z, m, _, h => by rw [dropJ] at h; cases h
  | s :: r, x, z, m, hx, h => by
    have IH := fun x z => sz_drop r x z m
    cases x with
    | obj ns xs =>
      rw [dropJ] at h
      rw [szJ] at hx
      split at h
      · rename_i i hi
        split at h
        · rename_i y' hy'
          split at h
          · obtain rfl := Option.some.inj h
            rw [szJ]
            exact ⟨Nat.le_trans (List.length_eraseIdx_le _ _) hx.1, fun n hn => hx.2.1 n ((List.eraseIdx_sublist _ _).subset hn), szJs_erase hx.2.2⟩
          · obtain ⟨w, hw, rfl⟩ := Option.map_eq_some_iff.1 h
            rw [szJ, List.length_set]
            exact ⟨hx.1, hx.2.1, szJs_set hx.2.2 (IH _ _ (szJs_get hx.2.2 hy') hw)⟩
        · cases h
      · cases h
    | list xs =>
      rw [dropJ] at h
      rw [szJ] at hx
      split at h
      · cases h
      · rename_i i hi
        split at h
        · rename_i y' hy'
          split at h
          · obtain rfl := Option.some.inj h
            rw [szJ]
            exact ⟨Nat.le_trans (List.length_eraseIdx_le _ _) hx.1, szJs_erase hx.2⟩
          · obtain ⟨w, hw, rfl⟩ := Option.map_eq_some_iff.1 h
            rw [szJ, List.length_set]
            exact ⟨hx.1, szJs_set hx.2 (IH _ _ (szJs_get hx.2 hy') hw)⟩
        · cases h
    | _ => rw [dropJ] at h <;> first | cases h | (intros; simp)
/-! ### What may be, but for depth -/
theorem okJs_get : ∀ {l : List J} {i : Nat} {x : J}, okJs l → l[i]? = some x → okJ x
  | [], _, _, _, h => by simp at h
  | y :: r, 0, x, hs, h => by
    rw [okJs] at hs
    obtain rfl : y = x := by simpa using h
    exact hs.1
  | y :: r, i + 1, x, hs, h => by
    rw [okJs] at hs
    exact okJs_get (l := r) (i := i) hs.2 (by simpa using h)
theorem okJs_set : ∀ {l : List J} {i : Nat} {x : J}, okJs l → okJ x → okJs (l.set i x)
  | [], _, _, _, _ => by rw [List.set_nil, okJs]; trivial
  | y :: r, 0, x, hs, h => by
    rw [okJs] at hs
    rw [List.set_cons_zero, okJs]; exact ⟨h, hs.2⟩
  | y :: r, i + 1, x, hs, h => by
    rw [okJs] at hs
    rw [List.set_cons_succ, okJs]; exact ⟨hs.1, okJs_set hs.2 h⟩
theorem okJs_snoc : ∀ {l : List J} {x : J}, okJs l → okJ x → okJs (l ++ [x])
  | [], _, _, h => by rw [List.nil_append, okJs, okJs]; exact ⟨h, trivial⟩
  | y :: r, x, hs, h => by
    rw [okJs] at hs
    rw [List.cons_append, okJs]; exact ⟨hs.1, okJs_snoc hs.2 h⟩
theorem okJs_erase : ∀ {l : List J} {i : Nat}, okJs l → okJs (l.eraseIdx i)
  | [], _, _ => by rw [List.eraseIdx_nil, okJs]; trivial
  | y :: r, 0, hs => by
    rw [okJs] at hs
    rw [List.eraseIdx_cons_zero]; exact hs.2
  | y :: r, i + 1, hs => by
    rw [okJs] at hs
    rw [List.eraseIdx_cons_succ, okJs]; exact ⟨hs.1, okJs_erase hs.2⟩
theorem nodup_snoc {α : Type} {l : List α} {a : α} (h : l.Nodup) (ha : a ∉ l) : (l ++ [a]).Nodup :=
  List.nodup_append.2 ⟨h, by simp, fun x hx y hy e => ha (by obtain rfl : y = a := by simpa using hy
                                                             exact e ▸ hx)⟩
mutual
def lenJ : J → Prop
  | .null => True
  | .bool _ => True
  | .num _ => True
  | .text _ => True
  | .list xs => lenJs xs
  | .obj ns xs => ns.length = xs.length ∧ lenJs xs
  | .other _ => True
def lenJs : List J → Prop
  | [] => True
  | x :: r => lenJ x ∧ lenJs r
end
mutual
theorem len_of_ok : ∀ (x : J), okJ x → lenJ x
  | .null, _ => by rw [lenJ]; trivial
  | .bool _, _ => by rw [lenJ]; trivial
  | .num _, _ => by rw [lenJ]; trivial
  | .text _, _ => by rw [lenJ]; trivial
  | .other _, _ => by rw [lenJ]; trivial
  | .list xs, h => by rw [okJ] at h; rw [lenJ]; exact lens_of_ok xs h
  | .obj ns xs, h => by rw [okJ] at h; rw [lenJ]; exact ⟨h.1, lens_of_ok xs h.2.2.2⟩
theorem lens_of_ok : ∀ (l : List J), okJs l → lenJs l
  | [], _ => by rw [lenJs]; trivial
  | x :: r, h => by rw [okJs] at h; rw [lenJs]; exact ⟨len_of_ok x h.1, lens_of_ok r h.2⟩
end
mutual
theorem IsJ.len {g : Gh} : ∀ (x : J) (v : Value), IsJ g x v → lenJ x
  | .null, _, _ => by rw [lenJ]; trivial
  | .bool _, _, _ => by rw [lenJ]; trivial
  | .num _, _, _ => by rw [lenJ]; trivial
  | .text _, _, _ => by rw [lenJ]; trivial
  | .other _, _, _ => by rw [lenJ]; trivial
  | .list xs, _, h => by
    rw [IsJ] at h
    obtain ⟨_, fl, _, _, h⟩ := h
    rw [lenJ]; exact IsJs.lens xs fl h
  | .obj ns xs, _, h => by
    rw [IsJ] at h
    obtain ⟨_, fl, _, _, h⟩ := h
    rw [lenJ]; exact ⟨h.len, IsMs.lens ns xs fl h⟩
theorem IsJs.lens {g : Gh} : ∀ (l : List J) (fl : List Value), IsJs g l fl → lenJs l
  | [], _, _ => by rw [lenJs]; trivial
  | x :: r, fl, h => by
    rw [IsJs] at h
    obtain ⟨v, f, _, h1, h2⟩ := h
    rw [lenJs]; exact ⟨IsJ.len x v h1, IsJs.lens r f h2⟩
theorem IsMs.lens {g : Gh} : ∀ (ns : List (List UInt8)) (l : List J) (fl : List Value), IsMs g ns l fl → lenJs l
  | _, [], _, _ => by rw [lenJs]; trivial
  | [], _ :: _, _, h => by rw [IsMs] at h; exact h.elim
  | n :: ns, x :: r, fl, h => by
    rw [IsMs] at h
    obtain ⟨v, f, _, h1, h2⟩ := h
    rw [lenJs]; exact ⟨IsJ.len x v h1, IsMs.lens ns r f h2⟩
end
mutual
theorem ok_of_look : ∀ (x : J) (w : Nat), lookJ x w = 0 → lenJ x → okJ x ∧ (depJ x = 0 ∨ depJ x + w ≤ 32)
  | .null, _, _, _ => by rw [okJ, depJ]; simp
  | .bool _, _, _, _ => by rw [okJ, depJ]; simp
  | .num n, _, h, _ => by rw [lookJ] at h; rw [okJ, depJ]; split at h <;> simp_all
  | .text s, _, h, _ => by rw [lookJ] at h; rw [okJ, depJ]; split at h <;> simp_all
  | .other _, _, h, _ => by rw [lookJ] at h; cases h
  | .list xs, w, h, hl => by
    rw [lookJ] at h
    rw [lenJ] at hl
    split at h
    · cases h
    · obtain ⟨h1, h2⟩ := oks_of_look xs w h hl
      rw [okJ, depJ]
      exact ⟨h1, .inr (by rcases h2 with h2 | h2 <;> omega)⟩
  | .obj ns xs, w, h, hl => by
    rw [lookJ] at h
    rw [lenJ] at hl
    split at h
    · cases h
    · obtain ⟨h1, h2, h3, h4⟩ := oko_of_look [] ns xs w h hl.2 hl.1
      rw [okJ, depJ]
      exact ⟨⟨hl.1, h3 (List.nodup_nil), fun n hn => h4 n hn, h1⟩, .inr (by rcases h2 with h2 | h2 <;> omega)⟩
theorem oks_of_look : ∀ (l : List J) (w : Nat), looks l w = 0 → lenJs l → okJs l ∧ (depJs l = 0 ∨ depJs l + (w + 1) ≤ 32)
  | [], _, _, _ => by rw [okJs, depJs]; simp
  | x :: r, w, h, hl => by
    rw [looks] at h
    rw [lenJs] at hl
    split at h
    · rename_i h1
      obtain ⟨a1, a2⟩ := ok_of_look x (w + 1) h1 hl.1
      obtain ⟨b1, b2⟩ := oks_of_look r w h hl.2
      rw [okJs, depJs]
      exact ⟨⟨a1, b1⟩, by omega⟩
    · exact absurd h (by assumption)
theorem oko_of_look : ∀ (seen ns : List (List UInt8)) (l : List J) (w : Nat), looko seen ns l w = 0 → lenJs l → ns.length = l.length → okJs l ∧ (depJs l = 0 ∨ depJs l + (w + 1) ≤ 32) ∧ (seen.Nodup → (seen ++ ns).Nodup) ∧ ∀ n ∈ ns, utfL n = true
  | seen, ns, [], _, _, _, hn => by
    obtain rfl : ns = [] := List.eq_nil_of_length_eq_zero hn
    rw [okJs, depJs]; simp
  | seen, [], _ :: _, _, _, _, hn => by simp at hn
  | seen, n :: ns, x :: r, w, h, hl, hn => by
    rw [looko] at h
    rw [lenJs] at hl
    rw [List.headD_cons, List.tail_cons] at h
    split at h
    · cases h
    rename_i hu
    split at h
    · cases h
    rename_i hs
    split at h
    · rename_i h1
      obtain ⟨a1, a2⟩ := ok_of_look x (w + 1) h1 hl.1
      obtain ⟨b1, b2, b3, b4⟩ := oko_of_look (seen ++ [n]) ns r w h hl.2 (by simpa using hn)
      rw [okJs, depJs]
      refine ⟨⟨a1, b1⟩, by omega, fun hd => ?_, fun m hm => ?_⟩
      · have := b3 (nodup_snoc hd hs)
        rw [List.append_assoc] at this; exact this
      · rcases List.mem_cons.1 hm with rfl | hm
        · simpa using hu
        · exact b4 m hm
    · exact absurd h (by assumption)
end
mutual
theorem look_of_ok : ∀ (x : J) (w : Nat), okJ x → lookJ x w = if depJ x = 0 ∨ depJ x + w ≤ 32 then 0 else 10
  | .null, w, _ => by rw [lookJ, depJ]; simp
  | .bool _, w, _ => by rw [lookJ, depJ]; simp
  | .num n, w, h => by rw [okJ] at h; rw [lookJ, depJ, if_pos h]; simp
  | .text s, w, h => by rw [okJ] at h; rw [lookJ, depJ, if_pos h]; simp
  | .other _, _, h => by rw [okJ] at h; exact h.elim
  | .list xs, w, h => by
    rw [okJ] at h
    rw [lookJ, depJ]
    by_cases hw : 32 ≤ w
    · rw [if_pos hw, if_neg (by omega)]
    · rw [if_neg hw, looks_of_ok xs w h]
      split <;> split <;> first | rfl | omega
  | .obj ns xs, w, h => by
    rw [okJ] at h
    rw [lookJ, depJ]
    by_cases hw : 32 ≤ w
    · rw [if_pos hw, if_neg (by omega)]
    · rw [if_neg hw, looko_of_ok [] ns xs w h.2.2.2 h.1 (by simpa using h.2.1) h.2.2.1]
      split <;> split <;> first | rfl | omega
theorem looks_of_ok : ∀ (l : List J) (w : Nat), okJs l → looks l w = if depJs l = 0 ∨ depJs l + (w + 1) ≤ 32 then 0 else 10
  | [], w, _ => by rw [looks, depJs]; simp
  | x :: r, w, h => by
    rw [okJs] at h
    rw [looks, depJs, look_of_ok x (w + 1) h.1, looks_of_ok r w h.2]
    by_cases h1 : depJ x = 0 ∨ depJ x + (w + 1) ≤ 32
    · rw [if_pos h1, if_pos rfl]
      split <;> split <;> first | rfl | omega
    · rw [if_neg h1, if_neg (by decide), if_neg (by omega)]
theorem looko_of_ok : ∀ (seen ns : List (List UInt8)) (l : List J) (w : Nat), okJs l → ns.length = l.length → (seen ++ ns).Nodup → (∀ n ∈ ns, utfL n = true) → looko seen ns l w = if depJs l = 0 ∨ depJs l + (w + 1) ≤ 32 then 0 else 10
  | seen, ns, [], w, _, _, _, _ => by rw [looko, depJs]; simp
  | seen, [], _ :: _, _, _, hn, _, _ => by simp at hn
  | seen, n :: ns, x :: r, w, h, hn, hd, hu => by
    rw [okJs] at h
    have hns : n ∉ seen := fun hm => (List.nodup_append.1 hd).2.2 n hm n (by simp) rfl
    rw [looko, List.headD_cons, List.tail_cons, if_neg (by rw [hu n (by simp)]; simp), if_neg hns, depJs, look_of_ok x (w + 1) h.1, looko_of_ok (seen ++ [n]) ns r w h.2 (by simpa using hn) (by rw [List.append_assoc]; exact hd) (fun m hm => hu m (by simp [hm]))]
    by_cases h1 : depJ x = 0 ∨ depJ x + (w + 1) ≤ 32
    · rw [if_pos h1, if_pos rfl]
      split <;> split <;> first | rfl | omega
    · rw [if_neg h1, if_neg (by decide), if_neg (by omega)]
end
theorem ok_put : ∀ (l : List (List UInt8)) (x y z : J), (∀ s ∈ l, utfL s = true) → okJ x → okJ y → putJ l x y = some z → okJ z
  | [], x, y, z, _, _, hy, h => by
    rw [putJ] at h
    obtain rfl := Option.some.inj h
    exact hy
  | s :: r, x, y, z, hl, hx, hy, h => by
    have IH := fun x z => ok_put r x y z (fun s hs => hl s (by simp [hs]))
    have he : okJ (.obj [] []) := by rw [okJ, okJs]; simp
    cases x with
    | obj ns xs =>
      rw [putJ] at h
      rw [okJ] at hx
      split at h
      · rename_i i hi
        split at h
        · rename_i y' hy'
          obtain ⟨w, hw, rfl⟩ := Option.map_eq_some_iff.1 h
          rw [okJ, List.length_set]
          exact ⟨hx.1, hx.2.1, hx.2.2.1, okJs_set hx.2.2.2 (IH _ _ (okJs_get hx.2.2.2 hy') hy hw)⟩
        · cases h
      · rename_i hi
        obtain ⟨w, hw, rfl⟩ := Option.map_eq_some_iff.1 h
        rw [okJ, List.length_append, List.length_append]
        refine ⟨by simp [hx.1], nodup_snoc hx.2.1 (fun hm => idxN_none hi s hm rfl), fun n hn => ?_, okJs_snoc hx.2.2.2 (IH _ _ he hy hw)⟩
        rcases List.mem_append.1 hn with hn | hn
        · exact hx.2.2.1 n hn
        · obtain rfl : n = s := by simpa using hn
          exact hl n (by simp)
    | list xs =>
      rw [putJ] at h
      rw [okJ] at hx
      split at h
      · cases h
      · rename_i i hi
        split at h
        · rename_i y' hy'
          obtain ⟨w, hw, rfl⟩ := Option.map_eq_some_iff.1 h
          rw [okJ]
          exact okJs_set hx (IH _ _ (okJs_get hx hy') hy hw)
        · split at h
          · obtain ⟨w, hw, rfl⟩ := Option.map_eq_some_iff.1 h
            rw [okJ]
            exact okJs_snoc hx (IH _ _ he hy hw)
          · cases h
    | _ => rw [putJ] at h <;> first | cases h | (intros; simp)
theorem nodup_erase {α : Type} {l : List α} (h : l.Nodup) (i : Nat) : (l.eraseIdx i).Nodup := h.sublist (List.eraseIdx_sublist _ _)
theorem ok_drop : ∀ (l : List (List UInt8)) (x z : J), okJ x → dropJ l x = some z → okJ z
  | [], x, z, _, h => by rw [dropJ] at h; cases h
  | s :: r, x, z, hx, h => by
    have IH := fun x z => ok_drop r x z
    cases x with
    | obj ns xs =>
      rw [dropJ] at h
      rw [okJ] at hx
      split at h
      · rename_i i hi
        have hil := idxN_lt hi
        split at h
        · rename_i y' hy'
          split at h
          · obtain rfl := Option.some.inj h
            rw [okJ]
            exact ⟨by rw [List.length_eraseIdx, List.length_eraseIdx, hx.1], nodup_erase hx.2.1 i, fun n hn => hx.2.2.1 n ((List.eraseIdx_sublist _ _).subset hn), okJs_erase hx.2.2.2⟩
          · obtain ⟨w, hw, rfl⟩ := Option.map_eq_some_iff.1 h
            rw [okJ, List.length_set]
            exact ⟨hx.1, hx.2.1, hx.2.2.1, okJs_set hx.2.2.2 (IH _ _ (okJs_get hx.2.2.2 hy') hw)⟩
        · cases h
      · cases h
    | list xs =>
      rw [dropJ] at h
      rw [okJ] at hx
      split at h
      · cases h
      · rename_i i hi
        split at h
        · rename_i y' hy'
          split at h
          · obtain rfl := Option.some.inj h
            rw [okJ]
            exact okJs_erase hx
          · obtain ⟨w, hw, rfl⟩ := Option.map_eq_some_iff.1 h
            rw [okJ]
            exact okJs_set hx (IH _ _ (okJs_get hx hy') hw)
        · cases h
    | _ => rw [dropJ] at h <;> first | cases h | (intros; simp)
end Go.Proofs.YthngolfabfijpaaGreatDoor
namespace Go.Proofs.YthngolfabfijpaaGreatDoor
open Go.RowKit

/-! ### A step as a number -/
/-! ### The document's values, how great -/
mutual
def wfN (m : Nat) : DV → Prop
  | .mk k _ _ s items names => s.length ≤ m ∧ items.length ≤ m ∧ (k = 5 → names.length = items.length ∧ ∀ x ∈ names, x.length ≤ m) ∧ (k = 4 ∨ k = 5 → wfNs m items)
def wfNs (m : Nat) : List DV → Prop
  | [] => True
  | x :: r => wfN m x ∧ wfNs m r
end
mutual
theorem wfN_of_cnt : ∀ (x : DV) (l : Int), l ≤ 1000 → 0 ≤ cnt x l → wfN 300 x
  | .mk k b n s items names, l, hl, h => by
    rw [cnt] at h
    split at h
    · omega
    rename_i hc
    rw [wfN]
    split at h
    · rename_i hk
      have := wfNs_of_cnts (decide (k = 5)) names items (l - 1) (by omega) (by omega) h
      refine ⟨by omega, by omega, fun hk5 => ?_, fun _ => this.1⟩
      have hlen : names.length = items.length := by
        by_cases e : names.length = items.length
        · exact e
        · exact absurd (.inr (.inr (.inr ⟨hk5, e⟩))) hc
      exact ⟨hlen, fun x hx => this.2 (by simp [hk5]) hlen x hx⟩
    · rename_i hk
      exact ⟨by omega, by omega, fun h5 => absurd (.inr h5) hk, fun h5 => absurd h5 hk⟩
theorem wfNs_of_cnts (o : Bool) : ∀ (ns : List (List UInt8)) (l : List DV) (m : Int), 0 ≤ m → m ≤ 1000 → 0 ≤ cnts o ns l m → wfNs 300 l ∧ (o = true → ns.length = l.length → ∀ x ∈ ns, x.length ≤ 300)
  | ns, [], m, h0, hm, h => by
    rw [wfNs]
    refine ⟨trivial, fun _ hl x hx => ?_⟩
    rw [List.eq_nil_of_length_eq_zero hl] at hx
    cases hx
  | ns, x :: r, m, h0, hm, h => by
    rw [cnts] at h
    split at h
    · omega
    rename_i hc
    split at h
    · omega
    rename_i hc2
    have hb := cnt_bd x m h0 hm
    have h1 := wfN_of_cnt x m hm (by omega)
    have h2 := wfNs_of_cnts o ns.tail r (cnt x m) (by omega) (by omega) h
    rw [wfNs]
    refine ⟨⟨h1, h2.1⟩, fun ho hl y hy => ?_⟩
    cases ns with
    | nil => cases hy
    | cons a t =>
      rcases List.mem_cons.1 hy with rfl | hy
      · simp only [List.headD_cons] at hc
        by_cases e : 300 < y.length
        · exact absurd ⟨ho, e⟩ hc
        · omega
      · exact h2.2 ho (by simpa using hl) y hy
end
theorem wfN_of_light {x : DV} (h : lightB x = true) : wfN 300 x := wfN_of_cnt x 300 (by decide) (of_decide_eq_true h)
theorem wfNs.get : ∀ {l : List DV} {m i : Nat} {x : DV}, wfNs m l → l[i]? = some x → wfN m x
  | [], _, _, _, _, h => by simp at h
  | y :: r, m, 0, x, h, hx => by
    rw [wfNs] at h
    obtain rfl : y = x := by simpa using hx
    exact h.1
  | y :: r, m, i + 1, x, h, hx => by
    rw [wfNs] at h
    exact wfNs.get h.2 (i := i) (by simpa using hx)
theorem wfNs.set : ∀ {l : List DV} {m i : Nat} {x : DV}, wfNs m l → wfN m x → wfNs m (l.set i x)
  | [], _, _, _, _, _ => by rw [List.set_nil, wfNs]; trivial
  | y :: r, m, 0, x, h, hx => by
    rw [wfNs] at h
    rw [List.set_cons_zero, wfNs]; exact ⟨hx, h.2⟩
  | y :: r, m, i + 1, x, h, hx => by
    rw [wfNs] at h
    rw [List.set_cons_succ, wfNs]; exact ⟨h.1, wfNs.set h.2 hx⟩
theorem wfNs.snoc : ∀ {l : List DV} {m : Nat} {x : DV}, wfNs m l → wfN m x → wfNs m (l ++ [x])
  | [], _, _, _, hx => by rw [List.nil_append, wfNs, wfNs]; exact ⟨hx, trivial⟩
  | y :: r, m, x, h, hx => by
    rw [wfNs] at h
    rw [List.cons_append, wfNs]; exact ⟨h.1, wfNs.snoc h.2 hx⟩
theorem szs_map : ∀ (l : List DV) (m : Nat), (∀ x ∈ l, szJ m (toJ x)) → szJs m (l.map toJ)
  | [], _, _ => by rw [List.map_nil, szJs]; trivial
  | x :: r, m, h => by rw [List.map_cons, szJs]; exact ⟨h x (by simp), szs_map r m (fun y hy => h y (by simp [hy]))⟩
theorem lens_map : ∀ (l : List DV), (∀ x ∈ l, lenJ (toJ x)) → lenJs (l.map toJ)
  | [], _ => by rw [List.map_nil, lenJs]; trivial
  | x :: r, h => by rw [List.map_cons, lenJs]; exact ⟨h x (by simp), lens_map r (fun y hy => h y (by simp [hy]))⟩
theorem wfNs.mem {l : List DV} {m : Nat} {x : DV} (h : wfNs m l) (hx : x ∈ l) : wfN m x := by
  obtain ⟨i, hi⟩ := List.getElem?_of_mem hx
  exact h.get hi
theorem sz_toJ : ∀ (N : Nat) (x : DV), dsz x ≤ N → ∀ m, wfN m x → szJ m (toJ x) ∧ lenJ (toJ x)
  | 0, .mk .., h, _, _ => by rw [dsz] at h; omega
  | N + 1, .mk k b n s items names, h, m, hw => by
    have IH := sz_toJ N
    rw [dsz] at h
    rw [wfN] at hw
    have hI : k = 4 ∨ k = 5 → ∀ x ∈ items, szJ m (toJ x) ∧ lenJ (toJ x) := fun hk x hx => by
      obtain ⟨i, hi⟩ := List.getElem?_of_mem hx
      exact IH x (by have := dsz_get hi; omega) m ((hw.2.2.2 hk).mem hx)
    rw [toJ_eq]
    split
    · rw [szJ, lenJ]; simp
    split
    · rw [szJ, lenJ]; simp
    split
    · rw [szJ, lenJ]; simp
    split
    · rw [szJ, lenJ]; exact ⟨hw.1, trivial⟩
    split
    · rename_i hk
      rw [szJ, lenJ, List.length_map]
      exact ⟨⟨hw.2.1, szs_map _ _ fun x hx => (hI (.inl hk) x hx).1⟩, lens_map _ fun x hx => (hI (.inl hk) x hx).2⟩
    split
    · rename_i hk
      rw [szJ, lenJ, List.length_map]
      exact ⟨⟨hw.2.1, (hw.2.2.1 hk).2, szs_map _ _ fun x hx => (hI (.inr hk) x hx).1⟩, (hw.2.2.1 hk).1, lens_map _ fun x hx => (hI (.inr hk) x hx).2⟩
    · rw [szJ, lenJ]; simp
/-! ### Depth -/
/-! ### What becomes of the document's values -/
/-! ### All paths -/
end Go.Proofs.YthngolfabfijpaaGreatDoor
namespace Go.Proofs.YthngolfabfijpaaGreatDoor
open Go.RowKit Go.TL

theorem get_obj {ns : List (List UInt8)} {xs : List J} {s : List UInt8} {r : List (List UInt8)} : getJ (s :: r) (.obj ns xs) = ((idxN ns s).bind (xs[·]?)).bind (getJ r) := rfl
theorem get_list {xs : List J} {s : List UInt8} {r : List (List UInt8)} : getJ (s :: r) (.list xs) = ((itemL s).bind (xs[·]?)).bind (getJ r) := rfl
theorem lenJs_get : ∀ {l : List J} {i : Nat} {x : J}, lenJs l → l[i]? = some x → lenJ x
  | [], _, _, _, h => by simp at h
  | y :: r, 0, x, hs, h => by
    rw [lenJs] at hs
    obtain rfl : y = x := by simpa using h
    exact hs.1
  | y :: r, i + 1, x, hs, h => by
    rw [lenJs] at hs
    exact lenJs_get (l := r) (i := i) hs.2 (by simpa using h)
theorem drop_some : ∀ (l : List (List UInt8)) (z y : J), l ≠ [] → getJ l z = some y → ∃ w, dropJ l z = some w
  | [], z, y, h, _ => absurd rfl h
  | s :: r, z, y, _, h => by
    cases z with
    | obj ns xs =>
      rw [get_obj] at h
      obtain ⟨u, hu, h⟩ := Option.bind_eq_some_iff.1 h
      obtain ⟨i, hi, hu⟩ := Option.bind_eq_some_iff.1 hu
      rw [dropJ, hi]
      simp only [hu]
      by_cases hr : r = []
      · rw [if_pos hr]; exact ⟨_, rfl⟩
      · obtain ⟨w, hw⟩ := drop_some r u y hr h
        rw [if_neg hr, hw]; exact ⟨_, rfl⟩
    | list xs =>
      rw [get_list] at h
      obtain ⟨u, hu, h⟩ := Option.bind_eq_some_iff.1 h
      obtain ⟨i, hi, hu⟩ := Option.bind_eq_some_iff.1 hu
      rw [dropJ, hi]
      simp only [hu]
      by_cases hr : r = []
      · rw [if_pos hr]; exact ⟨_, rfl⟩
      · obtain ⟨w, hw⟩ := drop_some r u y hr h
        rw [if_neg hr, hw]; exact ⟨_, rfl⟩
    | _ => cases h
/-! ### Steps and texts -/
end Go.Proofs.YthngolfabfijpaaGreatDoor
namespace Go.Proofs.YthngolfabfijpaaGreatDoor
open Go.RowKit Go.TL

mutual
theorem same_refl : ∀ (x : J), okJ x → sameJ x x = true
  | .null, _ => by rw [sameJ]
  | .bool _, _ => by rw [sameJ]; simp
  | .num _, _ => by rw [sameJ]; simp
  | .text _, _ => by rw [sameJ]; simp
  | .list xs, h => by
    rw [okJ] at h
    rw [sameJ, sames_refl xs h]; simp
  | .obj ns xs, h => by
    rw [okJ] at h
    rw [sameJ, sameo_refl ns xs h.1 h.2.2.2]; simp
  | .other _, h => by rw [okJ] at h; exact h.elim
theorem sames_refl : ∀ (l : List J), okJs l → sames l l = true
  | [], _ => by rw [sames]; intros; simp_all
  | x :: r, h => by
    rw [okJs] at h
    rw [sames, same_refl x h.1, sames_refl r h.2]; rfl
theorem sameo_refl : ∀ (ns : List (List UInt8)) (l : List J), ns.length = l.length → okJs l → sameo ns l ns l = true
  | ns, [], hn, _ => by
    obtain rfl : ns = [] := List.eq_nil_of_length_eq_zero hn
    rw [sameo]; intros; simp_all
  | [], _ :: _, hn, _ => by simp at hn
  | n :: ns, x :: r, hn, h => by
    rw [okJs] at h
    rw [sameo, same_refl x h.1, sameo_refl ns r (by simpa using hn) h.2]; simp
end
def putE (x : J) (p : List UInt8) (y : J) : Nat × Option J := match stepsL p with
  | none => (16, none)
  | some l => if lookJ x 0 ≠ 0 then (lookJ x 0, none) else if lookJ y 0 ≠ 0 then (lookJ y 0, none) else match putJ l x y with
    | none => (14, none)
    | some z => if lookJ z 0 ≠ 0 then (lookJ z 0, none) else (0, some z)
def dropE (x : J) (p : List UInt8) : Nat × Option J := match stepsL p with
  | none => (16, none)
  | some l => if lookJ x 0 ≠ 0 then (lookJ x 0, none) else match dropJ l x with
    | none => (7, none)
    | some z => (0, some z)
theorem put_ok {l : List (List UInt8)} {p : List UInt8} {x y z : J} (hp : stepsL p = some l) (lx : lenJ x) (ly : lenJ y) (hx : lookJ x 0 = 0) (hy : lookJ y 0 = 0) (h : putJ l x y = some z) : okJ z :=
  ok_put l x y z (fun s hs => ((stepsL_some hp).2.2.2.2 s hs).2.2) (ok_of_look x 0 hx lx).1 (ok_of_look y 0 hy ly).1 h
theorem look_ok0 {z : J} (h : okJ z) : lookJ z 0 = if depJ z ≤ 32 then 0 else 10 := by
  rw [look_of_ok z 0 h]
  split <;> split <;> first | rfl | omega
theorem drop_ok {l : List (List UInt8)} {x z : J} (lx : lenJ x) (hx : lookJ x 0 = 0) (h : dropJ l x = some z) : okJ z := ok_drop l x z (ok_of_look x 0 hx lx).1 h
mutual
theorem dep_set : ∀ (l : List J) (i : Nat) (y z : J), l[i]? = some y → depJ z ≤ depJ y → depJs (l.set i z) ≤ depJs l
  | [], _, _, _, h, _ => by simp at h
  | x :: r, 0, y, z, h, hz => by
    obtain rfl : x = y := by simpa using h
    rw [List.set_cons_zero, depJs, depJs]; omega
  | x :: r, i + 1, y, z, h, hz => by
    have := dep_set r i y z (by simpa using h) hz
    rw [List.set_cons_succ, depJs, depJs]; omega
end
theorem dep_erase : ∀ (l : List J) (i : Nat), depJs (l.eraseIdx i) ≤ depJs l
  | [], _ => by rw [List.eraseIdx_nil]; exact Nat.le_refl _
  | x :: r, 0 => by rw [List.eraseIdx_cons_zero, depJs]; omega
  | x :: r, i + 1 => by
    have := dep_erase r i
    rw [List.eraseIdx_cons_succ, depJs, depJs]; omega
theorem dep_drop : ∀ (l : List (List UInt8)) (x z : J), dropJ l x = some z → depJ z ≤ depJ x
  | [], x, z, h => by rw [dropJ] at h; cases h
  | s :: r, x, z, h => by
    have IH := fun x z => dep_drop r x z
    cases x with
    | obj ns xs =>
      rw [dropJ] at h
      split at h
      · split at h
        · rename_i y hy
          split at h
          · obtain rfl := Option.some.inj h
            rw [depJ, depJ]; have := dep_erase xs (by assumption); omega
          · obtain ⟨w, hw, rfl⟩ := Option.map_eq_some_iff.1 h
            rw [depJ, depJ]
            have := dep_set _ _ _ _ hy (IH _ _ hw)
            omega
        · cases h
      · cases h
    | list xs =>
      rw [dropJ] at h
      split at h
      · cases h
      · split at h
        · rename_i y hy
          split at h
          · obtain rfl := Option.some.inj h
            rw [depJ, depJ]; have := dep_erase xs (by assumption); omega
          · obtain ⟨w, hw, rfl⟩ := Option.map_eq_some_iff.1 h
            rw [depJ, depJ]
            have := dep_set _ _ _ _ hy (IH _ _ hw)
            omega
        · cases h
    | _ => rw [dropJ] at h <;> first | cases h | (intros; simp)
theorem drop_look {l : List (List UInt8)} {x z : J} (lx : lenJ x) (hx : lookJ x 0 = 0) (h : dropJ l x = some z) : lookJ z 0 = 0 := by
  have h1 := ok_of_look x 0 hx lx
  have h2 := dep_drop l x z h
  rw [look_ok0 (drop_ok lx hx h), if_pos (by omega)]
theorem putE_some {x y z : J} {p : List UInt8} {e : Nat} (h : putE x p y = (e, some z)) : e = 0 ∧ ∃ l, stepsL p = some l ∧ lookJ x 0 = 0 ∧ lookJ y 0 = 0 ∧ putJ l x y = some z ∧ lookJ z 0 = 0 := by
  unfold putE at h
  split at h
  · cases h
  · rename_i l hl
    split at h
    · cases h
    split at h
    · cases h
    split at h
    · cases h
    · rename_i z' hz
      split at h
      · cases h
      · obtain ⟨rfl, h2⟩ := Prod.mk.inj h
        obtain rfl := Option.some.inj h2
        exact ⟨rfl, l, hl, by omega, by omega, hz, by omega⟩
theorem putE_none {x y : J} {p : List UInt8} {e : Nat} (h : putE x p y = (e, none)) : e ≠ 0 := by
  unfold putE at h
  split at h
  · obtain ⟨rfl, _⟩ := Prod.mk.inj h; decide
  · split at h
    · obtain ⟨rfl, _⟩ := Prod.mk.inj h; assumption
    split at h
    · obtain ⟨rfl, _⟩ := Prod.mk.inj h; assumption
    split at h
    · obtain ⟨rfl, _⟩ := Prod.mk.inj h; decide
    · split at h
      · obtain ⟨rfl, _⟩ := Prod.mk.inj h; assumption
      · cases h
theorem dropE_some {x z : J} {p : List UInt8} {e : Nat} (h : dropE x p = (e, some z)) : e = 0 ∧ ∃ l, stepsL p = some l ∧ lookJ x 0 = 0 ∧ dropJ l x = some z := by
  unfold dropE at h
  split at h
  · cases h
  · rename_i l hl
    split at h
    · cases h
    split at h
    · cases h
    · rename_i z' hz
      obtain ⟨rfl, h2⟩ := Prod.mk.inj h
      obtain rfl := Option.some.inj h2
      exact ⟨rfl, l, hl, by omega, hz⟩
theorem dropE_none {x : J} {p : List UInt8} {e : Nat} (h : dropE x p = (e, none)) : e ≠ 0 := by
  unfold dropE at h
  split at h
  · obtain ⟨rfl, _⟩ := Prod.mk.inj h; decide
  · split at h
    · obtain ⟨rfl, _⟩ := Prod.mk.inj h; assumption
    split at h
    · obtain ⟨rfl, _⟩ := Prod.mk.inj h; decide
    · cases h
end Go.Proofs.YthngolfabfijpaaGreatDoor
