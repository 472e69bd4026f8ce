/-
  What paths do to values: the plain law. What paths do to the document's values; how great values are; depth.
-/
import Derived.Test.YtfmadoeadmclbaaGreatDoorHc21
import Derived.Test.YtfmadoeadmclbaaGreatDoorHc17
import Derived.Test.YtfmadoeadmclbaaGreatDoorHc12
namespace Go.Proofs.YtfmadoeadmclbaaGreatDoor
open Go.RowKit

def idxN : List (List UInt8) → List UInt8 → Option Nat
  | [], _ => none
  | n :: r, s => if n = s then some 0 else (idxN r s).map (· + 1)
theorem idxN_some : ∀ {ns : List (List UInt8)} {s : List UInt8} {k : Nat}, idxN ns s = some k → ns[k]? = some s ∧ ∀ i, i < k → ns[i]? ≠ some s
  | [], _, _, h => by cases h
  | n :: r, s, k, h => by
    rw [idxN] at h
    by_cases e : n = s
    · rw [if_pos e] at h
      obtain rfl := Option.some.inj h
      exact ⟨by simp [e], fun i hi => by omega⟩
    · rw [if_neg e] at h
      obtain ⟨j, hj, rfl⟩ := Option.map_eq_some_iff.1 h
      obtain ⟨h1, h2⟩ := idxN_some hj
      refine ⟨by simpa using h1, fun i hi => ?_⟩
      cases i with
      | zero => simpa using e
      | succ i => simpa using h2 i (by omega)
theorem idxN_none : ∀ {ns : List (List UInt8)} {s : List UInt8}, idxN ns s = none → ∀ n ∈ ns, n ≠ s
  | [], _, _, _, h => by cases h
  | n :: r, s, h, m, hm => by
    rw [idxN] at h
    by_cases e : n = s
    · rw [if_pos e] at h; cases h
    · rw [if_neg e] at h
      rcases List.mem_cons.1 hm with rfl | hm
      · exact e
      · exact idxN_none (Option.map_eq_none_iff.1 h) m hm
theorem idxN_lt {ns : List (List UInt8)} {s : List UInt8} {k : Nat} (h : idxN ns s = some k) : k < ns.length := (List.getElem?_eq_some_iff.1 (idxN_some h).1).1
mutual
def depJ : J → Nat
  | .list xs => depJs xs + 1
  | .obj _ xs => depJs xs + 1
  | .null => 0
  | .bool _ => 0
  | .num _ => 0
  | .text _ => 0
  | .other _ => 0
def depJs : List J → Nat
  | [] => 0
  | x :: r => max (depJ x) (depJs r)
end
mutual
def okJ : J → Prop
  | .null => True
  | .bool _ => True
  | .num n => heldB n = true
  | .text s => utfL s = true
  | .list xs => okJs xs
  | .obj ns xs => ns.length = xs.length ∧ ns.Nodup ∧ (∀ n ∈ ns, utfL n = true) ∧ okJs xs
  | .other _ => False
def okJs : List J → Prop
  | [] => True
  | x :: r => okJ x ∧ okJs r
end
end Go.Proofs.YtfmadoeadmclbaaGreatDoor
namespace Go.Proofs.YtfmadoeadmclbaaGreatDoor
open Go.RowKit Go.TL

/-! ### How great -/
mutual
def szJ (m : Nat) : J → Prop
  | .null => True
  | .bool _ => True
  | .num _ => True
  | .text s => s.length ≤ m
  | .list xs => xs.length ≤ m ∧ szJs m xs
  | .obj ns xs => xs.length ≤ m ∧ (∀ n ∈ ns, n.length ≤ m) ∧ szJs m xs
  | .other _ => True
def szJs (m : Nat) : List J → Prop
  | [] => True
  | x :: r => szJ m x ∧ szJs m r
end
mutual
theorem sm_of_sz : ∀ (x : J) (m : Nat), szJ m x → m ≤ 1000000 → smJ x
  | .null, _, _, _ => by rw [smJ]; trivial
  | .bool _, _, _, _ => by rw [smJ]; trivial
  | .num _, _, _, _ => by rw [smJ]; trivial
  | .other _, _, _, _ => by rw [smJ]; trivial
  | .text s, m, h, hm => by rw [szJ] at h; rw [smJ]; omega
  | .list xs, m, h, hm => by rw [szJ] at h; rw [smJ]; exact ⟨by omega, sms_of_sz xs m h.2 hm⟩
  | .obj ns xs, m, h, hm => by rw [szJ] at h; rw [smJ]; exact ⟨by omega, fun n hn => Nat.le_trans (h.2.1 n hn) hm, sms_of_sz xs m h.2.2 hm⟩
theorem sms_of_sz : ∀ (l : List J) (m : Nat), szJs m l → m ≤ 1000000 → smJs l
  | [], _, _, _ => by rw [smJs]; trivial
  | x :: r, m, h, hm => by rw [szJs] at h; rw [smJs]; exact ⟨sm_of_sz x m h.1 hm, sms_of_sz r m h.2 hm⟩
end
/-! ### What may be, but for depth -/
theorem okJs_get : ∀ {l : List J} {i : Nat} {x : J}, okJs l → l[i]? = some x → okJ x
  | [], _, _, _, h => by simp at h
  | y :: r, 0, x, hs, h => by
    rw [okJs] at hs
    obtain rfl : y = x := by simpa using h
    exact hs.1
  | y :: r, i + 1, x, hs, h => by
    rw [okJs] at hs
    exact okJs_get (l := r) (i := i) hs.2 (by simpa using h)
theorem nodup_snoc {α : Type} {l : List α} {a : α} (h : l.Nodup) (ha : a ∉ l) : (l ++ [a]).Nodup :=
  List.nodup_append.2 ⟨h, by simp, fun x hx y hy e => ha (by obtain rfl : y = a := by simpa using hy
                                                             exact e ▸ hx)⟩
mutual
def lenJ : J → Prop
  | .null => True
  | .bool _ => True
  | .num _ => True
  | .text _ => True
  | .list xs => lenJs xs
  | .obj ns xs => ns.length = xs.length ∧ lenJs xs
  | .other _ => True
def lenJs : List J → Prop
  | [] => True
  | x :: r => lenJ x ∧ lenJs r
end
mutual
theorem len_of_ok : ∀ (x : J), okJ x → lenJ x
  | .null, _ => by rw [lenJ]; trivial
  | .bool _, _ => by rw [lenJ]; trivial
  | .num _, _ => by rw [lenJ]; trivial
  | .text _, _ => by rw [lenJ]; trivial
  | .other _, _ => by rw [lenJ]; trivial
  | .list xs, h => by rw [okJ] at h; rw [lenJ]; exact lens_of_ok xs h
  | .obj ns xs, h => by rw [okJ] at h; rw [lenJ]; exact ⟨h.1, lens_of_ok xs h.2.2.2⟩
theorem lens_of_ok : ∀ (l : List J), okJs l → lenJs l
  | [], _ => by rw [lenJs]; trivial
  | x :: r, h => by rw [okJs] at h; rw [lenJs]; exact ⟨len_of_ok x h.1, lens_of_ok r h.2⟩
end
mutual
theorem IsJ.len {g : Gh} : ∀ (x : J) (v : Value), IsJ g x v → lenJ x
  | .null, _, _ => by rw [lenJ]; trivial
  | .bool _, _, _ => by rw [lenJ]; trivial
  | .num _, _, _ => by rw [lenJ]; trivial
  | .text _, _, _ => by rw [lenJ]; trivial
  | .other _, _, _ => by rw [lenJ]; trivial
  | .list xs, _, h => by
    rw [IsJ] at h
    obtain ⟨_, fl, _, _, h⟩ := h
    rw [lenJ]; exact IsJs.lens xs fl h
  | .obj ns xs, _, h => by
    rw [IsJ] at h
    obtain ⟨_, fl, _, _, h⟩ := h
    rw [lenJ]; exact ⟨h.len, IsMs.lens ns xs fl h⟩
theorem IsJs.lens {g : Gh} : ∀ (l : List J) (fl : List Value), IsJs g l fl → lenJs l
  | [], _, _ => by rw [lenJs]; trivial
  | x :: r, fl, h => by
    rw [IsJs] at h
    obtain ⟨v, f, _, h1, h2⟩ := h
    rw [lenJs]; exact ⟨IsJ.len x v h1, IsJs.lens r f h2⟩
theorem IsMs.lens {g : Gh} : ∀ (ns : List (List UInt8)) (l : List J) (fl : List Value), IsMs g ns l fl → lenJs l
  | _, [], _, _ => by rw [lenJs]; trivial
  | [], _ :: _, _, h => by rw [IsMs] at h; exact h.elim
  | n :: ns, x :: r, fl, h => by
    rw [IsMs] at h
    obtain ⟨v, f, _, h1, h2⟩ := h
    rw [lenJs]; exact ⟨IsJ.len x v h1, IsMs.lens ns r f h2⟩
end
mutual
theorem ok_of_look : ∀ (x : J) (w : Nat), lookJ x w = 0 → lenJ x → okJ x ∧ (depJ x = 0 ∨ depJ x + w ≤ 32)
  | .null, _, _, _ => by rw [okJ, depJ]; simp
  | .bool _, _, _, _ => by rw [okJ, depJ]; simp
  | .num n, _, h, _ => by rw [lookJ] at h; rw [okJ, depJ]; split at h <;> simp_all
  | .text s, _, h, _ => by rw [lookJ] at h; rw [okJ, depJ]; split at h <;> simp_all
  | .other _, _, h, _ => by rw [lookJ] at h; cases h
  | .list xs, w, h, hl => by
    rw [lookJ] at h
    rw [lenJ] at hl
    split at h
    · cases h
    · obtain ⟨h1, h2⟩ := oks_of_look xs w h hl
      rw [okJ, depJ]
      exact ⟨h1, .inr (by rcases h2 with h2 | h2 <;> omega)⟩
  | .obj ns xs, w, h, hl => by
    rw [lookJ] at h
    rw [lenJ] at hl
    split at h
    · cases h
    · obtain ⟨h1, h2, h3, h4⟩ := oko_of_look [] ns xs w h hl.2 hl.1
      rw [okJ, depJ]
      exact ⟨⟨hl.1, h3 (List.nodup_nil), fun n hn => h4 n hn, h1⟩, .inr (by rcases h2 with h2 | h2 <;> omega)⟩
theorem oks_of_look : ∀ (l : List J) (w : Nat), looks l w = 0 → lenJs l → okJs l ∧ (depJs l = 0 ∨ depJs l + (w + 1) ≤ 32)
  | [], _, _, _ => by rw [okJs, depJs]; simp
  | x :: r, w, h, hl => by
    rw [looks] at h
    rw [lenJs] at hl
    split at h
    · rename_i h1
      obtain ⟨a1, a2⟩ := ok_of_look x (w + 1) h1 hl.1
      obtain ⟨b1, b2⟩ := oks_of_look r w h hl.2
      rw [okJs, depJs]
      exact ⟨⟨a1, b1⟩, by omega⟩
    · exact absurd h (by assumption)
theorem oko_of_look : ∀ (seen ns : List (List UInt8)) (l : List J) (w : Nat), looko seen ns l w = 0 → lenJs l → ns.length = l.length → okJs l ∧ (depJs l = 0 ∨ depJs l + (w + 1) ≤ 32) ∧ (seen.Nodup → (seen ++ ns).Nodup) ∧ ∀ n ∈ ns, utfL n = true
  | seen, ns, [], _, _, _, hn => by
    obtain rfl : ns = [] := List.eq_nil_of_length_eq_zero hn
    rw [okJs, depJs]; simp
  | seen, [], _ :: _, _, _, _, hn => by simp at hn
  | seen, n :: ns, x :: r, w, h, hl, hn => by
    rw [looko] at h
    rw [lenJs] at hl
    rw [List.headD_cons, List.tail_cons] at h
    split at h
    · cases h
    rename_i hu
    split at h
    · cases h
    rename_i hs
    split at h
    · rename_i h1
      obtain ⟨a1, a2⟩ := ok_of_look x (w + 1) h1 hl.1
      obtain ⟨b1, b2, b3, b4⟩ := oko_of_look (seen ++ [n]) ns r w h hl.2 (by simpa using hn)
      rw [okJs, depJs]
      refine ⟨⟨a1, b1⟩, by omega, fun hd => ?_, fun m hm => ?_⟩
      · have := b3 (nodup_snoc hd hs)
        rw [List.append_assoc] at this; exact this
      · rcases List.mem_cons.1 hm with rfl | hm
        · simpa using hu
        · exact b4 m hm
    · exact absurd h (by assumption)
end
end Go.Proofs.YtfmadoeadmclbaaGreatDoor
