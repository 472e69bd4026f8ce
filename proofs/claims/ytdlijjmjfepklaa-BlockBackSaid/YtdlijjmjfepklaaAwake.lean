/-
  The walk of layer 18's 'awake': the chapter's examples.
-/
import Derived.Test.YtdlijjmjfepklaaFollowR
namespace Go.Proofs.Ytdlijjmjfepklaa
open Go.RowKit

/-- 'string(b)': the bytes at a slice's address. -/
theorem run_convert_cells {P : Program} (w : World) (src dst e : TypeId) (hs : P.underlying src = some (.slice e)) (he : P.underlying e = some (.int .u8)) (hd : P.underlying dst = some .string)
    (ao : Option Addr) (n cap : Nat) (l : List UInt8) (hn : l.length = n) (hc : CellsAt w ao (byteVals l)) :
    (convert src dst (.slice ao n cap)).run P w = .ok (.string ⟨l.toArray⟩) w := by
  subst hn
  cases ao with
  | none =>
    have : l = [] := by
      cases l with
      | nil => rfl
      | cons u r => obtain ⟨b, off, e1, _⟩ := hc 0 (.int .u8 u.toNat) (by simp [byteVals]); simp at e1
    subst this
    simp [convert, run_underlying hs, run_underlying hd, run_underlying he, Conv.bytesToString]
    rfl
  | some a =>
    refine run_convert_bytes_back w src dst e a cap l hs he hd (fun j hj => ?_)
    obtain ⟨b, off, e1, _, h3⟩ := hc j _ (byteVals_get (List.getElem?_eq_getElem hj))
    simp only [Option.some.injEq] at e1
    subst e1
    have : (⟨b, off, none⟩ : Addr).add j = ⟨b, off + j, none⟩ := by unfold Addr.add; split <;> simp_all
    rw [this]; exact h3


def exPost (ao : Option Addr) : PV := ⟨300, 5, ao, 2, [0, 4]⟩
theorem ex_right (ao : Option Addr) : rightB [exPost ao] = true := by simp [rightB, listB, exPost, postB, goodFrom]
theorem ex_pack (ao : Option Addr) : packB [exPost ao] = [1, 130, 44, 4, 1, 0, 3] := by
  have h1 : numB 1 = [1] := by rw [numB_small (by omega)]; rfl
  have h0 : numB 0 = [0] := by rw [numB_small (by omega)]; rfl
  have h3 : numB 3 = [3] := by rw [numB_small (by omega)]; rfl
  have h4 : numB 4 = [4] := by rw [numB_small (by omega)]; rfl
  have h300 : numB 300 = [130, 44] := by
    rw [numB, hiB_pos (by omega), show 300 / 128 / 128 = 0 by omega, hiB_zero]; rfl
  simp [packB, packL, rowB, exPost, h0, h1, h3, h4, h300]
theorem ex_follow (a b : Option Addr) (c d : Nat) : followOk ⟨0, 10, a, c, [1, 5]⟩ ⟨0, 10, b, d, [2, 9]⟩ 1 = true ∧ followB ⟨0, 10, a, c, [1, 5]⟩ ⟨0, 10, b, d, [2, 9]⟩ 1 = [1] := by
  simp [followB, followOk, postB, goodFrom]

set_option maxRecDepth 100000 in
set_option maxHeartbeats 2000000 in
theorem awake18_any (w : World) : Calls Try.prog 13 #[] w fun e w' => e = .returned (.bool true) ∧ Ext w w' := by
  go_enter Try.func13, Try.ntmps13
  go_wp2_with fail
  obtain ⟨W, hW⟩ : ∃ W, W = ((w.alloc (.cells #[.int .i64 0, .int .i64 4] 3)).alloc (.cells #[.int .i64 300, .int .i64 5, .slice (some ⟨w.heap.size, 0, none⟩) 2 2] 27)) := ⟨_, rfl⟩
  have hE : Ext w W := by rw [hW]; exact (by repeat (first | (with_reducible exact Below.refl _ _) | (with_reducible assumption) | (with_reducible refine bdrewN ?_ _) | (with_reducible refine Below.drew ?_) | (with_reducible refine Below.alloc ?_ (by simp) _) | (with_reducible refine Below.setCell ?_ (by simp) _)))
  have hP : PostsAt W (some ⟨w.heap.size + 1, 0, none⟩) [exPost (some ⟨w.heap.size, 0, none⟩)] := by
    refine ⟨fun k p hk => ?_, fun p hp => ?_⟩
    · obtain ⟨rfl, rfl⟩ : k = 0 ∧ p = exPost (some ⟨w.heap.size, 0, none⟩) := by
        cases k with
        | zero => simp at hk; exact ⟨rfl, hk.symm⟩
        | succ k => simp at hk
      refine ⟨w.heap.size + 1, 0, rfl, by rw [hW]; simp, ?_, ?_, ?_⟩ <;> (rw [hW]; simp only [exPost]; go_simp)
    · simp only [List.mem_singleton] at hp
      subst hp
      intro i v hv
      refine ⟨w.heap.size, 0, rfl, by rw [hW]; simp; omega, ?_⟩
      match i, hv with
      | 0, hv => simp [exPost, ints] at hv; subst hv; rw [hW]; go_simp
      | 1, hv => simp [exPost, ints] at hv; subst hv; rw [hW]; go_simp
      | i + 2, hv => simp [exPost, ints] at hv
  rw [← hW]
  refine (pack_any (some ⟨w.heap.size + 1, 0, none⟩) 1 1 [exPost (some ⟨w.heap.size, 0, none⟩)] W rfl (by omega) hP (by intro p hp; simp at hp; subst hp; simp [exPost]) (ex_right _)).mono ?_
  rintro e w1 ⟨v1, rfl, hown1, he1⟩
  rw [ex_pack] at hown1
  obtain ⟨ao1, cap1, rfl, hc1, hz1⟩ := owns_form hown1
  have HE1 : Hid (Ext w w1) := Ext.trans' hE he1
  have HC1 := Lib.hid hc1
  clear hz1
  clear hW hE hP he1 hown1 hc1 W
  have hL : ([1, 130, 44, 4, 1, 0, 3] : List UInt8).length = 7 := rfl
  rw [hL]
  clear hL
  go_wp2_with fail
  obtain ⟨W, hW⟩ : ∃ W, W = ((w1.alloc (.cells #[.int .i64 1, .int .i64 5] 3)).alloc (.cells #[.int .i64 2, .int .i64 9] 3)) := ⟨_, rfl⟩
  have hE : Ext w1 W := by rw [hW]; exact (by repeat (first | (with_reducible exact Below.refl _ _) | (with_reducible assumption) | (with_reducible refine bdrewN ?_ _) | (with_reducible refine Below.drew ?_) | (with_reducible refine Below.alloc ?_ (by simp) _) | (with_reducible refine Below.setCell ?_ (by simp) _)))
  have hp : CellsAt W (some ⟨w1.heap.size, 0, none⟩) (ints [1, 5]) := by
    intro i v hv
    refine ⟨w1.heap.size, 0, rfl, by rw [hW]; simp; omega, ?_⟩
    match i, hv with
    | 0, hv => simp [ints] at hv; subst hv; rw [hW]; go_simp
    | 1, hv => simp [ints] at hv; subst hv; rw [hW]; go_simp
    | i + 2, hv => simp [ints] at hv
  have hq : CellsAt W (some ⟨w1.heap.size + 1, 0, none⟩) (ints [2, 9]) := by
    intro i v hv
    refine ⟨w1.heap.size + 1, 0, rfl, by rw [hW]; simp, ?_⟩
    match i, hv with
    | 0, hv => simp [ints] at hv; subst hv; rw [hW]; go_simp
    | 1, hv => simp [ints] at hv; subst hv; rw [hW]; go_simp
    | i + 2, hv => simp [ints] at hv
  have X := ex_follow (some ⟨w1.heap.size, 0, none⟩) (some ⟨w1.heap.size + 1, 0, none⟩) 2 2
  have C : Calls Try.prog 10 #[.agg #[.int .i64 0, .int .i64 10, .slice (some ⟨w1.heap.size, 0, none⟩) 2 2], .agg #[.int .i64 0, .int .i64 10, .slice (some ⟨w1.heap.size + 1, 0, none⟩) 2 2], .int .i64 1] W fun e w' => ∃ v', e = .returned v' ∧ w'.ownsRow W.heap.size 3 1 v' 1 (ints [1]) ∧ Ext W w' := by
    have := follow_ok ⟨0, 10, some ⟨w1.heap.size, 0, none⟩, 2, [1, 5]⟩ ⟨0, 10, some ⟨w1.heap.size + 1, 0, none⟩, 2, [2, 9]⟩ 1 W hp hq (by simp) (by simp) X.1
    rw [X.2] at this
    exact this
  have HC := Lib.hid C
  rw [← hW]
  have HE := Lib.hid hE
  clear X C hp hq hW hE
  refine HC.out.mono ?_
  rintro e w2 ⟨v2, rfl, hown2, he2⟩
  obtain ⟨ao2, cap2, rfl, hc2, hz2⟩ := owns_form hown2
  obtain ⟨b2, off2, rfl, _, k2⟩ := hc2 0 (.int .i64 1) rfl
  have hE2 : Ext w w2 := Ext.trans' HE1.out (Ext.trans' HE.out he2)
  have hcv : (convert 36 9 (.slice ao1 7 cap1)).run Try.prog w2 = .ok (.string ⟨#[1, 130, 44, 4, 1, 0, 3]⟩) w2 :=
    run_convert_cells w2 36 9 5 Try.underlying36 Try.underlying5 Try.underlying9 ao1 7 cap1 [1, 130, 44, 4, 1, 0, 3] rfl (HC1.out.ext (Ext.trans' HE.out he2))
  have HE2 := Lib.hid hE2
  simp only [Nat.add_zero] at k2
  clear hE2
  clear hz2 hc2 hown2 he2 HC HE W
  go_wp2
  go_ret
  exact ⟨ret_bool (by simp), HE2.out⟩
end Go.Proofs.Ytdlijjmjfepklaa
