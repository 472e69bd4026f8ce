/-
  Paths as data: their steps; numbers in figures. What the writer's text needs of signs: the escapes by their codes, a sign's bytes quoted. The walk of num.figures: how many figures a text begins with.
-/
import Derived.Test.YtfmadoeadmclbaaGreatDoorHb8
import Derived.Lib.AtoiAllCases
import Derived.Lib.ItoaMem
import Derived.Test.YtfmadoeadmclbaaGreatDoorHb19
import Derived.Test.YtfmadoeadmclbaaGreatDoorHb21
import Derived.Test.YtfmadoeadmclbaaGreatDoorHb13
import Derived.Lib.TrimUEq
import Derived.MapKept
import Derived.Test.YtfmadoeadmclbaaGreatDoorHb7
import Derived.Lib.OthersKept
namespace Go.Proofs.YtfmadoeadmclbaaGreatDoor
open Go.RowKit

/-! ### UTF-8, cut at a sign -/
theorem utfF_more : ∀ (f k : Nat) (l : List UInt8), l.length ≤ f → l.length ≤ k → utfF f l = utfF k l
  | 0, k, l, h, _ => by
    obtain rfl := List.eq_nil_of_length_eq_zero (by omega : l.length = 0)
    cases k <;> simp [utfF]
  | f + 1, 0, l, _, h => by
    obtain rfl := List.eq_nil_of_length_eq_zero (by omega : l.length = 0)
    simp [utfF]
  | f + 1, k + 1, l, h1, h2 => by
    rw [utfF, utfF]
    split
    · rfl
    split
    · rfl
    · rename_i h0 hs
      have hl : l.length ≠ 0 := fun e => h0 (List.eq_nil_of_length_eq_zero e)
      exact utfF_more f k _ (by rw [List.length_drop]; omega) (by rw [List.length_drop]; omega)
theorem utfL_eq (l : List UInt8) : utfL l = if l = [] then true else if signL l = 0 then false else utfL (l.drop (signL l)) := by
  unfold utfL
  cases l with
  | nil => rfl
  | cons c t =>
    rw [List.length_cons, utfF]
    split
    · rfl
    split
    · rfl
    · rename_i hs
      exact utfF_more _ _ _ (by rw [List.length_drop, List.length_cons]; omega) (Nat.le_refl _)
theorem contL_ge : ∀ (r : List UInt8) (c d : Nat), contL c r = some d → ∀ y ∈ r, 128 ≤ y.toNat
  | [], _, _, _, _, h => by cases h
  | x :: r, c, d, h, y, hy => by
    rw [contL] at h
    split at h
    · rename_i hx
      rcases List.mem_cons.1 hy with rfl | hy
      · exact hx.1
      · exact contL_ge r _ d h y hy
    · cases h
theorem signL_ge (x : UInt8) (r : List UInt8) (h : signL (x :: r) ≠ 0) : (x.toNat < 128 ∧ signL (x :: r) = 1) ∨ (128 ≤ x.toNat ∧ 2 ≤ signL (x :: r) ∧ ∀ y ∈ (x :: r).take (signL (x :: r)), 128 ≤ y.toNat) := by
  unfold signL at h ⊢
  dsimp only at h ⊢
  split at h
  · rename_i hx
    exact .inl ⟨hx, by rw [if_pos hx]⟩
  · rename_i hx
    right
    rw [if_neg hx]
    cases hh : hdrL x.toNat with
    | none => rw [hh] at h; exact absurd rfl h
    | some q =>
      obtain ⟨n, c, least⟩ := q
      obtain ⟨n2, n4, _, _⟩ := hdrL_bd hh
      rw [hh] at h
      dsimp only at h ⊢
      split at h
      · exact absurd rfl h
      · rename_i hn
        rw [if_neg hn]
        cases hcc : contL c (r.take (n - 1)) with
        | none => rw [hcc] at h; exact absurd rfl h
        | some d =>
          rw [hcc] at h
          dsimp only at h ⊢
          have hok : okL n least d = n := by
            unfold okL at h ⊢
            split at h
            · exact absurd rfl h
            · rename_i h2; rw [if_neg h2]
          rw [hok]
          refine ⟨by omega, n2, fun y hy => ?_⟩
          obtain ⟨m, rfl⟩ : ∃ m, n = m + 1 := ⟨n - 1, by omega⟩
          rw [List.take_succ_cons] at hy
          rcases List.mem_cons.1 hy with rfl | hy
          · omega
          · exact contL_ge _ _ _ hcc y (by simpa using hy)
theorem signL_cut (l t : List UInt8) (h0 : signL (l ++ t) ≠ 0) (h : signL (l ++ t) ≤ l.length) : signL l = signL (l ++ t) := by
  cases l with
  | nil => exact absurd (Nat.le_zero.1 h) h0
  | cons x r =>
    rw [List.cons_append] at h0 h ⊢
    unfold signL at h0 h ⊢
    dsimp only at h0 h ⊢
    split at h0
    · rename_i hx; rw [if_pos hx, if_pos hx]
    · rename_i hx
      rw [if_neg hx] at h ⊢
      rw [if_neg hx]
      cases hh : hdrL x.toNat with
      | none => rfl
      | some q =>
        obtain ⟨n, c, least⟩ := q
        obtain ⟨n2, n4, _, _⟩ := hdrL_bd hh
        rw [hh] at h0 h
        dsimp only at h0 h ⊢
        split at h0
        · exact absurd rfl h0
        · rename_i hn
          rw [if_neg hn] at h ⊢
          cases hcc : contL c ((r ++ t).take (n - 1)) with
          | none => rw [hcc] at h0; exact absurd rfl h0
          | some d =>
            rw [hcc] at h0 h
            dsimp only at h0 h
            have hok : okL n least d = n := by
              unfold okL at h0 ⊢
              split at h0
              · exact absurd rfl h0
              · rename_i h2; rw [if_neg h2]
            rw [hok, List.length_cons] at h
            rw [if_neg (by omega)]
            rw [List.take_append_of_le_length (by omega)] at hcc
            rw [hcc]
theorem signL_more (l t : List UInt8) (h0 : signL l ≠ 0) : signL (l ++ t) = signL l := by
  cases l with
  | nil => exact absurd rfl h0
  | cons x r =>
    rw [List.cons_append]
    unfold signL at h0 ⊢
    dsimp only at h0 ⊢
    split at h0
    · rename_i hx; rw [if_pos hx, if_pos hx]
    · rename_i hx
      rw [if_neg hx, if_neg hx]
      cases hh : hdrL x.toNat with
      | none => rfl
      | some q =>
        obtain ⟨n, c, least⟩ := q
        rw [hh] at h0
        dsimp only at h0 ⊢
        split at h0
        · exact absurd rfl h0
        · rename_i hn
          rw [if_neg hn, if_neg (by rw [List.length_append]; omega), List.take_append_of_le_length (by omega)]
/-! ### Numbers in figures -/
end Go.Proofs.YtfmadoeadmclbaaGreatDoor
namespace Go.Proofs.YtfmadoeadmclbaaGreatDoor
open Go.RowKit Go.TL
set_option maxRecDepth 100000

theorem dec_here (s : List UInt8) (j : Nat) : Utf8.decode ⟨s.toArray⟩ j = Lib.decodeL (s.drop j) := by
  have := Lib.decodeL_drop ⟨s.toArray⟩ j
  simpa using this.symm
def shortO (c : Nat) : Option UInt8 := if c = 34 then some 34 else if c = 92 then some 92 else if c = 8 then some 98 else if c = 12 then some 102 else if c = 10 then some 110 else if c = 13 then some 114 else if c = 9 then some 116 else none
theorem shortEs_list : shortEs.toList = [⟨.int .i32 34, .int .u8 34, 0⟩, ⟨.int .i32 92, .int .u8 92, 1⟩, ⟨.int .i32 8, .int .u8 98, 2⟩, ⟨.int .i32 12, .int .u8 102, 3⟩, ⟨.int .i32 10, .int .u8 110, 4⟩, ⟨.int .i32 13, .int .u8 114, 5⟩, ⟨.int .i32 9, .int .u8 116, 6⟩] := rfl
theorem find_eq (c : Nat) : ∃ i, Instr.findNow (.int .i32) (.int .i32 (c : Nat)) shortEs.toList 0 = match shortO c with
    | some l => some (some (i, .int .u8 (l.toNat : Nat)))
    | none => some none := by
  have k : ∀ a : Nat, (((c : Nat) : Int) == (a : Nat)) = decide (c = a) := fun a => by
    by_cases h : c = a
    · subst h; simp
    · have : ¬ (((c : Nat) : Int) = (a : Nat)) := by omega
      simp [h, this]
  have k34 := k 34; have k92 := k 92; have k8 := k 8; have k12 := k 12; have k10 := k 10; have k13 := k 13; have k9 := k 9
  have h := Go.MapKept.findNow_spec (d := .int .i32) (k := .int .i32 (c : Nat)) rfl shortEs.toList 0 (fun x hx => by
    obtain ⟨K, V, e1, _⟩ := short_mem hx
    rw [e1]; rfl)
  unfold shortO
  rw [shortEs_list]
  by_cases h34 : c = 34
  · subst h34; exact ⟨0, rfl⟩
  rw [if_neg h34]
  by_cases h92 : c = 92
  · subst h92; exact ⟨1, rfl⟩
  rw [if_neg h92]
  by_cases h8 : c = 8
  · subst h8; exact ⟨2, rfl⟩
  rw [if_neg h8]
  by_cases h12 : c = 12
  · subst h12; exact ⟨3, rfl⟩
  rw [if_neg h12]
  by_cases h10 : c = 10
  · subst h10; exact ⟨4, rfl⟩
  rw [if_neg h10]
  by_cases h13 : c = 13
  · subst h13; exact ⟨5, rfl⟩
  rw [if_neg h13]
  by_cases h9 : c = 9
  · subst h9; exact ⟨6, rfl⟩
  rw [if_neg h9]
  rw [shortEs_list] at h
  refine ⟨0, ?_⟩
  rcases h with ⟨h, _⟩ | ⟨j, e, _, he, hk⟩
  · exact h
  · exfalso
    have hm := List.mem_of_getElem? he
    simp only [List.mem_cons, List.not_mem_nil, or_false] at hm
    rcases hm with rfl | rfl | rfl | rfl | rfl | rfl | rfl <;> (simp only [Value.int.injEq, true_and] at hk; omega)
theorem find_yes {c : Nat} {l : UInt8} (h : shortO c = some l) : ∃ i, Instr.findNow (.int .i32) (.int .i32 (c : Nat)) shortEs.toList 0 = some (some (i, .int .u8 (l.toNat : Nat))) := by
  obtain ⟨i, hi⟩ := find_eq c
  rw [h] at hi
  exact ⟨i, hi⟩
theorem find_no {c : Nat} (h : shortO c = none) : Instr.findNow (.int .i32) (.int .i32 (c : Nat)) shortEs.toList 0 = some none := by
  obtain ⟨i, hi⟩ := find_eq c
  rw [h] at hi
  exact hi
theorem esc_short {x : UInt8} {l : UInt8} (h : shortO x.toNat = some l) : escB x = [92, l] := by
  have hh : ∀ i : Fin 256, (match shortO (UInt8.ofNat i.val).toNat with
    | some l => decide (escB (UInt8.ofNat i.val) = [92, l])
    | none => true) = true := by decide +kernel
  have h2 := hh ⟨x.toNat, x.toNat_lt⟩
  simp only [UInt8.ofNat_toNat] at h2
  rw [h] at h2
  exact of_decide_eq_true h2
theorem esc_low {x : UInt8} (h : shortO x.toNat = none) (hlt : x.toNat < 32) : escB x = [92, 117, 48, 48, hexC (x.toNat / 16), hexC (x.toNat % 16)] := by
  have hh : ∀ i : Fin 256, (match shortO (UInt8.ofNat i.val).toNat with
    | some _ => true
    | none => decide ((UInt8.ofNat i.val).toNat < 32 → escB (UInt8.ofNat i.val) = [92, 117, 48, 48, hexC ((UInt8.ofNat i.val).toNat / 16), hexC ((UInt8.ofNat i.val).toNat % 16)])) = true := by decide +kernel
  have h2 := hh ⟨x.toNat, x.toNat_lt⟩
  simp only [UInt8.ofNat_toNat] at h2
  rw [h] at h2
  exact of_decide_eq_true h2 hlt
theorem esc_plain {x : UInt8} (h : shortO x.toNat = none) (hlt : 32 ≤ x.toNat) : escB x = [x] := by
  have hh : ∀ i : Fin 256, (match shortO (UInt8.ofNat i.val).toNat with
    | some _ => true
    | none => decide (32 ≤ (UInt8.ofNat i.val).toNat → escB (UInt8.ofNat i.val) = [UInt8.ofNat i.val])) = true := by decide +kernel
  have h2 := hh ⟨x.toNat, x.toNat_lt⟩
  simp only [UInt8.ofNat_toNat] at h2
  rw [h] at h2
  exact of_decide_eq_true h2 hlt
theorem quo_sign (s : List UInt8) (j : Nat) (x : UInt8) (hx : s[j]? = some x) (hu : utfL (s.drop j) = true) : ∃ c k, Utf8.decode ⟨s.toArray⟩ j = (c, k) ∧ 1 ≤ k ∧ j + k ≤ s.length ∧ utfL (s.drop (j + k)) = true ∧ goodC c ∧ ((c = x.toNat ∧ c < 128 ∧ quoB (s.take (j + k)) = quoB (s.take j) ++ escB x) ∨ (128 ≤ c ∧ quoB (s.take (j + k)) = quoB (s.take j) ++ signB c)) := by
  have hd := drop_of_get hx
  rw [utfL_eq, hd, if_neg (by simp)] at hu
  have h0 : signL (x :: s.drop (j + 1)) ≠ 0 := fun h => by rw [if_pos h] at hu; cases hu
  rw [if_neg h0] at hu
  obtain ⟨c, k, h1, h2, h3, h4, h5, h6, h7, h8⟩ := decode_bytes x (s.drop (j + 1)) h0
  have hjl := (List.getElem?_eq_some_iff.1 hx).1
  have hln : (x :: s.drop (j + 1)).length = s.length - j := by rw [← hd, List.length_drop]
  refine ⟨c, k, by rw [dec_here, hd]; exact h1, h4, by omega, ?_, h6, ?_⟩
  · rw [← h2, ← hd, List.drop_drop] at hu
    exact hu
  · have ht : s.take (j + k) = s.take j ++ signB c := by rw [List.take_add, hd, h5]
    by_cases hx8 : x.toNat < 128
    · have hc := h7 hx8
      refine .inl ⟨hc, by omega, ?_⟩
      rw [ht, quoB_append]
      congr 1
      unfold signB
      rw [if_pos (by omega), hc, UInt8.ofNat_toNat, quoB_one]
    · have hc := h8 (by omega)
      refine .inr ⟨hc, ?_⟩
      rw [ht, quoB_append, quoB_sign hc h6.1]
end Go.Proofs.YtfmadoeadmclbaaGreatDoor
namespace Go.Proofs.YtfmadoeadmclbaaGreatDoor
open Go.RowKit

set_option maxRecDepth 100000 in
set_option maxHeartbeats 4000000 in
theorem figures_any (l : List UInt8) (w : World) (_hl : l.length ≤ 9223372036854775807) :
    Calls Tryz.prog 113 #[.string (txt l)] w fun e w' => e = .returned (.int .i64 (figs l : Nat)) ∧ Ext w w' := by
  go_enter Tryz.func113, Tryz.ntmps113
  go_wp2
  go_loopw [] (fun wr => ∃ (pos : Nat), pos ≤ l.length ∧ wr.heap[w.heap.size]? = some (.stringIter (txt l) pos) ∧ Ext w wr ∧ Hid (figs l = pos + figs (l.drop pos))) (fun wr => l.length - wr.iterPos w.heap.size)
  case atStart =>
    refine ⟨0, Nat.zero_le _, ?_, (Below.refl _ w).alloc (Nat.le_refl _) _, by simp [Hid]⟩
    have := World.iter_heap w (txt l) 0
    simpa using this
  case round =>
    obtain ⟨pos, hpos, hit, hE, hf⟩ := hrel
    have hsz : w.heap.size < wr.heap.size := (Array.getElem?_eq_some_iff.1 hit).1
    by_cases hp : pos < l.length
    · have hp' : pos < (txt l).size := by rw [txt_size]; exact hp
      obtain ⟨c, hc⟩ : ∃ c, l[pos] = c := ⟨_, rfl⟩
      have hd : l.drop pos = c :: l.drop (pos + 1) := by rw [List.drop_eq_getElem_cons hp, hc]
      by_cases hfig : isFig c = true
      · have h2 := hfig
        simp only [isFig, Bool.and_eq_true, decide_eq_true_eq] at h2
        have hnx : ∀ ty, (Instr.next (.pointer (some ⟨w.heap.size, 0, none⟩)) true ty).run Tryz.prog wr = _ := fun ty => Lib.run_next_ascii_at wr w.heap.size (txt l) pos ty hit hp' (by rw [txt_get, hc]; omega)
        simp only [txt_get, hc] at hnx
        have HF := Lib.hid (hf.out.trans (by rw [hd, figs, if_pos hfig]))
        have hit2 := Lib.iterAt_heap wr w.heap.size (txt l) pos (pos + 1) hit
        have hbw2 := Lib.below_iterAt hE (k := w.heap.size) (Nat.le_refl _) (txt l) (pos + 1)
        have d1 : decide ((c.toNat : Int) < 48) = false := by rw [decide_eq_false_iff_not]; omega
        have d2 : decide ((c.toNat : Int) > 57) = false := by rw [decide_eq_false_iff_not]; omega
        have d2' : decide (57 < (c.toNat : Int)) = false := d2
        have Hit := Lib.hid hit
        clear hf hc hd hfig
        go_wp2_with fail
        go_roundw
        case rel =>
          exact ⟨pos + 1, by omega, hit2, hbw2, by show _ = _; rw [HF.out]; omega⟩
        case measure =>
          simp only [World.iterPos, hit2, Hit.out]
          omega
      · have HF := Lib.hid (show figs l = pos by rw [hf.out, hd, figs, if_neg hfig]; rfl)
        obtain ⟨r, hr⟩ : ∃ r : Nat, (Utf8.decode (txt l) pos).1 = r := ⟨_, rfl⟩
        have hbad : r < 48 ∨ 57 < r := by
          rw [← hr]
          have hg : ((txt l)[pos]'hp').toNat = c.toNat := by rw [txt_get, hc]
          simp only [isFig, Bool.and_eq_true, decide_eq_true_eq] at hfig
          by_cases ha : ((txt l)[pos]'hp').toNat < 128
          · rw [decode_ascii _ _ hp' ha, hg]; simp only []; omega
          · have := (decode_high _ _ hp' (by omega)).1; omega
        have hnx : ∀ ty, (Instr.next (.pointer (some ⟨w.heap.size, 0, none⟩)) true ty).run Tryz.prog wr = _ := fun ty => Lib.run_next_any_at wr w.heap.size (txt l) pos ty hit hp'
        rw [hr] at hnx
        have hit2 := Lib.iterAt_heap wr w.heap.size (txt l) pos (pos + (Utf8.decode (txt l) pos).2) hit
        have hbw2 := Lib.below_iterAt hE (k := w.heap.size) (Nat.le_refl _) (txt l) (pos + (Utf8.decode (txt l) pos).2)
        have Hit := Lib.hid hit
        clear hf hc hd hfig hr
        by_cases h48 : r < 48
        · have d1 : decide ((r : Int) < 48) = true := by rw [decide_eq_true_iff]; omega
          go_wp2_with fail
          go_ret
          exact ⟨by rw [HF.out]; rfl, hbw2⟩
        · have d1 : decide ((r : Int) < 48) = false := by rw [decide_eq_false_iff_not]; omega
          have d2 : decide ((r : Int) > 57) = true := by rw [decide_eq_true_iff]; omega
          have d2' : decide (57 < (r : Int)) = true := d2
          go_wp2_with fail
          go_ret
          exact ⟨by rw [HF.out]; rfl, hbw2⟩
    · have hnx : ∀ ty, (Instr.next (.pointer (some ⟨w.heap.size, 0, none⟩)) true ty).run Tryz.prog wr = _ := fun ty => Lib.run_next_end_at wr w.heap.size (txt l) pos ty hit (by rw [txt_size]; exact hp)
      obtain rfl : pos = l.length := by omega
      have HF := Lib.hid (show figs l = l.length by rw [hf.out, List.drop_length]; rfl)
      clear hf
      go_wp2_with fail
      go_ret
      exact ⟨by rw [HF.out]; rfl, hE⟩
end Go.Proofs.YtfmadoeadmclbaaGreatDoor
