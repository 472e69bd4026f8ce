/-
  The walks of layer 18's reader of numbers.
-/
import Derived.Test.YtdlijjmjfepklaaNumber
namespace Go.Proofs.Ytdlijjmjfepklaa
open Go.RowKit

/-- that bytes are no list's -/
def wrongV : PanicEntry := { v := .iface 60 (.agg #[]), recovered := false }

theorem need_true (w : World) : Calls Try.prog 33 #[.bool true] w fun e w' => e = .returned (.tuple #[]) ∧ w = w' := by
  go_enter Try.func33, Try.ntmps33
  go_wp2
  go_end0
  exact ⟨rfl, rfl⟩
theorem need_false (w : World) : Calls Try.prog 33 #[.bool false] w fun e w' => e = .panicked [wrongV] ∧ w = w' := by
  go_enter Try.func33, Try.ntmps33
  go_wp2
  exact ⟨rfl, rfl, rfl⟩

/-- One number, base 128: what it is, and what is left; none: there is none that is at most so great. -/
def rdGo (most : Nat) : Nat → Nat → List UInt8 → Option (Nat × List UInt8)
  | 0, _, _ => none
  | _ + 1, _, [] => none
  | f + 1, n, c :: r =>
    if f + 1 = 8 ∧ c.toNat = 128 then none
    else if c.toNat < 128 then (if n * 128 + c.toNat % 128 ≤ most then some (n * 128 + c.toNat % 128, r) else none)
    else rdGo most f (n * 128 + c.toNat % 128) r
def rdNum (most : Nat) (s : List UInt8) : Option (Nat × List UInt8) := rdGo most 8 0 s

/-- The reader: its one cell holds what is left of the bytes. -/
structure Reads (w : World) (rb B : Nat) (s : List UInt8) : Prop where
  lt : rb < B
  block : ∃ a c, w.heap[rb]? = some (.cells #[.slice a s.length c] 64 (0, 0)) ∧ s.length ≤ c ∧ c ≤ maxLen ∧ CellsAt w a (byteVals s) ∧ ∀ b off, a = some ⟨b, off, none⟩ → b + 2 < rb

/-- What the reader's calls leave: the reader's own block is turned, and nothing else. -/
abbrev Turned (w w' : World) (rb : Nat) : Prop := w.grownBy w' (some rb)
theorem Turned.refl (w : World) (rb : Nat) : Turned w w rb := ⟨rfl, rfl, rfl, Nat.le_refl _, fun _ _ _ => rfl⟩
theorem Turned.trans {a b c : World} {rb : Nat} (h : Turned a b rb) (k : Turned b c rb) : Turned a c rb :=
  ⟨k.os.trans h.os, k.tape.trans h.tape, k.output.trans h.output, Nat.le_trans h.size k.size, fun i hi hne => (k.block i (Nat.lt_of_lt_of_le hi h.size) hne).trans (h.block i hi hne)⟩
theorem Turned.of_ext {a b : World} {rb : Nat} (h : Ext a b) : Turned a b rb := ⟨h.os, h.tape, h.output, h.size, fun i hi _ => h.block i hi⟩

theorem Reads.step {w : World} {rb B : Nat} {s : List UInt8} {c : Nat} (b off : Nat) (x : UInt8) (r : List UInt8) (hs : s = x :: r) (hb : w.heap[rb]? = some (.cells #[.slice (some ⟨b, off, none⟩) s.length c] 64 (0, 0))) (hc : s.length ≤ c) (hm : c ≤ maxLen) (hcell : CellsAt w (some ⟨b, off, none⟩) (byteVals s)) (hB : b + 2 < rb) (hrB : rb < B)
    (a' : Option Addr) (ha : 0 < r.length → a' = some ⟨b, off + 1, none⟩) (ha2 : ∀ b' off', a' = some ⟨b', off', none⟩ → b' = b) :
    Reads (w.setCell ⟨rb, 0, none⟩ (.slice a' r.length (c - 1))) rb B r := by
  refine ⟨hrB, a', c - 1, ?_, by rw [hs] at hc; simp at hc; omega, by unfold maxLen at *; omega, ?_, fun b' off' e => by rw [ha2 b' off' e]; exact hB⟩
  · simp [World.setCell, Array.getElem?_modify, hb]
  · intro i u hu
    have hi : 0 < r.length := by
      cases r with
      | nil => simp [byteVals] at hu
      | cons _ _ => simp
    have h1 : (byteVals s)[i + 1]? = some u := by rw [hs]; simpa [byteVals] using hu
    obtain ⟨b2, off2, e, h2, h3⟩ := hcell (i + 1) u h1
    simp only [Option.some.injEq, Addr.mk.injEq] at e
    obtain ⟨rfl, rfl, _⟩ := e
    refine ⟨b, off + 1, ha hi, by simpa [World.setCell] using h2, ?_⟩
    rw [World.cell?_of_block (w := w) (Below.heap_setCell w _ _ b (by show b ≠ rb; omega)), Nat.add_assoc, Nat.add_comm 1 i]
    exact h3

set_option maxRecDepth 100000 in
set_option maxHeartbeats 2000000 in
theorem rdnumber_any (rb B : Nat) (s : List UInt8) (most : Nat) (w : World) (hr : Reads w rb B s) (hm : most ≤ 9007199254740992) :
    Calls Try.prog 31 #[.pointer (some ⟨rb, 0, none⟩), .int .i64 most] w fun e w' => Turned w w' rb ∧
      ((∃ n r, rdNum most s = some (n, r) ∧ e = .returned (.int .i64 n) ∧ Reads w' rb B r) ∨ (rdNum most s = none ∧ e = .panicked [wrongV])) := by
  go_enter Try.func31, Try.ntmps31
  go_wp2_with fail
  go_loopw [5, 8] (fun n i wr => ∃ (k m : Nat) (t : List UInt8), k ≤ 8 ∧ i = .int .i64 k ∧ n = .int .i64 m ∧ Hid (m < 128 ^ k) ∧ m ≤ 72057594037927936 ∧ Turned w wr rb ∧ Reads wr rb B t ∧ Hid (rdNum most s = rdGo most (8 - k) m t)) (fun _ i _ => 8 - (intOf i).toNat)
  case atStart => exact ⟨0, 0, s, by omega, rfl, rfl, by simp [Hid], by omega, Turned.refl _ _, hr, rfl⟩
  case round =>
    obtain ⟨k, m, t, hk, rfl, rfl, hp, hm2, hT, hR, hg⟩ := hrel
    by_cases hlt : k < 8
    · obtain ⟨a, c, hb, hcl, hcm, hcell, hne⟩ := hR.block
      have c0 := cell_of_row wr rb 0 _ _ _ hb
      have f0 := frozen_of_row wr rb 0 _ _ hb
      cases t with
      | nil =>
        have Hg : Hid (rdNum most s = none) := by
          show _ = _
          rw [hg.out]
          obtain ⟨f, hf⟩ : ∃ f, 8 - k = f + 1 := ⟨7 - k, by omega⟩
          rw [hf]; rfl
        simp at c0
        go_wp2_with fail
        refine (need_false _).mono ?_
        rintro e w' ⟨rfl, rfl⟩
        exact ⟨rfl, hT, .inr ⟨Hg.out, rfl⟩⟩
      | cons x r =>
        obtain ⟨b, off, rfl, hbl, cx⟩ := hcell 0 (.int .u8 x.toNat) rfl
        have hbB := hne b off rfl
        have hbr : b ≠ rb := by omega
        have hrB := hR.lt
        have hx := x.toNat_lt
        have hp2 := hp.out
        have hm3 : m ≤ 562949953421311 := by
          have h1 : 128 ^ k ≤ 128 ^ 7 := Nat.pow_le_pow_right (by omega) (by omega)
          have h2 : (128 : Nat) ^ 7 = 562949953421312 := by decide
          omega
        have hmx : m * 128 + x.toNat % 128 < 128 ^ (k + 1) := by rw [Nat.pow_succ]; omega
        have HM := Lib.hid hmx
        have HS : Hid (∀ a', (0 < r.length → a' = some ⟨b, off + 1, none⟩) → (∀ b' off', a' = some (⟨b', off', none⟩ : Addr) → b' = b) → Reads (wr.setCell ⟨rb, 0, none⟩ (.slice a' r.length (c - 1))) rb B r) := fun a' h1 h2 => Reads.step b off x r rfl hb hcl hcm hcell hbB hrB a' h1 h2
        have HT : Hid (∀ v, Turned w (wr.setCell ⟨rb, 0, none⟩ v) rb) := fun v => hT.trans (grownBy_setCells rb [v] 0 wr)
        obtain ⟨f, hf⟩ : ∃ f, 8 - k = f + 1 := ⟨7 - k, by omega⟩
        have hg2 := hg.out
        rw [hf, rdGo] at hg2
        have Hg := Lib.hid hg2
        have Hf := Lib.hid hf
        simp only [List.length_cons] at c0 hcl
        simp only [Nat.add_zero] at cx
        have hx2 : (x.toNat : Int) % 128 ≤ 127 := by omega
        unfold maxLen at hcm
        simp only [List.getElem?_toArray, List.getElem?_cons_zero] at c0
        clear hbB hrB hmx hp2 hf hg2 hcell hR hg hb hne hp hT
        have HS2 : Hid (∀ a' l' c', (c = 1 → a' = some (⟨b, off, none⟩ : Addr)) → (c ≠ 1 → a' = some (⟨b, off + 1, none⟩ : Addr)) → l' = r.length → c' = c - 1 → Reads (wr.setCell ⟨rb, 0, none⟩ (.slice a' l' c')) rb B r) := fun a' l' c' h1 h2 h3 h4 => by
          rw [h3, h4]
          by_cases e : c = 1
          · rw [h1 e]; exact HS.out _ (fun h => by omega) (fun b' off' e => by simp only [Option.some.injEq, Addr.mk.injEq] at e; exact e.1.symm)
          · rw [h2 e]; exact HS.out _ (fun _ => rfl) (fun b' off' e => by simp only [Option.some.injEq, Addr.mk.injEq] at e; exact e.1.symm)
        clear HS
        have hr0 : c = 1 → r = [] := fun h => List.eq_nil_of_length_eq_zero (by omega)
        have Hr0 := Lib.hid hr0
        clear hr0
        go_wp2_with fail
        refine (need_true _).mono ?_
        rintro e w' ⟨rfl, rfl⟩
        by_cases hbad : k = 0 ∧ x.toNat = 128
        · obtain ⟨hk0, hx8⟩ := hbad
          obtain rfl : k = 0 := hk0
          have hx9 : ((x.toNat : Int) != 128) = false := by rw [bne_eq_false_iff_eq]; omega
          have Hn : Hid (rdNum most s = none) := by
            have h1 := Hg.out
            have h2 := Hf.out
            rw [if_pos ⟨by omega, hx8⟩] at h1
            exact h1
          have Hx8 := Lib.hid hx8
          clear hx8 Hg
          by_cases hc1 : c = 1
          all_goals
            have Hc1 := Lib.hid hc1
            go_wp2_with fail
            refine (need_false _).mono ?_
            rintro e w' ⟨rfl, rfl⟩
            exact ⟨rfl, HT.out _, .inr ⟨Hn.out, rfl⟩⟩
        · have Hg2 : Hid (rdNum most s = if x.toNat < 128 then if m * 128 + x.toNat % 128 ≤ most then some (m * 128 + x.toNat % 128, r) else none else rdGo most f (m * 128 + x.toNat % 128) r) := by
            have h1 := Hg.out
            have h2 := Hf.out
            rw [if_neg (fun h => hbad ⟨by omega, h.2⟩)] at h1
            exact h1
          clear Hg
          have hsplit : (k = 0 ∧ ((x.toNat : Int) != 128) = true) ∨ 0 < k := by
            by_cases h : k = 0
            · exact .inl ⟨h, by rw [bne_iff_ne]; intro h2; exact hbad ⟨h, by omega⟩⟩
            · exact .inr (by omega)
          clear hbad
          have hkk : (0 ≤ k + 1 ∧ (k : Int) + 1 ≤ 9) := ⟨by omega, by omega⟩
          by_cases hc1 : c = 1
          all_goals
            have Hc1 := Lib.hid hc1
            rcases hsplit with ⟨rfl, hx9⟩ | hk1
            all_goals
              go_wp2_with fail
              refine (need_true _).mono ?_
              rintro e w' ⟨rfl, rfl⟩
              by_cases hx1 : x.toNat < 128
              · by_cases hle : m * 128 + x.toNat % 128 ≤ most
                · have hle2 : decide ((m : Int) * 128 + (x.toNat : Int) % 128 ≤ most) = true := by rw [decide_eq_true_iff]; omega
                  have Hx := Lib.hid hx1
                  have Hle := Lib.hid hle
                  go_wp2_with fail
                  refine (need_true _).mono ?_
                  rintro e w' ⟨rfl, rfl⟩
                  go_wp2_with fail
                  go_ret
                  have hfin := Hg2.out
                  rw [if_pos Hx.out, if_pos Hle.out] at hfin
                  refine ⟨HT.out _, .inl ⟨_, r, hfin, ?_, ?_⟩⟩
                  · congr 2
                  · exact HS2.out _ _ _ (fun h => by first | rfl | exact absurd h Hc1.out) (fun h => by first | rfl | exact absurd Hc1.out h) rfl (by have := Hc1.out; omega)
                · have hle2 : decide ((m : Int) * 128 + (x.toNat : Int) % 128 ≤ most) = false := by rw [decide_eq_false_iff_not]; omega
                  have Hx := Lib.hid hx1
                  have Hle := Lib.hid hle
                  go_wp2_with fail
                  refine (need_false _).mono ?_
                  rintro e w' ⟨rfl, rfl⟩
                  have hfin := Hg2.out
                  rw [if_pos Hx.out, if_neg Hle.out] at hfin
                  exact ⟨rfl, HT.out _, .inr ⟨hfin, rfl⟩⟩
              · have hx3 : ¬ (x.toNat : Int) < 128 := by omega
                have Hx := Lib.hid hx1
                clear hx1
                go_wp2_with fail
                have hfin := Hg2.out
                rw [if_neg Hx.out] at hfin
                go_roundw
                case rel =>
                  refine ⟨_, _, r, ?_, ?_, ?_, HM.out, ?_, HT.out _, ?_, ?_⟩
                  · omega
                  · rfl
                  · rfl
                  · omega
                  · exact HS2.out _ _ _ (fun h => by first | rfl | exact absurd h Hc1.out) (fun h => by first | rfl | exact absurd Hc1.out h) rfl (by have := Hc1.out; omega)
                  · have h2 := Hf.out
                    show _ = _
                    rw [hfin]
                    congr 1
                    omega
                case measure => simp [intOf] <;> omega
    · have hk8 : k = 8 := by omega
      subst hk8
      have Hn : Hid (rdNum most s = none) := by
        show _ = _
        rw [hg.out]; rfl
      clear hg hR
      go_wp2_with fail
      refine (need_false _).mono ?_
      rintro e w' ⟨rfl, rfl⟩
      exact ⟨rfl, hT, .inr ⟨Hn.out, rfl⟩⟩
theorem rdGo_le (most : Nat) : ∀ (f n : Nat) (s : List UInt8) (m : Nat) (r : List UInt8), rdGo most f n s = some (m, r) → m ≤ most ∧ r.length + 1 ≤ s.length := by
  intro f
  induction f with
  | zero => intro n s m r h; simp [rdGo] at h
  | succ f ih =>
    intro n s m r h
    cases s with
    | nil => simp [rdGo] at h
    | cons c t =>
      rw [rdGo] at h
      split at h
      · simp at h
      · split at h
        · split at h
          · simp only [Option.some.injEq, Prod.mk.injEq] at h; obtain ⟨rfl, rfl⟩ := h; exact ⟨by omega, by simp⟩
          · simp at h
        · have := ih _ _ _ _ h; exact ⟨this.1, by simp; omega⟩
end Go.Proofs.Ytdlijjmjfepklaa
