/-
  The walk of layer 18's reader of one posting.
-/
import Derived.Test.YtdlijjmjfepklaaReader
import Derived.Test.YtdlijjmjfepklaaOf
namespace Go.Proofs.Ytdlijjmjfepklaa
open Go.RowKit

theorem Turned.below {a b c : World} {rb : Nat} (h : Turned a b rb) (k : Below a.heap.size b c) : Turned a c rb :=
  ⟨k.os.trans h.os, k.tape.trans h.tape, k.output.trans h.output, Nat.le_trans h.size k.size, fun i hi hne => (k.block i hi).trans (h.block i hi hne)⟩
theorem Turned.row {a b : World} {rb i : Nat} {o : Obj} (h : Turned a b rb) (hi : a.heap[i]? = some o) (hne : i ≠ rb) : b.heap[i]? = some o :=
  (h.block i (Array.getElem?_eq_some_iff.1 hi).1 (fun e => hne (Option.some.inj e))).trans hi
theorem owns_grown {w w' : World} {row : Option Nat} {base : Nat} {e : TypeId} {size : Nat} {v : Value} {n : Nat} {xs : List Value} (h : w.ownsRow base e size v n xs) (x : w.grownBy w' row) (hne : ∀ k, v.ownBlock = some k → some k ≠ row) : w'.ownsRow base e size v n xs := by
  obtain ⟨hl, h⟩ := h
  refine ⟨hl, ?_⟩
  rcases h with h | ⟨g, cap, cur, hv, hb, hg, r⟩
  · exact .inl h
  · exact .inr ⟨g, cap, cur, hv, hb, (x.block g (Array.getElem?_eq_some_iff.1 hg).1 (hne g (by rw [hv]; rfl))).trans hg, r⟩
theorem Reads.below {w w' : World} {rb B : Nat} {s : List UInt8} (h : Reads w rb B s) (k : Below B w w') : Reads w' rb B s := by
  obtain ⟨hlt, a, c, h1, h2, h3, h4, h5⟩ := h
  exact ⟨hlt, a, c, (k.block rb hlt).trans h1, h2, h3, h4.below k (fun b off e => by have := h5 b off e; omega), h5⟩

/-- While a posting is read. -/
structure PS (w0 : World) (rb B b4 b5 base : Nat) (row len : Int) (wr : World) (o : Value) (ats : List Int) (t : List UInt8) : Prop where
  turned : Turned w0 wr rb
  bnd : B ≤ w0.heap.size
  ord : w0.heap.size ≤ b4 ∧ b4 < b5 ∧ b5 < base ∧ base ≤ wr.heap.size
  h4 : wr.heap[b4]? = some (.cells #[.int .i64 0, .int .i64 0, .slice none 0 0] 27 (0, 0))
  h5 : wr.heap[b5]? = some (.cells #[.int .i64 row, .int .i64 len, o] 27 (0, 0))
  own : wr.ownsRow base 3 1 o ats.length (ints ats)
  reads : Reads wr rb B t

theorem PS.number {w0 : World} {rb B b4 b5 base : Nat} {row len : Int} {wr : World} {o : Value} {ats : List Int} {t : List UInt8} (h : PS w0 rb B b4 b5 base row len wr o ats t) (most : Nat) (hm : most ≤ 9007199254740992) :
    Calls Try.prog 31 #[.pointer (some ⟨rb, 0, none⟩), .int .i64 most] wr fun e w' =>
      ((∃ n r, rdNum most t = some (n, r) ∧ n ≤ most ∧ e = .returned (.int .i64 n) ∧ PS w0 rb B b4 b5 base row len w' o ats r) ∨ (rdNum most t = none ∧ e = .panicked [wrongV] ∧ Turned w0 w' rb)) :=
  (rdnumber_any rb B t most wr h.reads hm).mono fun e w' ⟨hT, hc⟩ => by
    have hlt := Nat.lt_of_lt_of_le h.reads.lt h.bnd
    have ho := h.ord
    rcases hc with ⟨n, r, h1, h2, h3⟩ | ⟨h1, h2⟩
    · refine .inl ⟨n, r, h1, (rdGo_le _ _ _ _ _ _ h1).1, h2, h.turned.trans hT, h.bnd, ⟨ho.1, ho.2.1, ho.2.2.1, by have := hT.size; omega⟩, hT.row h.h4 (by omega), hT.row h.h5 (by omega), owns_grown h.own hT (fun k hk e => ?_), h3⟩
      have := owns_low h.own k hk
      simp only [Option.some.injEq] at e
      omega
    · exact .inr ⟨h1, h2, h.turned.trans hT⟩

theorem PS.append {w0 : World} {rb B b4 b5 base : Nat} {row len : Int} {w1 w3 : World} {o v3 : Value} {ats : List Int} {t : List UInt8} {x : Int} {ob : Obj} (h : PS w0 rb B b4 b5 base row len w1 o ats t) (o3 : Owns (w1.alloc ob) w3 o v3) (hown : w3.ownsRow base 3 1 v3 (ats.length + 1) (ints ats ++ ints [x])) :
    PS w0 rb B b4 b5 base row len (w3.setCell ⟨b5, 2, none⟩ v3) v3 (ats ++ [x]) t := by
  have ho := h.ord
  have hB : Below base w1 w3 := ((Below.refl base w1).alloc ho.2.2.2 ob).trans (o3.below (by have := ho.2.2.2; simp; omega) (fun k hk => owns_low h.own k hk))
  have hB5 : Below b5 w1 (w3.setCell ⟨b5, 2, none⟩ v3) := (hB.mono (B' := b5) (by omega)).setCell (p := ⟨b5, 2, none⟩) (Nat.le_refl _) v3
  refine ⟨h.turned.below (hB5.mono (by omega)), h.bnd, ⟨ho.1, ho.2.1, ho.2.2.1, Nat.le_trans ho.2.2.2 hB5.size⟩, (hB5.block b4 ho.2.1).trans h.h4, ?_, ?_, h.reads.below (hB5.mono (by have := h.bnd; omega))⟩
  · have h5 := (hB.block b5 ho.2.2.1).trans h.h5
    simp [World.setCell, Array.getElem?_modify, h5]
  · have := ownsRow_setCell_below hown (a := ⟨b5, 2, none⟩) ho.2.2.1 v3
    simpa [ints] using this

structure PSCells (wr : World) (b5 : Nat) (row len : Int) (o : Value) : Prop where
  c0 : wr.cell? ⟨b5, 0, none⟩ = some (.int .i64 row)
  c1 : wr.cell? ⟨b5, 1, none⟩ = some (.int .i64 len)
  c2 : wr.cell? ⟨b5, 2, none⟩ = some o
  f0 : wr.frozen? ⟨b5, 0, none⟩ = false
  f1 : wr.frozen? ⟨b5, 1, none⟩ = false
  f2 : wr.frozen? ⟨b5, 2, none⟩ = false
theorem cells_of3 {wr : World} {b5 : Nat} {row len : Int} {o : Value} {e : TypeId} (h5 : wr.heap[b5]? = some (.cells #[.int .i64 row, .int .i64 len, o] e (0, 0))) : PSCells wr b5 row len o :=
  ⟨cell_of_row wr b5 0 _ _ _ h5, cell_of_row wr b5 1 _ _ _ h5, cell_of_row wr b5 2 _ _ _ h5, frozen_of_row wr b5 0 _ _ h5, frozen_of_row wr b5 1 _ _ h5, frozen_of_row wr b5 2 _ _ h5⟩
theorem PS.start {w0 w1 : World} {rb B b4 : Nat} {row : Int} {t : List UInt8} (hT : Turned w0 w1 rb) (h4 : w1.heap[b4]? = some (.cells #[.int .i64 0, .int .i64 0, .slice none 0 0] 27 (0, 0))) (hb : w0.heap.size ≤ b4) (hr : Reads w1 rb B t) (hbd : B ≤ w0.heap.size) :
    PS w0 rb B b4 w1.heap.size (w1.heap.size + 1) row 0 (w1.alloc (.cells #[.int .i64 row, .int .i64 0, .slice none 0 0] 27)) (.slice none 0 0) [] t :=
  have hlt := (Array.getElem?_eq_some_iff.1 h4).1
  have hE : Ext w1 (w1.alloc (.cells #[.int .i64 row, .int .i64 0, .slice none 0 0] 27)) := (Below.refl _ _).alloc (Nat.le_refl _) _
  ⟨hT.trans (Turned.of_ext hE), hbd, ⟨hb, hlt, by omega, by simp⟩, (hE.block b4 hlt).trans h4, heap_alloc_new _ _, World.ownsRow_nil _ _ _ _, hr.below (hE.mono (Nat.le_trans hbd hT.size))⟩
theorem PS.after {w0 : World} {rb B b4 b5 base : Nat} {row len : Int} {w1 w3 : World} {o v3 : Value} {ats : List Int} {t : List UInt8} {ob : Obj} (h : PS w0 rb B b4 b5 base row len w1 o ats t) (o3 : Owns (w1.alloc ob) w3 o v3) : PSCells w3 b5 row len o := by
  have ho := h.ord
  have hB : Below base w1 w3 := ((Below.refl base w1).alloc ho.2.2.2 ob).trans (o3.below (by have := ho.2.2.2; simp; omega) (fun k hk => owns_low h.own k hk))
  exact cells_of3 ((hB.block b5 ho.2.2.1).trans h.h5)
theorem PS.setLen {w0 : World} {rb B b4 b5 base : Nat} {row len : Int} {w1 : World} {o : Value} {ats : List Int} {t : List UInt8} (x : Int) (h : PS w0 rb B b4 b5 base row len w1 o ats t) :
    PS w0 rb B b4 b5 base row x (w1.setCell ⟨b5, 1, none⟩ (.int .i64 x)) o ats t := by
  have ho := h.ord
  have hB5 : Below b5 w1 (w1.setCell ⟨b5, 1, none⟩ (.int .i64 x)) := (Below.refl _ _).setCell (p := ⟨b5, 1, none⟩) (Nat.le_refl _) _
  refine ⟨h.turned.below (hB5.mono (by omega)), h.bnd, ⟨ho.1, ho.2.1, ho.2.2.1, Nat.le_trans ho.2.2.2 hB5.size⟩, (hB5.block b4 ho.2.1).trans h.h4, ?_, ownsRow_setCell_below h.own (a := ⟨b5, 1, none⟩) ho.2.2.1 _, h.reads.below (hB5.mono (by have := h.bnd; omega))⟩
  have h5 := h.h5
  simp [World.setCell, Array.getElem?_modify, h5]

/-- The places, so many. -/
def rdAts (len : Int) : Nat → Int → List UInt8 → Option (List Int × List UInt8)
  | 0, _, s => some ([], s)
  | f + 1, at_, s => match rdNum 1048576 s with
    | none => none
    | some (x, t) => if at_ + (1 + (x : Int)) < len then (rdAts len f (at_ + (1 + (x : Int))) t).map (fun q => ((at_ + (1 + (x : Int))) :: q.1, q.2)) else none
/-- A posting: row, length, places. -/
def rdPost (last : Int) (s : List UInt8) : Option ((Int × Int × List Int) × List UInt8) :=
  match rdNum 9007199254740992 s with
  | none => none
  | some (a, s1) => match rdNum 1048576 s1 with
    | none => none
    | some (b, s2) => match rdNum 1048576 s2 with
      | none => none
      | some (c, s3) => (rdAts (1 + (b : Int)) (1 + c) (-1) s3).map fun q => ((last + 1 + a, 1 + (b : Int), q.1), q.2)

set_option maxRecDepth 100000 in
set_option maxHeartbeats 2000000 in
theorem rdposting_any (rb B : Nat) (s : List UInt8) (last : Int) (w : World) (hr : Reads w rb B s) (hbd : B ≤ w.heap.size) (h0 : -1 ≤ last) (h1 : last ≤ 1000000000000000000) :
    Calls Try.prog 32 #[.pointer (some ⟨rb, 0, none⟩), .int .i64 last] w fun e w' => Turned w w' rb ∧
      ((∃ row len ats t a c, rdPost last s = some ((row, len, ats), t) ∧ e = .returned (.agg #[.int .i64 row, .int .i64 len, .slice a ats.length c]) ∧ CellsAt w' a (ints ats) ∧ (∀ b off, a = some ⟨b, off, none⟩ → w.heap.size ≤ b ∧ b < w'.heap.size) ∧ Reads w' rb B t) ∨ (rdPost last s = none ∧ e = .panicked [wrongV])) := by
  have hlt := Nat.lt_of_lt_of_le hr.lt hbd
  go_enter Try.func32, Try.ntmps32
  go_wp2_with fail
  refine (rdnumber_any rb B s 9007199254740992 _ (hr.below ((Below.refl _ _).alloc hbd _)) (by omega)).mono ?_
  rintro e w1 ⟨hT, hc⟩
  have hT1 : Turned w w1 rb := (Turned.of_ext ((Below.refl _ _).alloc (Nat.le_refl _) _)).trans hT
  rcases hc with ⟨n1, s1, e1, rfl, hr1⟩ | ⟨e1, rfl⟩
  rotate_left
  · exact ⟨rfl, hT1, .inr ⟨by rw [rdPost, e1], rfl⟩⟩
  have hn1 := (rdGo_le _ _ _ _ _ _ e1).1
  have g4 : w1.heap[w.heap.size]? = some (.cells #[.int .i64 0, .int .i64 0, .slice none 0 0] 27 (0, 0)) := hT.row (heap_alloc_new _ _) (by omega)
  have P1 := Lib.hid (PS.start (row := last + 1 + n1) hT1 g4 (Nat.le_refl _) hr1 hbd)
  have E1 := Lib.hid e1
  have HT1 := Lib.hid hT1.size
  clear hT hT1 g4 hr1 hr e1
  go_wp2_with fail
  refine (P1.out.number 1048576 (by omega)).mono ?_
  rintro e w2 (⟨n2, s2, e2, hn2, rfl, P2⟩ | ⟨e2, rfl, hT2⟩)
  rotate_left
  · exact ⟨rfl, hT2, .inr ⟨by rw [rdPost, E1.out]; simp only []; rw [e2], rfl⟩⟩
  obtain ⟨c0, c1, c2, f0, f1, f2⟩ := cells_of3 P2.h5
  have HP2 := Lib.hid (P2.setLen (1 + n2))
  have E2 := Lib.hid e2
  clear P2 e2 P1
  go_wp2_with fail
  refine (HP2.out.number 1048576 (by omega)).mono ?_
  rintro e w3 (⟨n3, s3, e3, hn3, rfl, P3⟩ | ⟨e3, rfl, hT3⟩)
  rotate_left
  · exact ⟨rfl, hT3, .inr ⟨by rw [rdPost, E1.out]; simp only []; rw [E2.out]; simp only []; rw [e3], rfl⟩⟩
  have HP3 := Lib.hid P3
  have E3 := Lib.hid e3
  clear P3 e3 HP2 c0 c1 c2 f0 f1 f2
  have HR : Hid (rdPost last s = (rdAts (1 + (n2 : Int)) (1 + n3) (-1) s3).map fun q => ((last + 1 + n1, 1 + (n2 : Int), q.1), q.2)) := by
    show _ = _
    rw [rdPost, E1.out]; simp only []; rw [E2.out]; simp only []; rw [E3.out]
  clear E1 E2 E3
  go_wp2_with fail
  go_loopw [6, 20] (fun at_ i wr => ∃ (k : Nat) (a : Int) (ats : List Int) (ao : Option Addr) (cap : Nat) (t : List UInt8), k ≤ 1 + n3 ∧ i = .int .i64 k ∧ at_ = .int .i64 a ∧ -1 ≤ a ∧ a ≤ 1048576 ∧ Hid (ats.length = k) ∧ PS w rb B w.heap.size w1.heap.size (w1.heap.size + 1) (last + 1 + n1) (1 + n2) wr (.slice ao ats.length cap) ats t ∧ Hid (rdAts (1 + (n2 : Int)) (1 + n3) (-1) s3 = (rdAts (1 + (n2 : Int)) (1 + n3 - k) a t).map fun q => (ats ++ q.1, q.2))) (fun _ i _ => 1 + n3 - (intOf i).toNat)
  case atStart => exact ⟨0, -1, [], none, 0, s3, by omega, rfl, rfl, by omega, by omega, rfl, HP3.out, by simp [Hid]⟩
  case round =>
    obtain ⟨k, a, ats, ao, cap, t, hk, rfl, rfl, ha1, ha2, hal, P, hg⟩ := hrel
    by_cases hlt2 : k < 1 + n3
    · have HP := Lib.hid P
      clear P
      obtain ⟨f, hf⟩ : ∃ f, 1 + n3 - k = f + 1 := ⟨n3 - k, by omega⟩
      have hg2 := hg.out
      rw [hf, rdAts] at hg2
      have Hf := Lib.hid hf
      clear hf hg
      go_wp2_with fail
      refine (HP.out.number 1048576 (by omega)).mono ?_
      rintro e w4 (⟨x, t2, e4, hx, rfl, P4⟩ | ⟨e4, rfl, hT4⟩)
      rotate_left
      · rw [e4] at hg2
        exact ⟨rfl, hT4, .inr ⟨by rw [HR.out, hg2]; rfl, rfl⟩⟩
      rw [e4] at hg2
      simp only [] at hg2
      obtain ⟨c0, c1, c2, f0, f1, f2⟩ := cells_of3 P4.h5
      have HP4 := Lib.hid P4
      have hsz := P4.ord.2.2.2
      clear P4 HP
      by_cases hin : a + (1 + (x : Int)) < 1 + (n2 : Int)
      · rw [if_pos hin] at hg2
        have Hg := Lib.hid hg2
        clear hg2
        have hd : decide (a + (1 + (x : Int)) < 1 + (n2 : Int)) = true := by rw [decide_eq_true_iff]; exact hin
        go_wp2_with fail
        refine (need_true _).mono ?_
        rintro e w5 ⟨rfl, rfl⟩
        have hr1 := HP4.out.own.alloc (.cells #[.int .i64 (a + (1 + (x : Int)))] 3)
        have hcn : CellsAt (w4.alloc (.cells #[.int .i64 (a + (1 + (x : Int)))] 3)) (some ⟨w4.heap.size, 0, none⟩) (ints [a + (1 + (x : Int))]) := cells_new (heap_alloc_new _ _)
        have hb3 : w1.heap.size + 1 ≤ (w4.alloc (.cells #[.int .i64 (a + (1 + (x : Int)))] 3)).heap.size := by simp; omega
        have hB := Lib.hid (show ats.length + 1 ≤ maxLen ∧ (ats.length + 1) * 8 ≤ 140737488355328 by have := hal.out; unfold maxLen; omega)
        have hin2 : a + (1 + (x : Int)) ≤ 1048576 := by omega
        go_wp2_with (at_builtin; refine wpList_append_cells rfl (.tmp 33) (.tmp 35) rfl Try.underlying22 infoInt rfl Nat.one_pos rfl hr1 (some ⟨w4.heap.size, 0, none⟩) 1 1 (ints [a + (1 + (x : Int))]) rfl rfl hcn (ints_one _) hB.out.1 hB.out.2 hb3 ?_; intro v3 w5 hown3 o3; obtain ⟨d0, d1, d2, e0, e1, e2⟩ := HP4.out.after o3; obtain ⟨ao5, cap5, rfl, _, _⟩ := owns_form hown3)
        go_roundw
        case rel => 
          have := HP4.out.append o3 hown3
          refine ⟨k + 1, _, ats ++ [a + (1 + (x : Int))], ao5, cap5, t2, by omega, by rfl, by rfl, by omega, by omega, by show _ = _; simp [hal.out], ?_, ?_⟩
          · simpa using this
          · show _ = _
            rw [Hg.out, show 1 + n3 - (k + 1) = f by have := Hf.out; omega, Option.map_map]
            congr 1
            funext q; simp
        case measure => simp [intOf]; omega
      · rw [if_neg hin] at hg2
        have Hg := Lib.hid hg2
        clear hg2
        have hd : decide (a + (1 + (x : Int)) < 1 + (n2 : Int)) = false := by rw [decide_eq_false_iff_not]; exact hin
        go_wp2_with fail
        refine (need_false _).mono ?_
        rintro e w5 ⟨rfl, rfl⟩
        exact ⟨rfl, HP4.out.turned, .inr ⟨by rw [HR.out, Hg.out]; rfl, rfl⟩⟩
    · obtain rfl : k = 1 + n3 := by omega
      have hg2 := hg.out
      rw [Nat.sub_self, rdAts] at hg2
      have Hg := Lib.hid hg2
      obtain ⟨c0, c1, c2, f0, f1, f2⟩ := cells_of3 P.h5
      obtain ⟨g0, g1, g2, j0, j1, j2⟩ := cells_of3 P.h4
      have HP := Lib.hid P
      have ho := P.ord
      have hne1 : w.heap.size ≠ w1.heap.size := by omega
      clear P hg hg2
      go_wp2_with fail
      refine bodyPost_ret (results_cell_row rfl _ _ w.heap.size 27 #[.int .i64 (last + 1 + n1), .int .i64 (1 + n2), .slice ao ats.length cap] (0, 0) _ rfl ?_ Try.underlying27 rfl rfl) rfl ?_
      · have := HP.out.h4
        simp [World.setCell, Array.getElem?_modify, this]
      · have hB : Below w.heap.size wr (((wr.setCell ⟨w.heap.size, 0, none⟩ (.int .i64 (last + 1 + n1))).setCell ⟨w.heap.size, 1, none⟩ (.int .i64 (1 + n2))).setCell ⟨w.heap.size, 2, none⟩ (.slice ao ats.length cap)) :=
          (((Below.refl _ _).setCell (p := ⟨w.heap.size, 0, none⟩) (Nat.le_refl _) _).setCell (p := ⟨w.heap.size, 1, none⟩) (Nat.le_refl _) _).setCell (p := ⟨w.heap.size, 2, none⟩) (Nat.le_refl _) _
        have hown := ownsRow_setCell_below (ownsRow_setCell_below (ownsRow_setCell_below HP.out.own (a := ⟨w.heap.size, 0, none⟩) (by show w.heap.size < _; omega) (.int .i64 (last + 1 + n1))) (a := ⟨w.heap.size, 1, none⟩) (by show w.heap.size < _; omega) (.int .i64 (1 + n2))) (a := ⟨w.heap.size, 2, none⟩) (by show w.heap.size < _; omega) (.slice ao ats.length cap)
        obtain ⟨ao2, cap2, e2, hcc, hbb⟩ := owns_form hown
        simp only [Value.slice.injEq, true_and] at e2
        obtain ⟨rfl, rfl⟩ := e2
        refine ⟨HP.out.turned.below hB, .inl ⟨_, _, ats, t, ao, cap, ?_, rfl, hcc, fun b off e => ⟨by have := (hbb b off e).1; omega, (hbb b off e).2⟩, HP.out.reads.below (hB.mono hbd)⟩⟩
        rw [HR.out, Hg.out]
        simp
end Go.Proofs.Ytdlijjmjfepklaa
