/-
  The walk of BlockReads: for whatever bytes the law answers true and turns nothing that was there.
-/
import Derived.Test.YtdlijjmjfepklaaRUnpack
namespace Go.Proofs.Ytdlijjmjfepklaa
open Go.RowKit

/-- The list that bytes are, none where they are none. -/
def lst (s : List UInt8) : List PV := (rdList s).getD []
def ers (s : List UInt8) : Int := match rdList s with | some _ => 0 | none => 5

theorem packL_ats : ∀ (l : List PV) (last : Int), ∀ p ∈ l, p.ats.length ≤ (packL last l).length := by
  intro l
  induction l with
  | nil => intro last p hp; cases hp
  | cons q r ih =>
    intro last p hp
    rw [packL]
    simp only [List.length_append]
    rcases List.mem_cons.1 hp with rfl | h
    · have := rowB_length p.ats (-1)
      omega
    · have := ih q.row p h
      omega
theorem lst_facts (s : List UInt8) : (lst s).length ≤ 64 ∧ (lst s).map PV.norm = lst s ∧ ∀ p ∈ lst s, p.ats.length ≤ s.length := by
  unfold lst
  cases h : rdList s with
  | none => exact ⟨by simp, rfl, fun p hp => by cases hp⟩
  | some l =>
    obtain ⟨h1, h2, h3⟩ := rdList_inv h
    refine ⟨(right_list h1).2, h3, fun p hp => ?_⟩
    have := packL_ats l (-1) p hp
    show _ ≤ s.length
    rw [h2, packB, List.length_append]
    omega

theorem bUnpack_two (ao : Option Addr) (n cap : Nat) (s : List UInt8) (w : World) (hs : s.length = n) (hn : n ≤ cap) (hcap : cap ≤ maxLen) (hc : CellsAt w ao (byteVals s)) (hlow : ∀ b off, ao = some ⟨b, off, none⟩ → b < w.heap.size) :
    Calls Try.prog 22 #[.slice ao n cap] w fun e w' => ∃ qs a c, e = .returned (.tuple #[.slice a qs.length c, .int .i64 (ers s)]) ∧ PostsAt w' a qs ∧ qs.map PV.norm = lst s ∧ Ext w w' :=
  (unpack_any ao n cap s w hs hn hcap hc hlow).mono fun e w' ⟨h0, h⟩ => by
    rcases h with ⟨l, qs, a, c, h1, h2, h3, h4⟩ | ⟨h1, h2⟩
    · exact ⟨qs, a, c, by rw [ers, h1]; exact h2, h3, by rw [lst, h1]; exact h4, h0⟩
    · exact ⟨[], none, 0, by rw [ers, h1]; exact h2, ⟨fun k p hp => by simp at hp, fun p hp => by cases hp⟩, by rw [lst, h1]; rfl, h0⟩
theorem rUnpack_two (ao : Option Addr) (n cap : Nat) (s : List UInt8) (w : World) (hs : s.length = n) (hn : n ≤ 1000000) (hc : CellsAt w ao (byteVals s)) :
    Calls Try.prog 23 #[.slice ao n cap] w fun e w' => ∃ qs a c, e = .returned (.tuple #[.slice a qs.length c, .int .i64 (ers s)]) ∧ PostsAt w' a qs ∧ qs.map PV.norm = lst s ∧ Ext w w' :=
  (rUnpack_any ao n cap s w hs hn hc).mono fun e w' ⟨h0, h⟩ => by
    rw [readers_same] at h
    rcases h with ⟨l, qs, a, c, h1, h2, h3, h4, _⟩ | ⟨h1, h2⟩
    · exact ⟨qs, a, c, by rw [ers, h1]; exact h2, h3, by rw [lst, h1]; exact h4, h0⟩
    · exact ⟨[], none, 0, by rw [ers, h1]; exact h2, ⟨fun k p hp => by simp at hp, fun p hp => by cases hp⟩, by rw [lst, h1]; rfl, h0⟩

theorem owns_room {w : World} {base : Nat} {e : TypeId} {size : Nat} {v : Value} {n : Nat} {xs : List Value} (h : w.ownsRow base e size v n xs) :
    ∃ ao cap, v = .slice ao n cap ∧ n ≤ cap ∧ cap ≤ maxLen ∧ CellsAt w ao xs ∧ (∀ b off, ao = some ⟨b, off, none⟩ → b < w.heap.size) := by
  obtain ⟨ao, cap, rfl, hc, hb⟩ := owns_form h
  obtain ⟨_, h⟩ := h
  rcases h with ⟨e1, rfl⟩ | ⟨g, cap2, cur, e1, _, _, hnc, hcm, _⟩
  · simp only [Value.slice.injEq] at e1
    obtain ⟨rfl, _, rfl⟩ := e1
    exact ⟨none, 0, rfl, Nat.le_refl _, Nat.zero_le _, hc, fun b off e => (hb b off e).2⟩
  · simp only [Value.slice.injEq, true_and] at e1
    obtain ⟨rfl, rfl⟩ := e1
    exact ⟨_, _, rfl, hnc, hcm, hc, fun b off e => (hb b off e).2⟩

set_option maxRecDepth 100000 in
set_option maxHeartbeats 4000000 in
theorem lawReads_any (ao : Option Addr) (n cap : Nat) (s : List UInt8) (w : World) (hs : s.length = n) (hn : n ≤ 9223372036854775807) (hc : CellsAt w ao (byteVals s)) :
    Calls Try.prog 7 #[.slice ao n cap] w fun e w' => e = .returned (.bool true) ∧ Ext w w' := by
  have Hs := Lib.hid hs
  have HC := Lib.hid hc
  clear hs hc
  by_cases hbig : n ≤ 600
  rotate_left
  · have d1 : decide ((n : Int) > 600) = true := by rw [decide_eq_true_iff]; omega
    have d1' : decide (600 < (n : Int)) = true := d1
    go_enter Try.func7, Try.ntmps7
    go_wp2_with fail
    go_ret
    exact ⟨rfl, Below.refl _ _⟩
  have d1 : decide ((n : Int) > 600) = false := by rw [decide_eq_false_iff_not]; omega
  have d1' : decide (600 < (n : Int)) = false := d1
  obtain ⟨f64, fnorm, fats⟩ := lst_facts s
  have A1 : Hid (∀ W' a c, n ≤ c → c ≤ maxLen → CellsAt W' a (byteVals s) → (∀ b off, a = some ⟨b, off, none⟩ → b < W'.heap.size) → Calls Try.prog 22 #[.slice a n c] W' fun e w' => ∃ qs a c, e = .returned (.tuple #[.slice a qs.length c, .int .i64 (ers s)]) ∧ PostsAt w' a qs ∧ qs.map PV.norm = lst s ∧ Ext W' w') :=
    fun W' a c h1 h2 h3 h4 => bUnpack_two a n c s W' Hs.out h1 h2 h3 h4
  have A2 : Hid (∀ W', Ext w W' → Calls Try.prog 23 #[.slice ao n cap] W' fun e w' => ∃ qs a c, e = .returned (.tuple #[.slice a qs.length c, .int .i64 (ers s)]) ∧ PostsAt w' a qs ∧ qs.map PV.norm = lst s ∧ Ext W' w') :=
    fun W' h => rUnpack_two ao n cap s W' Hs.out (by omega) (HC.out.ext h)
  have A3 : Hid (∀ W' a m c qs, qs.length = m → PostsAt W' a qs → qs.map PV.norm = lst s → Calls Try.prog 25 #[.slice a m c] W' fun e w' => ∃ ao' cap', e = .returned (.slice ao' m cap') ∧ PostsAt w' ao' qs ∧ Ext W' w') :=
    fun W' a m c qs h0 h1 h2 => told_any a m c qs W' h0 (by have := congrArg List.length h2; simp at this; omega) h1
  have A4 : Hid (∀ W' a b m k c d ps qs, ps.length = m → qs.length = k → PostsAt W' a ps → PostsAt W' b qs → ps.map PV.norm = lst s → qs.map PV.norm = lst s → Calls Try.prog 24 #[.slice a m c, .slice b k d] W' fun e w' => e = .returned (.bool true) ∧ Ext W' w') :=
    fun W' a b m k c d ps qs h0 h00 h1 h2 h3 h4 => by
      have e1 := congrArg List.length h3
      have e2 := congrArg List.length h4
      simp at e1 e2
      obtain rfl : m = k := by omega
      refine same_any a b m c d ps qs W' h0 (by omega) h1 h2 (h3.trans h4.symm) ?_
      exact norm_ats (ps := lst s) (h3.trans fnorm.symm) (fun p hp => by have := fats p hp; have := Hs.out; omega)
  have A7 : Hid (∀ W', Calls Try.prog 13 #[] W' fun e w' => e = .returned (.bool true) ∧ Ext W' w') := awake18_any
  have hown : (w.alloc (.cells #[] 5)).ownsRow w.heap.size 5 1 (.slice (some ⟨w.heap.size, 0, none⟩) 0 0) 0 [] :=
    ⟨rfl, .inr ⟨w.heap.size, 0, #[], rfl, Nat.le_refl _, heap_alloc_new _ _, Nat.le_refl _, Nat.zero_le _, rfl, rfl⟩⟩
  have hc2 : CellsAt (w.alloc (.cells #[] 5)) ao (byteVals s) := HC.out.ext ((Below.refl _ _).alloc (Nat.le_refl _) _)
  have hl : (byteVals s).length = n * 1 := by rw [byteVals_length, Nat.mul_one]; exact Hs.out
  have h63 : 0 + n ≤ maxLen ∧ (0 + n) * 1 ≤ 140737488355328 := by unfold maxLen; omega
  have hEr : ((ers s) == (ers s)) = true := by simp
  obtain ⟨E, hE⟩ : ∃ E, E = ers s := ⟨_, rfl⟩
  rw [← hE] at A1 A2 hEr
  have Hl := Lib.hid hl
  have H63 := Lib.hid h63
  have hb0 : w.heap.size ≤ (w.alloc (.cells #[] 5)).heap.size := by simp
  clear f64 fnorm fats hE hl h63
  go_enter Try.func7, Try.ntmps7
  go_wp2_with (first | (at_builtin; refine wpList_append_cells rfl (.tmp 11) (.tmp 12) rfl Try.underlying36 infoByte rfl Nat.one_pos rfl hown ao n cap (byteVals s) rfl Hl.out hc2 (byteVals_one _) H63.out.1 H63.out.2 hb0 ?_; intro v3 w3 hown3 o3; obtain ⟨ao5, cap5, rfl, r1, r2, r3, r4⟩ := owns_room hown3) | fail)
  have E3 : Ext w w3 := ((Below.refl _ w).alloc (Nat.le_refl _) _).trans (o3.below hb0 fun q hq => (hown.lt q hq).1)
  have R4 := Lib.hid r4
  have r1' : n ≤ cap5 := by omega
  clear hown3 o3 hown r4 r1
  simp only [List.nil_append] at r3
  refine (A1.out w3 ao5 cap5 r1' r2 r3 R4.out).mono ?_
  rintro e w4 ⟨q4, a4, c4, rfl, p4, n4, F4⟩
  have E4 := Ext.trans' E3 F4
  clear r3 r1' r2 R4
  go_wp2_with fail
  refine (A2.out w4 E4).mono ?_
  rintro e w5 ⟨q5, a5, c5, rfl, p5, n5, F5⟩
  have E5 := Ext.trans' E4 F5
  have p4' := p4.ext F5
  clear p4
  go_wp2_with fail
  refine (A3.out w5 a4 _ c4 q4 rfl p4' n4).mono ?_
  rintro e w6 ⟨a6, c6, rfl, p6, F6⟩
  have E6 := Ext.trans' E5 F6
  have p5' := p5.ext F6
  clear p5 p4'
  go_wp2_with fail
  refine (A4.out w6 a6 a5 _ _ c6 c5 q4 q5 rfl rfl p6 p5' n4 n5).mono ?_
  rintro e w7 ⟨rfl, F7⟩
  have E7 := Ext.trans' E6 F7
  go_wp2_with fail
  refine (A7.out _).mono ?_
  rintro e w8 ⟨rfl, F8⟩
  have E8 := Ext.trans' E7 F8
  go_wp2_with fail
  go_ret
  exact ⟨rfl, E8⟩
end Go.Proofs.Ytdlijjmjfepklaa
