/-
  The walk of BlockBack: for whatever list and bytes the law answers true and turns nothing that was there.
-/
import Derived.Test.YtdlijjmjfepklaaLawReads
namespace Go.Proofs.Ytdlijjmjfepklaa
open Go.RowKit

theorem bPack_room (ao : Option Addr) (n cap : Nat) (ps : List PV) (w : World) (hx : ps.length = n) (hn : n ≤ 9223372036854775807) (hc : PostsAt w ao ps) (hs : ∀ p ∈ ps, p.ats.length ≤ 1000000) :
    Calls Try.prog 16 #[.slice ao n cap] w fun e w' => ∃ a k, e = .returned (.tuple #[.slice a (packR ps).length k, .int .i64 (errR ps)]) ∧ (packR ps).length ≤ k ∧ k ≤ maxLen ∧ CellsAt w' a (byteVals (packR ps)) ∧ (∀ b off, a = some ⟨b, off, none⟩ → b < w'.heap.size) ∧ Ext w w' := by
  cases h : rightB ps with
  | false =>
    refine (pack_not ao n cap ps w hx hn hc (fun p hp => by have := hs p hp; omega) h).mono ?_
    rintro e w' ⟨rfl, he⟩
    rw [packR, errR, h]
    exact ⟨none, 0, rfl, Nat.le_refl _, Nat.zero_le _, CellsAt.nil, (fun b off e => by cases e), he⟩
  | true =>
    refine (pack_any ao n cap ps w hx hn hc hs h).mono ?_
    rintro e w' ⟨v, rfl, hown, he⟩
    obtain ⟨a, k, rfl, h1, h2, h3, h4⟩ := owns_room hown
    rw [packR, errR, h]
    exact ⟨a, k, rfl, h1, h2, h3, h4, he⟩

/-- The contracts that the law's walk calls. -/
structure BackCalls (w : World) (ao : Option Addr) (n cap : Nat) (ps : List PV) (bo : Option Addr) (m cb : Nat) (s : List UInt8) : Prop where
  hof : ∀ W', Ext w W' → Calls Try.prog 17 #[.slice ao n cap] W' fun e w' => ∃ ao' cap' ps', e = .returned (.slice ao' n cap') ∧ PostsAt w' ao' ps' ∧ ps'.map PV.norm = ps.map PV.norm ∧ Ext W' w'
  hpack : ∀ W' a c qs, PostsAt W' a qs → qs.map PV.norm = ps.map PV.norm → Calls Try.prog 16 #[.slice a n c] W' fun e w' => ∃ a k, e = .returned (.tuple #[.slice a (packR ps).length k, .int .i64 (errR ps)]) ∧ (packR ps).length ≤ k ∧ k ≤ maxLen ∧ CellsAt w' a (byteVals (packR ps)) ∧ (∀ b off, a = some ⟨b, off, none⟩ → b < w'.heap.size) ∧ Ext W' w'
  hunp : ∀ W' a c, (packR ps).length ≤ c → c ≤ maxLen → CellsAt W' a (byteVals (packR ps)) → (∀ b off, a = some ⟨b, off, none⟩ → b < W'.heap.size) → Calls Try.prog 22 #[.slice a (packR ps).length c] W' fun e w' => ∃ qs a c, e = .returned (.tuple #[.slice a qs.length c, .int .i64 (ers (packR ps))]) ∧ PostsAt w' a qs ∧ qs.map PV.norm = lst (packR ps) ∧ Ext W' w'
  htold : ∀ W' a c qs, PostsAt W' a qs → qs.map PV.norm = lst (packR ps) → Calls Try.prog 25 #[.slice a qs.length c] W' fun e w' => ∃ ao' cap', e = .returned (.slice ao' qs.length cap') ∧ PostsAt w' ao' qs ∧ Ext W' w'
  hsame : rightB ps = true → ∀ W' a k c qs, qs.length = k → Ext w W' → PostsAt W' a qs → qs.map PV.norm = lst (packR ps) → Calls Try.prog 24 #[.slice a k c, .slice ao n cap] W' fun e w' => e = .returned (.bool true) ∧ Ext W' w'
  hunp2 : ∀ W', Ext w W' → Calls Try.prog 22 #[.slice bo m cb] W' fun e w' => ∃ qs a c, e = .returned (.tuple #[.slice a qs.length c, .int .i64 (ers s)]) ∧ PostsAt w' a qs ∧ qs.map PV.norm = lst s ∧ Ext W' w'
  hpack2 : ∀ W' a c qs, PostsAt W' a qs → qs.map PV.norm = lst s → Calls Try.prog 16 #[.slice a qs.length c] W' fun e w' => ∃ a k, e = .returned (.tuple #[.slice a (packR (lst s)).length k, .int .i64 (errR (lst s))]) ∧ CellsAt w' a (byteVals (packR (lst s))) ∧ Ext W' w'
  hbs : ∀ W', Ext w W' → CellsAt W' bo (byteVals s)
  hwake : ∀ W', Calls Try.prog 13 #[] W' fun e w' => e = .returned (.bool true) ∧ Ext W' w'

theorem packR_right {ps : List PV} (h : rightB ps = true) : ers (packR ps) = 0 ∧ lst (packR ps) = ps.map PV.norm := by
  have e : packR ps = packB ps := by rw [packR, h]; rfl
  rw [e, ers, lst, rdList_fwd h]
  exact ⟨rfl, rfl⟩

theorem back_calls (ao : Option Addr) (n cap : Nat) (ps : List PV) (bo : Option Addr) (m cb : Nat) (s : List UInt8) (w : World) (hx : ps.length = n) (hc : PostsAt w ao ps) (h70 : ps.length ≤ 70) (h100 : ∀ p ∈ ps, p.ats.length ≤ 100)
    (hs : s.length = m) (hm : m ≤ 600) (hmc : m ≤ cb) (hcb : cb ≤ maxLen) (hbc : CellsAt w bo (byteVals s)) (hlow : ∀ b off, bo = some ⟨b, off, none⟩ → b < w.heap.size) : BackCalls w ao n cap ps bo m cb s where
  hof := fun W' h => of18_any ao n cap ps W' hx (by omega) (hc.ext h) (fun p hp => by have := h100 p hp; omega)
  hpack := fun W' a c qs h e => by
    have := bPack_room a n c qs W' ((norm_len e).trans hx) (by omega) h (norm_ats e fun p hp => by have := h100 p hp; omega)
    simpa only [packR, errR, norm_right e, norm_pack e] using this
  hunp := fun W' a c h1 h2 h3 h4 => bUnpack_two a _ c (packR ps) W' rfl h1 h2 h3 h4
  htold := fun W' a c qs h1 h2 => told_any a _ c qs W' rfl (by have := (lst_facts (packR ps)).1; have := congrArg List.length h2; simp at this; omega) h1
  hsame := fun hr W' a k c qs h0 hE h1 h2 => by
    rw [(packR_right hr).2] at h2
    have := norm_len h2
    obtain rfl : n = k := by omega
    exact same_any a ao n c cap qs ps W' h0 (by omega) h1 (hc.ext hE) h2 (norm_ats h2 fun p hp => by have := h100 p hp; omega)
  hunp2 := fun W' h => bUnpack_two bo m cb s W' hs hmc hcb (hbc.ext h) (fun b off e => Nat.lt_of_lt_of_le (hlow b off e) h.size)
  hpack2 := fun W' a c qs h e => by
    obtain ⟨f1, f2, f3⟩ := lst_facts s
    have e2 : qs.map PV.norm = (lst s).map PV.norm := e.trans f2.symm
    have := bPack_any a _ c qs W' rfl (by have := norm_len e2; omega) h (norm_ats e2 fun p hp => by have := f3 p hp; omega)
    simpa only [packR, errR, norm_right e2, norm_pack e2] using this
  hbs := fun W' h => hbc.ext h
  hwake := awake18_any

set_option maxRecDepth 100000 in
set_option maxHeartbeats 4000000 in
theorem lawBack_any (ao : Option Addr) (n cap : Nat) (ps : List PV) (bo : Option Addr) (m cb : Nat) (s : List UInt8) (w : World) (hx : ps.length = n) (hn : n ≤ 9223372036854775807) (hc : PostsAt w ao ps)
    (hs : s.length = m) (hmc : m ≤ cb) (hcb : cb ≤ maxLen) (hbc : CellsAt w bo (byteVals s)) (hlow : ∀ b off, bo = some ⟨b, off, none⟩ → b < w.heap.size) :
    Calls Try.prog 8 #[.slice ao n cap, .slice bo m cb] w fun e w' => e = .returned (.bool true) ∧ Ext w w' := by
  have HL := Lib.hid (light_any ao n cap ps w hx hn hc)
  have hm63 : m ≤ 9223372036854775807 := by unfold maxLen at hcb; omega
  cases hl : lightB ps with
  | false =>
    rw [hl] at HL
    clear hx hc hl hs hmc hcb hbc hlow
    go_enter Try.func8, Try.ntmps8
    go_wp2_with (first | (go_at_call 15; refine HL.out.mono ?_; rintro e w1 ⟨rfl, rfl⟩) | fail)
    go_ret
    exact ⟨rfl, Below.refl _ _⟩
  | true =>
    rw [hl] at HL
    by_cases hbig : m ≤ 600
    rotate_left
    · have d1 : decide ((m : Int) > 600) = true := by rw [decide_eq_true_iff]; omega
      have d1' : decide (600 < (m : Int)) = true := d1
      clear hx hc hl hs hmc hcb hbc hlow
      go_enter Try.func8, Try.ntmps8
      go_wp2_with (first | (go_at_call 15; refine HL.out.mono ?_; rintro e w1 ⟨rfl, rfl⟩) | fail)
      go_ret
      exact ⟨rfl, Below.refl _ _⟩
    have d1 : decide ((m : Int) > 600) = false := by rw [decide_eq_false_iff_not]; omega
    have d1' : decide (600 < (m : Int)) = false := d1
    obtain ⟨h70, h100⟩ := light_facts hl
    have HB := Lib.hid (back_calls ao n cap ps bo m cb s w hx hc h70 h100 hs hbig hmc hcb hbc hlow)
    have Hs := Lib.hid hs
    clear hx hc hl h100 hs hmc hcb hbc hlow
    go_enter Try.func8, Try.ntmps8
    go_wp2_with (first | (go_at_call 15; refine HL.out.mono ?_; rintro e w1 ⟨rfl, rfl⟩) | fail)
    refine (HB.out.hof w (Below.refl _ _)).mono ?_
    rintro e w1 ⟨a1, c1, q1, rfl, k1, n1, E1⟩
    go_wp2_with fail
    refine (HB.out.hpack w1 a1 c1 q1 k1 n1).mono ?_
    rintro e w2 ⟨a2, c2, rfl, r1, r2, r3, r4, F2⟩
    have E2 := Ext.trans' E1 F2
    have R4 := Lib.hid r4
    have R1 := Lib.hid r1
    have R2 := Lib.hid r2
    clear k1 n1 E1 F2 r4 r1 r2
    go_wp2_with fail
    refine (HB.out.hunp w2 a2 c2 R1.out R2.out r3 R4.out).mono ?_
    rintro e w3 ⟨q3, a3, c3, rfl, k3, n3, F3⟩
    have E3 := Ext.trans' E2 F3
    have K3 := Lib.hid k3
    have N3 := Lib.hid n3
    clear E2 F3 r3 R4 k3 n3
    have HT : Hid (∃ X : Int, X = ers (packR ps)) := ⟨_, rfl⟩
    have tail : ∀ (w5 : World), Ext w w5 → True := fun _ _ => trivial
    cases hr : rightB ps with
    | false =>
      have e1 : errR ps = 5 := by rw [errR, hr]; rfl
      obtain ⟨X, hX⟩ : ∃ X : Int, X = ers (packR ps) := ⟨_, rfl⟩
      rw [e1, ← hX]
      clear hX hr e1
      go_wp2_with fail
      refine (HB.out.hunp2 w3 E3).mono ?_
      rintro e w6 ⟨q6, a6, c6, rfl, k6, n6, F6⟩
      have E6 := Ext.trans' E3 F6
      go_wp2_with fail
      refine (HB.out.hpack2 w6 a6 c6 q6 k6 n6).mono ?_
      rintro e w7 ⟨a7, c7, rfl, k7, F7⟩
      have E7 := Ext.trans' E6 F7
      clear k6 F6 E6 F7
      cases hd : rdList s with
      | none =>
        have f1 : ers s = 5 := by rw [ers, hd]
        have f2 : lst s = [] := by rw [lst, hd]; rfl
        rw [f2] at n6
        have f3 : q6.length = 0 := by have := congrArg List.length n6; simpa using this
        obtain ⟨P, hP⟩ : ∃ P : List UInt8, P = packR (lst s) := ⟨_, rfl⟩
        obtain ⟨R, hR⟩ : ∃ R : Int, R = errR (lst s) := ⟨_, rfl⟩
        rw [f1, f3, ← hP, ← hR]
        clear k7 f1 f2 f3 n6 hd hP hR
        go_wp2_with (first | (go_at_call 13; refine (HB.out.hwake _).mono ?_; rintro e w8 ⟨rfl, F8⟩) | fail)
        go_ret
        exact ⟨rfl, Ext.trans' E7 F8⟩
      | some l =>
        have f1 : ers s = 0 := by rw [ers, hd]
        have f2 : lst s = l := by rw [lst, hd]; rfl
        obtain ⟨g1, g2, g3⟩ := rdList_inv hd
        have f3 : packR (lst s) = s := by rw [f2, packR, g1, g2]; rfl
        have f4 : errR (lst s) = 0 := by rw [f2, errR, g1]; rfl
        have hcv1 : (convert 36 9 (.slice a7 (packR (lst s)).length c7)).run Try.prog w7 = .ok (.string ⟨(packR (lst s)).toArray⟩) w7 :=
          run_convert_cells w7 36 9 5 Try.underlying36 Try.underlying5 Try.underlying9 a7 _ c7 (packR (lst s)) rfl k7
        have hcv2 : (convert 36 9 (.slice bo m cb)).run Try.prog w7 = .ok (.string ⟨s.toArray⟩) w7 :=
          run_convert_cells w7 36 9 5 Try.underlying36 Try.underlying5 Try.underlying9 bo m cb s Hs.out (HB.out.hbs w7 E7)
        rw [f3] at hcv1
        rw [f1, f3, f4]
        clear k7 f1 f2 f3 f4 n6 hd g1 g2 g3
        go_wp2_with (first | (go_at_call 13; refine (HB.out.hwake _).mono ?_; rintro e w8 ⟨rfl, F8⟩) | fail)
        go_ret
        exact ⟨rfl, Ext.trans' E7 F8⟩
    | true =>
      have e1 : errR ps = 0 := by rw [errR, hr]; rfl
      have e2 := (packR_right hr).1
      rw [e1, e2]
      have Hr := Lib.hid hr
      clear hr e1 e2
      go_wp2_with (first | (go_at_call 25; refine (HB.out.htold w3 a3 c3 q3 K3.out N3.out).mono ?_; rintro e w4 ⟨a4, c4, rfl, k4, F4⟩; have E4 := Ext.trans' E3 F4; have K4 := Lib.hid k4; clear k4 F4) | (go_at_call 24; refine (HB.out.hsame Hr.out w4 a4 _ c4 q3 rfl E4 K4.out N3.out).mono ?_; rintro e w5 ⟨rfl, F5⟩; have E5 := Ext.trans' E4 F5; clear F5) | fail)
      refine (HB.out.hunp2 w5 E5).mono ?_
      rintro e w6 ⟨q6, a6, c6, rfl, k6, n6, F6⟩
      have E6 := Ext.trans' E5 F6
      go_wp2_with fail
      refine (HB.out.hpack2 w6 a6 c6 q6 k6 n6).mono ?_
      rintro e w7 ⟨a7, c7, rfl, k7, F7⟩
      have E7 := Ext.trans' E6 F7
      clear k6 F6 E6 F7
      cases hd : rdList s with
      | none =>
        have f1 : ers s = 5 := by rw [ers, hd]
        have f2 : lst s = [] := by rw [lst, hd]; rfl
        rw [f2] at n6
        have f3 : q6.length = 0 := by have := congrArg List.length n6; simpa using this
        obtain ⟨P, hP⟩ : ∃ P : List UInt8, P = packR (lst s) := ⟨_, rfl⟩
        obtain ⟨R, hR⟩ : ∃ R : Int, R = errR (lst s) := ⟨_, rfl⟩
        rw [f1, f3, ← hP, ← hR]
        clear k7 f1 f2 f3 n6 hd hP hR
        go_wp2_with (first | (go_at_call 13; refine (HB.out.hwake _).mono ?_; rintro e w8 ⟨rfl, F8⟩) | fail)
        go_ret
        exact ⟨rfl, Ext.trans' E7 F8⟩
      | some l =>
        have f1 : ers s = 0 := by rw [ers, hd]
        have f2 : lst s = l := by rw [lst, hd]; rfl
        obtain ⟨g1, g2, g3⟩ := rdList_inv hd
        have f3 : packR (lst s) = s := by rw [f2, packR, g1, g2]; rfl
        have f4 : errR (lst s) = 0 := by rw [f2, errR, g1]; rfl
        have hcv1 : (convert 36 9 (.slice a7 (packR (lst s)).length c7)).run Try.prog w7 = .ok (.string ⟨(packR (lst s)).toArray⟩) w7 :=
          run_convert_cells w7 36 9 5 Try.underlying36 Try.underlying5 Try.underlying9 a7 _ c7 (packR (lst s)) rfl k7
        have hcv2 : (convert 36 9 (.slice bo m cb)).run Try.prog w7 = .ok (.string ⟨s.toArray⟩) w7 :=
          run_convert_cells w7 36 9 5 Try.underlying36 Try.underlying5 Try.underlying9 bo m cb s Hs.out (HB.out.hbs w7 E7)
        rw [f3] at hcv1
        rw [f1, f3, f4]
        clear k7 f1 f2 f3 f4 n6 hd g1 g2 g3
        go_wp2_with (first | (go_at_call 13; refine (HB.out.hwake _).mono ?_; rintro e w8 ⟨rfl, F8⟩) | fail)
        go_ret
        exact ⟨rfl, Ext.trans' E7 F8⟩
end Go.Proofs.Ytdlijjmjfepklaa
