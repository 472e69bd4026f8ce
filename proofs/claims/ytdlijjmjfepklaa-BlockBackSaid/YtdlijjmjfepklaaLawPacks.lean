/-
  The walk of BlockPacks: for whatever list the law answers true and turns nothing that was there.
-/
import Derived.Test.YtdlijjmjfepklaaTop
import Derived.Test.YtdlijjmjfepklaaLawFollows
namespace Go.Proofs.Ytdlijjmjfepklaa
open Go.RowKit

def packR (ps : List PV) : List UInt8 := if rightB ps then packB ps else []
def errR (ps : List PV) : Int := if rightB ps then 0 else 5
def tfR (ps : List PV) : Nat := if rightB ps then tfB ps else 0
def lnR (ps : List PV) : Int := if rightB ps then lnB ps else 0

theorem norm_len {ps qs : List PV} (h : qs.map PV.norm = ps.map PV.norm) : qs.length = ps.length := by simpa using congrArg List.length h
theorem norm_right {ps qs : List PV} (h : qs.map PV.norm = ps.map PV.norm) : rightB qs = rightB ps := by rw [← rightB_norm, h, rightB_norm]
theorem norm_pack {ps qs : List PV} (h : qs.map PV.norm = ps.map PV.norm) : packB qs = packB ps := by rw [← packB_norm, h, packB_norm]
theorem norm_tf {ps qs : List PV} (h : qs.map PV.norm = ps.map PV.norm) : tfB qs = tfB ps := by rw [← tf_norm, h, tf_norm]
theorem norm_ln {ps qs : List PV} (h : qs.map PV.norm = ps.map PV.norm) : lnB qs = lnB ps := by rw [← ln_norm, h, ln_norm]
theorem norm_ats {ps qs : List PV} {m : Nat} (h : qs.map PV.norm = ps.map PV.norm) (hs : ∀ p ∈ ps, p.ats.length ≤ m) : ∀ q ∈ qs, q.ats.length ≤ m := by
  intro q hq
  have : q.norm ∈ ps.map PV.norm := by rw [← h]; exact List.mem_map_of_mem hq
  obtain ⟨p, hp, e⟩ := List.mem_map.1 this
  have e3 := congrArg PV.ats e
  have e2 : p.ats = q.ats := e3
  rw [← e2]; exact hs p hp

theorem bPack_any (ao : Option Addr) (n cap : Nat) (ps : List PV) (w : World) (hx : ps.length = n) (hn : n ≤ 9223372036854775807) (hc : PostsAt w ao ps) (hs : ∀ p ∈ ps, p.ats.length ≤ 1000000) :
    Calls Try.prog 16 #[.slice ao n cap] w fun e w' => ∃ a k, e = .returned (.tuple #[.slice a (packR ps).length k, .int .i64 (errR ps)]) ∧ CellsAt w' a (byteVals (packR ps)) ∧ Ext w w' := by
  cases h : rightB ps with
  | false =>
    refine (pack_not ao n cap ps w hx hn hc (fun p hp => by have := hs p hp; omega) h).mono ?_
    rintro e w' ⟨rfl, he⟩
    rw [packR, errR, h]
    exact ⟨none, 0, rfl, CellsAt.nil, he⟩
  | true =>
    refine (pack_any ao n cap ps w hx hn hc hs h).mono ?_
    rintro e w' ⟨v, rfl, hown, he⟩
    obtain ⟨a, k, rfl, hcc, _⟩ := owns_form hown
    rw [packR, errR, h]
    exact ⟨a, k, rfl, hcc, he⟩

set_option maxRecDepth 100000 in
set_option maxHeartbeats 1000000 in
theorem refPack_not (ao : Option Addr) (n cap : Nat) (ps : List PV) (w : World) (hx : ps.length = n) (hn : n ≤ 9223372036854775807) (hc : PostsAt w ao ps) (hs : ∀ p ∈ ps, p.ats.length ≤ 9223372036854775807) (hgood : rightB ps = false) :
    Calls Try.prog 18 #[.slice ao n cap] w fun e w' => e = .returned (.tuple #[.slice none 0 0, .int .i64 5]) ∧ Ext w w' := by
  have HR := Lib.hid (refRight_any ao n cap ps w hx hn hc hs)
  rw [hgood] at HR
  clear hx hgood
  go_enter Try.func18, Try.ntmps18
  go_wp2_with fail
  refine HR.out.mono ?_
  rintro e w1 ⟨rfl, he1⟩
  go_wp2
  go_ret2
  exact ⟨rfl, he1⟩

theorem rPack_any (ao : Option Addr) (n cap : Nat) (ps : List PV) (w : World) (hx : ps.length = n) (hn : n ≤ 9223372036854775807) (hc : PostsAt w ao ps) (hs : ∀ p ∈ ps, p.ats.length ≤ 1000000) :
    Calls Try.prog 18 #[.slice ao n cap] w fun e w' => ∃ a k, e = .returned (.tuple #[.slice a (packR ps).length k, .int .i64 (errR ps)]) ∧ CellsAt w' a (byteVals (packR ps)) ∧ Ext w w' := by
  cases h : rightB ps with
  | false =>
    refine (refPack_not ao n cap ps w hx hn hc (fun p hp => by have := hs p hp; omega) h).mono ?_
    rintro e w' ⟨rfl, he⟩
    rw [packR, errR, h]
    exact ⟨none, 0, rfl, CellsAt.nil, he⟩
  | true =>
    refine (refPack_any ao n cap ps w hx hn hc hs h).mono ?_
    rintro e w' ⟨v, rfl, hown, he⟩
    obtain ⟨a, k, rfl, hcc, _⟩ := owns_form hown
    rw [packR, errR, h]
    exact ⟨a, k, rfl, hcc, he⟩

theorem bTop_any (ao : Option Addr) (n cap : Nat) (ps : List PV) (w : World) (hx : ps.length = n) (hn : n ≤ 9223372036854775807) (hc : PostsAt w ao ps) (hs : ∀ p ∈ ps, p.ats.length ≤ 1000000) :
    Calls Try.prog 19 #[.slice ao n cap] w fun e w' => e = .returned (.tuple #[.int .i64 (tfR ps), .int .i64 (lnR ps)]) ∧ Ext w w' := by
  cases h : rightB ps with
  | false => rw [tfR, lnR, h]; exact top_not ao n cap ps w hx hn hc (fun p hp => by have := hs p hp; omega) h
  | true => rw [tfR, lnR, h]; exact top_any ao n cap ps w hx hn hc hs h

theorem light_facts {ps : List PV} (h : lightB ps = true) : ps.length ≤ 70 ∧ ∀ p ∈ ps, p.ats.length ≤ 100 := by
  simp only [lightB, Bool.and_eq_true, decide_eq_true_eq, List.all_eq_true] at h
  exact h

set_option maxRecDepth 100000 in
set_option maxHeartbeats 4000000 in
theorem lawPacks_any (ao : Option Addr) (n cap : Nat) (ps : List PV) (w : World) (hx : ps.length = n) (hn : n ≤ 9223372036854775807) (hc : PostsAt w ao ps) :
    Calls Try.prog 5 #[.slice ao n cap] w fun e w' => e = .returned (.bool true) ∧ Ext w w' := by
  have HL := Lib.hid (light_any ao n cap ps w hx hn hc)
  cases hl : lightB ps with
  | false =>
    rw [hl] at HL
    clear hx hc hl
    go_enter Try.func5, Try.ntmps5
    go_wp2_with fail
    refine HL.out.mono ?_
    rintro e w1 ⟨rfl, rfl⟩
    go_wp2
    go_ret
    exact ⟨rfl, Below.refl _ _⟩
  | true =>
    rw [hl] at HL
    obtain ⟨h70, h100⟩ := light_facts hl
    have hs : ∀ p ∈ ps, p.ats.length ≤ 1000000 := fun p hp => by have := h100 p hp; omega
    have A1 : Hid (∀ W', Ext w W' → Calls Try.prog 17 #[.slice ao n cap] W' fun e w' => ∃ ao' cap' ps', e = .returned (.slice ao' n cap') ∧ PostsAt w' ao' ps' ∧ ps'.map PV.norm = ps.map PV.norm ∧ Ext W' w') := fun W' h => of18_any ao n cap ps W' hx (by omega) (hc.ext h) hs
    have A2 : Hid (∀ W' a c qs, PostsAt W' a qs → qs.map PV.norm = ps.map PV.norm → Calls Try.prog 16 #[.slice a n c] W' fun e w' => ∃ a k, e = .returned (.tuple #[.slice a (packR ps).length k, .int .i64 (errR ps)]) ∧ CellsAt w' a (byteVals (packR ps)) ∧ Ext W' w') := fun W' a c qs h e => by
      have := bPack_any a n c qs W' ((norm_len e).trans hx) hn h (norm_ats e hs)
      simpa only [packR, errR, norm_right e, norm_pack e] using this
    have A3 : Hid (∀ W', Ext w W' → Calls Try.prog 18 #[.slice ao n cap] W' fun e w' => ∃ a k, e = .returned (.tuple #[.slice a (packR ps).length k, .int .i64 (errR ps)]) ∧ CellsAt w' a (byteVals (packR ps)) ∧ Ext W' w') := fun W' h => rPack_any ao n cap ps W' hx hn (hc.ext h) hs
    have A4 : Hid (∀ W' a c qs, PostsAt W' a qs → qs.map PV.norm = ps.map PV.norm → Calls Try.prog 19 #[.slice a n c] W' fun e w' => e = .returned (.tuple #[.int .i64 (tfR ps), .int .i64 (lnR ps)]) ∧ Ext W' w') := fun W' a c qs h e => by
      have := bTop_any a n c qs W' ((norm_len e).trans hx) hn h (norm_ats e hs)
      simpa only [tfR, lnR, norm_right e, norm_tf e, norm_ln e] using this
    have A5 : Hid (∀ W' a c qs, PostsAt W' a qs → qs.map PV.norm = ps.map PV.norm → Calls Try.prog 20 #[.slice a n c] W' fun e w' => e = .returned (.bool (rightB ps)) ∧ Ext W' w') := fun W' a c qs h e => by
      have := rightList_any a n c qs W' ((norm_len e).trans hx) hn h (fun q hq => by have := norm_ats e hs q hq; omega)
      rw [norm_right e] at this; exact this
    have A6 : Hid (∀ W', Ext w W' → Calls Try.prog 21 #[.slice ao n cap] W' fun e w' => e = .returned (.bool (rightB ps)) ∧ Ext W' w') := fun W' h => refRight_any ao n cap ps W' hx hn (hc.ext h) (fun p hp => by have := hs p hp; omega)
    have A7 : Hid (∀ W', Calls Try.prog 13 #[] W' fun e w' => e = .returned (.bool true) ∧ Ext W' w') := awake18_any
    have HC : Hid (∀ W', Ext w W' → PostsAt W' ao ps) := fun W' h => hc.ext h
    have Hx := Lib.hid hx
    have H1 : Hid (∀ p ∈ ps, p.ats.length ≤ 100) := h100
    clear hx hc hl h100 hs
    go_enter Try.func5, Try.ntmps5
    go_wp2_with fail
    refine HL.out.mono ?_
    rintro e w0 ⟨rfl, rfl⟩
    go_wp2_with fail
    ((with_reducible refine (A1.out _ (Below.refl _ _)).mono ?_); rintro e w1 ⟨a1, c1, q1, rfl, k1, n1, E1⟩)
    go_wp2_with fail
    ((with_reducible refine (A2.out _ _ _ _ k1 n1).mono ?_); rintro e w2 ⟨a2, c2, rfl, k2, F2⟩)
    have E2 := Ext.trans' E1 F2
    go_wp2_with fail
    ((with_reducible refine (A3.out _ E2).mono ?_); rintro e w3 ⟨a3, c3, rfl, k3, F3⟩)
    have E3 := Ext.trans' E2 F3
    go_wp2_with fail
    ((with_reducible refine (A1.out _ E3).mono ?_); rintro e w4 ⟨a4, c4, q4, rfl, k4, n4, F4⟩)
    have E4 := Ext.trans' E3 F4
    go_wp2_with fail
    ((with_reducible refine (A4.out _ _ _ _ k4 n4).mono ?_); rintro e w5 ⟨rfl, F5⟩)
    have E5 := Ext.trans' E4 F5
    have hcv1 : (convert 36 9 (.slice a2 (packR ps).length c2)).run Try.prog w5 = .ok (.string ⟨(packR ps).toArray⟩) w5 :=
      run_convert_cells w5 36 9 5 Try.underlying36 Try.underlying5 Try.underlying9 a2 _ c2 (packR ps) rfl (k2.ext (Ext.trans' F3 (Ext.trans' F4 F5)))
    have hcv2 : (convert 36 9 (.slice a3 (packR ps).length c3)).run Try.prog w5 = .ok (.string ⟨(packR ps).toArray⟩) w5 :=
      run_convert_cells w5 36 9 5 Try.underlying36 Try.underlying5 Try.underlying9 a3 _ c3 (packR ps) rfl (k3.ext (Ext.trans' F4 F5))
    obtain ⟨B, hB⟩ : ∃ B, B = packR ps := ⟨_, rfl⟩
    rw [← hB] at hcv1 hcv2 ⊢
    have HE5 := Lib.hid E5
    clear k1 n1 E1 k2 F2 E2 k3 F3 E3 k4 n4 F4 E4 F5 hB
    cases hr : rightB ps with
    | false =>
      have e1 : errR ps = 5 := by rw [errR, hr]; rfl
      have e2 : tfR ps = 0 := by rw [tfR, hr]; rfl
      have e3 : lnR ps = 0 := by rw [lnR, hr]; rfl
      rw [hr] at A5 A6
      rw [e1, e2, e3]
      clear e1 e2 e3
      go_wp2_with fail
      go_loop [9, 10, 11] (fun m l i => m = .int .i64 0 ∧ l = .int .i64 0 ∧ i = .int .i64 0) (fun _ _ _ => 0)
      case atStart => exact ⟨rfl, rfl, rfl⟩
      case round =>
        obtain ⟨rfl, rfl, rfl⟩ := hrel
        rcases Nat.eq_zero_or_pos n with h0 | h0
        · have d0 : decide (0 < n) = false := by rw [h0]; rfl
          clear h0
          go_wp2_with (first | (go_at_call 17; ((with_reducible refine (A1.out _ HE5.out).mono ?_)); rintro e w6 ⟨a6, c6, q6, rfl, k6, n6, F6⟩; have E6 := Ext.trans' HE5.out F6) | (go_at_call 20; ((with_reducible refine (A5.out _ _ _ _ k6 n6).mono ?_)); rintro e w7 ⟨rfl, F7⟩; have E7 := Ext.trans' E6 F7) | (go_at_call 21; ((with_reducible refine (A6.out _ E7).mono ?_)); rintro e w8 ⟨rfl, F8⟩; have E8 := Ext.trans' E7 F8) | (go_at_call 13; ((with_reducible refine (A7.out _).mono ?_)); rintro e w9 ⟨rfl, F9⟩))
          go_ret
          exact ⟨rfl, Ext.trans' E8 F9⟩
        · have d0 : decide (0 < n) = true := by simpa using h0
          go_wp2_with (first | (go_at_call 17; ((with_reducible refine (A1.out _ HE5.out).mono ?_)); rintro e w6 ⟨a6, c6, q6, rfl, k6, n6, F6⟩; have E6 := Ext.trans' HE5.out F6) | (go_at_call 20; ((with_reducible refine (A5.out _ _ _ _ k6 n6).mono ?_)); rintro e w7 ⟨rfl, F7⟩; have E7 := Ext.trans' E6 F7) | (go_at_call 21; ((with_reducible refine (A6.out _ E7).mono ?_)); rintro e w8 ⟨rfl, F8⟩; have E8 := Ext.trans' E7 F8) | (go_at_call 13; ((with_reducible refine (A7.out _).mono ?_)); rintro e w9 ⟨rfl, F9⟩))
          go_ret
          exact ⟨rfl, Ext.trans' E8 F9⟩
    | true =>
      have e1 : errR ps = 0 := by rw [errR, hr]; rfl
      have e2 : tfR ps = tfB ps := by rw [tfR, hr]; rfl
      have e3 : lnR ps = lnB ps := by rw [lnR, hr]; rfl
      rw [hr] at A5 A6
      rw [e1, e2, e3]
      clear e1 e2 e3
      obtain ⟨T, hT⟩ : ∃ T, T = tfB ps := ⟨_, rfl⟩
      obtain ⟨M, hM⟩ : ∃ M, M = lnB ps := ⟨_, rfl⟩
      rw [← hT, ← hM]
      have HTT := Lib.hid hT
      have HM := Lib.hid hM
      clear hT hM
      go_wp2_with fail
      go_loop [9, 10, 11] (fun m l i => ∃ k : Nat, k ≤ n ∧ i = .int .i64 k ∧ m = .int .i64 (tfB (ps.take k)) ∧ l = .int .i64 (lnB (ps.take k))) (fun _ _ i => n - (intOf i).toNat)
      case atStart => exact ⟨0, Nat.zero_le _, rfl, rfl, rfl⟩
      case round =>
        obtain ⟨k, hk, rfl, rfl, rfl⟩ := hrel
        by_cases hlt : k < n
        · obtain ⟨p, hp⟩ := get_of_lt Hx.out hlt
          obtain ⟨b, off, rfl, hb, c1, c2', c3'⟩ := (HC.out _ HE5.out).cells k p hp
          have HT := Lib.hid (take_of_get hp)
          obtain ⟨T', hT⟩ : ∃ T', T' = tfB (ps.take k) := ⟨_, rfl⟩
          obtain ⟨M', hM⟩ : ∃ M', M' = lnB (ps.take k) := ⟨_, rfl⟩
          rw [← hT, ← hM]
          have HT' := Lib.hid hT
          have HM' := Lib.hid hM
          clear hT hM hp
          by_cases h0 : k = 0
          · obtain rfl : k = 0 := h0
            simp only [Nat.zero_mul, Nat.add_zero] at c1 c2' c3'
            go_wp2_with fail
            go_round
            case rel =>
              refine ⟨1, by omega, rfl, ?_, ?_⟩
              · rw [show (1 : Nat) = 0 + 1 from rfl, HT.out, tfB_snoc, ← HT'.out]; exact congrArg _ (by omega)
              · rw [show (1 : Nat) = 0 + 1 from rfl, HT.out]; rfl
            case measure => simp [intOf]; omega
          · have hk0 : ((k : Int) == 0) = false := by simpa using h0
            have Hk := Lib.hid h0
            have hne : Hid (ps.take k ≠ []) := by
              have := Hk.out; have := Hx.out
              intro e
              have := congrArg List.length e
              rw [List.length_take] at this; simp only [List.length_nil] at this; omega
            clear h0
            by_cases hml : p.len < M'
            all_goals
              go_wp2_with fail
              go_round
              case rel =>
                refine ⟨k + 1, by omega, by go_num, ?_, ?_⟩
                · rw [HT.out, tfB_snoc, ← HT'.out]; exact congrArg _ (by omega)
                · rw [HT.out, lnB_snoc p hne.out, ← HM'.out]; exact congrArg _ (by omega)
              case measure => simp [intOf]; omega
        · obtain rfl : k = n := by omega
          have ht : ps.take k = ps := List.take_of_length_le (by have := Hx.out; omega)
          rw [ht, ← HTT.out, ← HM.out]
          clear ht
          go_wp2_with (first | (go_at_call 17; ((with_reducible refine (A1.out _ HE5.out).mono ?_)); rintro e w6 ⟨a6, c6, q6, rfl, k6, n6, F6⟩; have E6 := Ext.trans' HE5.out F6) | (go_at_call 20; ((with_reducible refine (A5.out _ _ _ _ k6 n6).mono ?_)); rintro e w7 ⟨rfl, F7⟩; have E7 := Ext.trans' E6 F7) | (go_at_call 21; ((with_reducible refine (A6.out _ E7).mono ?_)); rintro e w8 ⟨rfl, F8⟩; have E8 := Ext.trans' E7 F8) | (go_at_call 13; ((with_reducible refine (A7.out _).mono ?_)); rintro e w9 ⟨rfl, F9⟩))
          go_ret
          exact ⟨rfl, Ext.trans' E8 F9⟩
end Go.Proofs.Ytdlijjmjfepklaa
