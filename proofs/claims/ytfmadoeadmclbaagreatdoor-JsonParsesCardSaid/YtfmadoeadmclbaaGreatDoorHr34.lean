/-
  The walk of layer 3's document's Scan.
-/
import Derived.Test.YtfmadoeadmclbaaGreatDoorHr33
import Derived.Test.YtfmadoeadmclbaaGreatDoorHr18
namespace Go.Proofs.YtfmadoeadmclbaaGreatDoor
open Go.RowKit

theorem scanL_none {l : List UInt8} (h : figs (l.drop (signAt l)) = 0) : scanL l = 0 := by rw [scanL, cutL_none h]
section
variable {l : List UInt8} {a n r b : Nat}
theorem scanL_plain (ha : a = signAt l) (hf : figs (l.drop a) ≠ 0) (hn : n = wholeLen (l.drop a)) (hr : r = restLen (l.drop (a + n))) (hb : b = a + n + (if r = 0 then 0 else 1 + r)) (hE : isE (l.drop b) = false) : scanL l = b := by
  rw [scanL, cutL_plain ha hf hn hr hb hE]
theorem scanL_exp (ha : a = signAt l) (hf : figs (l.drop a) ≠ 0) (hn : n = wholeLen (l.drop a)) (hr : r = restLen (l.drop (a + n))) (hb : b = a + n + (if r = 0 then 0 else 1 + r)) (hE : isE (l.drop b) = true) {g k : Nat} (hg : g = expSign (l.drop (b + 1))) (hk : k = figs (l.drop (b + (1 + g)))) :
    scanL l = if k = 0 then b else b + 1 + g + k := by
  rw [scanL, cutL_exp ha hf hn hr hb hE hg hk]
  by_cases h : k = 0
  · rw [if_pos h, if_pos h]
  · rw [if_neg h, if_neg h]
end

theorem byte_eq {c : UInt8} {k : Nat} (hk : k < 256) : ((c.toNat : Int) == (k : Int)) = decide (c = UInt8.ofNat k) := by
  rw [Bool.eq_iff_iff, beq_iff_eq, decide_eq_true_iff]
  constructor
  · intro e
    apply UInt8.toNat_inj.1
    rw [UInt8.toNat_ofNat']
    omega
  · intro e
    rw [e, UInt8.toNat_ofNat']
    omega

set_option maxRecDepth 100000 in
set_option maxHeartbeats 8000000 in
theorem rscan_any (S : ByteArray) (l : List UInt8) (w : World) (hl : S.data.toList = l) (hS : S.size ≤ 100000) :
    Calls Tryz.prog 52 #[.string S] w fun e w' => e = .returned (.int .i64 (scanL l : Nat)) ∧ w' = w := by
  have hln : l.length = S.size := by rw [← hl, bytes_size]
  have hget : ∀ i (h : i < S.size), l[i]? = some (S[i]'h) := fun i h => by rw [← hl]; exact bytes_get h
  have HR : Hid (∀ W' i, i ≤ 200000 → Calls Tryz.prog 80 #[.string S, .int .i64 (i : Nat)] W' fun e w' => e = .returned (.int .i64 (figs (l.drop i) : Nat)) ∧ w' = W') := fun W' i hi => run_any S l i W' hl (by omega) (by omega)
  have Hln := Lib.hid hln
  have Hget := Lib.hid hget
  clear hl hln hget
  go_enter Tryz.func52, Tryz.ntmps52
  obtain ⟨a, ha⟩ : ∃ a : Nat, a = signAt l := ⟨_, rfl⟩
  have ha1 : a ≤ 1 ∧ a ≤ S.size := by
    rw [ha, signAt]
    split
    · rename_i h2
      have := (List.getElem?_eq_some_iff.1 h2).1
      have := Hln.out
      omega
    · omega
  have Ha := Lib.hid ha
  clear ha
  go_upto_region 2 with fail
  go_cut [15] (fun v wx => ∃ D : Bool, v = .bool D ∧ Hid (D = decide (a = 1)) ∧ wx = w)
  case first =>
    by_cases h0 : 0 < S.size
    · have d0 : decide ((0 : Int) < (S.size : Int)) = true := by rw [decide_eq_true_iff]; omega
      have d0n : decide (0 < S.size) = true := by rw [decide_eq_true_iff]; omega
      have hv : Hid (decide (a = 1) = decide ((S[0]'h0) = 45)) := by
        show _ = _
        rw [Ha.out, signAt, Hget.out 0 h0]
        by_cases h : (S[0]'h0) = 45
        · rw [h]; rfl
        · rw [if_neg (fun e => h (Option.some.inj e)), decide_eq_false h]; rfl
      go_wp2_with fail
      go_meet
      exact ⟨_, rfl, by show _ = _; rw [hv.out]; exact byte_eq (k := 45) (by omega), rfl⟩
    · have d0 : decide ((0 : Int) < (S.size : Int)) = false := by rw [decide_eq_false_iff_not]; omega
      have d0n : decide (0 < S.size) = false := by rw [decide_eq_false_iff_not]; omega
      have hv : Hid (a = 0) := by show _ = _; omega
      go_wp2_with fail
      go_meet
      exact ⟨_, rfl, by show _ = _; rw [hv.out]; rfl, rfl⟩
  case rest =>
    obtain ⟨D, rfl, hD, rfl⟩ := hcut
    go_upto_if 15 with fail
    go_cut [3] (fun v wx => v = .int .i64 a ∧ wx = wc)
    case first =>
      cases D with
      | false =>
        have Hv : Hid (a = 0) := by show a = 0; have := of_decide_eq_false hD.out.symm; omega
        clear hD
        go_wp2_with fail
        go_meet
        exact ⟨by rw [Hv.out] <;> rfl, rfl⟩
      | true =>
        have Hv : Hid (a = 1) := by show a = 1; exact of_decide_eq_true hD.out.symm
        clear hD
        go_wp2_with fail
        go_meet
        exact ⟨by rw [Hv.out] <;> rfl, rfl⟩
    case rest =>
    obtain ⟨rfl, rfl⟩ := hcut
    clear hD
    have HR1 : Hid (Calls Tryz.prog 80 #[.string S, .int .i64 (a : Nat)] wc fun e w' => e = .returned (.int .i64 (figs (l.drop a) : Nat)) ∧ w' = wc) := HR.out wc a (by omega)
    obtain ⟨n0, hn0⟩ : ∃ n : Nat, n = figs (l.drop a) := ⟨_, rfl⟩
    rw [← hn0] at HR1
    have hfle : n0 ≤ S.size - a := by have := figs_le (l.drop a); rw [List.length_drop, Hln.out, ← hn0] at this; exact this
    have Hn0 := Lib.hid hn0
    clear hn0
    by_cases h0 : n0 = 0
    · have d0 : ((n0 : Int) == 0) = true := by rw [h0]; rfl
      have Hv : Hid (scanL l = 0) := by show _ = _; exact scanL_none (by rw [← Ha.out, ← Hn0.out]; exact h0)
      clear h0
      go_wp2_with fail
      (with_reducible refine HR1.out.mono ?_)
      rintro e w' ⟨rfl, rfl⟩
      go_wp2_with fail
      go_ret
      exact ⟨by rw [Hv.out] <;> rfl, rfl⟩
    have d0 : ((n0 : Int) == 0) = false := by rw [beq_eq_false_iff_ne]; omega
    have haL : a < S.size := by omega
    have Hf : Hid (figs (l.drop a) ≠ 0) := by show figs (l.drop a) ≠ 0; rw [← Hn0.out]; exact h0
    obtain ⟨n, hn⟩ : ∃ n : Nat, n = wholeLen (l.drop a) := ⟨_, rfl⟩
    have hnb : 0 < n ∧ n ≤ n0 := by
      rw [hn, wholeLen]
      split
      · omega
      · rw [← Hn0.out]; omega
    have Hn := Lib.hid hn
    clear hn
    go_upto_if 26 with (first | (go_at_call 80; (with_reducible refine HR1.out.mono ?_); rintro e w' ⟨rfl, rfl⟩) | fail)
    go_cut [4] (fun v wx => v = .int .i64 n ∧ wx = w')
    case first =>
      have hw : wholeLen (l.drop a) = if (S[a]'haL) = 48 then 1 else n0 := by
        rw [wholeLen, List.getElem?_drop, Nat.add_zero, Hget.out a haL, Hn0.out]
        by_cases h : (S[a]'haL) = 48
        · rw [h]; rfl
        · rw [if_neg h, if_neg (fun e => h (Option.some.inj e))]
      have hby : (((S[a]'haL).toNat : Int) == 48) = decide ((S[a]'haL) = 48) := byte_eq (k := 48) (by omega)
      by_cases h48 : (S[a]'haL) = 48
      · have Hv : Hid (n = 1) := by show n = 1; rw [Hn.out, hw, if_pos h48]
        rw [decide_eq_true h48] at hby
        clear hw h48
        go_wp2_with fail
        go_meet
        exact ⟨by rw [Hv.out] <;> rfl, rfl⟩
      · have Hv : Hid (n = n0) := by show n = n0; rw [Hn.out, hw, if_neg h48]
        rw [decide_eq_false h48] at hby
        clear hw h48
        go_wp2_with fail
        go_meet
        exact ⟨by rw [Hv.out] <;> rfl, rfl⟩
    case rest =>
    obtain ⟨rfl, rfl⟩ := hcut
    obtain ⟨r, hr⟩ : ∃ r : Nat, r = restLen (l.drop (a + n)) := ⟨_, rfl⟩
    obtain ⟨b, hb⟩ : ∃ b : Nat, b = a + n + (if r = 0 then 0 else 1 + r) := ⟨_, rfl⟩
    have hanS : a + n ≤ S.size := by omega
    have hbS : b ≤ S.size := by
      rw [hb]
      split
      · omega
      · have h1 : r ≤ (l.drop (a + n)).length - 1 := by
          rw [hr, restLen]
          split
          · have := figs_le ((l.drop (a + n)).drop 1)
            rw [List.length_drop] at this
            exact this
          · omega
        rw [List.length_drop, Hln.out] at h1
        omega
    have Hr := Lib.hid hr
    have Hb := Lib.hid hb
    clear hr hb
    have HR2 : Hid (∀ W', Calls Tryz.prog 80 #[.string S, .int .i64 ((a : Int) + n + 1)] W' fun e w' => e = .returned (.int .i64 (figs (l.drop (a + n + 1)) : Nat)) ∧ w' = W') := fun W' => by
      have := HR.out W' (a + n + 1) (by omega)
      simpa using this
    obtain ⟨q, hq⟩ : ∃ q, q = figs (l.drop (a + n + 1)) := ⟨_, rfl⟩
    rw [← hq] at HR2
    have hqb : q ≤ S.size := by rw [hq]; have := figs_le (l.drop (a + n + 1)); rw [List.length_drop, Hln.out] at this; omega
    have Hq := Lib.hid hq
    clear hq
    go_upto_region 10 with fail
    go_cut [46] (fun v wx => ∃ D : Bool, v = .bool D ∧ Hid (D = decide (0 < r)) ∧ wx = wc)
    case first =>
      by_cases hlt : a + n < S.size
      · have t1 : decide ((a : Int) + (n : Int) < (S.size : Int)) = true := by rw [decide_eq_true_iff]; omega
        have t1n : decide (a + n < S.size) = true := by rw [decide_eq_true_iff]; omega
        have hrv : r = if (S[a + n]'hlt) = 46 then q else 0 := by
          rw [Hr.out, restLen, List.getElem?_drop, Nat.add_zero, Hget.out _ hlt, List.drop_drop, Hq.out]
          by_cases h : (S[a + n]'hlt) = 46
          · rw [h]; rfl
          · rw [if_neg h, if_neg (fun e => h (Option.some.inj e))]
        have hby : (((S[a + n]'hlt).toNat : Int) == 46) = decide ((S[a + n]'hlt) = 46) := byte_eq (k := 46) (by omega)
        by_cases h46 : (S[a + n]'hlt) = 46
        · rw [if_pos h46] at hrv
          rw [decide_eq_true h46] at hby
          have Hrv := Lib.hid hrv
          clear hrv h46
          go_wp2_with (first | (go_at_call 80; (with_reducible refine (HR2.out _).mono ?_); rintro e w' ⟨rfl, rfl⟩) | fail)
          go_meet
          exact ⟨_, rfl, by show _ = _; rw [Hrv.out], rfl⟩
        · rw [if_neg h46] at hrv
          rw [decide_eq_false h46] at hby
          have Hrv := Lib.hid hrv
          clear hrv h46
          go_wp2_with fail
          go_meet
          exact ⟨_, rfl, by show _ = _; rw [Hrv.out] <;> rfl, rfl⟩
      · have t1 : decide ((a : Int) + (n : Int) < (S.size : Int)) = false := by rw [decide_eq_false_iff_not]; omega
        have t1n : decide (a + n < S.size) = false := by rw [decide_eq_false_iff_not]; omega
        have Hrv : Hid (r = 0) := by show r = 0; rw [Hr.out, List.drop_of_length_le (by rw [Hln.out]; omega)]; rfl
        go_wp2_with fail
        go_meet
        exact ⟨_, rfl, by show _ = _; rw [Hrv.out] <;> rfl, rfl⟩
    case rest =>
    obtain ⟨D, rfl, hD, rfl⟩ := hcut
    go_upto_if 46 with fail
    go_cut [3] (fun v wx => v = .int .i64 b ∧ wx = wc)
    case first =>
      cases D with
      | false =>
        have Hv : Hid (b = a + n) := by
          show b = a + n
          have := of_decide_eq_false hD.out.symm
          rw [Hb.out, if_pos (by omega)]; rfl
        clear hD
        go_wp2_with fail
        go_meet
        exact ⟨by rw [Hv.out] <;> rfl, rfl⟩
      | true =>
        have hr0 : 0 < r := of_decide_eq_true hD.out.symm
        have Hv : Hid (b = a + n + (1 + r)) := by
          show b = a + n + (1 + r)
          rw [Hb.out, if_neg (by omega)]
        have hrq : r = q := by
          have h2 := Hr.out
          rw [restLen] at h2
          split at h2
          · rw [h2, Hq.out, List.drop_drop]
          · omega
        rw [← hrq] at HR2 hqb
        clear hD hrq
        go_wp2_with (first | (go_at_call 80; (with_reducible refine (HR2.out _).mono ?_); rintro e w' ⟨rfl, rfl⟩) | fail)
        go_meet
        exact ⟨by rw [Hv.out] <;> rfl, rfl⟩
    case rest =>
    obtain ⟨rfl, rfl⟩ := hcut
    clear hD HR2
    go_upto_region 12 with fail
    go_cut [69] (fun v wx => v = .bool (isE (l.drop b)) ∧ wx = wc)
    case first =>
      by_cases hlt : b < S.size
      · have t1 : decide ((b : Int) < (S.size : Int)) = true := by rw [decide_eq_true_iff]; omega
        have t1n : decide (b < S.size) = true := by rw [decide_eq_true_iff]; omega
        have hval : isE (l.drop b) = (decide ((S[b]'hlt) = 101) || decide ((S[b]'hlt) = 69)) := isE_get (by rw [List.getElem?_drop, Nat.add_zero, Hget.out b hlt])
        have hb1 : (((S[b]'hlt).toNat : Int) == 101) = decide ((S[b]'hlt) = 101) := byte_eq (k := 101) (by omega)
        have hb2 : (((S[b]'hlt).toNat : Int) == 69) = decide ((S[b]'hlt) = 69) := byte_eq (k := 69) (by omega)
        by_cases h1 : (S[b]'hlt) = 101
        · have Hv : Hid (isE (l.drop b) = true) := by show _ = _; rw [hval, decide_eq_true h1]; rfl
          rw [decide_eq_true h1] at hb1
          clear hval h1 hb2
          go_wp2_with fail
          go_meet
          exact ⟨by rw [Hv.out], rfl⟩
        · rw [decide_eq_false h1] at hb1
          by_cases h2 : (S[b]'hlt) = 69
          · have Hv : Hid (isE (l.drop b) = true) := by show _ = _; rw [hval, decide_eq_true h2, Bool.or_true]
            rw [decide_eq_true h2] at hb2
            clear hval h1 h2
            go_wp2_with fail
            go_meet
            exact ⟨by rw [Hv.out], rfl⟩
          · have Hv : Hid (isE (l.drop b) = false) := by show _ = _; rw [hval, decide_eq_false h1, decide_eq_false h2]; rfl
            rw [decide_eq_false h2] at hb2
            clear hval h1 h2
            go_wp2_with fail
            go_meet
            exact ⟨by rw [Hv.out], rfl⟩
      · have t1 : decide ((b : Int) < (S.size : Int)) = false := by rw [decide_eq_false_iff_not]; omega
        have t1n : decide (b < S.size) = false := by rw [decide_eq_false_iff_not]; omega
        have Hv : Hid (isE (l.drop b) = false) := by
          show isE (l.drop b) = false
          rw [List.drop_of_length_le (by rw [Hln.out]; omega)]
          rfl
        go_wp2_with fail
        go_meet
        exact ⟨by rw [Hv.out], rfl⟩
    case rest =>
    obtain ⟨hv, rfl⟩ := hcut
    cases hE : isE (l.drop b) with
    | false =>
      rw [hE] at hv
      subst hv
      have Hv : Hid (scanL l = b) := by show _ = _; exact scanL_plain Ha.out Hf.out Hn.out Hr.out Hb.out hE
      clear hE
      go_wp2_with fail
      go_ret
      exact ⟨by rw [Hv.out] <;> rfl, rfl⟩
    | true =>
    rw [hE] at hv
    subst hv
    have HE := Lib.hid hE
    clear hE
    have hbl : b < S.size := by
      rcases Nat.lt_or_ge b S.size with h | h
      · exact h
      · have h2 := HE.out
        rw [List.drop_of_length_le (by rw [Hln.out]; omega)] at h2
        cases h2
    obtain ⟨g, hg⟩ : ∃ g : Nat, g = expSign (l.drop (b + 1)) := ⟨_, rfl⟩
    have hg01 : g = 0 ∨ g = 1 := by rw [hg, expSign]; split <;> simp
    have Hg := Lib.hid hg
    clear hg
    go_upto_region 14 with fail
    go_cut [87] (fun v wx => ∃ D : Bool, v = .bool D ∧ Hid (D = decide (g = 1)) ∧ wx = wc)
    case first =>
      by_cases hlt : b + 1 < S.size
      · have t1 : decide ((b : Int) + 1 < (S.size : Int)) = true := by rw [decide_eq_true_iff]; omega
        have t1n : decide (b + 1 < S.size) = true := by rw [decide_eq_true_iff]; omega
        have hgv : g = if (S[b + 1]'hlt) = 43 ∨ (S[b + 1]'hlt) = 45 then 1 else 0 := by
          have hx : (l.drop (b + 1))[0]? = some (S[b + 1]'hlt) := by rw [List.getElem?_drop]; exact Hget.out _ hlt
          rw [Hg.out, expSign, hx]
          simp only [Option.some.injEq]
        have hb1 : (((S[b + 1]'hlt).toNat : Int) == 43) = decide ((S[b + 1]'hlt) = 43) := byte_eq (k := 43) (by omega)
        have hb2 : (((S[b + 1]'hlt).toNat : Int) == 45) = decide ((S[b + 1]'hlt) = 45) := byte_eq (k := 45) (by omega)
        by_cases h1 : (S[b + 1]'hlt) = 43
        · have Hv : Hid (g = 1) := by show _ = _; rw [hgv, if_pos (.inl h1)]
          rw [decide_eq_true h1] at hb1
          clear hgv h1 hb2
          go_wp2_with fail
          go_meet
          exact ⟨_, rfl, by show _ = _; rw [Hv.out] <;> rfl, rfl⟩
        · rw [decide_eq_false h1] at hb1
          by_cases h2 : (S[b + 1]'hlt) = 45
          · have Hv : Hid (g = 1) := by show _ = _; rw [hgv, if_pos (.inr h2)]
            rw [decide_eq_true h2] at hb2
            clear hgv h1 h2
            go_wp2_with fail
            go_meet
            exact ⟨_, rfl, by show _ = _; rw [Hv.out] <;> rfl, rfl⟩
          · have Hv : Hid (g = 0) := by show _ = _; rw [hgv, if_neg (fun h => h.elim h1 h2)]
            rw [decide_eq_false h2] at hb2
            clear hgv h1 h2
            go_wp2_with fail
            go_meet
            exact ⟨_, rfl, by show _ = _; rw [Hv.out] <;> rfl, rfl⟩
      · have t1 : decide ((b : Int) + 1 < (S.size : Int)) = false := by rw [decide_eq_false_iff_not]; omega
        have t1n : decide (b + 1 < S.size) = false := by rw [decide_eq_false_iff_not]; omega
        have Hv : Hid (g = 0) := by
          show g = 0
          rw [Hg.out, List.drop_of_length_le (by rw [Hln.out]; omega)]
          rfl
        go_wp2_with fail
        go_meet
        exact ⟨_, rfl, by show _ = _; rw [Hv.out] <;> rfl, rfl⟩
    case rest =>
    obtain ⟨D, rfl, hD, rfl⟩ := hcut
    go_upto_if 87 with fail
    go_cut [5] (fun v wx => v = .int .i64 ((b : Int) + 1 + g) ∧ wx = wc)
    case first =>
      cases D with
      | false =>
        have Hv : Hid (g = 0) := by show g = 0; have := of_decide_eq_false hD.out.symm; omega
        clear hD hg01
        go_wp2_with fail
        go_meet
        exact ⟨by rw [Hv.out] <;> simp, rfl⟩
      | true =>
        have Hv : Hid (g = 1) := by show g = 1; exact of_decide_eq_true hD.out.symm
        clear hD hg01
        go_wp2_with fail
        go_meet
        exact ⟨by rw [Hv.out] <;> rfl, rfl⟩
    case rest =>
    obtain ⟨rfl, rfl⟩ := hcut
    clear hD
    have HR3 : Hid (∀ W', Calls Tryz.prog 80 #[.string S, .int .i64 ((b : Int) + 1 + g)] W' fun e w' => e = .returned (.int .i64 (figs (l.drop (b + (1 + g))) : Nat)) ∧ w' = W') := fun W' => by
      have := HR.out W' (b + (1 + g)) (by omega)
      have e : ((b + (1 + g) : Nat) : Int) = (b : Int) + 1 + g := by omega
      rw [e] at this
      exact this
    obtain ⟨k, hk⟩ : ∃ k : Nat, k = figs (l.drop (b + (1 + g))) := ⟨_, rfl⟩
    rw [← hk] at HR3
    have hkb : k ≤ S.size := by rw [hk]; have := figs_le (l.drop (b + (1 + g))); rw [List.length_drop, Hln.out] at this; omega
    have HX := Lib.hid (scanL_exp Ha.out Hf.out Hn.out Hr.out Hb.out HE.out Hg.out hk)
    clear hk
    by_cases hk0 : k = 0
    · have d1 : decide (0 < (k : Int)) = false := by rw [decide_eq_false_iff_not]; omega
      have d1' : decide ((k : Int) > 0) = false := d1
      have d1n : decide (0 < k) = false := by rw [decide_eq_false_iff_not]; omega
      have Hv : Hid (scanL l = b) := by show _ = _; rw [HX.out, if_pos hk0]
      clear hk0
      go_wp2_with (first | (go_at_call 80; (with_reducible refine (HR3.out _).mono ?_); rintro e w' ⟨rfl, rfl⟩) | fail)
      go_ret
      exact ⟨by rw [Hv.out] <;> rfl, rfl⟩
    · have d1 : decide (0 < (k : Int)) = true := by rw [decide_eq_true_iff]; omega
      have d1' : decide ((k : Int) > 0) = true := d1
      have d1n : decide (0 < k) = true := by rw [decide_eq_true_iff]; omega
      have Hv : Hid (scanL l = b + 1 + g + k) := by show _ = _; rw [HX.out, if_neg hk0]
      clear hk0
      go_wp2_with (first | (go_at_call 80; (with_reducible refine (HR3.out _).mono ?_); rintro e w' ⟨rfl, rfl⟩) | fail)
      go_ret
      exact ⟨by rw [Hv.out] <;> rfl, rfl⟩
end Go.Proofs.YtfmadoeadmclbaaGreatDoor
