/-
  The walk of BlockTops: for whatever list the law answers true and turns nothing that was there.
-/
import Derived.Test.YtdlijjmjfepklaaLawPacks
namespace Go.Proofs.Ytdlijjmjfepklaa
open Go.RowKit

theorem foldl_max_ge (l : List PV) : ∀ m : Nat, m ≤ l.foldl (fun m p => max m p.ats.length) m ∧ ∀ p ∈ l, p.ats.length ≤ l.foldl (fun m p => max m p.ats.length) m := by
  induction l with
  | nil => intro m; exact ⟨Nat.le_refl _, fun p hp => by cases hp⟩
  | cons q r ih =>
    intro m
    have h := ih (max m q.ats.length)
    refine ⟨Nat.le_trans (Nat.le_max_left _ _) h.1, fun p hp => ?_⟩
    rcases List.mem_cons.1 hp with rfl | hp
    · exact Nat.le_trans (Nat.le_max_right _ _) h.1
    · exact h.2 p hp
theorem tfB_ge {ps : List PV} {p : PV} (h : p ∈ ps) : p.ats.length ≤ tfB ps := (foldl_max_ge ps 0).2 p h
theorem foldl_max_at (l : List PV) : ∀ m : Nat, l.foldl (fun m p => max m p.ats.length) m = m ∨ ∃ p ∈ l, p.ats.length = l.foldl (fun m p => max m p.ats.length) m := by
  induction l with
  | nil => intro m; exact .inl rfl
  | cons q r ih =>
    intro m
    rcases ih (max m q.ats.length) with h | ⟨p, hp, h⟩
    · rw [List.foldl_cons, h]
      by_cases e : m ≤ q.ats.length
      · exact .inr ⟨q, List.mem_cons_self, by omega⟩
      · exact .inl (by omega)
    · exact .inr ⟨p, List.mem_cons_of_mem _ hp, h⟩
theorem tfB_at {ps : List PV} (h : ps ≠ []) : ∃ p ∈ ps, p.ats.length = tfB ps := by
  rcases foldl_max_at ps 0 with h0 | h0
  · cases ps with
    | nil => exact absurd rfl h
    | cons q r =>
      have := tfB_ge (ps := q :: r) (p := q) List.mem_cons_self
      have h1 : tfB (q :: r) = 0 := h0
      exact ⟨q, List.mem_cons_self, by omega⟩
  · exact h0
theorem foldl_min_le (l : List PV) : ∀ m : Int, l.foldl (fun m p => min m p.len) m ≤ m ∧ ∀ p ∈ l, l.foldl (fun m p => min m p.len) m ≤ p.len := by
  induction l with
  | nil => intro m; exact ⟨Int.le_refl _, fun p hp => by cases hp⟩
  | cons q r ih =>
    intro m
    have h := ih (min m q.len)
    refine ⟨Int.le_trans h.1 (Int.min_le_left _ _), fun p hp => ?_⟩
    rcases List.mem_cons.1 hp with rfl | hp
    · exact Int.le_trans h.1 (Int.min_le_right _ _)
    · exact h.2 p hp
theorem lnB_le {ps : List PV} {p : PV} (h : p ∈ ps) : lnB ps ≤ p.len := by
  cases ps with
  | nil => cases h
  | cons q r =>
    rcases List.mem_cons.1 h with rfl | h
    · exact (foldl_min_le r p.len).1
    · exact (foldl_min_le r q.len).2 p h
theorem foldl_min_at (l : List PV) : ∀ m : Int, l.foldl (fun m p => min m p.len) m = m ∨ ∃ p ∈ l, p.len = l.foldl (fun m p => min m p.len) m := by
  induction l with
  | nil => intro m; exact .inl rfl
  | cons q r ih =>
    intro m
    rcases ih (min m q.len) with h | ⟨p, hp, h⟩
    · rw [List.foldl_cons, h]
      by_cases e : q.len ≤ m
      · exact .inr ⟨q, List.mem_cons_self, by omega⟩
      · exact .inl (by omega)
    · exact .inr ⟨p, List.mem_cons_of_mem _ hp, h⟩
theorem lnB_at {ps : List PV} (h : ps ≠ []) : ∃ p ∈ ps, p.len = lnB ps := by
  cases ps with
  | nil => exact absurd rfl h
  | cons q r =>
    rcases foldl_min_at r q.len with h0 | ⟨p, hp, h0⟩
    · exact ⟨q, List.mem_cons_self, h0.symm⟩
    · exact ⟨p, List.mem_cons_of_mem _ hp, h0⟩

def oneB (T : Nat) (l : List PV) : Bool := l.any fun p => decide (p.ats.length = T)
def twoB (M : Int) (l : List PV) : Bool := l.any fun p => decide (p.len = M)
theorem oneB_snoc (T : Nat) (l : List PV) (p : PV) : oneB T (l ++ [p]) = (oneB T l || decide (p.ats.length = T)) := by simp [oneB]
theorem twoB_snoc (M : Int) (l : List PV) (p : PV) : twoB M (l ++ [p]) = (twoB M l || decide (p.len = M)) := by simp [twoB]

set_option maxRecDepth 100000 in
set_option maxHeartbeats 4000000 in
theorem lawTops_any (ao : Option Addr) (n cap : Nat) (ps : List PV) (w : World) (hx : ps.length = n) (hn : n ≤ 9223372036854775807) (hc : PostsAt w ao ps) :
    Calls Try.prog 6 #[.slice ao n cap] w fun e w' => e = .returned (.bool true) ∧ Ext w w' := by
  have HL := Lib.hid (light_any ao n cap ps w hx hn hc)
  cases hl : lightB ps with
  | false =>
    rw [hl] at HL
    clear hx hc hl
    go_enter Try.func6, Try.ntmps6
    go_wp2_with fail
    refine HL.out.mono ?_
    rintro e w1 ⟨rfl, rfl⟩
    go_wp2
    go_ret
    exact ⟨rfl, Below.refl _ _⟩
  | true =>
    rw [hl] at HL
    obtain ⟨h70, h100⟩ := light_facts hl
    have hs : ∀ p ∈ ps, p.ats.length ≤ 1000000 := fun p hp => by have := h100 p hp; omega
    have A1 : Hid (∀ W', Ext w W' → Calls Try.prog 17 #[.slice ao n cap] W' fun e w' => ∃ ao' cap' ps', e = .returned (.slice ao' n cap') ∧ PostsAt w' ao' ps' ∧ ps'.map PV.norm = ps.map PV.norm ∧ Ext W' w') := fun W' h => of18_any ao n cap ps W' hx (by omega) (hc.ext h) hs
    have A4 : Hid (∀ W' a c qs, PostsAt W' a qs → qs.map PV.norm = ps.map PV.norm → Calls Try.prog 19 #[.slice a n c] W' fun e w' => e = .returned (.tuple #[.int .i64 (tfR ps), .int .i64 (lnR ps)]) ∧ Ext W' w') := fun W' a c qs h e => by
      have := bTop_any a n c qs W' ((norm_len e).trans hx) hn h (norm_ats e hs)
      simpa only [tfR, lnR, norm_right e, norm_tf e, norm_ln e] using this
    have A6 : Hid (∀ W', Ext w W' → Calls Try.prog 21 #[.slice ao n cap] W' fun e w' => e = .returned (.bool (rightB ps)) ∧ Ext W' w') := fun W' h => refRight_any ao n cap ps W' hx hn (hc.ext h) (fun p hp => by have := hs p hp; omega)
    have A7 : Hid (∀ W', Calls Try.prog 13 #[] W' fun e w' => e = .returned (.bool true) ∧ Ext W' w') := awake18_any
    have HC : Hid (∀ W', Ext w W' → PostsAt W' ao ps) := fun W' h => hc.ext h
    have Hx := Lib.hid hx
    have H1 : Hid (∀ p ∈ ps, p.ats.length ≤ 100) := h100
    clear hx hc hl h100 hs
    go_enter Try.func6, Try.ntmps6
    go_wp2_with fail
    refine HL.out.mono ?_
    rintro e w0 ⟨rfl, rfl⟩
    go_wp2_with fail
    ((with_reducible refine (A1.out _ (Below.refl _ _)).mono ?_); rintro e w1 ⟨a1, c1, q1, rfl, k1, n1, E1⟩)
    go_wp2_with fail
    ((with_reducible refine (A4.out _ _ _ _ k1 n1).mono ?_); rintro e w2 ⟨rfl, F2⟩)
    have E2 := Ext.trans' E1 F2
    have HE2 := Lib.hid E2
    clear k1 n1 E1 F2 E2
    cases hr : rightB ps with
    | false =>
      have e2 : tfR ps = 0 := by rw [tfR, hr]; rfl
      have e3 : lnR ps = 0 := by rw [lnR, hr]; rfl
      rw [hr] at A6
      rw [e2, e3]
      clear e2 e3
      go_wp2_with (first | (go_at_call 21; ((with_reducible refine (A6.out _ HE2.out).mono ?_)); rintro e w3 ⟨rfl, F3⟩) | (go_at_call 13; ((with_reducible refine (A7.out _).mono ?_)); rintro e w4 ⟨rfl, F4⟩))
      go_ret
      exact ⟨rfl, Ext.trans' HE2.out (Ext.trans' F3 F4)⟩
    | true =>
      have e2 : tfR ps = tfB ps := by rw [tfR, hr]; rfl
      have e3 : lnR ps = lnB ps := by rw [lnR, hr]; rfl
      rw [hr] at A6
      rw [e2, e3]
      clear e2 e3
      rcases Nat.eq_zero_or_pos n with h0 | h0
      · have hps : ps = [] := List.eq_nil_of_length_eq_zero (by have := Hx.out; omega)
        have e2 : tfB ps = 0 := by rw [hps]; rfl
        have e3 : lnB ps = 0 := by rw [hps]; rfl
        have d0 : ((n : Int) == 0) = true := by rw [h0]; rfl
        rw [e2, e3]
        clear e2 e3 hps h0
        go_wp2_with (first | (go_at_call 21; ((with_reducible refine (A6.out _ HE2.out).mono ?_)); rintro e w3 ⟨rfl, F3⟩) | (go_at_call 13; ((with_reducible refine (A7.out _).mono ?_)); rintro e w4 ⟨rfl, F4⟩))
        go_ret
        exact ⟨rfl, Ext.trans' HE2.out (Ext.trans' F3 F4)⟩
      · have d0 : ((n : Int) == 0) = false := by rw [beq_eq_false_iff_ne]; omega
        have hne : Hid (ps ≠ []) := by rintro rfl; have := Hx.out; simp at this; omega
        obtain ⟨T, hT⟩ : ∃ T, T = tfB ps := ⟨_, rfl⟩
        obtain ⟨M, hM⟩ : ∃ M, M = lnB ps := ⟨_, rfl⟩
        rw [← hT, ← hM]
        have HTT := Lib.hid hT
        have HM := Lib.hid hM
        clear hT hM
        go_wp2_with (go_at_call 21; ((with_reducible refine (A6.out _ HE2.out).mono ?_)); rintro e w3 ⟨rfl, F3⟩)
        have E3 := Ext.trans' HE2.out F3
        go_loopw [5, 6, 7] (fun u v i wr => ∃ (k t : Nat) (x y : Bool), k ≤ n ∧ i = .int .i64 k ∧ u = .bool x ∧ v = .bool y ∧ wr = w3.drewN t ∧ Hid (x = oneB T (ps.take k) ∧ y = twoB M (ps.take k))) (fun _ _ i _ => n - (intOf i).toNat)
        case atStart => exact ⟨0, 0, false, false, Nat.zero_le _, rfl, rfl, rfl, rfl, ⟨rfl, rfl⟩⟩
        case round =>
          obtain ⟨k, t, x, y, hk, rfl, rfl, rfl, rfl, hxy⟩ := hrel
          by_cases hlt : k < n
          · obtain ⟨p, hp⟩ := get_of_lt Hx.out hlt
            obtain ⟨b, off, rfl, hb, c1, c2', c3'⟩ := (HC.out _ E3).cells k p hp
            have hg1 := tfB_ge (List.mem_of_getElem? hp)
            have hg2 := lnB_le (List.mem_of_getElem? hp)
            rw [← HTT.out] at hg1
            rw [← HM.out] at hg2
            have HT := Lib.hid (take_of_get hp)
            clear hp
            have f1 : decide ((T : Int) < (p.ats.length : Int)) = false := by simp; omega
            have f2 : decide (p.len < M) = false := by simp; omega
            by_cases h1 : p.ats.length = T
            all_goals by_cases h2 : p.len = M
            all_goals
              have g1 : ((p.ats.length : Int) == (T : Int)) = decide (p.ats.length = T) := by
                by_cases e : p.ats.length = T
                · rw [e]; simp
                · rw [beq_eq_false_iff_ne.2 (by omega)]; simp [e]
              have g2 : (p.len == M) = decide (p.len = M) := by
                by_cases e : p.len = M
                · rw [e]; simp
                · rw [beq_eq_false_iff_ne.2 e]; simp [e]
              simp only [h1, h2, decide_true, decide_false] at g1 g2
              have Hh := Lib.hid (And.intro h1 h2)
              clear h1 h2
              cases x <;> cases y
              all_goals
                go_wp2_with fail
                go_quiet (fail)
                go_wp2
                go_roundw
                case rel =>
                  refine ⟨k + 1, _, _, _, by omega, by go_num, rfl, rfl, rfl, ?_⟩
                  rw [Hid, HT.out, oneB_snoc, twoB_snoc, ← hxy.out.1, ← hxy.out.2]
                  simp [Hh.out.1, Hh.out.2]
                case measure => simp [intOf]; omega
          · obtain rfl : k = n := by omega
            have ht : ps.take k = ps := List.take_of_length_le (by have := Hx.out; omega)
            obtain ⟨p1, m1, e1⟩ := tfB_at hne.out
            obtain ⟨p2, m2, e2⟩ := lnB_at hne.out
            have hx1 : x = true := by
              rw [hxy.out.1, ht, oneB, List.any_eq_true]
              exact ⟨p1, m1, by rw [HTT.out]; simpa using e1⟩
            have hy1 : y = true := by
              rw [hxy.out.2, ht, twoB, List.any_eq_true]
              exact ⟨p2, m2, by rw [HM.out]; simpa using e2⟩
            subst hx1 hy1
            clear ht m1 e1 m2 e2
            go_wp2_with (go_at_call 13; ((with_reducible refine (A7.out _).mono ?_)); rintro e w4 ⟨rfl, F4⟩)
            go_ret
            exact ⟨rfl, Ext.trans' E3 (Ext.trans' (Ext.of_drewN t) F4)⟩
end Go.Proofs.Ytdlijjmjfepklaa
