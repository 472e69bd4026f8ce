/-
  The walk of BlockShifts: for whatever posting and number the law answers true and turns nothing that was there.
-/
import Derived.Test.YtdlijjmjfepklaaLawFollows
namespace Go.Proofs.Ytdlijjmjfepklaa
open Go.RowKit

theorem refFollow_prefix {px : List Int} {i k : Nat} {x y by_ : Int} (hi : px[i]? = some x) (hk : px[k]? = some y) (h : y = x + by_) :
    (refFollowL px px by_)[(refFollowL (px.take i) px by_).length + (hitsOf (px.take k) (x + by_) x).length]? = some x := by
  have e1 : refFollowL px px by_ = refFollowL (px.take i) px by_ ++ (hitsOf px (x + by_) x ++ refFollowL (px.drop (i + 1)) px by_) := by
    have : px = px.take i ++ x :: px.drop (i + 1) := by rw [← drop_of_get hi, List.take_append_drop]
    have h2 : refFollowL px px by_ = refFollowL (px.take i ++ x :: px.drop (i + 1)) px by_ := by rw [← this]
    rw [h2]
    simp [refFollowL]
  have e2 : hitsOf px (x + by_) x = hitsOf (px.take k) (x + by_) x ++ (x :: hitsOf (px.drop (k + 1)) (x + by_) x) := by
    have : px = px.take k ++ y :: px.drop (k + 1) := by rw [← drop_of_get hk, List.take_append_drop]
    have h2 : hitsOf px (x + by_) x = hitsOf (px.take k ++ y :: px.drop (k + 1)) (x + by_) x := by rw [← this]
    rw [h2]
    simp [hitsOf, h]
  rw [e1, e2, List.getElem?_append_right (by omega), Nat.add_sub_cancel_left, List.append_assoc, List.getElem?_append_right (Nat.le_refl _), Nat.sub_self]
  rfl

theorem awake_true : ∀ W' : World, Calls Try.prog 13 #[] W' fun e w' => e = .returned (.bool true) ∧ Ext W' w' := awake18_any

set_option maxRecDepth 100000 in
set_option maxHeartbeats 4000000 in
theorem lawShifts_any (pr pl : Int) (pa : Option Addr) (pc : Nat) (px : List Int) (n : Nat) (by_ : Int) (w : World) (hn : px.length = n) (hn6 : n ≤ 9223372036854775807) (hp : CellsAt w pa (ints px)) :
    Calls Try.prog 4 #[.agg #[.int .i64 pr, .int .i64 pl, .slice pa n pc], .int .i64 by_] w fun e w' => e = .returned (.bool true) ∧ Ext w w' := by
  by_cases h1 : n > 100
  · clear hp hn
    go_enter Try.func4, Try.ntmps4
    go_wp2
    go_ret
    exact ⟨rfl, (by repeat (first | (with_reducible exact Below.refl _ _) | (with_reducible assumption) | (with_reducible refine bdrewN ?_ _) | (with_reducible refine Below.drew ?_) | (with_reducible refine Below.alloc ?_ (by simp) _) | (with_reducible refine Below.setCell ?_ (by simp) _)))⟩
  obtain ⟨W, hW⟩ : ∃ W, W = (w.alloc (.cells #[.int .i64 pr, .int .i64 pl, .slice pa n pc] 24)).drew := ⟨_, rfl⟩
  have hE : Ext w W := by rw [hW]; exact (by repeat (first | (with_reducible exact Below.refl _ _) | (with_reducible assumption) | (with_reducible refine bdrewN ?_ _) | (with_reducible refine Below.drew ?_) | (with_reducible refine Below.alloc ?_ (by simp) _) | (with_reducible refine Below.setCell ?_ (by simp) _)))
  have y0 : W.cell? ⟨w.heap.size, 0, none⟩ = some (.int .i64 pr) := by rw [hW]; go_simp
  have y1 : W.cell? ⟨w.heap.size, 1, none⟩ = some (.int .i64 pl) := by rw [hW]; go_simp
  have y2 : W.cell? ⟨w.heap.size, 2, none⟩ = some (.slice pa n pc) := by rw [hW]; go_simp
  have Y : Hid (∀ w', Ext W w' → w'.cell? ⟨w.heap.size, 0, none⟩ = some (.int .i64 pr) ∧ w'.cell? ⟨w.heap.size, 1, none⟩ = some (.int .i64 pl) ∧ w'.cell? ⟨w.heap.size, 2, none⟩ = some (.slice pa n pc)) :=
    fun w' h => ⟨keeps h y0, keeps h y1, keeps h y2⟩
  have A1 : Hid (∀ W', Ext W W' → Calls Try.prog 11 #[.agg #[.int .i64 pr, .int .i64 pl, .slice pa n pc]] W' fun e w' => ∃ ao' cap', e = .returned (.agg #[.int .i64 pr, .int .i64 pl, .slice ao' n cap']) ∧ CellsAt w' ao' (ints px) ∧ Ext W' w') := fun W' h => one18_any pr pl pa n pc px W' hn (by omega) ((hp.ext hE).ext h)
  obtain ⟨L, hL⟩ : ∃ L, L = followB ⟨pr, pl, pa, pc, px⟩ ⟨pr, pl, pa, pc, px⟩ by_ := ⟨_, rfl⟩
  have hLl : L.length ≤ 100 := by rw [hL]; exact Nat.le_trans (followB_le _ _ _) (by show px.length ≤ 100; omega)
  have A3 : Hid (∀ W' a c a' c', CellsAt W' a (ints px) → CellsAt W' a' (ints px) → Calls Try.prog 10 #[.agg #[.int .i64 pr, .int .i64 pl, .slice a n c], .agg #[.int .i64 pr, .int .i64 pl, .slice a' n c'], .int .i64 by_] W' fun e w' => ∃ ao k, e = .returned (.slice ao L.length k) ∧ CellsAt w' ao (ints L) ∧ Ext W' w') := fun W' a c a' c' h h' => by
    have := follow_any ⟨pr, pl, a, c, px⟩ ⟨pr, pl, a', c', px⟩ by_ W' h h' (by show px.length ≤ _; omega) (by show px.length ≤ _; omega)
    simp only [PV.val, hn] at this
    rw [hL]; exact this
  have A4 : Hid (∀ W', Ext W W' → Calls Try.prog 14 #[.agg #[.int .i64 pr, .int .i64 pl, .slice pa n pc]] W' fun e w' => e = .returned (.bool (postB pr pl px)) ∧ Ext W' w') := fun W' h => one_any pr pl pa n pc px W' hn hn6 ((hp.ext hE).ext h)
  have A6 : Hid (∀ W', Calls Try.prog 13 #[] W' fun e w' => e = .returned (.bool true) ∧ Ext W' w') := awake18_any
  have HP : Hid (∀ W', Ext W W' → CellsAt W' pa (ints px)) := fun W' h => (hp.ext hE).ext h
  have HW := Lib.hid hW
  have HL := Lib.hid hL
  have Hn := Lib.hid hn
  clear hL hp hn y0 y1 y2 hW
  go_enter Try.func4, Try.ntmps4
  go_wp2_with fail
  go_region_held3 (fun w' => w'.cell? ⟨w.heap.size, 0, none⟩ = some (.int .i64 pr) ∧ w'.cell? ⟨w.heap.size, 1, none⟩ = some (.int .i64 pl) ∧ w'.cell? ⟨w.heap.size, 2, none⟩ = some (.slice pa n pc)) (first | (rw [← HW.out]; exact Y.out _ (Below.refl _ _)) | exact Y.out _ E1 | exact Y.out _ E2 | exact Y.out _ E3) (first | (go_at_call 11; rw [← HW.out]; ((with_reducible refine (A1.out _ (Below.refl _ _)).mono ?_)); rintro e w1 ⟨a1, c1, rfl, k1, E1⟩) | (go_at_call 11; ((with_reducible refine (A1.out _ E1).mono ?_)); rintro e w2 ⟨a2, c2, rfl, k2, F2⟩; have E2 := Ext.trans' E1 F2) | (go_at_call 10; ((with_reducible refine (A3.out _ _ _ _ _ (k1.ext F2) k2).mono ?_)); rintro e w3 ⟨a3, c3, rfl, k3, F3⟩; have E3 := Ext.trans' E2 F3) | fail)
  obtain ⟨z0, z1, z2⟩ := Y.out _ E3
  have K3 := Lib.hid k3
  clear k1 k2 k3 F2 F3 E1 E2
  cases hpb : postB pr pl px with
  | false =>
    have hl0 : ((L.length : Int) == 0) = true := by
      have : L = [] := by rw [HL.out]; simp [followB, followOk, hpb]
      rw [this]; rfl
    rw [hpb] at A4
    go_wp2_with (first | (go_at_call 14; ((with_reducible refine (A4.out _ E3).mono ?_)); rintro e w4 ⟨rfl, F4⟩) | (go_at_call 13; ((with_reducible refine (A6.out _).mono ?_)); rintro e w5 ⟨rfl, F5⟩))
    go_ret
    exact ⟨rfl, Ext.trans' hE (Ext.trans' E3 (Ext.trans' F4 F5))⟩
  | true =>
    rw [hpb] at A4
    by_cases h4 : by_ < 1 ∨ by_ > 1048576
    · have hl0 : ((L.length : Int) == 0) = true := by
        have : L = [] := by
          have h5 : followOk ⟨pr, pl, pa, pc, px⟩ ⟨pr, pl, pa, pc, px⟩ by_ = false := by
            simp only [followOk, hpb]; simp; omega
          rw [HL.out]; simp [followB, h5]
        rw [this]; rfl
      by_cases h5 : by_ < 1
      all_goals
        try have h6 : by_ > 1048576 := by omega
        clear h4
        go_wp2_with (first | (go_at_call 14; ((with_reducible refine (A4.out _ E3).mono ?_)); rintro e w4 ⟨rfl, F4⟩) | (go_at_call 13; ((with_reducible refine (A6.out _).mono ?_)); rintro e w5 ⟨rfl, F5⟩))
        go_ret
        exact ⟨rfl, Ext.trans' hE (Ext.trans' E3 (Ext.trans' F4 F5))⟩
    · have h5 : ¬ by_ < 1 := by omega
      have h6 : ¬ by_ > 1048576 := by omega
      have F1 := postB_fact (p := ⟨pr, pl, pa, pc, px⟩) hpb
      have HLR : Hid (L = refFollowL px px by_) := by
        have h7 : followOk ⟨pr, pl, pa, pc, px⟩ ⟨pr, pl, pa, pc, px⟩ by_ = true := by
          simp only [followOk, hpb]; simp; omega
        show L = _
        rw [HL.out, followB, if_pos h7, refFollow_eq F1.good]
      have G := Lib.hid (good_mem F1.good)
      have l1 : pl ≤ 1048576 := F1.len1
      clear F1 h4
      go_wp2_with (go_at_call 14; ((with_reducible refine (A4.out _ E3).mono ?_)); rintro e w4 ⟨rfl, F4⟩)
      have E4 := Ext.trans' E3 F4
      have z2 := (Y.out _ E4).2.2
      go_loopw [6, 7] (fun c i wr => ∃ (k q t : Nat), k ≤ n ∧ i = .int .i64 k ∧ c = .int .i64 q ∧ q ≤ 10000000000 ∧ wr = w4.drewN t ∧ Hid (q = (refFollowL (px.take k) px by_).length)) (fun _ i _ => n - (intOf i).toNat)
      case atStart => exact ⟨0, 0, 0, Nat.zero_le _, rfl, rfl, by omega, rfl, rfl⟩
      case round =>
        obtain ⟨k, q, t, hk, rfl, rfl, hq, rfl, hqe⟩ := hrel
        have hl0 := refFollow_le (px.take k) px by_
        by_cases hlt : k < n
        · obtain ⟨x, hx⟩ := get_of_lt Hn.out hlt
          obtain ⟨b, off, rfl, _, c1⟩ := HP.out _ E4 k _ (ints_get hx)
          have hxb := G.out x (List.mem_of_getElem? hx)
          have hq2 : q ≤ 10000 := by
            have h1 : (px.take k).length ≤ 100 := by simp; omega
            have h2 : px.length ≤ 100 := by have := Hn.out; omega
            have h3 := Nat.mul_le_mul h1 h2
            have := hqe.out; omega
          have hT2 : refFollowL (px.take (k + 1)) px by_ = refFollowL (px.take k) px by_ ++ hitsOf px (x + by_) x := by rw [take_of_get hx]; simp [refFollowL]
          have HT := Lib.hid hT2
          have HX := Lib.hid hx
          clear hx hT2 hl0
          go_wp2_with fail
          go_loopw [6, 8] (fun c i wr => ∃ (j q' t' : Nat), j ≤ n ∧ i = .int .i64 j ∧ c = .int .i64 q' ∧ q' ≤ 10000 + j ∧ wr = w4.drewN t' ∧ Hid (q' = (refFollowL (px.take k) px by_).length + (hitsOf (px.take j) (x + by_) x).length)) (fun _ i _ => n - (intOf i).toNat)
          case atStart => exact ⟨0, q, t, Nat.zero_le _, rfl, rfl, by omega, rfl, by rw [Hid, hqe.out]; simp [hitsOf]⟩
          case round =>
            obtain ⟨j, q', t', hj, rfl, rfl, hq3, rfl, hqe2⟩ := hrel
            by_cases hlt2 : j < n
            · obtain ⟨y, hy⟩ := get_of_lt Hn.out hlt2
              obtain ⟨b2, off2, e2, _, c2⟩ := HP.out _ E4 j _ (ints_get hy)
              simp only [Option.some.injEq, Addr.mk.injEq] at e2
              obtain ⟨rfl, rfl, _⟩ := e2
              have hyb := G.out y (List.mem_of_getElem? hy)
              have hw1 : IntKind.i64.wrap (y - x) = y - x := IntWalk.i64_in _ (by omega)
              have HyT := Lib.hid (take_of_get hy)
              by_cases e : y = x + by_
              · have e' : (y - x == by_) = true := by rw [beq_iff_eq]; omega
                have hpre := refFollow_prefix HX.out hy e
                rw [← HLR.out, ← hqe2.out] at hpre
                obtain ⟨b3, off3, rfl, _, c3'⟩ := (K3.out.ext F4) q' _ (ints_get hpre)
                have hql : q' < L.length := (List.getElem?_eq_some_iff.1 hpre).1
                have hd1 : decide ((L.length : Int) ≤ (q' : Int)) = false := by simp; omega
                have hd2 : decide (L.length ≤ q') = false := by simp; omega
                have hne : (x != x) = false := by simp
                have He := Lib.hid e
                clear e hpre hy
                go_wp2_with fail
                go_quiet (fail)
                go_wp2_with fail
                go_quiet (fail)
                go_wp2
                go_roundw
                case rel =>
                  refine ⟨j + 1, q' + 1, _, by omega, by go_num, by go_num, by omega, rfl, ?_⟩
                  rw [Hid, HyT.out, hqe2.out]
                  simp [hitsOf, He.out]; omega
                case measure => simp [intOf]; omega
              · have e' : (y - x == by_) = false := by rw [beq_eq_false_iff_ne]; omega
                have He := Lib.hid e
                clear e hy
                go_wp2_with fail
                go_quiet (fail)
                go_wp2
                go_roundw
                case rel =>
                  refine ⟨j + 1, q', _, by omega, by go_num, rfl, by omega, rfl, ?_⟩
                  rw [Hid, HyT.out, hqe2.out]
                  simp [hitsOf, He.out]
                case measure => simp [intOf]; omega
            · obtain rfl : j = n := by omega
              have ht : px.take j = px := List.take_of_length_le (by have := Hn.out; omega)
              have hqe3 := hqe2.out
              rw [ht] at hqe3
              have HQ := Lib.hid hqe3
              clear ht hqe3
              go_wp2
              go_roundw
              case rel => exact ⟨k + 1, q', t', by omega, by go_num, rfl, by omega, rfl, by rw [Hid, HT.out, List.length_append]; exact HQ.out⟩
              case measure => simp [intOf]; omega
        · obtain rfl : k = n := by omega
          have ht : px.take k = px := List.take_of_length_le (by have := Hn.out; omega)
          have hql : q = L.length := by rw [HLR.out, hqe.out, ht]
          have hqq : ((q : Int) == (L.length : Int)) = true := by rw [hql]; simp
          have HQ := Lib.hid hql
          clear ht hql hl0
          go_wp2_with (go_at_call 13; ((with_reducible refine (A6.out _).mono ?_)); rintro e w5 ⟨rfl, F5⟩)
          go_ret
          exact ⟨rfl, Ext.trans' hE (Ext.trans' E4 (Ext.trans' (Ext.of_drewN t) F5))⟩
end Go.Proofs.Ytdlijjmjfepklaa
