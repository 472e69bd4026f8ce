/-
  Slices of postings in memory; the walks that only look at them.
-/
import Derived.Test.YtdlijjmjfepklaaBlockA
namespace Go.Proofs.Ytdlijjmjfepklaa
open Go.RowKit

/-- A posting as it lies in memory. -/
structure PV where
  row : Int
  len : Int
  ao : Option Addr
  cap : Nat
  ats : List Int
def PV.val (p : PV) : Value := .agg #[.int .i64 p.row, .int .i64 p.len, .slice p.ao p.ats.length p.cap]

structure PostsAt (w : World) (ao : Option Addr) (ps : List PV) : Prop where
  cells : ∀ k p, ps[k]? = some p → ∃ b off, ao = some ⟨b, off, none⟩ ∧ b < w.heap.size ∧ w.cell? ⟨b, off + k * 3, none⟩ = some (.int .i64 p.row) ∧ w.cell? ⟨b, off + k * 3 + 1, none⟩ = some (.int .i64 p.len) ∧ w.cell? ⟨b, off + k * 3 + 2, none⟩ = some (.slice p.ao p.ats.length p.cap)
  inner : ∀ p ∈ ps, CellsAt w p.ao (ints p.ats)

theorem PostsAt.ext {w w' : World} {ao : Option Addr} {ps : List PV} (h : PostsAt w ao ps) (e : Ext w w') : PostsAt w' ao ps :=
  ⟨fun k p hp => by
    obtain ⟨b, off, h1, h2, h3, h4, h5⟩ := h.cells k p hp
    exact ⟨b, off, h1, Nat.lt_of_lt_of_le h2 e.size, keeps e h3, keeps e h4, keeps e h5⟩, fun p hp => (h.inner p hp).ext e⟩

def lightB (ps : List PV) : Bool := decide (ps.length ≤ 70) && ps.all fun p => decide (p.ats.length ≤ 100)

set_option maxRecDepth 100000 in
set_option maxHeartbeats 400000 in
theorem light_any (ao : Option Addr) (n cap : Nat) (ps : List PV) (w : World) (hx : ps.length = n) (hn : n ≤ 9223372036854775807) (hc : PostsAt w ao ps) :
    Calls Try.prog 15 #[.slice ao n cap] w fun e w' => e = .returned (.bool (lightB ps)) ∧ w = w' := by
  have Hx := Lib.hid hx
  clear hx
  by_cases h0 : n > 70
  · go_enter Try.func15, Try.ntmps15
    go_wp2
    go_ret
    exact ⟨ret_bool (by have := Hx.out; simp [lightB]; omega), rfl⟩
  go_enter Try.func15, Try.ntmps15
  go_wp2
  go_loop [3] (fun i => ∃ k : Nat, k ≤ n ∧ i = .int .i64 k ∧ Hid (lightB ps = (ps.drop k).all fun p => decide (p.ats.length ≤ 100))) (fun i => n - (intOf i).toNat)
  case atStart => exact ⟨0, Nat.zero_le _, rfl, by have := Hx.out; simp [Hid, lightB]; omega⟩
  case round =>
    obtain ⟨k, hk, rfl, hg⟩ := hrel
    by_cases hlt : k < n
    · obtain ⟨p, hp⟩ := get_of_lt Hx.out hlt
      obtain ⟨b, off, rfl, hb, c1, c2, c3⟩ := hc.cells k p hp
      have hg' := hg.out
      rw [drop_of_get hp, List.all_cons] at hg'
      have Hg := Lib.hid hg'
      clear hp hg'
      by_cases h1 : p.ats.length ≤ 100
      · go_wp2
        go_round
        case rel => exact ⟨k + 1, by omega, by go_num, Hg.out.trans (by simp [h1])⟩
        case measure => simp [intOf]; omega
      · go_wp2
        go_ret
        exact ⟨ret_bool (Hg.out.trans (by simp [h1])).symm, rfl⟩
    · go_wp2
      go_ret
      have : ps.drop k = [] := by have := Hx.out; simp; omega
      exact ⟨ret_bool (hg.out.trans (by rw [this]; rfl)).symm, rfl⟩

def listB (last : Int) : List PV → Bool
  | [] => true
  | p :: r => postB p.row p.len p.ats && !(decide (p.row ≤ last)) && listB p.row r
def rightB (ps : List PV) : Bool := listB (-1) ps && decide (ps.length ≤ 64)

structure RowFact (x : Int) : Prop where
  le_neg : -1 ≤ x
  gt_neg : ¬ x ≤ -1
theorem postB_row {row len : Int} {xs : List Int} (h : postB row len xs = true) : RowFact row := by
  simp only [postB, Bool.and_eq_true, Bool.not_eq_true', decide_eq_false_iff_not] at h
  have := h.1.1.1.1.1
  exact ⟨by omega, by omega⟩

set_option maxRecDepth 100000 in
set_option maxHeartbeats 1000000 in
theorem rightList_any (ao : Option Addr) (n cap : Nat) (ps : List PV) (w : World) (hx : ps.length = n) (hn : n ≤ 9223372036854775807) (hc : PostsAt w ao ps) (hs : ∀ p ∈ ps, p.ats.length ≤ 9223372036854775807) :
    Calls Try.prog 20 #[.slice ao n cap] w fun e w' => e = .returned (.bool (rightB ps)) ∧ Ext w w' := by
  have Hx := Lib.hid hx
  clear hx
  go_enter Try.func20, Try.ntmps20
  go_wp2
  go_loopw [2, 7] (fun r i wr => ∃ (k : Nat) (l : Int), k ≤ n ∧ r = .bool false ∧ i = .int .i64 k ∧ Ext w wr ∧ Hid ((k = 0 → l = -1) ∧ (∀ j p, k = j + 1 → ps[j]? = some p → p.row = l) ∧ -1 ≤ l) ∧ Hid (listB (-1) ps = listB l (ps.drop k))) (fun _ i _ => n - (intOf i).toNat)
  case atStart => exact ⟨0, -1, Nat.zero_le _, rfl, rfl, Below.refl _ _, ⟨fun _ => rfl, fun j p hj => by omega, by omega⟩, rfl⟩
  case round =>
    obtain ⟨k, l, hk, rfl, rfl, he, hl, hg⟩ := hrel
    by_cases hlt : k < n
    · obtain ⟨p, hp⟩ := get_of_lt Hx.out hlt
      obtain ⟨b, off, rfl, hb, c1, c2, c3⟩ := (hc.ext he).cells k p hp
      have hin := (hc.ext he).inner p (List.mem_of_getElem? hp)
      have hlen := hs p (List.mem_of_getElem? hp)
      have hg' := hg.out
      rw [drop_of_get hp, listB] at hg'
      have Hg := Lib.hid hg'
      have hpl : 0 < k → wr.cell? ⟨b, off + (k - 1) * 3, none⟩ = some (.int .i64 l) := fun h0 => by
        obtain ⟨p', hp'⟩ := get_of_lt Hx.out (show k - 1 < n by omega)
        obtain ⟨b2, off2, e, _, c5, _⟩ := (hc.ext he).cells (k - 1) p' hp'
        simp only [Option.some.injEq, Addr.mk.injEq] at e
        obtain ⟨rfl, rfl, _⟩ := e
        rw [c5, hl.out.2.1 (k - 1) p' (by omega) hp']
      have Hl' : Hid (∀ j p', k + 1 = j + 1 → ps[j]? = some p' → p'.row = p.row) := fun j p' hj h => by
        obtain rfl : k = j := by omega
        rw [hp] at h; simp only [Option.some.injEq] at h; rw [h]
      have hm1 := hl.out.2.2
      clear hp hg'
      have hd : decide ((k : Int) < (n : Int)) = true := by simp; omega
      have HE : Hid (∀ w2, Ext ((wr.alloc (.cells #[.int .i64 p.row, .int .i64 p.len, .slice p.ao p.ats.length p.cap] 27)).drew) w2 → Ext w w2) := fun w2 h => Ext.trans' he (Ext.trans' (((Below.refl _ wr).alloc (Nat.le_refl _) _).drew) h)
      obtain ⟨W, hW⟩ : ∃ W, W = wr.alloc (.cells #[.int .i64 p.row, .int .i64 p.len, .slice p.ao p.ats.length p.cap] 27) := ⟨_, rfl⟩
      have x0 : ∀ x : ExtOf W, x.w.cell? ⟨wr.heap.size, 0, none⟩ = some (.int .i64 p.row) := ExtOf.cell (by rw [hW]; go_simp)
      have x1 : ∀ x : ExtOf W, x.w.cell? ⟨wr.heap.size, 1, none⟩ = some (.int .i64 p.len) := ExtOf.cell (by rw [hW]; go_simp)
      have x2 : ∀ x : ExtOf W, x.w.cell? ⟨wr.heap.size, 2, none⟩ = some (.slice p.ao p.ats.length p.cap) := ExtOf.cell (by rw [hW]; go_simp)
      have x3 : 0 < k → ∀ x : ExtOf W, x.w.cell? ⟨b, off + (k - 1) * 3, none⟩ = some (.int .i64 l) := fun h0 => ExtOf.cell (by rw [hW]; exact keeps ((Below.refl _ wr).alloc (Nat.le_refl _) _) (hpl h0))
      have hinx : ∀ x : ExtOf W, CellsAt x.w p.ao (ints p.ats) := fun x => (show CellsAt W p.ao (ints p.ats) by rw [hW]; exact hin.alloc _).ext x.ext
      have hWe : Ext w W := by rw [hW]; exact Ext.trans' he ((Below.refl _ wr).alloc (Nat.le_refl _) _)
      have hcall : ∀ x : ExtOf W, Calls Try.prog 26 #[.agg #[.int .i64 p.row, .int .i64 p.len, .slice p.ao p.ats.length p.cap]] x.w fun e w'' => e = .returned (.bool (postB p.row p.len p.ats)) ∧ ∃ y : ExtOf W, w'' = y.w := fun x => Calls.quietE x (right_any p.row p.len p.ao p.ats.length p.cap p.ats _ rfl hlen (hinx x))
      have HW := Lib.hid hW
      have HC := Lib.hid hcall
      clear hW hcall hinx hpl hin
      cases hpb : postB p.row p.len p.ats with
      | false =>
        rw [hpb] at HC
        clear x3
        go_wp2_with fail
        rw [← HW.out]
        refine wp_region_quiet_ext (W := W) (by kernel_rfl) (by kernel_rfl) (Below.refl _ _) ?_
        repeat (go_big_quiet_step (exact HC.out _))
        (refine wpQuiet_nil ?_; intro _ hw'; obtain ⟨xq, hw''⟩ := hw'; subst hw'')
        go_wp2
        go_ret
        exact ⟨ret_bool (by simp [rightB, Hg.out, hpb]), Ext.trans' hWe xq.ext⟩
      | true =>
        rw [hpb] at HC
        by_cases h0 : k = 0
        · obtain rfl : k = 0 := h0
          have d3 : decide ((0 : Int) < ((0 : Nat) : Int)) = false := by simp
          obtain rfl : l = -1 := hl.out.1 rfl
          clear x3
          simp only [Nat.zero_mul, Nat.add_zero] at c1 c2 c3
          go_wp2_with fail
          rw [← HW.out]
          refine wp_region_quiet_ext (W := W) (by kernel_rfl) (by kernel_rfl) (Below.refl _ _) ?_
          repeat (go_big_quiet_step (exact HC.out _))
          (refine wpQuiet_nil ?_; intro _ hw'; obtain ⟨xq, hw''⟩ := hw'; subst hw'')
          go_wp2
          go_roundw
          case rel => exact ⟨1, p.row, by omega, rfl, rfl, Ext.trans' hWe xq.ext, ⟨fun h => by omega, Hl'.out, (postB_row hpb).le_neg⟩, Hg.out.trans (by rw [hpb]; simp [(postB_row hpb).gt_neg])⟩
          case measure => simp [intOf]; omega
        have x3 := x3 (by omega)
        have d3 : decide (0 < k) = true := by simp; omega
        have d4 : decide (((k : Int) - 1) < (n : Int)) = true := by simp; omega
        have d5 : (0 : Int) ≤ (k : Int) - 1 := by omega
        have d6 : ((k : Int) - 1).toNat = k - 1 := by omega
        by_cases g4 : p.row ≤ l
        · have d7 : decide (p.row ≤ l) = true := by simpa using g4
          go_wp2_with fail
          rw [← HW.out]
          refine wp_region_quiet_ext (W := W) (by kernel_rfl) (by kernel_rfl) (Below.refl _ _) ?_
          repeat (go_big_quiet_step (exact HC.out _))
          (refine wpQuiet_nil ?_; intro _ hw'; obtain ⟨xq, hw''⟩ := hw'; subst hw'')
          go_wp2
          go_ret
          exact ⟨ret_bool (by simp [rightB, Hg.out, d7]), Ext.trans' hWe xq.ext⟩
        · have d7 : decide (p.row ≤ l) = false := by simpa using g4
          go_wp2_with fail
          rw [← HW.out]
          refine wp_region_quiet_ext (W := W) (by kernel_rfl) (by kernel_rfl) (Below.refl _ _) ?_
          repeat (go_big_quiet_step (exact HC.out _))
          (refine wpQuiet_nil ?_; intro _ hw'; obtain ⟨xq, hw''⟩ := hw'; subst hw'')
          go_wp2
          go_roundw
          case rel => exact ⟨k + 1, p.row, by omega, rfl, by go_num, Ext.trans' hWe xq.ext, ⟨fun h => by omega, Hl'.out, (postB_row hpb).le_neg⟩, Hg.out.trans (by rw [hpb, d7]; simp)⟩
          case measure => simp [intOf]; omega
    · have hd : decide ((k : Int) < (n : Int)) = false := by simp; omega
      obtain rfl : k = n := by omega
      have hg2 : Hid (rightB ps = decide ((k : Int) ≤ 64)) := by
        have : ps.drop k = [] := by have := Hx.out; simp; omega
        have h1 := hg.out
        rw [this] at h1
        simp only [Hid, rightB, h1, listB, Bool.true_and, Hx.out]
        congr 1
        simp; omega
      go_wp2
      go_ret
      exact ⟨ret_bool hg2.out.symm, he⟩

theorem rightB_long {ps : List PV} (h : ps.length > 64) : rightB ps = false := by simp [rightB]; omega

set_option maxRecDepth 100000 in
set_option maxHeartbeats 1000000 in
theorem refRight_any (ao : Option Addr) (n cap : Nat) (ps : List PV) (w : World) (hx : ps.length = n) (hn : n ≤ 9223372036854775807) (hc : PostsAt w ao ps) (hs : ∀ p ∈ ps, p.ats.length ≤ 9223372036854775807) :
    Calls Try.prog 21 #[.slice ao n cap] w fun e w' => e = .returned (.bool (rightB ps)) ∧ Ext w w' := by
  have Hx := Lib.hid hx
  clear hx
  by_cases hbig : n > 64
  · go_enter Try.func21, Try.ntmps21
    go_wp2
    go_ret
    exact ⟨ret_bool (rightB_long (by have := Hx.out; omega)).symm, Below.refl _ _⟩
  have Hb : Hid (rightB ps = listB (-1) ps) := by have := Hx.out; simp [Hid, rightB]; omega
  go_enter Try.func21, Try.ntmps21
  go_wp2
  go_loopw [2, 3] (fun r i wr => ∃ (k : Nat) (l : Int), k ≤ n ∧ r = .bool false ∧ i = .int .i64 k ∧ Ext w wr ∧ Hid ((k = 0 → l = -1) ∧ (∀ j p, k = j + 1 → ps[j]? = some p → p.row = l) ∧ -1 ≤ l) ∧ Hid (listB (-1) ps = listB l (ps.drop k))) (fun _ i _ => n - (intOf i).toNat)
  case atStart => exact ⟨0, -1, Nat.zero_le _, rfl, rfl, Below.refl _ _, ⟨fun _ => rfl, fun j p hj => by omega, by omega⟩, rfl⟩
  case round =>
    obtain ⟨k, l, hk, rfl, rfl, he, hl, hg⟩ := hrel
    by_cases hlt : k < n
    · obtain ⟨p, hp⟩ := get_of_lt Hx.out hlt
      obtain ⟨b, off, rfl, hb, c1, c2, c3⟩ := (hc.ext he).cells k p hp
      have hin := (hc.ext he).inner p (List.mem_of_getElem? hp)
      have hlen := hs p (List.mem_of_getElem? hp)
      have hg' := hg.out
      rw [drop_of_get hp, listB] at hg'
      have Hg := Lib.hid hg'
      have x3 : 0 < k → ∀ x : ExtOf wr, x.w.cell? ⟨b, off + (k - 1) * 3, none⟩ = some (.int .i64 l) := fun h0 => ExtOf.cell (by
        obtain ⟨p', hp'⟩ := get_of_lt Hx.out (show k - 1 < n by omega)
        obtain ⟨b2, off2, e, _, c5, _⟩ := (hc.ext he).cells (k - 1) p' hp'
        simp only [Option.some.injEq, Addr.mk.injEq] at e
        obtain ⟨rfl, rfl, _⟩ := e
        rw [c5, hl.out.2.1 (k - 1) p' (by omega) hp'])
      have Hl' : Hid (∀ j p', k + 1 = j + 1 → ps[j]? = some p' → p'.row = p.row) := fun j p' hj h => by
        obtain rfl : k = j := by omega
        rw [hp] at h; simp only [Option.some.injEq] at h; rw [h]
      have hm1 := hl.out.2.2
      have x0 := ExtOf.cell c1
      have x1 := ExtOf.cell c2
      have x2 := ExtOf.cell c3
      have hcall : ∀ x : ExtOf wr, Calls Try.prog 14 #[.agg #[.int .i64 p.row, .int .i64 p.len, .slice p.ao p.ats.length p.cap]] x.w fun e w'' => e = .returned (.bool (postB p.row p.len p.ats)) ∧ ∃ y : ExtOf wr, w'' = y.w := fun x => Calls.quietE x (one_any p.row p.len p.ao p.ats.length p.cap p.ats _ rfl hlen (hin.ext x.ext))
      have HC := Lib.hid hcall
      clear hp hg' hcall hin c1 c2 c3
      have hd : decide ((k : Int) < (n : Int)) = true := by simp; omega
      cases hpb : postB p.row p.len p.ats with
      | false =>
        rw [hpb] at HC
        clear x3
        go_wp2_with fail
        refine wp_region_quiet_ext (W := wr) (by kernel_rfl) (by kernel_rfl) (Below.refl _ _) ?_
        repeat (go_big_quiet_step (exact HC.out _))
        (refine wpQuiet_nil ?_; intro _ hw'; obtain ⟨xq, hw''⟩ := hw'; subst hw'')
        go_wp2
        go_ret
        exact ⟨ret_bool (by rw [Hb.out, Hg.out, hpb]; rfl), Ext.trans' he xq.ext⟩
      | true =>
        rw [hpb] at HC
        by_cases h0 : k = 0
        · obtain rfl : k = 0 := h0
          have d3 : decide ((0 : Int) < ((0 : Nat) : Int)) = false := by simp
          obtain rfl : l = -1 := hl.out.1 rfl
          clear x3
          simp only [Nat.zero_mul, Nat.add_zero] at x0 x1 x2
          go_wp2_with fail
          refine wp_region_quiet_ext (W := wr) (by kernel_rfl) (by kernel_rfl) (Below.refl _ _) ?_
          repeat (go_big_quiet_step (exact HC.out _))
          (refine wpQuiet_nil ?_; intro _ hw'; obtain ⟨xq, hw''⟩ := hw'; subst hw'')
          go_wp2
          go_roundw
          case rel => exact ⟨1, p.row, by omega, rfl, rfl, Ext.trans' he xq.ext, ⟨fun h => by omega, Hl'.out, (postB_row hpb).le_neg⟩, Hg.out.trans (by rw [hpb]; simp [(postB_row hpb).gt_neg])⟩
          case measure => simp [intOf]; omega
        have x3 := x3 (by omega)
        have d3 : decide (0 < k) = true := by simp; omega
        have d4 : decide (((k : Int) - 1) < (n : Int)) = true := by simp; omega
        have d5 : (0 : Int) ≤ (k : Int) - 1 := by omega
        have d6 : ((k : Int) - 1).toNat = k - 1 := by omega
        by_cases g4 : p.row ≤ l
        · have d7 : decide (p.row ≤ l) = true := by simpa using g4
          go_wp2_with fail
          refine wp_region_quiet_ext (W := wr) (by kernel_rfl) (by kernel_rfl) (Below.refl _ _) ?_
          repeat (go_big_quiet_step (exact HC.out _))
          (refine wpQuiet_nil ?_; intro _ hw'; obtain ⟨xq, hw''⟩ := hw'; subst hw'')
          go_wp2
          go_ret
          exact ⟨ret_bool (by rw [Hb.out, Hg.out, d7]; simp), Ext.trans' he xq.ext⟩
        · have d7 : decide (p.row ≤ l) = false := by simpa using g4
          go_wp2_with fail
          refine wp_region_quiet_ext (W := wr) (by kernel_rfl) (by kernel_rfl) (Below.refl _ _) ?_
          repeat (go_big_quiet_step (exact HC.out _))
          (refine wpQuiet_nil ?_; intro _ hw'; obtain ⟨xq, hw''⟩ := hw'; subst hw'')
          go_wp2
          go_roundw
          case rel => exact ⟨k + 1, p.row, by omega, rfl, by go_num, Ext.trans' he xq.ext, ⟨fun h => by omega, Hl'.out, (postB_row hpb).le_neg⟩, Hg.out.trans (by rw [hpb, d7]; simp)⟩
          case measure => simp [intOf]; omega
    · have hd : decide ((k : Int) < (n : Int)) = false := by simp; omega
      obtain rfl : k = n := by omega
      have hg2 : Hid (rightB ps = true) := by
        have : ps.drop k = [] := by have := Hx.out; simp; omega
        have h1 := hg.out
        rw [this] at h1
        rw [Hid, Hb.out, h1]; rfl
      go_wp2
      go_ret
      exact ⟨ret_bool hg2.out.symm, he⟩
end Go.Proofs.Ytdlijjmjfepklaa
