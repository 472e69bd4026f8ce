/-
  The walk of layer 18's Top.
-/
import Derived.Test.YtdlijjmjfepklaaOf
namespace Go.Proofs.Ytdlijjmjfepklaa
open Go.RowKit

/-- the greatest number of places so far, and the least length so far -/
def tfB (ps : List PV) : Nat := ps.foldl (fun m p => max m p.ats.length) 0
def lnB : List PV → Int
  | [] => 0
  | p :: r => r.foldl (fun m q => min m q.len) p.len
theorem tfB_snoc (ps : List PV) (p : PV) : tfB (ps ++ [p]) = max (tfB ps) p.ats.length := by simp [tfB, List.foldl_append]
theorem lnB_one (p : PV) : lnB [p] = p.len := rfl
theorem lnB_snoc {ps : List PV} (p : PV) (h : ps ≠ []) : lnB (ps ++ [p]) = min (lnB ps) p.len := by
  cases ps with
  | nil => exact absurd rfl h
  | cons q r => simp [lnB, List.foldl_append]
theorem tfB_le {ps : List PV} {n : Nat} (h : ∀ p ∈ ps, p.ats.length ≤ n) : tfB ps ≤ n := by
  have : ∀ (l : List PV) (m : Nat), m ≤ n → (∀ p ∈ l, p.ats.length ≤ n) → l.foldl (fun m p => max m p.ats.length) m ≤ n := by
    intro l
    induction l with
    | nil => intro m hm _; exact hm
    | cons p r ih => intro m hm hl; exact ih _ (Nat.max_le.2 ⟨hm, hl p List.mem_cons_self⟩) (fun q hq => hl q (List.mem_cons_of_mem _ hq))
  exact this ps 0 (Nat.zero_le _) h

set_option maxRecDepth 100000 in
set_option maxHeartbeats 1000000 in
theorem top_any (ao : Option Addr) (n cap : Nat) (ps : List PV) (w : World) (hx : ps.length = n) (hn : n ≤ 9223372036854775807) (hc : PostsAt w ao ps) (hs : ∀ p ∈ ps, p.ats.length ≤ 1000000) (hgood : rightB ps = true) :
    Calls Try.prog 19 #[.slice ao n cap] w fun e w' => e = .returned (.tuple #[.int .i64 (tfB ps), .int .i64 (lnB ps)]) ∧ Ext w w' := by
  have HR := Lib.hid (rightList_any ao n cap ps w hx hn hc (fun p hp => by have := hs p hp; omega))
  rw [hgood] at HR
  have Hx := Lib.hid hx
  clear hx hgood
  go_enter Try.func19, Try.ntmps19
  go_wp2_with fail
  refine HR.out.mono ?_
  rintro e w1 ⟨rfl, he1⟩
  go_wp2_with fail
  go_loopw [2, 3, 11] (fun t l i wr => ∃ (k : Nat), k ≤ n ∧ i = .int .i64 k ∧ t = .int .i64 (tfB (ps.take k)) ∧ l = .int .i64 (lnB (ps.take k)) ∧ Ext w wr) (fun _ _ i _ => n - (intOf i).toNat)
  case atStart => exact ⟨0, Nat.zero_le _, rfl, rfl, rfl, he1⟩
  case round =>
    obtain ⟨k, hk, rfl, rfl, rfl, he⟩ := hrel
    by_cases hlt : k < n
    · obtain ⟨p, hp⟩ := get_of_lt Hx.out hlt
      obtain ⟨b, off, rfl, hb, c1, c2, c3⟩ := (hc.ext he).cells k p hp
      have HT := Lib.hid (take_of_get hp)
      obtain ⟨T, hT⟩ : ∃ T, T = tfB (ps.take k) := ⟨_, rfl⟩
      obtain ⟨M, hM⟩ : ∃ M, M = lnB (ps.take k) := ⟨_, rfl⟩
      rw [← hT, ← hM]
      have HTT := Lib.hid hT
      have HM := Lib.hid hM
      clear hT hM hp
      by_cases h0 : k = 0
      · obtain rfl : k = 0 := h0
        simp only [Nat.zero_mul, Nat.add_zero] at c1 c2 c3
        go_wp2_with fail
        go_roundw
        case rel =>
          refine ⟨1, by omega, rfl, ?_, ?_, Ext.trans' he ((Below.refl _ wr).alloc (Nat.le_refl _) _)⟩
          · rw [show (1 : Nat) = 0 + 1 from rfl, HT.out, tfB_snoc, ← HTT.out]; exact congrArg _ (by omega)
          · rw [show (1 : Nat) = 0 + 1 from rfl, HT.out]; rfl
        case measure => simp [intOf]; omega
      · have hk0 : ((k : Int) == 0) = false := by simpa using h0
        have Hk := Lib.hid h0
        clear h0
        go_wp2_with fail
        go_roundw
        case rel =>
          refine ⟨k + 1, by omega, by go_num, ?_, ?_, Ext.trans' he ((Below.refl _ wr).alloc (Nat.le_refl _) _)⟩
          · rw [HT.out, tfB_snoc, ← HTT.out]; exact congrArg _ (by omega)
          · have hne : ps.take k ≠ [] := by
              have := Hk.out; have := Hx.out
              intro e
              have := congrArg List.length e
              rw [List.length_take] at this; simp only [List.length_nil] at this; omega
            rw [HT.out, lnB_snoc p hne, ← HM.out]
        case measure => simp [intOf]; omega
    · obtain rfl : k = n := by omega
      have ht : ps.take k = ps := List.take_of_length_le (by have := Hx.out; omega)
      rw [ht]
      clear ht
      go_wp2
      go_ret2
      exact ⟨rfl, he⟩

set_option maxRecDepth 100000 in
set_option maxHeartbeats 1000000 in
theorem top_not (ao : Option Addr) (n cap : Nat) (ps : List PV) (w : World) (hx : ps.length = n) (hn : n ≤ 9223372036854775807) (hc : PostsAt w ao ps) (hs : ∀ p ∈ ps, p.ats.length ≤ 9223372036854775807) (hgood : rightB ps = false) :
    Calls Try.prog 19 #[.slice ao n cap] w fun e w' => e = .returned (.tuple #[.int .i64 0, .int .i64 0]) ∧ Ext w w' := by
  have HR := Lib.hid (rightList_any ao n cap ps w hx hn hc hs)
  rw [hgood] at HR
  clear hx hgood
  go_enter Try.func19, Try.ntmps19
  go_wp2_with fail
  refine HR.out.mono ?_
  rintro e w1 ⟨rfl, he1⟩
  go_wp2
  go_ret2
  exact ⟨rfl, he1⟩

theorem tf_norm (ps : List PV) : tfB (ps.map PV.norm) = tfB ps := by
  unfold tfB; rw [List.foldl_map]; rfl
theorem ln_norm (ps : List PV) : lnB (ps.map PV.norm) = lnB ps := by
  cases ps with
  | nil => rfl
  | cons p r => simp only [List.map_cons, lnB]; rw [List.foldl_map]; rfl
end Go.Proofs.Ytdlijjmjfepklaa
