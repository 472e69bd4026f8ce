/-
  The walk of BlockFollows: for whatever two postings and number the law answers true and turns nothing that was there.
-/
import Derived.Test.YtdlijjmjfepklaaAwake
namespace Go.Proofs.Ytdlijjmjfepklaa
open Go.RowKit

theorem follow_any (p q : PV) (by_ : Int) (w : World) (hp : CellsAt w p.ao (ints p.ats)) (hq : CellsAt w q.ao (ints q.ats)) (hpl : p.ats.length ≤ 1000000) (hql : q.ats.length ≤ 1000000) :
    Calls Try.prog 10 #[p.val, q.val, .int .i64 by_] w fun e w' => ∃ ao c, e = .returned (.slice ao (followB p q by_).length c) ∧ CellsAt w' ao (ints (followB p q by_)) ∧ Ext w w' := by
  cases h : followOk p q by_ with
  | false =>
    have e0 : followB p q by_ = [] := by simp [followB, h]
    refine (follow_not p q by_ w hp hq (by omega) (by omega) h).mono ?_
    rintro e w' ⟨rfl, he⟩
    rw [e0]
    exact ⟨none, 0, rfl, CellsAt.nil, he⟩
  | true =>
    refine (follow_ok p q by_ w hp hq hpl hql h).mono ?_
    rintro e w' ⟨v, rfl, hown, he⟩
    obtain ⟨ao, c, rfl, hc, _⟩ := owns_form hown
    exact ⟨ao, c, rfl, hc, he⟩

theorem refFollow_any (p q : PV) (by_ : Int) (w : World) (hp : CellsAt w p.ao (ints p.ats)) (hq : CellsAt w q.ao (ints q.ats)) (hpl : p.ats.length ≤ 1000000) (hql : q.ats.length ≤ 1000000) :
    Calls Try.prog 12 #[p.val, q.val, .int .i64 by_] w fun e w' => ∃ ao c, e = .returned (.slice ao (followB p q by_).length c) ∧ CellsAt w' ao (ints (followB p q by_)) ∧ Ext w w' := by
  cases h : followOk p q by_ with
  | false =>
    have e0 : followB p q by_ = [] := by simp [followB, h]
    refine (refFollow_not p q by_ w hp hq (by omega) (by omega) h).mono ?_
    rintro e w' ⟨rfl, he⟩
    rw [e0]
    exact ⟨none, 0, rfl, CellsAt.nil, he⟩
  | true =>
    refine (refFollow_ok p q by_ w hp hq hpl hql h).mono ?_
    rintro e w' ⟨v, rfl, hown, he⟩
    obtain ⟨ao, c, rfl, hc, _⟩ := owns_form hown
    exact ⟨ao, c, rfl, hc, he⟩

theorem followB_le (p q : PV) (by_ : Int) : (followB p q by_).length ≤ p.ats.length := by
  unfold followB
  split
  · exact List.length_filter_le _ _
  · simp

set_option maxRecDepth 100000 in
set_option maxHeartbeats 4000000 in
theorem lawFollows_any (pr pl : Int) (pa : Option Addr) (pc : Nat) (px : List Int) (qr ql : Int) (qa : Option Addr) (qc : Nat) (qx : List Int) (n m : Nat) (by_ : Int) (w : World) (hn : px.length = n) (hm : qx.length = m) (hn6 : n ≤ 9223372036854775807) (hm6 : m ≤ 9223372036854775807) (hp : CellsAt w pa (ints px)) (hq : CellsAt w qa (ints qx)) :
    Calls Try.prog 3 #[.agg #[.int .i64 pr, .int .i64 pl, .slice pa n pc], .agg #[.int .i64 qr, .int .i64 ql, .slice qa m qc], .int .i64 by_] w fun e w' => e = .returned (.bool true) ∧ Ext w w' := by
  by_cases h1 : n > 100
  · clear hp hq hn hm
    go_enter Try.func3, Try.ntmps3
    go_wp2
    go_ret
    exact ⟨rfl, (by repeat (first | (with_reducible exact Below.refl _ _) | (with_reducible assumption) | (with_reducible refine bdrewN ?_ _) | (with_reducible refine Below.drew ?_) | (with_reducible refine Below.alloc ?_ (by simp) _) | (with_reducible refine Below.setCell ?_ (by simp) _)))⟩
  by_cases h2 : m > 100
  · clear hp hq hn hm
    go_enter Try.func3, Try.ntmps3
    go_wp2
    go_ret
    exact ⟨rfl, (by repeat (first | (with_reducible exact Below.refl _ _) | (with_reducible assumption) | (with_reducible refine bdrewN ?_ _) | (with_reducible refine Below.drew ?_) | (with_reducible refine Below.alloc ?_ (by simp) _) | (with_reducible refine Below.setCell ?_ (by simp) _)))⟩
  obtain ⟨W, hW⟩ : ∃ W, W = ((w.alloc (.cells #[.int .i64 pr, .int .i64 pl, .slice pa n pc] 24)).alloc (.cells #[.int .i64 qr, .int .i64 ql, .slice qa m qc] 24)).drew := ⟨_, rfl⟩
  have hE : Ext w W := by rw [hW]; exact (by repeat (first | (with_reducible exact Below.refl _ _) | (with_reducible assumption) | (with_reducible refine bdrewN ?_ _) | (with_reducible refine Below.drew ?_) | (with_reducible refine Below.alloc ?_ (by simp) _) | (with_reducible refine Below.setCell ?_ (by simp) _)))
  have y0 : W.cell? ⟨w.heap.size, 0, none⟩ = some (.int .i64 pr) := by rw [hW]; go_simp
  have y1 : W.cell? ⟨w.heap.size, 1, none⟩ = some (.int .i64 pl) := by rw [hW]; go_simp
  have y2 : W.cell? ⟨w.heap.size, 2, none⟩ = some (.slice pa n pc) := by rw [hW]; go_simp
  have y3 : W.cell? ⟨w.heap.size + 1, 0, none⟩ = some (.int .i64 qr) := by rw [hW]; go_simp
  have y4 : W.cell? ⟨w.heap.size + 1, 1, none⟩ = some (.int .i64 ql) := by rw [hW]; go_simp
  have y5 : W.cell? ⟨w.heap.size + 1, 2, none⟩ = some (.slice qa m qc) := by rw [hW]; go_simp
  have Y : Hid (∀ w', Ext W w' → w'.cell? ⟨w.heap.size, 0, none⟩ = some (.int .i64 pr) ∧ w'.cell? ⟨w.heap.size, 1, none⟩ = some (.int .i64 pl) ∧ w'.cell? ⟨w.heap.size, 2, none⟩ = some (.slice pa n pc) ∧ w'.cell? ⟨w.heap.size + 1, 0, none⟩ = some (.int .i64 qr) ∧ w'.cell? ⟨w.heap.size + 1, 1, none⟩ = some (.int .i64 ql) ∧ w'.cell? ⟨w.heap.size + 1, 2, none⟩ = some (.slice qa m qc)) :=
    fun w' h => ⟨keeps h y0, keeps h y1, keeps h y2, keeps h y3, keeps h y4, keeps h y5⟩
  have A1 : Hid (∀ W', Ext W W' → Calls Try.prog 11 #[.agg #[.int .i64 pr, .int .i64 pl, .slice pa n pc]] W' fun e w' => ∃ ao' cap', e = .returned (.agg #[.int .i64 pr, .int .i64 pl, .slice ao' n cap']) ∧ CellsAt w' ao' (ints px) ∧ Ext W' w') := fun W' h => one18_any pr pl pa n pc px W' hn (by omega) ((hp.ext hE).ext h)
  have A2 : Hid (∀ W', Ext W W' → Calls Try.prog 11 #[.agg #[.int .i64 qr, .int .i64 ql, .slice qa m qc]] W' fun e w' => ∃ ao' cap', e = .returned (.agg #[.int .i64 qr, .int .i64 ql, .slice ao' m cap']) ∧ CellsAt w' ao' (ints qx) ∧ Ext W' w') := fun W' h => one18_any qr ql qa m qc qx W' hm (by omega) ((hq.ext hE).ext h)
  obtain ⟨L, hL⟩ : ∃ L, L = followB ⟨pr, pl, pa, pc, px⟩ ⟨qr, ql, qa, qc, qx⟩ by_ := ⟨_, rfl⟩
  have hLl : L.length ≤ 100 := by rw [hL]; exact Nat.le_trans (followB_le _ _ _) (by show px.length ≤ 100; omega)
  have A3 : Hid (∀ W' a c a' c', CellsAt W' a (ints px) → CellsAt W' a' (ints qx) → Calls Try.prog 10 #[.agg #[.int .i64 pr, .int .i64 pl, .slice a n c], .agg #[.int .i64 qr, .int .i64 ql, .slice a' m c'], .int .i64 by_] W' fun e w' => ∃ ao k, e = .returned (.slice ao L.length k) ∧ CellsAt w' ao (ints L) ∧ Ext W' w') := fun W' a c a' c' h h' => by
    have := follow_any ⟨pr, pl, a, c, px⟩ ⟨qr, ql, a', c', qx⟩ by_ W' h h' (by show px.length ≤ _; omega) (by show qx.length ≤ _; omega)
    simp only [PV.val, hn, hm] at this
    rw [hL]; exact this
  have A4 : Hid (∀ W', Ext W W' → Calls Try.prog 12 #[.agg #[.int .i64 pr, .int .i64 pl, .slice pa n pc], .agg #[.int .i64 qr, .int .i64 ql, .slice qa m qc], .int .i64 by_] W' fun e w' => ∃ ao k, e = .returned (.slice ao L.length k) ∧ CellsAt w' ao (ints L) ∧ Ext W' w') := fun W' h => by
    have := refFollow_any ⟨pr, pl, pa, pc, px⟩ ⟨qr, ql, qa, qc, qx⟩ by_ W' ((hp.ext hE).ext h) ((hq.ext hE).ext h) (by show px.length ≤ _; omega) (by show qx.length ≤ _; omega)
    simp only [PV.val, hn, hm] at this
    rw [hL]; exact this
  have A5 : Hid (∀ W' a c a' c', CellsAt W' a (ints L) → CellsAt W' a' (ints L) → Calls Try.prog 9 #[.slice a L.length c, .slice a' L.length c'] W' fun e w' => e = .returned (.bool true) ∧ Ext W' w') := fun W' a c a' c' h h' => by
    have := ints_any a a' c c' W' L L L.length L.length rfl rfl (by omega) (by omega) h h'
    simpa using this
  have A6 : Hid (∀ W', Calls Try.prog 13 #[] W' fun e w' => e = .returned (.bool true) ∧ Ext W' w') := awake18_any
  have HW := Lib.hid hW
  clear hL hLl hp hq hn hm y0 y1 y2 y3 y4 y5 hW
  go_enter Try.func3, Try.ntmps3
  go_wp2_with fail
  go_region_held3 (fun w' => w'.cell? ⟨w.heap.size, 0, none⟩ = some (.int .i64 pr) ∧ w'.cell? ⟨w.heap.size, 1, none⟩ = some (.int .i64 pl) ∧ w'.cell? ⟨w.heap.size, 2, none⟩ = some (.slice pa n pc) ∧ w'.cell? ⟨w.heap.size + 1, 0, none⟩ = some (.int .i64 qr) ∧ w'.cell? ⟨w.heap.size + 1, 1, none⟩ = some (.int .i64 ql) ∧ w'.cell? ⟨w.heap.size + 1, 2, none⟩ = some (.slice qa m qc)) (first | (rw [← HW.out]; exact Y.out _ (Below.refl _ _)) | exact Y.out _ E1 | exact Y.out _ E2 | exact Y.out _ E3 | exact Y.out _ E4 | exact Y.out _ E5 | exact Y.out _ E6) (first | (go_at_call 11; rw [← HW.out]; ((with_reducible refine (A1.out _ (Below.refl _ _)).mono ?_)); rintro e w1 ⟨a1, c1, rfl, k1, E1⟩) | (go_at_call 11; ((with_reducible refine (A2.out _ E1).mono ?_)); rintro e w2 ⟨a2, c2, rfl, k2, F2⟩; have E2 := Ext.trans' E1 F2) | (go_at_call 10; ((with_reducible refine (A3.out _ _ _ _ _ (k1.ext F2) k2).mono ?_)); rintro e w3 ⟨a3, c3, rfl, k3, F3⟩; have E3 := Ext.trans' E2 F3) | (go_at_call 12; ((with_reducible refine (A4.out _ E3).mono ?_)); rintro e w4 ⟨a4, c4, rfl, k4, F4⟩; have E4 := Ext.trans' E3 F4) | (go_at_call 9; ((with_reducible refine (A5.out _ _ _ _ _ (k3.ext F4) k4).mono ?_)); rintro e w5 ⟨rfl, F5⟩; have E5 := Ext.trans' E4 F5) | (go_at_call 13; ((with_reducible refine (A6.out _).mono ?_)); rintro e w6 ⟨rfl, F6⟩; have E6 := Ext.trans' E5 F6) | fail)
  go_wp2
  go_ret
  exact ⟨rfl, Ext.trans' hE E6⟩
end Go.Proofs.Ytdlijjmjfepklaa
