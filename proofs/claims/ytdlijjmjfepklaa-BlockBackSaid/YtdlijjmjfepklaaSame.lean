/-
  The walk of layer 18's document's Same, of lists that are the same.
-/
import Derived.Test.YtdlijjmjfepklaaTold
import Derived.Test.YtdlijjmjfepklaaFollow
namespace Go.Proofs.Ytdlijjmjfepklaa
open Go.RowKit

theorem norm_eq {p q : PV} (h : p.norm = q.norm) : p.row = q.row ∧ p.len = q.len ∧ p.ats = q.ats := by
  simp only [PV.norm, PV.mk.injEq, true_and] at h
  exact h

set_option maxRecDepth 100000 in
set_option maxHeartbeats 2000000 in
theorem same_any (ao bo : Option Addr) (n ca cb : Nat) (ps qs : List PV) (w : World) (hx : ps.length = n) (hn : n ≤ 1000000) (hp : PostsAt w ao ps) (hq : PostsAt w bo qs) (he : ps.map PV.norm = qs.map PV.norm) (hs : ∀ p ∈ ps, p.ats.length ≤ 9223372036854775807) :
    Calls Try.prog 24 #[.slice ao n ca, .slice bo n cb] w fun e w' => e = .returned (.bool true) ∧ Ext w w' := by
  have Hx := Lib.hid hx
  have Hy : Hid (qs.length = n) := by
    have := congrArg List.length he
    simp at this
    show _ = _
    omega
  have He : Hid (∀ (k : Nat) (p q : PV), ps[k]? = some p → qs[k]? = some q → p.norm = q.norm) := fun k p q h1 h2 => by
    have := congrArg (fun l => l[k]?) he
    simp only [List.getElem?_map, h1, h2, Option.map_some, Option.some.injEq] at this
    exact this
  have h0 : ((n : Int) != (n : Int)) = false := by simp
  clear hx he
  go_enter Try.func24, Try.ntmps24
  go_wp2_with fail
  go_loopw [5] (fun i wr => ∃ (k : Nat), k ≤ n ∧ i = .int .i64 k ∧ Ext w wr) (fun i _ => n - (intOf i).toNat)
  case atStart => exact ⟨0, Nat.zero_le _, rfl, Below.refl _ _⟩
  case round =>
    obtain ⟨k, hk, rfl, hE⟩ := hrel
    by_cases hlt : k < n
    · obtain ⟨p, hpk⟩ := get_of_lt Hx.out hlt
      obtain ⟨q, hqk⟩ := get_of_lt Hy.out hlt
      obtain ⟨b, off, rfl, hb, c1, c2, c3⟩ := (hp.ext hE).cells k p hpk
      obtain ⟨b', off', rfl, hb', d1, d2, d3⟩ := (hq.ext hE).cells k q hqk
      have hin1 := (hp.ext hE).inner p (List.mem_of_getElem? hpk)
      have hin2 := (hq.ext hE).inner q (List.mem_of_getElem? hqk)
      have hl := hs p (List.mem_of_getElem? hpk)
      obtain ⟨e1, e2, e3⟩ := norm_eq (He.out k p q hpk hqk)
      obtain ⟨pr, pl, pa, pc, px⟩ := p
      obtain ⟨qr, ql, qa, qc, qx⟩ := q
      simp only at e1 e2 e3 hin1 hin2 hl c1 c2 c3 d1 d2 d3
      subst e1; subst e2; subst e3
      have HC : Hid (∀ x : ExtOf wr, Calls Try.prog 9 #[.slice pa px.length pc, .slice qa px.length qc] x.w fun e w'' => e = .returned (.bool true) ∧ ∃ y : ExtOf wr, w'' = y.w) := fun x => by
        have := Calls.quietE x (ints_any pa qa pc qc x.w px px px.length px.length rfl rfl hl hl (hin1.ext x.ext) (hin2.ext x.ext))
        simpa using this
      have x1 := ExtOf.cell c1
      have x2 := ExtOf.cell c2
      have x3 := ExtOf.cell c3
      have y1 := ExtOf.cell d1
      have y2 := ExtOf.cell d2
      have y3 := ExtOf.cell d3
      have z1 : (pr != pr) = false := by simp
      have z2 : (pl != pl) = false := by simp
      clear hpk hqk hin1 hin2 hl
      obtain ⟨W, hW⟩ : ∃ W : World, W = wr := ⟨_, rfl⟩
      have HW := Lib.hid hW
      subst hW
      go_wp2_with fail
      refine wp_region_quiet_ext (W := W) (by kernel_rfl) (by kernel_rfl) (Below.refl _ _) ?_
      repeat (go_big_quiet_step (exact HC.out _))
      (refine wpQuiet_nil ?_; intro _ hw'; obtain ⟨xq, hw''⟩ := hw'; subst hw'')
      go_wp2
      go_roundw
      case rel => exact ⟨k + 1, by omega, by go_num, Ext.trans' hE xq.ext⟩
      case measure => simp [intOf]; omega
    · obtain rfl : k = n := by omega
      go_wp2_with fail
      go_ret
      exact ⟨rfl, hE⟩
end Go.Proofs.Ytdlijjmjfepklaa
