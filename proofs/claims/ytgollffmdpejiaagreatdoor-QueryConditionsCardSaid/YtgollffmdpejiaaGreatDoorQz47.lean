/-
  The walk of query's Read.
-/
import Derived.Test.YtgollffmdpejiaaGreatDoorQz3
import Derived.Test.YtgollffmdpejiaaGreatDoorQz46
import Derived.Test.YtgollffmdpejiaaGreatDoorQz24
import Derived.Test.YtgollffmdpejiaaGreatDoorQz13
namespace Go.Proofs.YtgollffmdpejiaaGreatDoor
open Go.RowKit Go.TL
set_option maxRecDepth 100000

def stopQR : PanicEntry := { v := .iface 77 (.agg #[]), recovered := true }
theorem qtail_idle (b c : Nat) (w : World) :
    CallsD Tryz.prog 36 #[.pointer (some ⟨b, 0, none⟩), .pointer (some ⟨c, 0, none⟩)] .returning w fun e u' w' => e = .returned (.tuple #[]) ∧ u' = .returning ∧ w' = w := by
  refine callsD_of_wpS Tryz.func36 rfl fun c₀ cs hu => ?_
  apply wpS_seq
  apply wpS_region
  simp [wpOpsS, go_sem, recoverD, hu, Tryz.ntmps36, Exit.thenS]
  refine wpS_of_wp ?_
  simp only [Array.replicate_succ, Array.replicate_zero, List.push_toArray, List.append_toArray, List.nil_append, List.cons_append, List.setIfInBounds_toArray, List.set_cons_succ, List.set_cons_zero]
  go_wp2
  cases c₀
  simp_all [bodyPostS, results, Tryz.results36]
set_option maxHeartbeats 4000000 in
theorem late_q_stop (b c : Nat) (x0 y : Value) (g : Gh) (L : List Ent) : Late Tryz.prog 36 #[.pointer (some ⟨b, 0, none⟩), .pointer (some ⟨c, 0, none⟩)] (.panicking [stopQ]) (.panicking [stopQR]) g (.obj b (.cells [x0].toArray 38 (0, 0)) :: .obj c (.cells [y].toArray 23 (0, 0)) :: L) (.obj b (.cells [.pointer none].toArray 38 (0, 0)) :: .obj c (.cells [.int .i64 17].toArray 23 (0, 0)) :: L) :=
  ⟨fun w hs => by
    refine callsD_of_wpS Tryz.func36 rfl fun c₀ cs hu => ?_
    apply wpS_seq
    apply wpS_region
    simp [wpOpsS, go_sem, recoverD, hu, Tryz.ntmps36, Exit.thenS, stopQ]
    refine wpS_of_wp ?_
    simp only [Array.replicate_succ, Array.replicate_zero, List.push_toArray, List.append_toArray, List.nil_append, List.cons_append, List.setIfInBounds_toArray, List.set_cons_succ, List.set_cons_zero]
    refine TC.h (n := 16) (ds := []) (S := [(2, .iface 77 (.agg #[])), (0, .pointer (some ⟨b, 0, none⟩)), (1, .pointer (some ⟨c, 0, none⟩))]) (g := g) ?_ _ w ⟨rfl, rfl, fun i v h => ?_⟩ hs
    · repeat' (first
    | refine wkQ ?_
    | ((with_reducible apply TL.storeK); (· rfl); (· rfl); (· exact rfl); (· exact pkA); (· exact Nat.le_of_ble_eq_true rfl))
    | refine wkV ?_
    | refine stS ?_ | (refine stB ?_; intro _) | (refine stC ?_; constructor <;> intro _)
    | refine wkW ?_)
      refine .mk fun a w' hf hs' => ?_
      have h2 : St g (.obj b (.cells [.pointer none].toArray 38 (0, 0)) :: .obj c (.cells [.int .i64 17].toArray 23 (0, 0)) :: L) w' := hs'.sel selF
      simp [bodyPostS, results, Tryz.results36, stopQR]
      exact ⟨hf.defers, h2⟩
    · match i, h with
      | 0, h => exact Option.some.inj h
      | 1, h => exact Option.some.inj h
      | 2, h => exact Option.some.inj h
      | i + 3, h => cases h⟩
theorem late_q_idle (b c : Nat) (g : Gh) (L : List Ent) : Late Tryz.prog 36 #[.pointer (some ⟨b, 0, none⟩), .pointer (some ⟨c, 0, none⟩)] .returning .returning g L L :=
  ⟨fun w hs => by
    refine (qtail_idle b c w).mono ?_
    rintro e u w' ⟨rfl, rfl, rfl⟩
    exact ⟨⟨_, rfl⟩, rfl, hs⟩⟩
def IsQuery (g : Gh) (v : Value) (qs : List Qn) : Prop := ∃ b sl fl, v = .pointer (some ⟨b, 0, none⟩) ∧ g.cell b 0 = some sl ∧ Sl g sl qs.length 1 fl ∧ IsQs g qs fl
def ReadQR (o : Option (List Qn)) (L : List Ent) : Ending → Gh → List Ent → Prop := fun e g' L1 => L1 = L ∧ (match o with
  | some qs => ∃ v, e = .returned (.tuple #[v, .int .i64 0]) ∧ IsQuery g' v qs
  | none => e = .returned (.tuple #[.pointer none, .int .i64 17]))
set_option maxHeartbeats 16000000 in
theorem qRead_does (x : J) (v : Value) (g : Gh) (L : List Ent) (hv : IsJ g x v) (hs : smJ x) (hT : GTabs g) (hU : GU8 g) (hP : GSp g) : Does Tryz.prog 15 #[v] g L (ReadQR (readQ x) L) := by
  refine Does.ofD1 Tryz.func15 rfl Tryz.ntmps15 rfl ?_
  have ov := hv.one
  have MA := fun L => may_gives x v g L hv hs hT hU
  unfold ReadQR readQ
  by_cases h0 : lookJ x 0 ≠ 0
  · rw [if_neg h0]
    have HK := Hn.mk (show ¬ ((lookJ x 0 : Nat) : Int) = 0 by omega)
    generalize lookJ x 0 = k at *
    clear h0 hv hs hT hU hP
    dsimp only
    repeat' (first
    | refine wkQ ?_
    | refine wkV ?_
    | refine wkD (MA _) ?_
    | ((with_reducible apply TL.storeK); (· rfl); (· rfl); (· exact rfl); (· exact pkA); (· exact Nat.le_of_ble_eq_true rfl))
    | refine stS ?_ | (refine stB ?_; intro _) | (refine stC ?_; constructor <;> intro _))
    refine TQ.endD_ret_none (L' := L) rfl Tryz.results15 rvA rvA (.refl _) ?_ selF
    exact ⟨rfl, rfl⟩
  have h0 : lookJ x 0 = 0 := by omega
  rw [if_pos h0]
  have QD : ∀ b L, Does Tryz.prog 37 #[.pointer (some ⟨b, 0, none⟩), v, .int .i64 0] g (rdO b 100 :: L) (QsR b (rdQ 32 100 x) L) := fun b L => quest_ok 32 (Nat.le_refl _) x v b 100 g L hv hs h0 (Nat.le_refl _) hT hU hP
  rw [h0] at MA
  clear hv hs hT hU hP h0
  unfold QsR at QD
  cases hr : rdQ 32 100 x with
  | none =>
    rw [hr] at QD
    dsimp only [Option.map_none] at QD ⊢
    repeat' (first
    | refine wkQ ?_
    | (refine wkA 8 (v := .func (.func 36) #[] [Value.pointer (some ⟨_, 0, none⟩), Value.pointer (some ⟨_, 0, none⟩)].toArray) ?_ ?_; · exact Y.make_func rfl)
    | refine wkV ?_
    | refine wkD (MA _) ?_
    | (refine TL.callP (Enters.plain (by kernel_rfl) (by rfl)) (QD _ _) permA (by rfl) ?_; (rintro e g1 Ln hg1 ⟨k1, n4, k2⟩; subst k1; subst k2; refine CallK.panic ?_))
    | ((with_reducible apply TL.storeK); (· rfl); (· rfl); (· exact rfl); (· exact pkA); (· exact Nat.le_of_ble_eq_true rfl))
      | refine TL.defer_v (by rfl) (by rfl) ?_
    | refine stS ?_ | (refine stB ?_; intro _) | (refine stC ?_; constructor <;> intro _))
    rename_i b2 b3 b10
    refine TQ.only (.obj b2 (.cells [.pointer none].toArray 38 (0, 0)) :: .obj b3 (.cells [.int .i64 0].toArray 23 (0, 0)) :: L) selF ?_
    refine TQ.endD_panic2 (L' := L) (vs := []) (caps := [.pointer (some ⟨b2, 0, none⟩), .pointer (some ⟨b3, 0, none⟩)]) (late_q_stop b2 b3 _ _ g1 _) rfl rfl (by kernel_rfl) Tryz.results15 rvA rvA hg1 ?_ (.refl _) selF
    exact ⟨rfl, rfl⟩
  | some o =>
    obtain ⟨qs, l1⟩ := o
    rw [hr] at QD
    dsimp only [Option.map_some] at QD ⊢
    repeat' (first
    | refine wkQ ?_
    | (refine wkA 8 (v := .func (.func 36) #[] [Value.pointer (some ⟨_, 0, none⟩), Value.pointer (some ⟨_, 0, none⟩)].toArray) ?_ ?_; · exact Y.make_func rfl)
    | refine wkV ?_
    | refine wkD (MA _) ?_
    | (refine TL.callP (Enters.plain (by kernel_rfl) (by rfl)) (QD _ _) permA (by rfl) ?_; (rintro e g1 Ln hg1 ⟨sl, fl, k1, k2, k3, k4⟩; subst k1; subst k2; (obtain ⟨av, cv, rfl⟩ := k3.slice); have K3 := Hn.mk k3; clear k3; refine CallK.ret ?_))
    | ((with_reducible apply TL.storeK); (· rfl); (· rfl); (· exact rfl); (· exact pkA); (· exact Nat.le_of_ble_eq_true rfl))
      | refine TL.defer_v (by rfl) (by rfl) ?_
    | refine stS ?_ | (refine stB ?_; intro _) | (refine stC ?_; constructor <;> intro _))
    rename_i b2 b3 b10 b15
    refine TQ.keep_obj (b := b15) (vs := [.slice av qs.length cv]) pkA (Nat.le_of_ble_eq_true rfl) fun g2 hg2 hc2 => ?_
    refine TQ.only (.obj b2 (.cells [.pointer (some ⟨b15, 0, none⟩)].toArray 38 (0, 0)) :: .obj b3 (.cells [.int .i64 0].toArray 23 (0, 0)) :: L) selF ?_
    refine TQ.endD_ret2 (L' := L) (vs := []) (caps := [.pointer (some ⟨b2, 0, none⟩), .pointer (some ⟨b3, 0, none⟩)]) (late_q_idle b2 b3 g2 _) rfl (by kernel_rfl) Tryz.results15 rvA rvA (hg1.trans hg2) ?_ (.refl _) selF
    exact ⟨rfl, _, rfl, b15, _, fl, rfl, hc2 0 _ rfl, K3.out.le hg2, IsQs.le hg2 k4⟩
end Go.Proofs.YtgollffmdpejiaaGreatDoor
