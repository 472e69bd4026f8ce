/-
  Two deferred calls, one of them of a function's value. The walks of shape's Read.
-/
import Derived.Test.YtklmfbildebimaaGreatDoorSr24
import Derived.Test.YtklmfbildebimaaGreatDoorSr2
import Derived.Test.YtklmfbildebimaaGreatDoorSr31
namespace Go.TL
open Go Go.RowKit Go.Proofs.YtklmfbildebimaaGreatDoor
section
variable {P : Program} {ops : Array Oper} {Q : Exit → Act → World → Prop} {rest : List Oper} {n : Nat} {ds : List Deferred} {S : Slots} {g g0 : Gh} {L L' L1 L2 L3 : List Ent} {f : FuncId} {fn : Func} {R : Ending → Gh → List Ent → Prop}
variable {ty : TypeId} {pos : String} {aft : Array Edge} {y : Operand} {r1 r2 : ResultVar} {v v1 v2 : Value} {c : List PanicEntry}
theorem TQ.only {c : Exit} (L' : List Ent) (hL : Sel L' L) (h : TQ Q c n ds S g L') : TQ Q c n ds S g L := .mk fun a w hf hs => h.h a w hf (hs.sel hL)
theorem TL.defer_v {xs : List Operand} {vs caps : List Value} {ats : Array TypeId} (hy : ev S y = some (.func (.func f) #[] caps.toArray)) (hx : evs S xs = some vs) (k : TL P ops Q rest n (⟨.fn (.func f) caps.toArray, vs.toArray⟩ :: ds) S g L) : TL P ops Q (⟨none, .defer { callee := .value y, args := xs.toArray, argTypes := ats }, ty, pos, aft, none⟩ :: rest) n ds S g L := .mk fun a w hf hs =>
  wpList_plain rfl fun K hK => by
    unfold Oper.wp
    have h1 := hf.evs hx
    have h2 : a.eval y = .func (.func f) #[] caps.toArray := hf.ev hy
    have : (execOp a.eval ⟨none, .defer { callee := .value y, args := xs.toArray, argTypes := ats }, ty, pos, aft, none⟩).run P w = .ok (.defer ⟨.fn (.func f) caps.toArray, vs.toArray⟩) w := by
      simp [execOp, resolve, h2, Deferred.ofValue, h1]
    rw [this]
    exact hK _ _ (k.h _ w ⟨hf.size, by show _ :: a.defers = _; rw [hf.defers], hf.sl⟩ hs)
theorem TQ.endD_ret_none (hds : ds = []) (hr : fn.results = #[r1, r2]) (h1 : RVal P n ds S g L r1 v1) (h2 : RVal P n ds S g L r2 v2) (hg : g0.le g) (hR : R (.returned (.tuple #[v1, v2])) g L') (hL : Sel L' L) : TQ (EndD P fn R g0) .ret n ds S g L := .mk fun a w hf hs => by
  show Leaves P fn a.tmps _ a.defers .returning w
  rw [hf.defers, hds]
  exact ⟨_, by rw [results_eq, hr]; simp [h1.h a w hf hs, h2.h a w hf hs], g, L', hg, hR, hs.sel hL⟩
variable {h k : FuncId} {vs caps vs' caps' : List Value} {u' : FrameMode}
end
end Go.TL
namespace Go.Proofs.YtklmfbildebimaaGreatDoor
open Go.RowKit Go.TL
set_option maxRecDepth 100000

def stopSR : PanicEntry := { v := .iface 58 (.agg #[]), recovered := true }
theorem stail_idle (b c : Nat) (w : World) :
    CallsD Tryz.prog 23 #[.pointer (some ⟨b, 0, none⟩), .pointer (some ⟨c, 0, none⟩)] .returning w fun e u' w' => e = .returned (.tuple #[]) ∧ u' = .returning ∧ w' = w := by
  refine callsD_of_wpS Tryz.func23 rfl fun c₀ cs hu => ?_
  apply wpS_seq
  apply wpS_region
  simp [wpOpsS, go_sem, recoverD, hu, Tryz.ntmps23, Exit.thenS]
  refine wpS_of_wp ?_
  simp only [Array.replicate_succ, Array.replicate_zero, List.push_toArray, List.append_toArray, List.nil_append, List.cons_append, List.setIfInBounds_toArray, List.set_cons_succ, List.set_cons_zero]
  go_wp2
  cases c₀
  simp_all [bodyPostS, results, Tryz.results23]
set_option maxHeartbeats 4000000 in
theorem late_s_stop (b c : Nat) (x0 x1 y : Value) (g : Gh) (L : List Ent) : Late Tryz.prog 23 #[.pointer (some ⟨b, 0, none⟩), .pointer (some ⟨c, 0, none⟩)] (.panicking [stopS]) (.panicking [stopSR]) g (.obj b (.cells [x0, x1].toArray 30 (0, 0)) :: .obj c (.cells [y].toArray 31 (0, 0)) :: L) (.obj b (.cells [.int .i64 0, .slice none 0 0].toArray 30 (0, 0)) :: .obj c (.cells [.int .i64 15].toArray 31 (0, 0)) :: L) :=
  ⟨fun w hs => by
    refine callsD_of_wpS Tryz.func23 rfl fun c₀ cs hu => ?_
    apply wpS_seq
    apply wpS_region
    simp [wpOpsS, go_sem, recoverD, hu, Tryz.ntmps23, Exit.thenS, stopS]
    refine wpS_of_wp ?_
    simp only [Array.replicate_succ, Array.replicate_zero, List.push_toArray, List.append_toArray, List.nil_append, List.cons_append, List.setIfInBounds_toArray, List.set_cons_succ, List.set_cons_zero]
    refine TC.h (n := 17) (ds := []) (S := [(2, .iface 58 (.agg #[])), (0, .pointer (some ⟨b, 0, none⟩)), (1, .pointer (some ⟨c, 0, none⟩))]) (g := g) ?_ _ w ⟨rfl, rfl, fun i v h => ?_⟩ hs
    · repeat' (first
    | refine wkQ ?_
    | ((with_reducible apply TL.storeK); (· rfl); (· rfl); (· exact rfl); (· exact pkA); (· exact Nat.le_of_ble_eq_true rfl))
    | refine wkV ?_
    | refine stS ?_ | (refine stB ?_; intro _) | (refine stC ?_; refine And.intro (fun _ => ?_) (fun _ => ?_))
    | apply TC.region_draw (by kernel_rfl) (by kernel_rfl) | refine TW.nil ?_ | ((with_reducible apply TW.pure); (· exact yA); (· rfl)))
      refine .mk fun a w' hf hs' => ?_
      have h2 : St g (.obj b (.cells [.int .i64 0, .slice none 0 0].toArray 30 (0, 0)) :: .obj c (.cells [.int .i64 15].toArray 31 (0, 0)) :: L) w' := hs'.sel selF
      simp [bodyPostS, results, Tryz.results23, stopSR]
      exact ⟨hf.defers, h2⟩
    · match i, h with
      | 0, h => exact Option.some.inj h
      | 1, h => exact Option.some.inj h
      | 2, h => exact Option.some.inj h
      | i + 3, h => cases h⟩
theorem late_s_idle (b c : Nat) (g : Gh) (L : List Ent) : Late Tryz.prog 23 #[.pointer (some ⟨b, 0, none⟩), .pointer (some ⟨c, 0, none⟩)] .returning .returning g L L :=
  ⟨fun w hs => by
    refine (stail_idle b c w).mono ?_
    rintro e u w' ⟨rfl, rfl, rfl⟩
    exact ⟨⟨_, rfl⟩, rfl, hs⟩⟩
def readX (x : J) : Option (Int × List (List Pt)) := if lookJ x 0 = 0 then readJ x else none
def ReadXR (o : Option (Int × List (List Pt))) (L : List Ent) : Ending → Gh → List Ent → Prop := fun e g' L1 => ∃ v, L1 = L ∧ (match o with
  | some (k, ps) => e = .returned (.tuple #[shV k v, .int .i64 0]) ∧ IsParts g' v ps
  | none => e = .returned (.tuple #[shV 0 v, .int .i64 15]) ∧ v = .slice none 0 0)
set_option maxHeartbeats 16000000 in
theorem sRead_does (x : J) (v : Value) (g : Gh) (L : List Ent) (hv : IsJ g x v) (hs : smJ x) (hT : GTabs g) (hU : GU8 g) : Does Tryz.prog 6 #[v] g L (ReadXR (readX x) L) := by
  refine Does.ofD1 Tryz.func6 rfl Tryz.ntmps6 rfl ?_
  have ov := hv.one
  have MA := fun L => may_gives x v g L hv hs hT hU
  have RD := fun L => sread_does x v g L hv hs
  clear hv hs hT hU
  unfold ReadXR readX
  unfold ReadR at RD
  by_cases h0 : lookJ x 0 ≠ 0
  · rw [if_neg h0]
    have HK := Hn.mk (show ¬ ((lookJ x 0 : Nat) : Int) = 0 by omega)
    generalize lookJ x 0 = k at *
    clear h0
    dsimp only
    repeat' (first
    | refine wkQ ?_
    | refine wkV ?_
    | ((with_reducible apply TL.gives_plain); (· kernel_rfl); (· rfl); (· exact MA _); (· rfl)) | ((with_reducible apply TW.gives_plain); (· kernel_rfl); (· rfl); (· exact MA _); (· rfl))
    | ((with_reducible apply TL.storeK); (· rfl); (· rfl); (· exact rfl); (· exact pkA); (· exact Nat.le_of_ble_eq_true rfl))
    | refine stS ?_ | (refine stB ?_; intro _) | (refine stC ?_; refine And.intro (fun _ => ?_) (fun _ => ?_)))
    refine TQ.endD_ret_none (L' := L) rfl Tryz.results6 rvA rvA (.refl _) ?_ selF
    exact ⟨_, rfl, rfl, rfl⟩
  have h0 : lookJ x 0 = 0 := by omega
  rw [if_pos h0]
  rw [h0] at MA
  cases hr : readJ x with
  | none =>
    rw [hr] at RD
    dsimp only at RD ⊢
    repeat' (first
    | refine wkQ ?_
    | ((with_reducible apply TL.pure (d := 8) (v := .func (.func 23) #[] [Value.pointer (some ⟨_, 0, none⟩), Value.pointer (some ⟨_, 0, none⟩)].toArray)); (· exact Y.make_func rfl); (· rfl)) | ((with_reducible apply TW.pure (d := 8) (v := .func (.func 23) #[] [Value.pointer (some ⟨_, 0, none⟩), Value.pointer (some ⟨_, 0, none⟩)].toArray)); (· exact Y.make_func rfl); (· rfl))
    | refine wkV ?_
    | ((with_reducible apply TL.gives_plain); (· kernel_rfl); (· rfl); (· exact MA _); (· rfl)) | ((with_reducible apply TW.gives_plain); (· kernel_rfl); (· rfl); (· exact MA _); (· rfl))
    | (refine TL.call (Enters.plain (by kernel_rfl) (by rfl)) (by rfl) (RD _) ?_; (rintro e g1 Ln hg1 ⟨k1, k2⟩; have k2 := k2.symm; subst k1; subst k2; refine CallK.panic ?_))
    | ((with_reducible apply TL.storeK); (· rfl); (· rfl); (· exact rfl); (· exact pkA); (· exact Nat.le_of_ble_eq_true rfl))
      | refine TL.defer_v (by rfl) (by rfl) ?_
    | refine stS ?_ | (refine stB ?_; intro _) | (refine stC ?_; refine And.intro (fun _ => ?_) (fun _ => ?_)))
    rename_i b2 b3
    refine TQ.only (.obj b2 (.cells [.int .i64 0, .slice none 0 0].toArray 30 (0, 0)) :: .obj b3 (.cells [.int .i64 0].toArray 31 (0, 0)) :: L) selF ?_
    refine TQ.endD_panic2 (L' := L) (vs := []) (caps := [.pointer (some ⟨b2, 0, none⟩), .pointer (some ⟨b3, 0, none⟩)]) (late_s_stop b2 b3 _ _ _ g1 _) rfl rfl (by kernel_rfl) Tryz.results6 rvA rvA hg1 ?_ (.refl _) selF
    exact ⟨_, rfl, rfl, rfl⟩
  | some o =>
    obtain ⟨k, ps⟩ := o
    rw [hr] at RD
    dsimp only at RD ⊢
    repeat' (first
    | refine wkQ ?_
    | ((with_reducible apply TL.pure (d := 8) (v := .func (.func 23) #[] [Value.pointer (some ⟨_, 0, none⟩), Value.pointer (some ⟨_, 0, none⟩)].toArray)); (· exact Y.make_func rfl); (· rfl)) | ((with_reducible apply TW.pure (d := 8) (v := .func (.func 23) #[] [Value.pointer (some ⟨_, 0, none⟩), Value.pointer (some ⟨_, 0, none⟩)].toArray)); (· exact Y.make_func rfl); (· rfl))
    | refine wkV ?_
    | ((with_reducible apply TL.gives_plain); (· kernel_rfl); (· rfl); (· exact MA _); (· rfl)) | ((with_reducible apply TW.gives_plain); (· kernel_rfl); (· rfl); (· exact MA _); (· rfl))
    | (refine TL.call (Enters.plain (by kernel_rfl) (by rfl)) (by rfl) (RD _) ?_; (rintro e g1 Ln hg1 ⟨vp, k1, k2, k3⟩; have k2 := k2.symm; subst k1; subst k2; (obtain ⟨av, cv, rfl⟩ : ∃ a c, vp = .slice a ps.length c := by obtain ⟨_, h, _⟩ := k3; exact h.slice); have K3 := Hn.mk k3; clear k3; refine CallK.ret ?_))
    | ((with_reducible apply TL.storeK); (· rfl); (· rfl); (· exact rfl); (· exact pkA); (· exact Nat.le_of_ble_eq_true rfl))
      | refine TL.defer_v (by rfl) (by rfl) ?_
    | refine stS ?_ | (refine stB ?_; intro _) | (refine stC ?_; refine And.intro (fun _ => ?_) (fun _ => ?_)))
    rename_i b2 b3
    refine TQ.only (.obj b2 (.cells [.int .i64 k, .slice av ps.length cv].toArray 30 (0, 0)) :: .obj b3 (.cells [.int .i64 0].toArray 31 (0, 0)) :: L) selF ?_
    refine TQ.endD_ret2 (L' := L) (vs := []) (caps := [.pointer (some ⟨b2, 0, none⟩), .pointer (some ⟨b3, 0, none⟩)]) (late_s_idle b2 b3 g1 _) rfl (by kernel_rfl) Tryz.results6 rvA rvA hg1 ?_ (.refl _) selF
    exact ⟨_, rfl, rfl, K3.out⟩
end Go.Proofs.YtklmfbildebimaaGreatDoor
