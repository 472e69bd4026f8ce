/-
  Two deferred calls, one of them of a function's value. What Apply leaves to be done last. How a document is changed, as data: what is put, what is added and taken away again, what changes nothing. Bodies with deferred calls: a slot that no result reads does not matter.
-/
import Derived.Test.YthngolfabfijpaaGreatDoorHc8
import Derived.Test.YthngolfabfijpaaGreatDoorHc2
import Derived.Test.YthngolfabfijpaaGreatDoorHc34
import Derived.Test.YthngolfabfijpaaGreatDoorHc17
namespace Go.TL
open Go Go.RowKit Go.Proofs.YthngolfabfijpaaGreatDoor
section
variable {P : Program} {ops : Array Oper} {Q : Exit → Act → World → Prop} {rest : List Oper} {n : Nat} {ds : List Deferred} {S : Slots} {g g0 : Gh} {L L' L1 L2 L3 : List Ent} {f : FuncId} {fn : Func} {R : Ending → Gh → List Ent → Prop}
variable {ty : TypeId} {pos : String} {aft : Array Edge} {y : Operand} {r1 r2 : ResultVar} {v v1 v2 : Value} {c : List PanicEntry}
theorem TQ.only {c : Exit} (L' : List Ent) (hL : Sel L' L) (h : TQ Q c n ds S g L') : TQ Q c n ds S g L := .mk fun a w hf hs => h.h a w hf (hs.sel hL)
theorem TL.defer_v {xs : List Operand} {vs caps : List Value} {ats : Array TypeId} (hy : ev S y = some (.func (.func f) #[] caps.toArray)) (hx : evs S xs = some vs) (k : TL P ops Q rest n (⟨.fn (.func f) caps.toArray, vs.toArray⟩ :: ds) S g L) : TL P ops Q (⟨none, .defer { callee := .value y, args := xs.toArray, argTypes := ats }, ty, pos, aft, none⟩ :: rest) n ds S g L := .mk fun a w hf hs =>
  wpList_plain rfl fun K hK => by
    unfold Oper.wp
    have h1 := hf.evs hx
    have h2 : a.eval y = .func (.func f) #[] caps.toArray := hf.ev hy
    have : (execOp a.eval ⟨none, .defer { callee := .value y, args := xs.toArray, argTypes := ats }, ty, pos, aft, none⟩).run P w = .ok (.defer ⟨.fn (.func f) caps.toArray, vs.toArray⟩) w := by
      simp [execOp, resolve, h2, Deferred.ofValue, h1]
    rw [this]
    exact hK _ _ (k.h _ w ⟨hf.size, by show _ :: a.defers = _; rw [hf.defers], hf.sl⟩ hs)
theorem TQ.endD_ret_none (hds : ds = []) (hr : fn.results = #[r1, r2]) (h1 : RVal P n ds S g L r1 v1) (h2 : RVal P n ds S g L r2 v2) (hg : g0.le g) (hR : R (.returned (.tuple #[v1, v2])) g L') (hL : Sel L' L) : TQ (EndD P fn R g0) .ret n ds S g L := .mk fun a w hf hs => by
  show Leaves P fn a.tmps _ a.defers .returning w
  rw [hf.defers, hds]
  exact ⟨_, by rw [results_eq, hr]; simp [h1.h a w hf hs, h2.h a w hf hs], g, L', hg, hR, hs.sel hL⟩
variable {h k : FuncId} {vs caps vs' caps' : List Value} {u' : FrameMode}
end
end Go.TL
namespace Go.Proofs.YthngolfabfijpaaGreatDoor
open Go.RowKit Go.TL
set_option maxRecDepth 100000

def stopUR (k : Nat) : PanicEntry := { v := .iface 69 (.agg #[.int .i64 (k : Nat)]), recovered := true }
theorem utail_idle (b c : Nat) (w : World) :
    CallsD Tryz.prog 33 #[.pointer (some ⟨b, 0, none⟩), .pointer (some ⟨c, 0, none⟩)] .returning w fun e u' w' => e = .returned (.tuple #[]) ∧ u' = .returning ∧ w' = w := by
  refine callsD_of_wpS Tryz.func33 rfl fun c₀ cs hu => ?_
  apply wpS_seq
  apply wpS_region
  simp [wpOpsS, go_sem, recoverD, hu, Tryz.ntmps33, Exit.thenS]
  refine wpS_of_wp ?_
  simp only [Array.replicate_succ, Array.replicate_zero, List.push_toArray, List.append_toArray, List.nil_append, List.cons_append, List.setIfInBounds_toArray, List.set_cons_succ, List.set_cons_zero]
  go_wp2
  cases c₀
  simp_all [bodyPostS, results, Tryz.results33]
set_option maxHeartbeats 4000000 in
theorem late_u_stop (b c k : Nat) (x y : Value) (g : Gh) (L : List Ent) : Late Tryz.prog 33 #[.pointer (some ⟨b, 0, none⟩), .pointer (some ⟨c, 0, none⟩)] (.panicking [stopU k]) (.panicking [stopUR k]) g (.obj b (.cells [x].toArray 20 (0, 0)) :: .obj c (.cells [y].toArray 23 (0, 0)) :: L) (.obj b (.cells [.nilIface].toArray 20 (0, 0)) :: .obj c (.cells [.int .i64 (k : Nat)].toArray 23 (0, 0)) :: L) :=
  ⟨fun w hs => by
    refine callsD_of_wpS Tryz.func33 rfl fun c₀ cs hu => ?_
    apply wpS_seq
    apply wpS_region
    simp [wpOpsS, go_sem, recoverD, hu, Tryz.ntmps33, Exit.thenS, stopU]
    refine wpS_of_wp ?_
    simp only [Array.replicate_succ, Array.replicate_zero, List.push_toArray, List.append_toArray, List.nil_append, List.cons_append, List.setIfInBounds_toArray, List.set_cons_succ, List.set_cons_zero]
    refine TC.h (n := 18) (ds := []) (S := [(2, .iface 69 (.agg #[.int .i64 (k : Nat)])), (0, .pointer (some ⟨b, 0, none⟩)), (1, .pointer (some ⟨c, 0, none⟩))]) (g := g) ?_ _ w ⟨rfl, rfl, fun i v h => ?_⟩ hs
    · repeat' (first
    | refine wkQ ?_
    | ((with_reducible apply TL.storeK); (· rfl); (· rfl); (· exact rfl); (· exact pkA); (· exact Nat.le_of_ble_eq_true rfl))
    | refine wkV ?_
    | refine wkN0 ?_
    | refine wkN1 ?_
    | refine wkN2 ?_
    | refine wkN3 ?_
    | refine wkN0 ?_
    | refine wkN1 ?_
    | refine wkN2 ?_
    | refine wkN3 ?_
    | ((with_reducible apply TA.oneN 0); (· rfl); (· rfl); (· decide +kernel); (· rfl))
    | ((with_reducible apply TA.oneN 1); (· rfl); (· rfl); (· decide +kernel); (· rfl))
    | ((with_reducible apply TA.oneN 2); (· rfl); (· rfl); (· decide +kernel); (· rfl))
    | ((with_reducible apply TA.oneN 3); (· rfl); (· rfl); (· decide +kernel); (· rfl))
    | refine TQ.any leF selF ?_
    | refine TC.region_any 4 ([.obj _ (.cells [.int .i64 (k : Nat)].toArray 69 (0, 0))]) (by kernel_rfl) rfl selF ?_ | refine TA.done (by decide +kernel) ?_ | refine TQ.any_panic ?_
    | refine stS ?_ | (refine stB ?_; intro _) | (refine stC ?_; refine And.intro (fun _ => ?_) (fun _ => ?_))
    | apply TC.region_draw (by kernel_rfl) (by kernel_rfl) | refine TW.nil ?_ | ((with_reducible apply TW.pure); (· exact yA); (· rfl)))
      refine .mk fun a w' hf hs' => ?_
      have h2 : St g (.obj b (.cells [.nilIface].toArray 20 (0, 0)) :: .obj c (.cells [.int .i64 (k : Nat)].toArray 23 (0, 0)) :: L) w' := hs'.sel selF
      simp [bodyPostS, results, Tryz.results33, stopUR]
      exact ⟨hf.defers, h2⟩
    · match i, h with
      | 0, h => exact Option.some.inj h
      | 1, h => exact Option.some.inj h
      | 2, h => exact Option.some.inj h
      | i + 3, h => cases h⟩
theorem late_u_idle (b c : Nat) (g : Gh) (L : List Ent) : Late Tryz.prog 33 #[.pointer (some ⟨b, 0, none⟩), .pointer (some ⟨c, 0, none⟩)] .returning .returning g L L :=
  ⟨fun w hs => by
    refine (utail_idle b c w).mono ?_
    rintro e u w' ⟨rfl, rfl, rfl⟩
    exact ⟨⟨_, rfl⟩, rfl, hs⟩⟩
end Go.Proofs.YthngolfabfijpaaGreatDoor
namespace Go.Proofs.YthngolfabfijpaaGreatDoor
open Go.RowKit Go.TL

section
variable {cmp : J → J → Int} {plus times : Int → Int → Int × Int}
theorem apply_none {d u : J} {e : Nat} (hp : ∀ a b, 0 ≤ (plus a b).2) (ht : ∀ a b, 0 ≤ (times a b).2) (h : applyU cmp plus times d u = (e, none)) : e ≠ 0 := by
  unfold applyU at h
  split at h
  · have := (Prod.mk.inj h).1; omega
  · rename_i hr
    split at h
    · have := (Prod.mk.inj h).1; omega
    · split at h
      · split at h
        · obtain ⟨ns, xs, e1, _, h2, _⟩ := right_obj (by simpa using hr)
          obtain ⟨rfl, rfl⟩ := J.obj.inj e1
          exact all_err hp ht _ _ h2 h
        · have := (Prod.mk.inj h).1; omega
      · have := (Prod.mk.inj h).1; omega
theorem apply_inv {d u z : J} {e m : Nat} (hm : 128 ≤ m) (ld : lenJ d) (zd : szJ m d) (lu : lenJ u) (zu : szJ m u) (h : applyU cmp plus times d u = (e, some z)) : e = 0 ∧ rightU u = true ∧ lookJ d 0 = 0 ∧ objJ d = true ∧ UInv (m + 200) z := by
  unfold applyU at h
  split at h
  · cases h
  · rename_i hr
    have hr : rightU u = true := by simpa using hr
    obtain ⟨ns, xs, rfl, _, _, h3⟩ := right_obj hr
    split at h
    · cases h
    · rename_i h0
      have h0 : lookJ d 0 = 0 := by omega
      rw [lenJ] at lu
      rw [szJ] at zu
      cases d with
      | obj a b =>
        obtain ⟨h4, h5⟩ := all_inv ns xs (⟨h0, ld, rfl, zd⟩ : UInv m (.obj a b)) hm lu.2 zu.2.2 h
        exact ⟨h4, hr, h0, rfl, h5.up (by omega)⟩
      | _ => cases h
end
end Go.Proofs.YthngolfabfijpaaGreatDoor
namespace Go.TL
open Go Go.RowKit Go.Proofs.YthngolfabfijpaaGreatDoor
section
variable {P : Program} {fn : Func} {t1 t2 : Array Value} {R : Ending → World → Prop}
theorem leaves_tmps (h : results fn t1 = results fn t2) : ∀ (ds : List Deferred) (u : FrameMode) (w : World), Leaves P fn t1 R ds u w → Leaves P fn t2 R ds u w
  | [], .returning, w, H => by unfold Leaves at H ⊢; rw [← h]; exact H
  | [], .panicking _, _, H => H
  | [], .run, _, H => H
  | d :: ds, u, w, H => by
    unfold Leaves at H ⊢
    obtain ⟨h1, fv, cap, f, args, h2, h3, H⟩ := H
    refine ⟨h1, fv, cap, f, args, h2, h3, H.mono ?_⟩
    intro e u' w' hh
    cases e with
    | returned v => exact leaves_tmps h ds _ _ hh
    | panicked c => exact leaves_tmps h ds _ _ hh
    | outgrown => exact hh
theorem getD_set_ne {t : Array Value} {d i : Nat} {v u : Value} (h : d ≠ i) : (t.setIfInBounds d v).getD i u = t.getD i u := by
  simp [Array.getD_eq_getD_getElem?, h]
theorem endD_put {R : Ending → Gh → List Ent → Prop} {g : Gh} {d p p' : Nat} {q q' : TypeId} {v : Value} (hr : fn.results = #[.cell p q, .cell p' q']) (h1 : d ≠ p) (h2 : d ≠ p') {c : List PanicEntry} {a : Act} {w : World} (h : EndD P fn R g (.panic c) (a.put (some d) v) w) : EndD P fn R g (.panic c) a w :=
  leaves_tmps (t1 := (a.put (some d) v).tmps) (by
    rw [results_eq, results_eq, hr]
    simp [rvS, Act.put, getD_set_ne h1, getD_set_ne h2]) _ _ _ h
end
end Go.TL
