/-
  Two deferred calls, one of them of a function's value. What Parse leaves to be done last. Bodies with deferred calls: a slot that no result reads does not matter. The walk of Parse.
-/
import Derived.Test.YtfmadoeadmclbaaGreatDoorHr8
import Derived.Test.YtfmadoeadmclbaaGreatDoorHr43
import Derived.Test.YtfmadoeadmclbaaGreatDoorHr2
import Derived.Test.YtfmadoeadmclbaaGreatDoorHr38
namespace Go.TL
open Go Go.RowKit Go.Proofs.YtfmadoeadmclbaaGreatDoor
section
variable {P : Program} {ops : Array Oper} {Q : Exit → Act → World → Prop} {rest : List Oper} {n : Nat} {ds : List Deferred} {S : Slots} {g g0 : Gh} {L L' L1 L2 L3 : List Ent} {f : FuncId} {fn : Func} {R : Ending → Gh → List Ent → Prop}
variable {ty : TypeId} {pos : String} {aft : Array Edge} {y : Operand} {r1 r2 : ResultVar} {v v1 v2 : Value} {c : List PanicEntry}
theorem TQ.only {c : Exit} (L' : List Ent) (hL : Sel L' L) (h : TQ Q c n ds S g L') : TQ Q c n ds S g L := .mk fun a w hf hs => h.h a w hf (hs.sel hL)
theorem TL.defer_v {xs : List Operand} {vs caps : List Value} {ats : Array TypeId} (hy : ev S y = some (.func (.func f) #[] caps.toArray)) (hx : evs S xs = some vs) (k : TL P ops Q rest n (⟨.fn (.func f) caps.toArray, vs.toArray⟩ :: ds) S g L) : TL P ops Q (⟨none, .defer { callee := .value y, args := xs.toArray, argTypes := ats }, ty, pos, aft, none⟩ :: rest) n ds S g L := .mk fun a w hf hs =>
  wpList_plain rfl fun K hK => by
    unfold Oper.wp
    have h1 := hf.evs hx
    have h2 : a.eval y = .func (.func f) #[] caps.toArray := hf.ev hy
    have : (execOp a.eval ⟨none, .defer { callee := .value y, args := xs.toArray, argTypes := ats }, ty, pos, aft, none⟩).run P w = .ok (.defer ⟨.fn (.func f) caps.toArray, vs.toArray⟩) w := by
      simp [execOp, resolve, h2, Deferred.ofValue, h1]
    rw [this]
    exact hK _ _ (k.h _ w ⟨hf.size, by show _ :: a.defers = _; rw [hf.defers], hf.sl⟩ hs)
theorem endD_leaves_two {u u' : FrameMode} {h k : FuncId} {vs caps vs' caps' : List Value} {a : Act} {w : World} (hds : ds = [⟨.fn (.func h) caps.toArray, vs.toArray⟩, ⟨.fn (.func k) caps'.toArray, vs'.toArray⟩]) (hu : u ≠ .run) (hc : callable P h = true) (hk : callable P k = true) (hC : Late P h (vs ++ caps).toArray u u' g L1 L2) (hset : settle u' = .returning) (hK : Late P k (vs' ++ caps').toArray .returning .returning g L2 L3)
    (hv : ∀ w, St g L3 w → (results fn a.tmps).run P w = .ok v w) (hg : g0.le g) (hR : R (.returned v) g L') (hL1 : L1.Perm L) (hL : Sel L' L3) (hf : Fr n ds S a) (hs : St g L w) :
    Leaves P fn a.tmps (fun e w' => ∃ g' L', g0.le g' ∧ R e g' L' ∧ St g' L' w') a.defers u w := by
  rw [hf.defers, hds]
  refine leaves_cons (f := h) (args := (vs ++ caps).toArray) hu (by simp [invoke, callFunc_run hc]) ?_
  refine (hC.h w (hs.perm hL1)).mono ?_
  rintro e u1 w' ⟨⟨v0, rfl⟩, rfl, hs'⟩
  dsimp only
  rw [hset]
  refine leaves_cons (f := k) (args := (vs' ++ caps').toArray) (by simp) (by simp [invoke, callFunc_run hk]) ?_
  refine (hK.h w' hs').mono ?_
  rintro e u2 w2 ⟨⟨v0, rfl⟩, rfl, hs2⟩
  show Leaves P fn a.tmps _ [] (settle .returning) w2
  exact ⟨v, hv w2 hs2, g, L', hg, hR, hs2.sel hL⟩
theorem TQ.endD_ret_none (hds : ds = []) (hr : fn.results = #[r1, r2]) (h1 : RVal P n ds S g L r1 v1) (h2 : RVal P n ds S g L r2 v2) (hg : g0.le g) (hR : R (.returned (.tuple #[v1, v2])) g L') (hL : Sel L' L) : TQ (EndD P fn R g0) .ret n ds S g L := .mk fun a w hf hs => by
  show Leaves P fn a.tmps _ a.defers .returning w
  rw [hf.defers, hds]
  exact ⟨_, by rw [results_eq, hr]; simp [h1.h a w hf hs, h2.h a w hf hs], g, L', hg, hR, hs.sel hL⟩
variable {h k : FuncId} {vs caps vs' caps' : List Value} {u' : FrameMode}
theorem TQ.endD_ret_two (hC : Late P h (vs ++ caps).toArray .returning .returning g L1 L2) (hK : Late P k (vs' ++ caps').toArray .returning .returning g L2 L3) (hds : ds = [⟨.fn (.func h) caps.toArray, vs.toArray⟩, ⟨.fn (.func k) caps'.toArray, vs'.toArray⟩]) (hc : callable P h = true) (hk : callable P k = true) (hr : fn.results = #[r1, r2]) (h1 : RVal P n ds S g L3 r1 v1) (h2 : RVal P n ds S g L3 r2 v2) (hg : g0.le g) (hR : R (.returned (.tuple #[v1, v2])) g L') (hL1 : L1.Perm L) (hL : Sel L' L3) : TQ (EndD P fn R g0) .ret n ds S g L := .mk fun a w hf hs =>
  endD_leaves_two hds (by simp) hc hk hC rfl hK (fun w' hs' => by rw [results_eq, hr]; simp [h1.h a w' hf hs', h2.h a w' hf hs']) hg hR hL1 hL hf hs
theorem TQ.endD_panic_two (hC : Late P h (vs ++ caps).toArray (.panicking c) u' g L1 L2) (hset : settle u' = .returning) (hK : Late P k (vs' ++ caps').toArray .returning .returning g L2 L3) (hds : ds = [⟨.fn (.func h) caps.toArray, vs.toArray⟩, ⟨.fn (.func k) caps'.toArray, vs'.toArray⟩]) (hc : callable P h = true) (hk : callable P k = true) (hr : fn.results = #[r1, r2]) (h1 : RVal P n ds S g L3 r1 v1) (h2 : RVal P n ds S g L3 r2 v2) (hg : g0.le g) (hR : R (.returned (.tuple #[v1, v2])) g L') (hL1 : L1.Perm L) (hL : Sel L' L3) : TQ (EndD P fn R g0) (.panic c) n ds S g L := .mk fun a w hf hs =>
  endD_leaves_two hds (by simp) hc hk hC hset hK (fun w' hs' => by rw [results_eq, hr]; simp [h1.h a w' hf hs', h2.h a w' hf hs']) hg hR hL1 hL hf hs
end
end Go.TL
namespace Go.Proofs.YtfmadoeadmclbaaGreatDoor
open Go.RowKit Go.TL
set_option maxRecDepth 100000

set_option maxHeartbeats 1000000 in
theorem tail_zero (b c : Nat) (w : World) (h2 : w.cell? ⟨b, 0, none⟩ = some (.int .i64 0)) (_l2 : b < w.heap.size) :
    CallsD Tryz.prog 25 #[.pointer (some ⟨b, 0, none⟩), .pointer (some ⟨c, 0, none⟩)] .returning w fun e u' w' => e = .returned (.tuple #[]) ∧ u' = .returning ∧ w' = w := by
  refine callsD_of_wpS Tryz.func25 rfl fun c₀ cs hu => ?_
  refine wpS_of_wp ?_
  simp [Tryz.ntmps25]
  go_wp2
  cases c₀
  simp_all [bodyPostS, results, Tryz.results25]
set_option maxHeartbeats 1000000 in
theorem tail_stop (b c k : Nat) (hk : k ≠ 0) (x : Value) (w : World) (h2 : w.cell? ⟨b, 0, none⟩ = some (.int .i64 (k : Nat))) (_l2 : b < w.heap.size) (h3 : w.cell? ⟨c, 0, none⟩ = some x) (z3 : w.frozen? ⟨c, 0, none⟩ = false) (_l3 : c < w.heap.size) :
    CallsD Tryz.prog 25 #[.pointer (some ⟨b, 0, none⟩), .pointer (some ⟨c, 0, none⟩)] .returning w fun e u' w' => e = .returned (.tuple #[]) ∧ u' = .returning ∧ w' = w.setCell ⟨c, 0, none⟩ .nilIface := by
  refine callsD_of_wpS Tryz.func25 rfl fun c₀ cs hu => ?_
  refine wpS_of_wp ?_
  simp [Tryz.ntmps25]
  go_wp2
  cases c₀
  simp_all [bodyPostS, results, Tryz.results25]
theorem late_zero (b c : Nat) (g : Gh) (L : List Ent) : Late Tryz.prog 25 #[.pointer (some ⟨b, 0, none⟩), .pointer (some ⟨c, 0, none⟩)] .returning .returning g (.obj b (.cells [.int .i64 0].toArray 23 (0, 0)) :: L) (.obj b (.cells [.int .i64 0].toArray 23 (0, 0)) :: L) :=
  ⟨fun w hs => by
    have h := hs.st _ List.mem_cons_self
    have hl : b < w.heap.size := hs.lt b (by simp [fps, Ent.fp])
    refine (tail_zero b c w (obj_cell h 0) hl).mono ?_
    rintro e u w' ⟨rfl, rfl, rfl⟩
    exact ⟨⟨_, rfl⟩, rfl, hs⟩⟩
theorem late_tail (b c k : Nat) (hk : k ≠ 0) (x : Value) (g : Gh) (L : List Ent) : Late Tryz.prog 25 #[.pointer (some ⟨b, 0, none⟩), .pointer (some ⟨c, 0, none⟩)] .returning .returning g (.obj c (.cells [x].toArray 20 (0, 0)) :: .obj b (.cells [.int .i64 (k : Nat)].toArray 23 (0, 0)) :: L) (.obj c (.cells [.nilIface].toArray 20 (0, 0)) :: .obj b (.cells [.int .i64 (k : Nat)].toArray 23 (0, 0)) :: L) :=
  ⟨fun w hs => by
    have h := hs.st _ (List.mem_cons_of_mem _ List.mem_cons_self)
    have h' := hs.st _ List.mem_cons_self
    have hl : b < w.heap.size := hs.lt b (by simp [fps, Ent.fp])
    have hl' : c < w.heap.size := hs.lt c (by simp [fps, Ent.fp])
    refine (tail_stop b c k hk x w (obj_cell h 0) hl (obj_cell h' 0) (obj_frozen h' 0) hl').mono ?_
    rintro e u w' ⟨rfl, rfl, rfl⟩
    exact ⟨⟨_, rfl⟩, rfl, hs.set _ 0⟩⟩
end Go.Proofs.YtfmadoeadmclbaaGreatDoor
namespace Go.TL
open Go Go.RowKit Go.Proofs.YtfmadoeadmclbaaGreatDoor
section
variable {P : Program} {fn : Func} {t1 t2 : Array Value} {R : Ending → World → Prop}
theorem leaves_tmps (h : results fn t1 = results fn t2) : ∀ (ds : List Deferred) (u : FrameMode) (w : World), Leaves P fn t1 R ds u w → Leaves P fn t2 R ds u w
  | [], .returning, w, H => by unfold Leaves at H ⊢; rw [← h]; exact H
  | [], .panicking _, _, H => H
  | [], .run, _, H => H
  | d :: ds, u, w, H => by
    unfold Leaves at H ⊢
    obtain ⟨h1, fv, cap, f, args, h2, h3, H⟩ := H
    refine ⟨h1, fv, cap, f, args, h2, h3, H.mono ?_⟩
    intro e u' w' hh
    cases e with
    | returned v => exact leaves_tmps h ds _ _ hh
    | panicked c => exact leaves_tmps h ds _ _ hh
    | outgrown => exact hh
theorem getD_set_ne {t : Array Value} {d i : Nat} {v u : Value} (h : d ≠ i) : (t.setIfInBounds d v).getD i u = t.getD i u := by
  simp [Array.getD_eq_getD_getElem?, h]
theorem endD_put {R : Ending → Gh → List Ent → Prop} {g : Gh} {d p p' : Nat} {q q' : TypeId} {v : Value} (hr : fn.results = #[.cell p q, .cell p' q']) (h1 : d ≠ p) (h2 : d ≠ p') {c : List PanicEntry} {a : Act} {w : World} (h : EndD P fn R g (.panic c) (a.put (some d) v) w) : EndD P fn R g (.panic c) a w :=
  leaves_tmps (t1 := (a.put (some d) v).tmps) (by
    rw [results_eq, results_eq, hr]
    simp [rvS, Act.put, getD_set_ne h1, getD_set_ne h2]) _ _ _ h
end
end Go.TL
namespace Go.Proofs.YtfmadoeadmclbaaGreatDoor
open Go.RowKit Go.TL
set_option maxRecDepth 100000

theorem late_tail' (b c k : Nat) (hk : k ≠ 0) (x : Value) (g : Gh) (L : List Ent) : Late Tryz.prog 25 #[.pointer (some ⟨b, 0, none⟩), .pointer (some ⟨c, 0, none⟩)] .returning .returning g (.obj b (.cells [.int .i64 (k : Nat)].toArray 23 (0, 0)) :: .obj c (.cells [x].toArray 20 (0, 0)) :: L) (.obj c (.cells [.nilIface].toArray 20 (0, 0)) :: .obj b (.cells [.int .i64 (k : Nat)].toArray 23 (0, 0)) :: L) :=
  ⟨fun w hs => (late_tail b c k hk x g L).h w (hs.perm (List.Perm.swap ..))⟩
def ParseR (o : Except Nat J) (L : List Ent) : Ending → Gh → List Ent → Prop := fun e g' L1 => L1 = L ∧ match o with
    | .ok x => ∃ v, e = .returned (.tuple #[v, .int .i64 0]) ∧ IsJ g' x v
    | .error k => e = .returned (.tuple #[.nilIface, .int .i64 (k : Nat)])
set_option maxHeartbeats 16000000 in
theorem jParse_does (s : List UInt8) (ao : Option Addr) (n cap : Nat) (g : Gh) (L : List Ent) (hS : Sl g (.slice ao n cap) n 1 (byteVals s)) (hn : s.length = n) (hU : GU8 g) : Does Tryz.prog 8 #[.slice ao n cap] g L (ParseR (jparse s) L) := by
  refine Does.ofD1 Tryz.func8 rfl Tryz.ntmps8 rfl ?_
  subst hn
  unfold jparse
  by_cases hlt : 65536 < s.length
  · rw [if_pos hlt]
    have HL : Hn ((65536 : Int) < (s.length : Nat)) := ⟨by omega⟩
    repeat' (first
    | refine wkQ ?_
    | ((with_reducible apply TL.pure (d := 7) (v := .bool true)); (· exact Y.gtr_b (decide_eq_true HL.out) rfl rfl); (· rfl)) | ((with_reducible apply TW.pure (d := 7) (v := .bool true)); (· exact Y.gtr_b (decide_eq_true HL.out) rfl rfl); (· rfl))
    | refine wkV ?_
    | refine stS ?_ | (refine stB ?_; intro _) | (refine stC ?_; refine And.intro (fun _ => ?_) (fun _ => ?_)))
    refine TQ.endD_ret_none (L' := L) rfl Tryz.results8 rvA rvA (.refl _) ?_ selF
    exact ⟨rfl, rfl⟩
  rw [if_neg hlt]
  have HL : Hn (¬ (65536 : Int) < (s.length : Nat)) := ⟨by omega⟩
  have VV : ∀ b L, Does Tryz.prog 27 #[.pointer (some ⟨b, 0, none⟩), .int .i64 0] g (.obj b (.cells ([.string ⟨#[]⟩, .int .i64 0].set 0 (.string ⟨s.toArray⟩)).toArray 58 (0, 0)) :: L) (RdR (valT 32 s) b s L) := fun b L => jvalue_does b s (by omega) 32 (Nat.le_refl _) 0 g L (Nat.zero_le _) hU
  cases hv : valT 32 s with
  | error k =>
    rw [hv] at VV
    unfold RdR at VV
    dsimp only at VV ⊢
    have hk : k ≠ 0 := valT_err _ _ _ hv
    repeat' (first
    | refine wkQ ?_
    | ((with_reducible apply TL.pure (d := 7) (v := .bool false)); (· exact Y.gtr_b (decide_eq_false HL.out) rfl rfl); (· rfl)) | ((with_reducible apply TW.pure (d := 7) (v := .bool false)); (· exact Y.gtr_b (decide_eq_false HL.out) rfl rfl); (· rfl))
    | ((with_reducible apply TL.pure); (· exact Y.bytes_row rfl pkA); (· rfl)) | ((with_reducible apply TL.pure); (· exact Y.bytes_src rfl (Src.sl (by assumption)) rfl); (· rfl)) | ((with_reducible apply TW.pure); (· exact Y.bytes_row rfl pkA); (· rfl)) | ((with_reducible apply TW.pure); (· exact Y.bytes_src rfl (Src.sl (by assumption)) rfl); (· rfl))
      | refine TL.defer_v (by rfl) (by rfl) ?_
      | refine TL.defer (by rfl) ?_
      
    | ((with_reducible apply TL.pure); (· exact yV); (· rfl)) | ((with_reducible apply TW.pure); (· exact yV); (· rfl))
    | (refine TL.call (Enters.plain (by kernel_rfl) (by rfl)) (by rfl) (Does.perm (VV _ _) permF) ?_; (rintro e g1 Ln hg1 ⟨k1, k3⟩; subst k1; subst k3; refine CallK.panic ?_))
    | ((with_reducible apply TL.pure); (· exact yA); (· rfl))
    | refine TC.seq ?_ | refine TC.region ?_ | refine TL.nil ?_ | refine TQ.then_normal ?_
    | ((with_reducible apply TL.storeE); (· rfl); (· rfl); (· rfl); (· exact pkA); (· infer_instance)) | ((with_reducible apply TL.store_whole); (· rfl); (· rfl); (· exact oneA); (· rfl); (· exact pkA); (· rfl))
    | refine TC.block ?_ | refine TC.ret ?_ | refine TC.skip ?_ | refine TC.exit ?_ | refine TC.cond rfl ?_
    | refine TQ.down ?_ | refine TQ.in_exit' rfl ?_
    | refine TL.guard_yes rfl rfl ?_ | refine TL.guard_no rfl rfl rfl rfl ?_ | refine TL.guard_no0 rfl rfl rfl ?_ | refine TL.guard_undef rfl rfl rfl ?_ | refine TL.guard_undef0 rfl rfl ?_ | refine TL.guard rfl rfl rfl ?_
    | refine Br.t rfl ?_ | refine Br.f rfl ?_ | refine Br.ky kpA ?_ | refine Br.kn kpA ?_ | refine Br.nky kpA ?_ | refine Br.nkn kpA ?_
    | refine Br.eq0 (fun _ => ?_) (fun _ => ?_) | refine Br.neq0 (fun _ => ?_) (fun _ => ?_) | refine Br.eq (fun _ => ?_) (fun _ => ?_) | refine Br.neq (fun _ => ?_) (fun _ => ?_) | refine Br.not (fun _ => ?_) (fun _ => ?_) | refine Br.dec (fun _ => ?_) (fun _ => ?_) | refine Br.bool (fun _ => ?_) (fun _ => ?_)
    | ((with_reducible apply TL.alloc_ag); (· rfl); intro _) | ((with_reducible apply TL.alloc_sc); (· rfl); (· rfl); intro _) | ((with_reducible apply TL.box_ag); (· rfl); (· rfl); intro _) | ((with_reducible apply TL.box_sc); (· rfl); (· rfl); (· rfl); intro _))
    rename_i b2 b3 b1
    refine TQ.endD_panic_two (L' := L) (vs := [.pointer (some ⟨b3, 0, none⟩)]) (caps := []) (vs' := []) (caps' := [.pointer (some ⟨b3, 0, none⟩), .pointer (some ⟨b2, 0, none⟩)]) (late_stop b3 k _ g1 _) rfl (late_tail' b3 b2 k (hk) _ g1 L) rfl (by kernel_rfl) (by kernel_rfl) Tryz.results8 rvA rvA (hg1) ?_ (.refl _) selF
    exact ⟨rfl, rfl⟩
  | ok p =>
    obtain ⟨x, r⟩ := p
    rw [hv] at VV
    unfold RdR at VV
    dsimp only at VV ⊢
    have BB := fun b iv (h : iv ≤ s.length) g1 L => jblanks_turns b s iv g1 L h (by omega)
    by_cases hr : blL r = []
    · rw [if_pos hr]
      have YE := fun iv (h : decide (((blAt s iv : Nat) : Int) = (s.length : Nat)) = true) g1 L => need_yes (b := decide (((blAt s iv : Nat) : Int) = (s.length : Nat))) h 11 g1 L
      repeat' (first
    | refine wkQ ?_
    | ((with_reducible apply TL.pure (d := 7) (v := .bool false)); (· exact Y.gtr_b (decide_eq_false HL.out) rfl rfl); (· rfl)) | ((with_reducible apply TW.pure (d := 7) (v := .bool false)); (· exact Y.gtr_b (decide_eq_false HL.out) rfl rfl); (· rfl))
    | ((with_reducible apply TL.pure); (· exact Y.bytes_row rfl pkA); (· rfl)) | ((with_reducible apply TL.pure); (· exact Y.bytes_src rfl (Src.sl (by assumption)) rfl); (· rfl)) | ((with_reducible apply TW.pure); (· exact Y.bytes_row rfl pkA); (· rfl)) | ((with_reducible apply TW.pure); (· exact Y.bytes_src rfl (Src.sl (by assumption)) rfl); (· rfl))
      | refine TL.defer_v (by rfl) (by rfl) ?_
      | refine TL.defer (by rfl) ?_
      
    | ((with_reducible apply TL.pure); (· exact yV); (· rfl)) | ((with_reducible apply TW.pure); (· exact yV); (· rfl))
    | (refine TL.call (Enters.plain (by kernel_rfl) (by rfl)) (by rfl) (Does.perm (VV _ _) permF) ?_; (rintro e g1 Ln hg1 ⟨vv, iv, k1, k3, hiv, hrv, hjv⟩; subst k1; subst k3; have hov := hjv.one; have HE := Hn.mk (show decide (((blAt s iv : Nat) : Int) = (s.length : Nat)) = true by
        have h1 := congrArg List.length ((blAt_drop s iv).trans (hrv ▸ hr)); rw [List.length_drop, List.length_nil] at h1; have h2 := (blAt_bd s iv hiv).2; rw [decide_eq_true_iff]; omega); refine CallK.ret ?_))
    | ((with_reducible apply TL.storeE); (· rfl); (· rfl); (· assumption); (· exact pkA); (· infer_instance))
    | apply TL.turns (Enters.plain (by kernel_rfl) (by rfl)) (BB _ iv hiv _ _) permF (by rfl)
    | refine TL.gives (Enters.plain (by kernel_rfl) (by rfl)) (Gives.perm (YE iv HE.out _ _) permF) (by rfl) ?_
    | ((with_reducible apply TA.takeN 0); (· rfl); (· decide +kernel); (· rfl); (· (first | exact yQ | exact yA | exact yB | exact yM | exact yV)); (· decide +kernel); (· decide +kernel); (· rfl); (· exact fun _ _ _ h => endD_put Tryz.results8 (by decide) (by decide) h); (· rfl))
    | ((with_reducible apply TA.takeN 1); (· rfl); (· decide +kernel); (· rfl); (· (first | exact yQ | exact yA | exact yB | exact yM | exact yV)); (· decide +kernel); (· decide +kernel); (· rfl); (· exact fun _ _ _ h => endD_put Tryz.results8 (by decide) (by decide) h); (· rfl))
    | ((with_reducible apply TA.takeN 2); (· rfl); (· decide +kernel); (· rfl); (· (first | exact yQ | exact yA | exact yB | exact yM | exact yV)); (· decide +kernel); (· decide +kernel); (· rfl); (· exact fun _ _ _ h => endD_put Tryz.results8 (by decide) (by decide) h); (· rfl))
    | ((with_reducible apply TA.takeN 3); (· rfl); (· decide +kernel); (· rfl); (· (first | exact yQ | exact yA | exact yB | exact yM | exact yV)); (· decide +kernel); (· decide +kernel); (· rfl); (· exact fun _ _ _ h => endD_put Tryz.results8 (by decide) (by decide) h); (· rfl))
    | ((with_reducible apply TA.takeN 0); (· rfl); (· decide +kernel); (· rfl); (· (first | exact yQ | exact yA | exact yB | exact yM | exact yV)); (· decide +kernel); (· decide +kernel); (· rfl); (· exact fun _ _ _ h => h); (· rfl))
    | ((with_reducible apply TA.takeN 1); (· rfl); (· decide +kernel); (· rfl); (· (first | exact yQ | exact yA | exact yB | exact yM | exact yV)); (· decide +kernel); (· decide +kernel); (· rfl); (· exact fun _ _ _ h => h); (· rfl))
    | ((with_reducible apply TA.takeN 2); (· rfl); (· decide +kernel); (· rfl); (· (first | exact yQ | exact yA | exact yB | exact yM | exact yV)); (· decide +kernel); (· decide +kernel); (· rfl); (· exact fun _ _ _ h => h); (· rfl))
    | ((with_reducible apply TA.takeN 3); (· rfl); (· decide +kernel); (· rfl); (· (first | exact yQ | exact yA | exact yB | exact yM | exact yV)); (· decide +kernel); (· decide +kernel); (· rfl); (· exact fun _ _ _ h => h); (· rfl))
    | ((with_reducible apply TA.oneN 0); (· rfl); (· rfl); (· decide +kernel); (· rfl))
    | ((with_reducible apply TA.oneN 1); (· rfl); (· rfl); (· decide +kernel); (· rfl))
    | ((with_reducible apply TA.oneN 2); (· rfl); (· rfl); (· decide +kernel); (· rfl))
    | ((with_reducible apply TA.oneN 3); (· rfl); (· rfl); (· decide +kernel); (· rfl))
    | refine TQ.any leF selF ?_
    | refine TC.region_any 11 (_) (by kernel_rfl) rfl selF ?_ | refine TA.done (by decide +kernel) ?_ | refine TQ.any_panic ?_
    | ((with_reducible apply TL.pure); (· exact yA); (· rfl))
    | refine TC.seq ?_ | refine TC.region ?_ | refine TL.nil ?_ | refine TQ.then_normal ?_
    | ((with_reducible apply TL.storeE); (· rfl); (· rfl); (· rfl); (· exact pkA); (· infer_instance)) | ((with_reducible apply TL.store_whole); (· rfl); (· rfl); (· exact oneA); (· rfl); (· exact pkA); (· rfl))
    | refine TC.block ?_ | refine TC.ret ?_ | refine TC.skip ?_ | refine TC.exit ?_ | refine TC.cond rfl ?_
    | refine TQ.down ?_ | refine TQ.in_exit' rfl ?_
    | refine TL.guard_yes rfl rfl ?_ | refine TL.guard_no rfl rfl rfl rfl ?_ | refine TL.guard_no0 rfl rfl rfl ?_ | refine TL.guard_undef rfl rfl rfl ?_ | refine TL.guard_undef0 rfl rfl ?_ | refine TL.guard rfl rfl rfl ?_
    | refine Br.t rfl ?_ | refine Br.f rfl ?_ | refine Br.ky kpA ?_ | refine Br.kn kpA ?_ | refine Br.nky kpA ?_ | refine Br.nkn kpA ?_
    | refine Br.eq0 (fun _ => ?_) (fun _ => ?_) | refine Br.neq0 (fun _ => ?_) (fun _ => ?_) | refine Br.eq (fun _ => ?_) (fun _ => ?_) | refine Br.neq (fun _ => ?_) (fun _ => ?_) | refine Br.not (fun _ => ?_) (fun _ => ?_) | refine Br.dec (fun _ => ?_) (fun _ => ?_) | refine Br.bool (fun _ => ?_) (fun _ => ?_)
    | ((with_reducible apply TL.alloc_ag); (· rfl); intro _) | ((with_reducible apply TL.alloc_sc); (· rfl); (· rfl); intro _) | ((with_reducible apply TL.box_ag); (· rfl); (· rfl); intro _) | ((with_reducible apply TL.box_sc); (· rfl); (· rfl); (· rfl); intro _))
      rename_i b2 b3 b1
      refine TQ.only (.obj b3 (.cells [.int .i64 0].toArray 23 (0, 0)) :: .obj b2 (.cells [vv].toArray 20 (0, 0)) :: L) selF ?_
      refine TQ.endD_ret_two (L' := L) (vs := [.pointer (some ⟨b3, 0, none⟩)]) (caps := []) (vs' := []) (caps' := [.pointer (some ⟨b3, 0, none⟩), .pointer (some ⟨b2, 0, none⟩)]) (late_idle b3 g1 _) (late_zero b3 b2 g1 (.obj b2 (.cells [vv].toArray 20 (0, 0)) :: L)) rfl (by kernel_rfl) (by kernel_rfl) Tryz.results8 rvA rvA hg1 ?_ (.refl _) selF
      exact ⟨rfl, _, rfl, hjv⟩
    · rw [if_neg hr]
      have NO := fun iv (h : decide (((blAt s iv : Nat) : Int) = (s.length : Nat)) = false) g1 L => need_no (b := decide (((blAt s iv : Nat) : Int) = (s.length : Nat))) h 11 g1 L
      repeat' (first
    | refine wkQ ?_
    | ((with_reducible apply TL.pure (d := 7) (v := .bool false)); (· exact Y.gtr_b (decide_eq_false HL.out) rfl rfl); (· rfl)) | ((with_reducible apply TW.pure (d := 7) (v := .bool false)); (· exact Y.gtr_b (decide_eq_false HL.out) rfl rfl); (· rfl))
    | ((with_reducible apply TL.pure); (· exact Y.bytes_row rfl pkA); (· rfl)) | ((with_reducible apply TL.pure); (· exact Y.bytes_src rfl (Src.sl (by assumption)) rfl); (· rfl)) | ((with_reducible apply TW.pure); (· exact Y.bytes_row rfl pkA); (· rfl)) | ((with_reducible apply TW.pure); (· exact Y.bytes_src rfl (Src.sl (by assumption)) rfl); (· rfl))
      | refine TL.defer_v (by rfl) (by rfl) ?_
      | refine TL.defer (by rfl) ?_
      
    | ((with_reducible apply TL.pure); (· exact yV); (· rfl)) | ((with_reducible apply TW.pure); (· exact yV); (· rfl))
    | (refine TL.call (Enters.plain (by kernel_rfl) (by rfl)) (by rfl) (Does.perm (VV _ _) permF) ?_; (rintro e g1 Ln hg1 ⟨vv, iv, k1, k3, hiv, hrv, hjv⟩; subst k1; subst k3; have hov := hjv.one; have HE := Hn.mk (show decide (((blAt s iv : Nat) : Int) = (s.length : Nat)) = false by
        have h1 := (blAt_drop s iv).trans (congrArg blL hrv); rw [decide_eq_false_iff_not]; intro e; apply hr; rw [← h1]; exact List.drop_eq_nil_of_le (by omega)); refine CallK.ret ?_))
    | ((with_reducible apply TL.storeE); (· rfl); (· rfl); (· assumption); (· exact pkA); (· infer_instance))
    | apply TL.turns (Enters.plain (by kernel_rfl) (by rfl)) (BB _ iv hiv _ _) permF (by rfl)
    | refine TL.throws (Enters.plain (by kernel_rfl) (by rfl)) (Throws.perm (NO iv HE.out _ _) permF) (by rfl) ?_
    | ((with_reducible apply TA.takeN 0); (· rfl); (· decide +kernel); (· rfl); (· (first | exact yQ | exact yA | exact yB | exact yM | exact yV)); (· decide +kernel); (· decide +kernel); (· rfl); (· exact fun _ _ _ h => endD_put Tryz.results8 (by decide) (by decide) h); (· rfl))
    | ((with_reducible apply TA.takeN 1); (· rfl); (· decide +kernel); (· rfl); (· (first | exact yQ | exact yA | exact yB | exact yM | exact yV)); (· decide +kernel); (· decide +kernel); (· rfl); (· exact fun _ _ _ h => endD_put Tryz.results8 (by decide) (by decide) h); (· rfl))
    | ((with_reducible apply TA.takeN 2); (· rfl); (· decide +kernel); (· rfl); (· (first | exact yQ | exact yA | exact yB | exact yM | exact yV)); (· decide +kernel); (· decide +kernel); (· rfl); (· exact fun _ _ _ h => endD_put Tryz.results8 (by decide) (by decide) h); (· rfl))
    | ((with_reducible apply TA.takeN 3); (· rfl); (· decide +kernel); (· rfl); (· (first | exact yQ | exact yA | exact yB | exact yM | exact yV)); (· decide +kernel); (· decide +kernel); (· rfl); (· exact fun _ _ _ h => endD_put Tryz.results8 (by decide) (by decide) h); (· rfl))
    | ((with_reducible apply TA.takeN 0); (· rfl); (· decide +kernel); (· rfl); (· (first | exact yQ | exact yA | exact yB | exact yM | exact yV)); (· decide +kernel); (· decide +kernel); (· rfl); (· exact fun _ _ _ h => h); (· rfl))
    | ((with_reducible apply TA.takeN 1); (· rfl); (· decide +kernel); (· rfl); (· (first | exact yQ | exact yA | exact yB | exact yM | exact yV)); (· decide +kernel); (· decide +kernel); (· rfl); (· exact fun _ _ _ h => h); (· rfl))
    | ((with_reducible apply TA.takeN 2); (· rfl); (· decide +kernel); (· rfl); (· (first | exact yQ | exact yA | exact yB | exact yM | exact yV)); (· decide +kernel); (· decide +kernel); (· rfl); (· exact fun _ _ _ h => h); (· rfl))
    | ((with_reducible apply TA.takeN 3); (· rfl); (· decide +kernel); (· rfl); (· (first | exact yQ | exact yA | exact yB | exact yM | exact yV)); (· decide +kernel); (· decide +kernel); (· rfl); (· exact fun _ _ _ h => h); (· rfl))
    | ((with_reducible apply TA.oneN 0); (· rfl); (· rfl); (· decide +kernel); (· rfl))
    | ((with_reducible apply TA.oneN 1); (· rfl); (· rfl); (· decide +kernel); (· rfl))
    | ((with_reducible apply TA.oneN 2); (· rfl); (· rfl); (· decide +kernel); (· rfl))
    | ((with_reducible apply TA.oneN 3); (· rfl); (· rfl); (· decide +kernel); (· rfl))
    | refine TQ.any leF selF ?_
    | refine TC.region_any 11 (_) (by kernel_rfl) rfl selF ?_ | refine TA.done (by decide +kernel) ?_ | refine TQ.any_panic ?_
    | ((with_reducible apply TL.pure); (· exact yA); (· rfl))
    | refine TC.seq ?_ | refine TC.region ?_ | refine TL.nil ?_ | refine TQ.then_normal ?_
    | ((with_reducible apply TL.storeE); (· rfl); (· rfl); (· rfl); (· exact pkA); (· infer_instance)) | ((with_reducible apply TL.store_whole); (· rfl); (· rfl); (· exact oneA); (· rfl); (· exact pkA); (· rfl))
    | refine TC.block ?_ | refine TC.ret ?_ | refine TC.skip ?_ | refine TC.exit ?_ | refine TC.cond rfl ?_
    | refine TQ.down ?_ | refine TQ.in_exit' rfl ?_
    | refine TL.guard_yes rfl rfl ?_ | refine TL.guard_no rfl rfl rfl rfl ?_ | refine TL.guard_no0 rfl rfl rfl ?_ | refine TL.guard_undef rfl rfl rfl ?_ | refine TL.guard_undef0 rfl rfl ?_ | refine TL.guard rfl rfl rfl ?_
    | refine Br.t rfl ?_ | refine Br.f rfl ?_ | refine Br.ky kpA ?_ | refine Br.kn kpA ?_ | refine Br.nky kpA ?_ | refine Br.nkn kpA ?_
    | refine Br.eq0 (fun _ => ?_) (fun _ => ?_) | refine Br.neq0 (fun _ => ?_) (fun _ => ?_) | refine Br.eq (fun _ => ?_) (fun _ => ?_) | refine Br.neq (fun _ => ?_) (fun _ => ?_) | refine Br.not (fun _ => ?_) (fun _ => ?_) | refine Br.dec (fun _ => ?_) (fun _ => ?_) | refine Br.bool (fun _ => ?_) (fun _ => ?_)
    | ((with_reducible apply TL.alloc_ag); (· rfl); intro _) | ((with_reducible apply TL.alloc_sc); (· rfl); (· rfl); intro _) | ((with_reducible apply TL.box_ag); (· rfl); (· rfl); intro _) | ((with_reducible apply TL.box_sc); (· rfl); (· rfl); (· rfl); intro _))
      rename_i b2 b3 b1
      refine TQ.only (.obj b3 (.cells [.int .i64 0].toArray 23 (0, 0)) :: .obj b2 (.cells [vv].toArray 20 (0, 0)) :: L) selF ?_
      refine TQ.endD_panic_two (L' := L) (vs := [.pointer (some ⟨b3, 0, none⟩)]) (caps := []) (vs' := []) (caps' := [.pointer (some ⟨b3, 0, none⟩), .pointer (some ⟨b2, 0, none⟩)]) (late_stop b3 11 _ g1 _) rfl (late_tail' b3 b2 11 (by decide) _ g1 L) rfl (by kernel_rfl) (by kernel_rfl) Tryz.results8 rvA rvA hg1 ?_ (.refl _) selF
      exact ⟨rfl, rfl⟩
end Go.Proofs.YtfmadoeadmclbaaGreatDoor
