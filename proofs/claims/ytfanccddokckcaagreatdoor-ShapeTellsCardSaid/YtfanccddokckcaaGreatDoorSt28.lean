/-
  Two deferred calls, one of them of a function's value. The walks of shape's Read. The walks of shape's In, Of. append(nil, make([]T, n)...): a row with room. The walks of slices.Grow, slices.Concat over points.
-/
import Derived.Test.YtfanccddokckcaaGreatDoorSt21
import Derived.Test.YtfanccddokckcaaGreatDoorSt2
import Derived.Test.YtfanccddokckcaaGreatDoorSt27
import Derived.Lib.AppendZeros
namespace Go.TL
open Go Go.RowKit Go.Proofs.YtfanccddokckcaaGreatDoor
section
variable {P : Program} {ops : Array Oper} {Q : Exit → Act → World → Prop} {rest : List Oper} {n : Nat} {ds : List Deferred} {S : Slots} {g g0 : Gh} {L L' L1 L2 L3 : List Ent} {f : FuncId} {fn : Func} {R : Ending → Gh → List Ent → Prop}
variable {ty : TypeId} {pos : String} {aft : Array Edge} {y : Operand} {r1 r2 : ResultVar} {v v1 v2 : Value} {c : List PanicEntry}
theorem TQ.only {c : Exit} (L' : List Ent) (hL : Sel L' L) (h : TQ Q c n ds S g L') : TQ Q c n ds S g L := .mk fun a w hf hs => h.h a w hf (hs.sel hL)
theorem TL.defer_v {xs : List Operand} {vs caps : List Value} {ats : Array TypeId} (hy : ev S y = some (.func (.func f) #[] caps.toArray)) (hx : evs S xs = some vs) (k : TL P ops Q rest n (⟨.fn (.func f) caps.toArray, vs.toArray⟩ :: ds) S g L) : TL P ops Q (⟨none, .defer { callee := .value y, args := xs.toArray, argTypes := ats }, ty, pos, aft, none⟩ :: rest) n ds S g L := .mk fun a w hf hs =>
  wpList_plain rfl fun K hK => by
    unfold Oper.wp
    have h1 := hf.evs hx
    have h2 : a.eval y = .func (.func f) #[] caps.toArray := hf.ev hy
    have : (execOp a.eval ⟨none, .defer { callee := .value y, args := xs.toArray, argTypes := ats }, ty, pos, aft, none⟩).run P w = .ok (.defer ⟨.fn (.func f) caps.toArray, vs.toArray⟩) w := by
      simp [execOp, resolve, h2, Deferred.ofValue, h1]
    rw [this]
    exact hK _ _ (k.h _ w ⟨hf.size, by show _ :: a.defers = _; rw [hf.defers], hf.sl⟩ hs)
theorem TQ.endD_ret_none (hds : ds = []) (hr : fn.results = #[r1, r2]) (h1 : RVal P n ds S g L r1 v1) (h2 : RVal P n ds S g L r2 v2) (hg : g0.le g) (hR : R (.returned (.tuple #[v1, v2])) g L') (hL : Sel L' L) : TQ (EndD P fn R g0) .ret n ds S g L := .mk fun a w hf hs => by
  show Leaves P fn a.tmps _ a.defers .returning w
  rw [hf.defers, hds]
  exact ⟨_, by rw [results_eq, hr]; simp [h1.h a w hf hs, h2.h a w hf hs], g, L', hg, hR, hs.sel hL⟩
variable {h k : FuncId} {vs caps vs' caps' : List Value} {u' : FrameMode}
end
end Go.TL
namespace Go.Proofs.YtfanccddokckcaaGreatDoor
open Go.RowKit Go.TL
set_option maxRecDepth 100000

def stopSR : PanicEntry := { v := .iface 67 (.agg #[]), recovered := true }
theorem stail_idle (b c : Nat) (w : World) :
    CallsD Tryz.prog 36 #[.pointer (some ⟨b, 0, none⟩), .pointer (some ⟨c, 0, none⟩)] .returning w fun e u' w' => e = .returned (.tuple #[]) ∧ u' = .returning ∧ w' = w := by
  refine callsD_of_wpS Tryz.func36 rfl fun c₀ cs hu => ?_
  apply wpS_seq
  apply wpS_region
  simp [wpOpsS, go_sem, recoverD, hu, Tryz.ntmps36, Exit.thenS]
  refine wpS_of_wp ?_
  simp only [Array.replicate_succ, Array.replicate_zero, List.push_toArray, List.append_toArray, List.nil_append, List.cons_append, List.setIfInBounds_toArray, List.set_cons_succ, List.set_cons_zero]
  go_wp2
  cases c₀
  simp_all [bodyPostS, results, Tryz.results36]
set_option maxHeartbeats 4000000 in
theorem late_s_stop (b c : Nat) (x0 x1 y : Value) (g : Gh) (L : List Ent) : Late Tryz.prog 36 #[.pointer (some ⟨b, 0, none⟩), .pointer (some ⟨c, 0, none⟩)] (.panicking [stopS]) (.panicking [stopSR]) g (.obj b (.cells [x0, x1].toArray 30 (0, 0)) :: .obj c (.cells [y].toArray 31 (0, 0)) :: L) (.obj b (.cells [.int .i64 0, .slice none 0 0].toArray 30 (0, 0)) :: .obj c (.cells [.int .i64 15].toArray 31 (0, 0)) :: L) :=
  ⟨fun w hs => by
    refine callsD_of_wpS Tryz.func36 rfl fun c₀ cs hu => ?_
    apply wpS_seq
    apply wpS_region
    simp [wpOpsS, go_sem, recoverD, hu, Tryz.ntmps36, Exit.thenS, stopS]
    refine wpS_of_wp ?_
    simp only [Array.replicate_succ, Array.replicate_zero, List.push_toArray, List.append_toArray, List.nil_append, List.cons_append, List.setIfInBounds_toArray, List.set_cons_succ, List.set_cons_zero]
    refine TC.h (n := 17) (ds := []) (S := [(2, .iface 67 (.agg #[])), (0, .pointer (some ⟨b, 0, none⟩)), (1, .pointer (some ⟨c, 0, none⟩))]) (g := g) ?_ _ w ⟨rfl, rfl, fun i v h => ?_⟩ hs
    · repeat' (first
    | refine wkQ ?_
    | ((with_reducible apply TL.storeK); (· rfl); (· rfl); (· exact rfl); (· exact pkA); (· exact Nat.le_of_ble_eq_true rfl))
    | refine wkV ?_
    | refine stS ?_ | (refine stB ?_; intro _) | (refine stC ?_; refine And.intro (fun _ => ?_) (fun _ => ?_))
    | apply TC.region_draw (by kernel_rfl) (by kernel_rfl) | refine TW.nil ?_ | ((with_reducible apply TW.pure); (· exact yA); (· rfl)))
      refine .mk fun a w' hf hs' => ?_
      have h2 : St g (.obj b (.cells [.int .i64 0, .slice none 0 0].toArray 30 (0, 0)) :: .obj c (.cells [.int .i64 15].toArray 31 (0, 0)) :: L) w' := hs'.sel selF
      simp [bodyPostS, results, Tryz.results36, stopSR]
      exact ⟨hf.defers, h2⟩
    · match i, h with
      | 0, h => exact Option.some.inj h
      | 1, h => exact Option.some.inj h
      | 2, h => exact Option.some.inj h
      | i + 3, h => cases h⟩
theorem late_s_idle (b c : Nat) (g : Gh) (L : List Ent) : Late Tryz.prog 36 #[.pointer (some ⟨b, 0, none⟩), .pointer (some ⟨c, 0, none⟩)] .returning .returning g L L :=
  ⟨fun w hs => by
    refine (stail_idle b c w).mono ?_
    rintro e u w' ⟨rfl, rfl, rfl⟩
    exact ⟨⟨_, rfl⟩, rfl, hs⟩⟩
def readX (x : J) : Option (Int × List (List Pt)) := if lookJ x 0 = 0 then readJ x else none
def ReadXR (o : Option (Int × List (List Pt))) (L : List Ent) : Ending → Gh → List Ent → Prop := fun e g' L1 => ∃ v, L1 = L ∧ (match o with
  | some (k, ps) => e = .returned (.tuple #[shV k v, .int .i64 0]) ∧ IsParts g' v ps
  | none => e = .returned (.tuple #[shV 0 v, .int .i64 15]) ∧ v = .slice none 0 0)
set_option maxHeartbeats 16000000 in
theorem sRead_does (x : J) (v : Value) (g : Gh) (L : List Ent) (hv : IsJ g x v) (hs : smJ x) (hT : GTabs g) (hU : GU8 g) : Does Tryz.prog 10 #[v] g L (ReadXR (readX x) L) := by
  refine Does.ofD1 Tryz.func10 rfl Tryz.ntmps10 rfl ?_
  have ov := hv.one
  have MA := fun L => may_gives x v g L hv hs hT hU
  have RD := fun L => sread_does x v g L hv hs
  clear hv hs hT hU
  unfold ReadXR readX
  unfold ReadR at RD
  by_cases h0 : lookJ x 0 ≠ 0
  · rw [if_neg h0]
    have HK := Hn.mk (show ¬ ((lookJ x 0 : Nat) : Int) = 0 by omega)
    generalize lookJ x 0 = k at *
    clear h0
    dsimp only
    repeat' (first
    | refine wkQ ?_
    | refine wkV ?_
    | ((with_reducible apply TL.gives_plain); (· kernel_rfl); (· rfl); (· exact MA _); (· rfl)) | ((with_reducible apply TW.gives_plain); (· kernel_rfl); (· rfl); (· exact MA _); (· rfl))
    | ((with_reducible apply TL.storeK); (· rfl); (· rfl); (· exact rfl); (· exact pkA); (· exact Nat.le_of_ble_eq_true rfl))
    | refine stS ?_ | (refine stB ?_; intro _) | (refine stC ?_; refine And.intro (fun _ => ?_) (fun _ => ?_)))
    refine TQ.endD_ret_none (L' := L) rfl Tryz.results10 rvA rvA (.refl _) ?_ selF
    exact ⟨_, rfl, rfl, rfl⟩
  have h0 : lookJ x 0 = 0 := by omega
  rw [if_pos h0]
  rw [h0] at MA
  cases hr : readJ x with
  | none =>
    rw [hr] at RD
    dsimp only at RD ⊢
    repeat' (first
    | refine wkQ ?_
    | ((with_reducible apply TL.pure (d := 8) (v := .func (.func 36) #[] [Value.pointer (some ⟨_, 0, none⟩), Value.pointer (some ⟨_, 0, none⟩)].toArray)); (· exact Y.make_func rfl); (· rfl)) | ((with_reducible apply TW.pure (d := 8) (v := .func (.func 36) #[] [Value.pointer (some ⟨_, 0, none⟩), Value.pointer (some ⟨_, 0, none⟩)].toArray)); (· exact Y.make_func rfl); (· rfl))
    | refine wkV ?_
    | ((with_reducible apply TL.gives_plain); (· kernel_rfl); (· rfl); (· exact MA _); (· rfl)) | ((with_reducible apply TW.gives_plain); (· kernel_rfl); (· rfl); (· exact MA _); (· rfl))
    | (refine TL.call (Enters.plain (by kernel_rfl) (by rfl)) (by rfl) (RD _) ?_; (rintro e g1 Ln hg1 ⟨k1, k2⟩; have k2 := k2.symm; subst k1; subst k2; refine CallK.panic ?_))
    | ((with_reducible apply TL.storeK); (· rfl); (· rfl); (· exact rfl); (· exact pkA); (· exact Nat.le_of_ble_eq_true rfl))
      | refine TL.defer_v (by rfl) (by rfl) ?_
    | refine stS ?_ | (refine stB ?_; intro _) | (refine stC ?_; refine And.intro (fun _ => ?_) (fun _ => ?_)))
    rename_i b2 b3
    refine TQ.only (.obj b2 (.cells [.int .i64 0, .slice none 0 0].toArray 30 (0, 0)) :: .obj b3 (.cells [.int .i64 0].toArray 31 (0, 0)) :: L) selF ?_
    refine TQ.endD_panic2 (L' := L) (vs := []) (caps := [.pointer (some ⟨b2, 0, none⟩), .pointer (some ⟨b3, 0, none⟩)]) (late_s_stop b2 b3 _ _ _ g1 _) rfl rfl (by kernel_rfl) Tryz.results10 rvA rvA hg1 ?_ (.refl _) selF
    exact ⟨_, rfl, rfl, rfl⟩
  | some o =>
    obtain ⟨k, ps⟩ := o
    rw [hr] at RD
    dsimp only at RD ⊢
    repeat' (first
    | refine wkQ ?_
    | ((with_reducible apply TL.pure (d := 8) (v := .func (.func 36) #[] [Value.pointer (some ⟨_, 0, none⟩), Value.pointer (some ⟨_, 0, none⟩)].toArray)); (· exact Y.make_func rfl); (· rfl)) | ((with_reducible apply TW.pure (d := 8) (v := .func (.func 36) #[] [Value.pointer (some ⟨_, 0, none⟩), Value.pointer (some ⟨_, 0, none⟩)].toArray)); (· exact Y.make_func rfl); (· rfl))
    | refine wkV ?_
    | ((with_reducible apply TL.gives_plain); (· kernel_rfl); (· rfl); (· exact MA _); (· rfl)) | ((with_reducible apply TW.gives_plain); (· kernel_rfl); (· rfl); (· exact MA _); (· rfl))
    | (refine TL.call (Enters.plain (by kernel_rfl) (by rfl)) (by rfl) (RD _) ?_; (rintro e g1 Ln hg1 ⟨vp, k1, k2, k3⟩; have k2 := k2.symm; subst k1; subst k2; (obtain ⟨av, cv, rfl⟩ : ∃ a c, vp = .slice a ps.length c := by obtain ⟨_, h, _⟩ := k3; exact h.slice); have K3 := Hn.mk k3; clear k3; refine CallK.ret ?_))
    | ((with_reducible apply TL.storeK); (· rfl); (· rfl); (· exact rfl); (· exact pkA); (· exact Nat.le_of_ble_eq_true rfl))
      | refine TL.defer_v (by rfl) (by rfl) ?_
    | refine stS ?_ | (refine stB ?_; intro _) | (refine stC ?_; refine And.intro (fun _ => ?_) (fun _ => ?_)))
    rename_i b2 b3
    refine TQ.only (.obj b2 (.cells [.int .i64 k, .slice av ps.length cv].toArray 30 (0, 0)) :: .obj b3 (.cells [.int .i64 0].toArray 31 (0, 0)) :: L) selF ?_
    refine TQ.endD_ret2 (L' := L) (vs := []) (caps := [.pointer (some ⟨b2, 0, none⟩), .pointer (some ⟨b3, 0, none⟩)]) (late_s_idle b2 b3 g1 _) rfl (by kernel_rfl) Tryz.results10 rvA rvA hg1 ?_ (.refl _) selF
    exact ⟨_, rfl, rfl, K3.out⟩
end Go.Proofs.YtfanccddokckcaaGreatDoor
namespace Go.Proofs.YtfanccddokckcaaGreatDoor
open Go.RowKit Go.TL
set_option maxRecDepth 100000

def inX (k : Int) (ps : List (List Pt)) (p : Pt) : Bool := (rightB k ps && mayB p) && inSh k ps p
theorem sIn_gives (k : Int) (ps : List (List Pt)) (v : Value) (p : Pt) (g : Gh) (L : List Ent) (hS : IsParts g v ps) (hO : ShOk ps) : Gives Tryz.prog 27 #[shV k v, pt p] g L (.bool (inX k ps p)) := by
  have RI := fun L => sright_gives k ps v g L hS hO
  have SI := fun L => sin_gives k ps v p g L hS hO
  have MY := fun L => May_gives g L p
  obtain ⟨av, cv, rfl⟩ : ∃ a c, v = .slice a ps.length c := by obtain ⟨_, h, _⟩ := hS; exact h.slice
  refine .of (Does.of2 Tryz.func27 rfl Tryz.ntmps27 rfl ?_)
  unfold inX
  clear hS hO
  cases h1 : rightB k ps with
  | false =>
    rw [h1] at RI
    repeat' (first
    | refine wkQ ?_
    | refine wkV ?_
    | ((with_reducible apply TL.gives_plain); (· kernel_rfl); (· rfl); (· exact RI _); (· rfl)) | ((with_reducible apply TW.gives_plain); (· kernel_rfl); (· rfl); (· exact RI _); (· rfl))
    | refine stS ?_ | (refine stB ?_; intro _) | (refine stC ?_; refine And.intro (fun _ => ?_) (fun _ => ?_)))
    refine TQ.endR1 (L' := L) Tryz.results27 rvA rfl (.refl _) ?_ selF
    exact ⟨rfl, rfl, rfl⟩
  | true =>
    rw [h1] at RI
    cases h2 : mayB p with
    | false =>
      rw [h2] at MY
      repeat' (first
    | refine wkQ ?_
    | refine wkV ?_
    | ((with_reducible apply TL.gives_plain); (· kernel_rfl); (· rfl); (· exact RI _); (· rfl)) | ((with_reducible apply TW.gives_plain); (· kernel_rfl); (· rfl); (· exact RI _); (· rfl))
    | ((with_reducible apply TL.gives_plain); (· kernel_rfl); (· rfl); (· exact MY _); (· rfl)) | ((with_reducible apply TW.gives_plain); (· kernel_rfl); (· rfl); (· exact MY _); (· rfl))
    | refine stS ?_ | (refine stB ?_; intro _) | (refine stC ?_; refine And.intro (fun _ => ?_) (fun _ => ?_)))
      refine TQ.endR1 (L' := L) Tryz.results27 rvA rfl (.refl _) ?_ selF
      exact ⟨rfl, rfl, rfl⟩
    | true =>
      rw [h2] at MY
      repeat' (first
    | refine wkQ ?_
    | refine wkV ?_
    | ((with_reducible apply TL.gives_plain); (· kernel_rfl); (· rfl); (· exact RI _); (· rfl)) | ((with_reducible apply TW.gives_plain); (· kernel_rfl); (· rfl); (· exact RI _); (· rfl))
    | ((with_reducible apply TL.gives_plain); (· kernel_rfl); (· rfl); (· exact MY _); (· rfl)) | ((with_reducible apply TW.gives_plain); (· kernel_rfl); (· rfl); (· exact MY _); (· rfl))
    | ((with_reducible apply TL.gives_plain); (· kernel_rfl); (· rfl); (· exact SI _); (· rfl)) | ((with_reducible apply TW.gives_plain); (· kernel_rfl); (· rfl); (· exact SI _); (· rfl))
    | refine stS ?_ | (refine stB ?_; intro _) | (refine stC ?_; refine And.intro (fun _ => ?_) (fun _ => ?_)))
      refine TQ.endR1 (L' := L) Tryz.results27 rvA rfl (.refl _) ?_ selF
      exact ⟨rfl, rfl, rfl⟩
def ofOk (r : Rc) : Bool := (mayR r && !decide (r.x0 = r.x1)) && !decide (r.y0 = r.y1)
abbrev rectL (r : Rc) : List Pt := [(r.x0, r.y0), (r.x1, r.y0), (r.x1, r.y1), (r.x0, r.y1)]
def OfR (r : Rc) (L : List Ent) : Ending → Gh → List Ent → Prop := fun e g' L1 => ∃ v, L1 = L ∧ (match ofOk r with
  | true => e = .returned (shV 2 v) ∧ IsParts g' v [rectL r]
  | false => e = .returned (shV 0 v) ∧ v = .slice none 0 0)
set_option maxHeartbeats 16000000 in
theorem sOf_does (r : Rc) (g : Gh) (L : List Ent) : Does Tryz.prog 23 #[rcV r] g L (OfR r L) := by
  refine Does.of1 Tryz.func23 rfl Tryz.ntmps23 rfl ?_
  have MR := fun L => MayRect_gives r g L
  unfold OfR ofOk
  cases h1 : mayR r with
  | false =>
    rw [h1] at MR
    repeat' (first
    | refine wkQ ?_
    | refine wkV ?_
    | ((with_reducible apply TL.gives_plain); (· kernel_rfl); (· rfl); (· exact MR _); (· rfl)) | ((with_reducible apply TW.gives_plain); (· kernel_rfl); (· rfl); (· exact MR _); (· rfl))
    | refine stS ?_ | (refine stB ?_; intro _) | (refine stC ?_; refine And.intro (fun _ => ?_) (fun _ => ?_)))
    refine TQ.endR1 (L' := L) Tryz.results23 rvA rfl (.refl _) ?_ selF
    exact ⟨_, rfl, rfl, rfl⟩
  | true =>
  rw [h1] at MR
  by_cases hx : r.x0 = r.x1
  · have bx : decide (r.x0 = r.x1) = true := decide_eq_true hx
    rw [bx]
    repeat' (first
    | refine wkQ ?_
    | ((with_reducible apply TL.pure (d := 11) (v := .bool true)); (· exact Y.eql_b bx rfl rfl); (· rfl)) | ((with_reducible apply TW.pure (d := 11) (v := .bool true)); (· exact Y.eql_b bx rfl rfl); (· rfl))
    | refine wkV ?_
    | ((with_reducible apply TL.gives_plain); (· kernel_rfl); (· rfl); (· exact MR _); (· rfl)) | ((with_reducible apply TW.gives_plain); (· kernel_rfl); (· rfl); (· exact MR _); (· rfl))
    | refine stS ?_ | (refine stB ?_; intro _) | (refine stC ?_; refine And.intro (fun _ => ?_) (fun _ => ?_)))
    refine TQ.endR1 (L' := L) Tryz.results23 rvA rfl (.refl _) ?_ selF
    exact ⟨_, rfl, rfl, rfl⟩
  have bx : decide (r.x0 = r.x1) = false := decide_eq_false hx
  rw [bx]
  by_cases hy : r.y0 = r.y1
  · have by1 : decide (r.y0 = r.y1) = true := decide_eq_true hy
    rw [by1]
    repeat' (first
    | refine wkQ ?_
    | ((with_reducible apply TL.pure (d := 11) (v := .bool false)); (· exact Y.eql_b bx rfl rfl); (· rfl)) | ((with_reducible apply TW.pure (d := 11) (v := .bool false)); (· exact Y.eql_b bx rfl rfl); (· rfl))
    | ((with_reducible apply TL.pure (d := 18) (v := .bool true)); (· exact Y.eql_b by1 rfl rfl); (· rfl)) | ((with_reducible apply TW.pure (d := 18) (v := .bool true)); (· exact Y.eql_b by1 rfl rfl); (· rfl))
    | refine wkV ?_
    | ((with_reducible apply TL.gives_plain); (· kernel_rfl); (· rfl); (· exact MR _); (· rfl)) | ((with_reducible apply TW.gives_plain); (· kernel_rfl); (· rfl); (· exact MR _); (· rfl))
    | refine stS ?_ | (refine stB ?_; intro _) | (refine stC ?_; refine And.intro (fun _ => ?_) (fun _ => ?_)))
    refine TQ.endR1 (L' := L) Tryz.results23 rvA rfl (.refl _) ?_ selF
    exact ⟨_, rfl, rfl, rfl⟩
  have by1 : decide (r.y0 = r.y1) = false := decide_eq_false hy
  rw [by1]
  repeat' (first
    | refine wkQ ?_
    | ((with_reducible apply TL.pure (d := 11) (v := .bool false)); (· exact Y.eql_b bx rfl rfl); (· rfl)) | ((with_reducible apply TW.pure (d := 11) (v := .bool false)); (· exact Y.eql_b bx rfl rfl); (· rfl))
    | ((with_reducible apply TL.pure (d := 18) (v := .bool false)); (· exact Y.eql_b by1 rfl rfl); (· rfl)) | ((with_reducible apply TW.pure (d := 18) (v := .bool false)); (· exact Y.eql_b by1 rfl rfl); (· rfl))
    | refine wkV ?_
    | ((with_reducible apply TL.gives_plain); (· kernel_rfl); (· rfl); (· exact MR _); (· rfl)) | ((with_reducible apply TW.gives_plain); (· kernel_rfl); (· rfl); (· exact MR _); (· rfl))
    | (refine TL.build_rows (d := 41) (len := 4) (sz := 2) [ptC (r.x0, r.y0), ptC (r.x1, r.y0), ptC (r.x1, r.y1), ptC (r.x0, r.y1)] (by rfl) (by rfl) (by rfl) (by rfl) (by rfl) (by rfl) (by rfl) (by rfl) (fun bb => ?_); refine TL.freeze_obj (k := 4) bb 2 .here rfl (by decide) ?_; rintro g2 hg2 s2)
    | (refine TL.build_slice (d := 42) (by rfl) (by rfl) (by exact oneA) (by rfl) (by rfl) (by rfl) (fun bb => ?_); refine TL.freeze_obj (k := 1) bb 1 .here rfl (by decide) ?_; rintro g3 hg3 s3)
    | refine stS ?_ | (refine stB ?_; intro _) | (refine stC ?_; refine And.intro (fun _ => ?_) (fun _ => ?_)))
  refine TQ.endR1 (L' := L) Tryz.results23 rvA rfl ((hg2.trans hg3)) ?_ selF
  exact ⟨_, rfl, rfl, parts_one rfl s2 hg3 s3⟩
end Go.Proofs.YtfanccddokckcaaGreatDoor
namespace Go.TL
open Go Go.RowKit Go.Proofs.YtfanccddokckcaaGreatDoor
section
variable {P : Program} {ops : Array Oper} {Q : Exit → Act → World → Prop} {rest : List Oper} {n : Nat} {ds : List Deferred} {S : Slots} {g : Gh} {L : List Ent}
variable {d : Nat} {ty : TypeId} {pos : String} {aft : Array Edge} {z : Value} {t tn e : TypeId} {sz bytes : Nat} {x y : Operand} {w : World}
theorem St.obj_row0 {b cap : Nat} {cs : List Value} (h : St g (.obj b (.cells cs.toArray e (0, 0)) :: L) w) (hl : cs.length = cap * sz) (hk : cap ≤ maxLen) : St g (.row e sz (.slice (some ⟨b, 0, none⟩) 0 cap) 0 [] :: L) w :=
  ⟨h.os, h.tape, h.out, h.hp, fun x hx => (List.mem_cons.1 hx).elim (fun e => by
      subst e
      have h0 : w.heap[b]? = some (.cells cs.toArray _ (0, 0)) := h.st _ List.mem_cons_self
      exact ⟨by simp, .inr ⟨b, cap, cs.toArray, rfl, Nat.zero_le _, h0, Nat.zero_le _, hk, by simpa using hl, by simp⟩⟩) (fun hx => h.st x (List.mem_cons_of_mem _ hx)), by simpa [Ent.fp, Value.ownBlock] using h.nd, by simpa [Ent.fp, Value.ownBlock] using h.ap⟩
theorem zeroCells_len (cs : Array Value) (k : Nat) : (Builtin.zeroCells cs k).size = k * cs.size := by
  simp [Builtin.zeroCells]
theorem TL.append_zeros {k kn : IntKind} {p : Int} {m : Nat} [ht : Und P t (.slice e)] [htn : Und P tn (.int kn)] [hi : Inf P e sz bytes z] (hzs : (z.cells.size == sz) = true) (hsz : Nat.blt 0 sz = true) (hx : ev S x = some (.slice none 0 0)) (hy : ev S y = some (.int k p)) (hp : p = m) (h0 : 0 < m) (hb : m * bytes ≤ 281474976710656) (hm : m ≤ maxLen) (hd : Nat.blt d n = true)
    (kk : ∀ b cap, m ≤ cap → TL P ops Q rest n ds ((d, .slice (some ⟨b, 0, none⟩) m cap) :: S) g (.row e sz (.slice (some ⟨b, 0, none⟩) 0 cap) 0 [] :: L)) : TL P ops Q (⟨some d, .call { callee := .builtin .append, args := #[x, y], argTypes := #[t, tn] }, ty, pos, aft, none⟩ :: rest) n ds S g L := .mk fun a w hf hs => by
  obtain ⟨i, hii, hs2, hb2, hz⟩ := hi.eq
  subst hp
  have hzs := beq_iff_eq.1 hzs
  have hge := grownCap_ge w m 0 e
  have hle := grownCap_le_maxLen w m 0 e hm
  refine Lib.wpList_append_run w rfl x y t tn rfl _ _ (hf.ev hx) (hf.ev hy) _ _ (Lib.run_append_nil_zeros w t tn ty e i z k kn ht.eq htn.eq hii hz m h0 (by rw [hs2]; exact Nat.le_of_ble_eq_true hsz) (by unfold maxLen at hm; omega) (by rw [hb2]; exact hb)) ?_
  refine (kk _ _ hge).h _ _ (hf.put hd _) ?_
  have h1 := hs.drew.alloc (.cells (Builtin.zeroCells z.cells m ++ Builtin.zeroCells z.cells (grownCap w m 0 e - m)).toList.toArray e (0, 0))
  have h2 := St.obj_row0 (sz := sz) (cap := grownCap w m 0 e) h1 (by
    rw [Array.length_toList, Array.size_append, zeroCells_len, zeroCells_len, hzs, ← Nat.add_mul]
    congr 1; omega) hle
  rw [Array.toArray_toList] at h2
  exact h2
theorem Y.cap_slice {dst : Option Nat} {gd : Option (Nat × Bool)} {ao : Option Addr} {len cap : Nat} [ht : Und P t (.slice e)] (hx : ev S x = some (.slice ao len cap)) : Yields P n ds S g L ⟨dst, .call { callee := .builtin .cap, args := #[x], argTypes := #[t] }, ty, pos, aft, gd⟩ (.int .i64 cap) := .mk fun a w hf _ => by
  simp [execOp, resolve, invoke, BigFrame.builtin_cap, Builtin.cap_, hf.ev hx, run_und ht.eq, goInt]
end
end Go.TL
namespace Go.Proofs.YtfanccddokckcaaGreatDoor
open Go.RowKit Go.TL
set_option maxRecDepth 100000

set_option maxHeartbeats 8000000 in
theorem grow_does (n : Nat) (g : Gh) (L : List Ent) (_h0 : 0 < n) (_hn : n ≤ 1000000000) : Does Tryz.prog 100 #[.slice none 0 0, .int .i64 (n : Nat)] g L (fun e g' L' => ∃ b cap, e = .returned (.slice (some ⟨b, 0, none⟩) 0 cap) ∧ g' = g ∧ L' = .row 50 2 (.slice (some ⟨b, 0, none⟩) 0 cap) 0 [] :: L) := by
  refine Does.of2 Tryz.func100 rfl Tryz.ntmps100 rfl ?_
  have b1 : decide (((n : Nat) : Int) < 0) = false := decide_eq_false (by omega)
  have b2 : decide ((0 : Int) < (n : Nat)) = true := decide_eq_true (by omega)
  have HK := Hn.mk (show IntKind.i64.wrap (((n : Nat) : Int) - 0) = ((n : Nat) : Int) by rw [IntWalk.i64_in _ (by omega)]; omega)
  repeat' (first
    | refine wkQ ?_
    | ((with_reducible apply TL.pure (d := 6) (v := .bool false)); (· exact Y.lss_b b1 rfl rfl); (· rfl)) | ((with_reducible apply TW.pure (d := 6) (v := .bool false)); (· exact Y.lss_b b1 rfl rfl); (· rfl))
    | ((with_reducible apply TL.pure (d := 14) (v := .int .i64 (n : Nat))); (· exact Y.sub rfl rfl HK.out); (· rfl)) | ((with_reducible apply TW.pure (d := 14) (v := .int .i64 (n : Nat))); (· exact Y.sub rfl rfl HK.out); (· rfl))
    | ((with_reducible apply TL.pure (d := 16) (v := .bool true)); (· exact Y.gtr_b b2 rfl rfl); (· rfl)) | ((with_reducible apply TW.pure (d := 16) (v := .bool true)); (· exact Y.gtr_b b2 rfl rfl); (· rfl))
    | ((with_reducible apply TL.pure (d := 20) (v := .slice none 0 0)); (· exact Y.slice_to (i := 0) rfl rfl rfl (Nat.le_refl _)); (· rfl)) | ((with_reducible apply TW.pure (d := 20) (v := .slice none 0 0)); (· exact Y.slice_to (i := 0) rfl rfl rfl (Nat.le_refl _)); (· rfl))
    | ((with_reducible apply TL.pure (d := 25) (v := .slice (some ⟨_, 0, none⟩) 0 _)); (· exact Y.slice_to (i := 0) rfl rfl rfl (Nat.zero_le _)); (· rfl)) | ((with_reducible apply TW.pure (d := 25) (v := .slice (some ⟨_, 0, none⟩) 0 _)); (· exact Y.slice_to (i := 0) rfl rfl rfl (Nat.zero_le _)); (· rfl))
    | refine wkV ?_
    | ((with_reducible apply TL.pure); (· exact Y.cap_slice rfl); (· rfl))
    | ((with_reducible apply TL.append_zeros); (· rfl); (· rfl); (· rfl); (· rfl); (· exact rfl); (· omega); (· omega); (· unfold maxLen; omega); (· rfl); intro b cap hcap)
    | refine stS ?_ | (refine stB ?_; intro _) | (refine stC ?_; refine And.intro (fun _ => ?_) (fun _ => ?_)))
  refine TQ.endR1 (L' := (.row 50 2 (.slice (some ⟨b, 0, none⟩) 0 cap) 0 [] :: L)) Tryz.results100 rvA rfl (.refl _) ?_ selF
  exact ⟨_, _, rfl, rfl, rfl⟩
theorem flatP_ones (l : List Pt) : (flatP l).all Value.one = true := by
  induction l with
  | nil => rfl
  | cons p l ih => exact ih
theorem flatP_app (a b : List Pt) : flatP (a ++ b) = flatP a ++ flatP b := by simp [flatP]
structure CcS where
  i : Nat
  acc : List Pt
  v : Value
structure CcI (ps : List (List Pt)) (x : CcS) : Prop where
  le : x.i ≤ ps.length
  re : x.acc ++ (ps.drop x.i).flatten = ps.flatten
set_option maxHeartbeats 16000000 in
theorem concat_does (ps : List (List Pt)) (v : Value) (g : Gh) (L : List Ent) (hS : IsParts g v ps) (hO : ShOk ps) (h0 : 0 < ps.flatten.length) (h1 : ps.flatten.length ≤ 1000000) : Does Tryz.prog 65 #[v] g L (fun e g' L' => ∃ v', e = .returned v' ∧ L' = L ∧ Sl g' v' ps.flatten.length 2 (flatP ps.flatten)) := by
  refine Does.of1 Tryz.func65 rfl Tryz.ntmps65 rfl ?_
  obtain ⟨fl, hSl, hpt⟩ := hS
  obtain ⟨ao, cap, rfl⟩ := hSl.slice
  have hps := hO.len
  obtain ⟨N, hN⟩ : ∃ N, N = ps.flatten.length := ⟨_, rfl⟩
  rw [← hN] at h0 h1 ⊢
  have GR := fun L => grow_does N g L h0 (by omega)
  repeat' (first
    | refine wkQ ?_
    | refine wkV ?_
    | refine stS ?_ | (refine stB ?_; intro _) | (refine stC ?_; refine And.intro (fun _ => ?_) (fun _ => ?_)))
  refine TC.loopK (fun z : Nat × Nat => z.1 ≤ ps.length ∧ z.2 + (ps.drop z.1).flatten.length = N) (fun z => ps.length - z.1) (fun z _ => [(11, .int .i64 (z.1 : Nat)), (10, .int .i64 (ps.length : Nat)), (9, .slice ao ps.length cap), (3, .int .i64 (z.2 : Nat)), (0, .slice ao ps.length cap)]) [] .nil (fun _ L => L) (0, 0) ⟨Nat.zero_le _, by rw [hN]; simp⟩ subA selF ?_
  rintro ⟨j, c⟩ ⟨hj, hI⟩
  try dsimp only at hj hI ⊢
  by_cases hlt : j < ps.length
  · obtain ⟨q, hq⟩ : ∃ q, ps[j]? = some q := ⟨_, List.getElem?_eq_getElem hlt⟩
    obtain ⟨u, hu, hSu⟩ := hpt j q hq
    obtain ⟨b2, o2, rfl, hg1'⟩ := hSl.elem hlt (by decide)
    have hld : g.cell b2 (o2 + j * 1) = some u := hg1' 0 _ (by rw [Nat.mul_one]; exact hu)
    rw [drop_of_get hq, List.flatten_cons, List.length_append] at hI
    obtain ⟨au, cu, rfl⟩ := hSu.slice
    have bz : decide (((c : Nat) : Int) + (q.length : Nat) < 0) = false := decide_eq_false (by omega)
    clear hg1' hpt hSu hO hq hu hSl GR
    repeat' (first
    | refine wkQ ?_
    | ((with_reducible apply TL.pure (d := 20) (v := .bool false)); (· exact Y.lss_b bz rfl rfl); (· rfl)) | ((with_reducible apply TW.pure (d := 20) (v := .bool false)); (· exact Y.lss_b bz rfl rfl); (· rfl))
    | refine wkV ?_
    | refine stS ?_ | (refine stB ?_; intro _) | (refine stC ?_; refine And.intro (fun _ => ?_) (fun _ => ?_)))
    refine TQ.round (j + 1, c + q.length) ?_ ?_ rfl subA selF
    · exact ⟨by omega, by dsimp only; omega⟩
    · show ps.length - (j + 1) < ps.length - j
      omega
  · obtain rfl : j = ps.length := by omega
    rw [List.drop_length] at hI
    obtain rfl : c = N := by simpa using hI
    clear hI
    repeat' (first
    | refine wkQ ?_
    | refine wkV ?_
    | (refine TL.call (Enters.plain (by kernel_rfl) (by rfl)) (by rfl) (GR _) ?_; (rintro e g1 Ln _ ⟨b1, c1, k1, k2, k3⟩; have k2 := k2.symm; subst k1; subst k2; subst k3; refine CallK.ret ?_))
    | refine stS ?_ | (refine stB ?_; intro _) | (refine stC ?_; refine And.intro (fun _ => ?_) (fun _ => ?_)))
    refine TC.loop (CcI ps) (fun x => ps.length - x.i) (fun x => [(27, .int .i64 (x.i : Nat)), (26, .int .i64 (ps.length : Nat)), (25, .slice ao ps.length cap), (6, x.v)]) (fun _ => g) (fun x => .row 50 2 x.v x.acc.length (flatP x.acc) :: L) ⟨0, [], .slice (some ⟨b1, 0, none⟩) 0 c1⟩ ⟨Nat.zero_le _, by simp⟩ rfl subA selF ?_
    rintro ⟨i, acc, v⟩ ⟨hi, hre⟩
    dsimp only at hi hre ⊢
    refine TC.row_slice (v := v) pkA ?_
    rintro av cv rfl _
    by_cases hlt : i < ps.length
    · obtain ⟨q, hq⟩ : ∃ q, ps[i]? = some q := ⟨_, List.getElem?_eq_getElem hlt⟩
      obtain ⟨u, hu, hSu⟩ := hpt i q hq
      obtain ⟨b2, o2, rfl, hg1'⟩ := hSl.elem hlt (by decide)
      have hld : g.cell b2 (o2 + i * 1) = some u := hg1' 0 _ (by rw [Nat.mul_one]; exact hu)
      rw [drop_of_get hq, List.flatten_cons, ← List.append_assoc] at hre
      obtain ⟨au, cu, rfl⟩ := hSu.slice
      have hle : acc.length + q.length ≤ 1000000 := by
        have := congrArg List.length hre
        rw [List.length_append, List.length_append] at this
        omega
      have HR := Hn.mk hre
      clear hg1' hpt hO hq hu hSl GR hre hN
      repeat' (first
    | refine wkQ ?_
    | refine wkV ?_
    | ((with_reducible apply TL.append (d := 33)); (· rfl); (· rfl); (· rfl); (· rfl); (· exact pkA); (· exact Src.sl hSu); (· exact (flatP_len q)); (· exact (flatP_ones q)); (· exact ⟨by unfold maxLen; omega, by omega⟩); (· rfl); intro vf; refine Go.TL.TL.row_slice (v := vf) pkA ?_; rintro a2 c2 rfl _)
    | refine stS ?_ | (refine stB ?_; intro _) | (refine stC ?_; refine And.intro (fun _ => ?_) (fun _ => ?_)))
      have hlen : acc.length + q.length = (acc ++ q).length := by rw [List.length_append]
      rw [hlen, ← flatP_app]
      refine TQ.round ⟨i + 1, acc ++ q, .slice a2 (acc ++ q).length c2⟩ ?_ ?_ rfl subA selF
      · exact ⟨by dsimp only; omega, HR.out⟩
      · dsimp only; omega
    · have hacc : acc = ps.flatten := by
        rw [List.drop_eq_nil_of_le (by omega)] at hre
        simpa using hre
      subst hacc
      clear hpt hSl hre GR hO
      repeat' (first
    | refine wkQ ?_
    | refine wkV ?_
    | refine stS ?_ | (refine stB ?_; intro _) | (refine stC ?_; refine And.intro (fun _ => ?_) (fun _ => ?_)))
      refine TQ.freeze .here fun g2 hg2 HS2 => ?_
      refine TQ.endR1 (L' := L) Tryz.results65 rvA rfl (hg2) ?_ selF
      exact ⟨_, rfl, rfl, by rw [hN]; exact HS2⟩
end Go.Proofs.YtfanccddokckcaaGreatDoor
