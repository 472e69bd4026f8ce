/-
  The steps of a walk in one word. Numbers as data, and what is said of them. The frame of all laws' proofs: a law that answers true and turns nothing that was there meets its row.
-/
import Derived.Test.YtgollffmdpejiaaGreatDoorQz1
import Derived.Test.YtgollffmdpejiaaGreatDoorQz2
import Derived.ProofKit
import Derived.OpenShut
import Derived.Lib.SmallJoins
namespace Go.TL
open Go Go.RowKit Go.Proofs.YtgollffmdpejiaaGreatDoor
theorem Br.two {b : Bool} {X Y : Prop} {p q : Prop} (h : (p → X) → (q → Y) → Br b X Y) (k : (p → X) ∧ (q → Y)) : Br b X Y := h k.1 k.2
/-- A step that leaves one goal. -/
theorem stS {goal next : Prop} (k : next) (h : next → goal := by first
    | exact fun k => TL.pure yA rfl k
    | apply TC.seq | apply TC.region | apply TL.nil | apply TQ.then_normal
    | (intro k; (with_reducible apply TL.storeE); (· rfl); (· rfl); (· rfl); (· exact pkA); (· infer_instance); exact k) | (intro k; (with_reducible apply TL.store_whole); (· rfl); (· rfl); (· (clear k; exact oneA)); (· rfl); (· exact pkA); (· rfl); exact k)
    | apply TC.block | apply TC.ret | apply TC.skip | apply TC.exit | apply TC.cond rfl
    | apply TQ.down | apply TQ.in_exit' rfl
    | apply TL.guard_yes rfl rfl | apply TL.guard_no rfl rfl rfl rfl | apply TL.guard_no0 rfl rfl rfl | apply TL.guard_undef rfl rfl rfl | apply TL.guard_undef0 rfl rfl | apply TL.guard rfl rfl rfl
    | apply Br.t rfl | apply Br.f rfl | apply Br.ky kpA | apply Br.kn kpA | apply Br.nky kpA | apply Br.nkn kpA
    | fail) : goal := h k
/-- A step that makes a block. -/
theorem stB {goal next : Prop} (k : next) (h : next → goal := by first
    | exact fun k => TL.alloc_ag rfl k | exact fun k => TL.alloc_sc rfl rfl k | exact fun k => TL.box_ag rfl rfl k | exact fun k => TL.box_sc rfl rfl rfl k
    | fail) : goal := h k
/-- A step that parts. -/
theorem stC {goal next : Prop} (k : next) (h : next → goal := by first
    | exact Br.two Br.eq0 | exact Br.two Br.neq0 | exact Br.two Br.eq | exact Br.two Br.neq | exact Br.two Br.not | exact Br.two Br.dec | exact Br.two Br.bool
    | fail) : goal := h k
/-- A plain operation. -/
theorem wkP {goal next : Prop} (k : next) (h : next → goal := by first
    | exact fun k => TL.pure yA rfl k
    | fail) : goal := h k
theorem wkQ {goal next : Prop} (k : next) (h : next → goal := by first
    | exact fun k => TL.pure yQ rfl k
    | fail) : goal := h k
theorem wkV {goal next : Prop} (k : next) (h : next → goal := by first
    | exact fun k => TL.pure yV rfl k | exact fun k => TW.pure yV rfl k
    | fail) : goal := h k
/-- A step that leaves one goal, and does not go on to a next statement. -/
theorem wkZ {goal next : Prop} (k : next) (h : next → goal := by first
    | apply TC.seq_region | apply TC.region | apply TL.nil | apply TQ.then_normal
    | (intro k; (with_reducible apply TL.storeE); (· rfl); (· rfl); (· rfl); (· exact pkA); (· infer_instance); exact k) | (intro k; (with_reducible apply TL.store_whole); (· rfl); (· rfl); (· (clear k; exact oneA)); (· rfl); (· exact pkA); (· rfl); exact k)
    | apply TC.block | apply TC.ret | apply TC.skip | apply TC.exit | apply TC.cond rfl
    | apply TQ.down | apply TQ.in_exit' rfl
    | apply TL.guard_yes rfl rfl | apply TL.guard_no rfl rfl rfl rfl | apply TL.guard_no0 rfl rfl rfl | apply TL.guard_undef rfl rfl rfl | apply TL.guard_undef0 rfl rfl | apply TL.guard rfl rfl rfl
    | apply Br.t rfl | apply Br.f rfl | apply Br.ky kpA | apply Br.kn kpA | apply Br.nky kpA | apply Br.nkn kpA
    | fail) : goal := h k
/-- A call by its contract. -/
theorem wkD {P : Program} {f : FuncId} {args : Array Value} {g : Gh} {L : List Ent} {v : Value} {goal next : Prop} (D : Gives P f args g L v) (k : next) (h : Gives P f args g L v → next → goal := by
    intro D k; first
    | ((with_reducible apply TL.gives_plain); (· kernel_rfl); (· rfl); (· exact D); (· rfl); exact k)
    | ((with_reducible apply TW.gives_plain); (· kernel_rfl); (· rfl); (· exact D); (· rfl); exact k)
    | fail) : goal := h D k
/-- The value of an operation, one of those that are known. -/
theorem yW {Y : Prop} (h : Y := by first | exact yQ | exact yA | exact yB | exact yM | exact yV) : Y := h
theorem wkN0 {goal next : Prop} (k : next) (h : next → goal := by first
    | exact fun k => TA.takeN 0 rfl (by decide +kernel) rfl (by first | exact yQ | exact yA | exact yB | exact yM | exact yV) (by decide +kernel) (by decide +kernel) rfl (fun _ _ _ h => h) rfl k
    | fail) : goal := h k
theorem wkG0 {goal next : Prop} (k : next) (h : next → goal := by first
    | exact fun k => TA.take_gN 0 rfl (by decide +kernel) rfl rfl rfl (by first | exact yQ | exact yA | exact yB | exact yM | exact yV) (by decide +kernel) (by decide +kernel) rfl (fun _ _ _ h => h) rfl k
    | fail) : goal := h k
theorem wkX0 {goal next : Prop} (k : next) (h : next → goal := by first
    | exact fun k => TA.no_gN 0 rfl (by decide +kernel) rfl rfl rfl rfl (by decide +kernel) (by decide +kernel) rfl (fun _ _ _ h => h) rfl k
    | exact fun k => TA.no_uN 0 rfl (by decide +kernel) rfl rfl rfl (by decide +kernel) (by decide +kernel) rfl (fun _ _ _ h => h) rfl k
    | fail) : goal := h k
theorem wkN1 {goal next : Prop} (k : next) (h : next → goal := by first
    | exact fun k => TA.takeN 1 rfl (by decide +kernel) rfl (by first | exact yQ | exact yA | exact yB | exact yM | exact yV) (by decide +kernel) (by decide +kernel) rfl (fun _ _ _ h => h) rfl k
    | fail) : goal := h k
theorem wkG1 {goal next : Prop} (k : next) (h : next → goal := by first
    | exact fun k => TA.take_gN 1 rfl (by decide +kernel) rfl rfl rfl (by first | exact yQ | exact yA | exact yB | exact yM | exact yV) (by decide +kernel) (by decide +kernel) rfl (fun _ _ _ h => h) rfl k
    | fail) : goal := h k
theorem wkX1 {goal next : Prop} (k : next) (h : next → goal := by first
    | exact fun k => TA.no_gN 1 rfl (by decide +kernel) rfl rfl rfl rfl (by decide +kernel) (by decide +kernel) rfl (fun _ _ _ h => h) rfl k
    | exact fun k => TA.no_uN 1 rfl (by decide +kernel) rfl rfl rfl (by decide +kernel) (by decide +kernel) rfl (fun _ _ _ h => h) rfl k
    | fail) : goal := h k
theorem wkN2 {goal next : Prop} (k : next) (h : next → goal := by first
    | exact fun k => TA.takeN 2 rfl (by decide +kernel) rfl (by first | exact yQ | exact yA | exact yB | exact yM | exact yV) (by decide +kernel) (by decide +kernel) rfl (fun _ _ _ h => h) rfl k
    | fail) : goal := h k
theorem wkG2 {goal next : Prop} (k : next) (h : next → goal := by first
    | exact fun k => TA.take_gN 2 rfl (by decide +kernel) rfl rfl rfl (by first | exact yQ | exact yA | exact yB | exact yM | exact yV) (by decide +kernel) (by decide +kernel) rfl (fun _ _ _ h => h) rfl k
    | fail) : goal := h k
theorem wkX2 {goal next : Prop} (k : next) (h : next → goal := by first
    | exact fun k => TA.no_gN 2 rfl (by decide +kernel) rfl rfl rfl rfl (by decide +kernel) (by decide +kernel) rfl (fun _ _ _ h => h) rfl k
    | exact fun k => TA.no_uN 2 rfl (by decide +kernel) rfl rfl rfl (by decide +kernel) (by decide +kernel) rfl (fun _ _ _ h => h) rfl k
    | fail) : goal := h k
theorem wkN3 {goal next : Prop} (k : next) (h : next → goal := by first
    | exact fun k => TA.takeN 3 rfl (by decide +kernel) rfl (by first | exact yQ | exact yA | exact yB | exact yM | exact yV) (by decide +kernel) (by decide +kernel) rfl (fun _ _ _ h => h) rfl k
    | fail) : goal := h k
theorem wkG3 {goal next : Prop} (k : next) (h : next → goal := by first
    | exact fun k => TA.take_gN 3 rfl (by decide +kernel) rfl rfl rfl (by first | exact yQ | exact yA | exact yB | exact yM | exact yV) (by decide +kernel) (by decide +kernel) rfl (fun _ _ _ h => h) rfl k
    | fail) : goal := h k
theorem wkX3 {goal next : Prop} (k : next) (h : next → goal := by first
    | exact fun k => TA.no_gN 3 rfl (by decide +kernel) rfl rfl rfl rfl (by decide +kernel) (by decide +kernel) rfl (fun _ _ _ h => h) rfl k
    | exact fun k => TA.no_uN 3 rfl (by decide +kernel) rfl rfl rfl (by decide +kernel) (by decide +kernel) rfl (fun _ _ _ h => h) rfl k
    | fail) : goal := h k
theorem wkO0 {goal next : Prop} (k : next) (h : next → goal := by
    intro k; ((with_reducible apply TA.oneN 0); (· rfl); (· rfl); (· decide +kernel); (· rfl)); exact k) : goal := h k
theorem wkT0 {goal next Y : Prop} (y : Y) (k : next) (h : Y → next → goal := by first
    | exact fun y k => TA.takeN 0 rfl (by decide +kernel) rfl y (by decide +kernel) (by decide +kernel) rfl (fun _ _ _ h => h) rfl k
    | fail) : goal := h y k
theorem wkU0 {goal next Y : Prop} (y : Y) (k : next) (h : Y → next → goal := by first
    | exact fun y k => TA.take_gN 0 rfl (by decide +kernel) rfl rfl rfl y (by decide +kernel) (by decide +kernel) rfl (fun _ _ _ h => h) rfl k
    | fail) : goal := h y k
theorem wkO1 {goal next : Prop} (k : next) (h : next → goal := by
    intro k; ((with_reducible apply TA.oneN 1); (· rfl); (· rfl); (· decide +kernel); (· rfl)); exact k) : goal := h k
theorem wkT1 {goal next Y : Prop} (y : Y) (k : next) (h : Y → next → goal := by first
    | exact fun y k => TA.takeN 1 rfl (by decide +kernel) rfl y (by decide +kernel) (by decide +kernel) rfl (fun _ _ _ h => h) rfl k
    | fail) : goal := h y k
theorem wkU1 {goal next Y : Prop} (y : Y) (k : next) (h : Y → next → goal := by first
    | exact fun y k => TA.take_gN 1 rfl (by decide +kernel) rfl rfl rfl y (by decide +kernel) (by decide +kernel) rfl (fun _ _ _ h => h) rfl k
    | fail) : goal := h y k
theorem wkO2 {goal next : Prop} (k : next) (h : next → goal := by
    intro k; ((with_reducible apply TA.oneN 2); (· rfl); (· rfl); (· decide +kernel); (· rfl)); exact k) : goal := h k
theorem wkT2 {goal next Y : Prop} (y : Y) (k : next) (h : Y → next → goal := by first
    | exact fun y k => TA.takeN 2 rfl (by decide +kernel) rfl y (by decide +kernel) (by decide +kernel) rfl (fun _ _ _ h => h) rfl k
    | fail) : goal := h y k
theorem wkU2 {goal next Y : Prop} (y : Y) (k : next) (h : Y → next → goal := by first
    | exact fun y k => TA.take_gN 2 rfl (by decide +kernel) rfl rfl rfl y (by decide +kernel) (by decide +kernel) rfl (fun _ _ _ h => h) rfl k
    | fail) : goal := h y k
theorem wkO3 {goal next : Prop} (k : next) (h : next → goal := by
    intro k; ((with_reducible apply TA.oneN 3); (· rfl); (· rfl); (· decide +kernel); (· rfl)); exact k) : goal := h k
theorem wkT3 {goal next Y : Prop} (y : Y) (k : next) (h : Y → next → goal := by first
    | exact fun y k => TA.takeN 3 rfl (by decide +kernel) rfl y (by decide +kernel) (by decide +kernel) rfl (fun _ _ _ h => h) rfl k
    | fail) : goal := h y k
theorem wkU3 {goal next Y : Prop} (y : Y) (k : next) (h : Y → next → goal := by first
    | exact fun y k => TA.take_gN 3 rfl (by decide +kernel) rfl rfl rfl y (by decide +kernel) (by decide +kernel) rfl (fun _ _ _ h => h) rfl k
    | fail) : goal := h y k
theorem wkA (d : Nat) {P : Program} {n : Nat} {ds : List Deferred} {S : Slots} {g : Gh} {L : List Ent} {op : Op} {ty : TypeId} {pos : String} {aft : Array Edge} {v : Value} {goal next : Prop} (y : Yields P n ds S g L ⟨some d, op, ty, pos, aft, none⟩ v) (k : next) (h : Yields P n ds S g L ⟨some d, op, ty, pos, aft, none⟩ v → next → goal := by
    intro y k; first
    | ((with_reducible apply TL.pure); (· exact y); (· rfl); exact k)
    | ((with_reducible apply TW.pure); (· exact y); (· rfl); exact k)
    | fail) : goal := h y k
theorem wkM {goal next : Prop} (k : next) (h : next → goal := by first
    | exact fun k => TL.pure yM rfl k | exact fun k => TW.pure yM rfl k
    | fail) : goal := h k
theorem wkW {goal next : Prop} (k : next) (h : next → goal := by first
    | exact fun k => TC.region_draw (by kernel_rfl) (by kernel_rfl) k | exact fun k => TW.nil k | exact fun k => TW.pure yA rfl k
    | fail) : goal := h k
end Go.TL
namespace Go.Proofs.YtgollffmdpejiaaGreatDoor
open Go.RowKit

def heldB (n : Int) : Bool := decide (-9000000000000000000 ≤ n) && decide (n ≤ 9000000000000000000)
end Go.Proofs.YtgollffmdpejiaaGreatDoor
namespace Go.Proofs.YtgollffmdpejiaaGreatDoor
open Go.RowKit

def trimR (s : List UInt8) : List UInt8 := (s.reverse.dropWhile (· == 48)).reverse
theorem trimR_le (s : List UInt8) : (trimR s).length ≤ s.length := by
  rw [trimR, List.length_reverse]
  have := (List.dropWhile_sublist (l := s.reverse) (· == 48)).length_le
  simpa using this
end Go.Proofs.YtgollffmdpejiaaGreatDoor
namespace Go.Proofs.YtgollffmdpejiaaGreatDoor
open Go.RowKit

end Go.Proofs.YtgollffmdpejiaaGreatDoor
namespace Go.Proofs.YtgollffmdpejiaaGreatDoor
open Go.ChangeShapes Go.WideShapes Go.ChangeAt Go.RowKit

theorem own : ownKnob Tryz.prog.godebug = none := by kernel_rfl
theorem laidOut : laidOutB Tryz.prog = true := by kernel_rfl

theorem below_trodAll {H : Type} {enc : TypeId × Value → H} {P : Program} (hl : laidOutB P = true) {W W' : World} (hb : Below W.heap.size W W') :
    ∀ (ts : List TypeId) (vs : List Value) (ds : List (DataW H)) (ps : List MemPlace), (∀ t ∈ ts, P.readableRec t = true ∧ t < P.types.size) → DataW.TrodAll enc P W 0 (fun _ => true) true ts vs ds ps → (∀ x ∈ ps, x.block < W.heap.size) →
      DataW.TrodAll enc P W' 0 (fun b => decide (b < W.heap.size)) true ts vs ds ps
  | [], [], [], _, _, h, _ => h
  | t :: ts, v :: vs, d :: ds, ps, hr, h, hlt => by
    obtain ⟨p, q, h1, h2, rfl⟩ := h
    exact ⟨p, q, Below.trod hl (hr t List.mem_cons_self).1 (hr t List.mem_cons_self).2 h1 hb (fun x hx => hlt x (List.mem_append_left _ hx)),
      below_trodAll hl hb ts vs ds q (fun t ht => hr t (List.mem_cons_of_mem _ ht)) h2 (fun x hx => hlt x (List.mem_append_right _ hx)), rfl⟩
  | [], _ :: _, _, _, _, h, _ => h.elim
  | [], [], _ :: _, _, _, h, _ => h.elim
  | _ :: _, [], _, _, _, h, _ => h.elim
  | _ :: _, _ :: _, [], _, _, h, _ => h.elim

theorem law_post {H : Type} {enc : TypeId × Value → H} {P : Program} {f : Func} {s : ChangeSpec} {apart : Bool} {W W' : World} {args : Array Value} {ds gs : List (DataW H)} {before : List MemPlace} {tb : TypeId}
    (hl : laidOutB P = true) (hr : ∀ t ∈ f.params.toList, P.readableRec t = true ∧ t < P.types.size) (hvars : s.vars = []) (hspec : s.fn H ds = { results := [.lit (.bool true)], args := ds }) (hres : f.resultTypes = #[tb]) (htb : P.underlying tb = some .bool)
    (hW : DataW.Whole enc P f.params.toList s.vars apart W args.toList ds gs before) (hb : Below W.heap.size W W') : s.post enc P f apart true false false W args (.bool true) W' := by
  have hW0 := hW
  have hlt := hW.lt
  obtain ⟨p, q, hA, hV, rfl, _, _⟩ := hW
  rw [hvars] at hV
  obtain ⟨rfl, rfl⟩ := trodVars_none hV
  refine ⟨ds, [], p ++ [], [], p, [], hW0, ?_, ?_, ?_, hb.frame _, fun h => by cases h⟩
  · rw [List.append_nil, hspec, hres]
    exact trodAll_mk1 (shut_bool htb true)
  · rw [List.append_nil, hspec]
    exact below_trodAll hl hb _ _ _ _ hr hA (fun x hx => hlt x (by simpa using hx))
  · rw [hvars, List.append_nil, hspec]
    rfl
end Go.Proofs.YtgollffmdpejiaaGreatDoor
