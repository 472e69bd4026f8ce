/-
  Loops over an iterator: code in a round, calls of yield, the loop's law, a function's end behind such loops.
-/
import Derived.Test.YtfanccddokckcaaGreatDoorSb3
import Derived.RangeFuncSeq
import Derived.RangeFuncNested
import Derived.OrdersIn
import Derived.TacticsIn
namespace Go.TL
open Go Go.RowKit Go.Proofs.YtfanccddokckcaaGreatDoor
set_option maxRecDepth 100000
/-! ### From the plain walk to that in a round -/
abbrev wideR (r : Option Nat) : Fence := { Fence.wide with round := r }
def isDefer : Op → Bool
  | .defer _ => true
  | _ => false
class NL (Q : Exit → Act → World → Prop) : Prop where
  h : ¬ LetsOut Q
section
variable {P : Program} {ops : Array Oper} {Q : Exit → Act → World → Prop} {md : Region.Mode} {r : Option Nat}
theorem calls_in {f : FuncId} {args : Array Value} {w : World} {R : Ending → World → Prop} (h : Calls P f args w R) : CallsIn (wideR r) 0 P f args w R := (callsIn_wide (n := 0)).2 h
theorem rows_in {row : String} {args : Array Value} {w : World} {R : Value → World → Prop} (h : Go.Rows P row args w R) : RowsIn (wideR r) 0 P row args w R := fun c cs _ => by
  obtain ⟨v, w', hR, hs⟩ := h c cs
  exact ⟨v, w', hR, StepsIn.mono (fun m _ => fenced_wide P m) (StepsIn.of_steps hs)⟩
theorem oper_in {o : Oper} {a : Act} {w : World} {K : Act → World → Prop} (hd : isDefer o.op = false) (h : o.wp P a w K Q) : o.wpIn (wideR r) 0 P a w K Q := by
  unfold Oper.wp at h
  unfold Oper.wpIn
  refine ⟨fun _ _ => trivial, ?_⟩
  rw [Oper.semAt_eq _ _ _ (fun c hc => by rw [hc] at hd; cases hd)]
  generalize (execOp a.eval o).run P w = res at h ⊢
  cases res with
  | ok x w' =>
    cases x <;> simp only [Oper.upon, Oper.uponIn] at h ⊢ <;>
      first
        | exact h
        | exact ⟨fun h => (by cases h), calls_in h⟩
        | exact ⟨fun h => (by cases h), rows_in h⟩
        | exact False.elim h
  | halt x w' => cases x <;> simp only [Oper.upon, Oper.uponIn] at h ⊢ <;> first | exact h | exact False.elim h
theorem list_in [hQ : NL Q] : ∀ (l : List Oper) (a : Act) (w : World), (l.all fun o => !isDefer o.op) = true → wpList P ops Q l a w → wpListIn (wideR r) 0 P ops Q l a w
  | [], _, _, _, h => h
  | o :: rest, a, w, hd, h => by
    rw [List.all_cons, Bool.and_eq_true] at hd
    unfold wpList at h
    unfold wpListIn
    split
    · rename_i hw
      rw [if_pos hw] at h
      rcases h with h | h
      · exact Oper.wpIn_mono (fun a w => list_in rest a w hd.2) (oper_in (by simpa using hd.1) h)
      · exact absurd h.2 hQ.h
    · rename_i hw
      rw [if_neg hw] at h
      exact ⟨fun _ _ => trivial, list_in rest _ _ hd.2 h⟩
theorem op_in [hQ : NL Q] {i : Nat} {K : Act → World → Prop} {a : Act} {w : World} (hd : (ops.all fun o => !isDefer o.op) = true) (h : wpOp P ops Q i K a w) : wpOpIn (wideR r) 0 P ops Q i K a w := by
  unfold wpOp at h
  unfold wpOpIn
  cases ho : ops[i]? with
  | none => rw [ho] at h; exact h
  | some o =>
    rw [ho] at h
    dsimp only at h ⊢
    split
    · rename_i hw
      rw [if_pos hw] at h
      rcases h with h | h
      · obtain ⟨hi, he⟩ := Array.getElem?_eq_some_iff.1 ho
        exact oper_in (by have := Array.all_eq_true.1 hd i hi; rw [he] at this; simpa using this) h
      · exact absurd h.2 hQ.h
    · rename_i hw
      rw [if_neg hw] at h
      exact ⟨fun _ _ => trivial, h⟩
theorem any_in [hQ : NL Q] (hd : (ops.all fun o => !isDefer o.op) = true) : ∀ (fuel : Nat) (listed : Array Bool) (a : Act) (w : World), wpAny P md ops Q fuel listed a w → wpAnyIn (wideR r) 0 P md ops Q fuel listed a w
  | 0, _, _, _, h => h
  | fuel + 1, _, _, _, h => ⟨h.1, fun i hi => wpOpIn_mono (fun a w => any_in hd fuel _ a w) (op_in hd (h.2 i hi))⟩
end

/-! ### Code in a round -/
structure TR (P : Program) (r : Nat) (Q : Exit → Act → World → Prop) (c : Code) (n : Nat) (ds : List Deferred) (S : Slots) (g : Gh) (L : List Ent) : Prop where
  h : ∀ a w, Fr n ds S a → St g L w → c.wpIn (wideR (some r)) 0 P Q a w
def ThenR (P : Program) (r : Nat) (y : Code) (Q : Exit → Act → World → Prop) : Exit → Act → World → Prop := Exit.then (y.wpIn (wideR (some r)) 0 P Q) Q
instance {K : Act → World → Prop} {Q : Exit → Act → World → Prop} [h : NL Q] : NL (Exit.then K Q) := ⟨fun ⟨a, w, k⟩ => h.h ⟨a, w, k⟩⟩
instance {id : Nat} {Q : Exit → Act → World → Prop} [h : NL Q] : NL (Exit.inBlock id Q) := ⟨fun ⟨a, w, k⟩ => h.h ⟨a, w, k⟩⟩
instance {P : Program} {r : Nat} {y : Code} {Q : Exit → Act → World → Prop} [h : NL Q] : NL (ThenR P r y Q) := ⟨fun ⟨a, w, k⟩ => h.h ⟨a, w, k⟩⟩
instance {P : Program} {y : Code} {Q : Exit → Act → World → Prop} [h : NL Q] : NL (Then P y Q) := ⟨fun ⟨a, w, k⟩ => h.h ⟨a, w, k⟩⟩
section
variable {P : Program} {r : Nat} {Q : Exit → Act → World → Prop} {n : Nat} {ds : List Deferred} {S : Slots} {g : Gh} {L : List Ent}
theorem TR.seq {x y : Code} (h : TR P r (ThenR P r y Q) x n ds S g L) : TR P r Q (x.seq y) n ds S g L := .mk fun a w hf hs => wpIn_seq (h.h a w hf hs)
theorem TQ.then_R {y : Code} (h : TR P r Q y n ds S g L) : TQ (ThenR P r y Q) .normal n ds S g L := ⟨h.h⟩
instance {y : Code} : Down (ThenR P r y Q) .ret Q .ret := ⟨fun _ _ h => h⟩
instance {y : Code} {id : Nat} : Down (ThenR P r y Q) (.exit id) Q (.exit id) := ⟨fun _ _ h => h⟩
instance {y : Code} {c : List PanicEntry} : Down (ThenR P r y Q) (.panic c) Q (.panic c) := ⟨fun _ _ h => h⟩
theorem TR.block {id : Nat} {c : Code} (h : TR P r (Exit.inBlock id Q) c n ds S g L) : TR P r Q (.block id c) n ds S g L := .mk fun a w hf hs => wpIn_block (h.h a w hf hs)
theorem TR.skip (h : TQ Q .normal n ds S g L) : TR P r Q .skip n ds S g L := .mk fun a w hf hs => wpIn_skip (h.h a w hf hs)
theorem TR.ret (h : TQ Q .ret n ds S g L) : TR P r Q .ret n ds S g L := .mk fun a w hf hs => wpIn_ret (h.h a w hf hs)
theorem TR.exit {id : Nat} (h : TQ Q (.exit id) n ds S g L) : TR P r Q (.exit id) n ds S g L := .mk fun a w hf hs => wpIn_exit (h.h a w hf hs)
theorem TR.cond {c : Operand} {b : Bool} {x y : Code} (hc : ev S c = some (.bool b)) (h : Br b (TR P r Q x n ds S g L) (TR P r Q y n ds S g L)) : TR P r Q (.cond c x y) n ds S g L := .mk fun a w hf hs => by
  cases b with
  | false => exact wpIn_cond_false (hf.ev hc) ((h.n rfl).h a w hf hs)
  | true => exact wpIn_cond_true (hf.ev hc) ((h.y rfl).h a w hf hs)
theorem TR.region {id : Nat} {l : List Oper} [NL Q] (hd : (l.all fun o => !isDefer o.op) = true) (h : TL P l.toArray Q l n ds S g L) : TR P r Q (.region id l.toArray false) n ds S g L := .mk fun a w hf hs =>
  wpIn_region_lit (list_in l a w hd (h.h a w hf hs))
theorem TR.region_any {id : Nat} {l : List Oper} [NL Q] (N : Nat) (LS : List Ent) (hm : P.follows .mixedOrders = true) (hd : (l.toArray.all fun o => !isDefer o.op) = true) (hN : l.length = N) (hS : Sel LS L) (h : TA P l.toArray Q g LS N (Array.replicate N false) n ds S g L) : TR P r Q (.region id l.toArray true) n ds S g L := .mk fun a w hf hs => by
  subst hN
  refine wpIn_region_any hm (any_in hd _ _ _ _ (wpAny_of_held (S := St g LS) _ _ _ _ ?_))
  simp only [List.size_toArray]
  exact h.h a _ hf hs.drew (hs.drew.sel hS)
theorem TR.weak {c : Code} {S' : Slots} {L' : List Ent} (h : TR P r Q c n ds S' g L') (hS : Sub S' S) (hL : Sel L' L) : TR P r Q c n ds S g L := .mk fun a w hf hs => h.h a w (hf.sub hS) (hs.sel hL)
theorem TR.perm {c : Code} {L' : List Ent} (h : TR P r Q c n ds S g L') (hL : L'.Perm L) : TR P r Q c n ds S g L := .mk fun a w hf hs => h.h a w hf (hs.perm hL)
theorem TR.less {c : Code} {g0 : Gh} (hg : g0.le g) (h : TR P r Q c n ds S g0 L) : TR P r Q c n ds S g L := .mk fun a w hf hs => h.h a w hf (hs.less hg)
end
/-! ### Operations, one of which calls yield -/
structure TY (P : Program) (r : Option Nat) (ops : Array Oper) (Q : Exit → Act → World → Prop) (l : List Oper) (n : Nat) (ds : List Deferred) (S : Slots) (g : Gh) (L : List Ent) : Prop where
  h : ∀ a w, Fr n ds S a → St g L w → wpListIn (wideR r) 0 P ops Q l a w
structure Yld (P : Program) (l : Nat) (args : Array Value) (g : Gh) (L : List Ent) (R : Bool → Gh → List Ent → Prop) : Prop where
  h : ∀ w, St g L w → YieldAt Fence.wide 0 P l args w fun e w' => ∃ b g' L', e = .returned (.bool b) ∧ g.le g' ∧ R b g' L' ∧ St g' L' w'
def YQ (P : Program) (r : Option Nat) (ops : Array Oper) (Q : Exit → Act → World → Prop) (rest : List Oper) : Exit → Act → World → Prop := Exit.then (wpListIn (wideR r) 0 P ops Q rest) Q
section
variable {P : Program} {r : Option Nat} {ops : Array Oper} {Q : Exit → Act → World → Prop} {l rest : List Oper} {n : Nat} {ds : List Deferred} {S : Slots} {g : Gh} {L : List Ent}
instance [h : NL Q] : NL (YQ P r ops Q rest) := ⟨fun ⟨a, w, k⟩ => h.h ⟨a, w, k⟩⟩
theorem list_split {F : Fence} {k : Nat} : ∀ (l1 : List Oper) (a : Act) (w : World), wpListIn F k P ops (Exit.then (wpListIn F k P ops Q rest) Q) l1 a w → wpListIn F k P ops Q (l1 ++ rest) a w
  | [], _, _, h => h
  | o :: l1, a, w, h => by
    unfold wpListIn at h
    rw [List.cons_append]
    unfold wpListIn
    split
    · rename_i hw
      rw [if_pos hw] at h
      refine ⟨h.1, ?_⟩
      have h2 := (Oper.wpIn_mono (fun a w => list_split l1 a w) h).2
      generalize (o.semAt F.round a.eval).run P w = res at h2 ⊢
      cases res with
      | ok x w' => cases x <;> exact h2
      | halt x w' => cases x <;> exact h2
    · rename_i hw
      rw [if_neg hw] at h
      exact ⟨h.1, list_split l1 _ _ h.2⟩
theorem TY.pre [NL Q] (k : Nat) (hd : ((l.take k).all fun o => !isDefer o.op) = true) (h : TL P ops (YQ P r ops Q (l.drop k)) (l.take k) n ds S g L) : TY P r ops Q l n ds S g L := .mk fun a w hf hs => by
  have := list_split (l.take k) a w (list_in (Q := YQ P r ops Q (l.drop k)) (r := r) _ a w hd (h.h a w hf hs))
  rwa [List.take_append_drop] at this
theorem TQ.then_Y (h : TY P r ops Q rest n ds S g L) : TQ (YQ P r ops Q rest) .normal n ds S g L := ⟨h.h⟩
theorem TY.fin [NL Q] (hd : (l.all fun o => !isDefer o.op) = true) (h : TL P ops Q l n ds S g L) : TY P r ops Q l n ds S g L := .mk fun a w hf hs => list_in l a w hd (h.h a w hf hs)
theorem TY.call {d t : Nat} {x : Operand} {xs : List Operand} {vs : List Value} {ats : Array TypeId} {ty : TypeId} {pos : String} {aft : Array Edge} {R : Bool → Gh → List Ent → Prop} (hx : ev S x = some (.func (.yield t) #[] #[])) (hv : evs S xs = some vs) (hd : Nat.blt d n = true) (hy : Yld P t vs.toArray g L R)
    (k : ∀ b g' L', g.le g' → R b g' L' → TY P r ops Q rest n ds ((d, .bool b) :: S) g' L') : TY P r ops Q (⟨some d, .call { callee := .value x, args := xs.toArray, argTypes := ats }, ty, pos, aft, none⟩ :: rest) n ds S g L := .mk fun a w hf hs => by
  obtain ⟨fn, tmps, assign, body, hrun, hR⟩ := hy.h w hs
  unfold wpListIn
  rw [if_pos (by rfl)]
  refine ⟨fun _ _ => trivial, ?_⟩
  have h1 := hf.evs hv
  have hrun2 : (execOp a.eval ⟨some d, .call { callee := .value x, args := xs.toArray, argTypes := ats }, ty, pos, aft, none⟩).run P w = .ok (.round t fn tmps assign body) w := by
    simp [execOp, resolve, invoke, Deferred.ofValue, hf.ev hx, h1]
    simpa using hrun
  rw [Oper.semAt_eq _ _ _ (fun c hc => by cases hc), hrun2]
  refine ⟨fun h => (by cases h), RoundIn.mono hR ?_⟩
  rintro e w' ⟨b, g', L', rfl, hg, hr, hs'⟩
  exact (k b g' L' hg hr).h _ w' (hf.put hd _) hs'
theorem Yld.perm {t : Nat} {args : Array Value} {L' : List Ent} {R : Bool → Gh → List Ent → Prop} (h : Yld P t args g L' R) (hL : L'.Perm L) : Yld P t args g L R := .mk fun w hs => h.h w (hs.perm hL)
theorem TC.region_Y {id : Nat} {l : List Oper} (h : TY P none l.toArray Q l n ds S g L) : TC P Q (.region id l.toArray false) n ds S g L := .mk fun a w hf hs => (wpIn_wide (n := 0)).1 (wpIn_region_lit (h.h a w hf hs))
theorem TR.region_Y {id t : Nat} {l : List Oper} (h : TY P (some t) l.toArray Q l n ds S g L) : TR P t Q (.region id l.toArray false) n ds S g L := .mk fun a w hf hs => wpIn_region_lit (h.h a w hf hs)
end
end Go.TL
