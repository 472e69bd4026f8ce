/-
  Loops over an iterator: code in a round, calls of yield, the loop's law, a function's end behind such loops. The law of a loop over an iterator; a function's end behind such loops.
-/
import Derived.Test.YtfanccddokckcaaGreatDoorSt2
import Derived.RangeFuncSeq
import Derived.RangeFuncNested
import Derived.OrdersIn
import Derived.TacticsIn
import Derived.RangeFuncLeaves
namespace Go.TL
open Go Go.RowKit Go.Proofs.YtfanccddokckcaaGreatDoor
set_option maxRecDepth 100000
/-! ### From the plain walk to that in a round -/
abbrev wideR (r : Option Nat) : Fence := { Fence.wide with round := r }
def isDefer : Op → Bool
  | .defer _ => true
  | _ => false
class NL (Q : Exit → Act → World → Prop) : Prop where
  h : ¬ LetsOut Q
section
variable {P : Program} {ops : Array Oper} {Q : Exit → Act → World → Prop} {md : Region.Mode} {r : Option Nat}
theorem calls_in {f : FuncId} {args : Array Value} {w : World} {R : Ending → World → Prop} (h : Calls P f args w R) : CallsIn (wideR r) 0 P f args w R := (callsIn_wide (n := 0)).2 h
theorem rows_in {row : String} {args : Array Value} {w : World} {R : Value → World → Prop} (h : Go.Rows P row args w R) : RowsIn (wideR r) 0 P row args w R := fun c cs _ => by
  obtain ⟨v, w', hR, hs⟩ := h c cs
  exact ⟨v, w', hR, StepsIn.mono (fun m _ => fenced_wide P m) (StepsIn.of_steps hs)⟩
theorem oper_in {o : Oper} {a : Act} {w : World} {K : Act → World → Prop} (hd : isDefer o.op = false) (h : o.wp P a w K Q) : o.wpIn (wideR r) 0 P a w K Q := by
  unfold Oper.wp at h
  unfold Oper.wpIn
  refine ⟨fun _ _ => trivial, ?_⟩
  rw [Oper.semAt_eq _ _ _ (fun c hc => by rw [hc] at hd; cases hd)]
  generalize (execOp a.eval o).run P w = res at h ⊢
  cases res with
  | ok x w' =>
    cases x <;> simp only [Oper.upon, Oper.uponIn] at h ⊢ <;>
      first
        | exact h
        | exact ⟨fun h => (by cases h), calls_in h⟩
        | exact ⟨fun h => (by cases h), rows_in h⟩
        | exact False.elim h
  | halt x w' => cases x <;> simp only [Oper.upon, Oper.uponIn] at h ⊢ <;> first | exact h | exact False.elim h
theorem list_in [hQ : NL Q] : ∀ (l : List Oper) (a : Act) (w : World), (l.all fun o => !isDefer o.op) = true → wpList P ops Q l a w → wpListIn (wideR r) 0 P ops Q l a w
  | [], _, _, _, h => h
  | o :: rest, a, w, hd, h => by
    rw [List.all_cons, Bool.and_eq_true] at hd
    unfold wpList at h
    unfold wpListIn
    split
    · rename_i hw
      rw [if_pos hw] at h
      rcases h with h | h
      · exact Oper.wpIn_mono (fun a w => list_in rest a w hd.2) (oper_in (by simpa using hd.1) h)
      · exact absurd h.2 hQ.h
    · rename_i hw
      rw [if_neg hw] at h
      exact ⟨fun _ _ => trivial, list_in rest _ _ hd.2 h⟩
theorem op_in [hQ : NL Q] {i : Nat} {K : Act → World → Prop} {a : Act} {w : World} (hd : (ops.all fun o => !isDefer o.op) = true) (h : wpOp P ops Q i K a w) : wpOpIn (wideR r) 0 P ops Q i K a w := by
  unfold wpOp at h
  unfold wpOpIn
  cases ho : ops[i]? with
  | none => rw [ho] at h; exact h
  | some o =>
    rw [ho] at h
    dsimp only at h ⊢
    split
    · rename_i hw
      rw [if_pos hw] at h
      rcases h with h | h
      · obtain ⟨hi, he⟩ := Array.getElem?_eq_some_iff.1 ho
        exact oper_in (by have := Array.all_eq_true.1 hd i hi; rw [he] at this; simpa using this) h
      · exact absurd h.2 hQ.h
    · rename_i hw
      rw [if_neg hw] at h
      exact ⟨fun _ _ => trivial, h⟩
theorem any_in [hQ : NL Q] (hd : (ops.all fun o => !isDefer o.op) = true) : ∀ (fuel : Nat) (listed : Array Bool) (a : Act) (w : World), wpAny P md ops Q fuel listed a w → wpAnyIn (wideR r) 0 P md ops Q fuel listed a w
  | 0, _, _, _, h => h
  | fuel + 1, _, _, _, h => ⟨h.1, fun i hi => wpOpIn_mono (fun a w => any_in hd fuel _ a w) (op_in hd (h.2 i hi))⟩
end

/-! ### Code in a round -/
structure TR (P : Program) (r : Nat) (Q : Exit → Act → World → Prop) (c : Code) (n : Nat) (ds : List Deferred) (S : Slots) (g : Gh) (L : List Ent) : Prop where
  h : ∀ a w, Fr n ds S a → St g L w → c.wpIn (wideR (some r)) 0 P Q a w
def ThenR (P : Program) (r : Nat) (y : Code) (Q : Exit → Act → World → Prop) : Exit → Act → World → Prop := Exit.then (y.wpIn (wideR (some r)) 0 P Q) Q
instance {K : Act → World → Prop} {Q : Exit → Act → World → Prop} [h : NL Q] : NL (Exit.then K Q) := ⟨fun ⟨a, w, k⟩ => h.h ⟨a, w, k⟩⟩
instance {id : Nat} {Q : Exit → Act → World → Prop} [h : NL Q] : NL (Exit.inBlock id Q) := ⟨fun ⟨a, w, k⟩ => h.h ⟨a, w, k⟩⟩
instance {P : Program} {r : Nat} {y : Code} {Q : Exit → Act → World → Prop} [h : NL Q] : NL (ThenR P r y Q) := ⟨fun ⟨a, w, k⟩ => h.h ⟨a, w, k⟩⟩
instance {P : Program} {y : Code} {Q : Exit → Act → World → Prop} [h : NL Q] : NL (Then P y Q) := ⟨fun ⟨a, w, k⟩ => h.h ⟨a, w, k⟩⟩
section
variable {P : Program} {r : Nat} {Q : Exit → Act → World → Prop} {n : Nat} {ds : List Deferred} {S : Slots} {g : Gh} {L : List Ent}
theorem TR.seq {x y : Code} (h : TR P r (ThenR P r y Q) x n ds S g L) : TR P r Q (x.seq y) n ds S g L := .mk fun a w hf hs => wpIn_seq (h.h a w hf hs)
theorem TQ.then_R {y : Code} (h : TR P r Q y n ds S g L) : TQ (ThenR P r y Q) .normal n ds S g L := ⟨h.h⟩
instance {y : Code} : Down (ThenR P r y Q) .ret Q .ret := ⟨fun _ _ h => h⟩
instance {y : Code} {id : Nat} : Down (ThenR P r y Q) (.exit id) Q (.exit id) := ⟨fun _ _ h => h⟩
instance {y : Code} {c : List PanicEntry} : Down (ThenR P r y Q) (.panic c) Q (.panic c) := ⟨fun _ _ h => h⟩
theorem TR.block {id : Nat} {c : Code} (h : TR P r (Exit.inBlock id Q) c n ds S g L) : TR P r Q (.block id c) n ds S g L := .mk fun a w hf hs => wpIn_block (h.h a w hf hs)
theorem TR.skip (h : TQ Q .normal n ds S g L) : TR P r Q .skip n ds S g L := .mk fun a w hf hs => wpIn_skip (h.h a w hf hs)
theorem TR.ret (h : TQ Q .ret n ds S g L) : TR P r Q .ret n ds S g L := .mk fun a w hf hs => wpIn_ret (h.h a w hf hs)
theorem TR.exit {id : Nat} (h : TQ Q (.exit id) n ds S g L) : TR P r Q (.exit id) n ds S g L := .mk fun a w hf hs => wpIn_exit (h.h a w hf hs)
theorem TR.cond {c : Operand} {b : Bool} {x y : Code} (hc : ev S c = some (.bool b)) (h : Br b (TR P r Q x n ds S g L) (TR P r Q y n ds S g L)) : TR P r Q (.cond c x y) n ds S g L := .mk fun a w hf hs => by
  cases b with
  | false => exact wpIn_cond_false (hf.ev hc) ((h.n rfl).h a w hf hs)
  | true => exact wpIn_cond_true (hf.ev hc) ((h.y rfl).h a w hf hs)
theorem TR.region {id : Nat} {l : List Oper} [NL Q] (hd : (l.all fun o => !isDefer o.op) = true) (h : TL P l.toArray Q l n ds S g L) : TR P r Q (.region id l.toArray false) n ds S g L := .mk fun a w hf hs =>
  wpIn_region_lit (list_in l a w hd (h.h a w hf hs))
theorem TR.region_any {id : Nat} {l : List Oper} [NL Q] (N : Nat) (LS : List Ent) (hm : P.follows .mixedOrders = true) (hd : (l.toArray.all fun o => !isDefer o.op) = true) (hN : l.length = N) (hS : Sel LS L) (h : TA P l.toArray Q g LS N (Array.replicate N false) n ds S g L) : TR P r Q (.region id l.toArray true) n ds S g L := .mk fun a w hf hs => by
  subst hN
  refine wpIn_region_any hm (any_in hd _ _ _ _ (wpAny_of_held (S := St g LS) _ _ _ _ ?_))
  simp only [List.size_toArray]
  exact h.h a _ hf hs.drew (hs.drew.sel hS)
theorem TR.weak {c : Code} {S' : Slots} {L' : List Ent} (h : TR P r Q c n ds S' g L') (hS : Sub S' S) (hL : Sel L' L) : TR P r Q c n ds S g L := .mk fun a w hf hs => h.h a w (hf.sub hS) (hs.sel hL)
theorem TR.perm {c : Code} {L' : List Ent} (h : TR P r Q c n ds S g L') (hL : L'.Perm L) : TR P r Q c n ds S g L := .mk fun a w hf hs => h.h a w hf (hs.perm hL)
theorem TR.less {c : Code} {g0 : Gh} (hg : g0.le g) (h : TR P r Q c n ds S g0 L) : TR P r Q c n ds S g L := .mk fun a w hf hs => h.h a w hf (hs.less hg)
end
/-! ### Operations, one of which calls yield -/
structure TY (P : Program) (r : Option Nat) (ops : Array Oper) (Q : Exit → Act → World → Prop) (l : List Oper) (n : Nat) (ds : List Deferred) (S : Slots) (g : Gh) (L : List Ent) : Prop where
  h : ∀ a w, Fr n ds S a → St g L w → wpListIn (wideR r) 0 P ops Q l a w
structure Yld (P : Program) (l : Nat) (args : Array Value) (g : Gh) (L : List Ent) (R : Bool → Gh → List Ent → Prop) : Prop where
  h : ∀ w, St g L w → YieldAt Fence.wide 0 P l args w fun e w' => ∃ b g' L', e = .returned (.bool b) ∧ g.le g' ∧ R b g' L' ∧ St g' L' w'
def YQ (P : Program) (r : Option Nat) (ops : Array Oper) (Q : Exit → Act → World → Prop) (rest : List Oper) : Exit → Act → World → Prop := Exit.then (wpListIn (wideR r) 0 P ops Q rest) Q
section
variable {P : Program} {r : Option Nat} {ops : Array Oper} {Q : Exit → Act → World → Prop} {l rest : List Oper} {n : Nat} {ds : List Deferred} {S : Slots} {g : Gh} {L : List Ent}
instance [h : NL Q] : NL (YQ P r ops Q rest) := ⟨fun ⟨a, w, k⟩ => h.h ⟨a, w, k⟩⟩
theorem list_split {F : Fence} {k : Nat} : ∀ (l1 : List Oper) (a : Act) (w : World), wpListIn F k P ops (Exit.then (wpListIn F k P ops Q rest) Q) l1 a w → wpListIn F k P ops Q (l1 ++ rest) a w
  | [], _, _, h => h
  | o :: l1, a, w, h => by
    unfold wpListIn at h
    rw [List.cons_append]
    unfold wpListIn
    split
    · rename_i hw
      rw [if_pos hw] at h
      refine ⟨h.1, ?_⟩
      have h2 := (Oper.wpIn_mono (fun a w => list_split l1 a w) h).2
      generalize (o.semAt F.round a.eval).run P w = res at h2 ⊢
      cases res with
      | ok x w' => cases x <;> exact h2
      | halt x w' => cases x <;> exact h2
    · rename_i hw
      rw [if_neg hw] at h
      exact ⟨h.1, list_split l1 _ _ h.2⟩
theorem TY.pre [NL Q] (k : Nat) (hd : ((l.take k).all fun o => !isDefer o.op) = true) (h : TL P ops (YQ P r ops Q (l.drop k)) (l.take k) n ds S g L) : TY P r ops Q l n ds S g L := .mk fun a w hf hs => by
  have := list_split (l.take k) a w (list_in (Q := YQ P r ops Q (l.drop k)) (r := r) _ a w hd (h.h a w hf hs))
  rwa [List.take_append_drop] at this
theorem TQ.then_Y (h : TY P r ops Q rest n ds S g L) : TQ (YQ P r ops Q rest) .normal n ds S g L := ⟨h.h⟩
theorem TY.fin [NL Q] (hd : (l.all fun o => !isDefer o.op) = true) (h : TL P ops Q l n ds S g L) : TY P r ops Q l n ds S g L := .mk fun a w hf hs => list_in l a w hd (h.h a w hf hs)
theorem TY.call {d t : Nat} {x : Operand} {xs : List Operand} {vs : List Value} {ats : Array TypeId} {ty : TypeId} {pos : String} {aft : Array Edge} {R : Bool → Gh → List Ent → Prop} (hx : ev S x = some (.func (.yield t) #[] #[])) (hv : evs S xs = some vs) (hd : Nat.blt d n = true) (hy : Yld P t vs.toArray g L R)
    (k : ∀ b g' L', g.le g' → R b g' L' → TY P r ops Q rest n ds ((d, .bool b) :: S) g' L') : TY P r ops Q (⟨some d, .call { callee := .value x, args := xs.toArray, argTypes := ats }, ty, pos, aft, none⟩ :: rest) n ds S g L := .mk fun a w hf hs => by
  obtain ⟨fn, tmps, assign, body, hrun, hR⟩ := hy.h w hs
  unfold wpListIn
  rw [if_pos (by rfl)]
  refine ⟨fun _ _ => trivial, ?_⟩
  have h1 := hf.evs hv
  have hrun2 : (execOp a.eval ⟨some d, .call { callee := .value x, args := xs.toArray, argTypes := ats }, ty, pos, aft, none⟩).run P w = .ok (.round t fn tmps assign body) w := by
    simp [execOp, resolve, invoke, Deferred.ofValue, hf.ev hx, h1]
    simpa using hrun
  rw [Oper.semAt_eq _ _ _ (fun c hc => by cases hc), hrun2]
  refine ⟨fun h => (by cases h), RoundIn.mono hR ?_⟩
  rintro e w' ⟨b, g', L', rfl, hg, hr, hs'⟩
  exact (k b g' L' hg hr).h _ w' (hf.put hd _) hs'
theorem Yld.perm {t : Nat} {args : Array Value} {L' : List Ent} {R : Bool → Gh → List Ent → Prop} (h : Yld P t args g L' R) (hL : L'.Perm L) : Yld P t args g L R := .mk fun w hs => h.h w (hs.perm hL)
theorem TC.region_Y {id : Nat} {l : List Oper} (h : TY P none l.toArray Q l n ds S g L) : TC P Q (.region id l.toArray false) n ds S g L := .mk fun a w hf hs => (wpIn_wide (n := 0)).1 (wpIn_region_lit (h.h a w hf hs))
theorem TR.region_Y {id t : Nat} {l : List Oper} (h : TY P (some t) l.toArray Q l n ds S g L) : TR P t Q (.region id l.toArray false) n ds S g L := .mk fun a w hf hs => wpIn_region_lit (h.h a w hf hs)
end
end Go.TL
namespace Go.TL
open Go Go.RowKit Go.Proofs.YtfanccddokckcaaGreatDoor
set_option maxRecDepth 100000
theorem St.putObj {g : Gh} {L : List Ent} {b : Nat} {o : Obj} {w : World} (o' : Obj) (h : St g (.obj b o :: L) w) : St g (.obj b o' :: L) (w.putObj b o') := h.setObj_at
theorem St.at {g : Gh} {L : List Ent} {b : Nat} {o : Obj} {w : World} (h : St g (.obj b o :: L) w) : w.heap[b]? = some o := h.st _ List.mem_cons_self
structure IsRec (rc : LoopState → Option Code → Loop) : Prop where
  state : ∀ s p, (rc s p).state = s
  put : ∀ s p s', { rc s p with state := s' } = rc s' p
  put2 : ∀ s p s' p', { rc s p with state := s', pending := p' } = rc s' p'
structure Iter (P : Program) (gf : Nat) (lb : Array Value) (xs : List (Array Value)) (g : Gh) : Prop where
  h : ∀ (l : Nat) (I : Nat → Gh → List Ent → Prop) (X : Gh → List Ent → Prop), (∀ i g1 g2 L1, I i g1 L1 → g1.le g2 → I i g2 L1) → (∀ g1 g2 L1, X g1 L1 → g1.le g2 → X g2 L1) →
    (∀ i x g1 L1 M, xs[i]? = some x → g.le g1 → I i g1 L1 → Yld P l x g1 (L1 ++ M) fun b g2 L2 => ∃ L3, L2 = L3 ++ M ∧ (match b with
      | true => I (i + 1) g2 L3
      | false => X g2 L3)) →
    ∀ g1 L1 M, g.le g1 → I 0 g1 L1 → Does P gf (#[.func (.yield l) #[] #[]] ++ lb) g1 (L1 ++ M) fun e g2 L2 => ∃ v L3, e = .returned v ∧ L2 = L3 ++ M ∧ (I xs.length g2 L3 ∨ X g2 L3)
theorem Iter.le {P : Program} {gf : Nat} {lb : Array Value} {xs : List (Array Value)} {g g' : Gh} (h : Iter P gf lb xs g) (hg : g.le g') : Iter P gf lb xs g' :=
  ⟨fun l I X hM hX hY g1 L1 M h1 h0 => h.h l (fun i g2 L2 => I i g2 L2 ∧ g'.le g2) X (fun i g2 g3 L2 h2 h3 => ⟨hM i g2 g3 L2 h2.1 h3, h2.2.trans h3⟩) hX (fun i x g2 L2 M2 hx _ hI => by
    refine ⟨fun w hs => ?_⟩
    obtain ⟨fn, tmps, a, b, h2, h3⟩ := (hY i x g2 L2 M2 hx hI.2 hI.1).h w hs
    refine ⟨fn, tmps, a, b, h2, RoundIn.mono h3 ?_⟩
    rintro e w' ⟨bb, g3, L3, he, hle, ⟨L4, hL, hm⟩, hs'⟩
    refine ⟨bb, g3, L3, he, hle, ⟨L4, hL, ?_⟩, hs'⟩
    cases bb with
    | true => exact ⟨hm, hI.2.trans hle⟩
    | false => exact hm) g1 L1 M (hg.trans h1) ⟨h0, h1⟩ |> fun d => ⟨fun w hs => (d.h w hs).mono fun e w' ⟨g2, L2, h2, ⟨v, L3, he, hL, hm⟩, hs'⟩ => ⟨g2, L2, h2, ⟨v, L3, he, hL, hm.imp (·.1) id⟩, hs'⟩⟩⟩
def rSlots (ps : Array Tmp) (x : Array Value) (S : Slots) : Slots := (ps.toList.zip x.toList).foldl (fun S q => (q.1, q.2) :: S) S
def RB (P : Program) (r : Nat) (g0 : Gh) (R : Bool → Gh → List Ent → Prop) : Exit → Act → World → Prop := roundPost P r fun e w' => ∃ b g' L', e = .returned (.bool b) ∧ g0.le g' ∧ R b g' L' ∧ St g' L' w'
instance {P : Program} {r : Nat} {g0 : Gh} {R : Bool → Gh → List Ent → Prop} : NL (RB P r g0 R) := ⟨fun ⟨_, _, h⟩ => h⟩
def RA (P : Program) (r : Nat) (body : Code) (QB : Exit → Act → World → Prop) : Exit → Act → World → Prop := Exit.then (fun a w => ∃ w', (Instr.beginRound r).run P w = .ok () w' ∧ body.wpIn (wideR (some r)) 0 P QB a w') (fun _ _ _ => False)
instance {P : Program} {r : Nat} {body : Code} {QB : Exit → Act → World → Prop} : NL (RA P r body QB) := ⟨fun ⟨_, _, h⟩ => h⟩
section
variable {P : Program} {r : Nat} {Q QB : Exit → Act → World → Prop} {n : Nat} {ds : List Deferred} {S : Slots} {g g0 : Gh} {L L' : List Ent} {rc : LoopState → Option Code → Loop} {body : Code}
theorem TQ.begin (hrc : IsRec rc) (hp : Pick (.obj r (.loop (rc .ready none))) L L') (h : TR P r QB body n ds S g (.obj r (.loop (rc .busy none)) :: L')) : TQ (RA P r body QB) .normal n ds S g L := .mk fun a w hf hs => by
  have hs1 := hs.perm hp.perm
  refine ⟨_, run_beginRound hs1.at (hrc.state _ _), ?_⟩
  rw [hrc.put]
  exact h.h a _ hf (hs1.putObj _)
variable {α β : Type} {p : Nat → α → Prop} {G : α → Gh} {A : α → List Ent} {q : Code → β → Prop} {Gx : β → Gh} {Ax : β → List Ent} {i : Nat} {M : List Ent}
def RR (r : Nat) (rc : LoopState → Option Code → Loop) (p : Nat → α → Prop) (G : α → Gh) (A : α → List Ent) (q : Code → β → Prop) (Gx : β → Gh) (Ax : β → List Ent) (i : Nat) (M : List Ent) : Bool → Gh → List Ent → Prop := fun b g2 L2 => ∃ L3, L2 = L3 ++ M ∧ (match b with
  | true => ∃ z, p (i + 1) z ∧ (G z).le g2 ∧ L3 = .obj r (.loop (rc .ready none)) :: A z
  | false => ∃ c y, q c y ∧ (Gx y).le g2 ∧ L3 = .obj r (.loop (rc .done (some c))) :: Ax y)
theorem TQ.goes (z : α) (hz : p (i + 1) z) (hG : (G z).le g) (hg : g0.le g) (hrc : IsRec rc) (hp : Pick (.obj r (.loop (rc .busy none))) L L') (hL : Sel (A z ++ M) L') : TQ (RB P r g0 (RR r rc p G A q Gx Ax i M)) .normal n ds S g L := .mk fun a w hf hs => by
  have hs1 := hs.perm hp.perm
  have h1 := run_endRound (P := P) none hs1.at
  rw [hrc.put2] at h1
  refine ⟨_, _, h1, true, g, .obj r (.loop (rc .ready none)) :: (A z ++ M), rfl, hg, ⟨_, rfl, z, hz, hG, rfl⟩, ?_⟩
  exact (hs1.putObj _).sel (.cons .here hL)
theorem TQ.leaves_ret (y : β) (hy : q .ret y) (hG : (Gx y).le g) (hg : g0.le g) (hrc : IsRec rc) (hp : Pick (.obj r (.loop (rc .busy none))) L L') (hL : Sel (Ax y ++ M) L') : TQ (RB P r g0 (RR r rc p G A q Gx Ax i M)) .ret n ds S g L := .mk fun a w hf hs => by
  have hs1 := hs.perm hp.perm
  have h1 := run_endRound (P := P) (some .ret) hs1.at
  rw [hrc.put2] at h1
  refine ⟨_, _, h1, false, g, .obj r (.loop (rc .done (some .ret))) :: (Ax y ++ M), rfl, hg, ⟨_, rfl, .ret, y, hy, hG, rfl⟩, ?_⟩
  exact (hs1.putObj _).sel (.cons .here hL)
end
theorem Fr.round {n : Nat} : ∀ (zs : List (Tmp × Value)) {S : Slots} {t : Array Value}, Fr n [] S { tmps := t, defers := [] } → (∀ q ∈ zs, q.1 < n) →
    Fr n [] (zs.foldl (fun S q => (q.1, q.2) :: S) S) { tmps := zs.foldl (fun t q => t.setIfInBounds q.1 q.2) t, defers := [] }
  | [], _, _, h, _ => h
  | q :: zs, S, t, h, hq => by
    rw [List.foldl_cons, List.foldl_cons]
    have hd : Nat.blt q.1 n = true := Nat.le_of_lt_succ (Nat.lt_succ_of_le (hq q List.mem_cons_self)) |> Nat.ble_eq_true_of_le
    exact Fr.round zs (h.put hd q.2) (fun q' h' => hq q' (List.mem_cons_of_mem _ h'))
section
variable {P : Program} {Q : Exit → Act → World → Prop} {n : Nat} {ds : List Deferred} {S : Slots} {g : Gh} {L L0 : List Ent} {f : Operand} {ps : Array Tmp} {assign body : Code} {gf : Nat} {lb : Array Value} {xs : List (Array Value)}
variable {α β : Type} {A : α → List Ent} {Ax : β → List Ent}
theorem round_yld {r : Nat} {rc : LoopState → Option Code → Loop} {p : Nat → α → Prop} {G : α → Gh} {q : Code → β → Prop} {Gx : β → Gh} {i : Nat} {x : Array Value} {z : α} {M : List Ent} {t : Array Value} {g1 : Gh}
    (h1 : ∀ s p, (rc s p).tmps = t) (h2 : ∀ s p, (rc s p).params = ps) (h3 : ∀ s p, (rc s p).assign = assign) (h4 : ∀ s p, (rc s p).body = body) (hx : x.size = ps.size) (hps : ∀ d ∈ ps.toList, d < n) (hf : Fr n [] S { tmps := t, defers := [] })
    (h : TR P r (RA P r body (RB P r g1 (RR r rc p G A q Gx Ax i M))) assign n [] (rSlots ps x S) g1 (.obj r (.loop (rc .ready none)) :: (A z ++ M))) :
    Yld P r x g1 ((.obj r (.loop (rc .ready none)) :: A z) ++ M) (RR r rc p G A q Gx Ax i M) := .mk fun w hs => by
  have hl := hs.at
  have hy := run_yield (P := P) (args := x) hl (by rw [h2]; exact hx)
  rw [h1, h2, h3, h4] at hy
  refine ⟨_, _, _, _, hy, roundIn_of_wpIn trivial ?_⟩
  refine h.h _ w ?_ hs
  have := Fr.round (ps.toList.zip x.toList) hf (fun q hq => hps _ (List.of_mem_zip hq).1)
  rw [← Array.foldl_toList, Array.toList_zip]
  exact this
theorem TC.rangeF (hf : ev S f = some (.func (.func gf) #[] lb)) (hc : callable P gf = true) (it : Iter P gf lb xs g) (hx : ∀ x ∈ xs, x.size = ps.size) (hps : (ps.toList.all fun d => Nat.blt d n) = true)
    (p : Nat → α → Prop) (G : α → Gh) (A : α → List Ent) (q : Code → β → Prop) (Gx : β → Gh) (Ax : β → List Ent) (L0 : List Ent) (z0 : α) (h0 : p 0 z0) (hG : (G z0).le g) (hL : Sel (A z0 ++ L0) L)
    (hround : ∀ r rc i x z M g1, IsRec rc → xs[i]? = some x → p i z → (G z).le g1 → g.le g1 → TR P r (RA P r body (RB P r g1 (RR r rc p G A q Gx Ax i M))) assign n [] (rSlots ps x S) g1 (.obj r (.loop (rc .ready none)) :: (A z ++ M)))
    (hdone : ∀ D z g1, p xs.length z → (G z).le g1 → g.le g1 → TQ Q .normal n (⟨.collected D, #[]⟩ :: ds) S g1 (.obj D (.deferred (some [])) :: (A z ++ L0)))
    (hstop : ∀ D c y g1, q c y → (Gx y).le g1 → g.le g1 → TC P Q c n (⟨.collected D, #[]⟩ :: ds) S g1 (.obj D (.deferred (some [])) :: (Ax y ++ L0))) : TC P Q (.rangeFunc f ps assign body) n ds S g L := .mk fun a w hfr hs0 => by
  refine (wpIn_wide (n := 0)).1 (wpIn_rangeFunc ?_)
  intro fn _
  obtain ⟨rc, hrc⟩ : ∃ rc : LoopState → Option Code → Loop, rc = fun st pe => { state := st, pending := pe, fn, tmps := a.tmps, params := ps, assign, body, defers := w.heap.size } := ⟨_, rfl⟩
  have hR : IsRec rc := by subst hrc; exact ⟨fun _ _ => rfl, fun _ _ _ => rfl, fun _ _ _ _ => rfl⟩
  have hs := hs0.sel hL
  have hs1 := hs.alloc (.deferred (some []))
  have hs2 := hs1.alloc (.loop (rc .ready none))
  have hsz : ({ w with heap := w.heap.push (.deferred (some [])) } : World).heap.size = w.heap.size + 1 := by simp
  rw [hsz] at hs2
  generalize hD : w.heap.size = D at hs1 hs2
  have hs3 := hs2.perm (L' := (.obj (D + 1) (.loop (rc .ready none)) :: A z0) ++ (.obj D (.deferred (some [])) :: L0)) ((List.perm_middle).cons _)
  obtain ⟨W1, hW1⟩ : ∃ W1, (w.alloc (.deferred (some []))).alloc (.loop (rc .ready none)) = W1 := ⟨_, rfl⟩
  have hs3 : St g ((.obj (D + 1) (.loop (rc .ready none)) :: A z0) ++ (.obj D (.deferred (some [])) :: L0)) W1 := by rw [← hW1]; exact hs3
  have hfr0 : Fr n [] S { tmps := a.tmps, defers := [] } := ⟨hfr.size, rfl, hfr.sl⟩
  have hps' : ∀ d ∈ ps.toList, d < n := fun d hd => by
    have := List.all_eq_true.1 hps d hd
    exact Nat.le_of_ble_eq_true this
  have C := it.h (D + 1) (fun i g1 L1 => g.le g1 ∧ ∃ z, p i z ∧ (G z).le g1 ∧ L1 = .obj (D + 1) (.loop (rc .ready none)) :: A z) (fun g2 L2 => g.le g2 ∧ ∃ c y, q c y ∧ (Gx y).le g2 ∧ L2 = .obj (D + 1) (.loop (rc .done (some c))) :: Ax y)
    (fun i g1 g2 L1 ⟨hl, z, hz, hzg, hL1⟩ h => ⟨hl.trans h, z, hz, hzg.trans h, hL1⟩)
    (fun g1 g2 L1 ⟨hl, c, y, hy, hyg, hL1⟩ h => ⟨hl.trans h, c, y, hy, hyg.trans h, hL1⟩)
    (fun i x g1 L1 M hxi hg1 hI => by
      obtain ⟨hl, z, hz, hzg, rfl⟩ := hI
      have Y := round_yld (t := a.tmps) (by subst hrc; intros; rfl) (by subst hrc; intros; rfl) (by subst hrc; intros; rfl) (by subst hrc; intros; rfl) (hx x (List.mem_of_getElem? hxi)) hps' hfr0 (hround (D + 1) rc i x z M g1 hR hxi hz hzg hg1)
      refine ⟨fun w hs => ?_⟩
      obtain ⟨fn, tmps, a, b, h2, h3⟩ := Y.h w hs
      refine ⟨fn, tmps, a, b, h2, RoundIn.mono h3 ?_⟩
      rintro e w' ⟨bb, g3, L3, he, hle3, ⟨L4, hL4, hm⟩, hs'⟩
      refine ⟨bb, g3, L3, he, hle3, ⟨L4, hL4, ?_⟩, hs'⟩
      cases bb with
      | true => exact ⟨hg1.trans hle3, hm⟩
      | false => exact ⟨hg1.trans hle3, hm⟩)
    g _ (.obj D (.deferred (some [])) :: L0) (.refl g) ⟨.refl g, z0, h0, hG, rfl⟩
  refine ⟨D + 1, [{ target := .collected D, args := #[] }], W1, { target := .fn (.func gf) lb, args := #[.func (.yield (D + 1)) #[] #[]] }, W1, gf, #[.func (.yield (D + 1)) #[] #[]] ++ lb, W1, ?_, ?_, fun _ _ => trivial, ?_, fun h => (by cases h), ?_⟩
  · subst hD
    rw [← hW1, hrc]
    exact run_enterLoop_outer (P := P) (w := w) fn a.tmps ps assign body
  · simp only [resolve, hfr.ev hf]
    simp [go_sem]
  · simp [invoke, callFunc_run hc]
  · refine (callsIn_wide (n := 0)).2 ((C.h W1 hs3).mono ?_)
    rintro e w2 ⟨g2, L2, hg2, ⟨v, L3, rfl, rfl, hm⟩, hs4⟩
    rcases hm with ⟨hlg, z, hz, hzg, rfl⟩ | ⟨hlg, c, y, hy, hyg, rfl⟩
    · have h1 := run_endLoop (P := P) hs4.at (by rw [hR.state]; simp)
      refine ⟨none, _, by subst hrc; exact h1, ?_⟩
      refine (hdone D z g2 hz hzg hlg).h _ _ ⟨hfr.size, by simp [hfr.defers], hfr.sl⟩ ?_
      exact (hs4.putObj _).tail.perm List.perm_middle.symm
    · have h1 := run_endLoop (P := P) hs4.at (by rw [hR.state]; simp)
      refine ⟨some c, _, by subst hrc; exact h1, ?_⟩
      refine (wpIn_wide (n := 0)).2 ((hstop D c y g2 hy hyg hlg).h _ _ ⟨hfr.size, by simp [hfr.defers], hfr.sl⟩ ?_)
      exact (hs4.putObj _).tail.perm List.perm_middle.symm
end
end Go.TL
