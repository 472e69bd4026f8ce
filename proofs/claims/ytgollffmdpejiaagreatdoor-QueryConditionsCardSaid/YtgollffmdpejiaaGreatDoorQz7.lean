/-
  Arrays by value whose elements have many cells. Loops over an iterator: code in a round, calls of yield, the loop's law, a function's end behind such loops. The law of a loop over an iterator; a function's end behind such loops. Loops over iterators, further: one in a round of another, a function's end, drawn regions that call yield, loops that hold such loops. An entry in the middle. Arrays of three by value; an array cut whole. Calls of an interface's method. The walk of the document's Light.
-/
import Derived.Test.YtgollffmdpejiaaGreatDoorQz2
import Derived.Test.YtgollffmdpejiaaGreatDoorQz5
import Derived.RangeFuncSeq
import Derived.RangeFuncNested
import Derived.OrdersIn
import Derived.TacticsIn
import Derived.RangeFuncLeaves
import Derived.Test.YtgollffmdpejiaaGreatDoorQz3
import Derived.Test.YtgollffmdpejiaaGreatDoorQz6
namespace Go.TL
open Go Go.RowKit Go.Proofs.YtgollffmdpejiaaGreatDoor
section
variable {P : Program} {n : Nat} {ds : List Deferred} {S : Slots} {g : Gh} {L : List Ent} {dst : Option Nat} {ty : TypeId} {pos : String} {aft : Array Edge} {gd : Option (Nat × Bool)} {t e : TypeId}
theorem Y.build_arr {xs : List (Nat × Operand)} {us : List (Nat × Value)} {cells zs : Array Value} {z0 : Value} {k sz s2 b1 b2 : Nat} [ht : Und P t (.array k e)] [he : Inf P e sz b1 z0] [hi : Inf P t s2 b2 (.agg zs)]
    (hx : evp S xs = some us) (hf : Instr.fill (fun i => some (i * sz, sz)) zs us = some cells) : Yields P n ds S g L ⟨dst, .build t xs.toArray, ty, pos, aft, gd⟩ (.agg cells) := .mk fun a w hfr _ => by
  obtain ⟨j, hj, hs, _⟩ := he.eq
  have hz := run_zero (P := P) (t := t) (z := .agg zs) w
  have h1 := hfr.evp hx
  have c0 : (Value.agg zs).cells = zs := rfl
  simp only [execOp, Instr.build, Sem.run_bind, hz, Result.andThen_ok, run_und ht.eq, run_size hj, hs, c0, List.map_toArray, h1, hf, Sem.run_pure]
theorem Y.index_ag {x y : Operand} {z : Value} {cs us : List Value} {len i sz b1 : Nat} {k : IntKind} {p : Int} [ht : Und P t (.array len e)] [he : Inf P e sz b1 z] [hs : Ag P e]
    (hx : ev S x = some (.agg cs.toArray)) (hy : ev S y = some (.int k p)) (hp : p = i) (hi : i < len) (hv : (cs.drop (i * sz)).take sz = us) : Yields P n ds S g L ⟨dst, .index t x y, ty, pos, aft, gd⟩ (.agg us.toArray) := .mk fun a w hf _ => by
  subst hp hv
  obtain ⟨j, hj, hsz, _⟩ := he.eq
  obtain ⟨d, hd, ha⟩ := hs.eq
  simp [execOp, Instr.index, asIntOf, run_und ht.eq, run_size hj, hsz, hf.ev hx, hf.ev hy, hi, part, run_isAgg hd, ha]
end
end Go.TL
namespace Go.TL
open Go Go.RowKit Go.Proofs.YtgollffmdpejiaaGreatDoor
set_option maxRecDepth 100000
/-! ### From the plain walk to that in a round -/
abbrev wideR (r : Option Nat) : Fence := { Fence.wide with round := r }
def isDefer : Op → Bool
  | .defer _ => true
  | _ => false
class NL (Q : Exit → Act → World → Prop) : Prop where
  h : ¬ LetsOut Q
section
variable {P : Program} {ops : Array Oper} {Q : Exit → Act → World → Prop} {md : Region.Mode} {r : Option Nat}
theorem calls_in {f : FuncId} {args : Array Value} {w : World} {R : Ending → World → Prop} (h : Calls P f args w R) : CallsIn (wideR r) 0 P f args w R := (callsIn_wide (n := 0)).2 h
theorem rows_in {row : String} {args : Array Value} {w : World} {R : Value → World → Prop} (h : Go.Rows P row args w R) : RowsIn (wideR r) 0 P row args w R := fun c cs _ => by
  obtain ⟨v, w', hR, hs⟩ := h c cs
  exact ⟨v, w', hR, StepsIn.mono (fun m _ => fenced_wide P m) (StepsIn.of_steps hs)⟩
theorem oper_in {o : Oper} {a : Act} {w : World} {K : Act → World → Prop} (hd : isDefer o.op = false) (h : o.wp P a w K Q) : o.wpIn (wideR r) 0 P a w K Q := by
  unfold Oper.wp at h
  unfold Oper.wpIn
  refine ⟨fun _ _ => trivial, ?_⟩
  rw [Oper.semAt_eq _ _ _ (fun c hc => by rw [hc] at hd; cases hd)]
  generalize (execOp a.eval o).run P w = res at h ⊢
  cases res with
  | ok x w' =>
    cases x <;> simp only [Oper.upon, Oper.uponIn] at h ⊢ <;>
      first
        | exact h
        | exact ⟨fun h => (by cases h), calls_in h⟩
        | exact ⟨fun h => (by cases h), rows_in h⟩
        | exact False.elim h
  | halt x w' => cases x <;> simp only [Oper.upon, Oper.uponIn] at h ⊢ <;> first | exact h | exact False.elim h
theorem list_in [hQ : NL Q] : ∀ (l : List Oper) (a : Act) (w : World), (l.all fun o => !isDefer o.op) = true → wpList P ops Q l a w → wpListIn (wideR r) 0 P ops Q l a w
  | [], _, _, _, h => h
  | o :: rest, a, w, hd, h => by
    rw [List.all_cons, Bool.and_eq_true] at hd
    unfold wpList at h
    unfold wpListIn
    split
    · rename_i hw
      rw [if_pos hw] at h
      rcases h with h | h
      · exact Oper.wpIn_mono (fun a w => list_in rest a w hd.2) (oper_in (by simpa using hd.1) h)
      · exact absurd h.2 hQ.h
    · rename_i hw
      rw [if_neg hw] at h
      exact ⟨fun _ _ => trivial, list_in rest _ _ hd.2 h⟩
theorem op_in [hQ : NL Q] {i : Nat} {K : Act → World → Prop} {a : Act} {w : World} (hd : (ops.all fun o => !isDefer o.op) = true) (h : wpOp P ops Q i K a w) : wpOpIn (wideR r) 0 P ops Q i K a w := by
  unfold wpOp at h
  unfold wpOpIn
  cases ho : ops[i]? with
  | none => rw [ho] at h; exact h
  | some o =>
    rw [ho] at h
    dsimp only at h ⊢
    split
    · rename_i hw
      rw [if_pos hw] at h
      rcases h with h | h
      · obtain ⟨hi, he⟩ := Array.getElem?_eq_some_iff.1 ho
        exact oper_in (by have := Array.all_eq_true.1 hd i hi; rw [he] at this; simpa using this) h
      · exact absurd h.2 hQ.h
    · rename_i hw
      rw [if_neg hw] at h
      exact ⟨fun _ _ => trivial, h⟩
theorem any_in [hQ : NL Q] (hd : (ops.all fun o => !isDefer o.op) = true) : ∀ (fuel : Nat) (listed : Array Bool) (a : Act) (w : World), wpAny P md ops Q fuel listed a w → wpAnyIn (wideR r) 0 P md ops Q fuel listed a w
  | 0, _, _, _, h => h
  | fuel + 1, _, _, _, h => ⟨h.1, fun i hi => wpOpIn_mono (fun a w => any_in hd fuel _ a w) (op_in hd (h.2 i hi))⟩
end

/-! ### Code in a round -/
structure TR (P : Program) (r : Nat) (Q : Exit → Act → World → Prop) (c : Code) (n : Nat) (ds : List Deferred) (S : Slots) (g : Gh) (L : List Ent) : Prop where
  h : ∀ a w, Fr n ds S a → St g L w → c.wpIn (wideR (some r)) 0 P Q a w
def ThenR (P : Program) (r : Nat) (y : Code) (Q : Exit → Act → World → Prop) : Exit → Act → World → Prop := Exit.then (y.wpIn (wideR (some r)) 0 P Q) Q
instance {id : Nat} {Q : Exit → Act → World → Prop} [h : NL Q] : NL (Exit.inBlock id Q) := ⟨fun ⟨a, w, k⟩ => h.h ⟨a, w, k⟩⟩
instance {P : Program} {r : Nat} {y : Code} {Q : Exit → Act → World → Prop} [h : NL Q] : NL (ThenR P r y Q) := ⟨fun ⟨a, w, k⟩ => h.h ⟨a, w, k⟩⟩
instance {P : Program} {y : Code} {Q : Exit → Act → World → Prop} [h : NL Q] : NL (Then P y Q) := ⟨fun ⟨a, w, k⟩ => h.h ⟨a, w, k⟩⟩
section
variable {P : Program} {r : Nat} {Q : Exit → Act → World → Prop} {n : Nat} {ds : List Deferred} {S : Slots} {g : Gh} {L : List Ent}
theorem TR.seq {x y : Code} (h : TR P r (ThenR P r y Q) x n ds S g L) : TR P r Q (x.seq y) n ds S g L := .mk fun a w hf hs => wpIn_seq (h.h a w hf hs)
theorem TQ.then_R {y : Code} (h : TR P r Q y n ds S g L) : TQ (ThenR P r y Q) .normal n ds S g L := ⟨h.h⟩
theorem TR.block {id : Nat} {c : Code} (h : TR P r (Exit.inBlock id Q) c n ds S g L) : TR P r Q (.block id c) n ds S g L := .mk fun a w hf hs => wpIn_block (h.h a w hf hs)
theorem TR.skip (h : TQ Q .normal n ds S g L) : TR P r Q .skip n ds S g L := .mk fun a w hf hs => wpIn_skip (h.h a w hf hs)
theorem TR.cond {c : Operand} {b : Bool} {x y : Code} (hc : ev S c = some (.bool b)) (h : Br b (TR P r Q x n ds S g L) (TR P r Q y n ds S g L)) : TR P r Q (.cond c x y) n ds S g L := .mk fun a w hf hs => by
  cases b with
  | false => exact wpIn_cond_false (hf.ev hc) ((h.n rfl).h a w hf hs)
  | true => exact wpIn_cond_true (hf.ev hc) ((h.y rfl).h a w hf hs)
theorem TR.region {id : Nat} {l : List Oper} [NL Q] (hd : (l.all fun o => !isDefer o.op) = true) (h : TL P l.toArray Q l n ds S g L) : TR P r Q (.region id l.toArray false) n ds S g L := .mk fun a w hf hs =>
  wpIn_region_lit (list_in l a w hd (h.h a w hf hs))
theorem TR.weak {c : Code} {S' : Slots} {L' : List Ent} (h : TR P r Q c n ds S' g L') (hS : Sub S' S) (hL : Sel L' L) : TR P r Q c n ds S g L := .mk fun a w hf hs => h.h a w (hf.sub hS) (hs.sel hL)
end
/-! ### Operations, one of which calls yield -/
structure TY (P : Program) (r : Option Nat) (ops : Array Oper) (Q : Exit → Act → World → Prop) (l : List Oper) (n : Nat) (ds : List Deferred) (S : Slots) (g : Gh) (L : List Ent) : Prop where
  h : ∀ a w, Fr n ds S a → St g L w → wpListIn (wideR r) 0 P ops Q l a w
structure Yld (P : Program) (l : Nat) (args : Array Value) (g : Gh) (L : List Ent) (R : Bool → Gh → List Ent → Prop) : Prop where
  h : ∀ w, St g L w → YieldAt Fence.wide 0 P l args w fun e w' => ∃ b g' L', e = .returned (.bool b) ∧ g.le g' ∧ R b g' L' ∧ St g' L' w'
def YQ (P : Program) (r : Option Nat) (ops : Array Oper) (Q : Exit → Act → World → Prop) (rest : List Oper) : Exit → Act → World → Prop := Exit.then (wpListIn (wideR r) 0 P ops Q rest) Q
section
variable {P : Program} {r : Option Nat} {ops : Array Oper} {Q : Exit → Act → World → Prop} {l rest : List Oper} {n : Nat} {ds : List Deferred} {S : Slots} {g : Gh} {L : List Ent}
instance [h : NL Q] : NL (YQ P r ops Q rest) := ⟨fun ⟨a, w, k⟩ => h.h ⟨a, w, k⟩⟩
theorem list_split {F : Fence} {k : Nat} : ∀ (l1 : List Oper) (a : Act) (w : World), wpListIn F k P ops (Exit.then (wpListIn F k P ops Q rest) Q) l1 a w → wpListIn F k P ops Q (l1 ++ rest) a w
  | [], _, _, h => h
  | o :: l1, a, w, h => by
    unfold wpListIn at h
    rw [List.cons_append]
    unfold wpListIn
    split
    · rename_i hw
      rw [if_pos hw] at h
      refine ⟨h.1, ?_⟩
      have h2 := (Oper.wpIn_mono (fun a w => list_split l1 a w) h).2
      generalize (o.semAt F.round a.eval).run P w = res at h2 ⊢
      cases res with
      | ok x w' => cases x <;> exact h2
      | halt x w' => cases x <;> exact h2
    · rename_i hw
      rw [if_neg hw] at h
      exact ⟨h.1, list_split l1 _ _ h.2⟩
theorem TY.pre [NL Q] (k : Nat) (hd : ((l.take k).all fun o => !isDefer o.op) = true) (h : TL P ops (YQ P r ops Q (l.drop k)) (l.take k) n ds S g L) : TY P r ops Q l n ds S g L := .mk fun a w hf hs => by
  have := list_split (l.take k) a w (list_in (Q := YQ P r ops Q (l.drop k)) (r := r) _ a w hd (h.h a w hf hs))
  rwa [List.take_append_drop] at this
theorem TQ.then_Y (h : TY P r ops Q rest n ds S g L) : TQ (YQ P r ops Q rest) .normal n ds S g L := ⟨h.h⟩
theorem TY.fin [NL Q] (hd : (l.all fun o => !isDefer o.op) = true) (h : TL P ops Q l n ds S g L) : TY P r ops Q l n ds S g L := .mk fun a w hf hs => list_in l a w hd (h.h a w hf hs)
theorem TY.call {d t : Nat} {x : Operand} {xs : List Operand} {vs : List Value} {ats : Array TypeId} {ty : TypeId} {pos : String} {aft : Array Edge} {R : Bool → Gh → List Ent → Prop} (hx : ev S x = some (.func (.yield t) #[] #[])) (hv : evs S xs = some vs) (hd : Nat.blt d n = true) (hy : Yld P t vs.toArray g L R)
    (k : ∀ b g' L', g.le g' → R b g' L' → TY P r ops Q rest n ds ((d, .bool b) :: S) g' L') : TY P r ops Q (⟨some d, .call { callee := .value x, args := xs.toArray, argTypes := ats }, ty, pos, aft, none⟩ :: rest) n ds S g L := .mk fun a w hf hs => by
  obtain ⟨fn, tmps, assign, body, hrun, hR⟩ := hy.h w hs
  unfold wpListIn
  rw [if_pos (by rfl)]
  refine ⟨fun _ _ => trivial, ?_⟩
  have h1 := hf.evs hv
  have hrun2 : (execOp a.eval ⟨some d, .call { callee := .value x, args := xs.toArray, argTypes := ats }, ty, pos, aft, none⟩).run P w = .ok (.round t fn tmps assign body) w := by
    simp [execOp, resolve, invoke, Deferred.ofValue, hf.ev hx, h1]
    simpa using hrun
  rw [Oper.semAt_eq _ _ _ (fun c hc => by cases hc), hrun2]
  refine ⟨fun h => (by cases h), RoundIn.mono hR ?_⟩
  rintro e w' ⟨b, g', L', rfl, hg, hr, hs'⟩
  exact (k b g' L' hg hr).h _ w' (hf.put hd _) hs'
theorem Yld.perm {t : Nat} {args : Array Value} {L' : List Ent} {R : Bool → Gh → List Ent → Prop} (h : Yld P t args g L' R) (hL : L'.Perm L) : Yld P t args g L R := .mk fun w hs => h.h w (hs.perm hL)
theorem TC.region_Y {id : Nat} {l : List Oper} (h : TY P none l.toArray Q l n ds S g L) : TC P Q (.region id l.toArray false) n ds S g L := .mk fun a w hf hs => (wpIn_wide (n := 0)).1 (wpIn_region_lit (h.h a w hf hs))
end
end Go.TL
namespace Go.TL
open Go Go.RowKit Go.Proofs.YtgollffmdpejiaaGreatDoor
set_option maxRecDepth 100000
theorem St.putObj {g : Gh} {L : List Ent} {b : Nat} {o : Obj} {w : World} (o' : Obj) (h : St g (.obj b o :: L) w) : St g (.obj b o' :: L) (w.putObj b o') := h.setObj_at
theorem St.at {g : Gh} {L : List Ent} {b : Nat} {o : Obj} {w : World} (h : St g (.obj b o :: L) w) : w.heap[b]? = some o := h.st _ List.mem_cons_self
structure IsRec (rc : LoopState → Option Code → Loop) : Prop where
  state : ∀ s p, (rc s p).state = s
  put : ∀ s p s', { rc s p with state := s' } = rc s' p
  put2 : ∀ s p s' p', { rc s p with state := s', pending := p' } = rc s' p'
structure Iter (P : Program) (gf : Nat) (lb : Array Value) (xs : List (Array Value)) (g : Gh) : Prop where
  h : ∀ (l : Nat) (I : Nat → Gh → List Ent → Prop) (X : Gh → List Ent → Prop), (∀ i g1 g2 L1, I i g1 L1 → g1.le g2 → I i g2 L1) → (∀ g1 g2 L1, X g1 L1 → g1.le g2 → X g2 L1) →
    (∀ i x g1 L1 M, xs[i]? = some x → g.le g1 → I i g1 L1 → Yld P l x g1 (L1 ++ M) fun b g2 L2 => ∃ L3, L2 = L3 ++ M ∧ (match b with
      | true => I (i + 1) g2 L3
      | false => X g2 L3)) →
    ∀ g1 L1 M, g.le g1 → I 0 g1 L1 → Does P gf (#[.func (.yield l) #[] #[]] ++ lb) g1 (L1 ++ M) fun e g2 L2 => ∃ v L3, e = .returned v ∧ L2 = L3 ++ M ∧ (I xs.length g2 L3 ∨ X g2 L3)
def rSlots (ps : Array Tmp) (x : Array Value) (S : Slots) : Slots := (ps.toList.zip x.toList).foldl (fun S q => (q.1, q.2) :: S) S
def RB (P : Program) (r : Nat) (g0 : Gh) (R : Bool → Gh → List Ent → Prop) : Exit → Act → World → Prop := roundPost P r fun e w' => ∃ b g' L', e = .returned (.bool b) ∧ g0.le g' ∧ R b g' L' ∧ St g' L' w'
instance {P : Program} {r : Nat} {g0 : Gh} {R : Bool → Gh → List Ent → Prop} : NL (RB P r g0 R) := ⟨fun ⟨_, _, h⟩ => h⟩
def RA (P : Program) (r : Nat) (body : Code) (QB : Exit → Act → World → Prop) : Exit → Act → World → Prop := Exit.then (fun a w => ∃ w', (Instr.beginRound r).run P w = .ok () w' ∧ body.wpIn (wideR (some r)) 0 P QB a w') (fun _ _ _ => False)
instance {P : Program} {r : Nat} {body : Code} {QB : Exit → Act → World → Prop} : NL (RA P r body QB) := ⟨fun ⟨_, _, h⟩ => h⟩
section
variable {P : Program} {r : Nat} {Q QB : Exit → Act → World → Prop} {n : Nat} {ds : List Deferred} {S : Slots} {g g0 : Gh} {L L' : List Ent} {rc : LoopState → Option Code → Loop} {body : Code}
theorem TQ.begin (hrc : IsRec rc) (hp : Pick (.obj r (.loop (rc .ready none))) L L') (h : TR P r QB body n ds S g (.obj r (.loop (rc .busy none)) :: L')) : TQ (RA P r body QB) .normal n ds S g L := .mk fun a w hf hs => by
  have hs1 := hs.perm hp.perm
  refine ⟨_, run_beginRound hs1.at (hrc.state _ _), ?_⟩
  rw [hrc.put]
  exact h.h a _ hf (hs1.putObj _)
variable {α β : Type} {p : Nat → α → Prop} {G : α → Gh} {A : α → List Ent} {q : Code → β → Prop} {Gx : β → Gh} {Ax : β → List Ent} {i : Nat} {M : List Ent}
def RR (r : Nat) (rc : LoopState → Option Code → Loop) (p : Nat → α → Prop) (G : α → Gh) (A : α → List Ent) (q : Code → β → Prop) (Gx : β → Gh) (Ax : β → List Ent) (i : Nat) (M : List Ent) : Bool → Gh → List Ent → Prop := fun b g2 L2 => ∃ L3, L2 = L3 ++ M ∧ (match b with
  | true => ∃ z, p (i + 1) z ∧ (G z).le g2 ∧ L3 = .obj r (.loop (rc .ready none)) :: A z
  | false => ∃ c y, q c y ∧ (Gx y).le g2 ∧ L3 = .obj r (.loop (rc .done (some c))) :: Ax y)
theorem TQ.goes (z : α) (hz : p (i + 1) z) (hG : (G z).le g) (hg : g0.le g) (hrc : IsRec rc) (hp : Pick (.obj r (.loop (rc .busy none))) L L') (hL : Sel (A z ++ M) L') : TQ (RB P r g0 (RR r rc p G A q Gx Ax i M)) .normal n ds S g L := .mk fun a w hf hs => by
  have hs1 := hs.perm hp.perm
  have h1 := run_endRound (P := P) none hs1.at
  rw [hrc.put2] at h1
  refine ⟨_, _, h1, true, g, .obj r (.loop (rc .ready none)) :: (A z ++ M), rfl, hg, ⟨_, rfl, z, hz, hG, rfl⟩, ?_⟩
  exact (hs1.putObj _).sel (.cons .here hL)
end
theorem Fr.round {n : Nat} : ∀ (zs : List (Tmp × Value)) {S : Slots} {t : Array Value}, Fr n [] S { tmps := t, defers := [] } → (∀ q ∈ zs, q.1 < n) →
    Fr n [] (zs.foldl (fun S q => (q.1, q.2) :: S) S) { tmps := zs.foldl (fun t q => t.setIfInBounds q.1 q.2) t, defers := [] }
  | [], _, _, h, _ => h
  | q :: zs, S, t, h, hq => by
    rw [List.foldl_cons, List.foldl_cons]
    have hd : Nat.blt q.1 n = true := Nat.le_of_lt_succ (Nat.lt_succ_of_le (hq q List.mem_cons_self)) |> Nat.ble_eq_true_of_le
    exact Fr.round zs (h.put hd q.2) (fun q' h' => hq q' (List.mem_cons_of_mem _ h'))
section
variable {P : Program} {Q : Exit → Act → World → Prop} {n : Nat} {ds : List Deferred} {S : Slots} {g : Gh} {L L0 : List Ent} {f : Operand} {ps : Array Tmp} {assign body : Code} {gf : Nat} {lb : Array Value} {xs : List (Array Value)}
variable {α β : Type} {A : α → List Ent} {Ax : β → List Ent}
theorem round_yld {r : Nat} {rc : LoopState → Option Code → Loop} {p : Nat → α → Prop} {G : α → Gh} {q : Code → β → Prop} {Gx : β → Gh} {i : Nat} {x : Array Value} {z : α} {M : List Ent} {t : Array Value} {g1 : Gh}
    (h1 : ∀ s p, (rc s p).tmps = t) (h2 : ∀ s p, (rc s p).params = ps) (h3 : ∀ s p, (rc s p).assign = assign) (h4 : ∀ s p, (rc s p).body = body) (hx : x.size = ps.size) (hps : ∀ d ∈ ps.toList, d < n) (hf : Fr n [] S { tmps := t, defers := [] })
    (h : TR P r (RA P r body (RB P r g1 (RR r rc p G A q Gx Ax i M))) assign n [] (rSlots ps x S) g1 (.obj r (.loop (rc .ready none)) :: (A z ++ M))) :
    Yld P r x g1 ((.obj r (.loop (rc .ready none)) :: A z) ++ M) (RR r rc p G A q Gx Ax i M) := .mk fun w hs => by
  have hl := hs.at
  have hy := run_yield (P := P) (args := x) hl (by rw [h2]; exact hx)
  rw [h1, h2, h3, h4] at hy
  refine ⟨_, _, _, _, hy, roundIn_of_wpIn trivial ?_⟩
  refine h.h _ w ?_ hs
  have := Fr.round (ps.toList.zip x.toList) hf (fun q hq => hps _ (List.of_mem_zip hq).1)
  rw [← Array.foldl_toList, Array.toList_zip]
  exact this
theorem TC.rangeF (hf : ev S f = some (.func (.func gf) #[] lb)) (hc : callable P gf = true) (it : Iter P gf lb xs g) (hx : ∀ x ∈ xs, x.size = ps.size) (hps : (ps.toList.all fun d => Nat.blt d n) = true)
    (p : Nat → α → Prop) (G : α → Gh) (A : α → List Ent) (q : Code → β → Prop) (Gx : β → Gh) (Ax : β → List Ent) (L0 : List Ent) (z0 : α) (h0 : p 0 z0) (hG : (G z0).le g) (hL : Sel (A z0 ++ L0) L)
    (hround : ∀ r rc i x z M g1, IsRec rc → xs[i]? = some x → p i z → (G z).le g1 → g.le g1 → TR P r (RA P r body (RB P r g1 (RR r rc p G A q Gx Ax i M))) assign n [] (rSlots ps x S) g1 (.obj r (.loop (rc .ready none)) :: (A z ++ M)))
    (hdone : ∀ D z g1, p xs.length z → (G z).le g1 → g.le g1 → TQ Q .normal n (⟨.collected D, #[]⟩ :: ds) S g1 (.obj D (.deferred (some [])) :: (A z ++ L0)))
    (hstop : ∀ D c y g1, q c y → (Gx y).le g1 → g.le g1 → TC P Q c n (⟨.collected D, #[]⟩ :: ds) S g1 (.obj D (.deferred (some [])) :: (Ax y ++ L0))) : TC P Q (.rangeFunc f ps assign body) n ds S g L := .mk fun a w hfr hs0 => by
  refine (wpIn_wide (n := 0)).1 (wpIn_rangeFunc ?_)
  intro fn _
  obtain ⟨rc, hrc⟩ : ∃ rc : LoopState → Option Code → Loop, rc = fun st pe => { state := st, pending := pe, fn, tmps := a.tmps, params := ps, assign, body, defers := w.heap.size } := ⟨_, rfl⟩
  have hR : IsRec rc := by subst hrc; exact ⟨fun _ _ => rfl, fun _ _ _ => rfl, fun _ _ _ _ => rfl⟩
  have hs := hs0.sel hL
  have hs1 := hs.alloc (.deferred (some []))
  have hs2 := hs1.alloc (.loop (rc .ready none))
  have hsz : ({ w with heap := w.heap.push (.deferred (some [])) } : World).heap.size = w.heap.size + 1 := by simp
  rw [hsz] at hs2
  generalize hD : w.heap.size = D at hs1 hs2
  have hs3 := hs2.perm (L' := (.obj (D + 1) (.loop (rc .ready none)) :: A z0) ++ (.obj D (.deferred (some [])) :: L0)) ((List.perm_middle).cons _)
  obtain ⟨W1, hW1⟩ : ∃ W1, (w.alloc (.deferred (some []))).alloc (.loop (rc .ready none)) = W1 := ⟨_, rfl⟩
  have hs3 : St g ((.obj (D + 1) (.loop (rc .ready none)) :: A z0) ++ (.obj D (.deferred (some [])) :: L0)) W1 := by rw [← hW1]; exact hs3
  have hfr0 : Fr n [] S { tmps := a.tmps, defers := [] } := ⟨hfr.size, rfl, hfr.sl⟩
  have hps' : ∀ d ∈ ps.toList, d < n := fun d hd => by
    have := List.all_eq_true.1 hps d hd
    exact Nat.le_of_ble_eq_true this
  have C := it.h (D + 1) (fun i g1 L1 => g.le g1 ∧ ∃ z, p i z ∧ (G z).le g1 ∧ L1 = .obj (D + 1) (.loop (rc .ready none)) :: A z) (fun g2 L2 => g.le g2 ∧ ∃ c y, q c y ∧ (Gx y).le g2 ∧ L2 = .obj (D + 1) (.loop (rc .done (some c))) :: Ax y)
    (fun i g1 g2 L1 ⟨hl, z, hz, hzg, hL1⟩ h => ⟨hl.trans h, z, hz, hzg.trans h, hL1⟩)
    (fun g1 g2 L1 ⟨hl, c, y, hy, hyg, hL1⟩ h => ⟨hl.trans h, c, y, hy, hyg.trans h, hL1⟩)
    (fun i x g1 L1 M hxi hg1 hI => by
      obtain ⟨hl, z, hz, hzg, rfl⟩ := hI
      have Y := round_yld (t := a.tmps) (by subst hrc; intros; rfl) (by subst hrc; intros; rfl) (by subst hrc; intros; rfl) (by subst hrc; intros; rfl) (hx x (List.mem_of_getElem? hxi)) hps' hfr0 (hround (D + 1) rc i x z M g1 hR hxi hz hzg hg1)
      refine ⟨fun w hs => ?_⟩
      obtain ⟨fn, tmps, a, b, h2, h3⟩ := Y.h w hs
      refine ⟨fn, tmps, a, b, h2, RoundIn.mono h3 ?_⟩
      rintro e w' ⟨bb, g3, L3, he, hle3, ⟨L4, hL4, hm⟩, hs'⟩
      refine ⟨bb, g3, L3, he, hle3, ⟨L4, hL4, ?_⟩, hs'⟩
      cases bb with
      | true => exact ⟨hg1.trans hle3, hm⟩
      | false => exact ⟨hg1.trans hle3, hm⟩)
    g _ (.obj D (.deferred (some [])) :: L0) (.refl g) ⟨.refl g, z0, h0, hG, rfl⟩
  refine ⟨D + 1, [{ target := .collected D, args := #[] }], W1, { target := .fn (.func gf) lb, args := #[.func (.yield (D + 1)) #[] #[]] }, W1, gf, #[.func (.yield (D + 1)) #[] #[]] ++ lb, W1, ?_, ?_, fun _ _ => trivial, ?_, fun h => (by cases h), ?_⟩
  · subst hD
    rw [← hW1, hrc]
    exact run_enterLoop_outer (P := P) (w := w) fn a.tmps ps assign body
  · simp only [resolve, hfr.ev hf]
    simp [go_sem]
  · simp [invoke, callFunc_run hc]
  · refine (callsIn_wide (n := 0)).2 ((C.h W1 hs3).mono ?_)
    rintro e w2 ⟨g2, L2, hg2, ⟨v, L3, rfl, rfl, hm⟩, hs4⟩
    rcases hm with ⟨hlg, z, hz, hzg, rfl⟩ | ⟨hlg, c, y, hy, hyg, rfl⟩
    · have h1 := run_endLoop (P := P) hs4.at (by rw [hR.state]; simp)
      refine ⟨none, _, by subst hrc; exact h1, ?_⟩
      refine (hdone D z g2 hz hzg hlg).h _ _ ⟨hfr.size, by simp [hfr.defers], hfr.sl⟩ ?_
      exact (hs4.putObj _).tail.perm List.perm_middle.symm
    · have h1 := run_endLoop (P := P) hs4.at (by rw [hR.state]; simp)
      refine ⟨some c, _, by subst hrc; exact h1, ?_⟩
      refine (wpIn_wide (n := 0)).2 ((hstop D c y g2 hy hyg hlg).h _ _ ⟨hfr.size, by simp [hfr.defers], hfr.sl⟩ ?_)
      exact (hs4.putObj _).tail.perm List.perm_middle.symm
end
end Go.TL
namespace Go.TL
open Go Go.RowKit Go.Proofs.YtgollffmdpejiaaGreatDoor
set_option maxRecDepth 100000
section
variable {P : Program} {Q : Exit → Act → World → Prop} {n : Nat} {ds : List Deferred} {S : Slots} {g : Gh} {L L0 L1 : List Ent} {f : Operand} {ps : Array Tmp} {assign body : Code} {gf : Nat} {lb : Array Value} {xs : List (Array Value)}
variable {α β : Type}
end
/-! ### The end of a function that held such loops -/
def EndM (P : Program) (fn : Func) (R : Ending → Gh → List Ent → Prop) (g : Gh) : Exit → Act → World → Prop := bodyPostM Fence.wide 0 P fn fun e w' => ∃ g' L', g.le g' ∧ R e g' L' ∧ St g' L' w'
def marks (Ds : List Nat) : List Deferred := Ds.map fun D => ⟨.collected D, #[]⟩
def markE (Ds : List Nat) : List Ent := Ds.map fun D => .obj D (.deferred (some []))
section
variable {P : Program} {Q : Exit → Act → World → Prop} {n : Nat} {ds : List Deferred} {S : Slots} {g g0 : Gh} {L L' : List Ent} {f : FuncId} {fn : Func} {R : Ending → Gh → List Ent → Prop} {cd : Code}
theorem Does.ofM {vs : List Value} (hf : P.funcs[f]? = some fn) (hb : fn.body = some cd) (hn : fn.ntmps = n) (hle : Nat.ble vs.length n = true)
    (h : TC P (EndM P fn R g) cd n [] (argSlots 0 vs) g L) : Does P f vs.toArray g L R := .mk fun w hs => by
  refine (callsIn_wide (n := 0)).1 (callsIn_of_wp_marks hf hb trivial ((wpIn_wide (n := 0)).2 (h.h _ w ⟨?_, rfl, fun i v hv => ?_⟩ hs)) rfl)
  · have := Nat.le_of_ble_eq_true hle
    simp [hn]; omega
  · obtain ⟨_, h2⟩ := look_argSlots vs 0 i v hv
    simp only [Nat.sub_zero] at h2
    obtain ⟨hlt, e⟩ := List.getElem?_eq_some_iff.1 h2
    simpa [Array.getD_eq_getD_getElem?, Array.getElem?_append, hlt] using e
theorem Does.ofM1 {v0 : Value} (hf : P.funcs[f]? = some fn) (hb : fn.body = some cd) (hn : fn.ntmps = n) (hle : Nat.ble 1 n = true)
    (h : TC P (EndM P fn R g) cd n [] [(0, v0)] g L) : Does P f #[v0] g L R := Does.ofM (vs := [v0]) hf hb hn hle h
theorem Does.ofM2 {v0 v1 : Value} (hf : P.funcs[f]? = some fn) (hb : fn.body = some cd) (hn : fn.ntmps = n) (hle : Nat.ble 2 n = true)
    (h : TC P (EndM P fn R g) cd n [] [(0, v0), (1, v1)] g L) : Does P f #[v0, v1] g L R := Does.ofM (vs := [v0, v1]) hf hb hn hle h
theorem marks_leave {a : Act} : ∀ (Ds : List Nat) {w : World}, St g (markE Ds ++ L') w → (∀ w', St g L' w' → LeavesInM Fence.wide 0 P fn a.tmps (fun e w' => ∃ g' L', g0.le g' ∧ R e g' L' ∧ St g' L' w') [] .returning w') →
    LeavesInM Fence.wide 0 P fn a.tmps (fun e w' => ∃ g' L', g0.le g' ∧ R e g' L' ∧ St g' L' w') (marks Ds) .returning w
  | [], w, hs, h => h w hs
  | D :: Ds, w, hs, h => by
    have hs : St g (.obj D (.deferred (some [])) :: (markE Ds ++ L')) w := hs
    exact ⟨by simp, .inl ⟨D, _, rfl, run_takeDeferred hs.at, marks_leave Ds (hs.putObj _).tail h⟩⟩
theorem TQ.endM (Ds : List Nat) (hd : ds = marks Ds) (hL : Sel (markE Ds ++ L') L) (h : TQ (End P fn R g0) .ret n [] S g L') : TQ (EndM P fn R g0) .ret n ds S g L := .mk fun a w hf hs => by
  show LeavesInM Fence.wide 0 P fn a.tmps _ a.defers .returning w
  rw [hf.defers, hd]
  refine marks_leave Ds (hs.sel hL) (fun w' hs' => ?_)
  have := h.h { a with defers := [] } w' ⟨hf.size, rfl, hf.sl⟩ hs'
  exact this.2
instance {α : Type} {p : α → Prop} {m : α → Nat} {S : α → Slots} {G : α → Gh} {L : α → List Ent} {x : α} {Q : Exit → Act → World → Prop} [h : NL Q] : NL (Round n ds p m S G L x Q) := ⟨fun ⟨a, w, k⟩ => h.h ⟨a, w, k⟩⟩
end
/-! ### A drawn region whose last operations call yield -/
section
variable {P : Program} {ops : Array Oper} {md : Region.Mode} {C : World → Prop} {r : Option Nat}
theorem anyIn_of_seq {F : Fence} {Q' : Exit → Act → World → Prop} : ∀ (l : List Oper) (k : Nat) (listed : Array Bool) (a : Act) (w : World), (∀ j, l[j]? = ops[k + j]?) →
    Region.seqB md ops l.length k listed = true → wpListIn F 0 P ops Q' l a w → wpAnyIn F 0 P md ops Q' l.length listed a w
  | [], _, _, _, _, _, hB, h => ⟨by simpa [Region.seqB] using hB, h⟩
  | o :: l, k, listed, a, w, hl, hB, h => by
    have h0 : ops[k]? = some o := by simpa using (hl 0).symm
    simp only [List.length_cons, Region.seqB, Bool.and_eq_true, decide_eq_true_eq] at hB
    refine ⟨fun h1 => (by rw [hB.1] at h1; cases h1), fun i hi => ?_⟩
    rw [hB.1] at hi
    have hik : i = k := by simpa using hi
    subst hik
    have hw : wpOpIn F 0 P ops Q' i (wpListIn F 0 P ops Q' l) a w := by unfold wpOpIn; simp only [h0]; exact h
    exact wpOpIn_mono (fun a' w' h' => anyIn_of_seq l (i + 1) _ a' w' (fun j => by have := hl (j + 1); simpa [Nat.add_assoc, Nat.add_comm 1 j] using this) hB.2 h') hw
theorem anyIn_of_headQ {Q' : Exit → Act → World → Prop} [NL Q'] {n m : Nat} {K : Array Bool → Act → Prop} (hd : ∀ i o, i < n → ops[i]? = some o → isDefer o.op = false) (hK : ∀ listed a w, C w → K listed a → wpAnyIn (wideR r) 0 P md ops Q' m listed a w) :
    ∀ (f : Nat) (listed : Array Bool) (a : Act) (w : World), C w → wpHeadQ P md ops C n K f listed a → wpAnyIn (wideR r) 0 P md ops Q' (f + m) listed a w
  | 0, listed, a, w, hw, h => by rw [Nat.zero_add]; exact hK _ _ _ hw h
  | f + 1, listed, a, w, hw, h => by
    rw [show f + 1 + m = (f + m) + 1 by omega]
    refine ⟨fun h0 => absurd h0 h.1, fun i hi => ?_⟩
    have h2 := wpOp_of_qOp (Q' := Q') (K' := fun a' w' => wpAnyIn (wideR r) 0 P md ops Q' (f + m) (listed.setIfInBounds i true) a' w') hw (fun a' w' hw' h' => anyIn_of_headQ hd hK f _ a' w' hw' h') (h.2 i hi).2
    unfold wpOp at h2
    unfold wpOpIn
    cases ho : ops[i]? with
    | none => rw [ho] at h2; exact h2
    | some o =>
      rw [ho] at h2
      dsimp only at h2 ⊢
      split
      · rename_i hw
        rw [if_pos hw] at h2
        rcases h2 with h2 | h2
        · exact oper_in (hd i o (h.2 i hi).1 ho) h2
        · exact absurd h2.2 NL.h
      · rename_i hw
        rw [if_neg hw] at h2
        exact ⟨fun _ _ => trivial, h2⟩
theorem any_tailY {Q : Exit → Act → World → Prop} [NL Q] {a : Act} {w : World} {l : List Oper} (n : Nat) (hB : Region.lexTailB .any l.toArray n = true) (hd : ((l.take n).all fun o => !isDefer o.op) = true) (hC : C w)
    (h : wpQuiet P l.toArray C (fun a' => ∀ w', C w' → wpListIn (wideR r) 0 P l.toArray Q (l.drop n) a' w') (l.take n) a) : wpAnyIn (wideR r) 0 P .any l.toArray Q l.toArray.size (Array.replicate l.toArray.size false) a w := by
  simp only [Region.lexTailB, Bool.and_eq_true, decide_eq_true_eq] at hB
  obtain ⟨⟨⟨⟨hsel, hn⟩, hs⟩, hc⟩, hlex⟩ := hB
  have hn' : n < l.length := by simpa using hn
  have htl : (l.take n).length = n := by simp; omega
  have hdl : (l.drop n).length = l.toArray.size - n := by simp
  have inv0 : HeadInv .any l.toArray n (Array.replicate l.toArray.size false) :=
    ⟨by simp, fun j oj _ hl => (by rw [getD_replicate_false] at hl; cases hl), fun t _ ht => getD_in (by simpa using ht) (getD_replicate_false _ _)⟩
  have H := wpHeadQ_lex (C := C) (md := .any) (m := l.toArray.size - n) hsel hs hc hn (l.take n) 0 _ a (fun j hj => by
    have hj' : j < n := by rw [htl] at hj; exact hj
    simp [hj']) (by simpa using htl) inv0 (by rw [htl]; exact hlex) h
  have := anyIn_of_headQ (r := r) (Q' := Q) (m := l.toArray.size - n) (fun i o hi ho => by
    have hi2 : (l.take n)[i]? = some o := by rw [List.getElem?_take, if_pos hi]; simpa using ho
    have := List.all_eq_true.1 hd o (List.mem_of_getElem? hi2)
    simpa using this) (fun listed a' w' hw' hL => by
    have := anyIn_of_seq (F := wideR r) (md := .any) (Q' := Q) (l.drop n) n listed a' w' (fun j => by simp [List.getElem?_drop]) (by rw [hdl]; exact hL.1) (hL.2 _ hw')
    rwa [hdl] at this) _ _ _ _ hC H
  rw [htl, show n + (l.toArray.size - n) = l.toArray.size by omega] at this
  exact this
end
section
variable {P : Program} {Q : Exit → Act → World → Prop} [NL Q] {n : Nat} {ds : List Deferred} {S : Slots} {g : Gh} {L : List Ent} {id : Nat} {l : List Oper}
theorem TC.region_tailY (m : Nat) (hm : P.follows .mixedOrders = true) (hB : Region.lexTailB .any l.toArray m = true) (hd : ((l.take m).all fun o => !isDefer o.op) = true)
    (h : TW P l.toArray (YQ P none l.toArray Q (l.drop m)) (l.take m) n ds S g L) : TC P Q (.region id l.toArray true) n ds S g L := .mk fun a _w hf hs =>
  (wpIn_wide (n := 0)).1 (wpIn_region_any hm (any_tailY (r := none) (C := St g L) m hB hd hs.drew (h.h a hf)))
end
end Go.TL
namespace Go.Proofs.YtgollffmdpejiaaGreatDoor
open Go.RowKit Go.TL
theorem midPerm (e : Ent) (A M : List Ent) : (A ++ (e :: M)).Perm (e :: (A ++ M)) := List.perm_middle
theorem midSel (e : Ent) : ∀ (A M : List Ent), Sel (A ++ M) (A ++ (e :: M))
  | [], _ => .drop .refl
  | _ :: A, M => .cons .here (midSel e A M)
theorem midPick (e : Ent) : ∀ (A M : List Ent), Pick e (A ++ (e :: M)) (A ++ M)
  | [], _ => .here
  | _ :: A, M => .there (midPick e A M)
end Go.Proofs.YtgollffmdpejiaaGreatDoor
namespace Go.TL
open Go Go.RowKit Go.Proofs.YtgollffmdpejiaaGreatDoor
section
variable {P : Program} {n : Nat} {ds : List Deferred} {S : Slots} {g : Gh} {L : List Ent} {dst : Option Nat} {ty : TypeId} {pos : String} {aft : Array Edge} {gd : Option (Nat × Bool)} {t e : TypeId}
theorem Y.build_three {x1 x2 x3 : Operand} {u1 u2 u3 z1 z2 z3 z0 : Value} {sz b1 b2 : Nat} [ht : Und P t (.array 3 e)] [he : Inf P e 1 b1 z0] [hi : Inf P t sz b2 (.agg #[z1, z2, z3])]
    (h1 : ev S x1 = some u1) (h2 : ev S x2 = some u2) (h3 : ev S x3 = some u3) (o1 : u1.one = true) (o2 : u2.one = true) (o3 : u3.one = true) : Yields P n ds S g L ⟨dst, .build t #[(0, x1), (1, x2), (2, x3)], ty, pos, aft, gd⟩ (.agg #[u1, u2, u3]) := .mk fun a w hf _ => by
  obtain ⟨j, hj, hs, _⟩ := he.eq
  have hz := run_zero (P := P) (t := t) (z := .agg #[z1, z2, z3]) w
  have c0 : (Value.agg #[z1, z2, z3]).cells = #[z1, z2, z3] := rfl
  have c1 := cells_one o1
  have c2 := cells_one o2
  have c3 := cells_one o3
  generalize hc1 : u1.cells = k1 at *
  generalize hc2 : u2.cells = k2 at *
  generalize hc3 : u3.cells = k3 at *
  subst c1 c2 c3
  simp [execOp, Instr.build, hz, run_und ht.eq, run_size hj, hs, hf.ev h1, hf.ev h2, hf.ev h3, Instr.fill, hc1, hc2, hc3, c0]
theorem Y.slice_arr {x : Operand} {b k sz bytes : Nat} {z : Value} [ht : Und P t (.array k e)] [he : Inf P e sz bytes z] (hx : ev S x = some (.pointer (some ⟨b, 0, none⟩))) : Yields P n ds S g L ⟨dst, .slice t x none none none, ty, pos, aft, gd⟩ (.slice (some ⟨b, 0, none⟩) k k) := .mk fun a w hf _ => by
  obtain ⟨ii, hii, hs, _⟩ := he.eq
  simp [execOp, Instr.sliceAt, Instr.sliceBounds, hf.ev hx, run_und ht.eq, run_size hii, Instr.sureAddr, Addr.add]
variable {ops : Array Oper} {Q : Exit → Act → World → Prop} {rest : List Oper} {L' : List Ent} {d : Nat}
theorem TL.slice_keep {x : Operand} {b k bytes : Nat} {z : Value} {cs : List Value} {E : TypeId} [ht : Und P t (.array k e)] [he : Inf P e 1 bytes z] (hx : ev S x = some (.pointer (some ⟨b, 0, none⟩))) (hm : Pick (.obj b (.cells cs.toArray E (0, 0))) L L') (hl : cs.length = k * 1) (hk : k ≤ maxLen) (hd : Nat.blt d n = true)
    (kk : ∀ g', g.le g' → Sl g' (.slice (some ⟨b, 0, none⟩) k k) k 1 cs → TL P ops Q rest n ds ((d, .slice (some ⟨b, 0, none⟩) k k) :: S) g' L') : TL P ops Q (⟨some d, .slice t x none none none, ty, pos, aft, none⟩ :: rest) n ds S g L :=
  TL.freeze_obj b 1 hm hl hk fun g' h1 h2 => TL.pure (Y.slice_arr hx) hd (kk g' h1 h2)
end
end Go.TL
namespace Go.TL
open Go Go.RowKit Go.Proofs.YtgollffmdpejiaaGreatDoor
def invB (P : Program) (T : TypeId) (name : String) (f : FuncId) : Bool := match P.info? T with
  | some i => match i.methods.find? (·.name == name) with
    | some m => m.path.size == 0 && (match m.func with | some (f', b) => f' == f && !b | none => false)
    | none => false
  | none => false
def noPtr : TypeDesc → Bool
  | .pointer _ => false
  | _ => true
theorem method_run {P : Program} {T : TypeId} {name : String} {f : FuncId} {d : TypeDesc} (h : invB P T name f = true) (hu : P.underlying T = some d) (hd : noPtr d = true) (k : Nat) (v : Value) (w : World) : (method (k + 1) T v name).run P w = .ok (f, v) w := by
  unfold invB at h
  split at h
  · rename_i i hi
    split at h
    · rename_i m hm
      rw [Bool.and_eq_true] at h
      obtain ⟨h1, h2⟩ := h
      split at h2
      · rename_i f' b hf
        rw [Bool.and_eq_true] at h2
        obtain ⟨h3, h4⟩ := h2
        obtain rfl : f' = f := beq_iff_eq.1 h3
        obtain rfl : b = false := by simpa using h4
        have hp : m.path = #[] := Array.eq_empty_of_size_eq_zero (beq_iff_eq.1 h1)
        have hti : (typeInfo T).run P w = .ok i w := by simp [typeInfo, hi]
        rw [method]
        simp only [Sem.run_bind, hti, Result.andThen_ok, hm, hp, hf]
        simp only [follow, Sem.run_pure, Result.andThen_ok, receiverAt, Sem.run_bind, run_und hu, Place.get]
        cases d <;> first | rfl | cases hd
      · cases h2
    · cases h
  · cases h
theorem Enters.invoke {P : Program} {n : Nat} {ds : List Deferred} {S : Slots} {g : Gh} {L : List Ent} {dst : Option Nat} {ty : TypeId} {pos : String} {aft : Array Edge} {gd : Option (Nat × Bool)} {x : Operand} {name : String} {T : TypeId} {v : Value} {d : TypeDesc} {f : FuncId} {xs : List Operand} {vs : List Value} {ats : Array TypeId} [hu : Und P T d] (hx : ev S x = some (.iface T v)) (hm : invB P T name f = true) (hd : noPtr d = true) (hc : callable P f = true) (hy : evs S xs = some vs) : Enters P n ds S g L ⟨dst, .call { callee := .invoke x name, args := xs.toArray, argTypes := ats }, ty, pos, aft, gd⟩ f (v :: vs).toArray := .mk fun a w hfr _ => by
  have h1 := hfr.evs hy
  have h2 := hfr.ev hx
  have h3 := fun w => method_run hm hu.eq hd (P.types.size + 99) v w
  have h4 : ∀ w, (callMethod (.iface T v) name vs.toArray).run P w = .ok (.enter f (v :: vs).toArray) w := fun w => by
    show (do let (f, receiver) ← method ((← program).types.size + Made.depth) T v name; callFunc f (#[receiver] ++ vs.toArray) : Sem Next).run P w = _
    simp only [Sem.run_bind, run_program, Result.andThen_ok]
    rw [show P.types.size + Made.depth = P.types.size + 99 + 1 from rfl, h3]
    simp [callFunc_run hc]
  simp [execOp, resolve, Go.invoke, h2, h1, h4]
end Go.TL
namespace Go.Proofs.YtgollffmdpejiaaGreatDoor
open Go.RowKit Go.TL
set_option maxRecDepth 100000

set_option maxHeartbeats 8000000 in
theorem count_gives : ∀ (N : Nat) (x : DV), dsz x ≤ N → ∀ (cs : List Value) (g : Gh) (L : List Ent) (left : Int), IsV g x cs → 0 ≤ left → left ≤ 1000 → Gives Tryz.prog 35 #[.agg cs.toArray, .int .i64 left] g L (.int .i64 (cnt x left))
  | 0, .mk .., h, _, _, _, _, _, _, _ => by rw [dsz] at h; omega
  | N + 1, .mk k b n s items names, hN, cs, g, L, left, hV, l0, l1 => by
    have IH := count_gives N
    rw [dsz] at hN
    rw [IsV] at hV
    obtain ⟨vi, vn, flat, rfl, ⟨k0, k1⟩, _, hs, hi, hil, hfl, hn, hnl, hns⟩ := hV
    obtain ⟨aoi, capi, rfl⟩ := hi.slice
    obtain ⟨aon, capn, rfl⟩ := hn.slice
    obtain ⟨R, hR⟩ : ∃ R, R = cnt (.mk k b n s items names) left := ⟨_, rfl⟩
    rw [← hR]
    rw [cnt] at hR
    refine .of (Does.of2 Tryz.func35 rfl Tryz.ntmps35 rfl ?_)
    by_cases hb1 : left - 1 < 0
    · rw [if_pos (.inl hb1)] at hR
      subst hR
      repeat' (first
    | refine stS ?_ | (refine stB ?_; intro _) | (refine stC ?_; constructor <;> intro _))
      refine TQ.endR1 (L' := L) Tryz.results35 rvA rfl (.refl _) ?_ selA
      exact ⟨rfl, rfl, rfl⟩
    by_cases hb2 : 300 < s.length
    · rw [if_pos (.inr (.inl hb2))] at hR
      subst hR
      repeat' (first
    | refine stS ?_ | (refine stB ?_; intro _) | (refine stC ?_; constructor <;> intro _))
      refine TQ.endR1 (L' := L) Tryz.results35 rvA rfl (.refl _) ?_ selA
      exact ⟨rfl, rfl, rfl⟩
    by_cases hb3 : 300 < items.length
    · rw [if_pos (.inr (.inr (.inl hb3)))] at hR
      subst hR
      repeat' (first
    | refine stS ?_ | (refine stB ?_; intro _) | (refine stC ?_; constructor <;> intro _))
      refine TQ.endR1 (L' := L) Tryz.results35 rvA rfl (.refl _) ?_ selA
      exact ⟨rfl, rfl, rfl⟩
    by_cases hk5 : k = 5
    · subst hk5
      by_cases hb4 : names.length = items.length
      · rw [if_neg (by omega), if_pos (.inr rfl)] at hR
        repeat' (first
    | refine stS ?_ | (refine stB ?_; intro _) | (refine stC ?_; constructor <;> intro _))
        rename_i bo
        refine TC.loopK (fun x : Nat × Int => x.1 ≤ items.length ∧ 0 ≤ x.2 ∧ x.2 ≤ 1000 ∧ cnts true (names.drop x.1) (items.drop x.1) x.2 = R) (fun x => items.length - x.1) (fun x _ => [(5, .int .i64 (x.1 : Nat)), (1, .int .i64 x.2), (2, .pointer (some ⟨bo, 0, none⟩))]) [] (by repeat (first | apply Drop.nil | apply Drop.cons (by (repeat (first | apply Pick.here | apply Pick.there))))) (fun _ L => L) (0, left - 1) ⟨Nat.zero_le _, by omega, by omega, by rw [hR]; rfl⟩ subA selA ?_
        clear hR
        rintro ⟨i, l⟩ ⟨hi1, m0, m1, hR⟩
        dsimp only at hi1 m0 m1 hR ⊢
        by_cases hlt : i < items.length
        · obtain ⟨x, hx⟩ : ∃ x, items[i]? = some x := ⟨_, List.getElem?_eq_getElem hlt⟩
          obtain ⟨nm, hnm⟩ : ∃ nm, names[i]? = some nm := ⟨_, List.getElem?_eq_getElem (by omega)⟩
          obtain ⟨cs', hV', hl6, hcs⟩ := hfl.get hx
          obtain ⟨b1, o1, rfl, hg⟩ := hi.elem hlt (by decide)
          obtain ⟨b2, o2, rfl, hg2⟩ := hn.elem (i := i) (by omega) (by decide)
          have hld : ∀ j u, cs'[j]? = some u → g.cell b1 (o1 + i * 6 + j) = some u := fun j u hu => hg j u (hcs j u hu)
          have hln : g.cell b2 (o2 + i * 1) = some (str nm) := hg2 0 _ (by rw [Nat.mul_one]; exact strs_get hnm)
          have hnmb := hns nm (List.mem_of_getElem? hnm)
          have hsz := dsz_get hx
          rw [cnts_at hx, List.headD_eq_head?_getD, List.head?_drop, hnm] at hR
          obtain ⟨c0, c1⟩ := cnt_bd x l m0 m1
          have A := fun L => IH x (by omega) cs' g L l hV' m0 m1
          generalize cnt x l = r at *
          clear hfl hi hn hcs hg hg2 hns hV'
          simp only [Option.getD_some, true_and] at hR
          have hR1 : 300 < nm.length → R = -1 := fun h => by rw [if_pos h] at hR; exact hR.symm
          have hR2 : ¬ 300 < nm.length → r < 0 → R = -1 := fun h h2 => by rw [if_neg h, if_pos h2] at hR; exact hR.symm
          have hR3 : ¬ 300 < nm.length → ¬ r < 0 → cnts true (names.drop (i + 1)) (items.drop (i + 1)) r = R := fun h h2 => by rw [if_neg h, if_neg h2] at hR; exact hR
          clear hR
          repeat' (first
    | refine wkV ?_
    | refine wkD (A _) ?_
    | refine stS ?_ | (refine stB ?_; intro _) | (refine stC ?_; constructor <;> intro _))
          · obtain rfl := hR1 (by omega)
            refine TQ.endR1 (L' := L) Tryz.results35 rvA rfl (.refl _) ?_ selA
            exact ⟨rfl, rfl, rfl⟩
          · obtain rfl := hR2 (by omega) (by omega)
            refine TQ.endR1 (L' := L) Tryz.results35 rvA rfl (.refl _) ?_ selA
            exact ⟨rfl, rfl, rfl⟩
          · refine TQ.round (i + 1, r) ?_ ?_ rfl subA selA
            · exact ⟨by omega, by omega, c1, hR3 (by omega) (by omega)⟩
            · show items.length - (i + 1) < items.length - i
              omega
        · obtain rfl : i = items.length := by omega
          rw [List.drop_length, cnts] at hR
          subst hR
          repeat' (first
    | refine stS ?_ | (refine stB ?_; intro _) | (refine stC ?_; constructor <;> intro _))
          refine TQ.endR1 (L' := L) Tryz.results35 rvA rfl (.refl _) ?_ selA
          exact ⟨rfl, rfl, rfl⟩
      · rw [if_pos (.inr (.inr (.inr ⟨rfl, hb4⟩)))] at hR
        subst hR
        repeat' (first
    | refine stS ?_ | (refine stB ?_; intro _) | (refine stC ?_; constructor <;> intro _))
        refine TQ.endR1 (L' := L) Tryz.results35 rvA rfl (.refl _) ?_ selA
        exact ⟨rfl, rfl, rfl⟩
    by_cases hk4 : k = 4
    · subst hk4
      rw [if_neg (by omega), if_pos (.inl rfl)] at hR
      repeat' (first
    | refine stS ?_ | (refine stB ?_; intro _) | (refine stC ?_; constructor <;> intro _))
      rename_i bo
      refine TC.loopK (fun x : Nat × Int => x.1 ≤ items.length ∧ 0 ≤ x.2 ∧ x.2 ≤ 1000 ∧ cnts false (names.drop x.1) (items.drop x.1) x.2 = R) (fun x => items.length - x.1) (fun x _ => [(5, .int .i64 (x.1 : Nat)), (1, .int .i64 x.2), (2, .pointer (some ⟨bo, 0, none⟩))]) [] (by repeat (first | apply Drop.nil | apply Drop.cons (by (repeat (first | apply Pick.here | apply Pick.there))))) (fun _ L => L) (0, left - 1) ⟨Nat.zero_le _, by omega, by omega, by rw [hR]; rfl⟩ subA selA ?_
      clear hR
      rintro ⟨i, l⟩ ⟨hi1, m0, m1, hR⟩
      dsimp only at hi1 m0 m1 hR ⊢
      by_cases hlt : i < items.length
      · obtain ⟨x, hx⟩ : ∃ x, items[i]? = some x := ⟨_, List.getElem?_eq_getElem hlt⟩
        obtain ⟨cs', hV', hl6, hcs⟩ := hfl.get hx
        obtain ⟨b1, o1, rfl, hg⟩ := hi.elem hlt (by decide)
        have hld : ∀ j u, cs'[j]? = some u → g.cell b1 (o1 + i * 6 + j) = some u := fun j u hu => hg j u (hcs j u hu)
        have hsz := dsz_get hx
        rw [cnts_at hx, if_neg (by simp)] at hR
        obtain ⟨c0, c1⟩ := cnt_bd x l m0 m1
        have A := fun L => IH x (by omega) cs' g L l hV' m0 m1
        generalize cnt x l = r at *
        clear hfl hi hn hcs hg hns hV'
        have hR2 : r < 0 → R = -1 := fun h2 => by rw [if_pos h2] at hR; exact hR.symm
        have hR3 : ¬ r < 0 → cnts false (names.drop (i + 1)) (items.drop (i + 1)) r = R := fun h2 => by rw [if_neg h2] at hR; exact hR
        clear hR
        repeat' (first
    | refine wkV ?_
    | refine wkD (A _) ?_
    | refine stS ?_ | (refine stB ?_; intro _) | (refine stC ?_; constructor <;> intro _))
        · obtain rfl := hR2 (by omega)
          refine TQ.endR1 (L' := L) Tryz.results35 rvA rfl (.refl _) ?_ selA
          exact ⟨rfl, rfl, rfl⟩
        · refine TQ.round (i + 1, r) ?_ ?_ rfl subA selA
          · exact ⟨by omega, by omega, c1, hR3 (by omega)⟩
          · show items.length - (i + 1) < items.length - i
            omega
      · obtain rfl : i = items.length := by omega
        rw [List.drop_length, cnts] at hR
        subst hR
        repeat' (first
    | refine stS ?_ | (refine stB ?_; intro _) | (refine stC ?_; constructor <;> intro _))
        refine TQ.endR1 (L' := L) Tryz.results35 rvA rfl (.refl _) ?_ selA
        exact ⟨rfl, rfl, rfl⟩
    rw [if_neg (by omega), if_neg (by omega)] at hR
    subst hR
    have n5 : Hn (¬ k = 5) := ⟨hk5⟩
    have n4 : Hn (¬ k = 4) := ⟨hk4⟩
    repeat' (first
    | refine stS ?_ | (refine stB ?_; intro _) | (refine stC ?_; constructor <;> intro _))
    refine TQ.endR1 (L' := L) Tryz.results35 rvA rfl (.refl _) ?_ selA
    exact ⟨rfl, rfl, rfl⟩
set_option maxHeartbeats 4000000 in
theorem light_gives (x : DV) (cs : List Value) (g : Gh) (L : List Ent) (hV : IsV g x cs) : Gives Tryz.prog 14 #[.agg cs.toArray] g L (.bool (lightB x)) := by
  refine .of (Does.of1 Tryz.func14 rfl Tryz.ntmps14 rfl ?_)
  have A := fun L => count_gives _ x (Nat.le_refl _) cs g L 300 hV (by decide) (by decide)
  obtain ⟨c0, c1⟩ := cnt_bd x 300 (by decide) (by decide)
  unfold lightB
  generalize cnt x 300 = r at *
  have h6 := hV.len
  clear hV
  repeat' (first
    | refine wkV ?_
    | refine wkD (A _) ?_
    | refine stS ?_ | (refine stB ?_; intro _) | (refine stC ?_; constructor <;> intro _))
  all_goals
    refine TQ.endR1 (L' := L) Tryz.results14 rvA rfl (.refl _) ?_ selA
    exact ⟨rfl, rfl, rfl⟩
end Go.Proofs.YtgollffmdpejiaaGreatDoor
