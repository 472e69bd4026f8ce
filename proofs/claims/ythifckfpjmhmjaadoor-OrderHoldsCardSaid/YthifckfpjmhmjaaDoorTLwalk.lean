/-
  A walk by lemmas: code, loops, cuts, calls.
-/
import Derived.Test.YthifckfpjmhmjaaDoorTLcore
namespace Go.TL
open Go Go.RowKit

/-! ### The walk's goals -/
section
variable (P : Program)
/-- Operations, one behind the other. -/
structure TL (ops : Array Oper) (Q : Exit → Act → World → Prop) (l : List Oper) (n : Nat) (ds : List Deferred) (S : Slots) (g : Gh) (L : List Ent) : Prop where
  h : ∀ a w, Fr n ds S a → St g L w → wpList P ops Q l a w
/-- Code. -/
structure TC (Q : Exit → Act → World → Prop) (c : Code) (n : Nat) (ds : List Deferred) (S : Slots) (g : Gh) (L : List Ent) : Prop where
  h : ∀ a w, Fr n ds S a → St g L w → c.wp P Q a w
/-- An end. -/
structure TQ (Q : Exit → Act → World → Prop) (e : Exit) (n : Nat) (ds : List Deferred) (S : Slots) (g : Gh) (L : List Ent) : Prop where
  h : ∀ a w, Fr n ds S a → St g L w → Q e a w
/-- Operations in an order that is drawn, all of which only read. -/
structure TW (ops : Array Oper) (Q : Exit → Act → World → Prop) (l : List Oper) (n : Nat) (ds : List Deferred) (S : Slots) (g : Gh) (L : List Ent) : Prop where
  h : ∀ a, Fr n ds S a → wpQuiet P ops (St g L) (fun a' => ∀ w', St g L w' → Q .normal a' w') l a
/-- What an operation yields that only reads. -/
structure Yields (n : Nat) (ds : List Deferred) (S : Slots) (g : Gh) (L : List Ent) (o : Oper) (v : Value) : Prop where
  h : ∀ a w, Fr n ds S a → St g L w → (execOp a.eval o).run P w = .ok (.value v) w
/-- A function's contract. -/
structure Does (f : FuncId) (args : Array Value) (g : Gh) (L : List Ent) (R : Ending → Gh → List Ent → Prop) : Prop where
  h : ∀ w, St g L w → Calls P f args w fun e w' => ∃ g' L', g.le g' ∧ R e g' L' ∧ St g' L' w'
/-- It hands back a value, and nothing that is owned has turned. -/
structure Gives (f : FuncId) (args : Array Value) (g : Gh) (L : List Ent) (v : Value) : Prop where
  h : ∀ w, St g L w → Calls P f args w fun e w' => e = .returned v ∧ St g L w'
end
variable {P : Program} {ops : Array Oper} {Q : Exit → Act → World → Prop} {l rest : List Oper} {n : Nat} {ds : List Deferred} {S : Slots} {g : Gh} {L : List Ent}
theorem Gives.does {f : FuncId} {args : Array Value} {v : Value} (h : Gives P f args g L v) : Does P f args g L fun e g' L' => e = .returned v ∧ g' = g ∧ L' = L :=
  ⟨fun w hw => (h.h w hw).mono fun _ _ ⟨he, hs⟩ => ⟨g, L, .refl g, ⟨he, rfl, rfl⟩, hs⟩⟩

/-! ### Code -/
/-- What stands behind the first of two. -/
def Then (P : Program) (y : Code) (Q : Exit → Act → World → Prop) : Exit → Act → World → Prop := Exit.then (y.wp P Q) Q
theorem TC.seq {x y : Code} (h : TC P (Then P y Q) x n ds S g L) : TC P Q (x.seq y) n ds S g L := .mk fun a w hf hs => wp_seq (h.h a w hf hs)
theorem TC.seq_region {id : Nat} {l : Array Oper} {b : Bool} {y : Code} (h : TC P (Then P y Q) (.region id l b) n ds S g L) : TC P Q (Code.seq (.region id l b) y) n ds S g L := .seq h
theorem TQ.then_normal {y : Code} (h : TC P Q y n ds S g L) : TQ (Then P y Q) .normal n ds S g L := ⟨h.h⟩
theorem TQ.then_ret {y : Code} (h : TQ Q .ret n ds S g L) : TQ (Then P y Q) .ret n ds S g L := ⟨h.h⟩
theorem TQ.then_exit {y : Code} {id : Nat} (h : TQ Q (.exit id) n ds S g L) : TQ (Then P y Q) (.exit id) n ds S g L := ⟨h.h⟩
theorem TQ.then_panic {y : Code} {c : List PanicEntry} (h : TQ Q (.panic c) n ds S g L) : TQ (Then P y Q) (.panic c) n ds S g L := ⟨h.h⟩
theorem TC.block {id : Nat} {c : Code} (h : TC P (Exit.inBlock id Q) c n ds S g L) : TC P Q (.block id c) n ds S g L := .mk fun a w hf hs => wp_block (h.h a w hf hs)
theorem TQ.in_normal {id : Nat} (h : TQ Q .normal n ds S g L) : TQ (Exit.inBlock id Q) .normal n ds S g L := ⟨h.h⟩
theorem TQ.in_ret {id : Nat} (h : TQ Q .ret n ds S g L) : TQ (Exit.inBlock id Q) .ret n ds S g L := ⟨h.h⟩
theorem TQ.in_panic {id : Nat} {c : List PanicEntry} (h : TQ Q (.panic c) n ds S g L) : TQ (Exit.inBlock id Q) (.panic c) n ds S g L := ⟨h.h⟩
theorem TQ.in_exit {id : Nat} (h : TQ Q .normal n ds S g L) : TQ (Exit.inBlock id Q) (.exit id) n ds S g L := .mk fun a w hf hs => by
  show if id = id then _ else _
  rw [if_pos rfl]; exact h.h a w hf hs
theorem TQ.in_exit' {id id' : Nat} (hne : Nat.beq id' id = false) (h : TQ Q (.exit id') n ds S g L) : TQ (Exit.inBlock id Q) (.exit id') n ds S g L := .mk fun a w hf hs => by
  show if id' = id then _ else _
  rw [if_neg (fun e => by subst e; simp at hne)]; exact h.h a w hf hs
theorem TC.skip (h : TQ Q .normal n ds S g L) : TC P Q .skip n ds S g L := .mk fun a w hf hs => wp_skip (h.h a w hf hs)
theorem TC.ret (h : TQ Q .ret n ds S g L) : TC P Q .ret n ds S g L := .mk fun a w hf hs => wp_ret (h.h a w hf hs)
theorem TC.exit {id : Nat} (h : TQ Q (.exit id) n ds S g L) : TC P Q (.exit id) n ds S g L := .mk fun a w hf hs => wp_exit (h.h a w hf hs)
theorem TC.cond_true {c : Operand} {x y : Code} (hc : ev S c = some (.bool true)) (h : TC P Q x n ds S g L) : TC P Q (.cond c x y) n ds S g L := .mk fun a w hf hs => wp_cond_true (hf.ev hc) (h.h a w hf hs)
theorem TC.cond_false {c : Operand} {x y : Code} (hc : ev S c = some (.bool false)) (h : TC P Q y n ds S g L) : TC P Q (.cond c x y) n ds S g L := .mk fun a w hf hs => wp_cond_false (hf.ev hc) (h.h a w hf hs)
theorem TC.cond_dec {c : Operand} {x y : Code} {p : Prop} [Decidable p] (hc : ev S c = some (.bool (decide p))) (h : p → TC P Q x n ds S g L) (h' : ¬ p → TC P Q y n ds S g L) : TC P Q (.cond c x y) n ds S g L := .mk fun a w hf hs => by
  by_cases hp : p
  · exact wp_cond_true (by rw [hf.ev hc, decide_eq_true hp]) ((h hp).h a w hf hs)
  · exact wp_cond_false (by rw [hf.ev hc, decide_eq_false hp]) ((h' hp).h a w hf hs)
theorem TC.cond_not {c : Operand} {x y : Code} {p : Prop} [Decidable p] (hc : ev S c = some (.bool (!decide p))) (h : ¬ p → TC P Q x n ds S g L) (h' : p → TC P Q y n ds S g L) : TC P Q (.cond c x y) n ds S g L := .mk fun a w hf hs => by
  by_cases hp : p
  · exact wp_cond_false (by rw [hf.ev hc, decide_eq_true hp]; rfl) ((h' hp).h a w hf hs)
  · exact wp_cond_true (by rw [hf.ev hc, decide_eq_false hp]; rfl) ((h hp).h a w hf hs)
theorem TC.cond_bool {c : Operand} {x y : Code} {b : Bool} (hc : ev S c = some (.bool b)) (h : b = true → TC P Q x n ds S g L) (h' : b = false → TC P Q y n ds S g L) : TC P Q (.cond c x y) n ds S g L := .mk fun a w hf hs => by
  cases b with
  | false => exact wp_cond_false (hf.ev hc) ((h' rfl).h a w hf hs)
  | true => exact wp_cond_true (hf.ev hc) ((h rfl).h a w hf hs)
theorem TC.region {id : Nat} {l : List Oper} (h : TL P l.toArray Q l n ds S g L) : TC P Q (.region id l.toArray false) n ds S g L := .mk fun a w hf hs => wp_region_lit (h.h a w hf hs)
theorem TC.region_draw {id : Nat} {l : List Oper} (hm : P.follows .mixedOrders = true) (hB : Region.lexB .any l.toArray = true) (h : TW P l.toArray Q l n ds S g L) : TC P Q (.region id l.toArray true) n ds S g L := .mk fun a w hf hs =>
  wp_region_quiet (C := St g L) hm hB hs.drew (by simpa using h.h a hf)
/-- Less is known. -/
theorem TC.weak {c : Code} {S' : Slots} {L' : List Ent} (h : TC P Q c n ds S' g L') (hS : Sub S' S) (hL : Sel L' L) : TC P Q c n ds S g L := .mk fun a w hf hs => h.h a w (hf.sub hS) (hs.sel hL)
theorem TQ.weak {e : Exit} {S' : Slots} {L' : List Ent} (h : TQ Q e n ds S' g L') (hS : Sub S' S) (hL : Sel L' L) : TQ Q e n ds S g L := .mk fun a w hf hs => h.h a w (hf.sub hS) (hs.sel hL)
theorem TC.perm {c : Code} {L' : List Ent} (h : TC P Q c n ds S g L') (hL : L'.Perm L) : TC P Q c n ds S g L := .mk fun a w hf hs => h.h a w hf (hs.perm hL)
theorem TL.perm {L' : List Ent} (h : TL P ops Q l n ds S g L') (hL : L'.Perm L) : TL P ops Q l n ds S g L := .mk fun a w hf hs => h.h a w hf (hs.perm hL)
theorem TC.post {c : Code} {Q' : Exit → Act → World → Prop} (h : TC P Q' c n ds S g L) (hq : ∀ e a w, Q' e a w → Q e a w) : TC P Q c n ds S g L := .mk fun a w hf hs => Code.wp_mono hq (h.h a w hf hs)

/-- A cut: what is known there of slots and of what is owned. -/
def Cut (n : Nat) (ds : List Deferred) {α : Type} (p : α → Prop) (S : α → Slots) (G : α → Gh) (L : α → List Ent) (Q : Exit → Act → World → Prop) : Exit → Act → World → Prop
  | .normal, a, w => ∃ x, p x ∧ Fr n ds (S x) a ∧ St (G x) (L x) w
  | e, a, w => Q e a w
theorem TC.cut {α : Type} (p : α → Prop) (S' : α → Slots) (G : α → Gh) (L' : α → List Ent) {x y : Code} (h : TC P (Cut n ds p S' G L' Q) x n ds S g L) (k : ∀ z, p z → TC P Q y n ds (S' z) (G z) (L' z)) : TC P Q (x.seq y) n ds S g L := .mk fun a w hf hs =>
  wp_seq (Code.wp_mono (fun e a w hq => by
    cases e with
    | normal => obtain ⟨z, hp, hf', hs'⟩ := hq; exact (k z hp).h a w hf' hs'
    | _ => exact hq) (h.h a w hf hs))
theorem TQ.cut {α : Type} {p : α → Prop} {S' : α → Slots} {G : α → Gh} {L' : α → List Ent} (x : α) (hp : p x) (hG : G x = g) (hS : Sub (S' x) S) (hL : Sel (L' x) L) : TQ (Cut n ds p S' G L' Q) .normal n ds S g L := .mk fun a w hf hs =>
  ⟨x, hp, hf.sub hS, by rw [hG]; exact hs.sel hL⟩
theorem TQ.cut_ret {α : Type} {p : α → Prop} {S' : α → Slots} {G : α → Gh} {L' : α → List Ent} (h : TQ Q .ret n ds S g L) : TQ (Cut n ds p S' G L' Q) .ret n ds S g L := ⟨h.h⟩
theorem TQ.cut_exit {α : Type} {p : α → Prop} {S' : α → Slots} {G : α → Gh} {L' : α → List Ent} {id : Nat} (h : TQ Q (.exit id) n ds S g L) : TQ (Cut n ds p S' G L' Q) (.exit id) n ds S g L := ⟨h.h⟩
theorem TQ.cut_panic {α : Type} {p : α → Prop} {S' : α → Slots} {G : α → Gh} {L' : α → List Ent} {c : List PanicEntry} (h : TQ Q (.panic c) n ds S g L) : TQ (Cut n ds p S' G L' Q) (.panic c) n ds S g L := ⟨h.h⟩

/-- A cut that names but what has turned. -/
theorem TC.cutK {α : Type} (p : α → Prop) (T : α → Slots → Slots) {LF : List Ent} (bs : List Nat) (hD : Drop bs L LF) (E : α → List Ent → List Ent) {x y : Code} (h : TC P (Cut n ds p (fun z => T z S) (fun _ => g) (fun z => E z LF) Q) x n ds S g L) (k : ∀ z, p z → TC P Q y n ds (T z S) g (E z LF)) : TC P Q (x.seq y) n ds S g L :=
  .cut p (fun z => T z S) (fun _ => g) (fun z => E z LF) h k

/-- A loop: 'x' is where it stands, 'm x' goes down. -/
def Round (n : Nat) (ds : List Deferred) {α : Type} (p : α → Prop) (m : α → Nat) (S : α → Slots) (G : α → Gh) (L : α → List Ent) (x : α) (Q : Exit → Act → World → Prop) : Exit → Act → World → Prop
  | .normal, a, w => ∃ x', p x' ∧ m x' < m x ∧ Fr n ds (S x') a ∧ St (G x') (L x') w
  | e, a, w => Q e a w
theorem TC.loop {α : Type} (p : α → Prop) (m : α → Nat) (S' : α → Slots) (G : α → Gh) (L' : α → List Ent) {c : Code} (x0 : α) (h0 : p x0) (hG : G x0 = g) (hS : Sub (S' x0) S) (hL : Sel (L' x0) L)
    (h : ∀ x, p x → TC P (Round n ds p m S' G L' x Q) c n ds (S' x) (G x) (L' x)) : TC P Q (.loop c) n ds S g L := by
  refine .mk fun a w hf hs => ?_
  have hs0 : St (G x0) (L' x0) w := by rw [hG]; exact hs.sel hL
  have hf0 := hf.sub hS
  clear hf hs
  have key : ∀ k x, m x = k → p x → ∀ a w, Fr n ds (S' x) a → St (G x) (L' x) w → ∀ (b : Frame) (ks : List Item) (cs : List Frame),
      ∃ e a' w', Q e a' w' ∧ Arrives P (lone (b.at a (.code c :: .inLoop c :: ks)) cs w) b ks cs e a' w' := by
    intro k
    induction k using Nat.strongRecOn with
    | _ k ih =>
      intro x hk hp a w hf hs b ks cs
      obtain ⟨e, a₁, w₁, hq, harr⟩ := (h x hp).h a w hf hs b (.inLoop c :: ks) cs
      cases e with
      | normal =>
        obtain ⟨x', hp', hlt, hf', hs'⟩ := hq
        obtain ⟨e₂, a₂, w₂, hq₂, harr₂⟩ := ih (m x') (hk ▸ hlt) x' rfl hp' a₁ w₁ hf' hs' b ks cs
        exact ⟨e₂, a₂, w₂, hq₂, .of_steps (Steps.trans harr (.one step_inLoop)) harr₂⟩
      | exit id => exact ⟨_, a₁, w₁, hq, .pass (x := .inLoop c) rfl (fun _ _ => .inl (by simp)) harr⟩
      | goto l => exact ⟨_, a₁, w₁, hq, .pass (x := .inLoop c) rfl (fun _ _ => .inl (by simp)) harr⟩
      | ret => exact ⟨_, a₁, w₁, hq, .pass (x := .inLoop c) rfl (fun _ _ => .inl (by simp)) harr⟩
      | panic ch => exact ⟨_, a₁, w₁, hq, .pass (x := .inLoop c) rfl (fun _ _ => .inl (by simp)) harr⟩
      | outgrown => exact ⟨_, a₁, w₁, hq, .pass (x := .inLoop c) rfl (fun _ _ => .inl (by simp)) harr⟩
  intro b ks cs
  obtain ⟨e, a', w', hq, harr⟩ := key _ x0 rfl h0 a w hf0 hs0 b ks cs
  exact ⟨e, a', w', hq, .of_steps (.one step_loop) harr⟩
theorem TC.loopK {α : Type} (p : α → Prop) (m : α → Nat) (T : α → Slots → Slots) {LF : List Ent} (bs : List Nat) (hD : Drop bs L LF) (E : α → List Ent → List Ent) {c : Code} (x0 : α) (h0 : p x0) (hS : Sub (T x0 S) S) (hL : Sel (E x0 LF) L)
    (h : ∀ x, p x → TC P (Round n ds p m (fun z => T z S) (fun _ => g) (fun z => E z LF) x Q) c n ds (T x S) g (E x LF)) : TC P Q (.loop c) n ds S g L :=
  .loop p m (fun z => T z S) (fun _ => g) (fun z => E z LF) x0 h0 rfl hS hL h
section
variable {α : Type} {p : α → Prop} {m : α → Nat} {S' : α → Slots} {G : α → Gh} {L' : α → List Ent} {x : α}
theorem TQ.round (x' : α) (hp : p x') (hm : m x' < m x) (hG : G x' = g) (hS : Sub (S' x') S) (hL : Sel (L' x') L) : TQ (Round n ds p m S' G L' x Q) .normal n ds S g L := .mk fun a w hf hs =>
  ⟨x', hp, hm, hf.sub hS, by rw [hG]; exact hs.sel hL⟩
theorem TQ.round_ret (h : TQ Q .ret n ds S g L) : TQ (Round n ds p m S' G L' x Q) .ret n ds S g L := ⟨h.h⟩
theorem TQ.round_exit {id : Nat} (h : TQ Q (.exit id) n ds S g L) : TQ (Round n ds p m S' G L' x Q) (.exit id) n ds S g L := ⟨h.h⟩
theorem TQ.round_panic {c : List PanicEntry} (h : TQ Q (.panic c) n ds S g L) : TQ (Round n ds p m S' G L' x Q) (.panic c) n ds S g L := ⟨h.h⟩
end

/-! ### The call -/
/-- The slots that a call begins with. -/
def argSlots : Nat → List Value → Slots
  | _, [] => []
  | i, v :: vs => (i, v) :: argSlots (i + 1) vs
theorem look_argSlots : ∀ (vs : List Value) (k i : Nat) (v : Value), look i (argSlots k vs) = some v → k ≤ i ∧ vs[i - k]? = some v
  | [], _, _, _, h => by cases h
  | u :: vs, k, i, v, h => by
    rw [argSlots, look] at h
    by_cases hb : Nat.beq i k = true
    · rw [hb] at h
      have e : u = v := Option.some.inj h
      have : i = k := Nat.eq_of_beq_eq_true hb
      subst e; subst this
      exact ⟨Nat.le_refl _, by simp⟩
    · rw [Bool.not_eq_true] at hb
      rw [hb] at h
      obtain ⟨h1, h2⟩ := look_argSlots vs (k + 1) i v h
      refine ⟨by omega, ?_⟩
      rw [show i - k = (i - (k + 1)) + 1 by omega]
      simpa using h2
/-- The end of a call: what it hands back. -/
def End (P : Program) (fn : Func) (R : Ending → Gh → List Ent → Prop) (g : Gh) : Exit → Act → World → Prop := bodyPost P fn fun e w' => ∃ g' L', g.le g' ∧ R e g' L' ∧ St g' L' w'
theorem Does.of {f : FuncId} {fn : Func} {c : Code} {vs : List Value} {R : Ending → Gh → List Ent → Prop} (hf : P.funcs[f]? = some fn) (hb : fn.body = some c) (hn : fn.ntmps = n) (hle : Nat.ble vs.length n = true)
    (h : TC P (End P fn R g) c n [] (argSlots 0 vs) g L) : Does P f vs.toArray g L R := .mk fun w hs => by
  refine calls_of_wp hf hb (h.h _ w ⟨?_, rfl, fun i v hv => ?_⟩ hs)
  · have := Nat.le_of_ble_eq_true hle
    simp [hn]; omega
  · obtain ⟨_, h2⟩ := look_argSlots vs 0 i v hv
    simp only [Nat.sub_zero] at h2
    obtain ⟨hlt, e⟩ := List.getElem?_eq_some_iff.1 h2
    simpa [Array.getD_eq_getD_getElem?, Array.getElem?_append, hlt] using e
theorem Gives.of {f : FuncId} {args : Array Value} {v : Value} (h : Does P f args g L fun e g' L' => e = .returned v ∧ g' = g ∧ L' = L) : Gives P f args g L v :=
  .mk fun w hs => (h.h w hs).mono fun _ _ ⟨_, _, _, ⟨he, hg, hL⟩, hs'⟩ => ⟨he, by subst hg; subst hL; exact hs'⟩

/-- What the results are. -/
def resE (S : Slots) : List ResultVar → Option (List Value)
  | [] => some []
  | .tmp t :: r => match look t S, resE S r with | some v, some vs => some (v :: vs) | _, _ => none
  | .cell .. :: _ => none
theorem TQ.end1 {fn : Func} {R : Ending → Gh → List Ent → Prop} {g0 : Gh} {t : Nat} {v : Value} (hr : fn.results = #[.tmp t]) (hv : look t S = some v) (hd : ds = []) (hg : g0.le g) (h : R (.returned v) g L) : TQ (End P fn R g0) .ret n ds S g L := .mk fun a w hf hs =>
  bodyPost_ret (v := v) (by rw [results_tmp hr, hf.sl t v hv]) (hf.defers.trans hd) ⟨g, L, hg, h, hs⟩
theorem TQ.end2 {fn : Func} {R : Ending → Gh → List Ent → Prop} {g0 : Gh} {t u : Nat} {v x : Value} (hr : fn.results = #[.tmp t, .tmp u]) (hv : look t S = some v) (hx : look u S = some x) (hd : ds = []) (hg : g0.le g) (h : R (.returned (.tuple #[v, x])) g L) : TQ (End P fn R g0) .ret n ds S g L := .mk fun a w hf hs =>
  bodyPost_ret (v := .tuple #[v, x]) (by rw [results_tmp2 hr, hf.sl t v hv, hf.sl u x hx]) (hf.defers.trans hd) ⟨g, L, hg, h, hs⟩
theorem TQ.end0 {fn : Func} {R : Ending → Gh → List Ent → Prop} {g0 : Gh} (hr : fn.results = #[]) (hd : ds = []) (hg : g0.le g) (h : R (.returned (.tuple #[])) g L) : TQ (End P fn R g0) .ret n ds S g L := .mk fun a w hf hs =>
  bodyPost_ret (v := .tuple #[]) (by rw [results_none hr]) (hf.defers.trans hd) ⟨g, L, hg, h, hs⟩

/-! ### Operations -/
theorem TL.nil (h : TQ Q .normal n ds S g L) : TL P ops Q [] n ds S g L := .mk fun a w hf hs => wpList_nil (h.h a w hf hs)
theorem TW.nil (h : TQ Q .normal n ds S g L) : TW P ops Q [] n ds S g L := .mk fun a hf => wpQuiet_nil fun w' hs => h.h a w' hf hs
section
variable {d : Nat} {op : Op} {ty : TypeId} {pos : String} {aft : Array Edge} {v : Value}
theorem execOp_guard (ρ : Operand → Value) (o : Oper) (gd : Option (Nat × Bool)) : execOp ρ { o with guard := gd } = execOp ρ o := rfl
theorem TL.pure (hy : Yields P n ds S g L ⟨some d, op, ty, pos, aft, none⟩ v) (hd : Nat.blt d n = true) (k : TL P ops Q rest n ds ((d, v) :: S) g L) : TL P ops Q (⟨some d, op, ty, pos, aft, none⟩ :: rest) n ds S g L := .mk fun a w hf hs =>
  wpList_plain rfl fun K hK => by
    unfold Oper.wp
    rw [hy.h a w hf hs]
    exact hK _ _ (k.h _ w (hf.put hd v) hs)
theorem TW.pure (hy : Yields P n ds S g L ⟨some d, op, ty, pos, aft, none⟩ v) (hd : Nat.blt d n = true) (k : TW P ops Q rest n ds ((d, v) :: S) g L) : TW P ops Q (⟨some d, op, ty, pos, aft, none⟩ :: rest) n ds S g L := .mk fun a hf =>
  wpQuiet_step fun K hK => by
    simp only [Region.wanted, if_true]
    exact ⟨v, fun w hs => by unfold Oper.quietAt; rw [hy.h a w hf hs]; exact ⟨rfl, rfl⟩, hK _ (k.h _ (hf.put hd v))⟩
/-- The slot of the operation that guards. -/
def gslot (ops : Array Oper) (j : Nat) : Option Nat := (ops[j]?).bind (·.dst)
theorem wanted_of {j t : Nat} {want b : Bool} {dst : Option Nat} {a : Act} (hj : gslot ops j = some t) (hb : look t S = some (.bool b)) (hf : Fr n ds S a) : Region.wanted ⟨dst, op, ty, pos, aft, some (j, want)⟩ (yielded ops a.tmps) = (b == want) := by
  have h1 := hf.sl t _ hb
  have h2 : yielded ops a.tmps j = some b := by
    have hd : (a.tmps[t]?).getD undef = .bool b := by rw [← Array.getD_eq_getD_getElem?]; exact h1
    have : a.tmps[t]? = some (.bool b) := by
      cases e : a.tmps[t]? with
      | none => rw [e] at hd; cases hd
      | some u => rw [e] at hd; exact congrArg some hd
    unfold gslot at hj
    unfold yielded
    cases ho : ops[j]? with
    | none => rw [ho] at hj; cases hj
    | some o =>
      rw [ho] at hj
      have hj : o.dst = some t := hj
      simp [hj, this]
  simp only [Region.wanted, h2]
  cases b <;> cases want <;> rfl
theorem TL.guard_yes {dst : Option Nat} {j t : Nat} {want : Bool} (hj : gslot ops j = some t) (hb : look t S = some (.bool want)) (k : TL P ops Q (⟨dst, op, ty, pos, aft, none⟩ :: rest) n ds S g L) : TL P ops Q (⟨dst, op, ty, pos, aft, some (j, want)⟩ :: rest) n ds S g L := .mk fun a w hf hs => by
  have h := k.h a w hf hs
  unfold wpList at h ⊢
  rw [wanted_of (op := op) (ty := ty) (pos := pos) (aft := aft) (want := want) (dst := dst) hj hb hf]
  rw [if_pos (by simp [Region.wanted])] at h
  rw [if_pos (by simp)]
  exact h
theorem TL.guard_no {d j t : Nat} {want b : Bool} (hj : gslot ops j = some t) (hb : look t S = some (.bool b)) (hne : (b == want) = false) (hd : Nat.blt d n = true) (k : TL P ops Q rest n ds ((d, undef) :: S) g L) : TL P ops Q (⟨some d, op, ty, pos, aft, some (j, want)⟩ :: rest) n ds S g L := .mk fun a w hf hs => by
  unfold wpList
  rw [wanted_of (op := op) (ty := ty) (pos := pos) (aft := aft) (want := want) (dst := some d) hj hb hf, if_neg (by simp [hne])]
  exact k.h _ w (hf.put hd undef) hs
theorem TL.guard_no0 {j t : Nat} {want b : Bool} (hj : gslot ops j = some t) (hb : look t S = some (.bool b)) (hne : (b == want) = false) (k : TL P ops Q rest n ds S g L) : TL P ops Q (⟨none, op, ty, pos, aft, some (j, want)⟩ :: rest) n ds S g L := .mk fun a w hf hs => by
  unfold wpList
  rw [wanted_of (op := op) (ty := ty) (pos := pos) (aft := aft) (want := want) (dst := none) hj hb hf, if_neg (by simp [hne])]
  exact k.h _ w hf hs
theorem unwanted_of {j t : Nat} {want : Bool} {dst : Option Nat} {a : Act} (hj : gslot ops j = some t) (hb : look t S = some undef) (hf : Fr n ds S a) : Region.wanted ⟨dst, op, ty, pos, aft, some (j, want)⟩ (yielded ops a.tmps) = false := by
  have h1 := hf.sl t _ hb
  have h2 : yielded ops a.tmps j = none := by
    have hd : (a.tmps[t]?).getD undef = undef := by rw [← Array.getD_eq_getD_getElem?]; exact h1
    unfold gslot at hj
    unfold yielded
    cases ho : ops[j]? with
    | none => rw [ho] at hj; cases hj
    | some o =>
      rw [ho] at hj
      have hj : o.dst = some t := hj
      cases e : a.tmps[t]? with
      | none => simp [hj, e]
      | some u =>
        rw [e] at hd
        have hd : u = undef := hd
        simp [hj, e, hd, undef]
  simp only [Region.wanted, h2]; rfl
theorem TL.guard_undef {d j t : Nat} {want : Bool} (hj : gslot ops j = some t) (hb : look t S = some undef) (hd : Nat.blt d n = true) (k : TL P ops Q rest n ds ((d, undef) :: S) g L) : TL P ops Q (⟨some d, op, ty, pos, aft, some (j, want)⟩ :: rest) n ds S g L := .mk fun a w hf hs => by
  unfold wpList
  rw [unwanted_of (op := op) (ty := ty) (pos := pos) (aft := aft) (want := want) (dst := some d) hj hb hf, if_neg (by simp)]
  exact k.h _ w (hf.put hd undef) hs
theorem TL.guard_undef0 {j t : Nat} {want : Bool} (hj : gslot ops j = some t) (hb : look t S = some undef) (k : TL P ops Q rest n ds S g L) : TL P ops Q (⟨none, op, ty, pos, aft, some (j, want)⟩ :: rest) n ds S g L := .mk fun a w hf hs => by
  unfold wpList
  rw [unwanted_of (op := op) (ty := ty) (pos := pos) (aft := aft) (want := want) (dst := none) hj hb hf, if_neg (by simp)]
  exact k.h _ w hf hs
theorem TW.guard_undef {d j t : Nat} {want : Bool} (hj : gslot ops j = some t) (hb : look t S = some undef) (hd : Nat.blt d n = true) (k : TW P ops Q rest n ds ((d, undef) :: S) g L) : TW P ops Q (⟨some d, op, ty, pos, aft, some (j, want)⟩ :: rest) n ds S g L := .mk fun a hf => by
  unfold wpQuiet
  rw [unwanted_of (op := op) (ty := ty) (pos := pos) (aft := aft) (want := want) (dst := some d) hj hb hf, if_neg (by simp)]
  exact k.h _ (hf.put hd undef)
/-- The guard is open: both ways, each with what the guard then says. -/
theorem TL.guard_split {dst : Option Nat} {j t : Nat} {want b : Bool} (hj : gslot ops j = some t) (hb : look t S = some (.bool b)) (ht : Nat.blt t n = true)
    (k : b = true → TL P ops Q (⟨dst, op, ty, pos, aft, some (j, want)⟩ :: rest) n ds ((t, .bool true) :: S) g L) (k' : b = false → TL P ops Q (⟨dst, op, ty, pos, aft, some (j, want)⟩ :: rest) n ds ((t, .bool false) :: S) g L) : TL P ops Q (⟨dst, op, ty, pos, aft, some (j, want)⟩ :: rest) n ds S g L := .mk fun a w hf hs => by
  have hsub : ∀ c, b = c → Fr n ds ((t, .bool c) :: S) a := fun c hc => ⟨hf.size, hf.defers, fun i v hv => by
    rw [look] at hv
    by_cases hi : Nat.beq i t = true
    · rw [hi] at hv
      have e : Value.bool c = v := Option.some.inj hv
      have : i = t := Nat.eq_of_beq_eq_true hi
      subst e; subst this; subst hc
      exact hf.sl i _ hb
    · rw [Bool.not_eq_true] at hi
      rw [hi] at hv
      exact hf.sl i v hv⟩
  cases b with
  | true => exact (k rfl).h a w (hsub _ rfl) hs
  | false => exact (k' rfl).h a w (hsub _ rfl) hs
theorem TL.guard_dec {dst : Option Nat} {j t : Nat} {want : Bool} {p : Prop} [Decidable p] (hj : gslot ops j = some t) (hb : look t S = some (.bool (decide p))) (ht : Nat.blt t n = true)
    (k : p → TL P ops Q (⟨dst, op, ty, pos, aft, some (j, want)⟩ :: rest) n ds ((t, .bool true) :: S) g L) (k' : ¬ p → TL P ops Q (⟨dst, op, ty, pos, aft, some (j, want)⟩ :: rest) n ds ((t, .bool false) :: S) g L) : TL P ops Q (⟨dst, op, ty, pos, aft, some (j, want)⟩ :: rest) n ds S g L :=
  .guard_split hj hb ht (fun h => k (of_decide_eq_true h)) (fun h => k' (of_decide_eq_false h))
theorem TL.guard_ndec {dst : Option Nat} {j t : Nat} {want : Bool} {p : Prop} [Decidable p] (hj : gslot ops j = some t) (hb : look t S = some (.bool (!decide p))) (ht : Nat.blt t n = true)
    (k : ¬ p → TL P ops Q (⟨dst, op, ty, pos, aft, some (j, want)⟩ :: rest) n ds ((t, .bool true) :: S) g L) (k' : p → TL P ops Q (⟨dst, op, ty, pos, aft, some (j, want)⟩ :: rest) n ds ((t, .bool false) :: S) g L) : TL P ops Q (⟨dst, op, ty, pos, aft, some (j, want)⟩ :: rest) n ds S g L :=
  .guard_split hj hb ht (fun h => k (by simpa using h)) (fun h => k' (by simpa using h))
/-! The same in a drawn order. -/
theorem TW.guard_yes {dst : Option Nat} {j t : Nat} {want : Bool} (hj : gslot ops j = some t) (hb : look t S = some (.bool want)) (k : TW P ops Q (⟨dst, op, ty, pos, aft, none⟩ :: rest) n ds S g L) : TW P ops Q (⟨dst, op, ty, pos, aft, some (j, want)⟩ :: rest) n ds S g L := .mk fun a hf => by
  have h := k.h a hf
  unfold wpQuiet at h ⊢
  rw [wanted_of (op := op) (ty := ty) (pos := pos) (aft := aft) (want := want) (dst := dst) hj hb hf]
  rw [if_pos (by simp [Region.wanted])] at h
  rw [if_pos (by simp)]
  exact h
theorem TW.guard_no {d j t : Nat} {want b : Bool} (hj : gslot ops j = some t) (hb : look t S = some (.bool b)) (hne : (b == want) = false) (hd : Nat.blt d n = true) (k : TW P ops Q rest n ds ((d, undef) :: S) g L) : TW P ops Q (⟨some d, op, ty, pos, aft, some (j, want)⟩ :: rest) n ds S g L := .mk fun a hf => by
  unfold wpQuiet
  rw [wanted_of (op := op) (ty := ty) (pos := pos) (aft := aft) (want := want) (dst := some d) hj hb hf, if_neg (by simp [hne])]
  exact k.h _ (hf.put hd undef)
theorem TW.guard_split {dst : Option Nat} {j t : Nat} {want b : Bool} (hj : gslot ops j = some t) (hb : look t S = some (.bool b)) (ht : Nat.blt t n = true)
    (k : b = true → TW P ops Q (⟨dst, op, ty, pos, aft, some (j, want)⟩ :: rest) n ds ((t, .bool true) :: S) g L) (k' : b = false → TW P ops Q (⟨dst, op, ty, pos, aft, some (j, want)⟩ :: rest) n ds ((t, .bool false) :: S) g L) : TW P ops Q (⟨dst, op, ty, pos, aft, some (j, want)⟩ :: rest) n ds S g L := .mk fun a hf => by
  have hsub : ∀ c, b = c → Fr n ds ((t, .bool c) :: S) a := fun c hc => ⟨hf.size, hf.defers, fun i v hv => by
    rw [look] at hv
    by_cases hi : Nat.beq i t = true
    · rw [hi] at hv
      have e : Value.bool c = v := Option.some.inj hv
      have : i = t := Nat.eq_of_beq_eq_true hi
      subst e; subst this; subst hc
      exact hf.sl i _ hb
    · rw [Bool.not_eq_true] at hi
      rw [hi] at hv
      exact hf.sl i v hv⟩
  cases b with
  | true => exact (k rfl).h a (hsub _ rfl)
  | false => exact (k' rfl).h a (hsub _ rfl)
theorem TW.guard_dec {dst : Option Nat} {j t : Nat} {want : Bool} {p : Prop} [Decidable p] (hj : gslot ops j = some t) (hb : look t S = some (.bool (decide p))) (ht : Nat.blt t n = true)
    (k : p → TW P ops Q (⟨dst, op, ty, pos, aft, some (j, want)⟩ :: rest) n ds ((t, .bool true) :: S) g L) (k' : ¬ p → TW P ops Q (⟨dst, op, ty, pos, aft, some (j, want)⟩ :: rest) n ds ((t, .bool false) :: S) g L) : TW P ops Q (⟨dst, op, ty, pos, aft, some (j, want)⟩ :: rest) n ds S g L :=
  .guard_split hj hb ht (fun h => k (of_decide_eq_true h)) (fun h => k' (of_decide_eq_false h))
theorem TW.guard_ndec {dst : Option Nat} {j t : Nat} {want : Bool} {p : Prop} [Decidable p] (hj : gslot ops j = some t) (hb : look t S = some (.bool (!decide p))) (ht : Nat.blt t n = true)
    (k : ¬ p → TW P ops Q (⟨dst, op, ty, pos, aft, some (j, want)⟩ :: rest) n ds ((t, .bool true) :: S) g L) (k' : p → TW P ops Q (⟨dst, op, ty, pos, aft, some (j, want)⟩ :: rest) n ds ((t, .bool false) :: S) g L) : TW P ops Q (⟨dst, op, ty, pos, aft, some (j, want)⟩ :: rest) n ds S g L :=
  .guard_split hj hb ht (fun h => k (by simpa using h)) (fun h => k' (by simpa using h))
/-! Calls. -/
/-- Behind a call. -/
def CallK (P : Program) (ops : Array Oper) (Q : Exit → Act → World → Prop) (d : Nat) (rest : List Oper) (n : Nat) (ds : List Deferred) (S : Slots) (g : Gh) (L : List Ent) : Ending → Prop
  | .returned v => TL P ops Q rest n ds ((d, v) :: S) g L
  | .panicked c => TQ Q (.panic c) n ds S g L
  | .outgrown => LetsOut Q
theorem CallK.ret (h : TL P ops Q rest n ds ((d, v) :: S) g L) : CallK P ops Q d rest n ds S g L (.returned v) := h
theorem CallK.panic {c : List PanicEntry} (h : TQ Q (.panic c) n ds S g L) : CallK P ops Q d rest n ds S g L (.panicked c) := h
/-- What a call enters. -/
structure Enters (P : Program) (n : Nat) (ds : List Deferred) (S : Slots) (g : Gh) (L : List Ent) (o : Oper) (f : FuncId) (args : Array Value) : Prop where
  h : ∀ a w, Fr n ds S a → St g L w → (execOp a.eval o).run P w = .ok (.enter f args) w
theorem TL.call {f : FuncId} {args : Array Value} {R : Ending → Gh → List Ent → Prop} (he : Enters P n ds S g L ⟨some d, op, ty, pos, aft, none⟩ f args) (hd : Nat.blt d n = true) (hD : Does P f args g L R)
    (k : ∀ e g' L', g.le g' → R e g' L' → CallK P ops Q d rest n ds S g' L' e) : TL P ops Q (⟨some d, op, ty, pos, aft, none⟩ :: rest) n ds S g L := .mk fun a w hf hs =>
  wpList_plain rfl fun K hK => by
    unfold Oper.wp
    rw [he.h a w hf hs]
    refine (hD.h w hs).mono ?_
    rintro e w' ⟨g', L', hle, hR, hs'⟩
    have := k e g' L' hle hR
    cases e with
    | returned v => exact hK _ _ (this.h _ w' (hf.put hd v) hs')
    | panicked c => exact this.h a w' hf hs'
    | outgrown => exact this
theorem TL.gives {f : FuncId} {args : Array Value} (he : Enters P n ds S g L ⟨some d, op, ty, pos, aft, none⟩ f args) (hD : Gives P f args g L v) (hd : Nat.blt d n = true)
    (k : TL P ops Q rest n ds ((d, v) :: S) g L) : TL P ops Q (⟨some d, op, ty, pos, aft, none⟩ :: rest) n ds S g L :=
  .call he hd hD.does fun e g' L' _ h => by obtain ⟨rfl, rfl, rfl⟩ := h; exact k
theorem TW.gives {f : FuncId} {args : Array Value} (he : Enters P n ds S g L ⟨some d, op, ty, pos, aft, none⟩ f args) (hD : Gives P f args g L v) (hd : Nat.blt d n = true)
    (k : TW P ops Q rest n ds ((d, v) :: S) g L) : TW P ops Q (⟨some d, op, ty, pos, aft, none⟩ :: rest) n ds S g L := .mk fun a hf =>
  wpQuiet_step fun K hK => by
    simp only [Region.wanted, if_true]
    exact ⟨v, fun w hs => by unfold Oper.quietAt; rw [he.h a w hf hs]; exact ⟨rfl, hD.h w hs⟩, hK _ (k.h _ (hf.put hd v))⟩
end
end Go.TL
