/-
  A walk by lemmas: panics, what is deferred, what is caught.
-/
import Derived.Test.YthifckfpjmhmjaaDoorTLany
import Derived.Defers
import Derived.Recover
namespace Go.TL
open Go Go.RowKit Go.Proofs.YthifckfpjmhmjaaDoor

section
variable {P : Program} {ops : Array Oper} {Q : Exit → Act → World → Prop} {rest : List Oper} {n : Nat} {ds : List Deferred} {S : Slots} {g g0 : Gh} {L L' L1 L2 : List Ent}
variable {d : Nat} {op : Op} {ty : TypeId} {pos : String} {aft : Array Edge} {x : Operand} {v v1 v2 : Value} {c : List PanicEntry} {f : FuncId} {args : Array Value} {fn : Func} {R : Ending → Gh → List Ent → Prop} {r1 r2 : ResultVar}
/-- It panics, and nothing that is owned has turned. -/
structure Throws (P : Program) (f : FuncId) (args : Array Value) (g : Gh) (L : List Ent) (c : List PanicEntry) : Prop where
  h : ∀ w, St g L w → Calls P f args w fun e w' => e = .panicked c ∧ St g L w'
theorem Throws.of (h : Does P f args g L fun e g' L' => e = .panicked c ∧ g' = g ∧ L' = L) : Throws P f args g L c :=
  ⟨fun w hs => (h.h w hs).mono fun _ _ ⟨_, _, _, ⟨he, hg, hL⟩, hs'⟩ => ⟨he, by subst hg; subst hL; exact hs'⟩⟩
theorem Throws.does (h : Throws P f args g L c) : Does P f args g L fun e g' L' => e = .panicked c ∧ g' = g ∧ L' = L :=
  ⟨fun w hs => (h.h w hs).mono fun _ _ ⟨he, hs'⟩ => ⟨g, L, .refl g, ⟨he, rfl, rfl⟩, hs'⟩⟩
theorem TL.throws (he : Enters P n ds S g L ⟨some d, op, ty, pos, aft, none⟩ f args) (hT : Throws P f args g L c) (hd : Nat.blt d n = true) (k : TQ Q (.panic c) n ds S g L) : TL P ops Q (⟨some d, op, ty, pos, aft, none⟩ :: rest) n ds S g L :=
  .call he hd hT.does fun e g' L1 _ ⟨h1, h2, h3⟩ => by subst h1; subst h2; subst h3; exact .panic k
theorem TL.panic (hx : ev S x = some v) (hv : (match v with | .iface .. => true | _ => false) = true) (k : TQ Q (.panic [{ v := v, recovered := false }]) n ds S g L) : TL P ops Q (⟨none, .panic x, ty, pos, aft, none⟩ :: rest) n ds S g L := .mk fun a w hf hs =>
  wpList_plain rfl fun K hK => by
    unfold Oper.wp
    have : (execOp a.eval ⟨none, .panic x, ty, pos, aft, none⟩).run P w = .halt (.panic v) w := by
      cases v <;> first | (simp at hv; done) | (simp only [execOp, hf.ev hx]; rfl)
    rw [this]
    exact k.h a w hf hs
theorem TQ.end_panic (hd : ds = []) (hg : g0.le g) (h : R (.panicked c) g L') (hL : Sel L' L) : TQ (End P fn R g0) (.panic c) n ds S g L := .mk fun a w hf hs =>
  ⟨hf.defers.trans hd, g, L', hg, h, hs.sel hL⟩
theorem TQ.endR0 (hr : fn.results = #[]) (hd : ds = []) (hg : g0.le g) (h : R (.returned (.tuple #[])) g L') (hL : Sel L' L) : TQ (End P fn R g0) .ret n ds S g L :=
  .ends hd hg (fun a w hf hs => by rw [results_eq, hr]; simp) h hL

/-! ### What is deferred -/
theorem TL.defer {xs : List Operand} {vs : List Value} {ats : Array TypeId} (hx : evs S xs = some vs) (k : TL P ops Q rest n (⟨.fn (.func f) #[], vs.toArray⟩ :: ds) S g L) : TL P ops Q (⟨none, .defer { callee := .value (.func f), args := xs.toArray, argTypes := ats }, ty, pos, aft, none⟩ :: rest) n ds S g L := .mk fun a w hf hs =>
  wpList_plain rfl fun K hK => by
    unfold Oper.wp
    have h1 := hf.evs hx
    have h2 : a.eval (.func f) = .func (.func f) #[] #[] := rfl
    have : (execOp a.eval ⟨none, .defer { callee := .value (.func f), args := xs.toArray, argTypes := ats }, ty, pos, aft, none⟩).run P w = .ok (.defer ⟨.fn (.func f) #[], vs.toArray⟩) w := by
      simp [execOp, resolve, h2, Deferred.ofValue, h1]
    rw [this]
    exact hK _ _ (k.h _ w ⟨hf.size, by show _ :: a.defers = _; rw [hf.defers], hf.sl⟩ hs)
/-- A deferred call: how the frame stands behind it. -/
structure Late (P : Program) (f : FuncId) (args : Array Value) (u u' : FrameMode) (g : Gh) (L L' : List Ent) : Prop where
  h : ∀ w, St g L w → CallsD P f args u w fun e u1 w' => (∃ v, e = .returned v) ∧ u1 = u' ∧ St g L' w'
def EndD (P : Program) (fn : Func) (R : Ending → Gh → List Ent → Prop) (g : Gh) : Exit → Act → World → Prop := bodyPostD P fn fun e w' => ∃ g' L', g.le g' ∧ R e g' L' ∧ St g' L' w'
theorem Does.ofD {cd : Code} {vs : List Value} (hf : P.funcs[f]? = some fn) (hb : fn.body = some cd) (hn : fn.ntmps = n) (hle : Nat.ble vs.length n = true)
    (h : TC P (EndD P fn R g) cd n [] (argSlots 0 vs) g L) : Does P f vs.toArray g L R := .mk fun w hs => by
  refine calls_of_wp_defers hf hb (h.h _ w ⟨?_, rfl, fun i v hv => ?_⟩ hs)
  · have := Nat.le_of_ble_eq_true hle
    simp [hn]; omega
  · obtain ⟨_, h2⟩ := look_argSlots vs 0 i v hv
    simp only [Nat.sub_zero] at h2
    obtain ⟨hlt, e⟩ := List.getElem?_eq_some_iff.1 h2
    simpa [Array.getD_eq_getD_getElem?, Array.getElem?_append, hlt] using e
theorem Does.ofD1 {cd : Code} {v0 : Value} (hf : P.funcs[f]? = some fn) (hb : fn.body = some cd) (hn : fn.ntmps = n) (hle : Nat.ble 1 n = true)
    (h : TC P (EndD P fn R g) cd n [] [(0, v0)] g L) : Does P f #[v0] g L R := Does.ofD (vs := [v0]) hf hb hn hle h
theorem Does.ofD2 {cd : Code} {v0 v1 : Value} (hf : P.funcs[f]? = some fn) (hb : fn.body = some cd) (hn : fn.ntmps = n) (hle : Nat.ble 2 n = true)
    (h : TC P (EndD P fn R g) cd n [] [(0, v0), (1, v1)] g L) : Does P f #[v0, v1] g L R := Does.ofD (vs := [v0, v1]) hf hb hn hle h
theorem endD_leaves {u u' : FrameMode} {h : FuncId} {vs : List Value} {a : Act} {w : World} {caps : List Value} (hds : ds = [⟨.fn (.func h) caps.toArray, vs.toArray⟩]) (hu : u ≠ .run) (hc : callable P h = true) (hC : Late P h (vs ++ caps).toArray u u' g L1 L2) (hset : settle u' = .returning)
    (hv : ∀ w, St g L2 w → (results fn a.tmps).run P w = .ok v w) (hg : g0.le g) (hR : R (.returned v) g L') (hL1 : L1.Perm L) (hL : Sel L' L2) (hf : Fr n ds S a) (hs : St g L w) :
    Leaves P fn a.tmps (fun e w' => ∃ g' L', g0.le g' ∧ R e g' L' ∧ St g' L' w') a.defers u w := by
  rw [hf.defers, hds]
  refine leaves_cons (f := h) (args := (vs ++ caps).toArray) hu (by simp [invoke, callFunc_run hc]) ?_
  refine (hC.h w (hs.perm hL1)).mono ?_
  rintro e u1 w' ⟨⟨v0, rfl⟩, rfl, hs'⟩
  show Leaves P fn a.tmps _ [] (settle u1) w'
  rw [hset]
  exact ⟨v, hv w' hs', g, L', hg, hR, hs'.sel hL⟩
variable {h : FuncId} {vs caps : List Value} {u' : FrameMode}
theorem TQ.endD_ret1 (hC : Late P h (vs ++ caps).toArray .returning .returning g L1 L2) (hds : ds = [⟨.fn (.func h) caps.toArray, vs.toArray⟩]) (hc : callable P h = true) (hr : fn.results = #[r1]) (h1 : RVal P n ds S g L2 r1 v1) (hg : g0.le g) (hR : R (.returned v1) g L') (hL1 : L1.Perm L) (hL : Sel L' L2) : TQ (EndD P fn R g0) .ret n ds S g L := .mk fun a w hf hs =>
  endD_leaves hds (by simp) hc hC rfl (fun w' hs' => by rw [results_eq, hr]; simp [h1.h a w' hf hs']) hg hR hL1 hL hf hs
theorem TQ.endD_panic1 (hC : Late P h (vs ++ caps).toArray (.panicking c) u' g L1 L2) (hset : settle u' = .returning) (hds : ds = [⟨.fn (.func h) caps.toArray, vs.toArray⟩]) (hc : callable P h = true) (hr : fn.results = #[r1]) (h1 : RVal P n ds S g L2 r1 v1) (hg : g0.le g) (hR : R (.returned v1) g L') (hL1 : L1.Perm L) (hL : Sel L' L2) : TQ (EndD P fn R g0) (.panic c) n ds S g L := .mk fun a w hf hs =>
  endD_leaves hds (by simp) hc hC hset (fun w' hs' => by rw [results_eq, hr]; simp [h1.h a w' hf hs']) hg hR hL1 hL hf hs
theorem TQ.endD_ret2 (hC : Late P h (vs ++ caps).toArray .returning .returning g L1 L2) (hds : ds = [⟨.fn (.func h) caps.toArray, vs.toArray⟩]) (hc : callable P h = true) (hr : fn.results = #[r1, r2]) (h1 : RVal P n ds S g L2 r1 v1) (h2 : RVal P n ds S g L2 r2 v2) (hg : g0.le g) (hR : R (.returned (.tuple #[v1, v2])) g L') (hL1 : L1.Perm L) (hL : Sel L' L2) : TQ (EndD P fn R g0) .ret n ds S g L := .mk fun a w hf hs =>
  endD_leaves hds (by simp) hc hC rfl (fun w' hs' => by rw [results_eq, hr]; simp [h1.h a w' hf hs', h2.h a w' hf hs']) hg hR hL1 hL hf hs
theorem TQ.endD_panic2 (hC : Late P h (vs ++ caps).toArray (.panicking c) u' g L1 L2) (hset : settle u' = .returning) (hds : ds = [⟨.fn (.func h) caps.toArray, vs.toArray⟩]) (hc : callable P h = true) (hr : fn.results = #[r1, r2]) (h1 : RVal P n ds S g L2 r1 v1) (h2 : RVal P n ds S g L2 r2 v2) (hg : g0.le g) (hR : R (.returned (.tuple #[v1, v2])) g L') (hL1 : L1.Perm L) (hL : Sel L' L2) : TQ (EndD P fn R g0) (.panic c) n ds S g L := .mk fun a w hf hs =>
  endD_leaves hds (by simp) hc hC hset (fun w' hs' => by rw [results_eq, hr]; simp [h1.h a w' hf hs', h2.h a w' hf hs']) hg hR hL1 hL hf hs
theorem TQ.endD_normal (h : TQ (EndD P fn R g0) .ret n ds S g L) : TQ (EndD P fn R g0) .normal n ds S g L := .mk fun a w hf hs => h.h a w hf hs
end
/-- A value behind an interface that is not of a type. -/
def NoT (v : Value) (t : TypeId) : Prop := v = .nilIface ∨ ∃ T u, v = .iface T u ∧ Nat.beq T t = false
theorem Y.assert_noT {P : Program} {n : Nat} {ds : List Deferred} {S : Slots} {g : Gh} {L : List Ent} {dst : Option Nat} {ty : TypeId} {pos : String} {aft : Array Edge} {gd : Option (Nat × Bool)} {x : Operand} {v z : Value} {t t' : TypeId} {sz bytes : Nat} [h : Con P t] [hi : Inf P t sz bytes z] (hx : ev S x = some v) (hv : NoT v t) : Yields P n ds S g L ⟨dst, .typeAssert x t' t true, ty, pos, aft, gd⟩ (.tuple #[z, .bool false]) := by
  rcases hv with rfl | ⟨T, u, rfl, hne⟩
  · exact Y.assert_nil hx
  · exact Y.assert_no hx hne
theorem Y.min_int {P : Program} {n : Nat} {ds : List Deferred} {S : Slots} {g : Gh} {L : List Ent} {dst : Option Nat} {ty : TypeId} {pos : String} {aft : Array Edge} {gd : Option (Nat × Bool)} {x y : Operand} {t t' : TypeId} {k : IntKind} {p q z : Int} (hx : ev S x = some (.int k p)) (hy : ev S y = some (.int k q)) (hz : (if q < p then q else p) = z) : Yields P n ds S g L ⟨dst, .call { callee := .builtin .min, args := #[x, y], argTypes := #[t, t'] }, ty, pos, aft, gd⟩ (.int k z) := .mk fun a w hf _ => by
  subst hz
  simp [execOp, resolve, invoke, BigFrame.builtin_min, Builtin.min_, Builtin.min2, hf.ev hx, hf.ev hy]
/-- An array of two by value. -/
theorem Y.build_two {P : Program} {n : Nat} {ds : List Deferred} {S : Slots} {g : Gh} {L : List Ent} {dst : Option Nat} {ty : TypeId} {pos : String} {aft : Array Edge} {gd : Option (Nat × Bool)} {x y : Operand} {t e : TypeId} {u v z1 z2 z3 : Value} {sz b1 b2 : Nat} [ht : Und P t (.array 2 e)] [he : Inf P e 1 b1 z3] [hi : Inf P t sz b2 (.agg #[z1, z2])]
    (hx : ev S x = some u) (hy : ev S y = some v) (h1 : u.one = true) (h2 : v.one = true) : Yields P n ds S g L ⟨dst, .build t #[(0, x), (1, y)], ty, pos, aft, gd⟩ (.agg #[u, v]) := .mk fun a w hf _ => by
  obtain ⟨j, hj, hs, _⟩ := he.eq
  have hz := run_zero (P := P) (t := t) (z := .agg #[z1, z2]) w
  have c0 : (Value.agg #[z1, z2]).cells = #[z1, z2] := rfl
  have c1 := cells_one h1
  have c2 := cells_one h2
  generalize hcu : u.cells = cu at *
  generalize hcv : v.cells = cv at *
  subst c1
  subst c2
  simp [execOp, Instr.build, hz, run_und ht.eq, run_size hj, hs, hf.ev hx, hf.ev hy, Instr.fill, hcu, hcv, c0]
theorem Y.index_agg {P : Program} {n : Nat} {ds : List Deferred} {S : Slots} {g : Gh} {L : List Ent} {dst : Option Nat} {ty : TypeId} {pos : String} {aft : Array Edge} {gd : Option (Nat × Bool)} {x y : Operand} {t e : TypeId} {v z : Value} {cs : List Value} {len i b1 : Nat} {k : IntKind} {p : Int} [ht : Und P t (.array len e)] [he : Inf P e 1 b1 z] [hs : Sc P e]
    (hx : ev S x = some (.agg cs.toArray)) (hy : ev S y = some (.int k p)) (hp : p = i) (hi : i < len) (hv : cs[i]? = some v) : Yields P n ds S g L ⟨dst, .index t x y, ty, pos, aft, gd⟩ v := .mk fun a w hf _ => by
  subst hp
  obtain ⟨j, hj, hsz, _⟩ := he.eq
  obtain ⟨d, hd, ha⟩ := hs.eq
  simp [execOp, Instr.index, asIntOf, run_und ht.eq, run_size hj, hsz, hf.ev hx, hf.ev hy, hi, part, run_isAgg hd, ha, hv]
end Go.TL
