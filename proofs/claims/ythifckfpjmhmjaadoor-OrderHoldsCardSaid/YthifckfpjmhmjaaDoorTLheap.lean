/-
  A walk by lemmas: addresses, loads, stores, new blocks, calls.
-/
import Derived.Test.YthifckfpjmhmjaaDoorTLops
namespace Go.TL
open Go Go.RowKit

/-- A list with another item at a place. -/
class SetA (l : List Value) (i : Nat) (v : Value) (l' : outParam (List Value)) : Prop where
  eq : i < l.length ∧ l.set i v = l'
instance (x v : Value) (l : List Value) : SetA (x :: l) 0 v (v :: l) := ⟨by simp⟩
instance (x v : Value) (l l' : List Value) (i : Nat) [h : SetA l i v l'] : SetA (x :: l) (i + 1) v (x :: l') := ⟨by have := h.eq; simp [this.1, this.2]⟩

section
variable {P : Program} {ops : Array Oper} {Q : Exit → Act → World → Prop} {rest : List Oper} {n : Nat} {ds : List Deferred} {S : Slots} {g : Gh} {L L' : List Ent}
variable {dst : Option Nat} {d : Nat} {op : Op} {ty : TypeId} {pos : String} {aft : Array Edge} {gd : Option (Nat × Bool)}
variable {x y c : Operand} {v u : Value} {t t' T e : TypeId} {k : IntKind} {p q z : Int}
variable {b off o i len cap sz bytes : Nat} {cs : List Value} {E : TypeId} {fz : Nat × Nat} {w : World} {z' : Value}

/-- A value of one cell. -/
def _root_.Go.Value.one : Value → Bool
  | .agg _ | .tuple _ => false
  | _ => true
/-! ### Addresses -/
theorem add_eq (a : Nat) (b off : Nat) : (⟨b, off, none⟩ : Addr).add a = ⟨b, off + a, none⟩ := by
  unfold Addr.add; split <;> simp_all
theorem field_run [h : FO P t i off T] (b o : Nat) (w : World) : (Instr.fieldAt t (.pointer (some ⟨b, o, none⟩)) i).run P w = .ok (.pointer (some ⟨b, o + off, none⟩)) w := by
  have h := h.eq
  unfold fieldB at h
  split at h
  · rename_i fs hfs
    split at h
    · rename_i f hf
      simp only [Bool.and_eq_true, beq_iff_eq] at h
      obtain ⟨⟨h1, h2⟩, h3⟩ := h
      split at h3
      · rename_i j hj
        have h3 : j.size ≠ 0 := by simpa using h3
        simp [Instr.fieldAt, run_und hfs, hf, Instr.sureAddr, fieldPlace, run_size hj, h3, h1, add_eq]
      · cases h3
    · cases h
  · cases h
theorem Y.field [FO P t i off T] (hx : ev S x = some (.pointer (some ⟨b, o, none⟩))) : Yields P n ds S g L ⟨dst, .fieldAddr t x i, ty, pos, aft, gd⟩ (.pointer (some ⟨b, o + off, none⟩)) := .mk fun a w hf _ => by
  simp [execOp, hf.ev hx, field_run]
theorem Y.field0 [FO P t i off T] (hx : ev S x = some (.pointer (some ⟨b, 0, none⟩))) : Yields P n ds S g L ⟨dst, .fieldAddr t x i, ty, pos, aft, gd⟩ (.pointer (some ⟨b, off, none⟩)) := .mk fun a w hf _ => by
  simp [execOp, hf.ev hx, field_run]
theorem Y.index_addr [ht : Und P t (.slice e)] [he : Inf P e sz bytes z'] (hx : ev S x = some (.slice (some ⟨b, off, none⟩) len cap)) (hy : ev S y = some (.int k p)) (hp : p = i) (hi : i < len) : Yields P n ds S g L ⟨dst, .indexAddr t x y, ty, pos, aft, gd⟩ (.pointer (some ⟨b, off + i * sz, none⟩)) := .mk fun a w hf _ => by
  subst hp
  obtain ⟨j, hj, hs, _⟩ := he.eq
  simp [execOp, hf.ev hx, hf.ev hy, Instr.indexAt, asIntOf, run_und ht.eq, run_size hj, hs, hi, add_eq]
theorem Y.nil_check {ad : Addr} (hx : ev S x = some (.pointer (some ad))) : Yields P n ds S g L ⟨dst, .nilCheck x, ty, pos, aft, gd⟩ (.pointer (some ad)) := .mk fun a w hf _ => by
  simp [execOp, hf.ev hx]

/-! ### Loads -/
theorem load_sc [h : Sc P t] {ad : Addr} (hc : w.cell? ad = some v) : (Instr.loadAt t (.pointer (some ad))).run P w = .ok v w := by
  obtain ⟨d, hd, ha⟩ := h.eq
  simp [Instr.loadAt, Instr.sureAddr, loadVar, run_isAgg hd, ha, load, Sem.run, hc]
theorem loadCells_run : ∀ (m : Nat) (b off i : Nat) (acc us : List Value), us.length = m → (∀ j u, us[j]? = some u → w.cell? ⟨b, off + (i + j), none⟩ = some u) → (loadCellsFrom ⟨b, off, none⟩ i m acc.toArray).run P w = .ok (acc ++ us).toArray w
  | 0, b, off, i, acc, us, hl, _ => by
    have : us = [] := List.eq_nil_of_length_eq_zero hl
    subst this
    simp [loadCellsFrom]
  | m + 1, b, off, i, acc, us, hl, h => by
    cases us with
    | nil => cases hl
    | cons u us =>
      have h0 := h 0 u (by simp)
      have ih := loadCells_run m b off (i + 1) (acc ++ [u]) us (by simpa using hl) (fun j v hv => by
        have := h (j + 1) v (by simpa using hv)
        rw [show i + 1 + j = i + (j + 1) by omega]
        exact this)
      simp only [Nat.add_zero] at h0
      simp only [loadCellsFrom, Sem.run_bind, load, add_eq, Sem.run, h0, Result.andThen_ok, List.push_toArray]
      rw [ih, List.append_assoc]; rfl
theorem load_ag [h : Ag P t] [hi : Inf P t sz bytes z'] {us : List Value} (hl : us.length = sz) (hc : ∀ j u, us[j]? = some u → w.cell? ⟨b, off + j, none⟩ = some u) : (Instr.loadAt t (.pointer (some ⟨b, off, none⟩))).run P w = .ok (.agg us.toArray) w := by
  obtain ⟨d, hd, ha⟩ := h.eq
  obtain ⟨j, hj, hs, _⟩ := hi.eq
  have := loadCells_run (P := P) (w := w) sz b off 0 [] us hl (fun j u hu => by rw [Nat.zero_add]; exact hc j u hu)
  simp [Instr.loadAt, Instr.sureAddr, loadVar, run_isAgg hd, ha, run_size hj, hs, loadCells, this]
theorem obj_cell (h : w.heap[b]? = some (.cells cs.toArray E fz)) (j : Nat) : w.cell? ⟨b, j, none⟩ = cs[j]? := by
  unfold World.cell?; simp [h]
theorem obj_frozen (h : w.heap[b]? = some (.cells cs.toArray E (0, 0))) (j : Nat) : w.frozen? ⟨b, j, none⟩ = false := by
  unfold World.frozen?; simp [h]
theorem Y.load [Sc P t] (hx : ev S x = some (.pointer (some ⟨b, off, none⟩))) (hm : Pick (.obj b (.cells cs.toArray E fz)) L L') (hc : cs[off]? = some v) : Yields P n ds S g L ⟨dst, .load t x, ty, pos, aft, gd⟩ v := .mk fun a w hf hs => by
  have h := (hs.perm hm.perm).st _ (List.mem_cons_self)
  simp [execOp, hf.ev hx, load_sc (P := P) (t := t) ((obj_cell h off).trans hc)]
theorem Y.load_whole [Ag P t] [Inf P t sz bytes z'] (hx : ev S x = some (.pointer (some ⟨b, 0, none⟩))) (hm : Pick (.obj b (.cells cs.toArray E fz)) L L') (hl : cs.length = sz) : Yields P n ds S g L ⟨dst, .load t x, ty, pos, aft, gd⟩ (.agg cs.toArray) := .mk fun a w hf hs => by
  have h := (hs.perm hm.perm).st _ (List.mem_cons_self)
  simp [execOp, hf.ev hx, load_ag (P := P) (t := t) (off := 0) hl (fun j u hu => by rw [Nat.zero_add]; exact (obj_cell h j).trans hu)]
theorem Y.load_part [Ag P t] [Inf P t sz bytes z'] (hx : ev S x = some (.pointer (some ⟨b, off, none⟩))) (hm : Pick (.obj b (.cells cs.toArray E fz)) L L') (hl : off + sz ≤ cs.length) : Yields P n ds S g L ⟨dst, .load t x, ty, pos, aft, gd⟩ (.agg ((cs.drop off).take sz).toArray) := .mk fun a w hf hs => by
  have h := (hs.perm hm.perm).st _ (List.mem_cons_self)
  simp [execOp, hf.ev hx, load_ag (P := P) (t := t) (off := off) (us := (cs.drop off).take sz) (by simp; omega) (fun j u hu => by
    rw [obj_cell h]
    rw [List.getElem?_take] at hu
    split at hu
    · rw [List.getElem?_drop] at hu; exact hu
    · cases hu)]
/-- A cell that stays. -/
def Gh.cell (g : Gh) (b off : Nat) : Option Value := match g.hp b with
  | some (.cells cs _ _) => cs[off]?
  | _ => none
theorem St.cell (h : St g L w) (hc : g.cell b off = some v) : w.cell? ⟨b, off, none⟩ = some v := by
  unfold Gh.cell at hc
  split at hc
  · rename_i cs E f e
    unfold World.cell?; simp [h.hp _ _ e, hc]
  · cases hc
theorem Y.load_gh [Sc P t] (hx : ev S x = some (.pointer (some ⟨b, off, none⟩))) (hc : g.cell b off = some v) : Yields P n ds S g L ⟨dst, .load t x, ty, pos, aft, gd⟩ v := .mk fun a w hf hs => by
  simp [execOp, hf.ev hx, load_sc (P := P) (t := t) (hs.cell hc)]
theorem Y.load_ghs [Ag P t] [Inf P t sz bytes z'] {us : List Value} (hx : ev S x = some (.pointer (some ⟨b, off, none⟩))) (hl : us.length = sz) (hc : ∀ j u, us[j]? = some u → g.cell b (off + j) = some u) : Yields P n ds S g L ⟨dst, .load t x, ty, pos, aft, gd⟩ (.agg us.toArray) := .mk fun a w hf hs => by
  simp [execOp, hf.ev hx, load_ag (P := P) (t := t) hl (fun j u hu => hs.cell (hc j u hu))]

/-! ### New blocks -/
theorem TL.alloc [hi : Inf P t sz bytes v] {vs : List Value} (hv : v.cells = vs.toArray) (hd : Nat.blt d n = true) (k : ∀ b, TL P ops Q rest n ds ((d, .pointer (some ⟨b, 0, none⟩)) :: S) g (.obj b (.cells vs.toArray t (0, 0)) :: L)) : TL P ops Q (⟨some d, .alloc t, ty, pos, aft, none⟩ :: rest) n ds S g L := .mk fun a w hf hs =>
  wpList_plain rfl fun K hK => by
    have h : (execOp a.eval ⟨some d, .alloc t, ty, pos, aft, none⟩).run P w = .ok (.value (.pointer (some ⟨w.heap.size, 0, none⟩))) { w with heap := w.heap.push (.cells vs.toArray t (0, 0)) } := by
      simp [execOp, Instr.alloc, run_zero (P := P) (t := t), newVar, newRow, newObj, Sem.run, hv]
    unfold Oper.wp
    rw [h]
    exact hK _ _ ((k _).h _ _ (hf.put hd _) (hs.alloc _))
theorem TL.box {vs : List Value} (hx : ev S x = some v) (hv : v.cells = vs.toArray) (hd : Nat.blt d n = true) (k : ∀ b, TL P ops Q rest n ds ((d, .pointer (some ⟨b, 0, none⟩)) :: S) g (.obj b (.cells vs.toArray t (0, 0)) :: L)) : TL P ops Q (⟨some d, .box t x, ty, pos, aft, none⟩ :: rest) n ds S g L := .mk fun a w hf hs =>
  wpList_plain rfl fun K hK => by
    have h : (execOp a.eval ⟨some d, .box t x, ty, pos, aft, none⟩).run P w = .ok (.value (.pointer (some ⟨w.heap.size, 0, none⟩))) { w with heap := w.heap.push (.cells vs.toArray t (0, 0)) } := by
      simp [execOp, Instr.box, hf.ev hx, newVar, newRow, newObj, Sem.run, hv]
    unfold Oper.wp
    rw [h]
    exact hK _ _ ((k _).h _ _ (hf.put hd _) (hs.alloc _))

theorem TL.alloc_ag {vs : List Value} [hi : Inf P t sz bytes (.agg vs.toArray)] (hd : Nat.blt d n = true) (k : ∀ b, TL P ops Q rest n ds ((d, .pointer (some ⟨b, 0, none⟩)) :: S) g (.obj b (.cells vs.toArray t (0, 0)) :: L)) : TL P ops Q (⟨some d, .alloc t, ty, pos, aft, none⟩ :: rest) n ds S g L := .alloc (v := .agg vs.toArray) rfl hd k
theorem cells_one {v : Value} (h : v.one = true) : v.cells = [v].toArray := by cases v <;> first | rfl | (simp [Value.one] at h)
theorem TL.alloc_sc [hi : Inf P t sz bytes v] (h1 : v.one = true) (hd : Nat.blt d n = true) (k : ∀ b, TL P ops Q rest n ds ((d, .pointer (some ⟨b, 0, none⟩)) :: S) g (.obj b (.cells [v].toArray t (0, 0)) :: L)) : TL P ops Q (⟨some d, .alloc t, ty, pos, aft, none⟩ :: rest) n ds S g L := .alloc (cells_one h1) hd k
theorem TL.box_ag {vs : List Value} (hx : ev S x = some (.agg vs.toArray)) (hd : Nat.blt d n = true) (k : ∀ b, TL P ops Q rest n ds ((d, .pointer (some ⟨b, 0, none⟩)) :: S) g (.obj b (.cells vs.toArray t (0, 0)) :: L)) : TL P ops Q (⟨some d, .box t x, ty, pos, aft, none⟩ :: rest) n ds S g L := .box hx rfl hd k
theorem TL.box_sc (hx : ev S x = some v) (h1 : v.one = true) (hd : Nat.blt d n = true) (k : ∀ b, TL P ops Q rest n ds ((d, .pointer (some ⟨b, 0, none⟩)) :: S) g (.obj b (.cells [v].toArray t (0, 0)) :: L)) : TL P ops Q (⟨some d, .box t x, ty, pos, aft, none⟩ :: rest) n ds S g L := .box hx (cells_one h1) hd k

/-! ### Stores -/
theorem St.set (h : St g (.obj b (.cells cs.toArray E (0, 0)) :: L) w) (v : Value) (off : Nat) : St g (.obj b (.cells (cs.set off v).toArray E (0, 0)) :: L) (w.setCell ⟨b, off, none⟩ v) := by
  have h0 : w.heap[b]? = some (.cells cs.toArray E (0, 0)) := h.st _ (List.mem_cons_self)
  refine h.write ?_ (fun k hk => ?_) rfl rfl rfl
  · simp [World.setCell, Array.getElem?_modify, h0]
  · simp only [World.setCell, Array.getElem?_modify]
    rw [if_neg (fun e => hk e.symm)]
theorem store_sc {v : Value} (h1 : v.one = true) {ad : Addr} (hc : (w.cell? ad).isSome) (hz : w.frozen? ad = false) [hi : Inf P t 1 bytes z'] : (Instr.storeAt t (.pointer (some ad)) v).run P w = .ok () (w.setCell ad v) := by
  obtain ⟨j, hj, hs, _⟩ := hi.eq
  obtain ⟨u, hu⟩ := Option.isSome_iff_exists.1 hc
  have hcs : v.cells = #[v] := by cases v <;> first | rfl | (simp [Go.Value.one] at h1)
  have h0 : ad.add 0 = ad := rfl
  have hst : (Sem.store Mode.plain ad v (.pure ())).run P w = .ok () (w.setCell ad v) := by
    cases v <;> first | (simp [Go.Value.one] at h1; done) | simp [Sem.run, hu, hz]
  simp [Instr.storeAt, Instr.sureAddr, storeVar, run_size hj, hs, hcs, storeCells, store, h0, hst]
theorem TL.store [Inf P t 1 bytes z'] {cs' : List Value} (hx : ev S x = some (.pointer (some ⟨b, off, none⟩))) (hy : ev S y = some v) (h1 : v.one = true) (hm : Pick (.obj b (.cells cs.toArray E (0, 0))) L L') [hset : SetA cs off v cs'] (k : TL P ops Q rest n ds S g (.obj b (.cells cs'.toArray E (0, 0)) :: L')) : TL P ops Q (⟨none, .store t x y, ty, pos, aft, none⟩ :: rest) n ds S g L := .mk fun a w hf hs =>
  wpList_plain rfl fun K hK => by
    have hs1 := hs.perm hm.perm
    have h := hs1.st _ (List.mem_cons_self)
    have := store_sc (P := P) (t := t) (w := w) h1 (ad := ⟨b, off, none⟩) (by rw [obj_cell h, List.getElem?_eq_getElem hset.eq.1]; rfl) (obj_frozen h off)
    have hrun : (execOp a.eval ⟨none, .store t x y, ty, pos, aft, none⟩).run P w = .ok .skip (w.setCell ⟨b, off, none⟩ v) := by
      simp [execOp, hf.ev hx, hf.ev hy, this]
    unfold Oper.wp
    rw [hrun]
    refine hK _ _ (k.h _ _ hf ?_)
    rw [← hset.eq.2]
    exact hs1.set v off
theorem storeCells_whole : ∀ (us pre cs : List Value) (w : World), St g (.obj b (.cells (pre ++ cs).toArray E (0, 0)) :: L) w → cs.length = us.length → (∀ u ∈ us, u.one = true) → ∃ w', (storeCells ⟨b, 0, none⟩ us pre.length).run P w = .ok () w' ∧ St g (.obj b (.cells (pre ++ us).toArray E (0, 0)) :: L) w'
  | [], pre, cs, w, h, hl, _ => by
    have : cs = [] := List.eq_nil_of_length_eq_zero hl
    subst this
    exact ⟨w, by simp [storeCells], h⟩
  | u :: us, pre, cs, w, h, hl, h1 => by
    cases cs with
    | nil => cases hl
    | cons c cs =>
      have h0 := h.st _ (List.mem_cons_self)
      have hc : w.cell? ⟨b, pre.length, none⟩ = some c := by rw [obj_cell h0]; simp
      have hz := obj_frozen h0 pre.length
      have hu := h1 u (by simp)
      have hst : (Sem.store Mode.plain ⟨b, pre.length, none⟩ u (.pure ())).run P w = .ok () (w.setCell ⟨b, pre.length, none⟩ u) := by
        cases u <;> first | (simp [Go.Value.one] at hu; done) | simp [Sem.run, hc, hz]
      have h2 := h.set u pre.length
      rw [show (pre ++ c :: cs).set pre.length u = (pre ++ [u]) ++ cs by simp] at h2
      obtain ⟨w', hr, hs'⟩ := storeCells_whole us (pre ++ [u]) cs _ h2 (by simpa using hl) (fun v hv => h1 v (by simp [hv]))
      refine ⟨w', ?_, by simpa using hs'⟩
      rw [List.length_append] at hr
      simp only [storeCells, Sem.run_bind, store, add_eq, Nat.zero_add, hst, Result.andThen_ok]
      exact hr
theorem TL.store_whole {us : List Value} [hi : Inf P t sz bytes z'] (hx : ev S x = some (.pointer (some ⟨b, 0, none⟩))) (hy : ev S y = some (.agg us.toArray)) (h1 : us.all Go.Value.one = true) (hl : us.length = sz) (hm : Pick (.obj b (.cells cs.toArray E (0, 0))) L L') (hl' : cs.length = sz) (k : TL P ops Q rest n ds S g (.obj b (.cells us.toArray E (0, 0)) :: L')) : TL P ops Q (⟨none, .store t x y, ty, pos, aft, none⟩ :: rest) n ds S g L := .mk fun a w hf hs =>
  wpList_plain rfl fun K hK => by
    obtain ⟨j, hj, hs0, _⟩ := hi.eq
    obtain ⟨w', hr, hs'⟩ := storeCells_whole (P := P) (g := g) (b := b) (E := E) (L := L') us [] cs w (hs.perm hm.perm) (by omega) (fun u hu => List.all_eq_true.1 h1 u hu)
    have hrun : (execOp a.eval ⟨none, .store t x y, ty, pos, aft, none⟩).run P w = .ok .skip w' := by
      have hr2 : (storeCells ⟨b, 0, none⟩ us).run P w = .ok () w' := by simpa using hr
      simp [execOp, hf.ev hx, hf.ev hy, Instr.storeAt, Instr.sureAddr, storeVar, run_size hj, hs0, Value.cells, hl, hr2]
    unfold Oper.wp
    rw [hrun]
    exact hK _ _ (k.h _ _ hf hs')

/-! ### Calls -/
def callable (P : Program) (f : Nat) : Bool := match P.funcs[f]? with
  | some fn => fn.name != "runtime.NumGoroutine" && fn.body.isSome
  | none => false
theorem callFunc_run {f : FuncId} {args : Array Value} (h : callable P f = true) : (callFunc f args).run P w = .ok (.enter f args) w := by
  unfold callable at h
  split at h
  · rename_i fn hfn
    simp only [Bool.and_eq_true, bne_iff_ne, ne_eq] at h
    obtain ⟨b, hb⟩ := Option.isSome_iff_exists.1 h.2
    simp [callFunc, hfn, h.1, hb]
  · cases h
theorem Enters.func {f : FuncId} {xs : List Operand} {vs : List Value} {ats : Array TypeId} {caps : List Value} (hf : ev S x = some (.func (.func f) #[] caps.toArray)) (hc : callable P f = true) (hx : evs S xs = some vs) : Enters P n ds S g L ⟨dst, .call { callee := .value x, args := xs.toArray, argTypes := ats }, ty, pos, aft, gd⟩ f (vs ++ caps).toArray := .mk fun a w hfr _ => by
  have h1 := hfr.evs hx
  have h2 := hfr.ev hf
  simp [execOp, resolve, h2, Deferred.ofValue, invoke, callFunc_run hc, h1]
theorem Enters.plain {f : FuncId} {xs : List Operand} {vs : List Value} {ats : Array TypeId} (hc : callable P f = true) (hx : evs S xs = some vs) : Enters P n ds S g L ⟨dst, .call { callee := .value (.func f), args := xs.toArray, argTypes := ats }, ty, pos, aft, gd⟩ f vs.toArray := .mk fun a w hfr _ => by
  have h1 := hfr.evs hx
  have h2 : a.eval (.func f) = .func (.func f) #[] #[] := rfl
  simp [execOp, resolve, h2, Deferred.ofValue, invoke, callFunc_run hc, h1]
theorem Does.of0 {f : FuncId} {fn : Func} {c : Code} {R : Ending → Gh → List Ent → Prop} (hf : P.funcs[f]? = some fn) (hb : fn.body = some c) (hn : fn.ntmps = n) (hle : Nat.ble 0 n = true)
    (h : TC P (End P fn R g) c n [] [] g L) : Does P f #[] g L R := Does.of (vs := []) hf hb hn hle h
theorem Does.of1 {f : FuncId} {fn : Func} {c : Code} {v0 : Value} {R : Ending → Gh → List Ent → Prop} (hf : P.funcs[f]? = some fn) (hb : fn.body = some c) (hn : fn.ntmps = n) (hle : Nat.ble 1 n = true)
    (h : TC P (End P fn R g) c n [] [(0, v0)] g L) : Does P f #[v0] g L R := Does.of (vs := [v0]) hf hb hn hle h
theorem Does.of2 {f : FuncId} {fn : Func} {c : Code} {v0 v1 : Value} {R : Ending → Gh → List Ent → Prop} (hf : P.funcs[f]? = some fn) (hb : fn.body = some c) (hn : fn.ntmps = n) (hle : Nat.ble 2 n = true)
    (h : TC P (End P fn R g) c n [] [(0, v0), (1, v1)] g L) : Does P f #[v0, v1] g L R := Does.of (vs := [v0, v1]) hf hb hn hle h
theorem Does.of3 {f : FuncId} {fn : Func} {c : Code} {v0 v1 v2 : Value} {R : Ending → Gh → List Ent → Prop} (hf : P.funcs[f]? = some fn) (hb : fn.body = some c) (hn : fn.ntmps = n) (hle : Nat.ble 3 n = true)
    (h : TC P (End P fn R g) c n [] [(0, v0), (1, v1), (2, v2)] g L) : Does P f #[v0, v1, v2] g L R := Does.of (vs := [v0, v1, v2]) hf hb hn hle h
theorem Does.of4 {f : FuncId} {fn : Func} {c : Code} {v0 v1 v2 v3 : Value} {R : Ending → Gh → List Ent → Prop} (hf : P.funcs[f]? = some fn) (hb : fn.body = some c) (hn : fn.ntmps = n) (hle : Nat.ble 4 n = true)
    (h : TC P (End P fn R g) c n [] [(0, v0), (1, v1), (2, v2), (3, v3)] g L) : Does P f #[v0, v1, v2, v3] g L R := Does.of (vs := [v0, v1, v2, v3]) hf hb hn hle h
theorem Does.of5 {f : FuncId} {fn : Func} {c : Code} {v0 v1 v2 v3 v4 : Value} {R : Ending → Gh → List Ent → Prop} (hf : P.funcs[f]? = some fn) (hb : fn.body = some c) (hn : fn.ntmps = n) (hle : Nat.ble 5 n = true)
    (h : TC P (End P fn R g) c n [] [(0, v0), (1, v1), (2, v2), (3, v3), (4, v4)] g L) : Does P f #[v0, v1, v2, v3, v4] g L R := Does.of (vs := [v0, v1, v2, v3, v4]) hf hb hn hle h
theorem Does.of6 {f : FuncId} {fn : Func} {c : Code} {v0 v1 v2 v3 v4 v5 : Value} {R : Ending → Gh → List Ent → Prop} (hf : P.funcs[f]? = some fn) (hb : fn.body = some c) (hn : fn.ntmps = n) (hle : Nat.ble 6 n = true)
    (h : TC P (End P fn R g) c n [] [(0, v0), (1, v1), (2, v2), (3, v3), (4, v4), (5, v5)] g L) : Does P f #[v0, v1, v2, v3, v4, v5] g L R := Does.of (vs := [v0, v1, v2, v3, v4, v5]) hf hb hn hle h
theorem Does.of7 {f : FuncId} {fn : Func} {c : Code} {v0 v1 v2 v3 v4 v5 v6 : Value} {R : Ending → Gh → List Ent → Prop} (hf : P.funcs[f]? = some fn) (hb : fn.body = some c) (hn : fn.ntmps = n) (hle : Nat.ble 7 n = true)
    (h : TC P (End P fn R g) c n [] [(0, v0), (1, v1), (2, v2), (3, v3), (4, v4), (5, v5), (6, v6)] g L) : Does P f #[v0, v1, v2, v3, v4, v5, v6] g L R := Does.of (vs := [v0, v1, v2, v3, v4, v5, v6]) hf hb hn hle h
theorem Does.of8 {f : FuncId} {fn : Func} {c : Code} {v0 v1 v2 v3 v4 v5 v6 v7 : Value} {R : Ending → Gh → List Ent → Prop} (hf : P.funcs[f]? = some fn) (hb : fn.body = some c) (hn : fn.ntmps = n) (hle : Nat.ble 8 n = true)
    (h : TC P (End P fn R g) c n [] [(0, v0), (1, v1), (2, v2), (3, v3), (4, v4), (5, v5), (6, v6), (7, v7)] g L) : Does P f #[v0, v1, v2, v3, v4, v5, v6, v7] g L R := Does.of (vs := [v0, v1, v2, v3, v4, v5, v6, v7]) hf hb hn hle h
theorem isNat {i : Int} {j : Nat} [h : IsNat i j] : i = j := h.eq
theorem Pk.cons {e : Ent} {L2 L1 : List Ent} (h : Pick e L L1) (k : L2.Perm L1) : (e :: L2).Perm L := (k.cons e).trans h.perm
theorem Does.perm {f : FuncId} {args : Array Value} {R : Ending → Gh → List Ent → Prop} (h : Does P f args g L' R) (hL : L'.Perm L) : Does P f args g L R := .mk fun w hs => h.h w (hs.perm hL)
end
end Go.TL
