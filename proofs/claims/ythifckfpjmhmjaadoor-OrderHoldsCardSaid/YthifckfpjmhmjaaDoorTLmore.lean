/-
  A walk by lemmas: results, bytes of a text, ranges over a text.
-/
import Derived.Test.YthifckfpjmhmjaaDoorTLheap
namespace Go.TL
open Go Go.RowKit

section
variable {P : Program} {ops : Array Oper} {Q : Exit → Act → World → Prop} {rest : List Oper} {n : Nat} {ds : List Deferred} {S : Slots} {g g0 : Gh} {L L' : List Ent}
variable {dst : Option Nat} {d : Nat} {op : Op} {ty : TypeId} {pos : String} {aft : Array Edge} {gd : Option (Nat × Bool)}
variable {x y c : Operand} {v u v1 v2 v3 : Value} {t t' T e : TypeId} {k : IntKind} {p q z : Int}
variable {b off o i j len cap sz bytes : Nat} {cs : List Value} {E : TypeId} {fz : Nat × Nat} {w : World} {z' : Value} {s : List UInt8}

/-! ### What is handed back -/
def rvS (tmps : Array Value) : ResultVar → Sem Value
  | .tmp t => pure (tmps.getD t undef)
  | .cell a t => do loadVar t (← asAddr (tmps.getD a undef))
structure RVal (P : Program) (n : Nat) (ds : List Deferred) (S : Slots) (g : Gh) (L : List Ent) (r : ResultVar) (v : Value) : Prop where
  h : ∀ a w, Fr n ds S a → St g L w → (rvS a.tmps r).run P w = .ok v w
theorem RVal.tmp (hv : look t S = some v) : RVal P n ds S g L (.tmp t) v := .mk fun a w hf _ => by
  simp only [rvS, Sem.run_pure, hf.sl t v hv]
theorem RVal.cell [Sc P T] (hv : look t S = some (.pointer (some ⟨b, off, none⟩))) (hm : Pick (.obj b (.cells cs.toArray E fz)) L L') (hc : cs[off]? = some v) : RVal P n ds S g L (.cell t T) v := .mk fun a w hf hs => by
  have h := (hs.perm hm.perm).st _ (List.mem_cons_self)
  have h1 := load_sc (P := P) (t := T) ((obj_cell h off).trans hc)
  simp only [Instr.loadAt, Instr.sureAddr, Sem.run_bind, Sem.run_pure, Result.andThen_ok] at h1
  simp only [rvS, hf.sl t _ hv, asAddr, Sem.run_bind, Sem.run_pure, Result.andThen_ok, h1]
theorem RVal.cells [Ag P T] [Inf P T sz bytes z'] (hv : look t S = some (.pointer (some ⟨b, 0, none⟩))) (hm : Pick (.obj b (.cells cs.toArray E fz)) L L') (hl : cs.length = sz) : RVal P n ds S g L (.cell t T) (.agg cs.toArray) := .mk fun a w hf hs => by
  have h := (hs.perm hm.perm).st _ (List.mem_cons_self)
  have h1 := load_ag (P := P) (t := T) (off := 0) hl (fun j u hu => by rw [Nat.zero_add]; exact (obj_cell h j).trans hu)
  simp only [Instr.loadAt, Instr.sureAddr, Sem.run_bind, Sem.run_pure, Result.andThen_ok] at h1
  simp only [rvS, hf.sl t _ hv, asAddr, Sem.run_bind, Sem.run_pure, Result.andThen_ok, h1]
theorem results_eq (fn : Func) (tmps : Array Value) : results fn tmps = (do let vs ← fn.results.mapM (rvS tmps); pure (if h : vs.size = 1 then vs[0] else .tuple vs)) := by
  unfold results
  congr 1
section
variable {fn : Func} {R : Ending → Gh → List Ent → Prop} {r1 r2 r3 : ResultVar}
theorem TQ.ends (hd : ds = []) (hg : g0.le g) (hv : ∀ a w, Fr n ds S a → St g L w → (results fn a.tmps).run P w = .ok v w) (h : R (.returned v) g L') (hL : Sel L' L) : TQ (End P fn R g0) .ret n ds S g L := .mk fun a w hf hs =>
  bodyPost_ret (v := v) (hv a w hf hs) (hf.defers.trans hd) ⟨g, L', hg, h, hs.sel hL⟩
theorem TQ.endR1 (hr : fn.results = #[r1]) (h1 : RVal P n ds S g L r1 v1) (hd : ds = []) (hg : g0.le g) (h : R (.returned v1) g L') (hL : Sel L' L) : TQ (End P fn R g0) .ret n ds S g L :=
  .ends hd hg (fun a w hf hs => by rw [results_eq, hr]; simp [h1.h a w hf hs]) h hL
theorem TQ.endR2 (hr : fn.results = #[r1, r2]) (h1 : RVal P n ds S g L r1 v1) (h2 : RVal P n ds S g L r2 v2) (hd : ds = []) (hg : g0.le g) (h : R (.returned (.tuple #[v1, v2])) g L') (hL : Sel L' L) : TQ (End P fn R g0) .ret n ds S g L :=
  .ends hd hg (fun a w hf hs => by rw [results_eq, hr]; simp [h1.h a w hf hs, h2.h a w hf hs]) h hL
theorem TQ.endR3 (hr : fn.results = #[r1, r2, r3]) (h1 : RVal P n ds S g L r1 v1) (h2 : RVal P n ds S g L r2 v2) (h3 : RVal P n ds S g L r3 v3) (hd : ds = []) (hg : g0.le g) (h : R (.returned (.tuple #[v1, v2, v3])) g L') (hL : Sel L' L) : TQ (End P fn R g0) .ret n ds S g L :=
  .ends hd hg (fun a w hf hs => by rw [results_eq, hr]; simp [h1.h a w hf hs, h2.h a w hf hs, h3.h a w hf hs]) h hL
theorem TQ.end_normal (h : TQ (End P fn R g0) .ret n ds S g L) : TQ (End P fn R g0) .normal n ds S g L := .mk fun a w hf hs => h.h a w hf hs
end

/-! ### A byte of a text, named -/
theorem byte_of {s : List UInt8} {j : Nat} (hj : j < s.length) : s[j]? = some (s.getD j 0) := by
  simp [List.getD_eq_getElem?_getD, List.getElem?_eq_getElem hj]
theorem byte_lt (c : UInt8) : c.toNat < 256 := UInt8.toNat_lt c
theorem TL.byte [ht : Und P t .string] (hx : ev S x = some (.string ⟨s.toArray⟩)) (hy : ev S y = some (.int k p)) (hp : p = j) (hj : j < s.length) (hd : Nat.blt d n = true)
    (kk : ∀ c : UInt8, s[j]? = some c → c.toNat < 256 → TL P ops Q rest n ds ((d, .int .u8 c.toNat) :: S) g L) : TL P ops Q (⟨some d, .index t x y, ty, pos, aft, none⟩ :: rest) n ds S g L :=
  .pure (Y.index_str hx hy hp hj) hd (kk _ (byte_of hj) (byte_lt _))
theorem TW.byte [ht : Und P t .string] (hx : ev S x = some (.string ⟨s.toArray⟩)) (hy : ev S y = some (.int k p)) (hp : p = j) (hj : j < s.length) (hd : Nat.blt d n = true)
    (kk : ∀ c : UInt8, s[j]? = some c → c.toNat < 256 → TW P ops Q rest n ds ((d, .int .u8 c.toNat) :: S) g L) : TW P ops Q (⟨some d, .index t x y, ty, pos, aft, none⟩ :: rest) n ds S g L :=
  .pure (Y.index_str hx hy hp hj) hd (kk _ (byte_of hj) (byte_lt _))
theorem TL.byteK [ht : Und P t .string] {c : UInt8} (hx : ev S x = some (.string ⟨s.toArray⟩)) (hy : ev S y = some (.int k p)) (hp : p = j) (hc : s[j]? = some c) (hd : Nat.blt d n = true)
    (kk : c.toNat < 256 → TL P ops Q rest n ds ((d, .int .u8 c.toNat) :: S) g L) : TL P ops Q (⟨some d, .index t x y, ty, pos, aft, none⟩ :: rest) n ds S g L := by
  have hj := (List.getElem?_eq_some_iff.1 hc).1
  obtain rfl : c = s.getD j 0 := Option.some.inj (hc.symm.trans (byte_of hj))
  exact .pure (Y.index_str hx hy hp hj) hd (kk (byte_lt _))
theorem TW.byteK [ht : Und P t .string] {c : UInt8} (hx : ev S x = some (.string ⟨s.toArray⟩)) (hy : ev S y = some (.int k p)) (hp : p = j) (hc : s[j]? = some c) (hd : Nat.blt d n = true)
    (kk : c.toNat < 256 → TW P ops Q rest n ds ((d, .int .u8 c.toNat) :: S) g L) : TW P ops Q (⟨some d, .index t x y, ty, pos, aft, none⟩ :: rest) n ds S g L := by
  have hj := (List.getElem?_eq_some_iff.1 hc).1
  obtain rfl : c = s.getD j 0 := Option.some.inj (hc.symm.trans (byte_of hj))
  exact .pure (Y.index_str hx hy hp hj) hd (kk (byte_lt _))

/-! ### A range over a text -/
theorem TL.range_str [ht : Und P t .string] (hx : ev S x = some (.string ⟨s.toArray⟩)) (hd : Nat.blt d n = true) (kk : ∀ b, TL P ops Q rest n ds ((d, .pointer (some ⟨b, 0, none⟩)) :: S) g (.obj b (.stringIter ⟨s.toArray⟩ 0) :: L)) : TL P ops Q (⟨some d, .range t x, ty, pos, aft, none⟩ :: rest) n ds S g L := .mk fun a w hf hs =>
  wpList_plain rfl fun K hK => by
    have h : (execOp a.eval ⟨some d, .range t x, ty, pos, aft, none⟩).run P w = .ok (.value (.pointer (some ⟨w.heap.size, 0, none⟩))) { w with heap := w.heap.push (.stringIter ⟨s.toArray⟩ 0) } := by
      simp [execOp, Instr.range, hf.ev hx, run_und ht.eq, newObj, Sem.run]
    unfold Oper.wp
    rw [h]
    exact hK _ _ ((kk _).h _ _ (hf.put hd _) (hs.alloc _))
theorem TL.next_str (hx : ev S x = some (.pointer (some ⟨b, 0, none⟩))) (hm : Pick (.obj b (.stringIter ⟨s.toArray⟩ j)) L L') (hd : Nat.blt d n = true)
    (kk : j < s.length → TL P ops Q rest n ds ((d, .tuple #[.bool true, .int .i64 j, .int .i32 (Utf8.decode ⟨s.toArray⟩ j).1]) :: S) g (.obj b (.stringIter ⟨s.toArray⟩ (j + (Utf8.decode ⟨s.toArray⟩ j).2)) :: L'))
    (kk' : s.length ≤ j → TL P ops Q rest n ds ((d, .tuple #[.bool false]) :: S) g (.obj b (.stringIter ⟨s.toArray⟩ j) :: L')) : TL P ops Q (⟨some d, .next x true, ty, pos, aft, none⟩ :: rest) n ds S g L := .mk fun a w hf hs =>
  wpList_plain rfl fun K hK => by
    have hs1 := hs.perm hm.perm
    have h := hs1.st _ (List.mem_cons_self)
    have h : w.heap[b]? = some (.stringIter ⟨s.toArray⟩ j) := h
    have hb : b < w.heap.size := (Array.getElem?_eq_some_iff.1 h).1
    unfold Oper.wp
    by_cases hj : j < s.length
    · have hrun : (execOp a.eval ⟨some d, .next x true, ty, pos, aft, none⟩).run P w = .ok (.value (.tuple #[.bool true, .int .i64 j, .int .i32 (Utf8.decode ⟨s.toArray⟩ j).1])) { w with heap := w.heap.setIfInBounds b (.stringIter ⟨s.toArray⟩ (j + (Utf8.decode ⟨s.toArray⟩ j).2)) } := by
        simp [execOp, Instr.next, hf.ev hx, getObj, setObj, Sem.run, h, size_mk, hj, goInt]
      rw [hrun]
      exact hK _ _ ((kk hj).h _ _ (hf.put hd _) (hs1.write (by simp [hb]) (fun k hk => by simp [Array.getElem?_setIfInBounds_ne (Ne.symm hk)]) rfl rfl rfl))
    · have hrun : (execOp a.eval ⟨some d, .next x true, ty, pos, aft, none⟩).run P w = .ok (.value (.tuple #[.bool false])) w := by
        simp [execOp, Instr.next, hf.ev hx, getObj, Sem.run, h, size_mk, hj]
      rw [hrun]
      exact hK _ _ ((kk' (by omega)).h _ _ (hf.put hd _) hs1)

/-! ### A contract that turns what is owned -/
structure Turns (P : Program) (f : FuncId) (args : Array Value) (g : Gh) (L : List Ent) (v : Value) (L' : List Ent) : Prop where
  h : ∀ w, St g L w → Calls P f args w fun e w' => e = .returned v ∧ St g L' w'
theorem Turns.of {f : FuncId} {args : Array Value} (h : Does P f args g L fun e g' L1 => e = .returned v ∧ g' = g ∧ L1 = L') : Turns P f args g L v L' :=
  .mk fun w hs => (h.h w hs).mono fun _ _ ⟨_, _, _, ⟨he, hg, hL⟩, hs'⟩ => ⟨he, by subst hg; subst hL; exact hs'⟩
theorem TL.turns {f : FuncId} {args : Array Value} {L1 L2 : List Ent} (he : Enters P n ds S g L ⟨some d, op, ty, pos, aft, none⟩ f args) (hT : Turns P f args g L1 v L2) (hL : L1.Perm L) (hd : Nat.blt d n = true)
    (kk : TL P ops Q rest n ds ((d, v) :: S) g L2) : TL P ops Q (⟨some d, op, ty, pos, aft, none⟩ :: rest) n ds S g L := .mk fun a w hf hs =>
  wpList_plain rfl fun K hK => by
    unfold Oper.wp
    rw [he.h a w hf hs]
    refine (hT.h w (hs.perm hL)).mono ?_
    rintro e w' ⟨rfl, hs'⟩
    exact hK _ _ (kk.h _ w' (hf.put hd v) hs')

/-! ### Contracts over growing worlds, and back -/
theorem St.ext {w' : World} (h : St g L w) (e : Below w.heap.size w w') : St g L w' :=
  ⟨e.os.trans h.os, e.tape.trans h.tape, e.output.trans h.out, fun b o hb => by
    have h0 := h.hp b o hb
    rw [e.block b (Array.getElem?_eq_some_iff.1 h0).1]; exact h0,
   fun x hx => (h.st x hx).of_block fun b hb => e.block b ((h.st x hx).lt b hb), h.nd, h.ap⟩
theorem Gives.ext {f : FuncId} {args : Array Value} (h : ∀ w, Calls P f args w fun e w' => e = .returned v ∧ Below w.heap.size w w') : Gives P f args g L v :=
  .mk fun w hs => (h w).mono fun _ _ ⟨he, hw⟩ => ⟨he, hs.ext hw⟩
theorem Gives.same {f : FuncId} {args : Array Value} (h : ∀ w, Calls P f args w fun e w' => e = .returned v ∧ w' = w) : Gives P f args g L v :=
  .mk fun w hs => (h w).mono fun _ _ ⟨he, hw⟩ => ⟨he, hw ▸ hs⟩
theorem Gives.calls {f : FuncId} {args : Array Value} (h : ∀ g, Gives P f args g [] v) (w : World) : Calls P f args w fun e w' => e = .returned v ∧ Below w.heap.size w w' :=
  ((h (.of w)).h w (.start w)).mono fun _ _ ⟨he, hs⟩ => ⟨he, hs.below⟩
end
end Go.TL
