/-
  Small facts that all walks of this seat use: cells at a slice's address, what a grown world keeps, lists read by places.
-/
import Derived.Test.YthifckfpjmhmjaaDoorRows
import Derived.WalkKit
import Derived.WalkSpells
import Derived.WalkLawsBesides
import Derived.BigQuiet
import Derived.Lib.Hide
import Derived.Deep.QuietTactic
import Derived.Deep.RegionHeld3
import Derived.Handy
import Derived.Deep.DeepCutAuto
import Derived.Deep.CutBlock
import Derived.Maps.AppendAt
import Derived.Deep.AppendLies
namespace Go.Proofs.YthifckfpjmhmjaaDoor
open Go.RowKit

/-- What a call leaves that makes memory and turns nothing that was there. -/
abbrev Ext (w w' : World) : Prop := Below w.heap.size w w'

theorem Ext.trans' {a b c : World} (h : Ext a b) (k : Ext b c) : Ext a c := Below.trans h (k.mono h.size)
theorem Ext.of_drewN {w : World} (n : Nat) : Ext w (w.drewN n) := ⟨rfl, rfl, rfl, Nat.le_refl _, fun _ _ => rfl⟩

theorem bdrewN {B : Nat} {a w : World} (h : Below B a w) (n : Nat) : Below B a (w.drewN n) := ⟨h.os, h.tape, h.output, h.size, h.block⟩

theorem keeps {w w' : World} (e : Ext w w') {a : Addr} {v : Value} (h : w.cell? a = some v) : w'.cell? a = some v :=
  (e.cell (World.block_lt_of_cell? w a h)).trans h

/-- A world that grew out of W. -/
structure ExtOf (W : World) where
  w : World
  ext : Ext W w
instance (W : World) : Nonempty (ExtOf W) := ⟨⟨W, Below.refl _ _⟩⟩
/-- A region that draws its order, whose operations read cells of W's and call what only makes memory: one walk. -/
theorem wp_region_quiet_ext {P : Program} {W : World} {id : Nat} {Q : Exit → Act → World → Prop} {a : Act} {w : World} {l : List Oper} (hm : P.follows .mixedOrders = true) (hB : Region.lexB .any l.toArray = true) (hC : Ext W w)
    (h : wpQuiet P l.toArray (fun w' => ∃ x : ExtOf W, w' = x.w) (fun a' => ∀ w', (∃ x : ExtOf W, w' = x.w) → Q .normal a' w') l a) : (Code.region id l.toArray true).wp P Q a w :=
  wp_region_quiet (C := fun w' => ∃ x : ExtOf W, w' = x.w) hm hB ⟨⟨w.drew, hC.drew⟩, rfl⟩ (by simpa using h)
theorem Calls.quietE {P : Program} {W : World} {f : FuncId} {args : Array Value} {v : Value} (x : ExtOf W) (h : Calls P f args x.w fun e w' => e = .returned v ∧ Ext x.w w') :
    Calls P f args x.w fun e w'' => e = .returned v ∧ ∃ y : ExtOf W, w'' = y.w :=
  h.mono fun _ w' ⟨he, hw⟩ => ⟨he, ⟨w', x.ext.trans' hw⟩, rfl⟩
theorem ExtOf.cell {W : World} {a : Addr} {v : Value} (h : W.cell? a = some v) : ∀ x : ExtOf W, x.w.cell? a = some v := fun x => keeps x.ext h

/-- The cells from a slice's address on. -/
def CellsAt (w : World) (ao : Option Addr) (cs : List Value) : Prop :=
  ∀ i v, cs[i]? = some v → ∃ b off, ao = some ⟨b, off, none⟩ ∧ b < w.heap.size ∧ w.cell? ⟨b, off + i, none⟩ = some v

theorem CellsAt.ext {w w' : World} {ao : Option Addr} {cs : List Value} (h : CellsAt w ao cs) (e : Ext w w') : CellsAt w' ao cs := fun i v hv => by
  obtain ⟨b, off, h1, h2, h3⟩ := h i v hv
  exact ⟨b, off, h1, Nat.lt_of_lt_of_le h2 e.size, (e.cell (p := ⟨b, off + i, none⟩) h2).trans h3⟩

theorem CellsAt.drew {w : World} {ao : Option Addr} {cs : List Value} (h : CellsAt w ao cs) : CellsAt w.drew ao cs := h
theorem CellsAt.drewN {w : World} {ao : Option Addr} {cs : List Value} (h : CellsAt w ao cs) (n : Nat) : CellsAt (w.drewN n) ao cs := h
theorem CellsAt.alloc {w : World} {ao : Option Addr} {cs : List Value} (h : CellsAt w ao cs) (o : Obj) : CellsAt (w.alloc o) ao cs := h.ext ((Below.refl _ w).alloc (Nat.le_refl _) o)

theorem CellsAt.setCell {w : World} {ao : Option Addr} {cs : List Value} (h : CellsAt w ao cs) (p : Addr) (u : Value) (hne : ∀ b off, ao = some ⟨b, off, none⟩ → b ≠ p.block) : CellsAt (w.setCell p u) ao cs := fun i v hv => by
  obtain ⟨b, off, h1, h2, h3⟩ := h i v hv
  refine ⟨b, off, h1, by simpa [World.setCell] using h2, ?_⟩
  rw [World.cell?_of_block (w := w)]
  · exact h3
  · exact Below.heap_setCell w p u b (hne b off h1)

theorem CellsAt.nil {w : World} {ao : Option Addr} : CellsAt w ao [] := fun i v h => by simp at h

/-- Integers in a row of cells. -/
def ints (xs : List Int) : List Value := xs.map (.int .i64)
theorem ints_get {xs : List Int} {i : Nat} {x : Int} (h : xs[i]? = some x) : (ints xs)[i]? = some (.int .i64 x) := by simp [ints, h]

theorem get_of_lt {α : Type} {l : List α} {n k : Nat} (h : l.length = n) (hk : k < n) : ∃ x, l[k]? = some x :=
  ⟨l[k]'(by omega), List.getElem?_eq_getElem _⟩
theorem drop_of_get {α : Type} {l : List α} {k : Nat} {x : α} (h : l[k]? = some x) : l.drop k = x :: l.drop (k + 1) := by
  obtain ⟨hk, rfl⟩ := List.getElem?_eq_some_iff.1 h
  exact List.drop_eq_getElem_cons hk
theorem take_of_get {α : Type} {l : List α} {k : Nat} {x : α} (h : l[k]? = some x) : l.take (k + 1) = l.take k ++ [x] := by
  obtain ⟨hk, rfl⟩ := List.getElem?_eq_some_iff.1 h
  exact List.take_succ_eq_append_getElem hk

/-- The element type's row of the table, out of one closed fact. -/
structure ElemRow (P : Program) (t e : TypeId) (z : Value) (size bytes : Nat) where
  ht : P.underlying t = some (.slice e)
  i : TypeInfo
  hi : P.info? e = some i
  hz : i.zero = some z
  hsize : i.size = size
  hby : i.bytes = bytes
  hzs : z.cells.size = size
  hsz : 0 < size

theorem info_parts' {P : Program} {e : TypeId} {z : Value} {size bytes : Nat} (h : (P.info? e).map (fun i => (i.zero, i.size, i.bytes)) = some (some z, size, bytes)) : ∃ i, P.info? e = some i ∧ i.zero = some z ∧ i.size = size ∧ i.bytes = bytes := by
  cases h' : P.info? e with
  | none => rw [h'] at h; simp at h
  | some i => rw [h'] at h; simp at h; exact ⟨i, rfl, h.1, h.2.1, h.2.2⟩

/-- What a call leaves that writes to one row of the caller's alone and hands back a row: that one, or a new one. -/
structure Owns (w w' : World) (v v' : Value) : Prop where
  grown : w.grownBy w' v.ownBlock
  row : ∀ k, v'.ownBlock = some k → v.ownBlock = some k ∨ w.heap.size ≤ k

theorem Owns.refl (w : World) (v : Value) : Owns w w v v := ⟨⟨rfl, rfl, rfl, Nat.le_refl _, fun _ _ _ => rfl⟩, fun _ h => .inl h⟩
theorem Owns.trans {a b c : World} {u v x : Value} (h : Owns a b u v) (k : Owns b c v x) : Owns a c u x :=
  ⟨⟨k.grown.os.trans h.grown.os, k.grown.tape.trans h.grown.tape, k.grown.output.trans h.grown.output, Nat.le_trans h.grown.size k.grown.size, fun i hi hne =>
    (k.grown.block i (Nat.lt_of_lt_of_le hi h.grown.size) (fun e => by
      rcases h.row i e.symm with h1 | h1
      · exact hne h1.symm
      · omega)).trans (h.grown.block i hi hne)⟩,
   fun i hi => by
    rcases k.row i hi with h1 | h1
    · exact h.row i h1
    · exact .inr (Nat.le_trans h.grown.size h1)⟩
/-- New blocks, and draws, ahead of it. -/
theorem Owns.of_ext {a b c : World} {v x : Value} (h : Ext a b) (k : Owns b c v x) : Owns a c v x :=
  (⟨⟨h.os, h.tape, h.output, h.size, fun i hi _ => h.block i hi⟩, fun _ hi => .inl hi⟩ : Owns a b v v).trans k
theorem Owns.then_ext {a b c : World} {v x : Value} (h : Owns a b v x) (k : Ext b c) : Owns a c v x :=
  h.trans ⟨⟨k.os, k.tape, k.output, k.size, fun i hi _ => k.block i hi⟩, fun _ hi => .inl hi⟩
theorem Owns.below {B : Nat} {a b : World} {v x : Value} (h : Owns a b v x) (hB : B ≤ a.heap.size) (hv : ∀ k, v.ownBlock = some k → B ≤ k) : Below B a b :=
  ⟨h.grown.os, h.grown.tape, h.grown.output, h.grown.size, fun k hk => h.grown.block k (by omega) (fun e => by have := hv k e.symm; omega)⟩
theorem Owns.ext {a b : World} {v x : Value} (h : Owns a b v x) (hv : v.ownBlock = none) : Ext a b := h.below (Nat.le_refl _) (fun k hk => by rw [hv] at hk; cases hk)

/-- append of whatever slice of cells onto a slice of the call's own. -/
theorem run_append_cells {P : Program} (w : World) {t e : TypeId} {z : Value} {size bytes : Nat} (ht : P.underlying t = some (.slice e)) (hinfo : (P.info? e).map (fun i => (i.zero, i.size, i.bytes)) = some (some z, size, bytes))
    (hzs : z.cells.size = size) (hsz : 0 < size) (ty : TypeId) {base : Nat}
    {v : Value} {n : Nat} {xs : List Value} (hown : w.ownsRow base e size v n xs) (ao : Option Addr) (m c : Nat) (news : List Value) (hl : news.length = m * size) (hnews : CellsAt w ao news) (h1 : ∀ u ∈ news, u.oneCell' = true)
    (h63 : n + m ≤ maxLen) (hbytes : (n + m) * bytes ≤ 140737488355328) (hbase : base ≤ w.heap.size) :
    ∃ v' w', (Builtin.append_ #[t, t] ty #[v, .slice ao m c]).run P w = .ok v' w' ∧ w'.ownsRow base e size v' (n + m) (xs ++ news) ∧ Owns w w' v v' := by
  obtain ⟨i, hi, hz, hs, hb⟩ := info_parts' hinfo
  have hcells : ∀ a, ao = some a → ∀ j u, news[j]? = some u → w.cell? (a.add j) = some u := fun a ha j u hu => by
    obtain ⟨b, off, e1, _, hc⟩ := hnews j u hu
    rw [ha] at e1
    simp only [Option.some.injEq] at e1
    subst e1
    have : (⟨b, off, none⟩ : Addr).add j = ⟨b, off + j, none⟩ := by unfold Addr.add; split <;> simp_all
    rw [this]; exact hc
  have own : ∀ {w' : World} {v' : Value}, w.grownBy w' v.ownBlock → (v'.ownBlock = v.ownBlock ∨ v'.ownBlock = some w.heap.size) → Owns w w' v v' := fun h1 h2 => ⟨h1, fun k hk => by
    rcases h2 with h2 | h2
    · exact .inl (h2 ▸ hk)
    · rw [h2] at hk; simp at hk; exact .inr (by omega)⟩
  cases ao with
  | some a =>
    obtain ⟨v', w', hrun, r1, r2, _, r5⟩ := run_append_own_at (P := P) w base t ty e i z size bytes ht hi hz hs hb hzs hsz v n xs hown a m c news hl (hcells a rfl) h1 h63 hbytes hbase
    exact ⟨v', w', hrun, r1, own r2 r5⟩
  | none =>
    have hm : news = [] := by
      cases news with
      | nil => rfl
      | cons u r => obtain ⟨b, off, e1, _⟩ := hnews 0 u (by simp); simp at e1
    subst hm
    have hm0 : m = 0 := by
      have hl' : m * size = 0 := hl.symm
      rcases Nat.mul_eq_zero.1 hl' with h | h <;> omega
    subst hm0
    obtain ⟨v', w', hrun, r1, r2, _, r5⟩ := run_append_own_at (P := P) w base t ty e i z size bytes ht hi hz hs hb hzs hsz v n xs hown ⟨0, 0, none⟩ 0 c [] (by simp) (by simp) (by simp) h63 hbytes hbase
    refine ⟨v', w', ?_, r1, own r2 r5⟩
    rw [← hrun]
    rcases hown.2 with ⟨rfl, _⟩ | ⟨g, cap, cur, rfl, _⟩ <;> simp [Builtin.append_, run_underlying ht, sizeOf, typeInfo, Builtin.lenOf, Builtin.firstCells, loadCells, loadCellsFrom, *]

section
variable {P : Program} {t e : TypeId} {z : Value} {size bytes : Nat}
theorem wp_append_cells {w : World} {o : Oper} {a : Act} {K : Act → World → Prop} {Q : Exit → Act → World → Prop} (s x : Operand)
    (ho : o.op = .call { callee := .builtin .append, args := #[s, x], argTypes := #[t, t] }) (ht : P.underlying t = some (.slice e)) (hinfo : (P.info? e).map (fun i => (i.zero, i.size, i.bytes)) = some (some z, size, bytes))
    (hzs : z.cells.size = size) (hsz : 0 < size) {base : Nat} {v : Value} {n : Nat} {xs : List Value} (hs : a.eval s = v) (hown : w.ownsRow base e size v n xs) (ao : Option Addr) (m c : Nat) (news : List Value)
    (hx : a.eval x = .slice ao m c) (hl : news.length = m * size) (hnews : CellsAt w ao news) (h1 : ∀ u ∈ news, u.oneCell' = true)
    (h63 : n + m ≤ maxLen) (hbytes : (n + m) * bytes ≤ 140737488355328) (hbase : base ≤ w.heap.size)
    (h : ∀ v' w', w'.ownsRow base e size v' (n + m) (xs ++ news) → Owns w w' v v' → K (a.put o.dst v') w') : o.wp P a w K Q := by
  obtain ⟨v', w', hr, h2, h3⟩ := run_append_cells (P := P) w ht hinfo hzs hsz o.type hown ao m c news hl hnews h1 h63 hbytes hbase
  unfold Oper.wp execOp
  simp only [ho, resolve, invoke, builtin, Sem.run_bind, Sem.run_pure, Result.andThen_ok, List.map_toArray, List.map_cons, List.map_nil, hs, hx, hr]
  exact h v' w' h2 h3

/-- At the list of a plain region's operations. -/
theorem wpList_append_cells {w : World} {ops : Array Oper} {rest : List Oper} {o : Oper} {a : Act} {Q : Exit → Act → World → Prop} (hgd : o.guard = none) (s x : Operand)
    (ho : o.op = .call { callee := .builtin .append, args := #[s, x], argTypes := #[t, t] }) (ht : P.underlying t = some (.slice e)) (hinfo : (P.info? e).map (fun i => (i.zero, i.size, i.bytes)) = some (some z, size, bytes))
    (hzs : z.cells.size = size) (hsz : 0 < size) {base : Nat} {v : Value} {n : Nat} {xs : List Value} (hs : a.eval s = v) (hown : w.ownsRow base e size v n xs) (ao : Option Addr) (m c : Nat) (news : List Value)
    (hx : a.eval x = .slice ao m c) (hl : news.length = m * size) (hnews : CellsAt w ao news) (h1 : ∀ u ∈ news, u.oneCell' = true)
    (h63 : n + m ≤ maxLen) (hbytes : (n + m) * bytes ≤ 140737488355328) (hbase : base ≤ w.heap.size)
    (h : ∀ v' w', w'.ownsRow base e size v' (n + m) (xs ++ news) → Owns w w' v v' → wpList P ops Q rest (a.put o.dst v') w') : wpList P ops Q (o :: rest) a w :=
  wpList_plain hgd fun _ hK => wp_append_cells s x ho ht hinfo hzs hsz hs hown ao m c news hx hl hnews h1 h63 hbytes hbase fun v' w' h2 h3 => hK _ _ (h v' w' h2 h3)

/-- At a step of a region that draws its order. -/
theorem step_append_cells {w : World} {ops : Array Oper} {o : Oper} {a : Act} {K : Act → World → Prop} {Q : Exit → Act → World → Prop} {E : Prop} (hgd : o.guard = none) (s x : Operand)
    (ho : o.op = .call { callee := .builtin .append, args := #[s, x], argTypes := #[t, t] }) (ht : P.underlying t = some (.slice e)) (hinfo : (P.info? e).map (fun i => (i.zero, i.size, i.bytes)) = some (some z, size, bytes))
    (hzs : z.cells.size = size) (hsz : 0 < size) {base : Nat} {v : Value} {n : Nat} {xs : List Value} (hs : a.eval s = v) (hown : w.ownsRow base e size v n xs) (ao : Option Addr) (m c : Nat) (news : List Value)
    (hx : a.eval x = .slice ao m c) (hl : news.length = m * size) (hnews : CellsAt w ao news) (h1 : ∀ u ∈ news, u.oneCell' = true)
    (h63 : n + m ≤ maxLen) (hbytes : (n + m) * bytes ≤ 140737488355328) (hbase : base ≤ w.heap.size)
    (h : ∀ v' w', w'.ownsRow base e size v' (n + m) (xs ++ news) → Owns w w' v v' → K (a.put o.dst v') w') :
    if Region.wanted o (yielded ops a.tmps) = true then Oper.wp P o a w K Q else E := by
  have hw : Region.wanted o (yielded ops a.tmps) = true := by simp [Region.wanted, hgd]
  rw [if_pos hw]
  exact wp_append_cells s x ho ht hinfo hzs hsz hs hown ao m c news hx hl hnews h1 h63 hbytes hbase h
end

/-- What is owned is a slice whose cells lie at its address. -/
theorem owns_form {w : World} {base : Nat} {e : TypeId} {size : Nat} {v : Value} {n : Nat} {xs : List Value} (h : w.ownsRow base e size v n xs) :
    ∃ ao cap, v = .slice ao n cap ∧ CellsAt w ao xs ∧ (∀ b off, ao = some ⟨b, off, none⟩ → base ≤ b ∧ b < w.heap.size) := by
  obtain ⟨hl, h⟩ := h
  rcases h with ⟨rfl, rfl⟩ | ⟨g, cap, cur, rfl, hb, hg, hnc, hcm, hcs, htake⟩
  · have : xs = [] := List.eq_nil_of_length_eq_zero (by simpa using hl)
    subst this
    exact ⟨none, 0, rfl, CellsAt.nil, fun b off h => by simp at h⟩
  · have hlt := (Array.getElem?_eq_some_iff.1 hg).1
    refine ⟨_, cap, rfl, fun i u hu => ⟨g, 0, rfl, hlt, ?_⟩, fun b off h => ?_⟩
    rotate_left
    · simp only [Option.some.injEq, Addr.mk.injEq] at h
      obtain ⟨rfl, _⟩ := h
      exact ⟨hb, hlt⟩
    rw [Nat.zero_add, cell_of_row w g i cur e (0, 0) hg]
    rw [← htake, List.getElem?_take] at hu
    split at hu
    · simpa using hu
    · cases hu

theorem owns_mono {w : World} {base base' : Nat} {e : TypeId} {size : Nat} {v : Value} {n : Nat} {xs : List Value} (h : w.ownsRow base e size v n xs) (hb : base' ≤ base) : w.ownsRow base' e size v n xs := by
  obtain ⟨hl, h⟩ := h
  refine ⟨hl, ?_⟩
  rcases h with h | ⟨g, cap, cur, hv, hg, r⟩
  · exact .inl h
  · exact .inr ⟨g, cap, cur, hv, by omega, r⟩

theorem CellsAt.grown {w w' : World} {row : Option Nat} {ao : Option Addr} {cs : List Value} (h : CellsAt w ao cs) (hg : w.grownBy w' row) (hne : ∀ b off, ao = some ⟨b, off, none⟩ → some b ≠ row) : CellsAt w' ao cs := fun i v hv => by
  obtain ⟨b, off, h1, h2, h3⟩ := h i v hv
  exact ⟨b, off, h1, Nat.lt_of_lt_of_le h2 hg.size, hg.cell (a := ⟨b, off + i, none⟩) h3 (hne b off h1)⟩

/-- A slice whose cells lie below a block. -/
def LowAt (base : Nat) (ao : Option Addr) : Prop := ∀ b off, ao = some ⟨b, off, none⟩ → b < base
theorem CellsAt.below {base : Nat} {w w' : World} {ao : Option Addr} {cs : List Value} (h : CellsAt w ao cs) (hb : Below base w w') (hl : LowAt base ao) : CellsAt w' ao cs := fun i v hv => by
  obtain ⟨b, off, h1, h2, h3⟩ := h i v hv
  exact ⟨b, off, h1, Nat.lt_of_lt_of_le h2 hb.size, (hb.cell (p := ⟨b, off + i, none⟩) (hl b off h1)).trans h3⟩
theorem owns_low {w : World} {base : Nat} {e : TypeId} {size : Nat} {v : Value} {n : Nat} {xs : List Value} (h : w.ownsRow base e size v n xs) : ∀ k, v.ownBlock = some k → base ≤ k := fun k hk => (h.lt k hk).1

/-- Bytes in a row of cells. -/
def byteVals (l : List UInt8) : List Value := l.map fun c => .int .u8 c.toNat
theorem byteVals_append (a b : List UInt8) : byteVals (a ++ b) = byteVals a ++ byteVals b := by simp [byteVals]
theorem byteVals_length (a : List UInt8) : (byteVals a).length = a.length := by simp [byteVals]
theorem byteVals_one (l : List UInt8) : ∀ u ∈ byteVals l, u.oneCell' = true := by intro u hu; simp only [byteVals, List.mem_map] at hu; obtain ⟨a, _, rfl⟩ := hu; rfl
theorem ints_one (l : List Int) : ∀ u ∈ ints l, u.oneCell' = true := by intro u hu; simp only [ints, List.mem_map] at hu; obtain ⟨a, _, rfl⟩ := hu; rfl
theorem byteVals_get {xs : List UInt8} {i : Nat} {x : UInt8} (h : xs[i]? = some x) : (byteVals xs)[i]? = some (.int .u8 x.toNat) := by simp [byteVals, h]
/-- The one cell of a new block. -/
theorem cells_new {w : World} {b : Nat} {x : Value} {e : TypeId} {fr : Nat × Nat} (h : w.heap[b]? = some (.cells #[x] e fr)) : CellsAt w (some ⟨b, 0, none⟩) [x] := fun i u hu => by
  refine ⟨b, 0, rfl, (Array.getElem?_eq_some_iff.1 h).1, ?_⟩
  rw [Nat.zero_add, cell_of_row w b i #[x] e fr h]
  simpa using hu

theorem ret_bool {a b : Bool} (h : a = b) : Ending.returned (.bool a) = .returned (.bool b) := by rw [h]
theorem ret_int {k : IntKind} {a b : Int} (h : a = b) : Ending.returned (.int k a) = .returned (.int k b) := by rw [h]

end Go.Proofs.YthifckfpjmhmjaaDoor
