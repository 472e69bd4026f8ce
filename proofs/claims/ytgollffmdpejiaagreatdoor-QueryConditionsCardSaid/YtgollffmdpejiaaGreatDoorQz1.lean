/-
  Worlds and rows; the walk by lemmas: states, code, operations, memory, values, panics.
-/
import Derived.Test.YtgollffmdpejiaaGreatDoorRows
import Derived.WalkKit
import Derived.WalkSpells
import Derived.WalkLawsBesides
import Derived.BigQuiet
import Derived.Lib.Hide
import Derived.Deep.QuietTactic
import Derived.Deep.RegionHeld3
import Derived.Handy
import Derived.Deep.DeepCutAuto
import Derived.Deep.CutBlock
import Derived.Maps.AppendAt
import Derived.Deep.AppendLies
import Derived.StillTail
import Derived.Defers
import Derived.Recover
import Derived.Shelf.Bytes.SlSmallAll
namespace Go.Proofs.YtgollffmdpejiaaGreatDoor
open Go.RowKit

abbrev Ext (w w' : World) : Prop := Below w.heap.size w w'

theorem Ext.trans' {a b c : World} (h : Ext a b) (k : Ext b c) : Ext a c := Below.trans h (k.mono h.size)
theorem bdrewN {B : Nat} {a w : World} (h : Below B a w) (n : Nat) : Below B a (w.drewN n) := ⟨h.os, h.tape, h.output, h.size, h.block⟩

def CellsAt (w : World) (ao : Option Addr) (cs : List Value) : Prop :=
  ∀ i v, cs[i]? = some v → ∃ b off, ao = some ⟨b, off, none⟩ ∧ b < w.heap.size ∧ w.cell? ⟨b, off + i, none⟩ = some v

theorem CellsAt.nil {w : World} {ao : Option Addr} : CellsAt w ao [] := fun i v h => by simp at h

theorem drop_of_get {α : Type} {l : List α} {k : Nat} {x : α} (h : l[k]? = some x) : l.drop k = x :: l.drop (k + 1) := by
  obtain ⟨hk, rfl⟩ := List.getElem?_eq_some_iff.1 h
  exact List.drop_eq_getElem_cons hk
theorem info_parts' {P : Program} {e : TypeId} {z : Value} {size bytes : Nat} (h : (P.info? e).map (fun i => (i.zero, i.size, i.bytes)) = some (some z, size, bytes)) : ∃ i, P.info? e = some i ∧ i.zero = some z ∧ i.size = size ∧ i.bytes = bytes := by
  cases h' : P.info? e with
  | none => rw [h'] at h; simp at h
  | some i => rw [h'] at h; simp at h; exact ⟨i, rfl, h.1, h.2.1, h.2.2⟩

structure Owns (w w' : World) (v v' : Value) : Prop where
  grown : w.grownBy w' v.ownBlock
  row : ∀ k, v'.ownBlock = some k → v.ownBlock = some k ∨ w.heap.size ≤ k

theorem run_append_cells {P : Program} (w : World) {t e : TypeId} {z : Value} {size bytes : Nat} (ht : P.underlying t = some (.slice e)) (hinfo : (P.info? e).map (fun i => (i.zero, i.size, i.bytes)) = some (some z, size, bytes))
    (hzs : z.cells.size = size) (hsz : 0 < size) (ty : TypeId) {base : Nat}
    {v : Value} {n : Nat} {xs : List Value} (hown : w.ownsRow base e size v n xs) (ao : Option Addr) (m c : Nat) (news : List Value) (hl : news.length = m * size) (hnews : CellsAt w ao news) (h1 : ∀ u ∈ news, u.oneCell' = true)
    (h63 : n + m ≤ maxLen) (hbytes : (n + m) * bytes ≤ 140737488355328) (hbase : base ≤ w.heap.size) :
    ∃ v' w', (Builtin.append_ #[t, t] ty #[v, .slice ao m c]).run P w = .ok v' w' ∧ w'.ownsRow base e size v' (n + m) (xs ++ news) ∧ Owns w w' v v' := by
  obtain ⟨i, hi, hz, hs, hb⟩ := info_parts' hinfo
  have hcells : ∀ a, ao = some a → ∀ j u, news[j]? = some u → w.cell? (a.add j) = some u := fun a ha j u hu => by
    obtain ⟨b, off, e1, _, hc⟩ := hnews j u hu
    rw [ha] at e1
    simp only [Option.some.injEq] at e1
    subst e1
    have : (⟨b, off, none⟩ : Addr).add j = ⟨b, off + j, none⟩ := by unfold Addr.add; split <;> simp_all
    rw [this]; exact hc
  have own : ∀ {w' : World} {v' : Value}, w.grownBy w' v.ownBlock → (v'.ownBlock = v.ownBlock ∨ v'.ownBlock = some w.heap.size) → Owns w w' v v' := fun h1 h2 => ⟨h1, fun k hk => by
    rcases h2 with h2 | h2
    · exact .inl (h2 ▸ hk)
    · rw [h2] at hk; simp at hk; exact .inr (by omega)⟩
  cases ao with
  | some a =>
    obtain ⟨v', w', hrun, r1, r2, _, r5⟩ := run_append_own_at (P := P) w base t ty e i z size bytes ht hi hz hs hb hzs hsz v n xs hown a m c news hl (hcells a rfl) h1 h63 hbytes hbase
    exact ⟨v', w', hrun, r1, own r2 r5⟩
  | none =>
    have hm : news = [] := by
      cases news with
      | nil => rfl
      | cons u r => obtain ⟨b, off, e1, _⟩ := hnews 0 u (by simp); simp at e1
    subst hm
    have hm0 : m = 0 := by
      have hl' : m * size = 0 := hl.symm
      rcases Nat.mul_eq_zero.1 hl' with h | h <;> omega
    subst hm0
    obtain ⟨v', w', hrun, r1, r2, _, r5⟩ := run_append_own_at (P := P) w base t ty e i z size bytes ht hi hz hs hb hzs hsz v n xs hown ⟨0, 0, none⟩ 0 c [] (by simp) (by simp) (by simp) h63 hbytes hbase
    refine ⟨v', w', ?_, r1, own r2 r5⟩
    rw [← hrun]
    rcases hown.2 with ⟨rfl, _⟩ | ⟨g, cap, cur, rfl, _⟩ <;> simp [Builtin.append_, run_underlying ht, sizeOf, typeInfo, Builtin.lenOf, Builtin.firstCells, loadCells, loadCellsFrom, *]

section
variable {P : Program} {t e : TypeId} {z : Value} {size bytes : Nat}
theorem wp_append_cells {w : World} {o : Oper} {a : Act} {K : Act → World → Prop} {Q : Exit → Act → World → Prop} (s x : Operand)
    (ho : o.op = .call { callee := .builtin .append, args := #[s, x], argTypes := #[t, t] }) (ht : P.underlying t = some (.slice e)) (hinfo : (P.info? e).map (fun i => (i.zero, i.size, i.bytes)) = some (some z, size, bytes))
    (hzs : z.cells.size = size) (hsz : 0 < size) {base : Nat} {v : Value} {n : Nat} {xs : List Value} (hs : a.eval s = v) (hown : w.ownsRow base e size v n xs) (ao : Option Addr) (m c : Nat) (news : List Value)
    (hx : a.eval x = .slice ao m c) (hl : news.length = m * size) (hnews : CellsAt w ao news) (h1 : ∀ u ∈ news, u.oneCell' = true)
    (h63 : n + m ≤ maxLen) (hbytes : (n + m) * bytes ≤ 140737488355328) (hbase : base ≤ w.heap.size)
    (h : ∀ v' w', w'.ownsRow base e size v' (n + m) (xs ++ news) → Owns w w' v v' → K (a.put o.dst v') w') : o.wp P a w K Q := by
  obtain ⟨v', w', hr, h2, h3⟩ := run_append_cells (P := P) w ht hinfo hzs hsz o.type hown ao m c news hl hnews h1 h63 hbytes hbase
  unfold Oper.wp execOp
  simp only [ho, resolve, invoke, builtin, Sem.run_bind, Sem.run_pure, Result.andThen_ok, List.map_toArray, List.map_cons, List.map_nil, hs, hx, hr]
  exact h v' w' h2 h3

theorem wpList_append_cells {w : World} {ops : Array Oper} {rest : List Oper} {o : Oper} {a : Act} {Q : Exit → Act → World → Prop} (hgd : o.guard = none) (s x : Operand)
    (ho : o.op = .call { callee := .builtin .append, args := #[s, x], argTypes := #[t, t] }) (ht : P.underlying t = some (.slice e)) (hinfo : (P.info? e).map (fun i => (i.zero, i.size, i.bytes)) = some (some z, size, bytes))
    (hzs : z.cells.size = size) (hsz : 0 < size) {base : Nat} {v : Value} {n : Nat} {xs : List Value} (hs : a.eval s = v) (hown : w.ownsRow base e size v n xs) (ao : Option Addr) (m c : Nat) (news : List Value)
    (hx : a.eval x = .slice ao m c) (hl : news.length = m * size) (hnews : CellsAt w ao news) (h1 : ∀ u ∈ news, u.oneCell' = true)
    (h63 : n + m ≤ maxLen) (hbytes : (n + m) * bytes ≤ 140737488355328) (hbase : base ≤ w.heap.size)
    (h : ∀ v' w', w'.ownsRow base e size v' (n + m) (xs ++ news) → Owns w w' v v' → wpList P ops Q rest (a.put o.dst v') w') : wpList P ops Q (o :: rest) a w :=
  wpList_plain hgd fun _ hK => wp_append_cells s x ho ht hinfo hzs hsz hs hown ao m c news hx hl hnews h1 h63 hbytes hbase fun v' w' h2 h3 => hK _ _ (h v' w' h2 h3)

end

theorem owns_form {w : World} {base : Nat} {e : TypeId} {size : Nat} {v : Value} {n : Nat} {xs : List Value} (h : w.ownsRow base e size v n xs) :
    ∃ ao cap, v = .slice ao n cap ∧ CellsAt w ao xs ∧ (∀ b off, ao = some ⟨b, off, none⟩ → base ≤ b ∧ b < w.heap.size) := by
  obtain ⟨hl, h⟩ := h
  rcases h with ⟨rfl, rfl⟩ | ⟨g, cap, cur, rfl, hb, hg, hnc, hcm, hcs, htake⟩
  · have : xs = [] := List.eq_nil_of_length_eq_zero (by simpa using hl)
    subst this
    exact ⟨none, 0, rfl, CellsAt.nil, fun b off h => by simp at h⟩
  · have hlt := (Array.getElem?_eq_some_iff.1 hg).1
    refine ⟨_, cap, rfl, fun i u hu => ⟨g, 0, rfl, hlt, ?_⟩, fun b off h => ?_⟩
    rotate_left
    · simp only [Option.some.injEq, Addr.mk.injEq] at h
      obtain ⟨rfl, _⟩ := h
      exact ⟨hb, hlt⟩
    rw [Nat.zero_add, cell_of_row w g i cur e (0, 0) hg]
    rw [← htake, List.getElem?_take] at hu
    split at hu
    · simpa using hu
    · cases hu

theorem owns_low {w : World} {base : Nat} {e : TypeId} {size : Nat} {v : Value} {n : Nat} {xs : List Value} (h : w.ownsRow base e size v n xs) : ∀ k, v.ownBlock = some k → base ≤ k := fun k hk => (h.lt k hk).1

def byteVals (l : List UInt8) : List Value := l.map fun c => .int .u8 c.toNat
theorem byteVals_append (a b : List UInt8) : byteVals (a ++ b) = byteVals a ++ byteVals b := by simp [byteVals]
theorem byteVals_length (a : List UInt8) : (byteVals a).length = a.length := by simp [byteVals]
end Go.Proofs.YtgollffmdpejiaaGreatDoor
namespace Go.TL
open Go Go.RowKit

/-! ### Slots -/
abbrev Slots := List (Nat × Value)
def look (i : Nat) : Slots → Option Value
  | [] => none
  | (j, v) :: S => bif Nat.beq i j then some v else look i S

structure Fr (n : Nat) (ds : List Deferred) (S : Slots) (a : Act) : Prop where
  size : a.tmps.size = n
  defers : a.defers = ds
  sl : ∀ i v, look i S = some v → a.tmps.getD i undef = v

def ev (S : Slots) : Operand → Option Value
  | .tmp t => look t S
  | .const v => some v
  | .global g => some (.pointer (some ⟨g, 0, none⟩))
  | .func f => some (.func (.func f) #[] #[])

section
variable {n : Nat} {ds : List Deferred} {S : Slots} {a : Act}
theorem Fr.ev (h : Fr n ds S a) {x : Operand} {v : Value} (hx : ev S x = some v) : a.eval x = v := by
  cases x with
  | tmp t => exact h.sl t v hx
  | const u => exact Option.some.inj hx
  | global g => exact Option.some.inj hx
  | func f => exact Option.some.inj hx

theorem Fr.put (h : Fr n ds S a) {d : Nat} (hd : Nat.blt d n = true) (v : Value) : Fr n ds ((d, v) :: S) (a.put (some d) v) := by
  have hlt : d < a.tmps.size := by rw [h.size]; exact Nat.le_of_ble_eq_true hd
  refine ⟨by simp [Act.put, h.size], h.defers, fun i u hu => ?_⟩
  rw [look] at hu
  by_cases hi : i = d
  · subst hi
    have : Nat.beq i i = true := by simp
    rw [this] at hu
    have : v = u := Option.some.inj hu
    subst this
    simp [Act.put, Array.getD_eq_getD_getElem?, hlt]
  · have : Nat.beq i d = false := by
      cases e : Nat.beq i d with
      | false => rfl
      | true => exact (hi (Nat.eq_of_beq_eq_true e)).elim
    rw [this] at hu
    have := h.sl i u hu
    simp only [Act.put, Array.getD_eq_getD_getElem?] at this ⊢
    rw [Array.getElem?_setIfInBounds_ne (Ne.symm hi)]
    exact this
end
def SubX (seen : List Nat) : Slots → Slots → Prop
  | [], _ => True
  | (i, v) :: S', S => bif seen.any (Nat.beq i) then SubX seen S' S else look i S = some v ∧ SubX (i :: seen) S' S
abbrev Sub (S' S : Slots) : Prop := SubX [] S' S
theorem SubX.look : ∀ (S' S : Slots) (seen : List Nat), SubX seen S' S → ∀ i v, look i S' = some v → seen.any (Nat.beq i) = false → look i S = some v
  | [], _, _, _, _, _, hv, _ => by cases hv
  | (j, u) :: S', S, seen, h, i, v, hv, hi => by
    rw [Go.TL.look] at hv
    rw [SubX] at h
    by_cases hb : Nat.beq i j = true
    · rw [hb] at hv
      have e : u = v := Option.some.inj hv
      have : i = j := Nat.eq_of_beq_eq_true hb
      subst e; subst this
      rw [hi] at h
      exact h.1
    · rw [Bool.not_eq_true] at hb
      rw [hb] at hv
      cases hj : seen.any (Nat.beq j) with
      | true => rw [hj] at h; exact SubX.look S' S seen h i v hv hi
      | false =>
        rw [hj] at h
        refine SubX.look S' S (j :: seen) h.2 i v hv ?_
        rw [List.any_cons, hb, hi]; rfl
theorem Sub.look {S' S : Slots} (h : Sub S' S) : ∀ i v, look i S' = some v → look i S = some v := fun i v hv => SubX.look S' S [] h i v hv rfl
theorem Fr.sub {n : Nat} {ds : List Deferred} {S S' : Slots} {a : Act} (h : Fr n ds S a) (hs : Sub S' S) : Fr n ds S' a :=
  ⟨h.size, h.defers, fun i v hv => h.sl i v (hs.look i v hv)⟩

/-! ### The world: what stays, and what is owned -/
structure Gh where
  hp : Nat → Option Obj
  os : Os
  tape : Nat → Question → Nat
  out : Array (Nat × ByteArray)
structure Gh.le (g g' : Gh) : Prop where
  hp : ∀ b o, g.hp b = some o → g'.hp b = some o
  os : g'.os = g.os
  tape : g'.tape = g.tape
  out : g'.out = g.out
theorem Gh.le.refl (g : Gh) : g.le g := ⟨fun _ _ h => h, rfl, rfl, rfl⟩
theorem Gh.le.trans {a b c : Gh} (h : a.le b) (k : b.le c) : a.le c :=
  ⟨fun _ _ x => k.hp _ _ (h.hp _ _ x), k.os.trans h.os, k.tape.trans h.tape, k.out.trans h.out⟩
def Gh.of (w : World) : Gh := ⟨fun b => w.heap[b]?, w.os, w.tape, w.output⟩

structure Asn where
  bs : List Nat
  P : World → Prop
  lt : ∀ w, P w → ∀ b ∈ bs, b < w.heap.size
  loc : ∀ w w', P w → (∀ b ∈ bs, w'.heap[b]? = w.heap[b]?) → P w'
inductive Ent where
  | own (A : Asn)
  | obj (b : Nat) (o : Obj)
  | row (E : TypeId) (sz : Nat) (v : Value) (n : Nat) (xs : List Value)
def Ent.fp : Ent → List Nat
  | .own A => A.bs
  | .obj b _ => [b]
  | .row _ _ v _ _ => v.ownBlock.toList
def Ent.st (w : World) : Ent → Prop
  | .own A => A.P w
  | .obj b o => w.heap[b]? = some o
  | .row E sz v n xs => w.ownsRow 0 E sz v n xs
def fps (L : List Ent) : List Nat := L.flatMap Ent.fp
@[simp] theorem fps_nil : fps [] = [] := rfl
@[simp] theorem fps_cons (e : Ent) (L : List Ent) : fps (e :: L) = e.fp ++ fps L := rfl
structure St (g : Gh) (L : List Ent) (w : World) : Prop where
  os : w.os = g.os
  tape : w.tape = g.tape
  out : w.output = g.out
  hp : ∀ b o, g.hp b = some o → w.heap[b]? = some o
  st : ∀ e ∈ L, e.st w
  nd : (fps L).Nodup
  ap : ∀ b ∈ fps L, g.hp b = none

theorem Ent.st.lt {w : World} {e : Ent} (h : e.st w) : ∀ b ∈ e.fp, b < w.heap.size := by
  intro b hb
  cases e with
  | own A => exact A.lt w h b hb
  | obj c o =>
    have : b = c := by simpa [Ent.fp] using hb
    subst this
    exact (Array.getElem?_eq_some_iff.1 h).1
  | row E sz v n xs =>
    exact (World.ownsRow.lt h b (by simpa [Ent.fp, Option.mem_toList] using hb)).2
theorem Ent.st.of_block {w w' : World} {e : Ent} (h : e.st w) (hb : ∀ b ∈ e.fp, w'.heap[b]? = w.heap[b]?) : e.st w' := by
  cases e with
  | own A => exact A.loc w w' h hb
  | obj c o => exact (hb c (by simp [Ent.fp])).trans h
  | row E sz v n xs =>
    refine ⟨h.1, ?_⟩
    rcases h.2 with h2 | ⟨b, cap, cur, hv, h0, hh, r⟩
    · exact .inl h2
    · subst hv
      exact .inr ⟨b, cap, cur, rfl, h0, (hb b (by simp [Ent.fp, Value.ownBlock])).trans hh, r⟩
section
variable {g : Gh} {L : List Ent} {w w' : World}
theorem St.lt (h : St g L w) : ∀ b ∈ fps L, b < w.heap.size := by
  intro b hb
  obtain ⟨e, he, hb⟩ := List.mem_flatMap.1 hb
  exact (h.st e he).lt b hb
theorem St.start (w : World) : St (.of w) [] w := ⟨rfl, rfl, rfl, fun _ _ h => h, by simp, by simp, by simp⟩
theorem St.below (h : St (.of w) [] w') : Below w.heap.size w w' := by
  have hk : ∀ k, k < w.heap.size → w'.heap[k]? = w.heap[k]? := fun k hk => by
    rw [h.hp k (w.heap[k]) (Array.getElem?_eq_getElem hk), Array.getElem?_eq_getElem hk]
  refine ⟨h.os, h.tape, h.out, ?_, hk⟩
  rcases Nat.lt_or_ge w'.heap.size w.heap.size with hlt | hge
  · have := hk w'.heap.size hlt
    rw [Array.getElem?_eq_none (Nat.le_refl _), Array.getElem?_eq_getElem hlt] at this
    cases this
  · exact hge
theorem fps_sub {L' L : List Ent} (h : L'.Sublist L) : (fps L').Sublist (fps L) := by
  induction h with
  | slnil => exact .slnil
  | cons e _ ih => rw [fps_cons]; exact ih.trans (List.sublist_append_right _ _)
  | cons_cons e _ ih => rw [fps_cons, fps_cons]; exact List.Sublist.append (List.Sublist.refl _) ih
theorem St.forget (h : St g L w) {L' : List Ent} (hL : L'.Sublist L) : St g L' w :=
  ⟨h.os, h.tape, h.out, h.hp, fun e he => h.st e (hL.subset he), h.nd.sublist (fps_sub hL), fun b hb => h.ap b ((fps_sub hL).subset hb)⟩
theorem St.tail {e : Ent} (h : St g (e :: L) w) : St g L w := h.forget (List.sublist_cons_self _ _)
theorem St.perm (h : St g L w) {L' : List Ent} (hL : L'.Perm L) : St g L' w :=
  ⟨h.os, h.tape, h.out, h.hp, fun e he => h.st e (hL.mem_iff.1 he), ((hL.flatMap_right Ent.fp).nodup_iff).2 h.nd, fun b hb => h.ap b ((hL.flatMap_right Ent.fp).mem_iff.1 hb)⟩
theorem St.less (h : St g L w) {g0 : Gh} (hg : g0.le g) : St g0 L w :=
  ⟨h.os.trans hg.os, h.tape.trans hg.tape, h.out.trans hg.out, fun b o hb => h.hp b o (hg.hp b o hb), h.st, h.nd, fun b hb => by
    cases e : g0.hp b with
    | none => rfl
    | some o => have := h.ap b hb; rw [hg.hp b o e] at this; cases this⟩
theorem St.drew (h : St g L w) : St g L { w with drawn := w.drawn + 1 } :=
  ⟨h.os, h.tape, h.out, h.hp, fun e he => (h.st e he).of_block fun _ _ => rfl, h.nd, h.ap⟩
theorem St.alloc (h : St g L w) (o : Obj) : St g (.obj w.heap.size o :: L) { w with heap := w.heap.push o } := by
  have hold : ∀ b, b < w.heap.size → (w.heap.push o)[b]? = w.heap[b]? := fun b hb => by rw [Array.getElem?_push, if_neg (by omega)]
  refine ⟨h.os, h.tape, h.out, fun b p hb => ?_, fun e he => ?_, ?_, fun b hb => ?_⟩
  · have := h.hp b p hb
    exact (hold b (Array.getElem?_eq_some_iff.1 this).1).trans this
  · rcases List.mem_cons.1 he with rfl | he
    · show (w.heap.push o)[w.heap.size]? = some o; simp
    · exact (h.st e he).of_block fun b hb => hold b ((h.st e he).lt b hb)
  · rw [fps_cons]
    exact List.nodup_append.2 ⟨by simp [Ent.fp], h.nd, fun a ha b hb e => by
      have : a = w.heap.size := by simpa [Ent.fp] using ha
      have := h.lt b hb
      omega⟩
  · rw [fps_cons] at hb
    rcases List.mem_append.1 hb with hb | hb
    · have hb : b = w.heap.size := by simpa [Ent.fp] using hb
      subst hb
      cases e : g.hp w.heap.size with
      | none => rfl
      | some p => have := h.hp _ _ e; simp at this
    · exact h.ap b hb
theorem St.write {b : Nat} {o o' : Obj} (h : St g (.obj b o :: L) w) (hw : w'.heap[b]? = some o') (hk : ∀ k, k ≠ b → w'.heap[k]? = w.heap[k]?)
    (hos : w'.os = w.os) (htape : w'.tape = w.tape) (hout : w'.output = w.output) : St g (.obj b o' :: L) w' := by
  have hb0 : g.hp b = none := h.ap b (by simp [Ent.fp])
  have hnot : b ∉ fps L := by
    have := h.nd
    rw [fps_cons] at this
    intro hm
    exact (List.nodup_append.1 this).2.2 b (by simp [Ent.fp]) b hm rfl
  refine ⟨hos.trans h.os, htape.trans h.tape, hout.trans h.out, fun c p hc => ?_, fun e he => ?_, h.nd, h.ap⟩
  · rw [hk c (fun e => by rw [e, hb0] at hc; cases hc)]; exact h.hp c p hc
  · rcases List.mem_cons.1 he with rfl | he
    · exact hw
    · exact (h.st e (List.mem_cons_of_mem _ he)).of_block fun c hc => hk c (fun e' => hnot (by rw [← e']; exact List.mem_flatMap.2 ⟨e, he, hc⟩))
end
def grp (M : List Ent) : Ent := .own ⟨fps M, fun w => ∀ e ∈ M, e.st w, fun w h b hb => by
  obtain ⟨e, he, hb⟩ := List.mem_flatMap.1 hb
  exact (h e he).lt b hb, fun w w' h hb e he => (h e he).of_block fun b hbe => hb b (List.mem_flatMap.2 ⟨e, he, hbe⟩)⟩
theorem fps_append (M L : List Ent) : fps (M ++ L) = fps M ++ fps L := by simp [fps]
theorem grp_fp (M : List Ent) : (grp M).fp = fps M := rfl
theorem St.ungrp {g : Gh} {L M : List Ent} {w : World} (h : St g (grp M :: L) w) : St g (M ++ L) w :=
  ⟨h.os, h.tape, h.out, h.hp, fun e he => (List.mem_append.1 he).elim (fun hm => h.st (grp M) (by simp) e hm) fun hl => h.st e (List.mem_cons_of_mem _ hl), by rw [fps_append]; exact h.nd, by rw [fps_append]; exact h.ap⟩
theorem St.grp {g : Gh} {L M : List Ent} {w : World} (h : St g (M ++ L) w) : St g (grp M :: L) w :=
  ⟨h.os, h.tape, h.out, h.hp, fun e he => (List.mem_cons.1 he).elim (fun e1 => by rw [e1]; exact fun x hx => h.st x (List.mem_append_left _ hx)) fun hl => h.st e (List.mem_append_right _ hl), by rw [fps_cons, grp_fp, ← fps_append]; exact h.nd, by rw [fps_cons, grp_fp, ← fps_append]; exact h.ap⟩
/-! ### The owned part, picked apart -/
inductive Pick (e : Ent) : List Ent → List Ent → Prop
  | here {L : List Ent} : Pick e (e :: L) L
  | there {x : Ent} {L L' : List Ent} (h : Pick e L L') : Pick e (x :: L) (x :: L')
theorem Pick.perm {e : Ent} {L L' : List Ent} (h : Pick e L L') : (e :: L').Perm L := by
  induction h with
  | here => exact .refl _
  | there _ ih => exact (List.Perm.swap _ _ _).trans (ih.cons _)
inductive Drop : List Nat → List Ent → List Ent → Prop
  | nil {L : List Ent} : Drop [] L L
  | cons {b : Nat} {o : Obj} {bs : List Nat} {L L1 L2 : List Ent} (p : Pick (.obj b o) L L1) (h : Drop bs L1 L2) : Drop (b :: bs) L L2
inductive Sel : List Ent → List Ent → Prop
  | refl {L : List Ent} : Sel L L
  | nil {L : List Ent} : Sel [] L
  | cons {e : Ent} {L L1 L' : List Ent} (p : Pick e L L1) (h : Sel L' L1) : Sel (e :: L') L
  | drop {e : Ent} {L L' : List Ent} (h : Sel L' L) : Sel L' (e :: L)
theorem Sel.perm {L' L : List Ent} (h : Sel L' L) : ∃ M, (L' ++ M).Perm L := by
  induction h with
  | refl => exact ⟨[], by rw [List.append_nil]⟩
  | nil => exact ⟨_, List.Perm.refl _⟩
  | cons p _ ih => obtain ⟨M, hM⟩ := ih; exact ⟨M, (hM.cons _).trans p.perm⟩
  | drop _ ih => obtain ⟨M, hM⟩ := ih; exact ⟨_ :: M, List.perm_middle.trans (hM.cons _)⟩
theorem St.sel {g : Gh} {L L' : List Ent} {w : World} (h : St g L w) (hs : Sel L' L) : St g L' w := by
  obtain ⟨M, hM⟩ := hs.perm
  exact (h.perm hM).forget (List.sublist_append_left _ _)
end Go.TL
namespace Go.TL
open Go Go.RowKit

/-! ### The walk's goals -/
section
variable (P : Program)
structure TL (ops : Array Oper) (Q : Exit → Act → World → Prop) (l : List Oper) (n : Nat) (ds : List Deferred) (S : Slots) (g : Gh) (L : List Ent) : Prop where
  h : ∀ a w, Fr n ds S a → St g L w → wpList P ops Q l a w
structure TC (Q : Exit → Act → World → Prop) (c : Code) (n : Nat) (ds : List Deferred) (S : Slots) (g : Gh) (L : List Ent) : Prop where
  h : ∀ a w, Fr n ds S a → St g L w → c.wp P Q a w
structure TQ (Q : Exit → Act → World → Prop) (e : Exit) (n : Nat) (ds : List Deferred) (S : Slots) (g : Gh) (L : List Ent) : Prop where
  h : ∀ a w, Fr n ds S a → St g L w → Q e a w
structure TW (ops : Array Oper) (Q : Exit → Act → World → Prop) (l : List Oper) (n : Nat) (ds : List Deferred) (S : Slots) (g : Gh) (L : List Ent) : Prop where
  h : ∀ a, Fr n ds S a → wpQuiet P ops (St g L) (fun a' => ∀ w', St g L w' → Q .normal a' w') l a
structure Yields (n : Nat) (ds : List Deferred) (S : Slots) (g : Gh) (L : List Ent) (o : Oper) (v : Value) : Prop where
  h : ∀ a w, Fr n ds S a → St g L w → (execOp a.eval o).run P w = .ok (.value v) w
structure Does (f : FuncId) (args : Array Value) (g : Gh) (L : List Ent) (R : Ending → Gh → List Ent → Prop) : Prop where
  h : ∀ w, St g L w → Calls P f args w fun e w' => ∃ g' L', g.le g' ∧ R e g' L' ∧ St g' L' w'
structure Gives (f : FuncId) (args : Array Value) (g : Gh) (L : List Ent) (v : Value) : Prop where
  h : ∀ w, St g L w → Calls P f args w fun e w' => e = .returned v ∧ St g L w'
end
variable {P : Program} {ops : Array Oper} {Q : Exit → Act → World → Prop} {l rest : List Oper} {n : Nat} {ds : List Deferred} {S : Slots} {g : Gh} {L : List Ent}
theorem Gives.does {f : FuncId} {args : Array Value} {v : Value} (h : Gives P f args g L v) : Does P f args g L fun e g' L' => e = .returned v ∧ g' = g ∧ L' = L :=
  ⟨fun w hw => (h.h w hw).mono fun _ _ ⟨he, hs⟩ => ⟨g, L, .refl g, ⟨he, rfl, rfl⟩, hs⟩⟩

/-! ### Code -/
def Then (P : Program) (y : Code) (Q : Exit → Act → World → Prop) : Exit → Act → World → Prop := Exit.then (y.wp P Q) Q
theorem TC.seq {x y : Code} (h : TC P (Then P y Q) x n ds S g L) : TC P Q (x.seq y) n ds S g L := .mk fun a w hf hs => wp_seq (h.h a w hf hs)
theorem TQ.then_normal {y : Code} (h : TC P Q y n ds S g L) : TQ (Then P y Q) .normal n ds S g L := ⟨h.h⟩
theorem TC.block {id : Nat} {c : Code} (h : TC P (Exit.inBlock id Q) c n ds S g L) : TC P Q (.block id c) n ds S g L := .mk fun a w hf hs => wp_block (h.h a w hf hs)
theorem TC.skip (h : TQ Q .normal n ds S g L) : TC P Q .skip n ds S g L := .mk fun a w hf hs => wp_skip (h.h a w hf hs)
theorem TC.ret (h : TQ Q .ret n ds S g L) : TC P Q .ret n ds S g L := .mk fun a w hf hs => wp_ret (h.h a w hf hs)
theorem TC.exit {id : Nat} (h : TQ Q (.exit id) n ds S g L) : TC P Q (.exit id) n ds S g L := .mk fun a w hf hs => wp_exit (h.h a w hf hs)
theorem TC.cond_bool {c : Operand} {x y : Code} {b : Bool} (hc : ev S c = some (.bool b)) (h : b = true → TC P Q x n ds S g L) (h' : b = false → TC P Q y n ds S g L) : TC P Q (.cond c x y) n ds S g L := .mk fun a w hf hs => by
  cases b with
  | false => exact wp_cond_false (hf.ev hc) ((h' rfl).h a w hf hs)
  | true => exact wp_cond_true (hf.ev hc) ((h rfl).h a w hf hs)
theorem TC.region {id : Nat} {l : List Oper} (h : TL P l.toArray Q l n ds S g L) : TC P Q (.region id l.toArray false) n ds S g L := .mk fun a w hf hs => wp_region_lit (h.h a w hf hs)
theorem TC.region_draw {id : Nat} {l : List Oper} (hm : P.follows .mixedOrders = true) (hB : Region.lexB .any l.toArray = true) (h : TW P l.toArray Q l n ds S g L) : TC P Q (.region id l.toArray true) n ds S g L := .mk fun a w hf hs =>
  wp_region_quiet (C := St g L) hm hB hs.drew (by simpa using h.h a hf)
theorem TL.perm {L' : List Ent} (h : TL P ops Q l n ds S g L') (hL : L'.Perm L) : TL P ops Q l n ds S g L := .mk fun a w hf hs => h.h a w hf (hs.perm hL)
def Round (n : Nat) (ds : List Deferred) {α : Type} (p : α → Prop) (m : α → Nat) (S : α → Slots) (G : α → Gh) (L : α → List Ent) (x : α) (Q : Exit → Act → World → Prop) : Exit → Act → World → Prop
  | .normal, a, w => ∃ x', p x' ∧ m x' < m x ∧ Fr n ds (S x') a ∧ St (G x') (L x') w
  | e, a, w => Q e a w
theorem TC.loop {α : Type} (p : α → Prop) (m : α → Nat) (S' : α → Slots) (G : α → Gh) (L' : α → List Ent) {c : Code} (x0 : α) (h0 : p x0) (hG : G x0 = g) (hS : Sub (S' x0) S) (hL : Sel (L' x0) L)
    (h : ∀ x, p x → TC P (Round n ds p m S' G L' x Q) c n ds (S' x) (G x) (L' x)) : TC P Q (.loop c) n ds S g L := by
  refine .mk fun a w hf hs => ?_
  have hs0 : St (G x0) (L' x0) w := by rw [hG]; exact hs.sel hL
  have hf0 := hf.sub hS
  clear hf hs
  have key : ∀ k x, m x = k → p x → ∀ a w, Fr n ds (S' x) a → St (G x) (L' x) w → ∀ (b : Frame) (ks : List Item) (cs : List Frame),
      ∃ e a' w', Q e a' w' ∧ Arrives P (lone (b.at a (.code c :: .inLoop c :: ks)) cs w) b ks cs e a' w' := by
    intro k
    induction k using Nat.strongRecOn with
    | _ k ih =>
      intro x hk hp a w hf hs b ks cs
      obtain ⟨e, a₁, w₁, hq, harr⟩ := (h x hp).h a w hf hs b (.inLoop c :: ks) cs
      cases e with
      | normal =>
        obtain ⟨x', hp', hlt, hf', hs'⟩ := hq
        obtain ⟨e₂, a₂, w₂, hq₂, harr₂⟩ := ih (m x') (hk ▸ hlt) x' rfl hp' a₁ w₁ hf' hs' b ks cs
        exact ⟨e₂, a₂, w₂, hq₂, .of_steps (Steps.trans harr (.one step_inLoop)) harr₂⟩
      | exit id => exact ⟨_, a₁, w₁, hq, .pass (x := .inLoop c) rfl (fun _ _ => .inl (by simp)) harr⟩
      | goto l => exact ⟨_, a₁, w₁, hq, .pass (x := .inLoop c) rfl (fun _ _ => .inl (by simp)) harr⟩
      | ret => exact ⟨_, a₁, w₁, hq, .pass (x := .inLoop c) rfl (fun _ _ => .inl (by simp)) harr⟩
      | panic ch => exact ⟨_, a₁, w₁, hq, .pass (x := .inLoop c) rfl (fun _ _ => .inl (by simp)) harr⟩
      | outgrown => exact ⟨_, a₁, w₁, hq, .pass (x := .inLoop c) rfl (fun _ _ => .inl (by simp)) harr⟩
  intro b ks cs
  obtain ⟨e, a', w', hq, harr⟩ := key _ x0 rfl h0 a w hf0 hs0 b ks cs
  exact ⟨e, a', w', hq, .of_steps (.one step_loop) harr⟩
theorem TC.loopK {α : Type} (p : α → Prop) (m : α → Nat) (T : α → Slots → Slots) {LF : List Ent} (bs : List Nat) (_hD : Drop bs L LF) (E : α → List Ent → List Ent) {c : Code} (x0 : α) (h0 : p x0) (hS : Sub (T x0 S) S) (hL : Sel (E x0 LF) L)
    (h : ∀ x, p x → TC P (Round n ds p m (fun z => T z S) (fun _ => g) (fun z => E z LF) x Q) c n ds (T x S) g (E x LF)) : TC P Q (.loop c) n ds S g L :=
  .loop p m (fun z => T z S) (fun _ => g) (fun z => E z LF) x0 h0 rfl hS hL h
section
variable {α : Type} {p : α → Prop} {m : α → Nat} {S' : α → Slots} {G : α → Gh} {L' : α → List Ent} {x : α}
theorem TQ.round (x' : α) (hp : p x') (hm : m x' < m x) (hG : G x' = g) (hS : Sub (S' x') S) (hL : Sel (L' x') L) : TQ (Round n ds p m S' G L' x Q) .normal n ds S g L := .mk fun a w hf hs =>
  ⟨x', hp, hm, hf.sub hS, by rw [hG]; exact hs.sel hL⟩
end

/-! ### The call -/
def argSlots : Nat → List Value → Slots
  | _, [] => []
  | i, v :: vs => (i, v) :: argSlots (i + 1) vs
theorem look_argSlots : ∀ (vs : List Value) (k i : Nat) (v : Value), look i (argSlots k vs) = some v → k ≤ i ∧ vs[i - k]? = some v
  | [], _, _, _, h => by cases h
  | u :: vs, k, i, v, h => by
    rw [argSlots, look] at h
    by_cases hb : Nat.beq i k = true
    · rw [hb] at h
      have e : u = v := Option.some.inj h
      have : i = k := Nat.eq_of_beq_eq_true hb
      subst e; subst this
      exact ⟨Nat.le_refl _, by simp⟩
    · rw [Bool.not_eq_true] at hb
      rw [hb] at h
      obtain ⟨h1, h2⟩ := look_argSlots vs (k + 1) i v h
      refine ⟨by omega, ?_⟩
      rw [show i - k = (i - (k + 1)) + 1 by omega]
      simpa using h2
def End (P : Program) (fn : Func) (R : Ending → Gh → List Ent → Prop) (g : Gh) : Exit → Act → World → Prop := bodyPost P fn fun e w' => ∃ g' L', g.le g' ∧ R e g' L' ∧ St g' L' w'
theorem Does.of {f : FuncId} {fn : Func} {c : Code} {vs : List Value} {R : Ending → Gh → List Ent → Prop} (hf : P.funcs[f]? = some fn) (hb : fn.body = some c) (hn : fn.ntmps = n) (hle : Nat.ble vs.length n = true)
    (h : TC P (End P fn R g) c n [] (argSlots 0 vs) g L) : Does P f vs.toArray g L R := .mk fun w hs => by
  refine calls_of_wp hf hb (h.h _ w ⟨?_, rfl, fun i v hv => ?_⟩ hs)
  · have := Nat.le_of_ble_eq_true hle
    simp [hn]; omega
  · obtain ⟨_, h2⟩ := look_argSlots vs 0 i v hv
    simp only [Nat.sub_zero] at h2
    obtain ⟨hlt, e⟩ := List.getElem?_eq_some_iff.1 h2
    simpa [Array.getD_eq_getD_getElem?, Array.getElem?_append, hlt] using e
theorem Gives.of {f : FuncId} {args : Array Value} {v : Value} (h : Does P f args g L fun e g' L' => e = .returned v ∧ g' = g ∧ L' = L) : Gives P f args g L v :=
  .mk fun w hs => (h.h w hs).mono fun _ _ ⟨_, _, _, ⟨he, hg, hL⟩, hs'⟩ => ⟨he, by subst hg; subst hL; exact hs'⟩

/-! ### Operations -/
theorem TL.nil (h : TQ Q .normal n ds S g L) : TL P ops Q [] n ds S g L := .mk fun a w hf hs => wpList_nil (h.h a w hf hs)
theorem TW.nil (h : TQ Q .normal n ds S g L) : TW P ops Q [] n ds S g L := .mk fun a hf => wpQuiet_nil fun w' hs => h.h a w' hf hs
section
variable {d : Nat} {op : Op} {ty : TypeId} {pos : String} {aft : Array Edge} {v : Value}
theorem TL.pure (hy : Yields P n ds S g L ⟨some d, op, ty, pos, aft, none⟩ v) (hd : Nat.blt d n = true) (k : TL P ops Q rest n ds ((d, v) :: S) g L) : TL P ops Q (⟨some d, op, ty, pos, aft, none⟩ :: rest) n ds S g L := .mk fun a w hf hs =>
  wpList_plain rfl fun K hK => by
    unfold Oper.wp
    rw [hy.h a w hf hs]
    exact hK _ _ (k.h _ w (hf.put hd v) hs)
theorem TW.pure (hy : Yields P n ds S g L ⟨some d, op, ty, pos, aft, none⟩ v) (hd : Nat.blt d n = true) (k : TW P ops Q rest n ds ((d, v) :: S) g L) : TW P ops Q (⟨some d, op, ty, pos, aft, none⟩ :: rest) n ds S g L := .mk fun a hf =>
  wpQuiet_step fun K hK => by
    simp only [Region.wanted, if_true]
    exact ⟨v, fun w hs => by unfold Oper.quietAt; rw [hy.h a w hf hs]; exact ⟨rfl, rfl⟩, hK _ (k.h _ (hf.put hd v))⟩
def gslot (ops : Array Oper) (j : Nat) : Option Nat := (ops[j]?).bind (·.dst)
theorem wanted_of {j t : Nat} {want b : Bool} {dst : Option Nat} {a : Act} (hj : gslot ops j = some t) (hb : look t S = some (.bool b)) (hf : Fr n ds S a) : Region.wanted ⟨dst, op, ty, pos, aft, some (j, want)⟩ (yielded ops a.tmps) = (b == want) := by
  have h1 := hf.sl t _ hb
  have h2 : yielded ops a.tmps j = some b := by
    have hd : (a.tmps[t]?).getD undef = .bool b := by rw [← Array.getD_eq_getD_getElem?]; exact h1
    have : a.tmps[t]? = some (.bool b) := by
      cases e : a.tmps[t]? with
      | none => rw [e] at hd; cases hd
      | some u => rw [e] at hd; exact congrArg some hd
    unfold gslot at hj
    unfold yielded
    cases ho : ops[j]? with
    | none => rw [ho] at hj; cases hj
    | some o =>
      rw [ho] at hj
      have hj : o.dst = some t := hj
      simp [hj, this]
  simp only [Region.wanted, h2]
  cases b <;> cases want <;> rfl
theorem TL.guard_yes {dst : Option Nat} {j t : Nat} {want : Bool} (hj : gslot ops j = some t) (hb : look t S = some (.bool want)) (k : TL P ops Q (⟨dst, op, ty, pos, aft, none⟩ :: rest) n ds S g L) : TL P ops Q (⟨dst, op, ty, pos, aft, some (j, want)⟩ :: rest) n ds S g L := .mk fun a w hf hs => by
  have h := k.h a w hf hs
  unfold wpList at h ⊢
  rw [wanted_of (op := op) (ty := ty) (pos := pos) (aft := aft) (want := want) (dst := dst) hj hb hf]
  rw [if_pos (by simp [Region.wanted])] at h
  rw [if_pos (by simp)]
  exact h
theorem TL.guard_no {d j t : Nat} {want b : Bool} (hj : gslot ops j = some t) (hb : look t S = some (.bool b)) (hne : (b == want) = false) (hd : Nat.blt d n = true) (k : TL P ops Q rest n ds ((d, undef) :: S) g L) : TL P ops Q (⟨some d, op, ty, pos, aft, some (j, want)⟩ :: rest) n ds S g L := .mk fun a w hf hs => by
  unfold wpList
  rw [wanted_of (op := op) (ty := ty) (pos := pos) (aft := aft) (want := want) (dst := some d) hj hb hf, if_neg (by simp [hne])]
  exact k.h _ w (hf.put hd undef) hs
theorem unwanted_of {j t : Nat} {want : Bool} {dst : Option Nat} {a : Act} (hj : gslot ops j = some t) (hb : look t S = some undef) (hf : Fr n ds S a) : Region.wanted ⟨dst, op, ty, pos, aft, some (j, want)⟩ (yielded ops a.tmps) = false := by
  have h1 := hf.sl t _ hb
  have h2 : yielded ops a.tmps j = none := by
    have hd : (a.tmps[t]?).getD undef = undef := by rw [← Array.getD_eq_getD_getElem?]; exact h1
    unfold gslot at hj
    unfold yielded
    cases ho : ops[j]? with
    | none => rw [ho] at hj; cases hj
    | some o =>
      rw [ho] at hj
      have hj : o.dst = some t := hj
      cases e : a.tmps[t]? with
      | none => simp [hj, e]
      | some u =>
        rw [e] at hd
        have hd : u = undef := hd
        simp [hj, e, hd, undef]
  simp only [Region.wanted, h2]; rfl
theorem TL.guard_undef {d j t : Nat} {want : Bool} (hj : gslot ops j = some t) (hb : look t S = some undef) (hd : Nat.blt d n = true) (k : TL P ops Q rest n ds ((d, undef) :: S) g L) : TL P ops Q (⟨some d, op, ty, pos, aft, some (j, want)⟩ :: rest) n ds S g L := .mk fun a w hf hs => by
  unfold wpList
  rw [unwanted_of (op := op) (ty := ty) (pos := pos) (aft := aft) (want := want) (dst := some d) hj hb hf, if_neg (by simp)]
  exact k.h _ w (hf.put hd undef) hs
theorem TL.guard_split {dst : Option Nat} {j t : Nat} {want b : Bool} (_hj : gslot ops j = some t) (hb : look t S = some (.bool b)) (_ht : Nat.blt t n = true)
    (k : b = true → TL P ops Q (⟨dst, op, ty, pos, aft, some (j, want)⟩ :: rest) n ds ((t, .bool true) :: S) g L) (k' : b = false → TL P ops Q (⟨dst, op, ty, pos, aft, some (j, want)⟩ :: rest) n ds ((t, .bool false) :: S) g L) : TL P ops Q (⟨dst, op, ty, pos, aft, some (j, want)⟩ :: rest) n ds S g L := .mk fun a w hf hs => by
  have hsub : ∀ c, b = c → Fr n ds ((t, .bool c) :: S) a := fun c hc => ⟨hf.size, hf.defers, fun i v hv => by
    rw [look] at hv
    by_cases hi : Nat.beq i t = true
    · rw [hi] at hv
      have e : Value.bool c = v := Option.some.inj hv
      have : i = t := Nat.eq_of_beq_eq_true hi
      subst e; subst this; subst hc
      exact hf.sl i _ hb
    · rw [Bool.not_eq_true] at hi
      rw [hi] at hv
      exact hf.sl i v hv⟩
  cases b with
  | true => exact (k rfl).h a w (hsub _ rfl) hs
  | false => exact (k' rfl).h a w (hsub _ rfl) hs
theorem TL.guard_dec {dst : Option Nat} {j t : Nat} {want : Bool} {p : Prop} [Decidable p] (hj : gslot ops j = some t) (hb : look t S = some (.bool (decide p))) (ht : Nat.blt t n = true)
    (k : p → TL P ops Q (⟨dst, op, ty, pos, aft, some (j, want)⟩ :: rest) n ds ((t, .bool true) :: S) g L) (k' : ¬ p → TL P ops Q (⟨dst, op, ty, pos, aft, some (j, want)⟩ :: rest) n ds ((t, .bool false) :: S) g L) : TL P ops Q (⟨dst, op, ty, pos, aft, some (j, want)⟩ :: rest) n ds S g L :=
  .guard_split hj hb ht (fun h => k (of_decide_eq_true h)) (fun h => k' (of_decide_eq_false h))
/-! The same in a drawn order. -/
theorem TW.guard_split {dst : Option Nat} {j t : Nat} {want b : Bool} (_hj : gslot ops j = some t) (hb : look t S = some (.bool b)) (_ht : Nat.blt t n = true)
    (k : b = true → TW P ops Q (⟨dst, op, ty, pos, aft, some (j, want)⟩ :: rest) n ds ((t, .bool true) :: S) g L) (k' : b = false → TW P ops Q (⟨dst, op, ty, pos, aft, some (j, want)⟩ :: rest) n ds ((t, .bool false) :: S) g L) : TW P ops Q (⟨dst, op, ty, pos, aft, some (j, want)⟩ :: rest) n ds S g L := .mk fun a hf => by
  have hsub : ∀ c, b = c → Fr n ds ((t, .bool c) :: S) a := fun c hc => ⟨hf.size, hf.defers, fun i v hv => by
    rw [look] at hv
    by_cases hi : Nat.beq i t = true
    · rw [hi] at hv
      have e : Value.bool c = v := Option.some.inj hv
      have : i = t := Nat.eq_of_beq_eq_true hi
      subst e; subst this; subst hc
      exact hf.sl i _ hb
    · rw [Bool.not_eq_true] at hi
      rw [hi] at hv
      exact hf.sl i v hv⟩
  cases b with
  | true => exact (k rfl).h a (hsub _ rfl)
  | false => exact (k' rfl).h a (hsub _ rfl)
/-! Calls. -/
def CallK (P : Program) (ops : Array Oper) (Q : Exit → Act → World → Prop) (d : Nat) (rest : List Oper) (n : Nat) (ds : List Deferred) (S : Slots) (g : Gh) (L : List Ent) : Ending → Prop
  | .returned v => TL P ops Q rest n ds ((d, v) :: S) g L
  | .panicked c => TQ Q (.panic c) n ds S g L
  | .outgrown => LetsOut Q
theorem CallK.ret (h : TL P ops Q rest n ds ((d, v) :: S) g L) : CallK P ops Q d rest n ds S g L (.returned v) := h
theorem CallK.panic {c : List PanicEntry} (h : TQ Q (.panic c) n ds S g L) : CallK P ops Q d rest n ds S g L (.panicked c) := h
structure Enters (P : Program) (n : Nat) (ds : List Deferred) (S : Slots) (g : Gh) (L : List Ent) (o : Oper) (f : FuncId) (args : Array Value) : Prop where
  h : ∀ a w, Fr n ds S a → St g L w → (execOp a.eval o).run P w = .ok (.enter f args) w
theorem TL.call {f : FuncId} {args : Array Value} {R : Ending → Gh → List Ent → Prop} (he : Enters P n ds S g L ⟨some d, op, ty, pos, aft, none⟩ f args) (hd : Nat.blt d n = true) (hD : Does P f args g L R)
    (k : ∀ e g' L', g.le g' → R e g' L' → CallK P ops Q d rest n ds S g' L' e) : TL P ops Q (⟨some d, op, ty, pos, aft, none⟩ :: rest) n ds S g L := .mk fun a w hf hs =>
  wpList_plain rfl fun K hK => by
    unfold Oper.wp
    rw [he.h a w hf hs]
    refine (hD.h w hs).mono ?_
    rintro e w' ⟨g', L', hle, hR, hs'⟩
    have := k e g' L' hle hR
    cases e with
    | returned v => exact hK _ _ (this.h _ w' (hf.put hd v) hs')
    | panicked c => exact this.h a w' hf hs'
    | outgrown => exact this
theorem TL.gives {f : FuncId} {args : Array Value} (he : Enters P n ds S g L ⟨some d, op, ty, pos, aft, none⟩ f args) (hD : Gives P f args g L v) (hd : Nat.blt d n = true)
    (k : TL P ops Q rest n ds ((d, v) :: S) g L) : TL P ops Q (⟨some d, op, ty, pos, aft, none⟩ :: rest) n ds S g L :=
  .call he hd hD.does fun e g' L' _ h => by obtain ⟨rfl, rfl, rfl⟩ := h; exact k
theorem TW.gives {f : FuncId} {args : Array Value} (he : Enters P n ds S g L ⟨some d, op, ty, pos, aft, none⟩ f args) (hD : Gives P f args g L v) (hd : Nat.blt d n = true)
    (k : TW P ops Q rest n ds ((d, v) :: S) g L) : TW P ops Q (⟨some d, op, ty, pos, aft, none⟩ :: rest) n ds S g L := .mk fun a hf =>
  wpQuiet_step fun K hK => by
    simp only [Region.wanted, if_true]
    exact ⟨v, fun w hs => by unfold Oper.quietAt; rw [he.h a w hf hs]; exact ⟨rfl, hD.h w hs⟩, hK _ (k.h _ (hf.put hd v))⟩
end
end Go.TL
namespace Go.TL
open Go Go.RowKit

/-! ### Facts on types (instances: one file a seat) -/
def fieldB (P : Program) (s i off : Nat) (T : TypeId) : Bool :=
  match P.underlying s with
  | some (.struct fs) => match fs[i]? with
    | some f => f.offset == off && f.type == T && (match P.info? f.type with | some j => j.size != 0 | none => false)
    | none => false
  | _ => false
class FO (P : Program) (s i : Nat) (off : outParam Nat) (T : outParam TypeId) : Prop where
  eq : fieldB P s i off T = true
class Und (P : Program) (t : TypeId) (d : outParam TypeDesc) : Prop where
  eq : P.underlying t = some d
class Inf (P : Program) (t : TypeId) (sz bytes : outParam Nat) (z : outParam Value) : Prop where
  eq : ∃ i, P.info? t = some i ∧ i.size = sz ∧ i.bytes = bytes ∧ i.zero = some z
def aggD : TypeDesc → Bool
  | .struct _ | .array _ _ => true
  | _ => false
class Sc (P : Program) (t : TypeId) : Prop where
  eq : ∃ d, P.underlying t = some d ∧ aggD d = false
class Ag (P : Program) (t : TypeId) : Prop where
  eq : ∃ d, P.underlying t = some d ∧ aggD d = true
class IsNat (i : Int) (j : outParam Nat) : Prop where
  eq : i = j
instance (j : Nat) : IsNat (↑j) j := ⟨rfl⟩
instance : IsNat 0 0 := ⟨rfl⟩
instance : IsNat 1 1 := ⟨rfl⟩
instance : IsNat 2 2 := ⟨rfl⟩
instance : IsNat 3 3 := ⟨rfl⟩
instance (a b : Int) (x y : Nat) [h : IsNat a x] [k : IsNat b y] : IsNat (a + b) (x + y) := ⟨by rw [h.eq, k.eq]; rfl⟩
theorem run_und {P : Program} {t : TypeId} {d : TypeDesc} (h : P.underlying t = some d) (w : World) : (underlying t).run P w = .ok d w := by
  simp [underlying, h]
theorem run_info {P : Program} {t : TypeId} {i : TypeInfo} (h : P.info? t = some i) (w : World) : (typeInfo t).run P w = .ok i w := by
  simp [typeInfo, h]
theorem run_size {P : Program} {t : TypeId} {i : TypeInfo} (h : P.info? t = some i) (w : World) : (sizeOf t).run P w = .ok i.size w := by
  simp [sizeOf, run_info h]
theorem run_isAgg {P : Program} {t : TypeId} {d : TypeDesc} (h : P.underlying t = some d) (w : World) : (isAgg t).run P w = .ok (aggD d) w := by
  simp only [isAgg, Sem.run_bind, run_und h, Result.andThen_ok]
  cases d <;> rfl
theorem run_zero {P : Program} {t : TypeId} {sz bytes : Nat} {z : Value} [h : Inf P t sz bytes z] (w : World) : (zeroValue t).run P w = .ok z w := by
  obtain ⟨i, h1, _, _, h4⟩ := h.eq
  simp [zeroValue, run_info h1, h4]

/-! ### What operations yield -/
def evs (S : Slots) : List Operand → Option (List Value)
  | [] => some []
  | x :: r => match ev S x, evs S r with | some v, some vs => some (v :: vs) | _, _ => none
theorem Fr.evs {n : Nat} {ds : List Deferred} {S : Slots} {a : Act} (h : Fr n ds S a) : ∀ {xs : List Operand} {vs : List Value}, evs S xs = some vs → xs.map a.eval = vs
  | [], vs, e => by rw [Go.TL.evs] at e; cases e; rfl
  | x :: r, vs, e => by
    rw [Go.TL.evs] at e
    cases h1 : Go.TL.ev S x with
    | none => rw [h1] at e; cases e
    | some v =>
      cases h2 : Go.TL.evs S r with
      | none => rw [h1, h2] at e; cases e
      | some us =>
        rw [h1, h2] at e
        cases e
        rw [List.map_cons, h.ev h1, h.evs h2]
section
variable {P : Program} {n : Nat} {ds : List Deferred} {S : Slots} {g : Gh} {L : List Ent} {dst : Option Nat} {ty : TypeId} {pos : String} {aft : Array Edge} {gd : Option (Nat × Bool)}
variable {x y c : Operand} {v u : Value} {t t' : TypeId} {k : IntKind} {p q z : Int}
theorem Y.move (hx : ev S x = some v) : Yields P n ds S g L ⟨dst, .move x, ty, pos, aft, gd⟩ v := .mk fun a w hf _ => by
  simp [execOp, hf.ev hx]
theorem Y.assign (hx : ev S x = some v) : Yields P n ds S g L ⟨dst, .assign x, ty, pos, aft, gd⟩ v := .mk fun a w hf _ => by
  simp [execOp, hf.ev hx]
theorem Y.pick_true (hc : ev S c = some (.bool true)) (hx : ev S x = some v) : Yields P n ds S g L ⟨dst, .pick c x y, ty, pos, aft, gd⟩ v := .mk fun a w hf _ => by
  simp [execOp, hf.ev hx, hf.ev hc, asBool]
theorem Y.pick_false (hc : ev S c = some (.bool false)) (hy : ev S y = some v) : Yields P n ds S g L ⟨dst, .pick c x y, ty, pos, aft, gd⟩ v := .mk fun a w hf _ => by
  simp [execOp, hf.ev hy, hf.ev hc, asBool]
theorem beq_dec (a b : Int) : (a == b) = decide (a = b) := by rw [Bool.eq_iff_iff]; simp
theorem eqGuard_int (o : BinOp) (P : Program) (w : World) : (eqGuard o t x y (.int k p) v).run P w = .ok () w := by
  unfold eqGuard; cases o <;> rfl
theorem eqGuard_str (o : BinOp) (s : ByteArray) (P : Program) (w : World) : (eqGuard o t x y (.string s) v).run P w = .ok () w := by
  unfold eqGuard; cases o <;> rfl
theorem eqGuard_bool (o : BinOp) (s : Bool) (P : Program) (w : World) : (eqGuard o t x y (.bool s) v).run P w = .ok () w := by
  unfold eqGuard; cases o <;> rfl
section
variable (hx : ev S x = some (.int k p)) (hy : ev S y = some (.int k q))
include hx hy
theorem Y.lss : Yields P n ds S g L ⟨dst, .binOp .lss t x y t', ty, pos, aft, gd⟩ (.bool (decide (p < q))) := .mk fun a w hf _ => by
  simp [execOp, hf.ev hx, hf.ev hy, eqGuard_int, binOp, Op.intCmp]
theorem Y.leq : Yields P n ds S g L ⟨dst, .binOp .leq t x y t', ty, pos, aft, gd⟩ (.bool (decide (p ≤ q))) := .mk fun a w hf _ => by
  simp [execOp, hf.ev hx, hf.ev hy, eqGuard_int, binOp, Op.intCmp]
theorem Y.gtr : Yields P n ds S g L ⟨dst, .binOp .gtr t x y t', ty, pos, aft, gd⟩ (.bool (decide (q < p))) := .mk fun a w hf _ => by
  simp [execOp, hf.ev hx, hf.ev hy, eqGuard_int, binOp, Op.intCmp]
theorem Y.geq : Yields P n ds S g L ⟨dst, .binOp .geq t x y t', ty, pos, aft, gd⟩ (.bool (decide (q ≤ p))) := .mk fun a w hf _ => by
  simp [execOp, hf.ev hx, hf.ev hy, eqGuard_int, binOp, Op.intCmp]
theorem Y.eql : Yields P n ds S g L ⟨dst, .binOp .eql t x y t', ty, pos, aft, gd⟩ (.bool (decide (p = q))) := .mk fun a w hf _ => by
  simp [execOp, hf.ev hx, hf.ev hy, eqGuard_int, binOp, Op.intCmp, beq_dec]
theorem Y.neq : Yields P n ds S g L ⟨dst, .binOp .neq t x y t', ty, pos, aft, gd⟩ (.bool (!decide (p = q))) := .mk fun a w hf _ => by
  simp [execOp, hf.ev hx, hf.ev hy, eqGuard_int, binOp, Op.intCmp, bne, beq_dec]
theorem Y.add (hz : k.wrap (p + q) = z) : Yields P n ds S g L ⟨dst, .binOp .add t x y t', ty, pos, aft, gd⟩ (.int k z) := .mk fun a w hf _ => by
  subst hz
  simp [execOp, hf.ev hx, hf.ev hy, eqGuard_int, binOp, Op.intArith]
theorem Y.sub (hz : k.wrap (p - q) = z) : Yields P n ds S g L ⟨dst, .binOp .sub t x y t', ty, pos, aft, gd⟩ (.int k z) := .mk fun a w hf _ => by
  subst hz
  simp [execOp, hf.ev hx, hf.ev hy, eqGuard_int, binOp, Op.intArith]
theorem Y.mul (hz : k.wrap (p * q) = z) : Yields P n ds S g L ⟨dst, .binOp .mul t x y t', ty, pos, aft, gd⟩ (.int k z) := .mk fun a w hf _ => by
  subst hz
  simp [execOp, hf.ev hx, hf.ev hy, eqGuard_int, binOp, Op.intArith]
theorem Y.rem (h0 : q ≠ 0) (hz : p.tmod q = z) : Yields P n ds S g L ⟨dst, .binOp .rem t x y t', ty, pos, aft, gd⟩ (.int k z) := .mk fun a w hf _ => by
  subst hz
  simp [execOp, hf.ev hx, hf.ev hy, eqGuard_int, binOp, Op.intDiv, h0]
end
theorem Y.not {b : Bool} (hx : ev S x = some (.bool b)) : Yields P n ds S g L ⟨dst, .unOp .not t x, ty, pos, aft, gd⟩ (.bool (!b)) := .mk fun a w hf _ => by
  simp [execOp, hf.ev hx, Op.unary]
theorem Y.conv_int {k' : IntKind} [ht : Und P t (.int k)] [hu : Und P t' (.int k')] (hx : ev S x = some (.int k' p)) (hz : k.wrap p = z) : Yields P n ds S g L ⟨dst, .convert t' t x, ty, pos, aft, gd⟩ (.int k z) := .mk fun a w hf _ => by
  subst hz
  simp [execOp, hf.ev hx, convert, run_und ht.eq, run_und hu.eq, Conv.intToInt]
theorem equal_bool [ht : Und P t .bool] (b b' : Bool) (w : World) : (Op.equal t (.bool b) (.bool b')).run P w = .ok (decide (b = b')) w := by
  have : (b == b') = decide (b = b') := by rw [Bool.eq_iff_iff]; simp
  unfold Op.equal Op.maxDepth
  rw [Op.equalIn]
  simp [run_und ht.eq, this]
theorem Y.eql_bool {b b' : Bool} (hx : ev S x = some (.bool b)) (hy : ev S y = some (.bool b')) [ht : Und P t .bool] : Yields P n ds S g L ⟨dst, .binOp .eql t x y t', ty, pos, aft, gd⟩ (.bool (decide (b = b'))) := .mk fun a w hf _ => by
  simp [execOp, hf.ev hx, hf.ev hy, eqGuard_bool, binOp, equal_bool]
theorem Y.extract {vs : Array Value} {i : Nat} (hx : ev S x = some (.tuple vs)) (hv : vs[i]? = some v) : Yields P n ds S g L ⟨dst, .extract x i, ty, pos, aft, gd⟩ v := .mk fun a w hf _ => by
  simp [execOp, hf.ev hx, Instr.extract, hv]
theorem Y.make_func {fn : Fn} {cs : List Operand} {vs : List Value} (hx : evs S cs = some vs) : Yields P n ds S g L ⟨dst, .makeFunc fn #[] cs.toArray, ty, pos, aft, gd⟩ (.func fn #[] vs.toArray) := .mk fun a w hf _ => by
  have := hf.evs hx
  simp [execOp, Instr.makeFunc, this]
/-! Texts: lists of bytes. -/
abbrev str (l : List UInt8) : Value := .string ⟨l.toArray⟩
variable {s r : List UInt8}
theorem size_mk (l : List UInt8) : (ByteArray.mk l.toArray).size = l.length := by show l.toArray.size = _; simp
theorem Y.len_str [ht : Und P t .string] (hx : ev S x = some (.string ⟨s.toArray⟩)) : Yields P n ds S g L ⟨dst, .call { callee := .builtin .len, args := #[x], argTypes := #[t] }, ty, pos, aft, gd⟩ (.int .i64 s.length) := .mk fun a w hf _ => by
  simp [execOp, resolve, invoke, BigFrame.builtin_len, Builtin.len_, hf.ev hx, run_und ht.eq, goInt, size_mk]
theorem Y.len_slice {e : TypeId} [ht : Und P t (.slice e)] {ao : Option Addr} {len cap : Nat} (hx : ev S x = some (.slice ao len cap)) : Yields P n ds S g L ⟨dst, .call { callee := .builtin .len, args := #[x], argTypes := #[t] }, ty, pos, aft, gd⟩ (.int .i64 len) := .mk fun a w hf _ => by
  simp [execOp, resolve, invoke, BigFrame.builtin_len, Builtin.len_, hf.ev hx, run_und ht.eq, goInt]
section
variable (hx : ev S x = some (.string ⟨s.toArray⟩)) (hy : ev S y = some (.string ⟨r.toArray⟩))
include hx hy
theorem Y.eql_str : Yields P n ds S g L ⟨dst, .binOp .eql t x y t', ty, pos, aft, gd⟩ (.bool (decide (s = r))) := .mk fun a w hf _ => by
  have : (s == r) = decide (s = r) := by rw [Bool.eq_iff_iff]; simp
  simp [execOp, hf.ev hx, hf.ev hy, eqGuard_str, binOp, Op.stringOp, this]
theorem Y.neq_str : Yields P n ds S g L ⟨dst, .binOp .neq t x y t', ty, pos, aft, gd⟩ (.bool (!decide (s = r))) := .mk fun a w hf _ => by
  have : (s == r) = decide (s = r) := by rw [Bool.eq_iff_iff]; simp
  simp [execOp, hf.ev hx, hf.ev hy, eqGuard_str, binOp, Op.stringOp, this]
theorem Y.lss_str : Yields P n ds S g L ⟨dst, .binOp .lss t x y t', ty, pos, aft, gd⟩ (.bool (Op.bytesLess s r)) := .mk fun a w hf _ => by
  simp [execOp, hf.ev hx, hf.ev hy, eqGuard_str, binOp, Op.stringOp]
theorem Y.add_str (hlen : s.length + r.length ≤ 9223372036854775807) : Yields P n ds S g L ⟨dst, .binOp .add t x y t', ty, pos, aft, gd⟩ (.string ⟨(s ++ r).toArray⟩) := .mk fun a w hf _ => by
  simp [execOp, hf.ev hx, hf.ev hy, eqGuard_str, binOp, run_string_add_sum _ (ByteArray.mk s.toArray) (ByteArray.mk r.toArray) (by rw [size_mk, size_mk]; exact hlen), ByteArray.mk_append_mk]
end
theorem get_bytes {s : List UInt8} {j : Nat} (hj : j < s.length) : (ByteArray.mk s.toArray)[j]? = some (s.getD j 0) := by
  rw [ByteArray.getElem?_lt' _ _ (by rw [size_mk]; exact hj)]
  simp only [List.getD_eq_getElem?_getD, List.getElem?_eq_getElem hj, Option.getD_some]
  rfl
theorem Y.index_str [ht : Und P t .string] {j : Nat} (hx : ev S x = some (.string ⟨s.toArray⟩)) (hy : ev S y = some (.int k p)) (hp : p = j) (hj : j < s.length) : Yields P n ds S g L ⟨dst, .index t x y, ty, pos, aft, gd⟩ (.int .u8 (s.getD j 0).toNat) := .mk fun a w hf _ => by
  subst hp
  simp [execOp, Instr.index, hf.ev hx, hf.ev hy, run_und ht.eq, asIntOf, get_bytes hj]
variable {lo hi : Operand} {i j : Nat} {k' : IntKind}
theorem Y.slice_str [ht : Und P t .string] (hx : ev S x = some (.string ⟨s.toArray⟩)) (hlo : ev S lo = some (.int k p)) (hhi : ev S hi = some (.int k' q)) (hp : p = i) (hq : q = j) (hij : i ≤ j) (hj : j ≤ s.length) : Yields P n ds S g L ⟨dst, .slice t x (some lo) (some hi) none, ty, pos, aft, gd⟩ (.string ⟨((s.drop i).take (j - i)).toArray⟩) := .mk fun a w hf _ => by
  subst hp; subst hq
  simp [execOp, Instr.sliceAt, Instr.slice, Instr.sliceBounds, Instr.sliceBound, hf.ev hx, hf.ev hlo, hf.ev hhi, run_und ht.eq, asIntOf, size_mk, hij, hj, ByteArray.extract_mk]
theorem Y.slice_str_from [ht : Und P t .string] (hx : ev S x = some (.string ⟨s.toArray⟩)) (hlo : ev S lo = some (.int k p)) (hp : p = i) (hj : i ≤ s.length) : Yields P n ds S g L ⟨dst, .slice t x (some lo) none none, ty, pos, aft, gd⟩ (.string ⟨(s.drop i).toArray⟩) := .mk fun a w hf _ => by
  subst hp
  have h2 : (s.drop i).take (s.length - i) = s.drop i := List.take_of_length_le (by simp)
  simp [execOp, Instr.sliceAt, Instr.slice, Instr.sliceBounds, Instr.sliceBound, hf.ev hx, hf.ev hlo, run_und ht.eq, asIntOf, size_mk, hj, ByteArray.extract_mk, h2]
theorem Y.slice_str_to [ht : Und P t .string] (hx : ev S x = some (.string ⟨s.toArray⟩)) (hhi : ev S hi = some (.int k p)) (hp : p = i) (hj : i ≤ s.length) : Yields P n ds S g L ⟨dst, .slice t x none (some hi) none, ty, pos, aft, gd⟩ (.string ⟨(s.take i).toArray⟩) := .mk fun a w hf _ => by
  subst hp
  simp [execOp, Instr.sliceAt, Instr.slice, Instr.sliceBounds, Instr.sliceBound, hf.ev hx, hf.ev hhi, run_und ht.eq, asIntOf, size_mk, hj, ByteArray.extract_mk]
end
end Go.TL
namespace Go.TL
open Go Go.RowKit

class SetA (l : List Value) (i : Nat) (v : Value) (l' : outParam (List Value)) : Prop where
  eq : i < l.length ∧ l.set i v = l'
instance (x v : Value) (l : List Value) : SetA (x :: l) 0 v (v :: l) := ⟨by simp⟩
instance (x v : Value) (l l' : List Value) (i : Nat) [h : SetA l i v l'] : SetA (x :: l) (i + 1) v (x :: l') := ⟨by have := h.eq; simp [this.1, this.2]⟩

section
variable {P : Program} {ops : Array Oper} {Q : Exit → Act → World → Prop} {rest : List Oper} {n : Nat} {ds : List Deferred} {S : Slots} {g : Gh} {L L' : List Ent}
variable {dst : Option Nat} {d : Nat} {op : Op} {ty : TypeId} {pos : String} {aft : Array Edge} {gd : Option (Nat × Bool)}
variable {x y c : Operand} {v u : Value} {t t' T e : TypeId} {k : IntKind} {p q z : Int}
variable {b off o i len cap sz bytes : Nat} {cs : List Value} {E : TypeId} {fz : Nat × Nat} {w : World} {z' : Value}

def _root_.Go.Value.one : Value → Bool
  | .agg _ | .tuple _ => false
  | _ => true
/-! ### Addresses -/
theorem add_eq (a : Nat) (b off : Nat) : (⟨b, off, none⟩ : Addr).add a = ⟨b, off + a, none⟩ := by
  unfold Addr.add; split <;> simp_all
theorem field_run [h : FO P t i off T] (b o : Nat) (w : World) : (Instr.fieldAt t (.pointer (some ⟨b, o, none⟩)) i).run P w = .ok (.pointer (some ⟨b, o + off, none⟩)) w := by
  have h := h.eq
  unfold fieldB at h
  split at h
  · rename_i fs hfs
    split at h
    · rename_i f hf
      simp only [Bool.and_eq_true, beq_iff_eq] at h
      obtain ⟨⟨h1, h2⟩, h3⟩ := h
      split at h3
      · rename_i j hj
        have h3 : j.size ≠ 0 := by simpa using h3
        simp [Instr.fieldAt, run_und hfs, hf, Instr.sureAddr, fieldPlace, run_size hj, h3, h1, add_eq]
      · cases h3
    · cases h
  · cases h
theorem Y.field [FO P t i off T] (hx : ev S x = some (.pointer (some ⟨b, o, none⟩))) : Yields P n ds S g L ⟨dst, .fieldAddr t x i, ty, pos, aft, gd⟩ (.pointer (some ⟨b, o + off, none⟩)) := .mk fun a w hf _ => by
  simp [execOp, hf.ev hx, field_run]
theorem Y.field0 [FO P t i off T] (hx : ev S x = some (.pointer (some ⟨b, 0, none⟩))) : Yields P n ds S g L ⟨dst, .fieldAddr t x i, ty, pos, aft, gd⟩ (.pointer (some ⟨b, off, none⟩)) := .mk fun a w hf _ => by
  simp [execOp, hf.ev hx, field_run]
theorem Y.index_addr [ht : Und P t (.slice e)] [he : Inf P e sz bytes z'] (hx : ev S x = some (.slice (some ⟨b, off, none⟩) len cap)) (hy : ev S y = some (.int k p)) (hp : p = i) (hi : i < len) : Yields P n ds S g L ⟨dst, .indexAddr t x y, ty, pos, aft, gd⟩ (.pointer (some ⟨b, off + i * sz, none⟩)) := .mk fun a w hf _ => by
  subst hp
  obtain ⟨j, hj, hs, _⟩ := he.eq
  simp [execOp, hf.ev hx, hf.ev hy, Instr.indexAt, asIntOf, run_und ht.eq, run_size hj, hs, hi, add_eq]
theorem Y.nil_check {ad : Addr} (hx : ev S x = some (.pointer (some ad))) : Yields P n ds S g L ⟨dst, .nilCheck x, ty, pos, aft, gd⟩ (.pointer (some ad)) := .mk fun a w hf _ => by
  simp [execOp, hf.ev hx]

/-! ### Loads -/
theorem load_sc [h : Sc P t] {ad : Addr} (hc : w.cell? ad = some v) : (Instr.loadAt t (.pointer (some ad))).run P w = .ok v w := by
  obtain ⟨d, hd, ha⟩ := h.eq
  simp [Instr.loadAt, Instr.sureAddr, loadVar, run_isAgg hd, ha, load, Sem.run, hc]
theorem loadCells_run : ∀ (m : Nat) (b off i : Nat) (acc us : List Value), us.length = m → (∀ j u, us[j]? = some u → w.cell? ⟨b, off + (i + j), none⟩ = some u) → (loadCellsFrom ⟨b, off, none⟩ i m acc.toArray).run P w = .ok (acc ++ us).toArray w
  | 0, b, off, i, acc, us, hl, _ => by
    have : us = [] := List.eq_nil_of_length_eq_zero hl
    subst this
    simp [loadCellsFrom]
  | m + 1, b, off, i, acc, us, hl, h => by
    cases us with
    | nil => cases hl
    | cons u us =>
      have h0 := h 0 u (by simp)
      have ih := loadCells_run m b off (i + 1) (acc ++ [u]) us (by simpa using hl) (fun j v hv => by
        have := h (j + 1) v (by simpa using hv)
        rw [show i + 1 + j = i + (j + 1) by omega]
        exact this)
      simp only [Nat.add_zero] at h0
      simp only [loadCellsFrom, Sem.run_bind, load, add_eq, Sem.run, h0, Result.andThen_ok, List.push_toArray]
      rw [ih, List.append_assoc]; rfl
theorem load_ag [h : Ag P t] [hi : Inf P t sz bytes z'] {us : List Value} (hl : us.length = sz) (hc : ∀ j u, us[j]? = some u → w.cell? ⟨b, off + j, none⟩ = some u) : (Instr.loadAt t (.pointer (some ⟨b, off, none⟩))).run P w = .ok (.agg us.toArray) w := by
  obtain ⟨d, hd, ha⟩ := h.eq
  obtain ⟨j, hj, hs, _⟩ := hi.eq
  have := loadCells_run (P := P) (w := w) sz b off 0 [] us hl (fun j u hu => by rw [Nat.zero_add]; exact hc j u hu)
  simp [Instr.loadAt, Instr.sureAddr, loadVar, run_isAgg hd, ha, run_size hj, hs, loadCells, this]
theorem obj_cell (h : w.heap[b]? = some (.cells cs.toArray E fz)) (j : Nat) : w.cell? ⟨b, j, none⟩ = cs[j]? := by
  unfold World.cell?; simp [h]
theorem obj_frozen (h : w.heap[b]? = some (.cells cs.toArray E (0, 0))) (j : Nat) : w.frozen? ⟨b, j, none⟩ = false := by
  unfold World.frozen?; simp [h]
theorem Y.load [Sc P t] (hx : ev S x = some (.pointer (some ⟨b, off, none⟩))) (hm : Pick (.obj b (.cells cs.toArray E fz)) L L') (hc : cs[off]? = some v) : Yields P n ds S g L ⟨dst, .load t x, ty, pos, aft, gd⟩ v := .mk fun a w hf hs => by
  have h := (hs.perm hm.perm).st _ (List.mem_cons_self)
  simp [execOp, hf.ev hx, load_sc (P := P) (t := t) ((obj_cell h off).trans hc)]
theorem Y.load_whole [Ag P t] [Inf P t sz bytes z'] (hx : ev S x = some (.pointer (some ⟨b, 0, none⟩))) (hm : Pick (.obj b (.cells cs.toArray E fz)) L L') (hl : cs.length = sz) : Yields P n ds S g L ⟨dst, .load t x, ty, pos, aft, gd⟩ (.agg cs.toArray) := .mk fun a w hf hs => by
  have h := (hs.perm hm.perm).st _ (List.mem_cons_self)
  simp [execOp, hf.ev hx, load_ag (P := P) (t := t) (off := 0) hl (fun j u hu => by rw [Nat.zero_add]; exact (obj_cell h j).trans hu)]
theorem Y.load_part [Ag P t] [Inf P t sz bytes z'] (hx : ev S x = some (.pointer (some ⟨b, off, none⟩))) (hm : Pick (.obj b (.cells cs.toArray E fz)) L L') (_hl : off + sz ≤ cs.length) : Yields P n ds S g L ⟨dst, .load t x, ty, pos, aft, gd⟩ (.agg ((cs.drop off).take sz).toArray) := .mk fun a w hf hs => by
  have h := (hs.perm hm.perm).st _ (List.mem_cons_self)
  simp [execOp, hf.ev hx, load_ag (P := P) (t := t) (off := off) (us := (cs.drop off).take sz) (by simp; omega) (fun j u hu => by
    rw [obj_cell h]
    rw [List.getElem?_take] at hu
    split at hu
    · rw [List.getElem?_drop] at hu; exact hu
    · cases hu)]
def Gh.cell (g : Gh) (b off : Nat) : Option Value := match g.hp b with
  | some (.cells cs _ _) => cs[off]?
  | _ => none
theorem St.cell (h : St g L w) (hc : g.cell b off = some v) : w.cell? ⟨b, off, none⟩ = some v := by
  unfold Gh.cell at hc
  split at hc
  · rename_i cs E f e
    unfold World.cell?; simp [h.hp _ _ e, hc]
  · cases hc
theorem Y.load_gh [Sc P t] (hx : ev S x = some (.pointer (some ⟨b, off, none⟩))) (hc : g.cell b off = some v) : Yields P n ds S g L ⟨dst, .load t x, ty, pos, aft, gd⟩ v := .mk fun a w hf hs => by
  simp [execOp, hf.ev hx, load_sc (P := P) (t := t) (hs.cell hc)]
theorem Y.load_ghs [Ag P t] [Inf P t sz bytes z'] {us : List Value} (hx : ev S x = some (.pointer (some ⟨b, off, none⟩))) (hl : us.length = sz) (hc : ∀ j u, us[j]? = some u → g.cell b (off + j) = some u) : Yields P n ds S g L ⟨dst, .load t x, ty, pos, aft, gd⟩ (.agg us.toArray) := .mk fun a w hf hs => by
  simp [execOp, hf.ev hx, load_ag (P := P) (t := t) hl (fun j u hu => hs.cell (hc j u hu))]

/-! ### New blocks -/
theorem TL.alloc [hi : Inf P t sz bytes v] {vs : List Value} (hv : v.cells = vs.toArray) (hd : Nat.blt d n = true) (k : ∀ b, TL P ops Q rest n ds ((d, .pointer (some ⟨b, 0, none⟩)) :: S) g (.obj b (.cells vs.toArray t (0, 0)) :: L)) : TL P ops Q (⟨some d, .alloc t, ty, pos, aft, none⟩ :: rest) n ds S g L := .mk fun a w hf hs =>
  wpList_plain rfl fun K hK => by
    have h : (execOp a.eval ⟨some d, .alloc t, ty, pos, aft, none⟩).run P w = .ok (.value (.pointer (some ⟨w.heap.size, 0, none⟩))) { w with heap := w.heap.push (.cells vs.toArray t (0, 0)) } := by
      simp [execOp, Instr.alloc, run_zero (P := P) (t := t), newVar, newRow, newObj, Sem.run, hv]
    unfold Oper.wp
    rw [h]
    exact hK _ _ ((k _).h _ _ (hf.put hd _) (hs.alloc _))
theorem TL.box {vs : List Value} (hx : ev S x = some v) (hv : v.cells = vs.toArray) (hd : Nat.blt d n = true) (k : ∀ b, TL P ops Q rest n ds ((d, .pointer (some ⟨b, 0, none⟩)) :: S) g (.obj b (.cells vs.toArray t (0, 0)) :: L)) : TL P ops Q (⟨some d, .box t x, ty, pos, aft, none⟩ :: rest) n ds S g L := .mk fun a w hf hs =>
  wpList_plain rfl fun K hK => by
    have h : (execOp a.eval ⟨some d, .box t x, ty, pos, aft, none⟩).run P w = .ok (.value (.pointer (some ⟨w.heap.size, 0, none⟩))) { w with heap := w.heap.push (.cells vs.toArray t (0, 0)) } := by
      simp [execOp, Instr.box, hf.ev hx, newVar, newRow, newObj, Sem.run, hv]
    unfold Oper.wp
    rw [h]
    exact hK _ _ ((k _).h _ _ (hf.put hd _) (hs.alloc _))

theorem TL.alloc_ag {vs : List Value} [hi : Inf P t sz bytes (.agg vs.toArray)] (hd : Nat.blt d n = true) (k : ∀ b, TL P ops Q rest n ds ((d, .pointer (some ⟨b, 0, none⟩)) :: S) g (.obj b (.cells vs.toArray t (0, 0)) :: L)) : TL P ops Q (⟨some d, .alloc t, ty, pos, aft, none⟩ :: rest) n ds S g L := .alloc (v := .agg vs.toArray) rfl hd k
theorem cells_one {v : Value} (h : v.one = true) : v.cells = [v].toArray := by cases v <;> first | rfl | (simp [Value.one] at h)
theorem TL.alloc_sc [hi : Inf P t sz bytes v] (h1 : v.one = true) (hd : Nat.blt d n = true) (k : ∀ b, TL P ops Q rest n ds ((d, .pointer (some ⟨b, 0, none⟩)) :: S) g (.obj b (.cells [v].toArray t (0, 0)) :: L)) : TL P ops Q (⟨some d, .alloc t, ty, pos, aft, none⟩ :: rest) n ds S g L := .alloc (cells_one h1) hd k
theorem TL.box_ag {vs : List Value} (hx : ev S x = some (.agg vs.toArray)) (hd : Nat.blt d n = true) (k : ∀ b, TL P ops Q rest n ds ((d, .pointer (some ⟨b, 0, none⟩)) :: S) g (.obj b (.cells vs.toArray t (0, 0)) :: L)) : TL P ops Q (⟨some d, .box t x, ty, pos, aft, none⟩ :: rest) n ds S g L := .box hx rfl hd k
theorem TL.box_sc (hx : ev S x = some v) (h1 : v.one = true) (hd : Nat.blt d n = true) (k : ∀ b, TL P ops Q rest n ds ((d, .pointer (some ⟨b, 0, none⟩)) :: S) g (.obj b (.cells [v].toArray t (0, 0)) :: L)) : TL P ops Q (⟨some d, .box t x, ty, pos, aft, none⟩ :: rest) n ds S g L := .box hx (cells_one h1) hd k

/-! ### Stores -/
theorem St.set (h : St g (.obj b (.cells cs.toArray E (0, 0)) :: L) w) (v : Value) (off : Nat) : St g (.obj b (.cells (cs.set off v).toArray E (0, 0)) :: L) (w.setCell ⟨b, off, none⟩ v) := by
  have h0 : w.heap[b]? = some (.cells cs.toArray E (0, 0)) := h.st _ (List.mem_cons_self)
  refine h.write ?_ (fun k hk => ?_) rfl rfl rfl
  · simp [World.setCell, Array.getElem?_modify, h0]
  · simp only [World.setCell, Array.getElem?_modify]
    rw [if_neg (fun e => hk e.symm)]
theorem store_sc {v : Value} (h1 : v.one = true) {ad : Addr} (hc : (w.cell? ad).isSome) (hz : w.frozen? ad = false) [hi : Inf P t 1 bytes z'] : (Instr.storeAt t (.pointer (some ad)) v).run P w = .ok () (w.setCell ad v) := by
  obtain ⟨j, hj, hs, _⟩ := hi.eq
  obtain ⟨u, hu⟩ := Option.isSome_iff_exists.1 hc
  have hcs : v.cells = #[v] := by cases v <;> first | rfl | (simp [Go.Value.one] at h1)
  have h0 : ad.add 0 = ad := rfl
  have hst : (Sem.store Mode.plain ad v (.pure ())).run P w = .ok () (w.setCell ad v) := by
    cases v <;> first | (simp [Go.Value.one] at h1; done) | simp [Sem.run, hu, hz]
  simp [Instr.storeAt, Instr.sureAddr, storeVar, run_size hj, hs, hcs, storeCells, store, h0, hst]
theorem TL.store [Inf P t 1 bytes z'] {cs' : List Value} (hx : ev S x = some (.pointer (some ⟨b, off, none⟩))) (hy : ev S y = some v) (h1 : v.one = true) (hm : Pick (.obj b (.cells cs.toArray E (0, 0))) L L') [hset : SetA cs off v cs'] (k : TL P ops Q rest n ds S g (.obj b (.cells cs'.toArray E (0, 0)) :: L')) : TL P ops Q (⟨none, .store t x y, ty, pos, aft, none⟩ :: rest) n ds S g L := .mk fun a w hf hs =>
  wpList_plain rfl fun K hK => by
    have hs1 := hs.perm hm.perm
    have h := hs1.st _ (List.mem_cons_self)
    have := store_sc (P := P) (t := t) (w := w) h1 (ad := ⟨b, off, none⟩) (by rw [obj_cell h, List.getElem?_eq_getElem hset.eq.1]; rfl) (obj_frozen h off)
    have hrun : (execOp a.eval ⟨none, .store t x y, ty, pos, aft, none⟩).run P w = .ok .skip (w.setCell ⟨b, off, none⟩ v) := by
      simp [execOp, hf.ev hx, hf.ev hy, this]
    unfold Oper.wp
    rw [hrun]
    refine hK _ _ (k.h _ _ hf ?_)
    rw [← hset.eq.2]
    exact hs1.set v off
theorem storeCells_whole : ∀ (us pre cs : List Value) (w : World), St g (.obj b (.cells (pre ++ cs).toArray E (0, 0)) :: L) w → cs.length = us.length → (∀ u ∈ us, u.one = true) → ∃ w', (storeCells ⟨b, 0, none⟩ us pre.length).run P w = .ok () w' ∧ St g (.obj b (.cells (pre ++ us).toArray E (0, 0)) :: L) w'
  | [], pre, cs, w, h, hl, _ => by
    have : cs = [] := List.eq_nil_of_length_eq_zero hl
    subst this
    exact ⟨w, by simp [storeCells], h⟩
  | u :: us, pre, cs, w, h, hl, h1 => by
    cases cs with
    | nil => cases hl
    | cons c cs =>
      have h0 := h.st _ (List.mem_cons_self)
      have hc : w.cell? ⟨b, pre.length, none⟩ = some c := by rw [obj_cell h0]; simp
      have hz := obj_frozen h0 pre.length
      have hu := h1 u (by simp)
      have hst : (Sem.store Mode.plain ⟨b, pre.length, none⟩ u (.pure ())).run P w = .ok () (w.setCell ⟨b, pre.length, none⟩ u) := by
        cases u <;> first | (simp [Go.Value.one] at hu; done) | simp [Sem.run, hc, hz]
      have h2 := h.set u pre.length
      rw [show (pre ++ c :: cs).set pre.length u = (pre ++ [u]) ++ cs by simp] at h2
      obtain ⟨w', hr, hs'⟩ := storeCells_whole us (pre ++ [u]) cs _ h2 (by simpa using hl) (fun v hv => h1 v (by simp [hv]))
      refine ⟨w', ?_, by simpa using hs'⟩
      rw [List.length_append] at hr
      simp only [storeCells, Sem.run_bind, store, add_eq, Nat.zero_add, hst, Result.andThen_ok]
      exact hr
theorem TL.store_whole {us : List Value} [hi : Inf P t sz bytes z'] (hx : ev S x = some (.pointer (some ⟨b, 0, none⟩))) (hy : ev S y = some (.agg us.toArray)) (h1 : us.all Go.Value.one = true) (hl : us.length = sz) (hm : Pick (.obj b (.cells cs.toArray E (0, 0))) L L') (_hl' : cs.length = sz) (k : TL P ops Q rest n ds S g (.obj b (.cells us.toArray E (0, 0)) :: L')) : TL P ops Q (⟨none, .store t x y, ty, pos, aft, none⟩ :: rest) n ds S g L := .mk fun a w hf hs =>
  wpList_plain rfl fun K hK => by
    obtain ⟨j, hj, hs0, _⟩ := hi.eq
    obtain ⟨w', hr, hs'⟩ := storeCells_whole (P := P) (g := g) (b := b) (E := E) (L := L') us [] cs w (hs.perm hm.perm) (by omega) (fun u hu => List.all_eq_true.1 h1 u hu)
    have hrun : (execOp a.eval ⟨none, .store t x y, ty, pos, aft, none⟩).run P w = .ok .skip w' := by
      have hr2 : (storeCells ⟨b, 0, none⟩ us).run P w = .ok () w' := by simpa using hr
      simp [execOp, hf.ev hx, hf.ev hy, Instr.storeAt, Instr.sureAddr, storeVar, run_size hj, hs0, Value.cells, hl, hr2]
    unfold Oper.wp
    rw [hrun]
    exact hK _ _ (k.h _ _ hf hs')

/-! ### Calls -/
def callable (P : Program) (f : Nat) : Bool := match P.funcs[f]? with
  | some fn => fn.name != "runtime.NumGoroutine" && fn.body.isSome
  | none => false
theorem callFunc_run {f : FuncId} {args : Array Value} (h : callable P f = true) : (callFunc f args).run P w = .ok (.enter f args) w := by
  unfold callable at h
  split at h
  · rename_i fn hfn
    simp only [Bool.and_eq_true, bne_iff_ne, ne_eq] at h
    obtain ⟨b, hb⟩ := Option.isSome_iff_exists.1 h.2
    simp [callFunc, hfn, h.1, hb]
  · cases h
theorem Enters.func {f : FuncId} {xs : List Operand} {vs : List Value} {ats : Array TypeId} {caps : List Value} (hf : ev S x = some (.func (.func f) #[] caps.toArray)) (hc : callable P f = true) (hx : evs S xs = some vs) : Enters P n ds S g L ⟨dst, .call { callee := .value x, args := xs.toArray, argTypes := ats }, ty, pos, aft, gd⟩ f (vs ++ caps).toArray := .mk fun a w hfr _ => by
  have h1 := hfr.evs hx
  have h2 := hfr.ev hf
  simp [execOp, resolve, h2, Deferred.ofValue, invoke, callFunc_run hc, h1]
theorem Enters.plain {f : FuncId} {xs : List Operand} {vs : List Value} {ats : Array TypeId} (hc : callable P f = true) (hx : evs S xs = some vs) : Enters P n ds S g L ⟨dst, .call { callee := .value (.func f), args := xs.toArray, argTypes := ats }, ty, pos, aft, gd⟩ f vs.toArray := .mk fun a w hfr _ => by
  have h1 := hfr.evs hx
  have h2 : a.eval (.func f) = .func (.func f) #[] #[] := rfl
  simp [execOp, resolve, h2, Deferred.ofValue, invoke, callFunc_run hc, h1]
theorem Does.of0 {f : FuncId} {fn : Func} {c : Code} {R : Ending → Gh → List Ent → Prop} (hf : P.funcs[f]? = some fn) (hb : fn.body = some c) (hn : fn.ntmps = n) (hle : Nat.ble 0 n = true)
    (h : TC P (End P fn R g) c n [] [] g L) : Does P f #[] g L R := Does.of (vs := []) hf hb hn hle h
theorem Does.of1 {f : FuncId} {fn : Func} {c : Code} {v0 : Value} {R : Ending → Gh → List Ent → Prop} (hf : P.funcs[f]? = some fn) (hb : fn.body = some c) (hn : fn.ntmps = n) (hle : Nat.ble 1 n = true)
    (h : TC P (End P fn R g) c n [] [(0, v0)] g L) : Does P f #[v0] g L R := Does.of (vs := [v0]) hf hb hn hle h
theorem Does.of2 {f : FuncId} {fn : Func} {c : Code} {v0 v1 : Value} {R : Ending → Gh → List Ent → Prop} (hf : P.funcs[f]? = some fn) (hb : fn.body = some c) (hn : fn.ntmps = n) (hle : Nat.ble 2 n = true)
    (h : TC P (End P fn R g) c n [] [(0, v0), (1, v1)] g L) : Does P f #[v0, v1] g L R := Does.of (vs := [v0, v1]) hf hb hn hle h
theorem Does.of3 {f : FuncId} {fn : Func} {c : Code} {v0 v1 v2 : Value} {R : Ending → Gh → List Ent → Prop} (hf : P.funcs[f]? = some fn) (hb : fn.body = some c) (hn : fn.ntmps = n) (hle : Nat.ble 3 n = true)
    (h : TC P (End P fn R g) c n [] [(0, v0), (1, v1), (2, v2)] g L) : Does P f #[v0, v1, v2] g L R := Does.of (vs := [v0, v1, v2]) hf hb hn hle h
theorem Does.of4 {f : FuncId} {fn : Func} {c : Code} {v0 v1 v2 v3 : Value} {R : Ending → Gh → List Ent → Prop} (hf : P.funcs[f]? = some fn) (hb : fn.body = some c) (hn : fn.ntmps = n) (hle : Nat.ble 4 n = true)
    (h : TC P (End P fn R g) c n [] [(0, v0), (1, v1), (2, v2), (3, v3)] g L) : Does P f #[v0, v1, v2, v3] g L R := Does.of (vs := [v0, v1, v2, v3]) hf hb hn hle h
theorem isNat {i : Int} {j : Nat} [h : IsNat i j] : i = j := h.eq
theorem Pk.cons {e : Ent} {L2 L1 : List Ent} (h : Pick e L L1) (k : L2.Perm L1) : (e :: L2).Perm L := (k.cons e).trans h.perm
theorem Does.perm {f : FuncId} {args : Array Value} {R : Ending → Gh → List Ent → Prop} (h : Does P f args g L' R) (hL : L'.Perm L) : Does P f args g L R := .mk fun w hs => h.h w (hs.perm hL)
end
end Go.TL
namespace Go.TL
open Go Go.RowKit

section
variable {P : Program} {ops : Array Oper} {Q : Exit → Act → World → Prop} {rest : List Oper} {n : Nat} {ds : List Deferred} {S : Slots} {g g0 : Gh} {L L' : List Ent}
variable {dst : Option Nat} {d : Nat} {op : Op} {ty : TypeId} {pos : String} {aft : Array Edge} {gd : Option (Nat × Bool)}
variable {x y c : Operand} {v u v1 v2 v3 : Value} {t t' T e : TypeId} {k : IntKind} {p q z : Int}
variable {b off o i j len cap sz bytes : Nat} {cs : List Value} {E : TypeId} {fz : Nat × Nat} {w : World} {z' : Value} {s : List UInt8}

/-! ### What is handed back -/
def rvS (tmps : Array Value) : ResultVar → Sem Value
  | .tmp t => pure (tmps.getD t undef)
  | .cell a t => do loadVar t (← asAddr (tmps.getD a undef))
structure RVal (P : Program) (n : Nat) (ds : List Deferred) (S : Slots) (g : Gh) (L : List Ent) (r : ResultVar) (v : Value) : Prop where
  h : ∀ a w, Fr n ds S a → St g L w → (rvS a.tmps r).run P w = .ok v w
theorem RVal.tmp (hv : look t S = some v) : RVal P n ds S g L (.tmp t) v := .mk fun a w hf _ => by
  simp only [rvS, Sem.run_pure, hf.sl t v hv]
theorem RVal.cell [Sc P T] (hv : look t S = some (.pointer (some ⟨b, off, none⟩))) (hm : Pick (.obj b (.cells cs.toArray E fz)) L L') (hc : cs[off]? = some v) : RVal P n ds S g L (.cell t T) v := .mk fun a w hf hs => by
  have h := (hs.perm hm.perm).st _ (List.mem_cons_self)
  have h1 := load_sc (P := P) (t := T) ((obj_cell h off).trans hc)
  simp only [Instr.loadAt, Instr.sureAddr, Sem.run_bind, Sem.run_pure, Result.andThen_ok] at h1
  simp only [rvS, hf.sl t _ hv, asAddr, Sem.run_bind, Sem.run_pure, Result.andThen_ok, h1]
theorem RVal.cells [Ag P T] [Inf P T sz bytes z'] (hv : look t S = some (.pointer (some ⟨b, 0, none⟩))) (hm : Pick (.obj b (.cells cs.toArray E fz)) L L') (hl : cs.length = sz) : RVal P n ds S g L (.cell t T) (.agg cs.toArray) := .mk fun a w hf hs => by
  have h := (hs.perm hm.perm).st _ (List.mem_cons_self)
  have h1 := load_ag (P := P) (t := T) (off := 0) hl (fun j u hu => by rw [Nat.zero_add]; exact (obj_cell h j).trans hu)
  simp only [Instr.loadAt, Instr.sureAddr, Sem.run_bind, Sem.run_pure, Result.andThen_ok] at h1
  simp only [rvS, hf.sl t _ hv, asAddr, Sem.run_bind, Sem.run_pure, Result.andThen_ok, h1]
theorem results_eq (fn : Func) (tmps : Array Value) : results fn tmps = (do let vs ← fn.results.mapM (rvS tmps); pure (if h : vs.size = 1 then vs[0] else .tuple vs)) := by
  unfold results
  congr 1
section
variable {fn : Func} {R : Ending → Gh → List Ent → Prop} {r1 r2 r3 : ResultVar}
theorem TQ.ends (hd : ds = []) (hg : g0.le g) (hv : ∀ a w, Fr n ds S a → St g L w → (results fn a.tmps).run P w = .ok v w) (h : R (.returned v) g L') (hL : Sel L' L) : TQ (End P fn R g0) .ret n ds S g L := .mk fun a w hf hs =>
  bodyPost_ret (v := v) (hv a w hf hs) (hf.defers.trans hd) ⟨g, L', hg, h, hs.sel hL⟩
theorem TQ.endR1 (hr : fn.results = #[r1]) (h1 : RVal P n ds S g L r1 v1) (hd : ds = []) (hg : g0.le g) (h : R (.returned v1) g L') (hL : Sel L' L) : TQ (End P fn R g0) .ret n ds S g L :=
  .ends hd hg (fun a w hf hs => by rw [results_eq, hr]; simp [h1.h a w hf hs]) h hL
theorem TQ.endR2 (hr : fn.results = #[r1, r2]) (h1 : RVal P n ds S g L r1 v1) (h2 : RVal P n ds S g L r2 v2) (hd : ds = []) (hg : g0.le g) (h : R (.returned (.tuple #[v1, v2])) g L') (hL : Sel L' L) : TQ (End P fn R g0) .ret n ds S g L :=
  .ends hd hg (fun a w hf hs => by rw [results_eq, hr]; simp [h1.h a w hf hs, h2.h a w hf hs]) h hL
theorem TQ.end_normal (h : TQ (End P fn R g0) .ret n ds S g L) : TQ (End P fn R g0) .normal n ds S g L := .mk fun a w hf hs => h.h a w hf hs
end

/-! ### A byte of a text, named -/
theorem byte_of {s : List UInt8} {j : Nat} (hj : j < s.length) : s[j]? = some (s.getD j 0) := by
  simp [List.getD_eq_getElem?_getD, List.getElem?_eq_getElem hj]
theorem byte_lt (c : UInt8) : c.toNat < 256 := UInt8.toNat_lt c
theorem TL.byteK [ht : Und P t .string] {c : UInt8} (hx : ev S x = some (.string ⟨s.toArray⟩)) (hy : ev S y = some (.int k p)) (hp : p = j) (hc : s[j]? = some c) (hd : Nat.blt d n = true)
    (kk : c.toNat < 256 → TL P ops Q rest n ds ((d, .int .u8 c.toNat) :: S) g L) : TL P ops Q (⟨some d, .index t x y, ty, pos, aft, none⟩ :: rest) n ds S g L := by
  have hj := (List.getElem?_eq_some_iff.1 hc).1
  obtain rfl : c = s.getD j 0 := Option.some.inj (hc.symm.trans (byte_of hj))
  exact .pure (Y.index_str hx hy hp hj) hd (kk (byte_lt _))
/-! ### A range over a text -/
theorem TL.range_str [ht : Und P t .string] (hx : ev S x = some (.string ⟨s.toArray⟩)) (hd : Nat.blt d n = true) (kk : ∀ b, TL P ops Q rest n ds ((d, .pointer (some ⟨b, 0, none⟩)) :: S) g (.obj b (.stringIter ⟨s.toArray⟩ 0) :: L)) : TL P ops Q (⟨some d, .range t x, ty, pos, aft, none⟩ :: rest) n ds S g L := .mk fun a w hf hs =>
  wpList_plain rfl fun K hK => by
    have h : (execOp a.eval ⟨some d, .range t x, ty, pos, aft, none⟩).run P w = .ok (.value (.pointer (some ⟨w.heap.size, 0, none⟩))) { w with heap := w.heap.push (.stringIter ⟨s.toArray⟩ 0) } := by
      simp [execOp, Instr.range, hf.ev hx, run_und ht.eq, newObj, Sem.run]
    unfold Oper.wp
    rw [h]
    exact hK _ _ ((kk _).h _ _ (hf.put hd _) (hs.alloc _))
theorem TL.next_str (hx : ev S x = some (.pointer (some ⟨b, 0, none⟩))) (hm : Pick (.obj b (.stringIter ⟨s.toArray⟩ j)) L L') (hd : Nat.blt d n = true)
    (kk : j < s.length → TL P ops Q rest n ds ((d, .tuple #[.bool true, .int .i64 j, .int .i32 (Utf8.decode ⟨s.toArray⟩ j).1]) :: S) g (.obj b (.stringIter ⟨s.toArray⟩ (j + (Utf8.decode ⟨s.toArray⟩ j).2)) :: L'))
    (kk' : s.length ≤ j → TL P ops Q rest n ds ((d, .tuple #[.bool false]) :: S) g (.obj b (.stringIter ⟨s.toArray⟩ j) :: L')) : TL P ops Q (⟨some d, .next x true, ty, pos, aft, none⟩ :: rest) n ds S g L := .mk fun a w hf hs =>
  wpList_plain rfl fun K hK => by
    have hs1 := hs.perm hm.perm
    have h := hs1.st _ (List.mem_cons_self)
    have h : w.heap[b]? = some (.stringIter ⟨s.toArray⟩ j) := h
    have hb : b < w.heap.size := (Array.getElem?_eq_some_iff.1 h).1
    unfold Oper.wp
    by_cases hj : j < s.length
    · have hrun : (execOp a.eval ⟨some d, .next x true, ty, pos, aft, none⟩).run P w = .ok (.value (.tuple #[.bool true, .int .i64 j, .int .i32 (Utf8.decode ⟨s.toArray⟩ j).1])) { w with heap := w.heap.setIfInBounds b (.stringIter ⟨s.toArray⟩ (j + (Utf8.decode ⟨s.toArray⟩ j).2)) } := by
        simp [execOp, Instr.next, hf.ev hx, getObj, setObj, Sem.run, h, size_mk, hj, goInt]
      rw [hrun]
      exact hK _ _ ((kk hj).h _ _ (hf.put hd _) (hs1.write (by simp [hb]) (fun k hk => by simp [Array.getElem?_setIfInBounds_ne (Ne.symm hk)]) rfl rfl rfl))
    · have hrun : (execOp a.eval ⟨some d, .next x true, ty, pos, aft, none⟩).run P w = .ok (.value (.tuple #[.bool false])) w := by
        simp [execOp, Instr.next, hf.ev hx, getObj, Sem.run, h, size_mk, hj]
      rw [hrun]
      exact hK _ _ ((kk' (by omega)).h _ _ (hf.put hd _) hs1)

/-! ### A contract that turns what is owned -/
structure Turns (P : Program) (f : FuncId) (args : Array Value) (g : Gh) (L : List Ent) (v : Value) (L' : List Ent) : Prop where
  h : ∀ w, St g L w → Calls P f args w fun e w' => e = .returned v ∧ St g L' w'
theorem Turns.of {f : FuncId} {args : Array Value} (h : Does P f args g L fun e g' L1 => e = .returned v ∧ g' = g ∧ L1 = L') : Turns P f args g L v L' :=
  .mk fun w hs => (h.h w hs).mono fun _ _ ⟨_, _, _, ⟨he, hg, hL⟩, hs'⟩ => ⟨he, by subst hg; subst hL; exact hs'⟩
theorem TL.turns {f : FuncId} {args : Array Value} {L1 L2 : List Ent} (he : Enters P n ds S g L ⟨some d, op, ty, pos, aft, none⟩ f args) (hT : Turns P f args g L1 v L2) (hL : L1.Perm L) (hd : Nat.blt d n = true)
    (kk : TL P ops Q rest n ds ((d, v) :: S) g L2) : TL P ops Q (⟨some d, op, ty, pos, aft, none⟩ :: rest) n ds S g L := .mk fun a w hf hs =>
  wpList_plain rfl fun K hK => by
    unfold Oper.wp
    rw [he.h a w hf hs]
    refine (hT.h w (hs.perm hL)).mono ?_
    rintro e w' ⟨rfl, hs'⟩
    exact hK _ _ (kk.h _ w' (hf.put hd v) hs')

/-! ### Contracts over growing worlds, and back -/
theorem St.ext {w' : World} (h : St g L w) (e : Below w.heap.size w w') : St g L w' :=
  ⟨e.os.trans h.os, e.tape.trans h.tape, e.output.trans h.out, fun b o hb => by
    have h0 := h.hp b o hb
    rw [e.block b (Array.getElem?_eq_some_iff.1 h0).1]; exact h0,
   fun x hx => (h.st x hx).of_block fun b hb => e.block b ((h.st x hx).lt b hb), h.nd, h.ap⟩
theorem Gives.same {f : FuncId} {args : Array Value} (h : ∀ w, Calls P f args w fun e w' => e = .returned v ∧ w' = w) : Gives P f args g L v :=
  .mk fun w hs => (h w).mono fun _ _ ⟨he, hw⟩ => ⟨he, hw ▸ hs⟩
end
end Go.TL
namespace Go.TL
open Go Go.RowKit
structure Hn (p : Prop) : Prop where
  out : p
section
variable {P : Program} {ops : Array Oper} {Q : Exit → Act → World → Prop} {rest : List Oper} {n : Nat} {ds : List Deferred} {S : Slots} {g : Gh} {L : List Ent}
variable {op : Op} {ty : TypeId} {pos : String} {aft : Array Edge} {c : Operand} {x y : Code} {p : Prop} [Decidable p] {α : Type} {a b : α} [Decidable (a = b)]
theorem Fr.shadow {t : Nat} {v : Value} {a : Act} (hf : Fr n ds S a) (hb : look t S = some v) {u : Value} (e : v = u) : Fr n ds ((t, u) :: S) a := ⟨hf.size, hf.defers, fun i w hv => by
  rw [look] at hv
  by_cases hi : Nat.beq i t = true
  · rw [hi] at hv
    have e2 : u = w := Option.some.inj hv
    have : i = t := Nat.eq_of_beq_eq_true hi
    subst e2; subst this; subst e
    exact hf.sl i _ hb
  · rw [Bool.not_eq_true] at hi
    rw [hi] at hv
    exact hf.sl i w hv⟩
theorem TQ.slot {e : Exit} {t : Nat} {v u : Value} (hb : look t S = some v) (h : v = u) (k : TQ Q e n ds ((t, u) :: S) g L) : TQ Q e n ds S g L := .mk fun _ w hf hs => k.h _ w (hf.shadow hb h) hs
theorem TC.slot {c : Code} {t : Nat} {v u : Value} (hb : look t S = some v) (h : v = u) (k : TC P Q c n ds ((t, u) :: S) g L) : TC P Q c n ds S g L := .mk fun _ w hf hs => k.h _ w (hf.shadow hb h) hs
variable {dst : Option Nat} {j t : Nat} {want : Bool}
section
variable {L' : List Ent} {b off : Nat} {cs cs' : List Value} {E : TypeId} {v z' : Value} {xo yo : Operand} {t : TypeId} {bytes : Nat} {d : Nat} {f : FuncId} {xs : List Operand} {vs : List Value} {ats : Array TypeId}
theorem TL.storeE [Inf P t 1 bytes z'] (hx : ev S xo = some (.pointer (some ⟨b, off, none⟩))) (hy : ev S yo = some v) (h1 : v.one = true) (hm : Pick (.obj b (.cells cs.toArray E (0, 0))) L L') (hset : SetA cs off v cs') (k : TL P ops Q rest n ds S g (.obj b (.cells cs'.toArray E (0, 0)) :: L')) : TL P ops Q (⟨none, .store t xo yo, ty, pos, aft, none⟩ :: rest) n ds S g L :=
  have := hset
  .store hx hy h1 hm k
theorem TL.gives_plain (hc : callable P f = true) (hx : evs S xs = some vs) (hD : Gives P f vs.toArray g L v) (hd : Nat.blt d n = true) (k : TL P ops Q rest n ds ((d, v) :: S) g L) : TL P ops Q (⟨some d, .call { callee := .value (.func f), args := xs.toArray, argTypes := ats }, ty, pos, aft, none⟩ :: rest) n ds S g L :=
  .gives (.plain hc hx) hD hd k
theorem TW.gives_plain (hc : callable P f = true) (hx : evs S xs = some vs) (hD : Gives P f vs.toArray g L v) (hd : Nat.blt d n = true) (k : TW P ops Q rest n ds ((d, v) :: S) g L) : TW P ops Q (⟨some d, .call { callee := .value (.func f), args := xs.toArray, argTypes := ats }, ty, pos, aft, none⟩ :: rest) n ds S g L :=
  .gives (.plain hc hx) hD hd k
end
variable {m : Nat} [Decidable ((m : Int) = 0)]
end

/-! Tactics behind a name: each closes its goal by a default. -/
theorem yA {P : Program} {n : Nat} {ds : List Deferred} {S : Slots} {g : Gh} {L : List Ent} {o : Oper} {v : Value} (h : Yields P n ds S g L o v := by first | ((with_reducible apply Y.move); (· rfl)) | ((with_reducible apply Y.assign); (· rfl)) | ((with_reducible apply Y.load); (· rfl); (· first | ((repeat (first | with_reducible apply Pick.here | with_reducible apply Pick.there)); done) | ((repeat (first | apply Pick.here | apply Pick.there)); done)); (· rfl)) | ((with_reducible apply Y.load_whole); (· rfl); (· first | ((repeat (first | with_reducible apply Pick.here | with_reducible apply Pick.there)); done) | ((repeat (first | apply Pick.here | apply Pick.there)); done)); (· rfl)) | ((with_reducible apply Y.field0); (· rfl)) | ((with_reducible apply Y.field); (· rfl)) | ((with_reducible apply Y.extract); (· rfl); (· rfl)) | ((with_reducible apply Y.len_str); (· rfl)) | ((with_reducible apply Y.len_slice); (· rfl)) | ((with_reducible apply Y.lss); (· rfl); (· rfl)) | ((with_reducible apply Y.eql); (· rfl); (· rfl)) | ((with_reducible apply Y.neq); (· rfl); (· rfl)) | ((with_reducible apply Y.leq); (· rfl); (· rfl)) | ((with_reducible apply Y.gtr); (· rfl); (· rfl)) | ((with_reducible apply Y.geq); (· rfl); (· rfl)) | ((with_reducible apply Y.add); (· rfl); (· rfl); (· first | exact IntWalk.i64_in _ (by omega) | exact IntWalk.i32_in _ (by omega) | exact IntWalk.u8_in _ (by omega) | exact IntWalk.u64_in _ (by omega) | exact IntWalk.u32_in _ (by omega) | rfl)) | ((with_reducible apply Y.sub); (· rfl); (· rfl); (· first | exact IntWalk.i64_in _ (by omega) | exact IntWalk.i32_in _ (by omega) | exact IntWalk.u8_in _ (by omega) | exact IntWalk.u64_in _ (by omega) | exact IntWalk.u32_in _ (by omega) | rfl)) | ((with_reducible apply Y.mul); (· rfl); (· rfl); (· first | exact IntWalk.i64_in _ (by omega) | exact IntWalk.i32_in _ (by omega) | exact IntWalk.u8_in _ (by omega) | exact IntWalk.u64_in _ (by omega) | exact IntWalk.u32_in _ (by omega) | rfl)) | ((with_reducible apply Y.quo); (· rfl); (· rfl); (· omega); (· first | exact IntWalk.i64_quo _ _ (by omega) | exact IntWalk.u64_quo _ _ (by omega) | exact IntWalk.i32_quo _ _ (by omega) | exact IntWalk.u8_quo _ _ (by omega) | rfl)) | ((with_reducible apply Y.rem); (· rfl); (· rfl); (· omega); (· first | exact IntWalk.rem_in _ _ (by omega) | rfl)) | ((with_reducible apply Y.pick_true); (· rfl); (· rfl)) | ((with_reducible apply Y.pick_false); (· rfl); (· rfl)) | ((with_reducible apply Y.not_dec); (· rfl)) | ((with_reducible apply Y.not); (· rfl)) | ((with_reducible apply Y.eql_str); (· rfl); (· rfl)) | ((with_reducible apply Y.neq_str); (· rfl); (· rfl)) | ((with_reducible apply Y.lss_str); (· rfl); (· rfl)) | ((with_reducible apply Y.gtr_str); (· rfl); (· rfl)) | ((with_reducible apply Y.add_str); (· rfl); (· rfl); (· first | omega | (simp only [List.length_cons, List.length_nil, List.length_take, List.length_drop, List.length_append, List.length_replicate, List.length_singleton] at *; omega))) | ((with_reducible apply Y.slice_add); (· rfl); (· rfl); (· rfl); (· first | exact isNat | exact (Int.toNat_of_nonneg (by omega)).symm); (· exact isNat); (· first | omega | (simp only [List.length_cons, List.length_nil, List.length_take, List.length_drop, List.length_append, List.length_replicate, List.length_singleton] at *; omega))) | ((with_reducible apply Y.slice_str); (· rfl); (· rfl); (· rfl); (· first | exact isNat | exact (Int.toNat_of_nonneg (by omega)).symm); (· first | exact isNat | exact (Int.toNat_of_nonneg (by omega)).symm); (· first | omega | (simp only [List.length_cons, List.length_nil, List.length_take, List.length_drop, List.length_append, List.length_replicate, List.length_singleton] at *; omega)); (· first | omega | (simp only [List.length_cons, List.length_nil, List.length_take, List.length_drop, List.length_append, List.length_replicate, List.length_singleton] at *; omega))) | ((with_reducible apply Y.slice_str_from); (· rfl); (· rfl); (· first | exact isNat | exact (Int.toNat_of_nonneg (by omega)).symm); (· first | omega | (simp only [List.length_cons, List.length_nil, List.length_take, List.length_drop, List.length_append, List.length_replicate, List.length_singleton] at *; omega))) | ((with_reducible apply Y.slice_str_to); (· rfl); (· rfl); (· first | exact isNat | exact (Int.toNat_of_nonneg (by omega)).symm); (· first | omega | (simp only [List.length_cons, List.length_nil, List.length_take, List.length_drop, List.length_append, List.length_replicate, List.length_singleton] at *; omega))) | ((with_reducible apply Y.index_addr); (· rfl); (· rfl); (· first | exact isNat | exact (Int.toNat_of_nonneg (by omega)).symm); (· omega)) | ((with_reducible apply Y.conv_int); (· rfl); (· first | exact IntWalk.i64_in _ (by omega) | exact IntWalk.i32_in _ (by omega) | exact IntWalk.u8_in _ (by omega) | exact IntWalk.u64_in _ (by omega) | exact IntWalk.u32_in _ (by omega) | rfl)) | ((with_reducible apply Y.neg); (· rfl); (· first | exact IntWalk.i64_in _ (by omega) | exact IntWalk.i32_in _ (by omega) | exact IntWalk.u8_in _ (by omega) | exact IntWalk.u64_in _ (by omega) | exact IntWalk.u32_in _ (by omega) | rfl)) | ((with_reducible apply Y.eql_bool); (· rfl); (· rfl)) | ((with_reducible apply Y.neq_bool); (· rfl); (· rfl)) | ((with_reducible apply Y.make_func); (· rfl)) | ((with_reducible apply Y.nil_check); (· rfl)) | fail) : Yields P n ds S g L o v := h
theorem natA {p : Int} {j : Nat} (h : p = j := by first | exact isNat | exact (Int.toNat_of_nonneg (by omega)).symm) : p = j := h
theorem kpA {p : Prop} (h : p := by first | assumption | exact Hn.out (by assumption) | omega) : p := h
theorem pkA {e : Ent} {L L' : List Ent} (h : Pick e L L' := by first | ((repeat (first | with_reducible apply Pick.here | with_reducible apply Pick.there)); done) | ((repeat (first | apply Pick.here | apply Pick.there)); done) | fail) : Pick e L L' := h
end Go.TL
namespace Go.TL
open Go Go.RowKit

section
variable {P : Program} {ops : Array Oper} {Q : Exit → Act → World → Prop} {rest : List Oper} {n : Nat} {ds : List Deferred} {S : Slots} {g : Gh} {L L' : List Ent}
variable {dst : Option Nat} {d : Nat} {op : Op} {ty : TypeId} {pos : String} {aft : Array Edge} {gd : Option (Nat × Bool)}
variable {x y : Operand} {v : Value} {t t' e : TypeId} {k k' : IntKind} {p q z : Int} {a b j : Nat}
theorem Y.shl (hx : ev S x = some (.int k p)) (hy : ev S y = some (.int k' q)) (hq : q = j) (hj : j ≤ k.bits) (hz : k.wrap (p * 2 ^ j) = z) : Yields P n ds S g L ⟨dst, .binOp .shl t x y t', ty, pos, aft, gd⟩ (.int k z) := .mk fun a w hf _ => by
  subst hz; subst hq
  have h0 : ¬ (j : Int) < 0 := by omega
  simp [execOp, hf.ev hx, hf.ev hy, eqGuard, binOp, Op.shift, h0, Nat.min_eq_left hj]
theorem Y.shr (hx : ev S x = some (.int k p)) (hy : ev S y = some (.int k' q)) (hq : q = j) (hj : j ≤ k.bits) (hz : p.fdiv (2 ^ j) = z) : Yields P n ds S g L ⟨dst, .binOp .shr t x y t', ty, pos, aft, gd⟩ (.int k z) := .mk fun a w hf _ => by
  subst hz; subst hq
  have h0 : ¬ (j : Int) < 0 := by omega
  simp [execOp, hf.ev hx, hf.ev hy, eqGuard, binOp, Op.shift, h0, Nat.min_eq_left hj]
section
variable (hx : ev S x = some (.int k p)) (hy : ev S y = some (.int k q)) (hp : p = a) (hq : q = b) (ha : a < 2 ^ k.bits) (hb : b < 2 ^ k.bits)
include hx hy hp hq ha hb
end
/-! ### Arrays -/
variable {len off bk i sz bytes : Nat} {z' : Value} {cs : List Value} {E : TypeId} {fz : Nat × Nat}
theorem Y.index_arr [ht : Und P t (.array len e)] [he : Inf P e sz bytes z'] (hx : ev S x = some (.pointer (some ⟨bk, off, none⟩))) (hy : ev S y = some (.int k p)) (hp : p = i) (hi : i < len) : Yields P n ds S g L ⟨dst, .indexAddr t x y, ty, pos, aft, gd⟩ (.pointer (some ⟨bk, off + i * sz, none⟩)) := .mk fun a w hf _ => by
  subst hp
  obtain ⟨j, hj, hs, _⟩ := he.eq
  simp [execOp, hf.ev hx, hf.ev hy, Instr.indexAt, Instr.sureAddr, asIntOf, run_und ht.eq, run_size hj, hs, hi, add_eq]
theorem Y.index_arr1 [ht : Und P t (.array len e)] [he : Inf P e 1 bytes z'] (hx : ev S x = some (.pointer (some ⟨bk, 0, none⟩))) (hy : ev S y = some (.int k p)) (hp : p = i) (hi : i < len) : Yields P n ds S g L ⟨dst, .indexAddr t x y, ty, pos, aft, gd⟩ (.pointer (some ⟨bk, i, none⟩)) := by
  have := Y.index_arr (P := P) (n := n) (ds := ds) (g := g) (L := L) (dst := dst) (ty := ty) (pos := pos) (aft := aft) (gd := gd) (t := t) (e := e) hx hy hp hi
  simpa using this
/-! ### A drawn region whose last operations wait for all others -/
def Tail (P : Program) (ops : Array Oper) (Q : Exit → Act → World → Prop) (rest : List Oper) : Exit → Act → World → Prop
  | .normal, a, w => wpList P ops Q rest a w
  | e, a, w => Q e a w
theorem TQ.tail (h : TL P ops Q rest n ds S g L) : TQ (Tail P ops Q rest) .normal n ds S g L := ⟨h.h⟩
end
section
variable {P : Program} {ops : Array Oper} {md : Region.Mode} {C : World → Prop}
def wpHeadQ (P : Program) (md : Region.Mode) (ops : Array Oper) (C : World → Prop) (n : Nat) (K : Array Bool → Act → Prop) : Nat → Array Bool → Act → Prop
  | 0, listed, a => K listed a
  | f + 1, listed, a => Region.ready md ops listed ≠ [] ∧ ∀ i ∈ Region.ready md ops listed, i < n ∧ qOp P ops C i (wpHeadQ P md ops C n K f (listed.setIfInBounds i true)) a
theorem wpAny_of_headQ {n m : Nat} {K : Array Bool → Act → Prop} {Q' : Exit → Act → World → Prop} (hK : ∀ listed a w, C w → K listed a → wpAny P md ops Q' m listed a w) :
    ∀ (f : Nat) (listed : Array Bool) (a : Act) (w : World), C w → wpHeadQ P md ops C n K f listed a → wpAny P md ops Q' (f + m) listed a w
  | 0, listed, a, w, hw, h => by rw [Nat.zero_add]; exact hK _ _ _ hw h
  | f + 1, listed, a, w, hw, h => by
    rw [show f + 1 + m = (f + m) + 1 by omega]
    exact ⟨fun h0 => absurd h0 h.1, fun i hi => wpOp_of_qOp hw (fun a' w' hw' h' => wpAny_of_headQ hK f _ a' w' hw' h') (h.2 i hi).2⟩
theorem wpHeadQ_first {n i : Nat} {oi : Oper} {v : Value} {K : Array Bool → Act → Prop} (hi : ops[i]? = some oi) (hsel : ∀ (j : Nat) (o : Oper) cs b, ops[j]? = some o → o.op ≠ .select cs b)
    (hs : Region.sinkB md ops n = true) (hc : Region.chainB md ops n = true) (hn : n < ops.size) (hin : i < n) (hdone : ∀ listed a, K listed a → ∀ j ∈ Region.ready md ops listed, n ≤ j) :
    ∀ (f : Nat) (listed : Array Bool) (a : Act), HeadInv md ops n listed →
      (∀ j oj, ops[j]? = some oj → j ≠ i → listed.getD j true = false → (∀ e ∈ oj.after, Region.binds md e = true → e.on ≠ i) → oi.apart ops oj = true) →
      i ∈ Region.ready md ops listed → YieldsIn P ops C oi v a →
      wpHeadQ P md ops C n K f (listed.setIfInBounds i true) (a.put oi.dst v) → wpHeadQ P md ops C n K (f + 1) listed a := by
  intro f
  induction f with
  | zero =>
    intro listed a inv _ hr hy H
    have hun := (mem_ready.1 hr).1
    refine ⟨fun h => (by rw [h] at hr; cases hr), fun j hj => ?_⟩
    have hjn : j < n := (Nat.lt_or_ge j n).elim id fun h => absurd hj (tail_waits hs hc hn inv _ i rfl hin hun j h)
    refine ⟨hjn, ?_⟩
    by_cases hji : j = i
    · subst hji; exact hy.qOp hi H
    · exact absurd (hdone _ _ H j (ready_mono hj hji)) (by omega)
  | succ f ih =>
    intro listed a inv hfree hr hy H
    have hun := (mem_ready.1 hr).1
    refine ⟨fun h => (by rw [h] at hr; cases hr), fun j hj => ?_⟩
    have hjn : j < n := (Nat.lt_or_ge j n).elim id fun h => absurd hj (tail_waits hs hc hn inv _ i rfl hin hun j h)
    refine ⟨hjn, ?_⟩
    by_cases hji : j = i
    · subst hji; exact hy.qOp hi H
    · have h1 := (H.2 j (ready_mono hj hji)).2
      obtain ⟨hjun, oj, hoj, hall⟩ := mem_ready.1 hj
      have hnot : ∀ e ∈ oj.after, Region.binds md e = true → e.on ≠ i := fun e he hb heq => by
        have h1 := hall e he hb
        rw [heq, getD_both hun] at h1
        cases h1
      have h2 := qOp_put hoj (hfree j oj hoj hji hjun hnot) (fun cs b => hsel i oi cs b hi) (fun cs b => hsel j oj cs b hoj) hy h1
      refine qOp_mono (fun a' h3 => ih (listed.setIfInBounds j true) a' (inv.set hj hjn) (fun k ok hk hki hkun hno => hfree k ok hk hki ?_ hno) (ready_mono hr (Ne.symm hji)) h3.1 ?_) h2
      · by_cases hjk : j = k
        · subst hjk; exact hjun
        · rw [getD_set_ne true hjk] at hkun; exact hkun
      · rw [Array.setIfInBounds_comm _ _ hji]
        exact h3.2
theorem wpHeadQ_lex {n m : Nat} {Lq : Act → Prop} (hsel : Region.noSelect ops = true) (hs : Region.sinkB md ops n = true) (hc : Region.chainB md ops n = true) (hn : n < ops.size) :
    ∀ (l : List Oper) (k : Nat) (listed : Array Bool) (a : Act), (∀ j, j < l.length → l[j]? = ops[k + j]?) → k + l.length = n → HeadInv md ops n listed →
    Region.lexHead md ops m l.length k listed = true → wpQuiet P ops C Lq l a →
    wpHeadQ P md ops C n (fun listed' a' => Region.seqB md ops m n listed' = true ∧ Lq a') l.length listed a
  | [], k, listed, a, _, hk, _, hB, h => by
    obtain rfl : k = n := by simpa using hk
    exact ⟨by simpa [Region.lexHead] using hB, h⟩
  | o :: l, k, listed, a, hl, hk, inv, hB, h => by
    have h0 : ops[k]? = some o := by simpa using (hl 0 (by simp)).symm
    simp only [List.length_cons, Region.lexHead, Bool.and_eq_true] at hB
    obtain ⟨⟨hr, hf⟩, hB'⟩ := hB
    simp only [List.length_cons] at hk
    have hr' : k ∈ Region.ready md ops listed := by simpa using hr
    have hst : qOp P ops C k (wpQuiet P ops C Lq l) a := by unfold qOp; simp only [h0]; exact h
    obtain ⟨v, hy, hK⟩ := yieldsIn_of_qOp h0 hst
    exact wpHeadQ_first h0 (Region.noSelect_spec hsel) hs hc hn (by omega) (fun listed' a' hL => seqB_ready hL.1) l.length listed a inv (Region.free_spec h0 hf) hr' hy
      (wpHeadQ_lex hsel hs hc hn l (k + 1) _ _ (fun j hj => by have := hl (j + 1) (by simp; omega); simpa [Nat.add_assoc, Nat.add_comm 1 j] using this) (by omega) (inv.set hr' (by omega)) hB' hK)
theorem wp_region_quiet_tail {id : Nat} {Q : Exit → Act → World → Prop} {a : Act} {w : World} {l : List Oper} (n : Nat) (hm : P.follows .mixedOrders = true) (hB : Region.lexTailB .any l.toArray n = true) (hC : C { w with drawn := w.drawn + 1 })
    (h : wpQuiet P l.toArray C (fun a' => ∀ w', C w' → wpList P l.toArray Q (l.drop n) a' w') (l.take n) a) : (Code.region id l.toArray true).wp P Q a w := by
  simp only [Region.lexTailB, Bool.and_eq_true, decide_eq_true_eq] at hB
  obtain ⟨⟨⟨⟨hsel, hn⟩, hs⟩, hc⟩, hlex⟩ := hB
  have hn' : n < l.length := by simpa using hn
  have htl : (l.take n).length = n := by simp; omega
  have hdl : (l.drop n).length = l.toArray.size - n := by simp
  have inv0 : HeadInv .any l.toArray n (Array.replicate l.toArray.size false) :=
    ⟨by simp, fun j oj _ hl => (by rw [getD_replicate_false] at hl; cases hl), fun t _ ht => getD_in (by simpa using ht) (getD_replicate_false _ _)⟩
  have H := wpHeadQ_lex (C := C) (md := .any) (m := l.toArray.size - n) hsel hs hc hn (l.take n) 0 _ a (fun j hj => by
    have hj' : j < n := by rw [htl] at hj; exact hj
    simp [hj']) (by simpa using htl) inv0 (by rw [htl]; exact hlex) h
  refine wp_region_any hm ?_
  have := wpAny_of_headQ (Q' := Q) (m := l.toArray.size - n) (fun listed a' w' hw' hL => by
    have := wpAny_of_seq (md := .any) (Q' := Q) (l.drop n) n listed a' w' (fun j => by simp [List.getElem?_drop]) (by rw [hdl]; exact hL.1) (hL.2 _ hw')
    rwa [hdl] at this) _ _ _ _ hC H
  rw [htl, show n + (l.toArray.size - n) = l.toArray.size by omega] at this
  exact this
end
theorem TC.region_tail {P : Program} {Q : Exit → Act → World → Prop} {n : Nat} {ds : List Deferred} {S : Slots} {g : Gh} {L : List Ent} {id : Nat} {l : List Oper} (m : Nat) (hm : P.follows .mixedOrders = true) (hB : Region.lexTailB .any l.toArray m = true)
    (h : TW P l.toArray (Tail P l.toArray Q (l.drop m)) (l.take m) n ds S g L) : TC P Q (.region id l.toArray true) n ds S g L := .mk fun a _w hf hs =>
  wp_region_quiet_tail (C := St g L) m hm hB hs.drew (h.h a hf)
section
variable {P : Program} {n : Nat} {ds : List Deferred} {S : Slots} {g : Gh} {L L' : List Ent} {dst : Option Nat} {ty : TypeId} {pos : String} {aft : Array Edge} {gd : Option (Nat × Bool)} {x y : Operand} {t t' : TypeId} {k k' : IntKind} {p q : Int} {a j b off : Nat} {v : Value} {cs : List Value} {E : TypeId} {fz : Nat × Nat}
theorem Y.shrN (hx : ev S x = some (.int k p)) (hy : ev S y = some (.int k' q)) (hp : p = a) (hq : q = j) (hj : j ≤ k.bits) : Yields P n ds S g L ⟨dst, .binOp .shr t x y t', ty, pos, aft, gd⟩ (.int k ((a / 2 ^ j : Nat) : Int)) :=
  Y.shr hx hy hq hj (by subst hp; rw [Int.fdiv_eq_ediv_of_nonneg _ (Int.pow_nonneg (by decide))]; simp)
theorem yB {o : Oper} (h : Yields P n ds S g L o v := by first | ((with_reducible apply Y.shl); (· rfl); (· rfl); (· first | exact isNat | exact (Int.toNat_of_nonneg (by omega)).symm); (· first | decide | omega); (· first | exact IntWalk.i64_in _ (by omega) | exact IntWalk.i32_in _ (by omega) | exact IntWalk.u8_in _ (by omega) | exact IntWalk.u64_in _ (by omega) | exact IntWalk.u32_in _ (by omega) | rfl)) | ((with_reducible apply Y.shrN); (· rfl); (· rfl); (· first | exact isNat | exact (Int.toNat_of_nonneg (by omega)).symm); (· first | exact isNat | exact (Int.toNat_of_nonneg (by omega)).symm); (· first | decide | omega)) | ((with_reducible apply Y.and); (· rfl); (· rfl); (· first | exact isNat | exact (Int.toNat_of_nonneg (by omega)).symm); (· first | exact isNat | exact (Int.toNat_of_nonneg (by omega)).symm); (· first | decide | (show _ < 18446744073709551616; omega) | (show _ < 4294967296; omega) | (show _ < 256; omega)); (· first | decide | (show _ < 18446744073709551616; omega) | (show _ < 4294967296; omega) | (show _ < 256; omega)); (· first | exact IntWalk.i64_in _ (by omega) | exact IntWalk.i32_in _ (by omega) | exact IntWalk.u8_in _ (by omega) | exact IntWalk.u64_in _ (by omega) | exact IntWalk.u32_in _ (by omega) | rfl)) | ((with_reducible apply Y.or); (· rfl); (· rfl); (· first | exact isNat | exact (Int.toNat_of_nonneg (by omega)).symm); (· first | exact isNat | exact (Int.toNat_of_nonneg (by omega)).symm); (· first | decide | (show _ < 18446744073709551616; omega) | (show _ < 4294967296; omega) | (show _ < 256; omega)); (· first | decide | (show _ < 18446744073709551616; omega) | (show _ < 4294967296; omega) | (show _ < 256; omega)); (· first | exact IntWalk.i64_in _ (by omega) | exact IntWalk.i32_in _ (by omega) | exact IntWalk.u8_in _ (by omega) | exact IntWalk.u64_in _ (by omega) | exact IntWalk.u32_in _ (by omega) | rfl)) | ((with_reducible apply Y.xor); (· rfl); (· rfl); (· first | exact isNat | exact (Int.toNat_of_nonneg (by omega)).symm); (· first | exact isNat | exact (Int.toNat_of_nonneg (by omega)).symm); (· first | decide | (show _ < 18446744073709551616; omega) | (show _ < 4294967296; omega) | (show _ < 256; omega)); (· first | decide | (show _ < 18446744073709551616; omega) | (show _ < 4294967296; omega) | (show _ < 256; omega)); (· first | exact IntWalk.i64_in _ (by omega) | exact IntWalk.i32_in _ (by omega) | exact IntWalk.u8_in _ (by omega) | exact IntWalk.u64_in _ (by omega) | exact IntWalk.u32_in _ (by omega) | rfl)) | ((with_reducible apply Y.index_arr1); (· rfl); (· rfl); (· first | exact isNat | exact (Int.toNat_of_nonneg (by omega)).symm); (· omega)) | ((with_reducible apply Y.index_addr1); (· rfl); (· rfl); (· first | exact isNat | exact (Int.toNat_of_nonneg (by omega)).symm); (· omega)) | ((with_reducible apply Y.loadK); (· rfl); (· exact pkA); (· assumption)) | fail) : Yields P n ds S g L o v := h
end
end Go.TL
namespace Go.TL
open Go Go.RowKit Go.Proofs.YtgollffmdpejiaaGreatDoor

/-! ### What is read as cells -/
def Src (g : Gh) (L : List Ent) (ao : Option Addr) (cs : List Value) : Prop := ∀ w, St g L w → CellsAt w ao cs
theorem Src.obj {g : Gh} {L L' : List Ent} {b : Nat} {cs : List Value} {E : TypeId} {fz : Nat × Nat} (hm : Pick (.obj b (.cells cs.toArray E fz)) L L') : Src g L (some ⟨b, 0, none⟩) cs := fun w hs => by
  have h := (hs.perm hm.perm).st _ List.mem_cons_self
  have h : w.heap[b]? = some (.cells cs.toArray E fz) := h
  exact fun i v hv => ⟨b, 0, rfl, (Array.getElem?_eq_some_iff.1 h).1, by rw [Nat.zero_add, obj_cell h]; exact hv⟩
structure Sl (g : Gh) (v : Value) (n sz : Nat) (xs : List Value) : Prop where
  len : xs.length = n * sz
  form : ∃ ao cap, v = .slice ao n cap ∧ n ≤ cap ∧ ∀ j u, xs[j]? = some u → ∃ b off, ao = some ⟨b, off, none⟩ ∧ g.cell b (off + j) = some u
theorem Gh.le.cell {g g' : Gh} (h : g.le g') {b off : Nat} {v : Value} (hc : g.cell b off = some v) : g'.cell b off = some v := by
  unfold Gh.cell at hc ⊢
  split at hc
  · rename_i cs E fz hh
    rw [h.hp b _ hh]; exact hc
  · cases hc
theorem Sl.le {g g' : Gh} {v : Value} {n sz : Nat} {xs : List Value} (h : Sl g v n sz xs) (hg : g.le g') : Sl g' v n sz xs := by
  obtain ⟨hl, ao, cap, hv, hnc, hc⟩ := h
  exact ⟨hl, ao, cap, hv, hnc, fun j u hu => by obtain ⟨b, off, e, hb⟩ := hc j u hu; exact ⟨b, off, e, hg.cell hb⟩⟩
theorem Src.sl {g : Gh} {L : List Ent} {ao : Option Addr} {n sz cap : Nat} {xs : List Value} (h : Sl g (.slice ao n cap) n sz xs) : Src g L ao xs := fun w hs i u hu => by
  obtain ⟨_, ao', cap', hv, _, hc⟩ := h
  obtain ⟨b, off, e, hb⟩ := hc i u hu
  obtain ⟨rfl, _⟩ : ao = ao' ∧ cap = cap' := by simpa using hv
  refine ⟨b, off, e, ?_, hs.cell hb⟩
  have h1 := hs.cell hb
  unfold Gh.cell at hb
  split at hb
  · rename_i cs E fz hh
    exact (Array.getElem?_eq_some_iff.1 (hs.hp b _ hh)).1
  · cases hb
theorem Sl.nil {g : Gh} {sz : Nat} {ao : Option Addr} {cap : Nat} : Sl g (.slice ao 0 cap) 0 sz [] := ⟨by simp, ao, cap, rfl, Nat.zero_le _, fun _ _ h => by simp at h⟩

section
variable {P : Program} {ops : Array Oper} {Q : Exit → Act → World → Prop} {l rest : List Oper} {n : Nat} {ds : List Deferred} {S : Slots} {g : Gh} {L L' : List Ent}
variable {dst : Option Nat} {d : Nat} {ty : TypeId} {pos : String} {aft : Array Edge}
variable {x y : Operand} {v z : Value} {t e : TypeId} {sz bytes k m c : Nat} {xs news : List Value} {ao : Option Addr} {w : World}
/-! ### Rows of one's own -/
theorem St.row_nil (h : St g L w) (e : TypeId) (sz : Nat) : St g (.row e sz (.slice none 0 0) 0 [] :: L) w :=
  ⟨h.os, h.tape, h.out, h.hp, fun x hx => (List.mem_cons.1 hx).elim (fun e => e ▸ ⟨by simp, .inl ⟨rfl, rfl⟩⟩) (h.st x), by simpa [Ent.fp, Value.ownBlock] using h.nd, by simpa [Ent.fp, Value.ownBlock] using h.ap⟩
theorem St.obj_row {b : Nat} {cs : List Value} (h : St g (.obj b (.cells cs.toArray e (0, 0)) :: L) w) (hl : cs.length = k * sz) (hk : k ≤ maxLen) : St g (.row e sz (.slice (some ⟨b, 0, none⟩) k k) k cs :: L) w :=
  ⟨h.os, h.tape, h.out, h.hp, fun x hx => (List.mem_cons.1 hx).elim (fun e => by
      subst e
      have h0 : w.heap[b]? = some (.cells cs.toArray _ (0, 0)) := h.st _ List.mem_cons_self
      exact ⟨hl, .inr ⟨b, k, cs.toArray, rfl, Nat.zero_le _, h0, Nat.le_refl _, hk, by simpa using hl, by simp [← hl]⟩⟩) (fun hx => h.st x (List.mem_cons_of_mem _ hx)), by simpa [Ent.fp, Value.ownBlock] using h.nd, by simpa [Ent.fp, Value.ownBlock] using h.ap⟩
theorem TC.row_nil {c : Code} (e : TypeId) (sz : Nat) (h : TC P Q c n ds S g (.row e sz (.slice none 0 0) 0 [] :: L)) : TC P Q c n ds S g L := .mk fun a w hf hs => h.h a w hf (hs.row_nil e sz)
theorem TL.obj_row {b : Nat} {cs : List Value} (hm : Pick (.obj b (.cells cs.toArray e (0, 0))) L L') (hl : cs.length = k * sz) (hk : k ≤ maxLen) (h : TL P ops Q l n ds S g (.row e sz (.slice (some ⟨b, 0, none⟩) k k) k cs :: L')) : TL P ops Q l n ds S g L := .mk fun a w hf hs =>
  h.h a w hf ((hs.perm hm.perm).obj_row hl hk)
theorem TC.obj_row {c : Code} {b : Nat} {cs : List Value} (hm : Pick (.obj b (.cells cs.toArray e (0, 0))) L L') (hl : cs.length = k * sz) (hk : k ≤ maxLen) (h : TC P Q c n ds S g (.row e sz (.slice (some ⟨b, 0, none⟩) k k) k cs :: L')) : TC P Q c n ds S g L := .mk fun a w hf hs =>
  h.h a w hf ((hs.perm hm.perm).obj_row hl hk)
theorem row_slice (h : w.ownsRow 0 e sz v k xs) : ∃ ao cap, v = .slice ao k cap := by
  rcases h.2 with ⟨hv, rfl⟩ | ⟨b, cap, cur, hv, _⟩
  · exact ⟨none, 0, hv⟩
  · exact ⟨_, cap, hv⟩
theorem TC.row_slice {c : Code} (hm : Pick (.row e sz v k xs) L L') (h : ∀ ao cap, v = .slice ao k cap → xs.length = k * sz → TC P Q c n ds S g L) : TC P Q c n ds S g L := .mk fun a w hf hs => by
  have hr : w.ownsRow 0 e sz v k xs := (hs.perm hm.perm).st _ List.mem_cons_self
  obtain ⟨ao, cap, hv⟩ := Go.TL.row_slice hr
  exact (h ao cap hv hr.1).h a w hf hs
theorem row_cell {b cap : Nat} (h : w.ownsRow 0 e sz (.slice (some ⟨b, 0, none⟩) k cap) k xs) (i : Nat) (u : Value) (hu : xs[i]? = some u) : w.cell? ⟨b, i, none⟩ = some u := by
  obtain ⟨ao, cap', hv, hc, _⟩ := owns_form h
  obtain ⟨rfl, _⟩ : some (⟨b, 0, none⟩ : Addr) = ao ∧ cap = cap' := by simpa using hv
  obtain ⟨b', off, e1, _, h2⟩ := hc i u hu
  obtain ⟨rfl, rfl⟩ : b = b' ∧ 0 = off := by simpa using e1
  simpa using h2
/-! ### A slice of one's own, laid with what stands in it -/
theorem fill_ones : ∀ (vs : List Value) (pre post : List Value), post.length = vs.length → (∀ u ∈ vs, u.one = true) →
    Instr.fill (fun i => some (i * 1, 1)) (pre ++ post).toArray ((vs.zipIdx pre.length).map fun p => (p.2, p.1)) = some (pre ++ vs).toArray
  | [], pre, post, hl, _ => by
    have : post = [] := List.eq_nil_of_length_eq_zero hl
    subst this; simp [Instr.fill]
  | u :: vs, pre, [], hl, _ => by simp at hl
  | u :: vs, pre, p :: post, hl, h1 => by
    have hu : u.cells = #[u] := by have := h1 u List.mem_cons_self; cases u <;> first | rfl | simp [Value.one] at this
    have ih := fill_ones vs (pre ++ [u]) post (by simpa using hl) (fun x hx => h1 x (List.mem_cons_of_mem _ hx))
    rw [List.zipIdx_cons, List.map_cons, Instr.fill]
    simp only [hu, Nat.mul_one]
    rw [if_neg (by simp)]
    have hset : (#[u].zipIdx.foldl (fun cs (x : Value × Nat) => cs.setIfInBounds (pre.length + x.2) x.1) (pre ++ p :: post).toArray) = ((pre ++ [u]) ++ post).toArray := by
      simp
    simp only [hset]
    simp only [List.length_append, List.length_singleton] at ih
    rw [show pre.length + 1 = pre.length + 1 from rfl]
    simpa using ih

def inOrder : Nat → List (Nat × Operand) → Option (List Operand)
  | _, [] => some []
  | i, (j, x) :: r => bif Nat.beq i j then (inOrder (i + 1) r).map (x :: ·) else none
theorem inOrder_eval {a : Act} (hf : Fr n ds S a) : ∀ (parts : List (Nat × Operand)) (i : Nat) (xs : List Operand) (vs : List Value), inOrder i parts = some xs → evs S xs = some vs →
    parts.map (fun p => (p.1, a.eval p.2)) = (vs.zipIdx i).map fun p => (p.2, p.1)
  | [], i, xs, vs, h, hv => by
    obtain rfl : [] = xs := Option.some.inj h
    obtain rfl : [] = vs := Option.some.inj hv
    rfl
  | (j, x) :: r, i, xs, vs, h, hv => by
    rw [inOrder] at h
    cases hb : Nat.beq i j with
    | false => rw [hb] at h; cases h
    | true =>
      rw [hb] at h
      obtain rfl : i = j := Nat.eq_of_beq_eq_true hb
      cases hr : inOrder (i + 1) r with
      | none => rw [hr] at h; cases h
      | some ys =>
        rw [hr] at h
        obtain rfl : x :: ys = xs := Option.some.inj h
        rw [evs] at hv
        cases h1 : ev S x with
        | none => rw [h1] at hv; cases hv
        | some u =>
          cases h2 : evs S ys with
          | none => rw [h1, h2] at hv; cases hv
          | some us =>
            rw [h1, h2] at hv
            obtain rfl : u :: us = vs := Option.some.inj hv
            rw [List.map_cons, List.zipIdx_cons, List.map_cons, inOrder_eval hf r (i + 1) ys us hr h2, hf.ev h1]
theorem TL.build_slice {len : Nat} {parts : List (Nat × Operand)} {os : List Operand} {vs : List Value} [ht : Und P t (.slice e)] [hi : Inf P e 1 bytes z] (ho : inOrder 0 parts = some os) (hv : evs S os = some vs) (h1 : vs.all Value.one = true) (hl : vs.length = len) (hsm : Nat.ble len 16777216 = true) (hd : Nat.blt d n = true)
    (kk : ∀ b, TL P ops Q rest n ds ((d, .slice (some ⟨b, 0, none⟩) len len) :: S) g (.obj b (.cells vs.toArray e (0, 0)) :: L)) : TL P ops Q (⟨some d, .buildSlice t len parts.toArray, ty, pos, aft, none⟩ :: rest) n ds S g L := .mk fun a w hf hs =>
  wpList_plain rfl fun K hK => by
    obtain ⟨i, hii, hsz, hb, hz⟩ := hi.eq
    have hparts := inOrder_eval hf parts 0 os vs ho hv
    have hfill := fill_ones vs [] ((Array.range (len * 1)).map fun j => (if len * 1 = 0 then (#[] : Array Value) else z.cells)[j % (if len * 1 = 0 then (#[] : Array Value) else z.cells).size]!).toList (by simp [hl]) (fun u hu => List.all_eq_true.1 h1 u hu)
    have hrun : (execOp a.eval ⟨some d, .buildSlice t len parts.toArray, ty, pos, aft, none⟩).run P w = .ok (.value (.slice (some ⟨w.heap.size, 0, none⟩) len len)) { w with heap := w.heap.push (.cells vs.toArray e (0, 0)) } := by
      have hle : ¬ len > 16777216 := by have := Nat.le_of_ble_eq_true hsm; omega
      by_cases hl0 : len = 0
      · subst hl0
        have hvs : vs = [] := List.eq_nil_of_length_eq_zero hl
        subst hvs
        have hp0 : parts = [] := by
          have := congrArg List.length hparts
          simp at this; exact this
        subst hp0
        simp [execOp, Instr.buildSlice, run_und ht.eq, sizeOf, run_info hii, Instr.fill, newRow, newObj, Sem.run, show (Array.range 0) = #[] from Array.eq_empty_of_size_eq_zero (by simp)]
      · simp only [List.nil_append, List.length_nil] at hfill
        rw [if_neg (by omega)] at hfill
        have hf2 : Instr.fill (fun i => some (i, 1)) (Array.map (fun x => z.cells[x % z.cells.size]!) (Array.range len)) (List.map (fun x => (x.1, a.eval x.2)) parts) = some vs.toArray := by
          rw [hparts]
          simp only [Nat.mul_one, Array.toArray_toList] at hfill
          exact hfill
        simp [execOp, Instr.buildSlice, run_und ht.eq, sizeOf, run_info hii, hsz, hle, hl0, run_zero, newRow, newObj]
        rw [hf2]
        simp [Sem.run]
    unfold Oper.wp
    rw [hrun]
    exact hK _ _ ((kk _).h _ _ (hf.put hd _) (hs.alloc _))

theorem one_old {vs : List Value} (h : vs.all Value.one = true) : ∀ u ∈ vs, u.oneCell' = true := fun u hu => by
  have := List.all_eq_true.1 h u hu
  cases u <;> first | rfl | simp [Value.one] at this
theorem St.grown {v v' : Value} {k' : Nat} {xs' : List Value} {w' : World} (hs : St g (.row e sz v k xs :: L') w) (hr : w'.ownsRow 0 e sz v' k' xs') (ho : Owns w w' v v') : St g (.row e sz v' k' xs' :: L') w' := by
  have hnd := hs.nd
  rw [fps_cons] at hnd
  obtain ⟨_, hnL, hne⟩ := List.nodup_append.1 hnd
  have hlt := hs.lt
  have hold : ∀ b, b < w.heap.size → v.ownBlock ≠ some b → w'.heap[b]? = w.heap[b]? := fun b hb hn => ho.grown.block b hb (Ne.symm hn)
  have hv' : ∀ b, v'.ownBlock = some b → v.ownBlock = some b ∨ w.heap.size ≤ b := fun b hb => ho.row b hb
  have hap : ∀ b, v.ownBlock = some b → g.hp b = none := fun b hb => hs.ap b (by rw [fps_cons]; exact List.mem_append_left _ (by simp [Ent.fp, hb]))
  refine ⟨ho.grown.os.trans hs.os, ho.grown.tape.trans hs.tape, ho.grown.output.trans hs.out, fun b o hb => ?_, fun x hx => ?_, ?_, fun b hb => ?_⟩
  · have h0 := hs.hp b o hb
    rw [hold b (Array.getElem?_eq_some_iff.1 h0).1 (fun h => by rw [hap b h] at hb; cases hb)]; exact h0
  · rcases List.mem_cons.1 hx with rfl | hx
    · exact hr
    · exact (hs.st x (List.mem_cons_of_mem _ hx)).of_block fun b hb => hold b ((hs.st x (List.mem_cons_of_mem _ hx)).lt b hb) (fun h => by
        refine hne b (by simp [Ent.fp, h]) b (List.mem_flatMap.2 ⟨x, hx, hb⟩) rfl)
  · rw [fps_cons]
    refine List.nodup_append.2 ⟨?_, hnL, fun b hb c hc e => ?_⟩
    · simp only [Ent.fp]; cases v'.ownBlock <;> simp
    · subst e
      have hb2 : v'.ownBlock = some b := by simpa [Ent.fp, Option.mem_toList] using hb
      rcases hv' b hb2 with h | h
      · exact hne b (by simp [Ent.fp, h]) b hc rfl
      · have := hlt b (by rw [fps_cons]; exact List.mem_append_right _ hc)
        omega
  · rw [fps_cons] at hb
    rcases List.mem_append.1 hb with hb | hb
    · have hb2 : v'.ownBlock = some b := by simpa [Ent.fp, Option.mem_toList] using hb
      rcases hv' b hb2 with h | h
      · exact hap b h
      · cases e2 : g.hp b with
        | none => rfl
        | some o =>
          have h1 := (Array.getElem?_eq_some_iff.1 (hs.hp b o e2)).1
          omega
    · exact hs.ap b (by rw [fps_cons]; exact List.mem_append_right _ hb)
theorem TL.append [ht : Und P t (.slice e)] [hi : Inf P e sz bytes z] (hzs : (z.cells.size == sz) = true) (hsz : Nat.blt 0 sz = true) (hx : ev S x = some v) (hy : ev S y = some (.slice ao m c)) (hm : Pick (.row e sz v k xs) L L') (hc : Src g L ao news) (hl : news.length = m * sz) (h1 : news.all Value.one = true) (hb : k + m ≤ maxLen ∧ (k + m) * bytes ≤ 140737488355328) (hd : Nat.blt d n = true)
    (kk : ∀ v', TL P ops Q rest n ds ((d, v') :: S) g (.row e sz v' (k + m) (xs ++ news) :: L')) : TL P ops Q (⟨some d, .call { callee := .builtin .append, args := #[x, y], argTypes := #[t, t] }, ty, pos, aft, none⟩ :: rest) n ds S g L := .mk fun a w hf hs => by
  have hs1 := hs.perm hm.perm
  obtain ⟨i, hii, hs2, hb2, hz⟩ := hi.eq
  exact wpList_append_cells rfl x y rfl ht.eq (by rw [hii]; simp [hz, hs2, hb2]) (beq_iff_eq.1 hzs) (Nat.le_of_ble_eq_true hsz) (hf.ev hx) (hs1.st _ List.mem_cons_self) ao m c news (hf.ev hy) hl (hc w hs) (one_old h1) hb.1 hb.2 (Nat.zero_le _)
    fun v' w' hr ho => (kk v').h _ w' (hf.put hd v') (hs1.grown hr ho)
/-! ### What is owned stays for ever from here on -/
def Gh.with (g : Gh) (bs : List Nat) (w : World) : Gh := ⟨fun b => if b ∈ bs then w.heap[b]? else g.hp b, g.os, g.tape, g.out⟩
theorem St.freeze {x : Ent} (hs : St g (x :: L') w) : g.le (g.with x.fp w) ∧ St (g.with x.fp w) L' w := by
  have hnd := hs.nd
  rw [fps_cons] at hnd
  obtain ⟨_, hnL, hne⟩ := List.nodup_append.1 hnd
  have hap : ∀ b ∈ x.fp, g.hp b = none := fun b hb => hs.ap b (by rw [fps_cons]; exact List.mem_append_left _ hb)
  refine ⟨⟨fun b o hb => ?_, rfl, rfl, rfl⟩, ⟨hs.os, hs.tape, hs.out, fun b o hb => ?_, fun y hy => hs.st y (List.mem_cons_of_mem _ hy), hnL, fun b hb => ?_⟩⟩
  · show (if b ∈ x.fp then w.heap[b]? else g.hp b) = some o
    rw [if_neg (fun h => by rw [hap b h] at hb; cases hb)]; exact hb
  · have hb : (if b ∈ x.fp then w.heap[b]? else g.hp b) = some o := hb
    split at hb
    · exact hb
    · exact hs.hp b o hb
  · show (if b ∈ x.fp then w.heap[b]? else g.hp b) = none
    rw [if_neg (fun h => hne b h b hb rfl)]
    exact hs.ap b (by rw [fps_cons]; exact List.mem_append_right _ hb)
theorem sl_of_row (hs : St g (.row e sz v k xs :: L') w) : Sl (g.with (Ent.row e sz v k xs).fp w) v k sz xs := by
  have hr : w.ownsRow 0 e sz v k xs := hs.st _ List.mem_cons_self
  refine ⟨hr.1, ?_⟩
  rcases hr.2 with ⟨rfl, rfl⟩ | ⟨b, cap, cur, rfl, _, hh, hle, _, hcs, htake⟩
  · have : xs = [] := List.eq_nil_of_length_eq_zero (by simpa using hr.1)
    subst this
    exact ⟨none, 0, rfl, Nat.le_refl _, fun j u h => by simp at h⟩
  · refine ⟨_, cap, rfl, hle, fun j u hu => ⟨b, 0, rfl, ?_⟩⟩
    unfold Gh.cell Gh.with
    simp only [Ent.fp, Value.ownBlock, Option.toList_some, List.mem_singleton, if_true, hh, Nat.zero_add]
    rw [← htake, List.getElem?_take] at hu
    split at hu
    · simpa using hu
    · cases hu
theorem TL.freeze (hm : Pick (.row e sz v k xs) L L') (kk : ∀ g', g.le g' → Sl g' v k sz xs → TL P ops Q l n ds S g' L') : TL P ops Q l n ds S g L := .mk fun a w hf hs => by
  have hs1 := hs.perm hm.perm
  exact (kk _ hs1.freeze.1 (sl_of_row hs1)).h a w hf hs1.freeze.2
theorem TC.freeze {c : Code} (hm : Pick (.row e sz v k xs) L L') (kk : ∀ g', g.le g' → Sl g' v k sz xs → TC P Q c n ds S g' L') : TC P Q c n ds S g L := .mk fun a w hf hs => by
  have hs1 := hs.perm hm.perm
  exact (kk _ hs1.freeze.1 (sl_of_row hs1)).h a w hf hs1.freeze.2
theorem TQ.freeze {c : Exit} (hm : Pick (.row e sz v k xs) L L') (kk : ∀ g', g.le g' → Sl g' v k sz xs → TQ Q c n ds S g' L') : TQ Q c n ds S g L := .mk fun a w hf hs => by
  have hs1 := hs.perm hm.perm
  exact (kk _ hs1.freeze.1 (sl_of_row hs1)).h a w hf hs1.freeze.2
/-! ### A call that makes a row, or what stays -/
structure Makes (P : Program) (f : FuncId) (args : Array Value) (g : Gh) (L : List Ent) (p : Value → Gh → Prop) : Prop where
  h : ∀ w, St g L w → Calls P f args w fun r w' => ∃ v g', r = .returned v ∧ g.le g' ∧ p v g' ∧ St g' L w'
theorem Makes.of {f : FuncId} {args : Array Value} {p : Value → Gh → Prop} (h : Does P f args g L fun r g' L1 => ∃ v, r = .returned v ∧ p v g' ∧ L1 = L) : Makes P f args g L p :=
  .mk fun w hs => (h.h w hs).mono fun _ _ ⟨g', _, hg, ⟨v, he, hp, hL⟩, hs'⟩ => ⟨v, g', he, hg, hp, by subst hL; exact hs'⟩
section
variable {op : Op} {f : FuncId} {args : Array Value}
theorem TL.makes {p : Value → Gh → Prop} (he : Enters P n ds S g L ⟨some d, op, ty, pos, aft, none⟩ f args) (hR : Makes P f args g L p) (hd : Nat.blt d n = true)
    (kk : ∀ v g', g.le g' → p v g' → TL P ops Q rest n ds ((d, v) :: S) g' L) : TL P ops Q (⟨some d, op, ty, pos, aft, none⟩ :: rest) n ds S g L := .mk fun a w hf hs =>
  wpList_plain rfl fun K hK => by
    unfold Oper.wp
    rw [he.h a w hf hs]
    refine (hR.h w hs).mono ?_
    rintro r w' ⟨v, g', rfl, hg, hp, hs'⟩
    exact hK _ _ ((kk v g' hg hp).h _ w' (hf.put hd v) hs')
end
end
section
variable {P : Program} {Q : Exit → Act → World → Prop} {n : Nat} {ds : List Deferred} {S : Slots} {g : Gh} {L : List Ent}
theorem TC.loopL {α : Type} (p : α → Prop) (m : α → Nat) (T : α → Slots → Slots) (E : α → List Ent) {c : Code} (x0 : α) (h0 : p x0) (hS : Sub (T x0 S) S) (hL : Sel (E x0) L)
    (h : ∀ x, p x → TC P (Round n ds p m (fun z => T z S) (fun _ => g) E x Q) c n ds (T x S) g (E x)) : TC P Q (.loop c) n ds S g L :=
  .loop p m (fun z => T z S) (fun _ => g) E x0 h0 rfl hS hL h
end
section
variable {P : Program} {ops : Array Oper} {Q : Exit → Act → World → Prop} {rest : List Oper} {n : Nat} {ds : List Deferred} {S : Slots} {g : Gh} {L L' : List Ent} {ty : TypeId} {pos : String} {aft : Array Edge} {x y : Operand} {v z : Value} {t E : TypeId} {bytes b off : Nat} {cs : List Value}
theorem TL.storeK [Inf P t 1 bytes z] (hx : ev S x = some (.pointer (some ⟨b, off, none⟩))) (hy : ev S y = some v) (h1 : v.one = true) (hm : Pick (.obj b (.cells cs.toArray E (0, 0))) L L') (ho : off < cs.length) (k : TL P ops Q rest n ds S g (.obj b (.cells (cs.set off v).toArray E (0, 0)) :: L')) : TL P ops Q (⟨none, .store t x y, ty, pos, aft, none⟩ :: rest) n ds S g L :=
  have : SetA cs off v (cs.set off v) := ⟨ho, rfl⟩
  .storeE hx hy h1 hm this k
theorem yM {o : Oper} (h : Yields P n ds S g L o v := by first | ((with_reducible apply Y.load_row); (· rfl); (· exact pkA); (· assumption)) | ((with_reducible apply Y.load_gh); (· rfl); (· assumption)) | fail) : Yields P n ds S g L o v := h
end
end Go.TL
namespace Go.TL
open Go Go.RowKit Go.Proofs.YtgollffmdpejiaaGreatDoor

def notIface (P : Program) (t : TypeId) : Bool := match P.underlying t with
  | some (.interface _) => false
  | some _ => true
  | none => false
class Con (P : Program) (t : TypeId) : Prop where
  eq : ∃ d, P.underlying t = some d ∧ ∀ ms, d ≠ .interface ms
theorem Con.of {P : Program} {t : TypeId} (h : notIface P t = true) : Con P t := ⟨by
  unfold notIface at h
  cases hd : P.underlying t with
  | none => rw [hd] at h; cases h
  | some d => refine ⟨d, rfl, fun ms e => ?_⟩; rw [hd, e] at h; cases h⟩
section
variable {P : Program} {ops : Array Oper} {Q : Exit → Act → World → Prop} {rest : List Oper} {n : Nat} {ds : List Deferred} {S : Slots} {g : Gh} {L L' : List Ent}
variable {dst : Option Nat} {d : Nat} {op : Op} {ty : TypeId} {pos : String} {aft : Array Edge} {gd : Option (Nat × Bool)}
variable {x y : Operand} {v u z : Value} {t t' T e : TypeId} {k : IntKind} {p q : Int} {sz bytes i b off m cap : Nat} {ao : Option Addr}
theorem Y.make_iface [h : Con P t] (hx : ev S x = some v) : Yields P n ds S g L ⟨dst, .makeInterface t x, ty, pos, aft, gd⟩ (.iface t v) := .mk fun a w hf _ => by
  obtain ⟨dd, hd, hn⟩ := h.eq
  simp [execOp, hf.ev hx, Instr.makeInterface, run_und hd]
  try (cases dd <;> first | rfl | exact absurd rfl (hn _))
theorem Y.assert_yes [h : Con P t] (hx : ev S x = some (.iface t v)) : Yields P n ds S g L ⟨dst, .typeAssert x t' t true, ty, pos, aft, gd⟩ (.tuple #[v, .bool true]) := .mk fun a w hf _ => by
  obtain ⟨dd, hd, hn⟩ := h.eq
  simp [execOp, hf.ev hx, Instr.typeAssert, run_und hd]
  try (cases dd <;> first | rfl | exact absurd rfl (hn _))
theorem Y.assert_yes1 [h : Con P t] (hx : ev S x = some (.iface t v)) : Yields P n ds S g L ⟨dst, .typeAssert x t' t false, ty, pos, aft, gd⟩ v := .mk fun a w hf _ => by
  obtain ⟨dd, hd, hn⟩ := h.eq
  simp [execOp, hf.ev hx, Instr.typeAssert, run_und hd]
  try (cases dd <;> first | rfl | exact absurd rfl (hn _))
theorem Y.assert_no [h : Con P t] [hi : Inf P t sz bytes z] (hx : ev S x = some (.iface T v)) (hne : Nat.beq T t = false) : Yields P n ds S g L ⟨dst, .typeAssert x t' t true, ty, pos, aft, gd⟩ (.tuple #[z, .bool false]) := .mk fun a w hf _ => by
  obtain ⟨dd, hd, hn⟩ := h.eq
  have hne : T ≠ t := fun e => by subst e; simp at hne
  simp [execOp, hf.ev hx, Instr.typeAssert, run_und hd]
  try (cases dd <;> first | simp [hne, run_zero] | exact absurd rfl (hn _))
theorem Y.assert_nil [h : Con P t] [hi : Inf P t sz bytes z] (hx : ev S x = some .nilIface) : Yields P n ds S g L ⟨dst, .typeAssert x t' t true, ty, pos, aft, gd⟩ (.tuple #[z, .bool false]) := .mk fun a w hf _ => by
  obtain ⟨dd, hd, hn⟩ := h.eq
  simp [execOp, hf.ev hx, Instr.typeAssert, run_und hd]
  try (cases dd <;> first | simp [run_zero] | exact absurd rfl (hn _))
variable {ms : Array (String × TypeId)} {w : World}
theorem equal_iface_nil [ht : Und P t (.interface ms)] : (Op.equal t (.iface T v) .nilIface).run P w = .ok false w := by
  unfold Op.equal Op.maxDepth
  rw [Op.equalIn]
  simp [run_und ht.eq]
theorem equal_nil_nil [ht : Und P t (.interface ms)] : (Op.equal t .nilIface .nilIface).run P w = .ok true w := by
  unfold Op.equal Op.maxDepth
  rw [Op.equalIn]
  simp [run_und ht.eq]
theorem Y.eql_nil_no [ht : Und P t (.interface ms)] (hx : ev S x = some (.iface T v)) (hy : ev S y = some .nilIface) : Yields P n ds S g L ⟨dst, .binOp .eql t x y t', ty, pos, aft, gd⟩ (.bool false) := .mk fun a w hf _ => by
  simp [execOp, hf.ev hx, hf.ev hy, eqGuard, binOp, equal_iface_nil]
theorem Y.neq_nil_no [ht : Und P t (.interface ms)] (hx : ev S x = some (.iface T v)) (hy : ev S y = some .nilIface) : Yields P n ds S g L ⟨dst, .binOp .neq t x y t', ty, pos, aft, gd⟩ (.bool true) := .mk fun a w hf _ => by
  simp [execOp, hf.ev hx, hf.ev hy, eqGuard, binOp, equal_iface_nil]
theorem Y.eql_nil_yes [ht : Und P t (.interface ms)] (hx : ev S x = some .nilIface) : Yields P n ds S g L ⟨dst, .binOp .eql t x (.const .nilIface) t', ty, pos, aft, gd⟩ (.bool true) := .mk fun a w hf _ => by
  have hc : a.eval (.const .nilIface) = .nilIface := rfl
  simp [execOp, hf.ev hx, hc, eqGuard, binOp, equal_nil_nil]
/-! ### Pieces of slices -/
variable {hi lo : Operand} {k' : IntKind} {len j : Nat}
theorem Y.slice_to [ht : Und P t (.slice e)] [he : Inf P e sz bytes z] (hx : ev S x = some (.slice ao len cap)) (hhi : ev S hi = some (.int k p)) (hp : p = i) (hi' : i ≤ cap) : Yields P n ds S g L ⟨dst, .slice t x none (some hi) none, ty, pos, aft, gd⟩ (.slice ao i cap) := .mk fun a w hf _ => by
  subst hp
  obtain ⟨ii, hii, hs, _⟩ := he.eq
  have add0 : ∀ ad : Addr, ad.add 0 = ad := fun ad => by
    unfold Addr.add
    split <;> simp_all
  cases ao <;> simp [add0, execOp, Instr.sliceAt, Instr.slice, Instr.sliceBounds, Instr.sliceBound, hf.ev hx, hf.ev hhi, run_und ht.eq, asIntOf, hi', run_size hii]

/-! ### Structs by value, laid part by part -/
def placesB (P : Program) (t : TypeId) (pl : List (Nat × Nat)) (zs : List Value) : Prop :=
  ∃ fs : Array Field, P.underlying t = some (.struct fs) ∧ (∀ w, (fs.mapM fun (f : Field) => do pure (f.offset, ← sizeOf f.type) : Sem (Array (Nat × Nat))).run P w = .ok pl.toArray w) ∧ ∀ w, (zeroValue t).run P w = .ok (.agg zs.toArray) w
class Places (P : Program) (t : TypeId) (pl : outParam (List (Nat × Nat))) (zs : outParam (List Value)) : Prop where
  eq : placesB P t pl zs
def putAll (pl : List (Nat × Nat)) : List Value → List (Nat × Value) → Option (List Value)
  | cs, [] => some cs
  | cs, (i, v) :: r => match pl[i]? with
    | some (off, 1) => bif Nat.blt off cs.length then putAll pl (cs.set off v) r else none
    | _ => none
theorem fill_putAll (pl : List (Nat × Nat)) : ∀ (ps : List (Nat × Value)) (cs cs' : List Value), (ps.map (·.2)).all Value.one = true → putAll pl cs ps = some cs' → Instr.fill (pl.toArray[·]?) cs.toArray ps = some cs'.toArray
  | [], cs, cs', _, h => by
    obtain rfl : cs = cs' := Option.some.inj h
    rfl
  | (i, v) :: r, cs, cs', ho, h => by
    rw [List.map_cons, List.all_cons] at ho
    obtain ⟨h1, ho⟩ := Bool.and_eq_true_iff.1 ho
    rw [putAll] at h
    rw [Instr.fill]
    simp only [List.getElem?_toArray]
    split at h
    · rename_i off hp
      rw [hp]
      cases h2 : Nat.blt off cs.length with
      | false => rw [h2] at h; cases h
      | true =>
        rw [h2] at h
        have hlt : off < cs.length := Nat.le_of_ble_eq_true h2
        have hu : v.cells = #[v] := cells_one h1
        simp only [hu]
        rw [if_neg (by simp; omega)]
        have hset : (#[v].zipIdx.foldl (fun cs (x : Value × Nat) => cs.setIfInBounds (off + x.2) x.1) cs.toArray) = (cs.set off v).toArray := by simp
        simp only [hset]
        have ih := fill_putAll pl r (cs.set off v) cs' ho h
        simpa using ih
    · cases h
theorem all1 {v : Value} {l : List Value} (h : v.one = true) (t : l.all Value.one = true) : (v :: l).all Value.one = true := by rw [List.all_cons, h, t]; rfl
def evp (S : Slots) : List (Nat × Operand) → Option (List (Nat × Value))
  | [] => some []
  | (i, x) :: r => match ev S x, evp S r with | some v, some vs => some ((i, v) :: vs) | _, _ => none
theorem Fr.evp {a : Act} (hf : Fr n ds S a) : ∀ {xs : List (Nat × Operand)} {vs : List (Nat × Value)}, Go.TL.evp S xs = some vs → xs.map (fun p => (p.1, a.eval p.2)) = vs
  | [], vs, e => by rw [Go.TL.evp] at e; cases e; rfl
  | (i, x) :: r, vs, e => by
    rw [Go.TL.evp] at e
    cases h1 : Go.TL.ev S x with
    | none => rw [h1] at e; cases e
    | some v =>
      cases h2 : Go.TL.evp S r with
      | none => rw [h1, h2] at e; cases e
      | some us =>
        rw [h1, h2] at e
        cases e
        rw [List.map_cons, hf.ev h1, hf.evp h2]
theorem Y.build {parts : List (Nat × Operand)} {ps : List (Nat × Value)} {pl : List (Nat × Nat)} {zs cs : List Value} [h : Places P t pl zs] (hp : evp S parts = some ps) (ho : (ps.map (·.2)).all Value.one = true) (hf : putAll pl zs ps = some cs) : Yields P n ds S g L ⟨dst, .build t parts.toArray, ty, pos, aft, gd⟩ (.agg cs.toArray) := .mk fun a w hfr _ => by
  obtain ⟨fs, h1, h2, h3⟩ := h.eq
  have hps := hfr.evp hp
  have hfill := fill_putAll pl ps zs cs ho hf
  have h2' := h2 w
  have h3' := h3 w
  simp only [execOp, Instr.build, Sem.run_bind, h3', Result.andThen_ok, run_und h1, List.map_toArray, hps, Value.cells]
  rw [h2']
  simp only [Result.andThen_ok, hfill]
  simp
end
section
variable {P : Program} {ops : Array Oper} {Q : Exit → Act → World → Prop} {rest : List Oper} {n : Nat} {ds : List Deferred} {S : Slots} {g : Gh} {L : List Ent} {d : Nat} {ty : TypeId} {pos : String} {aft : Array Edge} {x : Operand} {z : Value} {t e : TypeId} {sz bytes : Nat}
theorem TL.build_empty [ht : Und P t (.slice e)] [hi : Inf P e sz bytes z] (hd : Nat.blt d n = true)
    (kk : ∀ b, TL P ops Q rest n ds ((d, .slice (some ⟨b, 0, none⟩) 0 0) :: S) g (.obj b (.cells (List.toArray []) e (0, 0)) :: L)) : TL P ops Q (⟨some d, .buildSlice t 0 #[], ty, pos, aft, none⟩ :: rest) n ds S g L := .mk fun a w hf hs =>
  wpList_plain rfl fun K hK => by
    obtain ⟨i, hii, hsz, hb, hz⟩ := hi.eq
    have hrun : (execOp a.eval ⟨some d, .buildSlice t 0 #[], ty, pos, aft, none⟩).run P w = .ok (.value (.slice (some ⟨w.heap.size, 0, none⟩) 0 0)) { w with heap := w.heap.push (.cells #[] e (0, 0)) } := by
      simp [execOp, Instr.buildSlice, run_und ht.eq, sizeOf, run_info hii, Instr.fill, newRow, newObj, Sem.run, show (Array.range 0) = #[] from Array.eq_empty_of_size_eq_zero (by simp)]
    unfold Oper.wp
    rw [hrun]
    exact hK _ _ ((kk _).h _ _ (hf.put hd _) (hs.alloc _))
theorem zip_set : ∀ (vs cs : List Value), vs.length = cs.length → (vs.toArray.zipIdx.foldl (fun cs (x : Value × Nat) => cs.setIfInBounds (0 + x.2) x.1) cs.toArray) = vs.toArray := fun vs cs hl => by
  have key : ∀ (us pre post : List Value), us.length = post.length → ((us.zipIdx pre.length).foldl (fun cs (x : Value × Nat) => cs.setIfInBounds x.2 x.1) (pre ++ post).toArray) = (pre ++ us).toArray := by
    intro us
    induction us with
    | nil => intro pre post h; have : post = [] := List.eq_nil_of_length_eq_zero h.symm; subst this; simp
    | cons u r ih =>
      intro pre post h
      cases post with
      | nil => simp at h
      | cons p q =>
        rw [List.zipIdx_cons, List.foldl_cons]
        have h2 := ih (pre ++ [u]) q (by simpa using h)
        have h3 : (pre ++ p :: q).toArray.setIfInBounds pre.length u = ((pre ++ [u]) ++ q).toArray := by simp
        simp only [h3]
        simp only [List.length_append, List.length_singleton] at h2
        rw [h2]; simp
  have := key vs [] cs hl
  simp only [Nat.zero_add]
  rw [← Array.foldl_toList]
  simpa using this
theorem TL.build_one {vs : List Value} [ht : Und P t (.slice e)] [hi : Inf P e sz bytes z] (hx : ev S x = some (.agg vs.toArray)) (hl : vs.length = sz) (h0 : Nat.blt 0 sz = true) (hzs : (z.cells.size == sz) = true) (hsm : Nat.ble sz 16777216 = true) (hd : Nat.blt d n = true)
    (kk : ∀ b, TL P ops Q rest n ds ((d, .slice (some ⟨b, 0, none⟩) 1 1) :: S) g (.obj b (.cells vs.toArray e (0, 0)) :: L)) : TL P ops Q (⟨some d, .buildSlice t 1 #[(0, x)], ty, pos, aft, none⟩ :: rest) n ds S g L := .mk fun a w hf hs =>
  wpList_plain rfl fun K hK => by
    obtain ⟨i, hii, hsz, hb, hz⟩ := hi.eq
    have h0 := Nat.le_of_ble_eq_true h0
    have hsm := Nat.le_of_ble_eq_true hsm
    have hzs : z.cells.size = sz := beq_iff_eq.1 hzs
    have hz2 : ((Array.range sz).map fun j => z.cells[j % z.cells.size]!).toList.length = sz := by simp
    have hset := zip_set vs ((Array.range sz).map fun j => z.cells[j % z.cells.size]!).toList (by rw [hz2, hl])
    rw [Array.toArray_toList] at hset
    have hfill : Instr.fill (fun i => some (i * sz, sz)) ((Array.range sz).map fun j => z.cells[j % z.cells.size]!) [(0, .agg vs.toArray)] = some vs.toArray := by
      have hc : (Value.agg vs.toArray).cells = vs.toArray := rfl
      simp only [Instr.fill, hc, Nat.zero_mul]
      rw [if_neg (by simp [hl]), hset]
    have hrun : (execOp a.eval ⟨some d, .buildSlice t 1 #[(0, x)], ty, pos, aft, none⟩).run P w = .ok (.value (.slice (some ⟨w.heap.size, 0, none⟩) 1 1)) { w with heap := w.heap.push (.cells vs.toArray e (0, 0)) } := by
      have hne : ¬ sz = 0 := by omega
      have hgt : ¬ sz > 16777216 := by omega
      simp [execOp, Instr.buildSlice, run_und ht.eq, sizeOf, run_info hii, hsz, hgt, hne, run_zero, newRow, newObj, hf.ev hx]
      rw [hfill]
      simp [Sem.run]
    unfold Oper.wp
    rw [hrun]
    exact hK _ _ ((kk _).h _ _ (hf.put hd _) (hs.alloc _))
end
theorem Y.load_cells {P : Program} {n : Nat} {ds : List Deferred} {S : Slots} {g : Gh} {L : List Ent} {dst : Option Nat} {x : Operand} {t : TypeId} {ty : TypeId} {pos : String} {aft : Array Edge} {gd : Option (Nat × Bool)} {b off sz bytes : Nat} {z : Value} [Ag P t] [Inf P t sz bytes z] {us : List Value} (hx : ev S x = some (.pointer (some ⟨b, off, none⟩))) (hc : ∀ j u, us[j]? = some u → g.cell b (off + j) = some u) (hl : us.length = sz) : Yields P n ds S g L ⟨dst, .load t x, ty, pos, aft, gd⟩ (.agg us.toArray) := Y.load_ghs hx hl hc
section
variable {P : Program} {n : Nat} {ds : List Deferred} {S : Slots} {g : Gh} {L : List Ent} {v : Value}
theorem yV {o : Oper} (h : Yields P n ds S g L o v := by first | ((with_reducible apply Y.make_iface); (· rfl)) | ((with_reducible apply Y.assert_yes); (· rfl)) | ((with_reducible apply Y.assert_yes1); (· rfl)) | ((with_reducible apply Y.assert_no); (· rfl); (· rfl)) | ((with_reducible apply Y.assert_nil); (· rfl)) | ((with_reducible apply Y.eql_nil_no); (· rfl); (· rfl)) | ((with_reducible apply Y.neq_nil_no); (· rfl); (· rfl)) | ((with_reducible apply Y.eql_nil_yes); (· rfl)) | ((with_reducible apply Y.neq_nil_yes); (· rfl)) | ((with_reducible apply Y.slice_to); (· rfl); (· rfl); (· exact natA); (· omega)) | ((with_reducible apply Y.build); (· rfl); (· first | rfl | (refine all1 (by first | rfl | assumption) ?_; first | rfl | (refine all1 (by first | rfl | assumption) ?_; first | rfl | (refine all1 (by first | rfl | assumption) ?_; rfl)))); (· rfl)) | ((with_reducible apply Y.load_cells); (· rfl); (· assumption); (· assumption)) | ((with_reducible apply Y.load_gh); (· rfl); (· assumption)) | ((with_reducible apply Y.load_whole); (· rfl); (· exact pkA); (· assumption)) | fail) : Yields P n ds S g L o v := h
end
end Go.TL
namespace Go.TL
open Go Go.RowKit Go.Proofs.YtgollffmdpejiaaGreatDoor

section
variable {P : Program} {ops : Array Oper} {Q : Exit → Act → World → Prop} {rest : List Oper} {n : Nat} {ds : List Deferred} {S : Slots} {g gS : Gh} {L LS : List Ent}
structure TA (P : Program) (ops : Array Oper) (Q : Exit → Act → World → Prop) (gS : Gh) (LS : List Ent) (fuel : Nat) (listed : Array Bool) (n : Nat) (ds : List Deferred) (S : Slots) (g : Gh) (L : List Ent) : Prop where
  h : ∀ a w, Fr n ds S a → St g L w → St gS LS w → wpAnyH P .any ops Q (St gS LS) fuel listed a w
def AnyQ (P : Program) (ops : Array Oper) (Q : Exit → Act → World → Prop) (gS : Gh) (LS : List Ent) (fuel : Nat) (listed : Array Bool) : Exit → Act → World → Prop
  | .normal, a, w => St gS LS w ∧ wpAnyH P .any ops Q (St gS LS) fuel listed a w
  | e, a, w => Q e a w
variable {id fuel i : Nat} {listed : Array Bool} {o : Oper} {v : Value} {d : Nat} {op : Op} {ty : TypeId} {pos : String} {aft : Array Edge}
theorem TC.region_any {l : List Oper} (N : Nat) (LS : List Ent) (hm : P.follows .mixedOrders = true) (hN : l.length = N) (hS : Sel LS L) (h : TA P l.toArray Q g LS N (Array.replicate N false) n ds S g L) : TC P Q (.region id l.toArray true) n ds S g L := .mk fun a w hf hs => by
  subst hN
  refine wp_region_held (S := St g LS) hm ?_
  simp only [List.size_toArray]
  exact h.h a _ hf hs.drew (hs.drew.sel hS)
def nthO : List Oper → Nat → Option Oper
  | [], _ => none
  | o :: _, 0 => some o
  | _ :: r, i + 1 => nthO r i
theorem nthO_eq : ∀ (l : List Oper) (i : Nat), l.toArray[i]? = nthO l i
  | [], i => by simp [nthO]
  | o :: r, 0 => by simp [nthO]
  | o :: r, i + 1 => by
    rw [nthO, ← nthO_eq r i]; simp
theorem TA.take {l : List Oper} (i : Nat) {ap : Array Bool} (hr : (Region.ready .any l.toArray listed).contains i = true) (hi : nthO l i = some ⟨some d, op, ty, pos, aft, none⟩) (hy : Yields P n ds S gS LS ⟨some d, op, ty, pos, aft, none⟩ v) (hf : Region.free .any l.toArray listed i = true) (hn : Region.noSelect l.toArray = true)
    (hd : Nat.blt d n = true) (hQ : ∀ c a w, Q (.panic c) (a.put (some d) v) w → Q (.panic c) a w) (hl : listed.setIfInBounds i true = ap) (k : TA P l.toArray Q gS LS fuel ap n ds ((d, v) :: S) g L) : TA P l.toArray Q gS LS (fuel + 1) listed n ds S g L := .mk fun a w hfr hs hS => by
  subst hl
  exact wpAnyH_take ((nthO_eq l i).trans hi) hn hf hr hQ (.inl ⟨by simp [Region.wanted], fun w' hw' => hy.h a w' hfr hw'⟩) hS (k.h _ w (hfr.put hd v) hs hS)
theorem TA.done (hr : Region.ready .any ops listed = []) (h : TQ Q .normal n ds S g L) : TA P ops Q gS LS fuel listed n ds S g L := .mk fun a w hf hs _ => wpAnyH_done hr (h.h a w hf hs) fuel
theorem TA.one {l : List Oper} (i : Nat) {ap : Array Bool} (hi0 : nthO l i = some o) (hr : Region.ready .any l.toArray listed = [i]) (hl : listed.setIfInBounds i true = ap) (h : TL P l.toArray (AnyQ P l.toArray Q gS LS fuel ap) [o] n ds S g L) : TA P l.toArray Q gS LS (fuel + 1) listed n ds S g L := .mk fun a w hf hs _ => by
  subst hl
  have hi := (nthO_eq l i).trans hi0
  refine wpAnyH_all hr (by simp) fun j hj => ?_
  obtain rfl : j = i := by simpa using hj
  have h1 := h.h a w hf hs
  unfold wpOp
  simp only [hi]
  unfold wpList at h1
  by_cases hw : Region.wanted o (yielded l.toArray a.tmps) = true
  · rw [if_pos hw] at h1 ⊢
    rcases h1 with h1 | ⟨ha, hlets⟩
    · refine .inl ?_
      unfold Oper.wp at h1 ⊢
      generalize (execOp a.eval o).run P w = r at *
      cases r with
      | ok m w' =>
        cases m <;> simp only [Oper.upon] at h1 ⊢ <;> first | exact h1 | exact h1.mono fun e w'' he => by cases e <;> exact he
      | halt x w' => cases x <;> simp only [Oper.upon] at h1 ⊢ <;> exact h1
    · exact .inr ⟨ha, hlets⟩
  · rw [if_neg hw] at h1 ⊢
    exact h1
theorem TQ.any (hg : gS.le g) (hL : Sel LS L) (h : TA P ops Q gS LS fuel listed n ds S g L) : TQ (AnyQ P ops Q gS LS fuel listed) .normal n ds S g L := .mk fun a w hf hs =>
  have hS : St gS LS w := (hs.less hg).sel hL
  ⟨hS, h.h a w hf hs hS⟩
theorem TQ.any_panic {c : List PanicEntry} (h : TQ Q (.panic c) n ds S g L) : TQ (AnyQ P ops Q gS LS fuel listed) (.panic c) n ds S g L := ⟨h.h⟩
end
end Go.TL
namespace Go.TL
open Go Go.RowKit Go.Proofs.YtgollffmdpejiaaGreatDoor

section
variable {P : Program} {ops : Array Oper} {Q : Exit → Act → World → Prop} {rest : List Oper} {n : Nat} {ds : List Deferred} {S : Slots} {g g0 : Gh} {L L' L1 L2 : List Ent}
variable {d : Nat} {op : Op} {ty : TypeId} {pos : String} {aft : Array Edge} {x : Operand} {v v1 v2 : Value} {c : List PanicEntry} {f : FuncId} {args : Array Value} {fn : Func} {R : Ending → Gh → List Ent → Prop} {r1 r2 : ResultVar}
structure Throws (P : Program) (f : FuncId) (args : Array Value) (g : Gh) (L : List Ent) (c : List PanicEntry) : Prop where
  h : ∀ w, St g L w → Calls P f args w fun e w' => e = .panicked c ∧ St g L w'
theorem Throws.of (h : Does P f args g L fun e g' L' => e = .panicked c ∧ g' = g ∧ L' = L) : Throws P f args g L c :=
  ⟨fun w hs => (h.h w hs).mono fun _ _ ⟨_, _, _, ⟨he, hg, hL⟩, hs'⟩ => ⟨he, by subst hg; subst hL; exact hs'⟩⟩
theorem Throws.does (h : Throws P f args g L c) : Does P f args g L fun e g' L' => e = .panicked c ∧ g' = g ∧ L' = L :=
  ⟨fun w hs => (h.h w hs).mono fun _ _ ⟨he, hs'⟩ => ⟨g, L, .refl g, ⟨he, rfl, rfl⟩, hs'⟩⟩
theorem TL.throws (he : Enters P n ds S g L ⟨some d, op, ty, pos, aft, none⟩ f args) (hT : Throws P f args g L c) (hd : Nat.blt d n = true) (k : TQ Q (.panic c) n ds S g L) : TL P ops Q (⟨some d, op, ty, pos, aft, none⟩ :: rest) n ds S g L :=
  .call he hd hT.does fun e g' L1 _ ⟨h1, h2, h3⟩ => by subst h1; subst h2; subst h3; exact .panic k
theorem TL.panic (hx : ev S x = some v) (hv : (match v with | .iface .. => true | _ => false) = true) (k : TQ Q (.panic [{ v := v, recovered := false }]) n ds S g L) : TL P ops Q (⟨none, .panic x, ty, pos, aft, none⟩ :: rest) n ds S g L := .mk fun a w hf hs =>
  wpList_plain rfl fun K hK => by
    unfold Oper.wp
    have : (execOp a.eval ⟨none, .panic x, ty, pos, aft, none⟩).run P w = .halt (.panic v) w := by
      cases v <;> first | (simp at hv; done) | (simp only [execOp, hf.ev hx]; rfl)
    rw [this]
    exact k.h a w hf hs
theorem TQ.end_panic (hd : ds = []) (hg : g0.le g) (h : R (.panicked c) g L') (hL : Sel L' L) : TQ (End P fn R g0) (.panic c) n ds S g L := .mk fun _a _w hf hs =>
  ⟨hf.defers.trans hd, g, L', hg, h, hs.sel hL⟩
theorem TQ.endR0 (hr : fn.results = #[]) (hd : ds = []) (hg : g0.le g) (h : R (.returned (.tuple #[])) g L') (hL : Sel L' L) : TQ (End P fn R g0) .ret n ds S g L :=
  .ends hd hg (fun a w hf hs => by rw [results_eq, hr]; simp) h hL

/-! ### What is deferred -/
theorem TL.defer {xs : List Operand} {vs : List Value} {ats : Array TypeId} (hx : evs S xs = some vs) (k : TL P ops Q rest n (⟨.fn (.func f) #[], vs.toArray⟩ :: ds) S g L) : TL P ops Q (⟨none, .defer { callee := .value (.func f), args := xs.toArray, argTypes := ats }, ty, pos, aft, none⟩ :: rest) n ds S g L := .mk fun a w hf hs =>
  wpList_plain rfl fun K hK => by
    unfold Oper.wp
    have h1 := hf.evs hx
    have h2 : a.eval (.func f) = .func (.func f) #[] #[] := rfl
    have : (execOp a.eval ⟨none, .defer { callee := .value (.func f), args := xs.toArray, argTypes := ats }, ty, pos, aft, none⟩).run P w = .ok (.defer ⟨.fn (.func f) #[], vs.toArray⟩) w := by
      simp [execOp, resolve, h2, Deferred.ofValue, h1]
    rw [this]
    exact hK _ _ (k.h _ w ⟨hf.size, by show _ :: a.defers = _; rw [hf.defers], hf.sl⟩ hs)
structure Late (P : Program) (f : FuncId) (args : Array Value) (u u' : FrameMode) (g : Gh) (L L' : List Ent) : Prop where
  h : ∀ w, St g L w → CallsD P f args u w fun e u1 w' => (∃ v, e = .returned v) ∧ u1 = u' ∧ St g L' w'
def EndD (P : Program) (fn : Func) (R : Ending → Gh → List Ent → Prop) (g : Gh) : Exit → Act → World → Prop := bodyPostD P fn fun e w' => ∃ g' L', g.le g' ∧ R e g' L' ∧ St g' L' w'
theorem Does.ofD {cd : Code} {vs : List Value} (hf : P.funcs[f]? = some fn) (hb : fn.body = some cd) (hn : fn.ntmps = n) (hle : Nat.ble vs.length n = true)
    (h : TC P (EndD P fn R g) cd n [] (argSlots 0 vs) g L) : Does P f vs.toArray g L R := .mk fun w hs => by
  refine calls_of_wp_defers hf hb (h.h _ w ⟨?_, rfl, fun i v hv => ?_⟩ hs)
  · have := Nat.le_of_ble_eq_true hle
    simp [hn]; omega
  · obtain ⟨_, h2⟩ := look_argSlots vs 0 i v hv
    simp only [Nat.sub_zero] at h2
    obtain ⟨hlt, e⟩ := List.getElem?_eq_some_iff.1 h2
    simpa [Array.getD_eq_getD_getElem?, Array.getElem?_append, hlt] using e
theorem Does.ofD1 {cd : Code} {v0 : Value} (hf : P.funcs[f]? = some fn) (hb : fn.body = some cd) (hn : fn.ntmps = n) (hle : Nat.ble 1 n = true)
    (h : TC P (EndD P fn R g) cd n [] [(0, v0)] g L) : Does P f #[v0] g L R := Does.ofD (vs := [v0]) hf hb hn hle h
theorem endD_leaves {u u' : FrameMode} {h : FuncId} {vs : List Value} {a : Act} {w : World} {caps : List Value} (hds : ds = [⟨.fn (.func h) caps.toArray, vs.toArray⟩]) (hu : u ≠ .run) (hc : callable P h = true) (hC : Late P h (vs ++ caps).toArray u u' g L1 L2) (hset : settle u' = .returning)
    (hv : ∀ w, St g L2 w → (results fn a.tmps).run P w = .ok v w) (hg : g0.le g) (hR : R (.returned v) g L') (hL1 : L1.Perm L) (hL : Sel L' L2) (hf : Fr n ds S a) (hs : St g L w) :
    Leaves P fn a.tmps (fun e w' => ∃ g' L', g0.le g' ∧ R e g' L' ∧ St g' L' w') a.defers u w := by
  rw [hf.defers, hds]
  refine leaves_cons (f := h) (args := (vs ++ caps).toArray) hu (by simp [invoke, callFunc_run hc]) ?_
  refine (hC.h w (hs.perm hL1)).mono ?_
  rintro e u1 w' ⟨⟨v0, rfl⟩, rfl, hs'⟩
  show Leaves P fn a.tmps _ [] (settle u1) w'
  rw [hset]
  exact ⟨v, hv w' hs', g, L', hg, hR, hs'.sel hL⟩
variable {h : FuncId} {vs caps : List Value} {u' : FrameMode}
theorem TQ.endD_ret1 (hC : Late P h (vs ++ caps).toArray .returning .returning g L1 L2) (hds : ds = [⟨.fn (.func h) caps.toArray, vs.toArray⟩]) (hc : callable P h = true) (hr : fn.results = #[r1]) (h1 : RVal P n ds S g L2 r1 v1) (hg : g0.le g) (hR : R (.returned v1) g L') (hL1 : L1.Perm L) (hL : Sel L' L2) : TQ (EndD P fn R g0) .ret n ds S g L := .mk fun a w hf hs =>
  endD_leaves hds (by simp) hc hC rfl (fun w' hs' => by rw [results_eq, hr]; simp [h1.h a w' hf hs']) hg hR hL1 hL hf hs
theorem TQ.endD_panic1 (hC : Late P h (vs ++ caps).toArray (.panicking c) u' g L1 L2) (hset : settle u' = .returning) (hds : ds = [⟨.fn (.func h) caps.toArray, vs.toArray⟩]) (hc : callable P h = true) (hr : fn.results = #[r1]) (h1 : RVal P n ds S g L2 r1 v1) (hg : g0.le g) (hR : R (.returned v1) g L') (hL1 : L1.Perm L) (hL : Sel L' L2) : TQ (EndD P fn R g0) (.panic c) n ds S g L := .mk fun a w hf hs =>
  endD_leaves hds (by simp) hc hC hset (fun w' hs' => by rw [results_eq, hr]; simp [h1.h a w' hf hs']) hg hR hL1 hL hf hs
theorem TQ.endD_ret2 (hC : Late P h (vs ++ caps).toArray .returning .returning g L1 L2) (hds : ds = [⟨.fn (.func h) caps.toArray, vs.toArray⟩]) (hc : callable P h = true) (hr : fn.results = #[r1, r2]) (h1 : RVal P n ds S g L2 r1 v1) (h2 : RVal P n ds S g L2 r2 v2) (hg : g0.le g) (hR : R (.returned (.tuple #[v1, v2])) g L') (hL1 : L1.Perm L) (hL : Sel L' L2) : TQ (EndD P fn R g0) .ret n ds S g L := .mk fun a w hf hs =>
  endD_leaves hds (by simp) hc hC rfl (fun w' hs' => by rw [results_eq, hr]; simp [h1.h a w' hf hs', h2.h a w' hf hs']) hg hR hL1 hL hf hs
theorem TQ.endD_panic2 (hC : Late P h (vs ++ caps).toArray (.panicking c) u' g L1 L2) (hset : settle u' = .returning) (hds : ds = [⟨.fn (.func h) caps.toArray, vs.toArray⟩]) (hc : callable P h = true) (hr : fn.results = #[r1, r2]) (h1 : RVal P n ds S g L2 r1 v1) (h2 : RVal P n ds S g L2 r2 v2) (hg : g0.le g) (hR : R (.returned (.tuple #[v1, v2])) g L') (hL1 : L1.Perm L) (hL : Sel L' L2) : TQ (EndD P fn R g0) (.panic c) n ds S g L := .mk fun a w hf hs =>
  endD_leaves hds (by simp) hc hC hset (fun w' hs' => by rw [results_eq, hr]; simp [h1.h a w' hf hs', h2.h a w' hf hs']) hg hR hL1 hL hf hs
end
def NoT (v : Value) (t : TypeId) : Prop := v = .nilIface ∨ ∃ T u, v = .iface T u ∧ Nat.beq T t = false
theorem Y.assert_noT {P : Program} {n : Nat} {ds : List Deferred} {S : Slots} {g : Gh} {L : List Ent} {dst : Option Nat} {ty : TypeId} {pos : String} {aft : Array Edge} {gd : Option (Nat × Bool)} {x : Operand} {v z : Value} {t t' : TypeId} {sz bytes : Nat} [h : Con P t] [hi : Inf P t sz bytes z] (hx : ev S x = some v) (hv : NoT v t) : Yields P n ds S g L ⟨dst, .typeAssert x t' t true, ty, pos, aft, gd⟩ (.tuple #[z, .bool false]) := by
  rcases hv with rfl | ⟨T, u, rfl, hne⟩
  · exact Y.assert_nil hx
  · exact Y.assert_no hx hne
theorem Y.min_int {P : Program} {n : Nat} {ds : List Deferred} {S : Slots} {g : Gh} {L : List Ent} {dst : Option Nat} {ty : TypeId} {pos : String} {aft : Array Edge} {gd : Option (Nat × Bool)} {x y : Operand} {t t' : TypeId} {k : IntKind} {p q z : Int} (hx : ev S x = some (.int k p)) (hy : ev S y = some (.int k q)) (hz : (if q < p then q else p) = z) : Yields P n ds S g L ⟨dst, .call { callee := .builtin .min, args := #[x, y], argTypes := #[t, t'] }, ty, pos, aft, gd⟩ (.int k z) := .mk fun a w hf _ => by
  subst hz
  simp [execOp, resolve, invoke, BigFrame.builtin_min, Builtin.min_, Builtin.min2, hf.ev hx, hf.ev hy]
theorem Y.build_two {P : Program} {n : Nat} {ds : List Deferred} {S : Slots} {g : Gh} {L : List Ent} {dst : Option Nat} {ty : TypeId} {pos : String} {aft : Array Edge} {gd : Option (Nat × Bool)} {x y : Operand} {t e : TypeId} {u v z1 z2 z3 : Value} {sz b1 b2 : Nat} [ht : Und P t (.array 2 e)] [he : Inf P e 1 b1 z3] [hi : Inf P t sz b2 (.agg #[z1, z2])]
    (hx : ev S x = some u) (hy : ev S y = some v) (h1 : u.one = true) (h2 : v.one = true) : Yields P n ds S g L ⟨dst, .build t #[(0, x), (1, y)], ty, pos, aft, gd⟩ (.agg #[u, v]) := .mk fun a w hf _ => by
  obtain ⟨j, hj, hs, _⟩ := he.eq
  have hz := run_zero (P := P) (t := t) (z := .agg #[z1, z2]) w
  have c0 : (Value.agg #[z1, z2]).cells = #[z1, z2] := rfl
  have c1 := cells_one h1
  have c2 := cells_one h2
  generalize hcu : u.cells = cu at *
  generalize hcv : v.cells = cv at *
  subst c1
  subst c2
  simp [execOp, Instr.build, hz, run_und ht.eq, run_size hj, hs, hf.ev hx, hf.ev hy, Instr.fill, hcu, hcv, c0]
theorem Y.index_agg {P : Program} {n : Nat} {ds : List Deferred} {S : Slots} {g : Gh} {L : List Ent} {dst : Option Nat} {ty : TypeId} {pos : String} {aft : Array Edge} {gd : Option (Nat × Bool)} {x y : Operand} {t e : TypeId} {v z : Value} {cs : List Value} {len i b1 : Nat} {k : IntKind} {p : Int} [ht : Und P t (.array len e)] [he : Inf P e 1 b1 z] [hs : Sc P e]
    (hx : ev S x = some (.agg cs.toArray)) (hy : ev S y = some (.int k p)) (hp : p = i) (hi : i < len) (hv : cs[i]? = some v) : Yields P n ds S g L ⟨dst, .index t x y, ty, pos, aft, gd⟩ v := .mk fun a w hf _ => by
  subst hp
  obtain ⟨j, hj, hsz, _⟩ := he.eq
  obtain ⟨d, hd, ha⟩ := hs.eq
  simp [execOp, Instr.index, asIntOf, run_und ht.eq, run_size hj, hsz, hf.ev hx, hf.ev hy, hi, part, run_isAgg hd, ha, hv]
end Go.TL
namespace Go.TL
open Go Go.RowKit Go.Proofs.YtgollffmdpejiaaGreatDoor
section
variable {P : Program} {ops : Array Oper} {Q : Exit → Act → World → Prop} {l : List Oper} {n : Nat} {ds : List Deferred} {S : Slots} {g g0 : Gh} {L L' : List Ent}
variable {dst : Option Nat} {ty : TypeId} {pos : String} {aft : Array Edge} {gd : Option (Nat × Bool)} {x : Operand} {v : Value} {t t' e E : TypeId} {ao : Option Addr} {k cap sz b : Nat} {bs : List UInt8} {cs : List Value}
theorem TL.freeze_obj (b : Nat) (sz : Nat) (hm : Pick (.obj b (.cells cs.toArray e (0, 0))) L L') (hl : cs.length = k * sz) (hk : k ≤ maxLen) (kk : ∀ g', g.le g' → Sl g' (.slice (some ⟨b, 0, none⟩) k k) k sz cs → TL P ops Q l n ds S g' L') : TL P ops Q l n ds S g L :=
  .obj_row hm hl hk (.freeze .here kk)
theorem TQ.less {c : Exit} (hg : g0.le g) (h : TQ Q c n ds S g0 L) : TQ Q c n ds S g L := .mk fun a w hf hs => h.h a w hf (hs.less hg)
end
section
variable {P : Program} {ops : Array Oper} {Q : Exit → Act → World → Prop} {rest : List Oper} {n : Nat} {ds : List Deferred} {S : Slots} {g gS : Gh} {L L' LS : List Ent}
variable {fuel : Nat} {listed : Array Bool} {v : Value} {d : Nat} {op : Op} {ty : TypeId} {pos : String} {aft : Array Edge} {e : TypeId} {sz k : Nat} {xs : List Value}
theorem TA.take_g {l : List Oper} (i : Nat) {j t : Nat} {want : Bool} {ap : Array Bool} (hr : (Region.ready .any l.toArray listed).contains i = true) (hi : nthO l i = some ⟨some d, op, ty, pos, aft, some (j, want)⟩) (hg : gslot l.toArray j = some t) (hb : look t S = some (.bool want)) (hy : Yields P n ds S gS LS ⟨some d, op, ty, pos, aft, some (j, want)⟩ v) (hf : Region.free .any l.toArray listed i = true) (hn : Region.noSelect l.toArray = true)
    (hd : Nat.blt d n = true) (hQ : ∀ c a w, Q (.panic c) (a.put (some d) v) w → Q (.panic c) a w) (hl : listed.setIfInBounds i true = ap) (k : TA P l.toArray Q gS LS fuel ap n ds ((d, v) :: S) g L) : TA P l.toArray Q gS LS (fuel + 1) listed n ds S g L := .mk fun a w hfr hs hS => by
  subst hl
  exact wpAnyH_take ((nthO_eq l i).trans hi) hn hf hr hQ (.inl ⟨by rw [wanted_of hg hb hfr]; simp, fun w' hw' => hy.h a w' hfr hw'⟩) hS (k.h _ w (hfr.put hd v) hs hS)
theorem TL.row_slice {l : List Oper} (hm : Pick (.row e sz v k xs) L L') (h : ∀ ao cap, v = .slice ao k cap → xs.length = k * sz → TL P ops Q l n ds S g L) : TL P ops Q l n ds S g L := .mk fun a w hf hs => by
  have hr : w.ownsRow 0 e sz v k xs := (hs.perm hm.perm).st _ List.mem_cons_self
  obtain ⟨ao, cap, hv⟩ := Go.TL.row_slice hr
  exact (h ao cap hv hr.1).h a w hf hs
theorem Y.eql_is {gd : Option (Nat × Bool)} {dst : Option Nat} {x y : Operand} {t t' : TypeId} {s r : List UInt8} {b : Bool} (h : decide (s = r) = b) (hx : ev S x = some (str s)) (hy : ev S y = some (str r)) : Yields P n ds S g L ⟨dst, .binOp .eql t x y t', ty, pos, aft, gd⟩ (.bool b) := by
  subst h; exact Y.eql_str hx hy
end
end Go.TL
namespace Go.TL
open Go Go.RowKit Go.Proofs.YtgollffmdpejiaaGreatDoor
section
variable {P : Program} {Q : Exit → Act → World → Prop} {n : Nat} {ds : List Deferred} {S : Slots} {g : Gh} {L L' : List Ent} {w w' : World} {e : TypeId} {sz k cap b : Nat} {v : Value} {xs : List Value}
theorem St.fresh_row (hs : St g L w) (hb : Below w.heap.size w w') (hr : w'.ownsRow w.heap.size e sz v k xs) : St g (.row e sz v k xs :: L) w' := by
  have hs' := hs.ext hb
  have hlow : ∀ c, v.ownBlock = some c → w.heap.size ≤ c := fun c hc => owns_low hr c hc
  refine ⟨hs'.os, hs'.tape, hs'.out, hs'.hp, fun x hx => ?_, ?_, fun c hc => ?_⟩
  · rcases List.mem_cons.1 hx with rfl | hx
    · refine ⟨hr.1, ?_⟩
      rcases hr.2 with h | ⟨g0, cap, cur, h1, h2, h3⟩
      · exact .inl h
      · exact .inr ⟨g0, cap, cur, h1, Nat.zero_le _, h3⟩
    · exact hs'.st x hx
  · rw [fps_cons]
    refine List.nodup_append.2 ⟨?_, hs'.nd, fun a ha c hc hac => ?_⟩
    · show v.ownBlock.toList.Nodup
      cases v.ownBlock <;> simp
    · have h1 := hlow a (by simpa [Ent.fp, Option.mem_toList] using ha)
      have h2 := hs.lt c hc
      omega
  · rw [fps_cons] at hc
    rcases List.mem_append.1 hc with hc | hc
    · have h1 := hlow c (by simpa [Ent.fp, Option.mem_toList] using hc)
      cases h2 : g.hp c with
      | none => rfl
      | some o =>
        have := (Array.getElem?_eq_some_iff.1 (hs.hp c o h2)).1
        omega
    · exact hs'.ap c hc
end
section
variable {P : Program} {ops : Array Oper} {Q : Exit → Act → World → Prop} {rest : List Oper} {n : Nat} {ds : List Deferred} {S : Slots} {g : Gh} {L L' : List Ent} {d b j c k : Nat} {x : Operand} {s : List UInt8} {ty : TypeId} {pos : String} {aft : Array Edge}
theorem TL.next_at (hx : ev S x = some (.pointer (some ⟨b, 0, none⟩))) (hm : Pick (.obj b (.stringIter ⟨s.toArray⟩ j)) L L') (_hj : j < s.length) (hd : Utf8.decode ⟨s.toArray⟩ j = (c, k)) (hn : Nat.blt d n = true)
    (kk : TL P ops Q rest n ds ((d, .tuple #[.bool true, .int .i64 j, .int .i32 c]) :: S) g (.obj b (.stringIter ⟨s.toArray⟩ (j + k)) :: L')) : TL P ops Q (⟨some d, .next x true, ty, pos, aft, none⟩ :: rest) n ds S g L :=
  .next_str hx hm hn (fun _ => by rw [hd]; exact kk) (fun h => by omega)
theorem TL.next_end (hx : ev S x = some (.pointer (some ⟨b, 0, none⟩))) (hm : Pick (.obj b (.stringIter ⟨s.toArray⟩ j)) L L') (_hj : s.length ≤ j) (hn : Nat.blt d n = true)
    (kk : TL P ops Q rest n ds ((d, .tuple #[.bool false]) :: S) g (.obj b (.stringIter ⟨s.toArray⟩ j) :: L')) : TL P ops Q (⟨some d, .next x true, ty, pos, aft, none⟩ :: rest) n ds S g L :=
  .next_str hx hm hn (fun h => by omega) (fun _ => kk)
end
end Go.TL
namespace Go.TL
open Go Go.RowKit Go.Proofs.YtgollffmdpejiaaGreatDoor
section
variable {P : Program} {ops : Array Oper} {Q : Exit → Act → World → Prop} {l rest : List Oper} {n : Nat} {ds : List Deferred} {S : Slots} {g : Gh} {L L' M M1 M2 M3 : List Ent} {w w' : World}
variable {d : Nat} {ty : TypeId} {pos : String} {aft : Array Edge} {x y : Operand} {v z : Value} {t e : TypeId} {sz bytes k m : Nat} {xs : List Value}
theorem TC.grp {c : Code} (hp : (M ++ L').Perm L) (h : TC P Q c n ds S g (grp M :: L')) : TC P Q c n ds S g L := .mk fun a w hf hs => h.h a w hf (hs.perm hp).grp
theorem TQ.grp {c : Exit} (hp : (M ++ L').Perm L) (h : TQ Q c n ds S g (grp M :: L')) : TQ Q c n ds S g L := .mk fun a w hf hs => h.h a w hf (hs.perm hp).grp
theorem St.join (h : St g (Go.TL.grp M1 :: Go.TL.grp M2 :: L) w) : St g (Go.TL.grp (M2 ++ M1) :: L) w := by
  have h1 := h.ungrp
  have h2 := (h1.perm (L' := Go.TL.grp M2 :: (M1 ++ L)) List.perm_middle.symm).ungrp
  refine St.grp (h2.perm ?_)
  rw [List.append_assoc]
theorem TQ.join {c : Exit} {L1 L2 : List Ent} (hA : Pick (Go.TL.grp M1) L L1) (hB : Pick (Go.TL.grp M2) L1 L2) (h : TQ Q c n ds S g (Go.TL.grp (M2 ++ M1) :: L2)) : TQ Q c n ds S g L := .mk fun a w hf hs => h.h a w hf ((hs.perm ((hB.perm.cons _).trans hA.perm)).join)
theorem St.gcons {e : Ent} (h : St g (e :: Go.TL.grp M :: L) w) : St g (Go.TL.grp (e :: M) :: L) w := St.grp (M := e :: M) (by
  have h2 := (h.perm (L' := Go.TL.grp M :: e :: L) (List.Perm.swap _ _ _)).ungrp
  exact h2.perm (by rw [List.cons_append]; exact List.perm_middle.symm))
theorem TQ.gcons {c : Exit} {e : Ent} {L1 L2 : List Ent} (hA : Pick e L L1) (hB : Pick (Go.TL.grp M) L1 L2) (h : TQ Q c n ds S g (Go.TL.grp (e :: M) :: L2)) : TQ Q c n ds S g L := .mk fun a w hf hs => h.h a w hf ((hs.perm ((hB.perm.cons _).trans hA.perm)).gcons)
theorem TC.grp_nil {c : Code} (h : TC P Q c n ds S g (Go.TL.grp [] :: L)) : TC P Q c n ds S g L := .grp (M := []) (.refl _) h
theorem TQ.grp_nil {c : Exit} (h : TQ Q c n ds S g (Go.TL.grp [] :: L)) : TQ Q c n ds S g L := .grp (M := []) (.refl _) h
/-! ### What is owned, read as what stays -/
theorem TL.make_room [ht : Und P t (.slice e)] [hi : Inf P e sz bytes z] {kl kc : IntKind} {p : Int} (hx : ev S x = some (.int kl 0)) (hy : ev S y = some (.int kc p)) (hp : p = m) (hb : bytes * m ≤ 281474976710656) (hm : m ≤ maxLen) (hd : Nat.blt d n = true)
    (kk : ∀ b, TL P ops Q rest n ds ((d, .slice (some ⟨b, 0, none⟩) 0 m) :: S) g (.row e sz (.slice (some ⟨b, 0, none⟩) 0 m) 0 [] :: L)) : TL P ops Q (⟨some d, .makeSlice t x y, ty, pos, aft, none⟩ :: rest) n ds S g L := .mk fun a w hf hs => by
  obtain ⟨i, hii, hs2, hb2, hz⟩ := hi.eq
  refine wpList_make_own w rfl x y t rfl w.heap.size e i z sz ht.eq hii hz hs2 kl kc p m (hf.ev hx) (hf.ev hy) hp (by rw [hb2]; exact hb) hm (Nat.le_refl _) fun w' hr hg => ?_
  exact (kk _).h _ w' (hf.put hd _) (hs.fresh_row ((Below.refl _ _).grown hg (Nat.le_refl _) (fun k h => by cases h)) hr)
end
end Go.TL
namespace Go.TL
open Go Go.RowKit Go.Proofs.YtgollffmdpejiaaGreatDoor
/-! ### Short forms -/
structure Br (b : Bool) (X Y : Prop) : Prop where
  y : b = true → X
  n : b = false → Y
section
variable {b : Bool} {X Y : Prop} {p : Prop} [Decidable p] {α : Type} {u v : α} [Decidable (u = v)] {m : Nat} [Decidable ((m : Int) = 0)]
theorem Br.t (h : b = true) (k : X) : Br b X Y := ⟨fun _ => k, fun e => by rw [h] at e; cases e⟩
theorem Br.f (h : b = false) (k : Y) : Br b X Y := ⟨fun e => (by rw [h] at e; cases e), fun _ => k⟩
theorem Br.ky (h : p) (k : X) : Br (decide p) X Y := .t (decide_eq_true h) k
theorem Br.kn (h : ¬ p) (k : Y) : Br (decide p) X Y := .f (decide_eq_false h) k
theorem Br.nky (h : p) (k : Y) : Br (!decide p) X Y := .f (by rw [decide_eq_true h]; rfl) k
theorem Br.nkn (h : ¬ p) (k : X) : Br (!decide p) X Y := .t (by rw [decide_eq_false h]; rfl) k
theorem Br.eq (k : u = v → X) (k' : Hn (¬ u = v) → Y) : Br (decide (u = v)) X Y := ⟨fun e => k (of_decide_eq_true e), fun e => k' ⟨of_decide_eq_false e⟩⟩
theorem Br.dec (k : p → X) (k' : ¬ p → Y) : Br (decide p) X Y := ⟨fun e => k (of_decide_eq_true e), fun e => k' (of_decide_eq_false e)⟩
end
section
variable {P : Program} {ops : Array Oper} {Q Q' : Exit → Act → World → Prop} {rest : List Oper} {n : Nat} {ds : List Deferred} {S : Slots} {g : Gh} {L : List Ent}
variable {op : Op} {ty : TypeId} {pos : String} {aft : Array Edge} {c : Operand} {x y : Code} {b : Bool} {dst : Option Nat} {j t : Nat} {want : Bool} {e e' : Exit}
theorem TC.cond (hc : ev S c = some (.bool b)) (h : Br b (TC P Q x n ds S g L) (TC P Q y n ds S g L)) : TC P Q (.cond c x y) n ds S g L := .cond_bool hc h.y h.n
theorem TL.guard (hj : gslot ops j = some t) (hb : look t S = some (.bool b)) (ht : Nat.blt t n = true) (h : Br b (TL P ops Q (⟨dst, op, ty, pos, aft, some (j, want)⟩ :: rest) n ds ((t, .bool true) :: S) g L) (TL P ops Q (⟨dst, op, ty, pos, aft, some (j, want)⟩ :: rest) n ds ((t, .bool false) :: S) g L)) : TL P ops Q (⟨dst, op, ty, pos, aft, some (j, want)⟩ :: rest) n ds S g L := .guard_split hj hb ht h.y h.n
class Down (Q : Exit → Act → World → Prop) (e : Exit) (Q' : outParam (Exit → Act → World → Prop)) (e' : outParam Exit) : Prop where
  h : ∀ a w, Q' e' a w → Q e a w
theorem TQ.down [d : Down Q e Q' e'] (h : TQ Q' e' n ds S g L) : TQ Q e n ds S g L := .mk fun a w hf hs => d.h a w (h.h a w hf hs)
instance : Down (Then P y Q) .ret Q .ret := ⟨fun _ _ h => h⟩
instance {id : Nat} : Down (Then P y Q) (.exit id) Q (.exit id) := ⟨fun _ _ h => h⟩
instance {c : List PanicEntry} : Down (Then P y Q) (.panic c) Q (.panic c) := ⟨fun _ _ h => h⟩
instance {id : Nat} : Down (Exit.inBlock id Q) .normal Q .normal := ⟨fun _ _ h => h⟩
instance {id : Nat} : Down (Exit.inBlock id Q) .ret Q .ret := ⟨fun _ _ h => h⟩
instance {id : Nat} {c : List PanicEntry} : Down (Exit.inBlock id Q) (.panic c) Q (.panic c) := ⟨fun _ _ h => h⟩
instance {id : Nat} : Down (Exit.inBlock id Q) (.exit id) Q .normal := ⟨fun a w h => by
  show if id = id then _ else _
  rw [if_pos rfl]; exact h⟩
section
variable {α : Type} {p : α → Prop} {m : α → Nat} {S' : α → Slots} {G : α → Gh} {L' : α → List Ent} {z : α} {id : Nat} {ch : List PanicEntry}
instance : Down (Round n ds p m S' G L' z Q) .ret Q .ret := ⟨fun _ _ h => h⟩
instance : Down (Round n ds p m S' G L' z Q) (.exit id) Q (.exit id) := ⟨fun _ _ h => h⟩
instance : Down (Round n ds p m S' G L' z Q) (.panic ch) Q (.panic ch) := ⟨fun _ _ h => h⟩
end
end
theorem oneA {vs : List Value} (h : vs.all Value.one = true := by first | rfl | ((try simp only [List.set_cons_zero, List.set_cons_succ]); refine all1 (by first | rfl | assumption) ?_; first | rfl | (refine all1 (by first | rfl | assumption) ?_; first | rfl | (refine all1 (by first | rfl | assumption) ?_; rfl))) | fail) : vs.all Value.one = true := h
theorem rvA {P : Program} {n : Nat} {ds : List Deferred} {S : Slots} {g : Gh} {L : List Ent} {r : ResultVar} {v : Value} (h : RVal P n ds S g L r v := by first | exact RVal.tmp rfl | exact RVal.cells rfl pkA (by rfl) | exact RVal.cell rfl pkA rfl | fail) : RVal P n ds S g L r v := h
theorem selA {L' L : List Ent} (h : Sel L' L := by first | ((repeat (first | with_reducible apply Sel.refl | with_reducible apply Sel.nil | with_reducible apply Sel.cons (by repeat (first | with_reducible apply Pick.here | with_reducible apply Pick.there)) | with_reducible apply Sel.drop)); done) | ((repeat (first | apply Sel.refl | apply Sel.nil | apply Sel.cons (by repeat (first | apply Pick.here | apply Pick.there)) | apply Sel.drop)); done) | fail) : Sel L' L := h
theorem subA {S' S : Slots} (h : Sub S' S := by repeat (first | exact trivial | refine ⟨rfl, ?_⟩)) : Sub S' S := h
theorem leA {g g' : Gh} (h : g.le g' := by first | with_reducible apply Gh.le.refl | assumption | apply Gh.le.refl) : g.le g' := h
theorem permA {L' L : List Ent} (h : L'.Perm L := by repeat (first | apply List.Perm.refl | apply Pk.cons (by repeat (first | apply Pick.here | apply Pick.there)))) : L'.Perm L := h
end Go.TL
