/-
  A walk by lemmas: slots as a list, the world as what stays and what is owned.
-/
import Derived.WalkKit
import Derived.WalkSpells
import Derived.WalkLawsBesides
import Derived.Deep.QuietTactic
namespace Go.TL
open Go Go.RowKit

/-! ### Slots -/
abbrev Slots := List (Nat × Value)
def look (i : Nat) : Slots → Option Value
  | [] => none
  | (j, v) :: S => bif Nat.beq i j then some v else look i S

/-- What is known of a frame. -/
structure Fr (n : Nat) (ds : List Deferred) (S : Slots) (a : Act) : Prop where
  size : a.tmps.size = n
  defers : a.defers = ds
  sl : ∀ i v, look i S = some v → a.tmps.getD i undef = v

def ev (S : Slots) : Operand → Option Value
  | .tmp t => look t S
  | .const v => some v
  | .global g => some (.pointer (some ⟨g, 0, none⟩))
  | .func f => some (.func (.func f) #[] #[])

section
variable {n : Nat} {ds : List Deferred} {S : Slots} {a : Act}
theorem Fr.ev (h : Fr n ds S a) {x : Operand} {v : Value} (hx : ev S x = some v) : a.eval x = v := by
  cases x with
  | tmp t => exact h.sl t v hx
  | const u => exact Option.some.inj hx
  | global g => exact Option.some.inj hx
  | func f => exact Option.some.inj hx

theorem Fr.put (h : Fr n ds S a) {d : Nat} (hd : Nat.blt d n = true) (v : Value) : Fr n ds ((d, v) :: S) (a.put (some d) v) := by
  have hlt : d < a.tmps.size := by rw [h.size]; exact Nat.le_of_ble_eq_true hd
  refine ⟨by simp [Act.put, h.size], h.defers, fun i u hu => ?_⟩
  rw [look] at hu
  by_cases hi : i = d
  · subst hi
    have : Nat.beq i i = true := by simp
    rw [this] at hu
    have : v = u := Option.some.inj hu
    subst this
    simp [Act.put, Array.getD_eq_getD_getElem?, hlt]
  · have : Nat.beq i d = false := by
      cases e : Nat.beq i d with
      | false => rfl
      | true => exact (hi (Nat.eq_of_beq_eq_true e)).elim
    rw [this] at hu
    have := h.sl i u hu
    simp only [Act.put, Array.getD_eq_getD_getElem?] at this ⊢
    rw [Array.getElem?_setIfInBounds_ne (Ne.symm hi)]
    exact this
theorem Fr.put0 (h : Fr n ds S a) (v : Value) : Fr n ds S (a.put none v) := h
end
/-- Every slot of the first list (what stands ahead counts) is known by the second. -/
def SubX (seen : List Nat) : Slots → Slots → Prop
  | [], _ => True
  | (i, v) :: S', S => bif seen.any (Nat.beq i) then SubX seen S' S else look i S = some v ∧ SubX (i :: seen) S' S
abbrev Sub (S' S : Slots) : Prop := SubX [] S' S
theorem SubX.look : ∀ (S' S : Slots) (seen : List Nat), SubX seen S' S → ∀ i v, look i S' = some v → seen.any (Nat.beq i) = false → look i S = some v
  | [], _, _, _, _, _, hv, _ => by cases hv
  | (j, u) :: S', S, seen, h, i, v, hv, hi => by
    rw [Go.TL.look] at hv
    rw [SubX] at h
    by_cases hb : Nat.beq i j = true
    · rw [hb] at hv
      have e : u = v := Option.some.inj hv
      have : i = j := Nat.eq_of_beq_eq_true hb
      subst e; subst this
      rw [hi] at h
      exact h.1
    · rw [Bool.not_eq_true] at hb
      rw [hb] at hv
      cases hj : seen.any (Nat.beq j) with
      | true => rw [hj] at h; exact SubX.look S' S seen h i v hv hi
      | false =>
        rw [hj] at h
        refine SubX.look S' S (j :: seen) h.2 i v hv ?_
        rw [List.any_cons, hb, hi]; rfl
theorem Sub.look {S' S : Slots} (h : Sub S' S) : ∀ i v, look i S' = some v → look i S = some v := fun i v hv => SubX.look S' S [] h i v hv rfl
theorem Sub.refl (S : Slots) : ∀ i v, Go.TL.look i S = some v → Go.TL.look i S = some v := fun _ _ h => h
theorem Fr.sub {n : Nat} {ds : List Deferred} {S S' : Slots} {a : Act} (h : Fr n ds S a) (hs : Sub S' S) : Fr n ds S' a :=
  ⟨h.size, h.defers, fun i v hv => h.sl i v (hs.look i v hv)⟩

/-! ### The world: what stays, and what is owned -/
structure Gh where
  hp : Nat → Option Obj
  os : Os
  tape : Nat → Question → Nat
  out : Array (Nat × ByteArray)
structure Gh.le (g g' : Gh) : Prop where
  hp : ∀ b o, g.hp b = some o → g'.hp b = some o
  os : g'.os = g.os
  tape : g'.tape = g.tape
  out : g'.out = g.out
theorem Gh.le.refl (g : Gh) : g.le g := ⟨fun _ _ h => h, rfl, rfl, rfl⟩
theorem Gh.le.trans {a b c : Gh} (h : a.le b) (k : b.le c) : a.le c :=
  ⟨fun _ _ x => k.hp _ _ (h.hp _ _ x), k.os.trans h.os, k.tape.trans h.tape, k.out.trans h.out⟩
/-- The whole world stays. -/
def Gh.of (w : World) : Gh := ⟨fun b => w.heap[b]?, w.os, w.tape, w.output⟩

inductive Ent where
  | obj (b : Nat) (o : Obj)
  | row (E : TypeId) (sz : Nat) (v : Value) (n : Nat) (xs : List Value)
def Ent.fp : Ent → List Nat
  | .obj b _ => [b]
  | .row _ _ v _ _ => v.ownBlock.toList
def Ent.st (w : World) : Ent → Prop
  | .obj b o => w.heap[b]? = some o
  | .row E sz v n xs => w.ownsRow 0 E sz v n xs
def fps (L : List Ent) : List Nat := L.flatMap Ent.fp
@[simp] theorem fps_nil : fps [] = [] := rfl
@[simp] theorem fps_cons (e : Ent) (L : List Ent) : fps (e :: L) = e.fp ++ fps L := rfl
structure St (g : Gh) (L : List Ent) (w : World) : Prop where
  os : w.os = g.os
  tape : w.tape = g.tape
  out : w.output = g.out
  hp : ∀ b o, g.hp b = some o → w.heap[b]? = some o
  st : ∀ e ∈ L, e.st w
  nd : (fps L).Nodup
  ap : ∀ b ∈ fps L, g.hp b = none

theorem Ent.st.lt {w : World} {e : Ent} (h : e.st w) : ∀ b ∈ e.fp, b < w.heap.size := by
  intro b hb
  cases e with
  | obj c o =>
    have : b = c := by simpa [Ent.fp] using hb
    subst this
    exact (Array.getElem?_eq_some_iff.1 h).1
  | row E sz v n xs =>
    exact (World.ownsRow.lt h b (by simpa [Ent.fp, Option.mem_toList] using hb)).2
theorem Ent.st.of_block {w w' : World} {e : Ent} (h : e.st w) (hb : ∀ b ∈ e.fp, w'.heap[b]? = w.heap[b]?) : e.st w' := by
  cases e with
  | obj c o => exact (hb c (by simp [Ent.fp])).trans h
  | row E sz v n xs =>
    refine ⟨h.1, ?_⟩
    rcases h.2 with h2 | ⟨b, cap, cur, hv, h0, hh, r⟩
    · exact .inl h2
    · subst hv
      exact .inr ⟨b, cap, cur, rfl, h0, (hb b (by simp [Ent.fp, Value.ownBlock])).trans hh, r⟩
section
variable {g : Gh} {L : List Ent} {w w' : World}
theorem St.lt (h : St g L w) : ∀ b ∈ fps L, b < w.heap.size := by
  intro b hb
  obtain ⟨e, he, hb⟩ := List.mem_flatMap.1 hb
  exact (h.st e he).lt b hb
theorem St.start (w : World) : St (.of w) [] w := ⟨rfl, rfl, rfl, fun _ _ h => h, by simp, by simp, by simp⟩
theorem St.below (h : St (.of w) [] w') : Below w.heap.size w w' := by
  have hk : ∀ k, k < w.heap.size → w'.heap[k]? = w.heap[k]? := fun k hk => by
    rw [h.hp k (w.heap[k]) (Array.getElem?_eq_getElem hk), Array.getElem?_eq_getElem hk]
  refine ⟨h.os, h.tape, h.out, ?_, hk⟩
  rcases Nat.lt_or_ge w'.heap.size w.heap.size with hlt | hge
  · have := hk w'.heap.size hlt
    rw [Array.getElem?_eq_none (Nat.le_refl _), Array.getElem?_eq_getElem hlt] at this
    cases this
  · exact hge
theorem fps_sub {L' L : List Ent} (h : L'.Sublist L) : (fps L').Sublist (fps L) := by
  induction h with
  | slnil => exact .slnil
  | cons e _ ih => rw [fps_cons]; exact ih.trans (List.sublist_append_right _ _)
  | cons_cons e _ ih => rw [fps_cons, fps_cons]; exact List.Sublist.append (List.Sublist.refl _) ih
/-- The owned part may be forgotten. -/
theorem St.forget (h : St g L w) {L' : List Ent} (hL : L'.Sublist L) : St g L' w :=
  ⟨h.os, h.tape, h.out, h.hp, fun e he => h.st e (hL.subset he), h.nd.sublist (fps_sub hL), fun b hb => h.ap b ((fps_sub hL).subset hb)⟩
theorem St.tail {e : Ent} (h : St g (e :: L) w) : St g L w := h.forget (List.sublist_cons_self _ _)
theorem St.perm (h : St g L w) {L' : List Ent} (hL : L'.Perm L) : St g L' w :=
  ⟨h.os, h.tape, h.out, h.hp, fun e he => h.st e (hL.mem_iff.1 he), ((hL.flatMap_right Ent.fp).nodup_iff).2 h.nd, fun b hb => h.ap b ((hL.flatMap_right Ent.fp).mem_iff.1 hb)⟩
/-- Less stays. -/
theorem St.less (h : St g L w) {g0 : Gh} (hg : g0.le g) : St g0 L w :=
  ⟨h.os.trans hg.os, h.tape.trans hg.tape, h.out.trans hg.out, fun b o hb => h.hp b o (hg.hp b o hb), h.st, h.nd, fun b hb => by
    cases e : g0.hp b with
    | none => rfl
    | some o => have := h.ap b hb; rw [hg.hp b o e] at this; cases this⟩
theorem St.drew (h : St g L w) : St g L { w with drawn := w.drawn + 1 } :=
  ⟨h.os, h.tape, h.out, h.hp, fun e he => (h.st e he).of_block fun _ _ => rfl, h.nd, h.ap⟩
theorem St.alloc (h : St g L w) (o : Obj) : St g (.obj w.heap.size o :: L) { w with heap := w.heap.push o } := by
  have hold : ∀ b, b < w.heap.size → (w.heap.push o)[b]? = w.heap[b]? := fun b hb => by rw [Array.getElem?_push, if_neg (by omega)]
  refine ⟨h.os, h.tape, h.out, fun b p hb => ?_, fun e he => ?_, ?_, fun b hb => ?_⟩
  · have := h.hp b p hb
    exact (hold b (Array.getElem?_eq_some_iff.1 this).1).trans this
  · rcases List.mem_cons.1 he with rfl | he
    · show (w.heap.push o)[w.heap.size]? = some o; simp
    · exact (h.st e he).of_block fun b hb => hold b ((h.st e he).lt b hb)
  · rw [fps_cons]
    exact List.nodup_append.2 ⟨by simp [Ent.fp], h.nd, fun a ha b hb e => by
      have : a = w.heap.size := by simpa [Ent.fp] using ha
      have := h.lt b hb
      omega⟩
  · rw [fps_cons] at hb
    rcases List.mem_append.1 hb with hb | hb
    · have hb : b = w.heap.size := by simpa [Ent.fp] using hb
      subst hb
      cases e : g.hp w.heap.size with
      | none => rfl
      | some p => have := h.hp _ _ e; simp at this
    · exact h.ap b hb
/-- An owned block is written anew. -/
theorem St.write {b : Nat} {o o' : Obj} (h : St g (.obj b o :: L) w) (hw : w'.heap[b]? = some o') (hk : ∀ k, k ≠ b → w'.heap[k]? = w.heap[k]?)
    (hos : w'.os = w.os) (htape : w'.tape = w.tape) (hout : w'.output = w.output) : St g (.obj b o' :: L) w' := by
  have hb0 : g.hp b = none := h.ap b (by simp [Ent.fp])
  have hnot : b ∉ fps L := by
    have := h.nd
    rw [fps_cons] at this
    intro hm
    exact (List.nodup_append.1 this).2.2 b (by simp [Ent.fp]) b hm rfl
  refine ⟨hos.trans h.os, htape.trans h.tape, hout.trans h.out, fun c p hc => ?_, fun e he => ?_, h.nd, h.ap⟩
  · rw [hk c (fun e => by rw [e, hb0] at hc; cases hc)]; exact h.hp c p hc
  · rcases List.mem_cons.1 he with rfl | he
    · exact hw
    · exact (h.st e (List.mem_cons_of_mem _ he)).of_block fun c hc => hk c (fun e' => hnot (by rw [← e']; exact List.mem_flatMap.2 ⟨e, he, hc⟩))
end
/-! ### The owned part, picked apart -/
inductive Pick (e : Ent) : List Ent → List Ent → Prop
  | here {L : List Ent} : Pick e (e :: L) L
  | there {x : Ent} {L L' : List Ent} (h : Pick e L L') : Pick e (x :: L) (x :: L')
theorem Pick.perm {e : Ent} {L L' : List Ent} (h : Pick e L L') : (e :: L').Perm L := by
  induction h with
  | here => exact .refl _
  | there _ ih => exact (List.Perm.swap _ _ _).trans (ih.cons _)
/-- Without the entries of some blocks. -/
def Ent.at (b : Nat) : Ent → Prop
  | .obj c _ => c = b
  | .row _ _ v _ _ => v.ownBlock = some b
inductive Drop : List Nat → List Ent → List Ent → Prop
  | nil {L : List Ent} : Drop [] L L
  | cons {b : Nat} {o : Obj} {bs : List Nat} {L L1 L2 : List Ent} (p : Pick (.obj b o) L L1) (h : Drop bs L1 L2) : Drop (b :: bs) L L2
inductive Sel : List Ent → List Ent → Prop
  | refl {L : List Ent} : Sel L L
  | nil {L : List Ent} : Sel [] L
  | cons {e : Ent} {L L1 L' : List Ent} (p : Pick e L L1) (h : Sel L' L1) : Sel (e :: L') L
  | drop {e : Ent} {L L' : List Ent} (h : Sel L' L) : Sel L' (e :: L)
theorem Sel.perm {L' L : List Ent} (h : Sel L' L) : ∃ M, (L' ++ M).Perm L := by
  induction h with
  | refl => exact ⟨[], by rw [List.append_nil]⟩
  | nil => exact ⟨_, List.Perm.refl _⟩
  | cons p _ ih => obtain ⟨M, hM⟩ := ih; exact ⟨M, (hM.cons _).trans p.perm⟩
  | drop _ ih => obtain ⟨M, hM⟩ := ih; exact ⟨_ :: M, List.perm_middle.trans (hM.cons _)⟩
theorem St.sel {g : Gh} {L L' : List Ent} {w : World} (h : St g L w) (hs : Sel L' L) : St g L' w := by
  obtain ⟨M, hM⟩ := hs.perm
  exact (h.perm hM).forget (List.sublist_append_left _ _)
end Go.TL
