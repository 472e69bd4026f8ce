/-
  A walk by lemmas: rows that are owned and grow; rows that stay.
-/
import Derived.Test.YthifckfpjmhmjaaDoorTLbits
import Derived.Test.YthifckfpjmhmjaaDoorKit
namespace Go.TL
open Go Go.RowKit Go.Proofs.YthifckfpjmhmjaaDoor

/-! ### What is read as cells -/
/-- In each world of this kind the cells stand there. -/
def Src (g : Gh) (L : List Ent) (ao : Option Addr) (cs : List Value) : Prop := ∀ w, St g L w → CellsAt w ao cs
theorem Src.obj {g : Gh} {L L' : List Ent} {b : Nat} {cs : List Value} {E : TypeId} {fz : Nat × Nat} (hm : Pick (.obj b (.cells cs.toArray E fz)) L L') : Src g L (some ⟨b, 0, none⟩) cs := fun w hs => by
  have h := (hs.perm hm.perm).st _ List.mem_cons_self
  have h : w.heap[b]? = some (.cells cs.toArray E fz) := h
  exact fun i v hv => ⟨b, 0, rfl, (Array.getElem?_eq_some_iff.1 h).1, by rw [Nat.zero_add, obj_cell h]; exact hv⟩
/-- A row that stays: n elements of sz cells. -/
structure Sl (g : Gh) (v : Value) (n sz : Nat) (xs : List Value) : Prop where
  len : xs.length = n * sz
  form : ∃ ao cap, v = .slice ao n cap ∧ n ≤ cap ∧ ∀ j u, xs[j]? = some u → ∃ b off, ao = some ⟨b, off, none⟩ ∧ g.cell b (off + j) = some u
theorem Gh.le.cell {g g' : Gh} (h : g.le g') {b off : Nat} {v : Value} (hc : g.cell b off = some v) : g'.cell b off = some v := by
  unfold Gh.cell at hc ⊢
  split at hc
  · rename_i cs E fz hh
    rw [h.hp b _ hh]; exact hc
  · cases hc
theorem Sl.le {g g' : Gh} {v : Value} {n sz : Nat} {xs : List Value} (h : Sl g v n sz xs) (hg : g.le g') : Sl g' v n sz xs := by
  obtain ⟨hl, ao, cap, hv, hnc, hc⟩ := h
  exact ⟨hl, ao, cap, hv, hnc, fun j u hu => by obtain ⟨b, off, e, hb⟩ := hc j u hu; exact ⟨b, off, e, hg.cell hb⟩⟩
theorem Src.sl {g : Gh} {L : List Ent} {ao : Option Addr} {n sz cap : Nat} {xs : List Value} (h : Sl g (.slice ao n cap) n sz xs) : Src g L ao xs := fun w hs i u hu => by
  obtain ⟨_, ao', cap', hv, _, hc⟩ := h
  obtain ⟨b, off, e, hb⟩ := hc i u hu
  obtain ⟨rfl, _⟩ : ao = ao' ∧ cap = cap' := by simpa using hv
  refine ⟨b, off, e, ?_, hs.cell hb⟩
  have h1 := hs.cell hb
  unfold Gh.cell at hb
  split at hb
  · rename_i cs E fz hh
    exact (Array.getElem?_eq_some_iff.1 (hs.hp b _ hh)).1
  · cases hb
theorem Sl.nil {g : Gh} {sz : Nat} {ao : Option Addr} {cap : Nat} : Sl g (.slice ao 0 cap) 0 sz [] := ⟨by simp, ao, cap, rfl, Nat.zero_le _, fun _ _ h => by simp at h⟩

section
variable {P : Program} {ops : Array Oper} {Q : Exit → Act → World → Prop} {l rest : List Oper} {n : Nat} {ds : List Deferred} {S : Slots} {g : Gh} {L L' : List Ent}
variable {dst : Option Nat} {d : Nat} {ty : TypeId} {pos : String} {aft : Array Edge}
variable {x y : Operand} {v z : Value} {t e : TypeId} {sz bytes k m c : Nat} {xs news : List Value} {ao : Option Addr} {w : World}
/-! ### Rows of one's own -/
theorem St.row_nil (h : St g L w) (e : TypeId) (sz : Nat) : St g (.row e sz (.slice none 0 0) 0 [] :: L) w :=
  ⟨h.os, h.tape, h.out, h.hp, fun x hx => (List.mem_cons.1 hx).elim (fun e => e ▸ ⟨by simp, .inl ⟨rfl, rfl⟩⟩) (h.st x), by simpa [Ent.fp, Value.ownBlock] using h.nd, by simpa [Ent.fp, Value.ownBlock] using h.ap⟩
theorem St.obj_row {b : Nat} {cs : List Value} (h : St g (.obj b (.cells cs.toArray e (0, 0)) :: L) w) (hl : cs.length = k * sz) (hk : k ≤ maxLen) : St g (.row e sz (.slice (some ⟨b, 0, none⟩) k k) k cs :: L) w :=
  ⟨h.os, h.tape, h.out, h.hp, fun x hx => (List.mem_cons.1 hx).elim (fun e => by
      subst e
      have h0 : w.heap[b]? = some (.cells cs.toArray _ (0, 0)) := h.st _ List.mem_cons_self
      exact ⟨hl, .inr ⟨b, k, cs.toArray, rfl, Nat.zero_le _, h0, Nat.le_refl _, hk, by simpa using hl, by simp [← hl]⟩⟩) (fun hx => h.st x (List.mem_cons_of_mem _ hx)), by simpa [Ent.fp, Value.ownBlock] using h.nd, by simpa [Ent.fp, Value.ownBlock] using h.ap⟩
theorem TL.row_nil (e : TypeId) (sz : Nat) (h : TL P ops Q l n ds S g (.row e sz (.slice none 0 0) 0 [] :: L)) : TL P ops Q l n ds S g L := .mk fun a w hf hs => h.h a w hf (hs.row_nil e sz)
theorem TC.row_nil {c : Code} (e : TypeId) (sz : Nat) (h : TC P Q c n ds S g (.row e sz (.slice none 0 0) 0 [] :: L)) : TC P Q c n ds S g L := .mk fun a w hf hs => h.h a w hf (hs.row_nil e sz)
theorem TL.obj_row {b : Nat} {cs : List Value} (hm : Pick (.obj b (.cells cs.toArray e (0, 0))) L L') (hl : cs.length = k * sz) (hk : k ≤ maxLen) (h : TL P ops Q l n ds S g (.row e sz (.slice (some ⟨b, 0, none⟩) k k) k cs :: L')) : TL P ops Q l n ds S g L := .mk fun a w hf hs =>
  h.h a w hf ((hs.perm hm.perm).obj_row hl hk)
theorem TC.obj_row {c : Code} {b : Nat} {cs : List Value} (hm : Pick (.obj b (.cells cs.toArray e (0, 0))) L L') (hl : cs.length = k * sz) (hk : k ≤ maxLen) (h : TC P Q c n ds S g (.row e sz (.slice (some ⟨b, 0, none⟩) k k) k cs :: L')) : TC P Q c n ds S g L := .mk fun a w hf hs =>
  h.h a w hf ((hs.perm hm.perm).obj_row hl hk)
/-- What a row's value looks like. -/
theorem row_form (h : w.ownsRow 0 e sz v k xs) (h0 : 0 < k) : ∃ b cap, v = .slice (some ⟨b, 0, none⟩) k cap := by
  rcases h.2 with ⟨_, rfl⟩ | ⟨b, cap, cur, hv, _⟩
  · omega
  · exact ⟨b, cap, hv⟩
theorem row_slice (h : w.ownsRow 0 e sz v k xs) : ∃ ao cap, v = .slice ao k cap := by
  rcases h.2 with ⟨hv, rfl⟩ | ⟨b, cap, cur, hv, _⟩
  · exact ⟨none, 0, hv⟩
  · exact ⟨_, cap, hv⟩
theorem TL.row_form (hm : Pick (.row e sz v k xs) L L') (h0 : 0 < k) (h : ∀ b cap, v = .slice (some ⟨b, 0, none⟩) k cap → xs.length = k * sz → TL P ops Q l n ds S g L) : TL P ops Q l n ds S g L := .mk fun a w hf hs => by
  have hr : w.ownsRow 0 e sz v k xs := (hs.perm hm.perm).st _ List.mem_cons_self
  obtain ⟨b, cap, hv⟩ := Go.TL.row_form hr h0
  exact (h b cap hv hr.1).h a w hf hs
theorem TC.row_form {c : Code} (hm : Pick (.row e sz v k xs) L L') (h0 : 0 < k) (h : ∀ b cap, v = .slice (some ⟨b, 0, none⟩) k cap → xs.length = k * sz → TC P Q c n ds S g L) : TC P Q c n ds S g L := .mk fun a w hf hs => by
  have hr : w.ownsRow 0 e sz v k xs := (hs.perm hm.perm).st _ List.mem_cons_self
  obtain ⟨b, cap, hv⟩ := Go.TL.row_form hr h0
  exact (h b cap hv hr.1).h a w hf hs
theorem TC.row_slice {c : Code} (hm : Pick (.row e sz v k xs) L L') (h : ∀ ao cap, v = .slice ao k cap → xs.length = k * sz → TC P Q c n ds S g L) : TC P Q c n ds S g L := .mk fun a w hf hs => by
  have hr : w.ownsRow 0 e sz v k xs := (hs.perm hm.perm).st _ List.mem_cons_self
  obtain ⟨ao, cap, hv⟩ := Go.TL.row_slice hr
  exact (h ao cap hv hr.1).h a w hf hs
theorem row_cell {b cap : Nat} (h : w.ownsRow 0 e sz (.slice (some ⟨b, 0, none⟩) k cap) k xs) (i : Nat) (u : Value) (hu : xs[i]? = some u) : w.cell? ⟨b, i, none⟩ = some u := by
  obtain ⟨ao, cap', hv, hc, _⟩ := owns_form h
  obtain ⟨rfl, _⟩ : some (⟨b, 0, none⟩ : Addr) = ao ∧ cap = cap' := by simpa using hv
  obtain ⟨b', off, e1, _, h2⟩ := hc i u hu
  obtain ⟨rfl, rfl⟩ : b = b' ∧ 0 = off := by simpa using e1
  simpa using h2
theorem Y.load_row {gd : Option (Nat × Bool)} {b off cap : Nat} {u : Value} [Sc P t] (hx : ev S x = some (.pointer (some ⟨b, off, none⟩))) (hm : Pick (.row e sz (.slice (some ⟨b, 0, none⟩) k cap) k xs) L L') (hc : xs[off]? = some u) : Yields P n ds S g L ⟨dst, .load t x, ty, pos, aft, gd⟩ u := .mk fun a w hf hs => by
  have hr : w.ownsRow 0 e sz (.slice (some ⟨b, 0, none⟩) k cap) k xs := (hs.perm hm.perm).st _ List.mem_cons_self
  have := load_sc (P := P) (t := t) (row_cell hr off u hc)
  simp [execOp, hf.ev hx, this]
/-! ### A slice of one's own, laid with what stands in it -/
theorem fill_ones : ∀ (vs : List Value) (pre post : List Value), post.length = vs.length → (∀ u ∈ vs, u.one = true) →
    Instr.fill (fun i => some (i * 1, 1)) (pre ++ post).toArray ((vs.zipIdx pre.length).map fun p => (p.2, p.1)) = some (pre ++ vs).toArray
  | [], pre, post, hl, _ => by
    have : post = [] := List.eq_nil_of_length_eq_zero hl
    subst this; simp [Instr.fill]
  | u :: vs, pre, [], hl, _ => by simp at hl
  | u :: vs, pre, p :: post, hl, h1 => by
    have hu : u.cells = #[u] := by have := h1 u List.mem_cons_self; cases u <;> first | rfl | simp [Value.one] at this
    have ih := fill_ones vs (pre ++ [u]) post (by simpa using hl) (fun x hx => h1 x (List.mem_cons_of_mem _ hx))
    rw [List.zipIdx_cons, List.map_cons, Instr.fill]
    simp only [hu, Nat.mul_one]
    rw [if_neg (by simp)]
    have hset : (#[u].zipIdx.foldl (fun cs (x : Value × Nat) => cs.setIfInBounds (pre.length + x.2) x.1) (pre ++ p :: post).toArray) = ((pre ++ [u]) ++ post).toArray := by
      simp
    simp only [hset]
    simp only [List.length_append, List.length_singleton] at ih
    rw [show pre.length + 1 = pre.length + 1 from rfl]
    simpa using ih

theorem fill_part (place : Nat → Option (Nat × Nat)) (cells : Array Value) (i : Nat) (u : Value) (r : List (Nat × Value)) : Instr.fill place cells ((i, u) :: r) = match place i with
    | none => none
    | some (off, size) => if u.cells.size ≠ size || off + u.cells.size > cells.size then none else Instr.fill place (u.cells.zipIdx.foldl (fun cs (x : Value × Nat) => cs.setIfInBounds (off + x.2) x.1) cells) r := rfl
/-- The operands of a slice's literal, in order. -/
def inOrder : Nat → List (Nat × Operand) → Option (List Operand)
  | _, [] => some []
  | i, (j, x) :: r => bif Nat.beq i j then (inOrder (i + 1) r).map (x :: ·) else none
theorem inOrder_eval {a : Act} (hf : Fr n ds S a) : ∀ (parts : List (Nat × Operand)) (i : Nat) (xs : List Operand) (vs : List Value), inOrder i parts = some xs → evs S xs = some vs →
    parts.map (fun p => (p.1, a.eval p.2)) = (vs.zipIdx i).map fun p => (p.2, p.1)
  | [], i, xs, vs, h, hv => by
    obtain rfl : [] = xs := Option.some.inj h
    obtain rfl : [] = vs := Option.some.inj hv
    rfl
  | (j, x) :: r, i, xs, vs, h, hv => by
    rw [inOrder] at h
    cases hb : Nat.beq i j with
    | false => rw [hb] at h; cases h
    | true =>
      rw [hb] at h
      obtain rfl : i = j := Nat.eq_of_beq_eq_true hb
      cases hr : inOrder (i + 1) r with
      | none => rw [hr] at h; cases h
      | some ys =>
        rw [hr] at h
        obtain rfl : x :: ys = xs := Option.some.inj h
        rw [evs] at hv
        cases h1 : ev S x with
        | none => rw [h1] at hv; cases hv
        | some u =>
          cases h2 : evs S ys with
          | none => rw [h1, h2] at hv; cases hv
          | some us =>
            rw [h1, h2] at hv
            obtain rfl : u :: us = vs := Option.some.inj hv
            rw [List.map_cons, List.zipIdx_cons, List.map_cons, inOrder_eval hf r (i + 1) ys us hr h2, hf.ev h1]
theorem range_map_size (f : Nat → Value) (k : Nat) : ((Array.range k).map f).toList.length = k := by simp
theorem TL.build_slice {len : Nat} {parts : List (Nat × Operand)} {os : List Operand} {vs : List Value} [ht : Und P t (.slice e)] [hi : Inf P e 1 bytes z] (ho : inOrder 0 parts = some os) (hv : evs S os = some vs) (h1 : vs.all Value.one = true) (hl : vs.length = len) (hsm : Nat.ble len 16777216 = true) (hd : Nat.blt d n = true)
    (kk : ∀ b, TL P ops Q rest n ds ((d, .slice (some ⟨b, 0, none⟩) len len) :: S) g (.obj b (.cells vs.toArray e (0, 0)) :: L)) : TL P ops Q (⟨some d, .buildSlice t len parts.toArray, ty, pos, aft, none⟩ :: rest) n ds S g L := .mk fun a w hf hs =>
  wpList_plain rfl fun K hK => by
    obtain ⟨i, hii, hsz, hb, hz⟩ := hi.eq
    have hparts := inOrder_eval hf parts 0 os vs ho hv
    have hfill := fill_ones vs [] ((Array.range (len * 1)).map fun j => (if len * 1 = 0 then (#[] : Array Value) else z.cells)[j % (if len * 1 = 0 then (#[] : Array Value) else z.cells).size]!).toList (by simp [hl]) (fun u hu => List.all_eq_true.1 h1 u hu)
    have hrun : (execOp a.eval ⟨some d, .buildSlice t len parts.toArray, ty, pos, aft, none⟩).run P w = .ok (.value (.slice (some ⟨w.heap.size, 0, none⟩) len len)) { w with heap := w.heap.push (.cells vs.toArray e (0, 0)) } := by
      have hle : ¬ len > 16777216 := by have := Nat.le_of_ble_eq_true hsm; omega
      by_cases hl0 : len = 0
      · subst hl0
        have hvs : vs = [] := List.eq_nil_of_length_eq_zero hl
        subst hvs
        have hp0 : parts = [] := by
          have := congrArg List.length hparts
          simp at this; exact this
        subst hp0
        simp [execOp, Instr.buildSlice, run_und ht.eq, sizeOf, run_info hii, hsz, Instr.fill, newRow, newObj, Sem.run, show (Array.range 0) = #[] from Array.eq_empty_of_size_eq_zero (by simp)]
      · simp only [List.nil_append, List.length_nil] at hfill
        rw [if_neg (by omega)] at hfill
        have hf2 : Instr.fill (fun i => some (i, 1)) (Array.map (fun x => z.cells[x % z.cells.size]!) (Array.range len)) (List.map (fun x => (x.1, a.eval x.2)) parts) = some vs.toArray := by
          rw [hparts]
          simp only [Nat.mul_one, Array.toArray_toList] at hfill
          exact hfill
        simp [execOp, Instr.buildSlice, run_und ht.eq, sizeOf, run_info hii, hsz, hle, hl0, run_zero, newRow, newObj, Sem.run]
        rw [hf2]
        simp [Sem.run]
    unfold Oper.wp
    rw [hrun]
    exact hK _ _ ((kk _).h _ _ (hf.put hd _) (hs.alloc _))

theorem one_old {vs : List Value} (h : vs.all Value.one = true) : ∀ u ∈ vs, u.oneCell' = true := fun u hu => by
  have := List.all_eq_true.1 h u hu
  cases u <;> first | rfl | simp [Value.one] at this
/-- What is behind a growing row: its block may be another one, all else stays. -/
theorem St.grown {v v' : Value} {k' : Nat} {xs' : List Value} {w' : World} (hs : St g (.row e sz v k xs :: L') w) (hr : w'.ownsRow 0 e sz v' k' xs') (ho : Owns w w' v v') : St g (.row e sz v' k' xs' :: L') w' := by
  have hnd := hs.nd
  rw [fps_cons] at hnd
  obtain ⟨_, hnL, hne⟩ := List.nodup_append.1 hnd
  have hlt := hs.lt
  have hold : ∀ b, b < w.heap.size → v.ownBlock ≠ some b → w'.heap[b]? = w.heap[b]? := fun b hb hn => ho.grown.block b hb (Ne.symm hn)
  have hv' : ∀ b, v'.ownBlock = some b → v.ownBlock = some b ∨ w.heap.size ≤ b := fun b hb => ho.row b hb
  have hap : ∀ b, v.ownBlock = some b → g.hp b = none := fun b hb => hs.ap b (by rw [fps_cons]; exact List.mem_append_left _ (by simp [Ent.fp, hb]))
  refine ⟨ho.grown.os.trans hs.os, ho.grown.tape.trans hs.tape, ho.grown.output.trans hs.out, fun b o hb => ?_, fun x hx => ?_, ?_, fun b hb => ?_⟩
  · have h0 := hs.hp b o hb
    rw [hold b (Array.getElem?_eq_some_iff.1 h0).1 (fun h => by rw [hap b h] at hb; cases hb)]; exact h0
  · rcases List.mem_cons.1 hx with rfl | hx
    · exact hr
    · exact (hs.st x (List.mem_cons_of_mem _ hx)).of_block fun b hb => hold b ((hs.st x (List.mem_cons_of_mem _ hx)).lt b hb) (fun h => by
        refine hne b (by simp [Ent.fp, h]) b (List.mem_flatMap.2 ⟨x, hx, hb⟩) rfl)
  · rw [fps_cons]
    refine List.nodup_append.2 ⟨?_, hnL, fun b hb c hc e => ?_⟩
    · simp only [Ent.fp]; cases v'.ownBlock <;> simp
    · subst e
      have hb2 : v'.ownBlock = some b := by simpa [Ent.fp, Option.mem_toList] using hb
      rcases hv' b hb2 with h | h
      · exact hne b (by simp [Ent.fp, h]) b hc rfl
      · have := hlt b (by rw [fps_cons]; exact List.mem_append_right _ hc)
        omega
  · rw [fps_cons] at hb
    rcases List.mem_append.1 hb with hb | hb
    · have hb2 : v'.ownBlock = some b := by simpa [Ent.fp, Option.mem_toList] using hb
      rcases hv' b hb2 with h | h
      · exact hap b h
      · cases e2 : g.hp b with
        | none => rfl
        | some o =>
          have h1 := (Array.getElem?_eq_some_iff.1 (hs.hp b o e2)).1
          omega
    · exact hs.ap b (by rw [fps_cons]; exact List.mem_append_right _ hb)
theorem TL.append [ht : Und P t (.slice e)] [hi : Inf P e sz bytes z] (hzs : (z.cells.size == sz) = true) (hsz : Nat.blt 0 sz = true) (hx : ev S x = some v) (hy : ev S y = some (.slice ao m c)) (hm : Pick (.row e sz v k xs) L L') (hc : Src g L ao news) (hl : news.length = m * sz) (h1 : news.all Value.one = true) (hb : k + m ≤ maxLen ∧ (k + m) * bytes ≤ 140737488355328) (hd : Nat.blt d n = true)
    (kk : ∀ v', TL P ops Q rest n ds ((d, v') :: S) g (.row e sz v' (k + m) (xs ++ news) :: L')) : TL P ops Q (⟨some d, .call { callee := .builtin .append, args := #[x, y], argTypes := #[t, t] }, ty, pos, aft, none⟩ :: rest) n ds S g L := .mk fun a w hf hs => by
  have hs1 := hs.perm hm.perm
  obtain ⟨i, hii, hs2, hb2, hz⟩ := hi.eq
  exact wpList_append_cells rfl x y rfl ht.eq (by rw [hii]; simp [hz, hs2, hb2]) (beq_iff_eq.1 hzs) (Nat.le_of_ble_eq_true hsz) (hf.ev hx) (hs1.st _ List.mem_cons_self) ao m c news (hf.ev hy) hl (hc w hs) (one_old h1) hb.1 hb.2 (Nat.zero_le _)
    fun v' w' hr ho => (kk v').h _ w' (hf.put hd v') (hs1.grown hr ho)
/-! ### What is owned stays for ever from here on -/
/-- A world's block joins what stays. -/
def Gh.with (g : Gh) (bs : List Nat) (w : World) : Gh := ⟨fun b => if b ∈ bs then w.heap[b]? else g.hp b, g.os, g.tape, g.out⟩
theorem St.freeze {x : Ent} (hs : St g (x :: L') w) : g.le (g.with x.fp w) ∧ St (g.with x.fp w) L' w := by
  have hnd := hs.nd
  rw [fps_cons] at hnd
  obtain ⟨_, hnL, hne⟩ := List.nodup_append.1 hnd
  have hap : ∀ b ∈ x.fp, g.hp b = none := fun b hb => hs.ap b (by rw [fps_cons]; exact List.mem_append_left _ hb)
  refine ⟨⟨fun b o hb => ?_, rfl, rfl, rfl⟩, ⟨hs.os, hs.tape, hs.out, fun b o hb => ?_, fun y hy => hs.st y (List.mem_cons_of_mem _ hy), hnL, fun b hb => ?_⟩⟩
  · show (if b ∈ x.fp then w.heap[b]? else g.hp b) = some o
    rw [if_neg (fun h => by rw [hap b h] at hb; cases hb)]; exact hb
  · have hb : (if b ∈ x.fp then w.heap[b]? else g.hp b) = some o := hb
    split at hb
    · exact hb
    · exact hs.hp b o hb
  · show (if b ∈ x.fp then w.heap[b]? else g.hp b) = none
    rw [if_neg (fun h => hne b h b hb rfl)]
    exact hs.ap b (by rw [fps_cons]; exact List.mem_append_right _ hb)
theorem sl_of_row (hs : St g (.row e sz v k xs :: L') w) : Sl (g.with (Ent.row e sz v k xs).fp w) v k sz xs := by
  have hr : w.ownsRow 0 e sz v k xs := hs.st _ List.mem_cons_self
  refine ⟨hr.1, ?_⟩
  rcases hr.2 with ⟨rfl, rfl⟩ | ⟨b, cap, cur, rfl, _, hh, hle, _, hcs, htake⟩
  · have : xs = [] := List.eq_nil_of_length_eq_zero (by simpa using hr.1)
    subst this
    exact ⟨none, 0, rfl, Nat.le_refl _, fun j u h => by simp at h⟩
  · refine ⟨_, cap, rfl, hle, fun j u hu => ⟨b, 0, rfl, ?_⟩⟩
    unfold Gh.cell Gh.with
    simp only [Ent.fp, Value.ownBlock, Option.toList_some, List.mem_singleton, if_true, hh, Nat.zero_add]
    rw [← htake, List.getElem?_take] at hu
    split at hu
    · simpa using hu
    · cases hu
theorem TL.freeze (hm : Pick (.row e sz v k xs) L L') (kk : ∀ g', g.le g' → Sl g' v k sz xs → TL P ops Q l n ds S g' L') : TL P ops Q l n ds S g L := .mk fun a w hf hs => by
  have hs1 := hs.perm hm.perm
  exact (kk _ hs1.freeze.1 (sl_of_row hs1)).h a w hf hs1.freeze.2
theorem TC.freeze {c : Code} (hm : Pick (.row e sz v k xs) L L') (kk : ∀ g', g.le g' → Sl g' v k sz xs → TC P Q c n ds S g' L') : TC P Q c n ds S g L := .mk fun a w hf hs => by
  have hs1 := hs.perm hm.perm
  exact (kk _ hs1.freeze.1 (sl_of_row hs1)).h a w hf hs1.freeze.2
theorem TQ.freeze {c : Exit} (hm : Pick (.row e sz v k xs) L L') (kk : ∀ g', g.le g' → Sl g' v k sz xs → TQ Q c n ds S g' L') : TQ Q c n ds S g L := .mk fun a w hf hs => by
  have hs1 := hs.perm hm.perm
  exact (kk _ hs1.freeze.1 (sl_of_row hs1)).h a w hf hs1.freeze.2
/-! ### A call that makes a row, or what stays -/
/-- It hands back a row that the caller then owns. -/
structure Rows (P : Program) (f : FuncId) (args : Array Value) (g : Gh) (L : List Ent) (e : TypeId) (sz k : Nat) (xs : List Value) : Prop where
  h : ∀ w, St g L w → Calls P f args w fun r w' => ∃ v, r = .returned v ∧ St g (.row e sz v k xs :: L) w'
theorem Rows.of {f : FuncId} {args : Array Value} (h : Does P f args g L fun r g' L1 => ∃ v, r = .returned v ∧ g' = g ∧ L1 = .row e sz v k xs :: L) : Rows P f args g L e sz k xs :=
  .mk fun w hs => (h.h w hs).mono fun _ _ ⟨_, _, _, ⟨v, he, hg, hL⟩, hs'⟩ => ⟨v, he, by subst hg; subst hL; exact hs'⟩
/-- It hands back a value that is read in what stays, which may be more than before. -/
structure Makes (P : Program) (f : FuncId) (args : Array Value) (g : Gh) (L : List Ent) (p : Value → Gh → Prop) : Prop where
  h : ∀ w, St g L w → Calls P f args w fun r w' => ∃ v g', r = .returned v ∧ g.le g' ∧ p v g' ∧ St g' L w'
theorem Makes.of {f : FuncId} {args : Array Value} {p : Value → Gh → Prop} (h : Does P f args g L fun r g' L1 => ∃ v, r = .returned v ∧ p v g' ∧ L1 = L) : Makes P f args g L p :=
  .mk fun w hs => (h.h w hs).mono fun _ _ ⟨g', _, hg, ⟨v, he, hp, hL⟩, hs'⟩ => ⟨v, g', he, hg, hp, by subst hL; exact hs'⟩
section
variable {op : Op} {f : FuncId} {args : Array Value}
theorem TL.rows {L1 : List Ent} (he : Enters P n ds S g L ⟨some d, op, ty, pos, aft, none⟩ f args) (hR : Rows P f args g L1 e sz k xs) (hL : L1.Perm L) (hd : Nat.blt d n = true)
    (kk : ∀ v, TL P ops Q rest n ds ((d, v) :: S) g (.row e sz v k xs :: L1)) : TL P ops Q (⟨some d, op, ty, pos, aft, none⟩ :: rest) n ds S g L := .mk fun a w hf hs =>
  wpList_plain rfl fun K hK => by
    unfold Oper.wp
    rw [he.h a w hf hs]
    refine (hR.h w (hs.perm hL)).mono ?_
    rintro r w' ⟨v, rfl, hs'⟩
    exact hK _ _ ((kk v).h _ w' (hf.put hd v) hs')
theorem TL.makes {p : Value → Gh → Prop} (he : Enters P n ds S g L ⟨some d, op, ty, pos, aft, none⟩ f args) (hR : Makes P f args g L p) (hd : Nat.blt d n = true)
    (kk : ∀ v g', g.le g' → p v g' → TL P ops Q rest n ds ((d, v) :: S) g' L) : TL P ops Q (⟨some d, op, ty, pos, aft, none⟩ :: rest) n ds S g L := .mk fun a w hf hs =>
  wpList_plain rfl fun K hK => by
    unfold Oper.wp
    rw [he.h a w hf hs]
    refine (hR.h w hs).mono ?_
    rintro r w' ⟨v, g', rfl, hg, hp, hs'⟩
    exact hK _ _ ((kk v g' hg hp).h _ w' (hf.put hd v) hs')
end
end
section
variable {P : Program} {Q : Exit → Act → World → Prop} {n : Nat} {ds : List Deferred} {S : Slots} {g : Gh} {L : List Ent}
/-- A loop, what is owned said outright. -/
theorem TC.loopL {α : Type} (p : α → Prop) (m : α → Nat) (T : α → Slots → Slots) (E : α → List Ent) {c : Code} (x0 : α) (h0 : p x0) (hS : Sub (T x0 S) S) (hL : Sel (E x0) L)
    (h : ∀ x, p x → TC P (Round n ds p m (fun z => T z S) (fun _ => g) E x Q) c n ds (T x S) g (E x)) : TC P Q (.loop c) n ds S g L :=
  .loop p m (fun z => T z S) (fun _ => g) E x0 h0 rfl hS hL h
theorem TC.cutL' {α : Type} (p : α → Prop) (T : α → Slots → Slots) (E : α → List Ent) {x y : Code} (h : TC P (Cut n ds p (fun z => T z S) (fun _ => g) E Q) x n ds S g L) (k : ∀ z, p z → TC P Q y n ds (T z S) g (E z)) : TC P Q (x.seq y) n ds S g L :=
  .cut p (fun z => T z S) (fun _ => g) E h k
end
section
variable {P : Program} {ops : Array Oper} {Q : Exit → Act → World → Prop} {rest : List Oper} {n : Nat} {ds : List Deferred} {S : Slots} {g : Gh} {L L' : List Ent} {ty : TypeId} {pos : String} {aft : Array Edge} {x y : Operand} {v z : Value} {t E : TypeId} {bytes b off : Nat} {cs : List Value}
theorem TL.storeK [Inf P t 1 bytes z] (hx : ev S x = some (.pointer (some ⟨b, off, none⟩))) (hy : ev S y = some v) (h1 : v.one = true) (hm : Pick (.obj b (.cells cs.toArray E (0, 0))) L L') (ho : off < cs.length) (k : TL P ops Q rest n ds S g (.obj b (.cells (cs.set off v).toArray E (0, 0)) :: L')) : TL P ops Q (⟨none, .store t x y, ty, pos, aft, none⟩ :: rest) n ds S g L :=
  have : SetA cs off v (cs.set off v) := ⟨ho, rfl⟩
  .storeE hx hy h1 hm this k
theorem yM {o : Oper} (h : Yields P n ds S g L o v := by first | ((with_reducible apply Y.load_row); (· rfl); (· exact pkA); (· assumption)) | ((with_reducible apply Y.load_gh); (· rfl); (· assumption)) | fail) : Yields P n ds S g L o v := h
end
end Go.TL
