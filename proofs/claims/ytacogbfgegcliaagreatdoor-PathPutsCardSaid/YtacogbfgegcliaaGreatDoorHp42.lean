/-
  The walk of the document's drop. A row of two elements of several cells is made.
-/
import Derived.Test.YtacogbfgegcliaaGreatDoorHp41
import Derived.Test.YtacogbfgegcliaaGreatDoorHp36
namespace Go.Proofs.YtacogbfgegcliaaGreatDoor
open Go.RowKit Go.TL
set_option maxRecDepth 100000

theorem _root_.Go.TL.Sl.drop {g : Gh} {b off n sz cap : Nat} {xs : List Value} (h : Sl g (.slice (some ⟨b, off, none⟩) n cap) n sz xs) {i : Nat} (hi : i ≤ n) (o : Nat) (ho : o = if cap = i then off else off + i * sz) : Sl g (.slice (some ⟨b, o, none⟩) (n - i) (cap - i)) (n - i) sz (xs.drop (i * sz)) := by
  obtain ⟨h1, ao, c, e, h2, h3⟩ := h
  simp only [Value.slice.injEq, true_and] at e
  obtain ⟨rfl, rfl⟩ := e
  refine ⟨by rw [List.length_drop, h1, Nat.sub_mul], _, _, rfl, by omega, fun j u hu => ?_⟩
  rw [List.getElem?_drop] at hu
  obtain ⟨b', off', e2, h4⟩ := h3 _ _ hu
  simp only [Option.some.injEq, Addr.mk.injEq, and_true] at e2
  obtain ⟨rfl, rfl⟩ := e2
  have hlt := (List.getElem?_eq_some_iff.1 hu).1
  refine ⟨b, o, rfl, ?_⟩
  by_cases hc : cap = i
  · have : n = i := by omega
    subst this
    rw [h1] at hlt
    omega
  · rw [ho, if_neg hc, Nat.add_assoc]
    exact h4
end Go.Proofs.YtacogbfgegcliaaGreatDoor
namespace Go.TL
open Go Go.RowKit Go.Proofs.YtacogbfgegcliaaGreatDoor
theorem part_set (off : Nat) (vs pre mid post : List Value) (hp : pre.length = off) (hl : vs.length = mid.length) : (vs.toArray.zipIdx.foldl (fun cs (x : Value × Nat) => cs.setIfInBounds (off + x.2) x.1) (pre ++ (mid ++ post)).toArray) = (pre ++ (vs ++ post)).toArray := by
  have key : ∀ (us : List Value) (k : Nat) (pre mid : List Value), pre.length = off + k → us.length = mid.length → ((us.zipIdx k).foldl (fun cs (x : Value × Nat) => cs.setIfInBounds (off + x.2) x.1) (pre ++ (mid ++ post)).toArray) = (pre ++ (us ++ post)).toArray := by
    intro us
    induction us with
    | nil => intro k pre mid _ h; have : mid = [] := List.eq_nil_of_length_eq_zero h.symm; subst this; simp
    | cons u r ih =>
      intro k pre mid hk h
      cases mid with
      | nil => simp at h
      | cons p q =>
        rw [List.zipIdx_cons, List.foldl_cons]
        have h2 := ih (k + 1) (pre ++ [u]) q (by rw [List.length_append, List.length_singleton]; omega) (by simpa using h)
        have h3 : (pre ++ (p :: q ++ post)).toArray.setIfInBounds (off + k) u = ((pre ++ [u]) ++ (q ++ post)).toArray := by rw [← hk]; simp
        rw [h3, h2]
        simp
  have := key vs 0 pre mid (by omega) hl
  rw [← Array.foldl_toList]
  simpa using this
section
variable {P : Program} {ops : Array Oper} {Q : Exit → Act → World → Prop} {rest : List Oper} {n : Nat} {ds : List Deferred} {S : Slots} {g : Gh} {L : List Ent}
variable {d : Nat} {ty : TypeId} {pos : String} {aft : Array Edge} {x y : Operand} {z : Value} {t e : TypeId} {sz bytes : Nat}
theorem TL.build_two {vs us : List Value} [ht : Und P t (.slice e)] [hi : Inf P e sz bytes z] (hx : ev S x = some (.agg vs.toArray)) (hy : ev S y = some (.agg us.toArray)) (hl : vs.length = sz) (hl2 : us.length = sz) (h0 : Nat.blt 0 sz = true) (hzs : (z.cells.size == sz) = true) (hsm : Nat.ble (2 * sz) 16777216 = true) (hd : Nat.blt d n = true)
    (kk : ∀ b, TL P ops Q rest n ds ((d, .slice (some ⟨b, 0, none⟩) 2 2) :: S) g (.obj b (.cells (vs ++ us).toArray e (0, 0)) :: L)) : TL P ops Q (⟨some d, .buildSlice t 2 #[(0, x), (1, y)], ty, pos, aft, none⟩ :: rest) n ds S g L := .mk fun a w hf hs =>
  wpList_plain rfl fun K hK => by
    obtain ⟨i, hii, hsz, hb, hz⟩ := hi.eq
    have h0 := Nat.le_of_ble_eq_true h0
    have hsm := Nat.le_of_ble_eq_true hsm
    have hzs : z.cells.size = sz := beq_iff_eq.1 hzs
    obtain ⟨zz, hzz⟩ : ∃ zz, zz = ((Array.range (2 * sz)).map fun j => z.cells[j % z.cells.size]!).toList := ⟨_, rfl⟩
    have hzl : zz.length = 2 * sz := by rw [hzz]; simp
    have hz2 : ((Array.range (2 * sz)).map fun j => z.cells[j % z.cells.size]!) = zz.toArray := by rw [hzz, Array.toArray_toList]
    have s1 := part_set 0 vs [] (zz.take sz) (zz.drop sz) rfl (by rw [List.length_take]; omega)
    rw [List.nil_append, List.take_append_drop, List.nil_append] at s1
    have s2 := part_set sz us vs (zz.drop sz) [] hl (by rw [List.length_drop]; omega)
    rw [List.append_nil, List.append_nil] at s2
    have hfill : Instr.fill (fun i => some (i * sz, sz)) ((Array.range (2 * sz)).map fun j => z.cells[j % z.cells.size]!) [(0, .agg vs.toArray), (1, .agg us.toArray)] = some (vs ++ us).toArray := by
      have hc : ∀ l : List Value, (Value.agg l.toArray).cells = l.toArray := fun _ => rfl
      rw [hz2]
      simp only [Instr.fill, hc, Nat.zero_mul, Nat.one_mul]
      rw [if_neg (by simp [hl, hzl]; omega), s1, if_neg (by simp [hl, hl2, hzl]; omega), s2]
    have hrun : (execOp a.eval ⟨some d, .buildSlice t 2 #[(0, x), (1, y)], ty, pos, aft, none⟩).run P w = .ok (.value (.slice (some ⟨w.heap.size, 0, none⟩) 2 2)) { w with heap := w.heap.push (.cells (vs ++ us).toArray e (0, 0)) } := by
      have hgt : ¬ 2 * sz > 16777216 := by omega
      have hne2 : ¬ 2 * sz = 0 := by omega
      simp [execOp, Instr.buildSlice, run_und ht.eq, sizeOf, run_info hii, hsz, hgt, hne2, run_zero, newRow, newObj, hf.ev hx, hf.ev hy]
      rw [hfill]
      simp [Sem.run]
    unfold Oper.wp
    rw [hrun]
    exact hK _ _ ((kk _).h _ _ (hf.put hd _) (hs.alloc _))
end
end Go.TL
