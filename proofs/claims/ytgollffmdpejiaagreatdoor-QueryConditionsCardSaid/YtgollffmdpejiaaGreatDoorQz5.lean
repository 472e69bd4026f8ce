/-
  A row of any number of elements of several cells is made. Maps that the call makes: made, filled, looked up, gone through in whatever order. Arrays of four by value; the second word of arrays. Bytes of a constant text; the greater of two.
-/
import Derived.Test.YtgollffmdpejiaaGreatDoorQz2
import Derived.Maps.RangeRun
namespace Go.TL
open Go Go.RowKit Go.Proofs.YtgollffmdpejiaaGreatDoor
theorem fill_rows (sz : Nat) : ∀ (vss : List (List Value)) (k : Nat) (pre post : List Value), (∀ v ∈ vss, v.length = sz) → pre.length = k * sz → post.length = vss.length * sz →
    Instr.fill (fun i => some (i * sz, sz)) (pre ++ post).toArray (((vss.map fun v => Value.agg v.toArray).zipIdx k).map fun p => (p.2, p.1)) = some (pre ++ vss.flatten).toArray
  | [], k, pre, post, _, _, hl => by
    have : post = [] := List.eq_nil_of_length_eq_zero (by simpa using hl)
    subst this; simp [Instr.fill]
  | v :: r, k, pre, post, ha, hp, hl => by
    have hv := ha v List.mem_cons_self
    rw [List.length_cons, Nat.succ_mul] at hl
    have ih := fill_rows sz r (k + 1) (pre ++ v) (post.drop sz) (fun u hu => ha u (List.mem_cons_of_mem _ hu)) (by rw [List.length_append, hp, hv, Nat.succ_mul]) (by rw [List.length_drop]; omega)
    have hc : ∀ l : List Value, (Value.agg l.toArray).cells = l.toArray := fun _ => rfl
    have s1 := part_set (k * sz) v pre (post.take sz) (post.drop sz) hp (by rw [List.length_take]; omega)
    rw [List.take_append_drop] at s1
    rw [List.map_cons, List.zipIdx_cons, List.map_cons, Instr.fill]
    simp only [hc]
    rw [if_neg (by simp [hv, hp]; omega), s1, ← List.append_assoc, ih]
    simp
section
variable {P : Program} {ops : Array Oper} {Q : Exit → Act → World → Prop} {rest : List Oper} {n : Nat} {ds : List Deferred} {S : Slots} {g : Gh} {L : List Ent}
variable {d : Nat} {ty : TypeId} {pos : String} {aft : Array Edge} {z : Value} {t e : TypeId} {sz bytes : Nat}
theorem TL.build_rows {len : Nat} {parts : List (Nat × Operand)} {os : List Operand} (vss : List (List Value)) [ht : Und P t (.slice e)] [hi : Inf P e sz bytes z] (ho : inOrder 0 parts = some os) (hv : evs S os = some (vss.map fun v => .agg v.toArray)) (h1 : (vss.all fun v => v.length == sz) = true) (hl : vss.length = len) (h0 : Nat.blt 0 (len * sz) = true) (hzs : (z.cells.size == sz) = true) (hsm : Nat.ble (len * sz) 16777216 = true) (hd : Nat.blt d n = true)
    (kk : ∀ b, TL P ops Q rest n ds ((d, .slice (some ⟨b, 0, none⟩) len len) :: S) g (.obj b (.cells vss.flatten.toArray e (0, 0)) :: L)) : TL P ops Q (⟨some d, .buildSlice t len parts.toArray, ty, pos, aft, none⟩ :: rest) n ds S g L := .mk fun a w hf hs =>
  wpList_plain rfl fun K hK => by
    obtain ⟨i, hii, hsz, hb, hz⟩ := hi.eq
    have h0 := Nat.le_of_ble_eq_true h0
    have hsm := Nat.le_of_ble_eq_true hsm
    have hzs : z.cells.size = sz := beq_iff_eq.1 hzs
    have hparts := inOrder_eval hf parts 0 os _ ho hv
    obtain ⟨zz, hzz⟩ : ∃ zz, zz = ((Array.range (len * sz)).map fun j => z.cells[j % z.cells.size]!).toList := ⟨_, rfl⟩
    have hzl : zz.length = len * sz := by rw [hzz]; simp
    have hz2 : ((Array.range (len * sz)).map fun j => z.cells[j % z.cells.size]!) = zz.toArray := by rw [hzz, Array.toArray_toList]
    have hfill := fill_rows sz vss 0 [] zz (fun v hv => beq_iff_eq.1 (List.all_eq_true.1 h1 v hv)) (by simp) (by rw [hl]; exact hzl)
    rw [List.nil_append, List.nil_append, ← hparts, ← hz2] at hfill
    have hrun : (execOp a.eval ⟨some d, .buildSlice t len parts.toArray, ty, pos, aft, none⟩).run P w = .ok (.value (.slice (some ⟨w.heap.size, 0, none⟩) len len)) { w with heap := w.heap.push (.cells vss.flatten.toArray e (0, 0)) } := by
      have hgt : ¬ len * sz > 16777216 := by omega
      have hne2 : ¬ len * sz = 0 := by omega
      simp only [execOp, Instr.buildSlice, run_und ht.eq, sizeOf, run_info hii, hsz, hgt, hne2, run_zero, newRow, newObj, if_false, Sem.run_bind, Sem.run_pure, Result.andThen_ok, List.map_toArray, List.toList_toArray]
      rw [hfill]
      simp [Sem.run]
    unfold Oper.wp
    rw [hrun]
    exact hK _ _ ((kk _).h _ _ (hf.put hd _) (hs.alloc _))
end
end Go.TL
namespace Go.TL
open Go Go.RowKit Go.Proofs.YtgollffmdpejiaaGreatDoor Go.ChangeMaps
section
variable {P : Program} {ops : Array Oper} {Q : Exit → Act → World → Prop} {rest : List Oper} {n : Nat} {ds : List Deferred} {S : Slots} {g : Gh} {L L' L1 L2 : List Ent} {w : World}
variable {d : Nat} {ty : TypeId} {pos : String} {aft : Array Edge} {x y z : Operand} {k v : Value} {t kt et : TypeId} {kd : TypeDesc} {es : Array MapEntry} {clock b bm c0 since : Nat} {seen : Array Nat}
theorem St.setObj_at {o o' : Obj} (h : St g (.obj b o :: L) w) : St g (.obj b o' :: L) (setBlock w b o') := by
  have h0 : w.heap[b]? = some o := h.st _ (List.mem_cons_self)
  have hb : b < w.heap.size := (Array.getElem?_eq_some_iff.1 h0).1
  exact h.write (by simp [setBlock, hb]) (fun k hk => by simp [setBlock, Ne.symm hk]) rfl rfl rfl
theorem TL.make_map (hd : Nat.blt d n = true) (kk : ∀ b, TL P ops Q rest n ds ((d, .map (some b)) :: S) g (.obj b (.map #[] 0) :: L)) : TL P ops Q (⟨some d, .makeMap t none, ty, pos, aft, none⟩ :: rest) n ds S g L := .mk fun a w hf hs =>
  wpList_plain rfl fun K hK => by
    have h : (execOp a.eval ⟨some d, .makeMap t none, ty, pos, aft, none⟩).run P w = .ok (.value (.map (some w.heap.size))) { w with heap := w.heap.push (.map #[] 0) } := by
      simp [execOp, Instr.makeMap, newObj, Sem.run]
    unfold Oper.wp
    rw [h]
    exact hK _ _ ((kk _).h _ _ (hf.put hd _) (hs.alloc _))
end
end Go.TL
namespace Go.TL
open Go Go.RowKit Go.Proofs.YtgollffmdpejiaaGreatDoor
section
variable {P : Program} {n : Nat} {ds : List Deferred} {S : Slots} {g : Gh} {L : List Ent} {dst : Option Nat} {ty : TypeId} {pos : String} {aft : Array Edge} {gd : Option (Nat × Bool)} {t e : TypeId}
theorem Y.build_four {x1 x2 x3 x4 : Operand} {u1 u2 u3 u4 z1 z2 z3 z4 z0 : Value} {sz b1 b2 : Nat} [ht : Und P t (.array 4 e)] [he : Inf P e 1 b1 z0] [hi : Inf P t sz b2 (.agg #[z1, z2, z3, z4])]
    (h1 : ev S x1 = some u1) (h2 : ev S x2 = some u2) (h3 : ev S x3 = some u3) (h4 : ev S x4 = some u4) (o1 : u1.one = true) (o2 : u2.one = true) (o3 : u3.one = true) (o4 : u4.one = true) : Yields P n ds S g L ⟨dst, .build t #[(0, x1), (1, x2), (2, x3), (3, x4)], ty, pos, aft, gd⟩ (.agg #[u1, u2, u3, u4]) := .mk fun a w hf _ => by
  obtain ⟨j, hj, hs, _⟩ := he.eq
  have hz := run_zero (P := P) (t := t) (z := .agg #[z1, z2, z3, z4]) w
  have c0 : (Value.agg #[z1, z2, z3, z4]).cells = #[z1, z2, z3, z4] := rfl
  have c1 := cells_one o1
  have c2 := cells_one o2
  have c3 := cells_one o3
  have c4 := cells_one o4
  generalize hc1 : u1.cells = k1 at *
  generalize hc2 : u2.cells = k2 at *
  generalize hc3 : u3.cells = k3 at *
  generalize hc4 : u4.cells = k4 at *
  subst c1 c2 c3 c4
  simp [execOp, Instr.build, hz, run_und ht.eq, run_size hj, hs, hf.ev h1, hf.ev h2, hf.ev h3, hf.ev h4, Instr.fill, hc1, hc2, hc3, hc4, c0]
theorem Y.build_pp {x y : Operand} {a b c d z1 z2 z3 z4 : Value} [h : Places P t [(0, 2), (2, 2)] [z1, z2, z3, z4]] (hx : ev S x = some (.agg #[a, b])) (hy : ev S y = some (.agg #[c, d])) : Yields P n ds S g L ⟨dst, .build t #[(0, x), (1, y)], ty, pos, aft, gd⟩ (.agg #[a, b, c, d]) := .mk fun w0 w hfr _ => by
  obtain ⟨fs, h1, h2, h3⟩ := h.eq
  have h2' := h2 w
  have h3' := h3 w
  simp only [execOp, Instr.build, Sem.run_bind, h3', Result.andThen_ok, run_und h1, Value.cells]
  rw [h2']
  simp [hfr.ev hx, hfr.ev hy, Instr.fill, Value.cells]
end
end Go.TL
namespace Go.TL
open Go Go.RowKit Go.Proofs.YtgollffmdpejiaaGreatDoor Go.ChangeMaps
section
variable {P : Program} {ops : Array Oper} {Q : Exit → Act → World → Prop} {rest : List Oper} {n : Nat} {ds : List Deferred} {S : Slots} {g : Gh} {L L' : List Ent} {w : World}
variable {d k b : Nat} {ty : TypeId} {pos : String} {aft : Array Edge} {x y : Operand} {v : Value} {t e E : TypeId} {cs : List Value}
end
theorem Y.max_int {P : Program} {n : Nat} {ds : List Deferred} {S : Slots} {g : Gh} {L : List Ent} {dst : Option Nat} {ty : TypeId} {pos : String} {aft : Array Edge} {gd : Option (Nat × Bool)} {x y : Operand} {t t' : TypeId} {k : IntKind} {p q z : Int} (hx : ev S x = some (.int k p)) (hy : ev S y = some (.int k q)) (hz : (if p < q then q else p) = z) : Yields P n ds S g L ⟨dst, .call { callee := .builtin .max, args := #[x, y], argTypes := #[t, t'] }, ty, pos, aft, gd⟩ (.int k z) := .mk fun a w hf _ => by
  subst hz
  simp [execOp, resolve, invoke, BigFrame.builtin_max, Builtin.max_, Builtin.max2, hf.ev hx, hf.ev hy]
end Go.TL
