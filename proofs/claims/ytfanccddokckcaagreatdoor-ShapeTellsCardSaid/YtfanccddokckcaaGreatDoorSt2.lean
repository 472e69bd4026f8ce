/-
  The steps of a walk in one word. Comparisons of whole numbers, their outcome known. Maps that the call makes: made, filled, looked up, gone through in whatever order. A text's bytes: appended to a row, or as a new row that stays. Bytes of a constant text; the greater of two. A row of two elements of several cells is made. A row of any number of elements of several cells is made.
-/
import Derived.Test.YtfanccddokckcaaGreatDoorSt0
import Derived.Test.YtfanccddokckcaaGreatDoorSt1
import Derived.Maps.RangeRun
import Derived.Lib.AppendStr
namespace Go.TL
open Go Go.RowKit Go.Proofs.YtfanccddokckcaaGreatDoor
theorem Br.two {b : Bool} {X Y : Prop} {p q : Prop} (h : (p → X) → (q → Y) → Br b X Y) (k : (p → X) ∧ (q → Y)) : Br b X Y := h k.1 k.2
/-- A step that leaves one goal. -/
theorem stS {goal next : Prop} (k : next) (h : next → goal := by first
    | exact fun k => TL.pure yA rfl k
    | apply TC.seq | apply TC.region | apply TL.nil | apply TQ.then_normal
    | (intro k; (with_reducible apply TL.storeE); (· rfl); (· rfl); (· rfl); (· exact pkA); (· infer_instance); exact k) | (intro k; (with_reducible apply TL.store_whole); (· rfl); (· rfl); (· exact oneA); (· rfl); (· exact pkA); (· rfl); exact k)
    | apply TC.block | apply TC.ret | apply TC.skip | apply TC.exit | apply TC.cond rfl
    | apply TQ.down | apply TQ.in_exit' rfl
    | apply TL.guard_yes rfl rfl | apply TL.guard_no rfl rfl rfl rfl | apply TL.guard_no0 rfl rfl rfl | apply TL.guard_undef rfl rfl rfl | apply TL.guard_undef0 rfl rfl | apply TL.guard rfl rfl rfl
    | apply Br.t rfl | apply Br.f rfl | apply Br.ky kpA | apply Br.kn kpA | apply Br.nky kpA | apply Br.nkn kpA
    | fail) : goal := h k
/-- A step that makes a block. -/
theorem stB {goal next : Prop} (k : next) (h : next → goal := by first
    | exact fun k => TL.alloc_ag rfl k | exact fun k => TL.alloc_sc rfl rfl k | exact fun k => TL.box_ag rfl rfl k | exact fun k => TL.box_sc rfl rfl rfl k
    | fail) : goal := h k
/-- A step that parts. -/
theorem stC {goal next : Prop} (k : next) (h : next → goal := by first
    | exact Br.two Br.eq0 | exact Br.two Br.neq0 | exact Br.two Br.eq | exact Br.two Br.neq | exact Br.two Br.not | exact Br.two Br.dec | exact Br.two Br.bool
    | fail) : goal := h k
/-- A plain operation. -/
theorem wkP {goal next : Prop} (k : next) (h : next → goal := by first
    | exact fun k => TL.pure yA rfl k
    | fail) : goal := h k
theorem wkQ {goal next : Prop} (k : next) (h : next → goal := by first
    | exact fun k => TL.pure yQ rfl k
    | fail) : goal := h k
theorem wkV {goal next : Prop} (k : next) (h : next → goal := by first
    | exact fun k => TL.pure yV rfl k | exact fun k => TW.pure yV rfl k
    | fail) : goal := h k
/-- A step that leaves one goal, and does not go on to a next statement. -/
theorem wkZ {goal next : Prop} (k : next) (h : next → goal := by first
    | apply TC.seq_region | apply TC.region | apply TL.nil | apply TQ.then_normal
    | (intro k; (with_reducible apply TL.storeE); (· rfl); (· rfl); (· rfl); (· exact pkA); (· infer_instance); exact k) | (intro k; (with_reducible apply TL.store_whole); (· rfl); (· rfl); (· exact oneA); (· rfl); (· exact pkA); (· rfl); exact k)
    | apply TC.block | apply TC.ret | apply TC.skip | apply TC.exit | apply TC.cond rfl
    | apply TQ.down | apply TQ.in_exit' rfl
    | apply TL.guard_yes rfl rfl | apply TL.guard_no rfl rfl rfl rfl | apply TL.guard_no0 rfl rfl rfl | apply TL.guard_undef rfl rfl rfl | apply TL.guard_undef0 rfl rfl | apply TL.guard rfl rfl rfl
    | apply Br.t rfl | apply Br.f rfl | apply Br.ky kpA | apply Br.kn kpA | apply Br.nky kpA | apply Br.nkn kpA
    | fail) : goal := h k
/-- A call by its contract. -/
theorem wkD {P : Program} {f : FuncId} {args : Array Value} {g : Gh} {L : List Ent} {v : Value} {goal next : Prop} (D : Gives P f args g L v) (k : next) (h : Gives P f args g L v → next → goal := by first
    | exact fun D k => TL.gives_plain (by kernel_rfl) rfl D rfl k | exact fun D k => TW.gives_plain (by kernel_rfl) rfl D rfl k
    | fail) : goal := h D k
theorem wkN0 {goal next : Prop} (k : next) (h : next → goal := by first
    | exact fun k => TA.takeN 0 rfl (by decide +kernel) rfl (by first | exact yQ | exact yA | exact yB | exact yM | exact yV) (by decide +kernel) (by decide +kernel) rfl (fun _ _ _ h => h) rfl k
    | fail) : goal := h k
theorem wkG0 {goal next : Prop} (k : next) (h : next → goal := by first
    | exact fun k => TA.take_gN 0 rfl (by decide +kernel) rfl rfl rfl (by first | exact yQ | exact yA | exact yB | exact yM | exact yV) (by decide +kernel) (by decide +kernel) rfl (fun _ _ _ h => h) rfl k
    | fail) : goal := h k
theorem wkX0 {goal next : Prop} (k : next) (h : next → goal := by first
    | exact fun k => TA.no_gN 0 rfl (by decide +kernel) rfl rfl rfl rfl (by decide +kernel) (by decide +kernel) rfl (fun _ _ _ h => h) rfl k
    | exact fun k => TA.no_uN 0 rfl (by decide +kernel) rfl rfl rfl (by decide +kernel) (by decide +kernel) rfl (fun _ _ _ h => h) rfl k
    | fail) : goal := h k
theorem wkN1 {goal next : Prop} (k : next) (h : next → goal := by first
    | exact fun k => TA.takeN 1 rfl (by decide +kernel) rfl (by first | exact yQ | exact yA | exact yB | exact yM | exact yV) (by decide +kernel) (by decide +kernel) rfl (fun _ _ _ h => h) rfl k
    | fail) : goal := h k
theorem wkG1 {goal next : Prop} (k : next) (h : next → goal := by first
    | exact fun k => TA.take_gN 1 rfl (by decide +kernel) rfl rfl rfl (by first | exact yQ | exact yA | exact yB | exact yM | exact yV) (by decide +kernel) (by decide +kernel) rfl (fun _ _ _ h => h) rfl k
    | fail) : goal := h k
theorem wkX1 {goal next : Prop} (k : next) (h : next → goal := by first
    | exact fun k => TA.no_gN 1 rfl (by decide +kernel) rfl rfl rfl rfl (by decide +kernel) (by decide +kernel) rfl (fun _ _ _ h => h) rfl k
    | exact fun k => TA.no_uN 1 rfl (by decide +kernel) rfl rfl rfl (by decide +kernel) (by decide +kernel) rfl (fun _ _ _ h => h) rfl k
    | fail) : goal := h k
theorem wkN2 {goal next : Prop} (k : next) (h : next → goal := by first
    | exact fun k => TA.takeN 2 rfl (by decide +kernel) rfl (by first | exact yQ | exact yA | exact yB | exact yM | exact yV) (by decide +kernel) (by decide +kernel) rfl (fun _ _ _ h => h) rfl k
    | fail) : goal := h k
theorem wkG2 {goal next : Prop} (k : next) (h : next → goal := by first
    | exact fun k => TA.take_gN 2 rfl (by decide +kernel) rfl rfl rfl (by first | exact yQ | exact yA | exact yB | exact yM | exact yV) (by decide +kernel) (by decide +kernel) rfl (fun _ _ _ h => h) rfl k
    | fail) : goal := h k
theorem wkX2 {goal next : Prop} (k : next) (h : next → goal := by first
    | exact fun k => TA.no_gN 2 rfl (by decide +kernel) rfl rfl rfl rfl (by decide +kernel) (by decide +kernel) rfl (fun _ _ _ h => h) rfl k
    | exact fun k => TA.no_uN 2 rfl (by decide +kernel) rfl rfl rfl (by decide +kernel) (by decide +kernel) rfl (fun _ _ _ h => h) rfl k
    | fail) : goal := h k
theorem wkN3 {goal next : Prop} (k : next) (h : next → goal := by first
    | exact fun k => TA.takeN 3 rfl (by decide +kernel) rfl (by first | exact yQ | exact yA | exact yB | exact yM | exact yV) (by decide +kernel) (by decide +kernel) rfl (fun _ _ _ h => h) rfl k
    | fail) : goal := h k
theorem wkG3 {goal next : Prop} (k : next) (h : next → goal := by first
    | exact fun k => TA.take_gN 3 rfl (by decide +kernel) rfl rfl rfl (by first | exact yQ | exact yA | exact yB | exact yM | exact yV) (by decide +kernel) (by decide +kernel) rfl (fun _ _ _ h => h) rfl k
    | fail) : goal := h k
theorem wkX3 {goal next : Prop} (k : next) (h : next → goal := by first
    | exact fun k => TA.no_gN 3 rfl (by decide +kernel) rfl rfl rfl rfl (by decide +kernel) (by decide +kernel) rfl (fun _ _ _ h => h) rfl k
    | exact fun k => TA.no_uN 3 rfl (by decide +kernel) rfl rfl rfl (by decide +kernel) (by decide +kernel) rfl (fun _ _ _ h => h) rfl k
    | fail) : goal := h k
end Go.TL
namespace Go.TL
open Go Go.RowKit Go.Proofs.YtfanccddokckcaaGreatDoor
section
variable {P : Program} {n : Nat} {ds : List Deferred} {S : Slots} {g : Gh} {L : List Ent} {gd : Option (Nat × Bool)} {dst : Option Nat} {x y : Operand} {t t' ty : TypeId} {pos : String} {aft : Array Edge} {p q : Int} {k : IntKind}
theorem Y.lss_b {b : Bool} (hb : decide (p < q) = b) (hx : ev S x = some (.int k p)) (hy : ev S y = some (.int k q)) : Yields P n ds S g L ⟨dst, .binOp .lss t x y t', ty, pos, aft, gd⟩ (.bool b) := by
  subst hb; exact Y.lss hx hy
theorem Y.geq_b {b : Bool} (hb : decide (q ≤ p) = b) (hx : ev S x = some (.int k p)) (hy : ev S y = some (.int k q)) : Yields P n ds S g L ⟨dst, .binOp .geq t x y t', ty, pos, aft, gd⟩ (.bool b) := by
  subst hb; exact Y.geq hx hy
theorem Y.gtr_b {b : Bool} (hb : decide (q < p) = b) (hx : ev S x = some (.int k p)) (hy : ev S y = some (.int k q)) : Yields P n ds S g L ⟨dst, .binOp .gtr t x y t', ty, pos, aft, gd⟩ (.bool b) := by
  subst hb; exact Y.gtr hx hy
theorem Y.eql_b {b : Bool} (hb : decide (p = q) = b) (hx : ev S x = some (.int k p)) (hy : ev S y = some (.int k q)) : Yields P n ds S g L ⟨dst, .binOp .eql t x y t', ty, pos, aft, gd⟩ (.bool b) := by
  subst hb; exact Y.eql hx hy
theorem Y.neq_b {b : Bool} (hb : (!decide (p = q)) = b) (hx : ev S x = some (.int k p)) (hy : ev S y = some (.int k q)) : Yields P n ds S g L ⟨dst, .binOp .neq t x y t', ty, pos, aft, gd⟩ (.bool b) := by
  subst hb; exact Y.neq hx hy
theorem Y.leqB {b : Bool} (hb : decide (p ≤ q) = b) (hx : ev S x = some (.int k p)) (hy : ev S y = some (.int k q)) : Yields P n ds S g L ⟨dst, .binOp .leq t x y t', ty, pos, aft, gd⟩ (.bool b) := by
  subst hb; exact Y.leq hx hy
end
end Go.TL
namespace Go.TL
open Go Go.RowKit Go.Proofs.YtfanccddokckcaaGreatDoor Go.ChangeMaps
section
variable {P : Program} {ops : Array Oper} {Q : Exit → Act → World → Prop} {rest : List Oper} {n : Nat} {ds : List Deferred} {S : Slots} {g : Gh} {L L' L1 L2 : List Ent} {w : World}
variable {d : Nat} {ty : TypeId} {pos : String} {aft : Array Edge} {x y z : Operand} {k v : Value} {t kt et : TypeId} {kd : TypeDesc} {es : Array MapEntry} {clock b bm c0 since : Nat} {seen : Array Nat}
theorem St.setObj_at {o o' : Obj} (h : St g (.obj b o :: L) w) : St g (.obj b o' :: L) (setBlock w b o') := by
  have h0 : w.heap[b]? = some o := h.st _ (List.mem_cons_self)
  have hb : b < w.heap.size := (Array.getElem?_eq_some_iff.1 h0).1
  exact h.write (by simp [setBlock, hb]) (fun k hk => by simp [setBlock, Ne.symm hk]) rfl rfl rfl
end
end Go.TL
namespace Go.TL
open Go Go.RowKit Go.Proofs.YtfanccddokckcaaGreatDoor
section
variable {P : Program} {ops : Array Oper} {Q : Exit → Act → World → Prop} {rest : List Oper} {n : Nat} {ds : List Deferred} {S : Slots} {g : Gh} {L L' : List Ent} {w : World}
variable {d k : Nat} {ty : TypeId} {pos : String} {aft : Array Edge} {x y : Operand} {v : Value} {t u e : TypeId} {bs : List UInt8} {xs : List Value}
theorem St.laid {b : Nat} {C : Array Value} {fz : Nat × Nat} {cap m : Nat} (hs : St g (.obj b (.cells C e fz) :: L) w) (hC : C.toList.take m = xs) (hl : xs.length = m) (hm : m ≤ cap) : ∃ g', g.le g' ∧ Sl g' (.slice (some ⟨b, 0, none⟩) m cap) m 1 xs ∧ St g' L w := by
  have h0 : w.heap[b]? = some (.cells C e fz) := hs.st _ List.mem_cons_self
  refine ⟨_, hs.freeze.1, ⟨by rw [hl, Nat.mul_one], _, cap, rfl, hm, fun j u hu => ⟨b, 0, rfl, ?_⟩⟩, hs.freeze.2⟩
  unfold Gh.cell Gh.with
  simp only [Ent.fp, List.mem_singleton, if_true, h0, Nat.zero_add]
  rw [← hC, List.getElem?_take] at hu
  split at hu
  · simpa using hu
  · cases hu
end
end Go.TL
namespace Go.TL
open Go Go.RowKit Go.Proofs.YtfanccddokckcaaGreatDoor Go.ChangeMaps
section
variable {P : Program} {ops : Array Oper} {Q : Exit → Act → World → Prop} {rest : List Oper} {n : Nat} {ds : List Deferred} {S : Slots} {g : Gh} {L L' : List Ent} {w : World}
variable {d k b : Nat} {ty : TypeId} {pos : String} {aft : Array Edge} {x y : Operand} {v : Value} {t e E : TypeId} {cs : List Value}
end
theorem Y.max_int {P : Program} {n : Nat} {ds : List Deferred} {S : Slots} {g : Gh} {L : List Ent} {dst : Option Nat} {ty : TypeId} {pos : String} {aft : Array Edge} {gd : Option (Nat × Bool)} {x y : Operand} {t t' : TypeId} {k : IntKind} {p q z : Int} (hx : ev S x = some (.int k p)) (hy : ev S y = some (.int k q)) (hz : (if p < q then q else p) = z) : Yields P n ds S g L ⟨dst, .call { callee := .builtin .max, args := #[x, y], argTypes := #[t, t'] }, ty, pos, aft, gd⟩ (.int k z) := .mk fun a w hf _ => by
  subst hz
  simp [execOp, resolve, invoke, BigFrame.builtin_max, Builtin.max_, Builtin.max2, hf.ev hx, hf.ev hy]
end Go.TL
namespace Go.TL
open Go Go.RowKit Go.Proofs.YtfanccddokckcaaGreatDoor
theorem part_set (off : Nat) (vs pre mid post : List Value) (_hp : pre.length = off) (hl : vs.length = mid.length) : (vs.toArray.zipIdx.foldl (fun cs (x : Value × Nat) => cs.setIfInBounds (off + x.2) x.1) (pre ++ (mid ++ post)).toArray) = (pre ++ (vs ++ post)).toArray := by
  have key : ∀ (us : List Value) (k : Nat) (pre mid : List Value), pre.length = off + k → us.length = mid.length → ((us.zipIdx k).foldl (fun cs (x : Value × Nat) => cs.setIfInBounds (off + x.2) x.1) (pre ++ (mid ++ post)).toArray) = (pre ++ (us ++ post)).toArray := by
    intro us
    induction us with
    | nil => intro k pre mid _ h; have : mid = [] := List.eq_nil_of_length_eq_zero h.symm; subst this; simp
    | cons u r ih =>
      intro k pre mid hk h
      cases mid with
      | nil => simp at h
      | cons p q =>
        rw [List.zipIdx_cons, List.foldl_cons]
        have h2 := ih (k + 1) (pre ++ [u]) q (by rw [List.length_append, List.length_singleton]; omega) (by simpa using h)
        have h3 : (pre ++ (p :: q ++ post)).toArray.setIfInBounds (off + k) u = ((pre ++ [u]) ++ (q ++ post)).toArray := by rw [← hk]; simp
        rw [h3, h2]
        simp
  have := key vs 0 pre mid (by omega) hl
  rw [← Array.foldl_toList]
  simpa using this
section
variable {P : Program} {ops : Array Oper} {Q : Exit → Act → World → Prop} {rest : List Oper} {n : Nat} {ds : List Deferred} {S : Slots} {g : Gh} {L : List Ent}
variable {d : Nat} {ty : TypeId} {pos : String} {aft : Array Edge} {x y : Operand} {z : Value} {t e : TypeId} {sz bytes : Nat}
end
end Go.TL
namespace Go.TL
open Go Go.RowKit Go.Proofs.YtfanccddokckcaaGreatDoor
theorem fill_rows (sz : Nat) : ∀ (vss : List (List Value)) (k : Nat) (pre post : List Value), (∀ v ∈ vss, v.length = sz) → pre.length = k * sz → post.length = vss.length * sz →
    Instr.fill (fun i => some (i * sz, sz)) (pre ++ post).toArray (((vss.map fun v => Value.agg v.toArray).zipIdx k).map fun p => (p.2, p.1)) = some (pre ++ vss.flatten).toArray
  | [], k, pre, post, _, _, hl => by
    have : post = [] := List.eq_nil_of_length_eq_zero (by simpa using hl)
    subst this; simp [Instr.fill]
  | v :: r, k, pre, post, ha, hp, hl => by
    have hv := ha v List.mem_cons_self
    rw [List.length_cons, Nat.succ_mul] at hl
    have ih := fill_rows sz r (k + 1) (pre ++ v) (post.drop sz) (fun u hu => ha u (List.mem_cons_of_mem _ hu)) (by rw [List.length_append, hp, hv, Nat.succ_mul]) (by rw [List.length_drop]; omega)
    have hc : ∀ l : List Value, (Value.agg l.toArray).cells = l.toArray := fun _ => rfl
    have s1 := part_set (k * sz) v pre (post.take sz) (post.drop sz) hp (by rw [List.length_take]; omega)
    rw [List.take_append_drop] at s1
    rw [List.map_cons, List.zipIdx_cons, List.map_cons, Instr.fill]
    simp only [hc]
    rw [if_neg (by simp [hv, hp]; omega), s1, ← List.append_assoc, ih]
    simp
section
variable {P : Program} {ops : Array Oper} {Q : Exit → Act → World → Prop} {rest : List Oper} {n : Nat} {ds : List Deferred} {S : Slots} {g : Gh} {L : List Ent}
variable {d : Nat} {ty : TypeId} {pos : String} {aft : Array Edge} {z : Value} {t e : TypeId} {sz bytes : Nat}
theorem TL.build_rows {len : Nat} {parts : List (Nat × Operand)} {os : List Operand} (vss : List (List Value)) [ht : Und P t (.slice e)] [hi : Inf P e sz bytes z] (ho : inOrder 0 parts = some os) (hv : evs S os = some (vss.map fun v => .agg v.toArray)) (h1 : (vss.all fun v => v.length == sz) = true) (hl : vss.length = len) (h0 : Nat.blt 0 (len * sz) = true) (hzs : (z.cells.size == sz) = true) (hsm : Nat.ble (len * sz) 16777216 = true) (hd : Nat.blt d n = true)
    (kk : ∀ b, TL P ops Q rest n ds ((d, .slice (some ⟨b, 0, none⟩) len len) :: S) g (.obj b (.cells vss.flatten.toArray e (0, 0)) :: L)) : TL P ops Q (⟨some d, .buildSlice t len parts.toArray, ty, pos, aft, none⟩ :: rest) n ds S g L := .mk fun a w hf hs =>
  wpList_plain rfl fun K hK => by
    obtain ⟨i, hii, hsz, hb, hz⟩ := hi.eq
    have h0 := Nat.le_of_ble_eq_true h0
    have hsm := Nat.le_of_ble_eq_true hsm
    have hzs : z.cells.size = sz := beq_iff_eq.1 hzs
    have hparts := inOrder_eval hf parts 0 os _ ho hv
    obtain ⟨zz, hzz⟩ : ∃ zz, zz = ((Array.range (len * sz)).map fun j => z.cells[j % z.cells.size]!).toList := ⟨_, rfl⟩
    have hzl : zz.length = len * sz := by rw [hzz]; simp
    have hz2 : ((Array.range (len * sz)).map fun j => z.cells[j % z.cells.size]!) = zz.toArray := by rw [hzz, Array.toArray_toList]
    have hfill := fill_rows sz vss 0 [] zz (fun v hv => beq_iff_eq.1 (List.all_eq_true.1 h1 v hv)) (by simp) (by rw [hl]; exact hzl)
    rw [List.nil_append, List.nil_append, ← hparts, ← hz2] at hfill
    have hrun : (execOp a.eval ⟨some d, .buildSlice t len parts.toArray, ty, pos, aft, none⟩).run P w = .ok (.value (.slice (some ⟨w.heap.size, 0, none⟩) len len)) { w with heap := w.heap.push (.cells vss.flatten.toArray e (0, 0)) } := by
      have hgt : ¬ len * sz > 16777216 := by omega
      have hne2 : ¬ len * sz = 0 := by omega
      simp only [execOp, Instr.buildSlice, run_und ht.eq, sizeOf, run_info hii, hsz, hgt, hne2, run_zero, newRow, newObj, if_false, Sem.run_bind, Sem.run_pure, Result.andThen_ok, List.map_toArray, List.toList_toArray]
      rw [hfill]
      simp [Sem.run]
    unfold Oper.wp
    rw [hrun]
    exact hK _ _ ((kk _).h _ _ (hf.put hd _) (hs.alloc _))
end
end Go.TL
