/-
  Maps that the call makes: made, filled, looked up, gone through in whatever order.
-/
import Derived.Test.YtfmadoeadmclbaaDoorHd12
import Derived.Maps.RangeRun
namespace Go.TL
open Go Go.RowKit Go.Proofs.YtfmadoeadmclbaaDoor Go.ChangeMaps
section
variable {P : Program} {ops : Array Oper} {Q : Exit → Act → World → Prop} {rest : List Oper} {n : Nat} {ds : List Deferred} {S : Slots} {g : Gh} {L L' L1 L2 : List Ent} {w : World}
variable {d : Nat} {ty : TypeId} {pos : String} {aft : Array Edge} {x y z : Operand} {k v : Value} {t kt et : TypeId} {kd : TypeDesc} {es : Array MapEntry} {clock b bm c0 since : Nat} {seen : Array Nat}
theorem St.setObj_at {o o' : Obj} (h : St g (.obj b o :: L) w) : St g (.obj b o' :: L) (setBlock w b o') := by
  have h0 : w.heap[b]? = some o := h.st _ (List.mem_cons_self)
  have hb : b < w.heap.size := (Array.getElem?_eq_some_iff.1 h0).1
  exact h.write (by simp [setBlock, hb]) (fun k hk => by simp [setBlock, Ne.symm hk]) rfl rfl rfl
theorem TL.make_map (hd : Nat.blt d n = true) (kk : ∀ b, TL P ops Q rest n ds ((d, .map (some b)) :: S) g (.obj b (.map #[] 0) :: L)) : TL P ops Q (⟨some d, .makeMap t none, ty, pos, aft, none⟩ :: rest) n ds S g L := .mk fun a w hf hs =>
  wpList_plain rfl fun K hK => by
    have h : (execOp a.eval ⟨some d, .makeMap t none, ty, pos, aft, none⟩).run P w = .ok (.value (.map (some w.heap.size))) { w with heap := w.heap.push (.map #[] 0) } := by
      simp [execOp, Instr.makeMap, newObj, Sem.run]
    unfold Oper.wp
    rw [h]
    exact hK _ _ ((kk _).h _ _ (hf.put hd _) (hs.alloc _))
theorem checkKey_int {kk : IntKind} (hk : P.underlying kt = some (.int kk)) (e : Bool) : (Instr.checkKey e 10000 kt v).run P w = .ok () w := by
  show (Instr.checkKey e (9999 + 1) kt v).run P w = _
  rw [Instr.checkKey.eq_def]
  simp only [Sem.run_bind, run_und hk, Result.andThen_ok]
  cases v <;> rfl
theorem TL.insert {kk0 : IntKind} [ht : Und P t (.map kt et)] [hk : Und P kt (.int kk0)] (hm : ev S x = some (.map (some b))) (hy : ev S y = some k) (hz : ev S z = some v) (hp : Pick (.obj b (.map es clock)) L L') (hf0 : Instr.findNow (.int kk0) k es.toList 0 = some none)
    (kk : TL P ops Q rest n ds S g (.obj b (.map (es.push { key := k, val := v, born := clock }) (clock + 1)) :: L')) : TL P ops Q (⟨none, .insert t x y z, ty, pos, aft, none⟩ :: rest) n ds S g L := .mk fun a w hf hs =>
  wpList_plain rfl fun K hK => by
    have hs1 := hs.perm hp.perm
    have h0 : w.heap[b]? = some (.map es clock) := hs1.st _ (List.mem_cons_self)
    have hset : (setObj b (.map (es.push { key := k, val := v, born := clock }) (clock + 1))).run P w = .ok () (setBlock w b (.map (es.push { key := k, val := v, born := clock }) (clock + 1))) := by
      simp [setObj, Sem.run, h0, setBlock]
    have hrun : (execOp a.eval ⟨none, .insert t x y z, ty, pos, aft, none⟩).run P w = .ok .skip (setBlock w b (.map (es.push { key := k, val := v, born := clock }) (clock + 1))) := by
      simp only [execOp, hf.ev hm, hf.ev hy, hf.ev hz, Instr.mapUpdate, Sem.run_bind, run_und ht.eq, Result.andThen_ok, getObj, Sem.run, h0, checkKey_int hk.eq, Instr.findKey, run_und hk.eq, hf0, Sem.run_pure, hset]
    unfold Oper.wp
    rw [hrun]
    exact hK _ _ (kk.h _ _ hf hs1.setObj_at)
theorem TL.range_map [ht : Und P t (.map kt et)] (hx : ev S x = some (.map (some b))) (hp : Pick (.obj b (.map es clock)) L L') (hd : Nat.blt d n = true) (kk : ∀ r, TL P ops Q rest n ds ((d, .pointer (some ⟨r, 0, none⟩)) :: S) g (.obj r (.mapIter (some b) clock #[] clock) :: .obj b (.map es clock) :: L')) : TL P ops Q (⟨some d, .range t x, ty, pos, aft, none⟩ :: rest) n ds S g L := .mk fun a w hf hs =>
  wpList_plain rfl fun K hK => by
    have hs1 := hs.perm hp.perm
    have h0 : w.heap[b]? = some (.map es clock) := hs1.st _ (List.mem_cons_self)
    have h : (execOp a.eval ⟨some d, .range t x, ty, pos, aft, none⟩).run P w = .ok (.value (.pointer (some ⟨w.heap.size, 0, none⟩))) { w with heap := w.heap.push (.mapIter (some b) clock #[] clock) } := by
      simp [execOp, Instr.range, hf.ev hx, run_und ht.eq, newObj, Sem.run, getObj, h0]
    unfold Oper.wp
    rw [h]
    exact hK _ _ ((kk _).h _ _ (hf.put hd _) (hs1.alloc _))
theorem TL.next_map {r : Nat} (hx : ev S x = some (.pointer (some ⟨r, 0, none⟩))) (h1 : Pick (.obj r (.mapIter (some bm) since seen c0)) L L1) (h2 : Pick (.obj bm (.map es clock)) L1 L2) (hold : ∀ e ∈ es.toList, e.born < since) (hsc : since ≤ c0) (hd : Nat.blt d n = true)
    (kk : ∀ e ∈ (leftOf es seen).toList, TL P ops Q rest n ds ((d, .tuple #[.bool true, e.key, e.val]) :: S) g (.obj r (.mapIter (some bm) since (seen.push e.born) clock) :: .obj bm (.map es clock) :: L2))
    (k0 : (leftOf es seen).size = 0 → TL P ops Q rest n ds ((d, .tuple #[.bool false]) :: S) g (.obj r (.mapIter (some bm) since seen c0) :: .obj bm (.map es clock) :: L2)) : TL P ops Q (⟨some d, .next x false, ty, pos, aft, none⟩ :: rest) n ds S g L := .mk fun a w hf hs =>
  wpList_plain rfl fun K hK => by
    have hs1 := (hs.perm h1.perm).perm (h2.perm.cons _)
    have hr : w.heap[r]? = some (.mapIter (some bm) since seen c0) := hs1.st _ (List.mem_cons_self)
    have hb : w.heap[bm]? = some (.map es clock) := hs1.st _ (List.mem_cons_of_mem _ List.mem_cons_self)
    unfold Oper.wp
    rcases run_next_at (P := P) w ty r bm since c0 seen es clock hr hb hold hsc with ⟨h0, hrun⟩ | ⟨e, he, w1, hw1, hrun⟩
    · have hrun2 : (execOp a.eval ⟨some d, .next x false, ty, pos, aft, none⟩).run P w = .ok (.value (.tuple #[.bool false])) w := by
        simp only [execOp, hf.ev hx, Sem.run_bind, hrun, Result.andThen_ok]; rfl
      rw [hrun2]
      exact hK _ _ ((k0 h0).h _ _ (hf.put hd _) hs1)
    · have hrun2 : (execOp a.eval ⟨some d, .next x false, ty, pos, aft, none⟩).run P w = .ok (.value (.tuple #[.bool true, e.key, e.val])) (setBlock w1 r (.mapIter (some bm) since (seen.push e.born) clock)) := by
        simp only [execOp, hf.ev hx, Sem.run_bind, hrun, Result.andThen_ok]; rfl
      rw [hrun2]
      have hs2 : St g (.obj r (.mapIter (some bm) since seen c0) :: .obj bm (.map es clock) :: L2) w1 := by
        rcases hw1 with rfl | rfl
        · exact hs1
        · exact hs1.drew
      exact hK _ _ ((kk e he).h _ _ (hf.put hd _) hs2.setObj_at)
theorem Y.entry_map {dst : Option Nat} {gd : Option (Nat × Bool)} {r : Nat} {e : MapEntry} (hx : ev S x = some (.pointer (some ⟨r, 0, none⟩))) (h1 : Pick (.obj r (.mapIter (some bm) since (seen.push e.born) clock)) L L1) (h2 : Pick (.obj bm (.map es clock)) L1 L2) (he : e ∈ es.toList) (hn : (es.toList.map (·.born)).Nodup) : Yields P n ds S g L ⟨dst, .entry x, ty, pos, aft, gd⟩ (.tuple #[e.key, e.val]) := .mk fun a w hf hs => by
  have hs1 := (hs.perm h1.perm).perm (h2.perm.cons _)
  have hr : w.heap[r]? = some (.mapIter (some bm) since (seen.push e.born) clock) := hs1.st _ (List.mem_cons_self)
  have hb : w.heap[bm]? = some (.map es clock) := hs1.st _ (List.mem_cons_of_mem _ List.mem_cons_self)
  simp only [execOp, hf.ev hx, Sem.run_bind, run_entry_at w r bm since seen es clock e hr hb he hn, Result.andThen_ok]; rfl
theorem Y.lookup_ok {dst : Option Nat} {gd : Option (Nat × Bool)} {kk0 : IntKind} {i : Nat} [ht : Und P t (.map kt et)] [hk : Und P kt (.int kk0)] (hx : ev S x = some (.map (some b))) (hy : ev S y = some k) (hp : Pick (.obj b (.map es clock)) L L') (hf0 : Instr.findNow (.int kk0) k es.toList 0 = some (some (i, v))) : Yields P n ds S g L ⟨dst, .lookup t x y true, ty, pos, aft, gd⟩ (.tuple #[v, .bool true]) := .mk fun a w hf hs => by
  have hs1 := hs.perm hp.perm
  have h0 : w.heap[b]? = some (.map es clock) := hs1.st _ (List.mem_cons_self)
  simp only [execOp, hf.ev hx, hf.ev hy, Instr.lookup, Sem.run_bind, run_und ht.eq, Result.andThen_ok, getObj, Sem.run, h0, checkKey_int hk.eq, Instr.findKey, run_und hk.eq, hf0, Sem.run_pure, if_true]
theorem Y.lookup_no {dst : Option Nat} {gd : Option (Nat × Bool)} {kk0 : IntKind} {sz bytes : Nat} {z0 : Value} [ht : Und P t (.map kt et)] [hk : Und P kt (.int kk0)] [hi : Inf P et sz bytes z0] (hx : ev S x = some (.map (some b))) (hy : ev S y = some k) (hp : Pick (.obj b (.map es clock)) L L') (hf0 : Instr.findNow (.int kk0) k es.toList 0 = some none) : Yields P n ds S g L ⟨dst, .lookup t x y true, ty, pos, aft, gd⟩ (.tuple #[z0, .bool false]) := .mk fun a w hf hs => by
  have hs1 := hs.perm hp.perm
  have h0 : w.heap[b]? = some (.map es clock) := hs1.st _ (List.mem_cons_self)
  simp only [execOp, hf.ev hx, hf.ev hy, Instr.lookup, Sem.run_bind, run_und ht.eq, Result.andThen_ok, getObj, Sem.run, h0, checkKey_int hk.eq, Instr.findKey, run_und hk.eq, hf0, Sem.run_pure, if_true, run_zero (h := hi)]
end
end Go.TL
