/-
  strings.Builder: copyCheck, WriteByte, String. A text's bytes: appended to a row, or as a new row that stays.
-/
import Derived.Test.YthngolfabfijpaaGreatDoorHc0
import Derived.Test.YthngolfabfijpaaGreatDoorHc4
import Derived.Lib.Builder
import Derived.LaidEqlPtr
import Derived.Lib.UnsafeStr
import Derived.Laws.Externs
import Derived.Test.YthngolfabfijpaaGreatDoorHc2
import Derived.Lib.AppendStr
namespace Go.TL
open Go Go.RowKit Go.Proofs.YthngolfabfijpaaGreatDoor
section
variable {P : Program} {ops : Array Oper} {Q : Exit → Act → World → Prop} {rest : List Oper} {n : Nat} {ds : List Deferred} {S : Slots} {g : Gh} {L L' : List Ent}
variable {dst : Option Nat} {d : Nat} {ty : TypeId} {pos : String} {aft : Array Edge} {gd : Option (Nat × Bool)} {x y : Operand} {v z : Value} {t t' e E : TypeId} {k cap sz bytes b off : Nat} {cs : List Value} {bs : List UInt8} {fz : Nat × Nat}
theorem equal_ptr_nn {w : World} [ht : Und P t (.pointer e)] [_hi : Inf P e sz bytes z] : (Op.equal t (.pointer none) (.pointer none)).run P w = .ok true w := by
  unfold Op.equal Op.maxDepth
  rw [Op.equalIn]
  simp [run_und ht.eq, sizeOf, typeInfo]
theorem equal_ptr_sn {w : World} {q : Addr} [ht : Und P t (.pointer e)] [_hi : Inf P e sz bytes z] : (Op.equal t (.pointer (some q)) (.pointer none)).run P w = .ok false w := by
  unfold Op.equal Op.maxDepth
  rw [Op.equalIn]
  simp [run_und ht.eq, sizeOf, typeInfo]
theorem Y.eql_ptr_nn [ht : Und P t (.pointer e)] [hi : Inf P e sz bytes z] (hx : ev S x = some (.pointer none)) : Yields P n ds S g L ⟨dst, .binOp .eql t x (.const (.pointer none)) t', ty, pos, aft, gd⟩ (.bool true) := .mk fun a w hf _ => by
  have he : a.eval (.const (.pointer none)) = .pointer none := rfl
  have := equal_ptr_nn (P := P) (t := t) (e := e) (w := w)
  simp [execOp, hf.ev hx, he, eqGuard, binOp, this]
theorem Y.eql_ptr_sn [ht : Und P t (.pointer e)] [hi : Inf P e sz bytes z] {q : Addr} (hx : ev S x = some (.pointer (some q))) : Yields P n ds S g L ⟨dst, .binOp .eql t x (.const (.pointer none)) t', ty, pos, aft, gd⟩ (.bool false) := .mk fun a w hf _ => by
  have he : a.eval (.const (.pointer none)) = .pointer none := rfl
  have := equal_ptr_sn (P := P) (t := t) (e := e) (w := w) (q := q)
  simp [execOp, hf.ev hx, he, eqGuard, binOp, this]
theorem Y.neq_ptr_same [ht : Und P t (.pointer e)] [hi : Inf P e sz bytes z] {q : Addr} (hx : ev S x = some (.pointer (some q))) (hy : ev S y = some (.pointer (some q))) : Yields P n ds S g L ⟨dst, .binOp .neq t x y t', ty, pos, aft, gd⟩ (.bool false) := .mk fun a w hf _ => by
  obtain ⟨i, hii, hsz, _⟩ := hi.eq
  have := Lib.run_neq_ptr_same w q ht.eq hii
  simp [execOp, hf.ev hx, hf.ev hy, eqGuard, this]
theorem Y.to_unsafe [ht : Und P t (.pointer e)] [hd : Und P t' .unsafePointer] [hi : Inf P e sz bytes z] (h0 : Nat.blt 0 sz = true) (hx : ev S x = some (.pointer (some ⟨b, off, none⟩))) (hm : Pick (.obj b (.cells cs.toArray E fz)) L L') (ho : off < cs.length) : Yields P n ds S g L ⟨dst, .convert t t' x, ty, pos, aft, gd⟩ (.pointer (some ⟨b, off, none⟩)) := .mk fun a w hf hs => by
  obtain ⟨i, hii, hsz, _⟩ := hi.eq
  have h : w.heap[b]? = some (.cells cs.toArray E fz) := (hs.perm hm.perm).st _ List.mem_cons_self
  have h1 : 0 < sz := Nat.le_of_ble_eq_true h0
  have := Lib.run_to_unsafe w ⟨b, off, none⟩ ht.eq hd.eq hii (by omega) (e := E) (cells := cs.length) (by simp [World.shape?, h]) ho
  simp [execOp, hf.ev hx, this]
theorem Y.from_unsafe [ht : Und P t .unsafePointer] [hd : Und P t' (.pointer e)] [hi : Inf P e sz bytes z] (hx : ev S x = some (.pointer (some ⟨b, off, none⟩))) (hm : Pick (.obj b (.cells cs.toArray E fz)) L L') (hl : liesAt P P.depth E (cs.length / P.cellsOf E) off e 1 = true) : Yields P n ds S g L ⟨dst, .convert t t' x, ty, pos, aft, gd⟩ (.pointer (some ⟨b, off, none⟩)) := .mk fun a w hf hs => by
  obtain ⟨i, hii, hsz, _⟩ := hi.eq
  have h : w.heap[b]? = some (.cells cs.toArray E fz) := (hs.perm hm.perm).st _ List.mem_cons_self
  have := Lib.run_from_unsafe w ⟨b, off, none⟩ ht.eq hd.eq hii (e := E) (cells := cs.length) (by simp [World.shape?, h]) hl
  simp [execOp, hf.ev hx, this]
def escB (P : Program) (f : Nat) : Prop := ∃ fn, P.funcs[f]? = some fn ∧ (fn.name == "runtime.NumGoroutine") = false ∧ fn.body.isNone = true ∧ Extern.findNext fn = none ∧ Extern.find fn = some Extern.AbiNoEscape.same
theorem Y.escape {f : FuncId} {ats : Array TypeId} (h : escB P f) (hx : ev S x = some v) : Yields P n ds S g L ⟨dst, .call { callee := .value (.func f), args := #[x], argTypes := ats }, ty, pos, aft, gd⟩ v := .mk fun a w hf _ => by
  obtain ⟨fn, h1, h2, h3, h4, h5⟩ := h
  have he : a.eval (.func f) = .func (.func f) #[] #[] := rfl
  have hc := run_callFunc_extern h1 h2 h3 h4 h5 #[v] w
  rw [Lib.run_noEscape] at hc
  simp [execOp, resolve, he, Deferred.ofValue, invoke, hf.ev hx, hc]
theorem Y.slice_data {ats : Array TypeId} (hx : ev S x = some (.slice (some ⟨b, off, none⟩) k cap)) (_hk : 0 < cap) : Yields P n ds S g L ⟨dst, .call { callee := .builtin .unsafeSliceData, args := #[x], argTypes := ats }, ty, pos, aft, gd⟩ (.pointer (some ⟨b, off, none⟩)) := .mk fun a w hf _ => by
  have := Lib.run_unsafeSliceData_row (P := P) w ats ty ⟨b, off, none⟩ k cap (by omega)
  simp [execOp, resolve, invoke, BigFrame.builtin_unsafeSliceData, hf.ev hx, this]
theorem Y.slice_data_nil {ats : Array TypeId} (hx : ev S x = some (.slice none k cap)) : Yields P n ds S g L ⟨dst, .call { callee := .builtin .unsafeSliceData, args := #[x], argTypes := ats }, ty, pos, aft, gd⟩ (.pointer none) := .mk fun a w hf _ => by
  have := Lib.run_unsafeSliceData_nil (P := P) w ats ty k cap
  simp [execOp, resolve, invoke, BigFrame.builtin_unsafeSliceData, hf.ev hx, this]
theorem Y.unsafe_none {p : Option Addr} (hx : ev S x = some (.pointer p)) (hy : ev S y = some (.int .i64 0)) : Yields P n ds S g L ⟨dst, .call { callee := .builtin .unsafeString, args := #[x, y], argTypes := #[t, t'] }, ty, pos, aft, gd⟩ (.string ⟨#[]⟩) := .mk fun a w hf _ => by
  have := Lib.run_unsafeString_none (P := P) w t t' ty p
  simp [execOp, resolve, invoke, BigFrame.builtin_unsafeString, hf.ev hx, hf.ev hy, this]
  rfl
theorem St.frozen {w : World} (hs : St g (.row e 1 (.slice (some ⟨b, 0, none⟩) k cap) k (byteVals bs) :: L) w) (m : Nat) : St g L (w.freeze ⟨b, 0, none⟩ m) := by
  have hnd := hs.nd
  rw [fps_cons] at hnd
  have hne := (List.nodup_append.1 hnd).2.2 b (by simp [Ent.fp, Value.ownBlock])
  have hap : g.hp b = none := hs.ap b (by simp [Ent.fp, Value.ownBlock])
  have ht := hs.tail
  have hk : ∀ c, c ≠ b → (w.freeze ⟨b, 0, none⟩ m).heap[c]? = w.heap[c]? := fun c hc => by
    unfold World.freeze
    split
    · rfl
    · simp only [Array.getElem?_modify]
      rw [if_neg (fun e => hc e.symm)]
  have h3 : (w.freeze ⟨b, 0, none⟩ m).os = w.os ∧ (w.freeze ⟨b, 0, none⟩ m).tape = w.tape ∧ (w.freeze ⟨b, 0, none⟩ m).output = w.output := by unfold World.freeze; split <;> exact ⟨rfl, rfl, rfl⟩
  exact ⟨h3.1.trans ht.os, h3.2.1.trans ht.tape, h3.2.2.trans ht.out, fun c o hc => (hk c (fun e => by rw [e, hap] at hc; cases hc)).trans (ht.hp c o hc), fun x hx => (ht.st x hx).of_block fun c hc => hk c (fun e => hne c (List.mem_flatMap.2 ⟨x, hx, hc⟩) e.symm), ht.nd, ht.ap⟩
theorem TL.unsafe_string [ht : Und P t (.pointer e)] (hc : P.cellsOf e = 1) (hx : ev S x = some (.pointer (some ⟨b, 0, none⟩))) (hy : ev S y = some (.int .i64 k)) (hm : Pick (.row e 1 (.slice (some ⟨b, 0, none⟩) k cap) k (byteVals bs)) L L') (h0 : bs ≠ []) (hd : Nat.blt d n = true)
    (kk : TL P ops Q rest n ds ((d, .string ⟨bs.toArray⟩) :: S) g L') : TL P ops Q (⟨some d, .call { callee := .builtin .unsafeString, args := #[x, y], argTypes := #[t, t'] }, ty, pos, aft, none⟩ :: rest) n ds S g L := .mk fun a w hf hs =>
  wpList_plain rfl fun K hK => by
    have hs1 := hs.perm hm.perm
    have hr : w.ownsRow 0 e 1 (.slice (some ⟨b, 0, none⟩) k cap) k (byteVals bs) := hs1.st _ List.mem_cons_self
    have hlen : bs.length = k := by have := hr.1; rw [byteVals_length] at this; omega
    obtain ⟨c, cur, hh, hle, hcm, hcs⟩ : ∃ c cur, w.heap[b]? = some (.cells cur e (0, 0)) ∧ k ≤ c ∧ c ≤ maxLen ∧ cur.size = c * 1 := by
      rcases hr.2 with ⟨h, _⟩ | ⟨b', c, cur, hv, _, hh, hle, hcm, hcs, _⟩
      · cases h
      · obtain ⟨rfl, rfl⟩ : b = b' ∧ cap = c := by simpa using hv
        exact ⟨cap, cur, hh, hle, hcm, hcs⟩
    have hrun := Lib.run_unsafeString_row (P := P) w t t' ty e ht.eq hc b cur.size (by simp [World.shape?, hh]) bs h0 (by omega) (by unfold maxLen at hcm; omega) (fun j u hu => by
      rw [add_eq]
      have := row_cell hr j (.int .u8 (u.toNat : Nat)) (by simp [byteVals, hu])
      simpa using this)
    rw [hlen] at hrun
    have : (execOp a.eval ⟨some d, .call { callee := .builtin .unsafeString, args := #[x, y], argTypes := #[t, t'] }, ty, pos, aft, none⟩).run P w = .ok (.value (.string ⟨bs.toArray⟩)) (w.freeze ⟨b, 0, none⟩ k) := by
      simp [execOp, resolve, invoke, BigFrame.builtin_unsafeString, hf.ev hx, hf.ev hy, hrun]
    unfold Oper.wp
    rw [this]
    exact hK _ _ (kk.h _ _ (hf.put hd _) (hs1.frozen k))
theorem TC.row_room {c : Code} (hm : Pick (.row e sz v k cs) L L') (_h0 : 0 < k) (h : ∀ b cap, v = .slice (some ⟨b, 0, none⟩) k cap → cs.length = k * sz → k ≤ cap → TC P Q c n ds S g L) : TC P Q c n ds S g L := .mk fun a w hf hs => by
  have hr : w.ownsRow 0 e sz v k cs := (hs.perm hm.perm).st _ List.mem_cons_self
  rcases hr.2 with ⟨_, rfl⟩ | ⟨b, cap, cur, hv, _, _, hle, _⟩
  · omega
  · exact (h b cap hv hr.1 hle).h a w hf hs
end
end Go.TL
namespace Go.Proofs.YthngolfabfijpaaGreatDoor
open Go.RowKit Go.TL
set_option maxRecDepth 100000
instance : Und Tryz.prog 207 .unsafePointer := ⟨Tryz.underlying207⟩
theorem noesc_is : escB Tryz.prog 155 := ⟨_, Tryz.func155, by kernel_rfl, by kernel_rfl, by kernel_rfl, by kernel_rfl⟩
def BdP (b : Nat) (p : Value) : Prop := p = .pointer none ∨ p = .pointer (some ⟨b, 0, none⟩)
theorem byte_cells : Tryz.prog.cellsOf 5 = 1 := by kernel_rfl
end Go.Proofs.YthngolfabfijpaaGreatDoor
namespace Go.TL
open Go Go.RowKit Go.Proofs.YthngolfabfijpaaGreatDoor
section
variable {P : Program} {ops : Array Oper} {Q : Exit → Act → World → Prop} {rest : List Oper} {n : Nat} {ds : List Deferred} {S : Slots} {g : Gh} {L L' : List Ent} {w : World}
variable {d k : Nat} {ty : TypeId} {pos : String} {aft : Array Edge} {x y : Operand} {v : Value} {t u e : TypeId} {bs : List UInt8} {xs : List Value}
theorem strCells_eq (bs : List UInt8) : Lib.strCells ⟨bs.toArray⟩ = byteVals bs := rfl
theorem run_append_str {ty : TypeId} {i : TypeInfo} (ht : P.underlying t = some (.slice e)) (hu : P.underlying u = some .string) (hi : P.info? e = some i) (hz : i.zero = some (.int .u8 0)) (hs : i.size = 1) (hb : i.bytes = 1) (hown : w.ownsRow 0 e 1 v k xs) (_hl : k + bs.length ≤ 1000000000) :
    ∃ v' w', (Builtin.append_ #[t, u] ty #[v, .string ⟨bs.toArray⟩]).run P w = .ok v' w' ∧ w'.ownsRow 0 e 1 v' (k + bs.length) (xs ++ byteVals bs) ∧ Owns w w' v v' := by
  have hsz : (⟨bs.toArray⟩ : ByteArray).size = bs.length := by simp [ByteArray.size]
  obtain ⟨v', w', hr, h2, h3, _⟩ := Lib.run_append_own_string (w := w) (P := P) 0 t u ty e i ht hu hi hz hs hb v k xs hown ⟨bs.toArray⟩ (by rw [hsz]; unfold maxLen; omega) (by rw [hsz]; omega) (Nat.zero_le _)
  rw [hsz, strCells_eq] at h2
  refine ⟨v', w', hr, h2, h3, fun b hk => ?_⟩
  rcases hown.2 with ⟨rfl, rfl⟩ | ⟨g0, cap, cur, rfl, _, hg, hnc, hcm, hcs, _⟩
  · have hxs : xs = [] := List.eq_nil_of_length_eq_zero (by simpa using hown.1)
    subst hxs
    obtain ⟨v2, w2, hr2, h22, _, _⟩ := Lib.run_append_own_string (w := w) (P := P) w.heap.size t u ty e i ht hu hi hz hs hb _ 0 [] (World.ownsRow_nil w w.heap.size e 1) ⟨bs.toArray⟩ (by rw [hsz]; unfold maxLen; omega) (by rw [hsz]; omega) (Nat.le_refl _)
    rw [hr2] at hr
    obtain ⟨rfl, rfl⟩ : v2 = v' ∧ w2 = w' := by simpa using hr
    rcases h22.2 with ⟨rfl, _⟩ | ⟨g1, _, _, rfl, hb1, _⟩
    · simp [Value.ownBlock] at hk
    · obtain rfl : g1 = b := by simpa [Value.ownBlock] using hk
      exact .inr hb1
  · by_cases hroom : k + bs.length ≤ cap
    · have hr2 := Lib.run_append_room_string (w := w) (P := P) t u ty e i ht hu hi hs g0 k cap cur hg ⟨bs.toArray⟩ (by rw [hsz]; exact hroom) (by rw [hsz]; omega)
      rw [hr2] at hr
      obtain ⟨rfl, rfl⟩ := by simpa using hr
      exact .inl (by simpa [Value.ownBlock] using hk)
    · have holds : ∀ j u, xs[j]? = some u → w.cell? ((⟨g0, 0, none⟩ : Addr).add j) = some u := hown.cells (g := g0) rfl
      have hr2 := Lib.run_append_grow_string (w := w) (P := P) t u ty e i (.int .u8 0) ht hu hi hz ⟨g0, 0, none⟩ k cap xs (by rw [hs]; simpa using hown.1) holds ⟨bs.toArray⟩ (by rw [hsz]; omega) (by rw [hsz]; omega) (by rw [hb]; exact growslice_fits (by rw [hsz]; omega) (by rw [hsz]; omega))
      rw [hr2] at hr
      obtain ⟨rfl, rfl⟩ := by simpa using hr
      right
      have : w.heap.size = b := by simpa [Value.ownBlock] using hk
      omega
theorem TL.append_str [ht : Und P t (.slice e)] [hu : Und P u .string] [hi : Inf P e 1 1 (.int .u8 0)] (hx : ev S x = some v) (hy : ev S y = some (.string ⟨bs.toArray⟩)) (hm : Pick (.row e 1 v k xs) L L') (hb : k + bs.length ≤ 1000000000) (hd : Nat.blt d n = true)
    (kk : ∀ v', TL P ops Q rest n ds ((d, v') :: S) g (.row e 1 v' (k + bs.length) (xs ++ byteVals bs) :: L')) : TL P ops Q (⟨some d, .call { callee := .builtin .append, args := #[x, y], argTypes := #[t, u] }, ty, pos, aft, none⟩ :: rest) n ds S g L := .mk fun a w hf hs =>
  wpList_plain rfl fun K hK => by
    have hs1 := hs.perm hm.perm
    obtain ⟨i, hii, hs2, hb2, hz⟩ := hi.eq
    obtain ⟨v', w', hr, h2, h3⟩ := run_append_str (P := P) (ty := ty) ht.eq hu.eq hii hz hs2 hb2 (hs1.st _ List.mem_cons_self) hb
    unfold Oper.wp execOp
    simp only [resolve, invoke, builtin, Sem.run_bind, Sem.run_pure, Result.andThen_ok, List.map_toArray, List.map_cons, List.map_nil, hf.ev hx, hf.ev hy, hr]
    exact hK _ _ ((kk v').h _ w' (hf.put hd v') (hs1.grown h2 h3))
theorem St.laid {b : Nat} {C : Array Value} {fz : Nat × Nat} {cap m : Nat} (hs : St g (.obj b (.cells C e fz) :: L) w) (hC : C.toList.take m = xs) (hl : xs.length = m) (hm : m ≤ cap) : ∃ g', g.le g' ∧ Sl g' (.slice (some ⟨b, 0, none⟩) m cap) m 1 xs ∧ St g' L w := by
  have h0 : w.heap[b]? = some (.cells C e fz) := hs.st _ List.mem_cons_self
  refine ⟨_, hs.freeze.1, ⟨by rw [hl, Nat.mul_one], _, cap, rfl, hm, fun j u hu => ⟨b, 0, rfl, ?_⟩⟩, hs.freeze.2⟩
  unfold Gh.cell Gh.with
  simp only [Ent.fp, List.mem_singleton, if_true, h0, Nat.zero_add]
  rw [← hC, List.getElem?_take] at hu
  split at hu
  · simpa using hu
  · cases hu
theorem TL.to_bytes [ht : Und P t .string] [hd' : Und P u (.slice e)] [he : Und P e (.int .u8)] (hx : ev S x = some (.string ⟨bs.toArray⟩)) (hd : Nat.blt d n = true)
    (kk : ∀ b cap g', g.le g' → Sl g' (.slice (some ⟨b, 0, none⟩) bs.length cap) bs.length 1 (byteVals bs) → TL P ops Q rest n ds ((d, .slice (some ⟨b, 0, none⟩) bs.length cap) :: S) g' L) : TL P ops Q (⟨some d, .convert t u x, ty, pos, aft, none⟩ :: rest) n ds S g L := .mk fun a w hf hs =>
  wpList_plain rfl fun K hK => by
    have hsz : (⟨bs.toArray⟩ : ByteArray).size = bs.length := by simp [ByteArray.size]
    have hr := run_bytes_of_string (P := P) w t u e ⟨bs.toArray⟩ ht.eq hd'.eq he.eq
    rw [hsz] at hr
    have hge := grownCap_ge w bs.length 0 e
    generalize grownCap w bs.length 0 e = cap at *
    obtain ⟨g', hg, hS, hs'⟩ := St.laid (xs := byteVals bs) (m := bs.length) (cap := cap) (hs.drew.alloc (.cells (bytesRow ⟨bs.toArray⟩ cap) e ((bytesRow ⟨bs.toArray⟩ cap).size, (bytesRow ⟨bs.toArray⟩ cap).size + 1)))
      (by unfold bytesRow
          rw [Array.toList_append]
          have h1 : (Array.map (fun b : UInt8 => Value.int .u8 (b.toNat : Int)) bs.toArray).toList = byteVals bs := by rw [List.map_toArray]; rfl
          rw [show (⟨bs.toArray⟩ : ByteArray).data = bs.toArray from rfl, h1]
          exact List.take_left' (byteVals_length bs)) (byteVals_length bs) hge
    unfold Oper.wp execOp
    simp only [hf.ev hx, Sem.run_bind, hr, Result.andThen_ok]
    exact hK _ _ ((kk _ _ g' hg hS).h _ _ (hf.put hd _) hs')
end
end Go.TL
