/-
  strings.Builder: copyCheck, WriteByte, String. A text's bytes: appended to a row, or as a new row that stays. strings.Builder within a JSON writer: copyCheck, WriteByte, WriteString, WriteRune, String.
-/
import Derived.Test.YthngolfabfijpaaGreatDoorHd0
import Derived.Test.YthngolfabfijpaaGreatDoorHd2
import Derived.Lib.Builder
import Derived.LaidEqlPtr
import Derived.Lib.UnsafeStr
import Derived.Laws.Externs
import Derived.Test.YthngolfabfijpaaGreatDoorHd1
import Derived.Lib.AppendStr
import Derived.Test.YthngolfabfijpaaGreatDoorHd42
namespace Go.TL
open Go Go.RowKit Go.Proofs.YthngolfabfijpaaGreatDoor
section
variable {P : Program} {ops : Array Oper} {Q : Exit → Act → World → Prop} {rest : List Oper} {n : Nat} {ds : List Deferred} {S : Slots} {g : Gh} {L L' : List Ent}
variable {dst : Option Nat} {d : Nat} {ty : TypeId} {pos : String} {aft : Array Edge} {gd : Option (Nat × Bool)} {x y : Operand} {v z : Value} {t t' e E : TypeId} {k cap sz bytes b off : Nat} {cs : List Value} {bs : List UInt8} {fz : Nat × Nat}
theorem equal_ptr_nn {w : World} [ht : Und P t (.pointer e)] [_hi : Inf P e sz bytes z] : (Op.equal t (.pointer none) (.pointer none)).run P w = .ok true w := by
  unfold Op.equal Op.maxDepth
  rw [Op.equalIn]
  simp [run_und ht.eq, sizeOf, typeInfo]
theorem equal_ptr_sn {w : World} {q : Addr} [ht : Und P t (.pointer e)] [_hi : Inf P e sz bytes z] : (Op.equal t (.pointer (some q)) (.pointer none)).run P w = .ok false w := by
  unfold Op.equal Op.maxDepth
  rw [Op.equalIn]
  simp [run_und ht.eq, sizeOf, typeInfo]
theorem Y.eql_ptr_nn [ht : Und P t (.pointer e)] [hi : Inf P e sz bytes z] (hx : ev S x = some (.pointer none)) : Yields P n ds S g L ⟨dst, .binOp .eql t x (.const (.pointer none)) t', ty, pos, aft, gd⟩ (.bool true) := .mk fun a w hf _ => by
  have he : a.eval (.const (.pointer none)) = .pointer none := rfl
  have := equal_ptr_nn (P := P) (t := t) (e := e) (w := w)
  simp [execOp, hf.ev hx, he, eqGuard, binOp, this]
theorem Y.eql_ptr_sn [ht : Und P t (.pointer e)] [hi : Inf P e sz bytes z] {q : Addr} (hx : ev S x = some (.pointer (some q))) : Yields P n ds S g L ⟨dst, .binOp .eql t x (.const (.pointer none)) t', ty, pos, aft, gd⟩ (.bool false) := .mk fun a w hf _ => by
  have he : a.eval (.const (.pointer none)) = .pointer none := rfl
  have := equal_ptr_sn (P := P) (t := t) (e := e) (w := w) (q := q)
  simp [execOp, hf.ev hx, he, eqGuard, binOp, this]
theorem Y.neq_ptr_same [ht : Und P t (.pointer e)] [hi : Inf P e sz bytes z] {q : Addr} (hx : ev S x = some (.pointer (some q))) (hy : ev S y = some (.pointer (some q))) : Yields P n ds S g L ⟨dst, .binOp .neq t x y t', ty, pos, aft, gd⟩ (.bool false) := .mk fun a w hf _ => by
  obtain ⟨i, hii, hsz, _⟩ := hi.eq
  have := Lib.run_neq_ptr_same w q ht.eq hii
  simp [execOp, hf.ev hx, hf.ev hy, eqGuard, this]
theorem Y.to_unsafe [ht : Und P t (.pointer e)] [hd : Und P t' .unsafePointer] [hi : Inf P e sz bytes z] (h0 : Nat.blt 0 sz = true) (hx : ev S x = some (.pointer (some ⟨b, off, none⟩))) (hm : Pick (.obj b (.cells cs.toArray E fz)) L L') (ho : off < cs.length) : Yields P n ds S g L ⟨dst, .convert t t' x, ty, pos, aft, gd⟩ (.pointer (some ⟨b, off, none⟩)) := .mk fun a w hf hs => by
  obtain ⟨i, hii, hsz, _⟩ := hi.eq
  have h : w.heap[b]? = some (.cells cs.toArray E fz) := (hs.perm hm.perm).st _ List.mem_cons_self
  have h1 : 0 < sz := Nat.le_of_ble_eq_true h0
  have := Lib.run_to_unsafe w ⟨b, off, none⟩ ht.eq hd.eq hii (by omega) (e := E) (cells := cs.length) (by simp [World.shape?, h]) ho
  simp [execOp, hf.ev hx, this]
theorem Y.from_unsafe [ht : Und P t .unsafePointer] [hd : Und P t' (.pointer e)] [hi : Inf P e sz bytes z] (hx : ev S x = some (.pointer (some ⟨b, off, none⟩))) (hm : Pick (.obj b (.cells cs.toArray E fz)) L L') (hl : liesAt P P.depth E (cs.length / P.cellsOf E) off e 1 = true) : Yields P n ds S g L ⟨dst, .convert t t' x, ty, pos, aft, gd⟩ (.pointer (some ⟨b, off, none⟩)) := .mk fun a w hf hs => by
  obtain ⟨i, hii, hsz, _⟩ := hi.eq
  have h : w.heap[b]? = some (.cells cs.toArray E fz) := (hs.perm hm.perm).st _ List.mem_cons_self
  have := Lib.run_from_unsafe w ⟨b, off, none⟩ ht.eq hd.eq hii (e := E) (cells := cs.length) (by simp [World.shape?, h]) hl
  simp [execOp, hf.ev hx, this]
def escB (P : Program) (f : Nat) : Prop := ∃ fn, P.funcs[f]? = some fn ∧ (fn.name == "runtime.NumGoroutine") = false ∧ fn.body.isNone = true ∧ Extern.findNext fn = none ∧ Extern.find fn = some Extern.AbiNoEscape.same
theorem Y.escape {f : FuncId} {ats : Array TypeId} (h : escB P f) (hx : ev S x = some v) : Yields P n ds S g L ⟨dst, .call { callee := .value (.func f), args := #[x], argTypes := ats }, ty, pos, aft, gd⟩ v := .mk fun a w hf _ => by
  obtain ⟨fn, h1, h2, h3, h4, h5⟩ := h
  have he : a.eval (.func f) = .func (.func f) #[] #[] := rfl
  have hc := run_callFunc_extern h1 h2 h3 h4 h5 #[v] w
  rw [Lib.run_noEscape] at hc
  simp [execOp, resolve, he, Deferred.ofValue, invoke, hf.ev hx, hc]
theorem Y.slice_data {ats : Array TypeId} (hx : ev S x = some (.slice (some ⟨b, off, none⟩) k cap)) (_hk : 0 < cap) : Yields P n ds S g L ⟨dst, .call { callee := .builtin .unsafeSliceData, args := #[x], argTypes := ats }, ty, pos, aft, gd⟩ (.pointer (some ⟨b, off, none⟩)) := .mk fun a w hf _ => by
  have := Lib.run_unsafeSliceData_row (P := P) w ats ty ⟨b, off, none⟩ k cap (by omega)
  simp [execOp, resolve, invoke, BigFrame.builtin_unsafeSliceData, hf.ev hx, this]
theorem Y.slice_data_nil {ats : Array TypeId} (hx : ev S x = some (.slice none k cap)) : Yields P n ds S g L ⟨dst, .call { callee := .builtin .unsafeSliceData, args := #[x], argTypes := ats }, ty, pos, aft, gd⟩ (.pointer none) := .mk fun a w hf _ => by
  have := Lib.run_unsafeSliceData_nil (P := P) w ats ty k cap
  simp [execOp, resolve, invoke, BigFrame.builtin_unsafeSliceData, hf.ev hx, this]
theorem Y.unsafe_none {p : Option Addr} (hx : ev S x = some (.pointer p)) (hy : ev S y = some (.int .i64 0)) : Yields P n ds S g L ⟨dst, .call { callee := .builtin .unsafeString, args := #[x, y], argTypes := #[t, t'] }, ty, pos, aft, gd⟩ (.string ⟨#[]⟩) := .mk fun a w hf _ => by
  have := Lib.run_unsafeString_none (P := P) w t t' ty p
  simp [execOp, resolve, invoke, BigFrame.builtin_unsafeString, hf.ev hx, hf.ev hy, this]
  rfl
theorem St.frozen {w : World} (hs : St g (.row e 1 (.slice (some ⟨b, 0, none⟩) k cap) k (byteVals bs) :: L) w) (m : Nat) : St g L (w.freeze ⟨b, 0, none⟩ m) := by
  have hnd := hs.nd
  rw [fps_cons] at hnd
  have hne := (List.nodup_append.1 hnd).2.2 b (by simp [Ent.fp, Value.ownBlock])
  have hap : g.hp b = none := hs.ap b (by simp [Ent.fp, Value.ownBlock])
  have ht := hs.tail
  have hk : ∀ c, c ≠ b → (w.freeze ⟨b, 0, none⟩ m).heap[c]? = w.heap[c]? := fun c hc => by
    unfold World.freeze
    split
    · rfl
    · simp only [Array.getElem?_modify]
      rw [if_neg (fun e => hc e.symm)]
  have h3 : (w.freeze ⟨b, 0, none⟩ m).os = w.os ∧ (w.freeze ⟨b, 0, none⟩ m).tape = w.tape ∧ (w.freeze ⟨b, 0, none⟩ m).output = w.output := by unfold World.freeze; split <;> exact ⟨rfl, rfl, rfl⟩
  exact ⟨h3.1.trans ht.os, h3.2.1.trans ht.tape, h3.2.2.trans ht.out, fun c o hc => (hk c (fun e => by rw [e, hap] at hc; cases hc)).trans (ht.hp c o hc), fun x hx => (ht.st x hx).of_block fun c hc => hk c (fun e => hne c (List.mem_flatMap.2 ⟨x, hx, hc⟩) e.symm), ht.nd, ht.ap⟩
theorem TL.unsafe_string [ht : Und P t (.pointer e)] (hc : P.cellsOf e = 1) (hx : ev S x = some (.pointer (some ⟨b, 0, none⟩))) (hy : ev S y = some (.int .i64 k)) (hm : Pick (.row e 1 (.slice (some ⟨b, 0, none⟩) k cap) k (byteVals bs)) L L') (h0 : bs ≠ []) (hd : Nat.blt d n = true)
    (kk : TL P ops Q rest n ds ((d, .string ⟨bs.toArray⟩) :: S) g L') : TL P ops Q (⟨some d, .call { callee := .builtin .unsafeString, args := #[x, y], argTypes := #[t, t'] }, ty, pos, aft, none⟩ :: rest) n ds S g L := .mk fun a w hf hs =>
  wpList_plain rfl fun K hK => by
    have hs1 := hs.perm hm.perm
    have hr : w.ownsRow 0 e 1 (.slice (some ⟨b, 0, none⟩) k cap) k (byteVals bs) := hs1.st _ List.mem_cons_self
    have hlen : bs.length = k := by have := hr.1; rw [byteVals_length] at this; omega
    obtain ⟨c, cur, hh, hle, hcm, hcs⟩ : ∃ c cur, w.heap[b]? = some (.cells cur e (0, 0)) ∧ k ≤ c ∧ c ≤ maxLen ∧ cur.size = c * 1 := by
      rcases hr.2 with ⟨h, _⟩ | ⟨b', c, cur, hv, _, hh, hle, hcm, hcs, _⟩
      · cases h
      · obtain ⟨rfl, rfl⟩ : b = b' ∧ cap = c := by simpa using hv
        exact ⟨cap, cur, hh, hle, hcm, hcs⟩
    have hrun := Lib.run_unsafeString_row (P := P) w t t' ty e ht.eq hc b cur.size (by simp [World.shape?, hh]) bs h0 (by omega) (by unfold maxLen at hcm; omega) (fun j u hu => by
      rw [add_eq]
      have := row_cell hr j (.int .u8 (u.toNat : Nat)) (by simp [byteVals, hu])
      simpa using this)
    rw [hlen] at hrun
    have : (execOp a.eval ⟨some d, .call { callee := .builtin .unsafeString, args := #[x, y], argTypes := #[t, t'] }, ty, pos, aft, none⟩).run P w = .ok (.value (.string ⟨bs.toArray⟩)) (w.freeze ⟨b, 0, none⟩ k) := by
      simp [execOp, resolve, invoke, BigFrame.builtin_unsafeString, hf.ev hx, hf.ev hy, hrun]
    unfold Oper.wp
    rw [this]
    exact hK _ _ (kk.h _ _ (hf.put hd _) (hs1.frozen k))
theorem TC.row_room {c : Code} (hm : Pick (.row e sz v k cs) L L') (_h0 : 0 < k) (h : ∀ b cap, v = .slice (some ⟨b, 0, none⟩) k cap → cs.length = k * sz → k ≤ cap → TC P Q c n ds S g L) : TC P Q c n ds S g L := .mk fun a w hf hs => by
  have hr : w.ownsRow 0 e sz v k cs := (hs.perm hm.perm).st _ List.mem_cons_self
  rcases hr.2 with ⟨_, rfl⟩ | ⟨b, cap, cur, hv, _, _, hle, _⟩
  · omega
  · exact (h b cap hv hr.1 hle).h a w hf hs
end
end Go.TL
namespace Go.Proofs.YthngolfabfijpaaGreatDoor
open Go.RowKit Go.TL
set_option maxRecDepth 100000
instance : Und Tryz.prog 207 .unsafePointer := ⟨Tryz.underlying207⟩
theorem noesc_is : escB Tryz.prog 155 := ⟨_, Tryz.func155, by kernel_rfl, by kernel_rfl, by kernel_rfl, by kernel_rfl⟩
def BdP (b : Nat) (p : Value) : Prop := p = .pointer none ∨ p = .pointer (some ⟨b, 0, none⟩)
theorem byte_cells : Tryz.prog.cellsOf 5 = 1 := by kernel_rfl
end Go.Proofs.YthngolfabfijpaaGreatDoor
namespace Go.TL
open Go Go.RowKit Go.Proofs.YthngolfabfijpaaGreatDoor
section
variable {P : Program} {ops : Array Oper} {Q : Exit → Act → World → Prop} {rest : List Oper} {n : Nat} {ds : List Deferred} {S : Slots} {g : Gh} {L L' : List Ent} {w : World}
variable {d k : Nat} {ty : TypeId} {pos : String} {aft : Array Edge} {x y : Operand} {v : Value} {t u e : TypeId} {bs : List UInt8} {xs : List Value}
theorem strCells_eq (bs : List UInt8) : Lib.strCells ⟨bs.toArray⟩ = byteVals bs := rfl
theorem run_append_str {ty : TypeId} {i : TypeInfo} (ht : P.underlying t = some (.slice e)) (hu : P.underlying u = some .string) (hi : P.info? e = some i) (hz : i.zero = some (.int .u8 0)) (hs : i.size = 1) (hb : i.bytes = 1) (hown : w.ownsRow 0 e 1 v k xs) (_hl : k + bs.length ≤ 1000000000) :
    ∃ v' w', (Builtin.append_ #[t, u] ty #[v, .string ⟨bs.toArray⟩]).run P w = .ok v' w' ∧ w'.ownsRow 0 e 1 v' (k + bs.length) (xs ++ byteVals bs) ∧ Owns w w' v v' := by
  have hsz : (⟨bs.toArray⟩ : ByteArray).size = bs.length := by simp [ByteArray.size]
  obtain ⟨v', w', hr, h2, h3, _⟩ := Lib.run_append_own_string (w := w) (P := P) 0 t u ty e i ht hu hi hz hs hb v k xs hown ⟨bs.toArray⟩ (by rw [hsz]; unfold maxLen; omega) (by rw [hsz]; omega) (Nat.zero_le _)
  rw [hsz, strCells_eq] at h2
  refine ⟨v', w', hr, h2, h3, fun b hk => ?_⟩
  rcases hown.2 with ⟨rfl, rfl⟩ | ⟨g0, cap, cur, rfl, _, hg, hnc, hcm, hcs, _⟩
  · have hxs : xs = [] := List.eq_nil_of_length_eq_zero (by simpa using hown.1)
    subst hxs
    obtain ⟨v2, w2, hr2, h22, _, _⟩ := Lib.run_append_own_string (w := w) (P := P) w.heap.size t u ty e i ht hu hi hz hs hb _ 0 [] (World.ownsRow_nil w w.heap.size e 1) ⟨bs.toArray⟩ (by rw [hsz]; unfold maxLen; omega) (by rw [hsz]; omega) (Nat.le_refl _)
    rw [hr2] at hr
    obtain ⟨rfl, rfl⟩ : v2 = v' ∧ w2 = w' := by simpa using hr
    rcases h22.2 with ⟨rfl, _⟩ | ⟨g1, _, _, rfl, hb1, _⟩
    · simp [Value.ownBlock] at hk
    · obtain rfl : g1 = b := by simpa [Value.ownBlock] using hk
      exact .inr hb1
  · by_cases hroom : k + bs.length ≤ cap
    · have hr2 := Lib.run_append_room_string (w := w) (P := P) t u ty e i ht hu hi hs g0 k cap cur hg ⟨bs.toArray⟩ (by rw [hsz]; exact hroom) (by rw [hsz]; omega)
      rw [hr2] at hr
      obtain ⟨rfl, rfl⟩ := by simpa using hr
      exact .inl (by simpa [Value.ownBlock] using hk)
    · have holds : ∀ j u, xs[j]? = some u → w.cell? ((⟨g0, 0, none⟩ : Addr).add j) = some u := hown.cells (g := g0) rfl
      have hr2 := Lib.run_append_grow_string (w := w) (P := P) t u ty e i (.int .u8 0) ht hu hi hz ⟨g0, 0, none⟩ k cap xs (by rw [hs]; simpa using hown.1) holds ⟨bs.toArray⟩ (by rw [hsz]; omega) (by rw [hsz]; omega) (by rw [hb]; exact growslice_fits (by rw [hsz]; omega) (by rw [hsz]; omega))
      rw [hr2] at hr
      obtain ⟨rfl, rfl⟩ := by simpa using hr
      right
      have : w.heap.size = b := by simpa [Value.ownBlock] using hk
      omega
theorem TL.append_str [ht : Und P t (.slice e)] [hu : Und P u .string] [hi : Inf P e 1 1 (.int .u8 0)] (hx : ev S x = some v) (hy : ev S y = some (.string ⟨bs.toArray⟩)) (hm : Pick (.row e 1 v k xs) L L') (hb : k + bs.length ≤ 1000000000) (hd : Nat.blt d n = true)
    (kk : ∀ v', TL P ops Q rest n ds ((d, v') :: S) g (.row e 1 v' (k + bs.length) (xs ++ byteVals bs) :: L')) : TL P ops Q (⟨some d, .call { callee := .builtin .append, args := #[x, y], argTypes := #[t, u] }, ty, pos, aft, none⟩ :: rest) n ds S g L := .mk fun a w hf hs =>
  wpList_plain rfl fun K hK => by
    have hs1 := hs.perm hm.perm
    obtain ⟨i, hii, hs2, hb2, hz⟩ := hi.eq
    obtain ⟨v', w', hr, h2, h3⟩ := run_append_str (P := P) (ty := ty) ht.eq hu.eq hii hz hs2 hb2 (hs1.st _ List.mem_cons_self) hb
    unfold Oper.wp execOp
    simp only [resolve, invoke, builtin, Sem.run_bind, Sem.run_pure, Result.andThen_ok, List.map_toArray, List.map_cons, List.map_nil, hf.ev hx, hf.ev hy, hr]
    exact hK _ _ ((kk v').h _ w' (hf.put hd v') (hs1.grown h2 h3))
theorem St.laid {b : Nat} {C : Array Value} {fz : Nat × Nat} {cap m : Nat} (hs : St g (.obj b (.cells C e fz) :: L) w) (hC : C.toList.take m = xs) (hl : xs.length = m) (hm : m ≤ cap) : ∃ g', g.le g' ∧ Sl g' (.slice (some ⟨b, 0, none⟩) m cap) m 1 xs ∧ St g' L w := by
  have h0 : w.heap[b]? = some (.cells C e fz) := hs.st _ List.mem_cons_self
  refine ⟨_, hs.freeze.1, ⟨by rw [hl, Nat.mul_one], _, cap, rfl, hm, fun j u hu => ⟨b, 0, rfl, ?_⟩⟩, hs.freeze.2⟩
  unfold Gh.cell Gh.with
  simp only [Ent.fp, List.mem_singleton, if_true, h0, Nat.zero_add]
  rw [← hC, List.getElem?_take] at hu
  split at hu
  · simpa using hu
  · cases hu
theorem TL.to_bytes [ht : Und P t .string] [hd' : Und P u (.slice e)] [he : Und P e (.int .u8)] (hx : ev S x = some (.string ⟨bs.toArray⟩)) (hd : Nat.blt d n = true)
    (kk : ∀ b cap g', g.le g' → Sl g' (.slice (some ⟨b, 0, none⟩) bs.length cap) bs.length 1 (byteVals bs) → TL P ops Q rest n ds ((d, .slice (some ⟨b, 0, none⟩) bs.length cap) :: S) g' L) : TL P ops Q (⟨some d, .convert t u x, ty, pos, aft, none⟩ :: rest) n ds S g L := .mk fun a w hf hs =>
  wpList_plain rfl fun K hK => by
    have hsz : (⟨bs.toArray⟩ : ByteArray).size = bs.length := by simp [ByteArray.size]
    have hr := run_bytes_of_string (P := P) w t u e ⟨bs.toArray⟩ ht.eq hd'.eq he.eq
    rw [hsz] at hr
    have hge := grownCap_ge w bs.length 0 e
    generalize grownCap w bs.length 0 e = cap at *
    obtain ⟨g', hg, hS, hs'⟩ := St.laid (xs := byteVals bs) (m := bs.length) (cap := cap) (hs.drew.alloc (.cells (bytesRow ⟨bs.toArray⟩ cap) e ((bytesRow ⟨bs.toArray⟩ cap).size, (bytesRow ⟨bs.toArray⟩ cap).size + 1)))
      (by unfold bytesRow
          rw [Array.toList_append]
          have h1 : (Array.map (fun b : UInt8 => Value.int .u8 (b.toNat : Int)) bs.toArray).toList = byteVals bs := by rw [List.map_toArray]; rfl
          rw [show (⟨bs.toArray⟩ : ByteArray).data = bs.toArray from rfl, h1]
          exact List.take_left' (byteVals_length bs)) (byteVals_length bs) hge
    unfold Oper.wp execOp
    simp only [hf.ev hx, Sem.run_bind, hr, Result.andThen_ok]
    exact hK _ _ ((kk _ _ g' hg hS).h _ _ (hf.put hd _) hs')
end
end Go.TL
namespace Go.Proofs.YthngolfabfijpaaGreatDoor
open Go.RowKit Go.TL
set_option maxRecDepth 100000

abbrev BwO (b : Nat) (p v : Value) : Ent := .obj b (.cells [p, v].toArray 119 (0, 0))
theorem wbd_lies : liesAt Tryz.prog Tryz.prog.depth 119 (2 / Tryz.prog.cellsOf 119) 0 117 1 = true := by kernel_rfl
set_option maxHeartbeats 1000000 in
theorem wbdcheck_fresh (b : Nat) (v : Value) (g : Gh) (L : List Ent) : Turns Tryz.prog 125 #[.pointer (some ⟨b, 0, none⟩)] g (BwO b (.pointer none) v :: L) (.tuple #[]) (BwO b (.pointer (some ⟨b, 0, none⟩)) v :: L) := by
  refine .of (Does.of1 Tryz.func125 rfl Tryz.ntmps125 rfl ?_)
  repeat' (first | ((with_reducible apply TL.pure (d := 6) (v := .bool true)); (· exact Y.eql_ptr_nn rfl); (· rfl)) | ((with_reducible apply TL.pure (d := 9) (v := .pointer (some ⟨b, 0, none⟩))); (· exact Y.to_unsafe (e := 117) (sz := 2) (cs := [.pointer none, v]) rfl rfl pkA (Nat.zero_lt_succ 1)); (· rfl)) | ((with_reducible apply TL.pure (d := 10) (v := .pointer (some ⟨b, 0, none⟩))); (· exact Y.escape noesc_is rfl); (· rfl)) | ((with_reducible apply TL.pure (d := 11) (v := .pointer (some ⟨b, 0, none⟩))); (· exact Y.from_unsafe (e := 117) (cs := [.pointer none, v]) rfl pkA wbd_lies); (· rfl)) | refine stS ?_ | fail)
  refine TQ.end_normal ?_
  refine TQ.endR0 (L' := (BwO b (.pointer (some ⟨b, 0, none⟩)) v :: L)) Tryz.results125 rfl (.refl _) ?_ selF
  exact ⟨rfl, rfl, rfl⟩
set_option maxHeartbeats 1000000 in
theorem wbdcheck_used (b : Nat) (v : Value) (g : Gh) (L : List Ent) : Turns Tryz.prog 125 #[.pointer (some ⟨b, 0, none⟩)] g (BwO b (.pointer (some ⟨b, 0, none⟩)) v :: L) (.tuple #[]) (BwO b (.pointer (some ⟨b, 0, none⟩)) v :: L) := by
  refine .of (Does.of1 Tryz.func125 rfl Tryz.ntmps125 rfl ?_)
  repeat' (first | ((with_reducible apply TL.pure (d := 6) (v := .bool false)); (· exact Y.eql_ptr_sn rfl); (· rfl)) | ((with_reducible apply TL.pure (d := 19) (v := .bool false)); (· exact Y.neq_ptr_same rfl rfl); (· rfl)) | refine stS ?_ | fail)
  refine TQ.end_normal ?_
  refine TQ.endR0 (L' := (BwO b (.pointer (some ⟨b, 0, none⟩)) v :: L)) Tryz.results125 rfl (.refl _) ?_ selF
  exact ⟨rfl, rfl, rfl⟩
theorem wbdcheck_turns {b : Nat} {p : Value} (hp : BdP b p) (v : Value) (g : Gh) (L : List Ent) : Turns Tryz.prog 125 #[.pointer (some ⟨b, 0, none⟩)] g (BwO b p v :: L) (.tuple #[]) (BwO b (.pointer (some ⟨b, 0, none⟩)) v :: L) := by
  rcases hp with rfl | rfl
  · exact wbdcheck_fresh b v g L
  · exact wbdcheck_used b v g L
abbrev BwL (b : Nat) (p v : Value) (l : List UInt8) (L : List Ent) : List Ent := BwO b p v :: .row 5 1 v l.length (byteVals l) :: L
def BwR (b : Nat) (l : List UInt8) (g : Gh) (L : List Ent) : Ending → Gh → List Ent → Prop := fun r g' L1 => ∃ v', r = .returned .nilIface ∧ g' = g ∧ L1 = BwL b (.pointer (some ⟨b, 0, none⟩)) v' l L
set_option maxHeartbeats 2000000 in
theorem wbdbyte_does {b : Nat} {p : Value} (hp : BdP b p) (v : Value) (l : List UInt8) (c : UInt8) (g : Gh) (L : List Ent) (_hl : l.length ≤ 100000000) : Does Tryz.prog 82 #[.pointer (some ⟨b, 0, none⟩), .int .u8 (c.toNat : Nat)] g (BwL b p v l L) (BwR b (l ++ [c]) g L) := by
  refine Does.of2 Tryz.func82 rfl Tryz.ntmps82 rfl ?_
  unfold BwR BwL
  refine TC.row_slice (v := v) pkA ?_
  rintro ao cap rfl _
  repeat' (first | refine wkQ ?_ | apply TL.turns (Enters.func (by rfl) (by kernel_rfl) (by rfl)) (wbdcheck_turns hp _ _ _) permA (by rfl) | ((with_reducible apply TL.build_slice); (· rfl); (· rfl); (· exact oneA); (· rfl); (· rfl); (· rfl); intro _) | ((with_reducible apply TL.append); (· rfl); (· rfl); (· rfl); (· rfl); (· exact pkA); (· first | exact Src.obj pkA | exact Src.sl (by assumption) | exact Src.row pkA); (· first | rfl | exact (byteVals_length _).trans (Nat.mul_one _).symm); (· first | exact byteVals_all _ | exact oneA); (· exact ⟨by unfold maxLen; omega, by omega⟩); (· rfl); intro _) | refine stS ?_ | fail)
  rename_i b0 v0
  refine Go.TL.TL.row_slice (v := v0) pkA ?_
  rintro ac cc rfl _
  repeat' (first | refine wkQ ?_ | refine stS ?_ | fail)
  rw [show l.length + 1 = (l ++ [c]).length by simp, show byteVals l ++ [Value.int .u8 (c.toNat : Nat)] = byteVals (l ++ [c]) by rw [byteVals_append]; rfl]
  refine TQ.endR1 (L' := (BwL b (.pointer (some ⟨b, 0, none⟩)) (.slice ac (l ++ [c]).length cc) (l ++ [c]) L)) Tryz.results82 rvA rfl (.refl _) ?_ selF
  exact ⟨_, rfl, rfl, rfl⟩
set_option maxHeartbeats 4000000 in
theorem wbdstring_turns (b : Nat) (p v : Value) (l : List UInt8) (g : Gh) (L : List Ent) (hv : l = [] → v = .slice none 0 0) : Turns Tryz.prog 76 #[.pointer (some ⟨b, 0, none⟩)] g (BwL b p v l L) (str l) L := by
  refine .of (Does.of1 Tryz.func76 rfl Tryz.ntmps76 rfl ?_)
  unfold BwL
  by_cases hne : l = []
  · subst hne
    obtain rfl := hv rfl
    repeat' (first | refine TC.region_any 12 (_) (by kernel_rfl) rfl selA ?_ | refine TA.done (by decide +kernel) ?_ | ((with_reducible apply TA.take 4 (v := .pointer none)); (· decide +kernel); (· rfl); (· exact Y.slice_data_nil rfl); (· decide +kernel); (· decide +kernel); (· rfl); (· exact fun _ _ _ h => h); (· rfl)) | ((with_reducible apply TA.take 10 (v := str [])); (· decide +kernel); (· rfl); (· exact Y.unsafe_none rfl rfl); (· decide +kernel); (· decide +kernel); (· rfl); (· exact fun _ _ _ h => h); (· rfl)) | ((with_reducible apply TA.take 0); (· decide +kernel); (· rfl); (· (first | exact yA | exact yB | exact yM | exact yV)); (· decide +kernel); (· decide +kernel); (· rfl); (· exact fun _ _ _ h => h); (· rfl)) | ((with_reducible apply TA.take 1); (· decide +kernel); (· rfl); (· (first | exact yA | exact yB | exact yM | exact yV)); (· decide +kernel); (· decide +kernel); (· rfl); (· exact fun _ _ _ h => h); (· rfl)) | ((with_reducible apply TA.take 2); (· decide +kernel); (· rfl); (· (first | exact yA | exact yB | exact yM | exact yV)); (· decide +kernel); (· decide +kernel); (· rfl); (· exact fun _ _ _ h => h); (· rfl)) | ((with_reducible apply TA.take 3); (· decide +kernel); (· rfl); (· (first | exact yA | exact yB | exact yM | exact yV)); (· decide +kernel); (· decide +kernel); (· rfl); (· exact fun _ _ _ h => h); (· rfl)) | ((with_reducible apply TA.take 5); (· decide +kernel); (· rfl); (· (first | exact yA | exact yB | exact yM | exact yV)); (· decide +kernel); (· decide +kernel); (· rfl); (· exact fun _ _ _ h => h); (· rfl)) | ((with_reducible apply TA.take 6); (· decide +kernel); (· rfl); (· (first | exact yA | exact yB | exact yM | exact yV)); (· decide +kernel); (· decide +kernel); (· rfl); (· exact fun _ _ _ h => h); (· rfl)) | ((with_reducible apply TA.take 7); (· decide +kernel); (· rfl); (· (first | exact yA | exact yB | exact yM | exact yV)); (· decide +kernel); (· decide +kernel); (· rfl); (· exact fun _ _ _ h => h); (· rfl)) | ((with_reducible apply TA.take 8); (· decide +kernel); (· rfl); (· (first | exact yA | exact yB | exact yM | exact yV)); (· decide +kernel); (· decide +kernel); (· rfl); (· exact fun _ _ _ h => h); (· rfl)) | ((with_reducible apply TA.take 9); (· decide +kernel); (· rfl); (· (first | exact yA | exact yB | exact yM | exact yV)); (· decide +kernel); (· decide +kernel); (· rfl); (· exact fun _ _ _ h => h); (· rfl)) | ((with_reducible apply TA.take 11); (· decide +kernel); (· rfl); (· (first | exact yA | exact yB | exact yM | exact yV)); (· decide +kernel); (· decide +kernel); (· rfl); (· exact fun _ _ _ h => h); (· rfl)) | refine stS ?_ | fail)
    refine TQ.endR1 (L' := L) Tryz.results76 rvA rfl (.refl _) ?_ selF
    exact ⟨rfl, rfl, rfl⟩
  · have h1 : 0 < l.length := List.length_pos_iff.2 hne
    refine TC.row_room (v := v) pkA h1 ?_
    rintro br cap rfl hlen hc
    have h0 : 0 < cap := Nat.lt_of_lt_of_le h1 hc
    clear hv hlen hc h1
    repeat' (first | refine TC.region_any 12 ([BwO b p (.slice (some ⟨br, 0, none⟩) l.length cap)]) (by kernel_rfl) rfl selA ?_ | refine TA.done (by decide +kernel) ?_ | ((with_reducible apply TA.take 4 (v := .pointer (some ⟨br, 0, none⟩))); (· decide +kernel); (· rfl); (· exact Y.slice_data rfl h0); (· decide +kernel); (· decide +kernel); (· rfl); (· exact fun _ _ _ h => h); (· rfl)) | ((with_reducible apply TL.unsafe_string (bs := l)); (· exact byte_cells); (· rfl); (· rfl); (· exact pkA); (· exact hne); (· rfl)) | ((with_reducible apply TA.take 0); (· decide +kernel); (· rfl); (· (first | exact yA | exact yB | exact yM | exact yV)); (· decide +kernel); (· decide +kernel); (· rfl); (· exact fun _ _ _ h => h); (· rfl)) | ((with_reducible apply TA.take 1); (· decide +kernel); (· rfl); (· (first | exact yA | exact yB | exact yM | exact yV)); (· decide +kernel); (· decide +kernel); (· rfl); (· exact fun _ _ _ h => h); (· rfl)) | ((with_reducible apply TA.take 2); (· decide +kernel); (· rfl); (· (first | exact yA | exact yB | exact yM | exact yV)); (· decide +kernel); (· decide +kernel); (· rfl); (· exact fun _ _ _ h => h); (· rfl)) | ((with_reducible apply TA.take 3); (· decide +kernel); (· rfl); (· (first | exact yA | exact yB | exact yM | exact yV)); (· decide +kernel); (· decide +kernel); (· rfl); (· exact fun _ _ _ h => h); (· rfl)) | ((with_reducible apply TA.take 5); (· decide +kernel); (· rfl); (· (first | exact yA | exact yB | exact yM | exact yV)); (· decide +kernel); (· decide +kernel); (· rfl); (· exact fun _ _ _ h => h); (· rfl)) | ((with_reducible apply TA.take 6); (· decide +kernel); (· rfl); (· (first | exact yA | exact yB | exact yM | exact yV)); (· decide +kernel); (· decide +kernel); (· rfl); (· exact fun _ _ _ h => h); (· rfl)) | ((with_reducible apply TA.take 7); (· decide +kernel); (· rfl); (· (first | exact yA | exact yB | exact yM | exact yV)); (· decide +kernel); (· decide +kernel); (· rfl); (· exact fun _ _ _ h => h); (· rfl)) | ((with_reducible apply TA.take 8); (· decide +kernel); (· rfl); (· (first | exact yA | exact yB | exact yM | exact yV)); (· decide +kernel); (· decide +kernel); (· rfl); (· exact fun _ _ _ h => h); (· rfl)) | ((with_reducible apply TA.take 9); (· decide +kernel); (· rfl); (· (first | exact yA | exact yB | exact yM | exact yV)); (· decide +kernel); (· decide +kernel); (· rfl); (· exact fun _ _ _ h => h); (· rfl)) | ((with_reducible apply TA.take 11); (· decide +kernel); (· rfl); (· (first | exact yA | exact yB | exact yM | exact yV)); (· decide +kernel); (· decide +kernel); (· rfl); (· exact fun _ _ _ h => h); (· rfl)) | ((with_reducible apply TA.one 10); (· rfl); (· decide +kernel); (· rfl)) | refine TQ.any leA selA ?_ | refine stS ?_ | fail)
    refine TQ.endR1 (L' := L) Tryz.results76 rvA rfl (.refl _) ?_ selF
    exact ⟨rfl, rfl, rfl⟩
def WstrR (b : Nat) (l : List UInt8) (g : Gh) (L : List Ent) : Ending → Gh → List Ent → Prop := fun r g' L1 => ∃ v' k, r = .returned (.tuple #[.int .i64 k, .nilIface]) ∧ g' = g ∧ L1 = BwL b (.pointer (some ⟨b, 0, none⟩)) v' l L
set_option maxHeartbeats 4000000 in
theorem wbdstr_does {b : Nat} {p : Value} (hp : BdP b p) (v : Value) (l s : List UInt8) (g : Gh) (L : List Ent) (_hl : l.length + s.length ≤ 100000000) : Does Tryz.prog 113 #[.pointer (some ⟨b, 0, none⟩), str s] g (BwL b p v l L) (WstrR b (l ++ s) g L) := by
  refine Does.of2 Tryz.func113 rfl Tryz.ntmps113 rfl ?_
  unfold WstrR BwL
  refine TC.row_slice (v := v) pkA ?_
  rintro ao cap rfl _
  repeat' (first | refine wkQ ?_ | apply TL.turns (Enters.func (by rfl) (by kernel_rfl) (by rfl)) (wbdcheck_turns hp _ _ _) permA (by rfl) | ((with_reducible apply TL.append_str (e := 5)); (· rfl); (· rfl); (· exact pkA); (· omega); (· rfl); intro vf; refine Go.TL.TL.row_slice (v := vf) pkA ?_; rintro ac cc rfl _) | refine stS ?_ | fail)
  rw [show l.length + s.length = (l ++ s).length by simp, show byteVals l ++ byteVals s = byteVals (l ++ s) by rw [byteVals_append]]
  refine TQ.endR2 (L' := (BwL b (.pointer (some ⟨b, 0, none⟩)) (.slice ac (l ++ s).length cc) (l ++ s) L)) Tryz.results113 rvA rvA rfl (.refl _) ?_ selF
  exact ⟨_, _, rfl, rfl, rfl⟩
def WuneR (b : Nat) (l : List UInt8) (g : Gh) (L : List Ent) : Ending → Gh → List Ent → Prop := fun r g' L1 => ∃ a c k, r = .returned (.tuple #[.int .i64 k, .nilIface]) ∧ g' = g ∧ L1 = BwL b (.pointer (some ⟨b, 0, none⟩)) (.slice a l.length c) l L
set_option maxHeartbeats 4000000 in
theorem wbdrune_does {b : Nat} {p : Value} (hp : BdP b p) (v : Value) (l : List UInt8) (c : Nat) (hg : goodC c) (g : Gh) (L : List Ent) (_hl : l.length ≤ 10000000) : Does Tryz.prog 141 #[.pointer (some ⟨b, 0, none⟩), .int .i32 (c : Nat)] g (BwL b p v l L) (WuneR b (l ++ signB c) g L) := by
  refine Does.of2 Tryz.func141 rfl Tryz.ntmps141 rfl ?_
  unfold WuneR BwL
  refine TC.row_slice (v := v) pkA ?_
  rintro ao cap rfl _
  have A := fun L => apprune_does c hg l ao cap g L (by omega)
  unfold AppR at A
  have hl2 : (l ++ signB c).length ≤ 10000004 := by
    rw [List.length_append]
    have : (signB c).length ≤ 4 := by unfold signB; repeat' split
                                      all_goals simp
    omega
  generalize l ++ signB c = l2 at *
  repeat' (first | refine wkQ ?_ | apply TL.turns (Enters.func (by rfl) (by kernel_rfl) (by rfl)) (wbdcheck_turns hp _ _ _) permA (by rfl) | (refine TL.call (Enters.plain (by kernel_rfl) (by rfl)) (by rfl) (Does.perm (A _) permF) ?_; (rintro e g2 L2 _ ⟨a2, c2, k1, k2, k3⟩; have k2 := k2.symm; subst k1; subst k2; subst k3; refine CallK.ret ?_)) | refine stS ?_ | fail)
  refine TQ.endR2 (L' := (BwL b (.pointer (some ⟨b, 0, none⟩)) (.slice a2 l2.length c2) l2 L)) Tryz.results141 rvA rvA rfl (.refl _) ?_ selF
  exact ⟨a2, c2, _, rfl, rfl, rfl⟩
end Go.Proofs.YthngolfabfijpaaGreatDoor
