/-
  strings.Builder: copyCheck, WriteByte, String.
-/
import Derived.Test.YtphlggmhgfcmgaaGreatDoorB1
import Derived.Test.YtphlggmhgfcmgaaGreatDoorTypes2
import Derived.Lib.Builder
import Derived.LaidEqlPtr
import Derived.Lib.UnsafeStr
import Derived.Laws.Externs
namespace Go.TL
open Go Go.RowKit Go.Proofs.YtphlggmhgfcmgaaGreatDoor
section
variable {P : Program} {ops : Array Oper} {Q : Exit → Act → World → Prop} {rest : List Oper} {n : Nat} {ds : List Deferred} {S : Slots} {g : Gh} {L L' : List Ent}
variable {dst : Option Nat} {d : Nat} {ty : TypeId} {pos : String} {aft : Array Edge} {gd : Option (Nat × Bool)} {x y : Operand} {v z : Value} {t t' e E : TypeId} {k cap sz bytes b off : Nat} {cs : List Value} {bs : List UInt8} {fz : Nat × Nat}
theorem equal_ptr_nn {w : World} [ht : Und P t (.pointer e)] [_hi : Inf P e sz bytes z] : (Op.equal t (.pointer none) (.pointer none)).run P w = .ok true w := by
  unfold Op.equal Op.maxDepth
  rw [Op.equalIn]
  simp [run_und ht.eq, sizeOf, typeInfo]
theorem equal_ptr_sn {w : World} {q : Addr} [ht : Und P t (.pointer e)] [_hi : Inf P e sz bytes z] : (Op.equal t (.pointer (some q)) (.pointer none)).run P w = .ok false w := by
  unfold Op.equal Op.maxDepth
  rw [Op.equalIn]
  simp [run_und ht.eq, sizeOf, typeInfo]
theorem Y.eql_ptr_nn [ht : Und P t (.pointer e)] [hi : Inf P e sz bytes z] (hx : ev S x = some (.pointer none)) : Yields P n ds S g L ⟨dst, .binOp .eql t x (.const (.pointer none)) t', ty, pos, aft, gd⟩ (.bool true) := .mk fun a w hf _ => by
  have he : a.eval (.const (.pointer none)) = .pointer none := rfl
  have := equal_ptr_nn (P := P) (t := t) (e := e) (w := w)
  simp [execOp, hf.ev hx, he, eqGuard, binOp, this]
theorem Y.eql_ptr_sn [ht : Und P t (.pointer e)] [hi : Inf P e sz bytes z] {q : Addr} (hx : ev S x = some (.pointer (some q))) : Yields P n ds S g L ⟨dst, .binOp .eql t x (.const (.pointer none)) t', ty, pos, aft, gd⟩ (.bool false) := .mk fun a w hf _ => by
  have he : a.eval (.const (.pointer none)) = .pointer none := rfl
  have := equal_ptr_sn (P := P) (t := t) (e := e) (w := w) (q := q)
  simp [execOp, hf.ev hx, he, eqGuard, binOp, this]
theorem Y.neq_ptr_same [ht : Und P t (.pointer e)] [hi : Inf P e sz bytes z] {q : Addr} (hx : ev S x = some (.pointer (some q))) (hy : ev S y = some (.pointer (some q))) : Yields P n ds S g L ⟨dst, .binOp .neq t x y t', ty, pos, aft, gd⟩ (.bool false) := .mk fun a w hf _ => by
  obtain ⟨i, hii, hsz, _⟩ := hi.eq
  have := Lib.run_neq_ptr_same w q ht.eq hii
  simp [execOp, hf.ev hx, hf.ev hy, eqGuard, this]
theorem Y.to_unsafe [ht : Und P t (.pointer e)] [hd : Und P t' .unsafePointer] [hi : Inf P e sz bytes z] (h0 : Nat.blt 0 sz = true) (hx : ev S x = some (.pointer (some ⟨b, off, none⟩))) (hm : Pick (.obj b (.cells cs.toArray E fz)) L L') (ho : off < cs.length) : Yields P n ds S g L ⟨dst, .convert t t' x, ty, pos, aft, gd⟩ (.pointer (some ⟨b, off, none⟩)) := .mk fun a w hf hs => by
  obtain ⟨i, hii, hsz, _⟩ := hi.eq
  have h : w.heap[b]? = some (.cells cs.toArray E fz) := (hs.perm hm.perm).st _ List.mem_cons_self
  have h1 : 0 < sz := Nat.le_of_ble_eq_true h0
  have := Lib.run_to_unsafe w ⟨b, off, none⟩ ht.eq hd.eq hii (by omega) (e := E) (cells := cs.length) (by simp [World.shape?, h]) ho
  simp [execOp, hf.ev hx, this]
theorem Y.from_unsafe [ht : Und P t .unsafePointer] [hd : Und P t' (.pointer e)] [hi : Inf P e sz bytes z] (hx : ev S x = some (.pointer (some ⟨b, off, none⟩))) (hm : Pick (.obj b (.cells cs.toArray E fz)) L L') (hl : liesAt P P.depth E (cs.length / P.cellsOf E) off e 1 = true) : Yields P n ds S g L ⟨dst, .convert t t' x, ty, pos, aft, gd⟩ (.pointer (some ⟨b, off, none⟩)) := .mk fun a w hf hs => by
  obtain ⟨i, hii, hsz, _⟩ := hi.eq
  have h : w.heap[b]? = some (.cells cs.toArray E fz) := (hs.perm hm.perm).st _ List.mem_cons_self
  have := Lib.run_from_unsafe w ⟨b, off, none⟩ ht.eq hd.eq hii (e := E) (cells := cs.length) (by simp [World.shape?, h]) hl
  simp [execOp, hf.ev hx, this]
def escB (P : Program) (f : Nat) : Prop := ∃ fn, P.funcs[f]? = some fn ∧ (fn.name == "runtime.NumGoroutine") = false ∧ fn.body.isNone = true ∧ Extern.findNext fn = none ∧ Extern.find fn = some Extern.AbiNoEscape.same
theorem Y.escape {f : FuncId} {ats : Array TypeId} (h : escB P f) (hx : ev S x = some v) : Yields P n ds S g L ⟨dst, .call { callee := .value (.func f), args := #[x], argTypes := ats }, ty, pos, aft, gd⟩ v := .mk fun a w hf _ => by
  obtain ⟨fn, h1, h2, h3, h4, h5⟩ := h
  have he : a.eval (.func f) = .func (.func f) #[] #[] := rfl
  have hc := run_callFunc_extern h1 h2 h3 h4 h5 #[v] w
  rw [Lib.run_noEscape] at hc
  simp [execOp, resolve, he, Deferred.ofValue, invoke, hf.ev hx, hc]
theorem Y.slice_data {ats : Array TypeId} (hx : ev S x = some (.slice (some ⟨b, off, none⟩) k cap)) (hk : 0 < cap) : Yields P n ds S g L ⟨dst, .call { callee := .builtin .unsafeSliceData, args := #[x], argTypes := ats }, ty, pos, aft, gd⟩ (.pointer (some ⟨b, off, none⟩)) := .mk fun a w hf _ => by
  have := Lib.run_unsafeSliceData_row (P := P) w ats ty ⟨b, off, none⟩ k cap (by omega)
  simp [execOp, resolve, invoke, BigFrame.builtin_unsafeSliceData, hf.ev hx, this]
theorem Y.slice_data_nil {ats : Array TypeId} (hx : ev S x = some (.slice none k cap)) : Yields P n ds S g L ⟨dst, .call { callee := .builtin .unsafeSliceData, args := #[x], argTypes := ats }, ty, pos, aft, gd⟩ (.pointer none) := .mk fun a w hf _ => by
  have := Lib.run_unsafeSliceData_nil (P := P) w ats ty k cap
  simp [execOp, resolve, invoke, BigFrame.builtin_unsafeSliceData, hf.ev hx, this]
theorem Y.unsafe_none {p : Option Addr} (hx : ev S x = some (.pointer p)) (hy : ev S y = some (.int .i64 0)) : Yields P n ds S g L ⟨dst, .call { callee := .builtin .unsafeString, args := #[x, y], argTypes := #[t, t'] }, ty, pos, aft, gd⟩ (.string ⟨#[]⟩) := .mk fun a w hf _ => by
  have := Lib.run_unsafeString_none (P := P) w t t' ty p
  simp [execOp, resolve, invoke, BigFrame.builtin_unsafeString, hf.ev hx, hf.ev hy, this]
  rfl
theorem St.frozen {w : World} (hs : St g (.row e 1 (.slice (some ⟨b, 0, none⟩) k cap) k (byteVals bs) :: L) w) (m : Nat) : St g L (w.freeze ⟨b, 0, none⟩ m) := by
  have hnd := hs.nd
  rw [fps_cons] at hnd
  have hne := (List.nodup_append.1 hnd).2.2 b (by simp [Ent.fp, Value.ownBlock])
  have hap : g.hp b = none := hs.ap b (by simp [Ent.fp, Value.ownBlock])
  have ht := hs.tail
  have hk : ∀ c, c ≠ b → (w.freeze ⟨b, 0, none⟩ m).heap[c]? = w.heap[c]? := fun c hc => by
    unfold World.freeze
    split
    · rfl
    · simp only [Array.getElem?_modify]
      rw [if_neg (fun e => hc e.symm)]
  have h3 : (w.freeze ⟨b, 0, none⟩ m).os = w.os ∧ (w.freeze ⟨b, 0, none⟩ m).tape = w.tape ∧ (w.freeze ⟨b, 0, none⟩ m).output = w.output := by unfold World.freeze; split <;> exact ⟨rfl, rfl, rfl⟩
  exact ⟨h3.1.trans ht.os, h3.2.1.trans ht.tape, h3.2.2.trans ht.out, fun c o hc => (hk c (fun e => by rw [e, hap] at hc; cases hc)).trans (ht.hp c o hc), fun x hx => (ht.st x hx).of_block fun c hc => hk c (fun e => hne c (List.mem_flatMap.2 ⟨x, hx, hc⟩) e.symm), ht.nd, ht.ap⟩
theorem TL.unsafe_string [ht : Und P t (.pointer e)] (hc : P.cellsOf e = 1) (hx : ev S x = some (.pointer (some ⟨b, 0, none⟩))) (hy : ev S y = some (.int .i64 k)) (hm : Pick (.row e 1 (.slice (some ⟨b, 0, none⟩) k cap) k (byteVals bs)) L L') (h0 : bs ≠ []) (hd : Nat.blt d n = true)
    (kk : TL P ops Q rest n ds ((d, .string ⟨bs.toArray⟩) :: S) g L') : TL P ops Q (⟨some d, .call { callee := .builtin .unsafeString, args := #[x, y], argTypes := #[t, t'] }, ty, pos, aft, none⟩ :: rest) n ds S g L := .mk fun a w hf hs =>
  wpList_plain rfl fun K hK => by
    have hs1 := hs.perm hm.perm
    have hr : w.ownsRow 0 e 1 (.slice (some ⟨b, 0, none⟩) k cap) k (byteVals bs) := hs1.st _ List.mem_cons_self
    have hlen : bs.length = k := by have := hr.1; rw [byteVals_length] at this; omega
    obtain ⟨c, cur, hh, hle, hcm, hcs⟩ : ∃ c cur, w.heap[b]? = some (.cells cur e (0, 0)) ∧ k ≤ c ∧ c ≤ maxLen ∧ cur.size = c * 1 := by
      rcases hr.2 with ⟨h, _⟩ | ⟨b', c, cur, hv, _, hh, hle, hcm, hcs, _⟩
      · cases h
      · obtain ⟨rfl, rfl⟩ : b = b' ∧ cap = c := by simpa using hv
        exact ⟨cap, cur, hh, hle, hcm, hcs⟩
    have hrun := Lib.run_unsafeString_row (P := P) w t t' ty e ht.eq hc b cur.size (by simp [World.shape?, hh]) bs h0 (by omega) (by unfold maxLen at hcm; omega) (fun j u hu => by
      rw [add_eq]
      have := row_cell hr j (.int .u8 (u.toNat : Nat)) (by simp [byteVals, hu])
      simpa using this)
    rw [hlen] at hrun
    have : (execOp a.eval ⟨some d, .call { callee := .builtin .unsafeString, args := #[x, y], argTypes := #[t, t'] }, ty, pos, aft, none⟩).run P w = .ok (.value (.string ⟨bs.toArray⟩)) (w.freeze ⟨b, 0, none⟩ k) := by
      simp [execOp, resolve, invoke, BigFrame.builtin_unsafeString, hf.ev hx, hf.ev hy, hrun]
    unfold Oper.wp
    rw [this]
    exact hK _ _ (kk.h _ _ (hf.put hd _) (hs1.frozen k))
theorem TC.row_room {c : Code} (hm : Pick (.row e sz v k cs) L L') (h0 : 0 < k) (h : ∀ b cap, v = .slice (some ⟨b, 0, none⟩) k cap → cs.length = k * sz → k ≤ cap → TC P Q c n ds S g L) : TC P Q c n ds S g L := .mk fun a w hf hs => by
  have hr : w.ownsRow 0 e sz v k cs := (hs.perm hm.perm).st _ List.mem_cons_self
  rcases hr.2 with ⟨_, rfl⟩ | ⟨b, cap, cur, hv, _, _, hle, _⟩
  · omega
  · exact (h b cap hv hr.1 hle).h a w hf hs
end
end Go.TL
namespace Go.Proofs.YtphlggmhgfcmgaaGreatDoor
open Go.RowKit Go.TL
set_option maxRecDepth 100000
instance : Und Tryz.prog 118 .unsafePointer := ⟨Tryz.underlying118⟩
/-- A builder, as it lies. -/
abbrev BdO (b : Nat) (p v : Value) : Ent := .obj b (.cells [p, v].toArray 79 (0, 0))
theorem bd_lies : liesAt Tryz.prog Tryz.prog.depth 79 (2 / Tryz.prog.cellsOf 79) 0 79 1 = true := by kernel_rfl
theorem noesc_is : escB Tryz.prog 65 := ⟨_, Tryz.func65, by kernel_rfl, by kernel_rfl, by kernel_rfl, by kernel_rfl⟩
set_option maxHeartbeats 1000000 in
theorem bdcheck_fresh (b : Nat) (v : Value) (g : Gh) (L : List Ent) : Turns Tryz.prog 50 #[.pointer (some ⟨b, 0, none⟩)] g (BdO b (.pointer none) v :: L) (.tuple #[]) (BdO b (.pointer (some ⟨b, 0, none⟩)) v :: L) := by
  refine .of (Does.of1 Tryz.func50 rfl Tryz.ntmps50 rfl ?_)
  repeat' (first
    | ((with_reducible apply TL.pure (d := 6) (v := .bool true)); (· exact Y.eql_ptr_nn rfl); (· rfl)) | ((with_reducible apply TW.pure (d := 6) (v := .bool true)); (· exact Y.eql_ptr_nn rfl); (· rfl))
    | ((with_reducible apply TL.pure (d := 9) (v := .pointer (some ⟨b, 0, none⟩))); (· exact Y.to_unsafe (e := 79) (sz := 2) (cs := [.pointer none, v]) rfl rfl pkA (Nat.zero_lt_succ 1)); (· rfl)) | ((with_reducible apply TW.pure (d := 9) (v := .pointer (some ⟨b, 0, none⟩))); (· exact Y.to_unsafe (e := 79) (sz := 2) (cs := [.pointer none, v]) rfl rfl pkA (Nat.zero_lt_succ 1)); (· rfl))
    | ((with_reducible apply TL.pure (d := 10) (v := .pointer (some ⟨b, 0, none⟩))); (· exact Y.escape noesc_is rfl); (· rfl)) | ((with_reducible apply TW.pure (d := 10) (v := .pointer (some ⟨b, 0, none⟩))); (· exact Y.escape noesc_is rfl); (· rfl))
    | ((with_reducible apply TL.pure (d := 11) (v := .pointer (some ⟨b, 0, none⟩))); (· exact Y.from_unsafe (e := 79) (cs := [.pointer none, v]) rfl pkA bd_lies); (· rfl)) | ((with_reducible apply TW.pure (d := 11) (v := .pointer (some ⟨b, 0, none⟩))); (· exact Y.from_unsafe (e := 79) (cs := [.pointer none, v]) rfl pkA bd_lies); (· rfl))
    | ((with_reducible apply TL.pure); (· exact yA); (· rfl))
    | refine TC.seq ?_ | refine TC.region ?_ | refine TL.nil ?_ | refine TQ.then_normal ?_
    | ((with_reducible apply TL.storeE); (· rfl); (· rfl); (· rfl); (· exact pkA); (· infer_instance)) | ((with_reducible apply TL.store_whole); (· rfl); (· rfl); (· exact oneA); (· rfl); (· exact pkA); (· rfl))
    | refine TC.block ?_ | refine TC.ret ?_ | refine TC.skip ?_ | refine TC.exit ?_ | refine TC.cond rfl ?_
    | refine TQ.down ?_ | refine TQ.in_exit' rfl ?_
    | refine TL.guard_yes rfl rfl ?_ | refine TL.guard_no rfl rfl rfl rfl ?_ | refine TL.guard_no0 rfl rfl rfl ?_ | refine TL.guard_undef rfl rfl rfl ?_ | refine TL.guard_undef0 rfl rfl ?_ | refine TL.guard rfl rfl rfl ?_
    | refine Br.t rfl ?_ | refine Br.f rfl ?_ | refine Br.ky kpA ?_ | refine Br.kn kpA ?_ | refine Br.nky kpA ?_ | refine Br.nkn kpA ?_
    | refine Br.eq0 (fun _ => ?_) (fun _ => ?_) | refine Br.neq0 (fun _ => ?_) (fun _ => ?_) | refine Br.eq (fun _ => ?_) (fun _ => ?_) | refine Br.neq (fun _ => ?_) (fun _ => ?_) | refine Br.not (fun _ => ?_) (fun _ => ?_) | refine Br.dec (fun _ => ?_) (fun _ => ?_) | refine Br.bool (fun _ => ?_) (fun _ => ?_)
    | ((with_reducible apply TL.alloc_ag); (· rfl); intro _) | ((with_reducible apply TL.alloc_sc); (· rfl); (· rfl); intro _) | ((with_reducible apply TL.box_ag); (· rfl); (· rfl); intro _) | ((with_reducible apply TL.box_sc); (· rfl); (· rfl); (· rfl); intro _))
  refine TQ.end_normal ?_
  refine TQ.endR0 (L' := (BdO b (.pointer (some ⟨b, 0, none⟩)) v :: L)) Tryz.results50 rfl (.refl _) ?_ selA
  exact ⟨rfl, rfl, rfl⟩
set_option maxHeartbeats 1000000 in
theorem bdcheck_used (b : Nat) (v : Value) (g : Gh) (L : List Ent) : Turns Tryz.prog 50 #[.pointer (some ⟨b, 0, none⟩)] g (BdO b (.pointer (some ⟨b, 0, none⟩)) v :: L) (.tuple #[]) (BdO b (.pointer (some ⟨b, 0, none⟩)) v :: L) := by
  refine .of (Does.of1 Tryz.func50 rfl Tryz.ntmps50 rfl ?_)
  repeat' (first
    | ((with_reducible apply TL.pure (d := 6) (v := .bool false)); (· exact Y.eql_ptr_sn rfl); (· rfl)) | ((with_reducible apply TW.pure (d := 6) (v := .bool false)); (· exact Y.eql_ptr_sn rfl); (· rfl))
    | ((with_reducible apply TL.pure (d := 19) (v := .bool false)); (· exact Y.neq_ptr_same rfl rfl); (· rfl)) | ((with_reducible apply TW.pure (d := 19) (v := .bool false)); (· exact Y.neq_ptr_same rfl rfl); (· rfl))
    | ((with_reducible apply TL.pure); (· exact yA); (· rfl))
    | refine TC.seq ?_ | refine TC.region ?_ | refine TL.nil ?_ | refine TQ.then_normal ?_
    | ((with_reducible apply TL.storeE); (· rfl); (· rfl); (· rfl); (· exact pkA); (· infer_instance)) | ((with_reducible apply TL.store_whole); (· rfl); (· rfl); (· exact oneA); (· rfl); (· exact pkA); (· rfl))
    | refine TC.block ?_ | refine TC.ret ?_ | refine TC.skip ?_ | refine TC.exit ?_ | refine TC.cond rfl ?_
    | refine TQ.down ?_ | refine TQ.in_exit' rfl ?_
    | refine TL.guard_yes rfl rfl ?_ | refine TL.guard_no rfl rfl rfl rfl ?_ | refine TL.guard_no0 rfl rfl rfl ?_ | refine TL.guard_undef rfl rfl rfl ?_ | refine TL.guard_undef0 rfl rfl ?_ | refine TL.guard rfl rfl rfl ?_
    | refine Br.t rfl ?_ | refine Br.f rfl ?_ | refine Br.ky kpA ?_ | refine Br.kn kpA ?_ | refine Br.nky kpA ?_ | refine Br.nkn kpA ?_
    | refine Br.eq0 (fun _ => ?_) (fun _ => ?_) | refine Br.neq0 (fun _ => ?_) (fun _ => ?_) | refine Br.eq (fun _ => ?_) (fun _ => ?_) | refine Br.neq (fun _ => ?_) (fun _ => ?_) | refine Br.not (fun _ => ?_) (fun _ => ?_) | refine Br.dec (fun _ => ?_) (fun _ => ?_) | refine Br.bool (fun _ => ?_) (fun _ => ?_)
    | ((with_reducible apply TL.alloc_ag); (· rfl); intro _) | ((with_reducible apply TL.alloc_sc); (· rfl); (· rfl); intro _) | ((with_reducible apply TL.box_ag); (· rfl); (· rfl); intro _) | ((with_reducible apply TL.box_sc); (· rfl); (· rfl); (· rfl); intro _))
  refine TQ.end_normal ?_
  refine TQ.endR0 (L' := (BdO b (.pointer (some ⟨b, 0, none⟩)) v :: L)) Tryz.results50 rfl (.refl _) ?_ selA
  exact ⟨rfl, rfl, rfl⟩
/-- What the first word of a builder may be. -/
def BdP (b : Nat) (p : Value) : Prop := p = .pointer none ∨ p = .pointer (some ⟨b, 0, none⟩)
theorem bdcheck_turns {b : Nat} {p : Value} (hp : BdP b p) (v : Value) (g : Gh) (L : List Ent) : Turns Tryz.prog 50 #[.pointer (some ⟨b, 0, none⟩)] g (BdO b p v :: L) (.tuple #[]) (BdO b (.pointer (some ⟨b, 0, none⟩)) v :: L) := by
  rcases hp with rfl | rfl
  · exact bdcheck_fresh b v g L
  · exact bdcheck_used b v g L
/-- A builder that holds bytes. -/
abbrev BdL (b : Nat) (p v : Value) (l : List UInt8) (L : List Ent) : List Ent := BdO b p v :: .row 5 1 v l.length (byteVals l) :: L
def ByteR (b : Nat) (l : List UInt8) (g : Gh) (L : List Ent) : Ending → Gh → List Ent → Prop := fun r g' L1 => ∃ v', r = .returned .nilIface ∧ g' = g ∧ L1 = BdL b (.pointer (some ⟨b, 0, none⟩)) v' l L
set_option maxHeartbeats 2000000 in
theorem bdbyte_does {b : Nat} {p : Value} (hp : BdP b p) (v : Value) (l : List UInt8) (c : UInt8) (g : Gh) (L : List Ent) (hl : l.length ≤ 100000000) : Does Tryz.prog 32 #[.pointer (some ⟨b, 0, none⟩), .int .u8 (c.toNat : Nat)] g (BdL b p v l L) (ByteR b (l ++ [c]) g L) := by
  refine Does.of2 Tryz.func32 rfl Tryz.ntmps32 rfl ?_
  unfold ByteR BdL
  refine TC.row_slice (v := v) pkA ?_
  rintro ao cap rfl _
  repeat' (first
    | apply TL.turns (Enters.func (by rfl) (by kernel_rfl) (by rfl)) (bdcheck_turns hp _ _ _) permA (by rfl) | apply TL.turns (Enters.plain (by kernel_rfl) (by rfl)) (bdcheck_turns hp _ _ _) permA (by rfl)
    | ((with_reducible apply TL.build_slice); (· rfl); (· rfl); (· exact oneA); (· rfl); (· rfl); (· rfl); intro _) | refine TL.build_one (by rfl) (by first | rfl | assumption) (by rfl) (by rfl) (by rfl) (by rfl) (fun _ => ?_) | refine TL.build_empty (by rfl) (fun _ => ?_)
    | ((with_reducible apply TL.append); (· rfl); (· rfl); (· rfl); (· rfl); (· exact pkA); (· first | exact Src.obj pkA | exact Src.sl (by assumption) | exact Src.row pkA); (· first | rfl | exact (byteVals_length _).trans (Nat.mul_one _).symm); (· first | exact byteVals_all _ | exact oneA); (· exact ⟨by unfold maxLen; omega, by omega⟩); (· rfl); intro _)
    | ((with_reducible apply TL.pure); (· exact yA); (· rfl))
    | refine TC.seq ?_ | refine TC.region ?_ | refine TL.nil ?_ | refine TQ.then_normal ?_
    | ((with_reducible apply TL.storeE); (· rfl); (· rfl); (· rfl); (· exact pkA); (· infer_instance)) | ((with_reducible apply TL.store_whole); (· rfl); (· rfl); (· exact oneA); (· rfl); (· exact pkA); (· rfl))
    | refine TC.block ?_ | refine TC.ret ?_ | refine TC.skip ?_ | refine TC.exit ?_ | refine TC.cond rfl ?_
    | refine TQ.down ?_ | refine TQ.in_exit' rfl ?_
    | refine TL.guard_yes rfl rfl ?_ | refine TL.guard_no rfl rfl rfl rfl ?_ | refine TL.guard_no0 rfl rfl rfl ?_ | refine TL.guard_undef rfl rfl rfl ?_ | refine TL.guard_undef0 rfl rfl ?_ | refine TL.guard rfl rfl rfl ?_
    | refine Br.t rfl ?_ | refine Br.f rfl ?_ | refine Br.ky kpA ?_ | refine Br.kn kpA ?_ | refine Br.nky kpA ?_ | refine Br.nkn kpA ?_
    | refine Br.eq0 (fun _ => ?_) (fun _ => ?_) | refine Br.neq0 (fun _ => ?_) (fun _ => ?_) | refine Br.eq (fun _ => ?_) (fun _ => ?_) | refine Br.neq (fun _ => ?_) (fun _ => ?_) | refine Br.not (fun _ => ?_) (fun _ => ?_) | refine Br.dec (fun _ => ?_) (fun _ => ?_) | refine Br.bool (fun _ => ?_) (fun _ => ?_)
    | ((with_reducible apply TL.alloc_ag); (· rfl); intro _) | ((with_reducible apply TL.alloc_sc); (· rfl); (· rfl); intro _) | ((with_reducible apply TL.box_ag); (· rfl); (· rfl); intro _) | ((with_reducible apply TL.box_sc); (· rfl); (· rfl); (· rfl); intro _))
  rename_i b0 v0
  refine Go.TL.TL.row_slice (v := v0) pkA ?_
  rintro ac cc rfl _
  repeat' (first
    | ((with_reducible apply TL.pure); (· exact yA); (· rfl))
    | refine TC.seq ?_ | refine TC.region ?_ | refine TL.nil ?_ | refine TQ.then_normal ?_
    | ((with_reducible apply TL.storeE); (· rfl); (· rfl); (· rfl); (· exact pkA); (· infer_instance)) | ((with_reducible apply TL.store_whole); (· rfl); (· rfl); (· exact oneA); (· rfl); (· exact pkA); (· rfl))
    | refine TC.block ?_ | refine TC.ret ?_ | refine TC.skip ?_ | refine TC.exit ?_ | refine TC.cond rfl ?_
    | refine TQ.down ?_ | refine TQ.in_exit' rfl ?_
    | refine TL.guard_yes rfl rfl ?_ | refine TL.guard_no rfl rfl rfl rfl ?_ | refine TL.guard_no0 rfl rfl rfl ?_ | refine TL.guard_undef rfl rfl rfl ?_ | refine TL.guard_undef0 rfl rfl ?_ | refine TL.guard rfl rfl rfl ?_
    | refine Br.t rfl ?_ | refine Br.f rfl ?_ | refine Br.ky kpA ?_ | refine Br.kn kpA ?_ | refine Br.nky kpA ?_ | refine Br.nkn kpA ?_
    | refine Br.eq0 (fun _ => ?_) (fun _ => ?_) | refine Br.neq0 (fun _ => ?_) (fun _ => ?_) | refine Br.eq (fun _ => ?_) (fun _ => ?_) | refine Br.neq (fun _ => ?_) (fun _ => ?_) | refine Br.not (fun _ => ?_) (fun _ => ?_) | refine Br.dec (fun _ => ?_) (fun _ => ?_) | refine Br.bool (fun _ => ?_) (fun _ => ?_)
    | ((with_reducible apply TL.alloc_ag); (· rfl); intro _) | ((with_reducible apply TL.alloc_sc); (· rfl); (· rfl); intro _) | ((with_reducible apply TL.box_ag); (· rfl); (· rfl); intro _) | ((with_reducible apply TL.box_sc); (· rfl); (· rfl); (· rfl); intro _))
  rw [show l.length + 1 = (l ++ [c]).length by simp, show byteVals l ++ [Value.int .u8 (c.toNat : Nat)] = byteVals (l ++ [c]) by rw [byteVals_append]; rfl]
  refine TQ.endR1 (L' := (BdL b (.pointer (some ⟨b, 0, none⟩)) (.slice ac (l ++ [c]).length cc) (l ++ [c]) L)) Tryz.results32 rvA rfl (.refl _) ?_ selA
  exact ⟨_, rfl, rfl, rfl⟩
theorem byte_cells : Tryz.prog.cellsOf 5 = 1 := by kernel_rfl
set_option maxHeartbeats 4000000 in
theorem bdstring_turns (b : Nat) (p v : Value) (l : List UInt8) (g : Gh) (L : List Ent) (hv : l = [] → v = .slice none 0 0) : Turns Tryz.prog 33 #[.pointer (some ⟨b, 0, none⟩)] g (BdL b p v l L) (str l) L := by
  refine .of (Does.of1 Tryz.func33 rfl Tryz.ntmps33 rfl ?_)
  unfold BdL
  by_cases hne : l = []
  · subst hne
    obtain rfl := hv rfl
    repeat' (first
    | refine TC.region_any 12 (_) (by kernel_rfl) rfl selA ?_ | refine TA.done (by decide +kernel) ?_ | refine TQ.any_panic ?_
    | ((with_reducible apply TA.take 4 (v := .pointer none)); (· decide +kernel); (· rfl); (· exact Y.slice_data_nil rfl); (· decide +kernel); (· decide +kernel); (· rfl); (· exact fun _ _ _ h => h); (· rfl))
    | ((with_reducible apply TA.take 10 (v := str [])); (· decide +kernel); (· rfl); (· exact Y.unsafe_none rfl rfl); (· decide +kernel); (· decide +kernel); (· rfl); (· exact fun _ _ _ h => h); (· rfl))
    | ((with_reducible apply TA.take 0); (· decide +kernel); (· rfl); (· (first | exact yA | exact yB | exact yM | exact yV)); (· decide +kernel); (· decide +kernel); (· rfl); (· exact fun _ _ _ h => h); (· rfl))
    | ((with_reducible apply TA.take 1); (· decide +kernel); (· rfl); (· (first | exact yA | exact yB | exact yM | exact yV)); (· decide +kernel); (· decide +kernel); (· rfl); (· exact fun _ _ _ h => h); (· rfl))
    | ((with_reducible apply TA.take 2); (· decide +kernel); (· rfl); (· (first | exact yA | exact yB | exact yM | exact yV)); (· decide +kernel); (· decide +kernel); (· rfl); (· exact fun _ _ _ h => h); (· rfl))
    | ((with_reducible apply TA.take 3); (· decide +kernel); (· rfl); (· (first | exact yA | exact yB | exact yM | exact yV)); (· decide +kernel); (· decide +kernel); (· rfl); (· exact fun _ _ _ h => h); (· rfl))
    | ((with_reducible apply TA.take 4); (· decide +kernel); (· rfl); (· (first | exact yA | exact yB | exact yM | exact yV)); (· decide +kernel); (· decide +kernel); (· rfl); (· exact fun _ _ _ h => h); (· rfl))
    | ((with_reducible apply TA.take 5); (· decide +kernel); (· rfl); (· (first | exact yA | exact yB | exact yM | exact yV)); (· decide +kernel); (· decide +kernel); (· rfl); (· exact fun _ _ _ h => h); (· rfl))
    | ((with_reducible apply TA.take 6); (· decide +kernel); (· rfl); (· (first | exact yA | exact yB | exact yM | exact yV)); (· decide +kernel); (· decide +kernel); (· rfl); (· exact fun _ _ _ h => h); (· rfl))
    | ((with_reducible apply TA.take 7); (· decide +kernel); (· rfl); (· (first | exact yA | exact yB | exact yM | exact yV)); (· decide +kernel); (· decide +kernel); (· rfl); (· exact fun _ _ _ h => h); (· rfl))
    | ((with_reducible apply TA.take 8); (· decide +kernel); (· rfl); (· (first | exact yA | exact yB | exact yM | exact yV)); (· decide +kernel); (· decide +kernel); (· rfl); (· exact fun _ _ _ h => h); (· rfl))
    | ((with_reducible apply TA.take 9); (· decide +kernel); (· rfl); (· (first | exact yA | exact yB | exact yM | exact yV)); (· decide +kernel); (· decide +kernel); (· rfl); (· exact fun _ _ _ h => h); (· rfl))
    | ((with_reducible apply TA.take 10); (· decide +kernel); (· rfl); (· (first | exact yA | exact yB | exact yM | exact yV)); (· decide +kernel); (· decide +kernel); (· rfl); (· exact fun _ _ _ h => h); (· rfl))
    | ((with_reducible apply TA.take 11); (· decide +kernel); (· rfl); (· (first | exact yA | exact yB | exact yM | exact yV)); (· decide +kernel); (· decide +kernel); (· rfl); (· exact fun _ _ _ h => h); (· rfl))
    | ((with_reducible apply TA.one 0); (· rfl); (· decide +kernel); (· rfl))
    | ((with_reducible apply TA.one 1); (· rfl); (· decide +kernel); (· rfl))
    | ((with_reducible apply TA.one 2); (· rfl); (· decide +kernel); (· rfl))
    | ((with_reducible apply TA.one 3); (· rfl); (· decide +kernel); (· rfl))
    | ((with_reducible apply TA.one 4); (· rfl); (· decide +kernel); (· rfl))
    | ((with_reducible apply TA.one 5); (· rfl); (· decide +kernel); (· rfl))
    | ((with_reducible apply TA.one 6); (· rfl); (· decide +kernel); (· rfl))
    | ((with_reducible apply TA.one 7); (· rfl); (· decide +kernel); (· rfl))
    | ((with_reducible apply TA.one 8); (· rfl); (· decide +kernel); (· rfl))
    | ((with_reducible apply TA.one 9); (· rfl); (· decide +kernel); (· rfl))
    | ((with_reducible apply TA.one 10); (· rfl); (· decide +kernel); (· rfl))
    | ((with_reducible apply TA.one 11); (· rfl); (· decide +kernel); (· rfl))
    | refine TQ.any leA selA ?_
    | ((with_reducible apply TL.pure); (· exact yA); (· rfl))
    | refine TC.seq ?_ | refine TC.region ?_ | refine TL.nil ?_ | refine TQ.then_normal ?_
    | ((with_reducible apply TL.storeE); (· rfl); (· rfl); (· rfl); (· exact pkA); (· infer_instance)) | ((with_reducible apply TL.store_whole); (· rfl); (· rfl); (· exact oneA); (· rfl); (· exact pkA); (· rfl))
    | refine TC.block ?_ | refine TC.ret ?_ | refine TC.skip ?_ | refine TC.exit ?_ | refine TC.cond rfl ?_
    | refine TQ.down ?_ | refine TQ.in_exit' rfl ?_
    | refine TL.guard_yes rfl rfl ?_ | refine TL.guard_no rfl rfl rfl rfl ?_ | refine TL.guard_no0 rfl rfl rfl ?_ | refine TL.guard_undef rfl rfl rfl ?_ | refine TL.guard_undef0 rfl rfl ?_ | refine TL.guard rfl rfl rfl ?_
    | refine Br.t rfl ?_ | refine Br.f rfl ?_ | refine Br.ky kpA ?_ | refine Br.kn kpA ?_ | refine Br.nky kpA ?_ | refine Br.nkn kpA ?_
    | refine Br.eq0 (fun _ => ?_) (fun _ => ?_) | refine Br.neq0 (fun _ => ?_) (fun _ => ?_) | refine Br.eq (fun _ => ?_) (fun _ => ?_) | refine Br.neq (fun _ => ?_) (fun _ => ?_) | refine Br.not (fun _ => ?_) (fun _ => ?_) | refine Br.dec (fun _ => ?_) (fun _ => ?_) | refine Br.bool (fun _ => ?_) (fun _ => ?_)
    | ((with_reducible apply TL.alloc_ag); (· rfl); intro _) | ((with_reducible apply TL.alloc_sc); (· rfl); (· rfl); intro _) | ((with_reducible apply TL.box_ag); (· rfl); (· rfl); intro _) | ((with_reducible apply TL.box_sc); (· rfl); (· rfl); (· rfl); intro _))
    refine TQ.endR1 (L' := L) Tryz.results33 rvA rfl (.refl _) ?_ selA
    exact ⟨rfl, rfl, rfl⟩
  · have h1 : 0 < l.length := List.length_pos_iff.2 hne
    refine TC.row_room (v := v) pkA h1 ?_
    rintro br cap rfl hlen hc
    have h0 : 0 < cap := Nat.lt_of_lt_of_le h1 hc
    clear hv hlen hc h1
    repeat' (first
    | refine TC.region_any 12 ([BdO b p (.slice (some ⟨br, 0, none⟩) l.length cap)]) (by kernel_rfl) rfl selA ?_ | refine TA.done (by decide +kernel) ?_ | refine TQ.any_panic ?_
    | ((with_reducible apply TA.take 4 (v := .pointer (some ⟨br, 0, none⟩))); (· decide +kernel); (· rfl); (· exact Y.slice_data rfl h0); (· decide +kernel); (· decide +kernel); (· rfl); (· exact fun _ _ _ h => h); (· rfl))
    | ((with_reducible apply TL.unsafe_string (bs := l)); (· exact byte_cells); (· rfl); (· rfl); (· exact pkA); (· exact hne); (· rfl))
    | ((with_reducible apply TA.take 0); (· decide +kernel); (· rfl); (· (first | exact yA | exact yB | exact yM | exact yV)); (· decide +kernel); (· decide +kernel); (· rfl); (· exact fun _ _ _ h => h); (· rfl))
    | ((with_reducible apply TA.take 1); (· decide +kernel); (· rfl); (· (first | exact yA | exact yB | exact yM | exact yV)); (· decide +kernel); (· decide +kernel); (· rfl); (· exact fun _ _ _ h => h); (· rfl))
    | ((with_reducible apply TA.take 2); (· decide +kernel); (· rfl); (· (first | exact yA | exact yB | exact yM | exact yV)); (· decide +kernel); (· decide +kernel); (· rfl); (· exact fun _ _ _ h => h); (· rfl))
    | ((with_reducible apply TA.take 3); (· decide +kernel); (· rfl); (· (first | exact yA | exact yB | exact yM | exact yV)); (· decide +kernel); (· decide +kernel); (· rfl); (· exact fun _ _ _ h => h); (· rfl))
    | ((with_reducible apply TA.take 4); (· decide +kernel); (· rfl); (· (first | exact yA | exact yB | exact yM | exact yV)); (· decide +kernel); (· decide +kernel); (· rfl); (· exact fun _ _ _ h => h); (· rfl))
    | ((with_reducible apply TA.take 5); (· decide +kernel); (· rfl); (· (first | exact yA | exact yB | exact yM | exact yV)); (· decide +kernel); (· decide +kernel); (· rfl); (· exact fun _ _ _ h => h); (· rfl))
    | ((with_reducible apply TA.take 6); (· decide +kernel); (· rfl); (· (first | exact yA | exact yB | exact yM | exact yV)); (· decide +kernel); (· decide +kernel); (· rfl); (· exact fun _ _ _ h => h); (· rfl))
    | ((with_reducible apply TA.take 7); (· decide +kernel); (· rfl); (· (first | exact yA | exact yB | exact yM | exact yV)); (· decide +kernel); (· decide +kernel); (· rfl); (· exact fun _ _ _ h => h); (· rfl))
    | ((with_reducible apply TA.take 8); (· decide +kernel); (· rfl); (· (first | exact yA | exact yB | exact yM | exact yV)); (· decide +kernel); (· decide +kernel); (· rfl); (· exact fun _ _ _ h => h); (· rfl))
    | ((with_reducible apply TA.take 9); (· decide +kernel); (· rfl); (· (first | exact yA | exact yB | exact yM | exact yV)); (· decide +kernel); (· decide +kernel); (· rfl); (· exact fun _ _ _ h => h); (· rfl))
    | ((with_reducible apply TA.take 10); (· decide +kernel); (· rfl); (· (first | exact yA | exact yB | exact yM | exact yV)); (· decide +kernel); (· decide +kernel); (· rfl); (· exact fun _ _ _ h => h); (· rfl))
    | ((with_reducible apply TA.take 11); (· decide +kernel); (· rfl); (· (first | exact yA | exact yB | exact yM | exact yV)); (· decide +kernel); (· decide +kernel); (· rfl); (· exact fun _ _ _ h => h); (· rfl))
    | ((with_reducible apply TA.one 0); (· rfl); (· decide +kernel); (· rfl))
    | ((with_reducible apply TA.one 1); (· rfl); (· decide +kernel); (· rfl))
    | ((with_reducible apply TA.one 2); (· rfl); (· decide +kernel); (· rfl))
    | ((with_reducible apply TA.one 3); (· rfl); (· decide +kernel); (· rfl))
    | ((with_reducible apply TA.one 4); (· rfl); (· decide +kernel); (· rfl))
    | ((with_reducible apply TA.one 5); (· rfl); (· decide +kernel); (· rfl))
    | ((with_reducible apply TA.one 6); (· rfl); (· decide +kernel); (· rfl))
    | ((with_reducible apply TA.one 7); (· rfl); (· decide +kernel); (· rfl))
    | ((with_reducible apply TA.one 8); (· rfl); (· decide +kernel); (· rfl))
    | ((with_reducible apply TA.one 9); (· rfl); (· decide +kernel); (· rfl))
    | ((with_reducible apply TA.one 10); (· rfl); (· decide +kernel); (· rfl))
    | ((with_reducible apply TA.one 11); (· rfl); (· decide +kernel); (· rfl))
    | refine TQ.any leA selA ?_
    | ((with_reducible apply TL.pure); (· exact yA); (· rfl))
    | refine TC.seq ?_ | refine TC.region ?_ | refine TL.nil ?_ | refine TQ.then_normal ?_
    | ((with_reducible apply TL.storeE); (· rfl); (· rfl); (· rfl); (· exact pkA); (· infer_instance)) | ((with_reducible apply TL.store_whole); (· rfl); (· rfl); (· exact oneA); (· rfl); (· exact pkA); (· rfl))
    | refine TC.block ?_ | refine TC.ret ?_ | refine TC.skip ?_ | refine TC.exit ?_ | refine TC.cond rfl ?_
    | refine TQ.down ?_ | refine TQ.in_exit' rfl ?_
    | refine TL.guard_yes rfl rfl ?_ | refine TL.guard_no rfl rfl rfl rfl ?_ | refine TL.guard_no0 rfl rfl rfl ?_ | refine TL.guard_undef rfl rfl rfl ?_ | refine TL.guard_undef0 rfl rfl ?_ | refine TL.guard rfl rfl rfl ?_
    | refine Br.t rfl ?_ | refine Br.f rfl ?_ | refine Br.ky kpA ?_ | refine Br.kn kpA ?_ | refine Br.nky kpA ?_ | refine Br.nkn kpA ?_
    | refine Br.eq0 (fun _ => ?_) (fun _ => ?_) | refine Br.neq0 (fun _ => ?_) (fun _ => ?_) | refine Br.eq (fun _ => ?_) (fun _ => ?_) | refine Br.neq (fun _ => ?_) (fun _ => ?_) | refine Br.not (fun _ => ?_) (fun _ => ?_) | refine Br.dec (fun _ => ?_) (fun _ => ?_) | refine Br.bool (fun _ => ?_) (fun _ => ?_)
    | ((with_reducible apply TL.alloc_ag); (· rfl); intro _) | ((with_reducible apply TL.alloc_sc); (· rfl); (· rfl); intro _) | ((with_reducible apply TL.box_ag); (· rfl); (· rfl); intro _) | ((with_reducible apply TL.box_sc); (· rfl); (· rfl); (· rfl); intro _))
    refine TQ.endR1 (L' := L) Tryz.results33 rvA rfl (.refl _) ?_ selA
    exact ⟨rfl, rfl, rfl⟩
end Go.Proofs.YtphlggmhgfcmgaaGreatDoor
