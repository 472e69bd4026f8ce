/-
  strings.Builder: copyCheck, WriteByte, String. strings.Builder: WriteString, Len, Reset, String where the builder is used again. The walk of stem.Stem.
-/
import Derived.Test.YtgollffmdpejiaaGreatDoorQz3
import Derived.Test.YtgollffmdpejiaaGreatDoorQz1
import Derived.Test.YtgollffmdpejiaaGreatDoorQz6
import Derived.Lib.Builder
import Derived.LaidEqlPtr
import Derived.Lib.UnsafeStr
import Derived.Laws.Externs
import Derived.Test.YtgollffmdpejiaaGreatDoorQz2
import Derived.Test.YtgollffmdpejiaaGreatDoorQz34
namespace Go.TL
open Go Go.RowKit Go.Proofs.YtgollffmdpejiaaGreatDoor
section
variable {P : Program} {ops : Array Oper} {Q : Exit → Act → World → Prop} {rest : List Oper} {n : Nat} {ds : List Deferred} {S : Slots} {g : Gh} {L L' : List Ent}
variable {dst : Option Nat} {d : Nat} {ty : TypeId} {pos : String} {aft : Array Edge} {gd : Option (Nat × Bool)} {x y : Operand} {v z : Value} {t t' e E : TypeId} {k cap sz bytes b off : Nat} {cs : List Value} {bs : List UInt8} {fz : Nat × Nat}
theorem equal_ptr_nn {w : World} [ht : Und P t (.pointer e)] [_hi : Inf P e sz bytes z] : (Op.equal t (.pointer none) (.pointer none)).run P w = .ok true w := by
  unfold Op.equal Op.maxDepth
  rw [Op.equalIn]
  simp [run_und ht.eq, sizeOf, typeInfo]
theorem equal_ptr_sn {w : World} {q : Addr} [ht : Und P t (.pointer e)] [_hi : Inf P e sz bytes z] : (Op.equal t (.pointer (some q)) (.pointer none)).run P w = .ok false w := by
  unfold Op.equal Op.maxDepth
  rw [Op.equalIn]
  simp [run_und ht.eq, sizeOf, typeInfo]
theorem Y.eql_ptr_nn [ht : Und P t (.pointer e)] [hi : Inf P e sz bytes z] (hx : ev S x = some (.pointer none)) : Yields P n ds S g L ⟨dst, .binOp .eql t x (.const (.pointer none)) t', ty, pos, aft, gd⟩ (.bool true) := .mk fun a w hf _ => by
  have he : a.eval (.const (.pointer none)) = .pointer none := rfl
  have := equal_ptr_nn (P := P) (t := t) (e := e) (w := w)
  simp [execOp, hf.ev hx, he, eqGuard, binOp, this]
theorem Y.eql_ptr_sn [ht : Und P t (.pointer e)] [hi : Inf P e sz bytes z] {q : Addr} (hx : ev S x = some (.pointer (some q))) : Yields P n ds S g L ⟨dst, .binOp .eql t x (.const (.pointer none)) t', ty, pos, aft, gd⟩ (.bool false) := .mk fun a w hf _ => by
  have he : a.eval (.const (.pointer none)) = .pointer none := rfl
  have := equal_ptr_sn (P := P) (t := t) (e := e) (w := w) (q := q)
  simp [execOp, hf.ev hx, he, eqGuard, binOp, this]
theorem Y.neq_ptr_same [ht : Und P t (.pointer e)] [hi : Inf P e sz bytes z] {q : Addr} (hx : ev S x = some (.pointer (some q))) (hy : ev S y = some (.pointer (some q))) : Yields P n ds S g L ⟨dst, .binOp .neq t x y t', ty, pos, aft, gd⟩ (.bool false) := .mk fun a w hf _ => by
  obtain ⟨i, hii, hsz, _⟩ := hi.eq
  have := Lib.run_neq_ptr_same w q ht.eq hii
  simp [execOp, hf.ev hx, hf.ev hy, eqGuard, this]
theorem Y.to_unsafe [ht : Und P t (.pointer e)] [hd : Und P t' .unsafePointer] [hi : Inf P e sz bytes z] (h0 : Nat.blt 0 sz = true) (hx : ev S x = some (.pointer (some ⟨b, off, none⟩))) (hm : Pick (.obj b (.cells cs.toArray E fz)) L L') (ho : off < cs.length) : Yields P n ds S g L ⟨dst, .convert t t' x, ty, pos, aft, gd⟩ (.pointer (some ⟨b, off, none⟩)) := .mk fun a w hf hs => by
  obtain ⟨i, hii, hsz, _⟩ := hi.eq
  have h : w.heap[b]? = some (.cells cs.toArray E fz) := (hs.perm hm.perm).st _ List.mem_cons_self
  have h1 : 0 < sz := Nat.le_of_ble_eq_true h0
  have := Lib.run_to_unsafe w ⟨b, off, none⟩ ht.eq hd.eq hii (by omega) (e := E) (cells := cs.length) (by simp [World.shape?, h]) ho
  simp [execOp, hf.ev hx, this]
theorem Y.from_unsafe [ht : Und P t .unsafePointer] [hd : Und P t' (.pointer e)] [hi : Inf P e sz bytes z] (hx : ev S x = some (.pointer (some ⟨b, off, none⟩))) (hm : Pick (.obj b (.cells cs.toArray E fz)) L L') (hl : liesAt P P.depth E (cs.length / P.cellsOf E) off e 1 = true) : Yields P n ds S g L ⟨dst, .convert t t' x, ty, pos, aft, gd⟩ (.pointer (some ⟨b, off, none⟩)) := .mk fun a w hf hs => by
  obtain ⟨i, hii, hsz, _⟩ := hi.eq
  have h : w.heap[b]? = some (.cells cs.toArray E fz) := (hs.perm hm.perm).st _ List.mem_cons_self
  have := Lib.run_from_unsafe w ⟨b, off, none⟩ ht.eq hd.eq hii (e := E) (cells := cs.length) (by simp [World.shape?, h]) hl
  simp [execOp, hf.ev hx, this]
def escB (P : Program) (f : Nat) : Prop := ∃ fn, P.funcs[f]? = some fn ∧ (fn.name == "runtime.NumGoroutine") = false ∧ fn.body.isNone = true ∧ Extern.findNext fn = none ∧ Extern.find fn = some Extern.AbiNoEscape.same
theorem Y.escape {f : FuncId} {ats : Array TypeId} (h : escB P f) (hx : ev S x = some v) : Yields P n ds S g L ⟨dst, .call { callee := .value (.func f), args := #[x], argTypes := ats }, ty, pos, aft, gd⟩ v := .mk fun a w hf _ => by
  obtain ⟨fn, h1, h2, h3, h4, h5⟩ := h
  have he : a.eval (.func f) = .func (.func f) #[] #[] := rfl
  have hc := run_callFunc_extern h1 h2 h3 h4 h5 #[v] w
  rw [Lib.run_noEscape] at hc
  simp [execOp, resolve, he, Deferred.ofValue, invoke, hf.ev hx, hc]
theorem Y.slice_data {ats : Array TypeId} (hx : ev S x = some (.slice (some ⟨b, off, none⟩) k cap)) (_hk : 0 < cap) : Yields P n ds S g L ⟨dst, .call { callee := .builtin .unsafeSliceData, args := #[x], argTypes := ats }, ty, pos, aft, gd⟩ (.pointer (some ⟨b, off, none⟩)) := .mk fun a w hf _ => by
  have := Lib.run_unsafeSliceData_row (P := P) w ats ty ⟨b, off, none⟩ k cap (by omega)
  simp [execOp, resolve, invoke, BigFrame.builtin_unsafeSliceData, hf.ev hx, this]
theorem Y.slice_data_nil {ats : Array TypeId} (hx : ev S x = some (.slice none k cap)) : Yields P n ds S g L ⟨dst, .call { callee := .builtin .unsafeSliceData, args := #[x], argTypes := ats }, ty, pos, aft, gd⟩ (.pointer none) := .mk fun a w hf _ => by
  have := Lib.run_unsafeSliceData_nil (P := P) w ats ty k cap
  simp [execOp, resolve, invoke, BigFrame.builtin_unsafeSliceData, hf.ev hx, this]
theorem Y.unsafe_none {p : Option Addr} (hx : ev S x = some (.pointer p)) (hy : ev S y = some (.int .i64 0)) : Yields P n ds S g L ⟨dst, .call { callee := .builtin .unsafeString, args := #[x, y], argTypes := #[t, t'] }, ty, pos, aft, gd⟩ (.string ⟨#[]⟩) := .mk fun a w hf _ => by
  have := Lib.run_unsafeString_none (P := P) w t t' ty p
  simp [execOp, resolve, invoke, BigFrame.builtin_unsafeString, hf.ev hx, hf.ev hy, this]
  rfl
theorem St.frozen {w : World} (hs : St g (.row e 1 (.slice (some ⟨b, 0, none⟩) k cap) k (byteVals bs) :: L) w) (m : Nat) : St g L (w.freeze ⟨b, 0, none⟩ m) := by
  have hnd := hs.nd
  rw [fps_cons] at hnd
  have hne := (List.nodup_append.1 hnd).2.2 b (by simp [Ent.fp, Value.ownBlock])
  have hap : g.hp b = none := hs.ap b (by simp [Ent.fp, Value.ownBlock])
  have ht := hs.tail
  have hk : ∀ c, c ≠ b → (w.freeze ⟨b, 0, none⟩ m).heap[c]? = w.heap[c]? := fun c hc => by
    unfold World.freeze
    split
    · rfl
    · simp only [Array.getElem?_modify]
      rw [if_neg (fun e => hc e.symm)]
  have h3 : (w.freeze ⟨b, 0, none⟩ m).os = w.os ∧ (w.freeze ⟨b, 0, none⟩ m).tape = w.tape ∧ (w.freeze ⟨b, 0, none⟩ m).output = w.output := by unfold World.freeze; split <;> exact ⟨rfl, rfl, rfl⟩
  exact ⟨h3.1.trans ht.os, h3.2.1.trans ht.tape, h3.2.2.trans ht.out, fun c o hc => (hk c (fun e => by rw [e, hap] at hc; cases hc)).trans (ht.hp c o hc), fun x hx => (ht.st x hx).of_block fun c hc => hk c (fun e => hne c (List.mem_flatMap.2 ⟨x, hx, hc⟩) e.symm), ht.nd, ht.ap⟩
theorem TL.unsafe_string [ht : Und P t (.pointer e)] (hc : P.cellsOf e = 1) (hx : ev S x = some (.pointer (some ⟨b, 0, none⟩))) (hy : ev S y = some (.int .i64 k)) (hm : Pick (.row e 1 (.slice (some ⟨b, 0, none⟩) k cap) k (byteVals bs)) L L') (h0 : bs ≠ []) (hd : Nat.blt d n = true)
    (kk : TL P ops Q rest n ds ((d, .string ⟨bs.toArray⟩) :: S) g L') : TL P ops Q (⟨some d, .call { callee := .builtin .unsafeString, args := #[x, y], argTypes := #[t, t'] }, ty, pos, aft, none⟩ :: rest) n ds S g L := .mk fun a w hf hs =>
  wpList_plain rfl fun K hK => by
    have hs1 := hs.perm hm.perm
    have hr : w.ownsRow 0 e 1 (.slice (some ⟨b, 0, none⟩) k cap) k (byteVals bs) := hs1.st _ List.mem_cons_self
    have hlen : bs.length = k := by have := hr.1; rw [byteVals_length] at this; omega
    obtain ⟨c, cur, hh, hle, hcm, hcs⟩ : ∃ c cur, w.heap[b]? = some (.cells cur e (0, 0)) ∧ k ≤ c ∧ c ≤ maxLen ∧ cur.size = c * 1 := by
      rcases hr.2 with ⟨h, _⟩ | ⟨b', c, cur, hv, _, hh, hle, hcm, hcs, _⟩
      · cases h
      · obtain ⟨rfl, rfl⟩ : b = b' ∧ cap = c := by simpa using hv
        exact ⟨cap, cur, hh, hle, hcm, hcs⟩
    have hrun := Lib.run_unsafeString_row (P := P) w t t' ty e ht.eq hc b cur.size (by simp [World.shape?, hh]) bs h0 (by omega) (by unfold maxLen at hcm; omega) (fun j u hu => by
      rw [add_eq]
      have := row_cell hr j (.int .u8 (u.toNat : Nat)) (by simp [byteVals, hu])
      simpa using this)
    rw [hlen] at hrun
    have : (execOp a.eval ⟨some d, .call { callee := .builtin .unsafeString, args := #[x, y], argTypes := #[t, t'] }, ty, pos, aft, none⟩).run P w = .ok (.value (.string ⟨bs.toArray⟩)) (w.freeze ⟨b, 0, none⟩ k) := by
      simp [execOp, resolve, invoke, BigFrame.builtin_unsafeString, hf.ev hx, hf.ev hy, hrun]
    unfold Oper.wp
    rw [this]
    exact hK _ _ (kk.h _ _ (hf.put hd _) (hs1.frozen k))
theorem TC.row_room {c : Code} (hm : Pick (.row e sz v k cs) L L') (_h0 : 0 < k) (h : ∀ b cap, v = .slice (some ⟨b, 0, none⟩) k cap → cs.length = k * sz → k ≤ cap → TC P Q c n ds S g L) : TC P Q c n ds S g L := .mk fun a w hf hs => by
  have hr : w.ownsRow 0 e sz v k cs := (hs.perm hm.perm).st _ List.mem_cons_self
  rcases hr.2 with ⟨_, rfl⟩ | ⟨b, cap, cur, hv, _, _, hle, _⟩
  · omega
  · exact (h b cap hv hr.1 hle).h a w hf hs
end
end Go.TL
namespace Go.Proofs.YtgollffmdpejiaaGreatDoor
open Go.RowKit Go.TL
set_option maxRecDepth 100000
instance : Und Tryz.prog 240 .unsafePointer := ⟨Tryz.underlying240⟩
abbrev BdO (b : Nat) (p v : Value) : Ent := .obj b (.cells [p, v].toArray 145 (0, 0))
theorem bd_lies : liesAt Tryz.prog Tryz.prog.depth 145 (2 / Tryz.prog.cellsOf 145) 0 145 1 = true := by kernel_rfl
theorem noesc_is : escB Tryz.prog 154 := ⟨_, Tryz.func154, by kernel_rfl, by kernel_rfl, by kernel_rfl, by kernel_rfl⟩
set_option maxHeartbeats 1000000 in
theorem bdcheck_fresh (b : Nat) (v : Value) (g : Gh) (L : List Ent) : Turns Tryz.prog 118 #[.pointer (some ⟨b, 0, none⟩)] g (BdO b (.pointer none) v :: L) (.tuple #[]) (BdO b (.pointer (some ⟨b, 0, none⟩)) v :: L) := by
  refine .of (Does.of1 Tryz.func118 rfl Tryz.ntmps118 rfl ?_)
  repeat' (first
    | (refine wkA 6 (v := .bool true) ?_ ?_; · exact Y.eql_ptr_nn rfl)
    | (refine wkA 9 (v := .pointer (some ⟨b, 0, none⟩)) ?_ ?_; · exact Y.to_unsafe (e := 145) (sz := 2) (cs := [.pointer none, v]) rfl rfl pkA (Nat.zero_lt_succ 1))
    | (refine wkA 10 (v := .pointer (some ⟨b, 0, none⟩)) ?_ ?_; · exact Y.escape noesc_is rfl)
    | (refine wkA 11 (v := .pointer (some ⟨b, 0, none⟩)) ?_ ?_; · exact Y.from_unsafe (e := 145) (cs := [.pointer none, v]) rfl pkA bd_lies)
    | refine stS ?_ | (refine stB ?_; intro _) | (refine stC ?_; constructor <;> intro _))
  refine TQ.end_normal ?_
  refine TQ.endR0 (L' := (BdO b (.pointer (some ⟨b, 0, none⟩)) v :: L)) Tryz.results118 rfl (.refl _) ?_ selA
  exact ⟨rfl, rfl, rfl⟩
set_option maxHeartbeats 1000000 in
theorem bdcheck_used (b : Nat) (v : Value) (g : Gh) (L : List Ent) : Turns Tryz.prog 118 #[.pointer (some ⟨b, 0, none⟩)] g (BdO b (.pointer (some ⟨b, 0, none⟩)) v :: L) (.tuple #[]) (BdO b (.pointer (some ⟨b, 0, none⟩)) v :: L) := by
  refine .of (Does.of1 Tryz.func118 rfl Tryz.ntmps118 rfl ?_)
  repeat' (first
    | (refine wkA 6 (v := .bool false) ?_ ?_; · exact Y.eql_ptr_sn rfl)
    | (refine wkA 19 (v := .bool false) ?_ ?_; · exact Y.neq_ptr_same rfl rfl)
    | refine stS ?_ | (refine stB ?_; intro _) | (refine stC ?_; constructor <;> intro _))
  refine TQ.end_normal ?_
  refine TQ.endR0 (L' := (BdO b (.pointer (some ⟨b, 0, none⟩)) v :: L)) Tryz.results118 rfl (.refl _) ?_ selA
  exact ⟨rfl, rfl, rfl⟩
def BdP (b : Nat) (p : Value) : Prop := p = .pointer none ∨ p = .pointer (some ⟨b, 0, none⟩)
theorem bdcheck_turns {b : Nat} {p : Value} (hp : BdP b p) (v : Value) (g : Gh) (L : List Ent) : Turns Tryz.prog 118 #[.pointer (some ⟨b, 0, none⟩)] g (BdO b p v :: L) (.tuple #[]) (BdO b (.pointer (some ⟨b, 0, none⟩)) v :: L) := by
  rcases hp with rfl | rfl
  · exact bdcheck_fresh b v g L
  · exact bdcheck_used b v g L
abbrev BdL (b : Nat) (p v : Value) (l : List UInt8) (L : List Ent) : List Ent := BdO b p v :: .row 5 1 v l.length (byteVals l) :: L
theorem byte_cells : Tryz.prog.cellsOf 5 = 1 := by kernel_rfl
end Go.Proofs.YtgollffmdpejiaaGreatDoor
namespace Go.Proofs.YtgollffmdpejiaaGreatDoor
open Go.RowKit Go.TL
set_option maxRecDepth 100000

def StrR (b : Nat) (l : List UInt8) (g : Gh) (L : List Ent) : Ending → Gh → List Ent → Prop := fun r g' L1 => ∃ a c k, r = .returned (.tuple #[.int .i64 k, .nilIface]) ∧ g' = g ∧ L1 = BdL b (.pointer (some ⟨b, 0, none⟩)) (.slice a l.length c) l L
set_option maxHeartbeats 4000000 in
theorem bdstr_does {b : Nat} {p : Value} (hp : BdP b p) (v : Value) (l s : List UInt8) (g : Gh) (L : List Ent) (_hl : l.length + s.length ≤ 100000000) : Does Tryz.prog 148 #[.pointer (some ⟨b, 0, none⟩), str s] g (BdL b p v l L) (StrR b (l ++ s) g L) := by
  refine Does.of2 Tryz.func148 rfl Tryz.ntmps148 rfl ?_
  unfold StrR BdL
  refine TC.row_slice (v := v) pkA ?_
  rintro ao cap rfl _
  repeat' (first
    | refine wkQ ?_
    | refine wkV ?_
    | apply TL.turns (Enters.func (by rfl) (by kernel_rfl) (by rfl)) (bdcheck_turns hp _ _ _) permA (by rfl) | apply TL.turns (Enters.plain (by kernel_rfl) (by rfl)) (bdcheck_turns hp _ _ _) permA (by rfl)
    | ((with_reducible apply TL.append_str (e := 5)); (· rfl); (· rfl); (· exact pkA); (· omega); (· rfl); intro vf; refine Go.TL.TL.row_slice (v := vf) pkA ?_; rintro ac cc rfl _)
    | refine stS ?_ | (refine stB ?_; intro _) | (refine stC ?_; constructor <;> intro _))
  rw [show l.length + s.length = (l ++ s).length by simp, show byteVals l ++ byteVals s = byteVals (l ++ s) by rw [byteVals_append]]
  refine TQ.endR2 (L' := (BdL b (.pointer (some ⟨b, 0, none⟩)) (.slice ac (l ++ s).length cc) (l ++ s) L)) Tryz.results148 rvA rvA rfl (.refl _) ?_ selF
  exact ⟨_, _, _, rfl, rfl, rfl⟩
set_option maxHeartbeats 4000000 in
theorem bdlen_turns (b n c : Nat) (p : Value) (a : Option Addr) (g : Gh) (L : List Ent) (_hn : n ≤ 100000000) : Turns Tryz.prog 149 #[.pointer (some ⟨b, 0, none⟩)] g (BdO b p (.slice a n c) :: L) (.int .i64 (n : Nat)) (BdO b p (.slice a n c) :: L) := by
  refine .of (Does.of1 Tryz.func149 rfl Tryz.ntmps149 rfl ?_)
  repeat' (first
    | refine wkQ ?_
    | refine wkV ?_
    | refine stS ?_ | (refine stB ?_; intro _) | (refine stC ?_; constructor <;> intro _))
  refine TQ.endR1 (L' := (BdO b p (.slice a n c) :: L)) Tryz.results149 rvA rfl (.refl _) ?_ selF
  exact ⟨rfl, rfl, rfl⟩
set_option maxHeartbeats 4000000 in
theorem bdreset_turns (b : Nat) (p v : Value) (g : Gh) (L : List Ent) : Turns Tryz.prog 302 #[.pointer (some ⟨b, 0, none⟩)] g (BdO b p v :: L) (.tuple #[]) (BdO b (.pointer none) (.slice none 0 0) :: L) := by
  refine .of (Does.of1 Tryz.func302 rfl Tryz.ntmps302 rfl ?_)
  repeat' (first
    | refine wkQ ?_
    | refine wkV ?_
    | ((with_reducible apply TL.storeK); (· rfl); (· rfl); (· rfl); (· exact pkA); (· exact Nat.le_of_ble_eq_true rfl))
    | refine stS ?_ | (refine stB ?_; intro _) | (refine stC ?_; constructor <;> intro _))
  refine TQ.end_normal ?_
  refine TQ.endR0 (L' := (BdO b (.pointer none) (.slice none 0 0) :: L)) Tryz.results302 rfl (.refl _) ?_ selF
  exact ⟨rfl, rfl, rfl⟩
set_option maxHeartbeats 4000000 in
theorem bdstring_keep (b : Nat) (p v : Value) (l : List UInt8) (g : Gh) (L : List Ent) (hv : l = [] → v = .slice none 0 0) : Turns Tryz.prog 81 #[.pointer (some ⟨b, 0, none⟩)] g (BdL b p v l L) (str l) (BdO b p v :: L) := by
  refine .of (Does.of1 Tryz.func81 rfl Tryz.ntmps81 rfl ?_)
  unfold BdL
  by_cases hne : l = []
  · subst hne
    obtain rfl := hv rfl
    repeat' (first
    | refine TC.region_any 12 (_) (by kernel_rfl) rfl selA ?_ | refine TA.done (by decide +kernel) ?_ | refine TQ.any_panic ?_
    | ((with_reducible apply TA.take 4 (v := .pointer none)); (· decide +kernel); (· rfl); (· exact Y.slice_data_nil rfl); (· decide +kernel); (· decide +kernel); (· rfl); (· exact fun _ _ _ h => h); (· rfl))
    | ((with_reducible apply TA.take 10 (v := str [])); (· decide +kernel); (· rfl); (· exact Y.unsafe_none rfl rfl); (· decide +kernel); (· decide +kernel); (· rfl); (· exact fun _ _ _ h => h); (· rfl))
    | ((with_reducible apply TA.take 0); (· decide +kernel); (· rfl); (· (first | exact yA | exact yB | exact yM | exact yV)); (· decide +kernel); (· decide +kernel); (· rfl); (· exact fun _ _ _ h => h); (· rfl))
    | ((with_reducible apply TA.take 1); (· decide +kernel); (· rfl); (· (first | exact yA | exact yB | exact yM | exact yV)); (· decide +kernel); (· decide +kernel); (· rfl); (· exact fun _ _ _ h => h); (· rfl))
    | ((with_reducible apply TA.take 2); (· decide +kernel); (· rfl); (· (first | exact yA | exact yB | exact yM | exact yV)); (· decide +kernel); (· decide +kernel); (· rfl); (· exact fun _ _ _ h => h); (· rfl))
    | ((with_reducible apply TA.take 3); (· decide +kernel); (· rfl); (· (first | exact yA | exact yB | exact yM | exact yV)); (· decide +kernel); (· decide +kernel); (· rfl); (· exact fun _ _ _ h => h); (· rfl))
    | ((with_reducible apply TA.take 4); (· decide +kernel); (· rfl); (· (first | exact yA | exact yB | exact yM | exact yV)); (· decide +kernel); (· decide +kernel); (· rfl); (· exact fun _ _ _ h => h); (· rfl))
    | ((with_reducible apply TA.take 5); (· decide +kernel); (· rfl); (· (first | exact yA | exact yB | exact yM | exact yV)); (· decide +kernel); (· decide +kernel); (· rfl); (· exact fun _ _ _ h => h); (· rfl))
    | ((with_reducible apply TA.take 6); (· decide +kernel); (· rfl); (· (first | exact yA | exact yB | exact yM | exact yV)); (· decide +kernel); (· decide +kernel); (· rfl); (· exact fun _ _ _ h => h); (· rfl))
    | ((with_reducible apply TA.take 7); (· decide +kernel); (· rfl); (· (first | exact yA | exact yB | exact yM | exact yV)); (· decide +kernel); (· decide +kernel); (· rfl); (· exact fun _ _ _ h => h); (· rfl))
    | ((with_reducible apply TA.take 8); (· decide +kernel); (· rfl); (· (first | exact yA | exact yB | exact yM | exact yV)); (· decide +kernel); (· decide +kernel); (· rfl); (· exact fun _ _ _ h => h); (· rfl))
    | ((with_reducible apply TA.take 9); (· decide +kernel); (· rfl); (· (first | exact yA | exact yB | exact yM | exact yV)); (· decide +kernel); (· decide +kernel); (· rfl); (· exact fun _ _ _ h => h); (· rfl))
    | ((with_reducible apply TA.take 10); (· decide +kernel); (· rfl); (· (first | exact yA | exact yB | exact yM | exact yV)); (· decide +kernel); (· decide +kernel); (· rfl); (· exact fun _ _ _ h => h); (· rfl))
    | ((with_reducible apply TA.take 11); (· decide +kernel); (· rfl); (· (first | exact yA | exact yB | exact yM | exact yV)); (· decide +kernel); (· decide +kernel); (· rfl); (· exact fun _ _ _ h => h); (· rfl))
    | ((with_reducible apply TA.one 0); (· rfl); (· decide +kernel); (· rfl))
    | ((with_reducible apply TA.one 1); (· rfl); (· decide +kernel); (· rfl))
    | ((with_reducible apply TA.one 2); (· rfl); (· decide +kernel); (· rfl))
    | ((with_reducible apply TA.one 3); (· rfl); (· decide +kernel); (· rfl))
    | ((with_reducible apply TA.one 4); (· rfl); (· decide +kernel); (· rfl))
    | ((with_reducible apply TA.one 5); (· rfl); (· decide +kernel); (· rfl))
    | ((with_reducible apply TA.one 6); (· rfl); (· decide +kernel); (· rfl))
    | ((with_reducible apply TA.one 7); (· rfl); (· decide +kernel); (· rfl))
    | ((with_reducible apply TA.one 8); (· rfl); (· decide +kernel); (· rfl))
    | ((with_reducible apply TA.one 9); (· rfl); (· decide +kernel); (· rfl))
    | ((with_reducible apply TA.one 10); (· rfl); (· decide +kernel); (· rfl))
    | ((with_reducible apply TA.one 11); (· rfl); (· decide +kernel); (· rfl))
    | refine TQ.any leA selA ?_
    | refine stS ?_ | (refine stB ?_; intro _) | (refine stC ?_; constructor <;> intro _))
    refine TQ.endR1 (L' := (BdO b p (.slice none 0 0) :: L)) Tryz.results81 rvA rfl (.refl _) ?_ selF
    exact ⟨rfl, rfl, rfl⟩
  · have h1 : 0 < l.length := List.length_pos_iff.2 hne
    refine TC.row_room (v := v) pkA h1 ?_
    rintro br cap rfl hlen hc
    have h0 : 0 < cap := Nat.lt_of_lt_of_le h1 hc
    clear hv hlen hc h1
    repeat' (first
    | refine TC.region_any 12 ([BdO b p (.slice (some ⟨br, 0, none⟩) l.length cap)]) (by kernel_rfl) rfl selA ?_ | refine TA.done (by decide +kernel) ?_ | refine TQ.any_panic ?_
    | ((with_reducible apply TA.take 4 (v := .pointer (some ⟨br, 0, none⟩))); (· decide +kernel); (· rfl); (· exact Y.slice_data rfl h0); (· decide +kernel); (· decide +kernel); (· rfl); (· exact fun _ _ _ h => h); (· rfl))
    | ((with_reducible apply TL.unsafe_string (bs := l)); (· exact byte_cells); (· rfl); (· rfl); (· exact pkA); (· exact hne); (· rfl))
    | ((with_reducible apply TA.take 0); (· decide +kernel); (· rfl); (· (first | exact yA | exact yB | exact yM | exact yV)); (· decide +kernel); (· decide +kernel); (· rfl); (· exact fun _ _ _ h => h); (· rfl))
    | ((with_reducible apply TA.take 1); (· decide +kernel); (· rfl); (· (first | exact yA | exact yB | exact yM | exact yV)); (· decide +kernel); (· decide +kernel); (· rfl); (· exact fun _ _ _ h => h); (· rfl))
    | ((with_reducible apply TA.take 2); (· decide +kernel); (· rfl); (· (first | exact yA | exact yB | exact yM | exact yV)); (· decide +kernel); (· decide +kernel); (· rfl); (· exact fun _ _ _ h => h); (· rfl))
    | ((with_reducible apply TA.take 3); (· decide +kernel); (· rfl); (· (first | exact yA | exact yB | exact yM | exact yV)); (· decide +kernel); (· decide +kernel); (· rfl); (· exact fun _ _ _ h => h); (· rfl))
    | ((with_reducible apply TA.take 4); (· decide +kernel); (· rfl); (· (first | exact yA | exact yB | exact yM | exact yV)); (· decide +kernel); (· decide +kernel); (· rfl); (· exact fun _ _ _ h => h); (· rfl))
    | ((with_reducible apply TA.take 5); (· decide +kernel); (· rfl); (· (first | exact yA | exact yB | exact yM | exact yV)); (· decide +kernel); (· decide +kernel); (· rfl); (· exact fun _ _ _ h => h); (· rfl))
    | ((with_reducible apply TA.take 6); (· decide +kernel); (· rfl); (· (first | exact yA | exact yB | exact yM | exact yV)); (· decide +kernel); (· decide +kernel); (· rfl); (· exact fun _ _ _ h => h); (· rfl))
    | ((with_reducible apply TA.take 7); (· decide +kernel); (· rfl); (· (first | exact yA | exact yB | exact yM | exact yV)); (· decide +kernel); (· decide +kernel); (· rfl); (· exact fun _ _ _ h => h); (· rfl))
    | ((with_reducible apply TA.take 8); (· decide +kernel); (· rfl); (· (first | exact yA | exact yB | exact yM | exact yV)); (· decide +kernel); (· decide +kernel); (· rfl); (· exact fun _ _ _ h => h); (· rfl))
    | ((with_reducible apply TA.take 9); (· decide +kernel); (· rfl); (· (first | exact yA | exact yB | exact yM | exact yV)); (· decide +kernel); (· decide +kernel); (· rfl); (· exact fun _ _ _ h => h); (· rfl))
    | ((with_reducible apply TA.take 10); (· decide +kernel); (· rfl); (· (first | exact yA | exact yB | exact yM | exact yV)); (· decide +kernel); (· decide +kernel); (· rfl); (· exact fun _ _ _ h => h); (· rfl))
    | ((with_reducible apply TA.take 11); (· decide +kernel); (· rfl); (· (first | exact yA | exact yB | exact yM | exact yV)); (· decide +kernel); (· decide +kernel); (· rfl); (· exact fun _ _ _ h => h); (· rfl))
    | ((with_reducible apply TA.one 0); (· rfl); (· decide +kernel); (· rfl))
    | ((with_reducible apply TA.one 1); (· rfl); (· decide +kernel); (· rfl))
    | ((with_reducible apply TA.one 2); (· rfl); (· decide +kernel); (· rfl))
    | ((with_reducible apply TA.one 3); (· rfl); (· decide +kernel); (· rfl))
    | ((with_reducible apply TA.one 4); (· rfl); (· decide +kernel); (· rfl))
    | ((with_reducible apply TA.one 5); (· rfl); (· decide +kernel); (· rfl))
    | ((with_reducible apply TA.one 6); (· rfl); (· decide +kernel); (· rfl))
    | ((with_reducible apply TA.one 7); (· rfl); (· decide +kernel); (· rfl))
    | ((with_reducible apply TA.one 8); (· rfl); (· decide +kernel); (· rfl))
    | ((with_reducible apply TA.one 9); (· rfl); (· decide +kernel); (· rfl))
    | ((with_reducible apply TA.one 10); (· rfl); (· decide +kernel); (· rfl))
    | ((with_reducible apply TA.one 11); (· rfl); (· decide +kernel); (· rfl))
    | refine TQ.any leA selA ?_
    | refine stS ?_ | (refine stB ?_; intro _) | (refine stC ?_; constructor <;> intro _))
    refine TQ.endR1 (L' := (BdO b p (.slice (some ⟨br, 0, none⟩) l.length cap) :: L)) Tryz.results81 rvA rfl (.refl _) ?_ selF
    exact ⟨rfl, rfl, rfl⟩
end Go.Proofs.YtgollffmdpejiaaGreatDoor
namespace Go.Proofs.YtgollffmdpejiaaGreatDoor
open Go.RowKit Go.TL
set_option maxRecDepth 100000

theorem pastW_ok {w : List UInt8} (h : ascB w) : ascB (pastW w) ∧ (pastW w).length ≤ w.length + 1 := by
  unfold pastW
  repeat' split
  · exact ⟨h.app (by decide), by simp⟩
  · exact ⟨h.take _, by rw [List.length_take]; omega⟩
  · exact ⟨h.app (by decide), by simp⟩
  · exact ⟨h, by omega⟩
theorem pastsL_ok {w : List UInt8} (h : ascB w) : ascB (pastsL w) ∧ (pastsL w).length ≤ w.length + 101 := by
  obtain ⟨h1, h2⟩ := plR_best pl_ruB w
  have h3 : ∀ e, ascB (aheadL w e) := fun e => h.take _
  have h4 := aheadL_len w (bestR w ruB ([], [])).1
  have h5 := (h3 (bestR w ruB ([], [])).1).app h1
  have h6 : (aheadL w (bestR w ruB ([], [])).1 ++ (bestR w ruB ([], [])).2).length ≤ w.length + 100 := by rw [List.length_append]; omega
  unfold pastsL
  repeat' split
  · exact ⟨h, by omega⟩
  · exact ⟨h5, by omega⟩
  · exact ⟨h, by omega⟩
  · obtain ⟨q1, q2⟩ := pastW_ok h5
    exact ⟨q1, by omega⟩
  · exact ⟨h, by omega⟩
theorem plain_asc {w : List UInt8} (h : plainB w = true) : ascB w := fun c hc => by
  unfold plainB at h
  rw [Bool.and_eq_true] at h
  have := of_decide_eq_true (List.all_eq_true.1 h.1 c hc)
  omega
def stW (a b c d : List UInt8) (i : Nat) : List UInt8 := if i = 0 then a else if i = 1 then b else if i = 2 then c else d
set_option maxHeartbeats 64000000 in
theorem stem_gives (w : List UInt8) (g : Gh) (L : List Ent) (_hw : w.length ≤ 800000) (hT : GSp g) : Gives Tryz.prog 273 #[str w] g L (str (stemL w)) := by
  refine .of (Does.of1 Tryz.func273 rfl Tryz.ntmps273 rfl ?_)
  have P := fun L => plain_gives w g L (by omega)
  unfold stemL
  cases hp : plainB w with
  | false =>
    rw [hp] at P
    rw [if_neg (by decide)]
    clear hp hT
    repeat' (first
    | refine wkQ ?_
    | refine wkV ?_
    | refine wkD (P _) ?_
    | refine stS ?_ | (refine stB ?_; intro _) | (refine stC ?_; constructor <;> intro _))
    refine TQ.endR1 (L' := L) Tryz.results273 rvA rfl (.refl _) ?_ selF
    exact ⟨rfl, rfl, rfl⟩
  | true =>
  rw [hp] at P
  rw [if_pos rfl]
  have ha0 := plain_asc hp
  clear hp
  have PL := fun L => plurals_gives w g L (by omega) ha0 hT
  obtain ⟨a1, l1⟩ := stepS_ok (f := fun _ _ => true) pl_ruA ha0
  unfold stem1
  generalize stepS w ruA (fun _ _ => true) = w1 at *
  have PA := fun L => pasts_gives w1 g L (by omega) a1 hT
  obtain ⟨a2, l2⟩ := pastsL_ok a1
  generalize pastsL w1 = w2 at *
  have RY := fun L => rules_ruY g L hT
  have SY := fun rv g (h : Sl g rv ruY.length 2 (flatR ruY)) => step_is w2 ruY rv 310 [] (fun a _ => voicedL a) g (by omega) a2 (by decide) pl_ruY h (by kernel_rfl) (fun a e L h1 h2 _ => stemOne_gives a e g L h2 h1)
  obtain ⟨a3, l3⟩ := stepS_ok (f := fun a _ => voicedL a) pl_ruY a2
  generalize stepS w2 ruY (fun a _ => voicedL a) = w3 at *
  obtain ⟨a4, l4⟩ := stepS_ok (f := fun a _ => decide (0 < measL a)) pl_ru2 a3
  obtain ⟨w4, e4⟩ : ∃ w4, stem2 w3 = w4 := ⟨_, rfl⟩
  rw [e4]
  have e4' : stepS w3 ru2 (fun a _ => decide (0 < measL a)) = w4 := e4
  rw [e4'] at a4 l4
  obtain ⟨a5, l5⟩ := stepS_ok (f := fun a _ => decide (0 < measL a)) pl_ru3 a4
  obtain ⟨w5, e5⟩ : ∃ w5, stem3 w4 = w5 := ⟨_, rfl⟩
  rw [e5]
  have e5' : stepS w4 ru3 (fun a _ => decide (0 < measL a)) = w5 := e5
  rw [e5'] at a5 l5
  obtain ⟨a6, l6⟩ := stepS_ok (f := mayI) pl_ru4 a5
  obtain ⟨w6, e6⟩ : ∃ w6, stem4 w5 = w6 := ⟨_, rfl⟩
  rw [e6]
  have e6' : stepS w5 ru4 mayI = w6 := e6
  rw [e6'] at a6 l6
  clear e4 e5 e6
  have TA := fun g L => tables_gives g L
  have AB := fun g L => above_does 0 g L
  obtain ⟨W, hWd⟩ : ∃ W, W = stW w3 w4 w5 w6 := ⟨_, rfl⟩
  have q0 : W 0 = w3 := by rw [hWd]; rfl
  have q1 : W 1 = w4 := by rw [hWd]; rfl
  have q2 : W 2 = w5 := by rw [hWd]; rfl
  have q3 : W 3 = w6 := by rw [hWd]; rfl
  have hW : Hn (stepS (W 0) ru2 (fun a _ => decide (0 < measL a)) = W (0 + 1) ∧ stepS (W 1) ru3 (fun a _ => decide (0 < measL a)) = W (1 + 1) ∧ stepS (W 2) ru4 mayI = W (2 + 1)) := ⟨by
    rw [q0, q1, q2]; exact ⟨e4', e5', e6'.trans q3.symm⟩⟩
  have ha : ∀ i, i ≤ 3 → ascB (W i) := fun i hi => by
    rcases (by omega : i = 0 ∨ i = 1 ∨ i = 2 ∨ i = 3) with rfl | rfl | rfl | rfl
    · rw [q0]; exact a3
    · rw [q1]; exact a4
    · rw [q2]; exact a5
    · rw [q3]; exact a6
  have hl0 : (W 0).length ≤ 900000 := by rw [q0]; omega
  have hl1 : (W 1).length ≤ 900000 := by rw [q1]; omega
  have hl2 : (W 2).length ≤ 900000 := by rw [q2]; omega
  have hl3 : (W 3).length ≤ 900000 := by rw [q3]; omega
  rw [← q3]
  rw [← q0] at SY
  clear a1 a2 a3 a4 a5 a6 l1 l2 l3 l4 l5 l6 e4' e5' e6' q0 q1 q2 q3 hWd ha0
  repeat' (first
    | refine wkQ ?_
    | refine wkV ?_
    | refine wkD (P _) ?_
    | refine wkD (PL _) ?_
    | refine wkD (PA _) ?_
    | refine wkD (TA _ _) ?_
    | (refine TL.call (Enters.plain (by kernel_rfl) (by rfl)) (by rfl) (RY _) ?_; (rintro e g1 Ln hg1 ⟨vr, k1, k2, k3⟩; have k2 := k2.symm; subst k1; subst k2; (obtain ⟨bb, S1⟩ := SY _ _ k3; obtain ⟨ar, cr, rfl⟩ := k3.slice; clear k3 SY; have HG1 := hg1; clear hg1); refine CallK.ret ?_))
    | refine wkD (S1 _) ?_
    | (refine TL.call (Enters.plain (by kernel_rfl) (by rfl)) (by rfl) (AB g1 _) ?_; (rintro e g2 Ln hg2 ⟨ba, k1, k2, hba⟩; have k2 := k2.symm; subst k1; subst k2; refine CallK.ret ?_))
    | (refine TL.call (Enters.plain (by kernel_rfl) (by rfl)) (by rfl) (AB g2 _) ?_; (rintro e g3 Ln hg3 ⟨bc, k1, k2, hbc⟩; have k2 := k2.symm; subst k1; subst k2; refine CallK.ret ?_))
    | ((with_reducible apply TL.build_slice); (· rfl); (· rfl); (· exact oneA); (· rfl); (· rfl); (· rfl); intro _) | refine TL.build_one (by rfl) (by first | rfl | assumption) (by rfl) (by rfl) (by rfl) (by rfl) (fun _ => ?_) | refine TL.build_empty (by rfl) (fun _ => ?_)
    | refine stS ?_ | (refine stB ?_; intro _) | (refine stC ?_; constructor <;> intro _))
  rename_i b4 _ b23
  have hg03 := HG1.trans (hg2.trans hg3)
  have hba := hg3.cell hba
  clear TA AB PL PA P
  refine TC.loop (α := Nat × Gh) (fun z => z.1 ≤ 3 ∧ g3.le z.2) (fun z => 3 - z.1) (fun z => [(25, .int .i64 (z.1 : Nat)), (24, .int .i64 ((3 : Nat) : Int)), (23, .slice (some ⟨b23, 0, none⟩) 3 3), (4, .pointer (some ⟨b4, 0, none⟩)), (3, str (W z.1))]) (fun z => z.2) (fun _ => .obj b23 (.cells [Value.func (.func 336) #[] [Value.pointer (some ⟨ba, 0, none⟩)].toArray, .func (.func 336) #[] [Value.pointer (some ⟨bc, 0, none⟩)].toArray, .func (.func 314) #[] ([] : List Value).toArray].toArray 159 (0, 0)) :: .obj b4 (.cells [str tx_ru2, str tx_ru3, str tx_ru4].toArray 323 (0, 0)) :: L) (0, g3) ⟨Nat.zero_le _, .refl _⟩ rfl subA selA ?_
  rintro ⟨i, gi⟩ ⟨hi, hgi⟩
  dsimp only at hi hgi ⊢
  have hTi := hT.le (hg03.trans hgi)
  by_cases hlt : i < 3
  · have hba := hgi.cell hba
    have hbc := hgi.cell hbc
    rcases (by omega : i = 0 ∨ i = 1 ∨ i = 2) with h0 | h1 | h2
    · obtain rfl : i = 0 := h0
      have ST := fun rv g (h : Sl g rv ru2.length 2 (flatR ru2)) (hh : gi.le g) => step_is (W 0) ru2 rv 336 [.pointer (some ⟨ba, 0, none⟩)] (fun a _ => decide (0 < measL a)) g (by omega) (ha 0 (by decide)) (by decide) pl_ru2 h (by kernel_rfl) (fun a e L h1 h2 _ => aboveOne_gives a e ba 0 g L h2 h1 (hh.cell hba))
      have RU := fun L => rules_ru2 gi L (hTi)
      rw [show stepS (W 0) ru2 (fun a _ => decide (0 < measL a)) = W (0 + 1) from hW.out.1] at ST
      clear hT hTi
      repeat' (first
    | refine wkQ ?_
    | (refine wkA 33 (v := .pointer (some ⟨b4, 0, none⟩)) ?_ ?_; · exact Y.index_arr1 rfl rfl rfl (by decide))
    | refine wkV ?_
    | refine wkM ?_
    | (refine TL.call (Enters.plain (by kernel_rfl) (by rfl)) (by rfl) (RU _) ?_; (rintro e g1 Ln hg1 ⟨vr, k1, k2, k3⟩; have k2 := k2.symm; subst k1; subst k2; (obtain ⟨bb, S1⟩ := ST _ _ k3 hg1; obtain ⟨ar, cr, rfl⟩ := k3.slice; clear k3 ST); refine CallK.ret ?_))
    | refine wkD (S1 _) ?_
    | refine stS ?_ | (refine stB ?_; intro _) | (refine stC ?_; constructor <;> intro _))
      refine TQ.round (0 + 1, g1) ?_ ?_ rfl subA selF
      · exact ⟨by dsimp only; omega, hgi.trans hg1⟩
      · show 3 - (0 + 1) < 3 - 0
        omega
    · obtain rfl : i = 1 := h1
      have ST := fun rv g (h : Sl g rv ru3.length 2 (flatR ru3)) (hh : gi.le g) => step_is (W 1) ru3 rv 336 [.pointer (some ⟨bc, 0, none⟩)] (fun a _ => decide (0 < measL a)) g (by omega) (ha 1 (by decide)) (by decide) pl_ru3 h (by kernel_rfl) (fun a e L h1 h2 _ => aboveOne_gives a e bc 0 g L h2 h1 (hh.cell hbc))
      have RU := fun L => rules_ru3 gi L (hTi)
      rw [show stepS (W 1) ru3 (fun a _ => decide (0 < measL a)) = W (1 + 1) from hW.out.2.1] at ST
      clear hT hTi
      repeat' (first
    | refine wkQ ?_
    | (refine wkA 33 (v := .pointer (some ⟨b4, 1, none⟩)) ?_ ?_; · exact Y.index_arr1 rfl rfl rfl (by decide))
    | refine wkV ?_
    | refine wkM ?_
    | (refine TL.call (Enters.plain (by kernel_rfl) (by rfl)) (by rfl) (RU _) ?_; (rintro e g1 Ln hg1 ⟨vr, k1, k2, k3⟩; have k2 := k2.symm; subst k1; subst k2; (obtain ⟨bb, S1⟩ := ST _ _ k3 hg1; obtain ⟨ar, cr, rfl⟩ := k3.slice; clear k3 ST); refine CallK.ret ?_))
    | refine wkD (S1 _) ?_
    | refine stS ?_ | (refine stB ?_; intro _) | (refine stC ?_; constructor <;> intro _))
      refine TQ.round (1 + 1, g1) ?_ ?_ rfl subA selF
      · exact ⟨by dsimp only; omega, hgi.trans hg1⟩
      · show 3 - (1 + 1) < 3 - 1
        omega
    · obtain rfl : i = 2 := h2
      have ST := fun rv g (h : Sl g rv ru4.length 2 (flatR ru4)) (hh : gi.le g) => step_is (W 2) ru4 rv 314 [] (mayI) g (by omega) (ha 2 (by decide)) (by decide) pl_ru4 h (by kernel_rfl) (fun a e L h1 h2 _ => stemTwo_gives a e g L h2 h1)
      have RU := fun L => rules_ru4 gi L (hTi)
      rw [show stepS (W 2) ru4 (mayI) = W (2 + 1) from hW.out.2.2] at ST
      clear hT hTi
      repeat' (first
    | refine wkQ ?_
    | (refine wkA 33 (v := .pointer (some ⟨b4, 2, none⟩)) ?_ ?_; · exact Y.index_arr1 rfl rfl rfl (by decide))
    | refine wkV ?_
    | refine wkM ?_
    | (refine TL.call (Enters.plain (by kernel_rfl) (by rfl)) (by rfl) (RU _) ?_; (rintro e g1 Ln hg1 ⟨vr, k1, k2, k3⟩; have k2 := k2.symm; subst k1; subst k2; (obtain ⟨bb, S1⟩ := ST _ _ k3 hg1; obtain ⟨ar, cr, rfl⟩ := k3.slice; clear k3 ST); refine CallK.ret ?_))
    | refine wkD (S1 _) ?_
    | refine stS ?_ | (refine stB ?_; intro _) | (refine stC ?_; constructor <;> intro _))
      refine TQ.round (2 + 1, g1) ?_ ?_ rfl subA selF
      · exact ⟨by dsimp only; omega, hgi.trans hg1⟩
      · show 3 - (2 + 1) < 3 - 2
        omega
  · obtain rfl : i = 3 := by omega
    have EN := fun L => ends_gives (W 3) gi L hl3 (ha 3 (by decide)) hTi
    clear hT hTi
    repeat' (first
    | refine wkQ ?_
    | refine wkV ?_
    | refine wkD (EN _) ?_
    | refine stS ?_ | (refine stB ?_; intro _) | (refine stC ?_; constructor <;> intro _))
    refine TQ.less (hg03.trans hgi) ?_
    refine TQ.endR1 (L' := L) Tryz.results273 rvA rfl (.refl _) ?_ selF
    exact ⟨rfl, rfl, rfl⟩
end Go.Proofs.YtgollffmdpejiaaGreatDoor
