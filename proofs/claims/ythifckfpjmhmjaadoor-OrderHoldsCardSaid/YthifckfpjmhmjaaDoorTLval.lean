/-
  A walk by lemmas: values behind interfaces; structs by value; pieces of slices.
-/
import Derived.Test.YthifckfpjmhmjaaDoorTLmem
namespace Go.TL
open Go Go.RowKit Go.Proofs.YthifckfpjmhmjaaDoor

def notIface (P : Program) (t : TypeId) : Bool := match P.underlying t with
  | some (.interface _) => false
  | some _ => true
  | none => false
class Con (P : Program) (t : TypeId) : Prop where
  eq : ∃ d, P.underlying t = some d ∧ ∀ ms, d ≠ .interface ms
theorem Con.of {P : Program} {t : TypeId} (h : notIface P t = true) : Con P t := ⟨by
  unfold notIface at h
  cases hd : P.underlying t with
  | none => rw [hd] at h; cases h
  | some d => refine ⟨d, rfl, fun ms e => ?_⟩; rw [hd, e] at h; cases h⟩
section
variable {P : Program} {ops : Array Oper} {Q : Exit → Act → World → Prop} {rest : List Oper} {n : Nat} {ds : List Deferred} {S : Slots} {g : Gh} {L L' : List Ent}
variable {dst : Option Nat} {d : Nat} {op : Op} {ty : TypeId} {pos : String} {aft : Array Edge} {gd : Option (Nat × Bool)}
variable {x y : Operand} {v u z : Value} {t t' T e : TypeId} {k : IntKind} {p q : Int} {sz bytes i b off m cap : Nat} {ao : Option Addr}
theorem Y.make_iface [h : Con P t] (hx : ev S x = some v) : Yields P n ds S g L ⟨dst, .makeInterface t x, ty, pos, aft, gd⟩ (.iface t v) := .mk fun a w hf _ => by
  obtain ⟨dd, hd, hn⟩ := h.eq
  simp [execOp, hf.ev hx, Instr.makeInterface, run_und hd]
  try (cases dd <;> first | rfl | exact absurd rfl (hn _))
theorem Y.assert_yes [h : Con P t] (hx : ev S x = some (.iface t v)) : Yields P n ds S g L ⟨dst, .typeAssert x t' t true, ty, pos, aft, gd⟩ (.tuple #[v, .bool true]) := .mk fun a w hf _ => by
  obtain ⟨dd, hd, hn⟩ := h.eq
  simp [execOp, hf.ev hx, Instr.typeAssert, run_und hd]
  try (cases dd <;> first | rfl | exact absurd rfl (hn _))
theorem Y.assert_yes1 [h : Con P t] (hx : ev S x = some (.iface t v)) : Yields P n ds S g L ⟨dst, .typeAssert x t' t false, ty, pos, aft, gd⟩ v := .mk fun a w hf _ => by
  obtain ⟨dd, hd, hn⟩ := h.eq
  simp [execOp, hf.ev hx, Instr.typeAssert, run_und hd]
  try (cases dd <;> first | rfl | exact absurd rfl (hn _))
theorem Y.assert_no [h : Con P t] [hi : Inf P t sz bytes z] (hx : ev S x = some (.iface T v)) (hne : Nat.beq T t = false) : Yields P n ds S g L ⟨dst, .typeAssert x t' t true, ty, pos, aft, gd⟩ (.tuple #[z, .bool false]) := .mk fun a w hf _ => by
  obtain ⟨dd, hd, hn⟩ := h.eq
  have hne : T ≠ t := fun e => by subst e; simp at hne
  simp [execOp, hf.ev hx, Instr.typeAssert, run_und hd]
  try (cases dd <;> first | simp [hne, run_zero] | exact absurd rfl (hn _))
theorem Y.assert_nil [h : Con P t] [hi : Inf P t sz bytes z] (hx : ev S x = some .nilIface) : Yields P n ds S g L ⟨dst, .typeAssert x t' t true, ty, pos, aft, gd⟩ (.tuple #[z, .bool false]) := .mk fun a w hf _ => by
  obtain ⟨dd, hd, hn⟩ := h.eq
  simp [execOp, hf.ev hx, Instr.typeAssert, run_und hd]
  try (cases dd <;> first | simp [run_zero] | exact absurd rfl (hn _))
variable {ms : Array (String × TypeId)} {w : World}
theorem equal_iface_nil [ht : Und P t (.interface ms)] : (Op.equal t (.iface T v) .nilIface).run P w = .ok false w := by
  unfold Op.equal Op.maxDepth
  rw [Op.equalIn]
  simp [run_und ht.eq]
theorem equal_nil_nil [ht : Und P t (.interface ms)] : (Op.equal t .nilIface .nilIface).run P w = .ok true w := by
  unfold Op.equal Op.maxDepth
  rw [Op.equalIn]
  simp [run_und ht.eq]
theorem Y.eql_nil_no [ht : Und P t (.interface ms)] (hx : ev S x = some (.iface T v)) (hy : ev S y = some .nilIface) : Yields P n ds S g L ⟨dst, .binOp .eql t x y t', ty, pos, aft, gd⟩ (.bool false) := .mk fun a w hf _ => by
  simp [execOp, hf.ev hx, hf.ev hy, eqGuard, binOp, equal_iface_nil]
theorem Y.neq_nil_no [ht : Und P t (.interface ms)] (hx : ev S x = some (.iface T v)) (hy : ev S y = some .nilIface) : Yields P n ds S g L ⟨dst, .binOp .neq t x y t', ty, pos, aft, gd⟩ (.bool true) := .mk fun a w hf _ => by
  simp [execOp, hf.ev hx, hf.ev hy, eqGuard, binOp, equal_iface_nil]
theorem Y.eql_nil_yes [ht : Und P t (.interface ms)] (hx : ev S x = some .nilIface) : Yields P n ds S g L ⟨dst, .binOp .eql t x (.const .nilIface) t', ty, pos, aft, gd⟩ (.bool true) := .mk fun a w hf _ => by
  have hc : a.eval (.const .nilIface) = .nilIface := rfl
  simp [execOp, hf.ev hx, hc, eqGuard, binOp, equal_nil_nil]
theorem Y.neq_nil_yes [ht : Und P t (.interface ms)] (hx : ev S x = some .nilIface) : Yields P n ds S g L ⟨dst, .binOp .neq t x (.const .nilIface) t', ty, pos, aft, gd⟩ (.bool false) := .mk fun a w hf _ => by
  have hc : a.eval (.const .nilIface) = .nilIface := rfl
  simp [execOp, hf.ev hx, hc, eqGuard, binOp, equal_nil_nil]
/-! ### Pieces of slices -/
variable {hi lo : Operand} {k' : IntKind} {len j : Nat}
theorem Y.slice_to [ht : Und P t (.slice e)] [he : Inf P e sz bytes z] (hx : ev S x = some (.slice ao len cap)) (hhi : ev S hi = some (.int k p)) (hp : p = i) (hi' : i ≤ cap) : Yields P n ds S g L ⟨dst, .slice t x none (some hi) none, ty, pos, aft, gd⟩ (.slice ao i cap) := .mk fun a w hf _ => by
  subst hp
  obtain ⟨ii, hii, hs, _⟩ := he.eq
  have add0 : ∀ ad : Addr, ad.add 0 = ad := fun ad => by
    unfold Addr.add
    split <;> simp_all
  cases ao <;> simp [add0, execOp, Instr.sliceAt, Instr.slice, Instr.sliceBounds, Instr.sliceBound, hf.ev hx, hf.ev hhi, run_und ht.eq, asIntOf, hi', run_size hii]

/-! ### Structs by value, laid part by part -/
/-- Where the parts of a struct's literal lie: offset and size. -/
def placesB (P : Program) (t : TypeId) (pl : List (Nat × Nat)) (zs : List Value) : Prop :=
  ∃ fs : Array Field, P.underlying t = some (.struct fs) ∧ (∀ w, (fs.mapM fun (f : Field) => do pure (f.offset, ← sizeOf f.type) : Sem (Array (Nat × Nat))).run P w = .ok pl.toArray w) ∧ ∀ w, (zeroValue t).run P w = .ok (.agg zs.toArray) w
class Places (P : Program) (t : TypeId) (pl : outParam (List (Nat × Nat))) (zs : outParam (List Value)) : Prop where
  eq : placesB P t pl zs
def putAll (pl : List (Nat × Nat)) : List Value → List (Nat × Value) → Option (List Value)
  | cs, [] => some cs
  | cs, (i, v) :: r => match pl[i]? with
    | some (off, 1) => bif Nat.blt off cs.length then putAll pl (cs.set off v) r else none
    | _ => none
theorem fill_putAll (pl : List (Nat × Nat)) : ∀ (ps : List (Nat × Value)) (cs cs' : List Value), (ps.map (·.2)).all Value.one = true → putAll pl cs ps = some cs' → Instr.fill (pl.toArray[·]?) cs.toArray ps = some cs'.toArray
  | [], cs, cs', _, h => by
    obtain rfl : cs = cs' := Option.some.inj h
    rfl
  | (i, v) :: r, cs, cs', ho, h => by
    rw [List.map_cons, List.all_cons] at ho
    obtain ⟨h1, ho⟩ := Bool.and_eq_true_iff.1 ho
    rw [putAll] at h
    rw [Instr.fill]
    simp only [List.getElem?_toArray]
    split at h
    · rename_i off hp
      rw [hp]
      cases h2 : Nat.blt off cs.length with
      | false => rw [h2] at h; cases h
      | true =>
        rw [h2] at h
        have hlt : off < cs.length := Nat.le_of_ble_eq_true h2
        have hu : v.cells = #[v] := cells_one h1
        simp only [hu]
        rw [if_neg (by simp; omega)]
        have hset : (#[v].zipIdx.foldl (fun cs (x : Value × Nat) => cs.setIfInBounds (off + x.2) x.1) cs.toArray) = (cs.set off v).toArray := by simp
        simp only [hset]
        have ih := fill_putAll pl r (cs.set off v) cs' ho h
        simpa using ih
    · cases h
theorem all1 {v : Value} {l : List Value} (h : v.one = true) (t : l.all Value.one = true) : (v :: l).all Value.one = true := by rw [List.all_cons, h, t]; rfl
def evp (S : Slots) : List (Nat × Operand) → Option (List (Nat × Value))
  | [] => some []
  | (i, x) :: r => match ev S x, evp S r with | some v, some vs => some ((i, v) :: vs) | _, _ => none
theorem Fr.evp {a : Act} (hf : Fr n ds S a) : ∀ {xs : List (Nat × Operand)} {vs : List (Nat × Value)}, Go.TL.evp S xs = some vs → xs.map (fun p => (p.1, a.eval p.2)) = vs
  | [], vs, e => by rw [Go.TL.evp] at e; cases e; rfl
  | (i, x) :: r, vs, e => by
    rw [Go.TL.evp] at e
    cases h1 : Go.TL.ev S x with
    | none => rw [h1] at e; cases e
    | some v =>
      cases h2 : Go.TL.evp S r with
      | none => rw [h1, h2] at e; cases e
      | some us =>
        rw [h1, h2] at e
        cases e
        rw [List.map_cons, hf.ev h1, hf.evp h2]
theorem Y.build {parts : List (Nat × Operand)} {ps : List (Nat × Value)} {pl : List (Nat × Nat)} {zs cs : List Value} [h : Places P t pl zs] (hp : evp S parts = some ps) (ho : (ps.map (·.2)).all Value.one = true) (hf : putAll pl zs ps = some cs) : Yields P n ds S g L ⟨dst, .build t parts.toArray, ty, pos, aft, gd⟩ (.agg cs.toArray) := .mk fun a w hfr _ => by
  obtain ⟨fs, h1, h2, h3⟩ := h.eq
  have hps := hfr.evp hp
  have hfill := fill_putAll pl ps zs cs ho hf
  have h2' := h2 w
  have h3' := h3 w
  simp only [execOp, Instr.build, Sem.run_bind, h3', Result.andThen_ok, run_und h1, List.map_toArray, hps, Value.cells]
  rw [h2']
  simp only [Result.andThen_ok, hfill]
  simp
end
section
variable {P : Program} {ops : Array Oper} {Q : Exit → Act → World → Prop} {rest : List Oper} {n : Nat} {ds : List Deferred} {S : Slots} {g : Gh} {L : List Ent} {d : Nat} {ty : TypeId} {pos : String} {aft : Array Edge} {x : Operand} {z : Value} {t e : TypeId} {sz bytes : Nat}
theorem TL.build_empty [ht : Und P t (.slice e)] [hi : Inf P e sz bytes z] (hd : Nat.blt d n = true)
    (kk : ∀ b, TL P ops Q rest n ds ((d, .slice (some ⟨b, 0, none⟩) 0 0) :: S) g (.obj b (.cells (List.toArray []) e (0, 0)) :: L)) : TL P ops Q (⟨some d, .buildSlice t 0 #[], ty, pos, aft, none⟩ :: rest) n ds S g L := .mk fun a w hf hs =>
  wpList_plain rfl fun K hK => by
    obtain ⟨i, hii, hsz, hb, hz⟩ := hi.eq
    have hrun : (execOp a.eval ⟨some d, .buildSlice t 0 #[], ty, pos, aft, none⟩).run P w = .ok (.value (.slice (some ⟨w.heap.size, 0, none⟩) 0 0)) { w with heap := w.heap.push (.cells #[] e (0, 0)) } := by
      simp [execOp, Instr.buildSlice, run_und ht.eq, sizeOf, run_info hii, hsz, Instr.fill, newRow, newObj, Sem.run, show (Array.range 0) = #[] from Array.eq_empty_of_size_eq_zero (by simp)]
    unfold Oper.wp
    rw [hrun]
    exact hK _ _ ((kk _).h _ _ (hf.put hd _) (hs.alloc _))
theorem zip_set : ∀ (vs cs : List Value), vs.length = cs.length → (vs.toArray.zipIdx.foldl (fun cs (x : Value × Nat) => cs.setIfInBounds (0 + x.2) x.1) cs.toArray) = vs.toArray := fun vs cs hl => by
  have key : ∀ (us pre post : List Value), us.length = post.length → ((us.zipIdx pre.length).foldl (fun cs (x : Value × Nat) => cs.setIfInBounds x.2 x.1) (pre ++ post).toArray) = (pre ++ us).toArray := by
    intro us
    induction us with
    | nil => intro pre post h; have : post = [] := List.eq_nil_of_length_eq_zero h.symm; subst this; simp
    | cons u r ih =>
      intro pre post h
      cases post with
      | nil => simp at h
      | cons p q =>
        rw [List.zipIdx_cons, List.foldl_cons]
        have h2 := ih (pre ++ [u]) q (by simpa using h)
        have h3 : (pre ++ p :: q).toArray.setIfInBounds pre.length u = ((pre ++ [u]) ++ q).toArray := by simp
        simp only [h3]
        simp only [List.length_append, List.length_singleton] at h2
        rw [h2]; simp
  have := key vs [] cs hl
  simp only [Nat.zero_add]
  rw [← Array.foldl_toList]
  simpa using this
theorem TL.build_one {vs : List Value} [ht : Und P t (.slice e)] [hi : Inf P e sz bytes z] (hx : ev S x = some (.agg vs.toArray)) (hl : vs.length = sz) (h0 : Nat.blt 0 sz = true) (hzs : (z.cells.size == sz) = true) (hsm : Nat.ble sz 16777216 = true) (hd : Nat.blt d n = true)
    (kk : ∀ b, TL P ops Q rest n ds ((d, .slice (some ⟨b, 0, none⟩) 1 1) :: S) g (.obj b (.cells vs.toArray e (0, 0)) :: L)) : TL P ops Q (⟨some d, .buildSlice t 1 #[(0, x)], ty, pos, aft, none⟩ :: rest) n ds S g L := .mk fun a w hf hs =>
  wpList_plain rfl fun K hK => by
    obtain ⟨i, hii, hsz, hb, hz⟩ := hi.eq
    have h0 := Nat.le_of_ble_eq_true h0
    have hsm := Nat.le_of_ble_eq_true hsm
    have hzs : z.cells.size = sz := beq_iff_eq.1 hzs
    have hz2 : ((Array.range sz).map fun j => z.cells[j % z.cells.size]!).toList.length = sz := by simp
    have hset := zip_set vs ((Array.range sz).map fun j => z.cells[j % z.cells.size]!).toList (by rw [hz2, hl])
    rw [Array.toArray_toList] at hset
    have hfill : Instr.fill (fun i => some (i * sz, sz)) ((Array.range sz).map fun j => z.cells[j % z.cells.size]!) [(0, .agg vs.toArray)] = some vs.toArray := by
      have hc : (Value.agg vs.toArray).cells = vs.toArray := rfl
      simp only [Instr.fill, hc, Nat.zero_mul]
      rw [if_neg (by simp [hl]), hset]
    have hrun : (execOp a.eval ⟨some d, .buildSlice t 1 #[(0, x)], ty, pos, aft, none⟩).run P w = .ok (.value (.slice (some ⟨w.heap.size, 0, none⟩) 1 1)) { w with heap := w.heap.push (.cells vs.toArray e (0, 0)) } := by
      have hne : ¬ sz = 0 := by omega
      have hgt : ¬ sz > 16777216 := by omega
      simp [execOp, Instr.buildSlice, run_und ht.eq, sizeOf, run_info hii, hsz, hgt, hne, run_zero, newRow, newObj, Sem.run, hf.ev hx]
      rw [hfill]
      simp [Sem.run]
    unfold Oper.wp
    rw [hrun]
    exact hK _ _ ((kk _).h _ _ (hf.put hd _) (hs.alloc _))
end
theorem Y.load_cells {P : Program} {n : Nat} {ds : List Deferred} {S : Slots} {g : Gh} {L : List Ent} {dst : Option Nat} {x : Operand} {t : TypeId} {ty : TypeId} {pos : String} {aft : Array Edge} {gd : Option (Nat × Bool)} {b off sz bytes : Nat} {z : Value} [Ag P t] [Inf P t sz bytes z] {us : List Value} (hx : ev S x = some (.pointer (some ⟨b, off, none⟩))) (hc : ∀ j u, us[j]? = some u → g.cell b (off + j) = some u) (hl : us.length = sz) : Yields P n ds S g L ⟨dst, .load t x, ty, pos, aft, gd⟩ (.agg us.toArray) := Y.load_ghs hx hl hc
section
variable {P : Program} {n : Nat} {ds : List Deferred} {S : Slots} {g : Gh} {L : List Ent} {v : Value}
theorem yV {o : Oper} (h : Yields P n ds S g L o v := by first | ((with_reducible apply Y.make_iface); (· rfl)) | ((with_reducible apply Y.assert_yes); (· rfl)) | ((with_reducible apply Y.assert_yes1); (· rfl)) | ((with_reducible apply Y.assert_no); (· rfl); (· rfl)) | ((with_reducible apply Y.assert_nil); (· rfl)) | ((with_reducible apply Y.eql_nil_no); (· rfl); (· rfl)) | ((with_reducible apply Y.neq_nil_no); (· rfl); (· rfl)) | ((with_reducible apply Y.eql_nil_yes); (· rfl)) | ((with_reducible apply Y.neq_nil_yes); (· rfl)) | ((with_reducible apply Y.slice_to); (· rfl); (· rfl); (· exact natA); (· omega)) | ((with_reducible apply Y.build); (· rfl); (· first | rfl | (refine all1 (by first | rfl | assumption) ?_; first | rfl | (refine all1 (by first | rfl | assumption) ?_; first | rfl | (refine all1 (by first | rfl | assumption) ?_; rfl)))); (· rfl)) | ((with_reducible apply Y.load_cells); (· rfl); (· assumption); (· assumption)) | ((with_reducible apply Y.load_gh); (· rfl); (· assumption)) | ((with_reducible apply Y.load_whole); (· rfl); (· exact pkA); (· assumption)) | fail) : Yields P n ds S g L o v := h
end
end Go.TL
