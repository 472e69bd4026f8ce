/-
  A walk by lemmas: shifts and bits; arrays; drawn regions with a tail.
-/
import Derived.Test.YthifckfpjmhmjaaDoorTLcond
import Derived.StillTail
namespace Go.TL
open Go Go.RowKit

section
variable {P : Program} {ops : Array Oper} {Q : Exit → Act → World → Prop} {rest : List Oper} {n : Nat} {ds : List Deferred} {S : Slots} {g : Gh} {L L' : List Ent}
variable {dst : Option Nat} {d : Nat} {op : Op} {ty : TypeId} {pos : String} {aft : Array Edge} {gd : Option (Nat × Bool)}
variable {x y : Operand} {v : Value} {t t' e : TypeId} {k k' : IntKind} {p q z : Int} {a b j : Nat}
theorem Y.shl (hx : ev S x = some (.int k p)) (hy : ev S y = some (.int k' q)) (hq : q = j) (hj : j ≤ k.bits) (hz : k.wrap (p * 2 ^ j) = z) : Yields P n ds S g L ⟨dst, .binOp .shl t x y t', ty, pos, aft, gd⟩ (.int k z) := .mk fun a w hf _ => by
  subst hz; subst hq
  have h0 : ¬ (j : Int) < 0 := by omega
  simp [execOp, hf.ev hx, hf.ev hy, eqGuard, binOp, Op.shift, h0, Nat.min_eq_left hj]
theorem Y.shr (hx : ev S x = some (.int k p)) (hy : ev S y = some (.int k' q)) (hq : q = j) (hj : j ≤ k.bits) (hz : p.fdiv (2 ^ j) = z) : Yields P n ds S g L ⟨dst, .binOp .shr t x y t', ty, pos, aft, gd⟩ (.int k z) := .mk fun a w hf _ => by
  subst hz; subst hq
  have h0 : ¬ (j : Int) < 0 := by omega
  simp [execOp, hf.ev hx, hf.ev hy, eqGuard, binOp, Op.shift, h0, Nat.min_eq_left hj]
theorem ofInt_nat {w a : Nat} (h : a < 2 ^ w) : (BitVec.ofInt w (a : Int)).toNat = a := by
  rw [BitVec.ofInt_natCast, BitVec.toNat_ofNat, Nat.mod_eq_of_lt h]
section
variable (hx : ev S x = some (.int k p)) (hy : ev S y = some (.int k q)) (hp : p = a) (hq : q = b) (ha : a < 2 ^ k.bits) (hb : b < 2 ^ k.bits)
include hx hy hp hq ha hb
theorem Y.and (hz : k.wrap ((a &&& b : Nat) : Int) = z) : Yields P n ds S g L ⟨dst, .binOp .and t x y t', ty, pos, aft, gd⟩ (.int k z) := .mk fun c w hf _ => by
  subst hz; subst hp; subst hq
  simp only [execOp, hf.ev hx, hf.ev hy, eqGuard, binOp, Op.intBits, BitVec.toNat_and, ofInt_nat ha, ofInt_nat hb]
  simp
theorem Y.or (hz : k.wrap ((a ||| b : Nat) : Int) = z) : Yields P n ds S g L ⟨dst, .binOp .or t x y t', ty, pos, aft, gd⟩ (.int k z) := .mk fun c w hf _ => by
  subst hz; subst hp; subst hq
  simp only [execOp, hf.ev hx, hf.ev hy, eqGuard, binOp, Op.intBits, BitVec.toNat_or, ofInt_nat ha, ofInt_nat hb]
  simp
theorem Y.xor (hz : k.wrap ((a ^^^ b : Nat) : Int) = z) : Yields P n ds S g L ⟨dst, .binOp .xor t x y t', ty, pos, aft, gd⟩ (.int k z) := .mk fun c w hf _ => by
  subst hz; subst hp; subst hq
  simp only [execOp, hf.ev hx, hf.ev hy, eqGuard, binOp, Op.intBits, BitVec.toNat_xor, ofInt_nat ha, ofInt_nat hb]
  simp
end
/-! ### Arrays -/
variable {len off bk i sz bytes : Nat} {z' : Value} {cs : List Value} {E : TypeId} {fz : Nat × Nat}
theorem Y.index_arr [ht : Und P t (.array len e)] [he : Inf P e sz bytes z'] (hx : ev S x = some (.pointer (some ⟨bk, off, none⟩))) (hy : ev S y = some (.int k p)) (hp : p = i) (hi : i < len) : Yields P n ds S g L ⟨dst, .indexAddr t x y, ty, pos, aft, gd⟩ (.pointer (some ⟨bk, off + i * sz, none⟩)) := .mk fun a w hf _ => by
  subst hp
  obtain ⟨j, hj, hs, _⟩ := he.eq
  simp [execOp, hf.ev hx, hf.ev hy, Instr.indexAt, Instr.sureAddr, asIntOf, run_und ht.eq, run_size hj, hs, hi, add_eq]
theorem Y.index_arr1 [ht : Und P t (.array len e)] [he : Inf P e 1 bytes z'] (hx : ev S x = some (.pointer (some ⟨bk, 0, none⟩))) (hy : ev S y = some (.int k p)) (hp : p = i) (hi : i < len) : Yields P n ds S g L ⟨dst, .indexAddr t x y, ty, pos, aft, gd⟩ (.pointer (some ⟨bk, i, none⟩)) := by
  have := Y.index_arr (P := P) (n := n) (ds := ds) (g := g) (L := L) (dst := dst) (ty := ty) (pos := pos) (aft := aft) (gd := gd) (t := t) (e := e) hx hy hp hi
  simpa using this
theorem Y.index_addr1 {cap : Nat} [ht : Und P t (.slice e)] [he : Inf P e 1 bytes z'] (hx : ev S x = some (.slice (some ⟨bk, 0, none⟩) len cap)) (hy : ev S y = some (.int k p)) (hp : p = i) (hi : i < len) : Yields P n ds S g L ⟨dst, .indexAddr t x y, ty, pos, aft, gd⟩ (.pointer (some ⟨bk, i, none⟩)) := by
  have := Y.index_addr (P := P) (n := n) (ds := ds) (g := g) (L := L) (dst := dst) (ty := ty) (pos := pos) (aft := aft) (gd := gd) (t := t) (e := e) hx hy hp hi
  simpa using this
/-! ### A drawn region whose last operations wait for all others -/
def Tail (P : Program) (ops : Array Oper) (Q : Exit → Act → World → Prop) (rest : List Oper) : Exit → Act → World → Prop
  | .normal, a, w => wpList P ops Q rest a w
  | e, a, w => Q e a w
theorem TQ.tail (h : TL P ops Q rest n ds S g L) : TQ (Tail P ops Q rest) .normal n ds S g L := ⟨h.h⟩
end
section
variable {P : Program} {ops : Array Oper} {md : Region.Mode} {C : World → Prop}
/-- The head of a region, in whatever order, over a class of worlds. -/
def wpHeadQ (P : Program) (md : Region.Mode) (ops : Array Oper) (C : World → Prop) (n : Nat) (K : Array Bool → Act → Prop) : Nat → Array Bool → Act → Prop
  | 0, listed, a => K listed a
  | f + 1, listed, a => Region.ready md ops listed ≠ [] ∧ ∀ i ∈ Region.ready md ops listed, i < n ∧ qOp P ops C i (wpHeadQ P md ops C n K f (listed.setIfInBounds i true)) a
theorem wpAny_of_headQ {n m : Nat} {K : Array Bool → Act → Prop} {Q' : Exit → Act → World → Prop} (hK : ∀ listed a w, C w → K listed a → wpAny P md ops Q' m listed a w) :
    ∀ (f : Nat) (listed : Array Bool) (a : Act) (w : World), C w → wpHeadQ P md ops C n K f listed a → wpAny P md ops Q' (f + m) listed a w
  | 0, listed, a, w, hw, h => by rw [Nat.zero_add]; exact hK _ _ _ hw h
  | f + 1, listed, a, w, hw, h => by
    rw [show f + 1 + m = (f + m) + 1 by omega]
    exact ⟨fun h0 => absurd h0 h.1, fun i hi => wpOp_of_qOp hw (fun a' w' hw' h' => wpAny_of_headQ hK f _ a' w' hw' h') (h.2 i hi).2⟩
theorem wpHeadQ_first {n i : Nat} {oi : Oper} {v : Value} {K : Array Bool → Act → Prop} (hi : ops[i]? = some oi) (hsel : ∀ (j : Nat) (o : Oper) cs b, ops[j]? = some o → o.op ≠ .select cs b)
    (hs : Region.sinkB md ops n = true) (hc : Region.chainB md ops n = true) (hn : n < ops.size) (hin : i < n) (hdone : ∀ listed a, K listed a → ∀ j ∈ Region.ready md ops listed, n ≤ j) :
    ∀ (f : Nat) (listed : Array Bool) (a : Act), HeadInv md ops n listed →
      (∀ j oj, ops[j]? = some oj → j ≠ i → listed.getD j true = false → (∀ e ∈ oj.after, Region.binds md e = true → e.on ≠ i) → oi.apart ops oj = true) →
      i ∈ Region.ready md ops listed → YieldsIn P ops C oi v a →
      wpHeadQ P md ops C n K f (listed.setIfInBounds i true) (a.put oi.dst v) → wpHeadQ P md ops C n K (f + 1) listed a := by
  intro f
  induction f with
  | zero =>
    intro listed a inv _ hr hy H
    have hun := (mem_ready.1 hr).1
    refine ⟨fun h => (by rw [h] at hr; cases hr), fun j hj => ?_⟩
    have hjn : j < n := (Nat.lt_or_ge j n).elim id fun h => absurd hj (tail_waits hs hc hn inv _ i rfl hin hun j h)
    refine ⟨hjn, ?_⟩
    by_cases hji : j = i
    · subst hji; exact hy.qOp hi H
    · exact absurd (hdone _ _ H j (ready_mono hj hji)) (by omega)
  | succ f ih =>
    intro listed a inv hfree hr hy H
    have hun := (mem_ready.1 hr).1
    refine ⟨fun h => (by rw [h] at hr; cases hr), fun j hj => ?_⟩
    have hjn : j < n := (Nat.lt_or_ge j n).elim id fun h => absurd hj (tail_waits hs hc hn inv _ i rfl hin hun j h)
    refine ⟨hjn, ?_⟩
    by_cases hji : j = i
    · subst hji; exact hy.qOp hi H
    · have h1 := (H.2 j (ready_mono hj hji)).2
      obtain ⟨hjun, oj, hoj, hall⟩ := mem_ready.1 hj
      have hnot : ∀ e ∈ oj.after, Region.binds md e = true → e.on ≠ i := fun e he hb heq => by
        have h1 := hall e he hb
        rw [heq, getD_both hun] at h1
        cases h1
      have h2 := qOp_put hoj (hfree j oj hoj hji hjun hnot) (fun cs b => hsel i oi cs b hi) (fun cs b => hsel j oj cs b hoj) hy h1
      refine qOp_mono (fun a' h3 => ih (listed.setIfInBounds j true) a' (inv.set hj hjn) (fun k ok hk hki hkun hno => hfree k ok hk hki ?_ hno) (ready_mono hr (Ne.symm hji)) h3.1 ?_) h2
      · by_cases hjk : j = k
        · subst hjk; exact hjun
        · rw [getD_set_ne true hjk] at hkun; exact hkun
      · rw [Array.setIfInBounds_comm _ _ hji]
        exact h3.2
theorem wpHeadQ_lex {n m : Nat} {Lq : Act → Prop} (hsel : Region.noSelect ops = true) (hs : Region.sinkB md ops n = true) (hc : Region.chainB md ops n = true) (hn : n < ops.size) :
    ∀ (l : List Oper) (k : Nat) (listed : Array Bool) (a : Act), (∀ j, j < l.length → l[j]? = ops[k + j]?) → k + l.length = n → HeadInv md ops n listed →
    Region.lexHead md ops m l.length k listed = true → wpQuiet P ops C Lq l a →
    wpHeadQ P md ops C n (fun listed' a' => Region.seqB md ops m n listed' = true ∧ Lq a') l.length listed a
  | [], k, listed, a, _, hk, _, hB, h => by
    obtain rfl : k = n := by simpa using hk
    exact ⟨by simpa [Region.lexHead] using hB, h⟩
  | o :: l, k, listed, a, hl, hk, inv, hB, h => by
    have h0 : ops[k]? = some o := by simpa using (hl 0 (by simp)).symm
    simp only [List.length_cons, Region.lexHead, Bool.and_eq_true] at hB
    obtain ⟨⟨hr, hf⟩, hB'⟩ := hB
    simp only [List.length_cons] at hk
    have hr' : k ∈ Region.ready md ops listed := by simpa using hr
    have hst : qOp P ops C k (wpQuiet P ops C Lq l) a := by unfold qOp; simp only [h0]; exact h
    obtain ⟨v, hy, hK⟩ := yieldsIn_of_qOp h0 hst
    exact wpHeadQ_first h0 (Region.noSelect_spec hsel) hs hc hn (by omega) (fun listed' a' hL => seqB_ready hL.1) l.length listed a inv (Region.free_spec h0 hf) hr' hy
      (wpHeadQ_lex hsel hs hc hn l (k + 1) _ _ (fun j hj => by have := hl (j + 1) (by simp; omega); simpa [Nat.add_assoc, Nat.add_comm 1 j] using this) (by omega) (inv.set hr' (by omega)) hB' hK)
/-- The head only reads or calls what leaves the class; the tail goes one by one. -/
theorem wp_region_quiet_tail {id : Nat} {Q : Exit → Act → World → Prop} {a : Act} {w : World} {l : List Oper} (n : Nat) (hm : P.follows .mixedOrders = true) (hB : Region.lexTailB .any l.toArray n = true) (hC : C { w with drawn := w.drawn + 1 })
    (h : wpQuiet P l.toArray C (fun a' => ∀ w', C w' → wpList P l.toArray Q (l.drop n) a' w') (l.take n) a) : (Code.region id l.toArray true).wp P Q a w := by
  simp only [Region.lexTailB, Bool.and_eq_true, decide_eq_true_eq] at hB
  obtain ⟨⟨⟨⟨hsel, hn⟩, hs⟩, hc⟩, hlex⟩ := hB
  have hn' : n < l.length := by simpa using hn
  have htl : (l.take n).length = n := by simp; omega
  have hdl : (l.drop n).length = l.toArray.size - n := by simp
  have inv0 : HeadInv .any l.toArray n (Array.replicate l.toArray.size false) :=
    ⟨by simp, fun j oj _ hl => (by rw [getD_replicate_false] at hl; cases hl), fun t _ ht => getD_in (by simpa using ht) (getD_replicate_false _ _)⟩
  have H := wpHeadQ_lex (C := C) (md := .any) (m := l.toArray.size - n) hsel hs hc hn (l.take n) 0 _ a (fun j hj => by
    have hj' : j < n := by rw [htl] at hj; exact hj
    simp [hj']) (by simpa using htl) inv0 (by rw [htl]; exact hlex) h
  refine wp_region_any hm ?_
  have := wpAny_of_headQ (Q' := Q) (m := l.toArray.size - n) (fun listed a' w' hw' hL => by
    have := wpAny_of_seq (md := .any) (Q' := Q) (l.drop n) n listed a' w' (fun j => by simp [List.getElem?_drop]) (by rw [hdl]; exact hL.1) (hL.2 _ hw')
    rwa [hdl] at this) _ _ _ _ hC H
  rw [htl, show n + (l.toArray.size - n) = l.toArray.size by omega] at this
  exact this
end
theorem TC.region_tail {P : Program} {Q : Exit → Act → World → Prop} {n : Nat} {ds : List Deferred} {S : Slots} {g : Gh} {L : List Ent} {id : Nat} {l : List Oper} (m : Nat) (hm : P.follows .mixedOrders = true) (hB : Region.lexTailB .any l.toArray m = true)
    (h : TW P l.toArray (Tail P l.toArray Q (l.drop m)) (l.take m) n ds S g L) : TC P Q (.region id l.toArray true) n ds S g L := .mk fun a w hf hs =>
  wp_region_quiet_tail (C := St g L) m hm hB hs.drew (h.h a hf)
section
variable {P : Program} {n : Nat} {ds : List Deferred} {S : Slots} {g : Gh} {L L' : List Ent} {dst : Option Nat} {ty : TypeId} {pos : String} {aft : Array Edge} {gd : Option (Nat × Bool)} {x y : Operand} {t t' : TypeId} {k k' : IntKind} {p q : Int} {a j b off : Nat} {v : Value} {cs : List Value} {E : TypeId} {fz : Nat × Nat}
theorem Y.shrN (hx : ev S x = some (.int k p)) (hy : ev S y = some (.int k' q)) (hp : p = a) (hq : q = j) (hj : j ≤ k.bits) : Yields P n ds S g L ⟨dst, .binOp .shr t x y t', ty, pos, aft, gd⟩ (.int k ((a / 2 ^ j : Nat) : Int)) :=
  Y.shr hx hy hq hj (by subst hp; rw [Int.fdiv_eq_ediv_of_nonneg _ (Int.pow_nonneg (by decide))]; simp)
theorem Y.loadK [Sc P t] (hx : ev S x = some (.pointer (some ⟨b, off, none⟩))) (hm : Pick (.obj b (.cells cs.toArray E fz)) L L') (hc : cs[off]? = some v) : Yields P n ds S g L ⟨dst, .load t x, ty, pos, aft, gd⟩ v := Y.load hx hm hc
theorem yB {o : Oper} (h : Yields P n ds S g L o v := by first | ((with_reducible apply Y.shl); (· rfl); (· rfl); (· first | exact isNat | exact (Int.toNat_of_nonneg (by omega)).symm); (· first | decide | omega); (· first | exact IntWalk.i64_in _ (by omega) | exact IntWalk.i32_in _ (by omega) | exact IntWalk.u8_in _ (by omega) | exact IntWalk.u64_in _ (by omega) | exact IntWalk.u32_in _ (by omega) | rfl)) | ((with_reducible apply Y.shrN); (· rfl); (· rfl); (· first | exact isNat | exact (Int.toNat_of_nonneg (by omega)).symm); (· first | exact isNat | exact (Int.toNat_of_nonneg (by omega)).symm); (· first | decide | omega)) | ((with_reducible apply Y.and); (· rfl); (· rfl); (· first | exact isNat | exact (Int.toNat_of_nonneg (by omega)).symm); (· first | exact isNat | exact (Int.toNat_of_nonneg (by omega)).symm); (· first | decide | (show _ < 18446744073709551616; omega) | (show _ < 4294967296; omega) | (show _ < 256; omega)); (· first | decide | (show _ < 18446744073709551616; omega) | (show _ < 4294967296; omega) | (show _ < 256; omega)); (· first | exact IntWalk.i64_in _ (by omega) | exact IntWalk.i32_in _ (by omega) | exact IntWalk.u8_in _ (by omega) | exact IntWalk.u64_in _ (by omega) | exact IntWalk.u32_in _ (by omega) | rfl)) | ((with_reducible apply Y.or); (· rfl); (· rfl); (· first | exact isNat | exact (Int.toNat_of_nonneg (by omega)).symm); (· first | exact isNat | exact (Int.toNat_of_nonneg (by omega)).symm); (· first | decide | (show _ < 18446744073709551616; omega) | (show _ < 4294967296; omega) | (show _ < 256; omega)); (· first | decide | (show _ < 18446744073709551616; omega) | (show _ < 4294967296; omega) | (show _ < 256; omega)); (· first | exact IntWalk.i64_in _ (by omega) | exact IntWalk.i32_in _ (by omega) | exact IntWalk.u8_in _ (by omega) | exact IntWalk.u64_in _ (by omega) | exact IntWalk.u32_in _ (by omega) | rfl)) | ((with_reducible apply Y.xor); (· rfl); (· rfl); (· first | exact isNat | exact (Int.toNat_of_nonneg (by omega)).symm); (· first | exact isNat | exact (Int.toNat_of_nonneg (by omega)).symm); (· first | decide | (show _ < 18446744073709551616; omega) | (show _ < 4294967296; omega) | (show _ < 256; omega)); (· first | decide | (show _ < 18446744073709551616; omega) | (show _ < 4294967296; omega) | (show _ < 256; omega)); (· first | exact IntWalk.i64_in _ (by omega) | exact IntWalk.i32_in _ (by omega) | exact IntWalk.u8_in _ (by omega) | exact IntWalk.u64_in _ (by omega) | exact IntWalk.u32_in _ (by omega) | rfl)) | ((with_reducible apply Y.index_arr1); (· rfl); (· rfl); (· first | exact isNat | exact (Int.toNat_of_nonneg (by omega)).symm); (· omega)) | ((with_reducible apply Y.index_addr1); (· rfl); (· rfl); (· first | exact isNat | exact (Int.toNat_of_nonneg (by omega)).symm); (· omega)) | ((with_reducible apply Y.loadK); (· rfl); (· exact pkA); (· assumption)) | fail) : Yields P n ds S g L o v := h
end
end Go.TL
