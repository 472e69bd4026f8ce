/-
  In a region that draws its order: an operation that is not wanted is passed over first; two that may both come up.
-/
import Derived.Test.YtphlggmhgfcmgaaGreatDoorTLslice
namespace Go.TL
open Go Go.RowKit Go.Proofs.YtphlggmhgfcmgaaGreatDoor
section
variable {P : Program} {ops : Array Oper} {Q : Exit → Act → World → Prop} {n : Nat} {ds : List Deferred} {S : Slots} {g gS : Gh} {L LS : List Ent}
variable {fuel sk : Nat} {listed : Array Bool} {d : Nat} {op : Op} {ty : TypeId} {pos : String} {aft : Array Edge}
theorem TA.no_g {l : List Oper} (i : Nat) {j t : Nat} {want b : Bool} {ap : Array Bool} (hr : (Region.ready .any l.toArray listed).contains i = true) (hi : nthO l i = some ⟨some d, op, ty, pos, aft, some (j, want)⟩) (hg : gslot l.toArray j = some t) (hb : look t S = some (.bool b)) (hne : (b == want) = false) (hf : Region.free .any l.toArray listed i = true) (hn : Region.noSelect l.toArray = true)
    (hd : Nat.blt d n = true) (hQ : ∀ c a w, Q (.panic c) (a.put (some d) undef) w → Q (.panic c) a w) (hl : listed.setIfInBounds i true = ap) (k : TA P l.toArray Q gS LS fuel ap n ds ((d, undef) :: S) g L) : TA P l.toArray Q gS LS (fuel + 1) listed n ds S g L := .mk fun a w hfr hs hS => by
  subst hl
  exact wpAnyH_take ((nthO_eq l i).trans hi) hn hf hr hQ (.inr ⟨by rw [wanted_of hg hb hfr]; exact hne, rfl⟩) hS (k.h _ w (hfr.put hd undef) hs hS)
theorem TA.no_u {l : List Oper} (i : Nat) {j t : Nat} {want : Bool} {ap : Array Bool} (hr : (Region.ready .any l.toArray listed).contains i = true) (hi : nthO l i = some ⟨some d, op, ty, pos, aft, some (j, want)⟩) (hg : gslot l.toArray j = some t) (hb : look t S = some undef) (hf : Region.free .any l.toArray listed i = true) (hn : Region.noSelect l.toArray = true)
    (hd : Nat.blt d n = true) (hQ : ∀ c a w, Q (.panic c) (a.put (some d) undef) w → Q (.panic c) a w) (hl : listed.setIfInBounds i true = ap) (k : TA P l.toArray Q gS LS fuel ap n ds ((d, undef) :: S) g L) : TA P l.toArray Q gS LS (fuel + 1) listed n ds S g L := .mk fun a w hfr hs hS => by
  subst hl
  exact wpAnyH_take ((nthO_eq l i).trans hi) hn hf hr hQ (.inr ⟨unwanted_of hg hb hfr, rfl⟩) hS (k.h _ w (hfr.put hd undef) hs hS)
/-- Either of two may come up. -/
theorem TA.two {l : List Oper} (i j : Nat) {oi oj : Oper} {ai aj : Array Bool} (hi0 : nthO l i = some oi) (hj0 : nthO l j = some oj) (hr : Region.ready .any l.toArray listed = [i, j]) (hli : listed.setIfInBounds i true = ai) (hlj : listed.setIfInBounds j true = aj)
    (hi : TL P l.toArray (AnyQ P l.toArray Q gS LS fuel ai) [oi] n ds S g L) (hj : TL P l.toArray (AnyQ P l.toArray Q gS LS fuel aj) [oj] n ds S g L) : TA P l.toArray Q gS LS (fuel + 1) listed n ds S g L := .mk fun a w hf hs _ => by
  subst hli hlj
  refine wpAnyH_all hr (by simp) fun k hk => ?_
  have key : ∀ k o, nthO l k = some o → TL P l.toArray (AnyQ P l.toArray Q gS LS fuel (listed.setIfInBounds k true)) [o] n ds S g L → wpOp P l.toArray Q k (fun a' w' => St gS LS w' ∧ wpAnyH P .any l.toArray Q (St gS LS) fuel (listed.setIfInBounds k true) a' w') a w := fun k o ho h => by
    have hi := (nthO_eq l k).trans ho
    have h1 := h.h a w hf hs
    unfold wpOp
    simp only [hi]
    unfold wpList at h1
    by_cases hw : Region.wanted o (yielded l.toArray a.tmps) = true
    · rw [if_pos hw] at h1 ⊢
      rcases h1 with h1 | ⟨ha, hlets⟩
      · refine .inl ?_
        unfold Oper.wp at h1 ⊢
        generalize (execOp a.eval o).run P w = r at *
        cases r with
        | ok m w' =>
          cases m <;> simp only [Oper.upon] at h1 ⊢ <;> first | exact h1 | exact h1.mono fun e w'' he => by cases e <;> exact he
        | halt x w' => cases x <;> simp only [Oper.upon] at h1 ⊢ <;> exact h1
      · exact .inr ⟨ha, hlets⟩
    · rw [if_neg hw] at h1 ⊢
      exact h1
  rcases List.mem_cons.1 hk with rfl | hk
  · exact key _ _ hi0 hi
  · obtain rfl := List.mem_singleton.1 hk
    exact key _ _ hj0 hj
theorem TB.two {l : List Oper} (i j : Nat) {oi oj : Oper} {ai aj : Array Bool} (hi0 : nthO l i = some oi) (hj0 : nthO l j = some oj) (hr : Region.ready .any l.toArray listed = [i, j]) (hli : listed.setIfInBounds i true = ai) (hlj : listed.setIfInBounds j true = aj)
    (hi : sinkA .any l.toArray sk = true → TL P l.toArray (AnyT P l.toArray Q gS LS sk fuel ai i) [oi] n ds S g L) (hj : sinkA .any l.toArray sk = true → TL P l.toArray (AnyT P l.toArray Q gS LS sk fuel aj j) [oj] n ds S g L) : TB P l.toArray Q gS LS sk (fuel + 1) listed n ds S g L := .mk fun hk a w hf hs _ => by
  subst hli hlj
  have key : ∀ k o, nthO l k = some o → TL P l.toArray (AnyT P l.toArray Q gS LS sk fuel (listed.setIfInBounds k true) k) [o] n ds S g L → wpOp P l.toArray Q k (fun a' w' => (k ≠ sk → St gS LS w') ∧ wpAnyT P .any l.toArray Q (St gS LS) sk fuel (listed.setIfInBounds k true) a' w') a w := fun k o ho h => by
    have hi := (nthO_eq l k).trans ho
    have h1 := h.h a w hf hs
    unfold wpOp
    simp only [hi]
    unfold wpList at h1
    by_cases hw : Region.wanted o (yielded l.toArray a.tmps) = true
    · rw [if_pos hw] at h1 ⊢
      rcases h1 with h1 | ⟨ha, hlets⟩
      · refine .inl ?_
        unfold Oper.wp at h1 ⊢
        generalize (execOp a.eval o).run P w = r at *
        cases r with
        | ok m w' =>
          cases m <;> simp only [Oper.upon] at h1 ⊢ <;> first | exact h1 | exact h1.mono fun e w'' he => by cases e <;> exact he
        | halt x w' => cases x <;> simp only [Oper.upon] at h1 ⊢ <;> exact h1
      · exact .inr ⟨ha, hlets⟩
    · rw [if_neg hw] at h1 ⊢
      exact h1
  refine ⟨fun h0 => (by rw [hr] at h0; cases h0), fun k hk2 => ?_⟩
  rw [hr] at hk2
  rcases List.mem_cons.1 hk2 with rfl | hk2
  · exact key _ _ hi0 (hi hk)
  · obtain rfl := List.mem_singleton.1 hk2
    exact key _ _ hj0 (hj hk)
end
section
variable {P : Program} {g : Gh} {L : List Ent} {b : Nat} {E : TypeId}
/-- Cells in the midst of a block are written. -/
theorem storeCells_part (o : Nat) : ∀ (us pre cs post : List Value) (i : Nat) (w : World), o + i = pre.length → St g (.obj b (.cells (pre ++ (cs ++ post)).toArray E (0, 0)) :: L) w → cs.length = us.length → (∀ u ∈ us, u.one = true) → ∃ w', (storeCells ⟨b, o, none⟩ us i).run P w = .ok () w' ∧ St g (.obj b (.cells (pre ++ (us ++ post)).toArray E (0, 0)) :: L) w'
  | [], pre, cs, post, i, w, _, h, hl, _ => by
    have : cs = [] := List.eq_nil_of_length_eq_zero hl
    subst this
    exact ⟨w, by simp [storeCells], h⟩
  | u :: us, pre, cs, post, i, w, ho, h, hl, h1 => by
    cases cs with
    | nil => cases hl
    | cons c cs =>
      have h0 := h.st _ (List.mem_cons_self)
      have hc : w.cell? ⟨b, pre.length, none⟩ = some c := by rw [obj_cell h0]; simp
      have hz := obj_frozen h0 pre.length
      have hu := h1 u (by simp)
      have hst : (Sem.store Mode.plain ⟨b, pre.length, none⟩ u (.pure ())).run P w = .ok () (w.setCell ⟨b, pre.length, none⟩ u) := by
        cases u <;> first | (simp [Go.Value.one] at hu; done) | simp [Sem.run, hc, hz]
      have h2 := h.set u pre.length
      rw [show (pre ++ (c :: cs ++ post)).set pre.length u = (pre ++ [u]) ++ (cs ++ post) by simp] at h2
      obtain ⟨w', hr, hs'⟩ := storeCells_part o us (pre ++ [u]) cs post (i + 1) _ (by rw [List.length_append, List.length_singleton]; omega) h2 (by simpa using hl) (fun v hv => h1 v (by simp [hv]))
      refine ⟨w', ?_, by simpa using hs'⟩
      simp only [storeCells, Sem.run_bind, store, add_eq, ho, hst, Result.andThen_ok]
      exact hr
end
section
variable {P : Program} {ops : Array Oper} {Q : Exit → Act → World → Prop} {rest : List Oper} {n : Nat} {ds : List Deferred} {S : Slots} {g : Gh} {L L' : List Ent} {ty : TypeId} {pos : String} {aft : Array Edge} {x y : Operand} {z : Value} {t e : TypeId} {sz bytes k cap b off : Nat} {xs us : List Value}
/-- An element of several cells of a row is written. -/
theorem TL.store_row_ag [hi : Inf P t sz bytes z] (hx : ev S x = some (.pointer (some ⟨b, off, none⟩))) (hy : ev S y = some (.agg us.toArray)) (h1 : us.all Value.one = true) (hl : us.length = sz) (hm : Pick (.row e sz (.slice (some ⟨b, 0, none⟩) k cap) k xs) L L') (ho : off + sz ≤ xs.length)
    (kk : TL P ops Q rest n ds S g (.row e sz (.slice (some ⟨b, 0, none⟩) k cap) k (xs.take off ++ (us ++ xs.drop (off + sz))) :: L')) : TL P ops Q (⟨none, .store t x y, ty, pos, aft, none⟩ :: rest) n ds S g L := .mk fun a w hf hs => by
  obtain ⟨cs, h2, h3, h4, h5, hs2⟩ := (hs.perm hm.perm).row_obj
  have hlx : off + sz ≤ k * sz := by
    rw [← h2, List.length_take] at ho; omega
  have hlc : off + sz ≤ cs.length := by rw [h3]; exact Nat.le_trans hlx (Nat.mul_le_mul_right _ h4)
  have hsp : cs = cs.take off ++ ((cs.drop off).take sz ++ cs.drop (off + sz)) := by
    rw [← List.drop_drop, List.take_append_drop, List.take_append_drop]
  rw [hsp] at hs2
  refine wpList_plain rfl (fun K hK => ?_)
  obtain ⟨j, hj, hs0, _⟩ := hi.eq
  obtain ⟨w', hr, hs'⟩ := storeCells_part (P := P) (g := g) (b := b) (E := e) (L := L') off us (cs.take off) ((cs.drop off).take sz) (cs.drop (off + sz)) 0 w (by rw [List.length_take]; omega) hs2 (by rw [List.length_take, List.length_drop]; omega) (fun u hu => List.all_eq_true.1 h1 u hu)
  have hrun : (execOp a.eval ⟨none, .store t x y, ty, pos, aft, none⟩).run P w = .ok .skip w' := by
    simp [execOp, hf.ev hx, hf.ev hy, Instr.storeAt, Instr.sureAddr, storeVar, run_size hj, hs0, Value.cells, hl, hr]
  unfold Oper.wp
  rw [hrun]
  refine hK _ _ (kk.h _ _ hf ?_)
  have h6 := hs'.obj_part (sz := sz) (k := k) (cap := cap) (by simp only [List.length_append, List.length_take, List.length_drop]; omega) h4 h5
  have : (cs.take off ++ (us ++ cs.drop (off + sz))).take (k * sz) = xs.take off ++ (us ++ xs.drop (off + sz)) := by
    rw [← h2, List.take_take, Nat.min_eq_left (by omega), List.take_append, List.take_append, List.length_take, Nat.min_eq_left (by omega), List.take_take, Nat.min_eq_right (by omega), List.take_of_length_le (show us.length ≤ k * sz - off by omega), List.drop_take, hl, show k * sz - off - sz = k * sz - (off + sz) by omega]
  rw [this] at h6
  exact h6
end
section
variable {P : Program} {Q : Exit → Act → World → Prop} {n : Nat} {ds : List Deferred} {S : Slots} {g : Gh} {L : List Ent}
def SeqL : List Code → Code → Code
  | [], r => r
  | c :: cs, r => c.seq (SeqL cs r)
def ThenL (P : Program) : List Code → (Exit → Act → World → Prop) → Exit → Act → World → Prop
  | [], Q => Q
  | c :: cs, Q => Then P c (ThenL P cs Q)
theorem ThenL.mono {Q' : Exit → Act → World → Prop} {rest : Code} (hc : ∀ e a w, Q' e a w → (Exit.then (rest.wp P Q) Q) e a w) : ∀ (ys : List Code) (e : Exit) (a : Act) (w : World), ThenL P ys Q' e a w → (Exit.then ((SeqL ys rest).wp P Q) Q) e a w
  | [], e, a, w, h => hc e a w h
  | y :: ys, e, a, w, h => by
    cases e with
    | normal => exact wp_seq (Code.wp_mono (fun e a w => ThenL.mono hc ys e a w) h)
    | _ => exact ThenL.mono hc ys _ a w h
/-- A cut some statements on. -/
theorem TC.cutN {α : Type} (ys : List Code) (p : α → Prop) (S' : α → Slots) (G : α → Gh) (L' : α → List Ent) {x rest : Code} (h : TC P (ThenL P ys (Cut n ds p S' G L' Q)) x n ds S g L) (k : ∀ z, p z → TC P Q rest n ds (S' z) (G z) (L' z)) : TC P (Then P (SeqL ys rest) Q) x n ds S g L := .mk fun a w hf hs => by
  refine Code.wp_mono (fun e a w hq => ThenL.mono (Q' := Cut n ds p S' G L' Q) (fun e a w hq => ?_) ys e a w hq) (h.h a w hf hs)
  cases e with
  | normal => obtain ⟨z, hp, hf', hs'⟩ := hq; exact (k z hp).h a w hf' hs'
  | _ => exact hq
end
section
variable {P : Program} {ops : Array Oper} {Q : Exit → Act → World → Prop} {rest : List Oper} {n : Nat} {ds : List Deferred} {S : Slots} {g gS : Gh} {L LS : List Ent} {sk : Nat}
variable {id fuel : Nat} {listed : Array Bool} {o : Oper} {v : Value} {d : Nat} {op : Op} {ty : TypeId} {pos : String} {aft : Array Edge}
theorem TA.takeF {l : List Oper} (i : Nat) {ap : Array Bool} (_hu : listed.getD i true = false) (hr : (Region.ready .any l.toArray listed).contains i = true) (hi : nthO l i = some ⟨some d, op, ty, pos, aft, none⟩) (hy : Yields P n ds S gS LS ⟨some d, op, ty, pos, aft, none⟩ v) (hf : Region.free .any l.toArray listed i = true) (hn : Region.noSelect l.toArray = true)
    (hd : Nat.blt d n = true) (hQ : ∀ c a w, Q (.panic c) (a.put (some d) v) w → Q (.panic c) a w) (hl : listed.setIfInBounds i true = ap) (k : TA P l.toArray Q gS LS fuel ap n ds ((d, v) :: S) g L) : TA P l.toArray Q gS LS (fuel + 1) listed n ds S g L := .take i hr hi hy hf hn hd hQ hl k
theorem TA.take_gF {l : List Oper} (i : Nat) {j t : Nat} {want : Bool} {ap : Array Bool} (_hu : listed.getD i true = false) (hr : (Region.ready .any l.toArray listed).contains i = true) (hi : nthO l i = some ⟨some d, op, ty, pos, aft, some (j, want)⟩) (hg : gslot l.toArray j = some t) (hb : look t S = some (.bool want)) (hy : Yields P n ds S gS LS ⟨some d, op, ty, pos, aft, some (j, want)⟩ v) (hf : Region.free .any l.toArray listed i = true) (hn : Region.noSelect l.toArray = true)
    (hd : Nat.blt d n = true) (hQ : ∀ c a w, Q (.panic c) (a.put (some d) v) w → Q (.panic c) a w) (hl : listed.setIfInBounds i true = ap) (k : TA P l.toArray Q gS LS fuel ap n ds ((d, v) :: S) g L) : TA P l.toArray Q gS LS (fuel + 1) listed n ds S g L := .take_g i hr hi hg hb hy hf hn hd hQ hl k
theorem TA.oneF {l : List Oper} (i : Nat) {ap : Array Bool} (_hu : listed.getD i true = false) (hi0 : nthO l i = some o) (hr : Region.ready .any l.toArray listed = [i]) (hl : listed.setIfInBounds i true = ap) (h : TL P l.toArray (AnyQ P l.toArray Q gS LS fuel ap) [o] n ds S g L) : TA P l.toArray Q gS LS (fuel + 1) listed n ds S g L := .one i hi0 hr hl h
theorem TA.no_gF {l : List Oper} (i : Nat) {j t : Nat} {want b : Bool} {ap : Array Bool} (_hu : listed.getD i true = false) (hr : (Region.ready .any l.toArray listed).contains i = true) (hi : nthO l i = some ⟨some d, op, ty, pos, aft, some (j, want)⟩) (hg : gslot l.toArray j = some t) (hb : look t S = some (.bool b)) (hne : (b == want) = false) (hf : Region.free .any l.toArray listed i = true) (hn : Region.noSelect l.toArray = true)
    (hd : Nat.blt d n = true) (hQ : ∀ c a w, Q (.panic c) (a.put (some d) undef) w → Q (.panic c) a w) (hl : listed.setIfInBounds i true = ap) (k : TA P l.toArray Q gS LS fuel ap n ds ((d, undef) :: S) g L) : TA P l.toArray Q gS LS (fuel + 1) listed n ds S g L := .no_g i hr hi hg hb hne hf hn hd hQ hl k
theorem TA.no_uF {l : List Oper} (i : Nat) {j t : Nat} {want : Bool} {ap : Array Bool} (_hu : listed.getD i true = false) (hr : (Region.ready .any l.toArray listed).contains i = true) (hi : nthO l i = some ⟨some d, op, ty, pos, aft, some (j, want)⟩) (hg : gslot l.toArray j = some t) (hb : look t S = some undef) (hf : Region.free .any l.toArray listed i = true) (hn : Region.noSelect l.toArray = true)
    (hd : Nat.blt d n = true) (hQ : ∀ c a w, Q (.panic c) (a.put (some d) undef) w → Q (.panic c) a w) (hl : listed.setIfInBounds i true = ap) (k : TA P l.toArray Q gS LS fuel ap n ds ((d, undef) :: S) g L) : TA P l.toArray Q gS LS (fuel + 1) listed n ds S g L := .no_u i hr hi hg hb hf hn hd hQ hl k
theorem TB.takeF {l : List Oper} (i : Nat) {ap : Array Bool} (_hu : listed.getD i true = false) (hr : (Region.ready .any l.toArray listed).contains i = true) (hi : nthO l i = some ⟨some d, op, ty, pos, aft, none⟩) (hy : Yields P n ds S gS LS ⟨some d, op, ty, pos, aft, none⟩ v) (hf : Region.free .any l.toArray listed i = true) (hn : Region.noSelect l.toArray = true)
    (hd : Nat.blt d n = true) (hQ : ∀ c a w, Q (.panic c) (a.put (some d) v) w → Q (.panic c) a w) (hl : listed.setIfInBounds i true = ap) (k : TB P l.toArray Q gS LS sk fuel ap n ds ((d, v) :: S) g L) : TB P l.toArray Q gS LS sk (fuel + 1) listed n ds S g L := .take i hr hi hy hf hn hd hQ hl k
theorem TB.take_gF {l : List Oper} (i : Nat) {j t : Nat} {want : Bool} {ap : Array Bool} (_hu : listed.getD i true = false) (hr : (Region.ready .any l.toArray listed).contains i = true) (hi : nthO l i = some ⟨some d, op, ty, pos, aft, some (j, want)⟩) (hg : gslot l.toArray j = some t) (hb : look t S = some (.bool want)) (hy : Yields P n ds S gS LS ⟨some d, op, ty, pos, aft, some (j, want)⟩ v) (hf : Region.free .any l.toArray listed i = true) (hn : Region.noSelect l.toArray = true)
    (hd : Nat.blt d n = true) (hQ : ∀ c a w, Q (.panic c) (a.put (some d) v) w → Q (.panic c) a w) (hl : listed.setIfInBounds i true = ap) (k : TB P l.toArray Q gS LS sk fuel ap n ds ((d, v) :: S) g L) : TB P l.toArray Q gS LS sk (fuel + 1) listed n ds S g L := .take_g i hr hi hg hb hy hf hn hd hQ hl k
theorem TB.oneF {l : List Oper} (i : Nat) {ap : Array Bool} (_hu : listed.getD i true = false) (hi0 : nthO l i = some o) (hr : Region.ready .any l.toArray listed = [i]) (hl : listed.setIfInBounds i true = ap) (h : sinkA .any l.toArray sk = true → TL P l.toArray (AnyT P l.toArray Q gS LS sk fuel ap i) [o] n ds S g L) : TB P l.toArray Q gS LS sk (fuel + 1) listed n ds S g L := .one i hi0 hr hl h
end
section
variable {P : Program} {n : Nat} {ds : List Deferred} {S : Slots} {g : Gh} {L : List Ent} {v : Value} {dst : Option Nat} {op : Op} {ty : TypeId} {pos : String} {aft : Array Edge} {gd : Option (Nat × Bool)}
/-- The commonest operations. -/
theorem yQ {o : Oper} (h : Yields P n ds S g L o v := by first | ((with_reducible apply Y.move); (· rfl)) | ((with_reducible apply Y.assign); (· rfl)) | ((with_reducible apply Y.extract); (· rfl); (· rfl)) | ((with_reducible apply Y.field); (· rfl)) | ((with_reducible apply Y.load); (· rfl); (· first | ((repeat (first | with_reducible apply Pick.here | with_reducible apply Pick.there)); done) | ((repeat (first | apply Pick.here | apply Pick.there)); done)); (· rfl)) | ((with_reducible apply Y.load_whole); (· rfl); (· first | ((repeat (first | with_reducible apply Pick.here | with_reducible apply Pick.there)); done) | ((repeat (first | apply Pick.here | apply Pick.there)); done)); (· rfl)) | ((with_reducible apply Y.pick_true); (· rfl); (· rfl)) | ((with_reducible apply Y.pick_false); (· rfl); (· rfl)) | fail) : Yields P n ds S g L o v := h
end
theorem selF {L' L : List Ent} (h : Sel L' L := by first | ((repeat (first | with_reducible apply Sel.refl | with_reducible apply Sel.nil | with_reducible apply Sel.cons (by repeat (first | with_reducible apply Pick.here | with_reducible apply Pick.there)) | with_reducible apply Sel.drop)); done) | ((repeat (first | apply Sel.refl | apply Sel.nil | apply Sel.cons (by repeat (first | apply Pick.here | apply Pick.there)) | apply Sel.drop)); done) | fail) : Sel L' L := h
theorem leF {g g' : Gh} (h : g.le g' := by first | with_reducible apply Gh.le.refl | assumption | apply Gh.le.refl) : g.le g' := h
/-- The number of the so-manieth operation that has not come up yet. -/
def nthFreeL : Nat → Nat → List Bool → Option Nat
  | _, _, [] => none
  | k, i, true :: r => nthFreeL k (i + 1) r
  | 0, i, false :: _ => some i
  | k + 1, i, false :: r => nthFreeL k (i + 1) r
def nthFree (k : Nat) (listed : Array Bool) : Option Nat := nthFreeL k 0 listed.toList
section
variable {P : Program} {ops : Array Oper} {Q : Exit → Act → World → Prop} {rest : List Oper} {n : Nat} {ds : List Deferred} {S : Slots} {g gS : Gh} {L LS : List Ent} {sk : Nat}
variable {id fuel : Nat} {listed : Array Bool} {o : Oper} {v : Value} {d : Nat} {op : Op} {ty : TypeId} {pos : String} {aft : Array Edge}
theorem TA.takeN {l : List Oper} (k : Nat) {i : Nat} {ap : Array Bool} (_hu : nthFree k listed = some i) (hr : (Region.ready .any l.toArray listed).contains i = true) (hi : nthO l i = some ⟨some d, op, ty, pos, aft, none⟩) (hy : Yields P n ds S gS LS ⟨some d, op, ty, pos, aft, none⟩ v) (hf : Region.free .any l.toArray listed i = true) (hn : Region.noSelect l.toArray = true)
    (hd : Nat.blt d n = true) (hQ : ∀ c a w, Q (.panic c) (a.put (some d) v) w → Q (.panic c) a w) (hl : listed.setIfInBounds i true = ap) (kk : TA P l.toArray Q gS LS fuel ap n ds ((d, v) :: S) g L) : TA P l.toArray Q gS LS (fuel + 1) listed n ds S g L := .take i hr hi hy hf hn hd hQ hl kk
theorem TA.take_gN {l : List Oper} (k : Nat) {i : Nat} {j t : Nat} {want : Bool} {ap : Array Bool} (_hu : nthFree k listed = some i) (hr : (Region.ready .any l.toArray listed).contains i = true) (hi : nthO l i = some ⟨some d, op, ty, pos, aft, some (j, want)⟩) (hg : gslot l.toArray j = some t) (hb : look t S = some (.bool want)) (hy : Yields P n ds S gS LS ⟨some d, op, ty, pos, aft, some (j, want)⟩ v) (hf : Region.free .any l.toArray listed i = true) (hn : Region.noSelect l.toArray = true)
    (hd : Nat.blt d n = true) (hQ : ∀ c a w, Q (.panic c) (a.put (some d) v) w → Q (.panic c) a w) (hl : listed.setIfInBounds i true = ap) (kk : TA P l.toArray Q gS LS fuel ap n ds ((d, v) :: S) g L) : TA P l.toArray Q gS LS (fuel + 1) listed n ds S g L := .take_g i hr hi hg hb hy hf hn hd hQ hl kk
theorem TA.oneN {l : List Oper} (k : Nat) {i : Nat} {ap : Array Bool} (_hu : nthFree k listed = some i) (hi0 : nthO l i = some o) (hr : Region.ready .any l.toArray listed = [i]) (hl : listed.setIfInBounds i true = ap) (h : TL P l.toArray (AnyQ P l.toArray Q gS LS fuel ap) [o] n ds S g L) : TA P l.toArray Q gS LS (fuel + 1) listed n ds S g L := .one i hi0 hr hl h
theorem TA.no_gN {l : List Oper} (k : Nat) {i : Nat} {j t : Nat} {want b : Bool} {ap : Array Bool} (_hu : nthFree k listed = some i) (hr : (Region.ready .any l.toArray listed).contains i = true) (hi : nthO l i = some ⟨some d, op, ty, pos, aft, some (j, want)⟩) (hg : gslot l.toArray j = some t) (hb : look t S = some (.bool b)) (hne : (b == want) = false) (hf : Region.free .any l.toArray listed i = true) (hn : Region.noSelect l.toArray = true)
    (hd : Nat.blt d n = true) (hQ : ∀ c a w, Q (.panic c) (a.put (some d) undef) w → Q (.panic c) a w) (hl : listed.setIfInBounds i true = ap) (kk : TA P l.toArray Q gS LS fuel ap n ds ((d, undef) :: S) g L) : TA P l.toArray Q gS LS (fuel + 1) listed n ds S g L := .no_g i hr hi hg hb hne hf hn hd hQ hl kk
theorem TA.no_uN {l : List Oper} (k : Nat) {i : Nat} {j t : Nat} {want : Bool} {ap : Array Bool} (_hu : nthFree k listed = some i) (hr : (Region.ready .any l.toArray listed).contains i = true) (hi : nthO l i = some ⟨some d, op, ty, pos, aft, some (j, want)⟩) (hg : gslot l.toArray j = some t) (hb : look t S = some undef) (hf : Region.free .any l.toArray listed i = true) (hn : Region.noSelect l.toArray = true)
    (hd : Nat.blt d n = true) (hQ : ∀ c a w, Q (.panic c) (a.put (some d) undef) w → Q (.panic c) a w) (hl : listed.setIfInBounds i true = ap) (kk : TA P l.toArray Q gS LS fuel ap n ds ((d, undef) :: S) g L) : TA P l.toArray Q gS LS (fuel + 1) listed n ds S g L := .no_u i hr hi hg hb hf hn hd hQ hl kk
theorem TB.takeN {l : List Oper} (k : Nat) {i : Nat} {ap : Array Bool} (_hu : nthFree k listed = some i) (hr : (Region.ready .any l.toArray listed).contains i = true) (hi : nthO l i = some ⟨some d, op, ty, pos, aft, none⟩) (hy : Yields P n ds S gS LS ⟨some d, op, ty, pos, aft, none⟩ v) (hf : Region.free .any l.toArray listed i = true) (hn : Region.noSelect l.toArray = true)
    (hd : Nat.blt d n = true) (hQ : ∀ c a w, Q (.panic c) (a.put (some d) v) w → Q (.panic c) a w) (hl : listed.setIfInBounds i true = ap) (kk : TB P l.toArray Q gS LS sk fuel ap n ds ((d, v) :: S) g L) : TB P l.toArray Q gS LS sk (fuel + 1) listed n ds S g L := .take i hr hi hy hf hn hd hQ hl kk
theorem TB.take_gN {l : List Oper} (k : Nat) {i : Nat} {j t : Nat} {want : Bool} {ap : Array Bool} (_hu : nthFree k listed = some i) (hr : (Region.ready .any l.toArray listed).contains i = true) (hi : nthO l i = some ⟨some d, op, ty, pos, aft, some (j, want)⟩) (hg : gslot l.toArray j = some t) (hb : look t S = some (.bool want)) (hy : Yields P n ds S gS LS ⟨some d, op, ty, pos, aft, some (j, want)⟩ v) (hf : Region.free .any l.toArray listed i = true) (hn : Region.noSelect l.toArray = true)
    (hd : Nat.blt d n = true) (hQ : ∀ c a w, Q (.panic c) (a.put (some d) v) w → Q (.panic c) a w) (hl : listed.setIfInBounds i true = ap) (kk : TB P l.toArray Q gS LS sk fuel ap n ds ((d, v) :: S) g L) : TB P l.toArray Q gS LS sk (fuel + 1) listed n ds S g L := .take_g i hr hi hg hb hy hf hn hd hQ hl kk
theorem TB.oneN {l : List Oper} (k : Nat) {i : Nat} {ap : Array Bool} (_hu : nthFree k listed = some i) (hi0 : nthO l i = some o) (hr : Region.ready .any l.toArray listed = [i]) (hl : listed.setIfInBounds i true = ap) (h : sinkA .any l.toArray sk = true → TL P l.toArray (AnyT P l.toArray Q gS LS sk fuel ap i) [o] n ds S g L) : TB P l.toArray Q gS LS sk (fuel + 1) listed n ds S g L := .one i hi0 hr hl h
end
end Go.TL
