/-
  Loops over iterators, further: one in a round of another, a function's end, drawn regions that call yield, loops that hold such loops. An entry in the middle. The edges of a ring, one by one; geom.Inside. A box that stays from its making on.
-/
import Derived.Test.YtfanccddokckcaaGreatDoorSt10
import Derived.Test.YtfanccddokckcaaGreatDoorSt2
import Derived.Test.YtfanccddokckcaaGreatDoorSt9
import Derived.Test.YtfanccddokckcaaGreatDoorSt1
namespace Go.TL
open Go Go.RowKit Go.Proofs.YtfanccddokckcaaGreatDoor
set_option maxRecDepth 100000
section
variable {P : Program} {Q : Exit → Act → World → Prop} {n : Nat} {ds : List Deferred} {S : Slots} {g : Gh} {L L0 L1 : List Ent} {f : Operand} {ps : Array Tmp} {assign body : Code} {gf : Nat} {lb : Array Value} {xs : List (Array Value)}
variable {α β : Type}
theorem TR.rangeF {r0 : Nat} {lr0 : Loop} (hr0 : Pick (.obj r0 (.loop lr0)) L L1) (hf : ev S f = some (.func (.func gf) #[] lb)) (hc : callable P gf = true) (it : Iter P gf lb xs g) (hx : ∀ x ∈ xs, x.size = ps.size) (hps : (ps.toList.all fun d => Nat.blt d n) = true)
    (p : Nat → α → Prop) (G : α → Gh) (A : α → List Ent) (q : Code → β → Prop) (Gx : β → Gh) (Ax : β → List Ent) (L0 : List Ent) (z0 : α) (h0 : p 0 z0) (hG : (G z0).le g) (hL : Sel (A z0 ++ L0) L)
    (hround : ∀ r rc i x z M g1, IsRec rc → xs[i]? = some x → p i z → (G z).le g1 → g.le g1 → TR P r (RA P r body (RB P r g1 (RR r rc p G A q Gx Ax i M))) assign n [] (rSlots ps x S) g1 (.obj r (.loop (rc .ready none)) :: (A z ++ M)))
    (hdone : ∀ z g1, p xs.length z → (G z).le g1 → g.le g1 → TQ Q .normal n ds S g1 (A z ++ L0))
    (hstop : ∀ c y g1, q c y → (Gx y).le g1 → g.le g1 → TR P r0 Q c n ds S g1 (Ax y ++ L0)) : TR P r0 Q (.rangeFunc f ps assign body) n ds S g L := .mk fun a w hfr hs0 => by
  refine wpIn_rangeFunc ?_
  intro fn _
  obtain ⟨rc, hrc⟩ : ∃ rc : LoopState → Option Code → Loop, rc = fun st pe => { state := st, pending := pe, fn, tmps := a.tmps, params := ps, assign, body, defers := lr0.defers } := ⟨_, rfl⟩
  have hR : IsRec rc := by subst hrc; exact ⟨fun _ _ => rfl, fun _ _ _ => rfl, fun _ _ _ _ => rfl⟩
  have hl0 := (hs0.perm hr0.perm).at
  have hs := hs0.sel hL
  have hs2 := hs.alloc (.loop (rc .ready none))
  generalize hD : w.heap.size = D at hs2
  obtain ⟨W1, hW1⟩ : ∃ W1, w.alloc (.loop (rc .ready none)) = W1 := ⟨_, rfl⟩
  have hs3 : St g ((.obj D (.loop (rc .ready none)) :: A z0) ++ L0) W1 := by rw [← hW1]; exact hs2
  have hfr0 : Fr n [] S { tmps := a.tmps, defers := [] } := ⟨hfr.size, rfl, hfr.sl⟩
  have hps' : ∀ d ∈ ps.toList, d < n := fun d hd => by
    have := List.all_eq_true.1 hps d hd
    exact Nat.le_of_ble_eq_true this
  have C := it.h D (fun i g1 L1 => g.le g1 ∧ ∃ z, p i z ∧ (G z).le g1 ∧ L1 = .obj D (.loop (rc .ready none)) :: A z) (fun g2 L2 => g.le g2 ∧ ∃ c y, q c y ∧ (Gx y).le g2 ∧ L2 = .obj D (.loop (rc .done (some c))) :: Ax y)
    (fun i g1 g2 L1 ⟨hl, z, hz, hzg, hL1⟩ h => ⟨hl.trans h, z, hz, hzg.trans h, hL1⟩)
    (fun g1 g2 L1 ⟨hl, c, y, hy, hyg, hL1⟩ h => ⟨hl.trans h, c, y, hy, hyg.trans h, hL1⟩)
    (fun i x g1 L1 M hxi hg1 hI => by
      obtain ⟨hl, z, hz, hzg, rfl⟩ := hI
      have Y := round_yld (t := a.tmps) (by subst hrc; intros; rfl) (by subst hrc; intros; rfl) (by subst hrc; intros; rfl) (by subst hrc; intros; rfl) (hx x (List.mem_of_getElem? hxi)) hps' hfr0 (hround D rc i x z M g1 hR hxi hz hzg hg1)
      refine ⟨fun w hs => ?_⟩
      obtain ⟨fn, tmps, a, b, h2, h3⟩ := Y.h w hs
      refine ⟨fn, tmps, a, b, h2, RoundIn.mono h3 ?_⟩
      rintro e w' ⟨bb, g3, L3, he, hle3, ⟨L4, hL4, hm⟩, hs'⟩
      refine ⟨bb, g3, L3, he, hle3, ⟨L4, hL4, ?_⟩, hs'⟩
      cases bb with
      | true => exact ⟨hg1.trans hle3, hm⟩
      | false => exact ⟨hg1.trans hle3, hm⟩)
    g _ L0 (.refl g) ⟨.refl g, z0, h0, hG, rfl⟩
  refine ⟨D, [], W1, { target := .fn (.func gf) lb, args := #[.func (.yield D) #[] #[]] }, W1, gf, #[.func (.yield D) #[] #[]] ++ lb, W1, ?_, ?_, fun _ _ => trivial, ?_, fun h => (by cases h), ?_⟩
  · subst hD
    rw [← hW1, hrc]
    exact run_enterLoop_inner (P := P) (w := w) hl0 fn a.tmps ps assign body
  · simp only [resolve, hfr.ev hf]
    simp [go_sem]
  · simp [invoke, callFunc_run hc]
  · refine calls_in ((C.h W1 hs3).mono ?_)
    rintro e w2 ⟨g2, L2, hg2, ⟨v, L3, rfl, rfl, hm⟩, hs4⟩
    rcases hm with ⟨hlg, z, hz, hzg, rfl⟩ | ⟨hlg, c, y, hy, hyg, rfl⟩
    · have h1 := run_endLoop (P := P) hs4.at (by rw [hR.state]; simp)
      refine ⟨none, _, by subst hrc; exact h1, ?_⟩
      refine (hdone z g2 hz hzg hlg).h _ _ ⟨hfr.size, by simp [hfr.defers], hfr.sl⟩ ?_
      exact (hs4.putObj _).tail
    · have h1 := run_endLoop (P := P) hs4.at (by rw [hR.state]; simp)
      refine ⟨some c, _, by subst hrc; exact h1, ?_⟩
      refine (hstop c y g2 hy hyg hlg).h _ _ ⟨hfr.size, by simp [hfr.defers], hfr.sl⟩ ?_
      exact (hs4.putObj _).tail
end
/-! ### The end of a function that held such loops -/
def EndM (P : Program) (fn : Func) (R : Ending → Gh → List Ent → Prop) (g : Gh) : Exit → Act → World → Prop := bodyPostM Fence.wide 0 P fn fun e w' => ∃ g' L', g.le g' ∧ R e g' L' ∧ St g' L' w'
def marks (Ds : List Nat) : List Deferred := Ds.map fun D => ⟨.collected D, #[]⟩
def markE (Ds : List Nat) : List Ent := Ds.map fun D => .obj D (.deferred (some []))
section
variable {P : Program} {Q : Exit → Act → World → Prop} {n : Nat} {ds : List Deferred} {S : Slots} {g g0 : Gh} {L L' : List Ent} {f : FuncId} {fn : Func} {R : Ending → Gh → List Ent → Prop} {cd : Code}
theorem Does.ofM {vs : List Value} (hf : P.funcs[f]? = some fn) (hb : fn.body = some cd) (hn : fn.ntmps = n) (hle : Nat.ble vs.length n = true)
    (h : TC P (EndM P fn R g) cd n [] (argSlots 0 vs) g L) : Does P f vs.toArray g L R := .mk fun w hs => by
  refine (callsIn_wide (n := 0)).1 (callsIn_of_wp_marks hf hb trivial ((wpIn_wide (n := 0)).2 (h.h _ w ⟨?_, rfl, fun i v hv => ?_⟩ hs)) rfl)
  · have := Nat.le_of_ble_eq_true hle
    simp [hn]; omega
  · obtain ⟨_, h2⟩ := look_argSlots vs 0 i v hv
    simp only [Nat.sub_zero] at h2
    obtain ⟨hlt, e⟩ := List.getElem?_eq_some_iff.1 h2
    simpa [Array.getD_eq_getD_getElem?, Array.getElem?_append, hlt] using e
theorem Does.ofM2 {v0 v1 : Value} (hf : P.funcs[f]? = some fn) (hb : fn.body = some cd) (hn : fn.ntmps = n) (hle : Nat.ble 2 n = true)
    (h : TC P (EndM P fn R g) cd n [] [(0, v0), (1, v1)] g L) : Does P f #[v0, v1] g L R := Does.ofM (vs := [v0, v1]) hf hb hn hle h
theorem Does.ofM3 {v0 v1 v2 : Value} (hf : P.funcs[f]? = some fn) (hb : fn.body = some cd) (hn : fn.ntmps = n) (hle : Nat.ble 3 n = true)
    (h : TC P (EndM P fn R g) cd n [] [(0, v0), (1, v1), (2, v2)] g L) : Does P f #[v0, v1, v2] g L R := Does.ofM (vs := [v0, v1, v2]) hf hb hn hle h
theorem marks_leave {a : Act} : ∀ (Ds : List Nat) {w : World}, St g (markE Ds ++ L') w → (∀ w', St g L' w' → LeavesInM Fence.wide 0 P fn a.tmps (fun e w' => ∃ g' L', g0.le g' ∧ R e g' L' ∧ St g' L' w') [] .returning w') →
    LeavesInM Fence.wide 0 P fn a.tmps (fun e w' => ∃ g' L', g0.le g' ∧ R e g' L' ∧ St g' L' w') (marks Ds) .returning w
  | [], w, hs, h => h w hs
  | D :: Ds, w, hs, h => by
    have hs : St g (.obj D (.deferred (some [])) :: (markE Ds ++ L')) w := hs
    exact ⟨by simp, .inl ⟨D, _, rfl, run_takeDeferred hs.at, marks_leave Ds (hs.putObj _).tail h⟩⟩
theorem TQ.endM (Ds : List Nat) (hd : ds = marks Ds) (hL : Sel (markE Ds ++ L') L) (h : TQ (End P fn R g0) .ret n [] S g L') : TQ (EndM P fn R g0) .ret n ds S g L := .mk fun a w hf hs => by
  show LeavesInM Fence.wide 0 P fn a.tmps _ a.defers .returning w
  rw [hf.defers, hd]
  refine marks_leave Ds (hs.sel hL) (fun w' hs' => ?_)
  have := h.h { a with defers := [] } w' ⟨hf.size, rfl, hf.sl⟩ hs'
  exact this.2
theorem TQ.endM_normal (h : TQ (EndM P fn R g0) .ret n ds S g L) : TQ (EndM P fn R g0) .normal n ds S g L := ⟨h.h⟩
def RoundD (n : Nat) {α : Type} (p : α → Prop) (m : α → Nat) (dd : α → List Deferred) (S : α → Slots) (G : α → Gh) (L : α → List Ent) (x : α) (Q : Exit → Act → World → Prop) : Exit → Act → World → Prop
  | .normal, a, w => ∃ x', p x' ∧ m x' < m x ∧ Fr n (dd x') (S x') a ∧ St (G x') (L x') w
  | e, a, w => Q e a w
instance {α : Type} {p : α → Prop} {m : α → Nat} {dd : α → List Deferred} {S : α → Slots} {G : α → Gh} {L : α → List Ent} {x : α} {Q : Exit → Act → World → Prop} : Down (RoundD n p m dd S G L x Q) .ret Q .ret := ⟨fun _ _ h => h⟩
instance {α : Type} {p : α → Prop} {m : α → Nat} {dd : α → List Deferred} {S : α → Slots} {G : α → Gh} {L : α → List Ent} {x : α} {Q : Exit → Act → World → Prop} {id : Nat} : Down (RoundD n p m dd S G L x Q) (.exit id) Q (.exit id) := ⟨fun _ _ h => h⟩
instance {α : Type} {p : α → Prop} {m : α → Nat} {dd : α → List Deferred} {S : α → Slots} {G : α → Gh} {L : α → List Ent} {x : α} {Q : Exit → Act → World → Prop} [h : NL Q] : NL (RoundD n p m dd S G L x Q) := ⟨fun ⟨a, w, k⟩ => h.h ⟨a, w, k⟩⟩
instance {α : Type} {p : α → Prop} {m : α → Nat} {S : α → Slots} {G : α → Gh} {L : α → List Ent} {x : α} {Q : Exit → Act → World → Prop} [h : NL Q] : NL (Round n ds p m S G L x Q) := ⟨fun ⟨a, w, k⟩ => h.h ⟨a, w, k⟩⟩
theorem TQ.roundD {α : Type} {p : α → Prop} {m : α → Nat} {dd : α → List Deferred} {S' : α → Slots} {G : α → Gh} {L' : α → List Ent} {x : α} (x' : α) (hp : p x') (hm : m x' < m x) (hd : dd x' = ds) (hG : G x' = g) (hS : Sub (S' x') S) (hL : Sel (L' x') L) : TQ (RoundD n p m dd S' G L' x Q) .normal n ds S g L := .mk fun a w hf hs =>
  ⟨x', hp, hm, by rw [hd]; exact hf.sub hS, by rw [hG]; exact hs.sel hL⟩
theorem TC.loopD {α : Type} (p : α → Prop) (m : α → Nat) (dd : α → List Deferred) (S' : α → Slots) (G : α → Gh) (L' : α → List Ent) {c : Code} (x0 : α) (h0 : p x0) (hd : dd x0 = ds) (hG : G x0 = g) (hS : Sub (S' x0) S) (hL : Sel (L' x0) L)
    (h : ∀ x, p x → TC P (RoundD n p m dd S' G L' x Q) c n (dd x) (S' x) (G x) (L' x)) : TC P Q (.loop c) n ds S g L := by
  refine .mk fun a w hf hs => ?_
  have hs0 : St (G x0) (L' x0) w := by rw [hG]; exact hs.sel hL
  have hf0 : Fr n (dd x0) (S' x0) a := by rw [hd]; exact hf.sub hS
  clear hf hs
  have key : ∀ k x, m x = k → p x → ∀ a w, Fr n (dd x) (S' x) a → St (G x) (L' x) w → ∀ (b : Frame) (ks : List Item) (cs : List Frame),
      ∃ e a' w', Q e a' w' ∧ Arrives P (lone (b.at a (.code c :: .inLoop c :: ks)) cs w) b ks cs e a' w' := by
    intro k
    induction k using Nat.strongRecOn with
    | _ k ih =>
      intro x hk hp a w hf hs b ks cs
      obtain ⟨e, a₁, w₁, hq, harr⟩ := (h x hp).h a w hf hs b (.inLoop c :: ks) cs
      cases e with
      | normal =>
        obtain ⟨x', hp', hlt, hf', hs'⟩ := hq
        obtain ⟨e₂, a₂, w₂, hq₂, harr₂⟩ := ih (m x') (hk ▸ hlt) x' rfl hp' a₁ w₁ hf' hs' b ks cs
        exact ⟨e₂, a₂, w₂, hq₂, .of_steps (Steps.trans harr (.one step_inLoop)) harr₂⟩
      | exit id => exact ⟨_, a₁, w₁, hq, .pass (x := .inLoop c) rfl (fun _ _ => .inl (by simp)) harr⟩
      | goto l => exact ⟨_, a₁, w₁, hq, .pass (x := .inLoop c) rfl (fun _ _ => .inl (by simp)) harr⟩
      | ret => exact ⟨_, a₁, w₁, hq, .pass (x := .inLoop c) rfl (fun _ _ => .inl (by simp)) harr⟩
      | panic ch => exact ⟨_, a₁, w₁, hq, .pass (x := .inLoop c) rfl (fun _ _ => .inl (by simp)) harr⟩
      | outgrown => exact ⟨_, a₁, w₁, hq, .pass (x := .inLoop c) rfl (fun _ _ => .inl (by simp)) harr⟩
  intro b ks cs
  obtain ⟨e, a', w', hq, harr⟩ := key _ x0 rfl h0 a w hf0 hs0 b ks cs
  exact ⟨e, a', w', hq, .of_steps (.one step_loop) harr⟩
end
/-! ### A drawn region whose last operations call yield -/
section
variable {P : Program} {ops : Array Oper} {md : Region.Mode} {C : World → Prop} {r : Option Nat}
theorem anyIn_of_seq {F : Fence} {Q' : Exit → Act → World → Prop} : ∀ (l : List Oper) (k : Nat) (listed : Array Bool) (a : Act) (w : World), (∀ j, l[j]? = ops[k + j]?) →
    Region.seqB md ops l.length k listed = true → wpListIn F 0 P ops Q' l a w → wpAnyIn F 0 P md ops Q' l.length listed a w
  | [], _, _, _, _, _, hB, h => ⟨by simpa [Region.seqB] using hB, h⟩
  | o :: l, k, listed, a, w, hl, hB, h => by
    have h0 : ops[k]? = some o := by simpa using (hl 0).symm
    simp only [List.length_cons, Region.seqB, Bool.and_eq_true, decide_eq_true_eq] at hB
    refine ⟨fun h1 => (by rw [hB.1] at h1; cases h1), fun i hi => ?_⟩
    rw [hB.1] at hi
    have hik : i = k := by simpa using hi
    subst hik
    have hw : wpOpIn F 0 P ops Q' i (wpListIn F 0 P ops Q' l) a w := by unfold wpOpIn; simp only [h0]; exact h
    exact wpOpIn_mono (fun a' w' h' => anyIn_of_seq l (i + 1) _ a' w' (fun j => by have := hl (j + 1); simpa [Nat.add_assoc, Nat.add_comm 1 j] using this) hB.2 h') hw
theorem anyIn_of_headQ {Q' : Exit → Act → World → Prop} [NL Q'] {n m : Nat} {K : Array Bool → Act → Prop} (hd : ∀ i o, i < n → ops[i]? = some o → isDefer o.op = false) (hK : ∀ listed a w, C w → K listed a → wpAnyIn (wideR r) 0 P md ops Q' m listed a w) :
    ∀ (f : Nat) (listed : Array Bool) (a : Act) (w : World), C w → wpHeadQ P md ops C n K f listed a → wpAnyIn (wideR r) 0 P md ops Q' (f + m) listed a w
  | 0, listed, a, w, hw, h => by rw [Nat.zero_add]; exact hK _ _ _ hw h
  | f + 1, listed, a, w, hw, h => by
    rw [show f + 1 + m = (f + m) + 1 by omega]
    refine ⟨fun h0 => absurd h0 h.1, fun i hi => ?_⟩
    have h2 := wpOp_of_qOp (Q' := Q') (K' := fun a' w' => wpAnyIn (wideR r) 0 P md ops Q' (f + m) (listed.setIfInBounds i true) a' w') hw (fun a' w' hw' h' => anyIn_of_headQ hd hK f _ a' w' hw' h') (h.2 i hi).2
    unfold wpOp at h2
    unfold wpOpIn
    cases ho : ops[i]? with
    | none => rw [ho] at h2; exact h2
    | some o =>
      rw [ho] at h2
      dsimp only at h2 ⊢
      split
      · rename_i hw
        rw [if_pos hw] at h2
        rcases h2 with h2 | h2
        · exact oper_in (hd i o (h.2 i hi).1 ho) h2
        · exact absurd h2.2 NL.h
      · rename_i hw
        rw [if_neg hw] at h2
        exact ⟨fun _ _ => trivial, h2⟩
theorem any_tailY {Q : Exit → Act → World → Prop} [NL Q] {a : Act} {w : World} {l : List Oper} (n : Nat) (hB : Region.lexTailB .any l.toArray n = true) (hd : ((l.take n).all fun o => !isDefer o.op) = true) (hC : C w)
    (h : wpQuiet P l.toArray C (fun a' => ∀ w', C w' → wpListIn (wideR r) 0 P l.toArray Q (l.drop n) a' w') (l.take n) a) : wpAnyIn (wideR r) 0 P .any l.toArray Q l.toArray.size (Array.replicate l.toArray.size false) a w := by
  simp only [Region.lexTailB, Bool.and_eq_true, decide_eq_true_eq] at hB
  obtain ⟨⟨⟨⟨hsel, hn⟩, hs⟩, hc⟩, hlex⟩ := hB
  have hn' : n < l.length := by simpa using hn
  have htl : (l.take n).length = n := by simp; omega
  have hdl : (l.drop n).length = l.toArray.size - n := by simp
  have inv0 : HeadInv .any l.toArray n (Array.replicate l.toArray.size false) :=
    ⟨by simp, fun j oj _ hl => (by rw [getD_replicate_false] at hl; cases hl), fun t _ ht => getD_in (by simpa using ht) (getD_replicate_false _ _)⟩
  have H := wpHeadQ_lex (C := C) (md := .any) (m := l.toArray.size - n) hsel hs hc hn (l.take n) 0 _ a (fun j hj => by
    have hj' : j < n := by rw [htl] at hj; exact hj
    simp [hj']) (by simpa using htl) inv0 (by rw [htl]; exact hlex) h
  have := anyIn_of_headQ (r := r) (Q' := Q) (m := l.toArray.size - n) (fun i o hi ho => by
    have hi2 : (l.take n)[i]? = some o := by rw [List.getElem?_take, if_pos hi]; simpa using ho
    have := List.all_eq_true.1 hd o (List.mem_of_getElem? hi2)
    simpa using this) (fun listed a' w' hw' hL => by
    have := anyIn_of_seq (F := wideR r) (md := .any) (Q' := Q) (l.drop n) n listed a' w' (fun j => by simp [List.getElem?_drop]) (by rw [hdl]; exact hL.1) (hL.2 _ hw')
    rwa [hdl] at this) _ _ _ _ hC H
  rw [htl, show n + (l.toArray.size - n) = l.toArray.size by omega] at this
  exact this
end
section
variable {P : Program} {Q : Exit → Act → World → Prop} [NL Q] {n : Nat} {ds : List Deferred} {S : Slots} {g : Gh} {L : List Ent} {id : Nat} {l : List Oper}
theorem TC.region_tailY (m : Nat) (hm : P.follows .mixedOrders = true) (hB : Region.lexTailB .any l.toArray m = true) (hd : ((l.take m).all fun o => !isDefer o.op) = true)
    (h : TW P l.toArray (YQ P none l.toArray Q (l.drop m)) (l.take m) n ds S g L) : TC P Q (.region id l.toArray true) n ds S g L := .mk fun a _w hf hs =>
  (wpIn_wide (n := 0)).1 (wpIn_region_any hm (any_tailY (r := none) (C := St g L) m hB hd hs.drew (h.h a hf)))
theorem TR.region_tailY {t : Nat} (m : Nat) (hm : P.follows .mixedOrders = true) (hB : Region.lexTailB .any l.toArray m = true) (hd : ((l.take m).all fun o => !isDefer o.op) = true)
    (h : TW P l.toArray (YQ P (some t) l.toArray Q (l.drop m)) (l.take m) n ds S g L) : TR P t Q (.region id l.toArray true) n ds S g L := .mk fun a _w hf hs =>
  wpIn_region_any hm (any_tailY (r := some t) (C := St g L) m hB hd hs.drew (h.h a hf))
end
end Go.TL
namespace Go.Proofs.YtfanccddokckcaaGreatDoor
open Go.RowKit Go.TL
theorem midPerm (e : Ent) (A M : List Ent) : (A ++ (e :: M)).Perm (e :: (A ++ M)) := List.perm_middle
theorem midSel (e : Ent) : ∀ (A M : List Ent), Sel (A ++ M) (A ++ (e :: M))
  | [], _ => .drop .refl
  | _ :: A, M => .cons .here (midSel e A M)
end Go.Proofs.YtfanccddokckcaaGreatDoor
namespace Go.Proofs.YtfanccddokckcaaGreatDoor
open Go.RowKit Go.TL
set_option maxRecDepth 100000

def ringE (l : List Pt) : List (Pt × Pt) := l.zip (l.drop 1 ++ l.take 1)
theorem ringE_len (l : List Pt) : (ringE l).length = l.length := by
  cases l with
  | nil => rfl
  | cons a t => simp [ringE]
theorem ringE_get {l : List Pt} {i : Nat} {a b : Pt} (ha : l[i]? = some a) (hb : l[(i + 1) % l.length]? = some b) : (ringE l)[i]? = some (a, b) := by
  have hi := (List.getElem?_eq_some_iff.1 ha).1
  unfold ringE
  rw [List.getElem?_zip_eq_some]
  refine ⟨ha, ?_⟩
  by_cases h : i + 1 < l.length
  · rw [Nat.mod_eq_of_lt h] at hb
    rw [List.getElem?_append_left (by rw [List.length_drop]; omega), List.getElem?_drop, Nat.add_comm]
    exact hb
  · have he : i + 1 = l.length := by omega
    rw [he, Nat.mod_self] at hb
    rw [List.getElem?_append_right (by rw [List.length_drop]; omega), List.length_drop, show i - (l.length - 1) = 0 by omega]
    cases l with
    | nil => simp at hi
    | cons x t => simpa using hb
set_option maxHeartbeats 8000000 in
theorem gedges_iter (l : List Pt) (v : Value) (g : Gh) (b : Nat) (hS : Sl g v l.length 2 (flatP l)) (hb : g.cell b 0 = some v) (_hl : l.length ≤ 1000000) : Iter Tryz.prog 129 #[.pointer (some ⟨b, 0, none⟩)] ((ringE l).map fun e => #[pt e.1, pt e.2]) g := by
  refine ⟨fun r I X hM hX hY g1 L1 M hg h0 => ?_⟩
  show Does _ _ #[.func (.yield r) #[] #[], .pointer (some ⟨b, 0, none⟩)] _ _ _
  rw [List.length_map, ringE_len]
  refine Does.of2 Tryz.func129 rfl Tryz.ntmps129 rfl ?_
  haveI NE : NL (Go.TL.End Tryz.prog Tryz.f129 (fun e g2 L2 => ∃ v L3, e = .returned v ∧ L2 = L3 ++ M ∧ (I l.length g2 L3 ∨ X g2 L3)) g1) := ⟨by rintro ⟨a, w, g', L', _, ⟨v, L3, h, _⟩, _⟩; cases h⟩
  obtain ⟨ao, cap, rfl⟩ := hS.slice
  have hS1 := hS.le hg
  have hb1 : g1.cell b 0 = some (.slice ao l.length cap) := hg.cell hb
  have hY1 : ∀ i x y g2 L2 M2, l[i]? = some x → l[(i + 1) % l.length]? = some y → g1.le g2 → I i g2 L2 → Yld Tryz.prog r #[pt x, pt y] g2 (L2 ++ M2) fun b g3 L3 => ∃ L4, L3 = L4 ++ M2 ∧ (match b with
      | true => I (i + 1) g3 L4
      | false => X g3 L4) := fun i x y g2 L2 M2 hx hy hg2 hI => hY i _ g2 L2 M2 (by rw [List.getElem?_map, ringE_get hx hy]; rfl) (hg.trans hg2) hI
  clear hb hS hY
  repeat' (first
    | refine wkQ ?_
    | refine wkV ?_
    | refine stS ?_ | (refine stB ?_; intro _) | (refine stC ?_; refine And.intro (fun _ => ?_) (fun _ => ?_)))
  refine TC.loop (α := Nat × Gh × List Ent) (fun z => z.1 ≤ l.length ∧ g1.le z.2.1 ∧ I z.1 z.2.1 z.2.2) (fun z => l.length - z.1) (fun z => [(7, .int .i64 (z.1 : Nat)), (6, .int .i64 (l.length : Nat)), (5, .slice ao l.length cap), (0, .func (.yield r) #[] #[]), (1, .pointer (some ⟨b, 0, none⟩))]) (fun z => z.2.1) (fun z => z.2.2 ++ M) (0, g1, L1) ⟨Nat.zero_le _, .refl _, h0⟩ rfl subA selA ?_
  rintro ⟨i, gi, Li⟩ ⟨hi, hgi, hI⟩
  dsimp only at hi hgi hI ⊢
  by_cases hlt : i < l.length
  · obtain ⟨p, hp⟩ : ∃ p, l[i]? = some p := ⟨_, List.getElem?_eq_getElem hlt⟩
    have hm : (i + 1) % l.length < l.length := Nat.mod_lt _ (by omega)
    obtain ⟨q, hq⟩ : ∃ q, l[(i + 1) % l.length]? = some q := ⟨_, List.getElem?_eq_getElem hm⟩
    have hYi := fun M2 => hY1 i p q gi Li M2 hp hq hgi hI
    have hSi := hS1.le hgi
    have hbi := hgi.cell hb1
    obtain ⟨b1, o1, rfl, hg1⟩ := hSi.elem hlt (by decide)
    obtain ⟨b2, o2, he2, hg2⟩ := hSi.elem hm (by decide)
    obtain ⟨rfl, rfl⟩ : b1 = b2 ∧ o1 = o2 := by simpa using he2
    have hld : ∀ j u, [Value.int .i64 p.1, .int .i64 p.2][j]? = some u → gi.cell b1 (o1 + i * 2 + j) = some u := fun j u hu => by
      match j, hu with
      | 0, hu => simp at hu; subst hu; exact hg1 0 _ (flatP_get hp).1
      | 1, hu => simp at hu; subst hu; exact hg1 1 _ (flatP_get hp).2
      | j + 2, hu => simp at hu
    obtain ⟨k, hk⟩ : ∃ k, k = (i + 1) % l.length := ⟨_, rfl⟩
    rw [← hk] at hg2 hm hq
    have hld2 : ∀ j u, [Value.int .i64 q.1, .int .i64 q.2][j]? = some u → gi.cell b1 (o1 + k * 2 + j) = some u := fun j u hu => by
      match j, hu with
      | 0, hu => simp at hu; subst hu; exact hg2 0 _ (flatP_get hq).1
      | 1, hu => simp at hu; subst hu; exact hg2 1 _ (flatP_get hq).2
      | j + 2, hu => simp at hu
    have hll : [Value.int .i64 p.1, .int .i64 p.2].length = 2 := rfl
    have hll2 : [Value.int .i64 q.1, .int .i64 q.2].length = 2 := rfl
    have HK := Hn.mk (show ((i : Nat) + 1 : Int).tmod (l.length : Nat) = (k : Nat) by rw [hk]; exact (Int.ofNat_tmod (i + 1) l.length).symm)
    have hl0 : ¬ ((l.length : Nat) : Int) = 0 := by omega
    clear hSi hg1 hg2 he2 hY1 hS1 hp hq hk
    repeat' (first
    | refine wkQ ?_
    | (refine TC.region_tailY 10 (by kernel_rfl) (by kernel_rfl) (by rfl) ?_; simp only [List.take_succ_cons, List.take_zero, List.drop_succ_cons, List.drop_zero])
    | ((with_reducible apply TL.pure (d := 19) (v := .int .i64 (k : Nat))); (· exact Y.rem rfl rfl hl0 HK.out); (· rfl)) | ((with_reducible apply TW.pure (d := 19) (v := .int .i64 (k : Nat))); (· exact Y.rem rfl rfl hl0 HK.out); (· rfl))
    | refine wkV ?_
    | refine stS ?_ | (refine stB ?_; intro _) | (refine stC ?_; refine And.intro (fun _ => ?_) (fun _ => ?_))
    | apply TC.region_draw (by kernel_rfl) (by kernel_rfl) | refine TW.nil ?_ | ((with_reducible apply TW.pure); (· exact yA); (· rfl)))
    refine TQ.then_Y (TY.call rfl rfl rfl ((hYi _).perm (midPerm _ _ _)) ?_)
    rintro bb g' L' hg' ⟨L4, rfl, hm4⟩
    cases bb with
    | true =>
      refine TY.fin rfl ?_
      repeat' (first
    | refine wkQ ?_
    | refine wkV ?_
    | refine stS ?_ | (refine stB ?_; intro _) | (refine stC ?_; refine And.intro (fun _ => ?_) (fun _ => ?_))
    | apply TC.region_draw (by kernel_rfl) (by kernel_rfl) | refine TW.nil ?_ | ((with_reducible apply TW.pure); (· exact yA); (· rfl)))
      refine TQ.round (i + 1, g', L4) ?_ ?_ rfl subA (midSel _ _ _)
      · exact ⟨by omega, hgi.trans hg', hm4⟩
      · show l.length - (i + 1) < l.length - i
        omega
    | false =>
      refine TY.fin rfl ?_
      repeat' (first
    | refine wkQ ?_
    | refine wkV ?_
    | refine stS ?_ | (refine stB ?_; intro _) | (refine stC ?_; refine And.intro (fun _ => ?_) (fun _ => ?_))
    | apply TC.region_draw (by kernel_rfl) (by kernel_rfl) | refine TW.nil ?_ | ((with_reducible apply TW.pure); (· exact yA); (· rfl)))
      refine TQ.endR0 (L' := L4 ++ M) Tryz.results129 rfl (hgi.trans hg') ?_ (midSel _ _ _)
      exact ⟨_, L4, rfl, rfl, .inr hm4⟩
  · obtain rfl : i = l.length := by omega
    clear hS1 hY1
    repeat' (first
    | refine wkQ ?_
    | refine wkV ?_
    | refine stS ?_ | (refine stB ?_; intro _) | (refine stC ?_; refine And.intro (fun _ => ?_) (fun _ => ?_))
    | apply TC.region_draw (by kernel_rfl) (by kernel_rfl) | refine TW.nil ?_ | ((with_reducible apply TW.pure); (· exact yA); (· rfl)))
    refine TQ.end_normal (TQ.endR0 (L' := Li ++ M) Tryz.results129 rfl hgi ?_ .refl)
    exact ⟨_, Li, rfl, rfl, .inl hI⟩
end Go.Proofs.YtfanccddokckcaaGreatDoor
namespace Go.TL
open Go Go.RowKit Go.Proofs.YtfanccddokckcaaGreatDoor
section
variable {P : Program} {ops : Array Oper} {Q : Exit → Act → World → Prop} {rest : List Oper} {n : Nat} {ds : List Deferred} {S : Slots} {g : Gh} {L L' : List Ent} {d b : Nat} {t ty : TypeId} {pos : String} {aft : Array Edge} {x : Operand} {v : Value} {vs : List Value}
theorem sl_cells {k : Nat} (h : Sl g (.slice (some ⟨b, 0, none⟩) k k) k 1 vs) : ∀ (j : Nat) u, vs[j]? = some u → g.cell b j = some u := fun j u hu => by
  obtain ⟨ao, cap, h1, _, h2⟩ := h.form
  obtain ⟨b', off, h3, h4⟩ := h2 j u hu
  simp only [Value.slice.injEq] at h1
  rw [← h1.1] at h3
  simp only [Option.some.injEq, Addr.mk.injEq] at h3
  obtain ⟨rfl, rfl, _⟩ := h3
  rwa [Nat.zero_add] at h4
theorem TL.keep_obj (hm : Pick (.obj b (.cells vs.toArray t (0, 0))) L L') (hk : vs.length ≤ maxLen) (kk : ∀ g', g.le g' → (∀ (j : Nat) u, vs[j]? = some u → g'.cell b j = some u) → TL P ops Q rest n ds S g' L') : TL P ops Q rest n ds S g L :=
  TL.freeze_obj b 1 hm (k := vs.length) (by omega) hk fun g' hg hs => kk g' hg (sl_cells hs)
theorem TL.box_keep (hx : ev S x = some v) (hv : v.cells = vs.toArray) (hd : Nat.blt d n = true) (hk : vs.length ≤ maxLen) (kk : ∀ b g', g.le g' → (∀ (j : Nat) u, vs[j]? = some u → g'.cell b j = some u) → TL P ops Q rest n ds ((d, .pointer (some ⟨b, 0, none⟩)) :: S) g' L) : TL P ops Q (⟨some d, .box t x, ty, pos, aft, none⟩ :: rest) n ds S g L :=
  TL.box hx hv hd fun b => TL.keep_obj .here hk fun g' hg hc => kk b g' hg hc
end
end Go.TL
