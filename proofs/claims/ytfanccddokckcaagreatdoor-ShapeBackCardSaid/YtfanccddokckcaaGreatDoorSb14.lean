/-
  Loops over iterators, further: one in a round of another, a function's end, drawn regions that call yield, loops that hold such loops.
-/
import Derived.Test.YtfanccddokckcaaGreatDoorSb13
namespace Go.TL
open Go Go.RowKit Go.Proofs.YtfanccddokckcaaGreatDoor
set_option maxRecDepth 100000
section
variable {P : Program} {Q : Exit → Act → World → Prop} {n : Nat} {ds : List Deferred} {S : Slots} {g : Gh} {L L0 L1 : List Ent} {f : Operand} {ps : Array Tmp} {assign body : Code} {gf : Nat} {lb : Array Value} {xs : List (Array Value)}
variable {α β : Type}
theorem TR.rangeF {r0 : Nat} {lr0 : Loop} (hr0 : Pick (.obj r0 (.loop lr0)) L L1) (hf : ev S f = some (.func (.func gf) #[] lb)) (hc : callable P gf = true) (it : Iter P gf lb xs g) (hx : ∀ x ∈ xs, x.size = ps.size) (hps : (ps.toList.all fun d => Nat.blt d n) = true)
    (p : Nat → α → Prop) (G : α → Gh) (A : α → List Ent) (q : Code → β → Prop) (Gx : β → Gh) (Ax : β → List Ent) (L0 : List Ent) (z0 : α) (h0 : p 0 z0) (hG : (G z0).le g) (hL : Sel (A z0 ++ L0) L)
    (hround : ∀ r rc i x z M g1, IsRec rc → xs[i]? = some x → p i z → (G z).le g1 → g.le g1 → TR P r (RA P r body (RB P r g1 (RR r rc p G A q Gx Ax i M))) assign n [] (rSlots ps x S) g1 (.obj r (.loop (rc .ready none)) :: (A z ++ M)))
    (hdone : ∀ z g1, p xs.length z → (G z).le g1 → g.le g1 → TQ Q .normal n ds S g1 (A z ++ L0))
    (hstop : ∀ c y g1, q c y → (Gx y).le g1 → g.le g1 → TR P r0 Q c n ds S g1 (Ax y ++ L0)) : TR P r0 Q (.rangeFunc f ps assign body) n ds S g L := .mk fun a w hfr hs0 => by
  refine wpIn_rangeFunc ?_
  intro fn _
  obtain ⟨rc, hrc⟩ : ∃ rc : LoopState → Option Code → Loop, rc = fun st pe => { state := st, pending := pe, fn, tmps := a.tmps, params := ps, assign, body, defers := lr0.defers } := ⟨_, rfl⟩
  have hR : IsRec rc := by subst hrc; exact ⟨fun _ _ => rfl, fun _ _ _ => rfl, fun _ _ _ _ => rfl⟩
  have hl0 := (hs0.perm hr0.perm).at
  have hs := hs0.sel hL
  have hs2 := hs.alloc (.loop (rc .ready none))
  generalize hD : w.heap.size = D at hs2
  obtain ⟨W1, hW1⟩ : ∃ W1, w.alloc (.loop (rc .ready none)) = W1 := ⟨_, rfl⟩
  have hs3 : St g ((.obj D (.loop (rc .ready none)) :: A z0) ++ L0) W1 := by rw [← hW1]; exact hs2
  have hfr0 : Fr n [] S { tmps := a.tmps, defers := [] } := ⟨hfr.size, rfl, hfr.sl⟩
  have hps' : ∀ d ∈ ps.toList, d < n := fun d hd => by
    have := List.all_eq_true.1 hps d hd
    exact Nat.le_of_ble_eq_true this
  have C := it.h D (fun i g1 L1 => g.le g1 ∧ ∃ z, p i z ∧ (G z).le g1 ∧ L1 = .obj D (.loop (rc .ready none)) :: A z) (fun g2 L2 => g.le g2 ∧ ∃ c y, q c y ∧ (Gx y).le g2 ∧ L2 = .obj D (.loop (rc .done (some c))) :: Ax y)
    (fun i g1 g2 L1 ⟨hl, z, hz, hzg, hL1⟩ h => ⟨hl.trans h, z, hz, hzg.trans h, hL1⟩)
    (fun g1 g2 L1 ⟨hl, c, y, hy, hyg, hL1⟩ h => ⟨hl.trans h, c, y, hy, hyg.trans h, hL1⟩)
    (fun i x g1 L1 M hxi hg1 hI => by
      obtain ⟨hl, z, hz, hzg, rfl⟩ := hI
      have Y := round_yld (t := a.tmps) (by subst hrc; intros; rfl) (by subst hrc; intros; rfl) (by subst hrc; intros; rfl) (by subst hrc; intros; rfl) (hx x (List.mem_of_getElem? hxi)) hps' hfr0 (hround D rc i x z M g1 hR hxi hz hzg hg1)
      refine ⟨fun w hs => ?_⟩
      obtain ⟨fn, tmps, a, b, h2, h3⟩ := Y.h w hs
      refine ⟨fn, tmps, a, b, h2, RoundIn.mono h3 ?_⟩
      rintro e w' ⟨bb, g3, L3, he, hle3, ⟨L4, hL4, hm⟩, hs'⟩
      refine ⟨bb, g3, L3, he, hle3, ⟨L4, hL4, ?_⟩, hs'⟩
      cases bb with
      | true => exact ⟨hg1.trans hle3, hm⟩
      | false => exact ⟨hg1.trans hle3, hm⟩)
    g _ L0 (.refl g) ⟨.refl g, z0, h0, hG, rfl⟩
  refine ⟨D, [], W1, { target := .fn (.func gf) lb, args := #[.func (.yield D) #[] #[]] }, W1, gf, #[.func (.yield D) #[] #[]] ++ lb, W1, ?_, ?_, fun _ _ => trivial, ?_, fun h => (by cases h), ?_⟩
  · subst hD
    rw [← hW1, hrc]
    exact run_enterLoop_inner (P := P) (w := w) hl0 fn a.tmps ps assign body
  · simp only [resolve, hfr.ev hf]
    simp [go_sem]
  · simp [invoke, callFunc_run hc]
  · refine calls_in ((C.h W1 hs3).mono ?_)
    rintro e w2 ⟨g2, L2, hg2, ⟨v, L3, rfl, rfl, hm⟩, hs4⟩
    rcases hm with ⟨hlg, z, hz, hzg, rfl⟩ | ⟨hlg, c, y, hy, hyg, rfl⟩
    · have h1 := run_endLoop (P := P) hs4.at (by rw [hR.state]; simp)
      refine ⟨none, _, by subst hrc; exact h1, ?_⟩
      refine (hdone z g2 hz hzg hlg).h _ _ ⟨hfr.size, by simp [hfr.defers], hfr.sl⟩ ?_
      exact (hs4.putObj _).tail
    · have h1 := run_endLoop (P := P) hs4.at (by rw [hR.state]; simp)
      refine ⟨some c, _, by subst hrc; exact h1, ?_⟩
      refine (hstop c y g2 hy hyg hlg).h _ _ ⟨hfr.size, by simp [hfr.defers], hfr.sl⟩ ?_
      exact (hs4.putObj _).tail
end
/-! ### The end of a function that held such loops -/
def EndM (P : Program) (fn : Func) (R : Ending → Gh → List Ent → Prop) (g : Gh) : Exit → Act → World → Prop := bodyPostM Fence.wide 0 P fn fun e w' => ∃ g' L', g.le g' ∧ R e g' L' ∧ St g' L' w'
def marks (Ds : List Nat) : List Deferred := Ds.map fun D => ⟨.collected D, #[]⟩
def markE (Ds : List Nat) : List Ent := Ds.map fun D => .obj D (.deferred (some []))
section
variable {P : Program} {Q : Exit → Act → World → Prop} {n : Nat} {ds : List Deferred} {S : Slots} {g g0 : Gh} {L L' : List Ent} {f : FuncId} {fn : Func} {R : Ending → Gh → List Ent → Prop} {cd : Code}
theorem Does.ofM {vs : List Value} (hf : P.funcs[f]? = some fn) (hb : fn.body = some cd) (hn : fn.ntmps = n) (hle : Nat.ble vs.length n = true)
    (h : TC P (EndM P fn R g) cd n [] (argSlots 0 vs) g L) : Does P f vs.toArray g L R := .mk fun w hs => by
  refine (callsIn_wide (n := 0)).1 (callsIn_of_wp_marks hf hb trivial ((wpIn_wide (n := 0)).2 (h.h _ w ⟨?_, rfl, fun i v hv => ?_⟩ hs)) rfl)
  · have := Nat.le_of_ble_eq_true hle
    simp [hn]; omega
  · obtain ⟨_, h2⟩ := look_argSlots vs 0 i v hv
    simp only [Nat.sub_zero] at h2
    obtain ⟨hlt, e⟩ := List.getElem?_eq_some_iff.1 h2
    simpa [Array.getD_eq_getD_getElem?, Array.getElem?_append, hlt] using e
theorem Does.ofM2 {v0 v1 : Value} (hf : P.funcs[f]? = some fn) (hb : fn.body = some cd) (hn : fn.ntmps = n) (hle : Nat.ble 2 n = true)
    (h : TC P (EndM P fn R g) cd n [] [(0, v0), (1, v1)] g L) : Does P f #[v0, v1] g L R := Does.ofM (vs := [v0, v1]) hf hb hn hle h
theorem marks_leave {a : Act} : ∀ (Ds : List Nat) {w : World}, St g (markE Ds ++ L') w → (∀ w', St g L' w' → LeavesInM Fence.wide 0 P fn a.tmps (fun e w' => ∃ g' L', g0.le g' ∧ R e g' L' ∧ St g' L' w') [] .returning w') →
    LeavesInM Fence.wide 0 P fn a.tmps (fun e w' => ∃ g' L', g0.le g' ∧ R e g' L' ∧ St g' L' w') (marks Ds) .returning w
  | [], w, hs, h => h w hs
  | D :: Ds, w, hs, h => by
    have hs : St g (.obj D (.deferred (some [])) :: (markE Ds ++ L')) w := hs
    exact ⟨by simp, .inl ⟨D, _, rfl, run_takeDeferred hs.at, marks_leave Ds (hs.putObj _).tail h⟩⟩
theorem TQ.endM (Ds : List Nat) (hd : ds = marks Ds) (hL : Sel (markE Ds ++ L') L) (h : TQ (End P fn R g0) .ret n [] S g L') : TQ (EndM P fn R g0) .ret n ds S g L := .mk fun a w hf hs => by
  show LeavesInM Fence.wide 0 P fn a.tmps _ a.defers .returning w
  rw [hf.defers, hd]
  refine marks_leave Ds (hs.sel hL) (fun w' hs' => ?_)
  have := h.h { a with defers := [] } w' ⟨hf.size, rfl, hf.sl⟩ hs'
  exact this.2
theorem TQ.endM_normal (h : TQ (EndM P fn R g0) .ret n ds S g L) : TQ (EndM P fn R g0) .normal n ds S g L := ⟨h.h⟩
def RoundD (n : Nat) {α : Type} (p : α → Prop) (m : α → Nat) (dd : α → List Deferred) (S : α → Slots) (G : α → Gh) (L : α → List Ent) (x : α) (Q : Exit → Act → World → Prop) : Exit → Act → World → Prop
  | .normal, a, w => ∃ x', p x' ∧ m x' < m x ∧ Fr n (dd x') (S x') a ∧ St (G x') (L x') w
  | e, a, w => Q e a w
instance {α : Type} {p : α → Prop} {m : α → Nat} {dd : α → List Deferred} {S : α → Slots} {G : α → Gh} {L : α → List Ent} {x : α} {Q : Exit → Act → World → Prop} : Down (RoundD n p m dd S G L x Q) .ret Q .ret := ⟨fun _ _ h => h⟩
instance {α : Type} {p : α → Prop} {m : α → Nat} {dd : α → List Deferred} {S : α → Slots} {G : α → Gh} {L : α → List Ent} {x : α} {Q : Exit → Act → World → Prop} {id : Nat} : Down (RoundD n p m dd S G L x Q) (.exit id) Q (.exit id) := ⟨fun _ _ h => h⟩
instance {α : Type} {p : α → Prop} {m : α → Nat} {dd : α → List Deferred} {S : α → Slots} {G : α → Gh} {L : α → List Ent} {x : α} {Q : Exit → Act → World → Prop} [h : NL Q] : NL (RoundD n p m dd S G L x Q) := ⟨fun ⟨a, w, k⟩ => h.h ⟨a, w, k⟩⟩
instance {α : Type} {p : α → Prop} {m : α → Nat} {S : α → Slots} {G : α → Gh} {L : α → List Ent} {x : α} {Q : Exit → Act → World → Prop} [h : NL Q] : NL (Round n ds p m S G L x Q) := ⟨fun ⟨a, w, k⟩ => h.h ⟨a, w, k⟩⟩
theorem TQ.roundD {α : Type} {p : α → Prop} {m : α → Nat} {dd : α → List Deferred} {S' : α → Slots} {G : α → Gh} {L' : α → List Ent} {x : α} (x' : α) (hp : p x') (hm : m x' < m x) (hd : dd x' = ds) (hG : G x' = g) (hS : Sub (S' x') S) (hL : Sel (L' x') L) : TQ (RoundD n p m dd S' G L' x Q) .normal n ds S g L := .mk fun a w hf hs =>
  ⟨x', hp, hm, by rw [hd]; exact hf.sub hS, by rw [hG]; exact hs.sel hL⟩
theorem TC.loopD {α : Type} (p : α → Prop) (m : α → Nat) (dd : α → List Deferred) (S' : α → Slots) (G : α → Gh) (L' : α → List Ent) {c : Code} (x0 : α) (h0 : p x0) (hd : dd x0 = ds) (hG : G x0 = g) (hS : Sub (S' x0) S) (hL : Sel (L' x0) L)
    (h : ∀ x, p x → TC P (RoundD n p m dd S' G L' x Q) c n (dd x) (S' x) (G x) (L' x)) : TC P Q (.loop c) n ds S g L := by
  refine .mk fun a w hf hs => ?_
  have hs0 : St (G x0) (L' x0) w := by rw [hG]; exact hs.sel hL
  have hf0 : Fr n (dd x0) (S' x0) a := by rw [hd]; exact hf.sub hS
  clear hf hs
  have key : ∀ k x, m x = k → p x → ∀ a w, Fr n (dd x) (S' x) a → St (G x) (L' x) w → ∀ (b : Frame) (ks : List Item) (cs : List Frame),
      ∃ e a' w', Q e a' w' ∧ Arrives P (lone (b.at a (.code c :: .inLoop c :: ks)) cs w) b ks cs e a' w' := by
    intro k
    induction k using Nat.strongRecOn with
    | _ k ih =>
      intro x hk hp a w hf hs b ks cs
      obtain ⟨e, a₁, w₁, hq, harr⟩ := (h x hp).h a w hf hs b (.inLoop c :: ks) cs
      cases e with
      | normal =>
        obtain ⟨x', hp', hlt, hf', hs'⟩ := hq
        obtain ⟨e₂, a₂, w₂, hq₂, harr₂⟩ := ih (m x') (hk ▸ hlt) x' rfl hp' a₁ w₁ hf' hs' b ks cs
        exact ⟨e₂, a₂, w₂, hq₂, .of_steps (Steps.trans harr (.one step_inLoop)) harr₂⟩
      | exit id => exact ⟨_, a₁, w₁, hq, .pass (x := .inLoop c) rfl (fun _ _ => .inl (by simp)) harr⟩
      | goto l => exact ⟨_, a₁, w₁, hq, .pass (x := .inLoop c) rfl (fun _ _ => .inl (by simp)) harr⟩
      | ret => exact ⟨_, a₁, w₁, hq, .pass (x := .inLoop c) rfl (fun _ _ => .inl (by simp)) harr⟩
      | panic ch => exact ⟨_, a₁, w₁, hq, .pass (x := .inLoop c) rfl (fun _ _ => .inl (by simp)) harr⟩
      | outgrown => exact ⟨_, a₁, w₁, hq, .pass (x := .inLoop c) rfl (fun _ _ => .inl (by simp)) harr⟩
  intro b ks cs
  obtain ⟨e, a', w', hq, harr⟩ := key _ x0 rfl h0 a w hf0 hs0 b ks cs
  exact ⟨e, a', w', hq, .of_steps (.one step_loop) harr⟩
end
/-! ### A drawn region whose last operations call yield -/
section
variable {P : Program} {ops : Array Oper} {md : Region.Mode} {C : World → Prop} {r : Option Nat}
theorem anyIn_of_seq {F : Fence} {Q' : Exit → Act → World → Prop} : ∀ (l : List Oper) (k : Nat) (listed : Array Bool) (a : Act) (w : World), (∀ j, l[j]? = ops[k + j]?) →
    Region.seqB md ops l.length k listed = true → wpListIn F 0 P ops Q' l a w → wpAnyIn F 0 P md ops Q' l.length listed a w
  | [], _, _, _, _, _, hB, h => ⟨by simpa [Region.seqB] using hB, h⟩
  | o :: l, k, listed, a, w, hl, hB, h => by
    have h0 : ops[k]? = some o := by simpa using (hl 0).symm
    simp only [List.length_cons, Region.seqB, Bool.and_eq_true, decide_eq_true_eq] at hB
    refine ⟨fun h1 => (by rw [hB.1] at h1; cases h1), fun i hi => ?_⟩
    rw [hB.1] at hi
    have hik : i = k := by simpa using hi
    subst hik
    have hw : wpOpIn F 0 P ops Q' i (wpListIn F 0 P ops Q' l) a w := by unfold wpOpIn; simp only [h0]; exact h
    exact wpOpIn_mono (fun a' w' h' => anyIn_of_seq l (i + 1) _ a' w' (fun j => by have := hl (j + 1); simpa [Nat.add_assoc, Nat.add_comm 1 j] using this) hB.2 h') hw
theorem anyIn_of_headQ {Q' : Exit → Act → World → Prop} [NL Q'] {n m : Nat} {K : Array Bool → Act → Prop} (hd : ∀ i o, i < n → ops[i]? = some o → isDefer o.op = false) (hK : ∀ listed a w, C w → K listed a → wpAnyIn (wideR r) 0 P md ops Q' m listed a w) :
    ∀ (f : Nat) (listed : Array Bool) (a : Act) (w : World), C w → wpHeadQ P md ops C n K f listed a → wpAnyIn (wideR r) 0 P md ops Q' (f + m) listed a w
  | 0, listed, a, w, hw, h => by rw [Nat.zero_add]; exact hK _ _ _ hw h
  | f + 1, listed, a, w, hw, h => by
    rw [show f + 1 + m = (f + m) + 1 by omega]
    refine ⟨fun h0 => absurd h0 h.1, fun i hi => ?_⟩
    have h2 := wpOp_of_qOp (Q' := Q') (K' := fun a' w' => wpAnyIn (wideR r) 0 P md ops Q' (f + m) (listed.setIfInBounds i true) a' w') hw (fun a' w' hw' h' => anyIn_of_headQ hd hK f _ a' w' hw' h') (h.2 i hi).2
    unfold wpOp at h2
    unfold wpOpIn
    cases ho : ops[i]? with
    | none => rw [ho] at h2; exact h2
    | some o =>
      rw [ho] at h2
      dsimp only at h2 ⊢
      split
      · rename_i hw
        rw [if_pos hw] at h2
        rcases h2 with h2 | h2
        · exact oper_in (hd i o (h.2 i hi).1 ho) h2
        · exact absurd h2.2 NL.h
      · rename_i hw
        rw [if_neg hw] at h2
        exact ⟨fun _ _ => trivial, h2⟩
theorem any_tailY {Q : Exit → Act → World → Prop} [NL Q] {a : Act} {w : World} {l : List Oper} (n : Nat) (hB : Region.lexTailB .any l.toArray n = true) (hd : ((l.take n).all fun o => !isDefer o.op) = true) (hC : C w)
    (h : wpQuiet P l.toArray C (fun a' => ∀ w', C w' → wpListIn (wideR r) 0 P l.toArray Q (l.drop n) a' w') (l.take n) a) : wpAnyIn (wideR r) 0 P .any l.toArray Q l.toArray.size (Array.replicate l.toArray.size false) a w := by
  simp only [Region.lexTailB, Bool.and_eq_true, decide_eq_true_eq] at hB
  obtain ⟨⟨⟨⟨hsel, hn⟩, hs⟩, hc⟩, hlex⟩ := hB
  have hn' : n < l.length := by simpa using hn
  have htl : (l.take n).length = n := by simp; omega
  have hdl : (l.drop n).length = l.toArray.size - n := by simp
  have inv0 : HeadInv .any l.toArray n (Array.replicate l.toArray.size false) :=
    ⟨by simp, fun j oj _ hl => (by rw [getD_replicate_false] at hl; cases hl), fun t _ ht => getD_in (by simpa using ht) (getD_replicate_false _ _)⟩
  have H := wpHeadQ_lex (C := C) (md := .any) (m := l.toArray.size - n) hsel hs hc hn (l.take n) 0 _ a (fun j hj => by
    have hj' : j < n := by rw [htl] at hj; exact hj
    simp [hj']) (by simpa using htl) inv0 (by rw [htl]; exact hlex) h
  have := anyIn_of_headQ (r := r) (Q' := Q) (m := l.toArray.size - n) (fun i o hi ho => by
    have hi2 : (l.take n)[i]? = some o := by rw [List.getElem?_take, if_pos hi]; simpa using ho
    have := List.all_eq_true.1 hd o (List.mem_of_getElem? hi2)
    simpa using this) (fun listed a' w' hw' hL => by
    have := anyIn_of_seq (F := wideR r) (md := .any) (Q' := Q) (l.drop n) n listed a' w' (fun j => by simp [List.getElem?_drop]) (by rw [hdl]; exact hL.1) (hL.2 _ hw')
    rwa [hdl] at this) _ _ _ _ hC H
  rw [htl, show n + (l.toArray.size - n) = l.toArray.size by omega] at this
  exact this
end
section
variable {P : Program} {Q : Exit → Act → World → Prop} [NL Q] {n : Nat} {ds : List Deferred} {S : Slots} {g : Gh} {L : List Ent} {id : Nat} {l : List Oper}
theorem TC.region_tailY (m : Nat) (hm : P.follows .mixedOrders = true) (hB : Region.lexTailB .any l.toArray m = true) (hd : ((l.take m).all fun o => !isDefer o.op) = true)
    (h : TW P l.toArray (YQ P none l.toArray Q (l.drop m)) (l.take m) n ds S g L) : TC P Q (.region id l.toArray true) n ds S g L := .mk fun a _w hf hs =>
  (wpIn_wide (n := 0)).1 (wpIn_region_any hm (any_tailY (r := none) (C := St g L) m hB hd hs.drew (h.h a hf)))
theorem TR.region_tailY {t : Nat} (m : Nat) (hm : P.follows .mixedOrders = true) (hB : Region.lexTailB .any l.toArray m = true) (hd : ((l.take m).all fun o => !isDefer o.op) = true)
    (h : TW P l.toArray (YQ P (some t) l.toArray Q (l.drop m)) (l.take m) n ds S g L) : TR P t Q (.region id l.toArray true) n ds S g L := .mk fun a _w hf hs =>
  wpIn_region_any hm (any_tailY (r := some t) (C := St g L) m hB hd hs.drew (h.h a hf))
end
end Go.TL
