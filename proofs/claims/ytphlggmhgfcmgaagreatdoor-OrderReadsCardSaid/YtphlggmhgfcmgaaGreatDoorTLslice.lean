/-
  Slices of slices; entries taken apart; stores into rows.
-/
import Derived.Test.YtphlggmhgfcmgaaGreatDoorB1
namespace Go.TL
open Go Go.RowKit Go.Proofs.YtphlggmhgfcmgaaGreatDoor
theorem Y.slice_from {P : Program} {n : Nat} {ds : List Deferred} {S : Slots} {g : Gh} {L : List Ent} {dst : Option Nat} {ty : TypeId} {pos : String} {aft : Array Edge} {gd : Option (Nat × Bool)} {x lo : Operand} {t e : TypeId} {z : Value} {sz bytes b off off' len cap i : Nat} {k : IntKind} {p : Int} [ht : Und P t (.slice e)] [he : Inf P e sz bytes z] (hx : ev S x = some (.slice (some ⟨b, off, none⟩) len cap)) (hlo : ev S lo = some (.int k p)) (hp : p = i) (hi' : i ≤ len) (_hc : len ≤ cap) (ho : off' = if cap = i then off else off + i * sz) : Yields P n ds S g L ⟨dst, .slice t x (some lo) none none, ty, pos, aft, gd⟩ (.slice (some ⟨b, off', none⟩) (len - i) (cap - i)) := .mk fun a w hf _ => by
  subst hp
  obtain ⟨ii, hii, hs, _⟩ := he.eq
  have h1 : ¬ (i : Int) < 0 := by omega
  have h2 : (i : Int).toNat = i := by omega
  simp [execOp, Instr.sliceAt, Instr.slice, Instr.sliceBounds, Instr.sliceBound, hf.ev hx, hf.ev hlo, run_und ht.eq, asIntOf, hi', run_size hii, hs, add_eq]
  by_cases h : cap = i
  · rw [if_pos h, ho, if_pos h]
  · rw [if_neg h, ho, if_neg h]
section
variable {P : Program} {ops : Array Oper} {Q : Exit → Act → World → Prop} {l rest : List Oper} {n : Nat} {ds : List Deferred} {S : Slots} {g : Gh} {L L' L1 L2 L3 M M1 M2 M3 : List Ent} {w w' : World} {en : Ent}
variable {d : Nat} {ty : TypeId} {pos : String} {aft : Array Edge} {x y : Operand} {v u z : Value} {t e : TypeId} {sz bytes k m cap b off : Nat} {xs : List Value}
theorem St.guncons (h : St g (Go.TL.grp (en :: M) :: L) w) : St g (en :: Go.TL.grp M :: L) w := by
  have h1 := h.ungrp
  rw [List.cons_append] at h1
  exact ((h1.perm (L' := M ++ (en :: L)) List.perm_middle).grp).perm (List.Perm.swap _ _ _)
theorem TL.guncons (hm : Pick (Go.TL.grp (en :: M)) L L') (h : TL P ops Q l n ds S g (en :: Go.TL.grp M :: L')) : TL P ops Q l n ds S g L := .mk fun a w hf hs => h.h a w hf (hs.perm hm.perm).guncons
theorem TC.guncons {c : Code} (hm : Pick (Go.TL.grp (en :: M)) L L') (h : TC P Q c n ds S g (en :: Go.TL.grp M :: L')) : TC P Q c n ds S g L := .mk fun a w hf hs => h.h a w hf (hs.perm hm.perm).guncons
theorem TQ.guncons {c : Exit} (hm : Pick (Go.TL.grp (en :: M)) L L') (h : TQ Q c n ds S g (en :: Go.TL.grp M :: L')) : TQ Q c n ds S g L := .mk fun a w hf hs => h.h a w hf (hs.perm hm.perm).guncons
theorem TL.part3 (hm : Pick (Go.TL.grp (M1 ++ (M2 ++ M3))) L L') (h : TL P ops Q l n ds S g (Go.TL.grp M1 :: Go.TL.grp M2 :: Go.TL.grp M3 :: L')) : TL P ops Q l n ds S g L := .mk fun a w hf hs => h.h a w hf (hs.perm hm.perm).grp3
theorem TC.part3 {c : Code} (hm : Pick (Go.TL.grp (M1 ++ (M2 ++ M3))) L L') (h : TC P Q c n ds S g (Go.TL.grp M1 :: Go.TL.grp M2 :: Go.TL.grp M3 :: L')) : TC P Q c n ds S g L := .mk fun a w hf hs => h.h a w hf (hs.perm hm.perm).grp3
theorem TQ.unpart3 {c : Exit} (h1 : Pick (Go.TL.grp M1) L L1) (h2 : Pick (Go.TL.grp M2) L1 L2) (h3 : Pick (Go.TL.grp M3) L2 L3) (h : TQ Q c n ds S g (Go.TL.grp (M1 ++ (M2 ++ M3)) :: L3)) : TQ Q c n ds S g L := .mk fun a w hf hs =>
  h.h a w hf ((hs.perm ((((h3.perm.cons _).trans h2.perm).cons _).trans h1.perm)).ungrp3)
theorem TC.unpart3 {c : Code} (h1 : Pick (Go.TL.grp M1) L L1) (h2 : Pick (Go.TL.grp M2) L1 L2) (h3 : Pick (Go.TL.grp M3) L2 L3) (h : TC P Q c n ds S g (Go.TL.grp (M1 ++ (M2 ++ M3)) :: L3)) : TC P Q c n ds S g L := .mk fun a w hf hs =>
  h.h a w hf ((hs.perm ((((h3.perm.cons _).trans h2.perm).cons _).trans h1.perm)).ungrp3)
/-- A cell of a row is written. -/
theorem TL.store_row [Inf P t 1 bytes z] (hx : ev S x = some (.pointer (some ⟨b, off, none⟩))) (hy : ev S y = some u) (h1 : u.one = true) (hm : Pick (.row e sz (.slice (some ⟨b, 0, none⟩) k cap) k xs) L L') (ho : off < xs.length)
    (kk : TL P ops Q rest n ds S g (.row e sz (.slice (some ⟨b, 0, none⟩) k cap) k (xs.set off u) :: L')) : TL P ops Q (⟨none, .store t x y, ty, pos, aft, none⟩ :: rest) n ds S g L := .mk fun a w hf hs => by
  obtain ⟨cs, h2, h3, h4, h5, hs2⟩ := (hs.perm hm.perm).row_obj
  have hl : off < k * sz := by
    rw [← h2, List.length_take] at ho; omega
  refine (TL.storeK (L := .obj b (.cells cs.toArray e (0, 0)) :: L') (L' := L') hx hy h1 .here (by rw [h3]; exact Nat.lt_of_lt_of_le hl (Nat.mul_le_mul_right _ h4)) (.mk fun a' w' hf' hs' => kk.h a' w' hf' ?_)).h a w hf hs2
  have := hs'.obj_part (sz := sz) (k := k) (cap := cap) (by rw [List.length_set]; exact h3) h4 h5
  rw [List.take_set, h2] at this
  exact this
theorem TQ.row_slice {c : Exit} (hm : Pick (.row e sz v k xs) L L') (h : ∀ ao cap, v = .slice ao k cap → xs.length = k * sz → TQ Q c n ds S g L) : TQ Q c n ds S g L := .mk fun a w hf hs => by
  have hr : w.ownsRow 0 e sz v k xs := (hs.perm hm.perm).st _ List.mem_cons_self
  obtain ⟨ao, cap, hv⟩ := Go.TL.row_slice hr
  exact (h ao cap hv hr.1).h a w hf hs
theorem Gives.perm {f : FuncId} {args : Array Value} (h : Gives P f args g L' v) (hp : L'.Perm L) : Gives P f args g L v := .mk fun w hs => (h.h w (hs.perm hp)).mono fun _ _ ⟨he, hs'⟩ => ⟨he, hs'.perm hp.symm⟩
theorem Gives.borrow_row' {f : FuncId} {args : Array Value} {r : Value} (H : ∀ g' L, g.le g' → Sl g' v k sz xs → Gives P f args g' L r) (hm : Pick (.row e sz v k xs) L L') : Gives P f args g L r :=
  (Gives.borrow_row (e := e) fun g' hg hsl => H g' L' hg hsl).perm hm.perm
end
section
variable {P : Program} {md : Region.Mode} {ops : Array Oper} {Q : Exit → Act → World → Prop} {K K' : World → Prop}
/-- What is kept may be said anew, if it is more. -/
theorem wpAnyH_keep (h : ∀ w, K' w → K w) : ∀ (fuel : Nat) (listed : Array Bool) (a : Act) (w : World), wpAnyH P md ops Q K' fuel listed a w → wpAnyH P md ops Q K fuel listed a w
  | 0, _, _, _, hw => hw
  | fuel + 1, _, _, _, hw => ⟨hw.1, fun i hi => wpOp_mono (fun a' w' h' => ⟨h w' h'.1, wpAnyH_keep h fuel _ a' w' h'.2⟩) (hw.2 i hi)⟩
end
section
variable {P : Program} {ops : Array Oper} {Q : Exit → Act → World → Prop} {n : Nat} {ds : List Deferred} {S : Slots} {g gS : Gh} {L LS : List Ent} {fuel : Nat} {listed : Array Bool}
theorem TA.keep {gS' : Gh} {LS' : List Ent} (hg : gS.le gS') (hL : Sel LS LS') (hg2 : gS'.le g) (hL2 : Sel LS' L) (h : TA P ops Q gS' LS' fuel listed n ds S g L) : TA P ops Q gS LS fuel listed n ds S g L := .mk fun a w hfr hs _ =>
  wpAnyH_keep (fun _ hw => (hw.less hg).sel hL) fuel listed a w (h.h a w hfr hs ((hs.less hg2).sel hL2))
/-- All that is known is kept from here on. -/
theorem TQ.anyK (hg : gS.le g) (hL : Sel LS L) (h : TA P ops Q g L fuel listed n ds S g L) : TQ (AnyQ P ops Q gS LS fuel listed) .normal n ds S g L := .any hg hL (.keep hg hL (.refl _) .refl h)
end
/-! ### Whatever order, with one operation that waits for all others -/
section
variable {P : Program} {md : Region.Mode} {ops : Array Oper} {Q : Exit → Act → World → Prop} {K : World → Prop} {sk : Nat}
def wpAnyT (P : Program) (md : Region.Mode) (ops : Array Oper) (Q : Exit → Act → World → Prop) (K : World → Prop) (sk : Nat) : Nat → Array Bool → Act → World → Prop
  | 0, listed, a, w => Region.ready md ops listed = [] ∧ Q .normal a w
  | fuel + 1, listed, a, w =>
    (Region.ready md ops listed = [] → Q .normal a w) ∧
    ∀ i ∈ Region.ready md ops listed, wpOp P ops Q i (fun a' w' => (i ≠ sk → K w') ∧ wpAnyT P md ops Q K sk fuel (listed.setIfInBounds i true) a' w') a w
theorem wpAny_of_T : ∀ (fuel : Nat) (listed : Array Bool) (a : Act) (w : World), wpAnyT P md ops Q K sk fuel listed a w → wpAny P md ops Q fuel listed a w
  | 0, _, _, _, h => h
  | fuel + 1, _, _, _, h => ⟨h.1, fun i hi => wpOp_mono (fun a' w' h' => wpAny_of_T fuel _ a' w' h'.2) (h.2 i hi)⟩
/-- The last one waits for all others. -/
def sinkA (md : Region.Mode) (ops : Array Oper) (sk : Nat) : Bool := match ops[sk]? with
  | some o => (List.range ops.size).all fun j => j == sk || o.after.toList.any fun e => e.on == j && Region.binds md e
  | none => false
theorem sinkA_ready (h : sinkA md ops sk = true) {listed : Array Bool} (hr : sk ∈ Region.ready md ops listed) {j : Nat} (hj : j < ops.size) (hne : j ≠ sk) : listed.getD j false = true := by
  obtain ⟨_, o, ho, hall⟩ := mem_ready.1 hr
  unfold sinkA at h
  rw [ho] at h
  have h1 := List.all_eq_true.1 h j (List.mem_range.2 hj)
  rw [Bool.or_eq_true, beq_iff_eq] at h1
  rcases h1 with h1 | h1
  · exact absurd h1 hne
  · obtain ⟨e, he, h2⟩ := List.any_eq_true.1 h1
    rw [Bool.and_eq_true, beq_iff_eq] at h2
    rw [← h2.1]
    exact hall e (Array.mem_toList_iff.1 he) h2.2
theorem wpAnyT_first (hsk : sinkA md ops sk = true) {i : Nat} {oi : Oper} {v : Value} (hi : ops[i]? = some oi) (hsel : ∀ (j : Nat) (o : Oper) cs b, ops[j]? = some o → o.op ≠ .select cs b)
    (hQ : ∀ c a w, Q (.panic c) (a.put oi.dst v) w → Q (.panic c) a w) :
    ∀ (fuel : Nat) (listed : Array Bool) (a : Act) (w : World),
      (∀ j oj, ops[j]? = some oj → j ≠ i → listed.getD j true = false → (∀ e ∈ oj.after, Region.binds md e = true → e.on ≠ i) → oi.apart ops oj = true) →
      i ∈ Region.ready md ops listed → YieldsIf P ops K oi v a → K w →
      wpAnyT P md ops Q K sk fuel (listed.setIfInBounds i true) (a.put oi.dst v) w → wpAnyT P md ops Q K sk (fuel + 1) listed a w := by
  intro fuel
  induction fuel with
  | zero =>
    intro listed a w _ hr hy hS H
    refine ⟨fun h => (by rw [h] at hr; cases hr), fun j hj => ?_⟩
    by_cases hji : j = i
    · subst hji; exact hy.wpOp hi hS ⟨fun _ => hS, H⟩
    · have := ready_mono hj hji
      rw [H.1] at this
      cases this
  | succ fuel ih =>
    intro listed a w hfree hr hy hS H
    refine ⟨fun h => (by rw [h] at hr; cases hr), fun j hj => ?_⟩
    by_cases hji : j = i
    · subst hji; exact hy.wpOp hi hS ⟨fun _ => hS, H⟩
    · have hun := (mem_ready.1 hr).1
      have hjs : j ≠ sk := fun e => by
        subst e
        have := sinkA_ready hsk hj (Array.getElem?_eq_some_iff.1 hi).1 (fun e => hji e.symm)
        rw [getD_both hun] at this; cases this
      have h1 := H.2 j (ready_mono hj hji)
      obtain ⟨hjun, oj, hoj, hall⟩ := mem_ready.1 hj
      have hnot : ∀ e ∈ oj.after, Region.binds md e = true → e.on ≠ i := fun e he hb heq => by
        have h1 := hall e he hb
        rw [heq, getD_both hun] at h1; cases h1
      have h2 := wpOp_putIf hoj (hfree j oj hoj hji hjun hnot) (fun cs b => hsel i oi cs b hi) (fun cs b => hsel j oj cs b hoj) hQ hy h1
      have hfree' : ∀ k ok, ops[k]? = some ok → k ≠ i → (listed.setIfInBounds j true).getD k true = false →
          (∀ e ∈ ok.after, Region.binds md e = true → e.on ≠ i) → oi.apart ops ok = true := fun k ok hk hki hun hno => by
        refine hfree k ok hk hki ?_ hno
        by_cases hjk : j = k
        · subst hjk; exact hjun
        · rw [getD_set_ne true hjk] at hun; exact hun
      refine wpOp_mono (fun a' w' h3 => ⟨h3.2.1, ih (listed.setIfInBounds j true) a' w' hfree' (ready_mono hr (Ne.symm hji)) h3.1 (h3.2.1 hjs) ?_⟩) h2
      rw [Array.setIfInBounds_comm _ _ hji]
      exact h3.2.2
end
section
variable {P : Program} {ops : Array Oper} {Q : Exit → Act → World → Prop} {rest : List Oper} {n : Nat} {ds : List Deferred} {S : Slots} {g gS : Gh} {L LS : List Ent} {sk : Nat}
structure TB (P : Program) (ops : Array Oper) (Q : Exit → Act → World → Prop) (gS : Gh) (LS : List Ent) (sk : Nat) (fuel : Nat) (listed : Array Bool) (n : Nat) (ds : List Deferred) (S : Slots) (g : Gh) (L : List Ent) : Prop where
  h : sinkA .any ops sk = true → ∀ a w, Fr n ds S a → St g L w → St gS LS w → wpAnyT P .any ops Q (St gS LS) sk fuel listed a w
/-- One operation, then the rest in whatever order. -/
def AnyT (P : Program) (ops : Array Oper) (Q : Exit → Act → World → Prop) (gS : Gh) (LS : List Ent) (sk : Nat) (fuel : Nat) (listed : Array Bool) (i : Nat) : Exit → Act → World → Prop
  | .normal, a, w => (i ≠ sk → St gS LS w) ∧ wpAnyT P .any ops Q (St gS LS) sk fuel listed a w
  | e, a, w => Q e a w
variable {id fuel i : Nat} {listed : Array Bool} {o : Oper} {v : Value} {d : Nat} {op : Op} {ty : TypeId} {pos : String} {aft : Array Edge}
theorem TC.region_sink {l : List Oper} (sk : Nat) (N : Nat) (LS : List Ent) (hm : P.follows .mixedOrders = true) (hs : sinkA .any l.toArray sk = true) (hN : l.length = N) (hS : Sel LS L) (h : TB P l.toArray Q g LS sk N (Array.replicate N false) n ds S g L) : TC P Q (.region id l.toArray true) n ds S g L := .mk fun a w hf hs2 => by
  subst hN
  refine wp_region_any hm (wpAny_of_T (K := St g LS) (sk := sk) _ _ _ _ ?_)
  simp only [List.size_toArray]
  exact h.h hs a _ hf hs2.drew (hs2.drew.sel hS)
theorem TB.take {l : List Oper} (i : Nat) {ap : Array Bool} (hr : (Region.ready .any l.toArray listed).contains i = true) (hi : nthO l i = some ⟨some d, op, ty, pos, aft, none⟩) (hy : Yields P n ds S gS LS ⟨some d, op, ty, pos, aft, none⟩ v) (hf : Region.free .any l.toArray listed i = true) (hn : Region.noSelect l.toArray = true)
    (hd : Nat.blt d n = true) (hQ : ∀ c a w, Q (.panic c) (a.put (some d) v) w → Q (.panic c) a w) (hl : listed.setIfInBounds i true = ap) (k : TB P l.toArray Q gS LS sk fuel ap n ds ((d, v) :: S) g L) : TB P l.toArray Q gS LS sk (fuel + 1) listed n ds S g L := .mk fun hk a w hfr hs hS => by
  subst hl
  exact wpAnyT_first hk ((nthO_eq l i).trans hi) (Region.noSelect_spec hn) hQ fuel listed a w (Region.free_spec ((nthO_eq l i).trans hi) hf) (by simpa using hr) (.inl ⟨by simp [Region.wanted], fun w' hw' => hy.h a w' hfr hw'⟩) hS (k.h hk _ w (hfr.put hd v) hs hS)
theorem TB.take_g {l : List Oper} (i : Nat) {j t : Nat} {want : Bool} {ap : Array Bool} (hr : (Region.ready .any l.toArray listed).contains i = true) (hi : nthO l i = some ⟨some d, op, ty, pos, aft, some (j, want)⟩) (hg : gslot l.toArray j = some t) (hb : look t S = some (.bool want)) (hy : Yields P n ds S gS LS ⟨some d, op, ty, pos, aft, some (j, want)⟩ v) (hf : Region.free .any l.toArray listed i = true) (hn : Region.noSelect l.toArray = true)
    (hd : Nat.blt d n = true) (hQ : ∀ c a w, Q (.panic c) (a.put (some d) v) w → Q (.panic c) a w) (hl : listed.setIfInBounds i true = ap) (k : TB P l.toArray Q gS LS sk fuel ap n ds ((d, v) :: S) g L) : TB P l.toArray Q gS LS sk (fuel + 1) listed n ds S g L := .mk fun hk a w hfr hs hS => by
  subst hl
  exact wpAnyT_first hk ((nthO_eq l i).trans hi) (Region.noSelect_spec hn) hQ fuel listed a w (Region.free_spec ((nthO_eq l i).trans hi) hf) (by simpa using hr) (.inl ⟨by rw [wanted_of hg hb hfr]; simp, fun w' hw' => hy.h a w' hfr hw'⟩) hS (k.h hk _ w (hfr.put hd v) hs hS)
/-- The only one that may come up. -/
theorem TB.one {l : List Oper} (i : Nat) {ap : Array Bool} (hi0 : nthO l i = some o) (hr : Region.ready .any l.toArray listed = [i]) (hl : listed.setIfInBounds i true = ap) (h : sinkA .any l.toArray sk = true → TL P l.toArray (AnyT P l.toArray Q gS LS sk fuel ap i) [o] n ds S g L) : TB P l.toArray Q gS LS sk (fuel + 1) listed n ds S g L := .mk fun hk a w hf hs _ => by
  subst hl
  have hi := (nthO_eq l i).trans hi0
  refine ⟨fun h0 => (by rw [hr] at h0; cases h0), fun j hj => ?_⟩
  rw [hr] at hj
  obtain rfl : j = i := by simpa using hj
  have h1 := (h hk).h a w hf hs
  unfold wpOp
  simp only [hi]
  unfold wpList at h1
  by_cases hw : Region.wanted o (yielded l.toArray a.tmps) = true
  · rw [if_pos hw] at h1 ⊢
    rcases h1 with h1 | ⟨ha, hlets⟩
    · refine .inl ?_
      unfold Oper.wp at h1 ⊢
      generalize (execOp a.eval o).run P w = r at *
      cases r with
      | ok m w' =>
        cases m <;> simp only [Oper.upon] at h1 ⊢ <;> first | exact h1 | exact h1.mono fun e w'' he => by cases e <;> exact he
      | halt x w' => cases x <;> simp only [Oper.upon] at h1 ⊢ <;> exact h1
    · exact .inr ⟨ha, hlets⟩
  · rw [if_neg hw] at h1 ⊢
    exact h1
theorem TQ.anyT (hk : sinkA .any ops sk = true) (hg : gS.le g) (hL : Sel LS L) (h : TB P ops Q gS LS sk fuel listed n ds S g L) : TQ (AnyT P ops Q gS LS sk fuel listed i) .normal n ds S g L := .mk fun a w hf hs =>
  have hS : St gS LS w := (hs.less hg).sel hL
  ⟨fun _ => hS, h.h hk a w hf hs hS⟩
theorem TQ.lastT (hr : Region.ready .any ops listed = []) (h : TQ Q .normal n ds S g L) : TQ (AnyT P ops Q gS LS sk fuel listed sk) .normal n ds S g L := .mk fun a w hf hs => by
  refine ⟨fun e => absurd rfl e, ?_⟩
  have hq := h.h a w hf hs
  cases fuel with
  | zero => exact ⟨hr, hq⟩
  | succ f => exact ⟨fun _ => hq, by rw [hr]; simp⟩
theorem TQ.anyT_panic {c : List PanicEntry} (h : TQ Q (.panic c) n ds S g L) : TQ (AnyT P ops Q gS LS sk fuel listed i) (.panic c) n ds S g L := ⟨h.h⟩
end
end Go.TL
