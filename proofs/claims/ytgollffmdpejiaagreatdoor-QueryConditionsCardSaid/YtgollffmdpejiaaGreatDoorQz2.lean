/-
  Slices of slices; entries taken apart; stores into rows. In a region that draws its order: an operation that is not wanted is passed over first; two that may both come up. Comparisons of whole numbers, their outcome known. A row of two elements of several cells is made. A text's bytes: appended to a row, or as a new row that stays.
-/
import Derived.Test.YtgollffmdpejiaaGreatDoorQz1
import Derived.Lib.AppendStr
namespace Go.TL
open Go Go.RowKit Go.Proofs.YtgollffmdpejiaaGreatDoor
theorem Y.slice_from {P : Program} {n : Nat} {ds : List Deferred} {S : Slots} {g : Gh} {L : List Ent} {dst : Option Nat} {ty : TypeId} {pos : String} {aft : Array Edge} {gd : Option (Nat × Bool)} {x lo : Operand} {t e : TypeId} {z : Value} {sz bytes b off off' len cap i : Nat} {k : IntKind} {p : Int} [ht : Und P t (.slice e)] [he : Inf P e sz bytes z] (hx : ev S x = some (.slice (some ⟨b, off, none⟩) len cap)) (hlo : ev S lo = some (.int k p)) (hp : p = i) (hi' : i ≤ len) (_hc : len ≤ cap) (ho : off' = if cap = i then off else off + i * sz) : Yields P n ds S g L ⟨dst, .slice t x (some lo) none none, ty, pos, aft, gd⟩ (.slice (some ⟨b, off', none⟩) (len - i) (cap - i)) := .mk fun a w hf _ => by
  subst hp
  obtain ⟨ii, hii, hs, _⟩ := he.eq
  have h1 : ¬ (i : Int) < 0 := by omega
  have h2 : (i : Int).toNat = i := by omega
  simp [execOp, Instr.sliceAt, Instr.slice, Instr.sliceBounds, Instr.sliceBound, hf.ev hx, hf.ev hlo, run_und ht.eq, asIntOf, hi', run_size hii, hs, add_eq]
  by_cases h : cap = i
  · rw [if_pos h, ho, if_pos h]
  · rw [if_neg h, ho, if_neg h]
section
variable {P : Program} {ops : Array Oper} {Q : Exit → Act → World → Prop} {l rest : List Oper} {n : Nat} {ds : List Deferred} {S : Slots} {g : Gh} {L L' L1 L2 L3 M M1 M2 M3 : List Ent} {w w' : World} {en : Ent}
variable {d : Nat} {ty : TypeId} {pos : String} {aft : Array Edge} {x y : Operand} {v u z : Value} {t e : TypeId} {sz bytes k m cap b off : Nat} {xs : List Value}
theorem TQ.row_slice {c : Exit} (hm : Pick (.row e sz v k xs) L L') (h : ∀ ao cap, v = .slice ao k cap → xs.length = k * sz → TQ Q c n ds S g L) : TQ Q c n ds S g L := .mk fun a w hf hs => by
  have hr : w.ownsRow 0 e sz v k xs := (hs.perm hm.perm).st _ List.mem_cons_self
  obtain ⟨ao, cap, hv⟩ := Go.TL.row_slice hr
  exact (h ao cap hv hr.1).h a w hf hs
end
section
variable {P : Program} {md : Region.Mode} {ops : Array Oper} {Q : Exit → Act → World → Prop} {K K' : World → Prop}
end
section
variable {P : Program} {ops : Array Oper} {Q : Exit → Act → World → Prop} {n : Nat} {ds : List Deferred} {S : Slots} {g gS : Gh} {L LS : List Ent} {fuel : Nat} {listed : Array Bool}
end
/-! ### Whatever order, with one operation that waits for all others -/
section
variable {P : Program} {md : Region.Mode} {ops : Array Oper} {Q : Exit → Act → World → Prop} {K : World → Prop} {sk : Nat}
def wpAnyT (P : Program) (md : Region.Mode) (ops : Array Oper) (Q : Exit → Act → World → Prop) (K : World → Prop) (sk : Nat) : Nat → Array Bool → Act → World → Prop
  | 0, listed, a, w => Region.ready md ops listed = [] ∧ Q .normal a w
  | fuel + 1, listed, a, w =>
    (Region.ready md ops listed = [] → Q .normal a w) ∧
    ∀ i ∈ Region.ready md ops listed, wpOp P ops Q i (fun a' w' => (i ≠ sk → K w') ∧ wpAnyT P md ops Q K sk fuel (listed.setIfInBounds i true) a' w') a w
theorem wpAny_of_T : ∀ (fuel : Nat) (listed : Array Bool) (a : Act) (w : World), wpAnyT P md ops Q K sk fuel listed a w → wpAny P md ops Q fuel listed a w
  | 0, _, _, _, h => h
  | fuel + 1, _, _, _, h => ⟨h.1, fun i hi => wpOp_mono (fun a' w' h' => wpAny_of_T fuel _ a' w' h'.2) (h.2 i hi)⟩
def sinkA (md : Region.Mode) (ops : Array Oper) (sk : Nat) : Bool := match ops[sk]? with
  | some o => (List.range ops.size).all fun j => j == sk || o.after.toList.any fun e => e.on == j && Region.binds md e
  | none => false
theorem sinkA_ready (h : sinkA md ops sk = true) {listed : Array Bool} (hr : sk ∈ Region.ready md ops listed) {j : Nat} (hj : j < ops.size) (hne : j ≠ sk) : listed.getD j false = true := by
  obtain ⟨_, o, ho, hall⟩ := mem_ready.1 hr
  unfold sinkA at h
  rw [ho] at h
  have h1 := List.all_eq_true.1 h j (List.mem_range.2 hj)
  rw [Bool.or_eq_true, beq_iff_eq] at h1
  rcases h1 with h1 | h1
  · exact absurd h1 hne
  · obtain ⟨e, he, h2⟩ := List.any_eq_true.1 h1
    rw [Bool.and_eq_true, beq_iff_eq] at h2
    rw [← h2.1]
    exact hall e (Array.mem_toList_iff.1 he) h2.2
theorem wpAnyT_first (hsk : sinkA md ops sk = true) {i : Nat} {oi : Oper} {v : Value} (hi : ops[i]? = some oi) (hsel : ∀ (j : Nat) (o : Oper) cs b, ops[j]? = some o → o.op ≠ .select cs b)
    (hQ : ∀ c a w, Q (.panic c) (a.put oi.dst v) w → Q (.panic c) a w) :
    ∀ (fuel : Nat) (listed : Array Bool) (a : Act) (w : World),
      (∀ j oj, ops[j]? = some oj → j ≠ i → listed.getD j true = false → (∀ e ∈ oj.after, Region.binds md e = true → e.on ≠ i) → oi.apart ops oj = true) →
      i ∈ Region.ready md ops listed → YieldsIf P ops K oi v a → K w →
      wpAnyT P md ops Q K sk fuel (listed.setIfInBounds i true) (a.put oi.dst v) w → wpAnyT P md ops Q K sk (fuel + 1) listed a w := by
  intro fuel
  induction fuel with
  | zero =>
    intro listed a w _ hr hy hS H
    refine ⟨fun h => (by rw [h] at hr; cases hr), fun j hj => ?_⟩
    by_cases hji : j = i
    · subst hji; exact hy.wpOp hi hS ⟨fun _ => hS, H⟩
    · have := ready_mono hj hji
      rw [H.1] at this
      cases this
  | succ fuel ih =>
    intro listed a w hfree hr hy hS H
    refine ⟨fun h => (by rw [h] at hr; cases hr), fun j hj => ?_⟩
    by_cases hji : j = i
    · subst hji; exact hy.wpOp hi hS ⟨fun _ => hS, H⟩
    · have hun := (mem_ready.1 hr).1
      have hjs : j ≠ sk := fun e => by
        subst e
        have := sinkA_ready hsk hj (Array.getElem?_eq_some_iff.1 hi).1 (fun e => hji e.symm)
        rw [getD_both hun] at this; cases this
      have h1 := H.2 j (ready_mono hj hji)
      obtain ⟨hjun, oj, hoj, hall⟩ := mem_ready.1 hj
      have hnot : ∀ e ∈ oj.after, Region.binds md e = true → e.on ≠ i := fun e he hb heq => by
        have h1 := hall e he hb
        rw [heq, getD_both hun] at h1; cases h1
      have h2 := wpOp_putIf hoj (hfree j oj hoj hji hjun hnot) (fun cs b => hsel i oi cs b hi) (fun cs b => hsel j oj cs b hoj) hQ hy h1
      have hfree' : ∀ k ok, ops[k]? = some ok → k ≠ i → (listed.setIfInBounds j true).getD k true = false →
          (∀ e ∈ ok.after, Region.binds md e = true → e.on ≠ i) → oi.apart ops ok = true := fun k ok hk hki hun hno => by
        refine hfree k ok hk hki ?_ hno
        by_cases hjk : j = k
        · subst hjk; exact hjun
        · rw [getD_set_ne true hjk] at hun; exact hun
      refine wpOp_mono (fun a' w' h3 => ⟨h3.2.1, ih (listed.setIfInBounds j true) a' w' hfree' (ready_mono hr (Ne.symm hji)) h3.1 (h3.2.1 hjs) ?_⟩) h2
      rw [Array.setIfInBounds_comm _ _ hji]
      exact h3.2.2
end
section
variable {P : Program} {ops : Array Oper} {Q : Exit → Act → World → Prop} {rest : List Oper} {n : Nat} {ds : List Deferred} {S : Slots} {g gS : Gh} {L LS : List Ent} {sk : Nat}
structure TB (P : Program) (ops : Array Oper) (Q : Exit → Act → World → Prop) (gS : Gh) (LS : List Ent) (sk : Nat) (fuel : Nat) (listed : Array Bool) (n : Nat) (ds : List Deferred) (S : Slots) (g : Gh) (L : List Ent) : Prop where
  h : sinkA .any ops sk = true → ∀ a w, Fr n ds S a → St g L w → St gS LS w → wpAnyT P .any ops Q (St gS LS) sk fuel listed a w
def AnyT (P : Program) (ops : Array Oper) (Q : Exit → Act → World → Prop) (gS : Gh) (LS : List Ent) (sk : Nat) (fuel : Nat) (listed : Array Bool) (i : Nat) : Exit → Act → World → Prop
  | .normal, a, w => (i ≠ sk → St gS LS w) ∧ wpAnyT P .any ops Q (St gS LS) sk fuel listed a w
  | e, a, w => Q e a w
variable {id fuel i : Nat} {listed : Array Bool} {o : Oper} {v : Value} {d : Nat} {op : Op} {ty : TypeId} {pos : String} {aft : Array Edge}
theorem TC.region_sink {l : List Oper} (sk : Nat) (N : Nat) (LS : List Ent) (hm : P.follows .mixedOrders = true) (hs : sinkA .any l.toArray sk = true) (hN : l.length = N) (hS : Sel LS L) (h : TB P l.toArray Q g LS sk N (Array.replicate N false) n ds S g L) : TC P Q (.region id l.toArray true) n ds S g L := .mk fun a w hf hs2 => by
  subst hN
  refine wp_region_any hm (wpAny_of_T (K := St g LS) (sk := sk) _ _ _ _ ?_)
  simp only [List.size_toArray]
  exact h.h hs a _ hf hs2.drew (hs2.drew.sel hS)
theorem TB.take {l : List Oper} (i : Nat) {ap : Array Bool} (hr : (Region.ready .any l.toArray listed).contains i = true) (hi : nthO l i = some ⟨some d, op, ty, pos, aft, none⟩) (hy : Yields P n ds S gS LS ⟨some d, op, ty, pos, aft, none⟩ v) (hf : Region.free .any l.toArray listed i = true) (hn : Region.noSelect l.toArray = true)
    (hd : Nat.blt d n = true) (hQ : ∀ c a w, Q (.panic c) (a.put (some d) v) w → Q (.panic c) a w) (hl : listed.setIfInBounds i true = ap) (k : TB P l.toArray Q gS LS sk fuel ap n ds ((d, v) :: S) g L) : TB P l.toArray Q gS LS sk (fuel + 1) listed n ds S g L := .mk fun hk a w hfr hs hS => by
  subst hl
  exact wpAnyT_first hk ((nthO_eq l i).trans hi) (Region.noSelect_spec hn) hQ fuel listed a w (Region.free_spec ((nthO_eq l i).trans hi) hf) (by simpa using hr) (.inl ⟨by simp [Region.wanted], fun w' hw' => hy.h a w' hfr hw'⟩) hS (k.h hk _ w (hfr.put hd v) hs hS)
theorem TB.one {l : List Oper} (i : Nat) {ap : Array Bool} (hi0 : nthO l i = some o) (hr : Region.ready .any l.toArray listed = [i]) (hl : listed.setIfInBounds i true = ap) (h : sinkA .any l.toArray sk = true → TL P l.toArray (AnyT P l.toArray Q gS LS sk fuel ap i) [o] n ds S g L) : TB P l.toArray Q gS LS sk (fuel + 1) listed n ds S g L := .mk fun hk a w hf hs _ => by
  subst hl
  have hi := (nthO_eq l i).trans hi0
  refine ⟨fun h0 => (by rw [hr] at h0; cases h0), fun j hj => ?_⟩
  rw [hr] at hj
  obtain rfl : j = i := by simpa using hj
  have h1 := (h hk).h a w hf hs
  unfold wpOp
  simp only [hi]
  unfold wpList at h1
  by_cases hw : Region.wanted o (yielded l.toArray a.tmps) = true
  · rw [if_pos hw] at h1 ⊢
    rcases h1 with h1 | ⟨ha, hlets⟩
    · refine .inl ?_
      unfold Oper.wp at h1 ⊢
      generalize (execOp a.eval o).run P w = r at *
      cases r with
      | ok m w' =>
        cases m <;> simp only [Oper.upon] at h1 ⊢ <;> first | exact h1 | exact h1.mono fun e w'' he => by cases e <;> exact he
      | halt x w' => cases x <;> simp only [Oper.upon] at h1 ⊢ <;> exact h1
    · exact .inr ⟨ha, hlets⟩
  · rw [if_neg hw] at h1 ⊢
    exact h1
theorem TQ.anyT (hk : sinkA .any ops sk = true) (hg : gS.le g) (hL : Sel LS L) (h : TB P ops Q gS LS sk fuel listed n ds S g L) : TQ (AnyT P ops Q gS LS sk fuel listed i) .normal n ds S g L := .mk fun a w hf hs =>
  have hS : St gS LS w := (hs.less hg).sel hL
  ⟨fun _ => hS, h.h hk a w hf hs hS⟩
theorem TQ.lastT (hr : Region.ready .any ops listed = []) (h : TQ Q .normal n ds S g L) : TQ (AnyT P ops Q gS LS sk fuel listed sk) .normal n ds S g L := .mk fun a w hf hs => by
  refine ⟨fun e => absurd rfl e, ?_⟩
  have hq := h.h a w hf hs
  cases fuel with
  | zero => exact ⟨hr, hq⟩
  | succ f => exact ⟨fun _ => hq, by rw [hr]; simp⟩
theorem TQ.anyT_panic {c : List PanicEntry} (h : TQ Q (.panic c) n ds S g L) : TQ (AnyT P ops Q gS LS sk fuel listed i) (.panic c) n ds S g L := ⟨h.h⟩
end
end Go.TL
namespace Go.TL
open Go Go.RowKit Go.Proofs.YtgollffmdpejiaaGreatDoor
section
variable {P : Program} {ops : Array Oper} {Q : Exit → Act → World → Prop} {n : Nat} {ds : List Deferred} {S : Slots} {g gS : Gh} {L LS : List Ent}
variable {fuel sk : Nat} {listed : Array Bool} {d : Nat} {op : Op} {ty : TypeId} {pos : String} {aft : Array Edge}
theorem TA.no_g {l : List Oper} (i : Nat) {j t : Nat} {want b : Bool} {ap : Array Bool} (hr : (Region.ready .any l.toArray listed).contains i = true) (hi : nthO l i = some ⟨some d, op, ty, pos, aft, some (j, want)⟩) (hg : gslot l.toArray j = some t) (hb : look t S = some (.bool b)) (hne : (b == want) = false) (hf : Region.free .any l.toArray listed i = true) (hn : Region.noSelect l.toArray = true)
    (hd : Nat.blt d n = true) (hQ : ∀ c a w, Q (.panic c) (a.put (some d) undef) w → Q (.panic c) a w) (hl : listed.setIfInBounds i true = ap) (k : TA P l.toArray Q gS LS fuel ap n ds ((d, undef) :: S) g L) : TA P l.toArray Q gS LS (fuel + 1) listed n ds S g L := .mk fun a w hfr hs hS => by
  subst hl
  exact wpAnyH_take ((nthO_eq l i).trans hi) hn hf hr hQ (.inr ⟨by rw [wanted_of hg hb hfr]; exact hne, rfl⟩) hS (k.h _ w (hfr.put hd undef) hs hS)
theorem TA.two {l : List Oper} (i j : Nat) {oi oj : Oper} {ai aj : Array Bool} (hi0 : nthO l i = some oi) (hj0 : nthO l j = some oj) (hr : Region.ready .any l.toArray listed = [i, j]) (hli : listed.setIfInBounds i true = ai) (hlj : listed.setIfInBounds j true = aj)
    (hi : TL P l.toArray (AnyQ P l.toArray Q gS LS fuel ai) [oi] n ds S g L) (hj : TL P l.toArray (AnyQ P l.toArray Q gS LS fuel aj) [oj] n ds S g L) : TA P l.toArray Q gS LS (fuel + 1) listed n ds S g L := .mk fun a w hf hs _ => by
  subst hli hlj
  refine wpAnyH_all hr (by simp) fun k hk => ?_
  have key : ∀ k o, nthO l k = some o → TL P l.toArray (AnyQ P l.toArray Q gS LS fuel (listed.setIfInBounds k true)) [o] n ds S g L → wpOp P l.toArray Q k (fun a' w' => St gS LS w' ∧ wpAnyH P .any l.toArray Q (St gS LS) fuel (listed.setIfInBounds k true) a' w') a w := fun k o ho h => by
    have hi := (nthO_eq l k).trans ho
    have h1 := h.h a w hf hs
    unfold wpOp
    simp only [hi]
    unfold wpList at h1
    by_cases hw : Region.wanted o (yielded l.toArray a.tmps) = true
    · rw [if_pos hw] at h1 ⊢
      rcases h1 with h1 | ⟨ha, hlets⟩
      · refine .inl ?_
        unfold Oper.wp at h1 ⊢
        generalize (execOp a.eval o).run P w = r at *
        cases r with
        | ok m w' =>
          cases m <;> simp only [Oper.upon] at h1 ⊢ <;> first | exact h1 | exact h1.mono fun e w'' he => by cases e <;> exact he
        | halt x w' => cases x <;> simp only [Oper.upon] at h1 ⊢ <;> exact h1
      · exact .inr ⟨ha, hlets⟩
    · rw [if_neg hw] at h1 ⊢
      exact h1
  rcases List.mem_cons.1 hk with rfl | hk
  · exact key _ _ hi0 hi
  · obtain rfl := List.mem_singleton.1 hk
    exact key _ _ hj0 hj
end
section
variable {P : Program} {g : Gh} {L : List Ent} {b : Nat} {E : TypeId}
end
section
variable {P : Program} {ops : Array Oper} {Q : Exit → Act → World → Prop} {rest : List Oper} {n : Nat} {ds : List Deferred} {S : Slots} {g : Gh} {L L' : List Ent} {ty : TypeId} {pos : String} {aft : Array Edge} {x y : Operand} {z : Value} {t e : TypeId} {sz bytes k cap b off : Nat} {xs us : List Value}
end
section
variable {P : Program} {Q : Exit → Act → World → Prop} {n : Nat} {ds : List Deferred} {S : Slots} {g : Gh} {L : List Ent}
end
section
variable {P : Program} {ops : Array Oper} {Q : Exit → Act → World → Prop} {rest : List Oper} {n : Nat} {ds : List Deferred} {S : Slots} {g gS : Gh} {L LS : List Ent} {sk : Nat}
variable {id fuel : Nat} {listed : Array Bool} {o : Oper} {v : Value} {d : Nat} {op : Op} {ty : TypeId} {pos : String} {aft : Array Edge}
theorem TB.takeF {l : List Oper} (i : Nat) {ap : Array Bool} (_hu : listed.getD i true = false) (hr : (Region.ready .any l.toArray listed).contains i = true) (hi : nthO l i = some ⟨some d, op, ty, pos, aft, none⟩) (hy : Yields P n ds S gS LS ⟨some d, op, ty, pos, aft, none⟩ v) (hf : Region.free .any l.toArray listed i = true) (hn : Region.noSelect l.toArray = true)
    (hd : Nat.blt d n = true) (hQ : ∀ c a w, Q (.panic c) (a.put (some d) v) w → Q (.panic c) a w) (hl : listed.setIfInBounds i true = ap) (k : TB P l.toArray Q gS LS sk fuel ap n ds ((d, v) :: S) g L) : TB P l.toArray Q gS LS sk (fuel + 1) listed n ds S g L := .take i hr hi hy hf hn hd hQ hl k
theorem TB.oneF {l : List Oper} (i : Nat) {ap : Array Bool} (_hu : listed.getD i true = false) (hi0 : nthO l i = some o) (hr : Region.ready .any l.toArray listed = [i]) (hl : listed.setIfInBounds i true = ap) (h : sinkA .any l.toArray sk = true → TL P l.toArray (AnyT P l.toArray Q gS LS sk fuel ap i) [o] n ds S g L) : TB P l.toArray Q gS LS sk (fuel + 1) listed n ds S g L := .one i hi0 hr hl h
end
section
variable {P : Program} {n : Nat} {ds : List Deferred} {S : Slots} {g : Gh} {L : List Ent} {v : Value} {dst : Option Nat} {op : Op} {ty : TypeId} {pos : String} {aft : Array Edge} {gd : Option (Nat × Bool)}
theorem yQ {o : Oper} (h : Yields P n ds S g L o v := by first | ((with_reducible apply Y.move); (· rfl)) | ((with_reducible apply Y.assign); (· rfl)) | ((with_reducible apply Y.extract); (· rfl); (· rfl)) | ((with_reducible apply Y.field); (· rfl)) | ((with_reducible apply Y.load); (· rfl); (· first | ((repeat (first | with_reducible apply Pick.here | with_reducible apply Pick.there)); done) | ((repeat (first | apply Pick.here | apply Pick.there)); done)); (· rfl)) | ((with_reducible apply Y.load_whole); (· rfl); (· first | ((repeat (first | with_reducible apply Pick.here | with_reducible apply Pick.there)); done) | ((repeat (first | apply Pick.here | apply Pick.there)); done)); (· rfl)) | ((with_reducible apply Y.pick_true); (· rfl); (· rfl)) | ((with_reducible apply Y.pick_false); (· rfl); (· rfl)) | fail) : Yields P n ds S g L o v := h
end
theorem selF {L' L : List Ent} (h : Sel L' L := by first | ((repeat (first | with_reducible apply Sel.refl | with_reducible apply Sel.nil | with_reducible apply Sel.cons (by repeat (first | with_reducible apply Pick.here | with_reducible apply Pick.there)) | with_reducible apply Sel.drop)); done) | ((repeat (first | apply Sel.refl | apply Sel.nil | apply Sel.cons (by repeat (first | apply Pick.here | apply Pick.there)) | apply Sel.drop)); done) | fail) : Sel L' L := h
theorem leF {g g' : Gh} (h : g.le g' := by first | with_reducible apply Gh.le.refl | assumption | apply Gh.le.refl) : g.le g' := h
def nthFreeL : Nat → Nat → List Bool → Option Nat
  | _, _, [] => none
  | k, i, true :: r => nthFreeL k (i + 1) r
  | 0, i, false :: _ => some i
  | k + 1, i, false :: r => nthFreeL k (i + 1) r
def nthFree (k : Nat) (listed : Array Bool) : Option Nat := nthFreeL k 0 listed.toList
section
variable {P : Program} {ops : Array Oper} {Q : Exit → Act → World → Prop} {rest : List Oper} {n : Nat} {ds : List Deferred} {S : Slots} {g gS : Gh} {L LS : List Ent} {sk : Nat}
variable {id fuel : Nat} {listed : Array Bool} {o : Oper} {v : Value} {d : Nat} {op : Op} {ty : TypeId} {pos : String} {aft : Array Edge}
theorem TA.takeN {l : List Oper} (k : Nat) {i : Nat} {ap : Array Bool} (_hu : nthFree k listed = some i) (hr : (Region.ready .any l.toArray listed).contains i = true) (hi : nthO l i = some ⟨some d, op, ty, pos, aft, none⟩) (hy : Yields P n ds S gS LS ⟨some d, op, ty, pos, aft, none⟩ v) (hf : Region.free .any l.toArray listed i = true) (hn : Region.noSelect l.toArray = true)
    (hd : Nat.blt d n = true) (hQ : ∀ c a w, Q (.panic c) (a.put (some d) v) w → Q (.panic c) a w) (hl : listed.setIfInBounds i true = ap) (kk : TA P l.toArray Q gS LS fuel ap n ds ((d, v) :: S) g L) : TA P l.toArray Q gS LS (fuel + 1) listed n ds S g L := .take i hr hi hy hf hn hd hQ hl kk
theorem TA.take_gN {l : List Oper} (k : Nat) {i : Nat} {j t : Nat} {want : Bool} {ap : Array Bool} (_hu : nthFree k listed = some i) (hr : (Region.ready .any l.toArray listed).contains i = true) (hi : nthO l i = some ⟨some d, op, ty, pos, aft, some (j, want)⟩) (hg : gslot l.toArray j = some t) (hb : look t S = some (.bool want)) (hy : Yields P n ds S gS LS ⟨some d, op, ty, pos, aft, some (j, want)⟩ v) (hf : Region.free .any l.toArray listed i = true) (hn : Region.noSelect l.toArray = true)
    (hd : Nat.blt d n = true) (hQ : ∀ c a w, Q (.panic c) (a.put (some d) v) w → Q (.panic c) a w) (hl : listed.setIfInBounds i true = ap) (kk : TA P l.toArray Q gS LS fuel ap n ds ((d, v) :: S) g L) : TA P l.toArray Q gS LS (fuel + 1) listed n ds S g L := .take_g i hr hi hg hb hy hf hn hd hQ hl kk
theorem TA.oneN {l : List Oper} (k : Nat) {i : Nat} {ap : Array Bool} (_hu : nthFree k listed = some i) (hi0 : nthO l i = some o) (hr : Region.ready .any l.toArray listed = [i]) (hl : listed.setIfInBounds i true = ap) (h : TL P l.toArray (AnyQ P l.toArray Q gS LS fuel ap) [o] n ds S g L) : TA P l.toArray Q gS LS (fuel + 1) listed n ds S g L := .one i hi0 hr hl h
theorem TA.no_gN {l : List Oper} (k : Nat) {i : Nat} {j t : Nat} {want b : Bool} {ap : Array Bool} (_hu : nthFree k listed = some i) (hr : (Region.ready .any l.toArray listed).contains i = true) (hi : nthO l i = some ⟨some d, op, ty, pos, aft, some (j, want)⟩) (hg : gslot l.toArray j = some t) (hb : look t S = some (.bool b)) (hne : (b == want) = false) (hf : Region.free .any l.toArray listed i = true) (hn : Region.noSelect l.toArray = true)
    (hd : Nat.blt d n = true) (hQ : ∀ c a w, Q (.panic c) (a.put (some d) undef) w → Q (.panic c) a w) (hl : listed.setIfInBounds i true = ap) (kk : TA P l.toArray Q gS LS fuel ap n ds ((d, undef) :: S) g L) : TA P l.toArray Q gS LS (fuel + 1) listed n ds S g L := .no_g i hr hi hg hb hne hf hn hd hQ hl kk
end
end Go.TL
namespace Go.TL
open Go Go.RowKit Go.Proofs.YtgollffmdpejiaaGreatDoor
section
variable {P : Program} {n : Nat} {ds : List Deferred} {S : Slots} {g : Gh} {L : List Ent} {gd : Option (Nat × Bool)} {dst : Option Nat} {x y : Operand} {t t' ty : TypeId} {pos : String} {aft : Array Edge} {p q : Int} {k : IntKind}
theorem Y.lss_b {b : Bool} (hb : decide (p < q) = b) (hx : ev S x = some (.int k p)) (hy : ev S y = some (.int k q)) : Yields P n ds S g L ⟨dst, .binOp .lss t x y t', ty, pos, aft, gd⟩ (.bool b) := by
  subst hb; exact Y.lss hx hy
theorem Y.geq_b {b : Bool} (hb : decide (q ≤ p) = b) (hx : ev S x = some (.int k p)) (hy : ev S y = some (.int k q)) : Yields P n ds S g L ⟨dst, .binOp .geq t x y t', ty, pos, aft, gd⟩ (.bool b) := by
  subst hb; exact Y.geq hx hy
theorem Y.gtr_b {b : Bool} (hb : decide (q < p) = b) (hx : ev S x = some (.int k p)) (hy : ev S y = some (.int k q)) : Yields P n ds S g L ⟨dst, .binOp .gtr t x y t', ty, pos, aft, gd⟩ (.bool b) := by
  subst hb; exact Y.gtr hx hy
theorem Y.eql_b {b : Bool} (hb : decide (p = q) = b) (hx : ev S x = some (.int k p)) (hy : ev S y = some (.int k q)) : Yields P n ds S g L ⟨dst, .binOp .eql t x y t', ty, pos, aft, gd⟩ (.bool b) := by
  subst hb; exact Y.eql hx hy
theorem Y.neq_b {b : Bool} (hb : (!decide (p = q)) = b) (hx : ev S x = some (.int k p)) (hy : ev S y = some (.int k q)) : Yields P n ds S g L ⟨dst, .binOp .neq t x y t', ty, pos, aft, gd⟩ (.bool b) := by
  subst hb; exact Y.neq hx hy
theorem Y.leqB {b : Bool} (hb : decide (p ≤ q) = b) (hx : ev S x = some (.int k p)) (hy : ev S y = some (.int k q)) : Yields P n ds S g L ⟨dst, .binOp .leq t x y t', ty, pos, aft, gd⟩ (.bool b) := by
  subst hb; exact Y.leq hx hy
end
end Go.TL
namespace Go.TL
open Go Go.RowKit Go.Proofs.YtgollffmdpejiaaGreatDoor
theorem part_set (off : Nat) (vs pre mid post : List Value) (_hp : pre.length = off) (hl : vs.length = mid.length) : (vs.toArray.zipIdx.foldl (fun cs (x : Value × Nat) => cs.setIfInBounds (off + x.2) x.1) (pre ++ (mid ++ post)).toArray) = (pre ++ (vs ++ post)).toArray := by
  have key : ∀ (us : List Value) (k : Nat) (pre mid : List Value), pre.length = off + k → us.length = mid.length → ((us.zipIdx k).foldl (fun cs (x : Value × Nat) => cs.setIfInBounds (off + x.2) x.1) (pre ++ (mid ++ post)).toArray) = (pre ++ (us ++ post)).toArray := by
    intro us
    induction us with
    | nil => intro k pre mid _ h; have : mid = [] := List.eq_nil_of_length_eq_zero h.symm; subst this; simp
    | cons u r ih =>
      intro k pre mid hk h
      cases mid with
      | nil => simp at h
      | cons p q =>
        rw [List.zipIdx_cons, List.foldl_cons]
        have h2 := ih (k + 1) (pre ++ [u]) q (by rw [List.length_append, List.length_singleton]; omega) (by simpa using h)
        have h3 : (pre ++ (p :: q ++ post)).toArray.setIfInBounds (off + k) u = ((pre ++ [u]) ++ (q ++ post)).toArray := by rw [← hk]; simp
        rw [h3, h2]
        simp
  have := key vs 0 pre mid (by omega) hl
  rw [← Array.foldl_toList]
  simpa using this
section
variable {P : Program} {ops : Array Oper} {Q : Exit → Act → World → Prop} {rest : List Oper} {n : Nat} {ds : List Deferred} {S : Slots} {g : Gh} {L : List Ent}
variable {d : Nat} {ty : TypeId} {pos : String} {aft : Array Edge} {x y : Operand} {z : Value} {t e : TypeId} {sz bytes : Nat}
end
end Go.TL
namespace Go.TL
open Go Go.RowKit Go.Proofs.YtgollffmdpejiaaGreatDoor
section
variable {P : Program} {ops : Array Oper} {Q : Exit → Act → World → Prop} {rest : List Oper} {n : Nat} {ds : List Deferred} {S : Slots} {g : Gh} {L L' : List Ent} {w : World}
variable {d k : Nat} {ty : TypeId} {pos : String} {aft : Array Edge} {x y : Operand} {v : Value} {t u e : TypeId} {bs : List UInt8} {xs : List Value}
theorem strCells_eq (bs : List UInt8) : Lib.strCells ⟨bs.toArray⟩ = byteVals bs := rfl
theorem run_append_str {ty : TypeId} {i : TypeInfo} (ht : P.underlying t = some (.slice e)) (hu : P.underlying u = some .string) (hi : P.info? e = some i) (hz : i.zero = some (.int .u8 0)) (hs : i.size = 1) (hb : i.bytes = 1) (hown : w.ownsRow 0 e 1 v k xs) (_hl : k + bs.length ≤ 1000000000) :
    ∃ v' w', (Builtin.append_ #[t, u] ty #[v, .string ⟨bs.toArray⟩]).run P w = .ok v' w' ∧ w'.ownsRow 0 e 1 v' (k + bs.length) (xs ++ byteVals bs) ∧ Owns w w' v v' := by
  have hsz : (⟨bs.toArray⟩ : ByteArray).size = bs.length := by simp [ByteArray.size]
  obtain ⟨v', w', hr, h2, h3, _⟩ := Lib.run_append_own_string (w := w) (P := P) 0 t u ty e i ht hu hi hz hs hb v k xs hown ⟨bs.toArray⟩ (by rw [hsz]; unfold maxLen; omega) (by rw [hsz]; omega) (Nat.zero_le _)
  rw [hsz, strCells_eq] at h2
  refine ⟨v', w', hr, h2, h3, fun b hk => ?_⟩
  rcases hown.2 with ⟨rfl, rfl⟩ | ⟨g0, cap, cur, rfl, _, hg, hnc, hcm, hcs, _⟩
  · have hxs : xs = [] := List.eq_nil_of_length_eq_zero (by simpa using hown.1)
    subst hxs
    obtain ⟨v2, w2, hr2, h22, _, _⟩ := Lib.run_append_own_string (w := w) (P := P) w.heap.size t u ty e i ht hu hi hz hs hb _ 0 [] (World.ownsRow_nil w w.heap.size e 1) ⟨bs.toArray⟩ (by rw [hsz]; unfold maxLen; omega) (by rw [hsz]; omega) (Nat.le_refl _)
    rw [hr2] at hr
    obtain ⟨rfl, rfl⟩ : v2 = v' ∧ w2 = w' := by simpa using hr
    rcases h22.2 with ⟨rfl, _⟩ | ⟨g1, _, _, rfl, hb1, _⟩
    · simp [Value.ownBlock] at hk
    · obtain rfl : g1 = b := by simpa [Value.ownBlock] using hk
      exact .inr hb1
  · by_cases hroom : k + bs.length ≤ cap
    · have hr2 := Lib.run_append_room_string (w := w) (P := P) t u ty e i ht hu hi hs g0 k cap cur hg ⟨bs.toArray⟩ (by rw [hsz]; exact hroom) (by rw [hsz]; omega)
      rw [hr2] at hr
      obtain ⟨rfl, rfl⟩ := by simpa using hr
      exact .inl (by simpa [Value.ownBlock] using hk)
    · have holds : ∀ j u, xs[j]? = some u → w.cell? ((⟨g0, 0, none⟩ : Addr).add j) = some u := hown.cells (g := g0) rfl
      have hr2 := Lib.run_append_grow_string (w := w) (P := P) t u ty e i (.int .u8 0) ht hu hi hz ⟨g0, 0, none⟩ k cap xs (by rw [hs]; simpa using hown.1) holds ⟨bs.toArray⟩ (by rw [hsz]; omega) (by rw [hsz]; omega) (by rw [hb]; exact growslice_fits (by rw [hsz]; omega) (by rw [hsz]; omega))
      rw [hr2] at hr
      obtain ⟨rfl, rfl⟩ := by simpa using hr
      right
      have : w.heap.size = b := by simpa [Value.ownBlock] using hk
      omega
theorem TL.append_str [ht : Und P t (.slice e)] [hu : Und P u .string] [hi : Inf P e 1 1 (.int .u8 0)] (hx : ev S x = some v) (hy : ev S y = some (.string ⟨bs.toArray⟩)) (hm : Pick (.row e 1 v k xs) L L') (hb : k + bs.length ≤ 1000000000) (hd : Nat.blt d n = true)
    (kk : ∀ v', TL P ops Q rest n ds ((d, v') :: S) g (.row e 1 v' (k + bs.length) (xs ++ byteVals bs) :: L')) : TL P ops Q (⟨some d, .call { callee := .builtin .append, args := #[x, y], argTypes := #[t, u] }, ty, pos, aft, none⟩ :: rest) n ds S g L := .mk fun a w hf hs =>
  wpList_plain rfl fun K hK => by
    have hs1 := hs.perm hm.perm
    obtain ⟨i, hii, hs2, hb2, hz⟩ := hi.eq
    obtain ⟨v', w', hr, h2, h3⟩ := run_append_str (P := P) (ty := ty) ht.eq hu.eq hii hz hs2 hb2 (hs1.st _ List.mem_cons_self) hb
    unfold Oper.wp execOp
    simp only [resolve, invoke, builtin, Sem.run_bind, Sem.run_pure, Result.andThen_ok, List.map_toArray, List.map_cons, List.map_nil, hf.ev hx, hf.ev hy, hr]
    exact hK _ _ ((kk v').h _ w' (hf.put hd v') (hs1.grown h2 h3))
theorem St.laid {b : Nat} {C : Array Value} {fz : Nat × Nat} {cap m : Nat} (hs : St g (.obj b (.cells C e fz) :: L) w) (hC : C.toList.take m = xs) (hl : xs.length = m) (hm : m ≤ cap) : ∃ g', g.le g' ∧ Sl g' (.slice (some ⟨b, 0, none⟩) m cap) m 1 xs ∧ St g' L w := by
  have h0 : w.heap[b]? = some (.cells C e fz) := hs.st _ List.mem_cons_self
  refine ⟨_, hs.freeze.1, ⟨by rw [hl, Nat.mul_one], _, cap, rfl, hm, fun j u hu => ⟨b, 0, rfl, ?_⟩⟩, hs.freeze.2⟩
  unfold Gh.cell Gh.with
  simp only [Ent.fp, List.mem_singleton, if_true, h0, Nat.zero_add]
  rw [← hC, List.getElem?_take] at hu
  split at hu
  · simpa using hu
  · cases hu
end
end Go.TL
