/-
  In a region that draws its order: an operation that is not wanted is passed over first; two that may both come up.
-/
import Derived.Test.YtfanccddokckcaaGreatDoorSb1
namespace Go.TL
open Go Go.RowKit Go.Proofs.YtfanccddokckcaaGreatDoor
section
variable {P : Program} {ops : Array Oper} {Q : Exit → Act → World → Prop} {n : Nat} {ds : List Deferred} {S : Slots} {g gS : Gh} {L LS : List Ent}
variable {fuel sk : Nat} {listed : Array Bool} {d : Nat} {op : Op} {ty : TypeId} {pos : String} {aft : Array Edge}
theorem TA.no_g {l : List Oper} (i : Nat) {j t : Nat} {want b : Bool} {ap : Array Bool} (hr : (Region.ready .any l.toArray listed).contains i = true) (hi : nthO l i = some ⟨some d, op, ty, pos, aft, some (j, want)⟩) (hg : gslot l.toArray j = some t) (hb : look t S = some (.bool b)) (hne : (b == want) = false) (hf : Region.free .any l.toArray listed i = true) (hn : Region.noSelect l.toArray = true)
    (hd : Nat.blt d n = true) (hQ : ∀ c a w, Q (.panic c) (a.put (some d) undef) w → Q (.panic c) a w) (hl : listed.setIfInBounds i true = ap) (k : TA P l.toArray Q gS LS fuel ap n ds ((d, undef) :: S) g L) : TA P l.toArray Q gS LS (fuel + 1) listed n ds S g L := .mk fun a w hfr hs hS => by
  subst hl
  exact wpAnyH_take ((nthO_eq l i).trans hi) hn hf hr hQ (.inr ⟨by rw [wanted_of hg hb hfr]; exact hne, rfl⟩) hS (k.h _ w (hfr.put hd undef) hs hS)
theorem TA.no_u {l : List Oper} (i : Nat) {j t : Nat} {want : Bool} {ap : Array Bool} (hr : (Region.ready .any l.toArray listed).contains i = true) (hi : nthO l i = some ⟨some d, op, ty, pos, aft, some (j, want)⟩) (hg : gslot l.toArray j = some t) (hb : look t S = some undef) (hf : Region.free .any l.toArray listed i = true) (hn : Region.noSelect l.toArray = true)
    (hd : Nat.blt d n = true) (hQ : ∀ c a w, Q (.panic c) (a.put (some d) undef) w → Q (.panic c) a w) (hl : listed.setIfInBounds i true = ap) (k : TA P l.toArray Q gS LS fuel ap n ds ((d, undef) :: S) g L) : TA P l.toArray Q gS LS (fuel + 1) listed n ds S g L := .mk fun a w hfr hs hS => by
  subst hl
  exact wpAnyH_take ((nthO_eq l i).trans hi) hn hf hr hQ (.inr ⟨unwanted_of hg hb hfr, rfl⟩) hS (k.h _ w (hfr.put hd undef) hs hS)
theorem TA.two {l : List Oper} (i j : Nat) {oi oj : Oper} {ai aj : Array Bool} (hi0 : nthO l i = some oi) (hj0 : nthO l j = some oj) (hr : Region.ready .any l.toArray listed = [i, j]) (hli : listed.setIfInBounds i true = ai) (hlj : listed.setIfInBounds j true = aj)
    (hi : TL P l.toArray (AnyQ P l.toArray Q gS LS fuel ai) [oi] n ds S g L) (hj : TL P l.toArray (AnyQ P l.toArray Q gS LS fuel aj) [oj] n ds S g L) : TA P l.toArray Q gS LS (fuel + 1) listed n ds S g L := .mk fun a w hf hs _ => by
  subst hli hlj
  refine wpAnyH_all hr (by simp) fun k hk => ?_
  have key : ∀ k o, nthO l k = some o → TL P l.toArray (AnyQ P l.toArray Q gS LS fuel (listed.setIfInBounds k true)) [o] n ds S g L → wpOp P l.toArray Q k (fun a' w' => St gS LS w' ∧ wpAnyH P .any l.toArray Q (St gS LS) fuel (listed.setIfInBounds k true) a' w') a w := fun k o ho h => by
    have hi := (nthO_eq l k).trans ho
    have h1 := h.h a w hf hs
    unfold wpOp
    simp only [hi]
    unfold wpList at h1
    by_cases hw : Region.wanted o (yielded l.toArray a.tmps) = true
    · rw [if_pos hw] at h1 ⊢
      rcases h1 with h1 | ⟨ha, hlets⟩
      · refine .inl ?_
        unfold Oper.wp at h1 ⊢
        generalize (execOp a.eval o).run P w = r at *
        cases r with
        | ok m w' =>
          cases m <;> simp only [Oper.upon] at h1 ⊢ <;> first | exact h1 | exact h1.mono fun e w'' he => by cases e <;> exact he
        | halt x w' => cases x <;> simp only [Oper.upon] at h1 ⊢ <;> exact h1
      · exact .inr ⟨ha, hlets⟩
    · rw [if_neg hw] at h1 ⊢
      exact h1
  rcases List.mem_cons.1 hk with rfl | hk
  · exact key _ _ hi0 hi
  · obtain rfl := List.mem_singleton.1 hk
    exact key _ _ hj0 hj
theorem TB.two {l : List Oper} (i j : Nat) {oi oj : Oper} {ai aj : Array Bool} (hi0 : nthO l i = some oi) (hj0 : nthO l j = some oj) (hr : Region.ready .any l.toArray listed = [i, j]) (hli : listed.setIfInBounds i true = ai) (hlj : listed.setIfInBounds j true = aj)
    (hi : sinkA .any l.toArray sk = true → TL P l.toArray (AnyT P l.toArray Q gS LS sk fuel ai i) [oi] n ds S g L) (hj : sinkA .any l.toArray sk = true → TL P l.toArray (AnyT P l.toArray Q gS LS sk fuel aj j) [oj] n ds S g L) : TB P l.toArray Q gS LS sk (fuel + 1) listed n ds S g L := .mk fun hk a w hf hs _ => by
  subst hli hlj
  have key : ∀ k o, nthO l k = some o → TL P l.toArray (AnyT P l.toArray Q gS LS sk fuel (listed.setIfInBounds k true) k) [o] n ds S g L → wpOp P l.toArray Q k (fun a' w' => (k ≠ sk → St gS LS w') ∧ wpAnyT P .any l.toArray Q (St gS LS) sk fuel (listed.setIfInBounds k true) a' w') a w := fun k o ho h => by
    have hi := (nthO_eq l k).trans ho
    have h1 := h.h a w hf hs
    unfold wpOp
    simp only [hi]
    unfold wpList at h1
    by_cases hw : Region.wanted o (yielded l.toArray a.tmps) = true
    · rw [if_pos hw] at h1 ⊢
      rcases h1 with h1 | ⟨ha, hlets⟩
      · refine .inl ?_
        unfold Oper.wp at h1 ⊢
        generalize (execOp a.eval o).run P w = r at *
        cases r with
        | ok m w' =>
          cases m <;> simp only [Oper.upon] at h1 ⊢ <;> first | exact h1 | exact h1.mono fun e w'' he => by cases e <;> exact he
        | halt x w' => cases x <;> simp only [Oper.upon] at h1 ⊢ <;> exact h1
      · exact .inr ⟨ha, hlets⟩
    · rw [if_neg hw] at h1 ⊢
      exact h1
  refine ⟨fun h0 => (by rw [hr] at h0; cases h0), fun k hk2 => ?_⟩
  rw [hr] at hk2
  rcases List.mem_cons.1 hk2 with rfl | hk2
  · exact key _ _ hi0 (hi hk)
  · obtain rfl := List.mem_singleton.1 hk2
    exact key _ _ hj0 (hj hk)
end
section
variable {P : Program} {g : Gh} {L : List Ent} {b : Nat} {E : TypeId}
end
section
variable {P : Program} {ops : Array Oper} {Q : Exit → Act → World → Prop} {rest : List Oper} {n : Nat} {ds : List Deferred} {S : Slots} {g : Gh} {L L' : List Ent} {ty : TypeId} {pos : String} {aft : Array Edge} {x y : Operand} {z : Value} {t e : TypeId} {sz bytes k cap b off : Nat} {xs us : List Value}
end
section
variable {P : Program} {Q : Exit → Act → World → Prop} {n : Nat} {ds : List Deferred} {S : Slots} {g : Gh} {L : List Ent}
def SeqL : List Code → Code → Code
  | [], r => r
  | c :: cs, r => c.seq (SeqL cs r)
def ThenL (P : Program) : List Code → (Exit → Act → World → Prop) → Exit → Act → World → Prop
  | [], Q => Q
  | c :: cs, Q => Then P c (ThenL P cs Q)
theorem ThenL.mono {Q' : Exit → Act → World → Prop} {rest : Code} (hc : ∀ e a w, Q' e a w → (Exit.then (rest.wp P Q) Q) e a w) : ∀ (ys : List Code) (e : Exit) (a : Act) (w : World), ThenL P ys Q' e a w → (Exit.then ((SeqL ys rest).wp P Q) Q) e a w
  | [], e, a, w, h => hc e a w h
  | y :: ys, e, a, w, h => by
    cases e with
    | normal => exact wp_seq (Code.wp_mono (fun e a w => ThenL.mono hc ys e a w) h)
    | _ => exact ThenL.mono hc ys _ a w h
end
section
variable {P : Program} {ops : Array Oper} {Q : Exit → Act → World → Prop} {rest : List Oper} {n : Nat} {ds : List Deferred} {S : Slots} {g gS : Gh} {L LS : List Ent} {sk : Nat}
variable {id fuel : Nat} {listed : Array Bool} {o : Oper} {v : Value} {d : Nat} {op : Op} {ty : TypeId} {pos : String} {aft : Array Edge}
theorem TA.takeF {l : List Oper} (i : Nat) {ap : Array Bool} (_hu : listed.getD i true = false) (hr : (Region.ready .any l.toArray listed).contains i = true) (hi : nthO l i = some ⟨some d, op, ty, pos, aft, none⟩) (hy : Yields P n ds S gS LS ⟨some d, op, ty, pos, aft, none⟩ v) (hf : Region.free .any l.toArray listed i = true) (hn : Region.noSelect l.toArray = true)
    (hd : Nat.blt d n = true) (hQ : ∀ c a w, Q (.panic c) (a.put (some d) v) w → Q (.panic c) a w) (hl : listed.setIfInBounds i true = ap) (k : TA P l.toArray Q gS LS fuel ap n ds ((d, v) :: S) g L) : TA P l.toArray Q gS LS (fuel + 1) listed n ds S g L := .take i hr hi hy hf hn hd hQ hl k
theorem TA.oneF {l : List Oper} (i : Nat) {ap : Array Bool} (_hu : listed.getD i true = false) (hi0 : nthO l i = some o) (hr : Region.ready .any l.toArray listed = [i]) (hl : listed.setIfInBounds i true = ap) (h : TL P l.toArray (AnyQ P l.toArray Q gS LS fuel ap) [o] n ds S g L) : TA P l.toArray Q gS LS (fuel + 1) listed n ds S g L := .one i hi0 hr hl h
theorem TB.takeF {l : List Oper} (i : Nat) {ap : Array Bool} (_hu : listed.getD i true = false) (hr : (Region.ready .any l.toArray listed).contains i = true) (hi : nthO l i = some ⟨some d, op, ty, pos, aft, none⟩) (hy : Yields P n ds S gS LS ⟨some d, op, ty, pos, aft, none⟩ v) (hf : Region.free .any l.toArray listed i = true) (hn : Region.noSelect l.toArray = true)
    (hd : Nat.blt d n = true) (hQ : ∀ c a w, Q (.panic c) (a.put (some d) v) w → Q (.panic c) a w) (hl : listed.setIfInBounds i true = ap) (k : TB P l.toArray Q gS LS sk fuel ap n ds ((d, v) :: S) g L) : TB P l.toArray Q gS LS sk (fuel + 1) listed n ds S g L := .take i hr hi hy hf hn hd hQ hl k
theorem TB.oneF {l : List Oper} (i : Nat) {ap : Array Bool} (_hu : listed.getD i true = false) (hi0 : nthO l i = some o) (hr : Region.ready .any l.toArray listed = [i]) (hl : listed.setIfInBounds i true = ap) (h : sinkA .any l.toArray sk = true → TL P l.toArray (AnyT P l.toArray Q gS LS sk fuel ap i) [o] n ds S g L) : TB P l.toArray Q gS LS sk (fuel + 1) listed n ds S g L := .one i hi0 hr hl h
end
section
variable {P : Program} {n : Nat} {ds : List Deferred} {S : Slots} {g : Gh} {L : List Ent} {v : Value} {dst : Option Nat} {op : Op} {ty : TypeId} {pos : String} {aft : Array Edge} {gd : Option (Nat × Bool)}
theorem yQ {o : Oper} (h : Yields P n ds S g L o v := by first | ((with_reducible apply Y.move); (· rfl)) | ((with_reducible apply Y.assign); (· rfl)) | ((with_reducible apply Y.extract); (· rfl); (· rfl)) | ((with_reducible apply Y.field); (· rfl)) | ((with_reducible apply Y.load); (· rfl); (· first | ((repeat (first | with_reducible apply Pick.here | with_reducible apply Pick.there)); done) | ((repeat (first | apply Pick.here | apply Pick.there)); done)); (· rfl)) | ((with_reducible apply Y.load_whole); (· rfl); (· first | ((repeat (first | with_reducible apply Pick.here | with_reducible apply Pick.there)); done) | ((repeat (first | apply Pick.here | apply Pick.there)); done)); (· rfl)) | ((with_reducible apply Y.pick_true); (· rfl); (· rfl)) | ((with_reducible apply Y.pick_false); (· rfl); (· rfl)) | fail) : Yields P n ds S g L o v := h
end
theorem selF {L' L : List Ent} (h : Sel L' L := by first | ((repeat (first | with_reducible apply Sel.refl | with_reducible apply Sel.nil | with_reducible apply Sel.cons (by repeat (first | with_reducible apply Pick.here | with_reducible apply Pick.there)) | with_reducible apply Sel.drop)); done) | ((repeat (first | apply Sel.refl | apply Sel.nil | apply Sel.cons (by repeat (first | apply Pick.here | apply Pick.there)) | apply Sel.drop)); done) | fail) : Sel L' L := h
theorem leF {g g' : Gh} (h : g.le g' := by first | with_reducible apply Gh.le.refl | assumption | apply Gh.le.refl) : g.le g' := h
def nthFreeL : Nat → Nat → List Bool → Option Nat
  | _, _, [] => none
  | k, i, true :: r => nthFreeL k (i + 1) r
  | 0, i, false :: _ => some i
  | k + 1, i, false :: r => nthFreeL k (i + 1) r
def nthFree (k : Nat) (listed : Array Bool) : Option Nat := nthFreeL k 0 listed.toList
section
variable {P : Program} {ops : Array Oper} {Q : Exit → Act → World → Prop} {rest : List Oper} {n : Nat} {ds : List Deferred} {S : Slots} {g gS : Gh} {L LS : List Ent} {sk : Nat}
variable {id fuel : Nat} {listed : Array Bool} {o : Oper} {v : Value} {d : Nat} {op : Op} {ty : TypeId} {pos : String} {aft : Array Edge}
theorem TA.takeN {l : List Oper} (k : Nat) {i : Nat} {ap : Array Bool} (_hu : nthFree k listed = some i) (hr : (Region.ready .any l.toArray listed).contains i = true) (hi : nthO l i = some ⟨some d, op, ty, pos, aft, none⟩) (hy : Yields P n ds S gS LS ⟨some d, op, ty, pos, aft, none⟩ v) (hf : Region.free .any l.toArray listed i = true) (hn : Region.noSelect l.toArray = true)
    (hd : Nat.blt d n = true) (hQ : ∀ c a w, Q (.panic c) (a.put (some d) v) w → Q (.panic c) a w) (hl : listed.setIfInBounds i true = ap) (kk : TA P l.toArray Q gS LS fuel ap n ds ((d, v) :: S) g L) : TA P l.toArray Q gS LS (fuel + 1) listed n ds S g L := .take i hr hi hy hf hn hd hQ hl kk
theorem TA.take_gN {l : List Oper} (k : Nat) {i : Nat} {j t : Nat} {want : Bool} {ap : Array Bool} (_hu : nthFree k listed = some i) (hr : (Region.ready .any l.toArray listed).contains i = true) (hi : nthO l i = some ⟨some d, op, ty, pos, aft, some (j, want)⟩) (hg : gslot l.toArray j = some t) (hb : look t S = some (.bool want)) (hy : Yields P n ds S gS LS ⟨some d, op, ty, pos, aft, some (j, want)⟩ v) (hf : Region.free .any l.toArray listed i = true) (hn : Region.noSelect l.toArray = true)
    (hd : Nat.blt d n = true) (hQ : ∀ c a w, Q (.panic c) (a.put (some d) v) w → Q (.panic c) a w) (hl : listed.setIfInBounds i true = ap) (kk : TA P l.toArray Q gS LS fuel ap n ds ((d, v) :: S) g L) : TA P l.toArray Q gS LS (fuel + 1) listed n ds S g L := .take_g i hr hi hg hb hy hf hn hd hQ hl kk
theorem TA.oneN {l : List Oper} (k : Nat) {i : Nat} {ap : Array Bool} (_hu : nthFree k listed = some i) (hi0 : nthO l i = some o) (hr : Region.ready .any l.toArray listed = [i]) (hl : listed.setIfInBounds i true = ap) (h : TL P l.toArray (AnyQ P l.toArray Q gS LS fuel ap) [o] n ds S g L) : TA P l.toArray Q gS LS (fuel + 1) listed n ds S g L := .one i hi0 hr hl h
theorem TA.no_gN {l : List Oper} (k : Nat) {i : Nat} {j t : Nat} {want b : Bool} {ap : Array Bool} (_hu : nthFree k listed = some i) (hr : (Region.ready .any l.toArray listed).contains i = true) (hi : nthO l i = some ⟨some d, op, ty, pos, aft, some (j, want)⟩) (hg : gslot l.toArray j = some t) (hb : look t S = some (.bool b)) (hne : (b == want) = false) (hf : Region.free .any l.toArray listed i = true) (hn : Region.noSelect l.toArray = true)
    (hd : Nat.blt d n = true) (hQ : ∀ c a w, Q (.panic c) (a.put (some d) undef) w → Q (.panic c) a w) (hl : listed.setIfInBounds i true = ap) (kk : TA P l.toArray Q gS LS fuel ap n ds ((d, undef) :: S) g L) : TA P l.toArray Q gS LS (fuel + 1) listed n ds S g L := .no_g i hr hi hg hb hne hf hn hd hQ hl kk
theorem TA.no_uN {l : List Oper} (k : Nat) {i : Nat} {j t : Nat} {want : Bool} {ap : Array Bool} (_hu : nthFree k listed = some i) (hr : (Region.ready .any l.toArray listed).contains i = true) (hi : nthO l i = some ⟨some d, op, ty, pos, aft, some (j, want)⟩) (hg : gslot l.toArray j = some t) (hb : look t S = some undef) (hf : Region.free .any l.toArray listed i = true) (hn : Region.noSelect l.toArray = true)
    (hd : Nat.blt d n = true) (hQ : ∀ c a w, Q (.panic c) (a.put (some d) undef) w → Q (.panic c) a w) (hl : listed.setIfInBounds i true = ap) (kk : TA P l.toArray Q gS LS fuel ap n ds ((d, undef) :: S) g L) : TA P l.toArray Q gS LS (fuel + 1) listed n ds S g L := .no_u i hr hi hg hb hf hn hd hQ hl kk
theorem TB.takeN {l : List Oper} (k : Nat) {i : Nat} {ap : Array Bool} (_hu : nthFree k listed = some i) (hr : (Region.ready .any l.toArray listed).contains i = true) (hi : nthO l i = some ⟨some d, op, ty, pos, aft, none⟩) (hy : Yields P n ds S gS LS ⟨some d, op, ty, pos, aft, none⟩ v) (hf : Region.free .any l.toArray listed i = true) (hn : Region.noSelect l.toArray = true)
    (hd : Nat.blt d n = true) (hQ : ∀ c a w, Q (.panic c) (a.put (some d) v) w → Q (.panic c) a w) (hl : listed.setIfInBounds i true = ap) (kk : TB P l.toArray Q gS LS sk fuel ap n ds ((d, v) :: S) g L) : TB P l.toArray Q gS LS sk (fuel + 1) listed n ds S g L := .take i hr hi hy hf hn hd hQ hl kk
theorem TB.take_gN {l : List Oper} (k : Nat) {i : Nat} {j t : Nat} {want : Bool} {ap : Array Bool} (_hu : nthFree k listed = some i) (hr : (Region.ready .any l.toArray listed).contains i = true) (hi : nthO l i = some ⟨some d, op, ty, pos, aft, some (j, want)⟩) (hg : gslot l.toArray j = some t) (hb : look t S = some (.bool want)) (hy : Yields P n ds S gS LS ⟨some d, op, ty, pos, aft, some (j, want)⟩ v) (hf : Region.free .any l.toArray listed i = true) (hn : Region.noSelect l.toArray = true)
    (hd : Nat.blt d n = true) (hQ : ∀ c a w, Q (.panic c) (a.put (some d) v) w → Q (.panic c) a w) (hl : listed.setIfInBounds i true = ap) (kk : TB P l.toArray Q gS LS sk fuel ap n ds ((d, v) :: S) g L) : TB P l.toArray Q gS LS sk (fuel + 1) listed n ds S g L := .take_g i hr hi hg hb hy hf hn hd hQ hl kk
theorem TB.oneN {l : List Oper} (k : Nat) {i : Nat} {ap : Array Bool} (_hu : nthFree k listed = some i) (hi0 : nthO l i = some o) (hr : Region.ready .any l.toArray listed = [i]) (hl : listed.setIfInBounds i true = ap) (h : sinkA .any l.toArray sk = true → TL P l.toArray (AnyT P l.toArray Q gS LS sk fuel ap i) [o] n ds S g L) : TB P l.toArray Q gS LS sk (fuel + 1) listed n ds S g L := .one i hi0 hr hl h
end
end Go.TL
