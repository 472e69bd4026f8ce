/-
  A walk by lemmas: a drawn region that also calls or makes memory: what only reads is taken first, the rest goes one behind the other.
-/
import Derived.Test.YthifckfpjmhmjaaDoorTLval
import Derived.Deep.RegionHeld3
namespace Go.TL
open Go Go.RowKit Go.Proofs.YthifckfpjmhmjaaDoor

section
variable {P : Program} {ops : Array Oper} {Q : Exit → Act → World → Prop} {rest : List Oper} {n : Nat} {ds : List Deferred} {S : Slots} {g gS : Gh} {L LS : List Ent}
/-- Whatever order is picked from here on; meanwhile this much stays. -/
structure TA (P : Program) (ops : Array Oper) (Q : Exit → Act → World → Prop) (gS : Gh) (LS : List Ent) (fuel : Nat) (listed : Array Bool) (n : Nat) (ds : List Deferred) (S : Slots) (g : Gh) (L : List Ent) : Prop where
  h : ∀ a w, Fr n ds S a → St g L w → St gS LS w → wpAnyH P .any ops Q (St gS LS) fuel listed a w
/-- One operation, then the rest in whatever order. -/
def AnyQ (P : Program) (ops : Array Oper) (Q : Exit → Act → World → Prop) (gS : Gh) (LS : List Ent) (fuel : Nat) (listed : Array Bool) : Exit → Act → World → Prop
  | .normal, a, w => St gS LS w ∧ wpAnyH P .any ops Q (St gS LS) fuel listed a w
  | e, a, w => Q e a w
variable {id fuel i : Nat} {listed : Array Bool} {o : Oper} {v : Value} {d : Nat} {op : Op} {ty : TypeId} {pos : String} {aft : Array Edge}
theorem TC.region_any {l : List Oper} (N : Nat) (LS : List Ent) (hm : P.follows .mixedOrders = true) (hN : l.length = N) (hS : Sel LS L) (h : TA P l.toArray Q g LS N (Array.replicate N false) n ds S g L) : TC P Q (.region id l.toArray true) n ds S g L := .mk fun a w hf hs => by
  subst hN
  refine wp_region_held (S := St g LS) hm ?_
  simp only [List.size_toArray]
  exact h.h a _ hf hs.drew (hs.drew.sel hS)
def nthO : List Oper → Nat → Option Oper
  | [], _ => none
  | o :: _, 0 => some o
  | _ :: r, i + 1 => nthO r i
theorem nthO_eq : ∀ (l : List Oper) (i : Nat), l.toArray[i]? = nthO l i
  | [], i => by simp [nthO]
  | o :: r, 0 => by simp [nthO]
  | o :: r, i + 1 => by
    rw [nthO, ← nthO_eq r i]; simp
theorem TA.take {l : List Oper} (i : Nat) {ap : Array Bool} (hr : (Region.ready .any l.toArray listed).contains i = true) (hi : nthO l i = some ⟨some d, op, ty, pos, aft, none⟩) (hy : Yields P n ds S gS LS ⟨some d, op, ty, pos, aft, none⟩ v) (hf : Region.free .any l.toArray listed i = true) (hn : Region.noSelect l.toArray = true)
    (hd : Nat.blt d n = true) (hQ : ∀ c a w, Q (.panic c) (a.put (some d) v) w → Q (.panic c) a w) (hl : listed.setIfInBounds i true = ap) (k : TA P l.toArray Q gS LS fuel ap n ds ((d, v) :: S) g L) : TA P l.toArray Q gS LS (fuel + 1) listed n ds S g L := .mk fun a w hfr hs hS => by
  subst hl
  exact wpAnyH_take ((nthO_eq l i).trans hi) hn hf hr hQ (.inl ⟨by simp [Region.wanted], fun w' hw' => hy.h a w' hfr hw'⟩) hS (k.h _ w (hfr.put hd v) hs hS)
theorem TA.done (hr : Region.ready .any ops listed = []) (h : TQ Q .normal n ds S g L) : TA P ops Q gS LS fuel listed n ds S g L := .mk fun a w hf hs _ => wpAnyH_done hr (h.h a w hf hs) fuel
/-- The only one that may come up. -/
theorem TA.one {l : List Oper} (i : Nat) {ap : Array Bool} (hi0 : nthO l i = some o) (hr : Region.ready .any l.toArray listed = [i]) (hl : listed.setIfInBounds i true = ap) (h : TL P l.toArray (AnyQ P l.toArray Q gS LS fuel ap) [o] n ds S g L) : TA P l.toArray Q gS LS (fuel + 1) listed n ds S g L := .mk fun a w hf hs _ => by
  subst hl
  have hi := (nthO_eq l i).trans hi0
  refine wpAnyH_all hr (by simp) fun j hj => ?_
  obtain rfl : j = i := by simpa using hj
  have h1 := h.h a w hf hs
  unfold wpOp
  simp only [hi]
  unfold wpList at h1
  by_cases hw : Region.wanted o (yielded l.toArray a.tmps) = true
  · rw [if_pos hw] at h1 ⊢
    rcases h1 with h1 | ⟨ha, hlets⟩
    · refine .inl ?_
      unfold Oper.wp at h1 ⊢
      generalize (execOp a.eval o).run P w = r at *
      cases r with
      | ok m w' =>
        cases m <;> simp only [Oper.upon] at h1 ⊢ <;> first | exact h1 | exact h1.mono fun e w'' he => by cases e <;> exact he
      | halt x w' => cases x <;> simp only [Oper.upon] at h1 ⊢ <;> exact h1
    · exact .inr ⟨ha, hlets⟩
  · rw [if_neg hw] at h1 ⊢
    exact h1
theorem TQ.any (hg : gS.le g) (hL : Sel LS L) (h : TA P ops Q gS LS fuel listed n ds S g L) : TQ (AnyQ P ops Q gS LS fuel listed) .normal n ds S g L := .mk fun a w hf hs =>
  have hS : St gS LS w := (hs.less hg).sel hL
  ⟨hS, h.h a w hf hs hS⟩
theorem TQ.any_panic {c : List PanicEntry} (h : TQ Q (.panic c) n ds S g L) : TQ (AnyQ P ops Q gS LS fuel listed) (.panic c) n ds S g L := ⟨h.h⟩
end
end Go.TL
