/-
  What reading a question leaves, how many it makes. A question's own conditions, from its value. A struct of two texts and a struct of six cells is made. What Put and Drop tell; a value is like itself. The walk of the law's one: a question with a condition of a path. The walk of told: the program's value of a document's. The laws' arguments opened: a document's value, bytes.
-/
import Derived.Test.YtgollffmdpejiaaGreatDoorQz37
import Derived.Test.YtgollffmdpejiaaGreatDoorQz6
import Derived.Test.YtgollffmdpejiaaGreatDoorQz2
import Derived.Test.YtgollffmdpejiaaGreatDoorQz32
import Derived.Test.YtgollffmdpejiaaGreatDoorQz22
import Derived.Test.YtgollffmdpejiaaGreatDoorQz3
import Derived.Deep.Slices
import Derived.Deep.Fields
import Derived.ChangeSame
import Derived.ChangeSlices
import Derived.ChangeMaps5
namespace Go.Proofs.YtgollffmdpejiaaGreatDoor
open Go.RowKit Go.TL
set_option maxRecDepth 100000

theorem condLQ_len {p : List UInt8} : ∀ {left : Nat} {ns : List (List UInt8)} {vs : List J} {q : List Qn} {l1 : Nat}, condLQ p left ns vs = some (q, l1) → q.length + l1 ≤ left
  | left, n :: ns, v :: vs, q, l1, h => by
    cases left with
    | zero => rw [condLQ] at h; cases h
    | succ left =>
      rw [condLQ] at h
      split at h
      · cases hc : condLQ p left ns vs with
        | none => rw [hc] at h; cases h
        | some r =>
          obtain ⟨r1, r2⟩ := r
          rw [hc] at h
          cases h
          have := condLQ_len hc
          simp only [List.length_cons]
          omega
      · cases h
  | left, [], vs, q, l1, h => by cases left <;> (rw [condLQ] at h <;> first | (cases h; simp; done) | (intros; simp_all))
  | left, n :: ns, [], q, l1, h => by cases left <;> (rw [condLQ] at h <;> first | (cases h; simp; done) | (intros; simp_all))
theorem condsR_len {p : List UInt8} {v : J} {left : Nat} {q : List Qn} {l1 : Nat} (h : condsR p v left = some (q, l1)) : q.length + l1 ≤ left + 1 := by
  cases v with
  | obj ns vs =>
    rw [condsR] at h
    split at h
    · have := condLQ_len h; omega
    · cases h; simp; omega
  | _ => cases h; simp; omega
def LeF (f : Nat → J → Option (List Qn × Nat)) : Prop := ∀ left x q l1, f left x = some (q, l1) → l1 ≤ left
theorem manyF_le {f : Nat → J → Option (List Qn × Nat)} (hf : LeF f) : ∀ {l : List J} {left : Nat} {q : List Qn} {l1 : Nat}, manyF f left l = some (q, l1) → l1 ≤ left
  | [], left, q, l1, h => by rw [manyF] at h; cases h; exact Nat.le_refl _
  | x :: r, left, q, l1, h => by
    rw [manyF] at h
    cases hx : f left x with
    | none => rw [hx] at h; cases h
    | some a =>
      obtain ⟨a1, a2⟩ := a
      rw [hx] at h
      dsimp only at h
      cases hr : manyF f a2 r with
      | none => rw [hr] at h; cases h
      | some b =>
        obtain ⟨b1, b2⟩ := b
        rw [hr] at h
        cases h
        have h1 := hf _ _ _ _ hx
        have h2 := manyF_le hf hr
        omega
theorem manyQ_le {f : Nat → J → Option (List Qn × Nat)} (hf : LeF f) {x : J} {left : Nat} {q : List Qn} {l1 : Nat} (h : manyQ f left x = some (q, l1)) : l1 ≤ left := by
  cases x with
  | list l =>
    cases l with
    | nil => cases h
    | cons a r => exact manyF_le hf h
  | _ => cases h
theorem memQ_len {f : Nat → J → Option (List Qn × Nat)} (hf : LeF f) {n : List UInt8} {v : J} {left : Nat} {q : List Qn} {l1 : Nat} (h : memQ f n v left = some (q, l1)) : q.length + l1 ≤ left + 1 := by
  unfold memQ at h
  split at h
  · cases hm : manyQ f left v with
    | none => rw [hm] at h; cases h
    | some r => obtain ⟨r1, r2⟩ := r; rw [hm] at h; cases h; have := manyQ_le hf hm; simp; omega
  split at h
  · cases hm : manyQ f left v with
    | none => rw [hm] at h; cases h
    | some r => obtain ⟨r1, r2⟩ := r; rw [hm] at h; cases h; have := manyQ_le hf hm; simp; omega
  split at h
  · cases hm : f left v with
    | none => rw [hm] at h; cases h
    | some r => obtain ⟨r1, r2⟩ := r; rw [hm] at h; cases h; have := hf _ _ _ _ hm; simp; omega
  split at h
  · cases h
  split at h
  · exact condsR_len h
  · cases h
theorem membersQ_len {f : Nat → J → Option (List Qn × Nat)} (hf : LeF f) : ∀ {left : Nat} {ns : List (List UInt8)} {vs : List J} {q : List Qn} {l1 : Nat}, membersQ f left ns vs = some (q, l1) → q.length + l1 ≤ left
  | left, n :: ns, v :: vs, q, l1, h => by
    cases left with
    | zero => rw [membersQ] at h; cases h
    | succ left =>
      rw [membersQ] at h
      cases hm : memQ f n v left with
      | none => rw [hm] at h; cases h
      | some a =>
        obtain ⟨a1, a2⟩ := a
        rw [hm] at h
        dsimp only at h
        cases hr : membersQ f a2 ns vs with
        | none => rw [hr] at h; cases h
        | some b =>
          obtain ⟨b1, b2⟩ := b
          rw [hr] at h
          cases h
          have h1 := memQ_len hf hm
          have h2 := membersQ_len hf hr
          simp only [List.length_append]
          omega
  | left, [], vs, q, l1, h => by cases left <;> (rw [membersQ] at h <;> first | (cases h; simp; done) | (intros; simp_all))
  | left, n :: ns, [], q, l1, h => by cases left <;> (rw [membersQ] at h <;> first | (cases h; simp; done) | (intros; simp_all))
theorem rdQ_le : ∀ (d : Nat), LeF (rdQ d)
  | 0, left, x, q, l1, h => by rw [rdQ] at h; cases h
  | d + 1, left, x, q, l1, h => by
    cases x with
    | obj ns vs => rw [rdQ] at h; have := membersQ_len (rdQ_le d) h; omega
    | _ => cases h
end Go.Proofs.YtgollffmdpejiaaGreatDoor
namespace Go.Proofs.YtgollffmdpejiaaGreatDoor
open Go.RowKit Go.TL
set_option maxRecDepth 100000

def zipC {α : Type} (p : List UInt8) : List (List UInt8) → List α → List (List UInt8 × List UInt8 × α)
  | n :: ns, v :: vs => (p, n, v) :: zipC p ns vs
  | _, _ => []
def condsJ1 (p : List UInt8) (v : J) : List (List UInt8 × List UInt8 × J) := match v with
  | .obj ns vs => if opsJ (.obj ns vs) = true then zipC p ns vs else [(p, eqN, .obj ns vs)]
  | v => [(p, eqN, v)]
def condsJ : List (List UInt8) → List J → List (List UInt8 × List UInt8 × J)
  | n :: ns, v :: vs => (if named n = true then [] else condsJ1 n v) ++ condsJ ns vs
  | _, _ => []
theorem condsQ_append (a b : List Qn) : condsQ (a ++ b) = condsQ a ++ condsQ b := by
  induction a with
  | nil => rfl
  | cons q r ih => cases q <;> simp [condsQ, ih]
theorem condLQ_conds (p : List UInt8) : ∀ (left : Nat) (ns : List (List UInt8)) (vs : List J) (r : List Qn × Nat), condLQ p left ns vs = some r → condsQ r.1 = zipC p ns vs
  | left, [], vs, r, h => by
    rw [condLQ] at h
    · cases h; rfl
    · intro _ _ _ _ h1; cases h1
  | left, n :: ns, [], r, h => by
    rw [condLQ] at h
    · cases h; rfl
    · intro _ _ _ _ _ h1; cases h1
  | 0, n :: ns, v :: vs, r, h => by
    rw [condLQ] at h
    cases h
  | left + 1, n :: ns, v :: vs, r, h => by
    rw [condLQ] at h
    split at h
    · cases hc : condLQ p left ns vs with
      | none => rw [hc] at h; cases h
      | some s =>
        rw [hc] at h
        cases h
        show (p, n, v) :: condsQ s.1 = _
        rw [condLQ_conds p left ns vs s hc, zipC]
    · cases h
theorem condsR_conds {p : List UInt8} {v : J} {left : Nat} {r : List Qn × Nat} (h : condsR p v left = some r) : condsQ r.1 = condsJ1 p v := by
  cases v with
  | obj ns vs =>
    rw [condsR] at h
    rw [condsJ1]
    split at h
    · rename_i ho
      rw [if_pos ho]
      exact condLQ_conds _ _ _ _ _ h
    · rename_i ho
      rw [if_neg ho]
      cases h; rfl
  | _ => cases h; rfl
theorem memQ_conds {f : Nat → J → Option (List Qn × Nat)} {n : List UInt8} {v : J} {left : Nat} {r : List Qn × Nat} (h : memQ f n v left = some r) : condsQ r.1 = if named n = true then [] else condsJ1 n v := by
  unfold memQ at h
  split at h
  · rename_i hn
    subst hn
    cases hm : manyQ f left v with
    | none => rw [hm] at h; cases h
    | some s => rw [hm] at h; cases h; rfl
  split at h
  · rename_i _ hn
    subst hn
    cases hm : manyQ f left v with
    | none => rw [hm] at h; cases h
    | some s => rw [hm] at h; cases h; rfl
  split at h
  · rename_i _ _ hn
    subst hn
    cases hm : f left v with
    | none => rw [hm] at h; cases h
    | some s => rw [hm] at h; cases h; rfl
  split at h
  · cases h
  · rename_i hn
    rw [if_neg hn]
    split at h
    · exact condsR_conds h
    · cases h
theorem membersQ_conds (f : Nat → J → Option (List Qn × Nat)) : ∀ (left : Nat) (ns : List (List UInt8)) (vs : List J) (r : List Qn × Nat), membersQ f left ns vs = some r → condsQ r.1 = condsJ ns vs
  | left, [], vs, r, h => by
    rw [membersQ] at h
    · cases h; rfl
    · intro _ _ _ _ h1; cases h1
  | left, n :: ns, [], r, h => by
    rw [membersQ] at h
    · cases h; rfl
    · intro _ _ _ _ _ h1; cases h1
  | 0, n :: ns, v :: vs, r, h => by
    rw [membersQ] at h
    cases h
  | left + 1, n :: ns, v :: vs, r, h => by
    rw [membersQ] at h
    cases hm : memQ f n v left with
    | none => rw [hm] at h; cases h
    | some q =>
      rw [hm] at h
      dsimp only at h
      cases hc : membersQ f q.2 ns vs with
      | none => rw [hc] at h; cases h
      | some s =>
        rw [hc] at h
        cases h
        show condsQ (q.1 ++ s.1) = _
        rw [condsQ_append, membersQ_conds f q.2 ns vs s hc, memQ_conds hm, condsJ]
theorem readQ_conds {x : J} {qs : List Qn} (h : readQ x = some qs) : ∃ ns vs, x = .obj ns vs ∧ condsQ qs = condsJ ns vs := by
  unfold readQ at h
  split at h
  · cases hr : rdQ 32 100 x with
    | none => rw [hr] at h; cases h
    | some r =>
      rw [hr] at h
      cases h
      cases x with
      | obj ns vs =>
        rw [rdQ] at hr
        exact ⟨ns, vs, rfl, membersQ_conds _ _ _ _ _ hr⟩
      | _ =>
        rw [rdQ] at hr
        · cases hr
        · intro _ _ h1; cases h1
  · cases h
def opsV : DV → Bool
  | .mk k _ _ _ items names => decide (k = 5) && (decide (items ≠ []) && names.all named)
def condsV1 (p : List UInt8) : DV → List (List UInt8 × List UInt8 × DV)
  | .mk k b n s items names => if opsV (.mk k b n s items names) = true then zipC p names items else [(p, eqN, .mk k b n s items names)]
def condsV : List (List UInt8) → List DV → List (List UInt8 × List UInt8 × DV)
  | n :: ns, v :: vs => (if named n = true then [] else condsV1 n v) ++ condsV ns vs
  | _, _ => []
def toC (c : List UInt8 × List UInt8 × DV) : List UInt8 × List UInt8 × J := (c.1, c.2.1, toJ c.2.2)
theorem ops_toJ (z : DV) : opsJ (toJ z) = opsV z := by
  obtain ⟨k, b, n, s, items, names⟩ := z
  rw [toJ_eq, opsV]
  by_cases h5 : k = 5
  · subst h5
    rw [if_neg (by decide), if_neg (by decide), if_neg (by decide), if_neg (by decide), if_neg (by decide), if_pos rfl, opsJ]
    simp
  · rw [decide_eq_false h5, Bool.false_and]
    split
    · rfl
    split
    · rfl
    split
    · rfl
    split
    · rfl
    split
    · rfl
    rfl
theorem zip_toC (p : List UInt8) : ∀ (ns : List (List UInt8)) (vs : List DV), zipC p ns (vs.map toJ) = (zipC p ns vs).map toC
  | [], _ => by rw [zipC, zipC]; · rfl
                · intro _ _ _ _ h; cases h
                · intro _ _ _ _ h; cases h
  | _ :: _, [] => by rw [List.map_nil, zipC, zipC]; · rfl
                     · intro _ _ _ _ _ h; cases h
                     · intro _ _ _ _ _ h; cases h
  | n :: ns, v :: vs => by rw [List.map_cons, zipC, zipC, List.map_cons, zip_toC p ns vs]; rfl
theorem conds1_toC (p : List UInt8) (z : DV) : condsJ1 p (toJ z) = (condsV1 p z).map toC := by
  have ho := ops_toJ z
  obtain ⟨k, b, n, s, items, names⟩ := z
  rw [condsV1]
  by_cases h5 : k = 5
  · subst h5
    have e : toJ (.mk 5 b n s items names) = .obj names (items.map toJ) := by
      rw [toJ_eq, if_neg (by decide), if_neg (by decide), if_neg (by decide), if_neg (by decide), if_neg (by decide), if_pos rfl]
    rw [e] at ho ⊢
    rw [condsJ1, ho]
    split
    · exact zip_toC _ _ _
    · show _ = [(p, eqN, toJ _)]
      rw [e]
  · rw [if_neg (by rw [opsV, decide_eq_false h5]; simp)]
    show _ = [(p, eqN, toJ _)]
    unfold condsJ1
    split
    · rename_i ns vs e
      rw [toJ_eq] at e
      exfalso
      split at e
      · cases e
      split at e
      · cases e
      split at e
      · cases e
      split at e
      · cases e
      split at e
      · cases e
      cases e
    · rfl
theorem conds_toC : ∀ (ns : List (List UInt8)) (vs : List DV), condsJ ns (vs.map toJ) = (condsV ns vs).map toC
  | [], _ => by rw [condsJ, condsV]; · rfl
                · intro _ _ _ _ h; cases h
                · intro _ _ _ _ h; cases h
  | _ :: _, [] => by rw [List.map_nil, condsJ, condsV]; · rfl
                     · intro _ _ _ _ _ h; cases h
                     · intro _ _ _ _ _ h; cases h
  | n :: ns, v :: vs => by
    rw [List.map_cons, condsJ, condsV, List.map_append, conds_toC ns vs, conds1_toC]
    split <;> rfl
theorem readQ_toJ {z : DV} {qs : List Qn} (h : readQ (toJ z) = some qs) : ∃ b n s items names, z = .mk 5 b n s items names ∧ condsQ qs = (condsV names items).map toC := by
  obtain ⟨ns, vs, e, hc⟩ := readQ_conds h
  obtain ⟨k, b, n, s, items, names⟩ := z
  rw [toJ_eq] at e
  split at e
  · cases e
  split at e
  · cases e
  split at e
  · cases e
  split at e
  · cases e
  split at e
  · cases e
  split at e
  · rename_i h5
    subst h5
    injection e with e1 e2
    subst e1 e2
    exact ⟨b, n, s, items, names, rfl, by rw [hc, conds_toC]⟩
  · cases e
end Go.Proofs.YtgollffmdpejiaaGreatDoor
namespace Go.TL
open Go Go.RowKit Go.Proofs.YtgollffmdpejiaaGreatDoor
section
variable {P : Program} {n : Nat} {ds : List Deferred} {S : Slots} {g : Gh} {L : List Ent} {dst : Option Nat} {ty : TypeId} {pos : String} {aft : Array Edge} {gd : Option (Nat × Bool)} {t : TypeId}
theorem Y.build_cv {x y z : Operand} {p q a b c d e f z0 z1 z2 z3 z4 z5 z6 z7 : Value} [h : Places P t [(0, 1), (1, 1), (2, 6)] [z0, z1, z2, z3, z4, z5, z6, z7]] (hx : ev S x = some p) (hy : ev S y = some q) (hp : p.one = true) (hq : q.one = true) (hz : ev S z = some (.agg #[a, b, c, d, e, f])) : Yields P n ds S g L ⟨dst, .build t #[(0, x), (1, y), (2, z)], ty, pos, aft, gd⟩ (.agg #[p, q, a, b, c, d, e, f]) := .mk fun w0 w hfr _ => by
  obtain ⟨fs, h1, h2, h3⟩ := h.eq
  have h2' := h2 w
  have h3' := h3 w
  have cp : p.cells = #[p] := by cases p <;> first | rfl | cases hp
  have cq : q.cells = #[q] := by cases q <;> first | rfl | cases hq
  have ca : (Value.agg #[a, b, c, d, e, f]).cells = #[a, b, c, d, e, f] := rfl
  have cz : (Value.agg [z0, z1, z2, z3, z4, z5, z6, z7].toArray).cells = #[z0, z1, z2, z3, z4, z5, z6, z7] := rfl
  simp only [execOp, Instr.build, Sem.run_bind, h3', Result.andThen_ok, run_und h1, cz]
  rw [h2']
  simp [hfr.ev hx, hfr.ev hy, hfr.ev hz, Instr.fill, cp, cq, ca]
end
end Go.TL
namespace Go.Proofs.YtgollffmdpejiaaGreatDoor
open Go.RowKit Go.TL

mutual
theorem same_refl : ∀ (x : J), okJ x → sameJ x x = true
  | .null, _ => by rw [sameJ]
  | .bool _, _ => by rw [sameJ]; simp
  | .num _, _ => by rw [sameJ]; simp
  | .text _, _ => by rw [sameJ]; simp
  | .list xs, h => by
    rw [okJ] at h
    rw [sameJ, sames_refl xs h]; simp
  | .obj ns xs, h => by
    rw [okJ] at h
    rw [sameJ, sameo_refl ns xs h.1 h.2.2.2]; simp
  | .other _, h => by rw [okJ] at h; exact h.elim
theorem sames_refl : ∀ (l : List J), okJs l → sames l l = true
  | [], _ => by rw [sames]; intros; simp_all
  | x :: r, h => by
    rw [okJs] at h
    rw [sames, same_refl x h.1, sames_refl r h.2]; rfl
theorem sameo_refl : ∀ (ns : List (List UInt8)) (l : List J), ns.length = l.length → okJs l → sameo ns l ns l = true
  | ns, [], hn, _ => by
    obtain rfl : ns = [] := List.eq_nil_of_length_eq_zero hn
    rw [sameo]; intros; simp_all
  | [], _ :: _, hn, _ => by simp at hn
  | n :: ns, x :: r, hn, h => by
    rw [okJs] at h
    rw [sameo, same_refl x h.1, sameo_refl ns r (by simpa using hn) h.2]; simp
end
theorem Same_refl {x : J} (hl : lenJ x) (h : lookJ x 0 = 0) : SameJ x x = true := by
  unfold SameJ
  rw [h, same_refl x (ok_of_look x 0 h hl).1]; rfl
end Go.Proofs.YtgollffmdpejiaaGreatDoor
namespace Go.Proofs.YtgollffmdpejiaaGreatDoor
open Go.RowKit Go.TL
set_option maxRecDepth 100000

abbrev oneJ (p n : List UInt8) (x : J) : J := .obj [p] [.obj [n] [x]]
theorem one_obj {g : Gh} {s u : Value} {n : List UInt8} {x : J} (hs : Sl g s 1 2 [str n, u]) (hx : IsJ g x u) : IsJ g (.obj [n] [x]) (.iface 48 s) := by
  rw [IsJ]
  exact ⟨_, _, rfl, hs, by rw [IsMs]; exact ⟨_, _, rfl, hx, by rw [IsMs]⟩⟩
set_option maxHeartbeats 8000000 in
theorem one21_makes (p n : List UInt8) (x : J) (v : Value) (g : Gh) (L : List Ent) (hv : IsJ g x v) : Makes Tryz.prog 43 #[str p, str n, v] g L (fun u g' => IsJ g' (oneJ p n x) u) := by
  refine .of (Does.of3 Tryz.func43 rfl Tryz.ntmps43 rfl ?_)
  have ov := hv.one
  have HV := Hn.mk hv
  have hal : ([str n, v] : List Value).all Value.one = true := by simp only [List.all_cons, ov]; rfl
  clear hv
  repeat' (first
    | refine wkQ ?_
    | refine wkV ?_
    | ((with_reducible apply TL.build_one (d := 11)); (· first | rfl | exact hal | exact oneA); (· first | rfl | exact hal | exact oneA); (· first | rfl | exact hal | exact oneA); (· first | rfl | exact hal | exact oneA); (· first | rfl | exact hal | exact oneA); (· first | rfl | exact hal | exact oneA); intro bb; refine TL.freeze_obj (k := 1) bb 2 .here rfl (by decide) ?_; rintro g1 h1 s1; have j1 := Hn.mk (one_obj s1 (HV.out.le h1)); clear s1)
    | ((with_reducible apply TL.build_one (d := 14)); (· first | rfl | exact oneA | exact oneA); (· first | rfl | exact oneA | exact oneA); (· first | rfl | exact oneA | exact oneA); (· first | rfl | exact oneA | exact oneA); (· first | rfl | exact oneA | exact oneA); (· first | rfl | exact oneA | exact oneA); intro bb; refine TL.freeze_obj (k := 1) bb 2 .here rfl (by decide) ?_; rintro g2 h2 s2; have j2 := Hn.mk (one_obj s2 (j1.out.le h2)); clear s2)
    | refine stS ?_ | (refine stB ?_; intro _) | (refine stC ?_; constructor <;> intro _)
    | refine wkW ?_)
  refine TQ.endR1 (L' := L) Tryz.results43 rvA rfl (h1.trans h2) ?_ selF
  exact ⟨_, rfl, j2.out, rfl⟩
end Go.Proofs.YtgollffmdpejiaaGreatDoor
namespace Go.Proofs.YtgollffmdpejiaaGreatDoor
open Go.RowKit Go.TL
set_option maxRecDepth 100000

set_option maxHeartbeats 8000000 in
theorem told21_makes : ∀ (N : Nat) (x : DV), dsz x ≤ N → ∀ (cs : List Value) (g : Gh) (L : List Ent), IsV g x cs → wfV x → Makes Tryz.prog 16 #[.agg cs.toArray] g L (fun v g' => IsJ g' (toJ x) v)
  | 0, .mk .., h, _, _, _, _, _ => by rw [dsz] at h; omega
  | N + 1, .mk k b n s items names, hN, cs, g, L, hV, hW => by
    have IH := told21_makes N
    rw [dsz] at hN
    rw [IsV] at hV
    rw [wfV] at hW
    obtain ⟨vi, vn, flat, rfl, ⟨k0, k1⟩, hnb, hs, hi, hil, hfl, hn, hnl, hns⟩ := hV
    obtain ⟨w1, w2, w3, w4⟩ := hW
    obtain ⟨aoi, capi, rfl⟩ := hi.slice
    obtain ⟨aon, capn, rfl⟩ := hn.slice
    obtain ⟨R, hR⟩ : ∃ R, R = toJ (.mk k b n s items names) := ⟨_, rfl⟩
    rw [← hR]
    rw [toJ_eq] at hR
    refine .of (Does.of1 Tryz.func16 rfl Tryz.ntmps16 rfl ?_)
    by_cases hk4 : k = 4
    · subst hk4
      rw [if_neg (by decide), if_neg (by decide), if_neg (by decide), if_neg (by decide), if_pos rfl] at hR
      subst hR
      repeat' (first
    | ((with_reducible apply TL.build_slice); (· rfl); (· rfl); (· exact oneA); (· rfl); (· rfl); (· rfl); intro _) | refine TL.build_one (by rfl) (by first | rfl | assumption) (by rfl) (by rfl) (by rfl) (by rfl) (fun _ => ?_) | refine TL.build_empty (by rfl) (fun _ => ?_)
    | refine stS ?_ | (refine stB ?_; intro _) | (refine stC ?_; constructor <;> intro _))
      rename_i bo br
      refine TC.obj_row (k := 0) (sz := 1) pkA rfl (by decide) ?_
      refine TC.loop (α := Nat × Value × List Value × Gh) (fun x => x.1 ≤ items.length ∧ g.le x.2.2.2 ∧ IsJs x.2.2.2 ((items.take x.1).map toJ) x.2.2.1 ∧ x.2.2.1.length = x.1) (fun x => items.length - x.1) (fun x => [(4, .int .i64 (x.1 : Nat)), (3, x.2.1), (1, .pointer (some ⟨bo, 0, none⟩))]) (fun x => x.2.2.2)
        (fun x => .row 20 1 x.2.1 x.1 x.2.2.1 :: .obj bo (.cells [.int .i64 4, .bool b, .int .i64 n, str s, .slice aoi items.length capi, .slice aon names.length capn].toArray 29 (0, 0)) :: L) (0, .slice (some ⟨br, 0, none⟩) 0 0, [], g) ⟨Nat.zero_le _, .refl g, by rw [List.take_zero, List.map_nil, IsJs], rfl⟩ rfl subA selA ?_
      rintro ⟨i, v, fl, gh⟩ ⟨hi1, hle, hJ, hlen⟩
      dsimp only at hi1 hle hJ hlen ⊢
      by_cases hlt : i < items.length
      · obtain ⟨x, hx⟩ : ∃ x, items[i]? = some x := ⟨_, List.getElem?_eq_getElem hlt⟩
        obtain ⟨cs', hV', hl6, hcs⟩ := hfl.get hx
        obtain ⟨b1, o1, rfl, hg⟩ := hi.elem hlt (by decide)
        have hld : ∀ j u, cs'[j]? = some u → gh.cell b1 (o1 + i * 6 + j) = some u := fun j u hu => hle.cell (hg j u (hcs j u hu))
        have hsz := dsz_get hx
        have A := fun L => IH x (by omega) cs' gh L (hV'.le hle) ((w4 (.inl rfl)).get hx)
        have hlast : (items.take (i + 1)).map toJ = (items.take i).map toJ ++ [toJ x] := by rw [List.take_add_one, hx]; simp
        clear hfl hi hn hcs hg hns hV' w3 w4
        repeat' (first
    | refine wkV ?_
    | (refine TL.makes (Enters.plain (by kernel_rfl) (by rfl)) (A _) (by rfl) ?_; (rintro vj gj hgj hpj; have ho := IsJ.one hpj))
    | ((with_reducible apply TL.build_slice); (· rfl); (· rfl); (· exact oneA); (· rfl); (· rfl); (· rfl); intro _) | refine TL.build_one (by rfl) (by first | rfl | assumption) (by rfl) (by rfl) (by rfl) (by rfl) (fun _ => ?_) | refine TL.build_empty (by rfl) (fun _ => ?_)
    | ((with_reducible apply TL.append); (· rfl); (· rfl); (· rfl); (· rfl); (· exact pkA); (· first | exact Src.obj pkA | exact Src.sl (by assumption) | exact Src.row pkA); (· first | rfl | exact (byteVals_length _).trans (Nat.mul_one _).symm); (· first | exact byteVals_all _ | exact oneA); (· exact ⟨by unfold maxLen; omega, by omega⟩); (· rfl); intro _)
    | refine stS ?_ | (refine stB ?_; intro _) | (refine stC ?_; constructor <;> intro _))
        rename_i b v'
        refine TQ.round (i + 1, v', fl ++ [vj], gj) ?_ ?_ rfl subA selA
        · refine ⟨by omega, hle.trans hgj, ?_, by simp [hlen]⟩
          show IsJs gj ((items.take (i + 1)).map toJ) (fl ++ [vj])
          rw [hlast]
          exact (IsJs.le hgj _ _ hJ).snoc hpj
        · show items.length - (i + 1) < items.length - i
          omega
      · obtain rfl : i = items.length := by omega
        repeat' (first
    | refine wkV ?_
    | refine stS ?_ | (refine stB ?_; intro _) | (refine stC ?_; constructor <;> intro _))
        refine TQ.freeze (v := v) pkA ?_
        intro gf hgf hsl
        refine TQ.endR1 (L' := L) Tryz.results16 rvA rfl (hle.trans hgf) ?_ selA
        refine ⟨_, rfl, ?_, rfl⟩
        rw [IsJ]
        rw [List.take_length] at hJ
        exact ⟨v, fl, rfl, by rw [List.length_map]; exact hsl, IsJs.le hgf _ _ hJ⟩
    by_cases hk5 : k = 5
    · subst hk5
      obtain ⟨w3a, w3b⟩ := w3 rfl
      rw [if_neg (by decide), if_neg (by decide), if_neg (by decide), if_neg (by decide), if_neg (by decide), if_pos rfl] at hR
      subst hR
      repeat' (first
    | ((with_reducible apply TL.build_slice); (· rfl); (· rfl); (· exact oneA); (· rfl); (· rfl); (· rfl); intro _) | refine TL.build_one (by rfl) (by first | rfl | assumption) (by rfl) (by rfl) (by rfl) (by rfl) (fun _ => ?_) | refine TL.build_empty (by rfl) (fun _ => ?_)
    | refine stS ?_ | (refine stB ?_; intro _) | (refine stC ?_; constructor <;> intro _))
      rename_i bo br
      refine TC.obj_row (k := 0) (sz := 2) pkA rfl (by decide) ?_
      refine TC.loop (α := Nat × Value × List Value × Gh) (fun x => x.1 ≤ items.length ∧ g.le x.2.2.2 ∧ IsMs x.2.2.2 (names.take x.1) ((items.take x.1).map toJ) x.2.2.1 ∧ x.2.2.1.length = x.1 * 2) (fun x => items.length - x.1) (fun x => [(6, .int .i64 (x.1 : Nat)), (5, x.2.1), (1, .pointer (some ⟨bo, 0, none⟩))]) (fun x => x.2.2.2)
        (fun x => .row 46 2 x.2.1 x.1 x.2.2.1 :: .obj bo (.cells [.int .i64 5, .bool b, .int .i64 n, str s, .slice aoi items.length capi, .slice aon names.length capn].toArray 29 (0, 0)) :: L) (0, .slice (some ⟨br, 0, none⟩) 0 0, [], g) ⟨Nat.zero_le _, .refl g, by rw [List.take_zero, List.take_zero, List.map_nil, IsMs], rfl⟩ rfl subA selA ?_
      rintro ⟨i, v, fl, gh⟩ ⟨hi1, hle, hJ, hlen⟩
      dsimp only at hi1 hle hJ hlen ⊢
      by_cases hlt : i < items.length
      · obtain ⟨x, hx⟩ : ∃ x, items[i]? = some x := ⟨_, List.getElem?_eq_getElem hlt⟩
        obtain ⟨nm, hnm⟩ : ∃ nm, names[i]? = some nm := ⟨_, List.getElem?_eq_getElem (by omega)⟩
        obtain ⟨cs', hV', hl6, hcs⟩ := hfl.get hx
        obtain ⟨b1, o1, rfl, hg⟩ := hi.elem hlt (by decide)
        obtain ⟨b2, o2, rfl, hg2⟩ := hn.elem (i := i) (by omega) (by decide)
        have hld : ∀ j u, cs'[j]? = some u → gh.cell b1 (o1 + i * 6 + j) = some u := fun j u hu => hle.cell (hg j u (hcs j u hu))
        have hln : gh.cell b2 (o2 + i * 1) = some (str nm) := hle.cell (hg2 0 _ (by rw [Nat.mul_one]; exact strs_get hnm))
        have hsz := dsz_get hx
        have A := fun L => IH x (by omega) cs' gh L (hV'.le hle) ((w4 (.inr rfl)).get hx)
        have hlast : (items.take (i + 1)).map toJ = (items.take i).map toJ ++ [toJ x] := by rw [List.take_add_one, hx]; simp
        have hlast2 : names.take (i + 1) = names.take i ++ [nm] := by rw [List.take_add_one, hnm]; simp
        clear hfl hi hn hcs hg hg2 hns hV' w3 w4 w3b
        repeat' (first
    | ((with_reducible apply TA.take 0); (· decide +kernel); (· rfl); (· (first | exact yA | exact yB | exact yM | exact yV)); (· decide +kernel); (· decide +kernel); (· rfl); (· exact fun _ _ _ h => h); (· rfl))
    | ((with_reducible apply TA.take 1); (· decide +kernel); (· rfl); (· (first | exact yA | exact yB | exact yM | exact yV)); (· decide +kernel); (· decide +kernel); (· rfl); (· exact fun _ _ _ h => h); (· rfl))
    | ((with_reducible apply TA.take 2); (· decide +kernel); (· rfl); (· (first | exact yA | exact yB | exact yM | exact yV)); (· decide +kernel); (· decide +kernel); (· rfl); (· exact fun _ _ _ h => h); (· rfl))
    | ((with_reducible apply TA.take 3); (· decide +kernel); (· rfl); (· (first | exact yA | exact yB | exact yM | exact yV)); (· decide +kernel); (· decide +kernel); (· rfl); (· exact fun _ _ _ h => h); (· rfl))
    | ((with_reducible apply TA.take 4); (· decide +kernel); (· rfl); (· (first | exact yA | exact yB | exact yM | exact yV)); (· decide +kernel); (· decide +kernel); (· rfl); (· exact fun _ _ _ h => h); (· rfl))
    | ((with_reducible apply TA.take 5); (· decide +kernel); (· rfl); (· (first | exact yA | exact yB | exact yM | exact yV)); (· decide +kernel); (· decide +kernel); (· rfl); (· exact fun _ _ _ h => h); (· rfl))
    | ((with_reducible apply TA.take 6); (· decide +kernel); (· rfl); (· (first | exact yA | exact yB | exact yM | exact yV)); (· decide +kernel); (· decide +kernel); (· rfl); (· exact fun _ _ _ h => h); (· rfl))
    | ((with_reducible apply TA.take 7); (· decide +kernel); (· rfl); (· (first | exact yA | exact yB | exact yM | exact yV)); (· decide +kernel); (· decide +kernel); (· rfl); (· exact fun _ _ _ h => h); (· rfl))
    | ((with_reducible apply TA.take 8); (· decide +kernel); (· rfl); (· (first | exact yA | exact yB | exact yM | exact yV)); (· decide +kernel); (· decide +kernel); (· rfl); (· exact fun _ _ _ h => h); (· rfl))
    | ((with_reducible apply TA.take 9); (· decide +kernel); (· rfl); (· (first | exact yA | exact yB | exact yM | exact yV)); (· decide +kernel); (· decide +kernel); (· rfl); (· exact fun _ _ _ h => h); (· rfl))
    | ((with_reducible apply TA.take 10); (· decide +kernel); (· rfl); (· (first | exact yA | exact yB | exact yM | exact yV)); (· decide +kernel); (· decide +kernel); (· rfl); (· exact fun _ _ _ h => h); (· rfl))
    | ((with_reducible apply TA.take 11); (· decide +kernel); (· rfl); (· (first | exact yA | exact yB | exact yM | exact yV)); (· decide +kernel); (· decide +kernel); (· rfl); (· exact fun _ _ _ h => h); (· rfl))
    | ((with_reducible apply TA.take 12); (· decide +kernel); (· rfl); (· (first | exact yA | exact yB | exact yM | exact yV)); (· decide +kernel); (· decide +kernel); (· rfl); (· exact fun _ _ _ h => h); (· rfl))
    | ((with_reducible apply TA.take 13); (· decide +kernel); (· rfl); (· (first | exact yA | exact yB | exact yM | exact yV)); (· decide +kernel); (· decide +kernel); (· rfl); (· exact fun _ _ _ h => h); (· rfl))
    | ((with_reducible apply TA.take 14); (· decide +kernel); (· rfl); (· (first | exact yA | exact yB | exact yM | exact yV)); (· decide +kernel); (· decide +kernel); (· rfl); (· exact fun _ _ _ h => h); (· rfl))
    | ((with_reducible apply TA.take 15); (· decide +kernel); (· rfl); (· (first | exact yA | exact yB | exact yM | exact yV)); (· decide +kernel); (· decide +kernel); (· rfl); (· exact fun _ _ _ h => h); (· rfl))
    | ((with_reducible apply TA.one 0); (· rfl); (· decide +kernel); (· rfl))
    | ((with_reducible apply TA.one 1); (· rfl); (· decide +kernel); (· rfl))
    | ((with_reducible apply TA.one 2); (· rfl); (· decide +kernel); (· rfl))
    | ((with_reducible apply TA.one 3); (· rfl); (· decide +kernel); (· rfl))
    | ((with_reducible apply TA.one 4); (· rfl); (· decide +kernel); (· rfl))
    | ((with_reducible apply TA.one 5); (· rfl); (· decide +kernel); (· rfl))
    | ((with_reducible apply TA.one 6); (· rfl); (· decide +kernel); (· rfl))
    | ((with_reducible apply TA.one 7); (· rfl); (· decide +kernel); (· rfl))
    | ((with_reducible apply TA.one 8); (· rfl); (· decide +kernel); (· rfl))
    | ((with_reducible apply TA.one 9); (· rfl); (· decide +kernel); (· rfl))
    | ((with_reducible apply TA.one 10); (· rfl); (· decide +kernel); (· rfl))
    | ((with_reducible apply TA.one 11); (· rfl); (· decide +kernel); (· rfl))
    | ((with_reducible apply TA.one 12); (· rfl); (· decide +kernel); (· rfl))
    | ((with_reducible apply TA.one 13); (· rfl); (· decide +kernel); (· rfl))
    | ((with_reducible apply TA.one 14); (· rfl); (· decide +kernel); (· rfl))
    | ((with_reducible apply TA.one 15); (· rfl); (· decide +kernel); (· rfl))
    | refine TQ.any leA selA ?_
    | refine TC.region_any 16 (.obj bo (.cells [.int .i64 5, .bool b, .int .i64 n, str s, .slice (some ⟨b1, o1, none⟩) items.length capi, .slice (some ⟨b2, o2, none⟩) names.length capn].toArray 29 (0, 0)) :: L) (by kernel_rfl) rfl selA ?_ | refine TA.done (by decide +kernel) ?_ | refine TQ.any_panic ?_
    | refine wkV ?_
    | (refine TL.makes (Enters.plain (by kernel_rfl) (by rfl)) (A _) (by rfl) ?_; (rintro vj gj hgj hpj; have ho := IsJ.one hpj))
    | ((with_reducible apply TL.build_slice); (· rfl); (· rfl); (· exact oneA); (· rfl); (· rfl); (· rfl); intro _) | refine TL.build_one (by rfl) (by first | rfl | assumption) (by rfl) (by rfl) (by rfl) (by rfl) (fun _ => ?_) | refine TL.build_empty (by rfl) (fun _ => ?_)
    | ((with_reducible apply TL.append); (· rfl); (· rfl); (· rfl); (· rfl); (· exact pkA); (· first | exact Src.obj pkA | exact Src.sl (by assumption) | exact Src.row pkA); (· first | rfl | exact (byteVals_length _).trans (Nat.mul_one _).symm); (· first | exact byteVals_all _ | exact oneA); (· exact ⟨by unfold maxLen; omega, by omega⟩); (· rfl); intro _)
    | refine stS ?_ | (refine stB ?_; intro _) | (refine stC ?_; constructor <;> intro _))
        rename_i b v'
        refine TQ.round (i + 1, v', fl ++ [str nm, vj], gj) ?_ ?_ rfl subA selA
        · refine ⟨by omega, hle.trans hgj, ?_, by simp [hlen]; omega⟩
          show IsMs gj (names.take (i + 1)) ((items.take (i + 1)).map toJ) (fl ++ [str nm, vj])
          rw [hlast, hlast2]
          exact (IsMs.le hgj _ _ _ hJ).snoc hpj
        · show items.length - (i + 1) < items.length - i
          omega
      · obtain rfl : i = items.length := by omega
        repeat' (first
    | refine wkV ?_
    | refine stS ?_ | (refine stB ?_; intro _) | (refine stC ?_; constructor <;> intro _))
        refine TQ.freeze (v := v) pkA ?_
        intro gf hgf hsl
        refine TQ.endR1 (L' := L) Tryz.results16 rvA rfl (hle.trans hgf) ?_ selA
        refine ⟨_, rfl, ?_, rfl⟩
        rw [IsJ]
        rw [List.take_length, List.take_of_length_le (by omega)] at hJ
        exact ⟨v, fl, rfl, by rw [List.length_map]; exact hsl, IsMs.le hgf _ _ _ hJ⟩
    by_cases hk0 : k = 0
    · subst hk0
      rw [if_pos rfl] at hR
      subst hR
      repeat' (first
    | refine wkV ?_
    | refine stS ?_ | (refine stB ?_; intro _) | (refine stC ?_; constructor <;> intro _))
      refine TQ.endR1 (L' := L) Tryz.results16 rvA rfl (.refl _) ?_ selA
      exact ⟨_, rfl, by rw [IsJ], rfl⟩
    by_cases hk1 : k = 1
    · subst hk1
      rw [if_neg (by decide), if_pos rfl] at hR
      subst hR
      repeat' (first
    | refine wkV ?_
    | refine stS ?_ | (refine stB ?_; intro _) | (refine stC ?_; constructor <;> intro _))
      refine TQ.endR1 (L' := L) Tryz.results16 rvA rfl (.refl _) ?_ selA
      exact ⟨_, rfl, by rw [IsJ], rfl⟩
    by_cases hk2 : k = 2
    · subst hk2
      rw [if_neg (by decide), if_neg (by decide), if_pos rfl] at hR
      subst hR
      repeat' (first
    | refine wkV ?_
    | refine stS ?_ | (refine stB ?_; intro _) | (refine stC ?_; constructor <;> intro _))
      refine TQ.endR1 (L' := L) Tryz.results16 rvA rfl (.refl _) ?_ selA
      exact ⟨_, rfl, by rw [IsJ]; exact ⟨rfl, hnb⟩, rfl⟩
    by_cases hk3 : k = 3
    · subst hk3
      rw [if_neg (by decide), if_neg (by decide), if_neg (by decide), if_pos rfl] at hR
      subst hR
      repeat' (first
    | refine wkV ?_
    | refine stS ?_ | (refine stB ?_; intro _) | (refine stC ?_; constructor <;> intro _))
      refine TQ.endR1 (L' := L) Tryz.results16 rvA rfl (.refl _) ?_ selA
      exact ⟨_, rfl, by rw [IsJ], rfl⟩
    rw [if_neg hk0, if_neg hk1, if_neg hk2, if_neg hk3, if_neg hk4, if_neg hk5] at hR
    subst hR
    have n0 : Hn (¬ k = 0) := ⟨hk0⟩
    have n1 : Hn (¬ k = 1) := ⟨hk1⟩
    have n2 : Hn (¬ k = 2) := ⟨hk2⟩
    have n3 : Hn (¬ k = 3) := ⟨hk3⟩
    have n4 : Hn (¬ k = 4) := ⟨hk4⟩
    have n5 : Hn (¬ k = 5) := ⟨hk5⟩
    repeat' (first
    | refine wkV ?_
    | refine stS ?_ | (refine stB ?_; intro _) | (refine stC ?_; constructor <;> intro _))
    refine TQ.endR1 (L' := L) Tryz.results16 rvA rfl (.refl _) ?_ selA
    exact ⟨_, rfl, by rw [IsJ], rfl⟩
end Go.Proofs.YtgollffmdpejiaaGreatDoor
namespace Go.Proofs.YtgollffmdpejiaaGreatDoor
open Go.ChangeShapes Go.WideShapes Go.ChangeAt Go.RowKit Go.Joins Go.Deep Go.TL
set_option maxRecDepth 100000

theorem of_cell {w : World} {b off : Nat} {v : Value} (h : w.cell? ⟨b, off, none⟩ = some v) : (Gh.of w).cell b off = some v := by
  unfold Gh.cell Gh.of
  simp only [World.cell?] at h
  split at h <;> simp_all
theorem spot_none {w : World} {a : Addr} {v : Value} (h : w.cell? a = some v) : a.spot = none := by
  cases hsp : a.spot with
  | none => rfl
  | some t => simp only [World.cell?] at h; split at h <;> simp [hsp] at h
section
variable {H : Type} {enc : TypeId × Value → H} {w : World} {base : Nat} {spare : Nat → Bool} {held : Bool} {P : Program}
theorem slice_elems {t e : TypeId} {fuel : Nat} {v : Value} {x : DataW H × List MemPlace} (ht : P.underlying t = some (.slice e)) (h : DataW.trod enc P w base spare held fuel t [v] = some x) :
    v = .slice none 0 0 ∨ ∃ (a : Addr) (len cap n : Nat), fuel = n + 1 ∧ v = .slice (some a) len cap ∧ len ≤ cap ∧ cap ≤ maxLen ∧
      ∀ i, i < len → ∃ cs y, cs.length = P.cellsOf e ∧ (∀ j, j < P.cellsOf e → w.cell? ((a.add (i * P.cellsOf e)).add j) = cs[j]?) ∧ DataW.trod enc P w base spare held n e cs = some y := by
  rcases DataW.trod_slice ht h with ⟨h0, _⟩ | ⟨a, len, cap, elems, rest, n, hn, hcs, _, _, hl, hm, hlen, hel, _⟩
  · exact .inl (by simpa using h0)
  · refine .inr ⟨a, len, cap, n, hn, by simpa using hcs, hl, hm, fun i hi => ?_⟩
    have h1 := hel i (by omega)
    rw [List.getElem?_eq_getElem (by omega)] at h1
    obtain ⟨cs, hc, ht'⟩ := Option.bind_eq_some_iff.1 h1
    obtain ⟨_, hcl, hat⟩ := World.cells?_some hc
    exact ⟨cs, _, hcl, hat, ht'⟩
end
theorem cellsStr5 : Tryz.prog.cellsOf 9 = 1 := by kernel_rfl
theorem cellsV5 : Tryz.prog.cellsOf 29 = 6 := by kernel_rfl
section
variable {H : Type} {enc : TypeId × Value → H} {w : World} {base : Nat} {spare : Nat → Bool} {held : Bool}
theorem add_none {a : Addr} (hs : a.spot = none) (i : Nat) : a.add i = ⟨a.block, a.off + i, none⟩ := by
  obtain ⟨b, off, sp⟩ := a
  simp only at hs
  subst hs
  unfold Addr.add; split <;> simp_all
theorem open_sl_strs {v : Value} {fuel : Nat} {y : DataW H × List MemPlace} (h : DataW.trod enc Tryz.prog w base spare held fuel 27 [v] = some y) : ∃ ns : List (List UInt8), Sl (.of w) v ns.length 1 (strs ns) ∧ ns.length ≤ 9223372036854775807 ∧ ∀ x ∈ ns, x.length ≤ 9223372036854775807 := by
  rcases slice_elems Tryz.underlying27 h with rfl | ⟨a, len, cap, n, _, rfl, hl, hm, he⟩
  · exact ⟨[], Sl.nil, Nat.zero_le _, fun x hx => by cases hx⟩
  · rw [cellsStr5] at he
    have hex : ∀ i, i < len → ∃ c : List UInt8, w.cell? (a.add i) = some (str c) ∧ c.length ≤ 9223372036854775807 := fun i hi => by
      obtain ⟨cs, y, hcl, hat, ht⟩ := he i hi
      obtain ⟨z, rfl, _, hw⟩ := DataW.trod_string Tryz.underlying9 ht
      have h0 := hat 0 (by omega)
      rw [Nat.mul_one] at h0
      have e0 : (a.add i).add 0 = a.add i := by simp [Addr.add]
      rw [e0] at h0
      refine ⟨z.data.toList, by rw [h0]; cases z; simp [str], ?_⟩
      have : z.data.toList.length = z.size := by rw [Array.length_toList]; rfl
      unfold maxLen at hw; omega
    have key : ∀ n, n ≤ len → ∃ s : List (List UInt8), s.length = n ∧ (∀ x ∈ s, x.length ≤ 9223372036854775807) ∧ ∀ i, i < n → w.cell? (a.add i) = (strs s)[i]? := by
      intro n
      induction n with
      | zero => intro _; exact ⟨[], rfl, by simp, fun i hi => by omega⟩
      | succ n ih =>
        intro hn
        obtain ⟨s, h1, h3, h2⟩ := ih (by omega)
        obtain ⟨c, hc, hcl⟩ := hex n (by omega)
        refine ⟨s ++ [c], by simp [h1], fun x hx => ?_, fun i hi => ?_⟩
        · rcases List.mem_append.1 hx with hx | hx
          · exact h3 x hx
          · obtain rfl : x = c := by simpa using hx
            exact hcl
        · have e : strs (s ++ [c]) = strs s ++ [str c] := by simp [strs]
          rw [e]
          by_cases hlt : i < n
          · rw [List.getElem?_append_left (by simp [strs]; omega)]; exact h2 i hlt
          · obtain rfl : i = n := by omega
            rw [hc, List.getElem?_append_right (by simp [strs]; omega)]
            simp [strs, h1]
    obtain ⟨s, h1, h3, h2⟩ := key len (Nat.le_refl _)
    refine ⟨s, ⟨by simp [strs], some a, cap, by rw [h1], by omega, fun i u hu => ?_⟩, by unfold maxLen at hm; omega, h3⟩
    have hi : i < s.length := by
      have := (List.getElem?_eq_some_iff.1 hu).1
      simpa [strs] using this
    have hc := h2 i (by omega)
    rw [hu] at hc
    have hs0 := h2 0 (by omega)
    have e0 : a.add 0 = a := by simp [Addr.add]
    rw [e0] at hs0
    obtain ⟨c0, hc0⟩ : ∃ c0, (strs s)[0]? = some c0 := ⟨_, List.getElem?_eq_getElem (by simp [strs]; omega)⟩
    have hsp := spot_none (hs0.trans hc0)
    rw [add_none hsp] at hc
    exact ⟨a.block, a.off, by obtain ⟨b, off, sp⟩ := a; simp only at hsp; subst hsp; rfl, of_cell hc⟩
theorem IsVs.snoc {g : Gh} : ∀ {l : List DV} {flat : List Value} {x : DV} {cs : List Value}, IsVs g l flat → IsV g x cs → IsVs g (l ++ [x]) (flat ++ cs)
  | [], flat, x, cs, h, hx => by
    rw [IsVs] at h
    subst h
    simp only [List.nil_append]
    rw [IsVs]
    exact ⟨cs, [], by simp, hx, by rw [IsVs]⟩
  | y :: r, flat, x, cs, h, hx => by
    rw [IsVs] at h
    obtain ⟨u, fl, rfl, h2, h3⟩ := h
    rw [List.cons_append, List.append_assoc, IsVs]
    exact ⟨u, _, rfl, h2, h3.snoc hx⟩
theorem open_V : ∀ (fuel : Nat) (cs : List Value) (y : DataW H × List MemPlace), DataW.trod enc Tryz.prog w base spare held fuel 29 cs = some y → ∃ x, IsV (.of w) x cs := by
  intro fuel
  induction fuel using Nat.strongRecOn with
  | _ fuel ih =>
    intro cs y h
    obtain ⟨ys, n, rfl, _, hcl, hyl, hf⟩ := DataW.trod_struct Tryz.underlying29 h
    rw [cellsV5] at hcl
    obtain ⟨c0, c1, c2, c3, c4, c5, rfl⟩ : ∃ c0 c1 c2 c3 c4 c5, cs = [c0, c1, c2, c3, c4, c5] := by
      match cs, hcl with
      | [c0, c1, c2, c3, c4, c5], _ => exact ⟨_, _, _, _, _, _, rfl⟩
    have hyl6 : ys.length = 6 := hyl
    have get : ∀ i, i < 6 → ∃ u, ys[i]? = some u := fun i hi => ⟨_, List.getElem?_eq_getElem (by omega)⟩
    obtain ⟨u0, e0⟩ := get 0 (by omega)
    obtain ⟨u1, e1⟩ := get 1 (by omega)
    obtain ⟨u2, e2⟩ := get 2 (by omega)
    obtain ⟨u3, e3⟩ := get 3 (by omega)
    obtain ⟨u4, e4⟩ := get 4 (by omega)
    obtain ⟨u5, e5⟩ := get 5 (by omega)
    have t0 : DataW.trod enc Tryz.prog w base spare held n 3 [c0] = some u0 := (hf 0 _ rfl).trans e0
    have t1 : DataW.trod enc Tryz.prog w base spare held n 4 [c1] = some u1 := (hf 1 _ rfl).trans e1
    have t2 : DataW.trod enc Tryz.prog w base spare held n 2 [c2] = some u2 := (hf 2 _ rfl).trans e2
    have t3 : DataW.trod enc Tryz.prog w base spare held n 9 [c3] = some u3 := (hf 3 _ rfl).trans e3
    have t4 : DataW.trod enc Tryz.prog w base spare held n 26 [c4] = some u4 := (hf 4 _ rfl).trans e4
    have t5 : DataW.trod enc Tryz.prog w base spare held n 27 [c5] = some u5 := (hf 5 _ rfl).trans e5
    clear hf h
    obtain ⟨k, hk, _, wk⟩ := DataW.trod_int Tryz.underlying3 t0
    obtain ⟨b, hb, _⟩ := DataW.trod_bool Tryz.underlying4 t1
    obtain ⟨m, hm, _, wm⟩ := DataW.trod_int Tryz.underlying2 t2
    obtain ⟨s, hs, _, ws⟩ := DataW.trod_string Tryz.underlying9 t3
    obtain ⟨ns, hns, hnl, hnx⟩ := open_sl_strs t5
    obtain rfl : c0 = .int .i64 k := by simpa using hk
    obtain rfl : c1 = .bool b := by simpa using hb
    obtain rfl : c2 = .int .i64 m := by simpa using hm
    obtain rfl : c3 = str s.data.toList := by
      have : c3 = .string s := by simpa using hs
      rw [this]
    have bk := bounds_i64 wk
    have bm := bounds_i64 wm
    have bs : s.data.toList.length ≤ 9223372036854775807 := by
      have : s.data.toList.length = s.size := by rw [Array.length_toList]; rfl
      unfold maxLen at ws; omega
    obtain ⟨xs, flat, hxl, hfl, hI⟩ : ∃ (xs : List DV) (flat : List Value), Sl (.of w) c4 xs.length 6 flat ∧ IsVs (.of w) xs flat ∧ xs.length ≤ 9223372036854775807 := by
      rcases slice_elems Tryz.underlying26 t4 with rfl | ⟨a, len, cap, n', rfl, rfl, hl, hmx, he⟩
      · exact ⟨[], [], Sl.nil, by rw [IsVs], Nat.zero_le _⟩
      · rw [cellsV5] at he
        have hsp : 0 < len → a.spot = none := fun h0 => by
          obtain ⟨cs, y, hcl, hat, _⟩ := he 0 h0
          have h1 := hat 0 (by omega)
          have e0 : (a.add (0 * 6)).add 0 = a := by simp [Addr.add]
          rw [e0] at h1
          exact spot_none (h1.trans (List.getElem?_eq_getElem (by omega)))
        have key : ∀ n, n ≤ len → ∃ (xs : List DV) (flat : List Value), xs.length = n ∧ flat.length = n * 6 ∧ IsVs (.of w) xs flat ∧ ∀ i u, flat[i]? = some u → w.cell? ⟨a.block, a.off + i, none⟩ = some u := by
          intro n
          induction n with
          | zero => intro _; exact ⟨[], [], rfl, rfl, by rw [IsVs], fun i u hu => by simp at hu⟩
          | succ n ih2 =>
            intro hn
            obtain ⟨xs, flat, h1, h2, h3, h4⟩ := ih2 (by omega)
            obtain ⟨cs, y, hcl, hat, ht⟩ := he n (by omega)
            obtain ⟨x, hx⟩ := ih n' (by omega) cs y ht
            have hsp := hsp (by omega)
            refine ⟨xs ++ [x], flat ++ cs, by simp [h1], by rw [List.length_append, h2, hcl]; omega, h3.snoc hx, fun i u hu => ?_⟩
            by_cases hlt : i < flat.length
            · rw [List.getElem?_append_left hlt] at hu; exact h4 i u hu
            · rw [List.getElem?_append_right (by omega)] at hu
              have hi := (List.getElem?_eq_some_iff.1 hu).1
              have h5 := hat (i - flat.length) (by omega)
              rw [hu, add_none hsp] at h5
              have e : (⟨a.block, a.off + n * 6, none⟩ : Addr).add (i - flat.length) = ⟨a.block, a.off + i, none⟩ := by
                rw [add_eq, show a.off + n * 6 + (i - flat.length) = a.off + i by omega]
              rw [e] at h5
              exact h5
        obtain ⟨xs, flat, h1, h2, h3, h4⟩ := key len (Nat.le_refl _)
        refine ⟨xs, flat, ⟨by rw [h2, h1], some a, cap, by rw [h1], by omega, fun i u hu => ?_⟩, h3, by unfold maxLen at hmx; omega⟩
        have hpos : 0 < len := by
          have := (List.getElem?_eq_some_iff.1 hu).1
          omega
        have hsp := hsp hpos
        exact ⟨a.block, a.off, by obtain ⟨b, off, sp⟩ := a; simp only at hsp; subst hsp; rfl, of_cell (h4 i u hu)⟩
    refine ⟨.mk k b m s.data.toList xs ns, ?_⟩
    rw [IsV]
    exact ⟨c4, c5, flat, rfl, bk, bm, bs, hxl, hI, hfl, hns, hnl, hnx⟩
theorem open_arg_V {v : Value} {d : DataW H} {p : List MemPlace} (h : DataW.Trod enc Tryz.prog w base spare held 29 v d p) : ∃ x cs, v = .agg cs.toArray ∧ IsV (.of w) x cs := by
  obtain ⟨fuel, hf⟩ := h
  obtain ⟨x, hx⟩ := open_V fuel _ _ hf
  have hl := hx.len
  cases v with
  | agg cs => exact ⟨x, cs.toList, by simp, hx⟩
  | _ => simp [Value.cells] at hl
end
end Go.Proofs.YtgollffmdpejiaaGreatDoor
