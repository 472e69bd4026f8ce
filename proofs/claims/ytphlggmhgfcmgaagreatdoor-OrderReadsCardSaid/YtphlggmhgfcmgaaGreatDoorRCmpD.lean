/-
  How the document's values compare.
-/
import Derived.Test.YtphlggmhgfcmgaaGreatDoorRMay
namespace Go.Proofs.YtphlggmhgfcmgaaGreatDoor
open Go.RowKit Go.TL
set_option maxRecDepth 100000

def cmpI (a b : Int) : Int := if a < b then -1 else if b < a then 1 else 0
def cmpB (a b : List UInt8) : Int := if Op.bytesLess a b = true then -1 else if a = b then 0 else 1
/-- A kind's place. -/
def rankV (x : DV) : Int := if x.kind = 0 then 1 else if x.kind = 1 then (if x.b = true then 3 else 2) else x.kind + 2
theorem rankV_eq (k : Int) (b : Bool) (n : Int) (s : List UInt8) (items : List DV) (names : List (List UInt8)) : rankV (.mk k b n s items names) = if k = 0 then 1 else if k = 1 then (if b = true then 3 else 2) else k + 2 := rfl
mutual
/-- Which of two values is ahead. -/
def cmpV : DV → DV → Int
  | .mk k b n s items names, y =>
    if rankV (.mk k b n s items names) ≠ rankV y then cmpI (rankV (.mk k b n s items names)) (rankV y)
    else if k = 2 then cmpI n y.n else if k = 3 then cmpB s y.s else if k = 4 ∨ k = 5 then cmpVs (decide (k = 5)) names y.names items y.items items.length y.items.length else 0
def cmpVs (o : Bool) : List (List UInt8) → List (List UInt8) → List DV → List DV → Nat → Nat → Int
  | ns, ms, x :: r, ys, a, c => match ys with
    | [] => cmpI a c
    | y :: t => if o = true ∧ ns.headD [] ≠ ms.headD [] then cmpB (ns.headD []) (ms.headD []) else if cmpV x y ≠ 0 then cmpV x y else cmpVs o ns.tail ms.tail r t a c
  | _, _, [], _, a, c => cmpI a c
end
mutual
/-- The kinds are those that there are. -/
def okV : DV → Prop
  | .mk k _ _ _ items _ => 0 ≤ k ∧ k ≤ 5 ∧ (k = 4 ∨ k = 5 → okVs items)
def okVs : List DV → Prop
  | [] => True
  | x :: r => okV x ∧ okVs r
end
theorem okVs.get : ∀ {l : List DV} {i : Nat} {x : DV}, okVs l → l[i]? = some x → okV x
  | [], _, _, _, h => by simp at h
  | y :: r, 0, x, h, hx => by
    rw [okVs] at h
    obtain rfl : y = x := by simpa using hx
    exact h.1
  | y :: r, i + 1, x, h, hx => by
    rw [okVs] at h
    exact okVs.get h.2 (i := i) (by simpa using hx)
mutual
theorem cmpV_bd : ∀ (x y : DV), -1 ≤ cmpV x y ∧ cmpV x y ≤ 1
  | .mk k b n s items names, y => by
    rw [cmpV]
    have h1 := cmpVs_bd (decide (k = 5)) names y.names items y.items items.length y.items.length
    unfold cmpI cmpB
    repeat' split
    all_goals omega
theorem cmpVs_bd (o : Bool) : ∀ (ns ms : List (List UInt8)) (l m : List DV) (a c : Nat), -1 ≤ cmpVs o ns ms l m a c ∧ cmpVs o ns ms l m a c ≤ 1
  | ns, ms, x :: r, [], a, c => by
    rw [cmpVs]; unfold cmpI
    repeat' split
    all_goals omega
  | ns, ms, x :: r, y :: t, a, c => by
    rw [cmpVs]
    have h1 := cmpV_bd x y
    have h2 := cmpVs_bd o ns.tail ms.tail r t a c
    unfold cmpB
    repeat' split
    all_goals omega
  | _, _, [], m, a, c => by
    rw [cmpVs]; unfold cmpI
    repeat' split
    all_goals omega
end
theorem cmpVs_at {o : Bool} {ns ms : List (List UInt8)} {l m : List DV} {i : Nat} {x y : DV} (hx : l[i]? = some x) (hy : m[i]? = some y) (a c : Nat) :
    cmpVs o (ns.drop i) (ms.drop i) (l.drop i) (m.drop i) a c = if o = true ∧ (ns.drop i).headD [] ≠ (ms.drop i).headD [] then cmpB ((ns.drop i).headD []) ((ms.drop i).headD []) else if cmpV x y ≠ 0 then cmpV x y else cmpVs o (ns.drop (i + 1)) (ms.drop (i + 1)) (l.drop (i + 1)) (m.drop (i + 1)) a c := by
  obtain ⟨hi, he⟩ := List.getElem?_eq_some_iff.1 hx
  obtain ⟨hj, hf⟩ := List.getElem?_eq_some_iff.1 hy
  rw [List.drop_eq_getElem_cons hi, he, List.drop_eq_getElem_cons hj, hf, cmpVs, List.tail_drop, List.tail_drop]
theorem cmpVs_end {o : Bool} {ns ms : List (List UInt8)} {l m : List DV} {i : Nat} (h : i = l.length ∨ i = m.length) (a c : Nat) : cmpVs o (ns.drop i) (ms.drop i) (l.drop i) (m.drop i) a c = cmpI a c := by
  rcases h with rfl | rfl
  · rw [List.drop_length, cmpVs]
  · rw [List.drop_length]
    cases l.drop m.length with
    | nil => rw [cmpVs]
    | cons x r => rw [cmpVs]
theorem rank_same {k k2 : Int} {b b2 : Bool} {n n2 : Int} {s s2 : List UInt8} {i i2 : List DV} {m m2 : List (List UInt8)} (h : rankV (.mk k b n s i m) = rankV (.mk k2 b2 n2 s2 i2 m2)) (k0 : 0 ≤ k) (k20 : 0 ≤ k2) : k = k2 := by
  rw [rankV_eq, rankV_eq] at h
  repeat' split at h
  all_goals omega
end Go.Proofs.YtphlggmhgfcmgaaGreatDoor
