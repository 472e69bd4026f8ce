/-
  The document's numbers in steps; its values, how great; all paths. What Put and Drop tell; a value is like itself. How long the plain text of a light value is at most; what Parse tells of what Print told. Lists, objects within one another, as texts and as values.
-/
import Derived.Test.YtfmadoeadmclbaaDoorHd30
import Derived.Test.YtfmadoeadmclbaaDoorHd17
import Derived.Test.YtfmadoeadmclbaaDoorHd44
import Derived.Test.YtfmadoeadmclbaaDoorHd33
import Derived.Test.YtfmadoeadmclbaaDoorHd41
namespace Go.Proofs.YtfmadoeadmclbaaDoor
open Go.RowKit

/-! ### A step as a number -/
/-! ### The document's values, how great -/
mutual
def wfN (m : Nat) : DV → Prop
  | .mk k _ _ s items names => s.length ≤ m ∧ items.length ≤ m ∧ (k = 5 → names.length = items.length ∧ ∀ x ∈ names, x.length ≤ m) ∧ (k = 4 ∨ k = 5 → wfNs m items)
def wfNs (m : Nat) : List DV → Prop
  | [] => True
  | x :: r => wfN m x ∧ wfNs m r
end
theorem wfNs.get : ∀ {l : List DV} {m i : Nat} {x : DV}, wfNs m l → l[i]? = some x → wfN m x
  | [], _, _, _, _, h => by simp at h
  | y :: r, m, 0, x, h, hx => by
    rw [wfNs] at h
    obtain rfl : y = x := by simpa using hx
    exact h.1
  | y :: r, m, i + 1, x, h, hx => by
    rw [wfNs] at h
    exact wfNs.get h.2 (i := i) (by simpa using hx)
theorem wfNs.set : ∀ {l : List DV} {m i : Nat} {x : DV}, wfNs m l → wfN m x → wfNs m (l.set i x)
  | [], _, _, _, _, _ => by rw [List.set_nil, wfNs]; trivial
  | y :: r, m, 0, x, h, hx => by
    rw [wfNs] at h
    rw [List.set_cons_zero, wfNs]; exact ⟨hx, h.2⟩
  | y :: r, m, i + 1, x, h, hx => by
    rw [wfNs] at h
    rw [List.set_cons_succ, wfNs]; exact ⟨h.1, wfNs.set h.2 hx⟩
theorem wfNs.snoc : ∀ {l : List DV} {m : Nat} {x : DV}, wfNs m l → wfN m x → wfNs m (l ++ [x])
  | [], _, _, _, hx => by rw [List.nil_append, wfNs, wfNs]; exact ⟨hx, trivial⟩
  | y :: r, m, x, h, hx => by
    rw [wfNs] at h
    rw [List.cons_append, wfNs]; exact ⟨h.1, wfNs.snoc h.2 hx⟩
theorem wfNs.mem {l : List DV} {m : Nat} {x : DV} (h : wfNs m l) (hx : x ∈ l) : wfN m x := by
  obtain ⟨i, hi⟩ := List.getElem?_of_mem hx
  exact h.get hi
/-! ### Depth -/
/-! ### What becomes of the document's values -/
/-! ### All paths -/
end Go.Proofs.YtfmadoeadmclbaaDoor
namespace Go.Proofs.YtfmadoeadmclbaaDoor
open Go.RowKit Go.TL

theorem look_ok0 {z : J} (h : okJ z) : lookJ z 0 = if depJ z ≤ 32 then 0 else 10 := by
  rw [look_of_ok z 0 h]
  split <;> split <;> first | rfl | omega
end Go.Proofs.YtfmadoeadmclbaaDoor
namespace Go.Proofs.YtfmadoeadmclbaaDoor
open Go.RowKit

theorem print_parse {x : J} (hk : okJ x) (hd : depJ x ≤ 32) (hl : (prJ x).length ≤ 65536) : jparse (prJ x) = .ok x := by
  have h := parse_back (pre := []) (post := []) (q := []) (fun _ h => by cases h) (fun _ h => by cases h) hk hd (fun _ h => by cases h)
  rw [List.nil_append, prW_nil] at h
  exact h hl
theorem look_zero {x : J} (hk : okJ x) (hd : depJ x ≤ 32) : lookJ x 0 = 0 := by rw [look_ok0 hk, if_pos hd]
mutual
theorem sm_of_m : ∀ (x : J), mJ x ≤ 1000000 → lenJ x → smJ x
  | .null, _, _ => by rw [smJ]; trivial
  | .bool _, _, _ => by rw [smJ]; trivial
  | .num _, _, _ => by rw [smJ]; trivial
  | .other _, _, _ => by rw [smJ]; trivial
  | .text s, h, _ => by rw [mJ] at h; rw [smJ]; omega
  | .list xs, h, hl => by
    rw [mJ] at h
    rw [lenJ] at hl
    have h1 := sms_of_m xs (by omega) hl
    rw [smJ]
    exact ⟨by omega, h1.1⟩
  | .obj ns xs, h, hl => by
    rw [mJ] at h
    rw [lenJ] at hl
    have h1 := smm_of_m ns xs (by omega) hl.2 hl.1
    rw [smJ]
    exact ⟨by omega, h1.2.1, h1.1⟩
theorem sms_of_m : ∀ (l : List J), mJs l ≤ 1000000 → lenJs l → smJs l ∧ l.length ≤ mJs l
  | [], _, _ => by rw [smJs, mJs]; exact ⟨trivial, Nat.le_refl _⟩
  | x :: r, h, hl => by
    rw [mJs] at h ⊢
    rw [lenJs] at hl
    have h1 := sm_of_m x (by omega) hl.1
    have h2 := sms_of_m r (by omega) hl.2
    rw [smJs, List.length_cons]
    exact ⟨⟨h1, h2.1⟩, by omega⟩
theorem smm_of_m : ∀ (ns : List (List UInt8)) (l : List J), mJm ns l ≤ 1000000 → lenJs l → ns.length = l.length → smJs l ∧ (∀ n ∈ ns, n.length ≤ 1000000) ∧ l.length ≤ mJm ns l
  | [], [], _, _, _ => by rw [smJs, mJm]; exact ⟨trivial, (fun _ h => by cases h), Nat.le_refl _⟩
  | n :: ns, x :: r, h, hl, hn => by
    rw [mJm, List.headD_cons, List.tail_cons] at h ⊢
    rw [lenJs] at hl
    have h1 := sm_of_m x (by omega) hl.1
    have h2 := smm_of_m ns r (by omega) hl.2 (by simpa using hn)
    rw [smJs, List.length_cons]
    refine ⟨⟨h1, h2.1⟩, fun m hm => ?_, by omega⟩
    rcases List.mem_cons.1 hm with rfl | hm
    · omega
    · exact h2.2.1 m hm
  | [], _ :: _, _, _, hn => by simp at hn
  | _ :: _, [], _, _, hn => by simp at hn
end
end Go.Proofs.YtfmadoeadmclbaaDoor
namespace Go.Proofs.YtfmadoeadmclbaaDoor
open Go.RowKit

def repL : Nat → List UInt8 → List UInt8
  | 0, _ => []
  | n + 1, l => l ++ repL n l
theorem repL_comm : ∀ (n : Nat) (l : List UInt8), l ++ repL n l = repL n l ++ l
  | 0, l => by rw [repL, List.append_nil, List.nil_append]
  | n + 1, l => by rw [repL, List.append_assoc, ← repL_comm n l]
theorem repL_len : ∀ (n : Nat) (l : List UInt8), (repL n l).length = n * l.length
  | 0, l => by rw [repL, Nat.zero_mul]; rfl
  | n + 1, l => by rw [repL, List.length_append, repL_len n l, Nat.succ_mul]; omega
def opB (o : Bool) : List UInt8 := if o = true then [123, 34, 97, 34, 58] else [91]
def clB (o : Bool) : List UInt8 := if o = true then [125] else [93]
def nestJ (o : Bool) : Nat → J
  | 0 => .num 10000000
  | n + 1 => if o = true then .obj [[97]] [nestJ o n] else .list [nestJ o n]
theorem nest_ok (o : Bool) : ∀ (n : Nat), okJ (nestJ o n) ∧ depJ (nestJ o n) = n
  | 0 => by rw [nestJ, okJ, depJ]; exact ⟨rfl, rfl⟩
  | n + 1 => by
    have ih := nest_ok o n
    rw [nestJ]
    cases o with
    | true =>
      rw [if_pos rfl, okJ, okJs, okJs, depJ, depJs, depJs, ih.2]
      exact ⟨⟨rfl, by simp, by simp; rfl, ih.1, trivial⟩, by omega⟩
    | false =>
      rw [if_neg (by decide), okJ, okJs, okJs, depJ, depJs, depJs, ih.2]
      exact ⟨⟨ih.1, trivial⟩, by omega⟩
theorem print_one : printL 10000000 = ([49], 0) := by
  have d1 : Lib.decDigits 1 = [49] := by rw [Lib.decDigits]; rfl
  rw [printL, if_neg (by omega), if_neg (by omega)]
  have e1 : (10000000 : Int).natAbs / 10000000 = 1 := by decide
  have e2 : (10000000 : Int).natAbs % 10000000 = 0 := by decide
  rw [e1, e2, if_pos rfl, d1]
  rfl
theorem quo_a : quo [97] = [34, 97, 34] := rfl
theorem nest_step (o : Bool) (n : Nat) (r : List UInt8) : prJ (nestJ o (n + 1)) ++ r = opB o ++ (prJ (nestJ o n) ++ (clB o ++ r)) := by
  rw [nestJ]
  unfold opB clB
  cases o with
  | true =>
    rw [if_pos rfl, if_pos rfl, if_pos rfl, prJ, prMs, prMs, List.headD_cons, quo_a]
    unfold endL
    simp
  | false =>
    rw [if_neg (by decide), if_neg (by decide), if_neg (by decide), prJ, prJs, prJs]
    unfold endL
    simp
theorem nest_text (o : Bool) : ∀ (n : Nat), prJ (nestJ o n) = repL n (opB o) ++ [49] ++ repL n (clB o)
  | 0 => by rw [nestJ, prJ, print_one, repL, repL]; rfl
  | n + 1 => by
    have h := nest_step o n []
    rw [List.append_nil, List.append_nil, nest_text o n] at h
    rw [h, repL, repL, repL_comm n (clB o)]
    simp only [List.append_assoc]
theorem val_deep (o : Bool) : ∀ (d n : Nat) (r : List UInt8), d < n → valT d (prJ (nestJ o n) ++ r) = .error 10
  | _, 0, _, h => by omega
  | 0, n + 1, r, _ => by
    rw [nest_step, valT]
    unfold valW opB
    cases o with
    | true =>
      rw [if_pos rfl, List.cons_append, blL_of rfl]
      dsimp only
      rw [if_neg (by decide), if_neg (by decide), if_neg (by decide), if_neg (by decide), if_neg (by decide), if_pos rfl]
    | false =>
      rw [if_neg (by decide), List.cons_append, blL_of rfl]
      dsimp only
      rw [if_neg (by decide), if_neg (by decide), if_neg (by decide), if_neg (by decide), if_pos rfl]
  | d + 1, n + 1, r, h => by
    have ih := val_deep o d n (clB o ++ r) (by omega)
    have hok := (nest_ok o n).1
    obtain ⟨c, t, hc, h1, _⟩ := head_prW (pre := []) (post := []) (fun _ h => by cases h) _ hok
    have hc1 := hc (clB o ++ r)
    rw [prW_nil] at hc1
    rw [nest_step, valT]
    unfold valW
    cases o with
    | true =>
      have e : opB true ++ (prJ (nestJ true n) ++ (clB true ++ r)) = 123 :: (34 :: 97 :: 34 :: 58 :: (prJ (nestJ true n) ++ (clB true ++ r))) := rfl
      rw [e, blL_of rfl]
      dsimp only
      rw [if_neg (by decide), if_neg (by decide), if_neg (by decide), if_neg (by decide), if_neg (by decide), if_pos rfl]
      unfold mbrW
      rw [blL_of rfl, if_neg (by simp), mbrP, blL_of rfl]
      dsimp only
      have ht : textL (97 :: 34 :: 58 :: (prJ (nestJ true n) ++ (clB true ++ r))) = some ([97], 58 :: (prJ (nestJ true n) ++ (clB true ++ r))) := text_back 1 [97] (by decide) rfl _
      rw [if_pos rfl, ht]
      dsimp only
      rw [if_neg (by simp), blL_of rfl]
      dsimp only
      rw [if_pos rfl, ih]
    | false =>
      have e : opB false ++ (prJ (nestJ false n) ++ (clB false ++ r)) = 91 :: (prJ (nestJ false n) ++ (clB false ++ r)) := rfl
      rw [e, blL_of rfl]
      dsimp only
      rw [if_neg (by decide), if_neg (by decide), if_neg (by decide), if_neg (by decide), if_pos rfl]
      unfold lstW
      rw [hc1, if_neg (by simpa using h1), ← hc1, lstP, valT_bl, ih]
theorem parse_deep (o : Bool) {n : Nat} (h : 32 < n) (hl : (prJ (nestJ o n)).length ≤ 65536) : jparse (prJ (nestJ o n)) = .error 10 := by
  have h1 := val_deep o 32 n [] h
  rw [List.append_nil] at h1
  unfold jparse
  rw [if_neg (by omega), h1]
theorem nest_len (o : Bool) (n : Nat) (h : n < 256) : (prJ (nestJ o n)).length ≤ 2000 := by
  rw [nest_text, List.length_append, List.length_append, repL_len, repL_len]
  cases o with
  | true =>
    show n * 5 + 1 + n * 1 ≤ 2000
    omega
  | false =>
    show n * 1 + 1 + n * 1 ≤ 2000
    omega
end Go.Proofs.YtfmadoeadmclbaaDoor
