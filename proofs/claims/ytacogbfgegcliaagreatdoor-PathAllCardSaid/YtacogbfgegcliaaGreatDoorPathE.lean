/-
  The document's numbers in steps; its values, how great; all paths.
-/
import Derived.Test.YtacogbfgegcliaaGreatDoorPathD
namespace Go.Proofs.YtacogbfgegcliaaGreatDoor
open Go.RowKit

/-! ### A step as a number -/
/-! ### The document's values, how great -/
mutual
def wfN (m : Nat) : DV → Prop
  | .mk k _ _ s items names => s.length ≤ m ∧ items.length ≤ m ∧ (k = 5 → names.length = items.length ∧ ∀ x ∈ names, x.length ≤ m) ∧ (k = 4 ∨ k = 5 → wfNs m items)
def wfNs (m : Nat) : List DV → Prop
  | [] => True
  | x :: r => wfN m x ∧ wfNs m r
end
mutual
theorem wfN_of_cnt : ∀ (x : DV) (l : Int), l ≤ 1000 → 0 ≤ cnt x l → wfN 300 x
  | .mk k b n s items names, l, hl, h => by
    rw [cnt] at h
    split at h
    · omega
    rename_i hc
    rw [wfN]
    split at h
    · rename_i hk
      have := wfNs_of_cnts (decide (k = 5)) names items (l - 1) (by omega) (by omega) h
      refine ⟨by omega, by omega, fun hk5 => ?_, fun _ => this.1⟩
      have hlen : names.length = items.length := by
        by_cases e : names.length = items.length
        · exact e
        · exact absurd (.inr (.inr (.inr ⟨hk5, e⟩))) hc
      exact ⟨hlen, fun x hx => this.2 (by simp [hk5]) hlen x hx⟩
    · rename_i hk
      exact ⟨by omega, by omega, fun h5 => absurd (.inr h5) hk, fun h5 => absurd h5 hk⟩
theorem wfNs_of_cnts (o : Bool) : ∀ (ns : List (List UInt8)) (l : List DV) (m : Int), 0 ≤ m → m ≤ 1000 → 0 ≤ cnts o ns l m → wfNs 300 l ∧ (o = true → ns.length = l.length → ∀ x ∈ ns, x.length ≤ 300)
  | ns, [], m, h0, hm, h => by
    rw [wfNs]
    refine ⟨trivial, fun _ hl x hx => ?_⟩
    rw [List.eq_nil_of_length_eq_zero hl] at hx
    cases hx
  | ns, x :: r, m, h0, hm, h => by
    rw [cnts] at h
    split at h
    · omega
    rename_i hc
    split at h
    · omega
    rename_i hc2
    have hb := cnt_bd x m h0 hm
    have h1 := wfN_of_cnt x m hm (by omega)
    have h2 := wfNs_of_cnts o ns.tail r (cnt x m) (by omega) (by omega) h
    rw [wfNs]
    refine ⟨⟨h1, h2.1⟩, fun ho hl y hy => ?_⟩
    cases ns with
    | nil => cases hy
    | cons a t =>
      rcases List.mem_cons.1 hy with rfl | hy
      · simp only [List.headD_cons] at hc
        by_cases e : 300 < y.length
        · exact absurd ⟨ho, e⟩ hc
        · omega
      · exact h2.2 ho (by simpa using hl) y hy
end
theorem wfN_of_light {x : DV} (h : lightB x = true) : wfN 300 x := wfN_of_cnt x 300 (by decide) (of_decide_eq_true h)
theorem wfNs.get : ∀ {l : List DV} {m i : Nat} {x : DV}, wfNs m l → l[i]? = some x → wfN m x
  | [], _, _, _, _, h => by simp at h
  | y :: r, m, 0, x, h, hx => by
    rw [wfNs] at h
    obtain rfl : y = x := by simpa using hx
    exact h.1
  | y :: r, m, i + 1, x, h, hx => by
    rw [wfNs] at h
    exact wfNs.get h.2 (i := i) (by simpa using hx)
theorem wfNs.set : ∀ {l : List DV} {m i : Nat} {x : DV}, wfNs m l → wfN m x → wfNs m (l.set i x)
  | [], _, _, _, _, _ => by rw [List.set_nil, wfNs]; trivial
  | y :: r, m, 0, x, h, hx => by
    rw [wfNs] at h
    rw [List.set_cons_zero, wfNs]; exact ⟨hx, h.2⟩
  | y :: r, m, i + 1, x, h, hx => by
    rw [wfNs] at h
    rw [List.set_cons_succ, wfNs]; exact ⟨h.1, wfNs.set h.2 hx⟩
theorem wfNs.snoc : ∀ {l : List DV} {m : Nat} {x : DV}, wfNs m l → wfN m x → wfNs m (l ++ [x])
  | [], _, _, _, hx => by rw [List.nil_append, wfNs, wfNs]; exact ⟨hx, trivial⟩
  | y :: r, m, x, h, hx => by
    rw [wfNs] at h
    rw [List.cons_append, wfNs]; exact ⟨h.1, wfNs.snoc h.2 hx⟩
theorem szs_map : ∀ (l : List DV) (m : Nat), (∀ x ∈ l, szJ m (toJ x)) → szJs m (l.map toJ)
  | [], _, _ => by rw [List.map_nil, szJs]; trivial
  | x :: r, m, h => by rw [List.map_cons, szJs]; exact ⟨h x (by simp), szs_map r m (fun y hy => h y (by simp [hy]))⟩
theorem lens_map : ∀ (l : List DV), (∀ x ∈ l, lenJ (toJ x)) → lenJs (l.map toJ)
  | [], _ => by rw [List.map_nil, lenJs]; trivial
  | x :: r, h => by rw [List.map_cons, lenJs]; exact ⟨h x (by simp), lens_map r (fun y hy => h y (by simp [hy]))⟩
theorem wfNs.mem {l : List DV} {m : Nat} {x : DV} (h : wfNs m l) (hx : x ∈ l) : wfN m x := by
  obtain ⟨i, hi⟩ := List.getElem?_of_mem hx
  exact h.get hi
theorem sz_toJ : ∀ (N : Nat) (x : DV), dsz x ≤ N → ∀ m, wfN m x → szJ m (toJ x) ∧ lenJ (toJ x)
  | 0, .mk .., h, _, _ => by rw [dsz] at h; omega
  | N + 1, .mk k b n s items names, h, m, hw => by
    have IH := sz_toJ N
    rw [dsz] at h
    rw [wfN] at hw
    have hI : k = 4 ∨ k = 5 → ∀ x ∈ items, szJ m (toJ x) ∧ lenJ (toJ x) := fun hk x hx => by
      obtain ⟨i, hi⟩ := List.getElem?_of_mem hx
      exact IH x (by have := dsz_get hi; omega) m ((hw.2.2.2 hk).mem hx)
    rw [toJ_eq]
    split
    · rw [szJ, lenJ]; simp
    split
    · rw [szJ, lenJ]; simp
    split
    · rw [szJ, lenJ]; simp
    split
    · rw [szJ, lenJ]; exact ⟨hw.1, trivial⟩
    split
    · rename_i hk
      rw [szJ, lenJ, List.length_map]
      exact ⟨⟨hw.2.1, szs_map _ _ fun x hx => (hI (.inl hk) x hx).1⟩, lens_map _ fun x hx => (hI (.inl hk) x hx).2⟩
    split
    · rename_i hk
      rw [szJ, lenJ, List.length_map]
      exact ⟨⟨hw.2.1, (hw.2.2.1 hk).2, szs_map _ _ fun x hx => (hI (.inr hk) x hx).1⟩, (hw.2.2.1 hk).1, lens_map _ fun x hx => (hI (.inr hk) x hx).2⟩
    · rw [szJ, lenJ]; simp
/-! ### Depth -/
/-! ### What becomes of the document's values -/
/-! ### All paths -/
def toldB (q s : List UInt8) : Bool := match stepsL q with
  | some l => l.getLast? == some s
  | none => false
mutual
def allJ (ahead : List UInt8) : J → List (List UInt8)
  | .list xs => allJs ahead 0 xs
  | .obj ns xs => allMs ahead ns xs
  | .null => []
  | .bool _ => []
  | .num _ => []
  | .text _ => []
  | .other _ => []
def allJs (ahead : List UInt8) : Nat → List J → List (List UInt8)
  | _, [] => []
  | i, x :: r => (if toldB (ahead ++ Lib.decDigits i) (Lib.decDigits i) = true then (ahead ++ Lib.decDigits i) :: allJ (ahead ++ Lib.decDigits i ++ [46]) x else []) ++ allJs ahead (i + 1) r
def allMs (ahead : List UInt8) : List (List UInt8) → List J → List (List UInt8)
  | _, [] => []
  | ns, x :: r => (if toldB (ahead ++ ns.headD []) (ns.headD []) = true then (ahead ++ ns.headD []) :: allJ (ahead ++ ns.headD [] ++ [46]) x else []) ++ allMs ahead ns.tail r
end
end Go.Proofs.YtacogbfgegcliaaGreatDoor
