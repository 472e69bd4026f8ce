/-
  The document's numbers in steps; its values, how great; all paths.
-/
import Derived.Test.YtacogbfgegcliaaGreatDoorPathD
namespace Go.Proofs.YtacogbfgegcliaaGreatDoor
open Go.RowKit

/-! ### A step as a number -/
def itemR : List UInt8 → Nat → Option Nat
  | [], n => some n
  | c :: t, n => if 48 ≤ c.toNat ∧ c.toNat ≤ 57 then (if 1000000 < 10 * n + (c.toNat - 48) then none else itemR t (10 * n + (c.toNat - 48))) else none
theorem itemR_some : ∀ {t : List UInt8} {n k : Nat}, itemR t n = some k → n ≤ 1000000 → (∀ c ∈ t, 48 ≤ c.toNat ∧ c.toNat ≤ 57) ∧ k = foldN n t ∧ k ≤ 1000000
  | [], n, k, h, hn => by
    rw [itemR] at h
    obtain rfl := Option.some.inj h
    exact ⟨by simp, rfl, hn⟩
  | c :: t, n, k, h, hn => by
    rw [itemR] at h
    split at h
    · rename_i hc
      split at h
      · cases h
      · obtain ⟨h1, h2, h3⟩ := itemR_some h (by omega)
        refine ⟨fun d hd => ?_, h2, h3⟩
        rcases List.mem_cons.1 hd with rfl | hd
        · exact hc
        · exact h1 d hd
    · cases h
theorem itemR_of : ∀ (t : List UInt8) (n : Nat), (∀ c ∈ t, 48 ≤ c.toNat ∧ c.toNat ≤ 57) → foldN n t ≤ 1000000 → itemR t n = some (foldN n t)
  | [], n, _, _ => rfl
  | c :: t, n, h, hn => by
    have h1 := foldN_ge t (10 * n + (c.toNat - 48))
    have h2 : foldN n (c :: t) = foldN (10 * n + (c.toNat - 48)) t := rfl
    rw [h2] at hn ⊢
    rw [itemR, if_pos (h c (by simp)), if_neg (by omega)]
    exact itemR_of t _ (fun d hd => h d (by simp [hd])) hn
theorem dec_head : ∀ (n : Nat), 1 ≤ n → (Lib.decDigits n).head? ≠ some 48 := fun n => by
  induction n using Nat.strongRecOn with
  | ind n ih =>
    intro h1 hh
    by_cases h : n < 10
    · rw [Lib.decDigits_one h] at hh
      have h2 : UInt8.ofNat (48 + n) = 48 := by simpa using hh
      have := congrArg UInt8.toNat h2
      rw [dg_nat n h] at this
      have h3 : (48 : UInt8).toNat = 48 := rfl
      omega
    · rw [dec_snoc h] at hh
      cases hd : Lib.decDigits (n / 10) with
      | nil => exact dec_ne _ hd
      | cons c r =>
        rw [hd] at hh
        exact ih (n / 10) (by omega) (by omega) (by rw [hd]; simpa using hh)
theorem dec_unique : ∀ (k : Nat) (s : List UInt8), s.length ≤ k → s ≠ [] → (∀ c ∈ s, 48 ≤ c.toNat ∧ c.toNat ≤ 57) → (s.head? = some 48 → s.length = 1) → s = Lib.decDigits (numL s)
  | 0, s, hk, h, _, _ => absurd (List.eq_nil_of_length_eq_zero (by omega)) h
  | k + 1, s, hk, h, hf, h0 => by
    obtain ⟨t, c, rfl⟩ : ∃ t c, s = t ++ [c] := ⟨s.dropLast, s.getLast h, (List.dropLast_concat_getLast h).symm⟩
    have hc := hf c (by simp)
    have hcc : UInt8.ofNat (48 + (c.toNat - 48)) = c := by
      apply UInt8.toNat_inj.1
      rw [dg_nat _ (by omega)]; omega
    rw [numL_snoc]
    by_cases ht : t = []
    · subst ht
      have : numL [] = 0 := rfl
      rw [this, Lib.decDigits_one (by omega), Nat.mul_zero, Nat.zero_add, hcc]; rfl
    · have hl : 0 < t.length := List.length_pos_iff.2 ht
      have hh : t.head? ≠ some 48 := fun e => by
        have : (t ++ [c]).head? = some 48 := by cases t with
          | nil => exact absurd rfl ht
          | cons => simpa using e
        have := h0 this
        rw [List.length_append, List.length_singleton] at this; omega
      have ih := dec_unique k t (by rw [List.length_append, List.length_singleton] at hk; omega) ht (fun d hd => hf d (by simp [hd])) (fun e => absurd e hh)
      have h1 : 1 ≤ numL t := by
        apply Nat.one_le_iff_ne_zero.2
        intro e
        rw [e, Lib.decDigits_one (by omega)] at ih
        exact hh (by rw [ih]; rfl)
      rw [dec_snoc (by omega), show (10 * numL t + (c.toNat - 48)) / 10 = numL t by omega, show (10 * numL t + (c.toNat - 48)) % 10 = c.toNat - 48 by omega, ← ih, hcc]
/-- The document's Item. -/
def itemD (s : List UInt8) : Int := match itemR s 0 with
  | none => -1
  | some n => if s.head? = some 48 ∧ 1 < s.length then -1 else (n : Int)
theorem itemD_eq {s : List UInt8} (hs : s ≠ []) : itemD s = match itemL s with
    | some n => if n ≤ 1000000 then (n : Int) else -1
    | none => -1 := by
  unfold itemD
  cases hi : itemL s with
  | some n =>
    have e := item_some hi
    have hd := dec_digits n
    rw [← e] at hd
    have hv : foldN 0 s = n := by rw [e]; exact num_dec n
    have hz : ¬ (s.head? = some 48 ∧ 1 < s.length) := fun h => by
      have h1 : ¬ n < 10 := fun h2 => by
        have := h.2
        rw [e, Lib.decDigits_one h2] at this; simp at this
      exact dec_head n (by omega) (by rw [← e]; exact h.1)
    dsimp only
    by_cases hn : n ≤ 1000000
    · rw [itemR_of s 0 hd (by omega), hv]
      dsimp only
      rw [if_neg hz, if_pos hn]
    · rw [if_neg hn]
      cases hr : itemR s 0 with
      | none => rfl
      | some k =>
        obtain ⟨_, h2, h3⟩ := itemR_some hr (by omega)
        omega
  | none =>
    cases hr : itemR s 0 with
    | none => rfl
    | some k =>
      obtain ⟨h1, h2, h3⟩ := itemR_some hr (by omega)
      dsimp only
      by_cases hz : s.head? = some 48 ∧ 1 < s.length
      · rw [if_pos hz]
      · exfalso
        have := dec_unique _ s (Nat.le_refl _) hs h1 (fun h => by
          have : 0 < s.length := List.length_pos_iff.2 hs
          by_cases h4 : 1 < s.length
          · exact absurd ⟨h, h4⟩ hz
          · omega)
        unfold itemL at hi
        rw [if_pos this] at hi
        cases hi
/-! ### The document's values, how great -/
mutual
def wfN (m : Nat) : DV → Prop
  | .mk k _ _ s items names => s.length ≤ m ∧ items.length ≤ m ∧ (k = 5 → names.length = items.length ∧ ∀ x ∈ names, x.length ≤ m) ∧ (k = 4 ∨ k = 5 → wfNs m items)
def wfNs (m : Nat) : List DV → Prop
  | [] => True
  | x :: r => wfN m x ∧ wfNs m r
end
mutual
theorem wf_of_N : ∀ (x : DV) (m : Nat), wfN m x → m ≤ 100000 → wfV x
  | .mk k b n s items names, m, h, hm => by
    rw [wfN] at h
    rw [wfV]
    exact ⟨by omega, by omega, fun h5 => ⟨(h.2.2.1 h5).1, fun x hx => Nat.le_trans ((h.2.2.1 h5).2 x hx) hm⟩, fun h45 => wfs_of_N items m (h.2.2.2 h45) hm⟩
theorem wfs_of_N : ∀ (l : List DV) (m : Nat), wfNs m l → m ≤ 100000 → wfVs l
  | [], _, _, _ => by rw [wfVs]; trivial
  | x :: r, m, h, hm => by rw [wfNs] at h; rw [wfVs]; exact ⟨wf_of_N x m h.1 hm, wfs_of_N r m h.2 hm⟩
end
mutual
theorem wfN_up : ∀ (x : DV) (m k : Nat), wfN m x → m ≤ k → wfN k x
  | .mk _ b n s items names, m, k, h, hm => by
    rw [wfN] at h ⊢
    exact ⟨by omega, by omega, fun h5 => ⟨(h.2.2.1 h5).1, fun x hx => Nat.le_trans ((h.2.2.1 h5).2 x hx) hm⟩, fun h45 => wfNs_up items m k (h.2.2.2 h45) hm⟩
theorem wfNs_up : ∀ (l : List DV) (m k : Nat), wfNs m l → m ≤ k → wfNs k l
  | [], _, _, _, _ => by rw [wfNs]; trivial
  | x :: r, m, k, h, hm => by rw [wfNs] at h ⊢; exact ⟨wfN_up x m k h.1 hm, wfNs_up r m k h.2 hm⟩
end
mutual
theorem wfN_of_cnt : ∀ (x : DV) (l : Int), l ≤ 1000 → 0 ≤ cnt x l → wfN 300 x
  | .mk k b n s items names, l, hl, h => by
    rw [cnt] at h
    split at h
    · omega
    rename_i hc
    rw [wfN]
    split at h
    · rename_i hk
      have := wfNs_of_cnts (decide (k = 5)) names items (l - 1) (by omega) (by omega) h
      refine ⟨by omega, by omega, fun hk5 => ?_, fun _ => this.1⟩
      have hlen : names.length = items.length := by
        by_cases e : names.length = items.length
        · exact e
        · exact absurd (.inr (.inr (.inr ⟨hk5, e⟩))) hc
      exact ⟨hlen, fun x hx => this.2 (by simp [hk5]) hlen x hx⟩
    · rename_i hk
      exact ⟨by omega, by omega, fun h5 => absurd (.inr h5) hk, fun h5 => absurd h5 hk⟩
theorem wfNs_of_cnts (o : Bool) : ∀ (ns : List (List UInt8)) (l : List DV) (m : Int), 0 ≤ m → m ≤ 1000 → 0 ≤ cnts o ns l m → wfNs 300 l ∧ (o = true → ns.length = l.length → ∀ x ∈ ns, x.length ≤ 300)
  | ns, [], m, h0, hm, h => by
    rw [wfNs]
    refine ⟨trivial, fun _ hl x hx => ?_⟩
    rw [List.eq_nil_of_length_eq_zero hl] at hx
    cases hx
  | ns, x :: r, m, h0, hm, h => by
    rw [cnts] at h
    split at h
    · omega
    rename_i hc
    split at h
    · omega
    rename_i hc2
    have hb := cnt_bd x m h0 hm
    have h1 := wfN_of_cnt x m hm (by omega)
    have h2 := wfNs_of_cnts o ns.tail r (cnt x m) (by omega) (by omega) h
    rw [wfNs]
    refine ⟨⟨h1, h2.1⟩, fun ho hl y hy => ?_⟩
    cases ns with
    | nil => cases hy
    | cons a t =>
      rcases List.mem_cons.1 hy with rfl | hy
      · simp only [List.headD_cons] at hc
        by_cases e : 300 < y.length
        · exact absurd ⟨ho, e⟩ hc
        · omega
      · exact h2.2 ho (by simpa using hl) y hy
end
theorem wfN_of_light {x : DV} (h : lightB x = true) : wfN 300 x := wfN_of_cnt x 300 (by decide) (of_decide_eq_true h)
theorem wfNs.get : ∀ {l : List DV} {m i : Nat} {x : DV}, wfNs m l → l[i]? = some x → wfN m x
  | [], _, _, _, _, h => by simp at h
  | y :: r, m, 0, x, h, hx => by
    rw [wfNs] at h
    obtain rfl : y = x := by simpa using hx
    exact h.1
  | y :: r, m, i + 1, x, h, hx => by
    rw [wfNs] at h
    exact wfNs.get h.2 (i := i) (by simpa using hx)
theorem wfNs.set : ∀ {l : List DV} {m i : Nat} {x : DV}, wfNs m l → wfN m x → wfNs m (l.set i x)
  | [], _, _, _, _, _ => by rw [List.set_nil, wfNs]; trivial
  | y :: r, m, 0, x, h, hx => by
    rw [wfNs] at h
    rw [List.set_cons_zero, wfNs]; exact ⟨hx, h.2⟩
  | y :: r, m, i + 1, x, h, hx => by
    rw [wfNs] at h
    rw [List.set_cons_succ, wfNs]; exact ⟨h.1, wfNs.set h.2 hx⟩
theorem wfNs.snoc : ∀ {l : List DV} {m : Nat} {x : DV}, wfNs m l → wfN m x → wfNs m (l ++ [x])
  | [], _, _, _, hx => by rw [List.nil_append, wfNs, wfNs]; exact ⟨hx, trivial⟩
  | y :: r, m, x, h, hx => by
    rw [wfNs] at h
    rw [List.cons_append, wfNs]; exact ⟨h.1, wfNs.snoc h.2 hx⟩
theorem wfNs.erase : ∀ {l : List DV} {m i : Nat}, wfNs m l → wfNs m (l.eraseIdx i)
  | [], _, _, _ => by rw [List.eraseIdx_nil, wfNs]; trivial
  | y :: r, m, 0, h => by
    rw [wfNs] at h
    rw [List.eraseIdx_cons_zero]; exact h.2
  | y :: r, m, i + 1, h => by
    rw [wfNs] at h
    rw [List.eraseIdx_cons_succ, wfNs]; exact ⟨h.1, wfNs.erase h.2⟩
theorem szs_map : ∀ (l : List DV) (m : Nat), (∀ x ∈ l, szJ m (toJ x)) → szJs m (l.map toJ)
  | [], _, _ => by rw [List.map_nil, szJs]; trivial
  | x :: r, m, h => by rw [List.map_cons, szJs]; exact ⟨h x (by simp), szs_map r m (fun y hy => h y (by simp [hy]))⟩
theorem lens_map : ∀ (l : List DV), (∀ x ∈ l, lenJ (toJ x)) → lenJs (l.map toJ)
  | [], _ => by rw [List.map_nil, lenJs]; trivial
  | x :: r, h => by rw [List.map_cons, lenJs]; exact ⟨h x (by simp), lens_map r (fun y hy => h y (by simp [hy]))⟩
theorem wfNs.mem {l : List DV} {m : Nat} {x : DV} (h : wfNs m l) (hx : x ∈ l) : wfN m x := by
  obtain ⟨i, hi⟩ := List.getElem?_of_mem hx
  exact h.get hi
theorem sz_toJ : ∀ (N : Nat) (x : DV), dsz x ≤ N → ∀ m, wfN m x → szJ m (toJ x) ∧ lenJ (toJ x)
  | 0, .mk .., h, _, _ => by rw [dsz] at h; omega
  | N + 1, .mk k b n s items names, h, m, hw => by
    have IH := sz_toJ N
    rw [dsz] at h
    rw [wfN] at hw
    have hI : k = 4 ∨ k = 5 → ∀ x ∈ items, szJ m (toJ x) ∧ lenJ (toJ x) := fun hk x hx => by
      obtain ⟨i, hi⟩ := List.getElem?_of_mem hx
      exact IH x (by have := dsz_get hi; omega) m ((hw.2.2.2 hk).mem hx)
    rw [toJ_eq]
    split
    · rw [szJ, lenJ]; simp
    split
    · rw [szJ, lenJ]; simp
    split
    · rw [szJ, lenJ]; simp
    split
    · rw [szJ, lenJ]; exact ⟨hw.1, trivial⟩
    split
    · rename_i hk
      rw [szJ, lenJ, List.length_map]
      exact ⟨⟨hw.2.1, szs_map _ _ fun x hx => (hI (.inl hk) x hx).1⟩, lens_map _ fun x hx => (hI (.inl hk) x hx).2⟩
    split
    · rename_i hk
      rw [szJ, lenJ, List.length_map]
      exact ⟨⟨hw.2.1, (hw.2.2.1 hk).2, szs_map _ _ fun x hx => (hI (.inr hk) x hx).1⟩, (hw.2.2.1 hk).1, lens_map _ fun x hx => (hI (.inr hk) x hx).2⟩
    · rw [szJ, lenJ]; simp
/-! ### Depth -/
mutual
/-- The document's Depth. -/
def depD : DV → Nat
  | .mk k _ _ _ items _ => if k < 4 then 0 else depDs items + 1
def depDs : List DV → Nat
  | [] => 0
  | x :: r => max (depD x) (depDs r)
end
theorem dep_toJ : ∀ (N : Nat) (x : DV), dsz x ≤ N → okJ (toJ x) → depJ (toJ x) = depD x
  | 0, .mk .., h, _ => by rw [dsz] at h; omega
  | N + 1, .mk k b n s items names, h, ho => by
    have IH := dep_toJ N
    rw [dsz] at h
    have hI : ∀ l : List DV, dszs l ≤ N → okJs (l.map toJ) → depJs (l.map toJ) = depDs l := by
      intro l
      induction l with
      | nil => intro _ _; rw [List.map_nil, depJs, depDs]
      | cons x r ih =>
        intro hl ho
        rw [dszs] at hl
        rw [List.map_cons, okJs] at ho
        rw [List.map_cons, depJs, depDs, IH x (by omega) ho.1, ih (by omega) ho.2]
    rw [depD]
    rw [toJ_eq] at ho ⊢
    split
    · rename_i hk; rw [depJ, if_pos (by omega)]
    rename_i k0
    rw [if_neg k0] at ho
    split
    · rename_i hk; rw [depJ, if_pos (by omega)]
    rename_i k1
    rw [if_neg k1] at ho
    split
    · rename_i hk; rw [depJ, if_pos (by omega)]
    rename_i k2
    rw [if_neg k2] at ho
    split
    · rename_i hk; rw [depJ, if_pos (by omega)]
    rename_i k3
    rw [if_neg k3] at ho
    split
    · rename_i hk
      rw [if_pos hk, okJ] at ho
      rw [depJ, if_neg (by omega), hI items (by omega) ho]
    rename_i k4
    rw [if_neg k4] at ho
    split
    · rename_i hk
      rw [if_pos hk, okJ] at ho
      rw [depJ, if_neg (by omega), hI items (by omega) ho.2.2.2]
    rename_i k5
    rw [if_neg k5, okJ] at ho
    exact ho.elim
/-! ### What becomes of the document's values -/
def withD (k : Int) (b : Bool) (n : Int) (s : List UInt8) (items : List DV) (names : List (List UInt8)) (i : Nat) (x : DV) : DV := .mk k b n s (if i = items.length then items ++ [x] else items.set i x) names
theorem map_set (l : List DV) (i : Nat) (x : DV) : (l.set i x).map toJ = (l.map toJ).set i (toJ x) := by rw [List.map_set]
theorem toJ_list {k : Int} (hk : k = 4) (b : Bool) (n : Int) (s : List UInt8) (items : List DV) (names : List (List UInt8)) : toJ (.mk k b n s items names) = .list (items.map toJ) := by
  subst hk; rw [toJ_eq]; simp
theorem toJ_obj {k : Int} (hk : k = 5) (b : Bool) (n : Int) (s : List UInt8) (items : List DV) (names : List (List UInt8)) : toJ (.mk k b n s items names) = .obj names (items.map toJ) := by
  subst hk; rw [toJ_eq]; simp
theorem toJ_none {k : Int} (h4 : k ≠ 4) (h5 : k ≠ 5) (b : Bool) (n : Int) (s : List UInt8) (items : List DV) (names : List (List UInt8)) : (∀ xs, toJ (.mk k b n s items names) ≠ .list xs) ∧ ∀ ns xs, toJ (.mk k b n s items names) ≠ .obj ns xs := by
  rw [toJ_eq]
  refine ⟨fun xs => ?_, fun ns xs => ?_⟩ <;>
  · repeat' split
    all_goals first | (intro h; cases h; done) | contradiction
/-! ### All paths -/
/-- Is a path told whose last step is this one? -/
def toldB (q s : List UInt8) : Bool := match stepsL q with
  | some l => l.getLast? == some s
  | none => false
mutual
/-- The paths that lead to something, behind some steps. -/
def allJ (ahead : List UInt8) : J → List (List UInt8)
  | .list xs => allJs ahead 0 xs
  | .obj ns xs => allMs ahead ns xs
  | .null => []
  | .bool _ => []
  | .num _ => []
  | .text _ => []
  | .other _ => []
def allJs (ahead : List UInt8) : Nat → List J → List (List UInt8)
  | _, [] => []
  | i, x :: r => (if toldB (ahead ++ Lib.decDigits i) (Lib.decDigits i) = true then (ahead ++ Lib.decDigits i) :: allJ (ahead ++ Lib.decDigits i ++ [46]) x else []) ++ allJs ahead (i + 1) r
def allMs (ahead : List UInt8) : List (List UInt8) → List J → List (List UInt8)
  | _, [] => []
  | ns, x :: r => (if toldB (ahead ++ ns.headD []) (ns.headD []) = true then (ahead ++ ns.headD []) :: allJ (ahead ++ ns.headD [] ++ [46]) x else []) ++ allMs ahead ns.tail r
end
end Go.Proofs.YtacogbfgegcliaaGreatDoor
