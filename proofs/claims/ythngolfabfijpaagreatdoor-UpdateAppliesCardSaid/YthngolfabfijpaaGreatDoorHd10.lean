/-
  The document's numbers in steps; its values, how great; all paths. The walks of path.member, item, next. The walks of the document's Item, figures, at.
-/
import Derived.Test.YthngolfabfijpaaGreatDoorHd9
import Derived.Test.YthngolfabfijpaaGreatDoorHd2
import Derived.Test.YthngolfabfijpaaGreatDoorHd6
import Derived.Test.YthngolfabfijpaaGreatDoorHd0
namespace Go.Proofs.YthngolfabfijpaaGreatDoor
open Go.RowKit

/-! ### A step as a number -/
def itemR : List UInt8 → Nat → Option Nat
  | [], n => some n
  | c :: t, n => if 48 ≤ c.toNat ∧ c.toNat ≤ 57 then (if 1000000 < 10 * n + (c.toNat - 48) then none else itemR t (10 * n + (c.toNat - 48))) else none
theorem itemR_some : ∀ {t : List UInt8} {n k : Nat}, itemR t n = some k → n ≤ 1000000 → (∀ c ∈ t, 48 ≤ c.toNat ∧ c.toNat ≤ 57) ∧ k = foldN n t ∧ k ≤ 1000000
  | [], n, k, h, hn => by
    rw [itemR] at h
    obtain rfl := Option.some.inj h
    exact ⟨by simp, rfl, hn⟩
  | c :: t, n, k, h, hn => by
    rw [itemR] at h
    split at h
    · rename_i hc
      split at h
      · cases h
      · obtain ⟨h1, h2, h3⟩ := itemR_some h (by omega)
        refine ⟨fun d hd => ?_, h2, h3⟩
        rcases List.mem_cons.1 hd with rfl | hd
        · exact hc
        · exact h1 d hd
    · cases h
theorem itemR_of : ∀ (t : List UInt8) (n : Nat), (∀ c ∈ t, 48 ≤ c.toNat ∧ c.toNat ≤ 57) → foldN n t ≤ 1000000 → itemR t n = some (foldN n t)
  | [], n, _, _ => rfl
  | c :: t, n, h, hn => by
    have h1 := foldN_ge t (10 * n + (c.toNat - 48))
    have h2 : foldN n (c :: t) = foldN (10 * n + (c.toNat - 48)) t := rfl
    rw [h2] at hn ⊢
    rw [itemR, if_pos (h c (by simp)), if_neg (by omega)]
    exact itemR_of t _ (fun d hd => h d (by simp [hd])) hn
theorem dec_head : ∀ (n : Nat), 1 ≤ n → (Lib.decDigits n).head? ≠ some 48 := fun n => by
  induction n using Nat.strongRecOn with
  | ind n ih =>
    intro h1 hh
    by_cases h : n < 10
    · rw [Lib.decDigits_one h] at hh
      have h2 : UInt8.ofNat (48 + n) = 48 := by simpa using hh
      have := congrArg UInt8.toNat h2
      rw [dg_nat n h] at this
      have h3 : (48 : UInt8).toNat = 48 := rfl
      omega
    · rw [dec_snoc h] at hh
      cases hd : Lib.decDigits (n / 10) with
      | nil => exact dec_ne _ hd
      | cons c r =>
        rw [hd] at hh
        exact ih (n / 10) (by omega) (by omega) (by rw [hd]; simpa using hh)
theorem dec_unique : ∀ (k : Nat) (s : List UInt8), s.length ≤ k → s ≠ [] → (∀ c ∈ s, 48 ≤ c.toNat ∧ c.toNat ≤ 57) → (s.head? = some 48 → s.length = 1) → s = Lib.decDigits (numL s)
  | 0, s, hk, h, _, _ => absurd (List.eq_nil_of_length_eq_zero (by omega)) h
  | k + 1, s, hk, h, hf, h0 => by
    obtain ⟨t, c, rfl⟩ : ∃ t c, s = t ++ [c] := ⟨s.dropLast, s.getLast h, (List.dropLast_concat_getLast h).symm⟩
    have hc := hf c (by simp)
    have hcc : UInt8.ofNat (48 + (c.toNat - 48)) = c := by
      apply UInt8.toNat_inj.1
      rw [dg_nat _ (by omega)]; omega
    rw [numL_snoc]
    by_cases ht : t = []
    · subst ht
      have : numL [] = 0 := rfl
      rw [this, Lib.decDigits_one (by omega), Nat.mul_zero, Nat.zero_add, hcc]; rfl
    · have hl : 0 < t.length := List.length_pos_iff.2 ht
      have hh : t.head? ≠ some 48 := fun e => by
        have : (t ++ [c]).head? = some 48 := by cases t with
          | nil => exact absurd rfl ht
          | cons => simpa using e
        have := h0 this
        rw [List.length_append, List.length_singleton] at this; omega
      have ih := dec_unique k t (by rw [List.length_append, List.length_singleton] at hk; omega) ht (fun d hd => hf d (by simp [hd])) (fun e => absurd e hh)
      have h1 : 1 ≤ numL t := by
        apply Nat.one_le_iff_ne_zero.2
        intro e
        rw [e, Lib.decDigits_one (by omega)] at ih
        exact hh (by rw [ih]; rfl)
      rw [dec_snoc (by omega), show (10 * numL t + (c.toNat - 48)) / 10 = numL t by omega, show (10 * numL t + (c.toNat - 48)) % 10 = c.toNat - 48 by omega, ← ih, hcc]
def itemD (s : List UInt8) : Int := match itemR s 0 with
  | none => -1
  | some n => if s.head? = some 48 ∧ 1 < s.length then -1 else (n : Int)
theorem itemD_eq {s : List UInt8} (hs : s ≠ []) : itemD s = match itemL s with
    | some n => if n ≤ 1000000 then (n : Int) else -1
    | none => -1 := by
  unfold itemD
  cases hi : itemL s with
  | some n =>
    have e := item_some hi
    have hd := dec_digits n
    rw [← e] at hd
    have hv : foldN 0 s = n := by rw [e]; exact num_dec n
    have hz : ¬ (s.head? = some 48 ∧ 1 < s.length) := fun h => by
      have h1 : ¬ n < 10 := fun h2 => by
        have := h.2
        rw [e, Lib.decDigits_one h2] at this; simp at this
      exact dec_head n (by omega) (by rw [← e]; exact h.1)
    dsimp only
    by_cases hn : n ≤ 1000000
    · rw [itemR_of s 0 hd (by omega), hv]
      dsimp only
      rw [if_neg hz, if_pos hn]
    · rw [if_neg hn]
      cases hr : itemR s 0 with
      | none => rfl
      | some k =>
        obtain ⟨_, h2, h3⟩ := itemR_some hr (by omega)
        omega
  | none =>
    cases hr : itemR s 0 with
    | none => rfl
    | some k =>
      obtain ⟨h1, h2, h3⟩ := itemR_some hr (by omega)
      dsimp only
      by_cases hz : s.head? = some 48 ∧ 1 < s.length
      · rw [if_pos hz]
      · exfalso
        have := dec_unique _ s (Nat.le_refl _) hs h1 (fun h => by
          have : 0 < s.length := List.length_pos_iff.2 hs
          by_cases h4 : 1 < s.length
          · exact absurd ⟨h, h4⟩ hz
          · omega)
        unfold itemL at hi
        rw [if_pos this] at hi
        cases hi
/-! ### The document's values, how great -/
mutual
def wfN (m : Nat) : DV → Prop
  | .mk k _ _ s items names => s.length ≤ m ∧ items.length ≤ m ∧ (k = 5 → names.length = items.length ∧ ∀ x ∈ names, x.length ≤ m) ∧ (k = 4 ∨ k = 5 → wfNs m items)
def wfNs (m : Nat) : List DV → Prop
  | [] => True
  | x :: r => wfN m x ∧ wfNs m r
end
mutual
theorem wf_of_N : ∀ (x : DV) (m : Nat), wfN m x → m ≤ 100000 → wfV x
  | .mk k b n s items names, m, h, hm => by
    rw [wfN] at h
    rw [wfV]
    exact ⟨by omega, by omega, fun h5 => ⟨(h.2.2.1 h5).1, fun x hx => Nat.le_trans ((h.2.2.1 h5).2 x hx) hm⟩, fun h45 => wfs_of_N items m (h.2.2.2 h45) hm⟩
theorem wfs_of_N : ∀ (l : List DV) (m : Nat), wfNs m l → m ≤ 100000 → wfVs l
  | [], _, _, _ => by rw [wfVs]; trivial
  | x :: r, m, h, hm => by rw [wfNs] at h; rw [wfVs]; exact ⟨wf_of_N x m h.1 hm, wfs_of_N r m h.2 hm⟩
end
mutual
theorem wfN_up : ∀ (x : DV) (m k : Nat), wfN m x → m ≤ k → wfN k x
  | .mk _ b n s items names, m, k, h, hm => by
    rw [wfN] at h ⊢
    exact ⟨by omega, by omega, fun h5 => ⟨(h.2.2.1 h5).1, fun x hx => Nat.le_trans ((h.2.2.1 h5).2 x hx) hm⟩, fun h45 => wfNs_up items m k (h.2.2.2 h45) hm⟩
theorem wfNs_up : ∀ (l : List DV) (m k : Nat), wfNs m l → m ≤ k → wfNs k l
  | [], _, _, _, _ => by rw [wfNs]; trivial
  | x :: r, m, k, h, hm => by rw [wfNs] at h ⊢; exact ⟨wfN_up x m k h.1 hm, wfNs_up r m k h.2 hm⟩
end
mutual
theorem wfN_of_cnt : ∀ (x : DV) (l : Int), l ≤ 1000 → 0 ≤ cnt x l → wfN 300 x
  | .mk k b n s items names, l, hl, h => by
    rw [cnt] at h
    split at h
    · omega
    rename_i hc
    rw [wfN]
    split at h
    · rename_i hk
      have := wfNs_of_cnts (decide (k = 5)) names items (l - 1) (by omega) (by omega) h
      refine ⟨by omega, by omega, fun hk5 => ?_, fun _ => this.1⟩
      have hlen : names.length = items.length := by
        by_cases e : names.length = items.length
        · exact e
        · exact absurd (.inr (.inr (.inr ⟨hk5, e⟩))) hc
      exact ⟨hlen, fun x hx => this.2 (by simp [hk5]) hlen x hx⟩
    · rename_i hk
      exact ⟨by omega, by omega, fun h5 => absurd (.inr h5) hk, fun h5 => absurd h5 hk⟩
theorem wfNs_of_cnts (o : Bool) : ∀ (ns : List (List UInt8)) (l : List DV) (m : Int), 0 ≤ m → m ≤ 1000 → 0 ≤ cnts o ns l m → wfNs 300 l ∧ (o = true → ns.length = l.length → ∀ x ∈ ns, x.length ≤ 300)
  | ns, [], m, h0, hm, h => by
    rw [wfNs]
    refine ⟨trivial, fun _ hl x hx => ?_⟩
    rw [List.eq_nil_of_length_eq_zero hl] at hx
    cases hx
  | ns, x :: r, m, h0, hm, h => by
    rw [cnts] at h
    split at h
    · omega
    rename_i hc
    split at h
    · omega
    rename_i hc2
    have hb := cnt_bd x m h0 hm
    have h1 := wfN_of_cnt x m hm (by omega)
    have h2 := wfNs_of_cnts o ns.tail r (cnt x m) (by omega) (by omega) h
    rw [wfNs]
    refine ⟨⟨h1, h2.1⟩, fun ho hl y hy => ?_⟩
    cases ns with
    | nil => cases hy
    | cons a t =>
      rcases List.mem_cons.1 hy with rfl | hy
      · simp only [List.headD_cons] at hc
        by_cases e : 300 < y.length
        · exact absurd ⟨ho, e⟩ hc
        · omega
      · exact h2.2 ho (by simpa using hl) y hy
end
theorem wfN_of_light {x : DV} (h : lightB x = true) : wfN 300 x := wfN_of_cnt x 300 (by decide) (of_decide_eq_true h)
theorem wfNs.get : ∀ {l : List DV} {m i : Nat} {x : DV}, wfNs m l → l[i]? = some x → wfN m x
  | [], _, _, _, _, h => by simp at h
  | y :: r, m, 0, x, h, hx => by
    rw [wfNs] at h
    obtain rfl : y = x := by simpa using hx
    exact h.1
  | y :: r, m, i + 1, x, h, hx => by
    rw [wfNs] at h
    exact wfNs.get h.2 (i := i) (by simpa using hx)
theorem wfNs.set : ∀ {l : List DV} {m i : Nat} {x : DV}, wfNs m l → wfN m x → wfNs m (l.set i x)
  | [], _, _, _, _, _ => by rw [List.set_nil, wfNs]; trivial
  | y :: r, m, 0, x, h, hx => by
    rw [wfNs] at h
    rw [List.set_cons_zero, wfNs]; exact ⟨hx, h.2⟩
  | y :: r, m, i + 1, x, h, hx => by
    rw [wfNs] at h
    rw [List.set_cons_succ, wfNs]; exact ⟨h.1, wfNs.set h.2 hx⟩
theorem wfNs.snoc : ∀ {l : List DV} {m : Nat} {x : DV}, wfNs m l → wfN m x → wfNs m (l ++ [x])
  | [], _, _, _, hx => by rw [List.nil_append, wfNs, wfNs]; exact ⟨hx, trivial⟩
  | y :: r, m, x, h, hx => by
    rw [wfNs] at h
    rw [List.cons_append, wfNs]; exact ⟨h.1, wfNs.snoc h.2 hx⟩
theorem wfNs.erase : ∀ {l : List DV} {m i : Nat}, wfNs m l → wfNs m (l.eraseIdx i)
  | [], _, _, _ => by rw [List.eraseIdx_nil, wfNs]; trivial
  | y :: r, m, 0, h => by
    rw [wfNs] at h
    rw [List.eraseIdx_cons_zero]; exact h.2
  | y :: r, m, i + 1, h => by
    rw [wfNs] at h
    rw [List.eraseIdx_cons_succ, wfNs]; exact ⟨h.1, wfNs.erase h.2⟩
theorem szs_map : ∀ (l : List DV) (m : Nat), (∀ x ∈ l, szJ m (toJ x)) → szJs m (l.map toJ)
  | [], _, _ => by rw [List.map_nil, szJs]; trivial
  | x :: r, m, h => by rw [List.map_cons, szJs]; exact ⟨h x (by simp), szs_map r m (fun y hy => h y (by simp [hy]))⟩
theorem lens_map : ∀ (l : List DV), (∀ x ∈ l, lenJ (toJ x)) → lenJs (l.map toJ)
  | [], _ => by rw [List.map_nil, lenJs]; trivial
  | x :: r, h => by rw [List.map_cons, lenJs]; exact ⟨h x (by simp), lens_map r (fun y hy => h y (by simp [hy]))⟩
theorem wfNs.mem {l : List DV} {m : Nat} {x : DV} (h : wfNs m l) (hx : x ∈ l) : wfN m x := by
  obtain ⟨i, hi⟩ := List.getElem?_of_mem hx
  exact h.get hi
theorem sz_toJ : ∀ (N : Nat) (x : DV), dsz x ≤ N → ∀ m, wfN m x → szJ m (toJ x) ∧ lenJ (toJ x)
  | 0, .mk .., h, _, _ => by rw [dsz] at h; omega
  | N + 1, .mk k b n s items names, h, m, hw => by
    have IH := sz_toJ N
    rw [dsz] at h
    rw [wfN] at hw
    have hI : k = 4 ∨ k = 5 → ∀ x ∈ items, szJ m (toJ x) ∧ lenJ (toJ x) := fun hk x hx => by
      obtain ⟨i, hi⟩ := List.getElem?_of_mem hx
      exact IH x (by have := dsz_get hi; omega) m ((hw.2.2.2 hk).mem hx)
    rw [toJ_eq]
    split
    · rw [szJ, lenJ]; simp
    split
    · rw [szJ, lenJ]; simp
    split
    · rw [szJ, lenJ]; simp
    split
    · rw [szJ, lenJ]; exact ⟨hw.1, trivial⟩
    split
    · rename_i hk
      rw [szJ, lenJ, List.length_map]
      exact ⟨⟨hw.2.1, szs_map _ _ fun x hx => (hI (.inl hk) x hx).1⟩, lens_map _ fun x hx => (hI (.inl hk) x hx).2⟩
    split
    · rename_i hk
      rw [szJ, lenJ, List.length_map]
      exact ⟨⟨hw.2.1, (hw.2.2.1 hk).2, szs_map _ _ fun x hx => (hI (.inr hk) x hx).1⟩, (hw.2.2.1 hk).1, lens_map _ fun x hx => (hI (.inr hk) x hx).2⟩
    · rw [szJ, lenJ]; simp
/-! ### Depth -/
mutual
def depD : DV → Nat
  | .mk k _ _ _ items _ => if k < 4 then 0 else depDs items + 1
def depDs : List DV → Nat
  | [] => 0
  | x :: r => max (depD x) (depDs r)
end
theorem dep_toJ : ∀ (N : Nat) (x : DV), dsz x ≤ N → okJ (toJ x) → depJ (toJ x) = depD x
  | 0, .mk .., h, _ => by rw [dsz] at h; omega
  | N + 1, .mk k b n s items names, h, ho => by
    have IH := dep_toJ N
    rw [dsz] at h
    have hI : ∀ l : List DV, dszs l ≤ N → okJs (l.map toJ) → depJs (l.map toJ) = depDs l := by
      intro l
      induction l with
      | nil => intro _ _; rw [List.map_nil, depJs, depDs]
      | cons x r ih =>
        intro hl ho
        rw [dszs] at hl
        rw [List.map_cons, okJs] at ho
        rw [List.map_cons, depJs, depDs, IH x (by omega) ho.1, ih (by omega) ho.2]
    rw [depD]
    rw [toJ_eq] at ho ⊢
    split
    · rename_i hk; rw [depJ, if_pos (by omega)]
    rename_i k0
    rw [if_neg k0] at ho
    split
    · rename_i hk; rw [depJ, if_pos (by omega)]
    rename_i k1
    rw [if_neg k1] at ho
    split
    · rename_i hk; rw [depJ, if_pos (by omega)]
    rename_i k2
    rw [if_neg k2] at ho
    split
    · rename_i hk; rw [depJ, if_pos (by omega)]
    rename_i k3
    rw [if_neg k3] at ho
    split
    · rename_i hk
      rw [if_pos hk, okJ] at ho
      rw [depJ, if_neg (by omega), hI items (by omega) ho]
    rename_i k4
    rw [if_neg k4] at ho
    split
    · rename_i hk
      rw [if_pos hk, okJ] at ho
      rw [depJ, if_neg (by omega), hI items (by omega) ho.2.2.2]
    rename_i k5
    rw [if_neg k5, okJ] at ho
    exact ho.elim
/-! ### What becomes of the document's values -/
theorem toJ_list {k : Int} (hk : k = 4) (b : Bool) (n : Int) (s : List UInt8) (items : List DV) (names : List (List UInt8)) : toJ (.mk k b n s items names) = .list (items.map toJ) := by
  subst hk; rw [toJ_eq]; simp
theorem toJ_obj {k : Int} (hk : k = 5) (b : Bool) (n : Int) (s : List UInt8) (items : List DV) (names : List (List UInt8)) : toJ (.mk k b n s items names) = .obj names (items.map toJ) := by
  subst hk; rw [toJ_eq]; simp
theorem toJ_none {k : Int} (_h4 : k ≠ 4) (_h5 : k ≠ 5) (b : Bool) (n : Int) (s : List UInt8) (items : List DV) (names : List (List UInt8)) : (∀ xs, toJ (.mk k b n s items names) ≠ .list xs) ∧ ∀ ns xs, toJ (.mk k b n s items names) ≠ .obj ns xs := by
  rw [toJ_eq]
  refine ⟨fun xs => ?_, fun ns xs => ?_⟩ <;>
  · repeat' split
    all_goals first | (intro h; cases h; done) | contradiction
/-! ### All paths -/
end Go.Proofs.YthngolfabfijpaaGreatDoor
namespace Go.Proofs.YthngolfabfijpaaGreatDoor
open Go.RowKit Go.TL
set_option maxRecDepth 100000

theorem pmember1_gives (s nm : List UInt8) (v : Value) (b : Nat) (g : Gh) (L : List Ent) : Gives Tryz.prog 178 #[.agg #[str s, v], .pointer (some ⟨b, 0, none⟩)] g (.obj b (.cells [str nm].toArray 9 (0, 0)) :: L) (.bool (decide (s = nm))) := by
  refine .of (Does.of2 Tryz.func178 rfl Tryz.ntmps178 rfl ?_)
  repeat' (first | refine stS ?_ | (refine stB ?_; intro _) | fail)
  refine TQ.endR1 (L' := (.obj b (.cells [str nm].toArray 9 (0, 0)) :: L)) Tryz.results178 rvA rfl (.refl _) ?_ selA
  exact ⟨rfl, rfl, rfl⟩
set_option maxHeartbeats 8000000 in
theorem indexMp_gives (ns : List (List UInt8)) (nm : List UInt8) (ao : Option Addr) (n cap b : Nat) (flat : List Value) (g : Gh) (L : List Ent) (hl : ns.length = n) (_hn : n ≤ 1000000000) (hS : Sl g (.slice ao n cap) n 2 flat) (hM : Mem ns n flat) :
    Gives Tryz.prog 154 #[.slice ao n cap, .func (.func 178) #[] #[.pointer (some ⟨b, 0, none⟩)]] g (.obj b (.cells [str nm].toArray 9 (0, 0)) :: L) (.int .i64 (idxL nm ns 0)) := by
  refine .of (Does.of2 Tryz.func154 rfl Tryz.ntmps154 rfl ?_)
  obtain ⟨R, hR⟩ : ∃ R, R = idxL nm ns 0 := ⟨_, rfl⟩
  rw [← hR]
  repeat' (first | refine stS ?_ | fail)
  refine TC.loopK (fun i : Nat => i ≤ n ∧ idxL nm (ns.drop i) i = R) (fun i => n - i) (fun i _ => [(8, .int .i64 (i : Nat)), (7, .int .i64 (n : Nat)), (0, .slice ao n cap), (1, .func (.func 178) #[] #[.pointer (some ⟨b, 0, none⟩)])]) [] (by repeat (first | apply Drop.nil | apply Drop.cons (by (repeat (first | apply Pick.here | apply Pick.there))))) (fun _ L => L) 0 ⟨Nat.zero_le _, hR.symm⟩ subA selA ?_
  clear hR
  rintro i ⟨hi, hR⟩
  try dsimp only at hi hR ⊢
  by_cases hlt : i < n
  · obtain ⟨s, v, hns, h0, h1⟩ := hM i hlt
    obtain ⟨b1, o1, rfl, hg⟩ := hS.elem hlt (by decide)
    have hld : ∀ j u, [str s, v][j]? = some u → g.cell b1 (o1 + i * 2 + j) = some u := fun j u hu => by
      match j, hu with
      | 0, hu => simp at hu; subst hu; exact hg 0 _ h0
      | 1, hu => simp at hu; subst hu; exact hg 1 _ h1
      | j + 2, hu => simp at hu
    have hll : [str s, v].length = 2 := rfl
    rw [idxL_at hns] at hR
    clear hM hS hg h0 h1
    by_cases he : s = nm
    · have A : Gives Tryz.prog 178 #[.agg #[str s, v], .pointer (some ⟨b, 0, none⟩)] g (.obj b (.cells [str nm].toArray 9 (0, 0)) :: L) (.bool true) := by
        have := pmember1_gives s nm v b g L
        rw [decide_eq_true he] at this; exact this
      rw [if_pos he] at hR
      subst hR
      clear he
      repeat' (first | refine wkV ?_ | refine TL.gives (Enters.func (by rfl) (by kernel_rfl) (by rfl)) (A) (by rfl) ?_ | refine stS ?_ | fail)
      refine TQ.endR1 (L' := (.obj b (.cells [str nm].toArray 9 (0, 0)) :: L)) Tryz.results154 rvA rfl (.refl _) ?_ selA
      exact ⟨rfl, rfl, rfl⟩
    · have A : Gives Tryz.prog 178 #[.agg #[str s, v], .pointer (some ⟨b, 0, none⟩)] g (.obj b (.cells [str nm].toArray 9 (0, 0)) :: L) (.bool false) := by
        have := pmember1_gives s nm v b g L
        rw [decide_eq_false he] at this; exact this
      rw [if_neg he] at hR
      have HR : Hn _ := ⟨hR⟩
      clear he hR
      repeat' (first | refine wkV ?_ | refine TL.gives (Enters.func (by rfl) (by kernel_rfl) (by rfl)) (A) (by rfl) ?_ | refine stS ?_ | fail)
      refine TQ.round (i + 1) ?_ ?_ rfl subA selA
      · exact ⟨by omega, HR.out⟩
      · show n - (i + 1) < n - i
        omega
  · obtain rfl : i = n := by omega
    rw [← hl, List.drop_length, idxL] at hR
    subst hR
    clear hM hS
    repeat' (first | refine stS ?_ | fail)
    refine TQ.endR1 (L' := (.obj b (.cells [str nm].toArray 9 (0, 0)) :: L)) Tryz.results154 rvA rfl (.refl _) ?_ selA
    exact ⟨rfl, rfl, rfl⟩
theorem idxL_idxN (nm : List UInt8) : ∀ (ns : List (List UInt8)) (i : Nat), idxL nm ns i = match idxN ns nm with | some k => ((i + k : Nat) : Int) | none => -1
  | [], i => rfl
  | n :: r, i => by
    rw [idxL, idxN]
    by_cases h : n = nm
    · rw [if_pos h, if_pos h]; rfl
    · rw [if_neg h, if_neg h, idxL_idxN nm r (i + 1)]
      cases idxN r nm with
      | none => rfl
      | some k => show ((i + 1 + k : Nat) : Int) = ((i + (k + 1) : Nat) : Int); omega
def idxV (ns : List (List UInt8)) (nm : List UInt8) : Int := match idxN ns nm with | some k => (k : Int) | none => -1
theorem pmember_gives (ns : List (List UInt8)) (nm : List UInt8) (ao : Option Addr) (n cap : Nat) (flat : List Value) (g : Gh) (L : List Ent) (hl : ns.length = n) (hn : n ≤ 1000000000) (hS : Sl g (.slice ao n cap) n 2 flat) (hM : Mem ns n flat) :
    Gives Tryz.prog 158 #[.slice ao n cap, str nm] g L (.int .i64 (idxV ns nm)) := by
  refine .of (Does.of2 Tryz.func158 rfl Tryz.ntmps158 rfl ?_)
  have A := fun b L => indexMp_gives ns nm ao n cap b flat g L hl hn hS hM
  rw [idxL_idxN] at A
  simp only [Nat.zero_add] at A
  clear hS hM
  repeat' (first | ((with_reducible apply TL.gives_plain); (· kernel_rfl); (· rfl); (· exact A _ _); (· rfl)) | refine stS ?_ | (refine stB ?_; intro _) | fail)
  refine TQ.endR1 (L' := L) Tryz.results158 rvA rfl (.refl _) ?_ selA
  exact ⟨rfl, rfl, rfl⟩
end Go.Proofs.YthngolfabfijpaaGreatDoor
namespace Go.Proofs.YthngolfabfijpaaGreatDoor
open Go.RowKit Go.TL
set_option maxRecDepth 100000

set_option maxHeartbeats 8000000 in
theorem rItem6_gives (s : List UInt8) (g : Gh) (L : List Ent) (h0 : s ≠ []) (_hs : s.length ≤ 1000000) : Gives Tryz.prog 139 #[str s] g L (.int .i64 (itemD s)) := by
  refine .of (Does.of1 Tryz.func139 rfl Tryz.ntmps139 rfl ?_)
  have hD : ∃ R, R = itemR s 0 ∧ itemD s = (match R with
    | none => -1
    | some n => if s.head? = some 48 ∧ 1 < s.length then -1 else (n : Int)) := ⟨_, rfl, rfl⟩
  generalize itemD s = V at *
  obtain ⟨R, hR, hD⟩ := hD
  have HD := Hn.mk hD
  clear hD
  repeat' (first | refine stS ?_ | fail)
  refine TC.loopK (fun x : Nat × Nat => x.1 ≤ s.length ∧ x.2 ≤ 1000000 ∧ itemR (s.drop x.1) x.2 = R) (fun x => s.length - x.1) (fun x _ => [(4, .int .i64 (x.1 : Nat)), (3, .int .i64 (x.2 : Nat)), (0, str s)]) [] (by repeat (first | apply Drop.nil | apply Drop.cons (by (repeat (first | apply Pick.here | apply Pick.there))))) (fun _ L => L) (0, 0) ⟨Nat.zero_le _, by decide, hR.symm⟩ subA selA ?_
  clear hR
  rintro ⟨i, n⟩ ⟨hi, hn, hr⟩
  dsimp only at hi hn hr ⊢
  by_cases hlt : i < s.length
  · obtain ⟨c, hc⟩ : ∃ c, s[i]? = some c := ⟨_, List.getElem?_eq_getElem hlt⟩
    rw [drop_of_get hc, itemR] at hr
    have cb := UInt8.toNat_lt c
    by_cases hf : 48 ≤ c.toNat ∧ c.toNat ≤ 57
    · rw [if_pos hf] at hr
      by_cases hbig : 1000000 < 10 * n + (c.toNat - 48)
      · rw [if_pos hbig] at hr
        subst hr
        have hV : V = -1 := HD.out
        subst hV
        clear HD
        repeat' (first | refine wkP ?_ | ((with_reducible apply TL.byteK); (· rfl); (· rfl); (· exact natA); (· assumption); (· rfl); intro _) | refine stS ?_ | fail)
        refine TQ.endR1 (L' := L) Tryz.results139 rvA rfl (.refl _) ?_ selA
        exact ⟨rfl, rfl, rfl⟩
      · rw [if_neg hbig] at hr
        have HR := Hn.mk hr
        clear hr
        repeat' (first | refine wkP ?_ | ((with_reducible apply TL.byteK); (· rfl); (· rfl); (· exact natA); (· assumption); (· rfl); intro _) | refine stS ?_ | fail)
        refine TQ.slot (t := 3) (u := .int .i64 ((10 * n + (c.toNat - 48) : Nat) : Int)) rfl (congrArg (Value.int .i64) (by omega)) ?_
        refine TQ.round (i + 1, 10 * n + (c.toNat - 48)) ?_ ?_ rfl subA selA
        · exact ⟨by dsimp only; omega, by dsimp only; omega, HR.out⟩
        · show s.length - (i + 1) < s.length - i
          omega
    · rw [if_neg hf] at hr
      subst hr
      have hV : V = -1 := HD.out
      subst hV
      clear HD
      repeat' (first | refine wkP ?_ | ((with_reducible apply TL.byteK); (· rfl); (· rfl); (· exact natA); (· assumption); (· rfl); intro _) | refine stS ?_ | (refine stC ?_; refine And.intro (fun _ => ?_) (fun _ => ?_)) | fail)
      all_goals
        refine TQ.endR1 (L' := L) Tryz.results139 rvA rfl (.refl _) ?_ selA
        exact ⟨rfl, rfl, rfl⟩
  · obtain rfl : i = s.length := by omega
    rw [List.drop_length, itemR] at hr
    subst hr
    have hV : V = if s.head? = some 48 ∧ 1 < s.length then -1 else (n : Int) := HD.out
    clear HD
    have hpos : 0 < s.length := List.length_pos_iff.2 h0
    obtain ⟨c, hc⟩ : ∃ c, s[0]? = some c := ⟨_, List.getElem?_eq_getElem hpos⟩
    have cb := UInt8.toNat_lt c
    rw [List.head?_eq_getElem?, hc] at hV
    by_cases h48 : c = 48
    · subst h48
      by_cases h1 : 1 < s.length
      · rw [if_pos ⟨rfl, h1⟩] at hV
        subst hV
        repeat' (first | refine wkP ?_ | ((with_reducible apply TL.byteK); (· rfl); (· rfl); (· exact natA); (· assumption); (· rfl); intro _) | refine stS ?_ | fail)
        refine TQ.endR1 (L' := L) Tryz.results139 rvA rfl (.refl _) ?_ selA
        exact ⟨rfl, rfl, rfl⟩
      · rw [if_neg (fun h => h1 h.2)] at hV
        subst hV
        repeat' (first | refine wkP ?_ | ((with_reducible apply TL.byteK); (· rfl); (· rfl); (· exact natA); (· assumption); (· rfl); intro _) | refine stS ?_ | fail)
        refine TQ.endR1 (L' := L) Tryz.results139 rvA rfl (.refl _) ?_ selA
        exact ⟨rfl, rfl, rfl⟩
    · rw [if_neg (fun h => h48 (Option.some.inj h.1))] at hV
      subst hV
      have hn48 : Hn (¬ ((c.toNat : Nat) : Int) = 48) := ⟨fun e => h48 (UInt8.toNat_inj.1 (by show c.toNat = 48; omega))⟩
      repeat' (first | refine wkP ?_ | ((with_reducible apply TL.byteK); (· rfl); (· rfl); (· exact natA); (· assumption); (· rfl); intro _) | refine stS ?_ | fail)
      refine TQ.endR1 (L' := L) Tryz.results139 rvA rfl (.refl _) ?_ selA
      exact ⟨rfl, rfl, rfl⟩
def atD (k : Int) (items : List DV) (names : List (List UInt8)) (s : List UInt8) : Option Nat :=
  if k = 5 then idxN names s else if k = 4 then (itemL s).bind fun n => if n < items.length then some n else none else none
def atV (k : Int) (items : List DV) (names : List (List UInt8)) (s : List UInt8) : Int := match atD k items names s with
  | some i => (i : Int)
  | none => -1
set_option maxHeartbeats 8000000 in
theorem rat6_gives (k : Int) (b : Bool) (n : Int) (t : List UInt8) (items : List DV) (names : List (List UInt8)) (cs : List Value) (s : List UInt8) (g : Gh) (L : List Ent) (hX : IsV g (.mk k b n t items names) cs) (hW : wfV (.mk k b n t items names)) (h0 : s ≠ []) (hs : s.length ≤ 1000000) : Gives Tryz.prog 137 #[.agg cs.toArray, str s] g L (.int .i64 (atV k items names s)) := by
  refine .of (Does.of2 Tryz.func137 rfl Tryz.ntmps137 rfl ?_)
  rw [IsV] at hX
  rw [wfV] at hW
  obtain ⟨vi, vn, flat, rfl, bk, bn, bt, hSi, hil, hI, hSn, hnl, hnb⟩ := hX
  obtain ⟨_, hil2, hW5, _⟩ := hW
  obtain ⟨ai, ci, rfl⟩ := hSi.slice
  obtain ⟨an, cn, rfl⟩ := hSn.slice
  clear hI hSi
  by_cases h5 : k = 5
  · subst h5
    obtain ⟨hnl2, hnb2⟩ := hW5 rfl
    have hV : atV 5 items names s = idxV names s := rfl
    rw [hV]
    clear hV hW5
    repeat' (first | refine stS ?_ | (refine stB ?_; intro _) | fail)
    rename_i bb
    cases hk : idxN names s with
    | none =>
      have hno := idxN_none hk
      have hV : idxV names s = -1 := by unfold idxV; rw [hk]
      rw [hV]
      refine TC.loopL (fun i : Nat => i ≤ names.length) (fun i => names.length - i) (fun i _ => [(5, .int .i64 (i : Nat)), (2, .pointer (some ⟨bb, 0, none⟩)), (1, str s)]) (fun _ => .obj bb (.cells [.int .i64 5, .bool b, .int .i64 n, str t, .slice ai items.length ci, .slice an names.length cn].toArray 29 (0, 0)) :: L) 0 (Nat.zero_le _) subA selA ?_
      rintro i hi
      try dsimp only at hi ⊢
      by_cases hlt : i < names.length
      · obtain ⟨nm, hnm⟩ : ∃ nm, names[i]? = some nm := ⟨_, List.getElem?_eq_getElem hlt⟩
        obtain ⟨b1, o1, rfl, hg⟩ := hSn.elem hlt (by decide)
        have hld : g.cell b1 (o1 + i * 1) = some (str nm) := hg 0 _ (by rw [Nat.mul_one]; exact strs_get hnm)
        have hne := hno nm (List.mem_of_getElem? hnm)
        clear hSn hg hno
        repeat' (first | refine wkV ?_ | ((with_reducible apply TL.pure (d := 23) (v := .bool false)); (· exact Y.eql_is (decide_eq_false hne) rfl rfl); (· rfl)) | refine stS ?_ | fail)
        refine TQ.round (i + 1) ?_ ?_ rfl subA selA
        · show i + 1 ≤ names.length
          omega
        · show names.length - (i + 1) < names.length - i
          omega
      · clear hSn hno
        repeat' (first | refine stS ?_ | fail)
        refine TQ.endR1 (L' := L) Tryz.results137 rvA rfl (.refl _) ?_ selA
        exact ⟨rfl, rfl, rfl⟩
    | some j =>
      obtain ⟨hj1, hj2⟩ := idxN_some hk
      have hjl := idxN_lt hk
      have hV : idxV names s = (j : Nat) := by unfold idxV; rw [hk]
      rw [hV]
      refine TC.loopL (fun i : Nat => i ≤ j) (fun i => names.length - i) (fun i _ => [(5, .int .i64 (i : Nat)), (2, .pointer (some ⟨bb, 0, none⟩)), (1, str s)]) (fun _ => .obj bb (.cells [.int .i64 5, .bool b, .int .i64 n, str t, .slice ai items.length ci, .slice an names.length cn].toArray 29 (0, 0)) :: L) 0 (Nat.zero_le _) subA selA ?_
      rintro i hi
      try dsimp only at hi ⊢
      have hlt : i < names.length := by omega
      obtain ⟨nm, hnm⟩ : ∃ nm, names[i]? = some nm := ⟨_, List.getElem?_eq_getElem hlt⟩
      obtain ⟨b1, o1, rfl, hg⟩ := hSn.elem hlt (by decide)
      have hld : g.cell b1 (o1 + i * 1) = some (str nm) := hg 0 _ (by rw [Nat.mul_one]; exact strs_get hnm)
      by_cases hij : i = j
      · subst hij
        obtain rfl : nm = s := by rw [hnm] at hj1; exact Option.some.inj hj1
        clear hSn hg hj2
        repeat' (first | refine wkV ?_ | ((with_reducible apply TL.pure (d := 23) (v := .bool true)); (· exact Y.eql_is (decide_eq_true rfl) rfl rfl); (· rfl)) | refine stS ?_ | fail)
        refine TQ.endR1 (L' := L) Tryz.results137 rvA rfl (.refl _) ?_ selA
        exact ⟨rfl, rfl, rfl⟩
      · have hne : nm ≠ s := fun e => hj2 i (by omega) (by rw [hnm, e])
        clear hSn hg hj2
        repeat' (first | refine wkV ?_ | ((with_reducible apply TL.pure (d := 23) (v := .bool false)); (· exact Y.eql_is (decide_eq_false hne) rfl rfl); (· rfl)) | refine stS ?_ | fail)
        refine TQ.round (i + 1) ?_ ?_ rfl subA selA
        · show i + 1 ≤ j
          omega
        · show names.length - (i + 1) < names.length - i
          omega
  · have n5 : Hn (¬ k = 5) := ⟨h5⟩
    clear hSn hW5
    by_cases h4 : k = 4
    · subst h4
      have I := fun L => rItem6_gives s g L h0 hs
      have hV : atV 4 items names s = if itemD s < items.length then itemD s else -1 := by
        unfold atV atD
        rw [if_neg (by decide), if_pos rfl, itemD_eq h0]
        cases itemL s with
        | none => dsimp only [Option.bind_none]; split <;> rfl
        | some m =>
          dsimp only [Option.bind_some]
          by_cases hm : m < items.length
          · have hm2 : m ≤ 1000000 := by omega
            simp only [if_pos hm, if_pos hm2]
            rw [if_pos (by omega)]
          · by_cases hm2 : m ≤ 1000000
            · simp only [if_neg hm, if_pos hm2]
              rw [if_neg (by omega)]
            · simp only [if_neg hm, if_neg hm2]
              split <;> rfl
      rw [hV]
      generalize itemD s = d at *
      by_cases hd : d < items.length
      · rw [if_pos hd]
        clear hV
        repeat' (first | ((with_reducible apply TL.gives_plain); (· kernel_rfl); (· rfl); (· exact I _); (· rfl)) | refine stS ?_ | (refine stB ?_; intro _) | fail)
        refine TQ.endR1 (L' := L) Tryz.results137 rvA rfl (.refl _) ?_ selA
        exact ⟨rfl, rfl, rfl⟩
      · rw [if_neg hd]
        clear hV
        repeat' (first | ((with_reducible apply TL.gives_plain); (· kernel_rfl); (· rfl); (· exact I _); (· rfl)) | refine stS ?_ | (refine stB ?_; intro _) | fail)
        refine TQ.endR1 (L' := L) Tryz.results137 rvA rfl (.refl _) ?_ selA
        exact ⟨rfl, rfl, rfl⟩
    · have n4 : Hn (¬ k = 4) := ⟨h4⟩
      have hV : atV k items names s = -1 := by unfold atV atD; rw [if_neg h5, if_neg h4]
      rw [hV]
      repeat' (first | refine stS ?_ | (refine stB ?_; intro _) | fail)
      refine TQ.endR1 (L' := L) Tryz.results137 rvA rfl (.refl _) ?_ selA
      exact ⟨rfl, rfl, rfl⟩
end Go.Proofs.YthngolfabfijpaaGreatDoor
