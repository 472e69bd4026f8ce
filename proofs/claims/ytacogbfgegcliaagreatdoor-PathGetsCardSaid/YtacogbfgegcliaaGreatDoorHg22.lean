/-
  The document's numbers in steps; its values, how great; all paths. What was put is what the path leads to; elsewhere nothing turns; all paths lead to something, each told once. What Put and Drop tell; a value is like itself. The walk of path.put.
-/
import Derived.Test.YtacogbfgegcliaaGreatDoorHg21
import Derived.Test.YtacogbfgegcliaaGreatDoorHg12
import Derived.Test.YtacogbfgegcliaaGreatDoorHg20
namespace Go.Proofs.YtacogbfgegcliaaGreatDoor
open Go.RowKit

/-! ### A step as a number -/
def itemR : List UInt8 → Nat → Option Nat
  | [], n => some n
  | c :: t, n => if 48 ≤ c.toNat ∧ c.toNat ≤ 57 then (if 1000000 < 10 * n + (c.toNat - 48) then none else itemR t (10 * n + (c.toNat - 48))) else none
theorem itemR_some : ∀ {t : List UInt8} {n k : Nat}, itemR t n = some k → n ≤ 1000000 → (∀ c ∈ t, 48 ≤ c.toNat ∧ c.toNat ≤ 57) ∧ k = foldN n t ∧ k ≤ 1000000
  | [], n, k, h, hn => by
    rw [itemR] at h
    obtain rfl := Option.some.inj h
    exact ⟨by simp, rfl, hn⟩
  | c :: t, n, k, h, hn => by
    rw [itemR] at h
    split at h
    · rename_i hc
      split at h
      · cases h
      · obtain ⟨h1, h2, h3⟩ := itemR_some h (by omega)
        refine ⟨fun d hd => ?_, h2, h3⟩
        rcases List.mem_cons.1 hd with rfl | hd
        · exact hc
        · exact h1 d hd
    · cases h
theorem itemR_of : ∀ (t : List UInt8) (n : Nat), (∀ c ∈ t, 48 ≤ c.toNat ∧ c.toNat ≤ 57) → foldN n t ≤ 1000000 → itemR t n = some (foldN n t)
  | [], n, _, _ => rfl
  | c :: t, n, h, hn => by
    have h1 := foldN_ge t (10 * n + (c.toNat - 48))
    have h2 : foldN n (c :: t) = foldN (10 * n + (c.toNat - 48)) t := rfl
    rw [h2] at hn ⊢
    rw [itemR, if_pos (h c (by simp)), if_neg (by omega)]
    exact itemR_of t _ (fun d hd => h d (by simp [hd])) hn
theorem dec_head : ∀ (n : Nat), 1 ≤ n → (Lib.decDigits n).head? ≠ some 48 := fun n => by
  induction n using Nat.strongRecOn with
  | ind n ih =>
    intro h1 hh
    by_cases h : n < 10
    · rw [Lib.decDigits_one h] at hh
      have h2 : UInt8.ofNat (48 + n) = 48 := by simpa using hh
      have := congrArg UInt8.toNat h2
      rw [dg_nat n h] at this
      have h3 : (48 : UInt8).toNat = 48 := rfl
      omega
    · rw [dec_snoc h] at hh
      cases hd : Lib.decDigits (n / 10) with
      | nil => exact dec_ne _ hd
      | cons c r =>
        rw [hd] at hh
        exact ih (n / 10) (by omega) (by omega) (by rw [hd]; simpa using hh)
theorem dec_unique : ∀ (k : Nat) (s : List UInt8), s.length ≤ k → s ≠ [] → (∀ c ∈ s, 48 ≤ c.toNat ∧ c.toNat ≤ 57) → (s.head? = some 48 → s.length = 1) → s = Lib.decDigits (numL s)
  | 0, s, hk, h, _, _ => absurd (List.eq_nil_of_length_eq_zero (by omega)) h
  | k + 1, s, hk, h, hf, h0 => by
    obtain ⟨t, c, rfl⟩ : ∃ t c, s = t ++ [c] := ⟨s.dropLast, s.getLast h, (List.dropLast_concat_getLast h).symm⟩
    have hc := hf c (by simp)
    have hcc : UInt8.ofNat (48 + (c.toNat - 48)) = c := by
      apply UInt8.toNat_inj.1
      rw [dg_nat _ (by omega)]; omega
    rw [numL_snoc]
    by_cases ht : t = []
    · subst ht
      have : numL [] = 0 := rfl
      rw [this, Lib.decDigits_one (by omega), Nat.mul_zero, Nat.zero_add, hcc]; rfl
    · have hl : 0 < t.length := List.length_pos_iff.2 ht
      have hh : t.head? ≠ some 48 := fun e => by
        have : (t ++ [c]).head? = some 48 := by cases t with
          | nil => exact absurd rfl ht
          | cons => simpa using e
        have := h0 this
        rw [List.length_append, List.length_singleton] at this; omega
      have ih := dec_unique k t (by rw [List.length_append, List.length_singleton] at hk; omega) ht (fun d hd => hf d (by simp [hd])) (fun e => absurd e hh)
      have h1 : 1 ≤ numL t := by
        apply Nat.one_le_iff_ne_zero.2
        intro e
        rw [e, Lib.decDigits_one (by omega)] at ih
        exact hh (by rw [ih]; rfl)
      rw [dec_snoc (by omega), show (10 * numL t + (c.toNat - 48)) / 10 = numL t by omega, show (10 * numL t + (c.toNat - 48)) % 10 = c.toNat - 48 by omega, ← ih, hcc]
def itemD (s : List UInt8) : Int := match itemR s 0 with
  | none => -1
  | some n => if s.head? = some 48 ∧ 1 < s.length then -1 else (n : Int)
theorem itemD_eq {s : List UInt8} (hs : s ≠ []) : itemD s = match itemL s with
    | some n => if n ≤ 1000000 then (n : Int) else -1
    | none => -1 := by
  unfold itemD
  cases hi : itemL s with
  | some n =>
    have e := item_some hi
    have hd := dec_digits n
    rw [← e] at hd
    have hv : foldN 0 s = n := by rw [e]; exact num_dec n
    have hz : ¬ (s.head? = some 48 ∧ 1 < s.length) := fun h => by
      have h1 : ¬ n < 10 := fun h2 => by
        have := h.2
        rw [e, Lib.decDigits_one h2] at this; simp at this
      exact dec_head n (by omega) (by rw [← e]; exact h.1)
    dsimp only
    by_cases hn : n ≤ 1000000
    · rw [itemR_of s 0 hd (by omega), hv]
      dsimp only
      rw [if_neg hz, if_pos hn]
    · rw [if_neg hn]
      cases hr : itemR s 0 with
      | none => rfl
      | some k =>
        obtain ⟨_, h2, h3⟩ := itemR_some hr (by omega)
        omega
  | none =>
    cases hr : itemR s 0 with
    | none => rfl
    | some k =>
      obtain ⟨h1, h2, h3⟩ := itemR_some hr (by omega)
      dsimp only
      by_cases hz : s.head? = some 48 ∧ 1 < s.length
      · rw [if_pos hz]
      · exfalso
        have := dec_unique _ s (Nat.le_refl _) hs h1 (fun h => by
          have : 0 < s.length := List.length_pos_iff.2 hs
          by_cases h4 : 1 < s.length
          · exact absurd ⟨h, h4⟩ hz
          · omega)
        unfold itemL at hi
        rw [if_pos this] at hi
        cases hi
/-! ### The document's values, how great -/
mutual
def wfN (m : Nat) : DV → Prop
  | .mk k _ _ s items names => s.length ≤ m ∧ items.length ≤ m ∧ (k = 5 → names.length = items.length ∧ ∀ x ∈ names, x.length ≤ m) ∧ (k = 4 ∨ k = 5 → wfNs m items)
def wfNs (m : Nat) : List DV → Prop
  | [] => True
  | x :: r => wfN m x ∧ wfNs m r
end
mutual
theorem wfN_of_cnt : ∀ (x : DV) (l : Int), l ≤ 1000 → 0 ≤ cnt x l → wfN 300 x
  | .mk k b n s items names, l, hl, h => by
    rw [cnt] at h
    split at h
    · omega
    rename_i hc
    rw [wfN]
    split at h
    · rename_i hk
      have := wfNs_of_cnts (decide (k = 5)) names items (l - 1) (by omega) (by omega) h
      refine ⟨by omega, by omega, fun hk5 => ?_, fun _ => this.1⟩
      have hlen : names.length = items.length := by
        by_cases e : names.length = items.length
        · exact e
        · exact absurd (.inr (.inr (.inr ⟨hk5, e⟩))) hc
      exact ⟨hlen, fun x hx => this.2 (by simp [hk5]) hlen x hx⟩
    · rename_i hk
      exact ⟨by omega, by omega, fun h5 => absurd (.inr h5) hk, fun h5 => absurd h5 hk⟩
theorem wfNs_of_cnts (o : Bool) : ∀ (ns : List (List UInt8)) (l : List DV) (m : Int), 0 ≤ m → m ≤ 1000 → 0 ≤ cnts o ns l m → wfNs 300 l ∧ (o = true → ns.length = l.length → ∀ x ∈ ns, x.length ≤ 300)
  | ns, [], m, h0, hm, h => by
    rw [wfNs]
    refine ⟨trivial, fun _ hl x hx => ?_⟩
    rw [List.eq_nil_of_length_eq_zero hl] at hx
    cases hx
  | ns, x :: r, m, h0, hm, h => by
    rw [cnts] at h
    split at h
    · omega
    rename_i hc
    split at h
    · omega
    rename_i hc2
    have hb := cnt_bd x m h0 hm
    have h1 := wfN_of_cnt x m hm (by omega)
    have h2 := wfNs_of_cnts o ns.tail r (cnt x m) (by omega) (by omega) h
    rw [wfNs]
    refine ⟨⟨h1, h2.1⟩, fun ho hl y hy => ?_⟩
    cases ns with
    | nil => cases hy
    | cons a t =>
      rcases List.mem_cons.1 hy with rfl | hy
      · simp only [List.headD_cons] at hc
        by_cases e : 300 < y.length
        · exact absurd ⟨ho, e⟩ hc
        · omega
      · exact h2.2 ho (by simpa using hl) y hy
end
theorem wfN_of_light {x : DV} (h : lightB x = true) : wfN 300 x := wfN_of_cnt x 300 (by decide) (of_decide_eq_true h)
theorem wfNs.get : ∀ {l : List DV} {m i : Nat} {x : DV}, wfNs m l → l[i]? = some x → wfN m x
  | [], _, _, _, _, h => by simp at h
  | y :: r, m, 0, x, h, hx => by
    rw [wfNs] at h
    obtain rfl : y = x := by simpa using hx
    exact h.1
  | y :: r, m, i + 1, x, h, hx => by
    rw [wfNs] at h
    exact wfNs.get h.2 (i := i) (by simpa using hx)
theorem wfNs.set : ∀ {l : List DV} {m i : Nat} {x : DV}, wfNs m l → wfN m x → wfNs m (l.set i x)
  | [], _, _, _, _, _ => by rw [List.set_nil, wfNs]; trivial
  | y :: r, m, 0, x, h, hx => by
    rw [wfNs] at h
    rw [List.set_cons_zero, wfNs]; exact ⟨hx, h.2⟩
  | y :: r, m, i + 1, x, h, hx => by
    rw [wfNs] at h
    rw [List.set_cons_succ, wfNs]; exact ⟨h.1, wfNs.set h.2 hx⟩
theorem wfNs.snoc : ∀ {l : List DV} {m : Nat} {x : DV}, wfNs m l → wfN m x → wfNs m (l ++ [x])
  | [], _, _, _, hx => by rw [List.nil_append, wfNs, wfNs]; exact ⟨hx, trivial⟩
  | y :: r, m, x, h, hx => by
    rw [wfNs] at h
    rw [List.cons_append, wfNs]; exact ⟨h.1, wfNs.snoc h.2 hx⟩
theorem szs_map : ∀ (l : List DV) (m : Nat), (∀ x ∈ l, szJ m (toJ x)) → szJs m (l.map toJ)
  | [], _, _ => by rw [List.map_nil, szJs]; trivial
  | x :: r, m, h => by rw [List.map_cons, szJs]; exact ⟨h x (by simp), szs_map r m (fun y hy => h y (by simp [hy]))⟩
theorem lens_map : ∀ (l : List DV), (∀ x ∈ l, lenJ (toJ x)) → lenJs (l.map toJ)
  | [], _ => by rw [List.map_nil, lenJs]; trivial
  | x :: r, h => by rw [List.map_cons, lenJs]; exact ⟨h x (by simp), lens_map r (fun y hy => h y (by simp [hy]))⟩
theorem wfNs.mem {l : List DV} {m : Nat} {x : DV} (h : wfNs m l) (hx : x ∈ l) : wfN m x := by
  obtain ⟨i, hi⟩ := List.getElem?_of_mem hx
  exact h.get hi
theorem sz_toJ : ∀ (N : Nat) (x : DV), dsz x ≤ N → ∀ m, wfN m x → szJ m (toJ x) ∧ lenJ (toJ x)
  | 0, .mk .., h, _, _ => by rw [dsz] at h; omega
  | N + 1, .mk k b n s items names, h, m, hw => by
    have IH := sz_toJ N
    rw [dsz] at h
    rw [wfN] at hw
    have hI : k = 4 ∨ k = 5 → ∀ x ∈ items, szJ m (toJ x) ∧ lenJ (toJ x) := fun hk x hx => by
      obtain ⟨i, hi⟩ := List.getElem?_of_mem hx
      exact IH x (by have := dsz_get hi; omega) m ((hw.2.2.2 hk).mem hx)
    rw [toJ_eq]
    split
    · rw [szJ, lenJ]; simp
    split
    · rw [szJ, lenJ]; simp
    split
    · rw [szJ, lenJ]; simp
    split
    · rw [szJ, lenJ]; exact ⟨hw.1, trivial⟩
    split
    · rename_i hk
      rw [szJ, lenJ, List.length_map]
      exact ⟨⟨hw.2.1, szs_map _ _ fun x hx => (hI (.inl hk) x hx).1⟩, lens_map _ fun x hx => (hI (.inl hk) x hx).2⟩
    split
    · rename_i hk
      rw [szJ, lenJ, List.length_map]
      exact ⟨⟨hw.2.1, (hw.2.2.1 hk).2, szs_map _ _ fun x hx => (hI (.inr hk) x hx).1⟩, (hw.2.2.1 hk).1, lens_map _ fun x hx => (hI (.inr hk) x hx).2⟩
    · rw [szJ, lenJ]; simp
/-! ### Depth -/
/-! ### What becomes of the document's values -/
theorem toJ_list {k : Int} (hk : k = 4) (b : Bool) (n : Int) (s : List UInt8) (items : List DV) (names : List (List UInt8)) : toJ (.mk k b n s items names) = .list (items.map toJ) := by
  subst hk; rw [toJ_eq]; simp
theorem toJ_obj {k : Int} (hk : k = 5) (b : Bool) (n : Int) (s : List UInt8) (items : List DV) (names : List (List UInt8)) : toJ (.mk k b n s items names) = .obj names (items.map toJ) := by
  subst hk; rw [toJ_eq]; simp
/-! ### All paths -/
def toldB (q s : List UInt8) : Bool := match stepsL q with
  | some l => l.getLast? == some s
  | none => false
mutual
def allJ (ahead : List UInt8) : J → List (List UInt8)
  | .list xs => allJs ahead 0 xs
  | .obj ns xs => allMs ahead ns xs
  | .null => []
  | .bool _ => []
  | .num _ => []
  | .text _ => []
  | .other _ => []
def allJs (ahead : List UInt8) : Nat → List J → List (List UInt8)
  | _, [] => []
  | i, x :: r => (if toldB (ahead ++ Lib.decDigits i) (Lib.decDigits i) = true then (ahead ++ Lib.decDigits i) :: allJ (ahead ++ Lib.decDigits i ++ [46]) x else []) ++ allJs ahead (i + 1) r
def allMs (ahead : List UInt8) : List (List UInt8) → List J → List (List UInt8)
  | _, [] => []
  | ns, x :: r => (if toldB (ahead ++ ns.headD []) (ns.headD []) = true then (ahead ++ ns.headD []) :: allJ (ahead ++ ns.headD [] ++ [46]) x else []) ++ allMs ahead ns.tail r
end
end Go.Proofs.YtacogbfgegcliaaGreatDoor
namespace Go.Proofs.YtacogbfgegcliaaGreatDoor
open Go.RowKit Go.TL

theorem get_obj {ns : List (List UInt8)} {xs : List J} {s : List UInt8} {r : List (List UInt8)} : getJ (s :: r) (.obj ns xs) = ((idxN ns s).bind (xs[·]?)).bind (getJ r) := rfl
theorem get_list {xs : List J} {s : List UInt8} {r : List (List UInt8)} : getJ (s :: r) (.list xs) = ((itemL s).bind (xs[·]?)).bind (getJ r) := rfl
theorem lenJs_get : ∀ {l : List J} {i : Nat} {x : J}, lenJs l → l[i]? = some x → lenJ x
  | [], _, _, _, h => by simp at h
  | y :: r, 0, x, hs, h => by
    rw [lenJs] at hs
    obtain rfl : y = x := by simpa using h
    exact hs.1
  | y :: r, i + 1, x, hs, h => by
    rw [lenJs] at hs
    exact lenJs_get (l := r) (i := i) hs.2 (by simpa using h)
/-! ### Steps and texts -/
end Go.Proofs.YtacogbfgegcliaaGreatDoor
namespace Go.Proofs.YtacogbfgegcliaaGreatDoor
open Go.RowKit Go.TL

mutual
theorem same_refl : ∀ (x : J), okJ x → sameJ x x = true
  | .null, _ => by rw [sameJ]
  | .bool _, _ => by rw [sameJ]; simp
  | .num _, _ => by rw [sameJ]; simp
  | .text _, _ => by rw [sameJ]; simp
  | .list xs, h => by
    rw [okJ] at h
    rw [sameJ, sames_refl xs h]; simp
  | .obj ns xs, h => by
    rw [okJ] at h
    rw [sameJ, sameo_refl ns xs h.1 h.2.2.2]; simp
  | .other _, h => by rw [okJ] at h; exact h.elim
theorem sames_refl : ∀ (l : List J), okJs l → sames l l = true
  | [], _ => by rw [sames]; intros; simp_all
  | x :: r, h => by
    rw [okJs] at h
    rw [sames, same_refl x h.1, sames_refl r h.2]; rfl
theorem sameo_refl : ∀ (ns : List (List UInt8)) (l : List J), ns.length = l.length → okJs l → sameo ns l ns l = true
  | ns, [], hn, _ => by
    obtain rfl : ns = [] := List.eq_nil_of_length_eq_zero hn
    rw [sameo]; intros; simp_all
  | [], _ :: _, hn, _ => by simp at hn
  | n :: ns, x :: r, hn, h => by
    rw [okJs] at h
    rw [sameo, same_refl x h.1, sameo_refl ns r (by simpa using hn) h.2]; simp
end
theorem Same_refl {x : J} (hl : lenJ x) (h : lookJ x 0 = 0) : SameJ x x = true := by
  unfold SameJ
  rw [h, same_refl x (ok_of_look x 0 h hl).1]; rfl
def putE (x : J) (p : List UInt8) (y : J) : Nat × Option J := match stepsL p with
  | none => (16, none)
  | some l => if lookJ x 0 ≠ 0 then (lookJ x 0, none) else if lookJ y 0 ≠ 0 then (lookJ y 0, none) else match putJ l x y with
    | none => (14, none)
    | some z => if lookJ z 0 ≠ 0 then (lookJ z 0, none) else (0, some z)
def dropE (x : J) (p : List UInt8) : Nat × Option J := match stepsL p with
  | none => (16, none)
  | some l => if lookJ x 0 ≠ 0 then (lookJ x 0, none) else match dropJ l x with
    | none => (7, none)
    | some z => (0, some z)
theorem look_ok0 {z : J} (h : okJ z) : lookJ z 0 = if depJ z ≤ 32 then 0 else 10 := by
  rw [look_of_ok z 0 h]
  split <;> split <;> first | rfl | omega
def allP (x : J) : List (List UInt8) := if lookJ x 0 = 0 then allJ [] x else []
end Go.Proofs.YtacogbfgegcliaaGreatDoor
namespace Go.Proofs.YtacogbfgegcliaaGreatDoor
open Go.RowKit Go.TL
set_option maxRecDepth 100000

theorem Sl.from1 {g : Gh} {ao : Option Addr} {n cap : Nat} {s : List UInt8} {r : List (List UInt8)} (h : Sl g (.slice ao (n + 1) cap) (n + 1) 1 (strs (s :: r))) (hr : r.length = n) : ∃ b off off', ao = some ⟨b, off, none⟩ ∧ n + 1 ≤ cap ∧ (off' = if cap = 1 then off else off + 1 * 1) ∧ g.cell b (off + 0 * 1) = some (str s) ∧ Sl g (.slice (some ⟨b, off', none⟩) n (cap - 1)) r.length 1 (strs r) := by
  have hcap := h.cap
  obtain ⟨b, off, rfl, hg⟩ := h.elem (i := 0) (by omega) (by decide)
  refine ⟨b, off, _, rfl, hcap, rfl, hg 0 _ rfl, ?_⟩
  subst hr
  cases r with
  | nil => exact Sl.nil
  | cons d u =>
    rw [List.length_cons] at hcap
    refine ⟨by simp [strs], _, _, rfl, by rw [List.length_cons]; omega, fun i x hx => ⟨b, _, rfl, ?_⟩⟩
    have := hg (i + 1) x (by rw [Nat.zero_mul, Nat.zero_add]; exact hx)
    rw [if_neg (by omega), show off + 1 * 1 + i = off + 0 * 1 + (i + 1) by omega]
    exact this
theorem TrMs.mem {ns : List (List UInt8)} {xs : List J} {flat : List Value} {M : List Ent} (h : TrMs ns xs flat M) : Mem ns xs.length flat := fun i hi => by
  obtain ⟨x, hx⟩ : ∃ x, xs[i]? = some x := ⟨_, List.getElem?_eq_getElem hi⟩
  obtain ⟨s, v, _, _, _, h1, h2, h3, _⟩ := h.at hx
  exact ⟨s, v, h1, h2, h3⟩
theorem TQ.rowE {Q : Exit → Act → World → Prop} {c : Exit} {n : Nat} {ds : List Deferred} {S : Slots} {g : Gh} {L L' : List Ent} {E : TypeId} {sz k : Nat} {v : Value} {xs ys : List Value} (hm : Pick (.row E sz v k xs) L L') (e : xs = ys) (h : TQ Q c n ds S g (.row E sz v k ys :: L')) : TQ Q c n ds S g L := by
  subst e
  exact .mk fun a w hf hs => h.h a w hf (hs.perm hm.perm)
def PutR (o : Option J) (g : Gh) (L : List Ent) : Ending → Gh → List Ent → Prop := fun r g' L1 => ∃ v b, r = .returned (.tuple #[v, .bool b]) ∧ g' = g ∧ v.one = true ∧ (match o with
  | some z => b = true ∧ ∃ M, L1 = grp M :: L ∧ TrJ z v M
  | none => b = false ∧ L1 = L)
def PutOk (l : List (List UInt8)) : Prop := (∀ s ∈ l, s.length ≤ 1000000) → l.length ≤ 1000 → ∀ (x y : J) (v u sv : Value) (M N : List Ent) (g : Gh) (L : List Ent), TrJ x v M → TrJ y u N → Sl g sv l.length 1 (strs l) → smJ x → GErr g → GTabs g → Does Tryz.prog 65 #[v, sv, u] g (grp M :: grp N :: L) (PutR (putJ l x y) g L)
end Go.Proofs.YtacogbfgegcliaaGreatDoor
