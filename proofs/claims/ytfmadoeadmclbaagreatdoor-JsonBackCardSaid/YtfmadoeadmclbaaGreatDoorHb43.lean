/-
  The document's numbers in steps; its values, how great; all paths. What Put and Drop tell; a value is like itself. How long the plain text of a light value is at most; what Parse tells of what Print told.
-/
import Derived.Test.YtfmadoeadmclbaaGreatDoorHb29
import Derived.Test.YtfmadoeadmclbaaGreatDoorHb16
import Derived.Test.YtfmadoeadmclbaaGreatDoorHb42
import Derived.Test.YtfmadoeadmclbaaGreatDoorHb32
import Derived.Test.YtfmadoeadmclbaaGreatDoorHb40
namespace Go.Proofs.YtfmadoeadmclbaaGreatDoor
open Go.RowKit

/-! ### A step as a number -/
/-! ### The document's values, how great -/
mutual
def wfN (m : Nat) : DV → Prop
  | .mk k _ _ s items names => s.length ≤ m ∧ items.length ≤ m ∧ (k = 5 → names.length = items.length ∧ ∀ x ∈ names, x.length ≤ m) ∧ (k = 4 ∨ k = 5 → wfNs m items)
def wfNs (m : Nat) : List DV → Prop
  | [] => True
  | x :: r => wfN m x ∧ wfNs m r
end
mutual
theorem wfN_of_cnt : ∀ (x : DV) (l : Int), l ≤ 1000 → 0 ≤ cnt x l → wfN 300 x
  | .mk k b n s items names, l, hl, h => by
    rw [cnt] at h
    split at h
    · omega
    rename_i hc
    rw [wfN]
    split at h
    · rename_i hk
      have := wfNs_of_cnts (decide (k = 5)) names items (l - 1) (by omega) (by omega) h
      refine ⟨by omega, by omega, fun hk5 => ?_, fun _ => this.1⟩
      have hlen : names.length = items.length := by
        by_cases e : names.length = items.length
        · exact e
        · exact absurd (.inr (.inr (.inr ⟨hk5, e⟩))) hc
      exact ⟨hlen, fun x hx => this.2 (by simp [hk5]) hlen x hx⟩
    · rename_i hk
      exact ⟨by omega, by omega, fun h5 => absurd (.inr h5) hk, fun h5 => absurd h5 hk⟩
theorem wfNs_of_cnts (o : Bool) : ∀ (ns : List (List UInt8)) (l : List DV) (m : Int), 0 ≤ m → m ≤ 1000 → 0 ≤ cnts o ns l m → wfNs 300 l ∧ (o = true → ns.length = l.length → ∀ x ∈ ns, x.length ≤ 300)
  | ns, [], m, h0, hm, h => by
    rw [wfNs]
    refine ⟨trivial, fun _ hl x hx => ?_⟩
    rw [List.eq_nil_of_length_eq_zero hl] at hx
    cases hx
  | ns, x :: r, m, h0, hm, h => by
    rw [cnts] at h
    split at h
    · omega
    rename_i hc
    split at h
    · omega
    rename_i hc2
    have hb := cnt_bd x m h0 hm
    have h1 := wfN_of_cnt x m hm (by omega)
    have h2 := wfNs_of_cnts o ns.tail r (cnt x m) (by omega) (by omega) h
    rw [wfNs]
    refine ⟨⟨h1, h2.1⟩, fun ho hl y hy => ?_⟩
    cases ns with
    | nil => cases hy
    | cons a t =>
      rcases List.mem_cons.1 hy with rfl | hy
      · simp only [List.headD_cons] at hc
        by_cases e : 300 < y.length
        · exact absurd ⟨ho, e⟩ hc
        · omega
      · exact h2.2 ho (by simpa using hl) y hy
end
theorem wfN_of_light {x : DV} (h : lightB x = true) : wfN 300 x := wfN_of_cnt x 300 (by decide) (of_decide_eq_true h)
theorem wfNs.get : ∀ {l : List DV} {m i : Nat} {x : DV}, wfNs m l → l[i]? = some x → wfN m x
  | [], _, _, _, _, h => by simp at h
  | y :: r, m, 0, x, h, hx => by
    rw [wfNs] at h
    obtain rfl : y = x := by simpa using hx
    exact h.1
  | y :: r, m, i + 1, x, h, hx => by
    rw [wfNs] at h
    exact wfNs.get h.2 (i := i) (by simpa using hx)
theorem wfNs.set : ∀ {l : List DV} {m i : Nat} {x : DV}, wfNs m l → wfN m x → wfNs m (l.set i x)
  | [], _, _, _, _, _ => by rw [List.set_nil, wfNs]; trivial
  | y :: r, m, 0, x, h, hx => by
    rw [wfNs] at h
    rw [List.set_cons_zero, wfNs]; exact ⟨hx, h.2⟩
  | y :: r, m, i + 1, x, h, hx => by
    rw [wfNs] at h
    rw [List.set_cons_succ, wfNs]; exact ⟨h.1, wfNs.set h.2 hx⟩
theorem wfNs.snoc : ∀ {l : List DV} {m : Nat} {x : DV}, wfNs m l → wfN m x → wfNs m (l ++ [x])
  | [], _, _, _, hx => by rw [List.nil_append, wfNs, wfNs]; exact ⟨hx, trivial⟩
  | y :: r, m, x, h, hx => by
    rw [wfNs] at h
    rw [List.cons_append, wfNs]; exact ⟨h.1, wfNs.snoc h.2 hx⟩
theorem szs_map : ∀ (l : List DV) (m : Nat), (∀ x ∈ l, szJ m (toJ x)) → szJs m (l.map toJ)
  | [], _, _ => by rw [List.map_nil, szJs]; trivial
  | x :: r, m, h => by rw [List.map_cons, szJs]; exact ⟨h x (by simp), szs_map r m (fun y hy => h y (by simp [hy]))⟩
theorem lens_map : ∀ (l : List DV), (∀ x ∈ l, lenJ (toJ x)) → lenJs (l.map toJ)
  | [], _ => by rw [List.map_nil, lenJs]; trivial
  | x :: r, h => by rw [List.map_cons, lenJs]; exact ⟨h x (by simp), lens_map r (fun y hy => h y (by simp [hy]))⟩
theorem wfNs.mem {l : List DV} {m : Nat} {x : DV} (h : wfNs m l) (hx : x ∈ l) : wfN m x := by
  obtain ⟨i, hi⟩ := List.getElem?_of_mem hx
  exact h.get hi
theorem sz_toJ : ∀ (N : Nat) (x : DV), dsz x ≤ N → ∀ m, wfN m x → szJ m (toJ x) ∧ lenJ (toJ x)
  | 0, .mk .., h, _, _ => by rw [dsz] at h; omega
  | N + 1, .mk k b n s items names, h, m, hw => by
    have IH := sz_toJ N
    rw [dsz] at h
    rw [wfN] at hw
    have hI : k = 4 ∨ k = 5 → ∀ x ∈ items, szJ m (toJ x) ∧ lenJ (toJ x) := fun hk x hx => by
      obtain ⟨i, hi⟩ := List.getElem?_of_mem hx
      exact IH x (by have := dsz_get hi; omega) m ((hw.2.2.2 hk).mem hx)
    rw [toJ_eq]
    split
    · rw [szJ, lenJ]; simp
    split
    · rw [szJ, lenJ]; simp
    split
    · rw [szJ, lenJ]; simp
    split
    · rw [szJ, lenJ]; exact ⟨hw.1, trivial⟩
    split
    · rename_i hk
      rw [szJ, lenJ, List.length_map]
      exact ⟨⟨hw.2.1, szs_map _ _ fun x hx => (hI (.inl hk) x hx).1⟩, lens_map _ fun x hx => (hI (.inl hk) x hx).2⟩
    split
    · rename_i hk
      rw [szJ, lenJ, List.length_map]
      exact ⟨⟨hw.2.1, (hw.2.2.1 hk).2, szs_map _ _ fun x hx => (hI (.inr hk) x hx).1⟩, (hw.2.2.1 hk).1, lens_map _ fun x hx => (hI (.inr hk) x hx).2⟩
    · rw [szJ, lenJ]; simp
/-! ### Depth -/
/-! ### What becomes of the document's values -/
/-! ### All paths -/
end Go.Proofs.YtfmadoeadmclbaaGreatDoor
namespace Go.Proofs.YtfmadoeadmclbaaGreatDoor
open Go.RowKit Go.TL

mutual
theorem same_refl : ∀ (x : J), okJ x → sameJ x x = true
  | .null, _ => by rw [sameJ]
  | .bool _, _ => by rw [sameJ]; simp
  | .num _, _ => by rw [sameJ]; simp
  | .text _, _ => by rw [sameJ]; simp
  | .list xs, h => by
    rw [okJ] at h
    rw [sameJ, sames_refl xs h]; simp
  | .obj ns xs, h => by
    rw [okJ] at h
    rw [sameJ, sameo_refl ns xs h.1 h.2.2.2]; simp
  | .other _, h => by rw [okJ] at h; exact h.elim
theorem sames_refl : ∀ (l : List J), okJs l → sames l l = true
  | [], _ => by rw [sames]; intros; simp_all
  | x :: r, h => by
    rw [okJs] at h
    rw [sames, same_refl x h.1, sames_refl r h.2]; rfl
theorem sameo_refl : ∀ (ns : List (List UInt8)) (l : List J), ns.length = l.length → okJs l → sameo ns l ns l = true
  | ns, [], hn, _ => by
    obtain rfl : ns = [] := List.eq_nil_of_length_eq_zero hn
    rw [sameo]; intros; simp_all
  | [], _ :: _, hn, _ => by simp at hn
  | n :: ns, x :: r, hn, h => by
    rw [okJs] at h
    rw [sameo, same_refl x h.1, sameo_refl ns r (by simpa using hn) h.2]; simp
end
theorem Same_refl {x : J} (hl : lenJ x) (h : lookJ x 0 = 0) : SameJ x x = true := by
  unfold SameJ
  rw [h, same_refl x (ok_of_look x 0 h hl).1]; rfl
theorem look_ok0 {z : J} (h : okJ z) : lookJ z 0 = if depJ z ≤ 32 then 0 else 10 := by
  rw [look_of_ok z 0 h]
  split <;> split <;> first | rfl | omega
end Go.Proofs.YtfmadoeadmclbaaGreatDoor
namespace Go.Proofs.YtfmadoeadmclbaaGreatDoor
open Go.RowKit

mutual
theorem m_cnt : ∀ (x : DV) (l : Int), 0 ≤ cnt x l → (mJ (toJ x) : Int) + 2000 + 4000 * cnt x l ≤ 4000 * l
  | .mk k b n s items names, l, h => by
    rw [cnt] at h ⊢
    split at h
    · omega
    rename_i hno
    rw [if_neg hno, toJ_eq]
    have h1 := ms_cnts (decide (k = 5)) names items (l - 1)
    by_cases k0 : k = 0
    · rw [if_pos k0, if_neg (by omega), mJ]; omega
    rw [if_neg k0]
    by_cases k1 : k = 1
    · rw [if_pos k1, if_neg (by omega), mJ]; omega
    rw [if_neg k1]
    by_cases k2 : k = 2
    · rw [if_pos k2, if_neg (by omega), mJ]; omega
    rw [if_neg k2]
    by_cases k3 : k = 3
    · rw [if_pos k3, if_neg (by omega), mJ]; omega
    rw [if_neg k3]
    by_cases k4 : k = 4
    · rw [if_pos (show k = 4 ∨ k = 5 from .inl k4)] at h ⊢
      rw [if_pos k4, mJ]
      have := (h1 h).1 (by simp; omega)
      omega
    rw [if_neg k4]
    by_cases k5 : k = 5
    · rw [if_pos (show k = 4 ∨ k = 5 from .inr k5)] at h ⊢
      rw [if_pos k5, mJ]
      have := (h1 h).2 (by simp [k5])
      omega
    rw [if_neg k5, if_neg (by omega), mJ]; omega
theorem ms_cnts (o : Bool) : ∀ (ns : List (List UInt8)) (r : List DV) (m : Int), 0 ≤ cnts o ns r m → (o = false → (mJs (r.map toJ) : Int) + 4000 * cnts o ns r m ≤ 4000 * m) ∧ (o = true → (mJm ns (r.map toJ) : Int) + 4000 * cnts o ns r m ≤ 4000 * m)
  | ns, [], m, _ => by
    rw [List.map_nil, mJs, mJm, cnts]
    exact ⟨fun _ => by omega, fun _ => by omega⟩
  | ns, x :: r, m, h => by
    rw [cnts] at h ⊢
    split at h
    · omega
    rename_i h1
    split at h
    · omega
    rename_i h2
    rw [if_neg h1, if_neg h2, List.map_cons, mJs, mJm]
    have a := m_cnt x m (by omega)
    have b := ms_cnts o ns.tail r (cnt x m) h
    refine ⟨fun ho => ?_, fun ho => ?_⟩
    · have := b.1 ho
      omega
    · have := b.2 ho
      have h3 : ¬ 300 < (ns.headD []).length := fun e => h1 ⟨ho, e⟩
      omega
end
theorem m_light {x : DV} (h : lightB x = true) : mJ (toJ x) ≤ 1200000 := by
  have h0 : 0 ≤ cnt x 300 := of_decide_eq_true h
  have := m_cnt x 300 h0
  omega
theorem print_parse {x : J} (hk : okJ x) (hd : depJ x ≤ 32) (hl : (prJ x).length ≤ 65536) : jparse (prJ x) = .ok x := by
  have h := parse_back (pre := []) (post := []) (q := []) (fun _ h => by cases h) (fun _ h => by cases h) hk hd (fun _ h => by cases h)
  rw [List.nil_append, prW_nil] at h
  exact h hl
theorem jparse_err {s : List UInt8} {k : Nat} (h : jparse s = .error k) : k ≠ 0 := by
  unfold jparse at h
  split at h
  · injection h with h; omega
  · cases h1 : valT 32 s with
    | error e =>
      rw [h1] at h
      injection h with h
      subst h
      exact valT_err 32 _ _ h1
    | ok p =>
      obtain ⟨y, r⟩ := p
      rw [h1] at h
      dsimp only at h
      split at h
      · cases h
      · injection h with h; omega
theorem look_zero {x : J} (hk : okJ x) (hd : depJ x ≤ 32) : lookJ x 0 = 0 := by rw [look_ok0 hk, if_pos hd]
theorem ok_zero {x : J} (h : lookJ x 0 = 0) (hl : lenJ x) : okJ x ∧ depJ x ≤ 32 := by
  obtain ⟨a, b⟩ := ok_of_look x 0 h hl
  exact ⟨a, by omega⟩
mutual
theorem sm_of_m : ∀ (x : J), mJ x ≤ 1000000 → lenJ x → smJ x
  | .null, _, _ => by rw [smJ]; trivial
  | .bool _, _, _ => by rw [smJ]; trivial
  | .num _, _, _ => by rw [smJ]; trivial
  | .other _, _, _ => by rw [smJ]; trivial
  | .text s, h, _ => by rw [mJ] at h; rw [smJ]; omega
  | .list xs, h, hl => by
    rw [mJ] at h
    rw [lenJ] at hl
    have h1 := sms_of_m xs (by omega) hl
    rw [smJ]
    exact ⟨by omega, h1.1⟩
  | .obj ns xs, h, hl => by
    rw [mJ] at h
    rw [lenJ] at hl
    have h1 := smm_of_m ns xs (by omega) hl.2 hl.1
    rw [smJ]
    exact ⟨by omega, h1.2.1, h1.1⟩
theorem sms_of_m : ∀ (l : List J), mJs l ≤ 1000000 → lenJs l → smJs l ∧ l.length ≤ mJs l
  | [], _, _ => by rw [smJs, mJs]; exact ⟨trivial, Nat.le_refl _⟩
  | x :: r, h, hl => by
    rw [mJs] at h ⊢
    rw [lenJs] at hl
    have h1 := sm_of_m x (by omega) hl.1
    have h2 := sms_of_m r (by omega) hl.2
    rw [smJs, List.length_cons]
    exact ⟨⟨h1, h2.1⟩, by omega⟩
theorem smm_of_m : ∀ (ns : List (List UInt8)) (l : List J), mJm ns l ≤ 1000000 → lenJs l → ns.length = l.length → smJs l ∧ (∀ n ∈ ns, n.length ≤ 1000000) ∧ l.length ≤ mJm ns l
  | [], [], _, _, _ => by rw [smJs, mJm]; exact ⟨trivial, (fun _ h => by cases h), Nat.le_refl _⟩
  | n :: ns, x :: r, h, hl, hn => by
    rw [mJm, List.headD_cons, List.tail_cons] at h ⊢
    rw [lenJs] at hl
    have h1 := sm_of_m x (by omega) hl.1
    have h2 := smm_of_m ns r (by omega) hl.2 (by simpa using hn)
    rw [smJs, List.length_cons]
    refine ⟨⟨h1, h2.1⟩, fun m hm => ?_, by omega⟩
    rcases List.mem_cons.1 hm with rfl | hm
    · omega
    · exact h2.2.1 m hm
  | [], _ :: _, _, _, hn => by simp at hn
  | _ :: _, [], _, _, hn => by simp at hn
end
end Go.Proofs.YtfmadoeadmclbaaGreatDoor
