/-
  The walk of the document's Light. The document's numbers in steps; its values, how great; all paths. What Put and Drop tell; a value is like itself. How long the plain text of a light value is at most; what Parse tells of what Print told.
-/
import Derived.Test.YtfmadoeadmclbaaGreatDoorHb1
import Derived.Test.YtfmadoeadmclbaaGreatDoorHb5
import Derived.Test.YtfmadoeadmclbaaGreatDoorHb28
import Derived.Test.YtfmadoeadmclbaaGreatDoorHb18
import Derived.Test.YtfmadoeadmclbaaGreatDoorHb24
import Derived.Test.YtfmadoeadmclbaaGreatDoorHb32
import Derived.Test.YtfmadoeadmclbaaGreatDoorHb31
import Derived.Test.YtfmadoeadmclbaaGreatDoorHb37
namespace Go.Proofs.YtfmadoeadmclbaaGreatDoor
open Go.RowKit Go.TL
set_option maxRecDepth 100000

set_option maxHeartbeats 8000000 in
theorem count_gives : ∀ (N : Nat) (x : DV), dsz x ≤ N → ∀ (cs : List Value) (g : Gh) (L : List Ent) (left : Int), IsV g x cs → 0 ≤ left → left ≤ 1000 → Gives Tryz.prog 32 #[.agg cs.toArray, .int .i64 left] g L (.int .i64 (cnt x left))
  | 0, .mk .., h, _, _, _, _, _, _, _ => by rw [dsz] at h; omega
  | N + 1, .mk k b n s items names, hN, cs, g, L, left, hV, l0, l1 => by
    have IH := count_gives N
    rw [dsz] at hN
    rw [IsV] at hV
    obtain ⟨vi, vn, flat, rfl, ⟨k0, k1⟩, _, hs, hi, hil, hfl, hn, hnl, hns⟩ := hV
    obtain ⟨aoi, capi, rfl⟩ := hi.slice
    obtain ⟨aon, capn, rfl⟩ := hn.slice
    obtain ⟨R, hR⟩ : ∃ R, R = cnt (.mk k b n s items names) left := ⟨_, rfl⟩
    rw [← hR]
    rw [cnt] at hR
    refine .of (Does.of2 Tryz.func32 rfl Tryz.ntmps32 rfl ?_)
    by_cases hb1 : left - 1 < 0
    · rw [if_pos (.inl hb1)] at hR
      subst hR
      repeat' (first
    | ((with_reducible apply TL.pure); (· exact yA); (· rfl))
    | refine stS ?_ | (refine stB ?_; intro _) | (refine stC ?_; refine And.intro (fun _ => ?_) (fun _ => ?_)))
      refine TQ.endR1 (L' := L) Tryz.results32 rvA rfl (.refl _) ?_ selA
      exact ⟨rfl, rfl, rfl⟩
    by_cases hb2 : 300 < s.length
    · rw [if_pos (.inr (.inl hb2))] at hR
      subst hR
      repeat' (first
    | ((with_reducible apply TL.pure); (· exact yA); (· rfl))
    | refine stS ?_ | (refine stB ?_; intro _) | (refine stC ?_; refine And.intro (fun _ => ?_) (fun _ => ?_)))
      refine TQ.endR1 (L' := L) Tryz.results32 rvA rfl (.refl _) ?_ selA
      exact ⟨rfl, rfl, rfl⟩
    by_cases hb3 : 300 < items.length
    · rw [if_pos (.inr (.inr (.inl hb3)))] at hR
      subst hR
      repeat' (first
    | ((with_reducible apply TL.pure); (· exact yA); (· rfl))
    | refine stS ?_ | (refine stB ?_; intro _) | (refine stC ?_; refine And.intro (fun _ => ?_) (fun _ => ?_)))
      refine TQ.endR1 (L' := L) Tryz.results32 rvA rfl (.refl _) ?_ selA
      exact ⟨rfl, rfl, rfl⟩
    by_cases hk5 : k = 5
    · subst hk5
      by_cases hb4 : names.length = items.length
      · rw [if_neg (by omega), if_pos (.inr rfl)] at hR
        repeat' (first
    | ((with_reducible apply TL.pure); (· exact yA); (· rfl))
    | refine stS ?_ | (refine stB ?_; intro _) | (refine stC ?_; refine And.intro (fun _ => ?_) (fun _ => ?_)))
        rename_i bo
        refine TC.loopK (fun x : Nat × Int => x.1 ≤ items.length ∧ 0 ≤ x.2 ∧ x.2 ≤ 1000 ∧ cnts true (names.drop x.1) (items.drop x.1) x.2 = R) (fun x => items.length - x.1) (fun x _ => [(5, .int .i64 (x.1 : Nat)), (1, .int .i64 x.2), (2, .pointer (some ⟨bo, 0, none⟩))]) [] (by repeat (first | apply Drop.nil | apply Drop.cons (by (repeat (first | apply Pick.here | apply Pick.there))))) (fun _ L => L) (0, left - 1) ⟨Nat.zero_le _, by omega, by omega, by rw [hR]; rfl⟩ subA selA ?_
        clear hR
        rintro ⟨i, l⟩ ⟨hi1, m0, m1, hR⟩
        dsimp only at hi1 m0 m1 hR ⊢
        by_cases hlt : i < items.length
        · obtain ⟨x, hx⟩ : ∃ x, items[i]? = some x := ⟨_, List.getElem?_eq_getElem hlt⟩
          obtain ⟨nm, hnm⟩ : ∃ nm, names[i]? = some nm := ⟨_, List.getElem?_eq_getElem (by omega)⟩
          obtain ⟨cs', hV', hl6, hcs⟩ := hfl.get hx
          obtain ⟨b1, o1, rfl, hg⟩ := hi.elem hlt (by decide)
          obtain ⟨b2, o2, rfl, hg2⟩ := hn.elem (i := i) (by omega) (by decide)
          have hld : ∀ j u, cs'[j]? = some u → g.cell b1 (o1 + i * 6 + j) = some u := fun j u hu => hg j u (hcs j u hu)
          have hln : g.cell b2 (o2 + i * 1) = some (str nm) := hg2 0 _ (by rw [Nat.mul_one]; exact strs_get hnm)
          have hnmb := hns nm (List.mem_of_getElem? hnm)
          have hsz := dsz_get hx
          rw [cnts_at hx, List.headD_eq_head?_getD, List.head?_drop, hnm] at hR
          obtain ⟨c0, c1⟩ := cnt_bd x l m0 m1
          have A := fun L => IH x (by omega) cs' g L l hV' m0 m1
          generalize cnt x l = r at *
          clear hfl hi hn hcs hg hg2 hns hV'
          simp only [Option.getD_some, true_and] at hR
          have hR1 : 300 < nm.length → R = -1 := fun h => by rw [if_pos h] at hR; exact hR.symm
          have hR2 : ¬ 300 < nm.length → r < 0 → R = -1 := fun h h2 => by rw [if_neg h, if_pos h2] at hR; exact hR.symm
          have hR3 : ¬ 300 < nm.length → ¬ r < 0 → cnts true (names.drop (i + 1)) (items.drop (i + 1)) r = R := fun h h2 => by rw [if_neg h, if_neg h2] at hR; exact hR
          clear hR
          repeat' (first
    | ((with_reducible apply TL.pure); (· exact yV); (· rfl)) | ((with_reducible apply TW.pure); (· exact yV); (· rfl))
    | ((with_reducible apply TL.gives_plain); (· kernel_rfl); (· rfl); (· exact A _); (· rfl)) | ((with_reducible apply TW.gives_plain); (· kernel_rfl); (· rfl); (· exact A _); (· rfl))
    | ((with_reducible apply TL.pure); (· exact yA); (· rfl))
    | refine stS ?_ | (refine stB ?_; intro _) | (refine stC ?_; refine And.intro (fun _ => ?_) (fun _ => ?_)))
          · obtain rfl := hR1 (by omega)
            refine TQ.endR1 (L' := L) Tryz.results32 rvA rfl (.refl _) ?_ selA
            exact ⟨rfl, rfl, rfl⟩
          · obtain rfl := hR2 (by omega) (by omega)
            refine TQ.endR1 (L' := L) Tryz.results32 rvA rfl (.refl _) ?_ selA
            exact ⟨rfl, rfl, rfl⟩
          · refine TQ.round (i + 1, r) ?_ ?_ rfl subA selA
            · exact ⟨by omega, by omega, c1, hR3 (by omega) (by omega)⟩
            · show items.length - (i + 1) < items.length - i
              omega
        · obtain rfl : i = items.length := by omega
          rw [List.drop_length, cnts] at hR
          subst hR
          repeat' (first
    | ((with_reducible apply TL.pure); (· exact yA); (· rfl))
    | refine stS ?_ | (refine stB ?_; intro _) | (refine stC ?_; refine And.intro (fun _ => ?_) (fun _ => ?_)))
          refine TQ.endR1 (L' := L) Tryz.results32 rvA rfl (.refl _) ?_ selA
          exact ⟨rfl, rfl, rfl⟩
      · rw [if_pos (.inr (.inr (.inr ⟨rfl, hb4⟩)))] at hR
        subst hR
        repeat' (first
    | ((with_reducible apply TL.pure); (· exact yA); (· rfl))
    | refine stS ?_ | (refine stB ?_; intro _) | (refine stC ?_; refine And.intro (fun _ => ?_) (fun _ => ?_)))
        refine TQ.endR1 (L' := L) Tryz.results32 rvA rfl (.refl _) ?_ selA
        exact ⟨rfl, rfl, rfl⟩
    by_cases hk4 : k = 4
    · subst hk4
      rw [if_neg (by omega), if_pos (.inl rfl)] at hR
      repeat' (first
    | ((with_reducible apply TL.pure); (· exact yA); (· rfl))
    | refine stS ?_ | (refine stB ?_; intro _) | (refine stC ?_; refine And.intro (fun _ => ?_) (fun _ => ?_)))
      rename_i bo
      refine TC.loopK (fun x : Nat × Int => x.1 ≤ items.length ∧ 0 ≤ x.2 ∧ x.2 ≤ 1000 ∧ cnts false (names.drop x.1) (items.drop x.1) x.2 = R) (fun x => items.length - x.1) (fun x _ => [(5, .int .i64 (x.1 : Nat)), (1, .int .i64 x.2), (2, .pointer (some ⟨bo, 0, none⟩))]) [] (by repeat (first | apply Drop.nil | apply Drop.cons (by (repeat (first | apply Pick.here | apply Pick.there))))) (fun _ L => L) (0, left - 1) ⟨Nat.zero_le _, by omega, by omega, by rw [hR]; rfl⟩ subA selA ?_
      clear hR
      rintro ⟨i, l⟩ ⟨hi1, m0, m1, hR⟩
      dsimp only at hi1 m0 m1 hR ⊢
      by_cases hlt : i < items.length
      · obtain ⟨x, hx⟩ : ∃ x, items[i]? = some x := ⟨_, List.getElem?_eq_getElem hlt⟩
        obtain ⟨cs', hV', hl6, hcs⟩ := hfl.get hx
        obtain ⟨b1, o1, rfl, hg⟩ := hi.elem hlt (by decide)
        have hld : ∀ j u, cs'[j]? = some u → g.cell b1 (o1 + i * 6 + j) = some u := fun j u hu => hg j u (hcs j u hu)
        have hsz := dsz_get hx
        rw [cnts_at hx, if_neg (by simp)] at hR
        obtain ⟨c0, c1⟩ := cnt_bd x l m0 m1
        have A := fun L => IH x (by omega) cs' g L l hV' m0 m1
        generalize cnt x l = r at *
        clear hfl hi hn hcs hg hns hV'
        have hR2 : r < 0 → R = -1 := fun h2 => by rw [if_pos h2] at hR; exact hR.symm
        have hR3 : ¬ r < 0 → cnts false (names.drop (i + 1)) (items.drop (i + 1)) r = R := fun h2 => by rw [if_neg h2] at hR; exact hR
        clear hR
        repeat' (first
    | ((with_reducible apply TL.pure); (· exact yV); (· rfl)) | ((with_reducible apply TW.pure); (· exact yV); (· rfl))
    | ((with_reducible apply TL.gives_plain); (· kernel_rfl); (· rfl); (· exact A _); (· rfl)) | ((with_reducible apply TW.gives_plain); (· kernel_rfl); (· rfl); (· exact A _); (· rfl))
    | ((with_reducible apply TL.pure); (· exact yA); (· rfl))
    | refine stS ?_ | (refine stB ?_; intro _) | (refine stC ?_; refine And.intro (fun _ => ?_) (fun _ => ?_)))
        · obtain rfl := hR2 (by omega)
          refine TQ.endR1 (L' := L) Tryz.results32 rvA rfl (.refl _) ?_ selA
          exact ⟨rfl, rfl, rfl⟩
        · refine TQ.round (i + 1, r) ?_ ?_ rfl subA selA
          · exact ⟨by omega, by omega, c1, hR3 (by omega)⟩
          · show items.length - (i + 1) < items.length - i
            omega
      · obtain rfl : i = items.length := by omega
        rw [List.drop_length, cnts] at hR
        subst hR
        repeat' (first
    | ((with_reducible apply TL.pure); (· exact yA); (· rfl))
    | refine stS ?_ | (refine stB ?_; intro _) | (refine stC ?_; refine And.intro (fun _ => ?_) (fun _ => ?_)))
        refine TQ.endR1 (L' := L) Tryz.results32 rvA rfl (.refl _) ?_ selA
        exact ⟨rfl, rfl, rfl⟩
    rw [if_neg (by omega), if_neg (by omega)] at hR
    subst hR
    have n5 : Hn (¬ k = 5) := ⟨hk5⟩
    have n4 : Hn (¬ k = 4) := ⟨hk4⟩
    repeat' (first
    | ((with_reducible apply TL.pure); (· exact yA); (· rfl))
    | refine stS ?_ | (refine stB ?_; intro _) | (refine stC ?_; refine And.intro (fun _ => ?_) (fun _ => ?_)))
    refine TQ.endR1 (L' := L) Tryz.results32 rvA rfl (.refl _) ?_ selA
    exact ⟨rfl, rfl, rfl⟩
set_option maxHeartbeats 4000000 in
theorem light_gives (x : DV) (cs : List Value) (g : Gh) (L : List Ent) (hV : IsV g x cs) : Gives Tryz.prog 13 #[.agg cs.toArray] g L (.bool (lightB x)) := by
  refine .of (Does.of1 Tryz.func13 rfl Tryz.ntmps13 rfl ?_)
  have A := fun L => count_gives _ x (Nat.le_refl _) cs g L 300 hV (by decide) (by decide)
  obtain ⟨c0, c1⟩ := cnt_bd x 300 (by decide) (by decide)
  unfold lightB
  generalize cnt x 300 = r at *
  have h6 := hV.len
  clear hV
  repeat' (first
    | ((with_reducible apply TL.pure); (· exact yV); (· rfl)) | ((with_reducible apply TW.pure); (· exact yV); (· rfl))
    | ((with_reducible apply TL.gives_plain); (· kernel_rfl); (· rfl); (· exact A _); (· rfl)) | ((with_reducible apply TW.gives_plain); (· kernel_rfl); (· rfl); (· exact A _); (· rfl))
    | ((with_reducible apply TL.pure); (· exact yA); (· rfl))
    | refine stS ?_ | (refine stB ?_; intro _) | (refine stC ?_; refine And.intro (fun _ => ?_) (fun _ => ?_)))
  all_goals
    refine TQ.endR1 (L' := L) Tryz.results13 rvA rfl (.refl _) ?_ selA
    exact ⟨rfl, rfl, rfl⟩
end Go.Proofs.YtfmadoeadmclbaaGreatDoor
namespace Go.Proofs.YtfmadoeadmclbaaGreatDoor
open Go.RowKit

/-! ### A step as a number -/
/-! ### The document's values, how great -/
mutual
def wfN (m : Nat) : DV → Prop
  | .mk k _ _ s items names => s.length ≤ m ∧ items.length ≤ m ∧ (k = 5 → names.length = items.length ∧ ∀ x ∈ names, x.length ≤ m) ∧ (k = 4 ∨ k = 5 → wfNs m items)
def wfNs (m : Nat) : List DV → Prop
  | [] => True
  | x :: r => wfN m x ∧ wfNs m r
end
mutual
theorem wfN_of_cnt : ∀ (x : DV) (l : Int), l ≤ 1000 → 0 ≤ cnt x l → wfN 300 x
  | .mk k b n s items names, l, hl, h => by
    rw [cnt] at h
    split at h
    · omega
    rename_i hc
    rw [wfN]
    split at h
    · rename_i hk
      have := wfNs_of_cnts (decide (k = 5)) names items (l - 1) (by omega) (by omega) h
      refine ⟨by omega, by omega, fun hk5 => ?_, fun _ => this.1⟩
      have hlen : names.length = items.length := by
        by_cases e : names.length = items.length
        · exact e
        · exact absurd (.inr (.inr (.inr ⟨hk5, e⟩))) hc
      exact ⟨hlen, fun x hx => this.2 (by simp [hk5]) hlen x hx⟩
    · rename_i hk
      exact ⟨by omega, by omega, fun h5 => absurd (.inr h5) hk, fun h5 => absurd h5 hk⟩
theorem wfNs_of_cnts (o : Bool) : ∀ (ns : List (List UInt8)) (l : List DV) (m : Int), 0 ≤ m → m ≤ 1000 → 0 ≤ cnts o ns l m → wfNs 300 l ∧ (o = true → ns.length = l.length → ∀ x ∈ ns, x.length ≤ 300)
  | ns, [], m, h0, hm, h => by
    rw [wfNs]
    refine ⟨trivial, fun _ hl x hx => ?_⟩
    rw [List.eq_nil_of_length_eq_zero hl] at hx
    cases hx
  | ns, x :: r, m, h0, hm, h => by
    rw [cnts] at h
    split at h
    · omega
    rename_i hc
    split at h
    · omega
    rename_i hc2
    have hb := cnt_bd x m h0 hm
    have h1 := wfN_of_cnt x m hm (by omega)
    have h2 := wfNs_of_cnts o ns.tail r (cnt x m) (by omega) (by omega) h
    rw [wfNs]
    refine ⟨⟨h1, h2.1⟩, fun ho hl y hy => ?_⟩
    cases ns with
    | nil => cases hy
    | cons a t =>
      rcases List.mem_cons.1 hy with rfl | hy
      · simp only [List.headD_cons] at hc
        by_cases e : 300 < y.length
        · exact absurd ⟨ho, e⟩ hc
        · omega
      · exact h2.2 ho (by simpa using hl) y hy
end
theorem wfN_of_light {x : DV} (h : lightB x = true) : wfN 300 x := wfN_of_cnt x 300 (by decide) (of_decide_eq_true h)
theorem wfNs.get : ∀ {l : List DV} {m i : Nat} {x : DV}, wfNs m l → l[i]? = some x → wfN m x
  | [], _, _, _, _, h => by simp at h
  | y :: r, m, 0, x, h, hx => by
    rw [wfNs] at h
    obtain rfl : y = x := by simpa using hx
    exact h.1
  | y :: r, m, i + 1, x, h, hx => by
    rw [wfNs] at h
    exact wfNs.get h.2 (i := i) (by simpa using hx)
theorem wfNs.set : ∀ {l : List DV} {m i : Nat} {x : DV}, wfNs m l → wfN m x → wfNs m (l.set i x)
  | [], _, _, _, _, _ => by rw [List.set_nil, wfNs]; trivial
  | y :: r, m, 0, x, h, hx => by
    rw [wfNs] at h
    rw [List.set_cons_zero, wfNs]; exact ⟨hx, h.2⟩
  | y :: r, m, i + 1, x, h, hx => by
    rw [wfNs] at h
    rw [List.set_cons_succ, wfNs]; exact ⟨h.1, wfNs.set h.2 hx⟩
theorem wfNs.snoc : ∀ {l : List DV} {m : Nat} {x : DV}, wfNs m l → wfN m x → wfNs m (l ++ [x])
  | [], _, _, _, hx => by rw [List.nil_append, wfNs, wfNs]; exact ⟨hx, trivial⟩
  | y :: r, m, x, h, hx => by
    rw [wfNs] at h
    rw [List.cons_append, wfNs]; exact ⟨h.1, wfNs.snoc h.2 hx⟩
theorem szs_map : ∀ (l : List DV) (m : Nat), (∀ x ∈ l, szJ m (toJ x)) → szJs m (l.map toJ)
  | [], _, _ => by rw [List.map_nil, szJs]; trivial
  | x :: r, m, h => by rw [List.map_cons, szJs]; exact ⟨h x (by simp), szs_map r m (fun y hy => h y (by simp [hy]))⟩
theorem lens_map : ∀ (l : List DV), (∀ x ∈ l, lenJ (toJ x)) → lenJs (l.map toJ)
  | [], _ => by rw [List.map_nil, lenJs]; trivial
  | x :: r, h => by rw [List.map_cons, lenJs]; exact ⟨h x (by simp), lens_map r (fun y hy => h y (by simp [hy]))⟩
theorem wfNs.mem {l : List DV} {m : Nat} {x : DV} (h : wfNs m l) (hx : x ∈ l) : wfN m x := by
  obtain ⟨i, hi⟩ := List.getElem?_of_mem hx
  exact h.get hi
theorem sz_toJ : ∀ (N : Nat) (x : DV), dsz x ≤ N → ∀ m, wfN m x → szJ m (toJ x) ∧ lenJ (toJ x)
  | 0, .mk .., h, _, _ => by rw [dsz] at h; omega
  | N + 1, .mk k b n s items names, h, m, hw => by
    have IH := sz_toJ N
    rw [dsz] at h
    rw [wfN] at hw
    have hI : k = 4 ∨ k = 5 → ∀ x ∈ items, szJ m (toJ x) ∧ lenJ (toJ x) := fun hk x hx => by
      obtain ⟨i, hi⟩ := List.getElem?_of_mem hx
      exact IH x (by have := dsz_get hi; omega) m ((hw.2.2.2 hk).mem hx)
    rw [toJ_eq]
    split
    · rw [szJ, lenJ]; simp
    split
    · rw [szJ, lenJ]; simp
    split
    · rw [szJ, lenJ]; simp
    split
    · rw [szJ, lenJ]; exact ⟨hw.1, trivial⟩
    split
    · rename_i hk
      rw [szJ, lenJ, List.length_map]
      exact ⟨⟨hw.2.1, szs_map _ _ fun x hx => (hI (.inl hk) x hx).1⟩, lens_map _ fun x hx => (hI (.inl hk) x hx).2⟩
    split
    · rename_i hk
      rw [szJ, lenJ, List.length_map]
      exact ⟨⟨hw.2.1, (hw.2.2.1 hk).2, szs_map _ _ fun x hx => (hI (.inr hk) x hx).1⟩, (hw.2.2.1 hk).1, lens_map _ fun x hx => (hI (.inr hk) x hx).2⟩
    · rw [szJ, lenJ]; simp
/-! ### Depth -/
/-! ### What becomes of the document's values -/
/-! ### All paths -/
end Go.Proofs.YtfmadoeadmclbaaGreatDoor
namespace Go.Proofs.YtfmadoeadmclbaaGreatDoor
open Go.RowKit Go.TL

mutual
theorem same_refl : ∀ (x : J), okJ x → sameJ x x = true
  | .null, _ => by rw [sameJ]
  | .bool _, _ => by rw [sameJ]; simp
  | .num _, _ => by rw [sameJ]; simp
  | .text _, _ => by rw [sameJ]; simp
  | .list xs, h => by
    rw [okJ] at h
    rw [sameJ, sames_refl xs h]; simp
  | .obj ns xs, h => by
    rw [okJ] at h
    rw [sameJ, sameo_refl ns xs h.1 h.2.2.2]; simp
  | .other _, h => by rw [okJ] at h; exact h.elim
theorem sames_refl : ∀ (l : List J), okJs l → sames l l = true
  | [], _ => by rw [sames]; intros; simp_all
  | x :: r, h => by
    rw [okJs] at h
    rw [sames, same_refl x h.1, sames_refl r h.2]; rfl
theorem sameo_refl : ∀ (ns : List (List UInt8)) (l : List J), ns.length = l.length → okJs l → sameo ns l ns l = true
  | ns, [], hn, _ => by
    obtain rfl : ns = [] := List.eq_nil_of_length_eq_zero hn
    rw [sameo]; intros; simp_all
  | [], _ :: _, hn, _ => by simp at hn
  | n :: ns, x :: r, hn, h => by
    rw [okJs] at h
    rw [sameo, same_refl x h.1, sameo_refl ns r (by simpa using hn) h.2]; simp
end
theorem Same_refl {x : J} (hl : lenJ x) (h : lookJ x 0 = 0) : SameJ x x = true := by
  unfold SameJ
  rw [h, same_refl x (ok_of_look x 0 h hl).1]; rfl
end Go.Proofs.YtfmadoeadmclbaaGreatDoor
namespace Go.Proofs.YtfmadoeadmclbaaGreatDoor
open Go.RowKit

mutual
theorem m_cnt : ∀ (x : DV) (l : Int), 0 ≤ cnt x l → (mJ (toJ x) : Int) + 2000 + 4000 * cnt x l ≤ 4000 * l
  | .mk k b n s items names, l, h => by
    rw [cnt] at h ⊢
    split at h
    · omega
    rename_i hno
    rw [if_neg hno, toJ_eq]
    have h1 := ms_cnts (decide (k = 5)) names items (l - 1)
    by_cases k0 : k = 0
    · rw [if_pos k0, if_neg (by omega), mJ]; omega
    rw [if_neg k0]
    by_cases k1 : k = 1
    · rw [if_pos k1, if_neg (by omega), mJ]; omega
    rw [if_neg k1]
    by_cases k2 : k = 2
    · rw [if_pos k2, if_neg (by omega), mJ]; omega
    rw [if_neg k2]
    by_cases k3 : k = 3
    · rw [if_pos k3, if_neg (by omega), mJ]; omega
    rw [if_neg k3]
    by_cases k4 : k = 4
    · rw [if_pos (show k = 4 ∨ k = 5 from .inl k4)] at h ⊢
      rw [if_pos k4, mJ]
      have := (h1 h).1 (by simp; omega)
      omega
    rw [if_neg k4]
    by_cases k5 : k = 5
    · rw [if_pos (show k = 4 ∨ k = 5 from .inr k5)] at h ⊢
      rw [if_pos k5, mJ]
      have := (h1 h).2 (by simp [k5])
      omega
    rw [if_neg k5, if_neg (by omega), mJ]; omega
theorem ms_cnts (o : Bool) : ∀ (ns : List (List UInt8)) (r : List DV) (m : Int), 0 ≤ cnts o ns r m → (o = false → (mJs (r.map toJ) : Int) + 4000 * cnts o ns r m ≤ 4000 * m) ∧ (o = true → (mJm ns (r.map toJ) : Int) + 4000 * cnts o ns r m ≤ 4000 * m)
  | ns, [], m, _ => by
    rw [List.map_nil, mJs, mJm, cnts]
    exact ⟨fun _ => by omega, fun _ => by omega⟩
  | ns, x :: r, m, h => by
    rw [cnts] at h ⊢
    split at h
    · omega
    rename_i h1
    split at h
    · omega
    rename_i h2
    rw [if_neg h1, if_neg h2, List.map_cons, mJs, mJm]
    have a := m_cnt x m (by omega)
    have b := ms_cnts o ns.tail r (cnt x m) h
    refine ⟨fun ho => ?_, fun ho => ?_⟩
    · have := b.1 ho
      omega
    · have := b.2 ho
      have h3 : ¬ 300 < (ns.headD []).length := fun e => h1 ⟨ho, e⟩
      omega
end
theorem m_light {x : DV} (h : lightB x = true) : mJ (toJ x) ≤ 1200000 := by
  have h0 : 0 ≤ cnt x 300 := of_decide_eq_true h
  have := m_cnt x 300 h0
  omega
theorem jparse_err {s : List UInt8} {k : Nat} (h : jparse s = .error k) : k ≠ 0 := by
  unfold jparse at h
  split at h
  · injection h with h; omega
  · cases h1 : valT 32 s with
    | error e =>
      rw [h1] at h
      injection h with h
      subst h
      exact valT_err 32 _ _ h1
    | ok p =>
      obtain ⟨y, r⟩ := p
      rw [h1] at h
      dsimp only at h
      split at h
      · cases h
      · injection h with h; omega
theorem ok_zero {x : J} (h : lookJ x 0 = 0) (hl : lenJ x) : okJ x ∧ depJ x ≤ 32 := by
  obtain ⟨a, b⟩ := ok_of_look x 0 h hl
  exact ⟨a, by omega⟩
end Go.Proofs.YtfmadoeadmclbaaGreatDoor
