/-
  The walk of the document's Print.
-/
import Derived.Test.YtfmadoeadmclbaaGreatDoorHp41
import Derived.Test.YtfmadoeadmclbaaGreatDoorHp42
import Derived.Test.YtfmadoeadmclbaaGreatDoorHp28
namespace Go.Proofs.YtfmadoeadmclbaaGreatDoor
open Go.RowKit Go.TL
set_option maxRecDepth 100000

theorem join_step {c : UInt8} {xs : List J} {i : Nat} {x : J} (h : xs[i]? = some x) : (prJs c (xs.take (i + 1))).drop 1 = if i = 0 then prJ x else (prJs c (xs.take i)).drop 1 ++ [44] ++ prJ x := by
  have hi := (List.getElem?_eq_some_iff.1 h).1
  rw [prJs_take h]
  unfold sepB
  by_cases h0 : i = 0
  · subst h0
    rw [if_pos rfl, List.take_zero, prJs]; rfl
  · rw [if_neg h0, if_neg h0]
    have : 1 ≤ (prJs c (xs.take i)).length := by
      cases hx : xs.take i with
      | nil =>
        have := congrArg List.length hx
        rw [List.length_take, List.length_nil] at this; omega
      | cons y r => rw [prJs, List.length_cons]; omega
    rw [List.drop_append_of_le_length this]
    simp
theorem joinm_step {c : UInt8} {ns : List (List UInt8)} {xs : List J} {i : Nat} {nm : List UInt8} {x : J} (h1 : ns[i]? = some nm) (h : xs[i]? = some x) : (prMs c ns (xs.take (i + 1))).drop 1 = if i = 0 then quo nm ++ [58] ++ prJ x else (prMs c ns (xs.take i)).drop 1 ++ [44] ++ (quo nm ++ [58]) ++ prJ x := by
  have hi := (List.getElem?_eq_some_iff.1 h).1
  rw [prMs_take h1 h]
  unfold sepB
  by_cases h0 : i = 0
  · subst h0
    rw [if_pos rfl, List.take_zero, prMs]; simp
  · rw [if_neg h0, if_neg h0]
    have : 1 ≤ (prMs c ns (xs.take i)).length := by
      cases hx : xs.take i with
      | nil =>
        have := congrArg List.length hx
        rw [List.length_take, List.length_nil] at this; omega
      | cons y r => rw [prMs, List.length_cons]; omega
    rw [List.drop_append_of_le_length this]
    simp
theorem join_end (xs : List J) : prJ (.list xs) = [91] ++ (prJs 91 xs).drop 1 ++ [93] := by
  rw [prJ]
  unfold endL
  cases xs with
  | nil => rw [prJs]; rfl
  | cons x r => rw [prJs, List.isEmpty_cons, if_neg (by decide)]; simp
theorem joinm_end (ns : List (List UInt8)) (xs : List J) : prJ (.obj ns xs) = [123] ++ (prMs 123 ns xs).drop 1 ++ [125] := by
  rw [prJ]
  unfold endL
  cases xs with
  | nil => rw [prMs]; rfl
  | cons x r => rw [prMs, List.isEmpty_cons, if_neg (by decide)]; simp
set_option maxHeartbeats 64000000 in
theorem rPrint4_gives : ∀ (N : Nat) (x : DV), dsz x ≤ N → ∀ (cs : List Value) (g : Gh) (L : List Ent), IsV g x cs → wfV x → okJ (toJ x) → mJ (toJ x) ≤ 4000000 → Gives Tryz.prog 18 #[.agg cs.toArray] g L (str (prJ (toJ x)))
  | 0, .mk .., h, _, _, _, _, _, _, _ => by rw [dsz] at h; omega
  | N + 1, .mk k b n s items names, hN, cs, g, L, hV, hW, hk, hm => by
    have IH := rPrint4_gives N
    rw [dsz] at hN
    rw [IsV] at hV
    rw [wfV] at hW
    obtain ⟨vi, vn, flat, rfl, _, hnb, _, hS, hil, hI, hSn, hnl, _⟩ := hV
    obtain ⟨ai, ci, rfl⟩ := hS.slice
    obtain ⟨an, cn, rfl⟩ := hSn.slice
    obtain ⟨w1, w2, w3, w4⟩ := hW
    refine .of (Does.of1 Tryz.func18 rfl Tryz.ntmps18 rfl ?_)
    have hkn := kn_kind (kn_ok _ hk)
    rcases hkn with rfl | rfl | rfl | rfl | ⟨rfl, _⟩ | ⟨rfl, _⟩
    · rw [toJ_0, prJ]
      clear hS hI hSn IH w3 w4 hk hm
      repeat' (first
    | ((with_reducible apply TL.pure); (· exact yQ); (· rfl))
    | ((with_reducible apply TL.pure); (· exact yV); (· rfl)) | ((with_reducible apply TW.pure); (· exact yV); (· rfl))
    | ((with_reducible apply TL.pure); (· exact yM); (· rfl)) | ((with_reducible apply TW.pure); (· exact yM); (· rfl))
    | refine stS ?_ | (refine stB ?_; intro _) | (refine stC ?_; refine And.intro (fun _ => ?_) (fun _ => ?_)))
      refine TQ.endR1 (L' := L) Tryz.results18 rvA rfl (.refl _) ?_ selF
      exact ⟨rfl, rfl, rfl⟩
    · rw [toJ_1, prJ]
      clear hS hI hSn IH w3 w4 hk hm
      cases b with
      | true =>
        repeat' (first
    | ((with_reducible apply TL.pure); (· exact yQ); (· rfl))
    | ((with_reducible apply TL.pure); (· exact yV); (· rfl)) | ((with_reducible apply TW.pure); (· exact yV); (· rfl))
    | ((with_reducible apply TL.pure); (· exact yM); (· rfl)) | ((with_reducible apply TW.pure); (· exact yM); (· rfl))
    | refine stS ?_ | (refine stB ?_; intro _) | (refine stC ?_; refine And.intro (fun _ => ?_) (fun _ => ?_)))
        refine TQ.endR1 (L' := L) Tryz.results18 rvA rfl (.refl _) ?_ selF
        exact ⟨rfl, rfl, rfl⟩
      | false =>
        repeat' (first
    | ((with_reducible apply TL.pure); (· exact yQ); (· rfl))
    | ((with_reducible apply TL.pure); (· exact yV); (· rfl)) | ((with_reducible apply TW.pure); (· exact yV); (· rfl))
    | ((with_reducible apply TL.pure); (· exact yM); (· rfl)) | ((with_reducible apply TW.pure); (· exact yM); (· rfl))
    | refine stS ?_ | (refine stB ?_; intro _) | (refine stC ?_; refine And.intro (fun _ => ?_) (fun _ => ?_)))
        refine TQ.endR1 (L' := L) Tryz.results18 rvA rfl (.refl _) ?_ selF
        exact ⟨rfl, rfl, rfl⟩
    · rw [toJ_2, prJ]
      have A := fun L => rPrint_gives n g L hnb.1 hnb.2
      clear hS hI hSn IH w3 w4 hk hm
      repeat' (first
    | ((with_reducible apply TL.pure); (· exact yQ); (· rfl))
    | ((with_reducible apply TL.pure); (· exact yV); (· rfl)) | ((with_reducible apply TW.pure); (· exact yV); (· rfl))
    | ((with_reducible apply TL.pure); (· exact yM); (· rfl)) | ((with_reducible apply TW.pure); (· exact yM); (· rfl))
    | ((with_reducible apply TL.gives_plain); (· kernel_rfl); (· rfl); (· exact A _); (· rfl)) | ((with_reducible apply TW.gives_plain); (· kernel_rfl); (· rfl); (· exact A _); (· rfl))
    | refine stS ?_ | (refine stB ?_; intro _) | (refine stC ?_; refine And.intro (fun _ => ?_) (fun _ => ?_)))
      refine TQ.endR1 (L' := L) Tryz.results18 rvA rfl (.refl _) ?_ selF
      exact ⟨rfl, rfl, rfl⟩
    · rw [toJ_3, prJ]
      have A := fun L => rQuote_gives s g L (by omega)
      clear hS hI hSn IH w3 w4 hk hm
      repeat' (first
    | ((with_reducible apply TL.pure); (· exact yQ); (· rfl))
    | ((with_reducible apply TL.pure); (· exact yV); (· rfl)) | ((with_reducible apply TW.pure); (· exact yV); (· rfl))
    | ((with_reducible apply TL.pure); (· exact yM); (· rfl)) | ((with_reducible apply TW.pure); (· exact yM); (· rfl))
    | ((with_reducible apply TL.gives_plain); (· kernel_rfl); (· rfl); (· exact A _); (· rfl)) | ((with_reducible apply TW.gives_plain); (· kernel_rfl); (· rfl); (· exact A _); (· rfl))
    | refine stS ?_ | (refine stB ?_; intro _) | (refine stC ?_; refine And.intro (fun _ => ?_) (fun _ => ?_)))
      refine TQ.endR1 (L' := L) Tryz.results18 rvA rfl (.refl _) ?_ selF
      exact ⟨rfl, rfl, rfl⟩
    · rw [toJ_4] at hk hm ⊢
      rw [okJ] at hk
      rw [mJ] at hm
      obtain ⟨R, hR⟩ : ∃ R, R = prJ (.list (items.map toJ)) := ⟨_, rfl⟩
      rw [← hR]
      rw [join_end] at hR
      have HR := Hn.mk hR
      clear hR hSn w3
      repeat' (first
    | ((with_reducible apply TL.pure); (· exact yQ); (· rfl))
    | ((with_reducible apply TL.pure); (· exact yV); (· rfl)) | ((with_reducible apply TW.pure); (· exact yV); (· rfl))
    | ((with_reducible apply TL.pure); (· exact yM); (· rfl)) | ((with_reducible apply TW.pure); (· exact yM); (· rfl))
    | refine stS ?_ | (refine stB ?_; intro _) | (refine stC ?_; refine And.intro (fun _ => ?_) (fun _ => ?_)))
      rename_i b1
      refine TC.loopL (α := Nat × List UInt8) (fun z => z.1 ≤ items.length ∧ z.2 = (prJs 91 ((items.map toJ).take z.1)).drop 1) (fun z => items.length - z.1) (fun z _ => [(6, .int .i64 (z.1 : Nat)), (5, str z.2), (1, .pointer (some ⟨b1, 0, none⟩))]) (fun _ => .obj b1 (.cells [.int .i64 4, .bool b, .int .i64 n, str s, .slice ai items.length ci, .slice an names.length cn].toArray 29 (0, 0)) :: L) (0, []) ⟨Nat.zero_le _, by rw [List.take_zero, prJs]; rfl⟩ subA selF ?_
      rintro ⟨i, acc⟩ ⟨hi, hacc⟩
      dsimp only at hi hacc ⊢
      have hal : acc.length ≤ mJs ((items.map toJ).take i) := by
        have := prJs_len 91 ((items.map toJ).take i)
        rw [hacc, List.length_drop]; omega
      by_cases hlt : i < items.length
      · obtain ⟨y, hy⟩ : ∃ y, items[i]? = some y := ⟨_, List.getElem?_eq_getElem hlt⟩
        have hyj : (items.map toJ)[i]? = some (toJ y) := by rw [List.getElem?_map, hy]; rfl
        obtain ⟨c1, hV1, hcl1, hfl1⟩ := hI.get hy
        obtain ⟨b7, o7, rfl, hg7⟩ := hS.elem hlt (by decide)
        have hld1 : ∀ j u, c1[j]? = some u → g.cell b7 (o7 + i * 6 + j) = some u := fun j u hu => hg7 j u (hfl1 j u hu)
        have hsz := dsz_get hy
        have hmx := mJs_at hyj
        have hpl := prJ_len (toJ y)
        have A := fun L => IH y (by omega) c1 g L hV1 ((w4 (.inl rfl)).get hy) (okJs_get hk hyj) (by omega)
        have hst := join_step (c := 91) hyj
        rw [← hacc] at hst
        generalize prJ (toJ y) = p at *
        clear hS hI IH w4 hg7 hfl1 hV1 hk hacc
        by_cases h0 : i = 0
        · rw [if_pos h0] at hst
          obtain rfl : acc = [] := by
            rw [h0, List.take_zero, mJs] at hal
            exact List.eq_nil_of_length_eq_zero (by omega)
          have HI := Hn.mk (show ¬ (0 : Int) < (i : Nat) by omega)
          have HS := Hn.mk hst.symm
          clear hst
          repeat' (first
    | ((with_reducible apply TL.pure); (· exact yQ); (· rfl))
    | ((with_reducible apply TL.pure); (· exact yV); (· rfl)) | ((with_reducible apply TW.pure); (· exact yV); (· rfl))
    | ((with_reducible apply TL.pure); (· exact yM); (· rfl)) | ((with_reducible apply TW.pure); (· exact yM); (· rfl))
    | ((with_reducible apply TL.gives_plain); (· kernel_rfl); (· rfl); (· exact A _); (· rfl)) | ((with_reducible apply TW.gives_plain); (· kernel_rfl); (· rfl); (· exact A _); (· rfl))
    | refine stS ?_ | (refine stB ?_; intro _) | (refine stC ?_; refine And.intro (fun _ => ?_) (fun _ => ?_)))
          refine TQ.round (i + 1, [] ++ p) ?_ ?_ rfl subA selF
          · exact ⟨by dsimp only; omega, HS.out⟩
          · show items.length - (i + 1) < items.length - i
            omega
        · rw [if_neg h0] at hst
          have HI := Hn.mk (show (0 : Int) < (i : Nat) by omega)
          have HS := Hn.mk hst.symm
          clear hst
          repeat' (first
    | ((with_reducible apply TL.pure); (· exact yQ); (· rfl))
    | ((with_reducible apply TL.pure); (· exact yV); (· rfl)) | ((with_reducible apply TW.pure); (· exact yV); (· rfl))
    | ((with_reducible apply TL.pure); (· exact yM); (· rfl)) | ((with_reducible apply TW.pure); (· exact yM); (· rfl))
    | ((with_reducible apply TL.gives_plain); (· kernel_rfl); (· rfl); (· exact A _); (· rfl)) | ((with_reducible apply TW.gives_plain); (· kernel_rfl); (· rfl); (· exact A _); (· rfl))
    | refine stS ?_ | (refine stB ?_; intro _) | (refine stC ?_; refine And.intro (fun _ => ?_) (fun _ => ?_)))
          refine TQ.round (i + 1, acc ++ [44] ++ p) ?_ ?_ rfl subA selF
          · exact ⟨by dsimp only; omega, HS.out⟩
          · show items.length - (i + 1) < items.length - i
            omega
      · obtain rfl : i = items.length := by omega
        rw [List.take_of_length_le (by rw [List.length_map]; omega)] at hacc hal
        obtain rfl : R = [91] ++ acc ++ [93] := by rw [HR.out, hacc]
        clear hS hI IH w4 hk HR hacc
        repeat' (first
    | ((with_reducible apply TL.pure); (· exact yQ); (· rfl))
    | ((with_reducible apply TL.pure); (· exact yV); (· rfl)) | ((with_reducible apply TW.pure); (· exact yV); (· rfl))
    | ((with_reducible apply TL.pure); (· exact yM); (· rfl)) | ((with_reducible apply TW.pure); (· exact yM); (· rfl))
    | refine stS ?_ | (refine stB ?_; intro _) | (refine stC ?_; refine And.intro (fun _ => ?_) (fun _ => ?_)))
        refine TQ.endR1 (L' := L) Tryz.results18 rvA rfl (.refl _) ?_ selF
        exact ⟨rfl, rfl, rfl⟩
    · rw [toJ_5] at hk hm ⊢
      rw [okJ] at hk
      obtain ⟨_, _, _, hk⟩ := hk
      rw [mJ] at hm
      obtain ⟨wn, wl⟩ := w3 rfl
      obtain ⟨R, hR⟩ : ∃ R, R = prJ (.obj names (items.map toJ)) := ⟨_, rfl⟩
      rw [← hR]
      rw [joinm_end] at hR
      have HR := Hn.mk hR
      clear hR w3
      repeat' (first
    | ((with_reducible apply TL.pure); (· exact yQ); (· rfl))
    | ((with_reducible apply TL.pure); (· exact yV); (· rfl)) | ((with_reducible apply TW.pure); (· exact yV); (· rfl))
    | ((with_reducible apply TL.pure); (· exact yM); (· rfl)) | ((with_reducible apply TW.pure); (· exact yM); (· rfl))
    | refine stS ?_ | (refine stB ?_; intro _) | (refine stC ?_; refine And.intro (fun _ => ?_) (fun _ => ?_)))
      rename_i b1
      refine TC.loopL (α := Nat × List UInt8) (fun z => z.1 ≤ items.length ∧ z.2 = (prMs 123 names ((items.map toJ).take z.1)).drop 1) (fun z => items.length - z.1) (fun z _ => [(6, .int .i64 (z.1 : Nat)), (5, str z.2), (1, .pointer (some ⟨b1, 0, none⟩))]) (fun _ => .obj b1 (.cells [.int .i64 5, .bool b, .int .i64 n, str s, .slice ai items.length ci, .slice an names.length cn].toArray 29 (0, 0)) :: L) (0, []) ⟨Nat.zero_le _, by rw [List.take_zero, prMs]; rfl⟩ subA selF ?_
      rintro ⟨i, acc⟩ ⟨hi, hacc⟩
      dsimp only at hi hacc ⊢
      have hal : acc.length ≤ mJm names ((items.map toJ).take i) := by
        have := prMs_len 123 names ((items.map toJ).take i)
        rw [hacc, List.length_drop]; omega
      by_cases hlt : i < items.length
      · obtain ⟨y, hy⟩ : ∃ y, items[i]? = some y := ⟨_, List.getElem?_eq_getElem hlt⟩
        obtain ⟨nm, hnm⟩ : ∃ nm, names[i]? = some nm := ⟨_, List.getElem?_eq_getElem (by omega)⟩
        have hyj : (items.map toJ)[i]? = some (toJ y) := by rw [List.getElem?_map, hy]; rfl
        obtain ⟨c1, hV1, hcl1, hfl1⟩ := hI.get hy
        obtain ⟨b7, o7, rfl, hg7⟩ := hS.elem hlt (by decide)
        obtain ⟨b9, o9, rfl, hg9⟩ := hSn.elem (i := i) (by omega) (by decide)
        have hld1 : ∀ j u, c1[j]? = some u → g.cell b7 (o7 + i * 6 + j) = some u := fun j u hu => hg7 j u (hfl1 j u hu)
        have hld2 : g.cell b9 (o9 + i * 1) = some (str nm) := hg9 0 _ (by rw [Nat.mul_one]; exact strs_get hnm)
        have hsz := dsz_get hy
        have hmx := mJm_at hnm hyj
        have hpl := prJ_len (toJ y)
        have hql := quo_len nm
        have A := fun L => IH y (by omega) c1 g L hV1 ((w4 (.inr rfl)).get hy) (okJs_get hk hyj) (by omega)
        have Q := fun L => rQuote_gives nm g L (by have := wl nm (List.mem_of_getElem? hnm); omega)
        have hst := joinm_step (c := 123) hnm hyj
        rw [← hacc] at hst
        generalize prJ (toJ y) = p at *
        generalize quo nm = q at *
        clear hS hI IH w4 hg7 hfl1 hV1 hk hacc hSn hg9 wl
        by_cases h0 : i = 0
        · rw [if_pos h0] at hst
          obtain rfl : acc = [] := by
            rw [h0, List.take_zero, mJm] at hal
            exact List.eq_nil_of_length_eq_zero (by omega)
          have HI := Hn.mk (show ¬ (0 : Int) < (i : Nat) by omega)
          have HS := Hn.mk hst.symm
          clear hst
          repeat' (first
    | ((with_reducible apply TL.pure); (· exact yQ); (· rfl))
    | ((with_reducible apply TL.pure); (· exact yV); (· rfl)) | ((with_reducible apply TW.pure); (· exact yV); (· rfl))
    | ((with_reducible apply TL.pure); (· exact yM); (· rfl)) | ((with_reducible apply TW.pure); (· exact yM); (· rfl))
    | ((with_reducible apply TL.gives_plain); (· kernel_rfl); (· rfl); (· exact A _); (· rfl)) | ((with_reducible apply TW.gives_plain); (· kernel_rfl); (· rfl); (· exact A _); (· rfl))
    | ((with_reducible apply TL.gives_plain); (· kernel_rfl); (· rfl); (· exact Q _); (· rfl)) | ((with_reducible apply TW.gives_plain); (· kernel_rfl); (· rfl); (· exact Q _); (· rfl))
    | refine stS ?_ | (refine stB ?_; intro _) | (refine stC ?_; refine And.intro (fun _ => ?_) (fun _ => ?_)))
          refine TQ.round (i + 1, [] ++ (q ++ [58]) ++ p) ?_ ?_ rfl subA selF
          · exact ⟨by dsimp only; omega, HS.out⟩
          · show items.length - (i + 1) < items.length - i
            omega
        · rw [if_neg h0] at hst
          have HI := Hn.mk (show (0 : Int) < (i : Nat) by omega)
          have HS := Hn.mk hst.symm
          clear hst
          repeat' (first
    | ((with_reducible apply TL.pure); (· exact yQ); (· rfl))
    | ((with_reducible apply TL.pure); (· exact yV); (· rfl)) | ((with_reducible apply TW.pure); (· exact yV); (· rfl))
    | ((with_reducible apply TL.pure); (· exact yM); (· rfl)) | ((with_reducible apply TW.pure); (· exact yM); (· rfl))
    | ((with_reducible apply TL.gives_plain); (· kernel_rfl); (· rfl); (· exact A _); (· rfl)) | ((with_reducible apply TW.gives_plain); (· kernel_rfl); (· rfl); (· exact A _); (· rfl))
    | ((with_reducible apply TL.gives_plain); (· kernel_rfl); (· rfl); (· exact Q _); (· rfl)) | ((with_reducible apply TW.gives_plain); (· kernel_rfl); (· rfl); (· exact Q _); (· rfl))
    | refine stS ?_ | (refine stB ?_; intro _) | (refine stC ?_; refine And.intro (fun _ => ?_) (fun _ => ?_)))
          refine TQ.round (i + 1, acc ++ [44] ++ (q ++ [58]) ++ p) ?_ ?_ rfl subA selF
          · exact ⟨by dsimp only; omega, HS.out⟩
          · show items.length - (i + 1) < items.length - i
            omega
      · obtain rfl : i = items.length := by omega
        rw [List.take_of_length_le (by rw [List.length_map]; omega)] at hacc hal
        obtain rfl : R = [123] ++ acc ++ [125] := by rw [HR.out, hacc]
        clear hS hI IH w4 hk HR hacc hSn wl
        repeat' (first
    | ((with_reducible apply TL.pure); (· exact yQ); (· rfl))
    | ((with_reducible apply TL.pure); (· exact yV); (· rfl)) | ((with_reducible apply TW.pure); (· exact yV); (· rfl))
    | ((with_reducible apply TL.pure); (· exact yM); (· rfl)) | ((with_reducible apply TW.pure); (· exact yM); (· rfl))
    | refine stS ?_ | (refine stB ?_; intro _) | (refine stC ?_; refine And.intro (fun _ => ?_) (fun _ => ?_)))
        refine TQ.endR1 (L' := L) Tryz.results18 rvA rfl (.refl _) ?_ selF
        exact ⟨rfl, rfl, rfl⟩
end Go.Proofs.YtfmadoeadmclbaaGreatDoor
