/-
  Rows of the document's values: longer, shorter, one of them another. Values alike, the document's way and the program's. The walk of the document's Print.
-/
import Derived.Test.YtfmadoeadmclbaaGreatDoorHb5
import Derived.Test.YtfmadoeadmclbaaGreatDoorHb13
import Derived.Test.YtfmadoeadmclbaaGreatDoorHb32
import Derived.Test.YtfmadoeadmclbaaGreatDoorHb12
import Derived.Test.YtfmadoeadmclbaaGreatDoorHb40
import Derived.Test.YtfmadoeadmclbaaGreatDoorHb43
import Derived.Test.YtfmadoeadmclbaaGreatDoorHb44
import Derived.Test.YtfmadoeadmclbaaGreatDoorHb29
namespace Go.Proofs.YtfmadoeadmclbaaGreatDoor
open Go.RowKit Go.TL
set_option maxRecDepth 100000

theorem IsV.ones {g : Gh} {x : DV} {cs : List Value} (h : IsV g x cs) : cs.all Value.one = true := by
  obtain ⟨k, b, n, s, items, names⟩ := x
  rw [IsV] at h
  obtain ⟨vi, vn, flat, rfl, _, _, _, h1, _, _, h2, _⟩ := h
  obtain ⟨a, c, rfl⟩ := h1.slice
  obtain ⟨a2, c2, rfl⟩ := h2.slice
  rfl
theorem IsVs.len {g : Gh} : ∀ {l : List DV} {flat : List Value}, IsVs g l flat → flat.length = l.length * 6
  | [], _, h => by rw [IsVs] at h; subst h; rfl
  | x :: r, _, h => by
    rw [IsVs] at h
    obtain ⟨cs, fl, rfl, h1, h2⟩ := h
    rw [List.length_append, h1.len, h2.len, List.length_cons]; omega
theorem IsVs.ones {g : Gh} : ∀ {l : List DV} {flat : List Value}, IsVs g l flat → flat.all Value.one = true
  | [], _, h => by rw [IsVs] at h; subst h; rfl
  | x :: r, _, h => by
    rw [IsVs] at h
    obtain ⟨cs, fl, rfl, h1, h2⟩ := h
    rw [List.all_append, h1.ones, h2.ones]; rfl
theorem IsVs.append {g : Gh} {m : List DV} {fm : List Value} (hm : IsVs g m fm) : ∀ {l : List DV} {flat : List Value}, IsVs g l flat → IsVs g (l ++ m) (flat ++ fm)
  | [], _, h => by rw [IsVs] at h; subst h; exact hm
  | x :: r, _, h => by
    rw [IsVs] at h
    obtain ⟨cs, fl, rfl, h1, h2⟩ := h
    rw [List.cons_append, IsVs]
    exact ⟨cs, fl ++ fm, List.append_assoc .., h1, IsVs.append hm h2⟩
theorem IsVs.one {g : Gh} {x : DV} {cs : List Value} (h : IsV g x cs) : IsVs g [x] cs := by
  rw [IsVs]; exact ⟨cs, [], (List.append_nil _).symm, h, by rw [IsVs]⟩
theorem IsVs.take {g : Gh} : ∀ {l : List DV} {flat : List Value} (i : Nat), IsVs g l flat → IsVs g (l.take i) (flat.take (i * 6))
  | [], _, i, h => by rw [IsVs] at h; subst h; rw [List.take_nil, List.take_nil, IsVs]
  | x :: r, _, 0, h => by rw [Nat.zero_mul, List.take_zero, List.take_zero, IsVs]
  | x :: r, _, i + 1, h => by
    rw [IsVs] at h
    obtain ⟨cs, fl, rfl, h1, h2⟩ := h
    have hl := h1.len
    rw [List.take_succ_cons, IsVs]
    refine ⟨cs, fl.take (i * 6), ?_, h1, IsVs.take i h2⟩
    rw [List.take_append, List.take_of_length_le (by omega), show (i + 1) * 6 - cs.length = i * 6 by omega]
theorem IsVs.drop {g : Gh} : ∀ {l : List DV} {flat : List Value} (i : Nat), IsVs g l flat → IsVs g (l.drop i) (flat.drop (i * 6))
  | [], _, i, h => by rw [IsVs] at h; subst h; rw [List.drop_nil, List.drop_nil, IsVs]
  | x :: r, _, 0, h => by rw [Nat.zero_mul, List.drop_zero, List.drop_zero]; exact h
  | x :: r, _, i + 1, h => by
    rw [IsVs] at h
    obtain ⟨cs, fl, rfl, h1, h2⟩ := h
    have hl := h1.len
    rw [List.drop_succ_cons, List.drop_append, List.drop_eq_nil_of_le (show cs.length ≤ (i + 1) * 6 by omega), List.nil_append, show (i + 1) * 6 - cs.length = i * 6 by omega]
    exact IsVs.drop i h2
theorem IsVs.set {g : Gh} {l : List DV} {flat : List Value} {i : Nat} {y : DV} {us : List Value} (h : IsVs g l flat) (hy : IsV g y us) (hi : i < l.length) : IsVs g (l.set i y) (flat.take (i * 6) ++ (us ++ flat.drop (i * 6 + 6))) := by
  rw [List.set_eq_take_append_cons_drop, if_pos hi]
  refine .append ?_ (h.take i)
  have h2 := h.drop (i + 1)
  rw [show (i + 1) * 6 = i * 6 + 6 by omega] at h2
  exact .append h2 (.one hy)
theorem IsV.form {g : Gh} {x : DV} {cs : List Value} (h : IsV g x cs) : ∃ k b n s ai ni ci an nn cn, cs = [.int .i64 k, .bool b, .int .i64 n, str s, .slice ai ni ci, .slice an nn cn] := by
  obtain ⟨k, b, n, s, items, names⟩ := x
  rw [IsV] at h
  obtain ⟨vi, vn, flat, rfl, _, _, _, h1, _, _, h2, _⟩ := h
  obtain ⟨a, c, rfl⟩ := h1.slice
  obtain ⟨a2, c2, rfl⟩ := h2.slice
  exact ⟨_, _, _, _, _, _, _, _, _, _, rfl⟩
end Go.Proofs.YtfmadoeadmclbaaGreatDoor
namespace Go.Proofs.YtfmadoeadmclbaaGreatDoor
open Go.RowKit

theorem kn_kind {k : Int} {b : Bool} {n : Int} {s : List UInt8} {items : List DV} {names : List (List UInt8)} (h : knJ (toJ (.mk k b n s items names))) : k = 0 ∨ k = 1 ∨ k = 2 ∨ k = 3 ∨ (k = 4 ∧ knJs (items.map toJ)) ∨ (k = 5 ∧ knJs (items.map toJ)) := by
  rw [toJ_eq] at h
  by_cases k0 : k = 0
  · exact .inl k0
  rw [if_neg k0] at h
  by_cases k1 : k = 1
  · exact .inr (.inl k1)
  rw [if_neg k1] at h
  by_cases k2 : k = 2
  · exact .inr (.inr (.inl k2))
  rw [if_neg k2] at h
  by_cases k3 : k = 3
  · exact .inr (.inr (.inr (.inl k3)))
  rw [if_neg k3] at h
  by_cases k4 : k = 4
  · rw [if_pos k4, knJ] at h
    exact .inr (.inr (.inr (.inr (.inl ⟨k4, h⟩))))
  rw [if_neg k4] at h
  by_cases k5 : k = 5
  · rw [if_pos k5, knJ] at h
    exact .inr (.inr (.inr (.inr (.inr ⟨k5, h⟩))))
  rw [if_neg k5, knJ] at h
  exact h.elim
theorem toJ_0 (b : Bool) (n : Int) (s : List UInt8) (items : List DV) (names : List (List UInt8)) : toJ (.mk 0 b n s items names) = .null := by rw [toJ_eq]; rfl
theorem toJ_1 (b : Bool) (n : Int) (s : List UInt8) (items : List DV) (names : List (List UInt8)) : toJ (.mk 1 b n s items names) = .bool b := by rw [toJ_eq]; rfl
theorem toJ_2 (b : Bool) (n : Int) (s : List UInt8) (items : List DV) (names : List (List UInt8)) : toJ (.mk 2 b n s items names) = .num n := by rw [toJ_eq]; rfl
theorem toJ_3 (b : Bool) (n : Int) (s : List UInt8) (items : List DV) (names : List (List UInt8)) : toJ (.mk 3 b n s items names) = .text s := by rw [toJ_eq]; rfl
theorem toJ_4 (b : Bool) (n : Int) (s : List UInt8) (items : List DV) (names : List (List UInt8)) : toJ (.mk 4 b n s items names) = .list (items.map toJ) := by rw [toJ_eq]; rfl
theorem toJ_5 (b : Bool) (n : Int) (s : List UInt8) (items : List DV) (names : List (List UInt8)) : toJ (.mk 5 b n s items names) = .obj names (items.map toJ) := by rw [toJ_eq]; rfl
mutual
theorem kn_ok : ∀ (x : J), okJ x → knJ x
  | .null, _ => by rw [knJ]; trivial
  | .bool _, _ => by rw [knJ]; trivial
  | .num _, _ => by rw [knJ]; trivial
  | .text _, _ => by rw [knJ]; trivial
  | .list xs, h => by rw [okJ] at h; rw [knJ]; exact kn_oks xs h
  | .obj ns xs, h => by rw [okJ] at h; rw [knJ]; exact kn_oks xs h.2.2.2
  | .other _, h => by rw [okJ] at h; exact h.elim
theorem kn_oks : ∀ (l : List J), okJs l → knJs l
  | [], _ => by rw [knJs]; trivial
  | x :: r, h => by rw [okJs] at h; rw [knJs]; exact ⟨kn_ok x h.1, kn_oks r h.2⟩
end
end Go.Proofs.YtfmadoeadmclbaaGreatDoor
namespace Go.Proofs.YtfmadoeadmclbaaGreatDoor
open Go.RowKit Go.TL
set_option maxRecDepth 100000

theorem join_step {c : UInt8} {xs : List J} {i : Nat} {x : J} (h : xs[i]? = some x) : (prJs c (xs.take (i + 1))).drop 1 = if i = 0 then prJ x else (prJs c (xs.take i)).drop 1 ++ [44] ++ prJ x := by
  have hi := (List.getElem?_eq_some_iff.1 h).1
  rw [prJs_take h]
  unfold sepB
  by_cases h0 : i = 0
  · subst h0
    rw [if_pos rfl, List.take_zero, prJs]; rfl
  · rw [if_neg h0, if_neg h0]
    have : 1 ≤ (prJs c (xs.take i)).length := by
      cases hx : xs.take i with
      | nil =>
        have := congrArg List.length hx
        rw [List.length_take, List.length_nil] at this; omega
      | cons y r => rw [prJs, List.length_cons]; omega
    rw [List.drop_append_of_le_length this]
    simp
theorem joinm_step {c : UInt8} {ns : List (List UInt8)} {xs : List J} {i : Nat} {nm : List UInt8} {x : J} (h1 : ns[i]? = some nm) (h : xs[i]? = some x) : (prMs c ns (xs.take (i + 1))).drop 1 = if i = 0 then quo nm ++ [58] ++ prJ x else (prMs c ns (xs.take i)).drop 1 ++ [44] ++ (quo nm ++ [58]) ++ prJ x := by
  have hi := (List.getElem?_eq_some_iff.1 h).1
  rw [prMs_take h1 h]
  unfold sepB
  by_cases h0 : i = 0
  · subst h0
    rw [if_pos rfl, List.take_zero, prMs]; simp
  · rw [if_neg h0, if_neg h0]
    have : 1 ≤ (prMs c ns (xs.take i)).length := by
      cases hx : xs.take i with
      | nil =>
        have := congrArg List.length hx
        rw [List.length_take, List.length_nil] at this; omega
      | cons y r => rw [prMs, List.length_cons]; omega
    rw [List.drop_append_of_le_length this]
    simp
theorem join_end (xs : List J) : prJ (.list xs) = [91] ++ (prJs 91 xs).drop 1 ++ [93] := by
  rw [prJ]
  unfold endL
  cases xs with
  | nil => rw [prJs]; rfl
  | cons x r => rw [prJs, List.isEmpty_cons, if_neg (by decide)]; simp
theorem joinm_end (ns : List (List UInt8)) (xs : List J) : prJ (.obj ns xs) = [123] ++ (prMs 123 ns xs).drop 1 ++ [125] := by
  rw [prJ]
  unfold endL
  cases xs with
  | nil => rw [prMs]; rfl
  | cons x r => rw [prMs, List.isEmpty_cons, if_neg (by decide)]; simp
set_option maxHeartbeats 64000000 in
theorem rPrint4_gives : ∀ (N : Nat) (x : DV), dsz x ≤ N → ∀ (cs : List Value) (g : Gh) (L : List Ent), IsV g x cs → wfV x → okJ (toJ x) → mJ (toJ x) ≤ 4000000 → Gives Tryz.prog 18 #[.agg cs.toArray] g L (str (prJ (toJ x)))
  | 0, .mk .., h, _, _, _, _, _, _, _ => by rw [dsz] at h; omega
  | N + 1, .mk k b n s items names, hN, cs, g, L, hV, hW, hk, hm => by
    have IH := rPrint4_gives N
    rw [dsz] at hN
    rw [IsV] at hV
    rw [wfV] at hW
    obtain ⟨vi, vn, flat, rfl, _, hnb, _, hS, hil, hI, hSn, hnl, _⟩ := hV
    obtain ⟨ai, ci, rfl⟩ := hS.slice
    obtain ⟨an, cn, rfl⟩ := hSn.slice
    obtain ⟨w1, w2, w3, w4⟩ := hW
    refine .of (Does.of1 Tryz.func18 rfl Tryz.ntmps18 rfl ?_)
    have hkn := kn_kind (kn_ok _ hk)
    rcases hkn with rfl | rfl | rfl | rfl | ⟨rfl, _⟩ | ⟨rfl, _⟩
    · rw [toJ_0, prJ]
      clear hS hI hSn IH w3 w4 hk hm
      repeat' (first
    | ((with_reducible apply TL.pure); (· exact yQ); (· rfl))
    | ((with_reducible apply TL.pure); (· exact yV); (· rfl)) | ((with_reducible apply TW.pure); (· exact yV); (· rfl))
    | ((with_reducible apply TL.pure); (· exact yM); (· rfl)) | ((with_reducible apply TW.pure); (· exact yM); (· rfl))
    | refine stS ?_ | (refine stB ?_; intro _) | (refine stC ?_; refine And.intro (fun _ => ?_) (fun _ => ?_)))
      refine TQ.endR1 (L' := L) Tryz.results18 rvA rfl (.refl _) ?_ selF
      exact ⟨rfl, rfl, rfl⟩
    · rw [toJ_1, prJ]
      clear hS hI hSn IH w3 w4 hk hm
      cases b with
      | true =>
        repeat' (first
    | ((with_reducible apply TL.pure); (· exact yQ); (· rfl))
    | ((with_reducible apply TL.pure); (· exact yV); (· rfl)) | ((with_reducible apply TW.pure); (· exact yV); (· rfl))
    | ((with_reducible apply TL.pure); (· exact yM); (· rfl)) | ((with_reducible apply TW.pure); (· exact yM); (· rfl))
    | refine stS ?_ | (refine stB ?_; intro _) | (refine stC ?_; refine And.intro (fun _ => ?_) (fun _ => ?_)))
        refine TQ.endR1 (L' := L) Tryz.results18 rvA rfl (.refl _) ?_ selF
        exact ⟨rfl, rfl, rfl⟩
      | false =>
        repeat' (first
    | ((with_reducible apply TL.pure); (· exact yQ); (· rfl))
    | ((with_reducible apply TL.pure); (· exact yV); (· rfl)) | ((with_reducible apply TW.pure); (· exact yV); (· rfl))
    | ((with_reducible apply TL.pure); (· exact yM); (· rfl)) | ((with_reducible apply TW.pure); (· exact yM); (· rfl))
    | refine stS ?_ | (refine stB ?_; intro _) | (refine stC ?_; refine And.intro (fun _ => ?_) (fun _ => ?_)))
        refine TQ.endR1 (L' := L) Tryz.results18 rvA rfl (.refl _) ?_ selF
        exact ⟨rfl, rfl, rfl⟩
    · rw [toJ_2, prJ]
      have A := fun L => rPrint_gives n g L hnb.1 hnb.2
      clear hS hI hSn IH w3 w4 hk hm
      repeat' (first
    | ((with_reducible apply TL.pure); (· exact yQ); (· rfl))
    | ((with_reducible apply TL.pure); (· exact yV); (· rfl)) | ((with_reducible apply TW.pure); (· exact yV); (· rfl))
    | ((with_reducible apply TL.pure); (· exact yM); (· rfl)) | ((with_reducible apply TW.pure); (· exact yM); (· rfl))
    | ((with_reducible apply TL.gives_plain); (· kernel_rfl); (· rfl); (· exact A _); (· rfl)) | ((with_reducible apply TW.gives_plain); (· kernel_rfl); (· rfl); (· exact A _); (· rfl))
    | refine stS ?_ | (refine stB ?_; intro _) | (refine stC ?_; refine And.intro (fun _ => ?_) (fun _ => ?_)))
      refine TQ.endR1 (L' := L) Tryz.results18 rvA rfl (.refl _) ?_ selF
      exact ⟨rfl, rfl, rfl⟩
    · rw [toJ_3, prJ]
      have A := fun L => rQuote_gives s g L (by omega)
      clear hS hI hSn IH w3 w4 hk hm
      repeat' (first
    | ((with_reducible apply TL.pure); (· exact yQ); (· rfl))
    | ((with_reducible apply TL.pure); (· exact yV); (· rfl)) | ((with_reducible apply TW.pure); (· exact yV); (· rfl))
    | ((with_reducible apply TL.pure); (· exact yM); (· rfl)) | ((with_reducible apply TW.pure); (· exact yM); (· rfl))
    | ((with_reducible apply TL.gives_plain); (· kernel_rfl); (· rfl); (· exact A _); (· rfl)) | ((with_reducible apply TW.gives_plain); (· kernel_rfl); (· rfl); (· exact A _); (· rfl))
    | refine stS ?_ | (refine stB ?_; intro _) | (refine stC ?_; refine And.intro (fun _ => ?_) (fun _ => ?_)))
      refine TQ.endR1 (L' := L) Tryz.results18 rvA rfl (.refl _) ?_ selF
      exact ⟨rfl, rfl, rfl⟩
    · rw [toJ_4] at hk hm ⊢
      rw [okJ] at hk
      rw [mJ] at hm
      obtain ⟨R, hR⟩ : ∃ R, R = prJ (.list (items.map toJ)) := ⟨_, rfl⟩
      rw [← hR]
      rw [join_end] at hR
      have HR := Hn.mk hR
      clear hR hSn w3
      repeat' (first
    | ((with_reducible apply TL.pure); (· exact yQ); (· rfl))
    | ((with_reducible apply TL.pure); (· exact yV); (· rfl)) | ((with_reducible apply TW.pure); (· exact yV); (· rfl))
    | ((with_reducible apply TL.pure); (· exact yM); (· rfl)) | ((with_reducible apply TW.pure); (· exact yM); (· rfl))
    | refine stS ?_ | (refine stB ?_; intro _) | (refine stC ?_; refine And.intro (fun _ => ?_) (fun _ => ?_)))
      rename_i b1
      refine TC.loopL (α := Nat × List UInt8) (fun z => z.1 ≤ items.length ∧ z.2 = (prJs 91 ((items.map toJ).take z.1)).drop 1) (fun z => items.length - z.1) (fun z _ => [(6, .int .i64 (z.1 : Nat)), (5, str z.2), (1, .pointer (some ⟨b1, 0, none⟩))]) (fun _ => .obj b1 (.cells [.int .i64 4, .bool b, .int .i64 n, str s, .slice ai items.length ci, .slice an names.length cn].toArray 29 (0, 0)) :: L) (0, []) ⟨Nat.zero_le _, by rw [List.take_zero, prJs]; rfl⟩ subA selF ?_
      rintro ⟨i, acc⟩ ⟨hi, hacc⟩
      dsimp only at hi hacc ⊢
      have hal : acc.length ≤ mJs ((items.map toJ).take i) := by
        have := prJs_len 91 ((items.map toJ).take i)
        rw [hacc, List.length_drop]; omega
      by_cases hlt : i < items.length
      · obtain ⟨y, hy⟩ : ∃ y, items[i]? = some y := ⟨_, List.getElem?_eq_getElem hlt⟩
        have hyj : (items.map toJ)[i]? = some (toJ y) := by rw [List.getElem?_map, hy]; rfl
        obtain ⟨c1, hV1, hcl1, hfl1⟩ := hI.get hy
        obtain ⟨b7, o7, rfl, hg7⟩ := hS.elem hlt (by decide)
        have hld1 : ∀ j u, c1[j]? = some u → g.cell b7 (o7 + i * 6 + j) = some u := fun j u hu => hg7 j u (hfl1 j u hu)
        have hsz := dsz_get hy
        have hmx := mJs_at hyj
        have hpl := prJ_len (toJ y)
        have A := fun L => IH y (by omega) c1 g L hV1 ((w4 (.inl rfl)).get hy) (okJs_get hk hyj) (by omega)
        have hst := join_step (c := 91) hyj
        rw [← hacc] at hst
        generalize prJ (toJ y) = p at *
        clear hS hI IH w4 hg7 hfl1 hV1 hk hacc
        by_cases h0 : i = 0
        · rw [if_pos h0] at hst
          obtain rfl : acc = [] := by
            rw [h0, List.take_zero, mJs] at hal
            exact List.eq_nil_of_length_eq_zero (by omega)
          have HI := Hn.mk (show ¬ (0 : Int) < (i : Nat) by omega)
          have HS := Hn.mk hst.symm
          clear hst
          repeat' (first
    | ((with_reducible apply TL.pure); (· exact yQ); (· rfl))
    | ((with_reducible apply TL.pure); (· exact yV); (· rfl)) | ((with_reducible apply TW.pure); (· exact yV); (· rfl))
    | ((with_reducible apply TL.pure); (· exact yM); (· rfl)) | ((with_reducible apply TW.pure); (· exact yM); (· rfl))
    | ((with_reducible apply TL.gives_plain); (· kernel_rfl); (· rfl); (· exact A _); (· rfl)) | ((with_reducible apply TW.gives_plain); (· kernel_rfl); (· rfl); (· exact A _); (· rfl))
    | refine stS ?_ | (refine stB ?_; intro _) | (refine stC ?_; refine And.intro (fun _ => ?_) (fun _ => ?_)))
          refine TQ.round (i + 1, [] ++ p) ?_ ?_ rfl subA selF
          · exact ⟨by dsimp only; omega, HS.out⟩
          · show items.length - (i + 1) < items.length - i
            omega
        · rw [if_neg h0] at hst
          have HI := Hn.mk (show (0 : Int) < (i : Nat) by omega)
          have HS := Hn.mk hst.symm
          clear hst
          repeat' (first
    | ((with_reducible apply TL.pure); (· exact yQ); (· rfl))
    | ((with_reducible apply TL.pure); (· exact yV); (· rfl)) | ((with_reducible apply TW.pure); (· exact yV); (· rfl))
    | ((with_reducible apply TL.pure); (· exact yM); (· rfl)) | ((with_reducible apply TW.pure); (· exact yM); (· rfl))
    | ((with_reducible apply TL.gives_plain); (· kernel_rfl); (· rfl); (· exact A _); (· rfl)) | ((with_reducible apply TW.gives_plain); (· kernel_rfl); (· rfl); (· exact A _); (· rfl))
    | refine stS ?_ | (refine stB ?_; intro _) | (refine stC ?_; refine And.intro (fun _ => ?_) (fun _ => ?_)))
          refine TQ.round (i + 1, acc ++ [44] ++ p) ?_ ?_ rfl subA selF
          · exact ⟨by dsimp only; omega, HS.out⟩
          · show items.length - (i + 1) < items.length - i
            omega
      · obtain rfl : i = items.length := by omega
        rw [List.take_of_length_le (by rw [List.length_map]; omega)] at hacc hal
        obtain rfl : R = [91] ++ acc ++ [93] := by rw [HR.out, hacc]
        clear hS hI IH w4 hk HR hacc
        repeat' (first
    | ((with_reducible apply TL.pure); (· exact yQ); (· rfl))
    | ((with_reducible apply TL.pure); (· exact yV); (· rfl)) | ((with_reducible apply TW.pure); (· exact yV); (· rfl))
    | ((with_reducible apply TL.pure); (· exact yM); (· rfl)) | ((with_reducible apply TW.pure); (· exact yM); (· rfl))
    | refine stS ?_ | (refine stB ?_; intro _) | (refine stC ?_; refine And.intro (fun _ => ?_) (fun _ => ?_)))
        refine TQ.endR1 (L' := L) Tryz.results18 rvA rfl (.refl _) ?_ selF
        exact ⟨rfl, rfl, rfl⟩
    · rw [toJ_5] at hk hm ⊢
      rw [okJ] at hk
      obtain ⟨_, _, _, hk⟩ := hk
      rw [mJ] at hm
      obtain ⟨wn, wl⟩ := w3 rfl
      obtain ⟨R, hR⟩ : ∃ R, R = prJ (.obj names (items.map toJ)) := ⟨_, rfl⟩
      rw [← hR]
      rw [joinm_end] at hR
      have HR := Hn.mk hR
      clear hR w3
      repeat' (first
    | ((with_reducible apply TL.pure); (· exact yQ); (· rfl))
    | ((with_reducible apply TL.pure); (· exact yV); (· rfl)) | ((with_reducible apply TW.pure); (· exact yV); (· rfl))
    | ((with_reducible apply TL.pure); (· exact yM); (· rfl)) | ((with_reducible apply TW.pure); (· exact yM); (· rfl))
    | refine stS ?_ | (refine stB ?_; intro _) | (refine stC ?_; refine And.intro (fun _ => ?_) (fun _ => ?_)))
      rename_i b1
      refine TC.loopL (α := Nat × List UInt8) (fun z => z.1 ≤ items.length ∧ z.2 = (prMs 123 names ((items.map toJ).take z.1)).drop 1) (fun z => items.length - z.1) (fun z _ => [(6, .int .i64 (z.1 : Nat)), (5, str z.2), (1, .pointer (some ⟨b1, 0, none⟩))]) (fun _ => .obj b1 (.cells [.int .i64 5, .bool b, .int .i64 n, str s, .slice ai items.length ci, .slice an names.length cn].toArray 29 (0, 0)) :: L) (0, []) ⟨Nat.zero_le _, by rw [List.take_zero, prMs]; rfl⟩ subA selF ?_
      rintro ⟨i, acc⟩ ⟨hi, hacc⟩
      dsimp only at hi hacc ⊢
      have hal : acc.length ≤ mJm names ((items.map toJ).take i) := by
        have := prMs_len 123 names ((items.map toJ).take i)
        rw [hacc, List.length_drop]; omega
      by_cases hlt : i < items.length
      · obtain ⟨y, hy⟩ : ∃ y, items[i]? = some y := ⟨_, List.getElem?_eq_getElem hlt⟩
        obtain ⟨nm, hnm⟩ : ∃ nm, names[i]? = some nm := ⟨_, List.getElem?_eq_getElem (by omega)⟩
        have hyj : (items.map toJ)[i]? = some (toJ y) := by rw [List.getElem?_map, hy]; rfl
        obtain ⟨c1, hV1, hcl1, hfl1⟩ := hI.get hy
        obtain ⟨b7, o7, rfl, hg7⟩ := hS.elem hlt (by decide)
        obtain ⟨b9, o9, rfl, hg9⟩ := hSn.elem (i := i) (by omega) (by decide)
        have hld1 : ∀ j u, c1[j]? = some u → g.cell b7 (o7 + i * 6 + j) = some u := fun j u hu => hg7 j u (hfl1 j u hu)
        have hld2 : g.cell b9 (o9 + i * 1) = some (str nm) := hg9 0 _ (by rw [Nat.mul_one]; exact strs_get hnm)
        have hsz := dsz_get hy
        have hmx := mJm_at hnm hyj
        have hpl := prJ_len (toJ y)
        have hql := quo_len nm
        have A := fun L => IH y (by omega) c1 g L hV1 ((w4 (.inr rfl)).get hy) (okJs_get hk hyj) (by omega)
        have Q := fun L => rQuote_gives nm g L (by have := wl nm (List.mem_of_getElem? hnm); omega)
        have hst := joinm_step (c := 123) hnm hyj
        rw [← hacc] at hst
        generalize prJ (toJ y) = p at *
        generalize quo nm = q at *
        clear hS hI IH w4 hg7 hfl1 hV1 hk hacc hSn hg9 wl
        by_cases h0 : i = 0
        · rw [if_pos h0] at hst
          obtain rfl : acc = [] := by
            rw [h0, List.take_zero, mJm] at hal
            exact List.eq_nil_of_length_eq_zero (by omega)
          have HI := Hn.mk (show ¬ (0 : Int) < (i : Nat) by omega)
          have HS := Hn.mk hst.symm
          clear hst
          repeat' (first
    | ((with_reducible apply TL.pure); (· exact yQ); (· rfl))
    | ((with_reducible apply TL.pure); (· exact yV); (· rfl)) | ((with_reducible apply TW.pure); (· exact yV); (· rfl))
    | ((with_reducible apply TL.pure); (· exact yM); (· rfl)) | ((with_reducible apply TW.pure); (· exact yM); (· rfl))
    | ((with_reducible apply TL.gives_plain); (· kernel_rfl); (· rfl); (· exact A _); (· rfl)) | ((with_reducible apply TW.gives_plain); (· kernel_rfl); (· rfl); (· exact A _); (· rfl))
    | ((with_reducible apply TL.gives_plain); (· kernel_rfl); (· rfl); (· exact Q _); (· rfl)) | ((with_reducible apply TW.gives_plain); (· kernel_rfl); (· rfl); (· exact Q _); (· rfl))
    | refine stS ?_ | (refine stB ?_; intro _) | (refine stC ?_; refine And.intro (fun _ => ?_) (fun _ => ?_)))
          refine TQ.round (i + 1, [] ++ (q ++ [58]) ++ p) ?_ ?_ rfl subA selF
          · exact ⟨by dsimp only; omega, HS.out⟩
          · show items.length - (i + 1) < items.length - i
            omega
        · rw [if_neg h0] at hst
          have HI := Hn.mk (show (0 : Int) < (i : Nat) by omega)
          have HS := Hn.mk hst.symm
          clear hst
          repeat' (first
    | ((with_reducible apply TL.pure); (· exact yQ); (· rfl))
    | ((with_reducible apply TL.pure); (· exact yV); (· rfl)) | ((with_reducible apply TW.pure); (· exact yV); (· rfl))
    | ((with_reducible apply TL.pure); (· exact yM); (· rfl)) | ((with_reducible apply TW.pure); (· exact yM); (· rfl))
    | ((with_reducible apply TL.gives_plain); (· kernel_rfl); (· rfl); (· exact A _); (· rfl)) | ((with_reducible apply TW.gives_plain); (· kernel_rfl); (· rfl); (· exact A _); (· rfl))
    | ((with_reducible apply TL.gives_plain); (· kernel_rfl); (· rfl); (· exact Q _); (· rfl)) | ((with_reducible apply TW.gives_plain); (· kernel_rfl); (· rfl); (· exact Q _); (· rfl))
    | refine stS ?_ | (refine stB ?_; intro _) | (refine stC ?_; refine And.intro (fun _ => ?_) (fun _ => ?_)))
          refine TQ.round (i + 1, acc ++ [44] ++ (q ++ [58]) ++ p) ?_ ?_ rfl subA selF
          · exact ⟨by dsimp only; omega, HS.out⟩
          · show items.length - (i + 1) < items.length - i
            omega
      · obtain rfl : i = items.length := by omega
        rw [List.take_of_length_le (by rw [List.length_map]; omega)] at hacc hal
        obtain rfl : R = [123] ++ acc ++ [125] := by rw [HR.out, hacc]
        clear hS hI IH w4 hk HR hacc hSn wl
        repeat' (first
    | ((with_reducible apply TL.pure); (· exact yQ); (· rfl))
    | ((with_reducible apply TL.pure); (· exact yV); (· rfl)) | ((with_reducible apply TW.pure); (· exact yV); (· rfl))
    | ((with_reducible apply TL.pure); (· exact yM); (· rfl)) | ((with_reducible apply TW.pure); (· exact yM); (· rfl))
    | refine stS ?_ | (refine stB ?_; intro _) | (refine stC ?_; refine And.intro (fun _ => ?_) (fun _ => ?_)))
        refine TQ.endR1 (L' := L) Tryz.results18 rvA rfl (.refl _) ?_ selF
        exact ⟨rfl, rfl, rfl⟩
end Go.Proofs.YtfmadoeadmclbaaGreatDoor
