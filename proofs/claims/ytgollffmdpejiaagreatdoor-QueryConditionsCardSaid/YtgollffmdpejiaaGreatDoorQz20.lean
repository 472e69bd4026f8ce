/-
  The walk of the document's may, May.
-/
import Derived.Test.YtgollffmdpejiaaGreatDoorQz3
import Derived.Test.YtgollffmdpejiaaGreatDoorQz6
import Derived.Test.YtgollffmdpejiaaGreatDoorQz12
namespace Go.Proofs.YtgollffmdpejiaaGreatDoor
open Go.RowKit Go.TL
set_option maxRecDepth 100000

mutual
def mayV : DV → Nat → Nat
  | .mk k _ n s items names, w =>
    if k = 0 ∨ k = 1 then 0 else if k = 2 then (if heldB n = true then 0 else 2) else if k = 3 then (if utfL s = true then 0 else 11)
    else if k = 4 then (if 32 ≤ w then 10 else mays items w) else if k = 5 then (if 32 ≤ w then 10 else mayo [] names items w) else 14
def mays : List DV → Nat → Nat
  | [], _ => 0
  | x :: r, w => if mayV x (w + 1) = 0 then mays r w else mayV x (w + 1)
def mayo : List (List UInt8) → List (List UInt8) → List DV → Nat → Nat
  | _, _, [], _ => 0
  | seen, ns, x :: r, w => if utfL (ns.headD []) = false then 11 else if ns.headD [] ∈ seen then 13 else if mayV x (w + 1) = 0 then mayo (seen ++ [ns.headD []]) ns.tail r w else mayV x (w + 1)
end
mutual
theorem mayV_bd : ∀ (x : DV) (w : Nat), mayV x w ≤ 14
  | .mk k b n s items names, w => by
    rw [mayV]
    have h1 := mays_bd items w
    have h2 := mayo_bd [] names items w
    repeat' split
    all_goals omega
theorem mays_bd : ∀ (l : List DV) (w : Nat), mays l w ≤ 14
  | [], _ => by rw [mays]; omega
  | x :: r, w => by
    rw [mays]
    have h1 := mayV_bd x (w + 1)
    have h2 := mays_bd r w
    split <;> omega
theorem mayo_bd : ∀ (seen ns : List (List UInt8)) (l : List DV) (w : Nat), mayo seen ns l w ≤ 14
  | _, _, [], _ => by rw [mayo]; omega
  | seen, ns, x :: r, w => by
    rw [mayo]
    have h1 := mayV_bd x (w + 1)
    have h2 := mayo_bd (seen ++ [ns.headD []]) ns.tail r w
    repeat' split
    all_goals omega
end
theorem mays_at {l : List DV} {i : Nat} {x : DV} (h : l[i]? = some x) (w : Nat) : mays (l.drop i) w = if mayV x (w + 1) = 0 then mays (l.drop (i + 1)) w else mayV x (w + 1) := by
  obtain ⟨hi, he⟩ := List.getElem?_eq_some_iff.1 h
  rw [List.drop_eq_getElem_cons hi, he, mays]
theorem mayo_at {ns : List (List UInt8)} {l : List DV} {i : Nat} {x : DV} {nm : List UInt8} (h : l[i]? = some x) (hn : ns[i]? = some nm) (w : Nat) :
    mayo (ns.take i) (ns.drop i) (l.drop i) w = if utfL nm = false then 11 else if nm ∈ ns.take i then 13 else if mayV x (w + 1) = 0 then mayo (ns.take (i + 1)) (ns.drop (i + 1)) (l.drop (i + 1)) w else mayV x (w + 1) := by
  obtain ⟨hi, he⟩ := List.getElem?_eq_some_iff.1 h
  have hd : (ns.drop i).headD [] = nm := by rw [List.headD_eq_head?_getD, List.head?_drop, hn]; rfl
  rw [List.drop_eq_getElem_cons hi, he, mayo, hd, List.tail_drop, List.take_add_one, hn]
  rfl
set_option maxHeartbeats 16000000 in
theorem rmay_gives : ∀ (N : Nat) (x : DV), dsz x ≤ N → ∀ (cs : List Value) (g : Gh) (L : List Ent) (w : Nat), IsV g x cs → wfV x → w ≤ 1000 → Gives Tryz.prog 40 #[.agg cs.toArray, .int .i64 (w : Nat)] g L (.int .i64 (mayV x w : Nat))
  | 0, .mk .., h, _, _, _, _, _, _, _ => by rw [dsz] at h; omega
  | N + 1, .mk k b n s items names, hN, cs, g, L, w, hV, hW, hw => by
    have IH := rmay_gives N
    rw [dsz] at hN
    rw [IsV] at hV
    rw [wfV] at hW
    obtain ⟨vi, vn, flat, rfl, ⟨k0, k1⟩, ⟨n0, n1⟩, hs, hi, hil, hfl, hn, hnl, hns⟩ := hV
    obtain ⟨w1, w2, w3, w4⟩ := hW
    obtain ⟨aoi, capi, rfl⟩ := hi.slice
    obtain ⟨aon, capn, rfl⟩ := hn.slice
    obtain ⟨R, hR⟩ : ∃ R, R = mayV (.mk k b n s items names) w := ⟨_, rfl⟩
    rw [← hR]
    rw [mayV] at hR
    have AH := fun L => rHeld_gives n g L n0 n1
    have AU := fun L => utf_gives s g L (by omega)
    refine .of (Does.of2 Tryz.func40 rfl Tryz.ntmps40 rfl ?_)
    by_cases hk0 : k = 0
    · subst hk0
      rw [if_pos (.inl rfl)] at hR
      subst hR
      repeat' (first
    | refine stS ?_ | (refine stB ?_; intro _) | (refine stC ?_; constructor <;> intro _))
      refine TQ.endR1 (L' := L) Tryz.results40 rvA rfl (.refl _) ?_ selA
      exact ⟨rfl, rfl, rfl⟩
    by_cases hk1 : k = 1
    · subst hk1
      rw [if_pos (.inr rfl)] at hR
      subst hR
      repeat' (first
    | refine stS ?_ | (refine stB ?_; intro _) | (refine stC ?_; constructor <;> intro _))
      refine TQ.endR1 (L' := L) Tryz.results40 rvA rfl (.refl _) ?_ selA
      exact ⟨rfl, rfl, rfl⟩
    rw [if_neg (by omega)] at hR
    by_cases hk2 : k = 2
    · subst hk2
      rw [if_pos rfl] at hR
      cases hh : heldB n with
      | true =>
        rw [hh, if_pos rfl] at hR
        simp only [hh] at AH
        subst hR
        clear hh
        repeat' (first
    | refine wkD (AH _) ?_
    | refine stS ?_ | (refine stB ?_; intro _) | (refine stC ?_; constructor <;> intro _))
        refine TQ.endR1 (L' := L) Tryz.results40 rvA rfl (.refl _) ?_ selA
        exact ⟨rfl, rfl, rfl⟩
      | false =>
        rw [hh, if_neg (by decide)] at hR
        simp only [hh] at AH
        subst hR
        clear hh
        repeat' (first
    | refine wkD (AH _) ?_
    | refine stS ?_ | (refine stB ?_; intro _) | (refine stC ?_; constructor <;> intro _))
        refine TQ.endR1 (L' := L) Tryz.results40 rvA rfl (.refl _) ?_ selA
        exact ⟨rfl, rfl, rfl⟩
    rw [if_neg hk2] at hR
    by_cases hk3 : k = 3
    · subst hk3
      rw [if_pos rfl] at hR
      cases hh : utfL s with
      | true =>
        rw [hh, if_pos rfl] at hR
        simp only [hh] at AU
        subst hR
        clear hh
        repeat' (first
    | refine wkD (AU _) ?_
    | refine stS ?_ | (refine stB ?_; intro _) | (refine stC ?_; constructor <;> intro _))
        refine TQ.endR1 (L' := L) Tryz.results40 rvA rfl (.refl _) ?_ selA
        exact ⟨rfl, rfl, rfl⟩
      | false =>
        rw [hh, if_neg (by decide)] at hR
        simp only [hh] at AU
        subst hR
        clear hh
        repeat' (first
    | refine wkD (AU _) ?_
    | refine stS ?_ | (refine stB ?_; intro _) | (refine stC ?_; constructor <;> intro _))
        refine TQ.endR1 (L' := L) Tryz.results40 rvA rfl (.refl _) ?_ selA
        exact ⟨rfl, rfl, rfl⟩
    rw [if_neg hk3] at hR
    clear AH AU
    by_cases hk4 : k = 4
    · subst hk4
      rw [if_pos rfl] at hR
      by_cases h32 : 32 ≤ w
      · rw [if_pos h32] at hR
        subst hR
        repeat' (first
    | refine stS ?_ | (refine stB ?_; intro _) | (refine stC ?_; constructor <;> intro _))
        refine TQ.endR1 (L' := L) Tryz.results40 rvA rfl (.refl _) ?_ selA
        exact ⟨rfl, rfl, rfl⟩
      rw [if_neg h32] at hR
      repeat' (first
    | refine stS ?_ | (refine stB ?_; intro _) | (refine stC ?_; constructor <;> intro _))
      rename_i bo
      refine TC.loopK (fun i : Nat => i ≤ items.length ∧ mays (items.drop i) w = R) (fun i => items.length - i) (fun i _ => [(5, .int .i64 (i : Nat)), (1, .int .i64 (w : Nat)), (2, .pointer (some ⟨bo, 0, none⟩))]) [] (by repeat (first | apply Drop.nil | apply Drop.cons (by (repeat (first | apply Pick.here | apply Pick.there))))) (fun _ L => L) 0 ⟨Nat.zero_le _, hR.symm⟩ subA selA ?_
      clear hR
      rintro i ⟨hi1, hR⟩
      by_cases hlt : i < items.length
      · obtain ⟨x, hx⟩ : ∃ x, items[i]? = some x := ⟨_, List.getElem?_eq_getElem hlt⟩
        obtain ⟨cs', hV', hl6, hcs⟩ := hfl.get hx
        obtain ⟨b1, o1, rfl, hg⟩ := hi.elem hlt (by decide)
        have hld : ∀ j u, cs'[j]? = some u → g.cell b1 (o1 + i * 6 + j) = some u := fun j u hu => hg j u (hcs j u hu)
        have hsz := dsz_get hx
        have A : ∀ L, Gives Tryz.prog 40 #[.agg cs'.toArray, .int .i64 ((w : Int) + 1)] g L (.int .i64 (mayV x (w + 1) : Nat)) := fun L => IH x (by omega) cs' g L (w + 1) hV' ((w4 (.inl rfl)).get hx) (by omega)
        have hb := mayV_bd x (w + 1)
        rw [mays_at hx] at hR
        generalize mayV x (w + 1) = r at *
        clear hfl hi hn hcs hg hns hV' w3 w4
        by_cases h0 : r = 0
        · subst h0
          rw [if_pos rfl] at hR
          have HR : Hn _ := ⟨hR⟩
          clear hR
          repeat' (first
    | refine wkV ?_
    | refine wkD (A _) ?_
    | refine stS ?_ | (refine stB ?_; intro _) | (refine stC ?_; constructor <;> intro _))
          refine TQ.round (i + 1) ?_ ?_ rfl subA selA
          · exact ⟨by omega, HR.out⟩
          · show items.length - (i + 1) < items.length - i
            omega
        · rw [if_neg h0] at hR
          subst hR
          have h00 : 0 < r := by omega
          clear h0
          repeat' (first
    | refine wkV ?_
    | refine wkD (A _) ?_
    | refine stS ?_ | (refine stB ?_; intro _) | (refine stC ?_; constructor <;> intro _))
          refine TQ.endR1 (L' := L) Tryz.results40 rvA rfl (.refl _) ?_ selA
          exact ⟨rfl, rfl, rfl⟩
      · obtain rfl : i = items.length := by omega
        rw [List.drop_length, mays] at hR
        subst hR
        repeat' (first
    | refine stS ?_ | (refine stB ?_; intro _) | (refine stC ?_; constructor <;> intro _))
        refine TQ.endR1 (L' := L) Tryz.results40 rvA rfl (.refl _) ?_ selA
        exact ⟨rfl, rfl, rfl⟩
    rw [if_neg hk4] at hR
    by_cases hk5 : k = 5
    · subst hk5
      obtain ⟨w3a, w3b⟩ := w3 rfl
      rw [if_pos rfl] at hR
      by_cases h32 : 32 ≤ w
      · rw [if_pos h32] at hR
        subst hR
        repeat' (first
    | refine stS ?_ | (refine stB ?_; intro _) | (refine stC ?_; constructor <;> intro _))
        refine TQ.endR1 (L' := L) Tryz.results40 rvA rfl (.refl _) ?_ selA
        exact ⟨rfl, rfl, rfl⟩
      rw [if_neg h32] at hR
      repeat' (first
    | refine stS ?_ | (refine stB ?_; intro _) | (refine stC ?_; constructor <;> intro _))
      rename_i bo
      refine TC.loopK (fun i : Nat => i ≤ items.length ∧ mayo (names.take i) (names.drop i) (items.drop i) w = R) (fun i => items.length - i) (fun i _ => [(5, .int .i64 (i : Nat)), (1, .int .i64 (w : Nat)), (2, .pointer (some ⟨bo, 0, none⟩))]) [] (by repeat (first | apply Drop.nil | apply Drop.cons (by (repeat (first | apply Pick.here | apply Pick.there))))) (fun _ L => L) 0 ⟨Nat.zero_le _, hR.symm⟩ subA selA ?_
      clear hR
      rintro i ⟨hi1, hR⟩
      by_cases hlt : i < items.length
      · obtain ⟨x, hx⟩ : ∃ x, items[i]? = some x := ⟨_, List.getElem?_eq_getElem hlt⟩
        obtain ⟨nm, hnm⟩ : ∃ nm, names[i]? = some nm := ⟨_, List.getElem?_eq_getElem (by omega)⟩
        obtain ⟨cs', hV', hl6, hcs⟩ := hfl.get hx
        obtain ⟨b1, o1, rfl, hg⟩ := hi.elem hlt (by decide)
        obtain ⟨b2, o2, rfl, hg2⟩ := hn.elem (i := i) (by omega) (by decide)
        have hld : ∀ j u, cs'[j]? = some u → g.cell b1 (o1 + i * 6 + j) = some u := fun j u hu => hg j u (hcs j u hu)
        have hln : g.cell b2 (o2 + i * 1) = some (str nm) := hg2 0 _ (by rw [Nat.mul_one]; exact strs_get hnm)
        have hsz := dsz_get hx
        have hnm3 := w3b nm (List.mem_of_getElem? hnm)
        have hcap := hn.cap
        have hseg : Sl g (.slice (some ⟨b2, o2, none⟩) (names.take i).length capn) (names.take i).length 1 (strs (names.take i)) := by
          have h1 := hn.take (i := i) (by omega)
          rw [Nat.mul_one] at h1
          rw [show (names.take i).length = i by rw [List.length_take]; omega, show strs (names.take i) = (strs names).take i by simp [strs]]
          exact h1
        have AA : ∀ L, Gives Tryz.prog 70 #[.slice (some ⟨b2, o2, none⟩) i capn, str nm] g L (.bool (decide (nm ∈ names.take i))) := fun L => by
          have h1 := among_gives (some ⟨b2, o2, none⟩) capn (names.take i) nm g L hseg (by rw [List.length_take]; omega)
          rw [show (names.take i).length = i by rw [List.length_take]; omega] at h1
          exact h1
        have AU := fun L => utf_gives nm g L (by omega)
        have A : ∀ L, Gives Tryz.prog 40 #[.agg cs'.toArray, .int .i64 ((w : Int) + 1)] g L (.int .i64 (mayV x (w + 1) : Nat)) := fun L => IH x (by omega) cs' g L (w + 1) hV' ((w4 (.inr rfl)).get hx) (by omega)
        have hb := mayV_bd x (w + 1)
        rw [mayo_at hx hnm] at hR
        generalize mayV x (w + 1) = r at *
        clear hfl hi hn hcs hg hg2 hns hV' w3 w4 hseg w3b
        cases hu : utfL nm with
        | false =>
          rw [hu, if_pos rfl] at hR
          simp only [hu] at AU
          subst hR
          clear hu
          repeat' (first
    | refine wkV ?_
    | refine wkD (AU _) ?_
    | refine stS ?_ | (refine stB ?_; intro _) | (refine stC ?_; constructor <;> intro _))
          refine TQ.endR1 (L' := L) Tryz.results40 rvA rfl (.refl _) ?_ selA
          exact ⟨rfl, rfl, rfl⟩
        | true =>
        rw [hu, if_neg (by decide)] at hR
        simp only [hu] at AU
        clear hu
        by_cases hm : nm ∈ names.take i
        · rw [if_pos hm] at hR
          simp only [decide_eq_true hm] at AA
          subst hR
          clear hm
          repeat' (first
    | refine wkV ?_
    | refine wkD (AU _) ?_
    | refine wkD (AA _) ?_
    | refine wkP ?_
    | ((with_reducible apply TL.byteK); (· rfl); (· rfl); (· exact natA); (· assumption); (· rfl); intro _) | ((with_reducible apply TL.byte); (· rfl); (· rfl); (· exact natA); (· exact omA); (· rfl); intro _ _ _)
    | refine stS ?_ | (refine stB ?_; intro _) | (refine stC ?_; constructor <;> intro _)
    | refine wkW ?_
    | ((with_reducible apply TL.range_str); (· rfl); (· rfl); intro _) | ((with_reducible apply TL.next_str); (· rfl); (· exact pkA); (· rfl); all_goals intro _)
    | ((with_reducible apply TW.byteK); (· rfl); (· rfl); (· exact natA); (· assumption); (· rfl); intro _) | ((with_reducible apply TW.byte); (· rfl); (· rfl); (· exact natA); (· exact omA); (· rfl); intro _ _ _)
    | refine TW.guard_yes rfl rfl ?_ | refine TW.guard_no rfl rfl rfl rfl ?_ | refine TW.guard_undef rfl rfl rfl ?_ | refine TW.guard rfl rfl rfl ?_ | fail)
          refine TQ.endR1 (L' := L) Tryz.results40 rvA rfl (.refl _) ?_ selA
          exact ⟨rfl, rfl, rfl⟩
        rw [if_neg hm] at hR
        simp only [decide_eq_false hm] at AA
        clear hm
        by_cases h0 : r = 0
        · subst h0
          rw [if_pos rfl] at hR
          have HR : Hn _ := ⟨hR⟩
          clear hR
          repeat' (first
    | refine wkV ?_
    | refine wkD (AU _) ?_
    | refine wkD (AA _) ?_
    | refine wkD (A _) ?_
    | refine wkP ?_
    | ((with_reducible apply TL.byteK); (· rfl); (· rfl); (· exact natA); (· assumption); (· rfl); intro _) | ((with_reducible apply TL.byte); (· rfl); (· rfl); (· exact natA); (· exact omA); (· rfl); intro _ _ _)
    | refine stS ?_ | (refine stB ?_; intro _) | (refine stC ?_; constructor <;> intro _)
    | refine wkW ?_
    | ((with_reducible apply TL.range_str); (· rfl); (· rfl); intro _) | ((with_reducible apply TL.next_str); (· rfl); (· exact pkA); (· rfl); all_goals intro _)
    | ((with_reducible apply TW.byteK); (· rfl); (· rfl); (· exact natA); (· assumption); (· rfl); intro _) | ((with_reducible apply TW.byte); (· rfl); (· rfl); (· exact natA); (· exact omA); (· rfl); intro _ _ _)
    | refine TW.guard_yes rfl rfl ?_ | refine TW.guard_no rfl rfl rfl rfl ?_ | refine TW.guard_undef rfl rfl rfl ?_ | refine TW.guard rfl rfl rfl ?_ | fail)
          refine TQ.round (i + 1) ?_ ?_ rfl subA selA
          · exact ⟨by omega, HR.out⟩
          · show items.length - (i + 1) < items.length - i
            omega
        · rw [if_neg h0] at hR
          subst hR
          have h00 : 0 < r := by omega
          clear h0
          repeat' (first
    | refine wkV ?_
    | refine wkD (AU _) ?_
    | refine wkD (AA _) ?_
    | refine wkD (A _) ?_
    | refine wkP ?_
    | ((with_reducible apply TL.byteK); (· rfl); (· rfl); (· exact natA); (· assumption); (· rfl); intro _) | ((with_reducible apply TL.byte); (· rfl); (· rfl); (· exact natA); (· exact omA); (· rfl); intro _ _ _)
    | refine stS ?_ | (refine stB ?_; intro _) | (refine stC ?_; constructor <;> intro _)
    | refine wkW ?_
    | ((with_reducible apply TL.range_str); (· rfl); (· rfl); intro _) | ((with_reducible apply TL.next_str); (· rfl); (· exact pkA); (· rfl); all_goals intro _)
    | ((with_reducible apply TW.byteK); (· rfl); (· rfl); (· exact natA); (· assumption); (· rfl); intro _) | ((with_reducible apply TW.byte); (· rfl); (· rfl); (· exact natA); (· exact omA); (· rfl); intro _ _ _)
    | refine TW.guard_yes rfl rfl ?_ | refine TW.guard_no rfl rfl rfl rfl ?_ | refine TW.guard_undef rfl rfl rfl ?_ | refine TW.guard rfl rfl rfl ?_ | fail)
          refine TQ.endR1 (L' := L) Tryz.results40 rvA rfl (.refl _) ?_ selA
          exact ⟨rfl, rfl, rfl⟩
      · obtain rfl : i = items.length := by omega
        rw [List.drop_length, mayo] at hR
        subst hR
        repeat' (first
    | refine stS ?_ | (refine stB ?_; intro _) | (refine stC ?_; constructor <;> intro _))
        refine TQ.endR1 (L' := L) Tryz.results40 rvA rfl (.refl _) ?_ selA
        exact ⟨rfl, rfl, rfl⟩
    rw [if_neg hk5] at hR
    subst hR
    have m0 : Hn (¬ k = 0) := ⟨hk0⟩
    have m1 : Hn (¬ k = 1) := ⟨hk1⟩
    have m2 : Hn (¬ k = 2) := ⟨hk2⟩
    have m3 : Hn (¬ k = 3) := ⟨hk3⟩
    have m4 : Hn (¬ k = 4) := ⟨hk4⟩
    have m5 : Hn (¬ k = 5) := ⟨hk5⟩
    repeat' (first
    | refine stS ?_ | (refine stB ?_; intro _) | (refine stC ?_; constructor <;> intro _))
    refine TQ.endR1 (L' := L) Tryz.results40 rvA rfl (.refl _) ?_ selA
    exact ⟨rfl, rfl, rfl⟩
set_option maxHeartbeats 4000000 in
theorem rMay_gives (x : DV) (cs : List Value) (g : Gh) (L : List Ent) (hV : IsV g x cs) (hW : wfV x) : Gives Tryz.prog 18 #[.agg cs.toArray] g L (.int .i64 (mayV x 0 : Nat)) := by
  refine .of (Does.of1 Tryz.func18 rfl Tryz.ntmps18 rfl ?_)
  have A := fun L => rmay_gives _ x (Nat.le_refl _) cs g L 0 hV hW (by decide)
  have h6 := hV.len
  generalize mayV x 0 = r at *
  clear hV
  repeat' (first
    | refine wkV ?_
    | refine wkD (A _) ?_
    | refine stS ?_ | (refine stB ?_; intro _) | (refine stC ?_; constructor <;> intro _))
  refine TQ.endR1 (L' := L) Tryz.results18 rvA rfl (.refl _) ?_ selA
  exact ⟨rfl, rfl, rfl⟩
end Go.Proofs.YtgollffmdpejiaaGreatDoor
