/-
  The walks of the document's rank, numbers, bytes, Compare.
-/
import Derived.Test.YthngolfabfijpaaGreatDoorHd2
import Derived.Test.YthngolfabfijpaaGreatDoorHd25
namespace Go.Proofs.YthngolfabfijpaaGreatDoor
open Go.RowKit Go.TL
set_option maxRecDepth 100000

theorem rnumbers_gives (a b : Int) (g : Gh) (L : List Ent) : Gives Tryz.prog 107 #[.int .i64 a, .int .i64 b] g L (.int .i64 (cmpI a b)) := by
  refine .of (Does.of2 Tryz.func107 rfl Tryz.ntmps107 rfl ?_)
  repeat' (first | refine stS ?_ | (refine stC ?_; refine And.intro (fun _ => ?_) (fun _ => ?_)) | fail)
  · rename_i h
    refine TQ.endR1 (L' := L) Tryz.results107 rvA rfl (.refl _) ?_ selA
    exact ⟨by rw [cmpI, if_pos h], rfl, rfl⟩
  · rename_i h h2
    refine TQ.endR1 (L' := L) Tryz.results107 rvA rfl (.refl _) ?_ selA
    exact ⟨by rw [cmpI, if_neg h, if_pos h2], rfl, rfl⟩
  · rename_i h h2
    refine TQ.endR1 (L' := L) Tryz.results107 rvA rfl (.refl _) ?_ selA
    exact ⟨by rw [cmpI, if_neg h, if_neg h2], rfl, rfl⟩
theorem rbytes_gives (a b : List UInt8) (g : Gh) (L : List Ent) : Gives Tryz.prog 108 #[str a, str b] g L (.int .i64 (cmpB a b)) := by
  refine .of (Does.of2 Tryz.func108 rfl Tryz.ntmps108 rfl ?_)
  repeat' (first | refine stS ?_ | (refine stC ?_; refine And.intro (fun _ => ?_) (fun _ => ?_)) | fail)
  · rename_i h
    refine TQ.endR1 (L' := L) Tryz.results108 rvA rfl (.refl _) ?_ selA
    exact ⟨by rw [cmpB, if_pos h], rfl, rfl⟩
  · rename_i h h2
    refine TQ.endR1 (L' := L) Tryz.results108 rvA rfl (.refl _) ?_ selA
    refine ⟨?_, rfl, rfl⟩
    rw [h] at h2
    have h3 : ¬ a = b := by simpa using h2
    rw [cmpB, if_neg (by rw [h]; decide), if_neg h3]
  · rename_i h h2
    refine TQ.endR1 (L' := L) Tryz.results108 rvA rfl (.refl _) ?_ selA
    refine ⟨?_, rfl, rfl⟩
    rw [h] at h2
    have h3 : a = b := by simpa using h2
    rw [cmpB, if_neg (by rw [h]; decide), if_pos h3]
theorem rrank_gives (x : DV) (cs : List Value) (g : Gh) (L : List Ent) (hV : IsV g x cs) (h5 : x.kind ≤ 5) : Gives Tryz.prog 106 #[.agg cs.toArray] g L (.int .i64 (rankV x)) := by
  obtain ⟨k, b, n, s, items, names⟩ := x
  rw [IsV] at hV
  obtain ⟨vi, vn, flat, rfl, ⟨k0, k1⟩, _⟩ := hV
  have h5 : k ≤ 5 := h5
  obtain ⟨R, hR⟩ : ∃ R, R = rankV (.mk k b n s items names) := ⟨_, rfl⟩
  rw [← hR]
  rw [rankV_eq] at hR
  refine .of (Does.of1 Tryz.func106 rfl Tryz.ntmps106 rfl ?_)
  by_cases h0 : k = 0
  · subst h0
    rw [if_pos rfl] at hR
    subst hR
    repeat' (first | refine stS ?_ | (refine stB ?_; intro _) | fail)
    refine TQ.endR1 (L' := L) Tryz.results106 rvA rfl (.refl _) ?_ selA
    exact ⟨rfl, rfl, rfl⟩
  rw [if_neg h0] at hR
  by_cases h1 : k = 1
  · subst h1
    rw [if_pos rfl] at hR
    cases b with
    | true =>
      rw [if_pos rfl] at hR
      subst hR
      repeat' (first | refine stS ?_ | (refine stB ?_; intro _) | fail)
      refine TQ.endR1 (L' := L) Tryz.results106 rvA rfl (.refl _) ?_ selA
      exact ⟨rfl, rfl, rfl⟩
    | false =>
      rw [if_neg (by decide)] at hR
      subst hR
      repeat' (first | refine stS ?_ | (refine stB ?_; intro _) | fail)
      refine TQ.endR1 (L' := L) Tryz.results106 rvA rfl (.refl _) ?_ selA
      exact ⟨rfl, rfl, rfl⟩
  rw [if_neg h1] at hR
  subst hR
  have n0 : Hn (¬ k = 0) := ⟨h0⟩
  have n1 : Hn (¬ k = 1) := ⟨h1⟩
  repeat' (first | refine stS ?_ | (refine stB ?_; intro _) | fail)
  refine TQ.endR1 (L' := L) Tryz.results106 rvA rfl (.refl _) ?_ selA
  exact ⟨rfl, rfl, rfl⟩
set_option maxHeartbeats 16000000 in
theorem rCompare_gives : ∀ (N : Nat) (x y : DV), dsz x ≤ N → ∀ (cs ds : List Value) (g : Gh) (L : List Ent), IsV g x cs → wfV x → okV x → IsV g y ds → wfV y → okV y → Gives Tryz.prog 71 #[.agg cs.toArray, .agg ds.toArray] g L (.int .i64 (cmpV x y))
  | 0, .mk .., _, h, _, _, _, _, _, _, _, _, _, _ => by rw [dsz] at h; omega
  | N + 1, .mk k b n s items names, .mk k2 b2 n2 s2 items2 names2, hN, cs, ds, g, L, hV, hW, hO, hV2, hW2, hO2 => by
    have IH := rCompare_gives N
    have R1 := fun L => rrank_gives _ cs g L hV (by rw [okV] at hO; exact hO.2.1)
    have R2 := fun L => rrank_gives _ ds g L hV2 (by rw [okV] at hO2; exact hO2.2.1)
    obtain ⟨R, hR⟩ : ∃ R, R = cmpV (.mk k b n s items names) (.mk k2 b2 n2 s2 items2 names2) := ⟨_, rfl⟩
    rw [← hR]
    rw [cmpV] at hR
    rw [dsz] at hN
    rw [IsV] at hV hV2
    rw [wfV] at hW hW2
    rw [okV] at hO hO2
    obtain ⟨vi, vn, flat, rfl, ⟨k0, k1⟩, ⟨n0, n1⟩, hs, hi, hil, hfl, hn, hnl, hns⟩ := hV
    obtain ⟨w1, w2, w3, w4⟩ := hW
    obtain ⟨vi2, vn2, flat2, rfl, ⟨k20, k21⟩, ⟨n20, n21⟩, hs2, hi2, hil2, hfl2, hn2, hnl2, hns2⟩ := hV2
    obtain ⟨v1, v2, v3, v4⟩ := hW2
    obtain ⟨aoi, capi, rfl⟩ := hi.slice
    obtain ⟨aon, capn, rfl⟩ := hn.slice
    obtain ⟨aoi2, capi2, rfl⟩ := hi2.slice
    obtain ⟨aon2, capn2, rfl⟩ := hn2.slice
    have hrs := fun h => rank_same (k := k) (k2 := k2) (b := b) (b2 := b2) (n := n) (n2 := n2) (s := s) (s2 := s2) (i := items) (i2 := items2) (m := names) (m2 := names2) h hO.1 hO2.1
    generalize hr1 : rankV (.mk k b n s items names) = r1 at *
    generalize hr2 : rankV (.mk k2 b2 n2 s2 items2 names2) = r2 at *
    clear hr1 hr2
    refine .of (Does.of2 Tryz.func71 rfl Tryz.ntmps71 rfl ?_)
    by_cases hne : r1 = r2
    rotate_left
    · rw [if_pos hne] at hR
      subst hR
      have AN := fun L => rnumbers_gives r1 r2 g L
      have hn1 : Hn (¬ r1 = r2) := ⟨hne⟩
      clear hrs
      repeat' (first | ((with_reducible apply TW.gives_plain); (· kernel_rfl); (· rfl); (· exact R1 _); (· rfl)) | ((with_reducible apply TW.gives_plain); (· kernel_rfl); (· rfl); (· exact R2 _); (· rfl)) | ((with_reducible apply TW.gives_plain); (· kernel_rfl); (· rfl); (· exact AN _); (· rfl)) | refine stS ?_ | (refine stB ?_; intro _) | apply TC.region_draw (by kernel_rfl) (by kernel_rfl) | refine TW.nil ?_ | ((with_reducible apply TW.pure); (· exact yA); (· rfl)) | fail)
      refine TQ.endR1 (L' := L) Tryz.results71 rvA rfl (.refl _) ?_ selA
      exact ⟨rfl, rfl, rfl⟩
    subst hne
    obtain rfl := hrs rfl
    rw [if_neg (by simp)] at hR
    simp only [DV.n, DV.s, DV.names, DV.items] at hR
    clear hrs
    have e1 : r1 = r1 := rfl
    by_cases hk2 : k = 2
    · subst hk2
      rw [if_pos rfl] at hR
      subst hR
      have AN := fun L => rnumbers_gives n n2 g L
      repeat' (first | ((with_reducible apply TW.gives_plain); (· kernel_rfl); (· rfl); (· exact R1 _); (· rfl)) | ((with_reducible apply TW.gives_plain); (· kernel_rfl); (· rfl); (· exact R2 _); (· rfl)) | ((with_reducible apply TL.gives_plain); (· kernel_rfl); (· rfl); (· exact AN _); (· rfl)) | refine stS ?_ | (refine stB ?_; intro _) | apply TC.region_draw (by kernel_rfl) (by kernel_rfl) | refine TW.nil ?_ | ((with_reducible apply TW.pure); (· exact yA); (· rfl)) | fail)
      refine TQ.endR1 (L' := L) Tryz.results71 rvA rfl (.refl _) ?_ selA
      exact ⟨rfl, rfl, rfl⟩
    rw [if_neg hk2] at hR
    by_cases hk3 : k = 3
    · subst hk3
      rw [if_pos rfl] at hR
      subst hR
      have AN := fun L => rbytes_gives s s2 g L
      repeat' (first | ((with_reducible apply TW.gives_plain); (· kernel_rfl); (· rfl); (· exact R1 _); (· rfl)) | ((with_reducible apply TW.gives_plain); (· kernel_rfl); (· rfl); (· exact R2 _); (· rfl)) | ((with_reducible apply TL.gives_plain); (· kernel_rfl); (· rfl); (· exact AN _); (· rfl)) | refine stS ?_ | (refine stB ?_; intro _) | apply TC.region_draw (by kernel_rfl) (by kernel_rfl) | refine TW.nil ?_ | ((with_reducible apply TW.pure); (· exact yA); (· rfl)) | fail)
      refine TQ.endR1 (L' := L) Tryz.results71 rvA rfl (.refl _) ?_ selA
      exact ⟨rfl, rfl, rfl⟩
    rw [if_neg hk3] at hR
    by_cases hk4 : k = 4
    · subst hk4
      rw [if_pos (.inl rfl)] at hR
      have hd5 : decide ((4 : Int) = 5) = false := rfl
      rw [hd5] at hR
      repeat' (first | ((with_reducible apply TW.gives_plain); (· kernel_rfl); (· rfl); (· exact R1 _); (· rfl)) | ((with_reducible apply TW.gives_plain); (· kernel_rfl); (· rfl); (· exact R2 _); (· rfl)) | refine stS ?_ | (refine stB ?_; intro _) | apply TC.region_draw (by kernel_rfl) (by kernel_rfl) | refine TW.nil ?_ | ((with_reducible apply TW.pure); (· exact yA); (· rfl)) | fail)
      rename_i ba bb
      have hcap1 := hi.cap
      have hcap2 := hi2.cap
      refine TC.loopK (fun i : Nat => i ≤ items.length ∧ i ≤ items2.length ∧ cmpVs false (names.drop i) (names2.drop i) (items.drop i) (items2.drop i) items.length items2.length = R) (fun i => items.length - i) (fun i _ => [(5, .int .i64 (i : Nat)), (2, .pointer (some ⟨ba, 0, none⟩)), (3, .pointer (some ⟨bb, 0, none⟩))]) [] (by repeat (first | apply Drop.nil | apply Drop.cons (by (repeat (first | apply Pick.here | apply Pick.there))))) (fun _ L => L) 0 ⟨Nat.zero_le _, Nat.zero_le _, hR.symm⟩ subA selA ?_
      clear hR R1 R2
      rintro i ⟨hi1, hi3, hR⟩
      by_cases hlt : i < items.length ∧ i < items2.length
      · obtain ⟨hl1, hl2⟩ := hlt
        obtain ⟨x, hx⟩ : ∃ x, items[i]? = some x := ⟨_, List.getElem?_eq_getElem hl1⟩
        obtain ⟨y, hy⟩ : ∃ y, items2[i]? = some y := ⟨_, List.getElem?_eq_getElem hl2⟩
        obtain ⟨cs', hV', hl6, hcs⟩ := hfl.get hx
        obtain ⟨ds', hV2', hm6, hds⟩ := hfl2.get hy
        obtain ⟨b1, o1, rfl, hg⟩ := hi.elem hl1 (by decide)
        obtain ⟨b3, o3, rfl, hg3⟩ := hi2.elem hl2 (by decide)
        have hld : ∀ j u, cs'[j]? = some u → g.cell b1 (o1 + i * 6 + j) = some u := fun j u hu => hg j u (hcs j u hu)
        have hld2 : ∀ j u, ds'[j]? = some u → g.cell b3 (o3 + i * 6 + j) = some u := fun j u hu => hg3 j u (hds j u hu)
        have hsz := dsz_get hx
        have A := fun L => IH x y (by omega) cs' ds' g L hV' ((w4 (.inl rfl)).get hx) ((hO.2.2 (.inl rfl)).get hx) hV2' ((v4 (.inl rfl)).get hy) ((hO2.2.2 (.inl rfl)).get hy)
        have hb := cmpV_bd x y
        rw [cmpVs_at hx hy] at hR
        generalize cmpV x y = r at *
        rw [if_neg (by simp)] at hR
        clear hcs hds hg hg3 hV' hV2'
        clear w3 w4 v3 v4 hfl hfl2 hns hns2 hO hO2
        by_cases h0 : r = 0
        · subst h0
          rw [if_neg (by simp)] at hR
          have HR : Hn _ := ⟨hR⟩
          clear hR
          repeat' (first | refine wkV ?_ | ((with_reducible apply TW.gives_plain); (· kernel_rfl); (· rfl); (· exact A _); (· rfl)) | refine wkP ?_ | refine stS ?_ | apply TC.region_draw (by kernel_rfl) (by kernel_rfl) | refine TW.nil ?_ | ((with_reducible apply TW.pure); (· exact yA); (· rfl)) | refine TW.guard_no rfl rfl rfl rfl ?_ | fail)
          refine TQ.round (i + 1) ?_ ?_ rfl subA selA
          · exact ⟨by omega, by omega, HR.out⟩
          · show items.length - (i + 1) < items.length - i
            omega
        · rw [if_pos h0] at hR
          subst hR
          have h00 : Hn (¬ r = 0) := ⟨h0⟩
          clear h0
          repeat' (first | refine wkV ?_ | ((with_reducible apply TW.gives_plain); (· kernel_rfl); (· rfl); (· exact A _); (· rfl)) | refine wkP ?_ | refine stS ?_ | apply TC.region_draw (by kernel_rfl) (by kernel_rfl) | refine TW.nil ?_ | ((with_reducible apply TW.pure); (· exact yA); (· rfl)) | refine TW.guard_no rfl rfl rfl rfl ?_ | fail)
          refine TQ.endR1 (L' := L) Tryz.results71 rvA rfl (.refl _) ?_ selA
          exact ⟨rfl, rfl, rfl⟩
      · rw [cmpVs_end (by omega)] at hR
        subst hR
        have AN := fun L => rnumbers_gives (items.length : Nat) (items2.length : Nat) g L
        clear w3 w4 v3 v4 hfl hfl2 hns hns2 hO hO2
        repeat' (first | ((with_reducible apply TL.gives_plain); (· kernel_rfl); (· rfl); (· exact AN _); (· rfl)) | refine stS ?_ | (refine stC ?_; refine And.intro (fun _ => ?_) (fun _ => ?_)) | fail)
        all_goals
          refine TQ.endR1 (L' := L) Tryz.results71 rvA rfl (.refl _) ?_ selA
          exact ⟨rfl, rfl, rfl⟩
    by_cases hk5 : k = 5
    · subst hk5
      rw [if_pos (.inr rfl)] at hR
      have hd5 : decide ((5 : Int) = 5) = true := rfl
      rw [hd5] at hR
      repeat' (first | ((with_reducible apply TW.gives_plain); (· kernel_rfl); (· rfl); (· exact R1 _); (· rfl)) | ((with_reducible apply TW.gives_plain); (· kernel_rfl); (· rfl); (· exact R2 _); (· rfl)) | refine stS ?_ | (refine stB ?_; intro _) | apply TC.region_draw (by kernel_rfl) (by kernel_rfl) | refine TW.nil ?_ | ((with_reducible apply TW.pure); (· exact yA); (· rfl)) | fail)
      rename_i ba bb
      have hcap1 := hi.cap
      have hcap2 := hi2.cap
      refine TC.loopK (fun i : Nat => i ≤ items.length ∧ i ≤ items2.length ∧ cmpVs true (names.drop i) (names2.drop i) (items.drop i) (items2.drop i) items.length items2.length = R) (fun i => items.length - i) (fun i _ => [(5, .int .i64 (i : Nat)), (2, .pointer (some ⟨ba, 0, none⟩)), (3, .pointer (some ⟨bb, 0, none⟩))]) [] (by repeat (first | apply Drop.nil | apply Drop.cons (by (repeat (first | apply Pick.here | apply Pick.there))))) (fun _ L => L) 0 ⟨Nat.zero_le _, Nat.zero_le _, hR.symm⟩ subA selA ?_
      clear hR R1 R2
      rintro i ⟨hi1, hi3, hR⟩
      by_cases hlt : i < items.length ∧ i < items2.length
      · obtain ⟨hl1, hl2⟩ := hlt
        obtain ⟨x, hx⟩ : ∃ x, items[i]? = some x := ⟨_, List.getElem?_eq_getElem hl1⟩
        obtain ⟨y, hy⟩ : ∃ y, items2[i]? = some y := ⟨_, List.getElem?_eq_getElem hl2⟩
        obtain ⟨cs', hV', hl6, hcs⟩ := hfl.get hx
        obtain ⟨ds', hV2', hm6, hds⟩ := hfl2.get hy
        obtain ⟨b1, o1, rfl, hg⟩ := hi.elem hl1 (by decide)
        obtain ⟨b3, o3, rfl, hg3⟩ := hi2.elem hl2 (by decide)
        have hld : ∀ j u, cs'[j]? = some u → g.cell b1 (o1 + i * 6 + j) = some u := fun j u hu => hg j u (hcs j u hu)
        have hld2 : ∀ j u, ds'[j]? = some u → g.cell b3 (o3 + i * 6 + j) = some u := fun j u hu => hg3 j u (hds j u hu)
        have hsz := dsz_get hx
        have A := fun L => IH x y (by omega) cs' ds' g L hV' ((w4 (.inr rfl)).get hx) ((hO.2.2 (.inr rfl)).get hx) hV2' ((v4 (.inr rfl)).get hy) ((hO2.2.2 (.inr rfl)).get hy)
        have hb := cmpV_bd x y
        rw [cmpVs_at hx hy] at hR
        generalize cmpV x y = r at *
        obtain ⟨n5a, n5b⟩ := w3 rfl
        obtain ⟨m5a, m5b⟩ := v3 rfl
        obtain ⟨nm, hnm⟩ : ∃ nm, names[i]? = some nm := ⟨_, List.getElem?_eq_getElem (by omega)⟩
        obtain ⟨mm, hmm⟩ : ∃ mm, names2[i]? = some mm := ⟨_, List.getElem?_eq_getElem (by omega)⟩
        obtain ⟨b2, o2, rfl, hg2⟩ := hn.elem (i := i) (by omega) (by decide)
        obtain ⟨b4, o4, rfl, hg4⟩ := hn2.elem (i := i) (by omega) (by decide)
        have hln : g.cell b2 (o2 + i * 1) = some (str nm) := hg2 0 _ (by rw [Nat.mul_one]; exact strs_get hnm)
        have hln2 : g.cell b4 (o4 + i * 1) = some (str mm) := hg4 0 _ (by rw [Nat.mul_one]; exact strs_get hmm)
        rw [List.headD_eq_head?_getD, List.headD_eq_head?_getD, List.head?_drop, List.head?_drop, hnm, hmm] at hR
        simp only [Option.getD_some, true_and] at hR
        have AB := fun L => rbytes_gives nm mm g L
        clear hg2 hg4 n5b m5b
        by_cases hnn : nm = mm
        rotate_left
        · rw [if_pos hnn] at hR
          subst hR
          have hq : Hn (¬ nm = mm) := ⟨hnn⟩
          clear hcs hds hg hg3 hV' hV2' w3 w4 v3 v4 hfl hfl2 hns hns2 hO hO2 hnn
          repeat' (first | refine wkV ?_ | ((with_reducible apply TW.gives_plain); (· kernel_rfl); (· rfl); (· exact AB _); (· rfl)) | refine wkP ?_ | refine stS ?_ | apply TC.region_draw (by kernel_rfl) (by kernel_rfl) | refine TW.nil ?_ | ((with_reducible apply TW.pure); (· exact yA); (· rfl)) | refine TW.guard_yes rfl rfl ?_ | fail)
          refine TQ.endR1 (L' := L) Tryz.results71 rvA rfl (.refl _) ?_ selA
          exact ⟨rfl, rfl, rfl⟩
        rw [if_neg (by simpa using hnn)] at hR
        subst hnn
        have e2 : nm = nm := rfl
        clear hcs hds hg hg3 hV' hV2'
        clear w3 w4 v3 v4 hfl hfl2 hns hns2 hO hO2
        by_cases h0 : r = 0
        · subst h0
          rw [if_neg (by simp)] at hR
          have HR : Hn _ := ⟨hR⟩
          clear hR
          repeat' (first | refine wkV ?_ | ((with_reducible apply TW.gives_plain); (· kernel_rfl); (· rfl); (· exact A _); (· rfl)) | refine wkP ?_ | refine stS ?_ | apply TC.region_draw (by kernel_rfl) (by kernel_rfl) | refine TW.nil ?_ | ((with_reducible apply TW.pure); (· exact yA); (· rfl)) | refine TW.guard_yes rfl rfl ?_ | fail)
          refine TQ.round (i + 1) ?_ ?_ rfl subA selA
          · exact ⟨by omega, by omega, HR.out⟩
          · show items.length - (i + 1) < items.length - i
            omega
        · rw [if_pos h0] at hR
          subst hR
          have h00 : Hn (¬ r = 0) := ⟨h0⟩
          clear h0
          repeat' (first | refine wkV ?_ | ((with_reducible apply TW.gives_plain); (· kernel_rfl); (· rfl); (· exact A _); (· rfl)) | refine wkP ?_ | refine stS ?_ | apply TC.region_draw (by kernel_rfl) (by kernel_rfl) | refine TW.nil ?_ | ((with_reducible apply TW.pure); (· exact yA); (· rfl)) | refine TW.guard_yes rfl rfl ?_ | fail)
          refine TQ.endR1 (L' := L) Tryz.results71 rvA rfl (.refl _) ?_ selA
          exact ⟨rfl, rfl, rfl⟩
      · rw [cmpVs_end (by omega)] at hR
        subst hR
        have AN := fun L => rnumbers_gives (items.length : Nat) (items2.length : Nat) g L
        clear w3 w4 v3 v4 hfl hfl2 hns hns2 hO hO2
        repeat' (first | ((with_reducible apply TL.gives_plain); (· kernel_rfl); (· rfl); (· exact AN _); (· rfl)) | refine stS ?_ | (refine stC ?_; refine And.intro (fun _ => ?_) (fun _ => ?_)) | fail)
        all_goals
          refine TQ.endR1 (L' := L) Tryz.results71 rvA rfl (.refl _) ?_ selA
          exact ⟨rfl, rfl, rfl⟩
    rw [if_neg (by omega)] at hR
    subst hR
    have m2 : Hn (¬ k = 2) := ⟨hk2⟩
    have m3 : Hn (¬ k = 3) := ⟨hk3⟩
    have m4 : Hn (¬ k = 4) := ⟨hk4⟩
    have m5 : Hn (¬ k = 5) := ⟨hk5⟩
    repeat' (first | ((with_reducible apply TW.gives_plain); (· kernel_rfl); (· rfl); (· exact R1 _); (· rfl)) | ((with_reducible apply TW.gives_plain); (· kernel_rfl); (· rfl); (· exact R2 _); (· rfl)) | refine stS ?_ | (refine stB ?_; intro _) | apply TC.region_draw (by kernel_rfl) (by kernel_rfl) | refine TW.nil ?_ | ((with_reducible apply TW.pure); (· exact yA); (· rfl)) | fail)
    refine TQ.endR1 (L' := L) Tryz.results71 rvA rfl (.refl _) ?_ selA
    exact ⟨rfl, rfl, rfl⟩
end Go.Proofs.YthngolfabfijpaaGreatDoor
