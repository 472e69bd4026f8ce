/-
  The walk of the document's Light. The walk of layer 9's awake.
-/
import Derived.Test.YtklmfbildebimaaGreatDoorSr2
import Derived.Test.YtklmfbildebimaaGreatDoorSr5
import Derived.Test.YtklmfbildebimaaGreatDoorSr40
namespace Go.Proofs.YtklmfbildebimaaGreatDoor
open Go.RowKit Go.TL
set_option maxRecDepth 100000

set_option maxHeartbeats 8000000 in
theorem count_gives : ∀ (N : Nat) (x : DV), dsz x ≤ N → ∀ (cs : List Value) (g : Gh) (L : List Ent) (left : Int), IsV g x cs → 0 ≤ left → left ≤ 1000 → Gives Tryz.prog 21 #[.agg cs.toArray, .int .i64 left] g L (.int .i64 (cnt x left))
  | 0, .mk .., h, _, _, _, _, _, _, _ => by rw [dsz] at h; omega
  | N + 1, .mk k b n s items names, hN, cs, g, L, left, hV, l0, l1 => by
    have IH := count_gives N
    rw [dsz] at hN
    rw [IsV] at hV
    obtain ⟨vi, vn, flat, rfl, ⟨k0, k1⟩, _, hs, hi, hil, hfl, hn, hnl, hns⟩ := hV
    obtain ⟨aoi, capi, rfl⟩ := hi.slice
    obtain ⟨aon, capn, rfl⟩ := hn.slice
    obtain ⟨R, hR⟩ : ∃ R, R = cnt (.mk k b n s items names) left := ⟨_, rfl⟩
    rw [← hR]
    rw [cnt] at hR
    refine .of (Does.of2 Tryz.func21 rfl Tryz.ntmps21 rfl ?_)
    by_cases hb1 : left - 1 < 0
    · rw [if_pos (.inl hb1)] at hR
      subst hR
      repeat' (first
    | refine stS ?_ | (refine stB ?_; intro _) | (refine stC ?_; refine And.intro (fun _ => ?_) (fun _ => ?_)))
      refine TQ.endR1 (L' := L) Tryz.results21 rvA rfl (.refl _) ?_ selA
      exact ⟨rfl, rfl, rfl⟩
    by_cases hb2 : 300 < s.length
    · rw [if_pos (.inr (.inl hb2))] at hR
      subst hR
      repeat' (first
    | refine stS ?_ | (refine stB ?_; intro _) | (refine stC ?_; refine And.intro (fun _ => ?_) (fun _ => ?_)))
      refine TQ.endR1 (L' := L) Tryz.results21 rvA rfl (.refl _) ?_ selA
      exact ⟨rfl, rfl, rfl⟩
    by_cases hb3 : 300 < items.length
    · rw [if_pos (.inr (.inr (.inl hb3)))] at hR
      subst hR
      repeat' (first
    | refine stS ?_ | (refine stB ?_; intro _) | (refine stC ?_; refine And.intro (fun _ => ?_) (fun _ => ?_)))
      refine TQ.endR1 (L' := L) Tryz.results21 rvA rfl (.refl _) ?_ selA
      exact ⟨rfl, rfl, rfl⟩
    by_cases hk5 : k = 5
    · subst hk5
      by_cases hb4 : names.length = items.length
      · rw [if_neg (by omega), if_pos (.inr rfl)] at hR
        repeat' (first
    | refine stS ?_ | (refine stB ?_; intro _) | (refine stC ?_; refine And.intro (fun _ => ?_) (fun _ => ?_)))
        rename_i bo
        refine TC.loopK (fun x : Nat × Int => x.1 ≤ items.length ∧ 0 ≤ x.2 ∧ x.2 ≤ 1000 ∧ cnts true (names.drop x.1) (items.drop x.1) x.2 = R) (fun x => items.length - x.1) (fun x _ => [(5, .int .i64 (x.1 : Nat)), (1, .int .i64 x.2), (2, .pointer (some ⟨bo, 0, none⟩))]) [] (by repeat (first | apply Drop.nil | apply Drop.cons (by (repeat (first | apply Pick.here | apply Pick.there))))) (fun _ L => L) (0, left - 1) ⟨Nat.zero_le _, by omega, by omega, by rw [hR]; rfl⟩ subA selA ?_
        clear hR
        rintro ⟨i, l⟩ ⟨hi1, m0, m1, hR⟩
        dsimp only at hi1 m0 m1 hR ⊢
        by_cases hlt : i < items.length
        · obtain ⟨x, hx⟩ : ∃ x, items[i]? = some x := ⟨_, List.getElem?_eq_getElem hlt⟩
          obtain ⟨nm, hnm⟩ : ∃ nm, names[i]? = some nm := ⟨_, List.getElem?_eq_getElem (by omega)⟩
          obtain ⟨cs', hV', hl6, hcs⟩ := hfl.get hx
          obtain ⟨b1, o1, rfl, hg⟩ := hi.elem hlt (by decide)
          obtain ⟨b2, o2, rfl, hg2⟩ := hn.elem (i := i) (by omega) (by decide)
          have hld : ∀ j u, cs'[j]? = some u → g.cell b1 (o1 + i * 6 + j) = some u := fun j u hu => hg j u (hcs j u hu)
          have hln : g.cell b2 (o2 + i * 1) = some (str nm) := hg2 0 _ (by rw [Nat.mul_one]; exact strs_get hnm)
          have hnmb := hns nm (List.mem_of_getElem? hnm)
          have hsz := dsz_get hx
          rw [cnts_at hx, List.headD_eq_head?_getD, List.head?_drop, hnm] at hR
          obtain ⟨c0, c1⟩ := cnt_bd x l m0 m1
          have A := fun L => IH x (by omega) cs' g L l hV' m0 m1
          generalize cnt x l = r at *
          clear hfl hi hn hcs hg hg2 hns hV'
          simp only [Option.getD_some, true_and] at hR
          have hR1 : 300 < nm.length → R = -1 := fun h => by rw [if_pos h] at hR; exact hR.symm
          have hR2 : ¬ 300 < nm.length → r < 0 → R = -1 := fun h h2 => by rw [if_neg h, if_pos h2] at hR; exact hR.symm
          have hR3 : ¬ 300 < nm.length → ¬ r < 0 → cnts true (names.drop (i + 1)) (items.drop (i + 1)) r = R := fun h h2 => by rw [if_neg h, if_neg h2] at hR; exact hR
          clear hR
          repeat' (first
    | refine wkV ?_
    | ((with_reducible apply TL.gives_plain); (· kernel_rfl); (· rfl); (· exact A _); (· rfl)) | ((with_reducible apply TW.gives_plain); (· kernel_rfl); (· rfl); (· exact A _); (· rfl))
    | refine stS ?_ | (refine stB ?_; intro _) | (refine stC ?_; refine And.intro (fun _ => ?_) (fun _ => ?_)))
          · obtain rfl := hR1 (by omega)
            refine TQ.endR1 (L' := L) Tryz.results21 rvA rfl (.refl _) ?_ selA
            exact ⟨rfl, rfl, rfl⟩
          · obtain rfl := hR2 (by omega) (by omega)
            refine TQ.endR1 (L' := L) Tryz.results21 rvA rfl (.refl _) ?_ selA
            exact ⟨rfl, rfl, rfl⟩
          · refine TQ.round (i + 1, r) ?_ ?_ rfl subA selA
            · exact ⟨by omega, by omega, c1, hR3 (by omega) (by omega)⟩
            · show items.length - (i + 1) < items.length - i
              omega
        · obtain rfl : i = items.length := by omega
          rw [List.drop_length, cnts] at hR
          subst hR
          repeat' (first
    | refine stS ?_ | (refine stB ?_; intro _) | (refine stC ?_; refine And.intro (fun _ => ?_) (fun _ => ?_)))
          refine TQ.endR1 (L' := L) Tryz.results21 rvA rfl (.refl _) ?_ selA
          exact ⟨rfl, rfl, rfl⟩
      · rw [if_pos (.inr (.inr (.inr ⟨rfl, hb4⟩)))] at hR
        subst hR
        repeat' (first
    | refine stS ?_ | (refine stB ?_; intro _) | (refine stC ?_; refine And.intro (fun _ => ?_) (fun _ => ?_)))
        refine TQ.endR1 (L' := L) Tryz.results21 rvA rfl (.refl _) ?_ selA
        exact ⟨rfl, rfl, rfl⟩
    by_cases hk4 : k = 4
    · subst hk4
      rw [if_neg (by omega), if_pos (.inl rfl)] at hR
      repeat' (first
    | refine stS ?_ | (refine stB ?_; intro _) | (refine stC ?_; refine And.intro (fun _ => ?_) (fun _ => ?_)))
      rename_i bo
      refine TC.loopK (fun x : Nat × Int => x.1 ≤ items.length ∧ 0 ≤ x.2 ∧ x.2 ≤ 1000 ∧ cnts false (names.drop x.1) (items.drop x.1) x.2 = R) (fun x => items.length - x.1) (fun x _ => [(5, .int .i64 (x.1 : Nat)), (1, .int .i64 x.2), (2, .pointer (some ⟨bo, 0, none⟩))]) [] (by repeat (first | apply Drop.nil | apply Drop.cons (by (repeat (first | apply Pick.here | apply Pick.there))))) (fun _ L => L) (0, left - 1) ⟨Nat.zero_le _, by omega, by omega, by rw [hR]; rfl⟩ subA selA ?_
      clear hR
      rintro ⟨i, l⟩ ⟨hi1, m0, m1, hR⟩
      dsimp only at hi1 m0 m1 hR ⊢
      by_cases hlt : i < items.length
      · obtain ⟨x, hx⟩ : ∃ x, items[i]? = some x := ⟨_, List.getElem?_eq_getElem hlt⟩
        obtain ⟨cs', hV', hl6, hcs⟩ := hfl.get hx
        obtain ⟨b1, o1, rfl, hg⟩ := hi.elem hlt (by decide)
        have hld : ∀ j u, cs'[j]? = some u → g.cell b1 (o1 + i * 6 + j) = some u := fun j u hu => hg j u (hcs j u hu)
        have hsz := dsz_get hx
        rw [cnts_at hx, if_neg (by simp)] at hR
        obtain ⟨c0, c1⟩ := cnt_bd x l m0 m1
        have A := fun L => IH x (by omega) cs' g L l hV' m0 m1
        generalize cnt x l = r at *
        clear hfl hi hn hcs hg hns hV'
        have hR2 : r < 0 → R = -1 := fun h2 => by rw [if_pos h2] at hR; exact hR.symm
        have hR3 : ¬ r < 0 → cnts false (names.drop (i + 1)) (items.drop (i + 1)) r = R := fun h2 => by rw [if_neg h2] at hR; exact hR
        clear hR
        repeat' (first
    | refine wkV ?_
    | ((with_reducible apply TL.gives_plain); (· kernel_rfl); (· rfl); (· exact A _); (· rfl)) | ((with_reducible apply TW.gives_plain); (· kernel_rfl); (· rfl); (· exact A _); (· rfl))
    | refine stS ?_ | (refine stB ?_; intro _) | (refine stC ?_; refine And.intro (fun _ => ?_) (fun _ => ?_)))
        · obtain rfl := hR2 (by omega)
          refine TQ.endR1 (L' := L) Tryz.results21 rvA rfl (.refl _) ?_ selA
          exact ⟨rfl, rfl, rfl⟩
        · refine TQ.round (i + 1, r) ?_ ?_ rfl subA selA
          · exact ⟨by omega, by omega, c1, hR3 (by omega)⟩
          · show items.length - (i + 1) < items.length - i
            omega
      · obtain rfl : i = items.length := by omega
        rw [List.drop_length, cnts] at hR
        subst hR
        repeat' (first
    | refine stS ?_ | (refine stB ?_; intro _) | (refine stC ?_; refine And.intro (fun _ => ?_) (fun _ => ?_)))
        refine TQ.endR1 (L' := L) Tryz.results21 rvA rfl (.refl _) ?_ selA
        exact ⟨rfl, rfl, rfl⟩
    rw [if_neg (by omega), if_neg (by omega)] at hR
    subst hR
    have n5 : Hn (¬ k = 5) := ⟨hk5⟩
    have n4 : Hn (¬ k = 4) := ⟨hk4⟩
    repeat' (first
    | refine stS ?_ | (refine stB ?_; intro _) | (refine stC ?_; refine And.intro (fun _ => ?_) (fun _ => ?_)))
    refine TQ.endR1 (L' := L) Tryz.results21 rvA rfl (.refl _) ?_ selA
    exact ⟨rfl, rfl, rfl⟩
set_option maxHeartbeats 4000000 in
theorem light_gives (x : DV) (cs : List Value) (g : Gh) (L : List Ent) (hV : IsV g x cs) : Gives Tryz.prog 5 #[.agg cs.toArray] g L (.bool (lightB x)) := by
  refine .of (Does.of1 Tryz.func5 rfl Tryz.ntmps5 rfl ?_)
  have A := fun L => count_gives _ x (Nat.le_refl _) cs g L 300 hV (by decide) (by decide)
  obtain ⟨c0, c1⟩ := cnt_bd x 300 (by decide) (by decide)
  unfold lightB
  generalize cnt x 300 = r at *
  have h6 := hV.len
  clear hV
  repeat' (first
    | refine wkV ?_
    | ((with_reducible apply TL.gives_plain); (· kernel_rfl); (· rfl); (· exact A _); (· rfl)) | ((with_reducible apply TW.gives_plain); (· kernel_rfl); (· rfl); (· exact A _); (· rfl))
    | refine stS ?_ | (refine stB ?_; intro _) | (refine stC ?_; refine And.intro (fun _ => ?_) (fun _ => ?_)))
  all_goals
    refine TQ.endR1 (L' := L) Tryz.results5 rvA rfl (.refl _) ?_ selA
    exact ⟨rfl, rfl, rfl⟩
end Go.Proofs.YtklmfbildebimaaGreatDoor
namespace Go.Proofs.YtklmfbildebimaaGreatDoor
open Go.RowKit Go.TL
set_option maxRecDepth 100000

abbrev aw9P : Pt := (15000000, -20000000)
abbrev aw9R : Rc := ⟨0, 0, 10, 10⟩
theorem aw9a : readX (tellJ 0 [[aw9P]]) = some (0, [[aw9P]]) := by kernel_rfl
theorem aw9b : readX (.num 1) = none := by kernel_rfl
theorem aw9c : ofOk aw9R = true := by kernel_rfl
theorem aw9d : inX 2 [rectL aw9R] (5, 5) = true := by kernel_rfl
theorem aw9e : inX 2 [rectL aw9R] (11, 5) = false := by kernel_rfl
theorem aw9f : rightB 0 [[aw9P]] = true := by kernel_rfl
set_option maxHeartbeats 32000000 in
theorem awake09_gives {g : Gh} {L : List Ent} (hT : GTabs g) (hU : GU8 g) : Gives Tryz.prog 10 #[] g L (.bool true) := by
  refine .of (Does.of0 Tryz.func10 rfl Tryz.ntmps10 rfl ?_)
  have R1 := fun (g1 : Gh) (h : g.le g1) (v : Value) (hv : IsJ g1 (tellJ 0 [[aw9P]]) v) L => sRead_does _ v g1 L hv (by simp [tellJ, whereJ, kindN, ptJ, headS, smJ, smJs]) (hT.le h) (hU.le h)
  have R2 := fun (g1 : Gh) (h : g.le g1) (v : Value) (hv : IsJ g1 (.num 1) v) L => sRead_does _ v g1 L hv (by rw [smJ]; trivial) (hT.le h) (hU.le h)
  have OF := fun g1 L => sOf_does aw9R g1 L
  rw [aw9a] at R1
  rw [aw9b] at R2
  unfold ReadXR at R1 R2
  unfold OfR at OF
  rw [aw9c] at OF
  dsimp only at R1 R2 OF
  have hO2 : ShOk [rectL aw9R] := ok_one (by decide)
  repeat' (first
    | refine wkQ ?_
    | (refine TL.build_slice (d := 11) (by rfl) (by rfl) (by exact oneA) (by rfl) (by rfl) (by rfl) (fun bb => ?_); refine TL.freeze_obj (k := 2) bb 1 .here rfl (by decide) ?_; rintro g1 h1 s1; have j1 := ptJ_is (p := aw9P) (by decide) s1; clear s1)
    | (refine TL.build_rows (d := 14) (len := 2) (sz := 2) [[str typeB, .iface 9 (str pointB)], [str coordB, .iface 63 (.slice (some ⟨_, 0, none⟩) 2 2)]] (by rfl) (by rfl) (by rfl) (by rfl) (by rfl) (by rfl) (by rfl) (by rfl) (fun bb => ?_); refine TL.freeze_obj (k := 2) bb 2 .here rfl (by decide) ?_; rintro g2 h2 s2; have j2 := tell_is (k := 0) (ps := [[aw9P]]) s2 (j1.le h2 _ _); clear s2 j1; have h02 := h1.trans h2; have Q1 := R1 g2 h02 _ j2; clear R1 j2)
    | refine wkV ?_
    | refine stS ?_ | (refine stB ?_; intro _) | (refine stC ?_; refine And.intro (fun _ => ?_) (fun _ => ?_)))
  repeat' (first
    | refine wkQ ?_
    | (refine TL.call (Enters.plain (by kernel_rfl) (by rfl)) (by rfl) (Q1 _) ?_; (rintro e g3 Ln h3 ⟨vp, k2, k1, k3⟩; subst k1; subst k2; obtain ⟨b, o, cap, q, u, rfl, _, hq, _, _, _, hld, hSu⟩ := first_part aw9f k3; obtain rfl : [aw9P] = q := (by simpa using hq); obtain ⟨au, cu, rfl⟩ := hSu.slice; have HLD := Hn.mk hld; have HSU := Hn.mk hSu; have h03 := h02.trans h3; clear k3 hq hld hSu Q1; refine CallK.ret ?_))
    | (refine TL.call (Enters.plain (by kernel_rfl) (by rfl)) (by rfl) (OF _ _) ?_; (rintro e g4 Ln h4 ⟨vq, k2, k1, k3⟩; subst k1; subst k2; obtain ⟨aq, cq, rfl⟩ : ∃ a c, vq = .slice a [rectL aw9R].length c := (by obtain ⟨_, h, _⟩ := k3; exact h.slice); have KQ := Hn.mk k3; have h04 := h03.trans h4; have Q2 := R2 g4 h04 (.iface 61 (.int .i64 1)) (by rw [IsJ]; exact ⟨rfl, by decide, by decide⟩); clear k3 R2; refine CallK.ret ?_))
    | (refine TL.call (Enters.plain (by kernel_rfl) (by rfl)) (by rfl) (Q2 _) ?_; (rintro e g5 Ln h5 ⟨vz, k2, k1, k3⟩; subst k1; subst k2; subst k3; refine CallK.ret ?_))
    | refine wkV ?_
    | refine stS ?_ | (refine stB ?_; intro _) | (refine stC ?_; refine And.intro (fun _ => ?_) (fun _ => ?_)))
  have h35 := h4.trans h5
  have hld := h35.cell HLD.out
  have hSu := HSU.out.le h35
  obtain ⟨b3, o3, rfl, hg3⟩ := hSu.elem (i := 0) (by decide) (by decide)
  have hldp := pt_cells (p := aw9P) hg3 rfl rfl
  have hll : [Value.int .i64 aw9P.1, .int .i64 aw9P.2].length = 2 := rfl
  have I1 := fun L => sIn_gives 2 [rectL aw9R] (.slice aq [rectL aw9R].length cq) (5, 5) g5 L (KQ.out.le h5) hO2
  have I2 := fun L => sIn_gives 2 [rectL aw9R] (.slice aq [rectL aw9R].length cq) (11, 5) g5 L (KQ.out.le h5) hO2
  rw [aw9d] at I1
  rw [aw9e] at I2
  have h05 := h04.trans h5
  clear hg3 hSu HSU HLD KQ Q2 OF hT hU hO2
  repeat' (first
    | refine wkQ ?_
    | ((with_reducible apply TL.pure (d := 55) (v := .bool true)); (· exact Y.eql_pt (p := aw9P) (q := aw9P) (decide_eq_true rfl) rfl rfl); (· rfl)) | ((with_reducible apply TW.pure (d := 55) (v := .bool true)); (· exact Y.eql_pt (p := aw9P) (q := aw9P) (decide_eq_true rfl) rfl rfl); (· rfl))
    | refine wkV ?_
    | ((with_reducible apply TL.pure); (· exact yM); (· rfl)) | ((with_reducible apply TW.pure); (· exact yM); (· rfl))
    | ((with_reducible apply TL.gives_plain); (· kernel_rfl); (· rfl); (· exact I1 _); (· rfl)) | ((with_reducible apply TW.gives_plain); (· kernel_rfl); (· rfl); (· exact I1 _); (· rfl))
    | ((with_reducible apply TL.gives_plain); (· kernel_rfl); (· rfl); (· exact I2 _); (· rfl)) | ((with_reducible apply TW.gives_plain); (· kernel_rfl); (· rfl); (· exact I2 _); (· rfl))
    | refine stS ?_ | (refine stB ?_; intro _) | (refine stC ?_; refine And.intro (fun _ => ?_) (fun _ => ?_)))
  refine TQ.less h05 ?_
  refine TQ.endR1 (L' := Ln) Tryz.results10 rvA rfl (.refl _) ?_ selF
  exact ⟨rfl, rfl, rfl⟩
end Go.Proofs.YtklmfbildebimaaGreatDoor
