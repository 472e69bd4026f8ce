/-
  The walk of update's Right.
-/
import Derived.Test.YthngolfabfijpaaGreatDoorHc2
import Derived.Test.YthngolfabfijpaaGreatDoorHc33
namespace Go.Proofs.YthngolfabfijpaaGreatDoor
open Go.RowKit Go.TL
set_option maxRecDepth 100000

theorem partsOk_unset : ∀ (ps : List (List UInt8)) (vs ws : List J), ps.length = vs.length → ps.length = ws.length → partsOk unsetB ps vs = partsOk unsetB ps ws
  | [], _, _, _, _ => by rw [partsOk, partsOk] <;> (intros; simp_all)
  | p :: ps, [], _, h, _ => by cases h
  | p :: ps, _ :: _, [], _, h => by cases h
  | p :: ps, v :: vs, w :: ws, h, k => by
    rw [partsOk, partsOk, partsOk_unset ps vs ws (by simpa using h) (by simpa using k)]
    rfl
theorem parts_none {nm : List UInt8} {y : J} (h : partsP nm y = none) : partsU nm y = none := by
  unfold partsP at h
  unfold partsU
  by_cases e : nm = unsetB
  · rw [if_pos e] at h ⊢
    cases y with
    | list xs =>
      dsimp only at h ⊢
      rw [Option.map_eq_none_iff] at h ⊢
      exact h
    | _ => rfl
  · rw [if_neg e] at h ⊢
    cases y with
    | obj ns xs => cases h
    | _ => rfl
theorem parts_some {nm : List UInt8} {y : J} {ps : List (List UInt8)} {ws : List J} (ly : lenJ y) (h : partsP nm y = some (ps, ws)) : ∃ vs, partsU nm y = some (ps, vs) ∧ partsOk nm ps ws = partsOk nm ps vs ∧ ps.length = vs.length ∧ ps.length = ws.length ∧ (nm ≠ unsetB → vs = ws) := by
  unfold partsP at h
  unfold partsU
  split at h
  · rename_i e
    rw [if_pos e]
    subst e
    split at h
    · rename_i xs
      obtain ⟨l, hl, he⟩ := Option.map_eq_some_iff.1 h
      obtain ⟨rfl, rfl⟩ := Prod.mk.inj he
      have h1 := textsJ_len hl
      dsimp only
      rw [hl]
      exact ⟨xs, rfl, partsOk_unset _ _ _ (by rw [List.length_map]) h1, h1, by rw [List.length_map], fun hn => absurd rfl hn⟩
    · cases h
  · rename_i e
    rw [if_neg e]
    split at h
    · rename_i ns xs
      obtain ⟨rfl, rfl⟩ := Prod.mk.inj (Option.some.inj h)
      rw [lenJ] at ly
      exact ⟨xs, rfl, rfl, ly.1, ly.1, fun _ => rfl⟩
    · cases h
theorem parts_sm {nm : List UInt8} {y : J} {ps : List (List UInt8)} {ws : List J} (sy : smJ y) (h : partsP nm y = some (ps, ws)) : smJs ws ∧ ws.length ≤ 1000000 := by
  unfold partsP at h
  split at h
  · split at h
    · rename_i xs
      obtain ⟨l, hl, he⟩ := Option.map_eq_some_iff.1 h
      obtain ⟨rfl, rfl⟩ := Prod.mk.inj he
      rw [smJ] at sy
      have h1 := textsJ_len hl
      refine ⟨?_, by rw [List.length_map]; omega⟩
      clear h hl he h1 sy
      induction l with
      | nil => rw [List.map_nil, smJs]; trivial
      | cons a r ih => rw [List.map_cons, smJs, smJ]; exact ⟨trivial, ih⟩
    · cases h
  · split at h
    · obtain ⟨rfl, rfl⟩ := Prod.mk.inj (Option.some.inj h)
      rw [smJ] at sy
      exact ⟨sy.2.2, sy.1⟩
    · cases h
theorem parts_len {nm : List UInt8} {y : J} {ps : List (List UInt8)} {ws : List J} (sy : smJ y) (h : partsP nm y = some (ps, ws)) : ∀ p ∈ ps, p.length ≤ 1000000 := by
  unfold partsP at h
  split at h
  · split at h
    · rename_i xs
      obtain ⟨l, hl, he⟩ := Option.map_eq_some_iff.1 h
      obtain ⟨rfl, rfl⟩ := Prod.mk.inj he
      rw [smJ] at sy
      exact texts_len xs l sy.2 hl
    · cases h
  · split at h
    · obtain ⟨rfl, rfl⟩ := Prod.mk.inj (Option.some.inj h)
      rw [smJ] at sy
      exact sy.2.1
    · cases h
where
  texts_len : ∀ (xs : List J) (l : List (List UInt8)), smJs xs → textsJ xs = some l → ∀ p ∈ l, p.length ≤ 1000000
    | [], l, _, h => by rw [textsJ] at h; obtain rfl := Option.some.inj h; intro p hp; cases hp
    | x :: r, l, hs, h => by
      rw [smJs] at hs
      cases x with
      | text s =>
        obtain ⟨k, hk, rfl⟩ := Option.map_eq_some_iff.1 (show (textsJ r).map (s :: ·) = some l from h)
        intro p hp
        rcases List.mem_cons.1 hp with rfl | hp
        · have := hs.1; rw [smJ] at this; exact this
        · exact texts_len r k hs.2 hk p hp
      | _ => exact nomatch (show none = some l from h)
theorem rights_at {ns : List (List UInt8)} {xs : List J} {i : Nat} {n : List UInt8} {x : J} (h1 : ns[i]? = some n) (h2 : xs[i]? = some x) : rightsU (ns.drop i) (xs.drop i) = (rightM n x && rightsU (ns.drop (i + 1)) (xs.drop (i + 1))) := by
  rw [drop_of_get h1, drop_of_get h2, rightsU]
theorem count_at {ns : List (List UInt8)} {xs : List J} {i : Nat} {n : List UInt8} {x : J} (h1 : ns[i]? = some n) (h2 : xs[i]? = some x) : countU (ns.drop i) (xs.drop i) = 1 + lenU n x + countU (ns.drop (i + 1)) (xs.drop (i + 1)) := by
  rw [drop_of_get h1, drop_of_get h2, countU]
theorem partsOk_at {nm : List UInt8} {ps : List (List UInt8)} {vs : List J} {i : Nat} {p : List UInt8} {v : J} (h1 : ps[i]? = some p) (h2 : vs[i]? = some v) : partsOk nm (ps.drop i) (vs.drop i) = ((stepsL p).isSome && mayU nm v && partsOk nm (ps.drop (i + 1)) (vs.drop (i + 1))) := by
  rw [drop_of_get h1, drop_of_get h2, partsOk]
structure RiI (ns : List (List UInt8)) (xs : List J) (g0 : Gh) (R : Bool) (x : Nat × Int × Gh) : Prop where
  le : x.1 ≤ xs.length
  ct : 0 ≤ x.2.1 ∧ x.2.1 ≤ 100
  gl : g0.le x.2.2
  re : (rightsU (ns.drop x.1) (xs.drop x.1) && decide (x.2.1 + (countU (ns.drop x.1) (xs.drop x.1) : Nat) ≤ 100)) = R
structure RkI (nm : List UInt8) (ps : List (List UInt8)) (vs : List J) (g0 : Gh) (B : Bool) (x : Nat × Gh) : Prop where
  le : x.1 ≤ ps.length
  gl : g0.le x.2
  re : partsOk nm (ps.drop x.1) (vs.drop x.1) = B
set_option maxHeartbeats 64000000 in
theorem uRight_does (y : J) (u : Value) (g : Gh) (L : List Ent) (hy : IsJ g y u) (sy : smJ y) (ly : lenJ y) (hT : GTabs g) (hU : GU8 g) : Does Tryz.prog 19 #[u] g L fun e _ L1 => e = .returned (.bool (rightU y)) ∧ L1 = L := by
  refine Does.of1 Tryz.func19 rfl Tryz.ntmps19 rfl ?_
  have MM := fun L => may_gives y u g L hy sy hT hU
  have ou := hy.one
  cases y with
  | obj ns xs =>
    have hy0 := hy
    rw [IsJ] at hy
    obtain ⟨sl, flat, rfl, hS, hM⟩ := hy
    obtain ⟨ao, cap, rfl⟩ := hS.slice
    have hnl := hM.len
    have hsm := sy
    rw [smJ] at hsm
    have hl0 := ly
    rw [lenJ] at hl0
    unfold rightU
    dsimp only
    by_cases hx0 : xs = []
    · have hr : decide (xs ≠ []) = false := decide_eq_false fun h => h hx0
      rw [hr, Bool.false_and, Bool.false_and, Bool.false_and]
      subst hx0
      clear hy0 hS hM MM hr
      repeat' (first
    | refine wkQ ?_
    | refine wkV ?_
    | refine stS ?_ | (refine stB ?_; intro _) | (refine stC ?_; refine And.intro (fun _ => ?_) (fun _ => ?_)))
      refine TQ.endR1 (L' := L) Tryz.results19 rvA rfl (.refl _) ?_ selF
      exact ⟨rfl, rfl⟩
    have hr : decide (xs ≠ []) = true := decide_eq_true hx0
    have hpos : Hn (¬ ((xs.length : Nat) : Int) = 0) := ⟨fun e => hx0 (List.length_eq_zero_iff.1 (by omega))⟩
    rw [hr, Bool.true_and]
    by_cases h0 : lookJ (.obj ns xs) 0 = 0
    case neg =>
      rw [decide_eq_false h0, Bool.false_and, Bool.false_and]
      have hk : Hn (¬ ((lookJ (.obj ns xs) 0 : Nat) : Int) = 0) := ⟨by omega⟩
      generalize lookJ (.obj ns xs) 0 = k at *
      clear hy0 hS hM hr
      repeat' (first
    | refine wkQ ?_
    | refine wkV ?_
    | ((with_reducible apply TL.gives_plain); (· kernel_rfl); (· rfl); (· exact MM _); (· rfl)) | ((with_reducible apply TW.gives_plain); (· kernel_rfl); (· rfl); (· exact MM _); (· rfl))
    | refine stS ?_ | (refine stB ?_; intro _) | (refine stC ?_; refine And.intro (fun _ => ?_) (fun _ => ?_)))
      refine TQ.endR1 (L' := L) Tryz.results19 rvA rfl (.refl _) ?_ selF
      exact ⟨rfl, rfl⟩
    rw [decide_eq_true h0, Bool.true_and]
    rw [h0] at MM
    obtain ⟨R, hR⟩ : ∃ R, R = (rightsU ns xs && decide (countU ns xs ≤ 100)) := ⟨_, rfl⟩
    rw [← hR]
    have HS := Hn.mk hS
    have HM := Hn.mk hM
    clear hy0 hS hM hr h0
    repeat' (first
    | refine wkQ ?_
    | refine wkV ?_
    | ((with_reducible apply TL.gives_plain); (· kernel_rfl); (· rfl); (· exact MM _); (· rfl)) | ((with_reducible apply TW.gives_plain); (· kernel_rfl); (· rfl); (· exact MM _); (· rfl))
    | refine stS ?_ | (refine stB ?_; intro _) | (refine stC ?_; refine And.intro (fun _ => ?_) (fun _ => ?_)))
    refine TC.loop (RiI ns xs g R) (fun x => xs.length - x.1) (fun x => [(35, .int .i64 (x.1 : Nat)), (34, .int .i64 (xs.length : Nat)), (33, .slice ao xs.length cap), (5, .int .i64 x.2.1), (2, .bool false)]) (fun x => x.2.2) (fun _ => L) (0, 0, g) ⟨Nat.zero_le _, ⟨Int.le_refl _, by show (0 : Int) ≤ 100; decide⟩, .refl _, by dsimp only; rw [List.drop_zero, List.drop_zero, hR]; congr 1; exact decide_eq_decide.2 (by omega)⟩ rfl subA selF ?_
    clear hR MM
    rintro ⟨i, c, gx⟩ ⟨hi, hc, hgx, hre⟩
    dsimp only at hi hc hgx hre ⊢
    by_cases hlt : i < xs.length
    case neg =>
      have hR : R = true := by
        rw [← hre, List.drop_eq_nil_of_le (by omega), List.drop_eq_nil_of_le (by omega), rightsU, countU] <;> simp_all
      subst hR
      clear hre
      repeat' (first
    | refine wkQ ?_
    | refine wkV ?_
    | refine stS ?_ | (refine stB ?_; intro _) | (refine stC ?_; refine And.intro (fun _ => ?_) (fun _ => ?_)))
      refine TQ.less hgx ?_
      refine TQ.endR1 (L' := L) Tryz.results19 rvA rfl (.refl _) ?_ selF
      exact ⟨rfl, rfl⟩
    obtain ⟨x, hx⟩ : ∃ x, xs[i]? = some x := ⟨_, List.getElem?_eq_getElem hlt⟩
    obtain ⟨n, w, e1, hf1, hf2, jx⟩ := (HM.out).get hx
    obtain ⟨b1, o1, rfl, hg1⟩ := HS.out.elem hlt (by decide)
    have ld1 : ∀ j u, [str n, w][j]? = some u → gx.cell b1 (o1 + i * 2 + j) = some u := fun j u hu => by
      match j, hu with
      | 0, hu => simp at hu; subst hu; exact hgx.cell (hg1 0 _ hf1)
      | 1, hu => simp at hu; subst hu; exact hgx.cell (hg1 1 _ hf2)
      | j + 2, hu => simp at hu
    have ll1 : [str n, w].length = 2 := rfl
    have jx := jx.le hgx _ _
    have ow := jx.one
    have sx := smJs_get hsm.2.2 hx
    have lx := lenJs_get hl0.2 hx
    rw [rights_at e1 hx, count_at e1 hx] at hre
    have DD := fun L => udeeds_does gx L
    have PP := fun L => uparts_does n x w gx L jx sx
    unfold PartsR at PP
    obtain ⟨i0, hfd⟩ := find_deed n
    have hUx := hU.le hgx
    cases hd : deedF n with
    | none =>
      rw [hd] at hfd
      dsimp only at hfd
      have hk := deed_known (nm := n)
      rw [hd] at hk
      have hR : R = false := by
        rw [← hre]; unfold rightM; rw [← hk]; rfl
      subst hR
      clear hre hg1 hf1 hf2 jx
      repeat' (first
    | refine wkQ ?_
    | refine TC.cut (x := Code.region 8 _ _) (fun _ : Nat × Nat => True) (fun z => [(35, .int .i64 (i : Nat)), (34, .int .i64 (xs.length : Nat)), (33, .slice (some ⟨b1, o1, none⟩) xs.length cap), (5, .int .i64 c), (2, .bool false), (7, .pointer (some ⟨z.1, 0, none⟩)), (8, .pointer (some ⟨z.2, 0, none⟩)), (9, .bool false)]) (fun _ => gx) (fun z => .obj z.2 (.cells [.nilFunc, .nilFunc].toArray 78 (0, 0)) :: .obj z.1 (.cells [str n, w].toArray 47 (0, 0)) :: L) ?_ ?_
    | (refine TQ.cut (_, _) ?_ rfl subA selF; exact trivial)
    | ((with_reducible apply TL.pure (d := 38) (v := .agg #[str n, w])); (· exact Y.load_cells rfl ld1 ll1); (· rfl)) | ((with_reducible apply TW.pure (d := 38) (v := .agg #[str n, w])); (· exact Y.load_cells rfl ld1 ll1); (· rfl))
    | refine wkV ?_
    | ((with_reducible apply TL.pure); (· exact yM); (· rfl)) | ((with_reducible apply TW.pure); (· exact yM); (· rfl))
    | (refine TL.call (Enters.plain (by kernel_rfl) (by rfl)) (by rfl) (DD _) ?_; (rintro e gd Ln hgd ⟨bd, k1, k2, k3⟩; have k2 := k2.symm; subst k1; subst k2; subst k3; refine CallK.ret ?_))
    | ((with_reducible apply TL.pure); (· exact Y.lookupS_no rfl rfl pkA hfd); (· rfl))
    | ((with_reducible apply TA.takeN 0); (· rfl); (· decide +kernel); (· rfl); (· (first | exact yQ | exact yA | exact yB | exact yM | exact yV)); (· decide +kernel); (· decide +kernel); (· rfl); (· exact fun _ _ _ h => h); (· rfl))
    | ((with_reducible apply TA.takeN 1); (· rfl); (· decide +kernel); (· rfl); (· (first | exact yQ | exact yA | exact yB | exact yM | exact yV)); (· decide +kernel); (· decide +kernel); (· rfl); (· exact fun _ _ _ h => h); (· rfl))
    | ((with_reducible apply TA.takeN 2); (· rfl); (· decide +kernel); (· rfl); (· (first | exact yQ | exact yA | exact yB | exact yM | exact yV)); (· decide +kernel); (· decide +kernel); (· rfl); (· exact fun _ _ _ h => h); (· rfl))
    | ((with_reducible apply TA.takeN 3); (· rfl); (· decide +kernel); (· rfl); (· (first | exact yQ | exact yA | exact yB | exact yM | exact yV)); (· decide +kernel); (· decide +kernel); (· rfl); (· exact fun _ _ _ h => h); (· rfl))
    | ((with_reducible apply TA.take_gN 0); (· rfl); (· decide +kernel); (· rfl); (· rfl); (· rfl); (· (first | exact yQ | exact yA | exact yB | exact yM | exact yV)); (· decide +kernel); (· decide +kernel); (· rfl); (· exact fun _ _ _ h => h); (· rfl))
    | ((with_reducible apply TA.take_gN 1); (· rfl); (· decide +kernel); (· rfl); (· rfl); (· rfl); (· (first | exact yQ | exact yA | exact yB | exact yM | exact yV)); (· decide +kernel); (· decide +kernel); (· rfl); (· exact fun _ _ _ h => h); (· rfl))
    | ((with_reducible apply TA.take_gN 2); (· rfl); (· decide +kernel); (· rfl); (· rfl); (· rfl); (· (first | exact yQ | exact yA | exact yB | exact yM | exact yV)); (· decide +kernel); (· decide +kernel); (· rfl); (· exact fun _ _ _ h => h); (· rfl))
    | ((with_reducible apply TA.take_gN 3); (· rfl); (· decide +kernel); (· rfl); (· rfl); (· rfl); (· (first | exact yQ | exact yA | exact yB | exact yM | exact yV)); (· decide +kernel); (· decide +kernel); (· rfl); (· exact fun _ _ _ h => h); (· rfl))
    | ((with_reducible apply TA.no_gN 0); (· rfl); (· decide +kernel); (· rfl); (· rfl); (· rfl); (· rfl); (· decide +kernel); (· decide +kernel); (· rfl); (· exact fun _ _ _ h => h); (· rfl))
    | ((with_reducible apply TA.no_gN 1); (· rfl); (· decide +kernel); (· rfl); (· rfl); (· rfl); (· rfl); (· decide +kernel); (· decide +kernel); (· rfl); (· exact fun _ _ _ h => h); (· rfl))
    | ((with_reducible apply TA.no_gN 2); (· rfl); (· decide +kernel); (· rfl); (· rfl); (· rfl); (· rfl); (· decide +kernel); (· decide +kernel); (· rfl); (· exact fun _ _ _ h => h); (· rfl))
    | ((with_reducible apply TA.no_gN 3); (· rfl); (· decide +kernel); (· rfl); (· rfl); (· rfl); (· rfl); (· decide +kernel); (· decide +kernel); (· rfl); (· exact fun _ _ _ h => h); (· rfl))
    | ((with_reducible apply TA.no_uN 0); (· rfl); (· decide +kernel); (· rfl); (· rfl); (· rfl); (· decide +kernel); (· decide +kernel); (· rfl); (· exact fun _ _ _ h => h); (· rfl))
    | ((with_reducible apply TA.no_uN 1); (· rfl); (· decide +kernel); (· rfl); (· rfl); (· rfl); (· decide +kernel); (· decide +kernel); (· rfl); (· exact fun _ _ _ h => h); (· rfl))
    | ((with_reducible apply TA.no_uN 2); (· rfl); (· decide +kernel); (· rfl); (· rfl); (· rfl); (· decide +kernel); (· decide +kernel); (· rfl); (· exact fun _ _ _ h => h); (· rfl))
    | ((with_reducible apply TA.no_uN 3); (· rfl); (· decide +kernel); (· rfl); (· rfl); (· rfl); (· decide +kernel); (· decide +kernel); (· rfl); (· exact fun _ _ _ h => h); (· rfl))
    | ((with_reducible apply TA.two 0 7); (· rfl); (· rfl); (· decide +kernel); (· rfl); (· rfl))
    | ((with_reducible apply TA.two 3 7); (· rfl); (· rfl); (· decide +kernel); (· rfl); (· rfl))
    | ((with_reducible apply TA.takeN 0); (· rfl); (· decide +kernel); (· rfl); (· (first | exact yQ | exact yA | exact yB | exact yM | exact yV)); (· decide +kernel); (· decide +kernel); (· rfl); (· exact fun _ _ _ h => h); (· rfl))
    | ((with_reducible apply TA.takeN 1); (· rfl); (· decide +kernel); (· rfl); (· (first | exact yQ | exact yA | exact yB | exact yM | exact yV)); (· decide +kernel); (· decide +kernel); (· rfl); (· exact fun _ _ _ h => h); (· rfl))
    | ((with_reducible apply TA.takeN 2); (· rfl); (· decide +kernel); (· rfl); (· (first | exact yQ | exact yA | exact yB | exact yM | exact yV)); (· decide +kernel); (· decide +kernel); (· rfl); (· exact fun _ _ _ h => h); (· rfl))
    | ((with_reducible apply TA.takeN 3); (· rfl); (· decide +kernel); (· rfl); (· (first | exact yQ | exact yA | exact yB | exact yM | exact yV)); (· decide +kernel); (· decide +kernel); (· rfl); (· exact fun _ _ _ h => h); (· rfl))
    | ((with_reducible apply TA.oneN 0); (· rfl); (· rfl); (· decide +kernel); (· rfl))
    | ((with_reducible apply TA.oneN 1); (· rfl); (· rfl); (· decide +kernel); (· rfl))
    | ((with_reducible apply TA.oneN 2); (· rfl); (· rfl); (· decide +kernel); (· rfl))
    | ((with_reducible apply TA.oneN 3); (· rfl); (· rfl); (· decide +kernel); (· rfl))
    | refine TQ.any leF selF ?_
    | refine TC.region_any 10 (_) (by kernel_rfl) rfl selF ?_ | refine TA.done (by decide +kernel) ?_ | refine TQ.any_panic ?_
    | refine wkP ?_
    | refine TC.seq ?_ | refine TC.region ?_ | refine TL.nil ?_ | refine TQ.then_normal ?_
    | ((with_reducible apply TL.storeE); (· rfl); (· rfl); (· rfl); (· exact pkA); (· infer_instance)) | ((with_reducible apply TL.store_whole); (· rfl); (· rfl); (· exact oneA); (· rfl); (· exact pkA); (· rfl))
    | refine TC.block ?_ | refine TC.ret ?_ | refine TC.skip ?_ | refine TC.exit ?_ | refine TC.cond rfl ?_
    | refine TQ.down ?_ | refine TQ.in_exit' rfl ?_
    | refine TL.guard_yes rfl rfl ?_ | refine TL.guard_no rfl rfl rfl rfl ?_ | refine TL.guard_no0 rfl rfl rfl ?_ | refine TL.guard_undef rfl rfl rfl ?_ | refine TL.guard_undef0 rfl rfl ?_ | refine TL.guard rfl rfl rfl ?_
    | refine Br.t rfl ?_ | refine Br.f rfl ?_ | refine Br.ky kpA ?_ | refine Br.kn kpA ?_ | refine Br.nky kpA ?_ | refine Br.nkn kpA ?_
    | refine Br.eq0 (fun _ => ?_) (fun _ => ?_) | refine Br.neq0 (fun _ => ?_) (fun _ => ?_) | refine Br.eq (fun _ => ?_) (fun _ => ?_) | refine Br.neq (fun _ => ?_) (fun _ => ?_) | refine Br.not (fun _ => ?_) (fun _ => ?_) | refine Br.dec (fun _ => ?_) (fun _ => ?_) | refine Br.bool (fun _ => ?_) (fun _ => ?_)
    | ((with_reducible apply TL.alloc_ag); (· rfl); intro _) | ((with_reducible apply TL.alloc_sc); (· rfl); (· rfl); intro _) | ((with_reducible apply TL.box_ag); (· rfl); (· rfl); intro _) | ((with_reducible apply TL.box_sc); (· rfl); (· rfl); (· rfl); intro _)
    | apply TC.region_draw (by kernel_rfl) (by kernel_rfl) | refine TW.nil ?_ | ((with_reducible apply TW.pure); (· exact yA); (· rfl)))
      rintro ⟨b7, b8⟩ _
      clear DD hfd ld1 ll1
      cases hp : partsP n x with
      | none =>
        rw [hp] at PP
        repeat' (first
    | refine wkQ ?_
    | refine wkV ?_
    | ((with_reducible apply TL.pure); (· exact yM); (· rfl)) | ((with_reducible apply TW.pure); (· exact yM); (· rfl))
    | (refine TL.call (Enters.plain (by kernel_rfl) (by rfl)) (by rfl) (PP _) ?_; (rintro e g1 Ln h1 ⟨v1, k1, k2, r1⟩; have k2 := k2.symm; subst k1; subst k2; (dsimp only at r1; subst r1); refine CallK.ret ?_))
    | refine stS ?_ | (refine stB ?_; intro _) | (refine stC ?_; refine And.intro (fun _ => ?_) (fun _ => ?_)))
        refine TQ.less (hgx.trans h1) ?_
        refine TQ.endR1 (L' := L) Tryz.results19 rvA rfl (.refl _) ?_ selF
        exact ⟨rfl, rfl⟩
      | some q =>
        obtain ⟨ps, ws⟩ := q
        rw [hp] at PP
        have hws := (parts_sm sx hp).2
        repeat' (first
    | refine wkQ ?_
    | refine wkV ?_
    | ((with_reducible apply TL.pure); (· exact yM); (· rfl)) | ((with_reducible apply TW.pure); (· exact yM); (· rfl))
    | (refine TL.call (Enters.plain (by kernel_rfl) (by rfl)) (by rfl) (PP _) ?_; (rintro e g1 Ln h1 ⟨v1, k1, k2, r1⟩; have k2 := k2.symm; subst k1; subst k2; (obtain ⟨fl2, hS2, hM2, hl2⟩ := r1; obtain ⟨a2, c2, rfl⟩ := hS2.slice; clear hS2 hM2); refine CallK.ret ?_))
    | refine stS ?_ | (refine stB ?_; intro _) | (refine stC ?_; refine And.intro (fun _ => ?_) (fun _ => ?_)))
        refine TQ.less (hgx.trans h1) ?_
        refine TQ.endR1 (L' := L) Tryz.results19 rvA rfl (.refl _) ?_ selF
        exact ⟨rfl, rfl⟩
    | some q =>
      obtain ⟨d, m⟩ := q
      rw [hd] at hfd
      dsimp only at hfd
      have hk : knownU n = true := by rw [← deed_known, hd]; rfl
      obtain ⟨hcm, hmay⟩ := deed_may hd
      have HR := Hn.mk hre
      clear hre hg1 hf1 hf2 jx
      repeat' (first
    | refine wkQ ?_
    | refine TC.cut (x := Code.region 8 _ _) (fun _ : Nat × Nat => True) (fun z => [(35, .int .i64 (i : Nat)), (34, .int .i64 (xs.length : Nat)), (33, .slice (some ⟨b1, o1, none⟩) xs.length cap), (5, .int .i64 c), (2, .bool false), (7, .pointer (some ⟨z.1, 0, none⟩)), (8, .pointer (some ⟨z.2, 0, none⟩)), (9, .bool true)]) (fun _ => gx) (fun z => .obj z.2 (.cells [fnV d, fnV m].toArray 78 (0, 0)) :: .obj z.1 (.cells [str n, w].toArray 47 (0, 0)) :: L) ?_ ?_
    | (refine TQ.cut (_, _) ?_ rfl subA selF; exact trivial)
    | ((with_reducible apply TL.pure (d := 38) (v := .agg #[str n, w])); (· exact Y.load_cells rfl ld1 ll1); (· rfl)) | ((with_reducible apply TW.pure (d := 38) (v := .agg #[str n, w])); (· exact Y.load_cells rfl ld1 ll1); (· rfl))
    | refine wkV ?_
    | ((with_reducible apply TL.pure); (· exact yM); (· rfl)) | ((with_reducible apply TW.pure); (· exact yM); (· rfl))
    | (refine TL.call (Enters.plain (by kernel_rfl) (by rfl)) (by rfl) (DD _) ?_; (rintro e gd Ln hgd ⟨bd, k1, k2, k3⟩; have k2 := k2.symm; subst k1; subst k2; subst k3; refine CallK.ret ?_))
    | ((with_reducible apply TL.pure); (· exact Y.lookupS_ok rfl rfl pkA hfd); (· rfl))
    | ((with_reducible apply TA.takeN 0); (· rfl); (· decide +kernel); (· rfl); (· (first | exact yQ | exact yA | exact yB | exact yM | exact yV)); (· decide +kernel); (· decide +kernel); (· rfl); (· exact fun _ _ _ h => h); (· rfl))
    | ((with_reducible apply TA.takeN 1); (· rfl); (· decide +kernel); (· rfl); (· (first | exact yQ | exact yA | exact yB | exact yM | exact yV)); (· decide +kernel); (· decide +kernel); (· rfl); (· exact fun _ _ _ h => h); (· rfl))
    | ((with_reducible apply TA.takeN 2); (· rfl); (· decide +kernel); (· rfl); (· (first | exact yQ | exact yA | exact yB | exact yM | exact yV)); (· decide +kernel); (· decide +kernel); (· rfl); (· exact fun _ _ _ h => h); (· rfl))
    | ((with_reducible apply TA.takeN 3); (· rfl); (· decide +kernel); (· rfl); (· (first | exact yQ | exact yA | exact yB | exact yM | exact yV)); (· decide +kernel); (· decide +kernel); (· rfl); (· exact fun _ _ _ h => h); (· rfl))
    | ((with_reducible apply TA.take_gN 0); (· rfl); (· decide +kernel); (· rfl); (· rfl); (· rfl); (· (first | exact yQ | exact yA | exact yB | exact yM | exact yV)); (· decide +kernel); (· decide +kernel); (· rfl); (· exact fun _ _ _ h => h); (· rfl))
    | ((with_reducible apply TA.take_gN 1); (· rfl); (· decide +kernel); (· rfl); (· rfl); (· rfl); (· (first | exact yQ | exact yA | exact yB | exact yM | exact yV)); (· decide +kernel); (· decide +kernel); (· rfl); (· exact fun _ _ _ h => h); (· rfl))
    | ((with_reducible apply TA.take_gN 2); (· rfl); (· decide +kernel); (· rfl); (· rfl); (· rfl); (· (first | exact yQ | exact yA | exact yB | exact yM | exact yV)); (· decide +kernel); (· decide +kernel); (· rfl); (· exact fun _ _ _ h => h); (· rfl))
    | ((with_reducible apply TA.take_gN 3); (· rfl); (· decide +kernel); (· rfl); (· rfl); (· rfl); (· (first | exact yQ | exact yA | exact yB | exact yM | exact yV)); (· decide +kernel); (· decide +kernel); (· rfl); (· exact fun _ _ _ h => h); (· rfl))
    | ((with_reducible apply TA.no_gN 0); (· rfl); (· decide +kernel); (· rfl); (· rfl); (· rfl); (· rfl); (· decide +kernel); (· decide +kernel); (· rfl); (· exact fun _ _ _ h => h); (· rfl))
    | ((with_reducible apply TA.no_gN 1); (· rfl); (· decide +kernel); (· rfl); (· rfl); (· rfl); (· rfl); (· decide +kernel); (· decide +kernel); (· rfl); (· exact fun _ _ _ h => h); (· rfl))
    | ((with_reducible apply TA.no_gN 2); (· rfl); (· decide +kernel); (· rfl); (· rfl); (· rfl); (· rfl); (· decide +kernel); (· decide +kernel); (· rfl); (· exact fun _ _ _ h => h); (· rfl))
    | ((with_reducible apply TA.no_gN 3); (· rfl); (· decide +kernel); (· rfl); (· rfl); (· rfl); (· rfl); (· decide +kernel); (· decide +kernel); (· rfl); (· exact fun _ _ _ h => h); (· rfl))
    | ((with_reducible apply TA.no_uN 0); (· rfl); (· decide +kernel); (· rfl); (· rfl); (· rfl); (· decide +kernel); (· decide +kernel); (· rfl); (· exact fun _ _ _ h => h); (· rfl))
    | ((with_reducible apply TA.no_uN 1); (· rfl); (· decide +kernel); (· rfl); (· rfl); (· rfl); (· decide +kernel); (· decide +kernel); (· rfl); (· exact fun _ _ _ h => h); (· rfl))
    | ((with_reducible apply TA.no_uN 2); (· rfl); (· decide +kernel); (· rfl); (· rfl); (· rfl); (· decide +kernel); (· decide +kernel); (· rfl); (· exact fun _ _ _ h => h); (· rfl))
    | ((with_reducible apply TA.no_uN 3); (· rfl); (· decide +kernel); (· rfl); (· rfl); (· rfl); (· decide +kernel); (· decide +kernel); (· rfl); (· exact fun _ _ _ h => h); (· rfl))
    | ((with_reducible apply TA.two 0 7); (· rfl); (· rfl); (· decide +kernel); (· rfl); (· rfl))
    | ((with_reducible apply TA.two 3 7); (· rfl); (· rfl); (· decide +kernel); (· rfl); (· rfl))
    | ((with_reducible apply TA.takeN 0); (· rfl); (· decide +kernel); (· rfl); (· (first | exact yQ | exact yA | exact yB | exact yM | exact yV)); (· decide +kernel); (· decide +kernel); (· rfl); (· exact fun _ _ _ h => h); (· rfl))
    | ((with_reducible apply TA.takeN 1); (· rfl); (· decide +kernel); (· rfl); (· (first | exact yQ | exact yA | exact yB | exact yM | exact yV)); (· decide +kernel); (· decide +kernel); (· rfl); (· exact fun _ _ _ h => h); (· rfl))
    | ((with_reducible apply TA.takeN 2); (· rfl); (· decide +kernel); (· rfl); (· (first | exact yQ | exact yA | exact yB | exact yM | exact yV)); (· decide +kernel); (· decide +kernel); (· rfl); (· exact fun _ _ _ h => h); (· rfl))
    | ((with_reducible apply TA.takeN 3); (· rfl); (· decide +kernel); (· rfl); (· (first | exact yQ | exact yA | exact yB | exact yM | exact yV)); (· decide +kernel); (· decide +kernel); (· rfl); (· exact fun _ _ _ h => h); (· rfl))
    | ((with_reducible apply TA.oneN 0); (· rfl); (· rfl); (· decide +kernel); (· rfl))
    | ((with_reducible apply TA.oneN 1); (· rfl); (· rfl); (· decide +kernel); (· rfl))
    | ((with_reducible apply TA.oneN 2); (· rfl); (· rfl); (· decide +kernel); (· rfl))
    | ((with_reducible apply TA.oneN 3); (· rfl); (· rfl); (· decide +kernel); (· rfl))
    | refine TQ.any leF selF ?_
    | refine TC.region_any 10 (_) (by kernel_rfl) rfl selF ?_ | refine TA.done (by decide +kernel) ?_ | refine TQ.any_panic ?_
    | refine wkP ?_
    | refine TC.seq ?_ | refine TC.region ?_ | refine TL.nil ?_ | refine TQ.then_normal ?_
    | ((with_reducible apply TL.storeE); (· rfl); (· rfl); (· rfl); (· exact pkA); (· infer_instance)) | ((with_reducible apply TL.store_whole); (· rfl); (· rfl); (· exact oneA); (· rfl); (· exact pkA); (· rfl))
    | refine TC.block ?_ | refine TC.ret ?_ | refine TC.skip ?_ | refine TC.exit ?_ | refine TC.cond rfl ?_
    | refine TQ.down ?_ | refine TQ.in_exit' rfl ?_
    | refine TL.guard_yes rfl rfl ?_ | refine TL.guard_no rfl rfl rfl rfl ?_ | refine TL.guard_no0 rfl rfl rfl ?_ | refine TL.guard_undef rfl rfl rfl ?_ | refine TL.guard_undef0 rfl rfl ?_ | refine TL.guard rfl rfl rfl ?_
    | refine Br.t rfl ?_ | refine Br.f rfl ?_ | refine Br.ky kpA ?_ | refine Br.kn kpA ?_ | refine Br.nky kpA ?_ | refine Br.nkn kpA ?_
    | refine Br.eq0 (fun _ => ?_) (fun _ => ?_) | refine Br.neq0 (fun _ => ?_) (fun _ => ?_) | refine Br.eq (fun _ => ?_) (fun _ => ?_) | refine Br.neq (fun _ => ?_) (fun _ => ?_) | refine Br.not (fun _ => ?_) (fun _ => ?_) | refine Br.dec (fun _ => ?_) (fun _ => ?_) | refine Br.bool (fun _ => ?_) (fun _ => ?_)
    | ((with_reducible apply TL.alloc_ag); (· rfl); intro _) | ((with_reducible apply TL.alloc_sc); (· rfl); (· rfl); intro _) | ((with_reducible apply TL.box_ag); (· rfl); (· rfl); intro _) | ((with_reducible apply TL.box_sc); (· rfl); (· rfl); (· rfl); intro _)
    | apply TC.region_draw (by kernel_rfl) (by kernel_rfl) | refine TW.nil ?_ | ((with_reducible apply TW.pure); (· exact yA); (· rfl)))
      rintro ⟨b7, b8⟩ _
      have hre := HR.out
      clear DD hfd ld1 ll1 HR
      cases hp : partsP n x with
      | none =>
        have hR : R = false := by rw [← hre]; unfold rightM; rw [parts_none hp, Bool.and_false]; rfl
        subst hR
        rw [hp] at PP
        clear hre
        repeat' (first
    | refine wkQ ?_
    | refine wkV ?_
    | ((with_reducible apply TL.pure); (· exact yM); (· rfl)) | ((with_reducible apply TW.pure); (· exact yM); (· rfl))
    | (refine TL.call (Enters.plain (by kernel_rfl) (by rfl)) (by rfl) (PP _) ?_; (rintro e g1 Ln h1 ⟨v1, k1, k2, r1⟩; have k2 := k2.symm; subst k1; subst k2; (dsimp only at r1; subst r1); refine CallK.ret ?_))
    | refine stS ?_ | (refine stB ?_; intro _) | (refine stC ?_; refine And.intro (fun _ => ?_) (fun _ => ?_)))
        refine TQ.less (hgx.trans h1) ?_
        refine TQ.endR1 (L' := L) Tryz.results19 rvA rfl (.refl _) ?_ selF
        exact ⟨rfl, rfl⟩
      | some q =>
        obtain ⟨ps, ws⟩ := q
        rw [hp] at PP
        obtain ⟨vs, hpu, hpo, hpl, hwl, _⟩ := parts_some lx hp
        obtain ⟨hsw, hwm⟩ := parts_sm sx hp
        have hpn := parts_len sx hp
        have hlu : lenU n x = ps.length := by unfold lenU; rw [hpu]
        have hrm : rightM n x = partsOk n ps ws := by unfold rightM; rw [hk, hpu, Bool.true_and]; exact hpo.symm
        rw [hrm, hlu] at hre
        by_cases hc2 : 100 < c + (1 + (ps.length : Nat))
        · have hR : R = false := by rw [← hre, decide_eq_false (by omega), Bool.and_false]
          subst hR
          have HC := Hn.mk hc2
          clear hre
          repeat' (first
    | refine wkQ ?_
    | refine wkV ?_
    | ((with_reducible apply TL.pure); (· exact yM); (· rfl)) | ((with_reducible apply TW.pure); (· exact yM); (· rfl))
    | (refine TL.call (Enters.plain (by kernel_rfl) (by rfl)) (by rfl) (PP _) ?_; (rintro e g1 Ln h1 ⟨v1, k1, k2, r1⟩; have k2 := k2.symm; subst k1; subst k2; (obtain ⟨fl2, hS2, hM2, hl2⟩ := r1; obtain ⟨a2, c2, rfl⟩ := hS2.slice; clear hS2 hM2); refine CallK.ret ?_))
    | refine stS ?_ | (refine stB ?_; intro _) | (refine stC ?_; refine And.intro (fun _ => ?_) (fun _ => ?_)))
          refine TQ.less (hgx.trans h1) ?_
          refine TQ.endR1 (L' := L) Tryz.results19 rvA rfl (.refl _) ?_ selF
          exact ⟨rfl, rfl⟩
        have HC := Hn.mk hc2
        have HR := Hn.mk hre
        clear hre
        repeat' (first
    | refine wkQ ?_
    | refine wkV ?_
    | ((with_reducible apply TL.pure); (· exact yM); (· rfl)) | ((with_reducible apply TW.pure); (· exact yM); (· rfl))
    | (refine TL.call (Enters.plain (by kernel_rfl) (by rfl)) (by rfl) (PP _) ?_; (rintro e g1 Ln h1 ⟨v1, k1, k2, r1⟩; have k2 := k2.symm; subst k1; subst k2; (obtain ⟨fl2, hS2, hM2, hl2⟩ := r1; obtain ⟨a2, c2, rfl⟩ := hS2.slice; have HS2 := Hn.mk hS2; have HM2 := Hn.mk hM2; clear hS2 hM2); refine CallK.ret ?_))
    | refine stS ?_ | (refine stB ?_; intro _) | (refine stC ?_; refine And.intro (fun _ => ?_) (fun _ => ?_)))
        refine TC.loop (RkI n ps ws g1 (partsOk n ps ws)) (fun z => ps.length - z.1) (fun z => [(68, .int .i64 (z.1 : Nat)), (67, .int .i64 (ps.length : Nat)), (66, .slice a2 ps.length c2), (8, .pointer (some ⟨b8, 0, none⟩)), (35, .int .i64 (i : Nat)), (34, .int .i64 (xs.length : Nat)), (33, .slice (some ⟨b1, o1, none⟩) xs.length cap), (5, .int .i64 (c + (1 + (ps.length : Nat)))), (2, .bool false)]) (fun z => z.2) (fun _ => .obj b8 (.cells [fnV d, fnV m].toArray 78 (0, 0)) :: L) (0, g1) ⟨Nat.zero_le _, .refl _, by dsimp only; rw [List.drop_zero, List.drop_zero]⟩ rfl subA selF ?_
        clear PP hd hp hpu hpo hrm
        rintro ⟨k, gz⟩ ⟨hk1, hgz, hB⟩
        dsimp only at hk1 hgz hB ⊢
        by_cases hkl : k < ps.length
        case neg =>
          have hB1 : partsOk n ps ws = true := by
            rw [← hB, List.drop_eq_nil_of_le (by omega), partsOk]; intros; simp_all
          repeat' (first
    | refine wkQ ?_
    | refine wkV ?_
    | refine stS ?_ | (refine stB ?_; intro _) | (refine stC ?_; refine And.intro (fun _ => ?_) (fun _ => ?_)))
          refine TQ.round ⟨i + 1, c + (1 + (ps.length : Nat)), gz⟩ ?_ ?_ rfl subA selF
          · refine ⟨by dsimp only; omega, ⟨by dsimp only; omega, by dsimp only; omega⟩, (hgx.trans h1).trans hgz, ?_⟩
            have hre := HR.out
            rw [hB1, Bool.true_and] at hre
            dsimp only
            rw [← hre]
            congr 1
            exact decide_eq_decide.2 (by omega)
          · dsimp only; omega
        obtain ⟨z, hz⟩ : ∃ z, ws[k]? = some z := ⟨_, List.getElem?_eq_getElem (by omega)⟩
        obtain ⟨p, w2, ep, q1, q2, jz⟩ := HM2.out.get hz
        obtain ⟨b2, o2, rfl, hg2⟩ := HS2.out.elem hkl (by decide)
        have ld2 : ∀ j u, [str p, w2][j]? = some u → gz.cell b2 (o2 + k * 2 + j) = some u := fun j u hu => by
          match j, hu with
          | 0, hu => simp at hu; subst hu; exact hgz.cell (hg2 0 _ q1)
          | 1, hu => simp at hu; subst hu; exact hgz.cell (hg2 1 _ q2)
          | j + 2, hu => simp at hu
        have ll2 : [str p, w2].length = 2 := rfl
        have jz := jz.le hgz _ _
        have oz := jz.one
        have hUz := (hUx.le h1).le hgz
        have ST := fun L => steps_does p gz L (hpn p (List.mem_of_getElem? ep)) hUz
        unfold StepsR at ST
        rw [partsOk_at ep hz] at hB
        have MA := fun g3 (h : gz.le g3) L => hmay z w2 g3 L (jz.le h _ _) (smJs_get hsw hz) (hUz.le h)
        clear hg2 q1 q2 jz
        have hfl : partsOk n ps ws = false → R = false := fun h => by have hre := HR.out; rw [h, Bool.false_and, Bool.false_and] at hre; exact hre.symm
        cases hst : stepsL p with
        | none =>
          rw [hst] at ST hB
          have hR := hfl hB.symm
          subst hR
          dsimp only at ST
          clear hB hfl MA
          repeat' (first
    | refine wkQ ?_
    | ((with_reducible apply TL.pure (d := 71) (v := .agg #[str p, w2])); (· exact Y.load_cells rfl ld2 ll2); (· rfl)) | ((with_reducible apply TW.pure (d := 71) (v := .agg #[str p, w2])); (· exact Y.load_cells rfl ld2 ll2); (· rfl))
    | refine wkV ?_
    | ((with_reducible apply TL.pure); (· exact yM); (· rfl)) | ((with_reducible apply TW.pure); (· exact yM); (· rfl))
    | (refine TL.call (Enters.plain (by kernel_rfl) (by rfl)) (by rfl) (ST _) ?_; (rintro e g2 Ln h2 ⟨v2, e2, k1, k2, o2, r2⟩; have k2 := k2.symm; subst k1; subst k2; (obtain ⟨rfl, rfl⟩ := r2); refine CallK.ret ?_))
    | refine wkP ?_
    | refine TC.seq ?_ | refine TC.region ?_ | refine TL.nil ?_ | refine TQ.then_normal ?_
    | ((with_reducible apply TL.storeE); (· rfl); (· rfl); (· rfl); (· exact pkA); (· infer_instance)) | ((with_reducible apply TL.store_whole); (· rfl); (· rfl); (· exact oneA); (· rfl); (· exact pkA); (· rfl))
    | refine TC.block ?_ | refine TC.ret ?_ | refine TC.skip ?_ | refine TC.exit ?_ | refine TC.cond rfl ?_
    | refine TQ.down ?_ | refine TQ.in_exit' rfl ?_
    | refine TL.guard_yes rfl rfl ?_ | refine TL.guard_no rfl rfl rfl rfl ?_ | refine TL.guard_no0 rfl rfl rfl ?_ | refine TL.guard_undef rfl rfl rfl ?_ | refine TL.guard_undef0 rfl rfl ?_ | refine TL.guard rfl rfl rfl ?_
    | refine Br.t rfl ?_ | refine Br.f rfl ?_ | refine Br.ky kpA ?_ | refine Br.kn kpA ?_ | refine Br.nky kpA ?_ | refine Br.nkn kpA ?_
    | refine Br.eq0 (fun _ => ?_) (fun _ => ?_) | refine Br.neq0 (fun _ => ?_) (fun _ => ?_) | refine Br.eq (fun _ => ?_) (fun _ => ?_) | refine Br.neq (fun _ => ?_) (fun _ => ?_) | refine Br.not (fun _ => ?_) (fun _ => ?_) | refine Br.dec (fun _ => ?_) (fun _ => ?_) | refine Br.bool (fun _ => ?_) (fun _ => ?_)
    | ((with_reducible apply TL.alloc_ag); (· rfl); intro _) | ((with_reducible apply TL.alloc_sc); (· rfl); (· rfl); intro _) | ((with_reducible apply TL.box_ag); (· rfl); (· rfl); intro _) | ((with_reducible apply TL.box_sc); (· rfl); (· rfl); (· rfl); intro _))
          refine TQ.less (((hgx.trans h1).trans hgz).trans h2) ?_
          refine TQ.endR1 (L' := L) Tryz.results19 rvA rfl (.refl _) ?_ selF
          exact ⟨rfl, rfl⟩
        | some l =>
          rw [hst, Option.isSome_some, Bool.true_and] at hB
          rw [hst] at ST
          dsimp only at ST
          cases hmz : mayU n z with
          | false =>
            rw [hmz] at hB MA
            have hR := hfl hB.symm
            subst hR
            clear hB hfl
            repeat' (first
    | refine wkQ ?_
    | ((with_reducible apply TL.pure (d := 71) (v := .agg #[str p, w2])); (· exact Y.load_cells rfl ld2 ll2); (· rfl)) | ((with_reducible apply TW.pure (d := 71) (v := .agg #[str p, w2])); (· exact Y.load_cells rfl ld2 ll2); (· rfl))
    | refine wkV ?_
    | ((with_reducible apply TL.pure); (· exact yM); (· rfl)) | ((with_reducible apply TW.pure); (· exact yM); (· rfl))
    | (refine TL.call (Enters.plain (by kernel_rfl) (by rfl)) (by rfl) (ST _) ?_; (rintro e g2 Ln h2 ⟨v2, e2, k1, k2, ov2, r2⟩; have k2 := k2.symm; subst k1; subst k2; (obtain ⟨rfl, r2⟩ := r2; clear r2; have M2 := MA g2 h2); refine CallK.ret ?_))
    | (refine TL.call (Enters.func (by rfl) hcm (by rfl)) (by rfl) (M2 _) ?_; (rintro e g3 Ln h3 ⟨k1, k2⟩; have k2 := k2.symm; subst k1; subst k2; refine CallK.ret ?_))
    | refine wkP ?_
    | refine TC.seq ?_ | refine TC.region ?_ | refine TL.nil ?_ | refine TQ.then_normal ?_
    | ((with_reducible apply TL.storeE); (· rfl); (· rfl); (· rfl); (· exact pkA); (· infer_instance)) | ((with_reducible apply TL.store_whole); (· rfl); (· rfl); (· exact oneA); (· rfl); (· exact pkA); (· rfl))
    | refine TC.block ?_ | refine TC.ret ?_ | refine TC.skip ?_ | refine TC.exit ?_ | refine TC.cond rfl ?_
    | refine TQ.down ?_ | refine TQ.in_exit' rfl ?_
    | refine TL.guard_yes rfl rfl ?_ | refine TL.guard_no rfl rfl rfl rfl ?_ | refine TL.guard_no0 rfl rfl rfl ?_ | refine TL.guard_undef rfl rfl rfl ?_ | refine TL.guard_undef0 rfl rfl ?_ | refine TL.guard rfl rfl rfl ?_
    | refine Br.t rfl ?_ | refine Br.f rfl ?_ | refine Br.ky kpA ?_ | refine Br.kn kpA ?_ | refine Br.nky kpA ?_ | refine Br.nkn kpA ?_
    | refine Br.eq0 (fun _ => ?_) (fun _ => ?_) | refine Br.neq0 (fun _ => ?_) (fun _ => ?_) | refine Br.eq (fun _ => ?_) (fun _ => ?_) | refine Br.neq (fun _ => ?_) (fun _ => ?_) | refine Br.not (fun _ => ?_) (fun _ => ?_) | refine Br.dec (fun _ => ?_) (fun _ => ?_) | refine Br.bool (fun _ => ?_) (fun _ => ?_)
    | ((with_reducible apply TL.alloc_ag); (· rfl); intro _) | ((with_reducible apply TL.alloc_sc); (· rfl); (· rfl); intro _) | ((with_reducible apply TL.box_ag); (· rfl); (· rfl); intro _) | ((with_reducible apply TL.box_sc); (· rfl); (· rfl); (· rfl); intro _))
            refine TQ.less ((((hgx.trans h1).trans hgz).trans h2).trans h3) ?_
            refine TQ.endR1 (L' := L) Tryz.results19 rvA rfl (.refl _) ?_ selF
            exact ⟨rfl, rfl⟩
          | true =>
            rw [hmz, Bool.true_and] at hB
            rw [hmz] at MA
            have HB := Hn.mk hB
            clear hB hfl
            repeat' (first
    | refine wkQ ?_
    | ((with_reducible apply TL.pure (d := 71) (v := .agg #[str p, w2])); (· exact Y.load_cells rfl ld2 ll2); (· rfl)) | ((with_reducible apply TW.pure (d := 71) (v := .agg #[str p, w2])); (· exact Y.load_cells rfl ld2 ll2); (· rfl))
    | refine wkV ?_
    | ((with_reducible apply TL.pure); (· exact yM); (· rfl)) | ((with_reducible apply TW.pure); (· exact yM); (· rfl))
    | (refine TL.call (Enters.plain (by kernel_rfl) (by rfl)) (by rfl) (ST _) ?_; (rintro e g2 Ln h2 ⟨v2, e2, k1, k2, ov2, r2⟩; have k2 := k2.symm; subst k1; subst k2; (obtain ⟨rfl, r2⟩ := r2; clear r2; have M2 := MA g2 h2); refine CallK.ret ?_))
    | (refine TL.call (Enters.func (by rfl) hcm (by rfl)) (by rfl) (M2 _) ?_; (rintro e g3 Ln h3 ⟨k1, k2⟩; have k2 := k2.symm; subst k1; subst k2; refine CallK.ret ?_))
    | refine wkP ?_
    | refine TC.seq ?_ | refine TC.region ?_ | refine TL.nil ?_ | refine TQ.then_normal ?_
    | ((with_reducible apply TL.storeE); (· rfl); (· rfl); (· rfl); (· exact pkA); (· infer_instance)) | ((with_reducible apply TL.store_whole); (· rfl); (· rfl); (· exact oneA); (· rfl); (· exact pkA); (· rfl))
    | refine TC.block ?_ | refine TC.ret ?_ | refine TC.skip ?_ | refine TC.exit ?_ | refine TC.cond rfl ?_
    | refine TQ.down ?_ | refine TQ.in_exit' rfl ?_
    | refine TL.guard_yes rfl rfl ?_ | refine TL.guard_no rfl rfl rfl rfl ?_ | refine TL.guard_no0 rfl rfl rfl ?_ | refine TL.guard_undef rfl rfl rfl ?_ | refine TL.guard_undef0 rfl rfl ?_ | refine TL.guard rfl rfl rfl ?_
    | refine Br.t rfl ?_ | refine Br.f rfl ?_ | refine Br.ky kpA ?_ | refine Br.kn kpA ?_ | refine Br.nky kpA ?_ | refine Br.nkn kpA ?_
    | refine Br.eq0 (fun _ => ?_) (fun _ => ?_) | refine Br.neq0 (fun _ => ?_) (fun _ => ?_) | refine Br.eq (fun _ => ?_) (fun _ => ?_) | refine Br.neq (fun _ => ?_) (fun _ => ?_) | refine Br.not (fun _ => ?_) (fun _ => ?_) | refine Br.dec (fun _ => ?_) (fun _ => ?_) | refine Br.bool (fun _ => ?_) (fun _ => ?_)
    | ((with_reducible apply TL.alloc_ag); (· rfl); intro _) | ((with_reducible apply TL.alloc_sc); (· rfl); (· rfl); intro _) | ((with_reducible apply TL.box_ag); (· rfl); (· rfl); intro _) | ((with_reducible apply TL.box_sc); (· rfl); (· rfl); (· rfl); intro _))
            refine TQ.round ⟨k + 1, g3⟩ ?_ ?_ rfl subA selF
            · exact ⟨by dsimp only; omega, (hgz.trans h2).trans h3, HB.out⟩
            · dsimp only; omega
  | list xs =>
    rw [IsJ] at hy
    obtain ⟨sl, flat, rfl, hS, _⟩ := hy
    obtain ⟨ao, cap, rfl⟩ := hS.slice
    clear hS MM
    repeat' (first
    | refine wkQ ?_
    | refine wkV ?_
    | refine stS ?_ | (refine stB ?_; intro _) | (refine stC ?_; refine And.intro (fun _ => ?_) (fun _ => ?_)))
    refine TQ.endR1 (L' := L) Tryz.results19 rvA rfl (.refl _) ?_ selF
    exact ⟨rfl, rfl⟩
  | num n =>
    rw [IsJ] at hy
    obtain ⟨rfl, _⟩ := hy
    clear MM
    repeat' (first
    | refine wkQ ?_
    | refine wkV ?_
    | refine stS ?_ | (refine stB ?_; intro _) | (refine stC ?_; refine And.intro (fun _ => ?_) (fun _ => ?_)))
    refine TQ.endR1 (L' := L) Tryz.results19 rvA rfl (.refl _) ?_ selF
    exact ⟨rfl, rfl⟩
  | _ =>
    rw [IsJ] at hy
    subst hy
    clear MM
    repeat' (first
    | refine wkQ ?_
    | refine wkV ?_
    | refine stS ?_ | (refine stB ?_; intro _) | (refine stC ?_; refine And.intro (fun _ => ?_) (fun _ => ?_)))
    refine TQ.endR1 (L' := L) Tryz.results19 rvA rfl (.refl _) ?_ selF
    exact ⟨rfl, rfl⟩
end Go.Proofs.YthngolfabfijpaaGreatDoor
