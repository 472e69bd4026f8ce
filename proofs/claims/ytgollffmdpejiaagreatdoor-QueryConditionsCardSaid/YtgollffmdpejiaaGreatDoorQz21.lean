/-
  The walk of json.look. The walks of json.caught, May. Paths as data: their steps; numbers in figures.
-/
import Derived.Test.YtgollffmdpejiaaGreatDoorQz3
import Derived.Test.YtgollffmdpejiaaGreatDoorQz13
import Derived.Test.YtgollffmdpejiaaGreatDoorQz20
import Derived.Test.YtgollffmdpejiaaGreatDoorQz12
import Derived.Lib.AtoiAllCases
import Derived.Lib.ItoaMem
namespace Go.Proofs.YtgollffmdpejiaaGreatDoor
open Go.RowKit Go.TL
set_option maxRecDepth 100000

mutual
def lookJ : J → Nat → Nat
  | .null, _ => 0
  | .bool _, _ => 0
  | .num n, _ => if heldB n = true then 0 else 2
  | .text s, _ => if utfL s = true then 0 else 11
  | .list xs, w => if 32 ≤ w then 10 else looks xs w
  | .obj ns xs, w => if 32 ≤ w then 10 else looko [] ns xs w
  | .other _, _ => 14
def looks : List J → Nat → Nat
  | [], _ => 0
  | x :: r, w => if lookJ x (w + 1) = 0 then looks r w else lookJ x (w + 1)
def looko : List (List UInt8) → List (List UInt8) → List J → Nat → Nat
  | _, _, [], _ => 0
  | seen, ns, x :: r, w => if utfL (ns.headD []) = false then 11 else if ns.headD [] ∈ seen then 13 else if lookJ x (w + 1) = 0 then looko (seen ++ [ns.headD []]) ns.tail r w else lookJ x (w + 1)
end
mutual
def smJ : J → Prop
  | .null => True
  | .bool _ => True
  | .num _ => True
  | .text s => s.length ≤ 1000000
  | .list xs => xs.length ≤ 1000000 ∧ smJs xs
  | .obj ns xs => xs.length ≤ 1000000 ∧ (∀ n ∈ ns, n.length ≤ 1000000) ∧ smJs xs
  | .other _ => True
def smJs : List J → Prop
  | [] => True
  | x :: r => smJ x ∧ smJs r
end
theorem smJs_get : ∀ {l : List J} {i : Nat} {x : J}, smJs l → l[i]? = some x → smJ x
  | [], _, _, _, h => by simp at h
  | y :: r, 0, x, hs, h => by
    rw [smJs] at hs
    obtain rfl : y = x := by simpa using h
    exact hs.1
  | y :: r, i + 1, x, hs, h => by
    rw [smJs] at hs
    exact smJs_get (l := r) (i := i) hs.2 (by simpa using h)
theorem looks_at {l : List J} {i : Nat} {x : J} (h : l[i]? = some x) (w : Nat) : looks (l.drop i) w = if lookJ x (w + 1) = 0 then looks (l.drop (i + 1)) w else lookJ x (w + 1) := by
  obtain ⟨hi, he⟩ := List.getElem?_eq_some_iff.1 h
  rw [List.drop_eq_getElem_cons hi, he, looks]
theorem looko_at {ns : List (List UInt8)} {l : List J} {i : Nat} {x : J} {nm : List UInt8} (h : l[i]? = some x) (hn : ns[i]? = some nm) (w : Nat) :
    looko (ns.take i) (ns.drop i) (l.drop i) w = if utfL nm = false then 11 else if nm ∈ ns.take i then 13 else if lookJ x (w + 1) = 0 then looko (ns.take (i + 1)) (ns.drop (i + 1)) (l.drop (i + 1)) w else lookJ x (w + 1) := by
  obtain ⟨hi, he⟩ := List.getElem?_eq_some_iff.1 h
  have hd : (ns.drop i).headD [] = nm := by rw [List.headD_eq_head?_getD, List.head?_drop, hn]; rfl
  rw [List.drop_eq_getElem_cons hi, he, looko, hd, List.tail_drop, List.take_add_one, hn]
  rfl
theorem LookR.yes {k : Nat} {g : Gh} {L : List Ent} (h : k = 0) : LookR k g L (.returned (.tuple #[])) g L := ⟨by rw [if_pos h], rfl, rfl⟩
theorem LookR.no {k e : Nat} {g : Gh} {L : List Ent} (h : k = e) (_h0 : e ≠ 0) : LookR k g L (.panicked [stopV e]) g L := ⟨by rw [if_neg (by omega), h], rfl, rfl⟩
theorem print_err (n : Int) : (printL n).2 = if heldB n = true then 0 else 2 := by
  unfold printL heldB
  by_cases h : n < -9000000000000000000 ∨ 9000000000000000000 < n
  · rw [if_pos h, if_neg (show ¬ (decide (-9000000000000000000 ≤ n) && decide (n ≤ 9000000000000000000)) = true by rw [Bool.and_eq_true, decide_eq_true_iff, decide_eq_true_iff]; omega)]
  · rw [if_neg h, if_pos (show (decide (-9000000000000000000 ≤ n) && decide (n ≤ 9000000000000000000)) = true by rw [Bool.and_eq_true, decide_eq_true_iff, decide_eq_true_iff]; omega)]
set_option maxHeartbeats 16000000 in
theorem look_does : ∀ (N : Nat) (x : J), jsz x ≤ N → ∀ (v : Value) (g : Gh) (L : List Ent) (w : Nat), IsJ g x v → smJ x → w ≤ 32 → GTabs g → GU8 g → Looks 45 #[v, .int .i64 (w : Nat)] g L (lookJ x w)
  | 0, x, h, _, _, _, _, _, _, _, _, _ => by cases x <;> (rw [jsz] at h; omega)
  | N + 1, .null, hN, v, g, L, w, hV, hS, hw, hT, hU => by
    rw [IsJ] at hV
    subst hV
    refine Does.of2 Tryz.func45 rfl Tryz.ntmps45 rfl ?_
    rw [lookJ]
    repeat' (first
    | refine wkV ?_
    | refine stS ?_ | (refine stB ?_; intro _) | (refine stC ?_; constructor <;> intro _))
    refine TQ.end_normal ?_
    refine TQ.endR0 (L' := L) Tryz.results45 rfl (.refl _) ?_ selA
    exact .yes rfl
  | N + 1, .bool b, hN, v, g, L, w, hV, hS, hw, hT, hU => by
    rw [IsJ] at hV
    subst hV
    refine Does.of2 Tryz.func45 rfl Tryz.ntmps45 rfl ?_
    rw [lookJ]
    repeat' (first
    | refine wkV ?_
    | refine stS ?_ | (refine stB ?_; intro _) | (refine stC ?_; constructor <;> intro _))
    refine TQ.end_normal ?_
    refine TQ.endR0 (L' := L) Tryz.results45 rfl (.refl _) ?_ selA
    exact .yes rfl
  | N + 1, .other k, hN, v, g, L, w, hV, hS, hw, hT, hU => by
    rw [IsJ] at hV
    subst hV
    refine Does.of2 Tryz.func45 rfl Tryz.ntmps45 rfl ?_
    rw [lookJ]
    repeat' (first
    | refine wkV ?_
    | refine TL.throws (Enters.plain (by kernel_rfl) (by rfl)) (need_no rfl 14 _ _) (by rfl) ?_
    | refine stS ?_ | (refine stB ?_; intro _) | (refine stC ?_; constructor <;> intro _))
    refine TQ.end_panic (L' := L) rfl (.refl _) ?_ selA
    exact .no rfl (by decide)
  | N + 1, .num n, hN, v, g, L, w, hV, hS, hw, hT, hU => by
    rw [IsJ] at hV
    obtain ⟨rfl, n0, n1⟩ := hV
    have A := fun L => nPrint_gives n (L := L) hT n0 n1
    rw [print_err] at A
    refine Does.of2 Tryz.func45 rfl Tryz.ntmps45 rfl ?_
    rw [lookJ]
    by_cases hh : heldB n = true
    · rw [if_pos hh] at A ⊢
      repeat' (first
    | refine wkV ?_
    | refine wkD (A _) ?_
    | refine wkD (need_yes rfl _ _ _) ?_
    | refine stS ?_ | (refine stB ?_; intro _) | (refine stC ?_; constructor <;> intro _))
      refine TQ.end_normal ?_
      refine TQ.endR0 (L' := L) Tryz.results45 rfl (.refl _) ?_ selA
      exact .yes rfl
    · rw [if_neg hh] at A ⊢
      repeat' (first
    | refine wkV ?_
    | refine wkD (A _) ?_
    | refine TL.throws (Enters.plain (by kernel_rfl) (by rfl)) (need_no rfl 2 _ _) (by rfl) ?_
    | refine stS ?_ | (refine stB ?_; intro _) | (refine stC ?_; constructor <;> intro _))
      refine TQ.end_panic (L' := L) rfl (.refl _) ?_ selA
      exact .no rfl (by decide)
  | N + 1, .text s, hN, v, g, L, w, hV, hS, hw, hT, hU => by
    rw [IsJ] at hV
    subst hV
    rw [smJ] at hS
    have A := fun L => valid_gives s (L := L) hU (by omega)
    refine Does.of2 Tryz.func45 rfl Tryz.ntmps45 rfl ?_
    rw [lookJ]
    by_cases hh : utfL s = true
    · rw [if_pos hh]
      rw [hh] at A
      repeat' (first
    | refine wkV ?_
    | refine wkD (A _) ?_
    | refine wkD (need_yes rfl _ _ _) ?_
    | refine stS ?_ | (refine stB ?_; intro _) | (refine stC ?_; constructor <;> intro _))
      refine TQ.end_normal ?_
      refine TQ.endR0 (L' := L) Tryz.results45 rfl (.refl _) ?_ selA
      exact .yes rfl
    · rw [if_neg hh]
      rw [Bool.not_eq_true] at hh
      rw [hh] at A
      repeat' (first
    | refine wkV ?_
    | refine wkD (A _) ?_
    | refine TL.throws (Enters.plain (by kernel_rfl) (by rfl)) (need_no rfl 11 _ _) (by rfl) ?_
    | refine stS ?_ | (refine stB ?_; intro _) | (refine stC ?_; constructor <;> intro _))
      refine TQ.end_panic (L' := L) rfl (.refl _) ?_ selA
      exact .no rfl (by decide)
  | N + 1, .list xs, hN, v, g, L, w, hV, hS, hw, hT, hU => by
    have IH := look_does N
    rw [jsz] at hN
    rw [IsJ] at hV
    obtain ⟨sl, flat, rfl, hSl, hJs⟩ := hV
    obtain ⟨ao, cap, rfl⟩ := hSl.slice
    rw [smJ] at hS
    obtain ⟨hl, hS⟩ := hS
    obtain ⟨R, hR⟩ : ∃ R, R = lookJ (.list xs) w := ⟨_, rfl⟩
    rw [← hR]
    rw [lookJ] at hR
    refine Does.of2 Tryz.func45 rfl Tryz.ntmps45 rfl ?_
    by_cases h32 : 32 ≤ w
    · rw [if_pos h32] at hR
      repeat' (first
    | refine wkV ?_
    | refine TL.throws (Enters.plain (by kernel_rfl) (by rfl)) (need_no (decide_eq_false (by omega)) 10 _ _) (by rfl) ?_
    | refine stS ?_ | (refine stB ?_; intro _) | (refine stC ?_; constructor <;> intro _))
      refine TQ.end_panic (L' := L) rfl (.refl _) ?_ selA
      exact .no hR (by decide)
    · rw [if_neg h32] at hR
      repeat' (first
    | refine wkV ?_
    | ((with_reducible apply TL.gives_plain); (· kernel_rfl); (· rfl); (· exact need_yes (decide_eq_true (by omega)) _ _ _); (· rfl)) | ((with_reducible apply TW.gives_plain); (· kernel_rfl); (· rfl); (· exact need_yes (decide_eq_true (by omega)) _ _ _); (· rfl))
    | refine stS ?_ | (refine stB ?_; intro _) | (refine stC ?_; refine And.intro (fun _ => ?_) (fun _ => ?_)))
      refine TC.loopK (fun i : Nat => i ≤ xs.length ∧ looks (xs.drop i) w = R) (fun i => xs.length - i) (fun i _ => [(48, .int .i64 (i : Nat)), (47, .int .i64 (xs.length : Nat)), (46, .slice ao xs.length cap), (1, .int .i64 (w : Nat))]) [] (by repeat (first | apply Drop.nil | apply Drop.cons (by (repeat (first | apply Pick.here | apply Pick.there))))) (fun _ L => L) 0 ⟨Nat.zero_le _, hR.symm⟩ subA selA ?_
      clear hR
      rintro i ⟨hi, hR⟩
      try dsimp only at hi hR ⊢
      by_cases hlt : i < xs.length
      · obtain ⟨x, hx⟩ : ∃ x, xs[i]? = some x := ⟨_, List.getElem?_eq_getElem hlt⟩
        obtain ⟨v, hv, hJ⟩ := hJs.get hx
        obtain ⟨b1, o1, rfl, hg⟩ := hSl.elem hlt (by decide)
        have hld : g.cell b1 (o1 + i * 1) = some v := hg 0 v (by rw [Nat.mul_one]; exact hv)
        have hsz := jsz_get hx
        have A := fun L => IH x (by omega) v g L (w + 1) hJ (smJs_get hS hx) (by omega) hT hU
        rw [looks_at hx] at hR
        generalize lookJ x (w + 1) = r at *
        have HR : Hn _ := ⟨hR⟩
        clear hR hJs hSl hg hS hT hU hv hJ
        repeat' (first
    | refine wkV ?_
    | refine TL.looks (Enters.plain (by kernel_rfl) (by rfl)) (A _) (by rfl) (fun _ => ?_) (fun _ => ?_)
    | refine stS ?_ | (refine stB ?_; intro _) | (refine stC ?_; constructor <;> intro _))
        · rename_i h0
          have hR := HR.out
          rw [if_pos h0.out] at hR
          refine TQ.round (i + 1) ?_ ?_ rfl subA selA
          · exact ⟨by omega, hR⟩
          · show xs.length - (i + 1) < xs.length - i
            omega
        · rename_i h0
          have hR := HR.out
          rw [if_neg h0.out] at hR
          refine TQ.end_panic (L' := L) rfl (.refl _) ?_ selA
          exact .no hR.symm h0.out
      · obtain rfl : i = xs.length := by omega
        rw [List.drop_length, looks] at hR
        clear hJs hSl hS hT hU
        repeat' (first
    | refine stS ?_ | (refine stB ?_; intro _) | (refine stC ?_; constructor <;> intro _))
        refine TQ.end_normal ?_
        refine TQ.endR0 (L' := L) Tryz.results45 rfl (.refl _) ?_ selA
        exact .yes hR.symm
  | N + 1, .obj ns xs, hN, v, g, L, w, hV, hS, hw, hT, hU => by
    have IH := look_does N
    rw [jsz] at hN
    rw [IsJ] at hV
    obtain ⟨sl, flat, rfl, hSl, hMs⟩ := hV
    obtain ⟨ao, cap, rfl⟩ := hSl.slice
    rw [smJ] at hS
    obtain ⟨hl, hnl, hS⟩ := hS
    have hnx := hMs.len
    obtain ⟨R, hR⟩ : ∃ R, R = lookJ (.obj ns xs) w := ⟨_, rfl⟩
    rw [← hR]
    rw [lookJ] at hR
    refine Does.of2 Tryz.func45 rfl Tryz.ntmps45 rfl ?_
    by_cases h32 : 32 ≤ w
    · rw [if_pos h32] at hR
      repeat' (first
    | refine wkV ?_
    | refine TL.throws (Enters.plain (by kernel_rfl) (by rfl)) (need_no (decide_eq_false (by omega)) 10 _ _) (by rfl) ?_
    | refine stS ?_ | (refine stB ?_; intro _) | (refine stC ?_; constructor <;> intro _))
      refine TQ.end_panic (L' := L) rfl (.refl _) ?_ selA
      exact .no hR (by decide)
    · rw [if_neg h32] at hR
      have hR0 : looko (ns.take 0) (ns.drop 0) (xs.drop 0) w = R := by rw [hR]; rfl
      clear hR
      repeat' (first
    | refine wkV ?_
    | ((with_reducible apply TL.gives_plain); (· kernel_rfl); (· rfl); (· exact need_yes (decide_eq_true (by omega)) _ _ _); (· rfl)) | ((with_reducible apply TW.gives_plain); (· kernel_rfl); (· rfl); (· exact need_yes (decide_eq_true (by omega)) _ _ _); (· rfl))
    | refine stS ?_ | (refine stB ?_; intro _) | (refine stC ?_; refine And.intro (fun _ => ?_) (fun _ => ?_)))
      refine TC.loopK (fun i : Nat => i ≤ xs.length ∧ looko (ns.take i) (ns.drop i) (xs.drop i) w = R) (fun i => xs.length - i) (fun i _ => [(65, .int .i64 (i : Nat)), (64, .int .i64 (xs.length : Nat)), (63, .slice ao xs.length cap), (12, .slice ao xs.length cap), (1, .int .i64 (w : Nat))]) [] (by repeat (first | apply Drop.nil | apply Drop.cons (by (repeat (first | apply Pick.here | apply Pick.there))))) (fun _ L => L) 0 ⟨Nat.zero_le _, hR0⟩ subA selA ?_
      clear hR0
      rintro i ⟨hi, hR⟩
      try dsimp only at hi hR ⊢
      by_cases hlt : i < xs.length
      · obtain ⟨x, hx⟩ : ∃ x, xs[i]? = some x := ⟨_, List.getElem?_eq_getElem hlt⟩
        obtain ⟨nm, v, hnm, hv0, hv1, hJ⟩ := hMs.get hx
        have hT2 := hSl.take (i := i) (by omega)
        have hcap := hSl.cap
        have hM2 : Mem (ns.take i) i (flat.take (i * 2)) := fun k hk => by
          obtain ⟨y, hy⟩ : ∃ y, xs[k]? = some y := ⟨_, List.getElem?_eq_getElem (by omega)⟩
          obtain ⟨s1, v1, h1, h2, h3, _⟩ := hMs.get hy
          refine ⟨s1, v1, ?_, ?_, ?_⟩
          · rw [List.getElem?_take, if_pos hk]; exact h1
          · rw [List.getElem?_take, if_pos (by omega)]; exact h2
          · rw [List.getElem?_take, if_pos (by omega)]; exact h3
        have AH := fun L => has_gives (ns.take i) nm ao i cap (flat.take (i * 2)) g L (by rw [List.length_take]; omega) (by omega) hT2 hM2
        have hnmb := hnl nm (List.mem_of_getElem? hnm)
        have AU := fun L => valid_gives nm (L := L) hU (by omega)
        obtain ⟨b1, o1, rfl, hg⟩ := hSl.elem hlt (by decide)
        have hld : ∀ j u, [str nm, v][j]? = some u → g.cell b1 (o1 + i * 2 + j) = some u := fun j u hu => by
          match j, hu with
          | 0, hu => simp at hu; subst hu; exact hg 0 _ hv0
          | 1, hu => simp at hu; subst hu; exact hg 1 _ hv1
          | j + 2, hu => simp at hu
        have hll : [str nm, v].length = 2 := rfl
        have hone := hJ.one
        have hsz := jsz_get hx
        have A := fun L => IH x (by omega) v g L (w + 1) hJ (smJs_get hS hx) (by omega) hT hU
        rw [looko_at hx hnm] at hR
        generalize lookJ x (w + 1) = r at *
        clear hMs hSl hg hS hT hU hv0 hv1 hJ hM2 hT2 hnl
        by_cases hu : utfL nm = false
        · rw [if_pos hu] at hR
          rw [hu] at AU
          repeat' (first
    | refine wkV ?_
    | refine wkD (AU _) ?_
    | refine TL.throws (Enters.plain (by kernel_rfl) (by rfl)) (need_no rfl 11 _ _) (by rfl) ?_
    | refine wkP ?_
    | refine TC.seq ?_ | refine TC.region ?_ | refine TL.nil ?_ | refine TQ.then_normal ?_
    | ((with_reducible apply TL.storeE); (· rfl); (· rfl); (· rfl); (· exact pkA); (· infer_instance)) | ((with_reducible apply TL.store_whole); (· rfl); (· rfl); (· exact oneA); (· rfl); (· exact pkA); (· rfl))
    | refine TC.block ?_ | refine TC.ret ?_ | refine TC.skip ?_ | refine TC.exit ?_ | refine TC.cond rfl ?_
    | refine TQ.down ?_ | refine TQ.in_exit' rfl ?_
    | refine TL.guard_yes rfl rfl ?_ | refine TL.guard_no rfl rfl rfl rfl ?_ | refine TL.guard_no0 rfl rfl rfl ?_ | refine TL.guard_undef rfl rfl rfl ?_ | refine TL.guard_undef0 rfl rfl ?_ | refine TL.guard rfl rfl rfl ?_
    | refine Br.t rfl ?_ | refine Br.f rfl ?_ | refine Br.ky kpA ?_ | refine Br.kn kpA ?_ | refine Br.nky kpA ?_ | refine Br.nkn kpA ?_
    | refine Br.eq0 (fun _ => ?_) (fun _ => ?_) | refine Br.neq0 (fun _ => ?_) (fun _ => ?_) | refine Br.eq (fun _ => ?_) (fun _ => ?_) | refine Br.neq (fun _ => ?_) (fun _ => ?_) | refine Br.not (fun _ => ?_) (fun _ => ?_) | refine Br.dec (fun _ => ?_) (fun _ => ?_) | refine Br.bool (fun _ => ?_) (fun _ => ?_)
    | ((with_reducible apply TL.alloc_ag); (· rfl); intro _) | ((with_reducible apply TL.alloc_sc); (· rfl); (· rfl); intro _) | ((with_reducible apply TL.box_ag); (· rfl); (· rfl); intro _) | ((with_reducible apply TL.box_sc); (· rfl); (· rfl); (· rfl); intro _) | fail)
          refine TQ.end_panic (L' := L) rfl (.refl _) ?_ selA
          exact .no hR.symm (by decide)
        rw [if_neg hu] at hR
        rw [Bool.not_eq_false] at hu
        rw [hu] at AU
        by_cases hin : nm ∈ ns.take i
        · rw [if_pos hin] at hR
          rw [decide_eq_true hin] at AH
          repeat' (first
    | refine wkV ?_
    | refine wkD (AU _) ?_
    | refine wkD (AH _) ?_
    | refine wkD (need_yes rfl _ _ _) ?_
    | refine TL.throws (Enters.plain (by kernel_rfl) (by rfl)) (need_no rfl 13 _ _) (by rfl) ?_
    | ((with_reducible apply TA.take 0); (· decide +kernel); (· rfl); (· (first | exact yA | exact yB | exact yM | exact yV)); (· decide +kernel); (· decide +kernel); (· rfl); (· exact fun _ _ _ h => h); (· rfl))
    | ((with_reducible apply TA.take 1); (· decide +kernel); (· rfl); (· (first | exact yA | exact yB | exact yM | exact yV)); (· decide +kernel); (· decide +kernel); (· rfl); (· exact fun _ _ _ h => h); (· rfl))
    | ((with_reducible apply TA.take 2); (· decide +kernel); (· rfl); (· (first | exact yA | exact yB | exact yM | exact yV)); (· decide +kernel); (· decide +kernel); (· rfl); (· exact fun _ _ _ h => h); (· rfl))
    | ((with_reducible apply TA.take 3); (· decide +kernel); (· rfl); (· (first | exact yA | exact yB | exact yM | exact yV)); (· decide +kernel); (· decide +kernel); (· rfl); (· exact fun _ _ _ h => h); (· rfl))
    | ((with_reducible apply TA.take 4); (· decide +kernel); (· rfl); (· (first | exact yA | exact yB | exact yM | exact yV)); (· decide +kernel); (· decide +kernel); (· rfl); (· exact fun _ _ _ h => h); (· rfl))
    | ((with_reducible apply TA.take 5); (· decide +kernel); (· rfl); (· (first | exact yA | exact yB | exact yM | exact yV)); (· decide +kernel); (· decide +kernel); (· rfl); (· exact fun _ _ _ h => h); (· rfl))
    | ((with_reducible apply TA.take 6); (· decide +kernel); (· rfl); (· (first | exact yA | exact yB | exact yM | exact yV)); (· decide +kernel); (· decide +kernel); (· rfl); (· exact fun _ _ _ h => h); (· rfl))
    | ((with_reducible apply TA.take 7); (· decide +kernel); (· rfl); (· (first | exact yA | exact yB | exact yM | exact yV)); (· decide +kernel); (· decide +kernel); (· rfl); (· exact fun _ _ _ h => h); (· rfl))
    | ((with_reducible apply TA.one 0); (· rfl); (· decide +kernel); (· rfl))
    | ((with_reducible apply TA.one 1); (· rfl); (· decide +kernel); (· rfl))
    | ((with_reducible apply TA.one 2); (· rfl); (· decide +kernel); (· rfl))
    | ((with_reducible apply TA.one 3); (· rfl); (· decide +kernel); (· rfl))
    | ((with_reducible apply TA.one 4); (· rfl); (· decide +kernel); (· rfl))
    | ((with_reducible apply TA.one 5); (· rfl); (· decide +kernel); (· rfl))
    | ((with_reducible apply TA.one 6); (· rfl); (· decide +kernel); (· rfl))
    | ((with_reducible apply TA.one 7); (· rfl); (· decide +kernel); (· rfl))
    | refine TQ.any leA selA ?_
    | refine TC.region_any 8 (_) (by kernel_rfl) rfl selA ?_ | refine TA.done (by decide +kernel) ?_ | refine TQ.any_panic ?_
    | refine wkP ?_
    | refine TC.seq ?_ | refine TC.region ?_ | refine TL.nil ?_ | refine TQ.then_normal ?_
    | ((with_reducible apply TL.storeE); (· rfl); (· rfl); (· rfl); (· exact pkA); (· infer_instance)) | ((with_reducible apply TL.store_whole); (· rfl); (· rfl); (· exact oneA); (· rfl); (· exact pkA); (· rfl))
    | refine TC.block ?_ | refine TC.ret ?_ | refine TC.skip ?_ | refine TC.exit ?_ | refine TC.cond rfl ?_
    | refine TQ.down ?_ | refine TQ.in_exit' rfl ?_
    | refine TL.guard_yes rfl rfl ?_ | refine TL.guard_no rfl rfl rfl rfl ?_ | refine TL.guard_no0 rfl rfl rfl ?_ | refine TL.guard_undef rfl rfl rfl ?_ | refine TL.guard_undef0 rfl rfl ?_ | refine TL.guard rfl rfl rfl ?_
    | refine Br.t rfl ?_ | refine Br.f rfl ?_ | refine Br.ky kpA ?_ | refine Br.kn kpA ?_ | refine Br.nky kpA ?_ | refine Br.nkn kpA ?_
    | refine Br.eq0 (fun _ => ?_) (fun _ => ?_) | refine Br.neq0 (fun _ => ?_) (fun _ => ?_) | refine Br.eq (fun _ => ?_) (fun _ => ?_) | refine Br.neq (fun _ => ?_) (fun _ => ?_) | refine Br.not (fun _ => ?_) (fun _ => ?_) | refine Br.dec (fun _ => ?_) (fun _ => ?_) | refine Br.bool (fun _ => ?_) (fun _ => ?_)
    | ((with_reducible apply TL.alloc_ag); (· rfl); intro _) | ((with_reducible apply TL.alloc_sc); (· rfl); (· rfl); intro _) | ((with_reducible apply TL.box_ag); (· rfl); (· rfl); intro _) | ((with_reducible apply TL.box_sc); (· rfl); (· rfl); (· rfl); intro _) | fail)
          refine TQ.end_panic (L' := L) rfl (.refl _) ?_ selA
          exact .no hR.symm (by decide)
        rw [if_neg hin] at hR
        rw [decide_eq_false hin] at AH
        have HR : Hn _ := ⟨hR⟩
        clear hR
        repeat' (first
    | refine wkV ?_
    | refine wkD (AU _) ?_
    | refine wkD (AH _) ?_
    | refine wkD (need_yes rfl _ _ _) ?_
    | refine TL.looks (Enters.plain (by kernel_rfl) (by rfl)) (A _) (by rfl) (fun _ => ?_) (fun _ => ?_)
    | ((with_reducible apply TA.take 0); (· decide +kernel); (· rfl); (· (first | exact yA | exact yB | exact yM | exact yV)); (· decide +kernel); (· decide +kernel); (· rfl); (· exact fun _ _ _ h => h); (· rfl))
    | ((with_reducible apply TA.take 1); (· decide +kernel); (· rfl); (· (first | exact yA | exact yB | exact yM | exact yV)); (· decide +kernel); (· decide +kernel); (· rfl); (· exact fun _ _ _ h => h); (· rfl))
    | ((with_reducible apply TA.take 2); (· decide +kernel); (· rfl); (· (first | exact yA | exact yB | exact yM | exact yV)); (· decide +kernel); (· decide +kernel); (· rfl); (· exact fun _ _ _ h => h); (· rfl))
    | ((with_reducible apply TA.take 3); (· decide +kernel); (· rfl); (· (first | exact yA | exact yB | exact yM | exact yV)); (· decide +kernel); (· decide +kernel); (· rfl); (· exact fun _ _ _ h => h); (· rfl))
    | ((with_reducible apply TA.take 4); (· decide +kernel); (· rfl); (· (first | exact yA | exact yB | exact yM | exact yV)); (· decide +kernel); (· decide +kernel); (· rfl); (· exact fun _ _ _ h => h); (· rfl))
    | ((with_reducible apply TA.take 5); (· decide +kernel); (· rfl); (· (first | exact yA | exact yB | exact yM | exact yV)); (· decide +kernel); (· decide +kernel); (· rfl); (· exact fun _ _ _ h => h); (· rfl))
    | ((with_reducible apply TA.take 6); (· decide +kernel); (· rfl); (· (first | exact yA | exact yB | exact yM | exact yV)); (· decide +kernel); (· decide +kernel); (· rfl); (· exact fun _ _ _ h => h); (· rfl))
    | ((with_reducible apply TA.take 7); (· decide +kernel); (· rfl); (· (first | exact yA | exact yB | exact yM | exact yV)); (· decide +kernel); (· decide +kernel); (· rfl); (· exact fun _ _ _ h => h); (· rfl))
    | ((with_reducible apply TA.one 0); (· rfl); (· decide +kernel); (· rfl))
    | ((with_reducible apply TA.one 1); (· rfl); (· decide +kernel); (· rfl))
    | ((with_reducible apply TA.one 2); (· rfl); (· decide +kernel); (· rfl))
    | ((with_reducible apply TA.one 3); (· rfl); (· decide +kernel); (· rfl))
    | ((with_reducible apply TA.one 4); (· rfl); (· decide +kernel); (· rfl))
    | ((with_reducible apply TA.one 5); (· rfl); (· decide +kernel); (· rfl))
    | ((with_reducible apply TA.one 6); (· rfl); (· decide +kernel); (· rfl))
    | ((with_reducible apply TA.one 7); (· rfl); (· decide +kernel); (· rfl))
    | refine TQ.any leA selA ?_
    | refine TC.region_any 8 (_) (by kernel_rfl) rfl selA ?_ | refine TA.done (by decide +kernel) ?_ | refine TQ.any_panic ?_
    | refine wkP ?_
    | refine TC.seq ?_ | refine TC.region ?_ | refine TL.nil ?_ | refine TQ.then_normal ?_
    | ((with_reducible apply TL.storeE); (· rfl); (· rfl); (· rfl); (· exact pkA); (· infer_instance)) | ((with_reducible apply TL.store_whole); (· rfl); (· rfl); (· exact oneA); (· rfl); (· exact pkA); (· rfl))
    | refine TC.block ?_ | refine TC.ret ?_ | refine TC.skip ?_ | refine TC.exit ?_ | refine TC.cond rfl ?_
    | refine TQ.down ?_ | refine TQ.in_exit' rfl ?_
    | refine TL.guard_yes rfl rfl ?_ | refine TL.guard_no rfl rfl rfl rfl ?_ | refine TL.guard_no0 rfl rfl rfl ?_ | refine TL.guard_undef rfl rfl rfl ?_ | refine TL.guard_undef0 rfl rfl ?_ | refine TL.guard rfl rfl rfl ?_
    | refine Br.t rfl ?_ | refine Br.f rfl ?_ | refine Br.ky kpA ?_ | refine Br.kn kpA ?_ | refine Br.nky kpA ?_ | refine Br.nkn kpA ?_
    | refine Br.eq0 (fun _ => ?_) (fun _ => ?_) | refine Br.neq0 (fun _ => ?_) (fun _ => ?_) | refine Br.eq (fun _ => ?_) (fun _ => ?_) | refine Br.neq (fun _ => ?_) (fun _ => ?_) | refine Br.not (fun _ => ?_) (fun _ => ?_) | refine Br.dec (fun _ => ?_) (fun _ => ?_) | refine Br.bool (fun _ => ?_) (fun _ => ?_)
    | ((with_reducible apply TL.alloc_ag); (· rfl); intro _) | ((with_reducible apply TL.alloc_sc); (· rfl); (· rfl); intro _) | ((with_reducible apply TL.box_ag); (· rfl); (· rfl); intro _) | ((with_reducible apply TL.box_sc); (· rfl); (· rfl); (· rfl); intro _) | fail)
        · rename_i h0
          have hR := HR.out
          rw [if_pos h0.out] at hR
          refine TQ.round (i + 1) ?_ ?_ rfl subA selA
          · exact ⟨by omega, hR⟩
          · show xs.length - (i + 1) < xs.length - i
            omega
        · rename_i h0
          have hR := HR.out
          rw [if_neg h0.out] at hR
          refine TQ.end_panic (L' := L) rfl (.refl _) ?_ selA
          exact .no hR.symm h0.out
      · obtain rfl : i = xs.length := by omega
        rw [List.drop_length, looko] at hR
        clear hMs hSl hS hT hU hnl
        repeat' (first
    | refine stS ?_ | (refine stB ?_; intro _) | (refine stC ?_; constructor <;> intro _))
        refine TQ.end_normal ?_
        refine TQ.endR0 (L' := L) Tryz.results45 rfl (.refl _) ?_ selA
        exact .yes hR.symm
end Go.Proofs.YtgollffmdpejiaaGreatDoor
namespace Go.Proofs.YtgollffmdpejiaaGreatDoor
open Go.RowKit Go.TL
set_option maxRecDepth 100000

def stopR (k : Nat) : PanicEntry := { v := .iface 135 (.agg #[.int .i64 (k : Nat)]), recovered := true }
set_option maxHeartbeats 1000000 in
theorem catch_stop (b k : Nat) (x : Value) (w : World) (h2 : w.cell? ⟨b, 0, none⟩ = some x) (z2 : w.frozen? ⟨b, 0, none⟩ = false) (l2 : b < w.heap.size) :
    CallsD Tryz.prog 44 #[.pointer (some ⟨b, 0, none⟩)] (.panicking [stopV k]) w fun e u' w' =>
      e = .returned (.tuple #[]) ∧ u' = .panicking [stopR k] ∧ w' = (w.setCell ⟨b, 0, none⟩ (.int .i64 (k : Nat))).alloc (.cells #[.int .i64 (k : Nat)] 135) := by
  refine callsD_of_wpS Tryz.func44 rfl fun c₀ cs hu => ?_
  apply wpS_seq
  apply wpS_region
  simp [wpOpsS, go_sem, recoverD, hu, Tryz.ntmps44, Exit.thenS, stopV]
  refine wpS_of_wp ?_
  simp only [Array.replicate_succ, Array.replicate_zero, List.push_toArray, List.append_toArray, List.nil_append, List.cons_append, List.setIfInBounds_toArray, List.set_cons_succ, List.set_cons_zero]
  have hta : ∀ w, (Instr.typeAssert (.iface 135 (.agg #[.int .i64 (k : Nat)])) 20 135 true).run Tryz.prog w = .ok (.tuple #[.agg #[.int .i64 (k : Nat)], .bool true]) w := fun _ => by kernel_rfl
  have c2 : ∀ o, (w.alloc o).cell? ⟨b, 0, none⟩ = some x := fun o => (World.cell?_alloc_lt _ _ _ l2).trans h2
  have d2 : ∀ o, (w.alloc o).frozen? ⟨b, 0, none⟩ = false := fun o => (World.frozen?_alloc_old _ _ _ (by show b ≠ _; omega)).trans z2
  clear h2 z2
  go_wp2_with fail
  simp [bodyPostS, results, Tryz.results44, stopR]
theorem catch_idle (b : Nat) (w : World) :
    CallsD Tryz.prog 44 #[.pointer (some ⟨b, 0, none⟩)] .returning w fun e u' w' => e = .returned (.tuple #[]) ∧ u' = .returning ∧ w' = w := by
  refine callsD_of_wpS Tryz.func44 rfl fun c₀ cs hu => ?_
  apply wpS_seq
  apply wpS_region
  simp [wpOpsS, go_sem, recoverD, hu, Tryz.ntmps44, Exit.thenS]
  refine wpS_of_wp ?_
  simp only [Array.replicate_succ, Array.replicate_zero, List.push_toArray, List.append_toArray, List.nil_append, List.cons_append, List.setIfInBounds_toArray, List.set_cons_succ, List.set_cons_zero]
  go_wp2
  cases c₀
  simp_all [bodyPostS, results, Tryz.results44]
theorem late_stop (b k : Nat) (x : Value) (g : Gh) (L : List Ent) : Late Tryz.prog 44 #[.pointer (some ⟨b, 0, none⟩)] (.panicking [stopV k]) (.panicking [stopR k]) g (.obj b (.cells [x].toArray 23 (0, 0)) :: L) (.obj b (.cells [.int .i64 (k : Nat)].toArray 23 (0, 0)) :: L) :=
  ⟨fun w hs => by
    have h := hs.st _ List.mem_cons_self
    have hl : b < w.heap.size := hs.lt b (by simp [fps, Ent.fp])
    refine (catch_stop b k x w (obj_cell h 0) (obj_frozen h 0) hl).mono ?_
    rintro e u w' ⟨rfl, rfl, rfl⟩
    exact ⟨⟨_, rfl⟩, rfl, ((hs.set _ 0).alloc _).tail⟩⟩
theorem late_idle (b : Nat) (g : Gh) (L : List Ent) : Late Tryz.prog 44 #[.pointer (some ⟨b, 0, none⟩)] .returning .returning g L L :=
  ⟨fun w hs => by
    refine (catch_idle b w).mono ?_
    rintro e u w' ⟨rfl, rfl, rfl⟩
    exact ⟨⟨_, rfl⟩, rfl, hs⟩⟩
theorem may_gives (x : J) (v : Value) (g : Gh) (L : List Ent) (hV : IsJ g x v) (hS : smJ x) (hT : GTabs g) (hU : GU8 g) : Gives Tryz.prog 23 #[v] g L (.int .i64 (lookJ x 0 : Nat)) := by
  refine .of (Does.ofD1 Tryz.func23 rfl Tryz.ntmps23 rfl ?_)
  have A := fun L => look_does _ x (Nat.le_refl _) v g L 0 hV hS (by decide) hT hU
  generalize lookJ x 0 = r at *
  clear hV hS hT hU
  repeat' (first
    | refine TL.looks (Enters.plain (by kernel_rfl) (by rfl)) (A _) (by rfl) (fun _ => ?_) (fun _ => ?_)
    | refine TL.defer (by rfl) ?_
    | refine stS ?_ | (refine stB ?_; intro _) | (refine stC ?_; constructor <;> intro _))
  · rename_i b h0
    have hr := h0.out
    subst hr
    refine TQ.endD_ret1 (L' := L) (vs := [.pointer (some ⟨b, 0, none⟩)]) (caps := []) (late_idle b g _) rfl (by kernel_rfl) Tryz.results23 rvA (.refl _) ?_ (.refl _) selA
    exact ⟨rfl, rfl, rfl⟩
  · rename_i b h0
    refine TQ.endD_panic1 (L' := L) (vs := [.pointer (some ⟨b, 0, none⟩)]) (caps := []) (late_stop b r _ g L) rfl rfl (by kernel_rfl) Tryz.results23 rvA (.refl _) ?_ (.refl _) selA
    exact ⟨rfl, rfl, rfl⟩
theorem look_toJ : ∀ (N : Nat) (x : DV), dsz x ≤ N → ∀ w, lookJ (toJ x) w = mayV x w
  | 0, .mk .., h, _ => by rw [dsz] at h; omega
  | N + 1, .mk k b n s items names, h, w => by
    have IH := look_toJ N
    rw [dsz] at h
    rw [toJ_eq, mayV]
    have H1 : ∀ l : List DV, dszs l ≤ N → looks (l.map toJ) w = mays l w := by
      intro l
      induction l with
      | nil => intro _; rfl
      | cons x r ih =>
        intro hl
        rw [dszs] at hl
        rw [List.map_cons, looks, mays, IH x (by omega), ih (by omega)]
    have H2 : ∀ (l : List DV) (seen ns : List (List UInt8)), dszs l ≤ N → looko seen ns (l.map toJ) w = mayo seen ns l w := by
      intro l
      induction l with
      | nil => intro _ _ _; rfl
      | cons x r ih =>
        intro seen ns hl
        rw [dszs] at hl
        rw [List.map_cons, looko, mayo, IH x (by omega), ih _ _ (by omega)]
    by_cases k0 : k = 0
    · rw [if_pos k0, if_pos (.inl k0)]; rfl
    rw [if_neg k0]
    by_cases k1 : k = 1
    · rw [if_pos k1, if_pos (.inr k1)]; rfl
    rw [if_neg k1, if_neg (show ¬ (k = 0 ∨ k = 1) by omega)]
    by_cases k2 : k = 2
    · rw [if_pos k2, if_pos k2, lookJ]
    rw [if_neg k2, if_neg k2]
    by_cases k3 : k = 3
    · rw [if_pos k3, if_pos k3, lookJ]
    rw [if_neg k3, if_neg k3]
    by_cases k4 : k = 4
    · rw [if_pos k4, if_pos k4, lookJ, H1 items (by omega)]
    rw [if_neg k4, if_neg k4]
    by_cases k5 : k = 5
    · rw [if_pos k5, if_pos k5, lookJ, H2 items [] names (by omega)]
    rw [if_neg k5, if_neg k5, lookJ]
theorem sm_toJ : ∀ (N : Nat) (x : DV), dsz x ≤ N → ∀ l, 0 ≤ cnt x l → smJ (toJ x)
  | 0, .mk .., h, _, _ => by rw [dsz] at h; omega
  | N + 1, .mk k b n s items names, h, l, hc => by
    have IH := sm_toJ N
    rw [dsz] at h
    rw [cnt] at hc
    split at hc
    · omega
    rename_i hno
    rw [toJ_eq]
    have H1 : ∀ (o : Bool) (ns : List (List UInt8)) (r : List DV) (m : Int), dszs r ≤ N → 0 ≤ cnts o ns r m → smJs (r.map toJ) ∧ (o = true → ∀ n ∈ ns.take r.length, n.length ≤ 300) := by
      intro o ns r
      induction r generalizing ns with
      | nil => intro m _ _; exact ⟨by rw [List.map_nil, smJs]; trivial, by simp⟩
      | cons x r ih =>
        intro m hl hm
        rw [dszs] at hl
        rw [cnts] at hm
        split at hm
        · omega
        · rename_i h1
          split at hm
          · omega
          · rename_i h2
            have h3 := ih ns.tail _ (by omega) hm
            refine ⟨by rw [List.map_cons, smJs]; exact ⟨IH x (by omega) m (by omega), h3.1⟩, fun ho nm hn => ?_⟩
            cases ns with
            | nil => simp at hn
            | cons a t =>
              rw [List.length_cons, List.take_succ_cons, List.mem_cons] at hn
              rcases hn with rfl | hn
              · have : ¬ (o = true ∧ 300 < nm.length) := h1
                have : ¬ 300 < nm.length := fun e => this ⟨ho, e⟩
                omega
              · exact h3.2 ho nm hn
    by_cases k0 : k = 0
    · rw [if_pos k0, smJ]; trivial
    rw [if_neg k0]
    by_cases k1 : k = 1
    · rw [if_pos k1, smJ]; trivial
    rw [if_neg k1]
    by_cases k2 : k = 2
    · rw [if_pos k2, smJ]; trivial
    rw [if_neg k2]
    by_cases k3 : k = 3
    · rw [if_pos k3, smJ]; omega
    rw [if_neg k3]
    by_cases k4 : k = 4
    · rw [if_pos (.inl k4)] at hc
      rw [if_pos k4, smJ, List.length_map]
      exact ⟨by omega, (H1 _ _ _ _ (by omega) hc).1⟩
    rw [if_neg k4]
    by_cases k5 : k = 5
    · rw [if_pos (.inr k5)] at hc
      rw [if_pos k5, smJ, List.length_map]
      have h3 := H1 _ _ _ _ (by omega) hc
      have hl : names.length = items.length := by omega
      refine ⟨by omega, fun nm hn => ?_, h3.1⟩
      have := h3.2 (by simp [k5]) nm (by rw [← hl, List.take_length]; exact hn)
      omega
    rw [if_neg k5, smJ]; trivial
end Go.Proofs.YtgollffmdpejiaaGreatDoor
namespace Go.Proofs.YtgollffmdpejiaaGreatDoor
open Go.RowKit

def stepsF : List UInt8 → List UInt8 → Option (List (List UInt8))
  | [], cur => if cur = [] then none else some [cur]
  | c :: t, cur => if c = 46 then (if cur = [] then none else (stepsF t []).map (cur :: ·)) else stepsF t (cur ++ [c])
def stepsL (p : List UInt8) : Option (List (List UInt8)) := if 1 ≤ p.length ∧ p.length ≤ 128 ∧ utfL p = true then stepsF p [] else none
def joinS : List (List UInt8) → List UInt8
  | [] => []
  | [s] => s
  | s :: r => s ++ 46 :: joinS r
theorem stepsF_run : ∀ (w t cur : List UInt8), (∀ y ∈ w, y ≠ 46) → stepsF (w ++ t) cur = stepsF t (cur ++ w)
  | [], t, cur, _ => by simp
  | c :: w, t, cur, h => by
    rw [List.cons_append, stepsF, if_neg (h c (by simp)), stepsF_run w t _ (fun y hy => h y (by simp [hy]))]
    simp
theorem joinS_cons {s : List UInt8} {r : List (List UInt8)} (h : r ≠ []) : joinS (s :: r) = s ++ 46 :: joinS r := by
  cases r with
  | nil => exact absurd rfl h
  | cons => rfl
theorem stepsF_ne : ∀ (t cur : List UInt8) (l : List (List UInt8)), stepsF t cur = some l → l ≠ []
  | [], cur, l, h => by
    rw [stepsF] at h
    split at h
    · cases h
    · obtain rfl := Option.some.inj h; simp
  | c :: t, cur, l, h => by
    rw [stepsF] at h
    split at h
    · split at h
      · cases h
      · obtain ⟨r, _, rfl⟩ := Option.map_eq_some_iff.1 h; simp
    · exact stepsF_ne t _ l h
theorem stepsF_join : ∀ (t cur : List UInt8) (l : List (List UInt8)), stepsF t cur = some l → joinS l = cur ++ t
  | [], cur, l, h => by
    rw [stepsF] at h
    split at h
    · cases h
    · obtain rfl := Option.some.inj h; simp [joinS]
  | c :: t, cur, l, h => by
    rw [stepsF] at h
    split at h
    · rename_i hc
      split at h
      · cases h
      · obtain ⟨r, hr, rfl⟩ := Option.map_eq_some_iff.1 h
        rw [joinS_cons (stepsF_ne _ _ _ hr), stepsF_join t [] r hr, hc]; simp
    · rw [stepsF_join t _ l h]; simp
theorem stepsF_good : ∀ (t cur : List UInt8) (l : List (List UInt8)), stepsF t cur = some l → (∀ y ∈ cur, y ≠ 46) → ∀ s ∈ l, s ≠ [] ∧ ∀ y ∈ s, y ≠ 46
  | [], cur, l, h, hc => by
    rw [stepsF] at h
    split at h
    · cases h
    · rename_i h0
      obtain rfl := Option.some.inj h
      intro s hs
      obtain rfl : s = cur := by simpa using hs
      exact ⟨h0, hc⟩
  | c :: t, cur, l, h, hc => by
    rw [stepsF] at h
    split at h
    · split at h
      · cases h
      · rename_i h0
        obtain ⟨r, hr, rfl⟩ := Option.map_eq_some_iff.1 h
        intro s hs
        rcases List.mem_cons.1 hs with rfl | hs
        · exact ⟨h0, hc⟩
        · exact stepsF_good t [] r hr (by simp) s hs
    · rename_i h0
      exact stepsF_good t _ l h (fun y hy => by
        rcases List.mem_append.1 hy with hy | hy
        · exact hc y hy
        · obtain rfl : y = c := by simpa using hy
          exact h0)
/-! ### UTF-8, cut at a sign -/
theorem utfF_more : ∀ (f k : Nat) (l : List UInt8), l.length ≤ f → l.length ≤ k → utfF f l = utfF k l
  | 0, k, l, h, _ => by
    obtain rfl := List.eq_nil_of_length_eq_zero (by omega : l.length = 0)
    cases k <;> simp [utfF]
  | f + 1, 0, l, _, h => by
    obtain rfl := List.eq_nil_of_length_eq_zero (by omega : l.length = 0)
    simp [utfF]
  | f + 1, k + 1, l, h1, h2 => by
    rw [utfF, utfF]
    split
    · rfl
    split
    · rfl
    · rename_i h0 hs
      have hl : l.length ≠ 0 := fun e => h0 (List.eq_nil_of_length_eq_zero e)
      exact utfF_more f k _ (by rw [List.length_drop]; omega) (by rw [List.length_drop]; omega)
theorem utfL_eq (l : List UInt8) : utfL l = if l = [] then true else if signL l = 0 then false else utfL (l.drop (signL l)) := by
  unfold utfL
  cases l with
  | nil => rfl
  | cons c t =>
    rw [List.length_cons, utfF]
    split
    · rfl
    split
    · rfl
    · rename_i hs
      exact utfF_more _ _ _ (by rw [List.length_drop, List.length_cons]; omega) (Nat.le_refl _)
theorem contL_ge : ∀ (r : List UInt8) (c d : Nat), contL c r = some d → ∀ y ∈ r, 128 ≤ y.toNat
  | [], _, _, _, _, h => by cases h
  | x :: r, c, d, h, y, hy => by
    rw [contL] at h
    split at h
    · rename_i hx
      rcases List.mem_cons.1 hy with rfl | hy
      · exact hx.1
      · exact contL_ge r _ d h y hy
    · cases h
theorem signL_ge (x : UInt8) (r : List UInt8) (h : signL (x :: r) ≠ 0) : (x.toNat < 128 ∧ signL (x :: r) = 1) ∨ (128 ≤ x.toNat ∧ 2 ≤ signL (x :: r) ∧ ∀ y ∈ (x :: r).take (signL (x :: r)), 128 ≤ y.toNat) := by
  unfold signL at h ⊢
  dsimp only at h ⊢
  split at h
  · rename_i hx
    exact .inl ⟨hx, by rw [if_pos hx]⟩
  · rename_i hx
    right
    rw [if_neg hx]
    cases hh : hdrL x.toNat with
    | none => rw [hh] at h; exact absurd rfl h
    | some q =>
      obtain ⟨n, c, least⟩ := q
      obtain ⟨n2, n4, _, _⟩ := hdrL_bd hh
      rw [hh] at h
      dsimp only at h ⊢
      split at h
      · exact absurd rfl h
      · rename_i hn
        rw [if_neg hn]
        cases hcc : contL c (r.take (n - 1)) with
        | none => rw [hcc] at h; exact absurd rfl h
        | some d =>
          rw [hcc] at h
          dsimp only at h ⊢
          have hok : okL n least d = n := by
            unfold okL at h ⊢
            split at h
            · exact absurd rfl h
            · rename_i h2; rw [if_neg h2]
          rw [hok]
          refine ⟨by omega, n2, fun y hy => ?_⟩
          obtain ⟨m, rfl⟩ : ∃ m, n = m + 1 := ⟨n - 1, by omega⟩
          rw [List.take_succ_cons] at hy
          rcases List.mem_cons.1 hy with rfl | hy
          · omega
          · exact contL_ge _ _ _ hcc y (by simpa using hy)
theorem signL_cut (l t : List UInt8) (h0 : signL (l ++ t) ≠ 0) (h : signL (l ++ t) ≤ l.length) : signL l = signL (l ++ t) := by
  cases l with
  | nil => exact absurd (Nat.le_zero.1 h) h0
  | cons x r =>
    rw [List.cons_append] at h0 h ⊢
    unfold signL at h0 h ⊢
    dsimp only at h0 h ⊢
    split at h0
    · rename_i hx; rw [if_pos hx, if_pos hx]
    · rename_i hx
      rw [if_neg hx] at h ⊢
      rw [if_neg hx]
      cases hh : hdrL x.toNat with
      | none => rfl
      | some q =>
        obtain ⟨n, c, least⟩ := q
        obtain ⟨n2, n4, _, _⟩ := hdrL_bd hh
        rw [hh] at h0 h
        dsimp only at h0 h ⊢
        split at h0
        · exact absurd rfl h0
        · rename_i hn
          rw [if_neg hn] at h ⊢
          cases hcc : contL c ((r ++ t).take (n - 1)) with
          | none => rw [hcc] at h0; exact absurd rfl h0
          | some d =>
            rw [hcc] at h0 h
            dsimp only at h0 h
            have hok : okL n least d = n := by
              unfold okL at h0 ⊢
              split at h0
              · exact absurd rfl h0
              · rename_i h2; rw [if_neg h2]
            rw [hok, List.length_cons] at h
            rw [if_neg (by omega)]
            rw [List.take_append_of_le_length (by omega)] at hcc
            rw [hcc]
theorem utf_cut : ∀ (n : Nat) (a b : List UInt8), a.length ≤ n → utfL (a ++ 46 :: b) = true → utfL a = true ∧ utfL b = true
  | n, [], b, _, hu => by
    rw [List.nil_append, utfL_eq, if_neg (by simp)] at hu
    have h1 : signL (46 :: b) = 1 := by simp [signL]
    rw [h1, if_neg (by decide)] at hu
    exact ⟨rfl, hu⟩
  | 0, c :: t, b, h, _ => by simp at h
  | n + 1, c :: t, b, h, hu => by
    rw [utfL_eq, if_neg (by simp)] at hu
    split at hu
    · cases hu
    · rename_i h0
      have hle : signL ((c :: t) ++ 46 :: b) ≤ (c :: t).length := by
        rcases signL_ge c (t ++ 46 :: b) h0 with ⟨_, h1⟩ | ⟨_, _, h2⟩
        · have h1 : signL (c :: t ++ 46 :: b) = 1 := h1
          rw [h1, List.length_cons]; omega
        · apply Nat.le_of_not_lt
          intro hlt
          have : (46 : UInt8) ∈ (c :: (t ++ 46 :: b)).take (signL (c :: (t ++ 46 :: b))) := by
            have h3 : (c :: t).length < signL (c :: (t ++ 46 :: b)) := hlt
            have h4 : c :: (t ++ 46 :: b) = (c :: t) ++ 46 :: b := rfl
            rw [h4, List.take_append, List.mem_append]
            right
            rw [h4] at h3
            obtain ⟨k, hk⟩ : ∃ k, signL (c :: t ++ 46 :: b) - (c :: t).length = k + 1 := ⟨signL (c :: t ++ 46 :: b) - (c :: t).length - 1, by omega⟩
            rw [hk, List.take_succ_cons]; simp
          have := h2 _ this
          simp at this
      have he := signL_cut (c :: t) (46 :: b) h0 hle
      rw [List.drop_append_of_le_length hle] at hu
      have := utf_cut n _ b (by rw [List.length_drop]; simp only [List.length_cons] at h ⊢; omega) hu
      refine ⟨?_, this.2⟩
      rw [utfL_eq, if_neg (by simp), he, if_neg h0]
      exact this.1
theorem utf_joinS : ∀ (l : List (List UInt8)), utfL (joinS l) = true → ∀ s ∈ l, utfL s = true
  | [], _, _, h => by cases h
  | [a], hu, s, h => by
    obtain rfl : s = a := by simpa using h
    exact hu
  | a :: b :: r, hu, s, h => by
    rw [joinS_cons (by simp)] at hu
    obtain ⟨h1, h2⟩ := utf_cut _ a _ (Nat.le_refl _) hu
    rcases List.mem_cons.1 h with rfl | h
    · exact h1
    · exact utf_joinS (b :: r) h2 s h
theorem stepsL_some {p : List UInt8} {l : List (List UInt8)} (h : stepsL p = some l) : p = joinS l ∧ l ≠ [] ∧ p.length ≤ 128 ∧ utfL p = true ∧ ∀ s ∈ l, s ≠ [] ∧ (∀ y ∈ s, y ≠ 46) ∧ utfL s = true := by
  unfold stepsL at h
  split at h
  · rename_i hc
    have h1 := stepsF_join p [] l h
    rw [List.nil_append] at h1
    have h2 := stepsF_good p [] l h (by simp)
    have h3 := utf_joinS l (by rw [h1]; exact hc.2.2)
    exact ⟨h1.symm, stepsF_ne _ _ _ h, hc.2.1, hc.2.2, fun s hs => ⟨(h2 s hs).1, (h2 s hs).2, h3 s hs⟩⟩
  · cases h
theorem joinS_len : ∀ (l : List (List UInt8)), ∀ s ∈ l, s.length ≤ (joinS l).length
  | [], _, h => by cases h
  | [a], s, h => by
    obtain rfl : s = a := by simpa using h
    exact Nat.le_refl _
  | a :: b :: r, s, h => by
    rw [joinS_cons (by simp), List.length_append, List.length_cons]
    rcases List.mem_cons.1 h with rfl | h
    · omega
    · have := joinS_len (b :: r) s h; omega
theorem joinS_count : ∀ (l : List (List UInt8)), (∀ s ∈ l, s ≠ []) → l.length ≤ (joinS l).length
  | [], _ => by simp
  | [a], h => by
    have : a.length ≠ 0 := fun e => h a (by simp) (List.eq_nil_of_length_eq_zero e)
    simp [joinS]; omega
  | a :: b :: r, h => by
    have h1 : a.length ≠ 0 := fun e => h a (by simp) (List.eq_nil_of_length_eq_zero e)
    have := joinS_count (b :: r) (fun s hs => h s (by simp [hs]))
    rw [joinS_cons (by simp)]
    simp only [List.length_append, List.length_cons] at this ⊢
    omega
/-! ### Numbers in figures -/
def numL (s : List UInt8) : Nat := s.foldl (fun a c => 10 * a + (c.toNat - 48)) 0
def itemL (s : List UInt8) : Option Nat := if s = Lib.decDigits (numL s) then some (numL s) else none
end Go.Proofs.YtgollffmdpejiaaGreatDoor
