/-
  Values alike, the document's way and the program's. The walk of json.Field.
-/
import Derived.Test.YtfmadoeadmclbaaGreatDoorHc41
import Derived.Test.YtfmadoeadmclbaaGreatDoorHc43
import Derived.Test.YtfmadoeadmclbaaGreatDoorHc38
import Derived.Test.YtfmadoeadmclbaaGreatDoorHc1
import Derived.Test.YtfmadoeadmclbaaGreatDoorHc28
import Derived.Test.YtfmadoeadmclbaaGreatDoorHc12
namespace Go.Proofs.YtfmadoeadmclbaaGreatDoor
open Go.RowKit

theorem kn_kind {k : Int} {b : Bool} {n : Int} {s : List UInt8} {items : List DV} {names : List (List UInt8)} (h : knJ (toJ (.mk k b n s items names))) : k = 0 ∨ k = 1 ∨ k = 2 ∨ k = 3 ∨ (k = 4 ∧ knJs (items.map toJ)) ∨ (k = 5 ∧ knJs (items.map toJ)) := by
  rw [toJ_eq] at h
  by_cases k0 : k = 0
  · exact .inl k0
  rw [if_neg k0] at h
  by_cases k1 : k = 1
  · exact .inr (.inl k1)
  rw [if_neg k1] at h
  by_cases k2 : k = 2
  · exact .inr (.inr (.inl k2))
  rw [if_neg k2] at h
  by_cases k3 : k = 3
  · exact .inr (.inr (.inr (.inl k3)))
  rw [if_neg k3] at h
  by_cases k4 : k = 4
  · rw [if_pos k4, knJ] at h
    exact .inr (.inr (.inr (.inr (.inl ⟨k4, h⟩))))
  rw [if_neg k4] at h
  by_cases k5 : k = 5
  · rw [if_pos k5, knJ] at h
    exact .inr (.inr (.inr (.inr (.inr ⟨k5, h⟩))))
  rw [if_neg k5, knJ] at h
  exact h.elim
theorem toJ_0 (b : Bool) (n : Int) (s : List UInt8) (items : List DV) (names : List (List UInt8)) : toJ (.mk 0 b n s items names) = .null := by rw [toJ_eq]; rfl
theorem toJ_1 (b : Bool) (n : Int) (s : List UInt8) (items : List DV) (names : List (List UInt8)) : toJ (.mk 1 b n s items names) = .bool b := by rw [toJ_eq]; rfl
theorem toJ_2 (b : Bool) (n : Int) (s : List UInt8) (items : List DV) (names : List (List UInt8)) : toJ (.mk 2 b n s items names) = .num n := by rw [toJ_eq]; rfl
theorem toJ_3 (b : Bool) (n : Int) (s : List UInt8) (items : List DV) (names : List (List UInt8)) : toJ (.mk 3 b n s items names) = .text s := by rw [toJ_eq]; rfl
theorem toJ_4 (b : Bool) (n : Int) (s : List UInt8) (items : List DV) (names : List (List UInt8)) : toJ (.mk 4 b n s items names) = .list (items.map toJ) := by rw [toJ_eq]; rfl
theorem toJ_5 (b : Bool) (n : Int) (s : List UInt8) (items : List DV) (names : List (List UInt8)) : toJ (.mk 5 b n s items names) = .obj names (items.map toJ) := by rw [toJ_eq]; rfl
set_option maxHeartbeats 8000000 in
theorem same_toJ : ∀ (N : Nat) (x : DV), dsz x ≤ N → ∀ y, knJ (toJ x) → knJ (toJ y) → lenJ (toJ x) → lenJ (toJ y) → sameJ (toJ x) (toJ y) = sameV x y
  | 0, .mk .., h, _, _, _, _, _ => by rw [dsz] at h; omega
  | N + 1, .mk k b n s items names, hN, .mk k' b' n' s' items' names', hx, hy, lx, ly => by
    have IH := same_toJ N
    rw [dsz] at hN
    have H1 : ∀ (l l' : List DV) (ns ns' : List (List UInt8)), dszs l ≤ N → knJs (l.map toJ) → knJs (l'.map toJ) → lenJs (l.map toJ) → lenJs (l'.map toJ) → l.length = l'.length → sames (l.map toJ) (l'.map toJ) = sameVs false ns l ns' l' := by
      intro l
      induction l with
      | nil => intro l' ns ns' _ _ _ _ _ h; rw [List.map_nil, sameVs]; cases l'.map toJ <;> rfl
      | cons x r ih =>
        intro l' ns ns' hl h1 h2 h3 h4 h
        cases l' with
        | nil => simp at h
        | cons y t =>
          rw [dszs] at hl
          rw [List.map_cons, knJs] at h1 h2
          rw [List.map_cons, lenJs] at h3 h4
          rw [List.map_cons, List.map_cons, sames, sameVs, IH x (by omega) y h1.1 h2.1 h3.1 h4.1, ih t ns.tail ns'.tail (by omega) h1.2 h2.2 h3.2 h4.2 (by simpa using h)]
          rw [Bool.false_and, Bool.not_false, Bool.true_and]
    have H2 : ∀ (l l' : List DV) (ns ns' : List (List UInt8)), dszs l ≤ N → knJs (l.map toJ) → knJs (l'.map toJ) → lenJs (l.map toJ) → lenJs (l'.map toJ) → l.length = l'.length → ns.length = l.length → ns'.length = l'.length → sameo ns (l.map toJ) ns' (l'.map toJ) = sameVs true ns l ns' l' := by
      intro l
      induction l with
      | nil =>
        intro l' ns ns' _ _ _ _ _ _ h5 _
        obtain rfl : ns = [] := List.eq_nil_of_length_eq_zero h5
        rw [List.map_nil, sameVs]; rfl
      | cons x r ih =>
        intro l' ns ns' hl h1 h2 h3 h4 h h5 h6
        cases l' with
        | nil => simp at h
        | cons y t =>
          cases ns with
          | nil => simp at h5
          | cons m ms =>
            cases ns' with
            | nil => simp at h6
            | cons m' ms' =>
              rw [dszs] at hl
              rw [List.map_cons, knJs] at h1 h2
              rw [List.map_cons, lenJs] at h3 h4
              rw [List.map_cons, List.map_cons, sameo, sameVs, IH x (by omega) y h1.1 h2.1 h3.1 h4.1, List.tail_cons, List.tail_cons, List.headD_cons, List.headD_cons, ih t ms ms' (by omega) h1.2 h2.2 h3.2 h4.2 (by simpa using h) (by simpa using h5) (by simpa using h6)]
              rw [Bool.true_and, Bool.not_not, Bool.and_assoc]
    have kx := kn_kind hx
    have ky := kn_kind hy
    rcases kx with rfl | rfl | rfl | rfl | ⟨rfl, kx⟩ | ⟨rfl, kx⟩ <;> rcases ky with rfl | rfl | rfl | rfl | ⟨rfl, ky⟩ | ⟨rfl, ky⟩
    case inr.inr.inr.inr.inl.inr.inr.inr.inr.inl =>
      rw [toJ_4, toJ_4, sameJ, sameV, if_pos rfl, if_neg (by decide), if_neg (by decide), if_neg (by decide), if_pos (.inl rfl), List.length_map, List.length_map]
      rw [toJ_4, lenJ] at lx ly
      by_cases h : items.length = items'.length
      · rw [H1 items items' names names' (by omega) kx ky lx ly h]
        rfl
      · rw [decide_eq_false h, Bool.false_and, Bool.false_and]
    case inr.inr.inr.inr.inr.inr.inr.inr.inr.inr =>
      rw [toJ_5, toJ_5, sameJ, sameV, if_pos rfl, if_neg (by decide), if_neg (by decide), if_neg (by decide), if_pos (.inr rfl), List.length_map, List.length_map]
      rw [toJ_5, lenJ, List.length_map] at lx ly
      by_cases h : items.length = items'.length
      · rw [H2 items items' names names' (by omega) kx ky lx.2 ly.2 h lx.1 ly.1]
        rfl
      · rw [decide_eq_false h, Bool.false_and, Bool.false_and]
    all_goals
      simp only [toJ_0, toJ_1, toJ_2, toJ_3, toJ_4, toJ_5]
      rw [sameV]
      first
        | (rw [if_neg (by decide)]; first | rfl | (rw [sameJ] <;> first | rfl | (intros; contradiction)))
        | (rw [if_pos rfl, sameJ]; rfl)
mutual
theorem toJ_of : ∀ (x : J), knJ x → toJ (ofJ x) = x
  | .null, _ => by rw [ofJ, toJ_0]
  | .bool _, _ => by rw [ofJ, toJ_1]
  | .num _, _ => by rw [ofJ, toJ_2]
  | .text _, _ => by rw [ofJ, toJ_3]
  | .list xs, h => by rw [knJ] at h; rw [ofJ_list, toJ_4, toJs_of xs h]
  | .obj ns xs, h => by rw [knJ] at h; rw [ofJ_obj, toJ_5, toJs_of xs h]
  | .other _, h => by rw [knJ] at h; exact h.elim
theorem toJs_of : ∀ (l : List J), knJs l → (l.map ofJ).map toJ = l
  | [], _ => rfl
  | x :: r, h => by rw [knJs] at h; rw [List.map_cons, List.map_cons, toJ_of x h.1, toJs_of r h.2]
end
mutual
theorem kn_ok : ∀ (x : J), okJ x → knJ x
  | .null, _ => by rw [knJ]; trivial
  | .bool _, _ => by rw [knJ]; trivial
  | .num _, _ => by rw [knJ]; trivial
  | .text _, _ => by rw [knJ]; trivial
  | .list xs, h => by rw [okJ] at h; rw [knJ]; exact kn_oks xs h
  | .obj ns xs, h => by rw [okJ] at h; rw [knJ]; exact kn_oks xs h.2.2.2
  | .other _, h => by rw [okJ] at h; exact h.elim
theorem kn_oks : ∀ (l : List J), okJs l → knJs l
  | [], _ => by rw [knJs]; trivial
  | x :: r, h => by rw [okJs] at h; rw [knJs]; exact ⟨kn_ok x h.1, kn_oks r h.2⟩
end
theorem same_of {x : DV} (h : okJ (toJ x)) : sameV (ofJ (toJ x)) x = true := by
  have hk := kn_ok _ h
  have hl := len_of_ok _ h
  have e := toJ_of _ hk
  have h2 := same_toJ _ (ofJ (toJ x)) (Nat.le_refl _) x (by rw [e]; exact hk) hk (by rw [e]; exact hl) hl
  rw [← h2, e, same_refl _ h]
end Go.Proofs.YtfmadoeadmclbaaGreatDoor
namespace Go.Proofs.YtfmadoeadmclbaaGreatDoor
open Go.RowKit Go.TL
set_option maxRecDepth 100000

def fieldJ (j : J) (s : List UInt8) : Option J := match j with
  | .obj ns xs => (idxN ns s).bind (xs[·]?)
  | _ => none
set_option maxHeartbeats 16000000 in
theorem field_gives (x : J) (v : Value) (g : Gh) (nm : List UInt8) (hV : IsJ g x v) (hS : smJ x) : ∃ v' b, (∀ L, Gives Tryz.prog 19 #[v, str nm] g L (.tuple #[v', .bool b])) ∧ v'.one = true ∧ (match fieldJ x nm with
    | some y => b = true ∧ IsJ g y v'
    | none => b = false ∧ v' = .nilIface) := by
  cases x with
  | obj ns xs =>
    rw [IsJ] at hV
    obtain ⟨sl, flat, rfl, hSl, hMs⟩ := hV
    obtain ⟨ao, cap, rfl⟩ := hSl.slice
    rw [smJ] at hS
    obtain ⟨hl, hnl, hS⟩ := hS
    have hnx := hMs.len
    unfold fieldJ
    dsimp only
    cases hk : idxN ns nm with
    | none =>
      have hno := idxN_none hk
      refine ⟨_, false, fun L => .of (Does.of2 Tryz.func19 rfl Tryz.ntmps19 rfl ?_), rfl, rfl, rfl⟩
      repeat' (first
    | ((with_reducible apply TL.pure); (· exact yV); (· rfl)) | ((with_reducible apply TW.pure); (· exact yV); (· rfl))
    | ((with_reducible apply TL.pure); (· exact yA); (· rfl))
    | refine stS ?_ | (refine stB ?_; intro _) | (refine stC ?_; refine And.intro (fun _ => ?_) (fun _ => ?_)))
      refine TC.loopK (fun i : Nat => i ≤ xs.length) (fun i => xs.length - i) (fun i _ => [(19, .int .i64 (i : Nat)), (18, .int .i64 (xs.length : Nat)), (17, .slice ao xs.length cap), (1, str nm)]) [] (by repeat (first | apply Drop.nil | apply Drop.cons (by (repeat (first | apply Pick.here | apply Pick.there))))) (fun _ L => L) 0 (Nat.zero_le _) subA selA ?_
      rintro i hi
      try dsimp only at hi ⊢
      by_cases hlt : i < xs.length
      · obtain ⟨x, hx⟩ : ∃ x, xs[i]? = some x := ⟨_, List.getElem?_eq_getElem (by omega)⟩
        obtain ⟨s, v, hns, hv0, hv1, hJ⟩ := hMs.get hx
        obtain ⟨b1, o1, rfl, hg⟩ := hSl.elem (i := i) (by omega) (by decide)
        have hld : ∀ j u, [str s, v][j]? = some u → g.cell b1 (o1 + i * 2 + j) = some u := fun j u hu => by
          match j, hu with
          | 0, hu => simp at hu; subst hu; exact hg 0 _ hv0
          | 1, hu => simp at hu; subst hu; exact hg 1 _ hv1
          | j + 2, hu => simp at hu
        have hll : [str s, v].length = 2 := rfl
        have hone := hJ.one
        have hne := hno s (List.mem_of_getElem? hns)
        clear hMs hSl hg hS hv0 hv1 hJ hno
        repeat' (first
    | ((with_reducible apply TL.pure); (· exact yV); (· rfl)) | ((with_reducible apply TW.pure); (· exact yV); (· rfl))
    | ((with_reducible apply TL.pure (d := 26) (v := .bool false)); (· exact Y.eql_is (decide_eq_false hne) rfl rfl); (· rfl)) | ((with_reducible apply TW.pure (d := 26) (v := .bool false)); (· exact Y.eql_is (decide_eq_false hne) rfl rfl); (· rfl))
    | ((with_reducible apply TL.pure); (· exact yA); (· rfl))
    | refine TC.seq ?_ | refine TC.region ?_ | refine TL.nil ?_ | refine TQ.then_normal ?_
    | ((with_reducible apply TL.storeE); (· rfl); (· rfl); (· rfl); (· exact pkA); (· infer_instance)) | ((with_reducible apply TL.store_whole); (· rfl); (· rfl); (· exact oneA); (· rfl); (· exact pkA); (· rfl))
    | refine TC.block ?_ | refine TC.ret ?_ | refine TC.skip ?_ | refine TC.exit ?_ | refine TC.cond rfl ?_
    | refine TQ.down ?_ | refine TQ.in_exit' rfl ?_
    | refine TL.guard_yes rfl rfl ?_ | refine TL.guard_no rfl rfl rfl rfl ?_ | refine TL.guard_no0 rfl rfl rfl ?_ | refine TL.guard_undef rfl rfl rfl ?_ | refine TL.guard_undef0 rfl rfl ?_ | refine TL.guard rfl rfl rfl ?_
    | refine Br.t rfl ?_ | refine Br.f rfl ?_ | refine Br.ky kpA ?_ | refine Br.kn kpA ?_ | refine Br.nky kpA ?_ | refine Br.nkn kpA ?_
    | refine Br.eq0 (fun _ => ?_) (fun _ => ?_) | refine Br.neq0 (fun _ => ?_) (fun _ => ?_) | refine Br.eq (fun _ => ?_) (fun _ => ?_) | refine Br.neq (fun _ => ?_) (fun _ => ?_) | refine Br.not (fun _ => ?_) (fun _ => ?_) | refine Br.dec (fun _ => ?_) (fun _ => ?_) | refine Br.bool (fun _ => ?_) (fun _ => ?_)
    | ((with_reducible apply TL.alloc_ag); (· rfl); intro _) | ((with_reducible apply TL.alloc_sc); (· rfl); (· rfl); intro _) | ((with_reducible apply TL.box_ag); (· rfl); (· rfl); intro _) | ((with_reducible apply TL.box_sc); (· rfl); (· rfl); (· rfl); intro _))
        refine TQ.round (i + 1) ?_ ?_ rfl subA selA
        · show i + 1 ≤ xs.length
          omega
        · show xs.length - (i + 1) < xs.length - i
          omega
      · obtain rfl : i = xs.length := by omega
        clear hMs hSl hS hno
        repeat' (first
    | ((with_reducible apply TL.pure); (· exact yA); (· rfl))
    | refine stS ?_ | (refine stB ?_; intro _) | (refine stC ?_; refine And.intro (fun _ => ?_) (fun _ => ?_)))
        refine TQ.endR2 (L' := L) Tryz.results19 rvA rvA rfl (.refl _) ?_ selA
        exact ⟨rfl, rfl, rfl⟩
    | some k =>
      obtain ⟨hk1, hk2⟩ := idxN_some hk
      have hkl := idxN_lt hk
      obtain ⟨y, hy⟩ : ∃ y, xs[k]? = some y := ⟨_, List.getElem?_eq_getElem (by omega)⟩
      obtain ⟨s', v', hns', _, hv', hJ'⟩ := hMs.get hy
      have hb : (some k).bind (xs[·]?) = some y := hy
      rw [hb]
      refine ⟨v', true, fun L => .of (Does.of2 Tryz.func19 rfl Tryz.ntmps19 rfl ?_), hJ'.one, rfl, hJ'⟩
      have hone' := hJ'.one
      repeat' (first
    | ((with_reducible apply TL.pure); (· exact yV); (· rfl)) | ((with_reducible apply TW.pure); (· exact yV); (· rfl))
    | ((with_reducible apply TL.pure); (· exact yA); (· rfl))
    | refine stS ?_ | (refine stB ?_; intro _) | (refine stC ?_; refine And.intro (fun _ => ?_) (fun _ => ?_)))
      refine TC.loopK (fun i : Nat => i ≤ k) (fun i => xs.length - i) (fun i _ => [(19, .int .i64 (i : Nat)), (18, .int .i64 (xs.length : Nat)), (17, .slice ao xs.length cap), (1, str nm)]) [] (by repeat (first | apply Drop.nil | apply Drop.cons (by (repeat (first | apply Pick.here | apply Pick.there))))) (fun _ L => L) 0 (Nat.zero_le _) subA selA ?_
      rintro i hi
      try dsimp only at hi ⊢
      by_cases hlt : i = k
      · subst hlt
        obtain rfl : s' = nm := by rw [hns'] at hk1; exact Option.some.inj hk1
        obtain ⟨b1, o1, rfl, hg⟩ := hSl.elem (i := i) (by omega) (by decide)
        have hld : ∀ j u, [str s', v'][j]? = some u → g.cell b1 (o1 + i * 2 + j) = some u := fun j u hu => by
          match j, hu with
          | 0, hu => simp at hu; subst hu; exact hg 0 _ (by assumption)
          | 1, hu => simp at hu; subst hu; exact hg 1 _ hv'
          | j + 2, hu => simp at hu
        have hll : [str s', v'].length = 2 := rfl
        have hlt : i < xs.length := by omega
        clear hMs hSl hg hS hv' hJ' hk2
        repeat' (first
    | ((with_reducible apply TL.pure); (· exact yV); (· rfl)) | ((with_reducible apply TW.pure); (· exact yV); (· rfl))
    | ((with_reducible apply TL.pure (d := 26) (v := .bool true)); (· exact Y.eql_is (decide_eq_true rfl) rfl rfl); (· rfl)) | ((with_reducible apply TW.pure (d := 26) (v := .bool true)); (· exact Y.eql_is (decide_eq_true rfl) rfl rfl); (· rfl))
    | ((with_reducible apply TL.pure); (· exact yA); (· rfl))
    | refine TC.seq ?_ | refine TC.region ?_ | refine TL.nil ?_ | refine TQ.then_normal ?_
    | ((with_reducible apply TL.storeE); (· rfl); (· rfl); (· rfl); (· exact pkA); (· infer_instance)) | ((with_reducible apply TL.store_whole); (· rfl); (· rfl); (· exact oneA); (· rfl); (· exact pkA); (· rfl))
    | refine TC.block ?_ | refine TC.ret ?_ | refine TC.skip ?_ | refine TC.exit ?_ | refine TC.cond rfl ?_
    | refine TQ.down ?_ | refine TQ.in_exit' rfl ?_
    | refine TL.guard_yes rfl rfl ?_ | refine TL.guard_no rfl rfl rfl rfl ?_ | refine TL.guard_no0 rfl rfl rfl ?_ | refine TL.guard_undef rfl rfl rfl ?_ | refine TL.guard_undef0 rfl rfl ?_ | refine TL.guard rfl rfl rfl ?_
    | refine Br.t rfl ?_ | refine Br.f rfl ?_ | refine Br.ky kpA ?_ | refine Br.kn kpA ?_ | refine Br.nky kpA ?_ | refine Br.nkn kpA ?_
    | refine Br.eq0 (fun _ => ?_) (fun _ => ?_) | refine Br.neq0 (fun _ => ?_) (fun _ => ?_) | refine Br.eq (fun _ => ?_) (fun _ => ?_) | refine Br.neq (fun _ => ?_) (fun _ => ?_) | refine Br.not (fun _ => ?_) (fun _ => ?_) | refine Br.dec (fun _ => ?_) (fun _ => ?_) | refine Br.bool (fun _ => ?_) (fun _ => ?_)
    | ((with_reducible apply TL.alloc_ag); (· rfl); intro _) | ((with_reducible apply TL.alloc_sc); (· rfl); (· rfl); intro _) | ((with_reducible apply TL.box_ag); (· rfl); (· rfl); intro _) | ((with_reducible apply TL.box_sc); (· rfl); (· rfl); (· rfl); intro _))
        refine TQ.endR2 (L' := L) Tryz.results19 rvA rvA rfl (.refl _) ?_ selA
        exact ⟨rfl, rfl, rfl⟩
      · obtain ⟨x, hx⟩ : ∃ x, xs[i]? = some x := ⟨_, List.getElem?_eq_getElem (by omega)⟩
        obtain ⟨s, v, hns, hv0, hv1, hJ⟩ := hMs.get hx
        obtain ⟨b1, o1, rfl, hg⟩ := hSl.elem (i := i) (by omega) (by decide)
        have hld : ∀ j u, [str s, v][j]? = some u → g.cell b1 (o1 + i * 2 + j) = some u := fun j u hu => by
          match j, hu with
          | 0, hu => simp at hu; subst hu; exact hg 0 _ hv0
          | 1, hu => simp at hu; subst hu; exact hg 1 _ hv1
          | j + 2, hu => simp at hu
        have hll : [str s, v].length = 2 := rfl
        have hone := hJ.one
        have hne : s ≠ nm := fun e => hk2 i (by omega) (by rw [hns, e])
        have hlt : i < xs.length := by omega
        clear hMs hSl hg hS hv0 hv1 hJ hk2 hJ'
        repeat' (first
    | ((with_reducible apply TL.pure); (· exact yV); (· rfl)) | ((with_reducible apply TW.pure); (· exact yV); (· rfl))
    | ((with_reducible apply TL.pure (d := 26) (v := .bool false)); (· exact Y.eql_is (decide_eq_false hne) rfl rfl); (· rfl)) | ((with_reducible apply TW.pure (d := 26) (v := .bool false)); (· exact Y.eql_is (decide_eq_false hne) rfl rfl); (· rfl))
    | ((with_reducible apply TL.pure); (· exact yA); (· rfl))
    | refine TC.seq ?_ | refine TC.region ?_ | refine TL.nil ?_ | refine TQ.then_normal ?_
    | ((with_reducible apply TL.storeE); (· rfl); (· rfl); (· rfl); (· exact pkA); (· infer_instance)) | ((with_reducible apply TL.store_whole); (· rfl); (· rfl); (· exact oneA); (· rfl); (· exact pkA); (· rfl))
    | refine TC.block ?_ | refine TC.ret ?_ | refine TC.skip ?_ | refine TC.exit ?_ | refine TC.cond rfl ?_
    | refine TQ.down ?_ | refine TQ.in_exit' rfl ?_
    | refine TL.guard_yes rfl rfl ?_ | refine TL.guard_no rfl rfl rfl rfl ?_ | refine TL.guard_no0 rfl rfl rfl ?_ | refine TL.guard_undef rfl rfl rfl ?_ | refine TL.guard_undef0 rfl rfl ?_ | refine TL.guard rfl rfl rfl ?_
    | refine Br.t rfl ?_ | refine Br.f rfl ?_ | refine Br.ky kpA ?_ | refine Br.kn kpA ?_ | refine Br.nky kpA ?_ | refine Br.nkn kpA ?_
    | refine Br.eq0 (fun _ => ?_) (fun _ => ?_) | refine Br.neq0 (fun _ => ?_) (fun _ => ?_) | refine Br.eq (fun _ => ?_) (fun _ => ?_) | refine Br.neq (fun _ => ?_) (fun _ => ?_) | refine Br.not (fun _ => ?_) (fun _ => ?_) | refine Br.dec (fun _ => ?_) (fun _ => ?_) | refine Br.bool (fun _ => ?_) (fun _ => ?_)
    | ((with_reducible apply TL.alloc_ag); (· rfl); intro _) | ((with_reducible apply TL.alloc_sc); (· rfl); (· rfl); intro _) | ((with_reducible apply TL.box_ag); (· rfl); (· rfl); intro _) | ((with_reducible apply TL.box_sc); (· rfl); (· rfl); (· rfl); intro _))
        refine TQ.round (i + 1) ?_ ?_ rfl subA selA
        · show i + 1 ≤ k
          omega
        · show xs.length - (i + 1) < xs.length - i
          omega
  | _ =>
    rw [IsJ] at hV
    first
      | (obtain ⟨sl, flat, rfl, hSl, hMs⟩ := hV
         obtain ⟨ao, cap, rfl⟩ := hSl.slice
         refine ⟨_, false, fun L => .of (Does.of2 Tryz.func19 rfl Tryz.ntmps19 rfl ?_), rfl, rfl, rfl⟩)
      | (obtain ⟨rfl, _⟩ := hV
         refine ⟨_, false, fun L => .of (Does.of2 Tryz.func19 rfl Tryz.ntmps19 rfl ?_), rfl, rfl, rfl⟩)
      | (subst hV
         refine ⟨_, false, fun L => .of (Does.of2 Tryz.func19 rfl Tryz.ntmps19 rfl ?_), rfl, rfl, rfl⟩)
    repeat' (first
    | ((with_reducible apply TL.pure); (· exact yV); (· rfl)) | ((with_reducible apply TW.pure); (· exact yV); (· rfl))
    | ((with_reducible apply TL.pure); (· exact yA); (· rfl))
    | refine stS ?_ | (refine stB ?_; intro _) | (refine stC ?_; refine And.intro (fun _ => ?_) (fun _ => ?_)))
    refine TQ.endR2 (L' := L) Tryz.results19 rvA rvA rfl (.refl _) ?_ selA
    exact ⟨rfl, rfl, rfl⟩
end Go.Proofs.YtfmadoeadmclbaaGreatDoor
