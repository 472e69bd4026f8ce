/-
  The walks of json.same, Same.
-/
import Derived.Test.YtgollffmdpejiaaGreatDoorQz3
import Derived.Test.YtgollffmdpejiaaGreatDoorQz21
namespace Go.Proofs.YtgollffmdpejiaaGreatDoor
open Go.RowKit Go.TL
set_option maxRecDepth 100000

mutual
def sameJ : J → J → Bool
  | .null, .null => true
  | .bool a, .bool b => decide (a = b)
  | .num a, .num b => decide (a = b)
  | .text a, .text b => decide (a = b)
  | .list xs, .list ys => decide (xs.length = ys.length) && sames xs ys
  | .obj ms xs, .obj ns ys => decide (xs.length = ys.length) && sameo ms xs ns ys
  | _, _ => false
def sames : List J → List J → Bool
  | x :: r, y :: t => sameJ x y && sames r t
  | _, _ => true
def sameo : List (List UInt8) → List J → List (List UInt8) → List J → Bool
  | m :: ms, x :: r, n :: ns, y :: t => (decide (m = n) && sameJ x y) && sameo ms r ns t
  | _, _, _, _ => true
end
mutual
def knJ : J → Prop
  | .null => True
  | .bool _ => True
  | .num _ => True
  | .text _ => True
  | .list xs => knJs xs
  | .obj _ xs => knJs xs
  | .other _ => False
def knJs : List J → Prop
  | [] => True
  | x :: r => knJ x ∧ knJs r
end
theorem knJs_get : ∀ {l : List J} {i : Nat} {x : J}, knJs l → l[i]? = some x → knJ x
  | [], _, _, _, h => by simp at h
  | y :: r, 0, x, hs, h => by
    rw [knJs] at hs
    obtain rfl : y = x := by simpa using h
    exact hs.1
  | y :: r, i + 1, x, hs, h => by
    rw [knJs] at hs
    exact knJs_get (l := r) (i := i) hs.2 (by simpa using h)
mutual
theorem kn_look : ∀ (x : J) (w : Nat), lookJ x w = 0 → knJ x
  | .null, _, _ => by rw [knJ]; trivial
  | .bool _, _, _ => by rw [knJ]; trivial
  | .num _, _, _ => by rw [knJ]; trivial
  | .text _, _, _ => by rw [knJ]; trivial
  | .list xs, w, h => by
    rw [lookJ] at h
    split at h
    · cases h
    · rw [knJ]; exact kn_looks xs w h
  | .obj ns xs, w, h => by
    rw [lookJ] at h
    split at h
    · cases h
    · rw [knJ]; exact kn_looko [] ns xs w h
  | .other _, _, h => by rw [lookJ] at h; cases h
theorem kn_looks : ∀ (l : List J) (w : Nat), looks l w = 0 → knJs l
  | [], _, _ => by rw [knJs]; trivial
  | x :: r, w, h => by
    rw [looks] at h
    split at h
    · rename_i h1
      rw [knJs]; exact ⟨kn_look x (w + 1) h1, kn_looks r w h⟩
    · omega
theorem kn_looko : ∀ (seen ns : List (List UInt8)) (l : List J) (w : Nat), looko seen ns l w = 0 → knJs l
  | _, _, [], _, _ => by rw [knJs]; trivial
  | seen, ns, x :: r, w, h => by
    rw [looko] at h
    split at h
    · cases h
    split at h
    · cases h
    split at h
    · rename_i h1
      rw [knJs]; exact ⟨kn_look x (w + 1) h1, kn_looko _ _ r w h⟩
    · omega
end
theorem sames_at {l m : List J} {i : Nat} {x y : J} (h : l[i]? = some x) (h2 : m[i]? = some y) : sames (l.drop i) (m.drop i) = (sameJ x y && sames (l.drop (i + 1)) (m.drop (i + 1))) := by
  obtain ⟨hi, he⟩ := List.getElem?_eq_some_iff.1 h
  obtain ⟨hi2, he2⟩ := List.getElem?_eq_some_iff.1 h2
  rw [List.drop_eq_getElem_cons hi, he, List.drop_eq_getElem_cons hi2, he2, sames]
theorem sameo_at {l m : List J} {a b : List (List UInt8)} {s t : List UInt8} {i : Nat} {x y : J} (h : l[i]? = some x) (h2 : m[i]? = some y) (h3 : a[i]? = some s) (h4 : b[i]? = some t) :
    sameo (a.drop i) (l.drop i) (b.drop i) (m.drop i) = ((decide (s = t) && sameJ x y) && sameo (a.drop (i + 1)) (l.drop (i + 1)) (b.drop (i + 1)) (m.drop (i + 1))) := by
  obtain ⟨hi, he⟩ := List.getElem?_eq_some_iff.1 h
  obtain ⟨hi2, he2⟩ := List.getElem?_eq_some_iff.1 h2
  obtain ⟨hi3, he3⟩ := List.getElem?_eq_some_iff.1 h3
  obtain ⟨hi4, he4⟩ := List.getElem?_eq_some_iff.1 h4
  rw [List.drop_eq_getElem_cons hi, he, List.drop_eq_getElem_cons hi2, he2, List.drop_eq_getElem_cons hi3, he3, List.drop_eq_getElem_cons hi4, he4, sameo]
set_option maxHeartbeats 8000000 in
theorem eqList_gives (xs ys : List J) (fx fy : List Value) (ax ay : Option Addr) (cx cy : Nat) (g : Gh) (L : List Ent) (hx : Sl g (.slice ax xs.length cx) xs.length 1 fx) (hy : Sl g (.slice ay ys.length cy) ys.length 1 fy) (jx : IsJs g xs fx) (jy : IsJs g ys fy) (lx : xs.length ≤ 1000000) (_ly : ys.length ≤ 1000000)
    (H : ∀ (i : Nat) (x y : J) (vx vy : Value), xs[i]? = some x → ys[i]? = some y → IsJ g x vx → IsJ g y vy → ∀ L, Gives Tryz.prog 32 #[vx, vy] g L (.bool (sameJ x y))) :
    Gives Tryz.prog 54 #[.slice ax xs.length cx, .slice ay ys.length cy, .func (.func 32) #[] #[]] g L (.bool (decide (xs.length = ys.length) && sames xs ys)) := by
  refine .of (Does.of3 Tryz.func54 rfl Tryz.ntmps54 rfl ?_)
  by_cases hl : xs.length = ys.length
  · rw [decide_eq_true hl, Bool.true_and]
    obtain ⟨R, hR⟩ : ∃ R, R = sames xs ys := ⟨_, rfl⟩
    rw [← hR]
    obtain ⟨n, hn⟩ : ∃ n, n = xs.length := ⟨_, rfl⟩
    rw [← hl] at hy ⊢
    rw [← hn] at hx hy lx ⊢
    repeat' (first
    | refine stS ?_ | (refine stB ?_; intro _) | (refine stC ?_; constructor <;> intro _))
    refine TC.loopK (fun i : Nat => i ≤ n ∧ sames (xs.drop i) (ys.drop i) = R) (fun i => n - i) (fun i _ => [(17, .int .i64 (i : Nat)), (16, .int .i64 (n : Nat)), (15, .slice ax n cx), (1, .slice ay n cy), (2, .func (.func 32) #[] #[])]) [] (by repeat (first | apply Drop.nil | apply Drop.cons (by (repeat (first | apply Pick.here | apply Pick.there))))) (fun _ L => L) 0 ⟨Nat.zero_le _, hR.symm⟩ subA selA ?_
    clear hR
    rintro i ⟨hi, hR⟩
    try dsimp only at hi hR ⊢
    by_cases hlt : i < n
    · obtain ⟨x, hxi⟩ : ∃ x, xs[i]? = some x := ⟨_, List.getElem?_eq_getElem (by omega)⟩
      obtain ⟨y, hyi⟩ : ∃ y, ys[i]? = some y := ⟨_, List.getElem?_eq_getElem (by omega)⟩
      obtain ⟨vx, h1, k1⟩ := jx.get hxi
      obtain ⟨vy, h2, k2⟩ := jy.get hyi
      obtain ⟨b1, o1, rfl, g1⟩ := hx.elem hlt (by decide)
      obtain ⟨b2, o2, rfl, g2⟩ := hy.elem hlt (by decide)
      have ld1 : g.cell b1 (o1 + i * 1) = some vx := g1 0 vx (by rw [Nat.mul_one]; exact h1)
      have ld2 : g.cell b2 (o2 + i * 1) = some vy := g2 0 vy (by rw [Nat.mul_one]; exact h2)
      have A := H i x y vx vy hxi hyi k1 k2
      rw [sames_at hxi hyi] at hR
      generalize sameJ x y = r at *
      clear hx hy jx jy H g1 g2 h1 h2 k1 k2
      cases r with
      | true =>
        rw [Bool.true_and] at hR
        have HR : Hn _ := ⟨hR⟩
        clear hR
        repeat' (first
    | refine wkV ?_
    | refine TL.gives (Enters.func (by rfl) (by kernel_rfl) (by rfl)) (A _) (by rfl) ?_ | refine TW.gives (Enters.func (by rfl) (by kernel_rfl) (by rfl)) (A _) (by rfl) ?_
    | refine stS ?_ | (refine stB ?_; intro _) | (refine stC ?_; constructor <;> intro _))
        refine TQ.round (i + 1) ?_ ?_ rfl subA selA
        · exact ⟨by omega, HR.out⟩
        · show n - (i + 1) < n - i
          omega
      | false =>
        rw [Bool.false_and] at hR
        subst hR
        repeat' (first
    | refine wkV ?_
    | refine TL.gives (Enters.func (by rfl) (by kernel_rfl) (by rfl)) (A _) (by rfl) ?_ | refine TW.gives (Enters.func (by rfl) (by kernel_rfl) (by rfl)) (A _) (by rfl) ?_
    | refine stS ?_ | (refine stB ?_; intro _) | (refine stC ?_; constructor <;> intro _))
        refine TQ.endR1 (L' := L) Tryz.results54 rvA rfl (.refl _) ?_ selA
        exact ⟨rfl, rfl, rfl⟩
    · obtain rfl : i = n := by omega
      rw [show xs.drop i = [] by rw [hn, List.drop_length], sames] at hR
      · subst hR
        clear hx hy jx jy H
        repeat' (first
    | refine stS ?_ | (refine stB ?_; intro _) | (refine stC ?_; constructor <;> intro _))
        refine TQ.endR1 (L' := L) Tryz.results54 rvA rfl (.refl _) ?_ selA
        exact ⟨rfl, rfl, rfl⟩
      · intro x r y t h; cases h
  · rw [decide_eq_false hl, Bool.false_and]
    clear hx hy jx jy H
    have HN : Hn (¬ xs.length = ys.length) := ⟨hl⟩
    have hz : ¬ ((xs.length : Nat) : Int) = (ys.length : Nat) := by omega
    repeat' (first
    | refine stS ?_ | (refine stB ?_; intro _) | (refine stC ?_; constructor <;> intro _))
    refine TQ.endR1 (L' := L) Tryz.results54 rvA rfl (.refl _) ?_ selA
    exact ⟨rfl, rfl, rfl⟩
theorem same1_gives (s t : List UInt8) (vx vy : Value) (r : Bool) (g : Gh) (L : List Ent) (H : ∀ L, Gives Tryz.prog 32 #[vx, vy] g L (.bool r)) (_hx : vx.one = true) (_hy : vy.one = true) : Gives Tryz.prog 56 #[.agg #[str s, vx], .agg #[str t, vy]] g L (.bool (decide (s = t) && r)) := by
  refine .of (Does.of2 Tryz.func56 rfl Tryz.ntmps56 rfl ?_)
  by_cases he : s = t
  · rw [decide_eq_true he, Bool.true_and]
    repeat' (first
    | refine wkV ?_
    | refine wkD (H _) ?_
    | refine stS ?_ | (refine stB ?_; intro _) | (refine stC ?_; constructor <;> intro _))
    refine TQ.endR1 (L' := L) Tryz.results56 rvA rfl (.refl _) ?_ selA
    exact ⟨rfl, rfl, rfl⟩
  · rw [decide_eq_false he, Bool.false_and]
    repeat' (first
    | refine wkV ?_
    | refine wkD (H _) ?_
    | refine stS ?_ | (refine stB ?_; intro _) | (refine stC ?_; constructor <;> intro _))
    refine TQ.endR1 (L' := L) Tryz.results56 rvA rfl (.refl _) ?_ selA
    exact ⟨rfl, rfl, rfl⟩
set_option maxHeartbeats 8000000 in
theorem eqObj_gives (ms ns : List (List UInt8)) (xs ys : List J) (fx fy : List Value) (ax ay : Option Addr) (cx cy : Nat) (g : Gh) (L : List Ent) (hx : Sl g (.slice ax xs.length cx) xs.length 2 fx) (hy : Sl g (.slice ay ys.length cy) ys.length 2 fy) (jx : IsMs g ms xs fx) (jy : IsMs g ns ys fy) (lx : xs.length ≤ 1000000) (_ly : ys.length ≤ 1000000)
    (H : ∀ (i : Nat) (x y : J) (vx vy : Value), xs[i]? = some x → ys[i]? = some y → IsJ g x vx → IsJ g y vy → ∀ L, Gives Tryz.prog 32 #[vx, vy] g L (.bool (sameJ x y))) :
    Gives Tryz.prog 55 #[.slice ax xs.length cx, .slice ay ys.length cy, .func (.func 56) #[] #[]] g L (.bool (decide (xs.length = ys.length) && sameo ms xs ns ys)) := by
  refine .of (Does.of3 Tryz.func55 rfl Tryz.ntmps55 rfl ?_)
  by_cases hl : xs.length = ys.length
  · rw [decide_eq_true hl, Bool.true_and]
    obtain ⟨R, hR⟩ : ∃ R, R = sameo ms xs ns ys := ⟨_, rfl⟩
    rw [← hR]
    obtain ⟨n, hn⟩ : ∃ n, n = xs.length := ⟨_, rfl⟩
    rw [← hl] at hy ⊢
    rw [← hn] at hx hy lx ⊢
    repeat' (first
    | refine stS ?_ | (refine stB ?_; intro _) | (refine stC ?_; constructor <;> intro _))
    refine TC.loopK (fun i : Nat => i ≤ n ∧ sameo (ms.drop i) (xs.drop i) (ns.drop i) (ys.drop i) = R) (fun i => n - i) (fun i _ => [(17, .int .i64 (i : Nat)), (16, .int .i64 (n : Nat)), (15, .slice ax n cx), (1, .slice ay n cy), (2, .func (.func 56) #[] #[])]) [] (by repeat (first | apply Drop.nil | apply Drop.cons (by (repeat (first | apply Pick.here | apply Pick.there))))) (fun _ L => L) 0 ⟨Nat.zero_le _, hR.symm⟩ subA selA ?_
    clear hR
    rintro i ⟨hi, hR⟩
    try dsimp only at hi hR ⊢
    by_cases hlt : i < n
    · obtain ⟨x, hxi⟩ : ∃ x, xs[i]? = some x := ⟨_, List.getElem?_eq_getElem (by omega)⟩
      obtain ⟨y, hyi⟩ : ∃ y, ys[i]? = some y := ⟨_, List.getElem?_eq_getElem (by omega)⟩
      obtain ⟨s, vx, e1, h1, h3, k1⟩ := jx.get hxi
      obtain ⟨t, vy, e2, h2, h4, k2⟩ := jy.get hyi
      obtain ⟨b1, o1, rfl, g1⟩ := hx.elem hlt (by decide)
      obtain ⟨b2, o2, rfl, g2⟩ := hy.elem hlt (by decide)
      have ld1 : ∀ j u, [str s, vx][j]? = some u → g.cell b1 (o1 + i * 2 + j) = some u := fun j u hu => by
        match j, hu with
        | 0, hu => simp at hu; subst hu; exact g1 0 _ h1
        | 1, hu => simp at hu; subst hu; exact g1 1 _ h3
        | j + 2, hu => simp at hu
      have ll1 : [str s, vx].length = 2 := rfl
      have ld2 : ∀ j u, [str t, vy][j]? = some u → g.cell b2 (o2 + i * 2 + j) = some u := fun j u hu => by
        match j, hu with
        | 0, hu => simp at hu; subst hu; exact g2 0 _ h2
        | 1, hu => simp at hu; subst hu; exact g2 1 _ h4
        | j + 2, hu => simp at hu
      have ll2 : [str t, vy].length = 2 := rfl
      have on1 := k1.one
      have on2 := k2.one
      have A := fun L => same1_gives s t vx vy (sameJ x y) g L (H i x y vx vy hxi hyi k1 k2) on1 on2
      rw [sameo_at hxi hyi e1 e2] at hR
      generalize (decide (s = t) && sameJ x y) = r at *
      clear hx hy jx jy H g1 g2 h1 h2 h3 h4 k1 k2
      cases r with
      | true =>
        rw [Bool.true_and] at hR
        have HR : Hn _ := ⟨hR⟩
        clear hR
        repeat' (first
    | (refine wkA 21 (v := .agg #[str s, vx]) ?_ ?_; · exact Y.load_cells rfl ld1 ll1)
    | (refine wkA 25 (v := .agg #[str t, vy]) ?_ ?_; · exact Y.load_cells rfl ld2 ll2)
    | refine wkV ?_
    | refine TL.gives (Enters.func (by rfl) (by kernel_rfl) (by rfl)) (A _) (by rfl) ?_ | refine TW.gives (Enters.func (by rfl) (by kernel_rfl) (by rfl)) (A _) (by rfl) ?_
    | refine wkP ?_
    | refine TC.seq ?_ | refine TC.region ?_ | refine TL.nil ?_ | refine TQ.then_normal ?_
    | ((with_reducible apply TL.storeE); (· rfl); (· rfl); (· rfl); (· exact pkA); (· infer_instance)) | ((with_reducible apply TL.store_whole); (· rfl); (· rfl); (· exact oneA); (· rfl); (· exact pkA); (· rfl))
    | refine TC.block ?_ | refine TC.ret ?_ | refine TC.skip ?_ | refine TC.exit ?_ | refine TC.cond rfl ?_
    | refine TQ.down ?_ | refine TQ.in_exit' rfl ?_
    | refine TL.guard_yes rfl rfl ?_ | refine TL.guard_no rfl rfl rfl rfl ?_ | refine TL.guard_no0 rfl rfl rfl ?_ | refine TL.guard_undef rfl rfl rfl ?_ | refine TL.guard_undef0 rfl rfl ?_ | refine TL.guard rfl rfl rfl ?_
    | refine Br.t rfl ?_ | refine Br.f rfl ?_ | refine Br.ky kpA ?_ | refine Br.kn kpA ?_ | refine Br.nky kpA ?_ | refine Br.nkn kpA ?_
    | refine Br.eq0 (fun _ => ?_) (fun _ => ?_) | refine Br.neq0 (fun _ => ?_) (fun _ => ?_) | refine Br.eq (fun _ => ?_) (fun _ => ?_) | refine Br.neq (fun _ => ?_) (fun _ => ?_) | refine Br.not (fun _ => ?_) (fun _ => ?_) | refine Br.dec (fun _ => ?_) (fun _ => ?_) | refine Br.bool (fun _ => ?_) (fun _ => ?_)
    | ((with_reducible apply TL.alloc_ag); (· rfl); intro _) | ((with_reducible apply TL.alloc_sc); (· rfl); (· rfl); intro _) | ((with_reducible apply TL.box_ag); (· rfl); (· rfl); intro _) | ((with_reducible apply TL.box_sc); (· rfl); (· rfl); (· rfl); intro _) | fail)
        refine TQ.round (i + 1) ?_ ?_ rfl subA selA
        · exact ⟨by omega, HR.out⟩
        · show n - (i + 1) < n - i
          omega
      | false =>
        rw [Bool.false_and] at hR
        subst hR
        repeat' (first
    | (refine wkA 21 (v := .agg #[str s, vx]) ?_ ?_; · exact Y.load_cells rfl ld1 ll1)
    | (refine wkA 25 (v := .agg #[str t, vy]) ?_ ?_; · exact Y.load_cells rfl ld2 ll2)
    | refine wkV ?_
    | refine TL.gives (Enters.func (by rfl) (by kernel_rfl) (by rfl)) (A _) (by rfl) ?_ | refine TW.gives (Enters.func (by rfl) (by kernel_rfl) (by rfl)) (A _) (by rfl) ?_
    | refine wkP ?_
    | refine TC.seq ?_ | refine TC.region ?_ | refine TL.nil ?_ | refine TQ.then_normal ?_
    | ((with_reducible apply TL.storeE); (· rfl); (· rfl); (· rfl); (· exact pkA); (· infer_instance)) | ((with_reducible apply TL.store_whole); (· rfl); (· rfl); (· exact oneA); (· rfl); (· exact pkA); (· rfl))
    | refine TC.block ?_ | refine TC.ret ?_ | refine TC.skip ?_ | refine TC.exit ?_ | refine TC.cond rfl ?_
    | refine TQ.down ?_ | refine TQ.in_exit' rfl ?_
    | refine TL.guard_yes rfl rfl ?_ | refine TL.guard_no rfl rfl rfl rfl ?_ | refine TL.guard_no0 rfl rfl rfl ?_ | refine TL.guard_undef rfl rfl rfl ?_ | refine TL.guard_undef0 rfl rfl ?_ | refine TL.guard rfl rfl rfl ?_
    | refine Br.t rfl ?_ | refine Br.f rfl ?_ | refine Br.ky kpA ?_ | refine Br.kn kpA ?_ | refine Br.nky kpA ?_ | refine Br.nkn kpA ?_
    | refine Br.eq0 (fun _ => ?_) (fun _ => ?_) | refine Br.neq0 (fun _ => ?_) (fun _ => ?_) | refine Br.eq (fun _ => ?_) (fun _ => ?_) | refine Br.neq (fun _ => ?_) (fun _ => ?_) | refine Br.not (fun _ => ?_) (fun _ => ?_) | refine Br.dec (fun _ => ?_) (fun _ => ?_) | refine Br.bool (fun _ => ?_) (fun _ => ?_)
    | ((with_reducible apply TL.alloc_ag); (· rfl); intro _) | ((with_reducible apply TL.alloc_sc); (· rfl); (· rfl); intro _) | ((with_reducible apply TL.box_ag); (· rfl); (· rfl); intro _) | ((with_reducible apply TL.box_sc); (· rfl); (· rfl); (· rfl); intro _) | fail)
        refine TQ.endR1 (L' := L) Tryz.results55 rvA rfl (.refl _) ?_ selA
        exact ⟨rfl, rfl, rfl⟩
    · obtain rfl : i = n := by omega
      rw [show xs.drop i = [] by rw [hn, List.drop_length], sameo] at hR
      · subst hR
        clear hx hy jx jy H
        repeat' (first
    | refine stS ?_ | (refine stB ?_; intro _) | (refine stC ?_; constructor <;> intro _))
        refine TQ.endR1 (L' := L) Tryz.results55 rvA rfl (.refl _) ?_ selA
        exact ⟨rfl, rfl, rfl⟩
      · intros; simp_all
  · rw [decide_eq_false hl, Bool.false_and]
    clear hx hy jx jy H
    have HN : Hn (¬ xs.length = ys.length) := ⟨hl⟩
    have hz : ¬ ((xs.length : Nat) : Int) = (ys.length : Nat) := by omega
    repeat' (first
    | refine stS ?_ | (refine stB ?_; intro _) | (refine stC ?_; constructor <;> intro _))
    refine TQ.endR1 (L' := L) Tryz.results55 rvA rfl (.refl _) ?_ selA
    exact ⟨rfl, rfl, rfl⟩
theorem IsJ.noT {g : Gh} {y : J} {v : Value} (h : IsJ g y v) (t : Nat) (ht : (match y with | .null => true | .bool _ => !Nat.beq 4 t | .num _ => !Nat.beq 70 t | .text _ => !Nat.beq 9 t | .list _ => !Nat.beq 50 t | .obj _ _ => !Nat.beq 48 t | .other _ => !Nat.beq 3 t) = true) : NoT v t := by
  cases y <;> rw [IsJ] at h
  · exact .inl h
  · exact .inr ⟨_, _, h, by simpa using ht⟩
  · exact .inr ⟨_, _, h.1, by simpa using ht⟩
  · exact .inr ⟨_, _, h, by simpa using ht⟩
  · obtain ⟨sl, _, h, _⟩ := h
    exact .inr ⟨_, _, h, by simpa using ht⟩
  · obtain ⟨sl, _, h, _⟩ := h
    exact .inr ⟨_, _, h, by simpa using ht⟩
  · exact .inr ⟨_, _, h, by simpa using ht⟩
theorem IsJ.some {g : Gh} {y : J} {v : Value} (h : IsJ g y v) (hy : y ≠ .null) : ∃ T u, v = .iface T u := by
  cases y <;> rw [IsJ] at h
  · exact absurd rfl hy
  · exact ⟨_, _, h⟩
  · exact ⟨_, _, h.1⟩
  · exact ⟨_, _, h⟩
  · obtain ⟨sl, _, h, _⟩ := h
    exact ⟨_, _, h⟩
  · obtain ⟨sl, _, h, _⟩ := h
    exact ⟨_, _, h⟩
  · exact ⟨_, _, h⟩
set_option maxHeartbeats 16000000 in
theorem same_gives : ∀ (N : Nat) (x : J), jsz x ≤ N → ∀ (y : J) (vx vy : Value) (g : Gh) (L : List Ent), IsJ g x vx → IsJ g y vy → smJ x → smJ y → knJ x → Gives Tryz.prog 32 #[vx, vy] g L (.bool (sameJ x y))
  | 0, x, h, _, _, _, _, _, _, _, _, _, _ => by cases x <;> (rw [jsz] at h; omega)
  | N + 1, .null, hN, y, vx, vy, g, L, hX, hY, sX, sY, kX => by
    rw [IsJ] at hX
    subst hX
    refine .of (Does.of2 Tryz.func32 rfl Tryz.ntmps32 rfl ?_)
    by_cases hy : y = .null
    · subst hy
      rw [IsJ] at hY
      subst hY
      rw [sameJ]
      repeat' (first
    | refine wkV ?_
    | refine stS ?_ | (refine stB ?_; intro _) | (refine stC ?_; constructor <;> intro _))
      refine TQ.endR1 (L' := L) Tryz.results32 rvA rfl (.refl _) ?_ selA
      exact ⟨rfl, rfl, rfl⟩
    · obtain ⟨T, u, rfl⟩ := hY.some hy
      rw [show sameJ .null y = false by cases y <;> first | rfl | exact absurd rfl hy]
      repeat' (first
    | refine wkV ?_
    | refine stS ?_ | (refine stB ?_; intro _) | (refine stC ?_; constructor <;> intro _))
      refine TQ.endR1 (L' := L) Tryz.results32 rvA rfl (.refl _) ?_ selA
      exact ⟨rfl, rfl, rfl⟩
  | N + 1, .other k, hN, y, vx, vy, g, L, hX, hY, sX, sY, kX => by rw [knJ] at kX; exact kX.elim
  | N + 1, .bool b, hN, y, vx, vy, g, L, hX, hY, sX, sY, kX => by
    rw [IsJ] at hX
    subst hX
    refine .of (Does.of2 Tryz.func32 rfl Tryz.ntmps32 rfl ?_)
    by_cases hy : ∃ c, y = .bool c
    · obtain ⟨c, rfl⟩ := hy
      rw [IsJ] at hY
      subst hY
      rw [sameJ]
      repeat' (first
    | refine wkV ?_
    | refine stS ?_ | (refine stB ?_; intro _) | (refine stC ?_; constructor <;> intro _))
      refine TQ.endR1 (L' := L) Tryz.results32 rvA rfl (.refl _) ?_ selA
      exact ⟨rfl, rfl, rfl⟩
    · have hno := hY.noT 4 (by cases y <;> first | rfl | exact absurd ⟨_, rfl⟩ hy)
      rw [show sameJ (.bool b) y = false by cases y <;> first | rfl | exact absurd ⟨_, rfl⟩ hy]
      repeat' (first
    | (refine wkA 30 (v := .tuple #[.bool false, .bool false]) ?_ ?_; · exact Y.assert_noT rfl hno)
    | refine wkV ?_
    | refine stS ?_ | (refine stB ?_; intro _) | (refine stC ?_; constructor <;> intro _))
      refine TQ.endR1 (L' := L) Tryz.results32 rvA rfl (.refl _) ?_ selA
      exact ⟨rfl, rfl, rfl⟩
  | N + 1, .num b, hN, y, vx, vy, g, L, hX, hY, sX, sY, kX => by
    rw [IsJ] at hX
    obtain ⟨rfl, x0, x1⟩ := hX
    refine .of (Does.of2 Tryz.func32 rfl Tryz.ntmps32 rfl ?_)
    by_cases hy : ∃ c, y = .num c
    · obtain ⟨c, rfl⟩ := hy
      rw [IsJ] at hY
      obtain ⟨rfl, y0, y1⟩ := hY
      rw [sameJ]
      repeat' (first
    | refine wkV ?_
    | refine stS ?_ | (refine stB ?_; intro _) | (refine stC ?_; constructor <;> intro _))
      refine TQ.endR1 (L' := L) Tryz.results32 rvA rfl (.refl _) ?_ selA
      exact ⟨rfl, rfl, rfl⟩
    · have hno := hY.noT 70 (by cases y <;> first | rfl | exact absurd ⟨_, rfl⟩ hy)
      rw [show sameJ (.num b) y = false by cases y <;> first | rfl | exact absurd ⟨_, rfl⟩ hy]
      repeat' (first
    | (refine wkA 44 (v := .tuple #[.int .i64 0, .bool false]) ?_ ?_; · exact Y.assert_noT rfl hno)
    | refine wkV ?_
    | refine stS ?_ | (refine stB ?_; intro _) | (refine stC ?_; constructor <;> intro _))
      refine TQ.endR1 (L' := L) Tryz.results32 rvA rfl (.refl _) ?_ selA
      exact ⟨rfl, rfl, rfl⟩
  | N + 1, .text b, hN, y, vx, vy, g, L, hX, hY, sX, sY, kX => by
    rw [IsJ] at hX
    subst hX
    refine .of (Does.of2 Tryz.func32 rfl Tryz.ntmps32 rfl ?_)
    by_cases hy : ∃ c, y = .text c
    · obtain ⟨c, rfl⟩ := hy
      rw [IsJ] at hY
      subst hY
      rw [sameJ]
      repeat' (first
    | refine wkV ?_
    | refine stS ?_ | (refine stB ?_; intro _) | (refine stC ?_; constructor <;> intro _))
      refine TQ.endR1 (L' := L) Tryz.results32 rvA rfl (.refl _) ?_ selA
      exact ⟨rfl, rfl, rfl⟩
    · have hno := hY.noT 9 (by cases y <;> first | rfl | exact absurd ⟨_, rfl⟩ hy)
      rw [show sameJ (.text b) y = false by cases y <;> first | rfl | exact absurd ⟨_, rfl⟩ hy]
      repeat' (first
    | (refine wkA 58 (v := .tuple #[.string ⟨#[]⟩, .bool false]) ?_ ?_; · exact Y.assert_noT rfl hno)
    | refine wkV ?_
    | refine stS ?_ | (refine stB ?_; intro _) | (refine stC ?_; constructor <;> intro _))
      refine TQ.endR1 (L' := L) Tryz.results32 rvA rfl (.refl _) ?_ selA
      exact ⟨rfl, rfl, rfl⟩
  | N + 1, .list xs, hN, y, vx, vy, g, L, hX, hY, sX, sY, kX => by
    have IH := same_gives N
    rw [jsz] at hN
    rw [IsJ] at hX
    obtain ⟨sl, flat, rfl, hSl, hJs⟩ := hX
    obtain ⟨ao, cap, rfl⟩ := hSl.slice
    rw [smJ] at sX
    rw [knJ] at kX
    refine .of (Does.of2 Tryz.func32 rfl Tryz.ntmps32 rfl ?_)
    by_cases hy : ∃ c, y = .list c
    · obtain ⟨ys, rfl⟩ := hy
      rw [IsJ] at hY
      obtain ⟨sl2, flat2, rfl, hSl2, hJs2⟩ := hY
      obtain ⟨ao2, cap2, rfl⟩ := hSl2.slice
      rw [smJ] at sY
      rw [sameJ]
      have A := fun L => eqList_gives xs ys flat flat2 ao ao2 cap cap2 g L hSl hSl2 hJs hJs2 sX.1 sY.1 (fun i x y vx vy hx hy jx jy L => IH x (by have := jsz_get hx; omega) y vx vy g L jx jy (smJs_get sX.2 hx) (smJs_get sY.2 hy) (knJs_get kX hx))
      generalize (decide (xs.length = ys.length) && sames xs ys) = r at *
      repeat' (first
    | refine wkV ?_
    | refine wkD (A _) ?_
    | refine stS ?_ | (refine stB ?_; intro _) | (refine stC ?_; constructor <;> intro _))
      refine TQ.endR1 (L' := L) Tryz.results32 rvA rfl (.refl _) ?_ selA
      exact ⟨rfl, rfl, rfl⟩
    · have hno := hY.noT 50 (by cases y <;> first | rfl | exact absurd ⟨_, rfl⟩ hy)
      rw [show sameJ (.list xs) y = false by cases y <;> first | rfl | exact absurd ⟨_, rfl⟩ hy]
      repeat' (first
    | (refine wkA 72 (v := .tuple #[.slice none 0 0, .bool false]) ?_ ?_; · exact Y.assert_noT rfl hno)
    | refine wkV ?_
    | refine stS ?_ | (refine stB ?_; intro _) | (refine stC ?_; constructor <;> intro _))
      refine TQ.endR1 (L' := L) Tryz.results32 rvA rfl (.refl _) ?_ selA
      exact ⟨rfl, rfl, rfl⟩
  | N + 1, .obj ms xs, hN, y, vx, vy, g, L, hX, hY, sX, sY, kX => by
    have IH := same_gives N
    rw [jsz] at hN
    rw [IsJ] at hX
    obtain ⟨sl, flat, rfl, hSl, hJs⟩ := hX
    obtain ⟨ao, cap, rfl⟩ := hSl.slice
    rw [smJ] at sX
    rw [knJ] at kX
    refine .of (Does.of2 Tryz.func32 rfl Tryz.ntmps32 rfl ?_)
    by_cases hy : ∃ ns c, y = .obj ns c
    · obtain ⟨ns, ys, rfl⟩ := hy
      rw [IsJ] at hY
      obtain ⟨sl2, flat2, rfl, hSl2, hJs2⟩ := hY
      obtain ⟨ao2, cap2, rfl⟩ := hSl2.slice
      rw [smJ] at sY
      rw [sameJ]
      have A := fun L => eqObj_gives ms ns xs ys flat flat2 ao ao2 cap cap2 g L hSl hSl2 hJs hJs2 sX.1 sY.1 (fun i x y vx vy hx hy jx jy L => IH x (by have := jsz_get hx; omega) y vx vy g L jx jy (smJs_get sX.2.2 hx) (smJs_get sY.2.2 hy) (knJs_get kX hx))
      generalize (decide (xs.length = ys.length) && sameo ms xs ns ys) = r at *
      repeat' (first
    | refine wkV ?_
    | refine wkD (A _) ?_
    | refine stS ?_ | (refine stB ?_; intro _) | (refine stC ?_; constructor <;> intro _))
      refine TQ.endR1 (L' := L) Tryz.results32 rvA rfl (.refl _) ?_ selA
      exact ⟨rfl, rfl, rfl⟩
    · have hno := hY.noT 48 (by cases y <;> first | rfl | exact absurd ⟨_, _, rfl⟩ hy)
      rw [show sameJ (.obj ms xs) y = false by cases y <;> first | rfl | exact absurd ⟨_, _, rfl⟩ hy]
      repeat' (first
    | (refine wkA 85 (v := .tuple #[.slice none 0 0, .bool false]) ?_ ?_; · exact Y.assert_noT rfl hno)
    | refine wkV ?_
    | refine stS ?_ | (refine stB ?_; intro _) | (refine stC ?_; constructor <;> intro _))
      refine TQ.endR1 (L' := L) Tryz.results32 rvA rfl (.refl _) ?_ selA
      exact ⟨rfl, rfl, rfl⟩
def SameJ (x y : J) : Bool := (decide (lookJ x 0 = 0) && decide (lookJ y 0 = 0)) && sameJ x y
set_option maxHeartbeats 8000000 in
theorem Same_gives (x y : J) (vx vy : Value) (g : Gh) (L : List Ent) (hX : IsJ g x vx) (hY : IsJ g y vy) (sX : smJ x) (sY : smJ y) (hT : GTabs g) (hU : GU8 g) : Gives Tryz.prog 11 #[vx, vy] g L (.bool (SameJ x y)) := by
  refine .of (Does.of2 Tryz.func11 rfl Tryz.ntmps11 rfl ?_)
  have A := fun L => may_gives x vx g L hX sX hT hU
  have B := fun L => may_gives y vy g L hY sY hT hU
  unfold SameJ
  by_cases h0 : lookJ x 0 = 0
  · have C := fun L => same_gives _ x (Nat.le_refl _) y vx vy g L hX hY sX sY (kn_look x 0 h0)
    rw [h0] at A ⊢
    clear h0 hX hY hT hU
    generalize sameJ x y = r at *
    by_cases h1 : lookJ y 0 = 0
    · rw [h1] at B ⊢
      clear h1
      repeat' (first
    | refine wkV ?_
    | refine wkD (A _) ?_
    | refine wkD (B _) ?_
    | refine wkD (C _) ?_
    | refine stS ?_ | (refine stB ?_; intro _) | (refine stC ?_; constructor <;> intro _))
      refine TQ.endR1 (L' := L) Tryz.results11 rvA rfl (.refl _) ?_ selA
      exact ⟨by simp, rfl, rfl⟩
    · rw [decide_eq_false h1]
      generalize lookJ y 0 = e at *
      have h2 : Hn (¬ ((e : Nat) : Int) = 0) := ⟨by omega⟩
      clear C
      repeat' (first
    | refine wkV ?_
    | refine wkD (A _) ?_
    | refine wkD (B _) ?_
    | refine stS ?_ | (refine stB ?_; intro _) | (refine stC ?_; constructor <;> intro _))
      refine TQ.endR1 (L' := L) Tryz.results11 rvA rfl (.refl _) ?_ selA
      exact ⟨by simp, rfl, rfl⟩
  · rw [decide_eq_false h0]
    generalize lookJ x 0 = e at *
    have h2 : Hn (¬ ((e : Nat) : Int) = 0) := ⟨by omega⟩
    clear B
    repeat' (first
    | refine wkV ?_
    | refine wkD (A _) ?_
    | refine stS ?_ | (refine stB ?_; intro _) | (refine stC ?_; constructor <;> intro _))
    refine TQ.endR1 (L' := L) Tryz.results11 rvA rfl (.refl _) ?_ selA
    exact ⟨by simp, rfl, rfl⟩
end Go.Proofs.YtgollffmdpejiaaGreatDoor
