/-
  The walks of json.Print, depth, Depth.
-/
import Derived.Test.YtfmadoeadmclbaaGreatDoorHp1
import Derived.Test.YtfmadoeadmclbaaGreatDoorHp27
import Derived.Test.YtfmadoeadmclbaaGreatDoorHp12
import Derived.Test.YtfmadoeadmclbaaGreatDoorHp28
import Derived.Test.YtfmadoeadmclbaaGreatDoorHp29
namespace Go.Proofs.YtfmadoeadmclbaaGreatDoor
open Go.RowKit Go.TL
set_option maxRecDepth 100000

theorem depJs_at {l : List J} {i : Nat} {x : J} (h : l[i]? = some x) : depJs (l.drop i) = max (depJ x) (depJs (l.drop (i + 1))) := by
  rw [drop_of_get h, depJs]
set_option maxHeartbeats 16000000 in
theorem jdepth_gives : ∀ (N : Nat) (x : J), jsz x ≤ N → ∀ (v : Value) (g : Gh) (L : List Ent), IsJ g x v → smJ x → depJ x ≤ 1000 → Gives Tryz.prog 41 #[v] g L (.int .i64 (depJ x : Nat))
  | 0, x, h, _, _, _, _, _, _ => by cases x <;> (rw [jsz] at h; omega)
  | N + 1, .null, hN, v, g, L, hV, hS, hD => by
    rw [IsJ] at hV
    subst hV
    rw [depJ]
    refine .of (Does.of1 Tryz.func41 rfl Tryz.ntmps41 rfl ?_)
    repeat' (first
    | ((with_reducible apply TL.pure); (· exact yQ); (· rfl))
    | ((with_reducible apply TL.pure); (· exact yV); (· rfl)) | ((with_reducible apply TW.pure); (· exact yV); (· rfl))
    | ((with_reducible apply TL.pure); (· exact yA); (· rfl))
    | refine stS ?_ | (refine stB ?_; intro _) | (refine stC ?_; refine And.intro (fun _ => ?_) (fun _ => ?_)))
    refine TQ.endR1 (L' := L) Tryz.results41 rvA rfl (.refl _) ?_ selF
    exact ⟨rfl, rfl, rfl⟩
  | N + 1, .bool b, hN, v, g, L, hV, hS, hD => by
    rw [IsJ] at hV
    subst hV
    rw [depJ]
    refine .of (Does.of1 Tryz.func41 rfl Tryz.ntmps41 rfl ?_)
    repeat' (first
    | ((with_reducible apply TL.pure); (· exact yQ); (· rfl))
    | ((with_reducible apply TL.pure); (· exact yV); (· rfl)) | ((with_reducible apply TW.pure); (· exact yV); (· rfl))
    | ((with_reducible apply TL.pure); (· exact yA); (· rfl))
    | refine stS ?_ | (refine stB ?_; intro _) | (refine stC ?_; refine And.intro (fun _ => ?_) (fun _ => ?_)))
    refine TQ.endR1 (L' := L) Tryz.results41 rvA rfl (.refl _) ?_ selF
    exact ⟨rfl, rfl, rfl⟩
  | N + 1, .num n, hN, v, g, L, hV, hS, hD => by
    rw [IsJ] at hV
    obtain ⟨rfl, _⟩ := hV
    rw [depJ]
    refine .of (Does.of1 Tryz.func41 rfl Tryz.ntmps41 rfl ?_)
    repeat' (first
    | ((with_reducible apply TL.pure); (· exact yQ); (· rfl))
    | ((with_reducible apply TL.pure); (· exact yV); (· rfl)) | ((with_reducible apply TW.pure); (· exact yV); (· rfl))
    | ((with_reducible apply TL.pure); (· exact yA); (· rfl))
    | refine stS ?_ | (refine stB ?_; intro _) | (refine stC ?_; refine And.intro (fun _ => ?_) (fun _ => ?_)))
    refine TQ.endR1 (L' := L) Tryz.results41 rvA rfl (.refl _) ?_ selF
    exact ⟨rfl, rfl, rfl⟩
  | N + 1, .text s, hN, v, g, L, hV, hS, hD => by
    rw [IsJ] at hV
    subst hV
    rw [depJ]
    refine .of (Does.of1 Tryz.func41 rfl Tryz.ntmps41 rfl ?_)
    repeat' (first
    | ((with_reducible apply TL.pure); (· exact yQ); (· rfl))
    | ((with_reducible apply TL.pure); (· exact yV); (· rfl)) | ((with_reducible apply TW.pure); (· exact yV); (· rfl))
    | ((with_reducible apply TL.pure); (· exact yA); (· rfl))
    | refine stS ?_ | (refine stB ?_; intro _) | (refine stC ?_; refine And.intro (fun _ => ?_) (fun _ => ?_)))
    refine TQ.endR1 (L' := L) Tryz.results41 rvA rfl (.refl _) ?_ selF
    exact ⟨rfl, rfl, rfl⟩
  | N + 1, .other k, hN, v, g, L, hV, hS, hD => by
    rw [IsJ] at hV
    subst hV
    rw [depJ]
    refine .of (Does.of1 Tryz.func41 rfl Tryz.ntmps41 rfl ?_)
    repeat' (first
    | ((with_reducible apply TL.pure); (· exact yQ); (· rfl))
    | ((with_reducible apply TL.pure); (· exact yV); (· rfl)) | ((with_reducible apply TW.pure); (· exact yV); (· rfl))
    | ((with_reducible apply TL.pure); (· exact yA); (· rfl))
    | refine stS ?_ | (refine stB ?_; intro _) | (refine stC ?_; refine And.intro (fun _ => ?_) (fun _ => ?_)))
    refine TQ.endR1 (L' := L) Tryz.results41 rvA rfl (.refl _) ?_ selF
    exact ⟨rfl, rfl, rfl⟩
  | N + 1, .list xs, hN, v, g, L, hV, hS, hD => by
    have IH := jdepth_gives N
    rw [jsz] at hN
    rw [IsJ] at hV
    obtain ⟨sl, flat, rfl, hSl, hJs⟩ := hV
    obtain ⟨ao, cap, rfl⟩ := hSl.slice
    rw [smJ] at hS
    obtain ⟨hl, hS⟩ := hS
    rw [depJ] at hD ⊢
    obtain ⟨D, hD2⟩ : ∃ D, D = depJs xs := ⟨_, rfl⟩
    rw [← hD2] at hD ⊢
    refine .of (Does.of1 Tryz.func41 rfl Tryz.ntmps41 rfl ?_)
    repeat' (first
    | ((with_reducible apply TL.pure); (· exact yQ); (· rfl))
    | ((with_reducible apply TL.pure); (· exact yV); (· rfl)) | ((with_reducible apply TW.pure); (· exact yV); (· rfl))
    | ((with_reducible apply TL.pure); (· exact yA); (· rfl))
    | refine stS ?_ | (refine stB ?_; intro _) | (refine stC ?_; refine And.intro (fun _ => ?_) (fun _ => ?_)))
    refine TC.loopL (α := Nat × Nat) (fun z => z.1 ≤ xs.length ∧ max z.2 (depJs (xs.drop z.1)) = D) (fun z => xs.length - z.1) (fun z _ => [(17, .int .i64 (z.1 : Nat)), (16, .int .i64 (xs.length : Nat)), (15, .slice ao xs.length cap), (3, .int .i64 (z.2 : Nat))]) (fun _ => L) (0, 0) ⟨Nat.zero_le _, by rw [hD2]; simp⟩ subA selF ?_
    rintro ⟨i, m⟩ ⟨hi, hm⟩
    dsimp only at hi hm ⊢
    by_cases hlt : i < xs.length
    · obtain ⟨y, hy⟩ : ∃ y, xs[i]? = some y := ⟨_, List.getElem?_eq_getElem hlt⟩
      obtain ⟨vy, hv, hJ⟩ := hJs.get hy
      obtain ⟨b1, o1, rfl, hg⟩ := hSl.elem hlt (by decide)
      have hld : g.cell b1 (o1 + i * 1) = some vy := hg 0 vy (by rw [Nat.mul_one]; exact hv)
      have hsz := jsz_get hy
      have hone := hJ.one
      rw [depJs_at hy] at hm
      have A := fun L => IH y (by omega) vy g L hJ (smJs_get hS hy) (by omega)
      generalize depJ y = e at *
      have HM := Hn.mk (show (if ((m : Nat) : Int) < (e : Nat) then ((e : Nat) : Int) else (m : Nat)) = ((max m e : Nat) : Int) by split <;> omega)
      have HD := Hn.mk (show max (max m e) (depJs (xs.drop (i + 1))) = D by omega)
      clear hJs hSl hg hS hv hJ IH hm hD2
      repeat' (first
    | ((with_reducible apply TL.pure); (· exact yQ); (· rfl))
    | ((with_reducible apply TL.pure); (· exact yV); (· rfl)) | ((with_reducible apply TW.pure); (· exact yV); (· rfl))
    | ((with_reducible apply TL.pure); (· exact yM); (· rfl)) | ((with_reducible apply TW.pure); (· exact yM); (· rfl))
    | ((with_reducible apply TL.gives_plain); (· kernel_rfl); (· rfl); (· exact A _); (· rfl)) | ((with_reducible apply TW.gives_plain); (· kernel_rfl); (· rfl); (· exact A _); (· rfl))
    | ((with_reducible apply TL.pure (d := 24) (v := .int .i64 ((max m e : Nat) : Int))); (· exact Y.max_int rfl rfl HM.out); (· rfl)) | ((with_reducible apply TW.pure (d := 24) (v := .int .i64 ((max m e : Nat) : Int))); (· exact Y.max_int rfl rfl HM.out); (· rfl))
    | ((with_reducible apply TL.pure); (· exact yA); (· rfl))
    | refine stS ?_ | (refine stB ?_; intro _) | (refine stC ?_; refine And.intro (fun _ => ?_) (fun _ => ?_)))
      refine TQ.round (i + 1, max m e) ?_ ?_ rfl subA selF
      · exact ⟨by dsimp only; omega, HD.out⟩
      · show xs.length - (i + 1) < xs.length - i
        omega
    · rw [List.drop_eq_nil_of_le (by omega), depJs] at hm
      obtain rfl : m = D := by omega
      clear hJs hSl hS IH hD2
      repeat' (first
    | ((with_reducible apply TL.pure); (· exact yQ); (· rfl))
    | ((with_reducible apply TL.pure); (· exact yV); (· rfl)) | ((with_reducible apply TW.pure); (· exact yV); (· rfl))
    | ((with_reducible apply TL.pure); (· exact yA); (· rfl))
    | refine stS ?_ | (refine stB ?_; intro _) | (refine stC ?_; refine And.intro (fun _ => ?_) (fun _ => ?_)))
      refine TQ.endR1 (L' := L) Tryz.results41 rvA rfl (.refl _) ?_ selF
      exact ⟨rfl, rfl, rfl⟩
  | N + 1, .obj ns xs, hN, v, g, L, hV, hS, hD => by
    have IH := jdepth_gives N
    rw [jsz] at hN
    rw [IsJ] at hV
    obtain ⟨sl, flat, rfl, hSl, hMs⟩ := hV
    obtain ⟨ao, cap, rfl⟩ := hSl.slice
    rw [smJ] at hS
    obtain ⟨hl, hnl, hS⟩ := hS
    rw [depJ] at hD ⊢
    obtain ⟨D, hD2⟩ : ∃ D, D = depJs xs := ⟨_, rfl⟩
    rw [← hD2] at hD ⊢
    refine .of (Does.of1 Tryz.func41 rfl Tryz.ntmps41 rfl ?_)
    repeat' (first
    | ((with_reducible apply TL.pure); (· exact yQ); (· rfl))
    | ((with_reducible apply TL.pure); (· exact yV); (· rfl)) | ((with_reducible apply TW.pure); (· exact yV); (· rfl))
    | ((with_reducible apply TL.pure); (· exact yA); (· rfl))
    | refine stS ?_ | (refine stB ?_; intro _) | (refine stC ?_; refine And.intro (fun _ => ?_) (fun _ => ?_)))
    refine TC.loopL (α := Nat × Nat) (fun z => z.1 ≤ xs.length ∧ max z.2 (depJs (xs.drop z.1)) = D) (fun z => xs.length - z.1) (fun z _ => [(31, .int .i64 (z.1 : Nat)), (30, .int .i64 (xs.length : Nat)), (29, .slice ao xs.length cap), (3, .int .i64 (z.2 : Nat))]) (fun _ => L) (0, 0) ⟨Nat.zero_le _, by rw [hD2]; simp⟩ subA selF ?_
    rintro ⟨i, m⟩ ⟨hi, hm⟩
    dsimp only at hi hm ⊢
    by_cases hlt : i < xs.length
    · obtain ⟨y, hy⟩ : ∃ y, xs[i]? = some y := ⟨_, List.getElem?_eq_getElem hlt⟩
      obtain ⟨nm, vy, hns, hv0, hv1, hJ⟩ := hMs.get hy
      obtain ⟨b1, o1, rfl, hg⟩ := hSl.elem (i := i) (by omega) (by decide)
      have hld : ∀ j u, [str nm, vy][j]? = some u → g.cell b1 (o1 + i * 2 + j) = some u := fun j u hu => by
        match j, hu with
        | 0, hu => simp at hu; subst hu; exact hg 0 _ hv0
        | 1, hu => simp at hu; subst hu; exact hg 1 _ hv1
        | j + 2, hu => simp at hu
      have hll : [str nm, vy].length = 2 := rfl
      have hsz := jsz_get hy
      have hone := hJ.one
      rw [depJs_at hy] at hm
      have A := fun L => IH y (by omega) vy g L hJ (smJs_get hS hy) (by omega)
      generalize depJ y = e at *
      have HM := Hn.mk (show (if ((m : Nat) : Int) < (e : Nat) then ((e : Nat) : Int) else (m : Nat)) = ((max m e : Nat) : Int) by split <;> omega)
      have HD := Hn.mk (show max (max m e) (depJs (xs.drop (i + 1))) = D by omega)
      clear hMs hSl hg hS hv0 hv1 hJ IH hm hD2
      repeat' (first
    | ((with_reducible apply TL.pure); (· exact yQ); (· rfl))
    | ((with_reducible apply TL.pure); (· exact yV); (· rfl)) | ((with_reducible apply TW.pure); (· exact yV); (· rfl))
    | ((with_reducible apply TL.pure); (· exact yM); (· rfl)) | ((with_reducible apply TW.pure); (· exact yM); (· rfl))
    | ((with_reducible apply TL.gives_plain); (· kernel_rfl); (· rfl); (· exact A _); (· rfl)) | ((with_reducible apply TW.gives_plain); (· kernel_rfl); (· rfl); (· exact A _); (· rfl))
    | ((with_reducible apply TL.pure (d := 39) (v := .int .i64 ((max m e : Nat) : Int))); (· exact Y.max_int rfl rfl HM.out); (· rfl)) | ((with_reducible apply TW.pure (d := 39) (v := .int .i64 ((max m e : Nat) : Int))); (· exact Y.max_int rfl rfl HM.out); (· rfl))
    | ((with_reducible apply TL.pure); (· exact yA); (· rfl))
    | refine stS ?_ | (refine stB ?_; intro _) | (refine stC ?_; refine And.intro (fun _ => ?_) (fun _ => ?_)))
      refine TQ.round (i + 1, max m e) ?_ ?_ rfl subA selF
      · exact ⟨by dsimp only; omega, HD.out⟩
      · show xs.length - (i + 1) < xs.length - i
        omega
    · rw [List.drop_eq_nil_of_le (by omega), depJs] at hm
      obtain rfl : m = D := by omega
      clear hMs hSl hS IH hD2
      repeat' (first
    | ((with_reducible apply TL.pure); (· exact yQ); (· rfl))
    | ((with_reducible apply TL.pure); (· exact yV); (· rfl)) | ((with_reducible apply TW.pure); (· exact yV); (· rfl))
    | ((with_reducible apply TL.pure); (· exact yA); (· rfl))
    | refine stS ?_ | (refine stB ?_; intro _) | (refine stC ?_; refine And.intro (fun _ => ?_) (fun _ => ?_)))
      refine TQ.endR1 (L' := L) Tryz.results41 rvA rfl (.refl _) ?_ selF
      exact ⟨rfl, rfl, rfl⟩
def depthJ (x : J) : Int := if lookJ x 0 = 0 then (depJ x : Nat) else -1
theorem jDepth_gives (x : J) (v : Value) (g : Gh) (L : List Ent) (hV : IsJ g x v) (hS : smJ x) (hT : GTabs g) (hU : GU8 g) : Gives Tryz.prog 23 #[v] g L (.int .i64 (depthJ x)) := by
  refine .of (Does.of1 Tryz.func23 rfl Tryz.ntmps23 rfl ?_)
  have M := fun L => may_gives x v g L hV hS hT hU
  have hlen := hV.len
  unfold depthJ
  by_cases h0 : lookJ x 0 = 0
  · obtain ⟨_, hd⟩ := ok_of_look x 0 h0 hlen
    have D := fun L => jdepth_gives _ x (Nat.le_refl _) v g L hV hS (by omega)
    rw [if_pos h0]
    rw [h0] at M
    clear hV hlen h0 hd
    repeat' (first
    | ((with_reducible apply TL.pure); (· exact yQ); (· rfl))
    | ((with_reducible apply TL.pure); (· exact yV); (· rfl)) | ((with_reducible apply TW.pure); (· exact yV); (· rfl))
    | ((with_reducible apply TL.gives_plain); (· kernel_rfl); (· rfl); (· exact M _); (· rfl)) | ((with_reducible apply TW.gives_plain); (· kernel_rfl); (· rfl); (· exact M _); (· rfl))
    | ((with_reducible apply TL.gives_plain); (· kernel_rfl); (· rfl); (· exact D _); (· rfl)) | ((with_reducible apply TW.gives_plain); (· kernel_rfl); (· rfl); (· exact D _); (· rfl))
    | ((with_reducible apply TL.pure); (· exact yA); (· rfl))
    | refine stS ?_ | (refine stB ?_; intro _) | (refine stC ?_; refine And.intro (fun _ => ?_) (fun _ => ?_)))
    refine TQ.endR1 (L' := L) Tryz.results23 rvA rfl (.refl _) ?_ selF
    exact ⟨rfl, rfl, rfl⟩
  · rw [if_neg h0]
    generalize lookJ x 0 = e at *
    have h2 : Hn (¬ ((e : Nat) : Int) = 0) := ⟨by omega⟩
    clear hV hlen h0
    repeat' (first
    | ((with_reducible apply TL.pure); (· exact yQ); (· rfl))
    | ((with_reducible apply TL.pure); (· exact yV); (· rfl)) | ((with_reducible apply TW.pure); (· exact yV); (· rfl))
    | ((with_reducible apply TL.gives_plain); (· kernel_rfl); (· rfl); (· exact M _); (· rfl)) | ((with_reducible apply TW.gives_plain); (· kernel_rfl); (· rfl); (· exact M _); (· rfl))
    | ((with_reducible apply TL.pure); (· exact yA); (· rfl))
    | refine stS ?_ | (refine stB ?_; intro _) | (refine stC ?_; refine And.intro (fun _ => ?_) (fun _ => ?_)))
    refine TQ.endR1 (L' := L) Tryz.results23 rvA rfl (.refl _) ?_ selF
    exact ⟨rfl, rfl, rfl⟩
def PrintR (s : List UInt8) (_g : Gh) (L : List Ent) : Ending → Gh → List Ent → Prop := fun e g' L' => ∃ b cap, e = .returned (.tuple #[.slice (some ⟨b, 0, none⟩) s.length cap, .int .i64 0]) ∧ L' = L ∧ Sl g' (.slice (some ⟨b, 0, none⟩) s.length cap) s.length 1 (byteVals s)
set_option maxHeartbeats 8000000 in
theorem jPrint_does (x : J) (v : Value) (g : Gh) (L : List Ent) (hV : IsJ g x v) (hS : smJ x) (h0 : lookJ x 0 = 0) (hm : mJ x ≤ 4000000) (hT : GTabs g) (hU : GU8 g) : Does Tryz.prog 15 #[v] g L (PrintR (prJ x) g L) := by
  refine Does.of1 Tryz.func15 rfl Tryz.ntmps15 rfl ?_
  have M := fun L => may_gives x v g L hV hS hT hU
  rw [h0] at M
  obtain ⟨hk, _⟩ := ok_of_look x 0 h0 hV.len
  have W := fun b L => jwvalue_does _ x (Nat.le_refl _) b (.pointer none) (.slice none 0 0) [] v g L (.inl rfl) hV hk hT (by rw [List.length_nil]; omega)
  rw [List.nil_append] at W
  have hne : prJ x ≠ [] := by
    obtain ⟨c, t, h, _⟩ := head_prW (pre := []) (post := []) (fun _ h => by cases h) x hk
    rw [prW_nil] at h
    have := h []
    intro e
    rw [e] at this
    cases this
  have SS := fun b v L => wbdstring_turns b (.pointer (some ⟨b, 0, none⟩)) v (prJ x) g L (fun e => absurd e hne)
  unfold WrR at W
  unfold BwL at *
  simp only [List.length_nil, show byteVals ([] : List UInt8) = [] from rfl] at W
  have ho := hV.one
  generalize prJ x = s at *
  clear hV hk h0 hne
  repeat' (first
    | ((with_reducible apply TL.pure); (· exact yQ); (· rfl))
    | ((with_reducible apply TL.pure); (· exact yV); (· rfl)) | ((with_reducible apply TW.pure); (· exact yV); (· rfl))
    | ((with_reducible apply TL.gives_plain); (· kernel_rfl); (· rfl); (· exact M _); (· rfl)) | ((with_reducible apply TW.gives_plain); (· kernel_rfl); (· rfl); (· exact M _); (· rfl))
    | ((with_reducible apply TL.pure); (· exact yA); (· rfl))
    | refine stS ?_ | (refine stB ?_; intro _) | (refine stC ?_; refine And.intro (fun _ => ?_) (fun _ => ?_)))
  refine Go.TL.TL.row_nil 5 1 ?_
  repeat' (first
    | ((with_reducible apply TL.pure); (· exact yQ); (· rfl))
    | ((with_reducible apply TL.pure); (· exact yV); (· rfl)) | ((with_reducible apply TW.pure); (· exact yV); (· rfl))
    | (refine TL.call (Enters.plain (by kernel_rfl) (by rfl)) (by rfl) (Does.perm (W _ _) permF) ?_; (rintro e gu Lu _ ⟨wv, k1, k2, k3⟩; have k2 := k2.symm; subst k1; subst k2; subst k3; refine CallK.ret ?_))
    | apply TL.turns (Enters.plain (by kernel_rfl) (by rfl)) (SS _ _ _) permF (by rfl)
    | ((with_reducible apply TL.to_bytes); (· rfl); (· rfl); intro bb cb gb hgb hsb)
    | ((with_reducible apply TL.pure); (· exact yA); (· rfl))
    | refine stS ?_ | (refine stB ?_; intro _) | (refine stC ?_; refine And.intro (fun _ => ?_) (fun _ => ?_)))
  refine TQ.endR2 (L' := L) Tryz.results15 rvA rvA rfl (hgb) ?_ selF
  exact ⟨_, _, rfl, rfl, hsb⟩
theorem jPrint_no (x : J) (v : Value) (g : Gh) (L : List Ent) (hV : IsJ g x v) (hS : smJ x) (h0 : lookJ x 0 ≠ 0) (hT : GTabs g) (hU : GU8 g) : Gives Tryz.prog 15 #[v] g L (.tuple #[.slice none 0 0, .int .i64 (lookJ x 0 : Nat)]) := by
  refine .of (Does.of1 Tryz.func15 rfl Tryz.ntmps15 rfl ?_)
  have M := fun L => may_gives x v g L hV hS hT hU
  generalize lookJ x 0 = e at *
  have h2 : Hn (¬ ((e : Nat) : Int) = 0) := ⟨by omega⟩
  clear hV h0
  repeat' (first
    | ((with_reducible apply TL.pure); (· exact yQ); (· rfl))
    | ((with_reducible apply TL.pure); (· exact yV); (· rfl)) | ((with_reducible apply TW.pure); (· exact yV); (· rfl))
    | ((with_reducible apply TL.gives_plain); (· kernel_rfl); (· rfl); (· exact M _); (· rfl)) | ((with_reducible apply TW.gives_plain); (· kernel_rfl); (· rfl); (· exact M _); (· rfl))
    | ((with_reducible apply TL.pure); (· exact yA); (· rfl))
    | refine stS ?_ | (refine stB ?_; intro _) | (refine stC ?_; refine And.intro (fun _ => ?_) (fun _ => ?_)))
  refine TQ.endR2 (L' := L) Tryz.results15 rvA rvA rfl (.refl _) ?_ selF
  exact ⟨rfl, rfl, rfl⟩
end Go.Proofs.YtfmadoeadmclbaaGreatDoor
