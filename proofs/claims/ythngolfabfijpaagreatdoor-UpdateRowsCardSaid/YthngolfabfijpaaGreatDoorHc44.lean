/-
  The walk of the JSON writer's value.
-/
import Derived.Test.YthngolfabfijpaaGreatDoorHc2
import Derived.Test.YthngolfabfijpaaGreatDoorHc43
import Derived.Test.YthngolfabfijpaaGreatDoorHc16
namespace Go.Proofs.YthngolfabfijpaaGreatDoor
open Go.RowKit Go.TL
set_option maxRecDepth 100000

theorem mJs_len : ∀ (l : List J), l.length ≤ mJs l
  | [] => Nat.zero_le _
  | x :: r => by
    have := mJs_len r
    rw [mJs, List.length_cons]; omega
theorem mJm_len : ∀ (ns : List (List UInt8)) (l : List J), l.length ≤ mJm ns l
  | _, [] => Nat.zero_le _
  | ns, x :: r => by
    have := mJm_len ns.tail r
    rw [mJm, List.length_cons]; omega
structure LvS where
  i : Nat
  p : Value
  v : Value
  acc : List UInt8
  sg : UInt8
theorem sep_end (n : Nat) (c : UInt8) (hc : (44 : UInt8) ≠ c) : decide (sepB n c = c) = decide (n = 0) := by
  unfold sepB
  by_cases h : n = 0
  · rw [if_pos h]; simp [h]
  · rw [if_neg h, decide_eq_false hc, decide_eq_false h]
set_option maxHeartbeats 32000000 in
theorem jwvalue_does : ∀ (N : Nat) (x : J), jsz x ≤ N → ∀ (b : Nat) (p v : Value) (l : List UInt8) (vx : Value) (g : Gh) (L : List Ent), BdP b p → IsJ g x vx → okJ x → GTabs g → l.length + mJ x ≤ 5000000 → Does Tryz.prog 75 #[.pointer (some ⟨b, 0, none⟩), vx] g (BwL b p v l L) (WrR b (l ++ prJ x) g L)
  | 0, x, h, _, _, _, _, _, _, _, _, _, _, _, _ => by cases x <;> (rw [jsz] at h; omega)
  | N + 1, .null, hN, b, p, v, l, vx, g, L, hp, hV, hk, hT, hl => by
    rw [IsJ] at hV
    subst hV
    rw [prJ]
    rw [mJ] at hl
    refine Does.of2 Tryz.func75 rfl Tryz.ntmps75 rfl ?_
    have W := fun L => wbdstr_does hp v l [110, 117, 108, 108] g L (by simp only [List.length_cons, List.length_nil]; omega)
    unfold WstrR at W
    unfold BwL at *
    repeat' (first
    | refine wkQ ?_
    | refine wkV ?_
    | (refine TL.call (Enters.plain (by kernel_rfl) (by rfl)) (by rfl) (Does.perm (W _) permF) ?_; (rintro e gu Lu _ ⟨wv, wk, k1, k2, k3⟩; have k2 := k2.symm; subst k1; subst k2; subst k3; refine CallK.ret ?_))
    | refine stS ?_ | (refine stB ?_; intro _) | (refine stC ?_; refine And.intro (fun _ => ?_) (fun _ => ?_)))
    refine TQ.end_normal ?_
    refine TQ.endR0 (L' := (BwO b (.pointer (some ⟨b, 0, none⟩)) wv :: .row 5 1 wv ((l ++ [110, 117, 108, 108])).length (byteVals ((l ++ [110, 117, 108, 108]))) :: L)) Tryz.results75 rfl (.refl _) ?_ selF
    exact ⟨_, rfl, rfl, rfl⟩
  | N + 1, .bool true, hN, b, p, v, l, vx, g, L, hp, hV, hk, hT, hl => by
    rw [IsJ] at hV
    subst hV
    rw [prJ, if_pos rfl]
    rw [mJ] at hl
    refine Does.of2 Tryz.func75 rfl Tryz.ntmps75 rfl ?_
    have W := fun L => wbdstr_does hp v l [116, 114, 117, 101] g L (by simp only [List.length_cons, List.length_nil]; omega)
    unfold WstrR at W
    unfold BwL at *
    repeat' (first
    | refine wkQ ?_
    | refine wkV ?_
    | (refine TL.call (Enters.plain (by kernel_rfl) (by rfl)) (by rfl) (Does.perm (W _) permF) ?_; (rintro e gu Lu _ ⟨wv, wk, k1, k2, k3⟩; have k2 := k2.symm; subst k1; subst k2; subst k3; refine CallK.ret ?_))
    | refine stS ?_ | (refine stB ?_; intro _) | (refine stC ?_; refine And.intro (fun _ => ?_) (fun _ => ?_)))
    refine TQ.end_normal ?_
    refine TQ.endR0 (L' := (BwO b (.pointer (some ⟨b, 0, none⟩)) wv :: .row 5 1 wv ((l ++ [116, 114, 117, 101])).length (byteVals ((l ++ [116, 114, 117, 101]))) :: L)) Tryz.results75 rfl (.refl _) ?_ selF
    exact ⟨_, rfl, rfl, rfl⟩
  | N + 1, .bool false, hN, b, p, v, l, vx, g, L, hp, hV, hk, hT, hl => by
    rw [IsJ] at hV
    subst hV
    rw [prJ, if_neg (by decide)]
    rw [mJ] at hl
    refine Does.of2 Tryz.func75 rfl Tryz.ntmps75 rfl ?_
    have W := fun L => wbdstr_does hp v l [102, 97, 108, 115, 101] g L (by simp only [List.length_cons, List.length_nil]; omega)
    unfold WstrR at W
    unfold BwL at *
    repeat' (first
    | refine wkQ ?_
    | refine wkV ?_
    | (refine TL.call (Enters.plain (by kernel_rfl) (by rfl)) (by rfl) (Does.perm (W _) permF) ?_; (rintro e gu Lu _ ⟨wv, wk, k1, k2, k3⟩; have k2 := k2.symm; subst k1; subst k2; subst k3; refine CallK.ret ?_))
    | refine stS ?_ | (refine stB ?_; intro _) | (refine stC ?_; refine And.intro (fun _ => ?_) (fun _ => ?_)))
    refine TQ.end_normal ?_
    refine TQ.endR0 (L' := (BwO b (.pointer (some ⟨b, 0, none⟩)) wv :: .row 5 1 wv ((l ++ [102, 97, 108, 115, 101])).length (byteVals ((l ++ [102, 97, 108, 115, 101]))) :: L)) Tryz.results75 rfl (.refl _) ?_ selF
    exact ⟨_, rfl, rfl, rfl⟩
  | N + 1, .num n, hN, b, p, v, l, vx, g, L, hp, hV, hk, hT, hl => by
    rw [IsJ] at hV
    obtain ⟨rfl, hb⟩ := hV
    rw [prJ]
    rw [mJ] at hl
    refine Does.of2 Tryz.func75 rfl Tryz.ntmps75 rfl ?_
    have hpl := print_len n
    have A := fun L => nPrint_gives n (L := L) hT hb.1 hb.2
    have W := fun L => wbdstr_does hp v l (printL n).1 g L (by omega)
    unfold WstrR at W
    unfold BwL at *
    repeat' (first
    | refine wkQ ?_
    | refine wkV ?_
    | ((with_reducible apply TL.gives_plain); (· kernel_rfl); (· rfl); (· exact A _); (· rfl)) | ((with_reducible apply TW.gives_plain); (· kernel_rfl); (· rfl); (· exact A _); (· rfl))
    | (refine TL.call (Enters.plain (by kernel_rfl) (by rfl)) (by rfl) (Does.perm (W _) permF) ?_; (rintro e gu Lu _ ⟨wv, wk, k1, k2, k3⟩; have k2 := k2.symm; subst k1; subst k2; subst k3; refine CallK.ret ?_))
    | refine stS ?_ | (refine stB ?_; intro _) | (refine stC ?_; refine And.intro (fun _ => ?_) (fun _ => ?_)))
    refine TQ.end_normal ?_
    refine TQ.endR0 (L' := (BwO b (.pointer (some ⟨b, 0, none⟩)) wv :: .row 5 1 wv ((l ++ (printL n).1)).length (byteVals ((l ++ (printL n).1))) :: L)) Tryz.results75 rfl (.refl _) ?_ selF
    exact ⟨_, rfl, rfl, rfl⟩
  | N + 1, .text s, hN, b, p, v, l, vx, g, L, hp, hV, hk, hT, hl => by
    rw [IsJ] at hV
    subst hV
    rw [prJ]
    rw [mJ] at hl
    rw [okJ] at hk
    refine Does.of2 Tryz.func75 rfl Tryz.ntmps75 rfl ?_
    have W := fun L => jwtext_does hp v l s g L hk (by omega)
    unfold WrR at W
    unfold BwL at *
    repeat' (first
    | refine wkQ ?_
    | refine wkV ?_
    | (refine TL.call (Enters.plain (by kernel_rfl) (by rfl)) (by rfl) (Does.perm (W _) permF) ?_; (rintro e gu Lu _ ⟨wv, k1, k2, k3⟩; have k2 := k2.symm; subst k1; subst k2; subst k3; refine CallK.ret ?_))
    | refine stS ?_ | (refine stB ?_; intro _) | (refine stC ?_; refine And.intro (fun _ => ?_) (fun _ => ?_)))
    refine TQ.end_normal ?_
    refine TQ.endR0 (L' := (BwO b (.pointer (some ⟨b, 0, none⟩)) wv :: .row 5 1 wv ((l ++ quo s)).length (byteVals ((l ++ quo s))) :: L)) Tryz.results75 rfl (.refl _) ?_ selF
    exact ⟨_, rfl, rfl, rfl⟩
  | N + 1, .other k, hN, b, p, v, l, vx, g, L, hp, hV, hk, hT, hl => by rw [okJ] at hk; exact hk.elim
  | N + 1, .list xs, hN, b, p, v, l, vx, g, L, hp, hV, hk, hT, hl => by
    have IH := jwvalue_does N
    rw [jsz] at hN
    rw [mJ] at hl
    rw [okJ] at hk
    rw [prJ]
    rw [IsJ] at hV
    obtain ⟨sl, flat, rfl, hSl, hJs⟩ := hV
    obtain ⟨ao, cap, rfl⟩ := hSl.slice
    have hxl := mJs_len xs
    obtain ⟨R, hR⟩ : ∃ R, R = l ++ (prJs 91 xs ++ endL xs.isEmpty 91 93) := ⟨_, rfl⟩
    rw [← hR]
    have HR := Hn.mk hR
    clear hR
    refine Does.of2 Tryz.func75 rfl Tryz.ntmps75 rfl ?_
    unfold BwL
    repeat' (first
    | refine wkQ ?_
    | refine wkV ?_
    | refine stS ?_ | (refine stB ?_; intro _) | (refine stC ?_; refine And.intro (fun _ => ?_) (fun _ => ?_)))
    refine TC.loopL (α := LvS) (fun x => x.i ≤ xs.length ∧ BdP b x.p ∧ x.acc = l ++ prJs 91 (xs.take x.i) ∧ x.sg = sepB x.i 91) (fun x => xs.length - x.i) (fun x _ => [(58, .int .i64 (x.i : Nat)), (57, .int .i64 (xs.length : Nat)), (56, .slice ao xs.length cap), (12, .int .u8 (x.sg.toNat : Nat)), (0, .pointer (some ⟨b, 0, none⟩))]) (fun x => BwO b x.p x.v :: .row 5 1 x.v x.acc.length (byteVals x.acc) :: L) ⟨0, p, v, l, 91⟩ ⟨Nat.zero_le _, hp, by rw [List.take_zero, prJs, List.append_nil], rfl⟩ subA selF ?_
    rintro ⟨i, p1, v1, acc, sg⟩ ⟨hi, hp1, hacc, hsg⟩
    dsimp only at hi hp1 hacc hsg ⊢
    have hal : acc.length ≤ l.length + mJs (xs.take i) := by
      have := prJs_len 91 (xs.take i)
      rw [hacc, List.length_append]; omega
    by_cases hlt : i < xs.length
    · obtain ⟨x, hx⟩ : ∃ x, xs[i]? = some x := ⟨_, List.getElem?_eq_getElem hlt⟩
      obtain ⟨vx, hv, hJ⟩ := hJs.get hx
      obtain ⟨b1, o1, rfl, hg⟩ := hSl.elem hlt (by decide)
      have hld : g.cell b1 (o1 + i * 1) = some vx := hg 0 vx (by rw [Nat.mul_one]; exact hv)
      have hsz := jsz_get hx
      have hmx := mJs_at hx
      have hone := hJ.one
      have HQ := Hn.mk (show acc ++ [sg] ++ prJ x = l ++ prJs 91 (xs.take (i + 1)) by rw [prJs_take hx, hacc, hsg]; simp)
      have W1 := fun v L => wbdbyte_does hp1 v acc sg g L (by omega)
      have A := fun v L => IH x (by omega) b (.pointer (some ⟨b, 0, none⟩)) v (acc ++ [sg]) vx g L (.inr rfl) hJ (okJs_get hk hx) hT (by rw [List.length_append, List.length_singleton]; omega)
      unfold BwR at W1
      unfold WrR at A
      unfold BwL at *
      clear hJs hSl hg hv hJ IH hk hacc hsg hp hp1
      repeat' (first
    | refine wkQ ?_
    | refine wkV ?_
    | ((with_reducible apply TL.pure); (· exact yM); (· rfl)) | ((with_reducible apply TW.pure); (· exact yM); (· rfl))
    | (refine TL.call (Enters.plain (by kernel_rfl) (by rfl)) (by rfl) (Does.perm (W1 _ _) permF) ?_; (rintro e gu Lu _ ⟨wv, k1, k2, k3⟩; have k2 := k2.symm; subst k1; subst k2; subst k3; refine CallK.ret ?_))
    | (refine TL.call (Enters.plain (by kernel_rfl) (by rfl)) (by rfl) (Does.perm (A _ _) permF) ?_; (rintro e gu Lu _ ⟨wv, k1, k2, k3⟩; have k2 := k2.symm; subst k1; subst k2; subst k3; refine CallK.ret ?_))
    | refine stS ?_ | (refine stB ?_; intro _) | (refine stC ?_; refine And.intro (fun _ => ?_) (fun _ => ?_)))
      refine TQ.round ⟨i + 1, .pointer (some ⟨b, 0, none⟩), wv, acc ++ [sg] ++ prJ x, 44⟩ ?_ ?_ rfl subA selF
      · exact ⟨by dsimp only; omega, .inr rfl, HQ.out, rfl⟩
      · show xs.length - (i + 1) < xs.length - i
        omega
    · obtain rfl : i = xs.length := by omega
      rw [List.take_length] at hacc hal
      have he : decide (sg = 91) = xs.isEmpty := by rw [hsg, sep_end _ _ (by decide)]; cases xs <;> rfl
      obtain rfl : R = acc ++ endL xs.isEmpty 91 93 := by rw [HR.out, hacc]; simp
      have W := fun L => jwend_does xs.isEmpty hp1 v1 acc sg 91 93 he g L (by omega)
      unfold WrR at W
      unfold BwL at *
      clear hJs hSl IH hk hacc hsg hp hp1 HR he
      repeat' (first
    | refine wkQ ?_
    | refine wkV ?_
    | (refine TL.call (Enters.plain (by kernel_rfl) (by rfl)) (by rfl) (Does.perm (W _) permF) ?_; (rintro e gu Lu _ ⟨wv, k1, k2, k3⟩; have k2 := k2.symm; subst k1; subst k2; subst k3; refine CallK.ret ?_))
    | refine stS ?_ | (refine stB ?_; intro _) | (refine stC ?_; refine And.intro (fun _ => ?_) (fun _ => ?_)))
      refine TQ.end_normal ?_
      refine TQ.endR0 (L' := (BwO b (.pointer (some ⟨b, 0, none⟩)) wv :: .row 5 1 wv ((acc ++ endL xs.isEmpty 91 93)).length (byteVals ((acc ++ endL xs.isEmpty 91 93))) :: L)) Tryz.results75 rfl (.refl _) ?_ selF
      exact ⟨_, rfl, rfl, rfl⟩
  | N + 1, .obj ns xs, hN, b, p, v, l, vx, g, L, hp, hV, hk, hT, hl => by
    have IH := jwvalue_does N
    rw [jsz] at hN
    rw [mJ] at hl
    rw [okJ] at hk
    rw [prJ]
    rw [IsJ] at hV
    obtain ⟨sl, flat, rfl, hSl, hMs⟩ := hV
    obtain ⟨ao, cap, rfl⟩ := hSl.slice
    obtain ⟨hnx, hnd, hut, hk⟩ := hk
    have hxl := mJm_len ns xs
    obtain ⟨R, hR⟩ : ∃ R, R = l ++ (prMs 123 ns xs ++ endL xs.isEmpty 123 125) := ⟨_, rfl⟩
    rw [← hR]
    have HR := Hn.mk hR
    clear hR hnd
    refine Does.of2 Tryz.func75 rfl Tryz.ntmps75 rfl ?_
    unfold BwL
    repeat' (first
    | refine wkQ ?_
    | refine wkV ?_
    | refine stS ?_ | (refine stB ?_; intro _) | (refine stC ?_; refine And.intro (fun _ => ?_) (fun _ => ?_)))
    refine TC.loopL (α := LvS) (fun x => x.i ≤ xs.length ∧ BdP b x.p ∧ x.acc = l ++ prMs 123 ns (xs.take x.i) ∧ x.sg = sepB x.i 123) (fun x => xs.length - x.i) (fun x _ => [(79, .int .i64 (x.i : Nat)), (78, .int .i64 (xs.length : Nat)), (77, .slice ao xs.length cap), (16, .int .u8 (x.sg.toNat : Nat)), (0, .pointer (some ⟨b, 0, none⟩))]) (fun x => BwO b x.p x.v :: .row 5 1 x.v x.acc.length (byteVals x.acc) :: L) ⟨0, p, v, l, 123⟩ ⟨Nat.zero_le _, hp, by rw [List.take_zero, prMs, List.append_nil], rfl⟩ subA selF ?_
    rintro ⟨i, p1, v1, acc, sg⟩ ⟨hi, hp1, hacc, hsg⟩
    dsimp only at hi hp1 hacc hsg ⊢
    have hal : acc.length ≤ l.length + mJm ns (xs.take i) := by
      have := prMs_len 123 ns (xs.take i)
      rw [hacc, List.length_append]; omega
    by_cases hlt : i < xs.length
    · obtain ⟨x, hx⟩ : ∃ x, xs[i]? = some x := ⟨_, List.getElem?_eq_getElem hlt⟩
      obtain ⟨nm, vx, hns, hv0, hv1, hJ⟩ := hMs.get hx
      obtain ⟨b1, o1, rfl, hg⟩ := hSl.elem (i := i) (by omega) (by decide)
      have hld : ∀ j u, [str nm, vx][j]? = some u → g.cell b1 (o1 + i * 2 + j) = some u := fun j u hu => by
        match j, hu with
        | 0, hu => simp at hu; subst hu; exact hg 0 _ hv0
        | 1, hu => simp at hu; subst hu; exact hg 1 _ hv1
        | j + 2, hu => simp at hu
      have hll : [str nm, vx].length = 2 := rfl
      have hone := hJ.one
      have hsz := jsz_get hx
      have hmx := mJm_at hns hx
      have hql := quo_len nm
      have HQ := Hn.mk (show acc ++ [sg] ++ quo nm ++ [58] ++ prJ x = l ++ prMs 123 ns (xs.take (i + 1)) by rw [prMs_take hns hx, hacc, hsg]; simp)
      have hp2 : BdP b (.pointer (some ⟨b, 0, none⟩)) := .inr rfl
      have W1 := fun v L => wbdbyte_does hp1 v acc sg g L (by omega)
      have W2 := fun v L => jwtext_does hp2 v (acc ++ [sg]) nm g L (hut nm (List.mem_of_getElem? hns)) (by rw [List.length_append, List.length_singleton]; omega)
      have W3 := fun v L => wbdbyte_does hp2 v (acc ++ [sg] ++ quo nm) 58 g L (by simp only [List.length_append, List.length_singleton]; omega)
      have A := fun v L => IH x (by omega) b (.pointer (some ⟨b, 0, none⟩)) v (acc ++ [sg] ++ quo nm ++ [58]) vx g L hp2 hJ (okJs_get hk hx) hT (by simp only [List.length_append, List.length_singleton]; omega)
      unfold BwR at W1 W3
      unfold WrR at A W2
      unfold BwL at *
      clear hMs hSl hg hv0 hv1 hJ IH hk hacc hsg hp hp1 hut
      repeat' (first
    | refine wkQ ?_
    | refine wkV ?_
    | ((with_reducible apply TL.pure); (· exact yM); (· rfl)) | ((with_reducible apply TW.pure); (· exact yM); (· rfl))
    | (refine TL.call (Enters.plain (by kernel_rfl) (by rfl)) (by rfl) (Does.perm (W1 _ _) permF) ?_; (rintro e gu Lu _ ⟨wv, k1, k2, k3⟩; have k2 := k2.symm; subst k1; subst k2; subst k3; refine CallK.ret ?_))
    | (refine TL.call (Enters.plain (by kernel_rfl) (by rfl)) (by rfl) (Does.perm (W2 _ _) permF) ?_; (rintro e gu Lu _ ⟨wv, k1, k2, k3⟩; have k2 := k2.symm; subst k1; subst k2; subst k3; refine CallK.ret ?_))
    | (refine TL.call (Enters.plain (by kernel_rfl) (by rfl)) (by rfl) (Does.perm (W3 _ _) permF) ?_; (rintro e gu Lu _ ⟨wv, k1, k2, k3⟩; have k2 := k2.symm; subst k1; subst k2; subst k3; refine CallK.ret ?_))
    | (refine TL.call (Enters.plain (by kernel_rfl) (by rfl)) (by rfl) (Does.perm (A _ _) permF) ?_; (rintro e gu Lu _ ⟨wv, k1, k2, k3⟩; have k2 := k2.symm; subst k1; subst k2; subst k3; refine CallK.ret ?_))
    | refine wkP ?_
    | refine TC.seq ?_ | refine TC.region ?_ | refine TL.nil ?_ | refine TQ.then_normal ?_
    | ((with_reducible apply TL.storeE); (· rfl); (· rfl); (· rfl); (· exact pkA); (· infer_instance)) | ((with_reducible apply TL.store_whole); (· rfl); (· rfl); (· exact oneA); (· rfl); (· exact pkA); (· rfl))
    | refine TC.block ?_ | refine TC.ret ?_ | refine TC.skip ?_ | refine TC.exit ?_ | refine TC.cond rfl ?_
    | refine TQ.down ?_ | refine TQ.in_exit' rfl ?_
    | refine TL.guard_yes rfl rfl ?_ | refine TL.guard_no rfl rfl rfl rfl ?_ | refine TL.guard_no0 rfl rfl rfl ?_ | refine TL.guard_undef rfl rfl rfl ?_ | refine TL.guard_undef0 rfl rfl ?_ | refine TL.guard rfl rfl rfl ?_
    | refine Br.t rfl ?_ | refine Br.f rfl ?_ | refine Br.ky kpA ?_ | refine Br.kn kpA ?_ | refine Br.nky kpA ?_ | refine Br.nkn kpA ?_
    | refine Br.eq0 (fun _ => ?_) (fun _ => ?_) | refine Br.neq0 (fun _ => ?_) (fun _ => ?_) | refine Br.eq (fun _ => ?_) (fun _ => ?_) | refine Br.neq (fun _ => ?_) (fun _ => ?_) | refine Br.not (fun _ => ?_) (fun _ => ?_) | refine Br.dec (fun _ => ?_) (fun _ => ?_) | refine Br.bool (fun _ => ?_) (fun _ => ?_)
    | ((with_reducible apply TL.alloc_ag); (· rfl); intro _) | ((with_reducible apply TL.alloc_sc); (· rfl); (· rfl); intro _) | ((with_reducible apply TL.box_ag); (· rfl); (· rfl); intro _) | ((with_reducible apply TL.box_sc); (· rfl); (· rfl); (· rfl); intro _))
      refine TQ.round ⟨i + 1, .pointer (some ⟨b, 0, none⟩), wv, acc ++ [sg] ++ quo nm ++ [58] ++ prJ x, 44⟩ ?_ ?_ rfl subA selF
      · exact ⟨by dsimp only; omega, .inr rfl, HQ.out, rfl⟩
      · show xs.length - (i + 1) < xs.length - i
        omega
    · obtain rfl : i = xs.length := by omega
      rw [List.take_length] at hacc hal
      have he : decide (sg = 123) = xs.isEmpty := by rw [hsg, sep_end _ _ (by decide)]; cases xs <;> rfl
      obtain rfl : R = acc ++ endL xs.isEmpty 123 125 := by rw [HR.out, hacc]; simp
      have W := fun L => jwend_does xs.isEmpty hp1 v1 acc sg 123 125 he g L (by omega)
      unfold WrR at W
      unfold BwL at *
      clear hMs hSl IH hk hacc hsg hp hp1 HR he
      repeat' (first
    | refine wkQ ?_
    | refine wkV ?_
    | (refine TL.call (Enters.plain (by kernel_rfl) (by rfl)) (by rfl) (Does.perm (W _) permF) ?_; (rintro e gu Lu _ ⟨wv, k1, k2, k3⟩; have k2 := k2.symm; subst k1; subst k2; subst k3; refine CallK.ret ?_))
    | refine stS ?_ | (refine stB ?_; intro _) | (refine stC ?_; refine And.intro (fun _ => ?_) (fun _ => ?_)))
      refine TQ.end_normal ?_
      refine TQ.endR0 (L' := (BwO b (.pointer (some ⟨b, 0, none⟩)) wv :: .row 5 1 wv ((acc ++ endL xs.isEmpty 123 125)).length (byteVals ((acc ++ endL xs.isEmpty 123 125))) :: L)) Tryz.results75 rfl (.refl _) ?_ selF
      exact ⟨_, rfl, rfl, rfl⟩
end Go.Proofs.YthngolfabfijpaaGreatDoor
