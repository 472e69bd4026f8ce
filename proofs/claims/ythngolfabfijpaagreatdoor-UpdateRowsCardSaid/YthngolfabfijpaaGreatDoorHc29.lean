/-
  The walk of update's push. The walk of bits.Div64 at the divisor 10000000: the divisor, shifted, has a lower half of 0, so both corrections end at once.
-/
import Derived.Test.YthngolfabfijpaaGreatDoorHc2
import Derived.Test.YthngolfabfijpaaGreatDoorHc28
import Derived.Test.YthngolfabfijpaaGreatDoorHc0
import Derived.Test.YthngolfabfijpaaGreatDoorHc3
import Derived.Test.YthngolfabfijpaaGreatDoorHc6
namespace Go.TL
open Go Go.RowKit Go.Proofs.YthngolfabfijpaaGreatDoor
section
variable {P : Program} {ops : Array Oper} {Q : Exit → Act → World → Prop} {l : List Oper} {n : Nat} {ds : List Deferred} {S : Slots} {g : Gh} {L L' M : List Ent} {js : List J} {flat : List Value}
theorem TL.freeze_trees (hm : Pick (Go.TL.grp M) L L') (ht : TrJs js flat M) (kk : ∀ g', g.le g' → IsJs g' js flat → TL P ops Q l n ds S g' L') : TL P ops Q l n ds S g L := .mk fun a w hf hs => by
  obtain ⟨g', hg, hj, hs'⟩ := TrJs.fr js flat M ht (hs.perm hm.perm).ungrp
  exact (kk g' hg hj).h a w hf hs'
end
end Go.TL
namespace Go.Proofs.YthngolfabfijpaaGreatDoor
open Go.RowKit Go.TL
set_option maxRecDepth 100000
theorem IsJs.snocP {g : Gh} : ∀ {l : List J} {fl : List Value} {y : J} {u : Value}, IsJs g l fl → IsJ g y u → IsJs g (l ++ [y]) (fl ++ [u])
  | [], fl, y, u, h, hy => by rw [IsJs] at h; subst h; rw [List.nil_append, List.nil_append, IsJs]; exact ⟨u, [], rfl, hy, by rw [IsJs]⟩
  | x :: r, fl, y, u, h, hy => by
    rw [IsJs] at h
    obtain ⟨v, f2, rfl, h1, h2⟩ := h
    rw [List.cons_append, List.cons_append, IsJs]
    exact ⟨v, _, rfl, h1, h2.snocP hy⟩
set_option maxHeartbeats 32000000 in
theorem upush_does (m b : Nat) (p : List UInt8) (x y : J) (v u : Value) (g : Gh) (L : List Ent) (K : AtOk m p x v g) (hy : IsJ g y u) (zy : szJ m y) (_hm : m ≤ 8000) : Does Tryz.prog 64 #[.pointer (some ⟨b, 0, none⟩), str p, u] g (Wk b v :: L) (WorkR b (pushU x p y) L) := by
  refine Does.of3 Tryz.func64 rfl Tryz.ntmps64 rfl ?_
  have ov := K.hx.one
  have ou := hy.one
  have YE := fun g L => uwants_yes (b := true) rfl 14 g L
  unfold pushU
  cases hg : getP p x with
  | none =>
    have G := fun L => get_does p x v g L K.pl K.hx K.sm K.he K.ht K.hu
    unfold GetR at G
    rw [hg] at G
    dsimp only at G ⊢
    have PU := fun g1 (h : g.le g1) (u1 : Value) (j1 : IsJ g1 (.list [y]) u1) L => uput_does (m + 1) b p x (.list [y]) v u1 g1 L (⟨by have := K.ml; omega, by omega, K.pl, K.hx.le h _ _, j1, sz_up x m _ K.iv.sz (by omega), (by rw [szJ, szJs, szJs]; exact ⟨by simp, sz_up y m _ zy (by omega), trivial⟩), K.he.le h, K.ht.le h, K.hu.le h⟩)
    have MK := fun g1 (h : g.le g1) (a : Option Addr) (c : Nat) (s : Sl g1 (.slice a (0 + 1) c) (0 + 1) 1 ([] ++ [u])) => (show IsJ g1 (.list [y]) (.iface 54 (.slice a (0 + 1) c)) by
      rw [IsJ]
      refine ⟨_, [u], rfl, s, ?_⟩
      rw [IsJs]
      exact ⟨u, [], rfl, hy.le h _ _, by rw [IsJs]⟩)
    obtain ⟨e0, o0, ho⟩ : ∃ e0 o0, putE x p (.list [y]) = (e0, o0) := ⟨_, _, rfl⟩
    rw [ho] at PU ⊢
    unfold WorkR at PU ⊢
    clear K hy zy
    cases o0 with
    | none =>
      dsimp only at PU ⊢
      repeat' (first
    | refine wkQ ?_
    | refine wkV ?_
    | (refine TL.build_empty (by rfl) (fun bb => ?_); refine TL.obj_row (e := 20) (b := bb) (k := 0) (sz := 1) .here rfl (by decide) ?_)
    | (refine TL.call (Enters.plain (by kernel_rfl) (by rfl)) (by rfl) (G _) ?_; (rintro e g1 Ln h1 ⟨v1, b1, k1, k2, o1, r1⟩; have k2 := k2.symm; subst k1; subst k2; (obtain ⟨rfl, rfl⟩ := r1); refine CallK.ret ?_))
    | ((with_reducible apply TL.build_slice); (· rfl); (· rfl); (· exact oneA); (· rfl); (· rfl); (· rfl); intro _) | refine TL.build_one (by rfl) (by first | rfl | assumption) (by rfl) (by rfl) (by rfl) (by rfl) (fun _ => ?_) | refine TL.build_empty (by rfl) (fun _ => ?_)
    | ((with_reducible apply TL.append (e := 20)); (· rfl); (· rfl); (· rfl); (· rfl); (· exact pkA); (· exact Src.obj pkA); (· rfl); (· first | rfl | exact oneA); (· exact ⟨by unfold maxLen; omega, by omega⟩); (· rfl); intro vf; refine Go.TL.TL.row_slice (v := vf) pkA ?_; rintro a3 c3 rfl _; refine Go.TL.TL.freeze (v := .slice a3 (0 + 1) c3) pkA ?_; intro g3 h3 s3; (have J3 := MK g3 (h1.trans h3) a3 c3 s3))
    | (refine TL.call (Enters.plain (by kernel_rfl) (by rfl)) (by rfl) (Does.perm (PU g3 (h1.trans h3) _ J3 _) permU) ?_; (rintro e g4 Ln h4 ⟨k1, k2⟩; have k2 := k2.symm; subst k1; subst k2; skip; refine CallK.panic ?_))
    | refine stS ?_ | (refine stB ?_; intro _) | (refine stC ?_; refine And.intro (fun _ => ?_) (fun _ => ?_)))
      refine TQ.end_panic (L' := L) rfl ((h1.trans h3).trans h4) ?_ selF
      exact ⟨rfl, rfl⟩
    | some z =>
      dsimp only at PU ⊢
      repeat' (first
    | refine wkQ ?_
    | refine wkV ?_
    | (refine TL.build_empty (by rfl) (fun bb => ?_); refine TL.obj_row (e := 20) (b := bb) (k := 0) (sz := 1) .here rfl (by decide) ?_)
    | (refine TL.call (Enters.plain (by kernel_rfl) (by rfl)) (by rfl) (G _) ?_; (rintro e g1 Ln h1 ⟨v1, b1, k1, k2, o1, r1⟩; have k2 := k2.symm; subst k1; subst k2; (obtain ⟨rfl, rfl⟩ := r1); refine CallK.ret ?_))
    | ((with_reducible apply TL.build_slice); (· rfl); (· rfl); (· exact oneA); (· rfl); (· rfl); (· rfl); intro _) | refine TL.build_one (by rfl) (by first | rfl | assumption) (by rfl) (by rfl) (by rfl) (by rfl) (fun _ => ?_) | refine TL.build_empty (by rfl) (fun _ => ?_)
    | ((with_reducible apply TL.append (e := 20)); (· rfl); (· rfl); (· rfl); (· rfl); (· exact pkA); (· exact Src.obj pkA); (· rfl); (· first | rfl | exact oneA); (· exact ⟨by unfold maxLen; omega, by omega⟩); (· rfl); intro vf; refine Go.TL.TL.row_slice (v := vf) pkA ?_; rintro a3 c3 rfl _; refine Go.TL.TL.freeze (v := .slice a3 (0 + 1) c3) pkA ?_; intro g3 h3 s3; (have J3 := MK g3 (h1.trans h3) a3 c3 s3))
    | (refine TL.call (Enters.plain (by kernel_rfl) (by rfl)) (by rfl) (Does.perm (PU g3 (h1.trans h3) _ J3 _) permU) ?_; (rintro e g4 Ln h4 ⟨v4, k1, k2, o4, j4⟩; subst k1; subst k2; skip; refine CallK.ret ?_))
    | refine stS ?_ | (refine stB ?_; intro _) | (refine stC ?_; refine And.intro (fun _ => ?_) (fun _ => ?_)))
      try refine TQ.end_normal ?_
      refine TQ.endR0 (L' := (Wk b v4 :: L)) Tryz.results64 rfl ((h1.trans h3).trans h4) ?_ selF
      exact ⟨v4, rfl, rfl, o4, j4⟩
  | some w =>
    cases w with
    | list xs =>
      have G := fun L => get_tree p x (.list xs) v g L K.pl K.hx K.sm K.he K.ht K.hu hg
      unfold GetT at G
      dsimp only
      obtain ⟨_, _, zw⟩ := getP_inv K.iv hg
      rw [szJ] at zw
      have hxl : xs.length ≤ 9000 := by omega
      have PU := fun g1 (h : g.le g1) (u1 : Value) (j1 : IsJ g1 (.list (xs ++ [y])) u1) L => uput_does (m + 1) b p x (.list (xs ++ [y])) v u1 g1 L (⟨by have := K.ml; omega, by omega, K.pl, K.hx.le h _ _, j1, sz_up x m _ K.iv.sz (by omega), (by rw [szJ]; exact ⟨by rw [List.length_append, List.length_singleton]; omega, szJs_snoc (szs_up xs m _ zw.2 (by omega)) (sz_up y m _ zy (by omega))⟩), K.he.le h, K.ht.le h, K.hu.le h⟩)
      have MK := fun g1 (h : g.le g1) (a : Option Addr) (c : Nat) (flat : List Value) (jj : IsJs g1 xs flat) (s : Sl g1 (.slice a (xs.length + 1) c) (xs.length + 1) 1 (flat ++ [u])) => (show IsJ g1 (.list (xs ++ [y])) (.iface 54 (.slice a (xs.length + 1) c)) by
        rw [IsJ]
        refine ⟨_, flat ++ [u], rfl, ?_, jj.snocP (hy.le h _ _)⟩
        rw [List.length_append, List.length_singleton]
        exact s)
      obtain ⟨e0, o0, ho⟩ : ∃ e0 o0, putE x p (.list (xs ++ [y])) = (e0, o0) := ⟨_, _, rfl⟩
      rw [ho] at PU ⊢
      unfold WorkR at PU ⊢
      clear K hy zy zw
      cases o0 with
      | none =>
        dsimp only at PU ⊢
        repeat' (first
    | refine wkQ ?_
    | refine wkV ?_
    | (refine TL.build_empty (by rfl) (fun bb => ?_); refine TL.obj_row (e := 20) (b := bb) (k := 0) (sz := 1) .here rfl (by decide) ?_)
    | (refine TL.call (Enters.plain (by kernel_rfl) (by rfl)) (by rfl) (G _) ?_; (rintro e g1 Ln h1 ⟨v1, M1, k1, k2, t1⟩; subst k1; subst k2; rw [TrJ] at t1; obtain ⟨a1, c1, flat, Ms, rfl, rfl, ht⟩ := t1; refine CallK.ret ?_; refine Go.TL.TL.guncons pkA ?_; refine Go.TL.TL.freeze_trees pkA ht ?_; intro g2 h2 jj))
    | ((with_reducible apply TL.gives_plain); (· kernel_rfl); (· rfl); (· exact YE g2 _); (· rfl)) | ((with_reducible apply TW.gives_plain); (· kernel_rfl); (· rfl); (· exact YE g2 _); (· rfl))
    | ((with_reducible apply TL.build_slice); (· rfl); (· rfl); (· exact oneA); (· rfl); (· rfl); (· rfl); intro _) | refine TL.build_one (by rfl) (by first | rfl | assumption) (by rfl) (by rfl) (by rfl) (by rfl) (fun _ => ?_) | refine TL.build_empty (by rfl) (fun _ => ?_)
    | ((with_reducible apply TL.append (e := 20)); (· rfl); (· rfl); (· rfl); (· rfl); (· exact pkA); (· exact Src.obj pkA); (· rfl); (· first | rfl | exact oneA); (· exact ⟨by unfold maxLen; omega, by omega⟩); (· rfl); intro vf; refine Go.TL.TL.row_slice (v := vf) pkA ?_; rintro a3 c3 rfl _; refine Go.TL.TL.freeze (v := .slice a3 (xs.length + 1) c3) pkA ?_; intro g3 h3 s3; (have h03 := (h1.trans h2).trans h3; have J3 := MK g3 h03 a3 c3 flat (IsJs.le h3 _ _ jj) s3))
    | (refine TL.call (Enters.plain (by kernel_rfl) (by rfl)) (by rfl) (Does.perm (PU g3 h03 _ J3 _) permU) ?_; (rintro e g4 Ln h4 ⟨k1, k2⟩; have k2 := k2.symm; subst k1; subst k2; skip; refine CallK.panic ?_))
    | refine stS ?_ | (refine stB ?_; intro _) | (refine stC ?_; refine And.intro (fun _ => ?_) (fun _ => ?_)))
        refine TQ.end_panic (L' := L) rfl (h03.trans h4) ?_ selF
        exact ⟨rfl, rfl⟩
      | some z =>
        dsimp only at PU ⊢
        repeat' (first
    | refine wkQ ?_
    | refine wkV ?_
    | (refine TL.build_empty (by rfl) (fun bb => ?_); refine TL.obj_row (e := 20) (b := bb) (k := 0) (sz := 1) .here rfl (by decide) ?_)
    | (refine TL.call (Enters.plain (by kernel_rfl) (by rfl)) (by rfl) (G _) ?_; (rintro e g1 Ln h1 ⟨v1, M1, k1, k2, t1⟩; subst k1; subst k2; rw [TrJ] at t1; obtain ⟨a1, c1, flat, Ms, rfl, rfl, ht⟩ := t1; refine CallK.ret ?_; refine Go.TL.TL.guncons pkA ?_; refine Go.TL.TL.freeze_trees pkA ht ?_; intro g2 h2 jj))
    | ((with_reducible apply TL.gives_plain); (· kernel_rfl); (· rfl); (· exact YE g2 _); (· rfl)) | ((with_reducible apply TW.gives_plain); (· kernel_rfl); (· rfl); (· exact YE g2 _); (· rfl))
    | ((with_reducible apply TL.build_slice); (· rfl); (· rfl); (· exact oneA); (· rfl); (· rfl); (· rfl); intro _) | refine TL.build_one (by rfl) (by first | rfl | assumption) (by rfl) (by rfl) (by rfl) (by rfl) (fun _ => ?_) | refine TL.build_empty (by rfl) (fun _ => ?_)
    | ((with_reducible apply TL.append (e := 20)); (· rfl); (· rfl); (· rfl); (· rfl); (· exact pkA); (· exact Src.obj pkA); (· rfl); (· first | rfl | exact oneA); (· exact ⟨by unfold maxLen; omega, by omega⟩); (· rfl); intro vf; refine Go.TL.TL.row_slice (v := vf) pkA ?_; rintro a3 c3 rfl _; refine Go.TL.TL.freeze (v := .slice a3 (xs.length + 1) c3) pkA ?_; intro g3 h3 s3; (have h03 := (h1.trans h2).trans h3; have J3 := MK g3 h03 a3 c3 flat (IsJs.le h3 _ _ jj) s3))
    | (refine TL.call (Enters.plain (by kernel_rfl) (by rfl)) (by rfl) (Does.perm (PU g3 h03 _ J3 _) permU) ?_; (rintro e g4 Ln h4 ⟨v4, k1, k2, o4, j4⟩; subst k1; subst k2; skip; refine CallK.ret ?_))
    | refine stS ?_ | (refine stB ?_; intro _) | (refine stC ?_; refine And.intro (fun _ => ?_) (fun _ => ?_)))
        try refine TQ.end_normal ?_
        refine TQ.endR0 (L' := (Wk b v4 :: L)) Tryz.results64 rfl (h03.trans h4) ?_ selF
        exact ⟨v4, rfl, rfl, o4, j4⟩
    | obj ns xs =>
      have G := fun L => get_does p x v g L K.pl K.hx K.sm K.he K.ht K.hu
      have NO := fun g L => uwants_no (b := false) rfl 14 (by decide) g L
      unfold GetR at G
      rw [hg] at G
      dsimp only at G ⊢
      unfold WorkR
      dsimp only
      simp only [IsJ] at G
      clear K hy zy
      repeat' (first
    | refine wkQ ?_
    | refine wkV ?_
    | (refine TL.build_empty (by rfl) (fun bb => ?_); refine TL.obj_row (e := 20) (b := bb) (k := 0) (sz := 1) .here rfl (by decide) ?_)
    | (refine TL.call (Enters.plain (by kernel_rfl) (by rfl)) (by rfl) (G _) ?_; (rintro e g1 Ln h1 ⟨v1, b1, k1, k2, o1, r1⟩; have k2 := k2.symm; subst k1; subst k2; (obtain ⟨rfl, sl, fl, rfl, hS, _⟩ := r1; obtain ⟨a, c, rfl⟩ := hS.slice); refine CallK.ret ?_))
    | refine TL.throws (Enters.plain (by kernel_rfl) (by rfl)) (NO g1 _) (by rfl) ?_
    | refine stS ?_ | (refine stB ?_; intro _) | (refine stC ?_; refine And.intro (fun _ => ?_) (fun _ => ?_)))
      refine TQ.end_panic (L' := L) rfl (h1) ?_ selF
      exact ⟨rfl, rfl⟩
    | num n =>
      have G := fun L => get_does p x v g L K.pl K.hx K.sm K.he K.ht K.hu
      have NO := fun g L => uwants_no (b := false) rfl 14 (by decide) g L
      unfold GetR at G
      rw [hg] at G
      dsimp only at G ⊢
      unfold WorkR
      dsimp only
      simp only [IsJ] at G
      clear K hy zy
      repeat' (first
    | refine wkQ ?_
    | refine wkV ?_
    | (refine TL.build_empty (by rfl) (fun bb => ?_); refine TL.obj_row (e := 20) (b := bb) (k := 0) (sz := 1) .here rfl (by decide) ?_)
    | (refine TL.call (Enters.plain (by kernel_rfl) (by rfl)) (by rfl) (G _) ?_; (rintro e g1 Ln h1 ⟨v1, b1, k1, k2, o1, r1⟩; have k2 := k2.symm; subst k1; subst k2; (obtain ⟨rfl, rfl, _⟩ := r1); refine CallK.ret ?_))
    | refine TL.throws (Enters.plain (by kernel_rfl) (by rfl)) (NO g1 _) (by rfl) ?_
    | refine stS ?_ | (refine stB ?_; intro _) | (refine stC ?_; refine And.intro (fun _ => ?_) (fun _ => ?_)))
      refine TQ.end_panic (L' := L) rfl (h1) ?_ selF
      exact ⟨rfl, rfl⟩
    | _ =>
      have G := fun L => get_does p x v g L K.pl K.hx K.sm K.he K.ht K.hu
      have NO := fun g L => uwants_no (b := false) rfl 14 (by decide) g L
      unfold GetR at G
      rw [hg] at G
      dsimp only at G ⊢
      unfold WorkR
      dsimp only
      simp only [IsJ] at G
      clear K hy zy
      repeat' (first
    | refine wkQ ?_
    | refine wkV ?_
    | (refine TL.build_empty (by rfl) (fun bb => ?_); refine TL.obj_row (e := 20) (b := bb) (k := 0) (sz := 1) .here rfl (by decide) ?_)
    | (refine TL.call (Enters.plain (by kernel_rfl) (by rfl)) (by rfl) (G _) ?_; (rintro e g1 Ln h1 ⟨v1, b1, k1, k2, o1, r1⟩; have k2 := k2.symm; subst k1; subst k2; (obtain ⟨rfl, rfl⟩ := r1); refine CallK.ret ?_))
    | refine TL.throws (Enters.plain (by kernel_rfl) (by rfl)) (NO g1 _) (by rfl) ?_
    | refine stS ?_ | (refine stB ?_; intro _) | (refine stC ?_; refine And.intro (fun _ => ?_) (fun _ => ?_)))
      refine TQ.end_panic (L' := L) rfl (h1) ?_ selF
      exact ⟨rfl, rfl⟩
end Go.Proofs.YthngolfabfijpaaGreatDoor
namespace Go.Proofs.YthngolfabfijpaaGreatDoor
open Go.RowKit Go.TL
set_option maxRecDepth 100000

theorem wrap3 (a b c : Int) : IntKind.u64.wrap (IntKind.u64.wrap (IntKind.u64.wrap a + b) - IntKind.u64.wrap c) = IntKind.u64.wrap (a + b - c) := by
  have w : ∀ n, IntKind.u64.wrap n = n % 18446744073709551616 := fun n => by simp [IntKind.wrap, IntKind.bits, IntKind.signed]
  rw [w, w, w, w, w, Int.emod_add_emod, ← Int.sub_emod]
theorem W39 : IntKind.u64.wrap (10000000 * 2 ^ 40) = 10995116277760000000 := by rw [IntWalk.u64_in _ (by omega)]; omega
theorem W41 : (10995116277760000000 : Int).fdiv (2 ^ 32) = 2560000000 := by decide
theorem W43 : IntKind.u64.wrap ((10995116277760000000 &&& 4294967295 : Nat) : Int) = 0 := by decide
theorem W49 : IntKind.u64.wrap (64 - 40) = 24 := by decide
structure DivH (h lo U l0 q1 r1 V q0 r0 : Nat) : Prop where
  hU : U = h * 1099511627776 + lo / 16777216
  hl : l0 = lo % 16777216
  hq1 : q1 = U / 2560000000
  hr1 : r1 = U % 2560000000
  hV : V = r1 * 4294967296 + l0 * 256
  hq0 : q0 = V / 2560000000
  hr0 : r0 = V % 2560000000
theorem DivH.out {h lo U l0 q1 r1 V q0 r0 : Nat} (d : DivH h lo U l0 q1 r1 V q0 r0) (_hh : h < 10000000) (_hlo : lo < 18446744073709551616) :
    q1 < 4294967296 ∧ q0 < 4294967296 ∧ q1 * 4294967296 + q0 = (h * 18446744073709551616 + lo) / 10000000 ∧ r0 / 256 = (h * 18446744073709551616 + lo) % 10000000 := by
  obtain ⟨hU, hl, hq1, hr1, hV, hq0, hr0⟩ := d
  have e1 : U = 2560000000 * q1 + r1 := by omega
  have e2 : V = 2560000000 * q0 + r0 := by omega
  have e3 : r1 < 2560000000 := by omega
  have e4 : r0 < 2560000000 := by omega
  have e5 : l0 < 16777216 := by omega
  have e6 : lo = (lo / 16777216) * 16777216 + l0 := by omega
  refine ⟨by omega, by omega, ?_, ?_⟩
  · omega
  · omega
set_option maxHeartbeats 4000000 in
theorem div64_gives (h lo : Nat) (g : Gh) (L : List Ent) (hh : h < 10000000) (hlo : lo < 18446744073709551616) :
    Gives Tryz.prog 136 #[.int .u64 h, .int .u64 lo, .int .u64 10000000] g L (.tuple #[.int .u64 (((h * 18446744073709551616 + lo) / 10000000 : Nat) : Int), .int .u64 (((h * 18446744073709551616 + lo) % 10000000 : Nat) : Int)]) := by
  have A1 : Gives Tryz.prog 160 #[.int .u64 10000000] g L (.int .i64 40) := .same fun w => by
    have h := Tryz.bits_LeadingZeros64 10000000 w (by omega) (by omega)
    rwa [show (64 : Int) - (Lib.bitLen (Int.toNat 10000000) : Int) = 40 by decide +kernel] at h
  by_cases h0 : h = 0
  · subst h0
    refine .of (Does.of3 Tryz.func136 rfl Tryz.ntmps136 rfl ?_)
    repeat' (first
    | refine wkP ?_
    | ((with_reducible apply TL.byteK); (· rfl); (· rfl); (· exact natA); (· assumption); (· rfl); intro _) | ((with_reducible apply TL.byte); (· rfl); (· rfl); (· exact natA); (· exact omA); (· rfl); intro _ _ _)
    | refine stS ?_ | (refine stB ?_; intro _) | (refine stC ?_; refine And.intro (fun _ => ?_) (fun _ => ?_))
    | apply TC.region_draw (by kernel_rfl) (by kernel_rfl) | refine TW.nil ?_ | ((with_reducible apply TW.pure); (· exact yA); (· rfl))
    | ((with_reducible apply TL.range_str); (· rfl); (· rfl); intro _) | ((with_reducible apply TL.next_str); (· rfl); (· exact pkA); (· rfl); all_goals intro _)
    | ((with_reducible apply TW.byteK); (· rfl); (· rfl); (· exact natA); (· assumption); (· rfl); intro _) | ((with_reducible apply TW.byte); (· rfl); (· rfl); (· exact natA); (· exact omA); (· rfl); intro _ _ _)
    | refine TW.guard_yes rfl rfl ?_ | refine TW.guard_no rfl rfl rfl rfl ?_ | refine TW.guard_undef rfl rfl rfl ?_ | refine TW.guard rfl rfl rfl ?_)
    refine TQ.endR2 (L' := L) Tryz.results136 rvA rvA rfl (.refl _) ?_ selA
    refine ⟨?_, rfl, rfl⟩
    simp only [Nat.zero_mul, Nat.zero_add]
    rfl
  obtain ⟨U, hU⟩ : ∃ U, U = h * 1099511627776 + lo / 16777216 := ⟨_, rfl⟩
  obtain ⟨l0, hl⟩ : ∃ l0, l0 = lo % 16777216 := ⟨_, rfl⟩
  obtain ⟨q1, hq1⟩ : ∃ q1, q1 = U / 2560000000 := ⟨_, rfl⟩
  obtain ⟨r1, hr1⟩ : ∃ r1, r1 = U % 2560000000 := ⟨_, rfl⟩
  obtain ⟨V, hV⟩ : ∃ V, V = r1 * 4294967296 + l0 * 256 := ⟨_, rfl⟩
  obtain ⟨q0, hq0⟩ : ∃ q0, q0 = V / 2560000000 := ⟨_, rfl⟩
  obtain ⟨r0, hr0⟩ : ∃ r0, r0 = V % 2560000000 := ⟨_, rfl⟩
  obtain ⟨k1, k0, kq, kr⟩ := DivH.out ⟨hU, hl, hq1, hr1, hV, hq0, hr0⟩ hh hlo
  rw [← kq, ← kr]
  have e1 : U = 2560000000 * q1 + r1 := by omega
  have e2 : V = 2560000000 * q0 + r0 := by omega
  have e3 : r1 < 2560000000 := by omega
  have e4 : r0 < 2560000000 := by omega
  have e5 : l0 < 16777216 := by omega
  have b1 : Hn (h * 1099511627776 < 18446744073709551616) := ⟨by omega⟩
  have b2 : Hn (lo / 16777216 < 18446744073709551616) := ⟨by omega⟩
  have b3 : Hn (l0 * 1099511627776 < 18446744073709551616) := ⟨by omega⟩
  have Z46 : IntKind.u64.wrap ((h : Int) * 2 ^ 40) = ((h * 1099511627776 : Nat) : Int) := by rw [IntWalk.u64_in _ (by omega)]; omega
  have H50 : Hn ((lo : Int).fdiv (2 ^ 24) = ((lo / 16777216 : Nat) : Int)) := ⟨by rw [Int.fdiv_eq_ediv_of_nonneg _ (by decide)]; omega⟩
  have Z51 : IntKind.u64.wrap (((h * 1099511627776) ||| (lo / 16777216) : Nat) : Int) = (U : Nat) := by
    have : (h * 1099511627776) ||| (lo / 16777216) = U := by
      rw [hU, show h * 1099511627776 = h <<< 40 by rw [Nat.shiftLeft_eq], ← Nat.shiftLeft_add_eq_or_of_lt (by omega)]
    rw [this, IntWalk.u64_in _ (by omega)]
  have Z54 : IntKind.u64.wrap ((lo : Int) * 2 ^ 40) = ((l0 * 1099511627776 : Nat) : Int) := by
    simp [IntKind.wrap, IntKind.bits, IntKind.signed]; omega
  have Z56 : ((l0 * 1099511627776 : Nat) : Int).fdiv (2 ^ 32) = ((l0 * 256 : Nat) : Int) := by
    rw [Int.fdiv_eq_ediv_of_nonneg _ (by decide)]; omega
  have Z58 : IntKind.u64.wrap (((l0 * 1099511627776) &&& 4294967295 : Nat) : Int) = 0 := by
    rw [show (4294967295 : Nat) = 2 ^ 32 - 1 by decide, Nat.and_two_pow_sub_one_eq_mod, show l0 * 1099511627776 % 2 ^ 32 = 0 by omega]; rfl
  have Z61 : IntKind.u64.wrap ((U : Int).tdiv 2560000000) = (q1 : Nat) := by
    rw [Int.tdiv_eq_ediv_of_nonneg (by omega), IntWalk.u64_in _ (by omega)]; omega
  have Z66 : IntKind.u64.wrap ((U : Int) - (q1 : Int) * 2560000000) = (r1 : Nat) := by rw [IntWalk.u64_in _ (by omega)]; omega
  have Z93 : IntKind.u64.wrap (IntKind.u64.wrap (IntKind.u64.wrap ((U : Int) * 4294967296) + ((l0 * 256 : Nat) : Int)) - IntKind.u64.wrap ((q1 : Int) * 10995116277760000000)) = (V : Nat) := by
    rw [wrap3, IntWalk.u64_in _ (by omega)]; omega
  have Z96 : IntKind.u64.wrap ((V : Int).tdiv 2560000000) = (q0 : Nat) := by
    rw [Int.tdiv_eq_ediv_of_nonneg (by omega), IntWalk.u64_in _ (by omega)]; omega
  have Z101 : IntKind.u64.wrap ((V : Int) - (q0 : Int) * 2560000000) = (r0 : Nat) := by rw [IntWalk.u64_in _ (by omega)]; omega
  have Z132 : IntKind.u64.wrap (IntKind.u64.wrap (IntKind.u64.wrap ((V : Int) * 4294967296) + 0) - IntKind.u64.wrap ((q0 : Int) * 10995116277760000000)) = ((r0 * 4294967296 : Nat) : Int) := by
    rw [wrap3, IntWalk.u64_in _ (by omega)]; omega
  have Z134 : ((r0 * 4294967296 : Nat) : Int).fdiv (2 ^ 40) = ((r0 / 256 : Nat) : Int) := by
    rw [Int.fdiv_eq_ediv_of_nonneg _ (by decide)]; omega
  have H46 : Hn _ := ⟨Z46⟩
  have H51 : Hn _ := ⟨Z51⟩
  have H54 : Hn _ := ⟨Z54⟩
  have H56 : Hn _ := ⟨Z56⟩
  have H58 : Hn _ := ⟨Z58⟩
  have H61 : Hn _ := ⟨Z61⟩
  have H66 : Hn _ := ⟨Z66⟩
  have H93 : Hn _ := ⟨Z93⟩
  have H96 : Hn _ := ⟨Z96⟩
  have H101 : Hn _ := ⟨Z101⟩
  have H132 : Hn _ := ⟨Z132⟩
  have H134 : Hn _ := ⟨Z134⟩
  clear Z46 Z51 Z54 Z56 Z58 Z61 Z66 Z93 Z96 Z101 Z132 Z134
  clear hU hl hq1 hr1 hV hq0 hr0 kq kr e1 e2
  refine .of (Does.of3 Tryz.func136 rfl Tryz.ntmps136 rfl ?_)
  repeat' (first
    | ((with_reducible apply TL.pure (d := 39) (v := .int .u64 10995116277760000000)); (· exact Y.shl rfl rfl isNat (by decide) W39); (· rfl)) | ((with_reducible apply TW.pure (d := 39) (v := .int .u64 10995116277760000000)); (· exact Y.shl rfl rfl isNat (by decide) W39); (· rfl))
    | ((with_reducible apply TL.pure (d := 41) (v := .int .u64 2560000000)); (· exact Y.shr rfl rfl isNat (by decide) W41); (· rfl)) | ((with_reducible apply TW.pure (d := 41) (v := .int .u64 2560000000)); (· exact Y.shr rfl rfl isNat (by decide) W41); (· rfl))
    | ((with_reducible apply TL.pure (d := 43) (v := .int .u64 0)); (· exact Y.and (a := 10995116277760000000) (b := 4294967295) rfl rfl rfl rfl (by decide) (by decide) W43); (· rfl)) | ((with_reducible apply TW.pure (d := 43) (v := .int .u64 0)); (· exact Y.and (a := 10995116277760000000) (b := 4294967295) rfl rfl rfl rfl (by decide) (by decide) W43); (· rfl))
    | ((with_reducible apply TL.pure (d := 46) (v := .int .u64 ((h * 1099511627776 : Nat) : Int))); (· exact Y.shl rfl rfl isNat (by decide) H46.out); (· rfl)) | ((with_reducible apply TW.pure (d := 46) (v := .int .u64 ((h * 1099511627776 : Nat) : Int))); (· exact Y.shl rfl rfl isNat (by decide) H46.out); (· rfl))
    | ((with_reducible apply TL.pure (d := 49) (v := .int .u64 24)); (· exact Y.sub rfl rfl W49); (· rfl)) | ((with_reducible apply TW.pure (d := 49) (v := .int .u64 24)); (· exact Y.sub rfl rfl W49); (· rfl))
    | ((with_reducible apply TL.pure (d := 50) (v := .int .u64 ((lo / 16777216 : Nat) : Int))); (· exact Y.shr rfl rfl isNat (by decide) H50.out); (· rfl)) | ((with_reducible apply TW.pure (d := 50) (v := .int .u64 ((lo / 16777216 : Nat) : Int))); (· exact Y.shr rfl rfl isNat (by decide) H50.out); (· rfl))
    | ((with_reducible apply TL.pure (d := 51) (v := .int .u64 (U : Nat))); (· exact Y.or rfl rfl isNat isNat b1.out b2.out H51.out); (· rfl)) | ((with_reducible apply TW.pure (d := 51) (v := .int .u64 (U : Nat))); (· exact Y.or rfl rfl isNat isNat b1.out b2.out H51.out); (· rfl))
    | ((with_reducible apply TL.pure (d := 54) (v := .int .u64 ((l0 * 1099511627776 : Nat) : Int))); (· exact Y.shl rfl rfl isNat (by decide) H54.out); (· rfl)) | ((with_reducible apply TW.pure (d := 54) (v := .int .u64 ((l0 * 1099511627776 : Nat) : Int))); (· exact Y.shl rfl rfl isNat (by decide) H54.out); (· rfl))
    | ((with_reducible apply TL.pure (d := 56) (v := .int .u64 ((l0 * 256 : Nat) : Int))); (· exact Y.shr rfl rfl isNat (by decide) H56.out); (· rfl)) | ((with_reducible apply TW.pure (d := 56) (v := .int .u64 ((l0 * 256 : Nat) : Int))); (· exact Y.shr rfl rfl isNat (by decide) H56.out); (· rfl))
    | ((with_reducible apply TL.pure (d := 58) (v := .int .u64 0)); (· exact Y.and (a := l0 * 1099511627776) (b := 4294967295) rfl rfl rfl rfl b3.out (by decide) H58.out); (· rfl)) | ((with_reducible apply TW.pure (d := 58) (v := .int .u64 0)); (· exact Y.and (a := l0 * 1099511627776) (b := 4294967295) rfl rfl rfl rfl b3.out (by decide) H58.out); (· rfl))
    | ((with_reducible apply TL.pure (d := 61) (v := .int .u64 (q1 : Nat))); (· exact Y.quo rfl rfl (by decide) H61.out); (· rfl)) | ((with_reducible apply TW.pure (d := 61) (v := .int .u64 (q1 : Nat))); (· exact Y.quo rfl rfl (by decide) H61.out); (· rfl))
    | ((with_reducible apply TL.pure (d := 66) (v := .int .u64 (r1 : Nat))); (· exact Y.sub rfl rfl H66.out); (· rfl)) | ((with_reducible apply TW.pure (d := 66) (v := .int .u64 (r1 : Nat))); (· exact Y.sub rfl rfl H66.out); (· rfl))
    | ((with_reducible apply TL.gives_plain); (· kernel_rfl); (· rfl); (· exact A1); (· rfl)) | ((with_reducible apply TW.gives_plain); (· kernel_rfl); (· rfl); (· exact A1); (· rfl))
    | refine wkP ?_
    | ((with_reducible apply TL.byteK); (· rfl); (· rfl); (· exact natA); (· assumption); (· rfl); intro _) | ((with_reducible apply TL.byte); (· rfl); (· rfl); (· exact natA); (· exact omA); (· rfl); intro _ _ _)
    | refine stS ?_ | (refine stB ?_; intro _) | (refine stC ?_; refine And.intro (fun _ => ?_) (fun _ => ?_))
    | apply TC.region_draw (by kernel_rfl) (by kernel_rfl) | refine TW.nil ?_ | ((with_reducible apply TW.pure); (· exact yA); (· rfl))
    | ((with_reducible apply TL.range_str); (· rfl); (· rfl); intro _) | ((with_reducible apply TL.next_str); (· rfl); (· exact pkA); (· rfl); all_goals intro _)
    | ((with_reducible apply TW.byteK); (· rfl); (· rfl); (· exact natA); (· assumption); (· rfl); intro _) | ((with_reducible apply TW.byte); (· rfl); (· rfl); (· exact natA); (· exact omA); (· rfl); intro _ _ _)
    | refine TW.guard_yes rfl rfl ?_ | refine TW.guard_no rfl rfl rfl rfl ?_ | refine TW.guard_undef rfl rfl rfl ?_ | refine TW.guard rfl rfl rfl ?_)
  refine TC.loopK (fun _ : Unit => True) (fun _ => 0) (fun _ S => S) [] (by repeat (first | apply Drop.nil | apply Drop.cons (by (repeat (first | apply Pick.here | apply Pick.there))))) (fun _ L => L) () trivial subA selA ?_
  intro _ _
  repeat' (first
    | ((with_reducible apply TL.pure (d := 93) (v := .int .u64 (V : Nat))); (· exact Y.sub rfl rfl H93.out); (· rfl)) | ((with_reducible apply TW.pure (d := 93) (v := .int .u64 (V : Nat))); (· exact Y.sub rfl rfl H93.out); (· rfl))
    | ((with_reducible apply TL.pure (d := 96) (v := .int .u64 (q0 : Nat))); (· exact Y.quo rfl rfl (by decide) H96.out); (· rfl)) | ((with_reducible apply TW.pure (d := 96) (v := .int .u64 (q0 : Nat))); (· exact Y.quo rfl rfl (by decide) H96.out); (· rfl))
    | ((with_reducible apply TL.pure (d := 101) (v := .int .u64 (r0 : Nat))); (· exact Y.sub rfl rfl H101.out); (· rfl)) | ((with_reducible apply TW.pure (d := 101) (v := .int .u64 (r0 : Nat))); (· exact Y.sub rfl rfl H101.out); (· rfl))
    | refine wkP ?_
    | ((with_reducible apply TL.byteK); (· rfl); (· rfl); (· exact natA); (· assumption); (· rfl); intro _) | ((with_reducible apply TL.byte); (· rfl); (· rfl); (· exact natA); (· exact omA); (· rfl); intro _ _ _)
    | refine stS ?_ | (refine stB ?_; intro _) | (refine stC ?_; refine And.intro (fun _ => ?_) (fun _ => ?_))
    | apply TC.region_draw (by kernel_rfl) (by kernel_rfl) | refine TW.nil ?_ | ((with_reducible apply TW.pure); (· exact yA); (· rfl))
    | ((with_reducible apply TL.range_str); (· rfl); (· rfl); intro _) | ((with_reducible apply TL.next_str); (· rfl); (· exact pkA); (· rfl); all_goals intro _)
    | ((with_reducible apply TW.byteK); (· rfl); (· rfl); (· exact natA); (· assumption); (· rfl); intro _) | ((with_reducible apply TW.byte); (· rfl); (· rfl); (· exact natA); (· exact omA); (· rfl); intro _ _ _)
    | refine TW.guard_yes rfl rfl ?_ | refine TW.guard_no rfl rfl rfl rfl ?_ | refine TW.guard_undef rfl rfl rfl ?_ | refine TW.guard rfl rfl rfl ?_)
  refine TC.loopK (fun _ : Unit => True) (fun _ => 0) (fun _ S => S) [] (by repeat (first | apply Drop.nil | apply Drop.cons (by (repeat (first | apply Pick.here | apply Pick.there))))) (fun _ L => L) () trivial subA selA ?_
  intro _ _
  repeat' (first
    | ((with_reducible apply TL.pure (d := 132) (v := .int .u64 ((r0 * 4294967296 : Nat) : Int))); (· exact Y.sub rfl rfl H132.out); (· rfl)) | ((with_reducible apply TW.pure (d := 132) (v := .int .u64 ((r0 * 4294967296 : Nat) : Int))); (· exact Y.sub rfl rfl H132.out); (· rfl))
    | ((with_reducible apply TL.pure (d := 134) (v := .int .u64 ((r0 / 256 : Nat) : Int))); (· exact Y.shr rfl rfl isNat (by decide) H134.out); (· rfl)) | ((with_reducible apply TW.pure (d := 134) (v := .int .u64 ((r0 / 256 : Nat) : Int))); (· exact Y.shr rfl rfl isNat (by decide) H134.out); (· rfl))
    | refine wkP ?_
    | ((with_reducible apply TL.byteK); (· rfl); (· rfl); (· exact natA); (· assumption); (· rfl); intro _) | ((with_reducible apply TL.byte); (· rfl); (· rfl); (· exact natA); (· exact omA); (· rfl); intro _ _ _)
    | refine stS ?_ | (refine stB ?_; intro _) | (refine stC ?_; refine And.intro (fun _ => ?_) (fun _ => ?_))
    | apply TC.region_draw (by kernel_rfl) (by kernel_rfl) | refine TW.nil ?_ | ((with_reducible apply TW.pure); (· exact yA); (· rfl))
    | ((with_reducible apply TL.range_str); (· rfl); (· rfl); intro _) | ((with_reducible apply TL.next_str); (· rfl); (· exact pkA); (· rfl); all_goals intro _)
    | ((with_reducible apply TW.byteK); (· rfl); (· rfl); (· exact natA); (· assumption); (· rfl); intro _) | ((with_reducible apply TW.byte); (· rfl); (· rfl); (· exact natA); (· exact omA); (· rfl); intro _ _ _)
    | refine TW.guard_yes rfl rfl ?_ | refine TW.guard_no rfl rfl rfl rfl ?_ | refine TW.guard_undef rfl rfl rfl ?_ | refine TW.guard rfl rfl rfl ?_)
  refine TQ.endR2 (L' := L) Tryz.results136 rvA rvA rfl (.refl _) ?_ selA
  exact ⟨rfl, rfl, rfl⟩
end Go.Proofs.YthngolfabfijpaaGreatDoor
