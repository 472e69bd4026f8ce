/-
  The walks of update's work: unset, number, bound, rename.
-/
import Derived.Test.YthngolfabfijpaaGreatDoorHc2
import Derived.Test.YthngolfabfijpaaGreatDoorHc26
import Derived.Test.YthngolfabfijpaaGreatDoorHc27
import Derived.Test.YthngolfabfijpaaGreatDoorHc14
namespace Go.Proofs.YthngolfabfijpaaGreatDoor
open Go.RowKit Go.TL
set_option maxRecDepth 100000

structure AtOk (m : Nat) (p : List UInt8) (x : J) (v : Value) (g : Gh) : Prop where
  ml : 128 ≤ m
  mu : m ≤ 9000
  ps : (stepsL p).isSome = true
  iv : UInv m x
  hx : IsJ g x v
  he : GErr g
  ht : GTabs g
  hu : GU8 g
theorem AtOk.pl {m : Nat} {p : List UInt8} {x : J} {v : Value} {g : Gh} (h : AtOk m p x v g) : p.length ≤ 1000000 := by
  obtain ⟨l, hl⟩ := Option.isSome_iff_exists.1 h.ps
  have := (stepsL_some hl).2.2.1
  omega
theorem AtOk.sm {m : Nat} {p : List UInt8} {x : J} {v : Value} {g : Gh} (h : AtOk m p x v g) : smJ x := sm_of_sz x m h.iv.sz (by have := h.mu; omega)
theorem AtOk.le {m : Nat} {p : List UInt8} {x : J} {v : Value} {g g' : Gh} (h : AtOk m p x v g) (hg : g.le g') : AtOk m p x v g' := ⟨h.ml, h.mu, h.ps, h.iv, h.hx.le hg _ _, h.he.le hg, h.ht.le hg, h.hu.le hg⟩
theorem AtOk.wk {m : Nat} {p : List UInt8} {x : J} {v : Value} {g : Gh} (h : AtOk m p x v g) {y : J} {u : Value} (hy : IsJ g y u) (zy : szJ m y) : WkOk m p x y v u g := ⟨h.ml, h.mu, h.pl, h.hx, hy, h.iv.sz, zy, h.he, h.ht, h.hu⟩
theorem udrop_does (m b : Nat) (p : List UInt8) (x : J) (v : Value) (g : Gh) (L : List Ent) (K : AtOk m p x v g) : Does Tryz.prog 96 #[.pointer (some ⟨b, 0, none⟩), str p] g (Wk b v :: L) (WorkR b (unsetU x p) L) := by
  cases hg : getP p x with
  | none =>
    have e : unsetU x p = (0, some x) := by unfold unsetU; rw [hg]
    rw [e]
    exact udrop_not m b p x v g L K.pl K.mu K.hx K.iv.sz K.he K.ht K.hu (dropE_not K.ps K.iv.look hg)
  | some y =>
    obtain ⟨z, hz⟩ := dropE_got hg
    have e : unsetU x p = (0, some z) := by unfold unsetU; rw [hg]; exact hz
    rw [e]
    exact udrop_got m b p x z v g L K.pl K.mu K.hx K.iv.sz K.he K.ht K.hu hz
set_option maxHeartbeats 16000000 in
theorem uunset_does (m b : Nat) (p : List UInt8) (x : J) (v u : Value) (g : Gh) (L : List Ent) (K : AtOk m p x v g) : Does Tryz.prog 58 #[.pointer (some ⟨b, 0, none⟩), str p, u] g (Wk b v :: L) (WorkR b (unsetU x p) L) := by
  refine Does.of3 Tryz.func58 rfl Tryz.ntmps58 rfl ?_
  have D := fun L => udrop_does m b p x v g L K
  obtain ⟨e0, o0, ho⟩ : ∃ e0 o0, unsetU x p = (e0, o0) := ⟨_, _, rfl⟩
  rw [ho] at D ⊢
  unfold WorkR at D ⊢
  clear K ho
  cases o0 with
  | none =>
    dsimp only at D ⊢
    repeat' (first
    | refine wkQ ?_
    | refine wkV ?_
    | (refine TL.call (Enters.plain (by kernel_rfl) (by rfl)) (by rfl) (Does.perm (D _) permU) ?_; (rintro e g1 Ln h1 ⟨k1, k2⟩; have k2 := k2.symm; subst k1; subst k2; skip; refine CallK.panic ?_))
    | refine stS ?_ | (refine stB ?_; intro _) | (refine stC ?_; refine And.intro (fun _ => ?_) (fun _ => ?_)))
    refine TQ.end_panic (L' := L) rfl (h1) ?_ selF
    exact ⟨rfl, rfl⟩
  | some z =>
    dsimp only at D ⊢
    repeat' (first
    | refine wkQ ?_
    | refine wkV ?_
    | (refine TL.call (Enters.plain (by kernel_rfl) (by rfl)) (by rfl) (Does.perm (D _) permU) ?_; (rintro e g1 Ln h1 ⟨v1, k1, k2, o1, j1⟩; subst k1; subst k2; skip; refine CallK.ret ?_))
    | refine stS ?_ | (refine stB ?_; intro _) | (refine stC ?_; refine And.intro (fun _ => ?_) (fun _ => ?_)))
    try refine TQ.end_normal ?_
    refine TQ.endR0 (L' := (Wk b v1 :: L)) Tryz.results58 rfl (h1) ?_ selF
    exact ⟨v1, rfl, rfl, o1, j1⟩
def NumR (b : Nat) (v : Value) (L : List Ent) (o : Option J) : Ending → Gh → List Ent → Prop := fun e _ L1 => match o with
  | none => e = .returned (.int .i64 0) ∧ L1 = Wk b v :: L
  | some y => match y with
    | .num n => e = .returned (.int .i64 n) ∧ L1 = Wk b v :: L
    | _ => e = .panicked [stopU 14] ∧ L1 = L
set_option maxHeartbeats 16000000 in
theorem unumber_does (m b : Nat) (p : List UInt8) (x : J) (v : Value) (g : Gh) (L : List Ent) (K : AtOk m p x v g) : Does Tryz.prog 134 #[.pointer (some ⟨b, 0, none⟩), str p] g (Wk b v :: L) (NumR b v L (getP p x)) := by
  refine Does.of2 Tryz.func134 rfl Tryz.ntmps134 rfl ?_
  have ov := K.hx.one
  have G := fun L => get_does p x v g L K.pl K.hx K.sm K.he K.ht K.hu
  unfold GetR at G
  unfold NumR
  clear K
  cases hg : getP p x with
  | none =>
    rw [hg] at G
    dsimp only at G ⊢
    repeat' (first
    | refine wkQ ?_
    | refine wkV ?_
    | (refine TL.call (Enters.plain (by kernel_rfl) (by rfl)) (by rfl) (G _) ?_; (rintro e g1 Ln h1 ⟨v1, b1, k1, k2, o1, r1⟩; have k2 := k2.symm; subst k1; subst k2; (obtain ⟨rfl, rfl⟩ := r1); refine CallK.ret ?_))
    | refine stS ?_ | (refine stB ?_; intro _) | (refine stC ?_; refine And.intro (fun _ => ?_) (fun _ => ?_)))
    refine TQ.endR1 (L' := (Wk b v :: L)) Tryz.results134 rvA rfl (h1) ?_ selF
    exact ⟨rfl, rfl⟩
  | some y =>
    rw [hg] at G
    dsimp only at G ⊢
    have NO := fun g L => uwants_no (b := false) rfl 14 (by decide) g L
    have YE := fun g L => uwants_yes (b := true) rfl 14 g L
    cases y with
    | num n =>
      dsimp only
      simp only [IsJ] at G
      repeat' (first
    | refine wkQ ?_
    | refine wkV ?_
    | (refine TL.call (Enters.plain (by kernel_rfl) (by rfl)) (by rfl) (G _) ?_; (rintro e g1 Ln h1 ⟨v1, b1, k1, k2, o1, r1⟩; have k2 := k2.symm; subst k1; subst k2; (obtain ⟨rfl, rfl, _⟩ := r1); refine CallK.ret ?_))
    | ((with_reducible apply TL.gives_plain); (· kernel_rfl); (· rfl); (· exact YE g1 _); (· rfl)) | ((with_reducible apply TW.gives_plain); (· kernel_rfl); (· rfl); (· exact YE g1 _); (· rfl))
    | refine stS ?_ | (refine stB ?_; intro _) | (refine stC ?_; refine And.intro (fun _ => ?_) (fun _ => ?_)))
      refine TQ.endR1 (L' := (Wk b v :: L)) Tryz.results134 rvA rfl (h1) ?_ selF
      exact ⟨rfl, rfl⟩
    | list xs =>
      dsimp only
      simp only [IsJ] at G
      repeat' (first
    | refine wkQ ?_
    | refine wkV ?_
    | (refine TL.call (Enters.plain (by kernel_rfl) (by rfl)) (by rfl) (G _) ?_; (rintro e g1 Ln h1 ⟨v1, b1, k1, k2, o1, r1⟩; have k2 := k2.symm; subst k1; subst k2; (obtain ⟨rfl, sl, fl, rfl, hS, _⟩ := r1; obtain ⟨a, c, rfl⟩ := hS.slice); refine CallK.ret ?_))
    | refine TL.throws (Enters.plain (by kernel_rfl) (by rfl)) (NO g1 _) (by rfl) ?_
    | refine stS ?_ | (refine stB ?_; intro _) | (refine stC ?_; refine And.intro (fun _ => ?_) (fun _ => ?_)))
      refine TQ.end_panic (L' := L) rfl (h1) ?_ selF
      exact ⟨rfl, rfl⟩
    | obj ns xs =>
      dsimp only
      simp only [IsJ] at G
      repeat' (first
    | refine wkQ ?_
    | refine wkV ?_
    | (refine TL.call (Enters.plain (by kernel_rfl) (by rfl)) (by rfl) (G _) ?_; (rintro e g1 Ln h1 ⟨v1, b1, k1, k2, o1, r1⟩; have k2 := k2.symm; subst k1; subst k2; (obtain ⟨rfl, sl, fl, rfl, hS, _⟩ := r1; obtain ⟨a, c, rfl⟩ := hS.slice); refine CallK.ret ?_))
    | refine TL.throws (Enters.plain (by kernel_rfl) (by rfl)) (NO g1 _) (by rfl) ?_
    | refine stS ?_ | (refine stB ?_; intro _) | (refine stC ?_; refine And.intro (fun _ => ?_) (fun _ => ?_)))
      refine TQ.end_panic (L' := L) rfl (h1) ?_ selF
      exact ⟨rfl, rfl⟩
    | _ =>
      dsimp only
      simp only [IsJ] at G
      repeat' (first
    | refine wkQ ?_
    | refine wkV ?_
    | (refine TL.call (Enters.plain (by kernel_rfl) (by rfl)) (by rfl) (G _) ?_; (rintro e g1 Ln h1 ⟨v1, b1, k1, k2, o1, r1⟩; have k2 := k2.symm; subst k1; subst k2; (obtain ⟨rfl, rfl⟩ := r1); refine CallK.ret ?_))
    | refine TL.throws (Enters.plain (by kernel_rfl) (by rfl)) (NO g1 _) (by rfl) ?_
    | refine stS ?_ | (refine stB ?_; intro _) | (refine stC ?_; refine And.intro (fun _ => ?_) (fun _ => ?_)))
      refine TQ.end_panic (L' := L) rfl (h1) ?_ selF
      exact ⟨rfl, rfl⟩
set_option maxHeartbeats 16000000 in
theorem ubound_does (side : Int) (m b : Nat) (p : List UInt8) (x y : J) (v u : Value) (g : Gh) (L : List Ent) (K : AtOk m p x v g) (hy : IsJ g y u) (zy : szJ m y) (ly : lookJ y 0 = 0) : Does Tryz.prog 100 #[.pointer (some ⟨b, 0, none⟩), str p, u, .int .i64 side] g (Wk b v :: L) (WorkR b (boundU cmpJ side x p y) L) := by
  refine Does.of4 Tryz.func100 rfl Tryz.ntmps100 rfl ?_
  have ov := K.hx.one
  have ou := hy.one
  have G := fun L => get_does p x v g L K.pl K.hx K.sm K.he K.ht K.hu
  have sy := sm_of_sz y m zy (by have := K.mu; omega)
  have YE := fun g L => uneed_yes g L
  have PU := fun g1 (h : g.le g1) L => uput_does m b p x y v u g1 L ((K.le h).wk (hy.le h _ _) zy)
  unfold GetR at G
  unfold boundU
  cases hg : getP p x with
  | none =>
    rw [hg] at G
    dsimp only at G ⊢
    have CM := fun g1 (h : g.le g1) L => (show Gives Tryz.prog 31 #[u, .nilIface] g1 L (.tuple #[.int .i64 (cmpJ y .null), .int .i64 0]) by
      have h2 := oCompare_gives y .null u .nilIface g1 L (hy.le h _ _) (by rw [IsJ]) sy (by rw [smJ]; trivial) (K.ht.le h) (K.hu.le h)
      have h3 : errJ y .null = 0 := by unfold errJ; rw [ly, lookJ]; rfl
      rw [h3, if_pos rfl] at h2
      exact h2)
    obtain ⟨e0, o0, ho⟩ : ∃ e0 o0, putE x p y = (e0, o0) := ⟨_, _, rfl⟩
    rw [ho] at PU ⊢
    unfold WorkR at PU ⊢
    clear K hy zy
    cases o0 with
    | none =>
      dsimp only at PU ⊢
      repeat' (first
    | refine wkQ ?_
    | refine wkV ?_
    | (refine TL.call (Enters.plain (by kernel_rfl) (by rfl)) (by rfl) (G _) ?_; (rintro e g1 Ln h1 ⟨v1, b1, k1, k2, o1, r1⟩; have k2 := k2.symm; subst k1; subst k2; (obtain ⟨rfl, rfl⟩ := r1); refine CallK.ret ?_))
    | ((with_reducible apply TL.gives_plain); (· kernel_rfl); (· rfl); (· exact CM g1 h1 _); (· rfl)) | ((with_reducible apply TW.gives_plain); (· kernel_rfl); (· rfl); (· exact CM g1 h1 _); (· rfl))
    | ((with_reducible apply TL.gives_plain); (· kernel_rfl); (· rfl); (· exact YE g1 _); (· rfl)) | ((with_reducible apply TW.gives_plain); (· kernel_rfl); (· rfl); (· exact YE g1 _); (· rfl))
    | (refine TL.call (Enters.plain (by kernel_rfl) (by rfl)) (by rfl) (Does.perm (PU g1 h1 _) permU) ?_; (rintro e g2 Ln h2 ⟨k1, k2⟩; have k2 := k2.symm; subst k1; subst k2; skip; refine CallK.panic ?_))
    | refine stS ?_ | (refine stB ?_; intro _) | (refine stC ?_; refine And.intro (fun _ => ?_) (fun _ => ?_)))
      refine TQ.end_panic (L' := L) rfl (h1.trans h2) ?_ selF
      exact ⟨rfl, rfl⟩
    | some z =>
      dsimp only at PU ⊢
      repeat' (first
    | refine wkQ ?_
    | refine wkV ?_
    | (refine TL.call (Enters.plain (by kernel_rfl) (by rfl)) (by rfl) (G _) ?_; (rintro e g1 Ln h1 ⟨v1, b1, k1, k2, o1, r1⟩; have k2 := k2.symm; subst k1; subst k2; (obtain ⟨rfl, rfl⟩ := r1); refine CallK.ret ?_))
    | ((with_reducible apply TL.gives_plain); (· kernel_rfl); (· rfl); (· exact CM g1 h1 _); (· rfl)) | ((with_reducible apply TW.gives_plain); (· kernel_rfl); (· rfl); (· exact CM g1 h1 _); (· rfl))
    | ((with_reducible apply TL.gives_plain); (· kernel_rfl); (· rfl); (· exact YE g1 _); (· rfl)) | ((with_reducible apply TW.gives_plain); (· kernel_rfl); (· rfl); (· exact YE g1 _); (· rfl))
    | (refine TL.call (Enters.plain (by kernel_rfl) (by rfl)) (by rfl) (Does.perm (PU g1 h1 _) permU) ?_; (rintro e g2 Ln h2 ⟨v2, k1, k2, o2, j2⟩; subst k1; subst k2; skip; refine CallK.ret ?_))
    | refine stS ?_ | (refine stB ?_; intro _) | (refine stC ?_; refine And.intro (fun _ => ?_) (fun _ => ?_)))
      try refine TQ.end_normal ?_
      refine TQ.endR0 (L' := (Wk b v2 :: L)) Tryz.results100 rfl (h1.trans h2) ?_ selF
      exact ⟨v2, rfl, rfl, o2, j2⟩
  | some w =>
    rw [hg] at G
    dsimp only at G ⊢
    obtain ⟨lw, nw, zw⟩ := getP_inv K.iv hg
    have sw := sm_of_sz w m zw (by have := K.mu; omega)
    have CM := fun g1 (h : g.le g1) (v1 : Value) (j1 : IsJ g1 w v1) L => (show Gives Tryz.prog 31 #[u, v1] g1 L (.tuple #[.int .i64 (cmpJ y w), .int .i64 0]) by
      have h2 := oCompare_gives y w u v1 g1 L (hy.le h _ _) j1 sy sw (K.ht.le h) (K.hu.le h)
      have h3 : errJ y w = 0 := by unfold errJ; rw [ly, lw]; rfl
      rw [h3, if_pos rfl] at h2
      exact h2)
    have hxl := fun g1 (h : g.le g1) => K.hx.le h _ _
    by_cases hc : cmpJ y w = side
    · rw [if_pos hc]
      rw [hc] at CM
      obtain ⟨e0, o0, ho⟩ : ∃ e0 o0, putE x p y = (e0, o0) := ⟨_, _, rfl⟩
      rw [ho] at PU ⊢
      unfold WorkR at PU ⊢
      clear K hy zy
      cases o0 with
      | none =>
        dsimp only at PU ⊢
        repeat' (first
    | refine wkQ ?_
    | refine wkV ?_
    | (refine TL.call (Enters.plain (by kernel_rfl) (by rfl)) (by rfl) (G _) ?_; (rintro e g1 Ln h1 ⟨v1, b1, k1, k2, o1, r1⟩; have k2 := k2.symm; subst k1; subst k2; (obtain ⟨rfl, j1⟩ := r1); refine CallK.ret ?_))
    | ((with_reducible apply TL.gives_plain); (· kernel_rfl); (· rfl); (· exact CM g1 h1 v1 j1 _); (· rfl)) | ((with_reducible apply TW.gives_plain); (· kernel_rfl); (· rfl); (· exact CM g1 h1 v1 j1 _); (· rfl))
    | ((with_reducible apply TL.gives_plain); (· kernel_rfl); (· rfl); (· exact YE g1 _); (· rfl)) | ((with_reducible apply TW.gives_plain); (· kernel_rfl); (· rfl); (· exact YE g1 _); (· rfl))
    | (refine TL.call (Enters.plain (by kernel_rfl) (by rfl)) (by rfl) (Does.perm (PU g1 h1 _) permU) ?_; (rintro e g2 Ln h2 ⟨k1, k2⟩; have k2 := k2.symm; subst k1; subst k2; skip; refine CallK.panic ?_))
    | refine stS ?_ | (refine stB ?_; intro _) | (refine stC ?_; refine And.intro (fun _ => ?_) (fun _ => ?_)))
        refine TQ.end_panic (L' := L) rfl (h1.trans h2) ?_ selF
        exact ⟨rfl, rfl⟩
      | some z =>
        dsimp only at PU ⊢
        repeat' (first
    | refine wkQ ?_
    | refine wkV ?_
    | (refine TL.call (Enters.plain (by kernel_rfl) (by rfl)) (by rfl) (G _) ?_; (rintro e g1 Ln h1 ⟨v1, b1, k1, k2, o1, r1⟩; have k2 := k2.symm; subst k1; subst k2; (obtain ⟨rfl, j1⟩ := r1); refine CallK.ret ?_))
    | ((with_reducible apply TL.gives_plain); (· kernel_rfl); (· rfl); (· exact CM g1 h1 v1 j1 _); (· rfl)) | ((with_reducible apply TW.gives_plain); (· kernel_rfl); (· rfl); (· exact CM g1 h1 v1 j1 _); (· rfl))
    | ((with_reducible apply TL.gives_plain); (· kernel_rfl); (· rfl); (· exact YE g1 _); (· rfl)) | ((with_reducible apply TW.gives_plain); (· kernel_rfl); (· rfl); (· exact YE g1 _); (· rfl))
    | (refine TL.call (Enters.plain (by kernel_rfl) (by rfl)) (by rfl) (Does.perm (PU g1 h1 _) permU) ?_; (rintro e g2 Ln h2 ⟨v2, k1, k2, o2, j2⟩; subst k1; subst k2; skip; refine CallK.ret ?_))
    | refine stS ?_ | (refine stB ?_; intro _) | (refine stC ?_; refine And.intro (fun _ => ?_) (fun _ => ?_)))
        try refine TQ.end_normal ?_
        refine TQ.endR0 (L' := (Wk b v2 :: L)) Tryz.results100 rfl (h1.trans h2) ?_ selF
        exact ⟨v2, rfl, rfl, o2, j2⟩
    · rw [if_neg hc]
      have HC := Hn.mk hc
      generalize cmpJ y w = c at *
      unfold WorkR
      dsimp only
      clear K hy zy PU
      repeat' (first
    | refine wkQ ?_
    | refine wkV ?_
    | (refine TL.call (Enters.plain (by kernel_rfl) (by rfl)) (by rfl) (G _) ?_; (rintro e g1 Ln h1 ⟨v1, b1, k1, k2, o1, r1⟩; have k2 := k2.symm; subst k1; subst k2; (obtain ⟨rfl, j1⟩ := r1); refine CallK.ret ?_))
    | ((with_reducible apply TL.gives_plain); (· kernel_rfl); (· rfl); (· exact CM g1 h1 v1 j1 _); (· rfl)) | ((with_reducible apply TW.gives_plain); (· kernel_rfl); (· rfl); (· exact CM g1 h1 v1 j1 _); (· rfl))
    | ((with_reducible apply TL.gives_plain); (· kernel_rfl); (· rfl); (· exact YE g1 _); (· rfl)) | ((with_reducible apply TW.gives_plain); (· kernel_rfl); (· rfl); (· exact YE g1 _); (· rfl))
    | refine stS ?_ | (refine stB ?_; intro _) | (refine stC ?_; refine And.intro (fun _ => ?_) (fun _ => ?_)))
      try refine TQ.end_normal ?_
      refine TQ.endR0 (L' := (Wk b v :: L)) Tryz.results100 rfl (h1) ?_ selF
      exact ⟨v, rfl, rfl, ov, hxl g1 h1⟩
set_option maxHeartbeats 16000000 in
theorem urename_does (m b : Nat) (p q : List UInt8) (x : J) (v : Value) (g : Gh) (L : List Ent) (K : AtOk m p x v g) (hq : (stepsL q).isSome = true) : Does Tryz.prog 65 #[.pointer (some ⟨b, 0, none⟩), str p, .iface 9 (str q)] g (Wk b v :: L) (WorkR b (renameU x p (.text q)) L) := by
  refine Does.of3 Tryz.func65 rfl Tryz.ntmps65 rfl ?_
  have ov := K.hx.one
  have G := fun L => get_does p x v g L K.pl K.hx K.sm K.he K.ht K.hu
  unfold GetR at G
  unfold renameU
  cases hg : getP p x with
  | none =>
    rw [hg] at G
    dsimp only at G ⊢
    unfold WorkR
    dsimp only
    have hxl := fun g1 (h : g.le g1) => K.hx.le h _ _
    clear K
    repeat' (first
    | refine wkQ ?_
    | refine wkV ?_
    | (refine TL.call (Enters.plain (by kernel_rfl) (by rfl)) (by rfl) (G _) ?_; (rintro e g1 Ln h1 ⟨v1, b1, k1, k2, o1, r1⟩; have k2 := k2.symm; subst k1; subst k2; (obtain ⟨rfl, rfl⟩ := r1); refine CallK.ret ?_))
    | refine stS ?_ | (refine stB ?_; intro _) | (refine stC ?_; refine And.intro (fun _ => ?_) (fun _ => ?_)))
    try refine TQ.end_normal ?_
    refine TQ.endR0 (L' := (Wk b v :: L)) Tryz.results65 rfl (h1) ?_ selF
    exact ⟨v, rfl, rfl, ov, hxl g1 h1⟩
  | some y =>
    rw [hg] at G
    obtain ⟨w, hw⟩ := dropE_got hg
    rw [hw]
    dsimp only at G ⊢
    obtain ⟨ly, ny, zy⟩ := getP_inv K.iv hg
    have hwi := (dropE_inv K.iv hw).2
    have D := fun g1 (h : g.le g1) L => (show Does Tryz.prog 96 #[.pointer (some ⟨b, 0, none⟩), str p] g1 (Wk b v :: L) (WorkR b (0, some w) L) by
      have h1 := udrop_does m b p x v g1 L (K.le h)
      have e : unsetU x p = (0, some w) := by unfold unsetU; rw [hg]; exact hw
      rwa [e] at h1)
    have PU := fun g1 (h : g.le g1) (v1 u1 : Value) (j1 : IsJ g1 w v1) (k1 : IsJ g1 y u1) L => uput_does m b q w y v1 u1 g1 L (⟨K.ml, K.mu, (by
      obtain ⟨l, hl⟩ := Option.isSome_iff_exists.1 hq
      have := (stepsL_some hl).2.2.1
      omega), j1, k1, hwi.sz, zy, K.he.le h, K.ht.le h, K.hu.le h⟩)
    obtain ⟨e0, o0, ho⟩ : ∃ e0 o0, putE w q y = (e0, o0) := ⟨_, _, rfl⟩
    rw [ho] at PU ⊢
    unfold WorkR at D PU ⊢
    clear K
    cases o0 with
    | none =>
      dsimp only at D PU ⊢
      repeat' (first
    | refine wkQ ?_
    | refine wkV ?_
    | (refine TL.call (Enters.plain (by kernel_rfl) (by rfl)) (by rfl) (G _) ?_; (rintro e g1 Ln h1 ⟨v1, b1, k1, k2, o1, r1⟩; have k2 := k2.symm; subst k1; subst k2; (obtain ⟨rfl, j1⟩ := r1); refine CallK.ret ?_))
    | (refine TL.call (Enters.plain (by kernel_rfl) (by rfl)) (by rfl) (Does.perm (D g1 h1 _) permU) ?_; (rintro e g2 Ln h2 ⟨v2, k1, k2, o2, j2⟩; subst k1; subst k2; (have j12 := j1.le h2 _ _); refine CallK.ret ?_))
    | (refine TL.call (Enters.plain (by kernel_rfl) (by rfl)) (by rfl) (Does.perm (PU g2 (h1.trans h2) v2 v1 j2 j12 _) permU) ?_; (rintro e g3 Ln h3 ⟨k1, k2⟩; have k2 := k2.symm; subst k1; subst k2; skip; refine CallK.panic ?_))
    | refine stS ?_ | (refine stB ?_; intro _) | (refine stC ?_; refine And.intro (fun _ => ?_) (fun _ => ?_)))
      refine TQ.end_panic (L' := L) rfl ((h1.trans h2).trans h3) ?_ selF
      exact ⟨rfl, rfl⟩
    | some z =>
      dsimp only at D PU ⊢
      repeat' (first
    | refine wkQ ?_
    | refine wkV ?_
    | (refine TL.call (Enters.plain (by kernel_rfl) (by rfl)) (by rfl) (G _) ?_; (rintro e g1 Ln h1 ⟨v1, b1, k1, k2, o1, r1⟩; have k2 := k2.symm; subst k1; subst k2; (obtain ⟨rfl, j1⟩ := r1); refine CallK.ret ?_))
    | (refine TL.call (Enters.plain (by kernel_rfl) (by rfl)) (by rfl) (Does.perm (D g1 h1 _) permU) ?_; (rintro e g2 Ln h2 ⟨v2, k1, k2, o2, j2⟩; subst k1; subst k2; (have j12 := j1.le h2 _ _); refine CallK.ret ?_))
    | (refine TL.call (Enters.plain (by kernel_rfl) (by rfl)) (by rfl) (Does.perm (PU g2 (h1.trans h2) v2 v1 j2 j12 _) permU) ?_; (rintro e g3 Ln h3 ⟨v3, k1, k2, o3, j3⟩; subst k1; subst k2; skip; refine CallK.ret ?_))
    | refine stS ?_ | (refine stB ?_; intro _) | (refine stC ?_; refine And.intro (fun _ => ?_) (fun _ => ?_)))
      try refine TQ.end_normal ?_
      refine TQ.endR0 (L' := (Wk b v3 :: L)) Tryz.results65 rfl ((h1.trans h2).trans h3) ?_ selF
      exact ⟨v3, rfl, rfl, o3, j3⟩
end Go.Proofs.YthngolfabfijpaaGreatDoor
