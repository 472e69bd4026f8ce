/-
  The walks of the document's one: what is added, what is multiplied. Layer 5, plain laws: what the program is told of a value compares as the value.
-/
import Derived.Test.YthngolfabfijpaaGreatDoorHd2
import Derived.Test.YthngolfabfijpaaGreatDoorHd25
import Derived.Test.YthngolfabfijpaaGreatDoorHd30
import Derived.Test.YthngolfabfijpaaGreatDoorHd31
import Derived.Test.YthngolfabfijpaaGreatDoorHd27
import Derived.Test.YthngolfabfijpaaGreatDoorHd6
namespace Go.Proofs.YthngolfabfijpaaGreatDoor
open Go.RowKit Go.TL
set_option maxRecDepth 100000

theorem toJ_numD {x : DV} {n : Int} (h : toJ x = .num n) : ∃ b s items names, x = .mk 2 b n s items names := by
  obtain ⟨k, b, m, t, items, names⟩ := x
  rw [toJ_eq] at h
  split at h
  · cases h
  split at h
  · cases h
  split at h
  · rename_i e
    injection h with h
    subst h; subst e
    exact ⟨b, t, items, names, rfl⟩
  split at h
  · cases h
  split at h
  · cases h
  split at h
  · cases h
  · cases h
theorem numAt_toJ (k : Int) (b : Bool) (n : Int) (s : List UInt8) (items : List DV) (names : List (List UInt8)) : numAt (some (toJ (.mk k b n s items names))) = if k = 2 then some n else none := by
  by_cases h : k = 2
  · subst h
    have e : toJ (.mk 2 b n s items names) = .num n := by rw [toJ_eq]; simp
    rw [e, if_pos rfl]; rfl
  · rw [if_neg h]
    cases hj : toJ (.mk k b n s items names) with
    | num m =>
      obtain ⟨_, _, _, _, e⟩ := toJ_numD hj
      injection e with e1
      exact absurd e1 h
    | _ => rfl
theorem isV_num {g : Gh} {r : Int} (h : -9223372036854775808 ≤ r ∧ r ≤ 9223372036854775807) : IsV g (.mk 2 false r [] [] []) [.int .i64 2, .bool false, .int .i64 r, .string ⟨#[]⟩, .slice none 0 0, .slice none 0 0] := by
  rw [IsV]
  exact ⟨_, _, [], rfl, ⟨by decide, by decide⟩, h, by decide, .nil, by simp, by rw [IsVs], .nil, by simp, fun x hx => by cases hx⟩
theorem wfN_num {m : Nat} {r : Int} : wfN m (.mk 2 false r [] [] []) := by
  rw [wfN]
  exact ⟨Nat.zero_le _, Nat.zero_le _, fun h => absurd h (by decide), fun h => by rcases h with h | h <;> exact absurd h (by decide)⟩
theorem OneOk.num {m : Nat} {p : List UInt8} {l : List (List UInt8)} {x y : DV} {cs us : List Value} {g g1 : Gh} {r : Int} (K : OneOk m p l x y cs us g) (h : g.le g1) (_hr : -9000000000000000000 ≤ r ∧ r ≤ 9000000000000000000) (L : List Ent) : Does Tryz.prog 72 #[.agg cs.toArray, str p, .agg #[.int .i64 2, .bool false, .int .i64 r, .string ⟨#[]⟩, .slice none 0 0, .slice none 0 0]] g1 L (PutsDR (m + 1) (putE (toJ x) p (.num r)) L) := by
  have D := rputs6_does m K.ml (by have := K.mu; omega) p x (.mk 2 false r [] [] []) cs _ g1 L K.pl (IsV.le h _ _ K.hx) (isV_num (by omega)) K.wx wfN_num
  rw [show toJ (.mk 2 false r [] [] []) = .num r by rw [toJ_eq]; simp] at D
  exact D
theorem one_num {m : Nat} {p : List UInt8} {l : List (List UInt8)} {x y : DV} {cs us : List Value} {g : Gh} {zk : Int} {zb : Bool} {zn : Int} {zs : List UInt8} {zit : List DV} {znm : List (List UInt8)} (hg : getD l x = some (.mk zk zb zn zs zit znm)) (K : OneOk m p l x y cs us g) : zk = 2 → -9000000000000000000 ≤ zn ∧ zn ≤ 9000000000000000000 := by
  intro hk
  subst hk
  have h := get_toJ l x
  rw [hg] at h
  have h1 := look_get l (toJ x) _ K.h0 h
  rw [show toJ (.mk 2 zb zn zs zit znm) = .num zn by rw [toJ_eq]; simp] at h1
  rw [lookJ] at h1
  split at h1
  · rename_i hb; exact heldB_iff.1 hb
  · omega
set_option maxHeartbeats 32000000 in
theorem rone_inc (m : Nat) (p : List UInt8) (l : List (List UInt8)) (x y : DV) (cs us : List Value) (n : Int) (g : Gh) (L : List Ent) (K : OneOk m p l x y cs us g) (hyn : toJ y = .num n) : Does Tryz.prog 38 #[.agg cs.toArray, str incB, str p, .agg us.toArray] g L (PutsDR (m + 2) (reckonU plusL (toJ x) p (toJ y)) L) := by
  refine Does.of4 Tryz.func38 rfl Tryz.ntmps38 rfl ?_
  have GU := fun L => rget22_does p l x cs g L K.ps K.hx (wf_of_N x m K.wx (by have := K.mu; omega))
  unfold GetUR at GU
  rw [hyn, reckon_at, K.get]
  obtain ⟨yb, ys, yit, ynm, rfl⟩ := toJ_numD hyn
  have hY := K.hy
  rw [IsV] at hY
  obtain ⟨yv, yw, yf, rfl, _, yn, _, yS, _, _, yT, _⟩ := hY
  obtain ⟨ya, yc, rfl⟩ := yS.slice
  obtain ⟨yA1, yc1, rfl⟩ := yT.slice
  obtain ⟨x0, x1, x2, x3, xi, xil, xic, xn, xnl, xnc, rfl⟩ := K.hx.form
  clear hyn yS yT
  cases hg : getD l x with
  | none =>
    rw [hg] at GU
    rw [show Option.map toJ none = none from rfl, show numAt none = some 0 from rfl]
    dsimp only at GU ⊢
    clear hg
    have PF := fun g L => rPlus_gives 0 n g L (by omega) (by omega) yn.1 yn.2
    have vb := plusL_val 0 n
    have qb := plusL_bd 0 n
    obtain ⟨r, q, hr⟩ : ∃ r q, plusL 0 n = (r, q) := ⟨_, _, rfl⟩
    rw [hr] at PF vb qb ⊢
    dsimp only at PF vb qb ⊢
    by_cases h0 : q = 0
    · subst h0
      rw [if_pos rfl]
      have PU := fun g1 (h : g.le g1) L => K.num h vb L
      unfold PutsDR at PU
      clear K vb qb hr
      repeat' (first | refine wkQ ?_ | refine wkV ?_ | (refine TL.call (Enters.plain (by kernel_rfl) (by rfl)) (by rfl) (GU _) ?_; (rintro e g1 Ln h1 ⟨c1, b1, k1, k2, r1⟩; have k2 := k2.symm; subst k1; subst k2; (obtain ⟨rfl, rfl⟩ := r1); refine CallK.ret ?_)) | ((with_reducible apply TL.gives_plain); (· kernel_rfl); (· rfl); (· exact PF g1 _); (· rfl)) | (refine TL.call (Enters.plain (by kernel_rfl) (by rfl)) (by rfl) (PU g1 h1 _) ?_; (rintro e g4 Ln h4 ⟨cz, es, zz, k1, k2, hz, hm'⟩; have k2 := k2.symm; subst k1; subst k2; have HZ := Hn.mk (And.intro hz hm'); obtain ⟨qk, qb, qn, qs, qi, qil, qic, qm, qml, qmc, rfl⟩ := hz.form; clear hz hm'; refine CallK.ret ?_)) | refine stS ?_ | (refine stB ?_; intro _) | fail)
      refine TQ.endR2 (L' := L) Tryz.results38 rvA rvA rfl (h1.trans h4) ?_ selF
      exact one_end HZ.out (by omega)
    · rw [if_neg h0]
      obtain ⟨E, rfl⟩ : ∃ E : Nat, q = (E : Int) := ⟨q.toNat, by omega⟩
      have HX := Hn.mk K.hx
      have H0 := Hn.mk h0
      clear K vb qb hr h0
      repeat' (first | refine wkQ ?_ | (refine TL.call (Enters.plain (by kernel_rfl) (by rfl)) (by rfl) (GU _) ?_; (rintro e g1 Ln h1 ⟨c1, b1, k1, k2, r1⟩; have k2 := k2.symm; subst k1; subst k2; (obtain ⟨rfl, rfl⟩ := r1); refine CallK.ret ?_)) | ((with_reducible apply TL.gives_plain); (· kernel_rfl); (· rfl); (· exact PF g1 _); (· rfl)) | refine stS ?_ | (refine stB ?_; intro _) | fail)
      refine TQ.endR2 (L' := L) Tryz.results38 rvA rvA rfl (h1) ?_ selF
      exact one_end (m := m) (o := (E, none)) (z := x) ⟨IsV.le h1 _ _ HX.out, rfl, by have := H0.out; omega⟩ (by omega)
  | some z =>
    rw [hg] at GU
    obtain ⟨zk, zb, zn, zs, zit, znm⟩ := z
    rw [show Option.map toJ (some (.mk zk zb zn zs zit znm)) = some (toJ (.mk zk zb zn zs zit znm)) from rfl, numAt_toJ]
    have zb0 := one_num hg K
    dsimp only at GU ⊢
    clear hg
    by_cases hk : zk = 2
    · subst hk
      rw [if_pos rfl]
      have zbb := zb0 rfl
      dsimp only
      have PF := fun g L => rPlus_gives zn n g L (by omega) (by omega) yn.1 yn.2
      have vb := plusL_val zn n
      have qb := plusL_bd zn n
      obtain ⟨r, q, hr⟩ : ∃ r q, plusL zn n = (r, q) := ⟨_, _, rfl⟩
      rw [hr] at PF vb qb ⊢
      dsimp only at PF vb qb ⊢
      by_cases h0 : q = 0
      · subst h0
        rw [if_pos rfl]
        have PU := fun g1 (h : g.le g1) L => K.num h vb L
        unfold PutsDR at PU
        clear K vb qb hr
        repeat' (first | refine wkQ ?_ | refine wkV ?_ | (refine TL.call (Enters.plain (by kernel_rfl) (by rfl)) (by rfl) (GU _) ?_; (rintro e g1 Ln h1 ⟨c1, b1, k1, k2, r1⟩; have k2 := k2.symm; subst k1; subst k2; (obtain ⟨rfl, hz, hw⟩ := r1; rw [IsV] at hz; obtain ⟨zv, zw, zf, rfl, _, _, _, zS, _, _, zT, _⟩ := hz; obtain ⟨za, zc, rfl⟩ := zS.slice; obtain ⟨zA1, zc1, rfl⟩ := zT.slice; clear zS zT hw); refine CallK.ret ?_)) | ((with_reducible apply TL.gives_plain); (· kernel_rfl); (· rfl); (· exact PF g1 _); (· rfl)) | (refine TL.call (Enters.plain (by kernel_rfl) (by rfl)) (by rfl) (PU g1 h1 _) ?_; (rintro e g4 Ln h4 ⟨cz, es, zz, k1, k2, hz, hm'⟩; have k2 := k2.symm; subst k1; subst k2; have HZ := Hn.mk (And.intro hz hm'); obtain ⟨qk, qb, qn, qs, qi, qil, qic, qm, qml, qmc, rfl⟩ := hz.form; clear hz hm'; refine CallK.ret ?_)) | refine stS ?_ | (refine stB ?_; intro _) | fail)
        refine TQ.endR2 (L' := L) Tryz.results38 rvA rvA rfl (h1.trans h4) ?_ selF
        exact one_end HZ.out (by omega)
      · rw [if_neg h0]
        obtain ⟨E, rfl⟩ : ∃ E : Nat, q = (E : Int) := ⟨q.toNat, by omega⟩
        have HX := Hn.mk K.hx
        have H0 := Hn.mk h0
        clear K vb qb hr h0
        repeat' (first | refine wkQ ?_ | (refine TL.call (Enters.plain (by kernel_rfl) (by rfl)) (by rfl) (GU _) ?_; (rintro e g1 Ln h1 ⟨c1, b1, k1, k2, r1⟩; have k2 := k2.symm; subst k1; subst k2; (obtain ⟨rfl, hz, hw⟩ := r1; rw [IsV] at hz; obtain ⟨zv, zw, zf, rfl, _, _, _, zS, _, _, zT, _⟩ := hz; obtain ⟨za, zc, rfl⟩ := zS.slice; obtain ⟨zA1, zc1, rfl⟩ := zT.slice; clear zS zT hw); refine CallK.ret ?_)) | ((with_reducible apply TL.gives_plain); (· kernel_rfl); (· rfl); (· exact PF g1 _); (· rfl)) | refine stS ?_ | (refine stB ?_; intro _) | fail)
        refine TQ.endR2 (L' := L) Tryz.results38 rvA rvA rfl (h1) ?_ selF
        exact one_end (m := m) (o := (E, none)) (z := x) ⟨IsV.le h1 _ _ HX.out, rfl, by have := H0.out; omega⟩ (by omega)
    · rw [if_neg hk]
      have HX := Hn.mk K.hx
      have HK := Hn.mk hk
      dsimp only
      clear K zb0 hk
      repeat' (first | refine wkQ ?_ | (refine TL.call (Enters.plain (by kernel_rfl) (by rfl)) (by rfl) (GU _) ?_; (rintro e g1 Ln h1 ⟨c1, b1, k1, k2, r1⟩; have k2 := k2.symm; subst k1; subst k2; (obtain ⟨rfl, hz, hw⟩ := r1; rw [IsV] at hz; obtain ⟨zv, zw, zf, rfl, _, _, _, zS, _, _, zT, _⟩ := hz; obtain ⟨za, zc, rfl⟩ := zS.slice; obtain ⟨zA1, zc1, rfl⟩ := zT.slice; clear zS zT hw); refine CallK.ret ?_)) | refine stS ?_ | (refine stB ?_; intro _) | fail)
      refine TQ.endR2 (L' := L) Tryz.results38 rvA rvA rfl (h1) ?_ selF
      exact one_end (m := m) (o := (14, none)) (es := 14) (z := x) ⟨IsV.le h1 _ _ HX.out, rfl, by decide⟩ (by omega)
set_option maxHeartbeats 32000000 in
theorem rone_mul (m : Nat) (p : List UInt8) (l : List (List UInt8)) (x y : DV) (cs us : List Value) (n : Int) (g : Gh) (L : List Ent) (K : OneOk m p l x y cs us g) (hyn : toJ y = .num n) : Does Tryz.prog 38 #[.agg cs.toArray, str mulB, str p, .agg us.toArray] g L (PutsDR (m + 2) (reckonU timesL (toJ x) p (toJ y)) L) := by
  refine Does.of4 Tryz.func38 rfl Tryz.ntmps38 rfl ?_
  have GU := fun L => rget22_does p l x cs g L K.ps K.hx (wf_of_N x m K.wx (by have := K.mu; omega))
  unfold GetUR at GU
  rw [hyn, reckon_at, K.get]
  obtain ⟨yb, ys, yit, ynm, rfl⟩ := toJ_numD hyn
  have hY := K.hy
  rw [IsV] at hY
  obtain ⟨yv, yw, yf, rfl, _, yn, _, yS, _, _, yT, _⟩ := hY
  obtain ⟨ya, yc, rfl⟩ := yS.slice
  obtain ⟨yA1, yc1, rfl⟩ := yT.slice
  obtain ⟨x0, x1, x2, x3, xi, xil, xic, xn, xnl, xnc, rfl⟩ := K.hx.form
  clear hyn yS yT
  cases hg : getD l x with
  | none =>
    rw [hg] at GU
    rw [show Option.map toJ none = none from rfl, show numAt none = some 0 from rfl]
    dsimp only at GU ⊢
    clear hg
    have PF := fun g L => rTimes_gives 0 n g L (by omega) (by omega) yn.1 yn.2
    have PP := fun g L => rPlus_gives 0 n g L (by omega) (by omega) yn.1 yn.2
    have vb := timesL_val 0 n
    have qb := timesL_bd 0 n
    obtain ⟨r, q, hr⟩ : ∃ r q, timesL 0 n = (r, q) := ⟨_, _, rfl⟩
    rw [hr] at PF vb qb ⊢
    dsimp only at PF vb qb ⊢
    by_cases h0 : q = 0
    · subst h0
      rw [if_pos rfl]
      have PU := fun g1 (h : g.le g1) L => K.num h vb L
      unfold PutsDR at PU
      clear K vb qb hr
      repeat' (first | refine wkQ ?_ | refine wkV ?_ | (refine TL.call (Enters.plain (by kernel_rfl) (by rfl)) (by rfl) (GU _) ?_; (rintro e g1 Ln h1 ⟨c1, b1, k1, k2, r1⟩; have k2 := k2.symm; subst k1; subst k2; (obtain ⟨rfl, rfl⟩ := r1); refine CallK.ret ?_)) | ((with_reducible apply TL.gives_plain); (· kernel_rfl); (· rfl); (· exact PF g1 _); (· rfl)) | ((with_reducible apply TL.gives_plain); (· kernel_rfl); (· rfl); (· exact PP g1 _); (· rfl)) | (refine TL.call (Enters.plain (by kernel_rfl) (by rfl)) (by rfl) (PU g1 h1 _) ?_; (rintro e g4 Ln h4 ⟨cz, es, zz, k1, k2, hz, hm'⟩; have k2 := k2.symm; subst k1; subst k2; have HZ := Hn.mk (And.intro hz hm'); obtain ⟨qk, qb, qn, qs, qi, qil, qic, qm, qml, qmc, rfl⟩ := hz.form; clear hz hm'; refine CallK.ret ?_)) | refine stS ?_ | (refine stB ?_; intro _) | fail)
      refine TQ.endR2 (L' := L) Tryz.results38 rvA rvA rfl (h1.trans h4) ?_ selF
      exact one_end HZ.out (by omega)
    · rw [if_neg h0]
      obtain ⟨E, rfl⟩ : ∃ E : Nat, q = (E : Int) := ⟨q.toNat, by omega⟩
      have HX := Hn.mk K.hx
      have H0 := Hn.mk h0
      clear K vb qb hr h0
      repeat' (first | refine wkQ ?_ | (refine TL.call (Enters.plain (by kernel_rfl) (by rfl)) (by rfl) (GU _) ?_; (rintro e g1 Ln h1 ⟨c1, b1, k1, k2, r1⟩; have k2 := k2.symm; subst k1; subst k2; (obtain ⟨rfl, rfl⟩ := r1); refine CallK.ret ?_)) | ((with_reducible apply TL.gives_plain); (· kernel_rfl); (· rfl); (· exact PF g1 _); (· rfl)) | ((with_reducible apply TL.gives_plain); (· kernel_rfl); (· rfl); (· exact PP g1 _); (· rfl)) | refine stS ?_ | (refine stB ?_; intro _) | fail)
      refine TQ.endR2 (L' := L) Tryz.results38 rvA rvA rfl (h1) ?_ selF
      exact one_end (m := m) (o := (E, none)) (z := x) ⟨IsV.le h1 _ _ HX.out, rfl, by have := H0.out; omega⟩ (by omega)
  | some z =>
    rw [hg] at GU
    obtain ⟨zk, zb, zn, zs, zit, znm⟩ := z
    rw [show Option.map toJ (some (.mk zk zb zn zs zit znm)) = some (toJ (.mk zk zb zn zs zit znm)) from rfl, numAt_toJ]
    have zb0 := one_num hg K
    dsimp only at GU ⊢
    clear hg
    by_cases hk : zk = 2
    · subst hk
      rw [if_pos rfl]
      have zbb := zb0 rfl
      dsimp only
      have PF := fun g L => rTimes_gives zn n g L (by omega) (by omega) yn.1 yn.2
      have PP := fun g L => rPlus_gives zn n g L (by omega) (by omega) yn.1 yn.2
      have vb := timesL_val zn n
      have qb := timesL_bd zn n
      obtain ⟨r, q, hr⟩ : ∃ r q, timesL zn n = (r, q) := ⟨_, _, rfl⟩
      rw [hr] at PF vb qb ⊢
      dsimp only at PF vb qb ⊢
      by_cases h0 : q = 0
      · subst h0
        rw [if_pos rfl]
        have PU := fun g1 (h : g.le g1) L => K.num h vb L
        unfold PutsDR at PU
        clear K vb qb hr
        repeat' (first | refine wkQ ?_ | refine wkV ?_ | (refine TL.call (Enters.plain (by kernel_rfl) (by rfl)) (by rfl) (GU _) ?_; (rintro e g1 Ln h1 ⟨c1, b1, k1, k2, r1⟩; have k2 := k2.symm; subst k1; subst k2; (obtain ⟨rfl, hz, hw⟩ := r1; rw [IsV] at hz; obtain ⟨zv, zw, zf, rfl, _, _, _, zS, _, _, zT, _⟩ := hz; obtain ⟨za, zc, rfl⟩ := zS.slice; obtain ⟨zA1, zc1, rfl⟩ := zT.slice; clear zS zT hw); refine CallK.ret ?_)) | ((with_reducible apply TL.gives_plain); (· kernel_rfl); (· rfl); (· exact PF g1 _); (· rfl)) | ((with_reducible apply TL.gives_plain); (· kernel_rfl); (· rfl); (· exact PP g1 _); (· rfl)) | (refine TL.call (Enters.plain (by kernel_rfl) (by rfl)) (by rfl) (PU g1 h1 _) ?_; (rintro e g4 Ln h4 ⟨cz, es, zz, k1, k2, hz, hm'⟩; have k2 := k2.symm; subst k1; subst k2; have HZ := Hn.mk (And.intro hz hm'); obtain ⟨qk, qb, qn, qs, qi, qil, qic, qm, qml, qmc, rfl⟩ := hz.form; clear hz hm'; refine CallK.ret ?_)) | refine stS ?_ | (refine stB ?_; intro _) | fail)
        refine TQ.endR2 (L' := L) Tryz.results38 rvA rvA rfl (h1.trans h4) ?_ selF
        exact one_end HZ.out (by omega)
      · rw [if_neg h0]
        obtain ⟨E, rfl⟩ : ∃ E : Nat, q = (E : Int) := ⟨q.toNat, by omega⟩
        have HX := Hn.mk K.hx
        have H0 := Hn.mk h0
        clear K vb qb hr h0
        repeat' (first | refine wkQ ?_ | (refine TL.call (Enters.plain (by kernel_rfl) (by rfl)) (by rfl) (GU _) ?_; (rintro e g1 Ln h1 ⟨c1, b1, k1, k2, r1⟩; have k2 := k2.symm; subst k1; subst k2; (obtain ⟨rfl, hz, hw⟩ := r1; rw [IsV] at hz; obtain ⟨zv, zw, zf, rfl, _, _, _, zS, _, _, zT, _⟩ := hz; obtain ⟨za, zc, rfl⟩ := zS.slice; obtain ⟨zA1, zc1, rfl⟩ := zT.slice; clear zS zT hw); refine CallK.ret ?_)) | ((with_reducible apply TL.gives_plain); (· kernel_rfl); (· rfl); (· exact PF g1 _); (· rfl)) | ((with_reducible apply TL.gives_plain); (· kernel_rfl); (· rfl); (· exact PP g1 _); (· rfl)) | refine stS ?_ | (refine stB ?_; intro _) | fail)
        refine TQ.endR2 (L' := L) Tryz.results38 rvA rvA rfl (h1) ?_ selF
        exact one_end (m := m) (o := (E, none)) (z := x) ⟨IsV.le h1 _ _ HX.out, rfl, by have := H0.out; omega⟩ (by omega)
    · rw [if_neg hk]
      have HX := Hn.mk K.hx
      have HK := Hn.mk hk
      dsimp only
      clear K zb0 hk
      repeat' (first | refine wkQ ?_ | (refine TL.call (Enters.plain (by kernel_rfl) (by rfl)) (by rfl) (GU _) ?_; (rintro e g1 Ln h1 ⟨c1, b1, k1, k2, r1⟩; have k2 := k2.symm; subst k1; subst k2; (obtain ⟨rfl, hz, hw⟩ := r1; rw [IsV] at hz; obtain ⟨zv, zw, zf, rfl, _, _, _, zS, _, _, zT, _⟩ := hz; obtain ⟨za, zc, rfl⟩ := zS.slice; obtain ⟨zA1, zc1, rfl⟩ := zT.slice; clear zS zT hw); refine CallK.ret ?_)) | refine stS ?_ | (refine stB ?_; intro _) | fail)
      refine TQ.endR2 (L' := L) Tryz.results38 rvA rvA rfl (h1) ?_ selF
      exact one_end (m := m) (o := (14, none)) (es := 14) (z := x) ⟨IsV.le h1 _ _ HX.out, rfl, by decide⟩ (by omega)
end Go.Proofs.YthngolfabfijpaaGreatDoor
namespace Go.Proofs.YthngolfabfijpaaGreatDoor
open Go.RowKit Go.TL
set_option maxRecDepth 100000

mutual
theorem ok_may : ∀ (x : DV) (w : Nat), (0 ≤ x.kind → mayV x w = 0 → okV x)
  | .mk k b n s items names, w, h0, h => by
    have h0 : 0 ≤ k := h0
    rw [mayV] at h
    rw [okV]
    by_cases k0 : k = 0 ∨ k = 1
    · exact ⟨h0, by omega, fun h => by omega⟩
    rw [if_neg k0] at h
    by_cases k2 : k = 2
    · exact ⟨h0, by omega, fun h => by omega⟩
    rw [if_neg k2] at h
    by_cases k3 : k = 3
    · exact ⟨h0, by omega, fun h => by omega⟩
    rw [if_neg k3] at h
    by_cases k4 : k = 4
    · rw [if_pos k4] at h
      split at h
      · cases h
      · exact ⟨h0, by omega, fun _ => oks_may items w h⟩
    rw [if_neg k4] at h
    by_cases k5 : k = 5
    · rw [if_pos k5] at h
      split at h
      · cases h
      · exact ⟨h0, by omega, fun _ => oko_may [] names items w h⟩
    rw [if_neg k5] at h
    cases h
theorem oks_may : ∀ (l : List DV) (w : Nat), mays l w = 0 → okVs l
  | [], _, _ => by rw [okVs]; trivial
  | x :: r, w, h => by
    rw [mays] at h
    split at h
    · rename_i h1
      rw [okVs]
      exact ⟨ok_may' x (w + 1) h1, oks_may r w h⟩
    · omega
theorem oko_may : ∀ (seen ns : List (List UInt8)) (l : List DV) (w : Nat), mayo seen ns l w = 0 → okVs l
  | _, _, [], _, _ => by rw [okVs]; trivial
  | seen, ns, x :: r, w, h => by
    rw [mayo] at h
    split at h
    · cases h
    split at h
    · cases h
    split at h
    · rename_i h1
      rw [okVs]
      exact ⟨ok_may' x (w + 1) h1, oko_may _ _ r w h⟩
    · omega
theorem ok_may' : ∀ (x : DV) (w : Nat), mayV x w = 0 → okV x
  | .mk k b n s items names, w, h => by
    rw [mayV] at h
    rw [okV]
    by_cases k0 : k = 0 ∨ k = 1
    · exact ⟨by omega, by omega, fun h => by omega⟩
    rw [if_neg k0] at h
    by_cases k2 : k = 2
    · exact ⟨by omega, by omega, fun h => by omega⟩
    rw [if_neg k2] at h
    by_cases k3 : k = 3
    · exact ⟨by omega, by omega, fun h => by omega⟩
    rw [if_neg k3] at h
    by_cases k4 : k = 4
    · rw [if_pos k4] at h
      split at h
      · cases h
      · exact ⟨by omega, by omega, fun _ => oks_may items w h⟩
    rw [if_neg k4] at h
    by_cases k5 : k = 5
    · rw [if_pos k5] at h
      split at h
      · cases h
      · exact ⟨by omega, by omega, fun _ => oko_may [] names items w h⟩
    rw [if_neg k5] at h
    cases h
end
theorem kind_toJ (x : DV) (h0 : 0 ≤ x.kind) (h5 : x.kind ≤ 5) : kindJ (toJ x) = rankV x := by
  obtain ⟨k, b, n, s, items, names⟩ := x
  have h0 : 0 ≤ k := h0
  have h5 : k ≤ 5 := h5
  rw [toJ_eq, rankV_eq]
  by_cases k0 : k = 0
  · rw [if_pos k0, if_pos k0]; rfl
  rw [if_neg k0, if_neg k0]
  by_cases k1 : k = 1
  · rw [if_pos k1, if_pos k1]; rfl
  rw [if_neg k1, if_neg k1]
  by_cases k2 : k = 2
  · rw [if_pos k2]; show (4 : Int) = _; omega
  rw [if_neg k2]
  by_cases k3 : k = 3
  · rw [if_pos k3]; show (5 : Int) = _; omega
  rw [if_neg k3]
  by_cases k4 : k = 4
  · rw [if_pos k4]; show (6 : Int) = _; omega
  rw [if_neg k4, if_pos (by omega)]
  show (7 : Int) = _; omega
theorem cmp_toJ : ∀ (N : Nat) (x : DV), dsz x ≤ N → ∀ y, okV x → okV y → cmpJ (toJ x) (toJ y) = cmpV x y
  | 0, .mk .., h, _, _, _ => by rw [dsz] at h; omega
  | N + 1, .mk k b n s items names, h, .mk k' b' n' s' items' names', hx, hy => by
    have IH := cmp_toJ N
    rw [dsz] at h
    have hx2 := hx
    have hy2 := hy
    rw [okV] at hx2 hy2
    obtain ⟨x0, x5, xs⟩ := hx2
    obtain ⟨y0, y5, ys⟩ := hy2
    have kx := kind_toJ (.mk k b n s items names) x0 x5
    have ky := kind_toJ (.mk k' b' n' s' items' names') y0 y5
    rw [cmpV]
    have HS : ∀ (o : Bool) (l l' : List DV) (a a' c c' : List (List UInt8)) (p q : Nat), dszs l ≤ N → okVs l → okVs l' → (o = true → a = c ∧ a' = c') → cmpJs o c c' (l.map toJ) (l'.map toJ) p q = cmpVs o a a' l l' p q := by
      intro o l
      induction l with
      | nil => intro l' a a' c c' p q _ _ _ _; rw [List.map_nil, cmpJs, cmpVs]
      | cons x r ih =>
        intro l' a a' c c' p q hd ho ho' hn
        rw [dszs] at hd
        rw [okVs] at ho
        cases l' with
        | nil => rw [List.map_cons, List.map_nil, cmpJs, cmpVs]
        | cons y t =>
          rw [okVs] at ho'
          rw [List.map_cons, List.map_cons, cmpJs, cmpVs, IH x (by omega) y ho.1 ho'.1]
          by_cases hot : o = true
          · obtain ⟨rfl, rfl⟩ := hn hot
            rw [ih t _ _ _ _ p q (by omega) ho.2 ho'.2 (fun _ => ⟨rfl, rfl⟩)]
          · rw [if_neg (show ¬ (o = true ∧ c.headD [] ≠ c'.headD []) from fun e => hot e.1), if_neg (show ¬ (o = true ∧ a.headD [] ≠ a'.headD []) from fun e => hot e.1), ih t a.tail a'.tail c.tail c'.tail p q (by omega) ho.2 ho'.2 (fun e => absurd e hot)]
    by_cases hr : rankV (.mk k b n s items names) = rankV (.mk k' b' n' s' items' names')
    · rw [if_neg (fun e => e hr)]
      rw [rankV_eq, rankV_eq] at hr
      have hkk : k = k' := by
        by_cases e0 : k = 0
        · rw [if_pos e0] at hr
          by_cases f0 : k' = 0
          · omega
          · rw [if_neg f0] at hr
            split at hr
            · split at hr <;> omega
            · omega
        · rw [if_neg e0] at hr
          by_cases e1 : k = 1
          · rw [if_pos e1] at hr
            by_cases f0 : k' = 0
            · rw [if_pos f0] at hr; split at hr <;> omega
            · rw [if_neg f0] at hr
              by_cases f1 : k' = 1
              · omega
              · rw [if_neg f1] at hr; split at hr <;> omega
          · rw [if_neg e1] at hr
            by_cases f0 : k' = 0
            · rw [if_pos f0] at hr; omega
            · rw [if_neg f0] at hr
              by_cases f1 : k' = 1
              · rw [if_pos f1] at hr; split at hr <;> omega
              · rw [if_neg f1] at hr; omega
      subst hkk
      rw [toJ_eq, toJ_eq]
      by_cases k0 : k = 0
      · subst k0
        rw [if_pos rfl, if_pos rfl, cmpJ]; rfl
      rw [if_neg k0, if_neg k0]
      by_cases k1 : k = 1
      · subst k1
        rw [if_pos rfl, if_pos rfl, cmpJ]
        have hbb : (if b = true then (3 : Int) else 2) = (if b' = true then 3 else 2) := by simpa using hr
        show cmpI (if b = true then 3 else 2) (if b' = true then 3 else 2) = 0
        rw [hbb]; exact cmpI_self _
      rw [if_neg k1, if_neg k1]
      by_cases k2 : k = 2
      · rw [if_pos k2, if_pos k2, if_pos k2, cmpJ]; rfl
      rw [if_neg k2, if_neg k2, if_neg k2]
      by_cases k3 : k = 3
      · rw [if_pos k3, if_pos k3, if_pos k3, cmpJ]; rfl
      rw [if_neg k3, if_neg k3, if_neg k3]
      by_cases k4 : k = 4
      · rw [if_pos k4, if_pos k4, if_pos (.inl k4), cmpJ, List.length_map, List.length_map]
        rw [show decide (k = 5) = false by simp; omega]
        exact HS false items items' names names' [] [] _ _ (by omega) (xs (.inl k4)) (ys (.inl k4)) (fun e => by cases e)
      rw [if_neg k4, if_neg k4]
      have k5 : k = 5 := by omega
      rw [if_pos k5, if_pos k5, if_pos (.inr k5), cmpJ, List.length_map, List.length_map]
      rw [show decide (k = 5) = true by simp; omega]
      exact HS true items items' names names' names names' _ _ (by omega) (xs (.inr k5)) (ys (.inr k5)) (fun _ => ⟨rfl, rfl⟩)
    · rw [if_pos hr, cmpJ_kind _ _ (by rw [kx, ky]; exact hr), kx, ky]
end Go.Proofs.YthngolfabfijpaaGreatDoor
