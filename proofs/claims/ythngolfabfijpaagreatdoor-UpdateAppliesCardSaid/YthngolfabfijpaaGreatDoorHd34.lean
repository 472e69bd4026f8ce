/-
  The walks of the document's one: the lesser, the greater. The walk of the document's one: what is pushed.
-/
import Derived.Test.YthngolfabfijpaaGreatDoorHd2
import Derived.Test.YthngolfabfijpaaGreatDoorHd25
import Derived.Test.YthngolfabfijpaaGreatDoorHd32
import Derived.Test.YthngolfabfijpaaGreatDoorHd33
import Derived.Test.YthngolfabfijpaaGreatDoorHd7
import Derived.Test.YthngolfabfijpaaGreatDoorHd16
namespace Go.Proofs.YthngolfabfijpaaGreatDoor
open Go.RowKit Go.TL
set_option maxRecDepth 100000

theorem ok_look {x : DV} (h : lookJ (toJ x) 0 = 0) : okV x := by
  rw [look_toJ _ x (Nat.le_refl _)] at h
  exact ok_may' x 0 h
theorem OneOk.cmp {m : Nat} {p : List UInt8} {l : List (List UInt8)} {x y z : DV} {cs us : List Value} {g : Gh} (K : OneOk m p l x y cs us g) (hg : getD l x = some z) (wz : wfV z) (g1 : Gh) (c1 : List Value) (h : g.le g1) (hz : IsV g1 z c1) (L : List Ent) : Gives Tryz.prog 71 #[.agg us.toArray, .agg c1.toArray] g1 L (.int .i64 (cmpV y z)) := by
  have h1 := get_toJ l x
  rw [hg] at h1
  exact rCompare_gives _ y z (Nat.le_refl _) us c1 g1 L (IsV.le h _ _ K.hy) (wf_of_N y m K.wy (by have := K.mu; omega)) (ok_look K.y0) hz wz (ok_look (look_get l (toJ x) _ K.h0 h1))
theorem OneOk.cmpJ {m : Nat} {p : List UInt8} {l : List (List UInt8)} {x y z : DV} {cs us : List Value} {g : Gh} (K : OneOk m p l x y cs us g) (hg : getD l x = some z) : cmpJ (toJ y) (toJ z) = cmpV y z := by
  have h1 := get_toJ l x
  rw [hg] at h1
  exact cmp_toJ _ y (Nat.le_refl _) z (ok_look K.y0) (ok_look (look_get l (toJ x) _ K.h0 h1))
set_option maxHeartbeats 32000000 in
theorem rone_min (m : Nat) (p : List UInt8) (l : List (List UInt8)) (x y : DV) (cs us : List Value) (g : Gh) (L : List Ent) (K : OneOk m p l x y cs us g) : Does Tryz.prog 38 #[.agg cs.toArray, str minB, str p, .agg us.toArray] g L (PutsDR (m + 2) (boundU cmpJ (-1) (toJ x) p (toJ y)) L) := by
  refine Does.of4 Tryz.func38 rfl Tryz.ntmps38 rfl ?_
  have wv := wf_of_N x m K.wx (by have := K.mu; omega)
  have GU := fun L => rget22_does p l x cs g L K.ps K.hx wv
  have PU := fun g1 (h : g.le g1) L => rputs6_does m K.ml (by have := K.mu; omega) p x y cs us g1 L K.pl (IsV.le h _ _ K.hx) (IsV.le h _ _ K.hy) K.wx K.wy
  unfold GetUR at GU
  unfold PutsDR at PU
  unfold boundU
  rw [K.get]
  have HX := Hn.mk K.hx
  have wx := K.wx
  cases hg : getD l x with
  | none =>
    obtain ⟨x0, x1, x2, x3, xi, xil, xic, xn, xnl, xnc, rfl⟩ := K.hx.form
    obtain ⟨y0, y1, y2, y3, yi, yil, yic, yn, ynl, ync, rfl⟩ := K.hy.form
    rw [hg] at GU
    rw [show Option.map toJ none = none from rfl]
    dsimp only at GU ⊢
    clear hg K wv
    repeat' (first | refine wkQ ?_ | (refine TL.call (Enters.plain (by kernel_rfl) (by rfl)) (by rfl) (GU _) ?_; (rintro e g1 Ln h1 ⟨c1, b1, k1, k2, r1⟩; have k2 := k2.symm; subst k1; subst k2; (obtain ⟨rfl, rfl⟩ := r1); refine CallK.ret ?_)) | (refine TL.call (Enters.plain (by kernel_rfl) (by rfl)) (by rfl) (PU g1 h1 _) ?_; (rintro e g4 Ln h4 ⟨cz, es, zz, k1, k2, hz, hm'⟩; have k2 := k2.symm; subst k1; subst k2; have HZ := Hn.mk (And.intro hz hm'); obtain ⟨qk, qb, qn, qs, qi, qil, qic, qm, qml, qmc, rfl⟩ := hz.form; clear hz hm'; refine CallK.ret ?_)) | refine stS ?_ | (refine stB ?_; intro _) | fail)
    refine TQ.endR2 (L' := L) Tryz.results38 rvA rvA rfl (h1.trans h4) ?_ selF
    exact one_end HZ.out (by omega)
  | some z =>
    rw [hg] at GU
    have CT := fun (g1 : Gh) (c1 : List Value) (h : g.le g1) (hz : IsV g1 z c1) (hw : wfV z) L => K.cmp hg hw g1 c1 h hz L
    obtain ⟨x0, x1, x2, x3, xi, xil, xic, xn, xnl, xnc, rfl⟩ := K.hx.form
    obtain ⟨y0, y1, y2, y3, yi, yil, yic, yn, ynl, ync, rfl⟩ := K.hy.form
    rw [show Option.map toJ (some z) = some (toJ z) from rfl]
    dsimp only at GU ⊢
    rw [K.cmpJ hg]
    have hb := cmpV_bd y z
    generalize cmpV y z = c at CT hb ⊢
    clear hg K wv
    have hc : c = -1 ∨ c = 0 ∨ c = 1 := by omega
    clear hb
    rcases hc with rfl | rfl | rfl
    · rw [if_pos (by decide)]
      repeat' (first | refine wkQ ?_ | (refine TL.call (Enters.plain (by kernel_rfl) (by rfl)) (by rfl) (GU _) ?_; (rintro e g1 Ln h1 ⟨c1, b1, k1, k2, r1⟩; have k2 := k2.symm; subst k1; subst k2; (obtain ⟨rfl, hz, hw⟩ := r1; have C1 := CT g1 c1 h1 hz hw; obtain ⟨zk, zb, zn, zs, zi, zil, zic, zm, zml, zmc, rfl⟩ := hz.form; clear hz hw); refine CallK.ret ?_)) | ((with_reducible apply TL.gives_plain); (· kernel_rfl); (· rfl); (· exact C1 _); (· rfl)) | (refine TL.call (Enters.plain (by kernel_rfl) (by rfl)) (by rfl) (PU g1 h1 _) ?_; (rintro e g4 Ln h4 ⟨cz, es, zz, k1, k2, hz, hm'⟩; have k2 := k2.symm; subst k1; subst k2; have HZ := Hn.mk (And.intro hz hm'); obtain ⟨qk, qb, qn, qs, qi, qil, qic, qm, qml, qmc, rfl⟩ := hz.form; clear hz hm'; refine CallK.ret ?_)) | refine stS ?_ | (refine stB ?_; intro _) | fail)
      refine TQ.endR2 (L' := L) Tryz.results38 rvA rvA rfl (h1.trans h4) ?_ selF
      exact one_end HZ.out (by omega)
    · rw [if_neg (by decide)]
      clear PU
      repeat' (first | refine wkQ ?_ | (refine TL.call (Enters.plain (by kernel_rfl) (by rfl)) (by rfl) (GU _) ?_; (rintro e g1 Ln h1 ⟨c1, b1, k1, k2, r1⟩; have k2 := k2.symm; subst k1; subst k2; (obtain ⟨rfl, hz, hw⟩ := r1; have C1 := CT g1 c1 h1 hz hw; obtain ⟨zk, zb, zn, zs, zi, zil, zic, zm, zml, zmc, rfl⟩ := hz.form; clear hz hw); refine CallK.ret ?_)) | ((with_reducible apply TL.gives_plain); (· kernel_rfl); (· rfl); (· exact C1 _); (· rfl)) | refine stS ?_ | (refine stB ?_; intro _) | fail)
      refine TQ.endR2 (L' := L) Tryz.results38 rvA rvA rfl (h1) ?_ selF
      exact one_end (o := (0, some (toJ x))) (m := m) (es := 0) ⟨IsV.le h1 _ _ HX.out, rfl, rfl, wx⟩ (by omega)
    · rw [if_neg (by decide)]
      clear PU
      repeat' (first | refine wkQ ?_ | (refine TL.call (Enters.plain (by kernel_rfl) (by rfl)) (by rfl) (GU _) ?_; (rintro e g1 Ln h1 ⟨c1, b1, k1, k2, r1⟩; have k2 := k2.symm; subst k1; subst k2; (obtain ⟨rfl, hz, hw⟩ := r1; have C1 := CT g1 c1 h1 hz hw; obtain ⟨zk, zb, zn, zs, zi, zil, zic, zm, zml, zmc, rfl⟩ := hz.form; clear hz hw); refine CallK.ret ?_)) | ((with_reducible apply TL.gives_plain); (· kernel_rfl); (· rfl); (· exact C1 _); (· rfl)) | refine stS ?_ | (refine stB ?_; intro _) | fail)
      refine TQ.endR2 (L' := L) Tryz.results38 rvA rvA rfl (h1) ?_ selF
      exact one_end (o := (0, some (toJ x))) (m := m) (es := 0) ⟨IsV.le h1 _ _ HX.out, rfl, rfl, wx⟩ (by omega)
set_option maxHeartbeats 32000000 in
theorem rone_max (m : Nat) (p : List UInt8) (l : List (List UInt8)) (x y : DV) (cs us : List Value) (g : Gh) (L : List Ent) (K : OneOk m p l x y cs us g) : Does Tryz.prog 38 #[.agg cs.toArray, str maxB, str p, .agg us.toArray] g L (PutsDR (m + 2) (boundU cmpJ (1) (toJ x) p (toJ y)) L) := by
  refine Does.of4 Tryz.func38 rfl Tryz.ntmps38 rfl ?_
  have wv := wf_of_N x m K.wx (by have := K.mu; omega)
  have GU := fun L => rget22_does p l x cs g L K.ps K.hx wv
  have PU := fun g1 (h : g.le g1) L => rputs6_does m K.ml (by have := K.mu; omega) p x y cs us g1 L K.pl (IsV.le h _ _ K.hx) (IsV.le h _ _ K.hy) K.wx K.wy
  unfold GetUR at GU
  unfold PutsDR at PU
  unfold boundU
  rw [K.get]
  have HX := Hn.mk K.hx
  have wx := K.wx
  cases hg : getD l x with
  | none =>
    obtain ⟨x0, x1, x2, x3, xi, xil, xic, xn, xnl, xnc, rfl⟩ := K.hx.form
    obtain ⟨y0, y1, y2, y3, yi, yil, yic, yn, ynl, ync, rfl⟩ := K.hy.form
    rw [hg] at GU
    rw [show Option.map toJ none = none from rfl]
    dsimp only at GU ⊢
    clear hg K wv
    repeat' (first | refine wkQ ?_ | (refine TL.call (Enters.plain (by kernel_rfl) (by rfl)) (by rfl) (GU _) ?_; (rintro e g1 Ln h1 ⟨c1, b1, k1, k2, r1⟩; have k2 := k2.symm; subst k1; subst k2; (obtain ⟨rfl, rfl⟩ := r1); refine CallK.ret ?_)) | (refine TL.call (Enters.plain (by kernel_rfl) (by rfl)) (by rfl) (PU g1 h1 _) ?_; (rintro e g4 Ln h4 ⟨cz, es, zz, k1, k2, hz, hm'⟩; have k2 := k2.symm; subst k1; subst k2; have HZ := Hn.mk (And.intro hz hm'); obtain ⟨qk, qb, qn, qs, qi, qil, qic, qm, qml, qmc, rfl⟩ := hz.form; clear hz hm'; refine CallK.ret ?_)) | refine stS ?_ | (refine stB ?_; intro _) | fail)
    refine TQ.endR2 (L' := L) Tryz.results38 rvA rvA rfl (h1.trans h4) ?_ selF
    exact one_end HZ.out (by omega)
  | some z =>
    rw [hg] at GU
    have CT := fun (g1 : Gh) (c1 : List Value) (h : g.le g1) (hz : IsV g1 z c1) (hw : wfV z) L => K.cmp hg hw g1 c1 h hz L
    obtain ⟨x0, x1, x2, x3, xi, xil, xic, xn, xnl, xnc, rfl⟩ := K.hx.form
    obtain ⟨y0, y1, y2, y3, yi, yil, yic, yn, ynl, ync, rfl⟩ := K.hy.form
    rw [show Option.map toJ (some z) = some (toJ z) from rfl]
    dsimp only at GU ⊢
    rw [K.cmpJ hg]
    have hb := cmpV_bd y z
    generalize cmpV y z = c at CT hb ⊢
    clear hg K wv
    have hc : c = -1 ∨ c = 0 ∨ c = 1 := by omega
    clear hb
    rcases hc with rfl | rfl | rfl
    · rw [if_neg (by decide)]
      clear PU
      repeat' (first | refine wkQ ?_ | (refine TL.call (Enters.plain (by kernel_rfl) (by rfl)) (by rfl) (GU _) ?_; (rintro e g1 Ln h1 ⟨c1, b1, k1, k2, r1⟩; have k2 := k2.symm; subst k1; subst k2; (obtain ⟨rfl, hz, hw⟩ := r1; have C1 := CT g1 c1 h1 hz hw; obtain ⟨zk, zb, zn, zs, zi, zil, zic, zm, zml, zmc, rfl⟩ := hz.form; clear hz hw); refine CallK.ret ?_)) | ((with_reducible apply TL.gives_plain); (· kernel_rfl); (· rfl); (· exact C1 _); (· rfl)) | refine stS ?_ | (refine stB ?_; intro _) | fail)
      refine TQ.endR2 (L' := L) Tryz.results38 rvA rvA rfl (h1) ?_ selF
      exact one_end (o := (0, some (toJ x))) (m := m) (es := 0) ⟨IsV.le h1 _ _ HX.out, rfl, rfl, wx⟩ (by omega)
    · rw [if_neg (by decide)]
      clear PU
      repeat' (first | refine wkQ ?_ | (refine TL.call (Enters.plain (by kernel_rfl) (by rfl)) (by rfl) (GU _) ?_; (rintro e g1 Ln h1 ⟨c1, b1, k1, k2, r1⟩; have k2 := k2.symm; subst k1; subst k2; (obtain ⟨rfl, hz, hw⟩ := r1; have C1 := CT g1 c1 h1 hz hw; obtain ⟨zk, zb, zn, zs, zi, zil, zic, zm, zml, zmc, rfl⟩ := hz.form; clear hz hw); refine CallK.ret ?_)) | ((with_reducible apply TL.gives_plain); (· kernel_rfl); (· rfl); (· exact C1 _); (· rfl)) | refine stS ?_ | (refine stB ?_; intro _) | fail)
      refine TQ.endR2 (L' := L) Tryz.results38 rvA rvA rfl (h1) ?_ selF
      exact one_end (o := (0, some (toJ x))) (m := m) (es := 0) ⟨IsV.le h1 _ _ HX.out, rfl, rfl, wx⟩ (by omega)
    · rw [if_pos (by decide)]
      repeat' (first | refine wkQ ?_ | (refine TL.call (Enters.plain (by kernel_rfl) (by rfl)) (by rfl) (GU _) ?_; (rintro e g1 Ln h1 ⟨c1, b1, k1, k2, r1⟩; have k2 := k2.symm; subst k1; subst k2; (obtain ⟨rfl, hz, hw⟩ := r1; have C1 := CT g1 c1 h1 hz hw; obtain ⟨zk, zb, zn, zs, zi, zil, zic, zm, zml, zmc, rfl⟩ := hz.form; clear hz hw); refine CallK.ret ?_)) | ((with_reducible apply TL.gives_plain); (· kernel_rfl); (· rfl); (· exact C1 _); (· rfl)) | (refine TL.call (Enters.plain (by kernel_rfl) (by rfl)) (by rfl) (PU g1 h1 _) ?_; (rintro e g4 Ln h4 ⟨cz, es, zz, k1, k2, hz, hm'⟩; have k2 := k2.symm; subst k1; subst k2; have HZ := Hn.mk (And.intro hz hm'); obtain ⟨qk, qb, qn, qs, qi, qil, qic, qm, qml, qmc, rfl⟩ := hz.form; clear hz hm'; refine CallK.ret ?_)) | refine stS ?_ | (refine stB ?_; intro _) | fail)
      refine TQ.endR2 (L' := L) Tryz.results38 rvA rvA rfl (h1.trans h4) ?_ selF
      exact one_end HZ.out (by omega)
end Go.Proofs.YthngolfabfijpaaGreatDoor
namespace Go.Proofs.YthngolfabfijpaaGreatDoor
open Go.RowKit Go.TL
set_option maxRecDepth 100000

theorem toJ_listD (items : List DV) : toJ (.mk 4 false 0 [] items []) = .list (items.map toJ) := by rw [toJ_eq]; simp
theorem isV_list {g : Gh} {items : List DV} {flat : List Value} {a : Option Addr} {c n : Nat} (hn : n = items.length) (hS : Sl g (.slice a n c) n 6 flat) (hl : n ≤ 9223372036854775807) (hI : IsVs g items flat) : IsV g (.mk 4 false 0 [] items []) [.int .i64 4, .bool false, .int .i64 0, .string ⟨#[]⟩, .slice a n c, .slice none 0 0] := by
  subst hn
  rw [IsV]
  exact ⟨_, _, flat, rfl, ⟨by decide, by decide⟩, ⟨by decide, by decide⟩, by decide, hS, hl, hI, .nil, by simp, fun x hx => by cases hx⟩
theorem wfN_list {m : Nat} {items : List DV} (hl : items.length ≤ m) (h : wfNs m items) : wfN m (.mk 4 false 0 [] items []) := by
  rw [wfN]
  exact ⟨Nat.zero_le _, hl, fun h => absurd h (by decide), fun _ => h⟩
theorem getD_wfN : ∀ (l : List (List UInt8)) (x z : DV) (m : Nat), getD l x = some z → wfN m x → wfN m z
  | [], x, z, m, h, hw => by rw [getD] at h; obtain rfl := Option.some.inj h; exact hw
  | s :: r, .mk k b n t items names, z, m, h, hw => by
    rw [getD] at h
    obtain ⟨y, h1, h2⟩ := Option.bind_eq_some_iff.1 h
    obtain ⟨i, h3, h4⟩ := Option.bind_eq_some_iff.1 h1
    rw [wfN] at hw
    have hk := (at_lt h3 (fun e => (hw.2.2.1 e).1)).2
    exact getD_wfN r y z m h2 ((hw.2.2.2 hk).get h4)
theorem toJ_listK {x : DV} {l : List J} (h : toJ x = .list l) : ∃ b n s items names, x = .mk 4 b n s items names ∧ l = items.map toJ := by
  obtain ⟨k, b, m, t, items, names⟩ := x
  rw [toJ_eq] at h
  split at h
  · cases h
  split at h
  · cases h
  split at h
  · cases h
  split at h
  · cases h
  split at h
  · rename_i e
    injection h with h
    subst h; subst e
    exact ⟨b, m, t, items, names, rfl, rfl⟩
  split at h
  · cases h
  · cases h
theorem push_toJ (x : J) (p : List UInt8) (v : J) (k : Int) (b : Bool) (n : Int) (s : List UInt8) (items : List DV) (names : List (List UInt8)) (h : getP p x = some (toJ (.mk k b n s items names))) : pushU x p v = if k = 4 then putE x p (.list (items.map toJ ++ [v])) else (14, none) := by
  unfold pushU
  rw [h]
  dsimp only
  by_cases hk : k = 4
  · subst hk
    rw [if_pos rfl, show toJ (.mk 4 b n s items names) = .list (items.map toJ) by rw [toJ_eq]; simp]
  · rw [if_neg hk]
    cases hj : toJ (.mk k b n s items names) with
    | list l =>
      obtain ⟨_, _, _, _, _, e, _⟩ := toJ_listK hj
      injection e with e1
      exact absurd e1 hk
    | _ => rfl
theorem OneOk.list {m : Nat} {p : List UInt8} {l : List (List UInt8)} {x y : DV} {cs us : List Value} {g : Gh} (K : OneOk m p l x y cs us g) {g1 : Gh} (h : g.le g1) {items : List DV} {flat : List Value} {a : Option Addr} {c n : Nat} (hn : n = items.length) (hl : items.length ≤ m + 1) (hS : Sl g1 (.slice a n c) n 6 flat) (hI : IsVs g1 items flat) (hw : wfNs m items) (L : List Ent) : Does Tryz.prog 72 #[.agg cs.toArray, str p, .agg #[.int .i64 4, .bool false, .int .i64 0, .string ⟨#[]⟩, .slice a n c, .slice none 0 0]] g1 L (PutsDR (m + 2) (putE (toJ x) p (.list (items.map toJ))) L) := by
  have hm := K.mu
  have D := rputs6_does (m + 1) (by have := K.ml; omega) (by omega) p x (.mk 4 false 0 [] items []) cs _ g1 L K.pl (IsV.le h _ _ K.hx) (isV_list hn hS (by omega) hI) (wfN_up x m _ K.wx (by omega)) (wfN_list hl (wfNs_up _ _ _ hw (by omega)))
  rw [toJ_listD] at D
  exact D
set_option maxHeartbeats 64000000 in
theorem rone_push (m : Nat) (p : List UInt8) (l : List (List UInt8)) (x y : DV) (cs us : List Value) (g : Gh) (L : List Ent) (K : OneOk m p l x y cs us g) : Does Tryz.prog 38 #[.agg cs.toArray, str pushB, str p, .agg us.toArray] g L (PutsDR (m + 2) (pushU (toJ x) p (toJ y)) L) := by
  refine Does.of4 Tryz.func38 rfl Tryz.ntmps38 rfl ?_
  have wv := wf_of_N x m K.wx (by have := K.mu; omega)
  have GU := fun L => rget22_does p l x cs g L K.ps K.hx wv
  unfold GetUR at GU
  have HX := Hn.mk K.hx
  have hY := K.hy
  have hul := hY.len
  have huo := hY.ones
  cases hg : getD l x with
  | none =>
    obtain ⟨x0, x1, x2, x3, xi, xil, xic, xn, xnl, xnc, rfl⟩ := K.hx.form
    obtain ⟨y0, y1, y2, y3, yi, yil, yic, yn, ynl, ync, rfl⟩ := K.hy.form
    rw [hg] at GU
    rw [show pushU (toJ x) p (toJ y) = putE (toJ x) p (.list [toJ y]) by unfold pushU; rw [K.get, hg]; rfl]
    dsimp only at GU
    have SN : ∀ g1 : Gh, Sl g1 (.slice none 0 0) 0 6 [] := fun g1 => .nil
    have hfl : ([] : List Value).length = 0 * 6 := rfl
    have hfo : ([] : List Value).all Value.one = true := rfl
    have HK := Hn.mk K
    have HW := Hn.mk wv
    have HY := Hn.mk hY
    clear hg K wv hY
    repeat' (first | refine wkQ ?_ | (refine TL.call (Enters.plain (by kernel_rfl) (by rfl)) (by rfl) (GU _) ?_; (rintro e g1 Ln h1 ⟨c1, b1, k1, k2, r1⟩; have k2 := k2.symm; subst k1; subst k2; (obtain ⟨rfl, rfl⟩ := r1; have hSN := SN g1); refine CallK.ret ?_)) | refine TC.region_sink 8 9 (_) (by kernel_rfl) (by decide +kernel) rfl selF ?_ | ((with_reducible apply TB.takeF 1); (· rfl); (· decide +kernel); (· rfl); (· first | (first | exact yQ | exact yA | exact yB | exact yM | exact yV) | fail); (· decide +kernel); (· decide +kernel); (· rfl); (· exact fun _ _ _ h => h); (· rfl)) | ((with_reducible apply TB.takeF 2); (· rfl); (· decide +kernel); (· rfl); (· first | (first | exact yQ | exact yA | exact yB | exact yM | exact yV) | fail); (· decide +kernel); (· decide +kernel); (· rfl); (· exact fun _ _ _ h => h); (· rfl)) | ((with_reducible apply TB.takeF 4); (· rfl); (· decide +kernel); (· rfl); (· first | (first | exact yQ | exact yA | exact yB | exact yM | exact yV) | fail); (· decide +kernel); (· decide +kernel); (· rfl); (· exact fun _ _ _ h => h); (· rfl)) | ((with_reducible apply TB.takeF 7); (· rfl); (· decide +kernel); (· rfl); (· first | (first | exact yQ | exact yA | exact yB | exact yM | exact yV) | fail); (· decide +kernel); (· decide +kernel); (· rfl); (· exact fun _ _ _ h => h); (· rfl)) | ((with_reducible apply TB.two 0 5); (· rfl); (· rfl); (· decide +kernel); (· rfl); (· rfl); intro hsk; rotate_left; intro hsk; rotate_left) | ((with_reducible apply TB.two 3 5); (· rfl); (· rfl); (· decide +kernel); (· rfl); (· rfl); intro hsk; rotate_left; intro hsk; rotate_left) | ((with_reducible apply TB.oneF 0); (· rfl); (· rfl); (· decide +kernel); (· rfl); intro hsk) | ((with_reducible apply TB.oneF 3); (· rfl); (· rfl); (· decide +kernel); (· rfl); intro hsk) | ((with_reducible apply TB.oneF 5); (· rfl); (· rfl); (· decide +kernel); (· rfl); intro hsk) | ((with_reducible apply TB.oneF 6); (· rfl); (· rfl); (· decide +kernel); (· rfl); intro hsk) | ((with_reducible apply TB.oneF 8); (· rfl); (· rfl); (· decide +kernel); (· rfl); intro hsk) | refine TQ.lastT (by decide +kernel) ?_ | refine TQ.anyT (by assumption) leF selF ?_ | (refine TL.build_empty (by rfl) (fun bb => ?_); refine TL.obj_row (b := bb) (k := 0) (sz := 6) .here rfl (by decide) ?_) | ((with_reducible apply TL.append (e := 29)); (· rfl); (· rfl); (· rfl); (· rfl); (· exact pkA); (· first | exact Src.obj pkA | exact Src.sl (by assumption) | exact Src.row pkA); (· first | exact hfl | exact hul); (· first | exact hfo | exact huo); (· exact ⟨by unfold maxLen; omega, by omega⟩); (· rfl); intro vf; refine Go.TL.TL.row_slice (v := vf) pkA ?_; rintro a2 c2 rfl _; try rw [Nat.zero_add, List.nil_append]) | refine TL.build_one (by rfl) (by first | rfl | assumption) (by rfl) (by rfl) (by rfl) (by rfl) (fun _ => ?_) | refine stS ?_ | (refine stB ?_; intro _) | fail)
    all_goals
      refine TL.freeze (v := .slice a2 1 c2) pkA ?_
      intro g' hg' hsl
      have PU := fun L => HK.out.list (h1.trans hg') (items := [y]) rfl (by have := HK.out.ml; simp) hsl (.one (IsV.le (h1.trans hg') _ _ HY.out)) (by rw [wfNs, wfNs]; exact ⟨HK.out.wy, trivial⟩) L
      rw [show [y].map toJ = [toJ y] from rfl] at PU
      unfold PutsDR at PU
      clear hsl GU SN hfl hfo
      repeat' (first | refine wkQ ?_ | (refine TL.call (Enters.plain (by kernel_rfl) (by rfl)) (by rfl) (PU _) ?_; (rintro e g4 Ln h4 ⟨cz, es, zz, k1, k2, hz, hm'⟩; have k2 := k2.symm; subst k1; subst k2; have HZ := Hn.mk (And.intro hz hm'); obtain ⟨qk, qb, qn, qs, qi, qil, qic, qm, qml, qmc, rfl⟩ := hz.form; clear hz hm'; refine CallK.ret ?_)) | refine stS ?_ | fail)
      refine TQ.endR2 (L' := L) Tryz.results38 rvA rvA rfl (h1.trans (hg'.trans h4)) ?_ selF
      exact one_end HZ.out (by omega)
  | some z =>
    rw [hg] at GU
    obtain ⟨zk, zb, zn, zs, zit, znm⟩ := z
    rw [push_toJ (toJ x) p (toJ y) zk zb zn zs zit znm (by rw [K.get, hg]; rfl)]
    obtain ⟨x0, x1, x2, x3, xi, xil, xic, xn, xnl, xnc, rfl⟩ := K.hx.form
    obtain ⟨y0, y1, y2, y3, yi, yil, yic, yn, ynl, ync, rfl⟩ := K.hy.form
    have hwz := getD_wfN _ _ _ _ hg K.wx
    dsimp only at GU
    by_cases hk : zk = 4
    · subst hk
      rw [if_pos rfl]
      rw [wfN] at hwz
      have hzl : zit.length ≤ 1000000 := by have := hwz.2.1; have := K.mu; omega
      have HK := Hn.mk K
      have HW := Hn.mk wv
      have HY := Hn.mk hY
      clear hg K wv hY
      repeat' (first | refine wkQ ?_ | (refine TL.call (Enters.plain (by kernel_rfl) (by rfl)) (by rfl) (GU _) ?_; (rintro e g1 Ln h1 ⟨c1, b1, k1, k2, r1⟩; have k2 := k2.symm; subst k1; subst k2; (obtain ⟨rfl, hz, hw⟩ := r1; rw [IsV] at hz; obtain ⟨zv, zw, zf, rfl, _, _, _, zS, _, zI, zT, _⟩ := hz; have hfl := zI.len; have hfo := zI.ones; obtain ⟨za, zc, rfl⟩ := zS.slice; obtain ⟨zA1, zc1, rfl⟩ := zT.slice; clear zT hw); refine CallK.ret ?_)) | refine TC.region_sink 8 9 (_) (by kernel_rfl) (by decide +kernel) rfl selF ?_ | ((with_reducible apply TB.takeF 1); (· rfl); (· decide +kernel); (· rfl); (· first | (first | exact yQ | exact yA | exact yB | exact yM | exact yV) | fail); (· decide +kernel); (· decide +kernel); (· rfl); (· exact fun _ _ _ h => h); (· rfl)) | ((with_reducible apply TB.takeF 2); (· rfl); (· decide +kernel); (· rfl); (· first | (first | exact yQ | exact yA | exact yB | exact yM | exact yV) | fail); (· decide +kernel); (· decide +kernel); (· rfl); (· exact fun _ _ _ h => h); (· rfl)) | ((with_reducible apply TB.takeF 4); (· rfl); (· decide +kernel); (· rfl); (· first | (first | exact yQ | exact yA | exact yB | exact yM | exact yV) | fail); (· decide +kernel); (· decide +kernel); (· rfl); (· exact fun _ _ _ h => h); (· rfl)) | ((with_reducible apply TB.takeF 7); (· rfl); (· decide +kernel); (· rfl); (· first | (first | exact yQ | exact yA | exact yB | exact yM | exact yV) | fail); (· decide +kernel); (· decide +kernel); (· rfl); (· exact fun _ _ _ h => h); (· rfl)) | ((with_reducible apply TB.two 0 5); (· rfl); (· rfl); (· decide +kernel); (· rfl); (· rfl); intro hsk; rotate_left; intro hsk; rotate_left) | ((with_reducible apply TB.two 3 5); (· rfl); (· rfl); (· decide +kernel); (· rfl); (· rfl); intro hsk; rotate_left; intro hsk; rotate_left) | ((with_reducible apply TB.oneF 0); (· rfl); (· rfl); (· decide +kernel); (· rfl); intro hsk) | ((with_reducible apply TB.oneF 3); (· rfl); (· rfl); (· decide +kernel); (· rfl); intro hsk) | ((with_reducible apply TB.oneF 5); (· rfl); (· rfl); (· decide +kernel); (· rfl); intro hsk) | ((with_reducible apply TB.oneF 6); (· rfl); (· rfl); (· decide +kernel); (· rfl); intro hsk) | ((with_reducible apply TB.oneF 8); (· rfl); (· rfl); (· decide +kernel); (· rfl); intro hsk) | refine TQ.lastT (by decide +kernel) ?_ | refine TQ.anyT (by assumption) leF selF ?_ | (refine TL.build_empty (by rfl) (fun bb => ?_); refine TL.obj_row (b := bb) (k := 0) (sz := 6) .here rfl (by decide) ?_) | ((with_reducible apply TL.append (e := 29)); (· rfl); (· rfl); (· rfl); (· rfl); (· exact pkA); (· first | exact Src.obj pkA | exact Src.sl (by assumption) | exact Src.row pkA); (· first | exact hfl | exact hul); (· first | exact hfo | exact huo); (· exact ⟨by unfold maxLen; omega, by omega⟩); (· rfl); intro vf; refine Go.TL.TL.row_slice (v := vf) pkA ?_; rintro a2 c2 rfl _; try rw [Nat.zero_add, List.nil_append]) | refine TL.build_one (by rfl) (by first | rfl | assumption) (by rfl) (by rfl) (by rfl) (by rfl) (fun _ => ?_) | refine stS ?_ | (refine stB ?_; intro _) | fail)
      all_goals
        refine TL.freeze (v := .slice a2 (zit.length + 1) c2) pkA ?_
        intro g' hg' hsl
        have PU := fun L => HK.out.list (h1.trans hg') (items := zit ++ [y]) (by simp) (by rw [List.length_append, List.length_singleton]; have := hwz.2.1; omega) hsl (.append (.one (IsV.le (h1.trans hg') _ _ HY.out)) (IsVs.le hg' _ _ zI)) (wfNs.snoc (hwz.2.2.2 (.inl rfl)) HK.out.wy) L
        rw [List.map_append, show [y].map toJ = [toJ y] from rfl] at PU
        unfold PutsDR at PU
        clear hsl GU hfl hfo zS
        repeat' (first | refine wkQ ?_ | (refine TL.call (Enters.plain (by kernel_rfl) (by rfl)) (by rfl) (PU _) ?_; (rintro e g4 Ln h4 ⟨cz, es, zz, k1, k2, hz, hm'⟩; have k2 := k2.symm; subst k1; subst k2; have HZ := Hn.mk (And.intro hz hm'); obtain ⟨qk, qb, qn, qs, qi, qil, qic, qm, qml, qmc, rfl⟩ := hz.form; clear hz hm'; refine CallK.ret ?_)) | refine stS ?_ | fail)
        refine TQ.endR2 (L' := L) Tryz.results38 rvA rvA rfl (h1.trans (hg'.trans h4)) ?_ selF
        exact one_end HZ.out (by omega)
    · rw [if_neg hk]
      have HK := Hn.mk hk
      clear K hk hg wv hY hwz
      repeat' (first | refine wkQ ?_ | (refine TL.call (Enters.plain (by kernel_rfl) (by rfl)) (by rfl) (GU _) ?_; (rintro e g1 Ln h1 ⟨c1, b1, k1, k2, r1⟩; have k2 := k2.symm; subst k1; subst k2; (obtain ⟨rfl, hz, hw⟩ := r1; rw [IsV] at hz; obtain ⟨zv, zw, zf, rfl, _, _, _, zS, _, _, zT, _⟩ := hz; obtain ⟨za, zc, rfl⟩ := zS.slice; obtain ⟨zA1, zc1, rfl⟩ := zT.slice; clear zS zT hw); refine CallK.ret ?_)) | refine stS ?_ | (refine stB ?_; intro _) | fail)
      refine TQ.endR2 (L' := L) Tryz.results38 rvA rvA rfl (h1) ?_ selF
      exact one_end (m := m) (o := (14, none)) (es := 14) (z := x) ⟨IsV.le h1 _ _ HX.out, rfl, by decide⟩ (by omega)
end Go.Proofs.YthngolfabfijpaaGreatDoor
