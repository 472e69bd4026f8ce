/-
  The walk of the document's one: what gets another name. The document's one, whatever is done. The walk of update's push.
-/
import Derived.Test.YthngolfabfijpaaGreatDoorHd2
import Derived.Test.YthngolfabfijpaaGreatDoorHd34
import Derived.Test.YthngolfabfijpaaGreatDoorHd32
import Derived.Test.YthngolfabfijpaaGreatDoorHd28
namespace Go.Proofs.YthngolfabfijpaaGreatDoor
open Go.RowKit Go.TL
set_option maxRecDepth 100000

set_option maxHeartbeats 64000000 in
theorem rone_rename (m : Nat) (p : List UInt8) (l : List (List UInt8)) (x y : DV) (cs us : List Value) (q : List UInt8) (g : Gh) (L : List Ent) (K : OneOk m p l x y cs us g) (hyq : toJ y = .text q) : Does Tryz.prog 38 #[.agg cs.toArray, str renameB, str p, .agg us.toArray] g L (PutsDR (m + 2) (renameU (toJ x) p (toJ y)) L) := by
  refine Does.of4 Tryz.func38 rfl Tryz.ntmps38 rfl ?_
  have hm := K.mu
  have wv := wf_of_N x m K.wx (by omega)
  have GU := fun L => rget22_does p l x cs g L K.ps K.hx wv
  unfold GetUR at GU
  have HX := Hn.mk K.hx
  have wx := K.wx
  unfold renameU
  rw [K.get, hyq]
  obtain ⟨yb, yn, yit, ynm, rfl⟩ := toJ_text hyq
  have hY := K.hy
  have wy := K.wy
  rw [IsV] at hY
  rw [wfN] at wy
  obtain ⟨yv, yw, yf, rfl, _, _, _, yS, _, _, yT, _⟩ := hY
  obtain ⟨ya, yc, rfl⟩ := yS.slice
  obtain ⟨yA1, yc1, rfl⟩ := yT.slice
  clear yS yT
  cases hg : getD l x with
  | none =>
    obtain ⟨x0, x1, x2, x3, xi, xil, xic, xn, xnl, xnc, rfl⟩ := K.hx.form
    rw [hg] at GU
    rw [show Option.map toJ none = none from rfl]
    dsimp only at GU ⊢
    clear hg K wv
    repeat' (first | refine wkQ ?_ | (refine TL.call (Enters.plain (by kernel_rfl) (by rfl)) (by rfl) (GU _) ?_; (rintro e g1 Ln h1 ⟨c1, b1, k1, k2, r1⟩; have k2 := k2.symm; subst k1; subst k2; (obtain ⟨rfl, rfl⟩ := r1); refine CallK.ret ?_)) | refine stS ?_ | (refine stB ?_; intro _) | fail)
    refine TQ.endR2 (L' := L) Tryz.results38 rvA rvA rfl (h1) ?_ selF
    exact one_end (o := (0, some (toJ x))) (m := m) (es := 0) ⟨IsV.le h1 _ _ HX.out, rfl, rfl, wx⟩ (by omega)
  | some z =>
    have hgp : getP p (toJ x) = some (toJ z) := by rw [K.get, hg]; rfl
    obtain ⟨zj, hdr⟩ := dropE_got hgp
    have DR := fun g1 (h : g.le g1) L => rdrops6_does m (by omega) p x cs g1 L K.pl (IsV.le h _ _ K.hx) K.wx
    have wz := getD_wfN _ _ _ _ hg K.wx
    have ml := K.ml
    have PV := fun g2 (cd : List Value) (zd : DV) (hd : IsV g2 zd cd) (hdw : wfN m zd) (c1 : List Value) (h1 : IsV g2 z c1) L => rputs6_does m ml (by omega) q zd z cd c1 g2 L (by have := wy.1; omega) hd h1 hdw wz
    rw [hdr] at DR
    unfold PutsDR at DR PV
    obtain ⟨x0, x1, x2, x3, xi, xil, xic, xn, xnl, xnc, rfl⟩ := K.hx.form
    rw [hg] at GU
    rw [show Option.map toJ (some z) = some (toJ z) from rfl]
    dsimp only at GU DR ⊢
    rw [hdr]
    dsimp only
    clear hg K wv hgp
    repeat' (first | refine wkQ ?_ | (refine TL.call (Enters.plain (by kernel_rfl) (by rfl)) (by rfl) (GU _) ?_; (rintro e g1 Ln h1 ⟨c1, b1, k1, k2, r1⟩; have k2 := k2.symm; subst k1; subst k2; (obtain ⟨rfl, hz, hw⟩ := r1; obtain ⟨zk, zb, zn, zs, zi, zil, zic, zm, zml, zmc, rfl⟩ := hz.form; have HZ0 := Hn.mk hz; clear hz hw); refine CallK.ret ?_)) | (refine TL.call (Enters.plain (by kernel_rfl) (by rfl)) (by rfl) (DR g1 h1 _) ?_; (rintro e g2 Ln h2 ⟨cd, ed, zd, k1, k2, hd, he0, hdj, hdw⟩; have k2 := k2.symm; subst k1; subst k2; (subst he0; have PU := PV g2 cd zd hd hdw _ (IsV.le h2 _ _ HZ0.out); rw [hdj] at PU; obtain ⟨dk, db, dn, ds, di, dil, dic, dm, dml, dmc, rfl⟩ := hd.form; clear hd hdw hdj); refine CallK.ret ?_)) | (refine TL.call (Enters.plain (by kernel_rfl) (by rfl)) (by rfl) (PU _) ?_; (rintro e g4 Ln h4 ⟨cz, es, zz, k1, k2, hz, hm'⟩; have k2 := k2.symm; subst k1; subst k2; have HZ := Hn.mk (And.intro hz hm'); obtain ⟨qk, qb, qn, qs, qi, qil, qic, qm, qml, qmc, rfl⟩ := hz.form; clear hz hm'; refine CallK.ret ?_)) | refine TC.region_sink 6 7 ([.obj _ (.cells [.int .i64 dk, .bool db, .int .i64 dn, str ds, .slice di dil dic, .slice dm dml dmc].toArray 29 (0, 0)), .obj _ (.cells [.int .i64 zk, .bool zb, .int .i64 zn, str zs, .slice zi zil zic, .slice zm zml zmc].toArray 29 (0, 0)), .obj _ (.cells [.int .i64 3, .bool yb, .int .i64 yn, str q, .slice ya yit.length yc, .slice yA1 ynm.length yc1].toArray 29 (0, 0))]) (by kernel_rfl) (by decide +kernel) rfl selF ?_ | ((with_reducible apply TB.takeF 0); (· rfl); (· decide +kernel); (· rfl); (· first | (first | exact yQ | exact yA | exact yB | exact yM | exact yV) | fail); (· decide +kernel); (· decide +kernel); (· rfl); (· exact fun _ _ _ h => h); (· rfl)) | ((with_reducible apply TB.takeF 1); (· rfl); (· decide +kernel); (· rfl); (· first | (first | exact yQ | exact yA | exact yB | exact yM | exact yV) | fail); (· decide +kernel); (· decide +kernel); (· rfl); (· exact fun _ _ _ h => h); (· rfl)) | ((with_reducible apply TB.takeF 2); (· rfl); (· decide +kernel); (· rfl); (· first | (first | exact yQ | exact yA | exact yB | exact yM | exact yV) | fail); (· decide +kernel); (· decide +kernel); (· rfl); (· exact fun _ _ _ h => h); (· rfl)) | ((with_reducible apply TB.takeF 3); (· rfl); (· decide +kernel); (· rfl); (· first | (first | exact yQ | exact yA | exact yB | exact yM | exact yV) | fail); (· decide +kernel); (· decide +kernel); (· rfl); (· exact fun _ _ _ h => h); (· rfl)) | ((with_reducible apply TB.takeF 5); (· rfl); (· decide +kernel); (· rfl); (· first | (first | exact yQ | exact yA | exact yB | exact yM | exact yV) | fail); (· decide +kernel); (· decide +kernel); (· rfl); (· exact fun _ _ _ h => h); (· rfl)) | ((with_reducible apply TB.oneF 4); (· rfl); (· rfl); (· decide +kernel); (· rfl); intro hsk) | ((with_reducible apply TB.oneF 6); (· rfl); (· rfl); (· decide +kernel); (· rfl); intro hsk) | refine TQ.lastT (by decide +kernel) ?_ | refine TQ.anyT (by assumption) leF selF ?_ | refine stS ?_ | (refine stB ?_; intro _) | fail)
    all_goals
      refine TQ.endR2 (L' := L) Tryz.results38 rvA rvA rfl (h1.trans (h2.trans h4)) ?_ selF
      exact one_end HZ.out (by omega)
end Go.Proofs.YthngolfabfijpaaGreatDoor
namespace Go.Proofs.YthngolfabfijpaaGreatDoor
open Go.RowKit Go.TL
set_option maxRecDepth 100000

theorem may_num {nm : List UInt8} {v : J} (hn : nm = incB ∨ nm = mulB) (h : mayU nm v = true) : ∃ n, v = .num n := by
  unfold mayU at h
  rw [if_pos hn] at h
  cases v with
  | num n => exact ⟨n, rfl⟩
  | _ => cases h
theorem may_text {v : J} (h : mayU renameB v = true) : ∃ q, v = .text q := by
  unfold mayU at h
  rw [if_neg (by decide), if_pos rfl] at h
  cases v with
  | text q => exact ⟨q, rfl⟩
  | _ => cases h
theorem rone_does (nm : List UInt8) (hk : knownU nm = true) (m : Nat) (p : List UInt8) (l : List (List UInt8)) (x y : DV) (cs us : List Value) (g : Gh) (L : List Ent) (K : OneOk m p l x y cs us g) (hm : mayU nm (toJ y) = true) : Does Tryz.prog 38 #[.agg cs.toArray, str nm, str p, .agg us.toArray] g L (PutsDR (m + 2) (oneU cmpJ plusL timesL nm (toJ x) p (toJ y)) L) := by
  unfold knownU at hk
  rcases of_decide_eq_true hk with rfl | rfl | rfl | rfl | rfl | rfl | rfl | rfl
  · unfold oneU
    rw [if_pos rfl]
    exact rone_set m p l x y cs us g L K
  · unfold oneU
    rw [if_neg (by decide), if_pos rfl]
    exact rone_unset m p l x y cs us g L K
  · obtain ⟨n, hn⟩ := may_num (.inl rfl) hm
    unfold oneU
    rw [if_neg (by decide), if_neg (by decide), if_pos rfl]
    exact rone_inc m p l x y cs us n g L K hn
  · obtain ⟨n, hn⟩ := may_num (.inr rfl) hm
    unfold oneU
    rw [if_neg (by decide), if_neg (by decide), if_neg (by decide), if_pos rfl]
    exact rone_mul m p l x y cs us n g L K hn
  · unfold oneU
    rw [if_neg (by decide), if_neg (by decide), if_neg (by decide), if_neg (by decide), if_pos rfl]
    exact rone_min m p l x y cs us g L K
  · unfold oneU
    rw [if_neg (by decide), if_neg (by decide), if_neg (by decide), if_neg (by decide), if_neg (by decide), if_pos rfl]
    exact rone_max m p l x y cs us g L K
  · unfold oneU
    rw [if_neg (by decide), if_neg (by decide), if_neg (by decide), if_neg (by decide), if_neg (by decide), if_neg (by decide), if_pos rfl]
    exact rone_push m p l x y cs us g L K
  · obtain ⟨q, hq⟩ := may_text hm
    unfold oneU
    rw [if_neg (by decide), if_neg (by decide), if_neg (by decide), if_neg (by decide), if_neg (by decide), if_neg (by decide), if_neg (by decide)]
    exact rone_rename m p l x y cs us q g L K hq
end Go.Proofs.YthngolfabfijpaaGreatDoor
namespace Go.TL
open Go Go.RowKit Go.Proofs.YthngolfabfijpaaGreatDoor
section
variable {P : Program} {ops : Array Oper} {Q : Exit → Act → World → Prop} {l : List Oper} {n : Nat} {ds : List Deferred} {S : Slots} {g : Gh} {L L' M : List Ent} {js : List J} {flat : List Value}
theorem TL.freeze_trees (hm : Pick (Go.TL.grp M) L L') (ht : TrJs js flat M) (kk : ∀ g', g.le g' → IsJs g' js flat → TL P ops Q l n ds S g' L') : TL P ops Q l n ds S g L := .mk fun a w hf hs => by
  obtain ⟨g', hg, hj, hs'⟩ := TrJs.fr js flat M ht (hs.perm hm.perm).ungrp
  exact (kk g' hg hj).h a w hf hs'
end
end Go.TL
namespace Go.Proofs.YthngolfabfijpaaGreatDoor
open Go.RowKit Go.TL
set_option maxRecDepth 100000
theorem IsJs.snocP {g : Gh} : ∀ {l : List J} {fl : List Value} {y : J} {u : Value}, IsJs g l fl → IsJ g y u → IsJs g (l ++ [y]) (fl ++ [u])
  | [], fl, y, u, h, hy => by rw [IsJs] at h; subst h; rw [List.nil_append, List.nil_append, IsJs]; exact ⟨u, [], rfl, hy, by rw [IsJs]⟩
  | x :: r, fl, y, u, h, hy => by
    rw [IsJs] at h
    obtain ⟨v, f2, rfl, h1, h2⟩ := h
    rw [List.cons_append, List.cons_append, IsJs]
    exact ⟨v, _, rfl, h1, h2.snocP hy⟩
set_option maxHeartbeats 32000000 in
theorem upush_does (m b : Nat) (p : List UInt8) (x y : J) (v u : Value) (g : Gh) (L : List Ent) (K : AtOk m p x v g) (hy : IsJ g y u) (zy : szJ m y) (_hm : m ≤ 8000) : Does Tryz.prog 64 #[.pointer (some ⟨b, 0, none⟩), str p, u] g (Wk b v :: L) (WorkR b (pushU x p y) L) := by
  refine Does.of3 Tryz.func64 rfl Tryz.ntmps64 rfl ?_
  have ov := K.hx.one
  have ou := hy.one
  have YE := fun g L => uwants_yes (b := true) rfl 14 g L
  unfold pushU
  cases hg : getP p x with
  | none =>
    have G := fun L => get_does p x v g L K.pl K.hx K.sm K.he K.ht K.hu
    unfold GetR at G
    rw [hg] at G
    dsimp only at G ⊢
    have PU := fun g1 (h : g.le g1) (u1 : Value) (j1 : IsJ g1 (.list [y]) u1) L => uput_does (m + 1) b p x (.list [y]) v u1 g1 L (⟨by have := K.ml; omega, by omega, K.pl, K.hx.le h _ _, j1, sz_up x m _ K.iv.sz (by omega), (by rw [szJ, szJs, szJs]; exact ⟨by simp, sz_up y m _ zy (by omega), trivial⟩), K.he.le h, K.ht.le h, K.hu.le h⟩)
    have MK := fun g1 (h : g.le g1) (a : Option Addr) (c : Nat) (s : Sl g1 (.slice a (0 + 1) c) (0 + 1) 1 ([] ++ [u])) => (show IsJ g1 (.list [y]) (.iface 54 (.slice a (0 + 1) c)) by
      rw [IsJ]
      refine ⟨_, [u], rfl, s, ?_⟩
      rw [IsJs]
      exact ⟨u, [], rfl, hy.le h _ _, by rw [IsJs]⟩)
    obtain ⟨e0, o0, ho⟩ : ∃ e0 o0, putE x p (.list [y]) = (e0, o0) := ⟨_, _, rfl⟩
    rw [ho] at PU ⊢
    unfold WorkR at PU ⊢
    clear K hy zy
    cases o0 with
    | none =>
      dsimp only at PU ⊢
      repeat' (first | refine wkQ ?_ | refine wkV ?_ | (refine TL.build_empty (by rfl) (fun bb => ?_); refine TL.obj_row (e := 20) (b := bb) (k := 0) (sz := 1) .here rfl (by decide) ?_) | (refine TL.call (Enters.plain (by kernel_rfl) (by rfl)) (by rfl) (G _) ?_; (rintro e g1 Ln h1 ⟨v1, b1, k1, k2, o1, r1⟩; have k2 := k2.symm; subst k1; subst k2; (obtain ⟨rfl, rfl⟩ := r1); refine CallK.ret ?_)) | ((with_reducible apply TL.build_slice); (· rfl); (· rfl); (· exact oneA); (· rfl); (· rfl); (· rfl); intro _) | ((with_reducible apply TL.append (e := 20)); (· rfl); (· rfl); (· rfl); (· rfl); (· exact pkA); (· exact Src.obj pkA); (· rfl); (· first | rfl | exact oneA); (· exact ⟨by unfold maxLen; omega, by omega⟩); (· rfl); intro vf; refine Go.TL.TL.row_slice (v := vf) pkA ?_; rintro a3 c3 rfl _; refine Go.TL.TL.freeze (v := .slice a3 (0 + 1) c3) pkA ?_; intro g3 h3 s3; (have J3 := MK g3 (h1.trans h3) a3 c3 s3)) | (refine TL.call (Enters.plain (by kernel_rfl) (by rfl)) (by rfl) (Does.perm (PU g3 (h1.trans h3) _ J3 _) permU) ?_; (rintro e g4 Ln h4 ⟨k1, k2⟩; have k2 := k2.symm; subst k1; subst k2; skip; refine CallK.panic ?_)) | refine stS ?_ | fail)
      refine TQ.end_panic (L' := L) rfl ((h1.trans h3).trans h4) ?_ selF
      exact ⟨rfl, rfl⟩
    | some z =>
      dsimp only at PU ⊢
      repeat' (first | refine wkQ ?_ | refine wkV ?_ | (refine TL.build_empty (by rfl) (fun bb => ?_); refine TL.obj_row (e := 20) (b := bb) (k := 0) (sz := 1) .here rfl (by decide) ?_) | (refine TL.call (Enters.plain (by kernel_rfl) (by rfl)) (by rfl) (G _) ?_; (rintro e g1 Ln h1 ⟨v1, b1, k1, k2, o1, r1⟩; have k2 := k2.symm; subst k1; subst k2; (obtain ⟨rfl, rfl⟩ := r1); refine CallK.ret ?_)) | ((with_reducible apply TL.build_slice); (· rfl); (· rfl); (· exact oneA); (· rfl); (· rfl); (· rfl); intro _) | ((with_reducible apply TL.append (e := 20)); (· rfl); (· rfl); (· rfl); (· rfl); (· exact pkA); (· exact Src.obj pkA); (· rfl); (· first | rfl | exact oneA); (· exact ⟨by unfold maxLen; omega, by omega⟩); (· rfl); intro vf; refine Go.TL.TL.row_slice (v := vf) pkA ?_; rintro a3 c3 rfl _; refine Go.TL.TL.freeze (v := .slice a3 (0 + 1) c3) pkA ?_; intro g3 h3 s3; (have J3 := MK g3 (h1.trans h3) a3 c3 s3)) | (refine TL.call (Enters.plain (by kernel_rfl) (by rfl)) (by rfl) (Does.perm (PU g3 (h1.trans h3) _ J3 _) permU) ?_; (rintro e g4 Ln h4 ⟨v4, k1, k2, o4, j4⟩; subst k1; subst k2; skip; refine CallK.ret ?_)) | refine stS ?_ | fail)
      try refine TQ.end_normal ?_
      refine TQ.endR0 (L' := (Wk b v4 :: L)) Tryz.results64 rfl ((h1.trans h3).trans h4) ?_ selF
      exact ⟨v4, rfl, rfl, o4, j4⟩
  | some w =>
    cases w with
    | list xs =>
      have G := fun L => get_tree p x (.list xs) v g L K.pl K.hx K.sm K.he K.ht K.hu hg
      unfold GetT at G
      dsimp only
      obtain ⟨_, _, zw⟩ := getP_inv K.iv hg
      rw [szJ] at zw
      have hxl : xs.length ≤ 9000 := by omega
      have PU := fun g1 (h : g.le g1) (u1 : Value) (j1 : IsJ g1 (.list (xs ++ [y])) u1) L => uput_does (m + 1) b p x (.list (xs ++ [y])) v u1 g1 L (⟨by have := K.ml; omega, by omega, K.pl, K.hx.le h _ _, j1, sz_up x m _ K.iv.sz (by omega), (by rw [szJ]; exact ⟨by rw [List.length_append, List.length_singleton]; omega, szJs_snoc (szs_up xs m _ zw.2 (by omega)) (sz_up y m _ zy (by omega))⟩), K.he.le h, K.ht.le h, K.hu.le h⟩)
      have MK := fun g1 (h : g.le g1) (a : Option Addr) (c : Nat) (flat : List Value) (jj : IsJs g1 xs flat) (s : Sl g1 (.slice a (xs.length + 1) c) (xs.length + 1) 1 (flat ++ [u])) => (show IsJ g1 (.list (xs ++ [y])) (.iface 54 (.slice a (xs.length + 1) c)) by
        rw [IsJ]
        refine ⟨_, flat ++ [u], rfl, ?_, jj.snocP (hy.le h _ _)⟩
        rw [List.length_append, List.length_singleton]
        exact s)
      obtain ⟨e0, o0, ho⟩ : ∃ e0 o0, putE x p (.list (xs ++ [y])) = (e0, o0) := ⟨_, _, rfl⟩
      rw [ho] at PU ⊢
      unfold WorkR at PU ⊢
      clear K hy zy zw
      cases o0 with
      | none =>
        dsimp only at PU ⊢
        repeat' (first | refine wkQ ?_ | refine wkV ?_ | (refine TL.build_empty (by rfl) (fun bb => ?_); refine TL.obj_row (e := 20) (b := bb) (k := 0) (sz := 1) .here rfl (by decide) ?_) | (refine TL.call (Enters.plain (by kernel_rfl) (by rfl)) (by rfl) (G _) ?_; (rintro e g1 Ln h1 ⟨v1, M1, k1, k2, t1⟩; subst k1; subst k2; rw [TrJ] at t1; obtain ⟨a1, c1, flat, Ms, rfl, rfl, ht⟩ := t1; refine CallK.ret ?_; refine Go.TL.TL.guncons pkA ?_; refine Go.TL.TL.freeze_trees pkA ht ?_; intro g2 h2 jj)) | ((with_reducible apply TL.gives_plain); (· kernel_rfl); (· rfl); (· exact YE g2 _); (· rfl)) | ((with_reducible apply TL.build_slice); (· rfl); (· rfl); (· exact oneA); (· rfl); (· rfl); (· rfl); intro _) | ((with_reducible apply TL.append (e := 20)); (· rfl); (· rfl); (· rfl); (· rfl); (· exact pkA); (· exact Src.obj pkA); (· rfl); (· first | rfl | exact oneA); (· exact ⟨by unfold maxLen; omega, by omega⟩); (· rfl); intro vf; refine Go.TL.TL.row_slice (v := vf) pkA ?_; rintro a3 c3 rfl _; refine Go.TL.TL.freeze (v := .slice a3 (xs.length + 1) c3) pkA ?_; intro g3 h3 s3; (have h03 := (h1.trans h2).trans h3; have J3 := MK g3 h03 a3 c3 flat (IsJs.le h3 _ _ jj) s3)) | (refine TL.call (Enters.plain (by kernel_rfl) (by rfl)) (by rfl) (Does.perm (PU g3 h03 _ J3 _) permU) ?_; (rintro e g4 Ln h4 ⟨k1, k2⟩; have k2 := k2.symm; subst k1; subst k2; skip; refine CallK.panic ?_)) | refine stS ?_ | fail)
        refine TQ.end_panic (L' := L) rfl (h03.trans h4) ?_ selF
        exact ⟨rfl, rfl⟩
      | some z =>
        dsimp only at PU ⊢
        repeat' (first | refine wkQ ?_ | refine wkV ?_ | (refine TL.build_empty (by rfl) (fun bb => ?_); refine TL.obj_row (e := 20) (b := bb) (k := 0) (sz := 1) .here rfl (by decide) ?_) | (refine TL.call (Enters.plain (by kernel_rfl) (by rfl)) (by rfl) (G _) ?_; (rintro e g1 Ln h1 ⟨v1, M1, k1, k2, t1⟩; subst k1; subst k2; rw [TrJ] at t1; obtain ⟨a1, c1, flat, Ms, rfl, rfl, ht⟩ := t1; refine CallK.ret ?_; refine Go.TL.TL.guncons pkA ?_; refine Go.TL.TL.freeze_trees pkA ht ?_; intro g2 h2 jj)) | ((with_reducible apply TL.gives_plain); (· kernel_rfl); (· rfl); (· exact YE g2 _); (· rfl)) | ((with_reducible apply TL.build_slice); (· rfl); (· rfl); (· exact oneA); (· rfl); (· rfl); (· rfl); intro _) | ((with_reducible apply TL.append (e := 20)); (· rfl); (· rfl); (· rfl); (· rfl); (· exact pkA); (· exact Src.obj pkA); (· rfl); (· first | rfl | exact oneA); (· exact ⟨by unfold maxLen; omega, by omega⟩); (· rfl); intro vf; refine Go.TL.TL.row_slice (v := vf) pkA ?_; rintro a3 c3 rfl _; refine Go.TL.TL.freeze (v := .slice a3 (xs.length + 1) c3) pkA ?_; intro g3 h3 s3; (have h03 := (h1.trans h2).trans h3; have J3 := MK g3 h03 a3 c3 flat (IsJs.le h3 _ _ jj) s3)) | (refine TL.call (Enters.plain (by kernel_rfl) (by rfl)) (by rfl) (Does.perm (PU g3 h03 _ J3 _) permU) ?_; (rintro e g4 Ln h4 ⟨v4, k1, k2, o4, j4⟩; subst k1; subst k2; skip; refine CallK.ret ?_)) | refine stS ?_ | fail)
        try refine TQ.end_normal ?_
        refine TQ.endR0 (L' := (Wk b v4 :: L)) Tryz.results64 rfl (h03.trans h4) ?_ selF
        exact ⟨v4, rfl, rfl, o4, j4⟩
    | obj ns xs =>
      have G := fun L => get_does p x v g L K.pl K.hx K.sm K.he K.ht K.hu
      have NO := fun g L => uwants_no (b := false) rfl 14 (by decide) g L
      unfold GetR at G
      rw [hg] at G
      dsimp only at G ⊢
      unfold WorkR
      dsimp only
      simp only [IsJ] at G
      clear K hy zy
      repeat' (first | refine wkQ ?_ | refine wkV ?_ | (refine TL.build_empty (by rfl) (fun bb => ?_); refine TL.obj_row (e := 20) (b := bb) (k := 0) (sz := 1) .here rfl (by decide) ?_) | (refine TL.call (Enters.plain (by kernel_rfl) (by rfl)) (by rfl) (G _) ?_; (rintro e g1 Ln h1 ⟨v1, b1, k1, k2, o1, r1⟩; have k2 := k2.symm; subst k1; subst k2; (obtain ⟨rfl, sl, fl, rfl, hS, _⟩ := r1; obtain ⟨a, c, rfl⟩ := hS.slice); refine CallK.ret ?_)) | refine TL.throws (Enters.plain (by kernel_rfl) (by rfl)) (NO g1 _) (by rfl) ?_ | refine stS ?_ | fail)
      refine TQ.end_panic (L' := L) rfl (h1) ?_ selF
      exact ⟨rfl, rfl⟩
    | num n =>
      have G := fun L => get_does p x v g L K.pl K.hx K.sm K.he K.ht K.hu
      have NO := fun g L => uwants_no (b := false) rfl 14 (by decide) g L
      unfold GetR at G
      rw [hg] at G
      dsimp only at G ⊢
      unfold WorkR
      dsimp only
      simp only [IsJ] at G
      clear K hy zy
      repeat' (first | refine wkQ ?_ | refine wkV ?_ | (refine TL.build_empty (by rfl) (fun bb => ?_); refine TL.obj_row (e := 20) (b := bb) (k := 0) (sz := 1) .here rfl (by decide) ?_) | (refine TL.call (Enters.plain (by kernel_rfl) (by rfl)) (by rfl) (G _) ?_; (rintro e g1 Ln h1 ⟨v1, b1, k1, k2, o1, r1⟩; have k2 := k2.symm; subst k1; subst k2; (obtain ⟨rfl, rfl, _⟩ := r1); refine CallK.ret ?_)) | refine TL.throws (Enters.plain (by kernel_rfl) (by rfl)) (NO g1 _) (by rfl) ?_ | refine stS ?_ | fail)
      refine TQ.end_panic (L' := L) rfl (h1) ?_ selF
      exact ⟨rfl, rfl⟩
    | _ =>
      have G := fun L => get_does p x v g L K.pl K.hx K.sm K.he K.ht K.hu
      have NO := fun g L => uwants_no (b := false) rfl 14 (by decide) g L
      unfold GetR at G
      rw [hg] at G
      dsimp only at G ⊢
      unfold WorkR
      dsimp only
      simp only [IsJ] at G
      clear K hy zy
      repeat' (first | refine wkQ ?_ | refine wkV ?_ | (refine TL.build_empty (by rfl) (fun bb => ?_); refine TL.obj_row (e := 20) (b := bb) (k := 0) (sz := 1) .here rfl (by decide) ?_) | (refine TL.call (Enters.plain (by kernel_rfl) (by rfl)) (by rfl) (G _) ?_; (rintro e g1 Ln h1 ⟨v1, b1, k1, k2, o1, r1⟩; have k2 := k2.symm; subst k1; subst k2; (obtain ⟨rfl, rfl⟩ := r1); refine CallK.ret ?_)) | refine TL.throws (Enters.plain (by kernel_rfl) (by rfl)) (NO g1 _) (by rfl) ?_ | refine stS ?_ | fail)
      refine TQ.end_panic (L' := L) rfl (h1) ?_ selF
      exact ⟨rfl, rfl⟩
end Go.Proofs.YthngolfabfijpaaGreatDoor
