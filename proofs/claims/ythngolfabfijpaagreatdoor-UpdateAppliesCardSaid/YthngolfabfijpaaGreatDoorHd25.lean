/-
  The walks of the document's one: what is set, what is taken away. What Get tells, in memory that is owned. The walks of update's work: put, drop, unset. How the document's values compare.
-/
import Derived.Test.YthngolfabfijpaaGreatDoorHd2
import Derived.Test.YthngolfabfijpaaGreatDoorHd15
import Derived.Test.YthngolfabfijpaaGreatDoorHd24
import Derived.Test.YthngolfabfijpaaGreatDoorHd14
import Derived.Test.YthngolfabfijpaaGreatDoorHd21
import Derived.Test.YthngolfabfijpaaGreatDoorHd6
namespace Go.Proofs.YthngolfabfijpaaGreatDoor
open Go.RowKit Go.TL
set_option maxRecDepth 100000

structure OneOk (m : Nat) (p : List UInt8) (l : List (List UInt8)) (x y : DV) (cs us : List Value) (g : Gh) : Prop where
  ml : 128 ≤ m
  mu : m ≤ 8000
  ps : stepsL p = some l
  hx : IsV g x cs
  hy : IsV g y us
  wx : wfN m x
  wy : wfN m y
  h0 : lookJ (toJ x) 0 = 0
  y0 : lookJ (toJ y) 0 = 0
theorem OneOk.pl {m : Nat} {p : List UInt8} {l : List (List UInt8)} {x y : DV} {cs us : List Value} {g : Gh} (h : OneOk m p l x y cs us g) : p.length ≤ 1000000 := by
  have := (stepsL_some h.ps).2.2.1; omega
theorem OneOk.get {m : Nat} {p : List UInt8} {l : List (List UInt8)} {x y : DV} {cs us : List Value} {g : Gh} (h : OneOk m p l x y cs us g) : getP p (toJ x) = (getD l x).map toJ := by
  unfold getP
  rw [if_pos h.h0, h.ps]
  exact get_toJ l x
theorem puts_up {m k : Nat} {o : Nat × Option J} {L : List Ent} {e : Ending} {g : Gh} {L1 : List Ent} (h : PutsDR m o L e g L1) (hk : m ≤ k) : PutsDR k o L e g L1 := by
  obtain ⟨cs, es, z, h1, h2, h3, h4⟩ := h
  refine ⟨cs, es, z, h1, h2, h3, ?_⟩
  obtain ⟨a, o⟩ := o
  cases o with
  | none => exact h4
  | some j => exact ⟨h4.1, h4.2.1, wfN_up z m k h4.2.2 hk⟩
theorem one_end {m k : Nat} {o : Nat × Option J} {L : List Ent} {g : Gh} {cs : List Value} {es : Nat} {z : DV} (h : IsV g z cs ∧ (match o with
  | (_, some j) => es = 0 ∧ toJ z = j ∧ wfN m z
  | (k, none) => es = k ∧ es ≠ 0)) (hk : m ≤ k) : PutsDR k o L (.returned (.tuple #[.agg cs.toArray, .int .i64 (es : Nat)])) g L :=
  puts_up ⟨cs, es, z, rfl, rfl, h.1, h.2⟩ hk
set_option maxHeartbeats 16000000 in
theorem rone_set (m : Nat) (p : List UInt8) (l : List (List UInt8)) (x y : DV) (cs us : List Value) (g : Gh) (L : List Ent) (K : OneOk m p l x y cs us g) : Does Tryz.prog 38 #[.agg cs.toArray, str setB, str p, .agg us.toArray] g L (PutsDR (m + 2) (putE (toJ x) p (toJ y)) L) := by
  refine Does.of4 Tryz.func38 rfl Tryz.ntmps38 rfl ?_
  have GU := fun L => rget22_does p l x cs g L K.ps K.hx (wf_of_N x m K.wx (by have := K.mu; omega))
  have PU := fun g1 (h : g.le g1) L => rputs6_does m K.ml (by have := K.mu; omega) p x y cs us g1 L K.pl (IsV.le h _ _ K.hx) (IsV.le h _ _ K.hy) K.wx K.wy
  unfold GetUR at GU
  unfold PutsDR at PU
  obtain ⟨x0, x1, x2, x3, xi, xil, xic, xn, xnl, xnc, rfl⟩ := K.hx.form
  obtain ⟨y0, y1, y2, y3, yi, yil, yic, yn, ynl, ync, rfl⟩ := K.hy.form
  clear K
  cases hg : getD l x with
  | none =>
    rw [hg] at GU
    dsimp only at GU
    repeat' (first | refine wkQ ?_ | (refine TL.call (Enters.plain (by kernel_rfl) (by rfl)) (by rfl) (GU _) ?_; (rintro e g1 Ln h1 ⟨c1, b1, k1, k2, r1⟩; have k2 := k2.symm; subst k1; subst k2; (obtain ⟨rfl, rfl⟩ := r1); refine CallK.ret ?_)) | (refine TL.call (Enters.plain (by kernel_rfl) (by rfl)) (by rfl) (PU g1 h1 _) ?_; (rintro e g4 Ln h4 ⟨cz, es, zz, k1, k2, hz, hm'⟩; have k2 := k2.symm; subst k1; subst k2; have HZ := Hn.mk (And.intro hz hm'); obtain ⟨qk, qb, qn, qs, qi, qil, qic, qm, qml, qmc, rfl⟩ := hz.form; clear hz hm'; refine CallK.ret ?_)) | refine stS ?_ | (refine stB ?_; intro _) | fail)
    refine TQ.endR2 (L' := L) Tryz.results38 rvA rvA rfl (h1.trans h4) ?_ selF
    exact one_end HZ.out (by omega)
  | some z =>
    rw [hg] at GU
    dsimp only at GU
    repeat' (first | refine wkQ ?_ | (refine TL.call (Enters.plain (by kernel_rfl) (by rfl)) (by rfl) (GU _) ?_; (rintro e g1 Ln h1 ⟨c1, b1, k1, k2, r1⟩; have k2 := k2.symm; subst k1; subst k2; (obtain ⟨rfl, hz, hw⟩ := r1; obtain ⟨zk, zb, zn, zs, zi, zil, zic, zm, zml, zmc, rfl⟩ := hz.form; clear hz hw); refine CallK.ret ?_)) | (refine TL.call (Enters.plain (by kernel_rfl) (by rfl)) (by rfl) (PU g1 h1 _) ?_; (rintro e g4 Ln h4 ⟨cz, es, zz, k1, k2, hz, hm'⟩; have k2 := k2.symm; subst k1; subst k2; have HZ := Hn.mk (And.intro hz hm'); obtain ⟨qk, qb, qn, qs, qi, qil, qic, qm, qml, qmc, rfl⟩ := hz.form; clear hz hm'; refine CallK.ret ?_)) | refine stS ?_ | (refine stB ?_; intro _) | fail)
    refine TQ.endR2 (L' := L) Tryz.results38 rvA rvA rfl (h1.trans h4) ?_ selF
    exact one_end HZ.out (by omega)
set_option maxHeartbeats 16000000 in
theorem rone_unset (m : Nat) (p : List UInt8) (l : List (List UInt8)) (x y : DV) (cs us : List Value) (g : Gh) (L : List Ent) (K : OneOk m p l x y cs us g) : Does Tryz.prog 38 #[.agg cs.toArray, str unsetB, str p, .agg us.toArray] g L (PutsDR (m + 2) (unsetU (toJ x) p) L) := by
  refine Does.of4 Tryz.func38 rfl Tryz.ntmps38 rfl ?_
  have GU := fun L => rget22_does p l x cs g L K.ps K.hx (wf_of_N x m K.wx (by have := K.mu; omega))
  have PU := fun g1 (h : g.le g1) L => rdrops6_does m (by have := K.mu; omega) p x cs g1 L K.pl (IsV.le h _ _ K.hx) K.wx
  unfold GetUR at GU
  unfold PutsDR at PU
  have hx := K.hx
  obtain ⟨x0, x1, x2, x3, xi, xil, xic, xn, xnl, xnc, rfl⟩ := K.hx.form
  obtain ⟨y0, y1, y2, y3, yi, yil, yic, yn, ynl, ync, rfl⟩ := K.hy.form
  have wx := K.wx
  unfold unsetU
  rw [K.get]
  have HX := Hn.mk hx
  clear K hx
  cases hg : getD l x with
  | none =>
    rw [hg] at GU
    dsimp only [Option.map] at GU ⊢
    clear PU
    repeat' (first | refine wkQ ?_ | (refine TL.call (Enters.plain (by kernel_rfl) (by rfl)) (by rfl) (GU _) ?_; (rintro e g1 Ln h1 ⟨c1, b1, k1, k2, r1⟩; have k2 := k2.symm; subst k1; subst k2; (obtain ⟨rfl, rfl⟩ := r1); refine CallK.ret ?_)) | refine stS ?_ | (refine stB ?_; intro _) | fail)
    refine TQ.endR2 (L' := L) Tryz.results38 rvA rvA rfl (h1) ?_ selF
    exact one_end (o := (0, some (toJ x))) (m := m) (es := 0) ⟨IsV.le h1 _ _ HX.out, rfl, rfl, wx⟩ (by omega)
  | some z =>
    rw [hg] at GU
    dsimp only [Option.map] at GU ⊢
    repeat' (first | refine wkQ ?_ | (refine TL.call (Enters.plain (by kernel_rfl) (by rfl)) (by rfl) (GU _) ?_; (rintro e g1 Ln h1 ⟨c1, b1, k1, k2, r1⟩; have k2 := k2.symm; subst k1; subst k2; (obtain ⟨rfl, hz, hw⟩ := r1; obtain ⟨zk, zb, zn, zs, zi, zil, zic, zm, zml, zmc, rfl⟩ := hz.form; clear hz hw); refine CallK.ret ?_)) | (refine TL.call (Enters.plain (by kernel_rfl) (by rfl)) (by rfl) (PU g1 h1 _) ?_; (rintro e g4 Ln h4 ⟨cz, es, zz, k1, k2, hz, hm'⟩; have k2 := k2.symm; subst k1; subst k2; have HZ := Hn.mk (And.intro hz hm'); obtain ⟨qk, qb, qn, qs, qi, qil, qic, qm, qml, qmc, rfl⟩ := hz.form; clear hz hm'; refine CallK.ret ?_)) | refine stS ?_ | (refine stB ?_; intro _) | fail)
    refine TQ.endR2 (L' := L) Tryz.results38 rvA rvA rfl (h1.trans h4) ?_ selF
    exact one_end HZ.out (by omega)
end Go.Proofs.YthngolfabfijpaaGreatDoor
namespace Go.Proofs.YthngolfabfijpaaGreatDoor
open Go.RowKit Go.TL
set_option maxRecDepth 100000

def GetT (y : J) (L : List Ent) : Ending → Gh → List Ent → Prop := fun r _ L1 => ∃ v M, r = .returned (.tuple #[v, .bool true]) ∧ L1 = grp M :: L ∧ TrJ y v M
set_option maxHeartbeats 16000000 in
theorem get_tree (p : List UInt8) (x y0 : J) (v : Value) (g : Gh) (L : List Ent) (hp : p.length ≤ 1000000) (hV : IsJ g x v) (hS : smJ x) (hE : GErr g) (hT : GTabs g) (hU : GU8 g) (hy0 : getP p x = some y0) : Does Tryz.prog 22 #[v, str p] g L (GetT y0 L) := by
  refine Does.of2 Tryz.func22 rfl Tryz.ntmps22 rfl ?_
  unfold GetT
  have A := fun L => steps_does p g L hp hU
  unfold StepsR at A
  have M := fun g1 (h : g.le g1) L => may_gives x v g1 L (IsJ.le h _ _ hV) hS (hT.le h) (hU.le h)
  obtain ⟨l, hl, hgp, h0⟩ : ∃ l, stepsL p = some l ∧ getJ l x = some y0 ∧ lookJ x 0 = 0 := by
    unfold getP at hy0
    split at hy0
    · rename_i h0
      obtain ⟨l, hl, hg⟩ := Option.bind_eq_some_iff.1 hy0
      exact ⟨l, hl, hg, h0⟩
    · cases hy0
  rw [hl] at A
  rw [h0] at M
  obtain ⟨_, hln, hpl, _, hgood⟩ := stepsL_some hl
  have hpp := (stepsL_some hl).1
  have hlen : ∀ s ∈ l, s.length ≤ 1000000 := fun s hs => by have := joinS_len l s hs; rw [← hpp] at this; omega
  have hll : l.length ≤ 1000000 := by have := joinS_count l (fun s hs => (hgood s hs).1); rw [← hpp] at this; omega
  repeat' (first | (refine TL.call (Enters.plain (by kernel_rfl) (by rfl)) (by rfl) (A _) ?_; (rintro e g1 Ln hg1 ⟨vs, es, k1, k2, ho, hr⟩; have k2 := k2.symm; subst k1; subst k2; (obtain ⟨rfl, hsl⟩ := hr; obtain ⟨av, cv, rfl⟩ := hsl.slice; have M1 := M g1 hg1); refine CallK.ret ?_)) | ((with_reducible apply TL.gives_plain); (· kernel_rfl); (· rfl); (· exact M1 _); (· rfl)) | refine stS ?_ | fail)
  clear A M M1
  have hE1 := hE.le hg1
  have hT1 := hT.le hg1
  have hU1 := hU.le hg1
  refine TC.loopK (α := Nat × J × Value) (fun z => z.1 ≤ l.length ∧ getJ (l.drop z.1) z.2.1 = some y0 ∧ lookJ z.2.1 0 = 0 ∧ smJ z.2.1 ∧ IsJ g1 z.2.1 z.2.2) (fun z => l.length - z.1) (fun z _ => [(26, .int .i64 (z.1 : Nat)), (25, .int .i64 (l.length : Nat)), (24, .slice av l.length cv), (0, z.2.2)]) [] (by repeat (first | apply Drop.nil | apply Drop.cons (by (repeat (first | apply Pick.here | apply Pick.there))))) (fun _ L => L) (0, x, v) ⟨Nat.zero_le _, hgp, h0, hS, hV.le hg1 _ _⟩ subA selA ?_
  clear h0 hS hV
  rintro ⟨i, y, v⟩ ⟨hi, hy, h0, hS, hV⟩
  dsimp only at hi hy h0 hS hV ⊢
  by_cases hlt : i < l.length
  · obtain ⟨s, hs⟩ : ∃ s, l[i]? = some s := ⟨_, List.getElem?_eq_getElem hlt⟩
    obtain ⟨b1, o1, rfl, hg⟩ := hsl.elem hlt (by decide)
    have hld : g1.cell b1 (o1 + i * 1) = some (str s) := hg 0 _ (by rw [Nat.mul_one]; exact strs_get hs)
    obtain ⟨v', b, N, ho', hb⟩ := pnext_gives y v g1 s hV hS (hlen s (List.mem_of_getElem? hs)) hE1 hT1
    have hoV := hV.one
    rw [drop_of_get hs, getJ] at hy
    cases hnx : nextJ y s with
    | none => rw [hnx] at hy; cases hy
    | some z =>
      rw [hnx] at hb hy
      obtain ⟨rfl, hz⟩ := hb
      have hsz := sm_next hS hnx
      have hlz := look_mono z 0 (look_next h0 hnx)
      clear hsl hg hV
      repeat' (first | refine wkV ?_ | ((with_reducible apply TL.gives_plain); (· kernel_rfl); (· rfl); (· exact N _); (· rfl)) | refine stS ?_ | fail)
      refine TQ.round (i + 1, z, v') ?_ ?_ rfl subA selA
      · exact ⟨by dsimp only; omega, hy, hlz, hsz, hz⟩
      · show l.length - (i + 1) < l.length - i
        omega
  · obtain rfl : i = l.length := by omega
    rw [List.drop_length, getJ] at hy
    obtain rfl := Option.some.inj hy
    have C := fun L => jCopy_does y v g1 L hV hS h0 hT1 hU1
    unfold CopyR at C
    clear hsl
    repeat' (first | (refine TL.call (Enters.plain (by kernel_rfl) (by rfl)) (by rfl) (C _) ?_; (rintro e g2 Ln hg2 ⟨vj, Mj, k1, k2, k3, htj⟩; have k2 := k2.symm; subst k1; subst k2; subst k3; have ho := TrJ.one htj; refine CallK.ret ?_)) | refine stS ?_ | fail)
    refine TQ.endR2 (L' := (grp Mj :: L)) Tryz.results22 rvA rvA rfl (hg1) ?_ selA
    exact ⟨vj, Mj, rfl, rfl, htj⟩
end Go.Proofs.YthngolfabfijpaaGreatDoor
namespace Go.Proofs.YthngolfabfijpaaGreatDoor
open Go.RowKit Go.TL
set_option maxRecDepth 100000

def stopU (k : Nat) : PanicEntry := { v := .iface 69 (.agg #[.int .i64 (k : Nat)]), recovered := false }
theorem uneed_yes (g : Gh) (L : List Ent) : Gives Tryz.prog 95 #[.int .i64 0] g L (.tuple #[]) := by
  refine .of (Does.of1 Tryz.func95 rfl Tryz.ntmps95 rfl ?_)
  repeat' (first | refine stS ?_ | fail)
  refine TQ.end_normal ?_
  refine TQ.endR0 (L' := L) Tryz.results95 rfl (.refl _) ?_ selA
  exact ⟨rfl, rfl, rfl⟩
theorem uneed_no (e : Nat) (_he : e ≠ 0) (g : Gh) (L : List Ent) : Throws Tryz.prog 95 #[.int .i64 (e : Nat)] g L [stopU e] := by
  have H := Hn.mk (show ¬ ((e : Nat) : Int) = 0 by omega)
  refine .of (Does.of1 Tryz.func95 rfl Tryz.ntmps95 rfl ?_)
  repeat' (first | refine wkV ?_ | refine TL.panic (by rfl) (by rfl) ?_ | refine stS ?_ | fail)
  refine TQ.end_panic (L' := L) rfl (.refl _) ?_ selA
  exact ⟨rfl, rfl, rfl⟩
theorem uwants_yes {b : Bool} (hb : b = true) (e : Int) (g : Gh) (L : List Ent) : Gives Tryz.prog 101 #[.bool b, .int .i64 e] g L (.tuple #[]) := by
  subst hb
  refine .of (Does.of2 Tryz.func101 rfl Tryz.ntmps101 rfl ?_)
  repeat' (first | refine stS ?_ | fail)
  refine TQ.end_normal ?_
  refine TQ.endR0 (L' := L) Tryz.results101 rfl (.refl _) ?_ selA
  exact ⟨rfl, rfl, rfl⟩
theorem uwants_no {b : Bool} (hb : b = false) (e : Nat) (he : e ≠ 0) (g : Gh) (L : List Ent) : Throws Tryz.prog 101 #[.bool b, .int .i64 (e : Nat)] g L [stopU e] := by
  subst hb
  have N := fun L => uneed_no e he g L
  refine .of (Does.of2 Tryz.func101 rfl Tryz.ntmps101 rfl ?_)
  repeat' (first | refine TL.throws (Enters.plain (by kernel_rfl) (by rfl)) (N _) (by rfl) ?_ | refine stS ?_ | fail)
  refine TQ.end_panic (L' := L) rfl (.refl _) ?_ selA
  exact ⟨rfl, rfl, rfl⟩
abbrev Wk (b : Nat) (v : Value) : Ent := .obj b (.cells [v].toArray 74 (0, 0))
def WorkR (b : Nat) (o : Nat × Option J) (L : List Ent) : Ending → Gh → List Ent → Prop := fun e g' L1 => match o with
  | (_, some z) => ∃ v, e = .returned (.tuple #[]) ∧ L1 = Wk b v :: L ∧ v.one = true ∧ IsJ g' z v
  | (k, none) => e = .panicked [stopU k] ∧ L1 = L
structure WkOk (m : Nat) (p : List UInt8) (x y : J) (v u : Value) (g : Gh) : Prop where
  ml : 128 ≤ m
  mu : m ≤ 9000
  pl : p.length ≤ 1000000
  hx : IsJ g x v
  hy : IsJ g y u
  zx : szJ m x
  zy : szJ m y
  he : GErr g
  ht : GTabs g
  hu : GU8 g
set_option maxHeartbeats 16000000 in
theorem uput_does (m b : Nat) (p : List UInt8) (x y : J) (v u : Value) (g : Gh) (L : List Ent) (K : WkOk m p x y v u g) : Does Tryz.prog 56 #[.pointer (some ⟨b, 0, none⟩), str p, u] g (Wk b v :: L) (WorkR b (putE x p y) L) := by
  refine Does.of3 Tryz.func56 rfl Tryz.ntmps56 rfl ?_
  have ov := K.hx.one
  have ou := K.hy.one
  have P := fun L => puts_does m K.ml (by have := K.mu; omega) p x y v u g L K.pl K.hx K.hy K.zx K.zy K.he K.ht K.hu
  unfold PutsR at P
  unfold WorkR
  obtain ⟨e0, o0, ho⟩ : ∃ e0 o0, putE x p y = (e0, o0) := ⟨_, _, rfl⟩
  rw [ho] at P ⊢
  clear K
  cases o0 with
  | none =>
    have hne := putE_none ho
    have N := fun g L => uneed_no e0 hne g L
    dsimp only at P ⊢
    clear ho
    repeat' (first | refine wkQ ?_ | (refine TL.call (Enters.plain (by kernel_rfl) (by rfl)) (by rfl) (P _) ?_; (rintro e g1 Ln h1 ⟨v1, e1, k1, k2, o1, r1⟩; have k2 := k2.symm; subst k1; subst k2; (obtain ⟨rfl, _, rfl⟩ := r1); refine CallK.ret ?_)) | refine TL.throws (Enters.plain (by kernel_rfl) (by rfl)) (N g1 _) (by rfl) ?_ | refine stS ?_ | fail)
    refine TQ.end_panic (L' := L) rfl (h1) ?_ selF
    exact ⟨rfl, rfl⟩
  | some z =>
    have YE := fun g L => uneed_yes g L
    dsimp only at P ⊢
    clear ho
    repeat' (first | refine wkQ ?_ | (refine TL.call (Enters.plain (by kernel_rfl) (by rfl)) (by rfl) (P _) ?_; (rintro e g1 Ln h1 ⟨v1, e1, k1, k2, o1, r1⟩; have k2 := k2.symm; subst k1; subst k2; (obtain ⟨rfl, j1, _⟩ := r1); refine CallK.ret ?_)) | ((with_reducible apply TL.gives_plain); (· kernel_rfl); (· rfl); (· exact YE g1 _); (· rfl)) | ((with_reducible apply TL.storeK); (· rfl); (· rfl); (· exact o1); (· exact pkA); (· exact Nat.le_of_ble_eq_true rfl)) | refine stS ?_ | fail)
    try refine TQ.end_normal ?_
    refine TQ.endR0 (L' := (Wk b v1 :: L)) Tryz.results56 rfl (h1) ?_ selF
    exact ⟨v1, rfl, rfl, o1, j1⟩
theorem udrop_not (m b : Nat) (p : List UInt8) (x : J) (v : Value) (g : Gh) (L : List Ent) (hp : p.length ≤ 1000000) (_hm : m ≤ 9000) (hx : IsJ g x v) (zx : szJ m x) (he : GErr g) (ht : GTabs g) (hu : GU8 g) (hd : dropE x p = (7, none)) : Does Tryz.prog 96 #[.pointer (some ⟨b, 0, none⟩), str p] g (Wk b v :: L) (WorkR b (0, some x) L) := by
  refine Does.of2 Tryz.func96 rfl Tryz.ntmps96 rfl ?_
  have ov := hx.one
  have P := fun L => drops_does m (by omega) p x v g L hp hx zx he ht hu
  unfold PutsR at P
  unfold WorkR
  rw [hd] at P
  dsimp only at P ⊢
  repeat' (first | refine wkQ ?_ | (refine TL.call (Enters.plain (by kernel_rfl) (by rfl)) (by rfl) (P _) ?_; (rintro e g1 Ln h1 ⟨v1, e1, k1, k2, o1, r1⟩; have k2 := k2.symm; subst k1; subst k2; (obtain ⟨rfl, _, rfl⟩ := r1); refine CallK.ret ?_)) | refine stS ?_ | fail)
  try refine TQ.end_normal ?_
  refine TQ.endR0 (L' := (Wk b v :: L)) Tryz.results96 rfl (h1) ?_ selF
  exact ⟨v, rfl, rfl, ov, hx.le h1 _ _⟩
theorem udrop_got (m b : Nat) (p : List UInt8) (x z : J) (v : Value) (g : Gh) (L : List Ent) (hp : p.length ≤ 1000000) (_hm : m ≤ 9000) (hx : IsJ g x v) (zx : szJ m x) (he : GErr g) (ht : GTabs g) (hu : GU8 g) (hd : dropE x p = (0, some z)) : Does Tryz.prog 96 #[.pointer (some ⟨b, 0, none⟩), str p] g (Wk b v :: L) (WorkR b (0, some z) L) := by
  refine Does.of2 Tryz.func96 rfl Tryz.ntmps96 rfl ?_
  have ov := hx.one
  have P := fun L => drops_does m (by omega) p x v g L hp hx zx he ht hu
  have YE := fun g L => uneed_yes g L
  unfold PutsR at P
  unfold WorkR
  rw [hd] at P
  dsimp only at P ⊢
  repeat' (first | refine wkQ ?_ | (refine TL.call (Enters.plain (by kernel_rfl) (by rfl)) (by rfl) (P _) ?_; (rintro e g1 Ln h1 ⟨v1, e1, k1, k2, o1, r1⟩; have k2 := k2.symm; subst k1; subst k2; (obtain ⟨rfl, j1, _⟩ := r1); refine CallK.ret ?_)) | ((with_reducible apply TL.gives_plain); (· kernel_rfl); (· rfl); (· exact YE g1 _); (· rfl)) | ((with_reducible apply TL.storeK); (· rfl); (· rfl); (· exact o1); (· exact pkA); (· exact Nat.le_of_ble_eq_true rfl)) | refine stS ?_ | fail)
  try refine TQ.end_normal ?_
  refine TQ.endR0 (L' := (Wk b v1 :: L)) Tryz.results96 rfl (h1) ?_ selF
  exact ⟨v1, rfl, rfl, o1, j1⟩
end Go.Proofs.YthngolfabfijpaaGreatDoor
namespace Go.Proofs.YthngolfabfijpaaGreatDoor
open Go.RowKit Go.TL
set_option maxRecDepth 100000

def cmpI (a b : Int) : Int := if a < b then -1 else if b < a then 1 else 0
def cmpB (a b : List UInt8) : Int := if Op.bytesLess a b = true then -1 else if a = b then 0 else 1
def rankV (x : DV) : Int := if x.kind = 0 then 1 else if x.kind = 1 then (if x.b = true then 3 else 2) else x.kind + 2
theorem rankV_eq (k : Int) (b : Bool) (n : Int) (s : List UInt8) (items : List DV) (names : List (List UInt8)) : rankV (.mk k b n s items names) = if k = 0 then 1 else if k = 1 then (if b = true then 3 else 2) else k + 2 := rfl
mutual
def cmpV : DV → DV → Int
  | .mk k b n s items names, y =>
    if rankV (.mk k b n s items names) ≠ rankV y then cmpI (rankV (.mk k b n s items names)) (rankV y)
    else if k = 2 then cmpI n y.n else if k = 3 then cmpB s y.s else if k = 4 ∨ k = 5 then cmpVs (decide (k = 5)) names y.names items y.items items.length y.items.length else 0
def cmpVs (o : Bool) : List (List UInt8) → List (List UInt8) → List DV → List DV → Nat → Nat → Int
  | ns, ms, x :: r, ys, a, c => match ys with
    | [] => cmpI a c
    | y :: t => if o = true ∧ ns.headD [] ≠ ms.headD [] then cmpB (ns.headD []) (ms.headD []) else if cmpV x y ≠ 0 then cmpV x y else cmpVs o ns.tail ms.tail r t a c
  | _, _, [], _, a, c => cmpI a c
end
mutual
def okV : DV → Prop
  | .mk k _ _ _ items _ => 0 ≤ k ∧ k ≤ 5 ∧ (k = 4 ∨ k = 5 → okVs items)
def okVs : List DV → Prop
  | [] => True
  | x :: r => okV x ∧ okVs r
end
theorem okVs.get : ∀ {l : List DV} {i : Nat} {x : DV}, okVs l → l[i]? = some x → okV x
  | [], _, _, _, h => by simp at h
  | y :: r, 0, x, h, hx => by
    rw [okVs] at h
    obtain rfl : y = x := by simpa using hx
    exact h.1
  | y :: r, i + 1, x, h, hx => by
    rw [okVs] at h
    exact okVs.get h.2 (i := i) (by simpa using hx)
mutual
theorem cmpV_bd : ∀ (x y : DV), -1 ≤ cmpV x y ∧ cmpV x y ≤ 1
  | .mk k b n s items names, y => by
    rw [cmpV]
    have h1 := cmpVs_bd (decide (k = 5)) names y.names items y.items items.length y.items.length
    unfold cmpI cmpB
    repeat' split
    all_goals omega
theorem cmpVs_bd (o : Bool) : ∀ (ns ms : List (List UInt8)) (l m : List DV) (a c : Nat), -1 ≤ cmpVs o ns ms l m a c ∧ cmpVs o ns ms l m a c ≤ 1
  | ns, ms, x :: r, [], a, c => by
    rw [cmpVs]; unfold cmpI
    repeat' split
    all_goals omega
  | ns, ms, x :: r, y :: t, a, c => by
    rw [cmpVs]
    have h1 := cmpV_bd x y
    have h2 := cmpVs_bd o ns.tail ms.tail r t a c
    unfold cmpB
    repeat' split
    all_goals omega
  | _, _, [], m, a, c => by
    rw [cmpVs]; unfold cmpI
    repeat' split
    all_goals omega
end
theorem cmpVs_at {o : Bool} {ns ms : List (List UInt8)} {l m : List DV} {i : Nat} {x y : DV} (hx : l[i]? = some x) (hy : m[i]? = some y) (a c : Nat) :
    cmpVs o (ns.drop i) (ms.drop i) (l.drop i) (m.drop i) a c = if o = true ∧ (ns.drop i).headD [] ≠ (ms.drop i).headD [] then cmpB ((ns.drop i).headD []) ((ms.drop i).headD []) else if cmpV x y ≠ 0 then cmpV x y else cmpVs o (ns.drop (i + 1)) (ms.drop (i + 1)) (l.drop (i + 1)) (m.drop (i + 1)) a c := by
  obtain ⟨hi, he⟩ := List.getElem?_eq_some_iff.1 hx
  obtain ⟨hj, hf⟩ := List.getElem?_eq_some_iff.1 hy
  rw [List.drop_eq_getElem_cons hi, he, List.drop_eq_getElem_cons hj, hf, cmpVs, List.tail_drop, List.tail_drop]
theorem cmpVs_end {o : Bool} {ns ms : List (List UInt8)} {l m : List DV} {i : Nat} (h : i = l.length ∨ i = m.length) (a c : Nat) : cmpVs o (ns.drop i) (ms.drop i) (l.drop i) (m.drop i) a c = cmpI a c := by
  rcases h with rfl | rfl
  · rw [List.drop_length, cmpVs]
  · rw [List.drop_length]
    cases l.drop m.length with
    | nil => rw [cmpVs]
    | cons x r => rw [cmpVs]
theorem rank_same {k k2 : Int} {b b2 : Bool} {n n2 : Int} {s s2 : List UInt8} {i i2 : List DV} {m m2 : List (List UInt8)} (h : rankV (.mk k b n s i m) = rankV (.mk k2 b2 n2 s2 i2 m2)) (_k0 : 0 ≤ k) (_k20 : 0 ≤ k2) : k = k2 := by
  rw [rankV_eq, rankV_eq] at h
  repeat' split at h
  all_goals omega
end Go.Proofs.YthngolfabfijpaaGreatDoor
