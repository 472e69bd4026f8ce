/-
  Three operations of a drawn region that may come up in any order. The walk of the law ShapeBoxes. The document's Meet and Within, walked.
-/
import Derived.Test.YtfanccddokckcaaGreatDoorSm1
import Derived.Test.YtfanccddokckcaaGreatDoorSm36
import Derived.Test.YtfanccddokckcaaGreatDoorSm35
import Derived.Test.YtfanccddokckcaaGreatDoorSm15
import Derived.Test.YtfanccddokckcaaGreatDoorSm34
import Derived.Test.YtfanccddokckcaaGreatDoorSm40
import Derived.Test.YtfanccddokckcaaGreatDoorSm41
import Derived.Test.YtfanccddokckcaaGreatDoorSm43
import Derived.Test.YtfanccddokckcaaGreatDoorSm32
import Derived.Test.YtfanccddokckcaaGreatDoorSm2
import Derived.Test.YtfanccddokckcaaGreatDoorSm31
namespace Go.TL
open Go Go.RowKit
section
variable {P : Program} {ops : Array Oper} {Q : Exit → Act → World → Prop} {rest : List Oper} {n : Nat} {ds : List Deferred} {S : Slots} {g gS : Gh} {L LS : List Ent} {sk : Nat}
variable {id fuel : Nat} {listed : Array Bool} {o : Oper} {v : Value} {d : Nat} {op : Op} {ty : TypeId} {pos : String} {aft : Array Edge}
theorem TA.three {l : List Oper} (i j m : Nat) {oi oj om : Oper} {ai aj am : Array Bool} (hi0 : nthO l i = some oi) (hj0 : nthO l j = some oj) (hm0 : nthO l m = some om) (hr : Region.ready .any l.toArray listed = [i, j, m]) (hli : listed.setIfInBounds i true = ai) (hlj : listed.setIfInBounds j true = aj) (hlm : listed.setIfInBounds m true = am)
    (hi : TL P l.toArray (AnyQ P l.toArray Q gS LS fuel ai) [oi] n ds S g L) (hj : TL P l.toArray (AnyQ P l.toArray Q gS LS fuel aj) [oj] n ds S g L) (hm : TL P l.toArray (AnyQ P l.toArray Q gS LS fuel am) [om] n ds S g L) : TA P l.toArray Q gS LS (fuel + 1) listed n ds S g L := .mk fun a w hf hs _ => by
  subst hli hlj hlm
  refine wpAnyH_all hr (by simp) fun k hk => ?_
  have key : ∀ k o, nthO l k = some o → TL P l.toArray (AnyQ P l.toArray Q gS LS fuel (listed.setIfInBounds k true)) [o] n ds S g L → wpOp P l.toArray Q k (fun a' w' => St gS LS w' ∧ wpAnyH P .any l.toArray Q (St gS LS) fuel (listed.setIfInBounds k true) a' w') a w := fun k o ho h => by
    have hi := (nthO_eq l k).trans ho
    have h1 := h.h a w hf hs
    unfold wpOp
    simp only [hi]
    unfold wpList at h1
    by_cases hw : Region.wanted o (yielded l.toArray a.tmps) = true
    · rw [if_pos hw] at h1 ⊢
      rcases h1 with h1 | ⟨ha, hlets⟩
      · refine .inl ?_
        unfold Oper.wp at h1 ⊢
        generalize (execOp a.eval o).run P w = r at *
        cases r with
        | ok m w' =>
          cases m <;> simp only [Oper.upon] at h1 ⊢ <;> first | exact h1 | exact h1.mono fun e w'' he => by cases e <;> exact he
        | halt x w' => cases x <;> simp only [Oper.upon] at h1 ⊢ <;> exact h1
      · exact .inr ⟨ha, hlets⟩
    · rw [if_neg hw] at h1 ⊢
      exact h1
  rcases List.mem_cons.1 hk with rfl | hk
  · exact key _ _ hi0 hi
  · rcases List.mem_cons.1 hk with rfl | hk
    · exact key _ _ hj0 hj
    · obtain rfl := List.mem_singleton.1 hk
      exact key _ _ hm0 hm
end
end Go.TL
namespace Go.TL
open Go Go.RowKit Go.Proofs.YtfanccddokckcaaGreatDoor
theorem Y.eqb_tr {P : Program} {n : Nat} {ds : List Deferred} {S : Slots} {g : Gh} {L : List Ent} {gd : Option (Nat × Bool)} {dst : Option Nat} {x y : Operand} {t t' ty : TypeId} {pos : String} {aft : Array Edge} {b : Bool} (hx : ev S x = some (.bool b)) (hy : ev S y = some (.bool b)) [ht : Und P t .bool] : Yields P n ds S g L ⟨dst, .binOp .eql t x y t', ty, pos, aft, gd⟩ (.bool true) := by
  have := Y.eql_bool (P := P) (n := n) (ds := ds) (g := g) (L := L) (gd := gd) (dst := dst) (t := t) (t' := t') (ty := ty) (pos := pos) (aft := aft) hx hy
  rwa [decide_eq_true rfl] at this
end Go.TL
namespace Go.Proofs.YtfanccddokckcaaGreatDoor
open Go.RowKit Go.TL
set_option maxRecDepth 100000

theorem parts_slice {g : Gh} {v : Value} {ps : List (List Pt)} (h : IsParts g v ps) : ∃ a c, v = .slice a ps.length c := by
  obtain ⟨_, h, _⟩ := h; exact h.slice
end Go.Proofs.YtfanccddokckcaaGreatDoor
namespace Go.Proofs.YtfanccddokckcaaGreatDoor
open Go.RowKit Go.TL
set_option maxRecDepth 100000

theorem anyE_drop {P : Pt → Pt → Pt → Pt → Bool} {es fs : List (Pt × Pt)} {i : Nat} {e : Pt × Pt} (h : es[i]? = some e) : anyE P (es.drop i) fs = ((fs.drop 0).any (fun y => P e.1 e.2 y.1 y.2) || anyE P (es.drop (i + 1)) fs) := by
  rw [drop_of_get h]; rfl
theorem any_drop {α : Type} {P : α → Bool} {l : List α} {i : Nat} {e : α} (h : l[i]? = some e) : (l.drop i).any P = (P e || (l.drop (i + 1)).any P) := by
  rw [drop_of_get h]; rfl
set_option maxHeartbeats 32000000 in
theorem rMeet9_gives (k m : Int) (ps ts : List (List Pt)) (v u : Value) (g : Gh) (L : List Ent) (hS : IsParts g v ps) (hO : ShFew ps) (hT : IsParts g u ts) (hU : ShFew ts) (h1 : rightB k ps = true) (h2 : rightB m ts = true) : Gives Tryz.prog 20 #[shV k v, shV m u] g L (.bool (meetD k ps m ts)) := by
  refine .of (Does.of2 Tryz.func20 rfl Tryz.ntmps20 rfl ?_)
  have p1 := rtP_of h1
  have p2 := rtP_of h2
  obtain ⟨qa, hqa, hha⟩ := head_mem p1
  obtain ⟨qb, hqb, hhb⟩ := head_mem p2
  have ED1 := fun L => rEdges9_does k ps v g L hS hO
  have ED2 := fun g1 (h : g.le g1) L => rEdges9_does m ts u g1 L (hT.le h) hU
  have he1 : (allE k ps).length ≤ 1000000 := Nat.le_trans (allE_len_le k ps) hO.all
  have he2 : (allE m ts).length ≤ 1000000 := Nat.le_trans (allE_len_le m ts) hU.all
  have me1 := allE_may' (k := k) p1.may
  have me2 := allE_may' (k := m) p2.may
  have I1 := fun g1 (h : g.le g1) L => rIn9_gives m ts u (headS ps) g1 L (hT.le h) hU p2.may (p1.mayq hqa hha)
  have I2 := fun g1 (h : g.le g1) L => rIn9_gives k ps v (headS ts) g1 L (hS.le h) hO p1.may (p2.mayq hqb hhb)
  obtain ⟨bh, oh, nh, caph, bh2, oh2, ch2, ph, rfl, hn0, hn1, hh1, hh2, hh3⟩ := head_cells h1 hS
  obtain ⟨bt, ot, nt, capt, bt2, ot2, ct2, pt', rfl, hm0, hm1, ht1, ht2, ht3⟩ := head_cells h2 hT
  rw [hh3] at I1
  rw [ht3] at I2
  unfold meetD
  rw [hh3, ht3, Bool.or_assoc]
  generalize inD m ts ph = z1 at *
  generalize inD k ps pt' = z2 at *
  generalize allE k ps = es at *
  generalize allE m ts = fs at *
  obtain ⟨R, hR⟩ : ∃ R, R = (anyE meetB (es.drop 0) fs || (z1 || z2)) := ⟨_, rfl⟩
  rw [show (anyE meetB es fs || (z1 || z2)) = R from hR.symm]
  have hll1 : [Value.int .i64 ph.1, .int .i64 ph.2].length = 2 := rfl
  have hll2 : [Value.int .i64 pt'.1, .int .i64 pt'.2].length = 2 := rfl
  clear hS hT hO hU h1 h2 p1 p2 hqa hha hqb hhb hh3 ht3
  repeat' (first
    | refine wkQ ?_
    | refine wkV ?_
    | (refine TL.call (Enters.plain (by kernel_rfl) (by rfl)) (by rfl) (ED1 _) ?_; (rintro e g1 Ln hg1 ⟨vc, k1, k2, k3⟩; have k2 := k2.symm; subst k1; subst k2; obtain ⟨a1, c1, rfl⟩ := k3.slice; have K1 := Hn.mk k3; have ED3 := ED2 g1 hg1; clear k3 ED2; refine CallK.ret ?_))
    | (refine TL.call (Enters.plain (by kernel_rfl) (by rfl)) (by rfl) (ED3 _) ?_; (rintro e g2 Ln hg2 ⟨vd, k1, k2, k3⟩; have k2 := k2.symm; subst k1; subst k2; obtain ⟨a2, c2, rfl⟩ := k3.slice; have K2 := Hn.mk k3; have hg02 := hg1.trans hg2; clear k3 ED3; refine CallK.ret ?_))
    | refine stS ?_ | (refine stB ?_; intro _) | (refine stC ?_; refine And.intro (fun _ => ?_) (fun _ => ?_))
    | refine wkN0 ?_
    | refine wkN1 ?_
    | refine wkN2 ?_
    | refine wkN3 ?_
    | refine wkG0 ?_
    | refine wkG1 ?_
    | refine wkG2 ?_
    | refine wkG3 ?_
    | refine wkX0 ?_
    | refine wkX1 ?_
    | refine wkX2 ?_
    | refine wkX3 ?_
    | refine wkN0 ?_
    | refine wkN1 ?_
    | refine wkN2 ?_
    | refine wkN3 ?_
    | ((with_reducible apply TA.oneN 0); (· rfl); (· rfl); (· decide +kernel); (· rfl))
    | ((with_reducible apply TA.oneN 1); (· rfl); (· rfl); (· decide +kernel); (· rfl))
    | ((with_reducible apply TA.oneN 2); (· rfl); (· rfl); (· decide +kernel); (· rfl))
    | ((with_reducible apply TA.oneN 3); (· rfl); (· rfl); (· decide +kernel); (· rfl))
    | refine TQ.any leF selF ?_
    | refine TC.region_any 6 (_) (by kernel_rfl) rfl selF ?_ | refine TA.done (by decide +kernel) ?_ | refine TQ.any_panic ?_)
  rename_i b2 b3 _
  refine TC.loopK (fun i : Nat => i ≤ es.length ∧ (anyE meetB (es.drop i) fs || (z1 || z2)) = R) (fun i => es.length - i) (fun i _ => [(7, .int .i64 (i : Nat)), (6, .slice a2 fs.length c2), (5, .slice a1 es.length c1), (3, .pointer (some ⟨b3, 0, none⟩)), (2, .pointer (some ⟨b2, 0, none⟩))]) [] .nil (fun _ L => L) 0 ⟨Nat.zero_le _, hR.symm⟩ subA selF ?_
  clear hR ED1
  rintro i ⟨hi, hI⟩
  try dsimp only at hi hI ⊢
  by_cases hlt : i < es.length
  · obtain ⟨x, hx⟩ : ∃ x, es[i]? = some x := ⟨_, List.getElem?_eq_getElem hlt⟩
    rw [anyE_drop hx] at hI
    clear hh1 hh2 ht1 ht2 I1 I2 hll1 hll2
    obtain ⟨A, hA⟩ : ∃ A, A = anyE meetB (es.drop (i + 1)) fs := ⟨_, rfl⟩
    rw [← hA] at hI
    have HA := Hn.mk hA
    clear hA
    rw [Bool.or_assoc] at hI
    repeat' (first
    | refine wkQ ?_
    | refine wkV ?_
    | refine stS ?_ | (refine stB ?_; intro _) | (refine stC ?_; refine And.intro (fun _ => ?_) (fun _ => ?_)))
    refine TC.loopK (fun j : Nat => j ≤ fs.length ∧ ((fs.drop j).any (fun y => meetB x.1 x.2 y.1 y.2) || (A || (z1 || z2))) = R) (fun j => fs.length - j) (fun j _ => [(8, .int .i64 (j : Nat)), (7, .int .i64 (i : Nat)), (6, .slice a2 fs.length c2), (5, .slice a1 es.length c1), (3, .pointer (some ⟨b3, 0, none⟩)), (2, .pointer (some ⟨b2, 0, none⟩))]) [] .nil (fun _ L => L) 0 ⟨Nat.zero_le _, hI⟩ subA selF ?_
    clear hI
    rintro j ⟨hj, hJ⟩
    try dsimp only at hj hJ ⊢
    by_cases hlt2 : j < fs.length
    · obtain ⟨y, hy⟩ : ∃ y, fs[j]? = some y := ⟨_, List.getElem?_eq_getElem hlt2⟩
      obtain ⟨b5, o5, rfl, hg5⟩ := K1.out.elem hlt (by decide)
      obtain ⟨b6, o6, rfl, hg6⟩ := K2.out.elem hlt2 (by decide)
      have hld := ed_cells hg5 (flatE_get hx).1 (flatE_get hx).2.1 (flatE_get hx).2.2.1 (flatE_get hx).2.2.2
      have hld2 := ed_cells hg6 (flatE_get hy).1 (flatE_get hy).2.1 (flatE_get hy).2.2.1 (flatE_get hy).2.2.2
      obtain ⟨hp0', hp1'⟩ := ed_part hld
      obtain ⟨hq0, hq1⟩ := ed_part hld2
      have hp0 := fun j u h => hg2.cell (hp0' j u h)
      have hp1 := fun j u h => hg2.cell (hp1' j u h)
      have hl0 : (ptC x.1).length = 2 := rfl
      have hl1 : (ptC x.2).length = 2 := rfl
      have hl2 : (ptC y.1).length = 2 := rfl
      have hl3 : (ptC y.2).length = 2 := rfl
      obtain ⟨mx1, mx2⟩ := me1 x (List.mem_of_getElem? hx)
      obtain ⟨my1, my2⟩ := me2 y (List.mem_of_getElem? hy)
      have ME := fun L => rMeet8_gives x.1 x.2 y.1 y.2 g2 L mx1 mx2 my1 my2
      rw [any_drop hy] at hJ
      clear hld hld2 hg5 hg6 hp0' hp1' hx hy me1 me2 K1 K2
      generalize meetB x.1 x.2 y.1 y.2 = z at *
      cases z with
      | true =>
        obtain rfl : true = R := by rw [← hJ]; simp
        repeat' (first
    | refine wkQ ?_
    | refine wkV ?_
    | ((with_reducible apply TL.gives_plain); (· kernel_rfl); (· rfl); (· exact ME _); (· rfl)) | ((with_reducible apply TW.gives_plain); (· kernel_rfl); (· rfl); (· exact ME _); (· rfl))
    | refine stS ?_ | (refine stB ?_; intro _) | (refine stC ?_; refine And.intro (fun _ => ?_) (fun _ => ?_))
    | refine wkN0 ?_
    | refine wkN1 ?_
    | refine wkN2 ?_
    | refine wkN3 ?_
    | refine wkG0 ?_
    | refine wkG1 ?_
    | refine wkG2 ?_
    | refine wkG3 ?_
    | refine wkX0 ?_
    | refine wkX1 ?_
    | refine wkX2 ?_
    | refine wkX3 ?_
    | refine wkN0 ?_
    | refine wkN1 ?_
    | refine wkN2 ?_
    | refine wkN3 ?_
    | ((with_reducible apply TA.oneN 0); (· rfl); (· rfl); (· decide +kernel); (· rfl))
    | ((with_reducible apply TA.oneN 1); (· rfl); (· rfl); (· decide +kernel); (· rfl))
    | ((with_reducible apply TA.oneN 2); (· rfl); (· rfl); (· decide +kernel); (· rfl))
    | ((with_reducible apply TA.oneN 3); (· rfl); (· rfl); (· decide +kernel); (· rfl))
    | refine TQ.any leF selF ?_
    | refine TC.region_any 21 (_) (by kernel_rfl) rfl selF ?_ | refine TA.done (by decide +kernel) ?_ | refine TQ.any_panic ?_)
        refine TQ.less hg02 ?_
        refine TQ.endR1 (L' := L) Tryz.results20 rvA rfl (.refl _) ?_ selF
        exact ⟨rfl, rfl, rfl⟩
      | false =>
        rw [Bool.false_or] at hJ
        repeat' (first
    | refine wkQ ?_
    | refine wkV ?_
    | ((with_reducible apply TL.gives_plain); (· kernel_rfl); (· rfl); (· exact ME _); (· rfl)) | ((with_reducible apply TW.gives_plain); (· kernel_rfl); (· rfl); (· exact ME _); (· rfl))
    | refine stS ?_ | (refine stB ?_; intro _) | (refine stC ?_; refine And.intro (fun _ => ?_) (fun _ => ?_))
    | refine wkN0 ?_
    | refine wkN1 ?_
    | refine wkN2 ?_
    | refine wkN3 ?_
    | refine wkG0 ?_
    | refine wkG1 ?_
    | refine wkG2 ?_
    | refine wkG3 ?_
    | refine wkX0 ?_
    | refine wkX1 ?_
    | refine wkX2 ?_
    | refine wkX3 ?_
    | refine wkN0 ?_
    | refine wkN1 ?_
    | refine wkN2 ?_
    | refine wkN3 ?_
    | ((with_reducible apply TA.oneN 0); (· rfl); (· rfl); (· decide +kernel); (· rfl))
    | ((with_reducible apply TA.oneN 1); (· rfl); (· rfl); (· decide +kernel); (· rfl))
    | ((with_reducible apply TA.oneN 2); (· rfl); (· rfl); (· decide +kernel); (· rfl))
    | ((with_reducible apply TA.oneN 3); (· rfl); (· rfl); (· decide +kernel); (· rfl))
    | refine TQ.any leF selF ?_
    | refine TC.region_any 21 (_) (by kernel_rfl) rfl selF ?_ | refine TA.done (by decide +kernel) ?_ | refine TQ.any_panic ?_)
        refine TQ.round (j + 1) ?_ ?_ rfl subA selF
        · exact ⟨by omega, hJ⟩
        · show fs.length - (j + 1) < fs.length - j
          omega
    · obtain rfl : j = fs.length := by omega
      rw [List.drop_length, List.any_nil, Bool.false_or] at hJ
      repeat' (first
    | refine wkQ ?_
    | refine wkV ?_
    | refine stS ?_ | (refine stB ?_; intro _) | (refine stC ?_; refine And.intro (fun _ => ?_) (fun _ => ?_)))
      refine TQ.round (i + 1) ?_ ?_ rfl subA selF
      · exact ⟨by omega, by rw [← HA.out]; exact hJ⟩
      · show es.length - (i + 1) < es.length - i
        omega
  · obtain rfl : i = es.length := by omega
    rw [List.drop_length] at hI
    replace hI : (z1 || z2) = R := hI
    have I1 := fun L => I1 g2 hg02 L
    have I2 := fun L => I2 g2 hg02 L
    have hh1 := hg02.cell hh1
    have hh2 := fun j u h => hg02.cell (hh2 j u h)
    have ht1 := hg02.cell ht1
    have ht2 := fun j u h => hg02.cell (ht2 j u h)
    clear K1 K2 me1 me2
    cases z1 with
    | true =>
      obtain rfl : true = R := hI
      clear I2
      repeat' (first
    | refine wkQ ?_
    | refine wkV ?_
    | ((with_reducible apply TL.gives_plain); (· kernel_rfl); (· rfl); (· exact I1 _); (· rfl)) | ((with_reducible apply TW.gives_plain); (· kernel_rfl); (· rfl); (· exact I1 _); (· rfl))
    | refine stS ?_ | (refine stB ?_; intro _) | (refine stC ?_; refine And.intro (fun _ => ?_) (fun _ => ?_))
    | refine wkN0 ?_
    | refine wkN1 ?_
    | refine wkN2 ?_
    | refine wkN3 ?_
    | refine wkG0 ?_
    | refine wkG1 ?_
    | refine wkG2 ?_
    | refine wkG3 ?_
    | refine wkX0 ?_
    | refine wkX1 ?_
    | refine wkX2 ?_
    | refine wkX3 ?_
    | refine wkN0 ?_
    | refine wkN1 ?_
    | refine wkN2 ?_
    | refine wkN3 ?_
    | ((with_reducible apply TA.oneN 0); (· rfl); (· rfl); (· decide +kernel); (· rfl))
    | ((with_reducible apply TA.oneN 1); (· rfl); (· rfl); (· decide +kernel); (· rfl))
    | ((with_reducible apply TA.oneN 2); (· rfl); (· rfl); (· decide +kernel); (· rfl))
    | ((with_reducible apply TA.oneN 3); (· rfl); (· rfl); (· decide +kernel); (· rfl))
    | refine TQ.any leF selF ?_
    | refine TC.region_any 19 (_) (by kernel_rfl) rfl selF ?_ | refine TA.done (by decide +kernel) ?_ | refine TQ.any_panic ?_)
      refine TQ.less hg02 ?_
      refine TQ.endR1 (L' := L) Tryz.results20 rvA rfl (.refl _) ?_ selF
      exact ⟨rfl, rfl, rfl⟩
    | false =>
      obtain rfl : z2 = R := hI
      repeat' (first
    | refine wkQ ?_
    | refine wkV ?_
    | ((with_reducible apply TL.gives_plain); (· kernel_rfl); (· rfl); (· exact I1 _); (· rfl)) | ((with_reducible apply TW.gives_plain); (· kernel_rfl); (· rfl); (· exact I1 _); (· rfl))
    | ((with_reducible apply TL.gives_plain); (· kernel_rfl); (· rfl); (· exact I2 _); (· rfl)) | ((with_reducible apply TW.gives_plain); (· kernel_rfl); (· rfl); (· exact I2 _); (· rfl))
    | refine stS ?_ | (refine stB ?_; intro _) | (refine stC ?_; refine And.intro (fun _ => ?_) (fun _ => ?_))
    | refine wkN0 ?_
    | refine wkN1 ?_
    | refine wkN2 ?_
    | refine wkN3 ?_
    | refine wkG0 ?_
    | refine wkG1 ?_
    | refine wkG2 ?_
    | refine wkG3 ?_
    | refine wkX0 ?_
    | refine wkX1 ?_
    | refine wkX2 ?_
    | refine wkX3 ?_
    | refine wkN0 ?_
    | refine wkN1 ?_
    | refine wkN2 ?_
    | refine wkN3 ?_
    | ((with_reducible apply TA.oneN 0); (· rfl); (· rfl); (· decide +kernel); (· rfl))
    | ((with_reducible apply TA.oneN 1); (· rfl); (· rfl); (· decide +kernel); (· rfl))
    | ((with_reducible apply TA.oneN 2); (· rfl); (· rfl); (· decide +kernel); (· rfl))
    | ((with_reducible apply TA.oneN 3); (· rfl); (· rfl); (· decide +kernel); (· rfl))
    | refine TQ.any leF selF ?_
    | refine TC.region_any 19 (_) (by kernel_rfl) rfl selF ?_ | refine TA.done (by decide +kernel) ?_ | refine TQ.any_panic ?_)
      refine TQ.less hg02 ?_
      refine TQ.endR1 (L' := L) Tryz.results20 rvA rfl (.refl _) ?_ selF
      exact ⟨rfl, rfl, rfl⟩
end Go.Proofs.YtfanccddokckcaaGreatDoor
