/-
  The walks of path.next, Get. What Get tells, in memory that is owned. What is owned, in another order.
-/
import Derived.Test.YthngolfabfijpaaGreatDoorHc2
import Derived.Test.YthngolfabfijpaaGreatDoorHc12
import Derived.Test.YthngolfabfijpaaGreatDoorHc13
import Derived.Test.YthngolfabfijpaaGreatDoorHc14
namespace Go.Proofs.YthngolfabfijpaaGreatDoor
open Go.RowKit Go.TL
set_option maxRecDepth 100000

set_option maxHeartbeats 16000000 in
theorem pnext_gives (x : J) (v : Value) (g : Gh) (s : List UInt8) (hV : IsJ g x v) (hS : smJ x) (hs : s.length ≤ 1000000) (hE : GErr g) (hT : GTabs g) : ∃ v' b, (∀ L, Gives Tryz.prog 42 #[v, str s] g L (.tuple #[v', .bool b])) ∧ v'.one = true ∧ (match nextJ x s with
    | some y => b = true ∧ IsJ g y v'
    | none => b = false ∧ v' = .nilIface) := by
  have I := fun L => pitem_gives s g L hs hE hT
  cases x with
  | obj ns xs =>
    obtain ⟨v', b, F, h1, h2⟩ := field_gives (.obj ns xs) v g s hV hS
    refine ⟨v', b, fun L => .of (Does.of2 Tryz.func42 rfl Tryz.ntmps42 rfl ?_), h1, h2⟩
    rw [IsJ] at hV
    obtain ⟨sl, flat, rfl, hSl, hMs⟩ := hV
    obtain ⟨ao, cap, rfl⟩ := hSl.slice
    clear hSl hMs hS h2
    repeat' (first
    | refine wkV ?_
    | ((with_reducible apply TL.gives_plain); (· kernel_rfl); (· rfl); (· exact F _); (· rfl)) | ((with_reducible apply TW.gives_plain); (· kernel_rfl); (· rfl); (· exact F _); (· rfl))
    | refine stS ?_ | (refine stB ?_; intro _) | (refine stC ?_; refine And.intro (fun _ => ?_) (fun _ => ?_)))
    refine TQ.endR2 (L' := L) Tryz.results42 rvA rvA rfl (.refl _) ?_ selA
    exact ⟨rfl, rfl, rfl⟩
  | list xs =>
    rw [IsJ] at hV
    obtain ⟨sl, flat, rfl, hSl, hJs⟩ := hV
    obtain ⟨ao, cap, rfl⟩ := hSl.slice
    rw [smJ] at hS
    obtain ⟨hl, hS⟩ := hS
    unfold nextJ
    dsimp only
    cases hi : itemL s with
    | none =>
      have hv : itemV s = -1 := by unfold itemV; rw [hi]
      rw [hv] at I
      refine ⟨_, false, fun L => .of (Does.of2 Tryz.func42 rfl Tryz.ntmps42 rfl ?_), rfl, rfl, rfl⟩
      repeat' (first
    | refine wkV ?_
    | ((with_reducible apply TL.gives_plain); (· kernel_rfl); (· rfl); (· exact I _); (· rfl)) | ((with_reducible apply TW.gives_plain); (· kernel_rfl); (· rfl); (· exact I _); (· rfl))
    | refine stS ?_ | (refine stB ?_; intro _) | (refine stC ?_; refine And.intro (fun _ => ?_) (fun _ => ?_)))
      refine TQ.endR2 (L' := L) Tryz.results42 rvA rvA rfl (.refl _) ?_ selA
      exact ⟨rfl, rfl, rfl⟩
    | some k =>
      by_cases hk : k ≤ 9223372036854775807
      · have hv : itemV s = (k : Nat) := by unfold itemV; rw [hi]; exact if_pos hk
        rw [hv] at I
        by_cases hlt : k < xs.length
        · obtain ⟨y, hy⟩ : ∃ y, xs[k]? = some y := ⟨_, List.getElem?_eq_getElem hlt⟩
          obtain ⟨v, hv, hJ⟩ := hJs.get hy
          obtain ⟨b1, o1, rfl, hg⟩ := hSl.elem hlt (by decide)
          have hld : g.cell b1 (o1 + k * 1) = some v := hg 0 v (by rw [Nat.mul_one]; exact hv)
          have ho := hJ.one
          rw [show (some k).bind (xs[·]?) = some y from hy]
          refine ⟨v, true, fun L => .of (Does.of2 Tryz.func42 rfl Tryz.ntmps42 rfl ?_), ho, rfl, hJ⟩
          clear hJs hSl hg hS hJ
          repeat' (first
    | refine wkV ?_
    | ((with_reducible apply TL.gives_plain); (· kernel_rfl); (· rfl); (· exact I _); (· rfl)) | ((with_reducible apply TW.gives_plain); (· kernel_rfl); (· rfl); (· exact I _); (· rfl))
    | refine stS ?_ | (refine stB ?_; intro _) | (refine stC ?_; refine And.intro (fun _ => ?_) (fun _ => ?_)))
          refine TQ.endR2 (L' := L) Tryz.results42 rvA rvA rfl (.refl _) ?_ selA
          exact ⟨rfl, rfl, rfl⟩
        · rw [show (some k).bind (xs[·]?) = none from List.getElem?_eq_none (by omega)]
          refine ⟨_, false, fun L => .of (Does.of2 Tryz.func42 rfl Tryz.ntmps42 rfl ?_), rfl, rfl, rfl⟩
          clear hJs hSl hS
          repeat' (first
    | refine wkV ?_
    | ((with_reducible apply TL.gives_plain); (· kernel_rfl); (· rfl); (· exact I _); (· rfl)) | ((with_reducible apply TW.gives_plain); (· kernel_rfl); (· rfl); (· exact I _); (· rfl))
    | refine stS ?_ | (refine stB ?_; intro _) | (refine stC ?_; refine And.intro (fun _ => ?_) (fun _ => ?_)))
          refine TQ.endR2 (L' := L) Tryz.results42 rvA rvA rfl (.refl _) ?_ selA
          exact ⟨rfl, rfl, rfl⟩
      · have hv : itemV s = -1 := by unfold itemV; rw [hi]; exact if_neg hk
        rw [hv] at I
        rw [show (some k).bind (xs[·]?) = none from List.getElem?_eq_none (by omega)]
        refine ⟨_, false, fun L => .of (Does.of2 Tryz.func42 rfl Tryz.ntmps42 rfl ?_), rfl, rfl, rfl⟩
        clear hJs hSl hS
        repeat' (first
    | refine wkV ?_
    | ((with_reducible apply TL.gives_plain); (· kernel_rfl); (· rfl); (· exact I _); (· rfl)) | ((with_reducible apply TW.gives_plain); (· kernel_rfl); (· rfl); (· exact I _); (· rfl))
    | refine stS ?_ | (refine stB ?_; intro _) | (refine stC ?_; refine And.intro (fun _ => ?_) (fun _ => ?_)))
        refine TQ.endR2 (L' := L) Tryz.results42 rvA rvA rfl (.refl _) ?_ selA
        exact ⟨rfl, rfl, rfl⟩
  | _ =>
    rw [IsJ] at hV
    refine ⟨_, false, fun L => .of (Does.of2 Tryz.func42 rfl Tryz.ntmps42 rfl ?_), rfl, rfl, rfl⟩
    first | (obtain ⟨rfl, _⟩ := hV) | subst hV
    generalize itemV s = it at *
    repeat' (first
    | refine wkV ?_
    | ((with_reducible apply TL.gives_plain); (· kernel_rfl); (· rfl); (· exact I _); (· rfl)) | ((with_reducible apply TW.gives_plain); (· kernel_rfl); (· rfl); (· exact I _); (· rfl))
    | refine stS ?_ | (refine stB ?_; intro _) | (refine stC ?_; refine And.intro (fun _ => ?_) (fun _ => ?_)))
    refine TQ.endR2 (L' := L) Tryz.results42 rvA rvA rfl (.refl _) ?_ selA
    exact ⟨rfl, rfl, rfl⟩
def GetR (p : List UInt8) (x : J) (L : List Ent) : Ending → Gh → List Ent → Prop := fun r g' L1 => ∃ v b, r = .returned (.tuple #[v, .bool b]) ∧ L1 = L ∧ v.one = true ∧ (match getP p x with
  | some y => b = true ∧ IsJ g' y v
  | none => b = false ∧ v = .nilIface)
set_option maxHeartbeats 16000000 in
theorem get_does (p : List UInt8) (x : J) (v : Value) (g : Gh) (L : List Ent) (hp : p.length ≤ 1000000) (hV : IsJ g x v) (hS : smJ x) (hE : GErr g) (hT : GTabs g) (hU : GU8 g) : Does Tryz.prog 22 #[v, str p] g L (GetR p x L) := by
  refine Does.of2 Tryz.func22 rfl Tryz.ntmps22 rfl ?_
  unfold GetR
  have A := fun L => steps_does p g L hp hU
  unfold StepsR at A
  have M := fun g1 (h : g.le g1) L => may_gives x v g1 L (IsJ.le h _ _ hV) hS (hT.le h) (hU.le h)
  cases hl : stepsL p with
  | none =>
    rw [hl] at A
    have hg : getP p x = none := by unfold getP; rw [hl]; split <;> rfl
    rw [hg]
    clear hV M
    repeat' (first
    | refine wkV ?_
    | (refine TL.call (Enters.plain (by kernel_rfl) (by rfl)) (by rfl) (A _) ?_; (rintro e g1 Ln hg1 ⟨vs, es, k1, k2, ho, hr⟩; have k2 := k2.symm; subst k1; subst k2; (obtain ⟨rfl, rfl⟩ := hr); refine CallK.ret ?_))
    | refine stS ?_ | (refine stB ?_; intro _) | (refine stC ?_; refine And.intro (fun _ => ?_) (fun _ => ?_)))
    refine TQ.endR2 (L' := L) Tryz.results22 rvA rvA rfl (hg1) ?_ selA
    exact ⟨_, false, rfl, rfl, rfl, rfl, rfl⟩
  | some l =>
    rw [hl] at A
    by_cases h0 : lookJ x 0 = 0
    · have hgp : getP p x = getJ l x := by unfold getP; rw [if_pos h0, hl]; rfl
      rw [hgp]
      rw [h0] at M
      obtain ⟨_, hln, hpl, _, hgood⟩ := stepsL_some hl
      have hpp := (stepsL_some hl).1
      have hlen : ∀ s ∈ l, s.length ≤ 1000000 := fun s hs => by have := joinS_len l s hs; rw [← hpp] at this; omega
      have hll : l.length ≤ 1000000 := by have := joinS_count l (fun s hs => (hgood s hs).1); rw [← hpp] at this; omega
      repeat' (first
    | refine wkV ?_
    | (refine TL.call (Enters.plain (by kernel_rfl) (by rfl)) (by rfl) (A _) ?_; (rintro e g1 Ln hg1 ⟨vs, es, k1, k2, ho, hr⟩; have k2 := k2.symm; subst k1; subst k2; (obtain ⟨rfl, hsl⟩ := hr; obtain ⟨av, cv, rfl⟩ := hsl.slice; have M1 := M g1 hg1); refine CallK.ret ?_))
    | ((with_reducible apply TL.gives_plain); (· kernel_rfl); (· rfl); (· exact M1 _); (· rfl)) | ((with_reducible apply TW.gives_plain); (· kernel_rfl); (· rfl); (· exact M1 _); (· rfl))
    | refine stS ?_ | (refine stB ?_; intro _) | (refine stC ?_; refine And.intro (fun _ => ?_) (fun _ => ?_)))
      clear A M M1
      have hE1 := hE.le hg1
      have hT1 := hT.le hg1
      have hU1 := hU.le hg1
      refine TC.loopK (α := Nat × J × Value) (fun z => z.1 ≤ l.length ∧ getJ (l.drop z.1) z.2.1 = getJ l x ∧ lookJ z.2.1 0 = 0 ∧ smJ z.2.1 ∧ IsJ g1 z.2.1 z.2.2) (fun z => l.length - z.1) (fun z _ => [(26, .int .i64 (z.1 : Nat)), (25, .int .i64 (l.length : Nat)), (24, .slice av l.length cv), (0, z.2.2)]) [] (by repeat (first | apply Drop.nil | apply Drop.cons (by (repeat (first | apply Pick.here | apply Pick.there))))) (fun _ L => L) (0, x, v) ⟨Nat.zero_le _, rfl, h0, hS, hV.le hg1 _ _⟩ subA selA ?_
      clear h0 hS hV
      rintro ⟨i, y, v⟩ ⟨hi, hy, h0, hS, hV⟩
      dsimp only at hi hy h0 hS hV ⊢
      by_cases hlt : i < l.length
      · obtain ⟨s, hs⟩ : ∃ s, l[i]? = some s := ⟨_, List.getElem?_eq_getElem hlt⟩
        obtain ⟨b1, o1, rfl, hg⟩ := hsl.elem hlt (by decide)
        have hld : g1.cell b1 (o1 + i * 1) = some (str s) := hg 0 _ (by rw [Nat.mul_one]; exact strs_get hs)
        obtain ⟨v', b, N, ho', hb⟩ := pnext_gives y v g1 s hV hS (hlen s (List.mem_of_getElem? hs)) hE1 hT1
        have hoV := hV.one
        rw [drop_of_get hs, getJ] at hy
        cases hnx : nextJ y s with
        | none =>
          rw [hnx] at hb hy
          obtain ⟨rfl, rfl⟩ := hb
          clear hsl hg hV
          repeat' (first
    | refine wkV ?_
    | ((with_reducible apply TL.gives_plain); (· kernel_rfl); (· rfl); (· exact N _); (· rfl)) | ((with_reducible apply TW.gives_plain); (· kernel_rfl); (· rfl); (· exact N _); (· rfl))
    | refine stS ?_ | (refine stB ?_; intro _) | (refine stC ?_; refine And.intro (fun _ => ?_) (fun _ => ?_)))
          refine TQ.endR2 (L' := L) Tryz.results22 rvA rvA rfl (hg1) ?_ selA
          refine ⟨_, false, rfl, rfl, rfl, ?_⟩
          rw [← hy]
          exact ⟨rfl, rfl⟩
        | some z =>
          rw [hnx] at hb hy
          obtain ⟨rfl, hz⟩ := hb
          have hsz := sm_next hS hnx
          have hlz := look_mono z 0 (look_next h0 hnx)
          clear hsl hg hV
          repeat' (first
    | refine wkV ?_
    | ((with_reducible apply TL.gives_plain); (· kernel_rfl); (· rfl); (· exact N _); (· rfl)) | ((with_reducible apply TW.gives_plain); (· kernel_rfl); (· rfl); (· exact N _); (· rfl))
    | refine stS ?_ | (refine stB ?_; intro _) | (refine stC ?_; refine And.intro (fun _ => ?_) (fun _ => ?_)))
          refine TQ.round (i + 1, z, v') ?_ ?_ rfl subA selA
          · exact ⟨by dsimp only; omega, hy, hlz, hsz, hz⟩
          · show l.length - (i + 1) < l.length - i
            omega
      · obtain rfl : i = l.length := by omega
        rw [List.drop_length, getJ] at hy
        have C := fun L => jCopy_does y v g1 L hV hS h0 hT1 hU1
        unfold CopyR at C
        clear hsl
        repeat' (first
    | refine wkV ?_
    | (refine TL.call (Enters.plain (by kernel_rfl) (by rfl)) (by rfl) (C _) ?_; (rintro e g2 Ln hg2 ⟨vj, Mj, k1, k2, k3, htj⟩; have k2 := k2.symm; subst k1; subst k2; subst k3; have ho := TrJ.one htj; refine CallK.ret ?_))
    | refine stS ?_ | (refine stB ?_; intro _) | (refine stC ?_; refine And.intro (fun _ => ?_) (fun _ => ?_)))
        refine TQ.freeze_tree (M := Mj) pkA htj ?_
        intro gf hgf hjf
        refine TQ.endR2 (L' := L) Tryz.results22 rvA rvA rfl (hg1.trans hgf) ?_ selA
        refine ⟨vj, true, rfl, rfl, ho, ?_⟩
        rw [← hy]
        exact ⟨rfl, hjf⟩
    · have hgp : getP p x = none := by unfold getP; rw [if_neg h0]
      rw [hgp]
      have hk : Hn (¬ ((lookJ x 0 : Nat) : Int) = 0) := ⟨by omega⟩
      repeat' (first
    | refine wkV ?_
    | (refine TL.call (Enters.plain (by kernel_rfl) (by rfl)) (by rfl) (A _) ?_; (rintro e g1 Ln hg1 ⟨vs, es, k1, k2, ho, hr⟩; have k2 := k2.symm; subst k1; subst k2; (obtain ⟨rfl, hsl⟩ := hr; have M1 := M g1 hg1; generalize lookJ x 0 = k at M1 hk); refine CallK.ret ?_))
    | ((with_reducible apply TL.gives_plain); (· kernel_rfl); (· rfl); (· exact M1 _); (· rfl)) | ((with_reducible apply TW.gives_plain); (· kernel_rfl); (· rfl); (· exact M1 _); (· rfl))
    | refine stS ?_ | (refine stB ?_; intro _) | (refine stC ?_; refine And.intro (fun _ => ?_) (fun _ => ?_)))
      refine TQ.endR2 (L' := L) Tryz.results22 rvA rvA rfl (hg1) ?_ selA
      exact ⟨_, false, rfl, rfl, rfl, rfl, rfl⟩
end Go.Proofs.YthngolfabfijpaaGreatDoor
namespace Go.Proofs.YthngolfabfijpaaGreatDoor
open Go.RowKit Go.TL
set_option maxRecDepth 100000

def GetT (y : J) (L : List Ent) : Ending → Gh → List Ent → Prop := fun r _ L1 => ∃ v M, r = .returned (.tuple #[v, .bool true]) ∧ L1 = grp M :: L ∧ TrJ y v M
set_option maxHeartbeats 16000000 in
theorem get_tree (p : List UInt8) (x y0 : J) (v : Value) (g : Gh) (L : List Ent) (hp : p.length ≤ 1000000) (hV : IsJ g x v) (hS : smJ x) (hE : GErr g) (hT : GTabs g) (hU : GU8 g) (hy0 : getP p x = some y0) : Does Tryz.prog 22 #[v, str p] g L (GetT y0 L) := by
  refine Does.of2 Tryz.func22 rfl Tryz.ntmps22 rfl ?_
  unfold GetT
  have A := fun L => steps_does p g L hp hU
  unfold StepsR at A
  have M := fun g1 (h : g.le g1) L => may_gives x v g1 L (IsJ.le h _ _ hV) hS (hT.le h) (hU.le h)
  obtain ⟨l, hl, hgp, h0⟩ : ∃ l, stepsL p = some l ∧ getJ l x = some y0 ∧ lookJ x 0 = 0 := by
    unfold getP at hy0
    split at hy0
    · rename_i h0
      obtain ⟨l, hl, hg⟩ := Option.bind_eq_some_iff.1 hy0
      exact ⟨l, hl, hg, h0⟩
    · cases hy0
  rw [hl] at A
  rw [h0] at M
  obtain ⟨_, hln, hpl, _, hgood⟩ := stepsL_some hl
  have hpp := (stepsL_some hl).1
  have hlen : ∀ s ∈ l, s.length ≤ 1000000 := fun s hs => by have := joinS_len l s hs; rw [← hpp] at this; omega
  have hll : l.length ≤ 1000000 := by have := joinS_count l (fun s hs => (hgood s hs).1); rw [← hpp] at this; omega
  repeat' (first
    | refine wkV ?_
    | (refine TL.call (Enters.plain (by kernel_rfl) (by rfl)) (by rfl) (A _) ?_; (rintro e g1 Ln hg1 ⟨vs, es, k1, k2, ho, hr⟩; have k2 := k2.symm; subst k1; subst k2; (obtain ⟨rfl, hsl⟩ := hr; obtain ⟨av, cv, rfl⟩ := hsl.slice; have M1 := M g1 hg1); refine CallK.ret ?_))
    | ((with_reducible apply TL.gives_plain); (· kernel_rfl); (· rfl); (· exact M1 _); (· rfl)) | ((with_reducible apply TW.gives_plain); (· kernel_rfl); (· rfl); (· exact M1 _); (· rfl))
    | refine stS ?_ | (refine stB ?_; intro _) | (refine stC ?_; refine And.intro (fun _ => ?_) (fun _ => ?_)))
  clear A M M1
  have hE1 := hE.le hg1
  have hT1 := hT.le hg1
  have hU1 := hU.le hg1
  refine TC.loopK (α := Nat × J × Value) (fun z => z.1 ≤ l.length ∧ getJ (l.drop z.1) z.2.1 = some y0 ∧ lookJ z.2.1 0 = 0 ∧ smJ z.2.1 ∧ IsJ g1 z.2.1 z.2.2) (fun z => l.length - z.1) (fun z _ => [(26, .int .i64 (z.1 : Nat)), (25, .int .i64 (l.length : Nat)), (24, .slice av l.length cv), (0, z.2.2)]) [] (by repeat (first | apply Drop.nil | apply Drop.cons (by (repeat (first | apply Pick.here | apply Pick.there))))) (fun _ L => L) (0, x, v) ⟨Nat.zero_le _, hgp, h0, hS, hV.le hg1 _ _⟩ subA selA ?_
  clear h0 hS hV
  rintro ⟨i, y, v⟩ ⟨hi, hy, h0, hS, hV⟩
  dsimp only at hi hy h0 hS hV ⊢
  by_cases hlt : i < l.length
  · obtain ⟨s, hs⟩ : ∃ s, l[i]? = some s := ⟨_, List.getElem?_eq_getElem hlt⟩
    obtain ⟨b1, o1, rfl, hg⟩ := hsl.elem hlt (by decide)
    have hld : g1.cell b1 (o1 + i * 1) = some (str s) := hg 0 _ (by rw [Nat.mul_one]; exact strs_get hs)
    obtain ⟨v', b, N, ho', hb⟩ := pnext_gives y v g1 s hV hS (hlen s (List.mem_of_getElem? hs)) hE1 hT1
    have hoV := hV.one
    rw [drop_of_get hs, getJ] at hy
    cases hnx : nextJ y s with
    | none => rw [hnx] at hy; cases hy
    | some z =>
      rw [hnx] at hb hy
      obtain ⟨rfl, hz⟩ := hb
      have hsz := sm_next hS hnx
      have hlz := look_mono z 0 (look_next h0 hnx)
      clear hsl hg hV
      repeat' (first
    | refine wkV ?_
    | ((with_reducible apply TL.gives_plain); (· kernel_rfl); (· rfl); (· exact N _); (· rfl)) | ((with_reducible apply TW.gives_plain); (· kernel_rfl); (· rfl); (· exact N _); (· rfl))
    | refine stS ?_ | (refine stB ?_; intro _) | (refine stC ?_; refine And.intro (fun _ => ?_) (fun _ => ?_)))
      refine TQ.round (i + 1, z, v') ?_ ?_ rfl subA selA
      · exact ⟨by dsimp only; omega, hy, hlz, hsz, hz⟩
      · show l.length - (i + 1) < l.length - i
        omega
  · obtain rfl : i = l.length := by omega
    rw [List.drop_length, getJ] at hy
    obtain rfl := Option.some.inj hy
    have C := fun L => jCopy_does y v g1 L hV hS h0 hT1 hU1
    unfold CopyR at C
    clear hsl
    repeat' (first
    | refine wkV ?_
    | (refine TL.call (Enters.plain (by kernel_rfl) (by rfl)) (by rfl) (C _) ?_; (rintro e g2 Ln hg2 ⟨vj, Mj, k1, k2, k3, htj⟩; have k2 := k2.symm; subst k1; subst k2; subst k3; have ho := TrJ.one htj; refine CallK.ret ?_))
    | refine stS ?_ | (refine stB ?_; intro _) | (refine stC ?_; refine And.intro (fun _ => ?_) (fun _ => ?_)))
    refine TQ.endR2 (L' := (grp Mj :: L)) Tryz.results22 rvA rvA rfl (hg1) ?_ selA
    exact ⟨vj, Mj, rfl, rfl, htj⟩
end Go.Proofs.YthngolfabfijpaaGreatDoor
namespace Go.TL
open Go Go.RowKit Go.Proofs.YthngolfabfijpaaGreatDoor
theorem permU {L' L : List Ent} (h : L'.Perm L := by first | ((repeat (first | with_reducible apply List.Perm.refl | with_reducible apply Pk.cons (by first | ((repeat (first | with_reducible apply Pick.here | with_reducible apply Pick.there)); done) | fail))); done) | fail) : L'.Perm L := h
end Go.TL
