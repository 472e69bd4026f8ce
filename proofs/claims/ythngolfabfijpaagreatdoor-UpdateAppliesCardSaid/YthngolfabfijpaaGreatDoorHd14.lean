/-
  The walks of path.next, Get. The walk of path.put. The walk of the document's Steps. How a document is changed, as data. How a document is changed, as data: what holds of every document on the way.
-/
import Derived.Test.YthngolfabfijpaaGreatDoorHd2
import Derived.Test.YthngolfabfijpaaGreatDoorHd11
import Derived.Test.YthngolfabfijpaaGreatDoorHd12
import Derived.Test.YthngolfabfijpaaGreatDoorHd13
import Derived.Test.YthngolfabfijpaaGreatDoorHd6
namespace Go.Proofs.YthngolfabfijpaaGreatDoor
open Go.RowKit Go.TL
set_option maxRecDepth 100000

set_option maxHeartbeats 16000000 in
theorem pnext_gives (x : J) (v : Value) (g : Gh) (s : List UInt8) (hV : IsJ g x v) (hS : smJ x) (hs : s.length ≤ 1000000) (hE : GErr g) (hT : GTabs g) : ∃ v' b, (∀ L, Gives Tryz.prog 42 #[v, str s] g L (.tuple #[v', .bool b])) ∧ v'.one = true ∧ (match nextJ x s with
    | some y => b = true ∧ IsJ g y v'
    | none => b = false ∧ v' = .nilIface) := by
  have I := fun L => pitem_gives s g L hs hE hT
  cases x with
  | obj ns xs =>
    obtain ⟨v', b, F, h1, h2⟩ := field_gives (.obj ns xs) v g s hV hS
    refine ⟨v', b, fun L => .of (Does.of2 Tryz.func42 rfl Tryz.ntmps42 rfl ?_), h1, h2⟩
    rw [IsJ] at hV
    obtain ⟨sl, flat, rfl, hSl, hMs⟩ := hV
    obtain ⟨ao, cap, rfl⟩ := hSl.slice
    clear hSl hMs hS h2
    repeat' (first | refine wkV ?_ | ((with_reducible apply TL.gives_plain); (· kernel_rfl); (· rfl); (· exact F _); (· rfl)) | refine stS ?_ | fail)
    refine TQ.endR2 (L' := L) Tryz.results42 rvA rvA rfl (.refl _) ?_ selA
    exact ⟨rfl, rfl, rfl⟩
  | list xs =>
    rw [IsJ] at hV
    obtain ⟨sl, flat, rfl, hSl, hJs⟩ := hV
    obtain ⟨ao, cap, rfl⟩ := hSl.slice
    rw [smJ] at hS
    obtain ⟨hl, hS⟩ := hS
    unfold nextJ
    dsimp only
    cases hi : itemL s with
    | none =>
      have hv : itemV s = -1 := by unfold itemV; rw [hi]
      rw [hv] at I
      refine ⟨_, false, fun L => .of (Does.of2 Tryz.func42 rfl Tryz.ntmps42 rfl ?_), rfl, rfl, rfl⟩
      repeat' (first | refine wkV ?_ | ((with_reducible apply TL.gives_plain); (· kernel_rfl); (· rfl); (· exact I _); (· rfl)) | refine stS ?_ | fail)
      refine TQ.endR2 (L' := L) Tryz.results42 rvA rvA rfl (.refl _) ?_ selA
      exact ⟨rfl, rfl, rfl⟩
    | some k =>
      by_cases hk : k ≤ 9223372036854775807
      · have hv : itemV s = (k : Nat) := by unfold itemV; rw [hi]; exact if_pos hk
        rw [hv] at I
        by_cases hlt : k < xs.length
        · obtain ⟨y, hy⟩ : ∃ y, xs[k]? = some y := ⟨_, List.getElem?_eq_getElem hlt⟩
          obtain ⟨v, hv, hJ⟩ := hJs.get hy
          obtain ⟨b1, o1, rfl, hg⟩ := hSl.elem hlt (by decide)
          have hld : g.cell b1 (o1 + k * 1) = some v := hg 0 v (by rw [Nat.mul_one]; exact hv)
          have ho := hJ.one
          rw [show (some k).bind (xs[·]?) = some y from hy]
          refine ⟨v, true, fun L => .of (Does.of2 Tryz.func42 rfl Tryz.ntmps42 rfl ?_), ho, rfl, hJ⟩
          clear hJs hSl hg hS hJ
          repeat' (first | refine wkV ?_ | ((with_reducible apply TL.gives_plain); (· kernel_rfl); (· rfl); (· exact I _); (· rfl)) | refine stS ?_ | fail)
          refine TQ.endR2 (L' := L) Tryz.results42 rvA rvA rfl (.refl _) ?_ selA
          exact ⟨rfl, rfl, rfl⟩
        · rw [show (some k).bind (xs[·]?) = none from List.getElem?_eq_none (by omega)]
          refine ⟨_, false, fun L => .of (Does.of2 Tryz.func42 rfl Tryz.ntmps42 rfl ?_), rfl, rfl, rfl⟩
          clear hJs hSl hS
          repeat' (first | refine wkV ?_ | ((with_reducible apply TL.gives_plain); (· kernel_rfl); (· rfl); (· exact I _); (· rfl)) | refine stS ?_ | fail)
          refine TQ.endR2 (L' := L) Tryz.results42 rvA rvA rfl (.refl _) ?_ selA
          exact ⟨rfl, rfl, rfl⟩
      · have hv : itemV s = -1 := by unfold itemV; rw [hi]; exact if_neg hk
        rw [hv] at I
        rw [show (some k).bind (xs[·]?) = none from List.getElem?_eq_none (by omega)]
        refine ⟨_, false, fun L => .of (Does.of2 Tryz.func42 rfl Tryz.ntmps42 rfl ?_), rfl, rfl, rfl⟩
        clear hJs hSl hS
        repeat' (first | refine wkV ?_ | ((with_reducible apply TL.gives_plain); (· kernel_rfl); (· rfl); (· exact I _); (· rfl)) | refine stS ?_ | fail)
        refine TQ.endR2 (L' := L) Tryz.results42 rvA rvA rfl (.refl _) ?_ selA
        exact ⟨rfl, rfl, rfl⟩
  | _ =>
    rw [IsJ] at hV
    refine ⟨_, false, fun L => .of (Does.of2 Tryz.func42 rfl Tryz.ntmps42 rfl ?_), rfl, rfl, rfl⟩
    first | (obtain ⟨rfl, _⟩ := hV) | subst hV
    generalize itemV s = it at *
    repeat' (first | refine wkV ?_ | ((with_reducible apply TL.gives_plain); (· kernel_rfl); (· rfl); (· exact I _); (· rfl)) | refine stS ?_ | fail)
    refine TQ.endR2 (L' := L) Tryz.results42 rvA rvA rfl (.refl _) ?_ selA
    exact ⟨rfl, rfl, rfl⟩
def GetR (p : List UInt8) (x : J) (L : List Ent) : Ending → Gh → List Ent → Prop := fun r g' L1 => ∃ v b, r = .returned (.tuple #[v, .bool b]) ∧ L1 = L ∧ v.one = true ∧ (match getP p x with
  | some y => b = true ∧ IsJ g' y v
  | none => b = false ∧ v = .nilIface)
set_option maxHeartbeats 16000000 in
theorem get_does (p : List UInt8) (x : J) (v : Value) (g : Gh) (L : List Ent) (hp : p.length ≤ 1000000) (hV : IsJ g x v) (hS : smJ x) (hE : GErr g) (hT : GTabs g) (hU : GU8 g) : Does Tryz.prog 22 #[v, str p] g L (GetR p x L) := by
  refine Does.of2 Tryz.func22 rfl Tryz.ntmps22 rfl ?_
  unfold GetR
  have A := fun L => steps_does p g L hp hU
  unfold StepsR at A
  have M := fun g1 (h : g.le g1) L => may_gives x v g1 L (IsJ.le h _ _ hV) hS (hT.le h) (hU.le h)
  cases hl : stepsL p with
  | none =>
    rw [hl] at A
    have hg : getP p x = none := by unfold getP; rw [hl]; split <;> rfl
    rw [hg]
    clear hV M
    repeat' (first | (refine TL.call (Enters.plain (by kernel_rfl) (by rfl)) (by rfl) (A _) ?_; (rintro e g1 Ln hg1 ⟨vs, es, k1, k2, ho, hr⟩; have k2 := k2.symm; subst k1; subst k2; (obtain ⟨rfl, rfl⟩ := hr); refine CallK.ret ?_)) | refine stS ?_ | fail)
    refine TQ.endR2 (L' := L) Tryz.results22 rvA rvA rfl (hg1) ?_ selA
    exact ⟨_, false, rfl, rfl, rfl, rfl, rfl⟩
  | some l =>
    rw [hl] at A
    by_cases h0 : lookJ x 0 = 0
    · have hgp : getP p x = getJ l x := by unfold getP; rw [if_pos h0, hl]; rfl
      rw [hgp]
      rw [h0] at M
      obtain ⟨_, hln, hpl, _, hgood⟩ := stepsL_some hl
      have hpp := (stepsL_some hl).1
      have hlen : ∀ s ∈ l, s.length ≤ 1000000 := fun s hs => by have := joinS_len l s hs; rw [← hpp] at this; omega
      have hll : l.length ≤ 1000000 := by have := joinS_count l (fun s hs => (hgood s hs).1); rw [← hpp] at this; omega
      repeat' (first | (refine TL.call (Enters.plain (by kernel_rfl) (by rfl)) (by rfl) (A _) ?_; (rintro e g1 Ln hg1 ⟨vs, es, k1, k2, ho, hr⟩; have k2 := k2.symm; subst k1; subst k2; (obtain ⟨rfl, hsl⟩ := hr; obtain ⟨av, cv, rfl⟩ := hsl.slice; have M1 := M g1 hg1); refine CallK.ret ?_)) | ((with_reducible apply TL.gives_plain); (· kernel_rfl); (· rfl); (· exact M1 _); (· rfl)) | refine stS ?_ | fail)
      clear A M M1
      have hE1 := hE.le hg1
      have hT1 := hT.le hg1
      have hU1 := hU.le hg1
      refine TC.loopK (α := Nat × J × Value) (fun z => z.1 ≤ l.length ∧ getJ (l.drop z.1) z.2.1 = getJ l x ∧ lookJ z.2.1 0 = 0 ∧ smJ z.2.1 ∧ IsJ g1 z.2.1 z.2.2) (fun z => l.length - z.1) (fun z _ => [(26, .int .i64 (z.1 : Nat)), (25, .int .i64 (l.length : Nat)), (24, .slice av l.length cv), (0, z.2.2)]) [] (by repeat (first | apply Drop.nil | apply Drop.cons (by (repeat (first | apply Pick.here | apply Pick.there))))) (fun _ L => L) (0, x, v) ⟨Nat.zero_le _, rfl, h0, hS, hV.le hg1 _ _⟩ subA selA ?_
      clear h0 hS hV
      rintro ⟨i, y, v⟩ ⟨hi, hy, h0, hS, hV⟩
      dsimp only at hi hy h0 hS hV ⊢
      by_cases hlt : i < l.length
      · obtain ⟨s, hs⟩ : ∃ s, l[i]? = some s := ⟨_, List.getElem?_eq_getElem hlt⟩
        obtain ⟨b1, o1, rfl, hg⟩ := hsl.elem hlt (by decide)
        have hld : g1.cell b1 (o1 + i * 1) = some (str s) := hg 0 _ (by rw [Nat.mul_one]; exact strs_get hs)
        obtain ⟨v', b, N, ho', hb⟩ := pnext_gives y v g1 s hV hS (hlen s (List.mem_of_getElem? hs)) hE1 hT1
        have hoV := hV.one
        rw [drop_of_get hs, getJ] at hy
        cases hnx : nextJ y s with
        | none =>
          rw [hnx] at hb hy
          obtain ⟨rfl, rfl⟩ := hb
          clear hsl hg hV
          repeat' (first | refine wkV ?_ | ((with_reducible apply TL.gives_plain); (· kernel_rfl); (· rfl); (· exact N _); (· rfl)) | refine stS ?_ | fail)
          refine TQ.endR2 (L' := L) Tryz.results22 rvA rvA rfl (hg1) ?_ selA
          refine ⟨_, false, rfl, rfl, rfl, ?_⟩
          rw [← hy]
          exact ⟨rfl, rfl⟩
        | some z =>
          rw [hnx] at hb hy
          obtain ⟨rfl, hz⟩ := hb
          have hsz := sm_next hS hnx
          have hlz := look_mono z 0 (look_next h0 hnx)
          clear hsl hg hV
          repeat' (first | refine wkV ?_ | ((with_reducible apply TL.gives_plain); (· kernel_rfl); (· rfl); (· exact N _); (· rfl)) | refine stS ?_ | fail)
          refine TQ.round (i + 1, z, v') ?_ ?_ rfl subA selA
          · exact ⟨by dsimp only; omega, hy, hlz, hsz, hz⟩
          · show l.length - (i + 1) < l.length - i
            omega
      · obtain rfl : i = l.length := by omega
        rw [List.drop_length, getJ] at hy
        have C := fun L => jCopy_does y v g1 L hV hS h0 hT1 hU1
        unfold CopyR at C
        clear hsl
        repeat' (first | (refine TL.call (Enters.plain (by kernel_rfl) (by rfl)) (by rfl) (C _) ?_; (rintro e g2 Ln hg2 ⟨vj, Mj, k1, k2, k3, htj⟩; have k2 := k2.symm; subst k1; subst k2; subst k3; have ho := TrJ.one htj; refine CallK.ret ?_)) | refine stS ?_ | fail)
        refine TQ.freeze_tree (M := Mj) pkA htj ?_
        intro gf hgf hjf
        refine TQ.endR2 (L' := L) Tryz.results22 rvA rvA rfl (hg1.trans hgf) ?_ selA
        refine ⟨vj, true, rfl, rfl, ho, ?_⟩
        rw [← hy]
        exact ⟨rfl, hjf⟩
    · have hgp : getP p x = none := by unfold getP; rw [if_neg h0]
      rw [hgp]
      have hk : Hn (¬ ((lookJ x 0 : Nat) : Int) = 0) := ⟨by omega⟩
      repeat' (first | (refine TL.call (Enters.plain (by kernel_rfl) (by rfl)) (by rfl) (A _) ?_; (rintro e g1 Ln hg1 ⟨vs, es, k1, k2, ho, hr⟩; have k2 := k2.symm; subst k1; subst k2; (obtain ⟨rfl, hsl⟩ := hr; have M1 := M g1 hg1; generalize lookJ x 0 = k at M1 hk); refine CallK.ret ?_)) | ((with_reducible apply TL.gives_plain); (· kernel_rfl); (· rfl); (· exact M1 _); (· rfl)) | refine stS ?_ | fail)
      refine TQ.endR2 (L' := L) Tryz.results22 rvA rvA rfl (hg1) ?_ selA
      exact ⟨_, false, rfl, rfl, rfl, rfl, rfl⟩
end Go.Proofs.YthngolfabfijpaaGreatDoor
namespace Go.Proofs.YthngolfabfijpaaGreatDoor
open Go.RowKit Go.TL
set_option maxRecDepth 100000

theorem Sl.from1 {g : Gh} {ao : Option Addr} {n cap : Nat} {s : List UInt8} {r : List (List UInt8)} (h : Sl g (.slice ao (n + 1) cap) (n + 1) 1 (strs (s :: r))) (hr : r.length = n) : ∃ b off off', ao = some ⟨b, off, none⟩ ∧ n + 1 ≤ cap ∧ (off' = if cap = 1 then off else off + 1 * 1) ∧ g.cell b (off + 0 * 1) = some (str s) ∧ Sl g (.slice (some ⟨b, off', none⟩) n (cap - 1)) r.length 1 (strs r) := by
  have hcap := h.cap
  obtain ⟨b, off, rfl, hg⟩ := h.elem (i := 0) (by omega) (by decide)
  refine ⟨b, off, _, rfl, hcap, rfl, hg 0 _ rfl, ?_⟩
  subst hr
  cases r with
  | nil => exact Sl.nil
  | cons d u =>
    rw [List.length_cons] at hcap
    refine ⟨by simp [strs], _, _, rfl, by rw [List.length_cons]; omega, fun i x hx => ⟨b, _, rfl, ?_⟩⟩
    have := hg (i + 1) x (by rw [Nat.zero_mul, Nat.zero_add]; exact hx)
    rw [if_neg (by omega), show off + 1 * 1 + i = off + 0 * 1 + (i + 1) by omega]
    exact this
theorem TrMs.mem {ns : List (List UInt8)} {xs : List J} {flat : List Value} {M : List Ent} (h : TrMs ns xs flat M) : Mem ns xs.length flat := fun i hi => by
  obtain ⟨x, hx⟩ : ∃ x, xs[i]? = some x := ⟨_, List.getElem?_eq_getElem hi⟩
  obtain ⟨s, v, _, _, _, h1, h2, h3, _⟩ := h.at hx
  exact ⟨s, v, h1, h2, h3⟩
theorem TQ.rowE {Q : Exit → Act → World → Prop} {c : Exit} {n : Nat} {ds : List Deferred} {S : Slots} {g : Gh} {L L' : List Ent} {E : TypeId} {sz k : Nat} {v : Value} {xs ys : List Value} (hm : Pick (.row E sz v k xs) L L') (e : xs = ys) (h : TQ Q c n ds S g (.row E sz v k ys :: L')) : TQ Q c n ds S g L := by
  subst e
  exact .mk fun a w hf hs => h.h a w hf (hs.perm hm.perm)
def PutR (o : Option J) (g : Gh) (L : List Ent) : Ending → Gh → List Ent → Prop := fun r g' L1 => ∃ v b, r = .returned (.tuple #[v, .bool b]) ∧ g' = g ∧ v.one = true ∧ (match o with
  | some z => b = true ∧ ∃ M, L1 = grp M :: L ∧ TrJ z v M
  | none => b = false ∧ L1 = L)
def PutOk (l : List (List UInt8)) : Prop := (∀ s ∈ l, s.length ≤ 1000000) → l.length ≤ 1000 → ∀ (x y : J) (v u sv : Value) (M N : List Ent) (g : Gh) (L : List Ent), TrJ x v M → TrJ y u N → Sl g sv l.length 1 (strs l) → smJ x → GErr g → GTabs g → Does Tryz.prog 132 #[v, sv, u] g (grp M :: grp N :: L) (PutR (putJ l x y) g L)
end Go.Proofs.YthngolfabfijpaaGreatDoor
namespace Go.Proofs.YthngolfabfijpaaGreatDoor
open Go.RowKit Go.TL
set_option maxRecDepth 100000

def splitF : List UInt8 → List UInt8 → List (List UInt8)
  | [], cur => [cur]
  | c :: t, cur => if c = 46 then cur :: splitF t [] else splitF t (cur ++ [c])
theorem stepsF_split : ∀ (t cur : List UInt8), stepsF t cur = if [] ∈ splitF t cur then none else some (splitF t cur)
  | [], cur => by
    rw [stepsF, splitF]
    by_cases h : cur = []
    · rw [if_pos h, if_pos (by simp [h])]
    · rw [if_neg h, if_neg (by simpa using h)]
  | c :: t, cur => by
    rw [stepsF, splitF]
    by_cases hc : c = 46
    · rw [if_pos hc, if_pos hc]
      by_cases h : cur = []
      · rw [if_pos h, if_pos (by simp [h])]
      · rw [if_neg h, stepsF_split t []]
        by_cases h2 : [] ∈ splitF t []
        · rw [if_pos h2, if_pos (by simp [h2])]; rfl
        · rw [if_neg h2, if_neg (by simp [h2]; exact h)]; rfl
    · rw [if_neg hc, if_neg hc, stepsF_split t _]
theorem splitF_len : ∀ (t cur : List UInt8), (splitF t cur).length ≤ t.length + 1
  | [], _ => by simp [splitF]
  | c :: t, cur => by
    rw [splitF]
    split
    · have := splitF_len t []; simp; omega
    · have := splitF_len t (cur ++ [c]); simp; omega
def RStepsR (p : List UInt8) (L : List Ent) : Ending → Gh → List Ent → Prop := fun r g' L1 => ∃ v b, r = .returned (.tuple #[v, .bool b]) ∧ L1 = L ∧ v.one = true ∧ (match stepsL p with
  | some l => b = true ∧ Sl g' v l.length 1 (strs l)
  | none => b = false ∧ v = .slice none 0 0)
structure RsS where
  i : Nat
  b : Nat
  cap : Nat
  l : List (List UInt8)
  cur : List UInt8
set_option maxHeartbeats 32000000 in
theorem rSteps6_does (p : List UInt8) (g : Gh) (L : List Ent) (_hp : p.length ≤ 1000000) : Does Tryz.prog 40 #[str p] g L (RStepsR p L) := by
  refine Does.of1 Tryz.func40 rfl Tryz.ntmps40 rfl ?_
  have U := fun L => utf_gives p g L (by omega)
  unfold RStepsR
  by_cases h1 : p.length < 1
  · have hn : stepsL p = none := by unfold stepsL; rw [if_neg (by omega)]
    rw [hn]
    repeat' (first | refine stS ?_ | fail)
    refine TQ.endR2 (L' := L) Tryz.results40 rvA rvA rfl (.refl _) ?_ selA
    exact ⟨_, false, rfl, rfl, rfl, rfl, rfl⟩
  by_cases h2 : 128 < p.length
  · have hn : stepsL p = none := by unfold stepsL; rw [if_neg (by omega)]
    rw [hn]
    repeat' (first | refine stS ?_ | fail)
    refine TQ.endR2 (L' := L) Tryz.results40 rvA rvA rfl (.refl _) ?_ selA
    exact ⟨_, false, rfl, rfl, rfl, rfl, rfl⟩
  cases hu : utfL p with
  | false =>
    have hn : stepsL p = none := by unfold stepsL; rw [if_neg (fun h => by rw [hu] at h; cases h.2.2)]
    rw [hn]
    rw [hu] at U
    repeat' (first | ((with_reducible apply TL.gives_plain); (· kernel_rfl); (· rfl); (· exact U _); (· rfl)) | refine stS ?_ | fail)
    refine TQ.endR2 (L' := L) Tryz.results40 rvA rvA rfl (.refl _) ?_ selA
    exact ⟨_, false, rfl, rfl, rfl, rfl, rfl⟩
  | true =>
    rw [hu] at U
    have hs : stepsL p = if [] ∈ splitF p [] then none else some (splitF p []) := by unfold stepsL; rw [if_pos ⟨by omega, by omega, hu⟩, stepsF_split]
    rw [hs]
    have hsl := splitF_len p []
    obtain ⟨T, hT⟩ : ∃ T, T = splitF p [] := ⟨_, rfl⟩
    rw [← hT] at hsl ⊢
    repeat' (first | ((with_reducible apply TL.gives_plain); (· kernel_rfl); (· rfl); (· exact U _); (· rfl)) | ((with_reducible apply TL.build_slice); (· rfl); (· rfl); (· exact oneA); (· rfl); (· rfl); (· rfl); intro _) | refine stS ?_ | fail)
    rename_i b0
    refine TC.obj_row (k := 1) (sz := 1) pkA rfl (by decide) ?_
    refine TC.loopL (fun x : RsS => x.i ≤ p.length ∧ x.cur.length ≤ x.i ∧ x.l.length ≤ x.i ∧ T = x.l ++ splitF (p.drop x.i) x.cur) (fun x => p.length - x.i) (fun x _ => [(5, .int .i64 (x.i : Nat)), (4, .slice (some ⟨x.b, 0, none⟩) (x.l.length + 1) x.cap), (0, str p)]) (fun x => .row 9 1 (.slice (some ⟨x.b, 0, none⟩) (x.l.length + 1) x.cap) (x.l.length + 1) (strs (x.l ++ [x.cur])) :: L) ⟨0, b0, 1, [], []⟩ ⟨Nat.zero_le _, Nat.le_refl _, Nat.le_refl _, hT⟩ subA selA ?_
    clear hT hs U
    rintro ⟨i, b, cap, l, cur⟩ ⟨hi, hcl, hll, hT⟩
    dsimp only at hi hcl hll hT ⊢
    have hsl2 : (strs (l ++ [cur])).length = l.length + 1 := by simp [strs]
    by_cases hlt : i < p.length
    · obtain ⟨c, hc⟩ : ∃ c, p[i]? = some c := ⟨_, List.getElem?_eq_getElem hlt⟩
      rw [drop_of_get hc, splitF] at hT
      have cb := UInt8.toNat_lt c
      by_cases h46 : c = 46
      · subst h46
        rw [if_pos rfl] at hT
        have HT := Hn.mk hT
        clear hT
        repeat' (first | ((with_reducible apply TL.build_slice); (· rfl); (· rfl); (· exact oneA); (· rfl); (· rfl); (· rfl); intro _) | ((with_reducible apply TL.append); (· rfl); (· rfl); (· rfl); (· rfl); (· exact pkA); (· exact Src.obj pkA); (· rfl); (· exact oneA); (· exact ⟨by unfold maxLen; omega, by omega⟩); (· rfl); intro vf; refine Go.TL.TL.row_form (v := vf) (k := l.length + 1 + 1) pkA (by omega) ?_; rintro bf cf rfl _) | refine wkP ?_ | ((with_reducible apply TL.byteK); (· rfl); (· rfl); (· exact natA); (· assumption); (· rfl); intro _) | refine stS ?_ | fail)
        rename_i bf cf _
        refine TQ.rowE (ys := strs ((l ++ [cur]) ++ [[]])) pkA (by simp [strs]) ?_
        rw [show l.length + 1 + 1 = (l ++ [cur]).length + 1 by simp]
        refine TQ.round ⟨i + 1, bf, cf, l ++ [cur], []⟩ ?_ ?_ rfl subA selA
        · refine ⟨by dsimp only; omega, by simp, by simp; omega, ?_⟩
          dsimp only
          rw [HT.out]; simp
        · show p.length - (i + 1) < p.length - i
          omega
      · rw [if_neg h46] at hT
        have n46 : Hn (¬ ((c.toNat : Nat) : Int) = 46) := ⟨fun e => h46 (UInt8.toNat_inj.1 (by show c.toNat = 46; omega))⟩
        have hld : (strs (l ++ [cur]))[0 + l.length * 1]? = some (str cur) := by rw [Nat.zero_add, Nat.mul_one]; simp [strs]
        have hpc : (p.drop i).take 1 = [c] := by rw [drop_of_get hc]; rfl
        have HT := Hn.mk (And.intro hT hpc)
        clear hT hpc
        repeat' (first | ((with_reducible apply TW.pure (d := 37) (v := .int .i64 ((l.length : Nat) : Int))); (· exact Y.sub rfl rfl (by rw [IntWalk.i64_in _ (by omega)]; omega)); (· rfl)) | (refine TC.region_tail 13 (by kernel_rfl) (by kernel_rfl) ?_; simp only [List.take_succ_cons, List.take_zero, List.drop_succ_cons, List.drop_zero]) | refine TQ.tail ?_ | ((with_reducible apply TW.pure); (· exact yM); (· rfl)) | ((with_reducible apply TL.store_row); (· rfl); (· rfl); (· first | rfl | assumption); (· exact pkA); (· omega)) | refine wkP ?_ | ((with_reducible apply TL.byteK); (· rfl); (· rfl); (· exact natA); (· assumption); (· rfl); intro _) | refine stS ?_ | refine TW.nil ?_ | ((with_reducible apply TW.pure); (· exact yA); (· rfl)) | fail)
        obtain ⟨hT, hpc⟩ := HT.out
        refine TQ.rowE (ys := strs (l ++ [cur ++ [c]])) pkA (by rw [hpc]; simp [strs]) ?_
        refine TQ.round ⟨i + 1, b, cap, l, cur ++ [c]⟩ ?_ ?_ rfl subA selA
        · exact ⟨by dsimp only; omega, by simp; omega, by dsimp only; omega, hT⟩
        · show p.length - (i + 1) < p.length - i
          omega
    · rw [List.drop_eq_nil_of_le (by omega), splitF] at hT
      obtain ⟨T', hT'⟩ : ∃ T', T' = l ++ [cur] := ⟨_, rfl⟩
      have hTl : T'.length = l.length + 1 := by rw [hT']; simp
      rw [← hT', hT, ← hT', ← hTl]
      rw [← hT'] at hsl2
      clear hT hT'
      repeat' (first | refine stS ?_ | fail)
      refine TC.loopL (fun j : Nat => j ≤ T'.length ∧ ∀ k, k < j → T'[k]? ≠ some []) (fun j => T'.length - j) (fun j _ => [(6, .int .i64 (j : Nat)), (4, .slice (some ⟨b, 0, none⟩) T'.length cap)]) (fun _ => .row 9 1 (.slice (some ⟨b, 0, none⟩) T'.length cap) T'.length (strs T') :: L) 0 ⟨Nat.zero_le _, fun k hk => by omega⟩ subA selA ?_
      rintro j ⟨hj, hno⟩
      try dsimp only at hj hno ⊢
      by_cases hjl : j < T'.length
      · obtain ⟨s, hs⟩ : ∃ s, T'[j]? = some s := ⟨_, List.getElem?_eq_getElem hjl⟩
        have hld : (strs T')[0 + j * 1]? = some (str s) := by rw [Nat.zero_add, Nat.mul_one]; exact strs_get hs
        by_cases h0 : s = []
        · have hm : [] ∈ T' := by rw [← h0]; exact List.mem_of_getElem? hs
          rw [if_pos hm]
          clear hno hm
          repeat' (first | ((with_reducible apply TL.pure); (· exact yM); (· rfl)) | ((with_reducible apply TL.pure (d := 57) (v := .bool true)); (· exact Y.eql_is (decide_eq_true h0) rfl rfl); (· rfl)) | refine stS ?_ | fail)
          refine TQ.endR2 (L' := L) Tryz.results40 rvA rvA rfl (.refl _) ?_ selA
          exact ⟨_, false, rfl, rfl, rfl, rfl, rfl⟩
        · have HN := Hn.mk hno
          clear hno
          repeat' (first | ((with_reducible apply TL.pure); (· exact yM); (· rfl)) | ((with_reducible apply TL.pure (d := 57) (v := .bool false)); (· exact Y.eql_is (decide_eq_false h0) rfl rfl); (· rfl)) | refine stS ?_ | fail)
          refine TQ.round (j + 1) ?_ ?_ rfl subA selA
          · refine ⟨by omega, fun k hk => ?_⟩
            by_cases hkj : k = j
            · subst hkj; rw [hs]; intro e; exact h0 (Option.some.inj e)
            · exact HN.out k (by omega)
          · show T'.length - (j + 1) < T'.length - j
            omega
      · have hm : [] ∉ T' := fun h => by
          obtain ⟨k, hk⟩ := List.getElem?_of_mem h
          exact hno k (by have := (List.getElem?_eq_some_iff.1 hk).1; omega) hk
        rw [if_neg hm]
        clear hno hm
        repeat' (first | refine stS ?_ | fail)
        refine TQ.freeze (v := .slice (some ⟨b, 0, none⟩) T'.length cap) pkA ?_
        intro gf hgf hsf
        refine TQ.endR2 (L' := L) Tryz.results40 rvA rvA rfl (hgf) ?_ selA
        exact ⟨_, true, rfl, rfl, rfl, rfl, hsf⟩
end Go.Proofs.YthngolfabfijpaaGreatDoor
namespace Go.Proofs.YthngolfabfijpaaGreatDoor
open Go.RowKit Go.TL

def setB : List UInt8 := [36, 115, 101, 116]
def unsetB : List UInt8 := [36, 117, 110, 115, 101, 116]
def incB : List UInt8 := [36, 105, 110, 99]
def mulB : List UInt8 := [36, 109, 117, 108]
def minB : List UInt8 := [36, 109, 105, 110]
def maxB : List UInt8 := [36, 109, 97, 120]
def pushB : List UInt8 := [36, 112, 117, 115, 104]
def renameB : List UInt8 := [36, 114, 101, 110, 97, 109, 101]
def knownU (nm : List UInt8) : Bool := decide (nm = setB ∨ nm = unsetB ∨ nm = incB ∨ nm = mulB ∨ nm = minB ∨ nm = maxB ∨ nm = pushB ∨ nm = renameB)
def textsJ : List J → Option (List (List UInt8))
  | [] => some []
  | x :: r => match x with
    | .text s => (textsJ r).map (s :: ·)
    | _ => none
def partsU (nm : List UInt8) (v : J) : Option (List (List UInt8) × List J) :=
  if nm = unsetB then (match v with
    | .list xs => (textsJ xs).map fun l => (l, xs)
    | _ => none)
  else match v with
    | .obj ns xs => some (ns, xs)
    | _ => none
def mayU (nm : List UInt8) (v : J) : Bool :=
  if nm = incB ∨ nm = mulB then (match v with
    | .num _ => true
    | _ => false)
  else if nm = renameB then (match v with
    | .text s => (stepsL s).isSome
    | _ => false)
  else true
def partsOk (nm : List UInt8) : List (List UInt8) → List J → Bool
  | p :: ps, v :: vs => (stepsL p).isSome && mayU nm v && partsOk nm ps vs
  | _, _ => true
def rightM (nm : List UInt8) (v : J) : Bool := knownU nm && match partsU nm v with
  | none => false
  | some (ps, vs) => partsOk nm ps vs
def lenU (nm : List UInt8) (v : J) : Nat := match partsU nm v with
  | none => 0
  | some (ps, _) => ps.length
def rightsU : List (List UInt8) → List J → Bool
  | n :: ns, x :: r => rightM n x && rightsU ns r
  | _, _ => true
def countU : List (List UInt8) → List J → Nat
  | n :: ns, x :: r => 1 + lenU n x + countU ns r
  | _, _ => 0
def rightU (u : J) : Bool := match u with
  | .obj ns xs => decide (xs ≠ []) && decide (lookJ u 0 = 0) && rightsU ns xs && decide (countU ns xs ≤ 100)
  | _ => false
section
variable (cmp : J → J → Int) (plus times : Int → Int → Int × Int)
def reckonU (f : Int → Int → Int × Int) (x : J) (p : List UInt8) (v : J) : Nat × Option J := match v with
  | .num m => match getP p x with
    | none => if (f 0 m).2 = 0 then putE x p (.num (f 0 m).1) else ((f 0 m).2.toNat, none)
    | some y => match y with
      | .num n => if (f n m).2 = 0 then putE x p (.num (f n m).1) else ((f n m).2.toNat, none)
      | _ => (14, none)
  | _ => (14, none)
def boundU (side : Int) (x : J) (p : List UInt8) (v : J) : Nat × Option J := match getP p x with
  | none => putE x p v
  | some y => if cmp v y = side then putE x p v else (0, some x)
def pushU (x : J) (p : List UInt8) (v : J) : Nat × Option J := match getP p x with
  | none => putE x p (.list [v])
  | some y => match y with
    | .list xs => putE x p (.list (xs ++ [v]))
    | _ => (14, none)
def unsetU (x : J) (p : List UInt8) : Nat × Option J := match getP p x with
  | none => (0, some x)
  | some _ => dropE x p
def renameU (x : J) (p : List UInt8) (v : J) : Nat × Option J := match getP p x with
  | none => (0, some x)
  | some y => match v with
    | .text q => match dropE x p with
      | (_, some z) => putE z q y
      | (e, none) => (e, none)
    | _ => (14, none)
def oneU (nm : List UInt8) (x : J) (p : List UInt8) (v : J) : Nat × Option J :=
  if nm = setB then putE x p v else if nm = unsetB then unsetU x p else if nm = incB then reckonU plus x p v else if nm = mulB then reckonU times x p v
  else if nm = minB then boundU cmp (-1) x p v else if nm = maxB then boundU cmp 1 x p v else if nm = pushB then pushU x p v else renameU x p v
def manyU (nm : List UInt8) : J → List (List UInt8) → List J → Nat × Option J
  | x, p :: ps, v :: vs => match oneU cmp plus times nm x p v with
    | (_, some z) => manyU nm z ps vs
    | (e, none) => (e, none)
  | x, _, _ => (0, some x)
def allU : J → List (List UInt8) → List J → Nat × Option J
  | x, n :: ns, u :: r => match partsU n u with
    | none => (0, none)
    | some (ps, vs) => match manyU cmp plus times n x ps vs with
      | (_, some z) => allU z ns r
      | (e, none) => (e, none)
  | x, _, _ => (0, some x)
def applyU (doc u : J) : Nat × Option J := if rightU u = false then (18, none) else if lookJ doc 0 ≠ 0 then (lookJ doc 0, none) else match doc with
  | .obj _ _ => match u with
    | .obj ns xs => allU cmp plus times doc ns xs
    | _ => (18, none)
  | _ => (14, none)
end
theorem drop_none : ∀ (l : List (List UInt8)) (z : J), getJ l z = none → dropJ l z = none
  | [], z, h => by rw [getJ] at h; cases h
  | s :: r, z, h => by
    cases z with
    | obj ns xs =>
      rw [get_obj] at h
      rw [dropJ]
      cases hi : idxN ns s with
      | none => rfl
      | some i =>
        rw [hi, Option.bind_some] at h
        dsimp only
        cases hu : xs[i]? with
        | none => rfl
        | some u =>
          rw [hu, Option.bind_some] at h
          dsimp only
          have hr : r ≠ [] := fun e => by rw [e, getJ] at h; cases h
          rw [if_neg hr, drop_none r u h]; rfl
    | list xs =>
      rw [get_list] at h
      rw [dropJ]
      cases hi : itemL s with
      | none => rfl
      | some i =>
        rw [hi, Option.bind_some] at h
        dsimp only
        cases hu : xs[i]? with
        | none => rfl
        | some u =>
          rw [hu, Option.bind_some] at h
          dsimp only
          have hr : r ≠ [] := fun e => by rw [e, getJ] at h; cases h
          rw [if_neg hr, drop_none r u h]; rfl
    | _ => first | rfl | (rw [dropJ] <;> (intros; simp_all))
def objJ : J → Bool
  | .obj _ _ => true
  | _ => false
theorem obj_put {l : List (List UInt8)} {x y z : J} (hl : l ≠ []) (hx : objJ x = true) (h : putJ l x y = some z) : objJ z = true := by
  cases l with
  | nil => exact absurd rfl hl
  | cons s r =>
    cases x with
    | obj ns xs =>
      rw [putJ] at h
      split at h
      · split at h
        · obtain ⟨w, _, rfl⟩ := Option.map_eq_some_iff.1 h; rfl
        · cases h
      · obtain ⟨w, _, rfl⟩ := Option.map_eq_some_iff.1 h; rfl
    | _ => cases hx
theorem obj_drop {l : List (List UInt8)} {x z : J} (hx : objJ x = true) (h : dropJ l x = some z) : objJ z = true := by
  cases l with
  | nil => rw [dropJ] at h; cases h
  | cons s r =>
    cases x with
    | obj ns xs =>
      rw [dropJ] at h
      split at h
      · split at h
        · split at h
          · obtain rfl := Option.some.inj h; rfl
          · obtain ⟨w, _, rfl⟩ := Option.map_eq_some_iff.1 h; rfl
        · cases h
      · cases h
    | _ => cases hx
theorem dropE_got {x y : J} {p : List UInt8} (h : getP p x = some y) : ∃ z, dropE x p = (0, some z) := by
  unfold getP at h
  split at h
  · rename_i h0
    obtain ⟨l, hl, hg⟩ := Option.bind_eq_some_iff.1 h
    obtain ⟨w, hw⟩ := drop_some l x y (stepsL_some hl).2.1 hg
    refine ⟨w, ?_⟩
    unfold dropE
    rw [hl]
    dsimp only
    rw [if_neg (by omega), hw]
  · cases h
theorem dropE_not {x : J} {p : List UInt8} (hs : (stepsL p).isSome = true) (hx : lookJ x 0 = 0) (h : getP p x = none) : dropE x p = (7, none) := by
  obtain ⟨l, hl⟩ := Option.isSome_iff_exists.1 hs
  unfold getP at h
  rw [if_pos hx, hl, Option.bind_some] at h
  unfold dropE
  rw [hl]
  dsimp only
  rw [if_neg (by omega), drop_none l x h]
end Go.Proofs.YthngolfabfijpaaGreatDoor
namespace Go.Proofs.YthngolfabfijpaaGreatDoor
open Go.RowKit Go.TL

structure UInv (m : Nat) (x : J) : Prop where
  look : lookJ x 0 = 0
  len : lenJ x
  obj : objJ x = true
  sz : szJ m x
theorem UInv.up {m k : Nat} {x : J} (h : UInv m x) (hk : m ≤ k) : UInv k x := ⟨h.look, h.len, h.obj, sz_up x m k h.sz hk⟩
theorem putE_inv {m : Nat} {x y z : J} {p : List UInt8} {e : Nat} (hx : UInv m x) (_hm : 128 ≤ m) (ly : lenJ y) (zy : szJ m y) (h : putE x p y = (e, some z)) : e = 0 ∧ UInv (m + 1) z := by
  obtain ⟨he, l, hl, h1, h2, h3, h4⟩ := putE_some h
  have hs := stepsL_some hl
  refine ⟨he, h4, len_of_ok _ (put_ok hl hx.len ly h1 h2 h3), obj_put hs.2.1 hx.obj h3, ?_⟩
  refine sz_put l x y z m (fun s hs' => ?_) hx.sz zy h3
  have h5 := joinS_len l s hs'
  rw [← hs.1] at h5
  omega
theorem dropE_inv {m : Nat} {x z : J} {p : List UInt8} {e : Nat} (hx : UInv m x) (h : dropE x p = (e, some z)) : e = 0 ∧ UInv m z := by
  obtain ⟨he, l, hl, h1, h2⟩ := dropE_some h
  exact ⟨he, drop_look hx.len h1 h2, len_of_ok _ (drop_ok hx.len h1 h2), obj_drop hx.obj h2, sz_drop l x z m hx.sz h2⟩
theorem getP_some {p : List UInt8} {x y : J} (h : getP p x = some y) : ∃ l, stepsL p = some l ∧ getJ l x = some y ∧ lookJ x 0 = 0 := by
  unfold getP at h
  split at h
  · rename_i h0
    obtain ⟨l, hl, hg⟩ := Option.bind_eq_some_iff.1 h
    exact ⟨l, hl, hg, h0⟩
  · cases h
theorem sz_next {m : Nat} {j x : J} {s : List UInt8} (h : szJ m j) (hx : nextJ j s = some x) : szJ m x := by
  cases j with
  | obj ns xs =>
    obtain ⟨i, _, h2⟩ := Option.bind_eq_some_iff.1 (show (idxN ns s).bind (xs[·]?) = some x from hx)
    rw [szJ] at h
    exact szJs_get h.2.2 h2
  | list xs =>
    obtain ⟨i, _, h2⟩ := Option.bind_eq_some_iff.1 (show (itemL s).bind (xs[·]?) = some x from hx)
    rw [szJ] at h
    exact szJs_get h.2 h2
  | _ => cases hx
theorem sz_get : ∀ (l : List (List UInt8)) (j x : J) (m : Nat), szJ m j → getJ l j = some x → szJ m x
  | [], j, x, m, h, hx => by rw [getJ] at hx; obtain rfl := Option.some.inj hx; exact h
  | s :: r, j, x, m, h, hx => by
    rw [getJ] at hx
    obtain ⟨y, h1, h2⟩ := Option.bind_eq_some_iff.1 hx
    exact sz_get r y x m (sz_next h h1) h2
theorem getP_inv {m : Nat} {p : List UInt8} {x y : J} (hx : UInv m x) (h : getP p x = some y) : lookJ y 0 = 0 ∧ lenJ y ∧ szJ m y := by
  obtain ⟨l, hl, hg, h0⟩ := getP_some h
  have h1 := look_get l x y h0 hg
  exact ⟨h1, (by
    have ok := (ok_of_look x 0 h0 hx.len).1
    exact len_get l x y hx.len hg), sz_get l x y m hx.sz hg⟩
where
  len_next {j x : J} {s : List UInt8} (h : lenJ j) (hx : nextJ j s = some x) : lenJ x := by
    cases j with
    | obj ns xs =>
      obtain ⟨i, _, h2⟩ := Option.bind_eq_some_iff.1 (show (idxN ns s).bind (xs[·]?) = some x from hx)
      rw [lenJ] at h
      exact lenJs_get h.2 h2
    | list xs =>
      obtain ⟨i, _, h2⟩ := Option.bind_eq_some_iff.1 (show (itemL s).bind (xs[·]?) = some x from hx)
      rw [lenJ] at h
      exact lenJs_get h h2
    | _ => cases hx
  len_get : ∀ (l : List (List UInt8)) (j x : J), lenJ j → getJ l j = some x → lenJ x
    | [], j, x, h, hx => by rw [getJ] at hx; obtain rfl := Option.some.inj hx; exact h
    | s :: r, j, x, h, hx => by
      rw [getJ] at hx
      obtain ⟨y, h1, h2⟩ := Option.bind_eq_some_iff.1 hx
      exact len_get r y x (len_next h h1) h2
section
variable {cmp : J → J → Int} {plus times : Int → Int → Int × Int}
theorem reckon_inv {f : Int → Int → Int × Int} {m : Nat} {x z v : J} {p : List UInt8} {e : Nat} (hx : UInv m x) (hm : 128 ≤ m) (h : reckonU f x p v = (e, some z)) : e = 0 ∧ UInv (m + 1) z := by
  unfold reckonU at h
  have hn : ∀ n, lenJ (.num n) ∧ szJ m (.num n) := fun n => by rw [lenJ, szJ]; exact ⟨trivial, trivial⟩
  split at h
  · split at h
    · split at h
      · exact putE_inv hx hm (hn _).1 (hn _).2 h
      · cases h
    · split at h
      · split at h
        · exact putE_inv hx hm (hn _).1 (hn _).2 h
        · cases h
      · cases h
  · cases h
theorem one_inv {nm p : List UInt8} {m : Nat} {x z v : J} {e : Nat} (hx : UInv m x) (hm : 128 ≤ m) (lv : lenJ v) (zv : szJ m v) (h : oneU cmp plus times nm x p v = (e, some z)) : e = 0 ∧ UInv (m + 2) z := by
  have up : ∀ {k : Nat}, (e = 0 ∧ UInv k z) → k ≤ m + 2 → e = 0 ∧ UInv (m + 2) z := fun h hk => ⟨h.1, h.2.up hk⟩
  have same : ((0, some x) : Nat × Option J) = (e, some z) → e = 0 ∧ UInv (m + 2) z := fun h => by
    obtain ⟨h1, h2⟩ := Prod.mk.inj h
    obtain rfl := Option.some.inj h2
    exact ⟨h1.symm, hx.up (by omega)⟩
  unfold oneU at h
  split at h
  · exact up (putE_inv hx hm lv zv h) (by omega)
  split at h
  · unfold unsetU at h
    split at h
    · exact same h
    · exact up (dropE_inv hx h) (by omega)
  split at h
  · exact up (reckon_inv hx hm h) (by omega)
  split at h
  · exact up (reckon_inv hx hm h) (by omega)
  split at h
  · unfold boundU at h
    split at h
    · exact up (putE_inv hx hm lv zv h) (by omega)
    · split at h
      · exact up (putE_inv hx hm lv zv h) (by omega)
      · exact same h
  split at h
  · unfold boundU at h
    split at h
    · exact up (putE_inv hx hm lv zv h) (by omega)
    · split at h
      · exact up (putE_inv hx hm lv zv h) (by omega)
      · exact same h
  split at h
  · unfold pushU at h
    split at h
    · refine up (putE_inv hx hm ?_ ?_ h) (by omega)
      · rw [lenJ, lenJs, lenJs]; exact ⟨lv, trivial⟩
      · rw [szJ, szJs, szJs]; exact ⟨by simp; omega, zv, trivial⟩
    · rename_i y hy
      split at h
      · rename_i xs
        obtain ⟨_, ly, zy⟩ := getP_inv hx hy
        rw [lenJ] at ly
        rw [szJ] at zy
        refine up (putE_inv (hx.up (Nat.le_succ m)) (by omega) ?_ ?_ h) (by omega)
        · rw [lenJ]; exact lenJs_snoc ly lv
        · rw [szJ]; exact ⟨by rw [List.length_append, List.length_singleton]; omega, szJs_snoc (szs_up xs m _ zy.2 (by omega)) (sz_up v m _ zv (by omega))⟩
      · cases h
  · unfold renameU at h
    split at h
    · exact same h
    · rename_i y hy
      split at h
      · split at h
        · rename_i w hw
          obtain ⟨_, ly, zy⟩ := getP_inv hx hy
          exact up (putE_inv (dropE_inv hx hw).2 hm ly zy h) (by omega)
        · cases h
      · cases h
where
  lenJs_snoc : ∀ {l : List J} {x : J}, lenJs l → lenJ x → lenJs (l ++ [x])
    | [], x, _, h => by rw [List.nil_append, lenJs, lenJs]; exact ⟨h, trivial⟩
    | y :: r, x, h, hx => by rw [lenJs] at h; rw [List.cons_append, lenJs]; exact ⟨h.1, lenJs_snoc h.2 hx⟩
end
end Go.Proofs.YthngolfabfijpaaGreatDoor
