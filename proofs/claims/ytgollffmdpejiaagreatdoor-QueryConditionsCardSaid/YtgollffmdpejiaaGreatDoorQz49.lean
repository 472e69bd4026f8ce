/-
  The walk of Query's Conditions. Conditions of no question.
-/
import Derived.Test.YtgollffmdpejiaaGreatDoorQz3
import Derived.Test.YtgollffmdpejiaaGreatDoorQz47
namespace Go.Proofs.YtgollffmdpejiaaGreatDoor
open Go.RowKit Go.TL
set_option maxRecDepth 100000

def IsCs (g : Gh) : List (List UInt8 × List UInt8 × J) → List Value → Prop
  | [], fl => fl = []
  | c :: r, fl => ∃ u f2, fl = str c.1 :: str c.2.1 :: u :: f2 ∧ IsJ g c.2.2 u ∧ IsCs g r f2
theorem IsCs.le {g g' : Gh} (hg : g.le g') : ∀ {l : List (List UInt8 × List UInt8 × J)} {fl : List Value}, IsCs g l fl → IsCs g' l fl
  | [], fl, h => h
  | c :: r, fl, h => by
    rw [IsCs] at h ⊢
    obtain ⟨u, f2, h1, h2, h3⟩ := h
    exact ⟨u, f2, h1, h2.le hg, IsCs.le hg h3⟩
theorem IsCs.snoc {g : Gh} {p n : List UInt8} {x : J} {u : Value} (hx : IsJ g x u) : ∀ {l : List (List UInt8 × List UInt8 × J)} {fl : List Value}, IsCs g l fl → IsCs g (l ++ [(p, n, x)]) (fl ++ [str p, str n, u])
  | [], fl, h => by rw [IsCs] at h; subst h; exact ⟨u, [], rfl, hx, by rw [IsCs]⟩
  | c :: r, fl, h => by
    rw [IsCs] at h
    obtain ⟨v, f2, rfl, h2, h3⟩ := h
    exact ⟨v, f2 ++ [str p, str n, u], rfl, h2, IsCs.snoc hx h3⟩
theorem IsQs.get {g : Gh} : ∀ {l : List Qn} {fl : List Value} {i : Nat} {q : Qn}, IsQs g l fl → l[i]? = some q → ∃ v, fl[i]? = some v ∧ IsQ g q v
  | [], fl, i, q, _, hq => by cases i <;> cases hq
  | p :: r, fl, i, q, h, hq => by
    rw [IsQs] at h
    obtain ⟨v, f2, rfl, h1, h2⟩ := h
    cases i with
    | zero => obtain rfl : p = q := Option.some.inj hq; exact ⟨v, rfl, h1⟩
    | succ i => exact IsQs.get (l := r) (fl := f2) (i := i) h2 hq
structure CoS where
  i : Nat
  k : Nat
  a : Option Addr
  c : Nat
  cs : List (List UInt8 × List UInt8 × J)
  fl : List Value
  g : Gh
def CondsR (qs : List Qn) (L : List Ent) : Ending → Gh → List Ent → Prop := fun e g' L' => ∃ sl fl, e = .returned sl ∧ L' = L ∧ Sl g' sl (condsQ qs).length 3 fl ∧ IsCs g' (condsQ qs) fl
set_option maxHeartbeats 32000000 in
theorem qConditions_does (qs : List Qn) (v : Value) (g : Gh) (L : List Ent) (hv : IsQuery g v qs) (_hl : qs.length ≤ 1000000) (hT : GTabs g) (hU : GU8 g) : Does Tryz.prog 26 #[v] g L (CondsR qs L) := by
  refine Does.of1 Tryz.func26 rfl Tryz.ntmps26 rfl ?_
  obtain ⟨b, sl, fl, rfl, hb, hS, hQ⟩ := hv
  obtain ⟨ao, cap, rfl⟩ := hS.slice
  have hb0 : g.cell b (0 + 0) = some (.slice ao qs.length cap) := hb
  have HS0 := Hn.mk hS
  clear hS
  unfold CondsR
  obtain ⟨R, hR⟩ : ∃ R, R = [] ++ condsQ (qs.drop 0) := ⟨_, rfl⟩
  rw [show condsQ qs = R by rw [hR]; rfl]
  refine TC.row_nil 61 3 ?_
  repeat' (first
    | refine wkQ ?_
    | (refine wkA 10 (v := .bool false) ?_ ?_; · exact Y.eql_ptr_sn rfl)
    | refine wkV ?_
    | refine wkM ?_
    | refine stS ?_ | (refine stB ?_; intro _) | (refine stC ?_; constructor <;> intro _)
    | refine wkW ?_)
  refine TC.loop (α := CoS) (fun x => x.i ≤ qs.length ∧ g.le x.g ∧ IsCs x.g x.cs x.fl ∧ (x.cs.length = x.k ∧ x.k ≤ x.i) ∧ x.cs ++ condsQ (qs.drop x.i) = R) (fun x => qs.length - x.i) (fun x => [(16, .int .i64 (x.i : Nat)), (15, .int .i64 (qs.length : Nat)), (14, .slice ao qs.length cap), (3, .slice x.a x.k x.c)]) (fun x => x.g)
    (fun x => .row 61 3 (.slice x.a x.k x.c) x.k x.fl :: L) ⟨0, 0, none, 0, [], [], g⟩ ⟨Nat.zero_le _, .refl _, by rw [IsCs], ⟨rfl, Nat.le_refl _⟩, hR.symm⟩ rfl subA selF ?_
  clear hR hb hb0
  rintro ⟨i, k, a, c, cs, f0, gx⟩ ⟨hi, hgx, hC, ⟨hk, hki⟩, hI⟩
  try dsimp only at hi hgx hC hk hki hI ⊢
  by_cases hlt : i < qs.length
  · obtain ⟨q, hq⟩ : ∃ q, qs[i]? = some q := ⟨_, List.getElem?_eq_getElem hlt⟩
    obtain ⟨w, hf1, jq⟩ := IsQs.get hQ hq
    obtain ⟨b1, o1, rfl, hg⟩ := HS0.out.elem hlt (by decide)
    have hld : gx.cell b1 (o1 + i * 1) = some w := hgx.cell (hg 0 _ (by rw [Nat.mul_one]; exact hf1))
    have ow := jq.one
    rw [drop_of_get hq] at hI
    have hTx := hT.le hgx
    have hUx := hU.le hgx
    have jq := IsQ.le hgx jq
    clear hg hf1 hQ HS0
    cases q with
    | test p n x =>
      rw [IsQ] at jq
      obtain ⟨u, f, rfl, jx, hF, sx, l0, hp⟩ := jq
      have CP := fun L => jCopy_does x u gx L jx sx l0 hTx hUx
      unfold CopyR at CP
      have of := hF.one
      have ou := jx.one
      have hI : cs ++ ((p, n, x) :: condsQ (qs.drop (i + 1))) = R := by rw [← hI]; simp [condsQ]
      have hall : ([str p, str n, u, f, .bool (orB n x)] : List Value).all Value.one = true := by simp only [List.all_cons, ou, of]; rfl
      clear hF hT hU jx
      have hal3 : ([str p, str n, u] : List Value).all Value.one = true := by simp only [List.all_cons, ou]; rfl
      repeat' (first
    | refine wkQ ?_
    | ((with_reducible apply TL.pure (d := 27)); (· exact Y.load_part rfl pkA (Nat.le_of_ble_eq_true rfl)); (· rfl))
    | refine wkV ?_
    | refine wkM ?_
    | (refine TL.call (Enters.plain (by kernel_rfl) (by rfl)) (by rfl) (CP _) ?_; (rintro e gc Ln hgc ⟨vj, Mj, k1, k2, k3, htj⟩; have k2 := k2.symm; subst k1; subst k2; subst k3; have hoc := TrJ.one htj; refine CallK.ret ?_; refine Go.TL.TL.freeze_tree (M := Mj) pkA htj ?_; intro gf hgf jf; have hal4 : ([str p, str n, vj] : List Value).all Value.one = true := by (simp only [List.all_cons, hoc]; rfl)))
    | ((with_reducible apply TL.store_whole (us := [str p, str n, u, f, .bool (orB n x)])); (· rfl); (· rfl); (· exact hall); (· rfl); (· exact pkA); (· rfl))
    | ((with_reducible apply TL.store_whole (us := [str p, str n, u])); (· rfl); (· rfl); (· exact hal3); (· rfl); (· exact pkA); (· rfl))
    | ((with_reducible apply TL.storeE); (· rfl); (· rfl); (· exact hoc); (· exact pkA); (· infer_instance))
    | ((with_reducible apply TL.build_one); (· first | rfl | exact hal4 | exact oneA); (· first | rfl | exact hal4 | exact oneA); (· first | rfl | exact hal4 | exact oneA); (· first | rfl | exact hal4 | exact oneA); (· first | rfl | exact hal4 | exact oneA); (· first | rfl | exact hal4 | exact oneA); intro bn)
    | ((with_reducible apply TL.append (e := 61)); (· rfl); (· rfl); (· rfl); (· rfl); (· exact pkA); (· exact Src.obj pkA); (· rfl); (· first | exact hal4 | exact oneA); (· exact ⟨by unfold maxLen; omega, by omega⟩); (· rfl); intro vf; refine Go.TL.TL.row_slice (v := vf) pkA ?_; rintro a2 c2 rfl _)
    | refine stS ?_ | (refine stB ?_; intro _) | (refine stC ?_; constructor <;> intro _)
    | refine wkW ?_)
      refine TQ.round (⟨i + 1, k + 1, a2, c2, cs ++ [(p, n, x)], f0 ++ [str p, str n, vj], gf⟩ : CoS) ?_ ?_ rfl subA selF
      · refine ⟨hlt, hgx.trans hgf, IsCs.snoc jf (IsCs.le hgf hC), ⟨by simp [hk], show k + 1 ≤ i + 1 by omega⟩, ?_⟩
        show (cs ++ [(p, n, x)]) ++ condsQ (qs.drop (i + 1)) = R
        rw [← hI]; simp
      · show qs.length - (i + 1) < qs.length - i
        omega
    | all l =>
      rw [IsQ] at jq
      obtain ⟨s2, f2, rfl, hS2, _⟩ := jq
      obtain ⟨a2, c2, rfl⟩ := hS2.slice
      have hI : cs ++ condsQ (qs.drop (i + 1)) = R := by rw [← hI]; simp [condsQ]
      clear hS2 hT hU hTx hUx
      repeat' (first
    | refine wkQ ?_
    | refine wkV ?_
    | refine wkM ?_
    | refine stS ?_ | (refine stB ?_; intro _) | (refine stC ?_; constructor <;> intro _)
    | refine wkW ?_)
      refine TQ.round (⟨i + 1, k, a, c, cs, f0, gx⟩ : CoS) ?_ ?_ rfl subA selF
      · exact ⟨hlt, hgx, hC, ⟨hk, Nat.le_succ_of_le hki⟩, hI⟩
      · show qs.length - (i + 1) < qs.length - i
        omega
    | one l =>
      rw [IsQ] at jq
      obtain ⟨s2, f2, rfl, hS2, _⟩ := jq
      obtain ⟨a2, c2, rfl⟩ := hS2.slice
      have hI : cs ++ condsQ (qs.drop (i + 1)) = R := by rw [← hI]; simp [condsQ]
      clear hS2 hT hU hTx hUx
      repeat' (first
    | refine wkQ ?_
    | refine wkV ?_
    | refine wkM ?_
    | refine stS ?_ | (refine stB ?_; intro _) | (refine stC ?_; constructor <;> intro _)
    | refine wkW ?_)
      refine TQ.round (⟨i + 1, k, a, c, cs, f0, gx⟩ : CoS) ?_ ?_ rfl subA selF
      · exact ⟨hlt, hgx, hC, ⟨hk, Nat.le_succ_of_le hki⟩, hI⟩
      · show qs.length - (i + 1) < qs.length - i
        omega
    | not l =>
      rw [IsQ] at jq
      obtain ⟨s2, f2, rfl, hS2, _⟩ := jq
      obtain ⟨a2, c2, rfl⟩ := hS2.slice
      have hI : cs ++ condsQ (qs.drop (i + 1)) = R := by rw [← hI]; simp [condsQ]
      clear hS2 hT hU hTx hUx
      repeat' (first
    | refine wkQ ?_
    | refine wkV ?_
    | refine wkM ?_
    | refine stS ?_ | (refine stB ?_; intro _) | (refine stC ?_; constructor <;> intro _)
    | refine wkW ?_)
      refine TQ.round (⟨i + 1, k, a, c, cs, f0, gx⟩ : CoS) ?_ ?_ rfl subA selF
      · exact ⟨hlt, hgx, hC, ⟨hk, Nat.le_succ_of_le hki⟩, hI⟩
      · show qs.length - (i + 1) < qs.length - i
        omega
  · obtain rfl : i = qs.length := by omega
    rw [List.drop_eq_nil_of_le (Nat.le_refl _), condsQ, List.append_nil] at hI
    subst hI
    clear hT hU hQ
    repeat' (first
    | refine wkQ ?_
    | refine wkV ?_
    | refine stS ?_ | (refine stB ?_; intro _) | (refine stC ?_; constructor <;> intro _)
    | refine wkW ?_)
    refine TQ.freeze pkA ?_
    intro gf hgf hsf
    refine TQ.endR1 (L' := L) Tryz.results26 rvA rfl ((hgx.trans hgf)) ?_ selF
    exact ⟨_, f0, rfl, rfl, by rw [hk]; exact hsf, hC.le hgf⟩
end Go.Proofs.YtgollffmdpejiaaGreatDoor
namespace Go.Proofs.YtgollffmdpejiaaGreatDoor
open Go.RowKit Go.TL
set_option maxRecDepth 100000
theorem qConditions_nil (g : Gh) (L : List Ent) : Gives Tryz.prog 26 #[.pointer none] g L (.slice none 0 0) := by
  refine .of (Does.of1 Tryz.func26 rfl Tryz.ntmps26 rfl ?_)
  repeat' (first
    | refine wkQ ?_
    | (refine wkA 10 (v := .bool true) ?_ ?_; · exact Y.eql_ptr_nn rfl)
    | refine wkV ?_
    | refine stS ?_ | (refine stB ?_; intro _) | (refine stC ?_; constructor <;> intro _)
    | refine wkW ?_)
  refine TQ.endR1 (L' := L) Tryz.results26 rvA rfl (.refl _) ?_ selF
  exact ⟨rfl, rfl, rfl⟩
end Go.Proofs.YtgollffmdpejiaaGreatDoor
