/-
  Are all members of an object conditions? The walk of a path's conditions. A path's conditions, whatever they are. The walk of a list of questions.
-/
import Derived.Test.YtgollffmdpejiaaGreatDoorQz3
import Derived.Test.YtgollffmdpejiaaGreatDoorQz42
import Derived.Test.YtgollffmdpejiaaGreatDoorQz39
import Derived.Test.YtgollffmdpejiaaGreatDoorQz38
namespace Go.Proofs.YtgollffmdpejiaaGreatDoor
open Go.RowKit Go.TL
set_option maxRecDepth 100000

set_option maxHeartbeats 8000000 in
theorem cfMemI_gives {α : Type} (l : List α) (cs : List Value) (p : α → Bool) (F : FuncId) (caps : List Value) (v : Value) (g : Gh) (L : List Ent) (_hl : l.length ≤ 1000000) (hS : Sl g v l.length 2 cs) (hc : callable Tryz.prog F = true) (hE : ∀ (i : Nat) x, l[i]? = some x → ∃ u1 u2, cs[i * 2]? = some u1 ∧ cs[i * 2 + 1]? = some u2 ∧ ∀ L, Gives Tryz.prog F (.agg #[u1, u2] :: caps).toArray g L (.bool (p x))) : Gives Tryz.prog 125 #[v, .func (.func F) #[] caps.toArray] g L (.int .i64 (idxG p l 0)) := by
  refine .of (Does.of2 Tryz.func125 rfl Tryz.ntmps125 rfl ?_)
  obtain ⟨ao, cap, rfl⟩ := hS.slice
  obtain ⟨R, hR⟩ : ∃ R, R = idxG p (l.drop 0) 0 := ⟨_, rfl⟩
  rw [show idxG p l 0 = R from hR.symm]
  repeat' (first
    | refine wkQ ?_
    | refine wkV ?_
    | refine stS ?_ | (refine stB ?_; intro _) | (refine stC ?_; constructor <;> intro _))
  refine TC.loopL (fun i : Nat => i ≤ l.length ∧ idxG p (l.drop i) i = R) (fun i => l.length - i) (fun i _ => [(8, .int .i64 (i : Nat)), (7, .int .i64 (l.length : Nat)), (0, .slice ao l.length cap), (1, .func (.func F) #[] caps.toArray)]) (fun _ => L) 0 ⟨Nat.zero_le _, hR.symm⟩ subA selF ?_
  clear hR
  rintro i ⟨hi, hR⟩
  try dsimp only at hi hR ⊢
  by_cases hlt : i < l.length
  · obtain ⟨x, hx⟩ : ∃ c, l[i]? = some c := ⟨_, List.getElem?_eq_getElem hlt⟩
    obtain ⟨u1, u2, hu, hu2, A⟩ := hE i x hx
    obtain ⟨b1, o1, rfl, hg⟩ := hS.elem hlt (by decide)
    have hc4 : ∀ (j : Nat) w, [u1, u2][j]? = some w → g.cell b1 (o1 + i * 2 + j) = some w := fun j w hw => by
      match j, hw with
      | 0, hw => cases hw; exact hg 0 _ hu
      | 1, hw => cases hw; exact hg 1 _ hu2
    have hll : [u1, u2].length = 2 := rfl
    rw [drop_of_get hx, idxG] at hR
    clear hS hg hx hu hu2 hE
    cases hp : p x with
    | true =>
      rw [hp] at A
      rw [hp, if_pos rfl] at hR
      subst hR
      repeat' (first
    | refine wkQ ?_
    | (refine wkA 15 (v := .agg #[u1, u2]) ?_ ?_; · exact Y.load_cells rfl hc4 hll)
    | refine wkV ?_
    | refine wkM ?_
    | refine TL.gives (Enters.func (by rfl) hc (by rfl)) (A _) (by rfl) ?_ | refine TW.gives (Enters.func (by rfl) hc (by rfl)) (A _) (by rfl) ?_
    | refine stS ?_ | (refine stB ?_; intro _) | (refine stC ?_; constructor <;> intro _))
      refine TQ.endR1 (L' := L) Tryz.results125 rvA rfl (.refl _) ?_ selF
      exact ⟨rfl, rfl, rfl⟩
    | false =>
      rw [hp] at A
      rw [hp, if_neg (by decide)] at hR
      repeat' (first
    | refine wkQ ?_
    | (refine wkA 15 (v := .agg #[u1, u2]) ?_ ?_; · exact Y.load_cells rfl hc4 hll)
    | refine wkV ?_
    | refine wkM ?_
    | refine TL.gives (Enters.func (by rfl) hc (by rfl)) (A _) (by rfl) ?_ | refine TW.gives (Enters.func (by rfl) hc (by rfl)) (A _) (by rfl) ?_
    | refine stS ?_ | (refine stB ?_; intro _) | (refine stC ?_; constructor <;> intro _))
      refine TQ.round (i + 1) ?_ ?_ rfl subA selF
      · exact ⟨by omega, hR⟩
      · show l.length - (i + 1) < l.length - i
        omega
  · obtain rfl : i = l.length := by omega
    rw [List.drop_eq_nil_of_le (Nat.le_refl _), idxG] at hR
    subst hR
    clear hS hE
    repeat' (first
    | refine wkQ ?_
    | refine wkV ?_
    | refine stS ?_ | (refine stB ?_; intro _) | (refine stC ?_; constructor <;> intro _))
    refine TQ.endR1 (L' := L) Tryz.results125 rvA rfl (.refl _) ?_ selF
    exact ⟨rfl, rfl, rfl⟩
theorem cfMem_gives {α : Type} (l : List α) (cs : List Value) (p : α → Bool) (F : FuncId) (caps : List Value) (v : Value) (g : Gh) (L : List Ent) (hl : l.length ≤ 1000000) (hS : Sl g v l.length 2 cs) (hc : callable Tryz.prog F = true) (hE : ∀ (i : Nat) x, l[i]? = some x → ∃ u1 u2, cs[i * 2]? = some u1 ∧ cs[i * 2 + 1]? = some u2 ∧ ∀ L, Gives Tryz.prog F (.agg #[u1, u2] :: caps).toArray g L (.bool (p x))) : Gives Tryz.prog 93 #[v, .func (.func F) #[] caps.toArray] g L (.bool (l.any p)) := by
  refine .of (Does.of2 Tryz.func93 rfl Tryz.ntmps93 rfl ?_)
  have A := fun L => cfMemI_gives l cs p F caps v g L hl hS hc hE
  obtain ⟨ao, cap, rfl⟩ := hS.slice
  obtain ⟨h1, _, _⟩ := idxG_any p l 0
  rw [← h1]
  generalize idxG p l 0 = z at *
  clear hS h1 hE
  repeat' (first
    | refine wkQ ?_
    | (refine wkA 8 (v := .bool (decide (0 ≤ z))) ?_ ?_; · exact Y.geq_b rfl rfl rfl)
    | refine wkV ?_
    | refine wkD (A _) ?_
    | refine stS ?_ | (refine stB ?_; intro _) | (refine stC ?_; constructor <;> intro _))
  refine TQ.endR1 (L' := L) Tryz.results93 rvA rfl (.refl _) ?_ selF
  exact ⟨rfl, rfl, rfl⟩
theorem conditionsOne_gives (s : List UInt8) (u : Value) (g : Gh) (L : List Ent) (_ou : u.one = true) : Gives Tryz.prog 94 #[.agg #[str s, u]] g L (.bool (!named s)) := by
  refine .of (Does.of1 Tryz.func94 rfl Tryz.ntmps94 rfl ?_)
  have N := fun L => qnamed_gives s g L
  generalize named s = q at *
  repeat' (first
    | refine wkQ ?_
    | refine wkV ?_
    | refine wkD (N _) ?_
    | refine stS ?_ | (refine stB ?_; intro _) | (refine stC ?_; constructor <;> intro _))
  refine TQ.endR1 (L' := L) Tryz.results94 rvA rfl (.refl _) ?_ selF
  exact ⟨rfl, rfl, rfl⟩
theorem notNamed_gives (ns : List (List UInt8)) (xs : List J) (sl : Value) (fl : List Value) (g : Gh) (L : List Ent) (hl : xs.length ≤ 1000000) (hS : Sl g sl xs.length 2 fl) (hM : IsMs g ns xs fl) : Gives Tryz.prog 93 #[sl, .func (.func 94) #[] #[]] g L (.bool (!ns.all named)) := by
  have hn := IsMs.len hM
  have h := cfMem_gives ns fl (fun s => !named s) 94 [] sl g L (by rw [hn]; exact hl) (by rw [hn]; exact hS) (by kernel_rfl) fun i s hs => by
    obtain ⟨x, hx⟩ : ∃ x, xs[i]? = some x := ⟨_, List.getElem?_eq_getElem (by rw [← hn]; exact (List.getElem?_eq_some_iff.1 hs).1)⟩
    obtain ⟨s2, v, h1, h2, h3, h4⟩ := IsMs.get hM hx
    rw [hs] at h1
    obtain rfl := Option.some.inj h1
    exact ⟨_, v, h2, h3, fun L => conditionsOne_gives s v g L h4.one⟩
  rwa [show (ns.any fun s => !named s) = !ns.all named from by
    induction ns with
    | nil => rfl
    | cons a r ih =>
      simp only [List.any_cons, List.all_cons, Bool.not_and]
      congr 1
      clear h hM hn
      induction r with
      | nil => rfl
      | cons a r ih => simp only [List.any_cons, List.all_cons, Bool.not_and, List.not_all_eq_any_not]] at h
end Go.Proofs.YtgollffmdpejiaaGreatDoor
namespace Go.TL
open Go Go.RowKit Go.Proofs.YtgollffmdpejiaaGreatDoor
theorem TL.callP {P : Program} {ops : Array Oper} {Q : Exit → Act → World → Prop} {rest : List Oper} {n : Nat} {ds : List Deferred} {S : Slots} {g : Gh} {L L1 : List Ent} {op : Op} {d : Nat} {ty : TypeId} {pos : String} {aft : Array Edge} {f : FuncId} {args : Array Value} {R : Ending → Gh → List Ent → Prop} (he : Enters P n ds S g L1 ⟨some d, op, ty, pos, aft, none⟩ f args) (hD : Does P f args g L1 R) (hL : L1.Perm L) (hd : Nat.blt d n = true)
    (k : ∀ e g' L', g.le g' → R e g' L' → CallK P ops Q d rest n ds S g' L' e) : TL P ops Q (⟨some d, op, ty, pos, aft, none⟩ :: rest) n ds S g L := TL.perm (TL.call he hd hD k) hL
end Go.TL
namespace Go.Proofs.YtgollffmdpejiaaGreatDoor
open Go.RowKit Go.TL
set_option maxRecDepth 100000

theorem IsQs.snoc {g : Gh} {q : Qn} {v : Value} (hq : IsQ g q v) : ∀ {l : List Qn} {fl : List Value}, IsQs g l fl → IsQs g (l ++ [q]) (fl ++ [v])
  | [], fl, h => by rw [IsQs] at h; subst h; exact ⟨v, [], rfl, hq, by rw [IsQs]⟩
  | p :: r, fl, h => by
    rw [IsQs] at h
    obtain ⟨u, f2, rfl, h1, h2⟩ := h
    rw [List.cons_append, List.cons_append, IsQs]
    exact ⟨u, f2 ++ [v], rfl, h1, IsQs.snoc hq h2⟩
def QsR (b : Nat) (o : Option (List Qn × Nat)) (L : List Ent) : Ending → Gh → List Ent → Prop := fun e g' L' => match o with
  | some (qs, l1) => ∃ sl fl, e = .returned sl ∧ L' = rdO b (l1 : Nat) :: L ∧ Sl g' sl qs.length 1 fl ∧ IsQs g' qs fl
  | none => e = .panicked [stopQ] ∧ ∃ n, L' = rdO b n :: L
theorem QsR.no {b : Nat} {n : Int} {L : List Ent} {g : Gh} : QsR b none L (.panicked [stopQ]) g (rdO b n :: L) := by
  unfold QsR; exact ⟨rfl, _, rfl⟩
theorem QsR.yes {b l1 k : Nat} {qs : List Qn} {L : List Ent} {g : Gh} {sl : Value} {fl : List Value} (hk : qs.length = k) (hS : Sl g sl k 1 fl) (hQ : IsQs g qs fl) : QsR b (some (qs, l1)) L (.returned sl) g (rdO b (l1 : Nat) :: L) := by
  subst hk; unfold QsR; exact ⟨sl, fl, rfl, rfl, hS, hQ⟩
structure CdS where
  i : Nat
  k : Nat
  a : Option Addr
  c : Nat
  qs : List Qn
  fl : List Value
  g : Gh
  left : Nat
set_option maxHeartbeats 64000000 in
theorem condLoop (p : List UInt8) (ns : List (List UInt8)) (vs : List J) (b left : Nat) (ao : Option Addr) (cap : Nat) (fl : List Value) (g : Gh) (L : List Ent) (hS : Sl g (.slice ao vs.length cap) vs.length 2 fl) (hM : IsMs g ns vs fl) (sX : smJ (.obj ns vs)) (h0 : ∀ x ∈ vs, lookJ x 0 = 0) (hp : p.length ≤ 1000000) (_hl : left ≤ 100) (ho : opsJ (.obj ns vs) = true) (hT : GTabs g) (hU : GU8 g) (hP : GSp g) :
    Does Tryz.prog 65 #[.pointer (some ⟨b, 0, none⟩), .agg #[str p, .iface 48 (.slice ao vs.length cap)]] g (rdO b (left : Nat) :: L) (QsR b (condLQ p left ns vs) L) := by
  refine Does.of2 Tryz.func65 rfl Tryz.ntmps65 rfl ?_
  have hlen : vs.length ≤ 1000000 := by rw [smJ] at sX; omega
  have NN := fun L => notNamed_gives ns vs _ fl g L hlen hS hM
  obtain ⟨hv0, hall⟩ : vs ≠ [] ∧ ns.all named = true := by
    unfold opsJ at ho
    rw [Bool.and_eq_true] at ho
    exact ⟨of_decide_eq_true ho.1, ho.2⟩
  rw [hall] at NN
  have hz : ¬ ((vs.length : Nat) : Int) = 0 := by
    intro e; exact hv0 (List.length_eq_zero_iff.1 (by omega))
  have b0 : decide (((vs.length : Nat) : Int) = 0) = false := decide_eq_false hz
  obtain ⟨R, hR⟩ : ∃ R, R = (condLQ p left (ns.drop 0) (vs.drop 0)).map fun r => ([] ++ r.1, r.2) := ⟨_, rfl⟩
  rw [show condLQ p left ns vs = R by rw [hR, List.drop_zero, List.drop_zero]; cases condLQ p left ns vs <;> rfl]
  refine TC.row_nil 95 1 ?_
  have HS0 := Hn.mk hS
  clear hS
  repeat' (first
    | refine wkQ ?_
    | (refine wkA 21 (v := .bool false) ?_ ?_; · exact Y.eql_b b0 rfl rfl)
    | refine wkV ?_
    | refine wkD (NN _) ?_
    | refine stS ?_ | (refine stB ?_; intro _) | (refine stC ?_; constructor <;> intro _)
    | refine wkW ?_)
  rename_i bb
  refine TC.loop (α := CdS) (fun x => x.i ≤ vs.length ∧ g.le x.g ∧ IsQs x.g x.qs x.fl ∧ (x.qs.length = x.k ∧ x.k + x.left = left) ∧ (condLQ p x.left (ns.drop x.i) (vs.drop x.i)).map (fun r => (x.qs ++ r.1, r.2)) = R) (fun x => vs.length - x.i) (fun x => [(36, .int .i64 (x.i : Nat)), (35, .int .i64 (vs.length : Nat)), (34, .slice ao vs.length cap), (7, .slice x.a x.k x.c), (3, .pointer (some ⟨bb, 0, none⟩)), (0, .pointer (some ⟨b, 0, none⟩))]) (fun x => x.g)
    (fun x => .row 95 1 (.slice x.a x.k x.c) x.k x.fl :: .obj bb (.cells [str p, .iface 48 (.slice ao vs.length cap)].toArray 46 (0, 0)) :: rdO b (x.left : Nat) :: L) ⟨0, 0, none, 0, [], [], g, left⟩ ⟨Nat.zero_le _, .refl _, by rw [IsQs], ⟨rfl, Nat.zero_add _⟩, hR.symm⟩ rfl subA selF ?_
  clear hR NN
  rintro ⟨i, k, a, c, qs, f0, gx, lf⟩ ⟨hi, hgx, hQ, ⟨hk, hlf⟩, hI⟩
  try dsimp only at hi hgx hQ hk hlf hI ⊢
  by_cases hlt : i < vs.length
  · obtain ⟨x, hx⟩ : ∃ x, vs[i]? = some x := ⟨_, List.getElem?_eq_getElem hlt⟩
    obtain ⟨s, u, hs, hf1, hf2, jx⟩ := IsMs.get hM hx
    obtain ⟨b1, o1, rfl, hg⟩ := HS0.out.elem hlt (by decide)
    have hc4 : ∀ (j : Nat) w, [str s, u][j]? = some w → gx.cell b1 (o1 + i * 2 + j) = some w := fun j w hw => by
      match j, hw with
      | 0, hw => cases hw; exact hgx.cell (hg 0 _ hf1)
      | 1, hw => cases hw; exact hgx.cell (hg 1 _ hf2)
    have hll : [str s, u].length = 2 := rfl
    have ou := jx.one
    have sx : smJ x := smJs_get (by rw [smJ] at sX; exact sX.2.2) hx
    have CD := fun L => condition_does p s x u gx L (jx.le hgx) sx (h0 x (List.mem_of_getElem? hx)) hp (hT.le hgx) (hU.le hgx) (hP.le hgx)
    rw [drop_of_get hx, drop_of_get hs] at hI
    clear hg hf1 hf2 jx hM sX h0 hT hU hP HS0
    unfold CondR at CD
    cases lf with
    | zero =>
      rw [condLQ, Option.map_none] at hI
      subst hI
      have NO := fun L => qcount_no b gx L
      clear CD
      repeat' (first
    | refine wkQ ?_
    | (refine wkA 39 (v := .agg #[str s, u]) ?_ ?_; · exact Y.load_cells rfl hc4 hll)
    | refine wkV ?_
    | (refine TL.callP (Enters.plain (by kernel_rfl) (by rfl)) (NO _) permA (by rfl) ?_; (unfold CntR; rintro e g4 L4 hg4 ⟨k1, n4, k2⟩; subst k1; subst k2; refine CallK.panic ?_))
    | refine stS ?_ | (refine stB ?_; intro _) | (refine stC ?_; constructor <;> intro _))
      refine TQ.end_panic (L' := rdO b n4 :: L) rfl (hgx.trans hg4) ?_ selF
      exact .no
    | succ lf =>
      rw [condLQ] at hI
      have CY := fun L => qcount_yes b lf gx L (by omega)
      cases hb : condB s x with
      | false =>
        rw [hb] at hI CD
        rw [if_neg (by decide), Option.map_none] at hI
        subst hI
        repeat' (first
    | refine wkQ ?_
    | (refine wkA 39 (v := .agg #[str s, u]) ?_ ?_; · exact Y.load_cells rfl hc4 hll)
    | refine wkV ?_
    | apply TL.turns (Enters.func (by rfl) (by kernel_rfl) (by rfl)) (CY _) permA (by rfl) | apply TL.turns (Enters.plain (by kernel_rfl) (by rfl)) (CY _) permA (by rfl)
    | (refine TL.call (Enters.plain (by kernel_rfl) (by rfl)) (by rfl) (CD _) ?_; (rintro e g4 L4 hg4 ⟨k1, k2⟩; have k1 := k1.symm; subst k1; dsimp only at k2; subst k2; refine CallK.panic ?_))
    | refine stS ?_ | (refine stB ?_; intro _) | (refine stC ?_; constructor <;> intro _))
        refine TQ.end_panic (L' := rdO b (lf : Nat) :: L) rfl (hgx.trans hg4) ?_ selF
        exact .no
      | true =>
        rw [hb] at hI CD
        rw [if_pos rfl] at hI
        repeat' (first
    | refine wkQ ?_
    | (refine wkA 39 (v := .agg #[str s, u]) ?_ ?_; · exact Y.load_cells rfl hc4 hll)
    | refine wkV ?_
    | apply TL.turns (Enters.func (by rfl) (by kernel_rfl) (by rfl)) (CY _) permA (by rfl) | apply TL.turns (Enters.plain (by kernel_rfl) (by rfl)) (CY _) permA (by rfl)
    | (refine TL.call (Enters.plain (by kernel_rfl) (by rfl)) (by rfl) (CD _) ?_; (rintro e g4 L4 hg4 ⟨k1, k2⟩; have k1 := k1.symm; subst k1; dsimp only at k2; obtain ⟨w, rfl, hw⟩ := k2; have ow := hw.one; refine CallK.ret ?_))
    | ((with_reducible apply TL.build_slice (len := 1)); (· rfl); (· rfl); (· exact oneA); (· rfl); (· rfl); (· rfl); intro bn)
    | ((with_reducible apply TL.append (e := 95)); (· rfl); (· rfl); (· rfl); (· rfl); (· exact pkA); (· exact Src.obj pkA); (· rfl); (· exact oneA); (· exact ⟨by unfold maxLen; omega, by omega⟩); (· rfl); intro vf; refine Go.TL.TL.row_slice (v := vf) pkA ?_; rintro a2 c2 rfl _)
    | refine stS ?_ | (refine stB ?_; intro _) | (refine stC ?_; constructor <;> intro _))
        refine TQ.round (⟨i + 1, k + 1, a2, c2, qs ++ [.test p s x], f0 ++ [w], g4, lf⟩ : CdS) ?_ ?_ rfl subA selF
        · refine ⟨hlt, hgx.trans hg4, IsQs.snoc hw (IsQs.le hg4 hQ), ⟨by simp [hk], show k + 1 + lf = left by omega⟩, ?_⟩
          show (condLQ p lf (ns.drop (i + 1)) (vs.drop (i + 1))).map (fun r => ((qs ++ [.test p s x]) ++ r.1, r.2)) = R
          rw [← hI]
          cases condLQ p lf (ns.drop (i + 1)) (vs.drop (i + 1)) <;> simp
        · show vs.length - (i + 1) < vs.length - i
          omega
  · obtain rfl : i = vs.length := by omega
    rw [List.drop_eq_nil_of_le (Nat.le_refl _)] at hI
    have hI2 : R = some (qs, lf) := by
      rw [← hI]
      cases ns.drop vs.length <;> rw [condLQ] <;> simp
    subst hI2
    repeat' (first
    | refine wkQ ?_
    | refine wkV ?_
    | refine stS ?_ | (refine stB ?_; intro _) | (refine stC ?_; constructor <;> intro _)
    | refine wkW ?_)
    refine TQ.freeze pkA ?_
    intro gf hgf hsf
    refine TQ.endR1 (L' := (rdO b (lf : Nat) :: L)) Tryz.results65 rvA rfl ((hgx.trans hgf)) ?_ selF
    exact .yes hk hsf (IsQs.le hgf hQ)
end Go.Proofs.YtgollffmdpejiaaGreatDoor
namespace Go.Proofs.YtgollffmdpejiaaGreatDoor
open Go.RowKit Go.TL
set_option maxRecDepth 100000

theorem IsQs.single {g : Gh} {q : Qn} {v : Value} (h : IsQ g q v) : IsQs g [q] [v] := by
  rw [IsQs]; exact ⟨v, [], rfl, h, by rw [IsQs]⟩
theorem look_obj {ns : List (List UInt8)} {xs : List J} {w : Nat} (h : lookJ (.obj ns xs) w = 0) : ∀ y ∈ xs, lookJ y w = 0 := fun y hy => by
  rw [lookJ] at h
  split at h
  · cases h
  · obtain ⟨i, hi⟩ := List.mem_iff_getElem?.1 hy
    exact look_mono y w (looko_get h hi)
set_option maxHeartbeats 64000000 in
theorem conditions_does (p : List UInt8) (x : J) (v : Value) (b left : Nat) (g : Gh) (L : List Ent) (hX : IsJ g x v) (sX : smJ x) (h0 : lookJ x 0 = 0) (hp : p.length ≤ 1000000) (hl : left ≤ 100) (hT : GTabs g) (hU : GU8 g) (hP : GSp g) :
    Does Tryz.prog 65 #[.pointer (some ⟨b, 0, none⟩), .agg #[str p, v]] g (rdO b (left : Nat) :: L) (QsR b (condsR p x left) L) := by
  have CD := fun L => condition_does p eqN x v g L hX sX h0 hp hT hU hP
  unfold CondR at CD
  rw [show condB eqN x = true from rfl] at CD
  have ov := hX.one
  cases x with
  | obj ns xs =>
    rw [IsJ] at hX
    obtain ⟨sl, fl, rfl, hS, hM⟩ := hX
    obtain ⟨ao, cap, rfl⟩ := hS.slice
    rw [condsR]
    by_cases ho : opsJ (.obj ns xs) = true
    · rw [if_pos ho]
      exact condLoop p ns xs b left ao cap fl g L hS hM sX (look_obj h0) hp hl ho hT hU hP
    rw [if_neg ho]
    refine Does.of2 Tryz.func65 rfl Tryz.ntmps65 rfl ?_
    have hlen : xs.length ≤ 1000000 := by rw [smJ] at sX; omega
    have NN := fun L => notNamed_gives ns xs _ fl g L hlen hS hM
    clear hS hM sX h0 hT hU hP
    by_cases hn : xs = []
    · have b0 : decide (((xs.length : Nat) : Int) = 0) = true := by subst hn; rfl
      clear hn ho NN hlen
      repeat' (first
    | refine wkQ ?_
    | (refine wkA 21 (v := .bool true) ?_ ?_; · exact Y.eql_b b0 rfl rfl)
    | refine wkV ?_
    | (refine TL.call (Enters.plain (by kernel_rfl) (by rfl)) (by rfl) (CD _) ?_; (rintro e g4 L4 hg4 ⟨k1, k2⟩; have k1 := k1.symm; subst k1; dsimp only at k2; obtain ⟨w, rfl, hw⟩ := k2; have ow := hw.one; refine CallK.ret ?_))
    | ((with_reducible apply TL.build_slice (len := 1)); (· rfl); (· rfl); (· exact oneA); (· rfl); (· rfl); (· rfl); intro bn; refine Go.TL.TL.freeze_obj bn 1 (k := 1) pkA rfl (by decide) ?_; intro gz hgz hslz)
    | refine stS ?_ | (refine stB ?_; intro _) | (refine stC ?_; constructor <;> intro _)
    | refine wkW ?_)
      (refine TQ.endR1 (L' := (rdO b (left : Nat) :: L)) Tryz.results65 rvA rfl ((hg4.trans hgz)) ?_ selF; exact .yes (k := 1) rfl hslz (IsQs.le hgz (IsQs.single hw)))
    · have b0 : decide (((xs.length : Nat) : Int) = 0) = false := decide_eq_false fun e => hn (List.length_eq_zero_iff.1 (by omega))
      have ha : ns.all named = false := by
        cases h : ns.all named with
        | false => rfl
        | true => exact absurd (show (decide (xs ≠ []) && ns.all named) = true by rw [h, decide_eq_true hn]; rfl) ho
      rw [ha] at NN
      clear hn ho ha hlen
      repeat' (first
    | refine wkQ ?_
    | (refine wkA 21 (v := .bool false) ?_ ?_; · exact Y.eql_b b0 rfl rfl)
    | refine wkV ?_
    | refine wkD (NN _) ?_
    | (refine TL.call (Enters.plain (by kernel_rfl) (by rfl)) (by rfl) (CD _) ?_; (rintro e g4 L4 hg4 ⟨k1, k2⟩; have k1 := k1.symm; subst k1; dsimp only at k2; obtain ⟨w, rfl, hw⟩ := k2; have ow := hw.one; refine CallK.ret ?_))
    | ((with_reducible apply TL.build_slice (len := 1)); (· rfl); (· rfl); (· exact oneA); (· rfl); (· rfl); (· rfl); intro bn; refine Go.TL.TL.freeze_obj bn 1 (k := 1) pkA rfl (by decide) ?_; intro gz hgz hslz)
    | refine stS ?_ | (refine stB ?_; intro _) | (refine stC ?_; constructor <;> intro _)
    | refine wkW ?_)
      (refine TQ.endR1 (L' := (rdO b (left : Nat) :: L)) Tryz.results65 rvA rfl ((hg4.trans hgz)) ?_ selF; exact .yes (k := 1) rfl hslz (IsQs.le hgz (IsQs.single hw)))
  | list xs =>
    rw [IsJ] at hX
    obtain ⟨sl, fl, rfl, hS, hM⟩ := hX
    obtain ⟨ao, cap, rfl⟩ := hS.slice
    clear hS hM sX h0 hT hU hP
    refine Does.of2 Tryz.func65 rfl Tryz.ntmps65 rfl ?_
    repeat' (first
    | refine wkQ ?_
    | refine wkV ?_
    | (refine TL.call (Enters.plain (by kernel_rfl) (by rfl)) (by rfl) (CD _) ?_; (rintro e g4 L4 hg4 ⟨k1, k2⟩; have k1 := k1.symm; subst k1; dsimp only at k2; obtain ⟨w, rfl, hw⟩ := k2; have ow := hw.one; refine CallK.ret ?_))
    | ((with_reducible apply TL.build_slice (len := 1)); (· rfl); (· rfl); (· exact oneA); (· rfl); (· rfl); (· rfl); intro bn; refine Go.TL.TL.freeze_obj bn 1 (k := 1) pkA rfl (by decide) ?_; intro gz hgz hslz)
    | refine stS ?_ | (refine stB ?_; intro _) | (refine stC ?_; constructor <;> intro _)
    | refine wkW ?_)
    (refine TQ.endR1 (L' := (rdO b (left : Nat) :: L)) Tryz.results65 rvA rfl ((hg4.trans hgz)) ?_ selF; exact .yes (k := 1) rfl hslz (IsQs.le hgz (IsQs.single hw)))
  | num n =>
    rw [IsJ] at hX
    obtain ⟨rfl, _⟩ := hX
    clear sX h0 hT hU hP
    refine Does.of2 Tryz.func65 rfl Tryz.ntmps65 rfl ?_
    repeat' (first
    | refine wkQ ?_
    | refine wkV ?_
    | (refine TL.call (Enters.plain (by kernel_rfl) (by rfl)) (by rfl) (CD _) ?_; (rintro e g4 L4 hg4 ⟨k1, k2⟩; have k1 := k1.symm; subst k1; dsimp only at k2; obtain ⟨w, rfl, hw⟩ := k2; have ow := hw.one; refine CallK.ret ?_))
    | ((with_reducible apply TL.build_slice (len := 1)); (· rfl); (· rfl); (· exact oneA); (· rfl); (· rfl); (· rfl); intro bn; refine Go.TL.TL.freeze_obj bn 1 (k := 1) pkA rfl (by decide) ?_; intro gz hgz hslz)
    | refine stS ?_ | (refine stB ?_; intro _) | (refine stC ?_; constructor <;> intro _)
    | refine wkW ?_)
    (refine TQ.endR1 (L' := (rdO b (left : Nat) :: L)) Tryz.results65 rvA rfl ((hg4.trans hgz)) ?_ selF; exact .yes (k := 1) rfl hslz (IsQs.le hgz (IsQs.single hw)))
  | _ =>
    rw [IsJ] at hX
    subst hX
    clear sX h0 hT hU hP
    refine Does.of2 Tryz.func65 rfl Tryz.ntmps65 rfl ?_
    repeat' (first
    | refine wkQ ?_
    | refine wkV ?_
    | (refine TL.call (Enters.plain (by kernel_rfl) (by rfl)) (by rfl) (CD _) ?_; (rintro e g4 L4 hg4 ⟨k1, k2⟩; have k1 := k1.symm; subst k1; dsimp only at k2; obtain ⟨w, rfl, hw⟩ := k2; have ow := hw.one; refine CallK.ret ?_))
    | ((with_reducible apply TL.build_slice (len := 1)); (· rfl); (· rfl); (· exact oneA); (· rfl); (· rfl); (· rfl); intro bn; refine Go.TL.TL.freeze_obj bn 1 (k := 1) pkA rfl (by decide) ?_; intro gz hgz hslz)
    | refine stS ?_ | (refine stB ?_; intro _) | (refine stC ?_; constructor <;> intro _)
    | refine wkW ?_)
    (refine TQ.endR1 (L' := (rdO b (left : Nat) :: L)) Tryz.results65 rvA rfl ((hg4.trans hgz)) ?_ selF; exact .yes (k := 1) rfl hslz (IsQs.le hgz (IsQs.single hw)))
end Go.Proofs.YtgollffmdpejiaaGreatDoor
namespace Go.Proofs.YtgollffmdpejiaaGreatDoor
open Go.RowKit Go.TL
set_option maxRecDepth 100000

def QuestOk (d : Nat) : Prop := ∀ (x : J) (v : Value) (b left : Nat) (g : Gh) (L : List Ent), IsJ g x v → smJ x → lookJ x 0 = 0 → left ≤ 100 → GTabs g → GU8 g → GSp g → Does Tryz.prog 37 #[.pointer (some ⟨b, 0, none⟩), v, .int .i64 ((32 - d : Nat) : Int)] g (rdO b (left : Nat) :: L) (QsR b (rdQ d left x) L)
theorem look_list {xs : List J} {w : Nat} (h : lookJ (.list xs) w = 0) : ∀ y ∈ xs, lookJ y w = 0 := fun y hy => by
  rw [lookJ] at h
  split at h
  · cases h
  · obtain ⟨i, hi⟩ := List.mem_iff_getElem?.1 hy
    exact look_mono y w (looks_get h hi)
set_option maxHeartbeats 64000000 in
theorem many_does (d : Nat) (hd : QuestOk d) (x : J) (v : Value) (b left : Nat) (g : Gh) (L : List Ent) (hX : IsJ g x v) (sX : smJ x) (h0 : lookJ x 0 = 0) (hl : left ≤ 100) (hT : GTabs g) (hU : GU8 g) (hP : GSp g) :
    Does Tryz.prog 62 #[.pointer (some ⟨b, 0, none⟩), v, .int .i64 ((32 - d : Nat) : Int)] g (rdO b (left : Nat) :: L) (QsR b (manyQ (rdQ d) left x) L) := by
  refine Does.of3 Tryz.func62 rfl Tryz.ntmps62 rfl ?_
  have NY := fun g L => qneed_yes g L
  have NN := fun g L => qneed_no g L
  have ov := hX.one
  by_cases hx : isListJ x = false
  · have NO := fun L => qlist_no x v g L hX hx
    have hq : manyQ (rdQ d) left x = none := by cases x <;> first | rfl | cases hx
    rw [hq]
    clear hX sX h0 hT hU hP hd hq
    generalize ((32 - d : Nat) : Int) = di
    repeat' (first
    | refine wkQ ?_
    | refine wkV ?_
    | refine TL.throws (Enters.plain (by kernel_rfl) (by rfl)) (NO _) (by rfl) ?_
    | refine stS ?_ | (refine stB ?_; intro _) | (refine stC ?_; constructor <;> intro _)
    | refine wkW ?_)
    refine TQ.end_panic (L' := rdO b (left : Nat) :: L) rfl (.refl _) ?_ selF
    exact .no
  obtain ⟨l, rfl⟩ : ∃ l, x = .list l := by cases x <;> first | exact ⟨_, rfl⟩ | exact absurd rfl hx
  clear hx
  rw [IsJ] at hX
  obtain ⟨sl, fl, rfl, hS, hM⟩ := hX
  obtain ⟨ao, cap, rfl⟩ := hS.slice
  have hlen : l.length ≤ 1000000 := by rw [smJ] at sX; omega
  have YL := fun L => qlist_yes (.slice ao l.length cap) g L
  have hl0 := look_list h0
  obtain ⟨O, hO⟩ : ∃ O, O = manyQ (rdQ d) left (.list l) := ⟨_, rfl⟩
  rw [← hO]
  obtain ⟨R, hR⟩ : ∃ R, R = (manyF (rdQ d) left (l.drop 0)).map fun r => ([] ++ r.1, r.2) := ⟨_, rfl⟩
  have hO1 : l ≠ [] → O = R := fun h => by
    rw [hO, hR, List.drop_zero]
    cases l with
    | nil => exact absurd rfl h
    | cons a r =>
      show manyF (rdQ d) left (a :: r) = _
      cases manyF (rdQ d) left (a :: r) <;> rfl
  have hO2 : l = [] → O = none := fun h => by rw [hO, h]; rfl
  clear hO
  refine TC.row_nil 95 1 ?_
  have HS0 := Hn.mk hS
  clear hS
  repeat' (first
    | refine wkQ ?_
    | refine wkV ?_
    | refine wkD (YL _) ?_
    | refine stS ?_ | (refine stB ?_; intro _) | (refine stC ?_; constructor <;> intro _)
    | refine wkW ?_)
  refine TC.loop (α := CdS) (fun x => x.i ≤ l.length ∧ g.le x.g ∧ IsQs x.g x.qs x.fl ∧ ((x.qs.length = x.k ∧ x.k = x.i) ∧ x.left ≤ 100) ∧ (manyF (rdQ d) x.left (l.drop x.i)).map (fun r => (x.qs ++ r.1, r.2)) = R) (fun x => l.length - x.i) (fun x => [(13, .int .i64 (x.i : Nat)), (12, .int .i64 (l.length : Nat)), (11, .slice ao l.length cap), (7, .slice x.a x.k x.c), (2, .int .i64 ((32 - d : Nat) : Int)), (0, .pointer (some ⟨b, 0, none⟩))]) (fun x => x.g)
    (fun x => .row 95 1 (.slice x.a x.k x.c) x.k x.fl :: rdO b (x.left : Nat) :: L) ⟨0, 0, none, 0, [], [], g, left⟩ ⟨Nat.zero_le _, .refl _, by rw [IsQs], ⟨⟨rfl, rfl⟩, hl⟩, hR.symm⟩ rfl subA selF ?_
  clear hR YL
  rintro ⟨i, k, a, c, qs, f0, gx, lf⟩ ⟨hi, hgx, hQ, ⟨⟨hk, hki⟩, hlf⟩, hI⟩
  try dsimp only at hi hgx hQ hk hki hlf hI ⊢
  by_cases hlt : i < l.length
  · obtain ⟨x, hx⟩ : ∃ x, l[i]? = some x := ⟨_, List.getElem?_eq_getElem hlt⟩
    obtain ⟨u, hf1, jx⟩ := IsJs.get hM hx
    obtain ⟨b1, o1, rfl, hg⟩ := HS0.out.elem hlt (by decide)
    have hld : gx.cell b1 (o1 + i * 1) = some u := hgx.cell (hg 0 _ (by rw [Nat.mul_one]; exact hf1))
    have ou := jx.one
    have sx : smJ x := smJs_get (by rw [smJ] at sX; exact sX.2) hx
    have QD := fun L => hd x u b lf gx L (jx.le hgx) sx (hl0 x (List.mem_of_getElem? hx)) hlf (hT.le hgx) (hU.le hgx) (hP.le hgx)
    rw [drop_of_get hx, manyF] at hI
    have hne : l ≠ [] := by intro h; subst h; cases hx
    rw [hO1 hne]
    have hle := rdQ_le d lf x
    clear hg hf1 jx hM sX h0 hT hU hP HS0 hd hl0 hO1 hO2
    cases hb : rdQ d lf x with
    | none =>
      rw [hb] at hI QD
      dsimp only at hI
      rw [Option.map_none] at hI
      subst hI
      clear hle
      unfold QsR at QD
      generalize ((32 - d : Nat) : Int) = di at *
      repeat' (first
    | refine wkQ ?_
    | refine wkV ?_
    | refine wkM ?_
    | (refine TL.callP (Enters.plain (by kernel_rfl) (by rfl)) (QD _) permA (by rfl) ?_; (rintro e g4 L4 hg4 ⟨k1, n4, k2⟩; subst k1; subst k2; refine CallK.panic ?_))
    | refine stS ?_ | (refine stB ?_; intro _) | (refine stC ?_; constructor <;> intro _))
      refine TQ.end_panic (L' := rdO b n4 :: L) rfl (hgx.trans hg4) ?_ selF
      exact .no
    | some q =>
      obtain ⟨q, l1⟩ := q
      rw [hb] at hI QD
      dsimp only at hI
      have hl1 := hle q l1 hb
      clear hle
      unfold QsR at QD
      dsimp only at QD
      generalize ((32 - d : Nat) : Int) = di at *
      repeat' (first
    | refine wkQ ?_
    | refine wkV ?_
    | refine wkM ?_
    | (refine TL.callP (Enters.plain (by kernel_rfl) (by rfl)) (QD _) permA (by rfl) ?_; (rintro e g4 L4 hg4 ⟨s4, f4, k1, k2, hs4, hq4⟩; subst k1; subst k2; obtain ⟨a4, c4, rfl⟩ := hs4.slice; refine CallK.ret ?_))
    | ((with_reducible apply TL.build_slice (len := 1)); (· rfl); (· rfl); (· exact oneA); (· rfl); (· rfl); (· rfl); intro bn)
    | ((with_reducible apply TL.append (e := 95)); (· rfl); (· rfl); (· rfl); (· rfl); (· exact pkA); (· exact Src.obj pkA); (· rfl); (· exact oneA); (· exact ⟨by unfold maxLen; omega, by omega⟩); (· rfl); intro vf; refine Go.TL.TL.row_slice (v := vf) pkA ?_; rintro a2 c2 rfl _)
    | refine stS ?_ | (refine stB ?_; intro _) | (refine stC ?_; constructor <;> intro _))
      refine TQ.round (⟨i + 1, k + 1, a2, c2, qs ++ [.all q], f0 ++ [.iface 83 (.slice a4 q.length c4)], g4, l1⟩ : CdS) ?_ ?_ rfl subA selF
      · have hw : IsQ g4 (.all q) (.iface 83 (.slice a4 q.length c4)) := by rw [IsQ]; exact ⟨_, f4, rfl, hs4, hq4⟩
        refine ⟨hlt, hgx.trans hg4, IsQs.snoc hw (IsQs.le hg4 hQ), ⟨⟨by simp [hk], show k + 1 = i + 1 by omega⟩, show l1 ≤ 100 by omega⟩, ?_⟩
        show (manyF (rdQ d) l1 (l.drop (i + 1))).map (fun r => ((qs ++ [.all q]) ++ r.1, r.2)) = R
        rw [← hI]
        cases manyF (rdQ d) l1 (l.drop (i + 1)) <;> simp
      · show l.length - (i + 1) < l.length - i
        omega
  · obtain rfl : i = l.length := by omega
    rw [List.drop_eq_nil_of_le (Nat.le_refl _), manyF] at hI
    have hI2 : R = some (qs, lf) := by rw [← hI]; simp
    clear hI
    subst hki
    by_cases hne : l = []
    · rw [hO2 hne]
      have b0 : decide (((0 : Nat) : Int) < ((l.length : Nat) : Int)) = false := decide_eq_false (by rw [hne]; simp)
      generalize ((32 - d : Nat) : Int) = di at *
      repeat' (first
    | refine wkQ ?_
    | (refine wkA 28 (v := .bool false) ?_ ?_; · exact Y.gtr_b b0 rfl rfl)
    | refine wkV ?_
    | refine TL.throws (Enters.plain (by kernel_rfl) (by rfl)) (NN _ _) (by rfl) ?_
    | refine stS ?_ | (refine stB ?_; intro _) | (refine stC ?_; constructor <;> intro _)
    | refine wkW ?_)
      refine TQ.end_panic (L' := rdO b (lf : Nat) :: L) rfl hgx ?_ selF
      exact .no
    · rw [hO1 hne]
      have b0 : decide (((0 : Nat) : Int) < ((l.length : Nat) : Int)) = true := decide_eq_true (by have := List.length_pos_iff.2 hne; omega)
      generalize ((32 - d : Nat) : Int) = di at *
      repeat' (first
    | refine wkQ ?_
    | (refine wkA 28 (v := .bool true) ?_ ?_; · exact Y.gtr_b b0 rfl rfl)
    | refine wkV ?_
    | refine wkD (NY _ _) ?_
    | refine stS ?_ | (refine stB ?_; intro _) | (refine stC ?_; constructor <;> intro _)
    | refine wkW ?_)
      refine TQ.freeze pkA ?_
      intro gf hgf hsf
      refine TQ.endR1 (L' := (rdO b (lf : Nat) :: L)) Tryz.results62 rvA rfl ((hgx.trans hgf)) ?_ selF
      rw [hI2]
      exact .yes hk hsf (IsQs.le hgf hQ)
end Go.Proofs.YtgollffmdpejiaaGreatDoor
