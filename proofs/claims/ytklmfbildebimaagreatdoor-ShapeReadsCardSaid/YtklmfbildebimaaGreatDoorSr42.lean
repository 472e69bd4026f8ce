/-
  The law's alike, walked: is a shape the document's?
-/
import Derived.Test.YtklmfbildebimaaGreatDoorSr2
import Derived.Test.YtklmfbildebimaaGreatDoorSr34
import Derived.Test.YtklmfbildebimaaGreatDoorSr16
namespace Go.TL
open Go Go.RowKit Go.Proofs.YtklmfbildebimaaGreatDoor
set_option maxRecDepth 100000
theorem Y.neq_ints {P : Program} {n : Nat} {ds : List Deferred} {S : Slots} {g : Gh} {L : List Ent} {gd : Option (Nat × Bool)} {dst : Option Nat} {x y : Operand} {t t' ty : TypeId} {pos : String} {aft : Array Edge} [h : IntSt P t] {k : IntKind} {us vs : List Int} {b : Bool} (hb : (!decide (us = vs)) = b) (ha : us.length = (P.fieldsOf t).size) (hb2 : vs.length = (P.fieldsOf t).size)
    (hx : ev S x = some (.agg (us.map (Value.int k)).toArray)) (hy : ev S y = some (.agg (vs.map (Value.int k)).toArray)) : Yields P n ds S g L ⟨dst, .binOp .neq t x y t', ty, pos, aft, gd⟩ (.bool b) := .mk fun a w hf _ => by
  have h1 := eqFields_int w 9998 k (P.fieldsOf t).toList us vs [] [] h.fs rfl (by rw [ha]; simp) (by rw [hb2]; simp)
  subst hb
  simp only [List.nil_append] at h1
  simp only [execOp, Sem.run_bind, hf.ev hx, hf.ev hy, Result.andThen_ok, run_eqGuard_agg w _ t x y _ _ h.gu, run_neq_struct, run_equalIn_struct w 9999 t _ _ h.un h.sh, h1]
  rfl
end Go.TL
namespace Go.Proofs.YtklmfbildebimaaGreatDoor
open Go.RowKit Go.TL
set_option maxRecDepth 100000
theorem Y.neq_pt {n : Nat} {ds : List Deferred} {S : Slots} {g : Gh} {L : List Ent} {gd : Option (Nat × Bool)} {dst : Option Nat} {x y : Operand} {t' ty : TypeId} {pos : String} {aft : Array Edge} {p q : Pt} {b : Bool} (hb : (!decide (p = q)) = b) (hx : ev S x = some (pt p)) (hy : ev S y = some (pt q)) : Go.TL.Yields Tryz.prog n ds S g L ⟨dst, .binOp .neq 42 x y t', ty, pos, aft, gd⟩ (.bool b) :=
  Y.neq_ints (k := .i64) (us := [p.1, p.2]) (vs := [q.1, q.2]) (by rw [← hb]; obtain ⟨a, b⟩ := p; obtain ⟨c, d⟩ := q; simp) (by kernel_rfl) (by kernel_rfl) hx hy
theorem dec_cons {α : Type} [DecidableEq α] (a b : α) (l r : List α) : decide (a :: l = b :: r) = (decide (a = b) && decide (l = r)) := by
  rw [Bool.eq_iff_iff]; simp
theorem part_at {g : Gh} {fl : List Value} {ao : Option Addr} {cap : Nat} {ps : List (List Pt)} (hSl : Sl g (.slice ao ps.length cap) ps.length 1 fl) (hpt : ∀ (i : Nat) (p : List Pt), ps[i]? = some p → ∃ u, fl[i]? = some u ∧ Sl g u p.length 2 (flatP p)) {i : Nat} {q : List Pt} (hq : ps[i]? = some q) :
    ∃ b o u, ao = some ⟨b, o, none⟩ ∧ g.cell b (o + i * 1) = some u ∧ Sl g u q.length 2 (flatP q) := by
  obtain ⟨u, hu, hSu⟩ := hpt i q hq
  obtain ⟨b, o, he, hg⟩ := hSl.elem (List.getElem?_eq_some_iff.1 hq).1 (by decide)
  exact ⟨b, o, u, he, hg 0 _ (by rw [Nat.mul_one]; exact hu), hSu⟩
set_option maxHeartbeats 32000000 in
theorem alike09_gives (k m : Int) (ps ts : List (List Pt)) (v u : Value) (g : Gh) (L : List Ent) (hS : IsParts g v ps) (hO : ShOk ps) (hT : IsParts g u ts) (hU : ShOk ts) : Gives Tryz.prog 9 #[shV k v, shV m u] g L (.bool (decide (k = m) && decide (ps = ts))) := by
  refine .of (Does.of2 Tryz.func9 rfl Tryz.ntmps9 rfl ?_)
  obtain ⟨fl, hSl, hpt⟩ := hS
  obtain ⟨fl', hTl, hpt'⟩ := hT
  obtain ⟨ao, cap, rfl⟩ := hSl.slice
  obtain ⟨ao', cap', rfl⟩ := hTl.slice
  have hps := hO.len
  have hts := hU.len
  have PA := Hn.mk (fun (i : Nat) (q : List Pt) (h : ps[i]? = some q) => part_at hSl hpt h)
  have PB := Hn.mk (fun (i : Nat) (q : List Pt) (h : ts[i]? = some q) => part_at hTl hpt' h)
  clear hSl hpt hTl hpt'
  by_cases hk : k = m
  case neg =>
    have b0 : (!decide (k = m)) = true := by rw [decide_eq_false hk]; rfl
    rw [decide_eq_false hk, Bool.false_and]
    repeat' (first
    | refine wkQ ?_
    | ((with_reducible apply TL.pure (d := 11) (v := .bool true)); (· exact Y.neq_b b0 rfl rfl); (· rfl)) | ((with_reducible apply TW.pure (d := 11) (v := .bool true)); (· exact Y.neq_b b0 rfl rfl); (· rfl))
    | refine wkV ?_
    | refine stS ?_ | (refine stB ?_; intro _) | (refine stC ?_; refine And.intro (fun _ => ?_) (fun _ => ?_)))
    refine TQ.endR1 (L' := L) Tryz.results9 rvA rfl (.refl _) ?_ selF
    exact ⟨rfl, rfl, rfl⟩
  have b0 : (!decide (k = m)) = false := by rw [decide_eq_true hk]; rfl
  rw [decide_eq_true hk, Bool.true_and]
  by_cases hn : ps.length = ts.length
  case neg =>
    have b1 : (!decide (((ps.length : Nat) : Int) = (ts.length : Nat))) = true := by rw [decide_eq_false (by omega)]; rfl
    rw [decide_eq_false (fun h => hn (by rw [h]))]
    repeat' (first
    | refine wkQ ?_
    | ((with_reducible apply TL.pure (d := 11) (v := .bool false)); (· exact Y.neq_b b0 rfl rfl); (· rfl)) | ((with_reducible apply TW.pure (d := 11) (v := .bool false)); (· exact Y.neq_b b0 rfl rfl); (· rfl))
    | ((with_reducible apply TL.pure (d := 19) (v := .bool true)); (· exact Y.neq_b b1 rfl rfl); (· rfl)) | ((with_reducible apply TW.pure (d := 19) (v := .bool true)); (· exact Y.neq_b b1 rfl rfl); (· rfl))
    | refine wkV ?_
    | refine stS ?_ | (refine stB ?_; intro _) | (refine stC ?_; refine And.intro (fun _ => ?_) (fun _ => ?_)))
    refine TQ.endR1 (L' := L) Tryz.results9 rvA rfl (.refl _) ?_ selF
    exact ⟨rfl, rfl, rfl⟩
  have b1 : (!decide (((ps.length : Nat) : Int) = (ts.length : Nat))) = false := by rw [decide_eq_true (by omega)]; rfl
  obtain ⟨R, hR⟩ : ∃ R, R = decide (ps.drop 0 = ts.drop 0) := ⟨_, rfl⟩
  rw [show decide (ps = ts) = R from hR.symm]
  repeat' (first
    | refine wkQ ?_
    | ((with_reducible apply TL.pure (d := 11) (v := .bool false)); (· exact Y.neq_b b0 rfl rfl); (· rfl)) | ((with_reducible apply TW.pure (d := 11) (v := .bool false)); (· exact Y.neq_b b0 rfl rfl); (· rfl))
    | ((with_reducible apply TL.pure (d := 19) (v := .bool false)); (· exact Y.neq_b b1 rfl rfl); (· rfl)) | ((with_reducible apply TW.pure (d := 19) (v := .bool false)); (· exact Y.neq_b b1 rfl rfl); (· rfl))
    | refine wkV ?_
    | refine stS ?_ | (refine stB ?_; intro _) | (refine stC ?_; refine And.intro (fun _ => ?_) (fun _ => ?_)))
  rename_i b2 b3
  refine TC.loopK (fun i : Nat => i ≤ ps.length ∧ decide (ps.drop i = ts.drop i) = R) (fun i => ps.length - i) (fun i _ => [(5, .int .i64 (i : Nat)), (3, .pointer (some ⟨b3, 0, none⟩)), (2, .pointer (some ⟨b2, 0, none⟩))]) [] .nil (fun _ L => L) 0 ⟨Nat.zero_le _, hR.symm⟩ subA selF ?_
  clear hR b0 b1
  rintro i ⟨hi, hI⟩
  try dsimp only at hi hI ⊢
  by_cases hlt : i < ps.length
  · obtain ⟨p, hp⟩ : ∃ q, ps[i]? = some q := ⟨_, List.getElem?_eq_getElem hlt⟩
    obtain ⟨q, hq⟩ : ∃ q, ts[i]? = some q := ⟨_, List.getElem?_eq_getElem (by omega)⟩
    have hpl := hO.part p (List.mem_of_getElem? hp)
    have hql := hU.part q (List.mem_of_getElem? hq)
    obtain ⟨b5, o5, w, rfl, hld, hSp⟩ := PA.out i p hp
    obtain ⟨b6, o6, w2, rfl, hld2, hSq⟩ := PB.out i q hq
    obtain ⟨aw, cw, rfl⟩ := hSp.slice
    obtain ⟨aw2, cw2, rfl⟩ := hSq.slice
    have hlt' : i < ts.length := by omega
    rw [drop_of_get hp, drop_of_get hq, dec_cons] at hI
    have HSP := Hn.mk hSp
    have HSQ := Hn.mk hSq
    clear hp hq hSp hSq PA PB hO hU
    by_cases hl : p.length = q.length
    case neg =>
      have b2 : (!decide (((p.length : Nat) : Int) = (q.length : Nat))) = true := by rw [decide_eq_false (by omega)]; rfl
      rw [decide_eq_false (fun h => hl (by rw [h]))] at hI
      obtain rfl : false = R := hI
      repeat' (first
    | refine wkQ ?_
    | refine wkV ?_
    | refine stS ?_ | (refine stB ?_; intro _) | (refine stC ?_; refine And.intro (fun _ => ?_) (fun _ => ?_))
    | ((with_reducible apply TA.takeN 0); (· rfl); (· decide +kernel); (· rfl); (· first | exact Y.neq_b b2 rfl rfl | (first | exact yQ | exact yA | exact yB | exact yM | exact yV)); (· decide +kernel); (· decide +kernel); (· rfl); (· exact fun _ _ _ h => h); (· rfl))
    | ((with_reducible apply TA.takeN 1); (· rfl); (· decide +kernel); (· rfl); (· first | exact Y.neq_b b2 rfl rfl | (first | exact yQ | exact yA | exact yB | exact yM | exact yV)); (· decide +kernel); (· decide +kernel); (· rfl); (· exact fun _ _ _ h => h); (· rfl))
    | ((with_reducible apply TA.takeN 2); (· rfl); (· decide +kernel); (· rfl); (· first | exact Y.neq_b b2 rfl rfl | (first | exact yQ | exact yA | exact yB | exact yM | exact yV)); (· decide +kernel); (· decide +kernel); (· rfl); (· exact fun _ _ _ h => h); (· rfl))
    | ((with_reducible apply TA.takeN 3); (· rfl); (· decide +kernel); (· rfl); (· first | exact Y.neq_b b2 rfl rfl | (first | exact yQ | exact yA | exact yB | exact yM | exact yV)); (· decide +kernel); (· decide +kernel); (· rfl); (· exact fun _ _ _ h => h); (· rfl))
    | ((with_reducible apply TA.take_gN 0); (· rfl); (· decide +kernel); (· rfl); (· rfl); (· rfl); (· (first | exact Y.neq_b b2 rfl rfl | (first | exact yQ | exact yA | exact yB | exact yM | exact yV))); (· decide +kernel); (· decide +kernel); (· rfl); (· exact fun _ _ _ h => h); (· rfl))
    | ((with_reducible apply TA.take_gN 1); (· rfl); (· decide +kernel); (· rfl); (· rfl); (· rfl); (· (first | exact Y.neq_b b2 rfl rfl | (first | exact yQ | exact yA | exact yB | exact yM | exact yV))); (· decide +kernel); (· decide +kernel); (· rfl); (· exact fun _ _ _ h => h); (· rfl))
    | ((with_reducible apply TA.take_gN 2); (· rfl); (· decide +kernel); (· rfl); (· rfl); (· rfl); (· (first | exact Y.neq_b b2 rfl rfl | (first | exact yQ | exact yA | exact yB | exact yM | exact yV))); (· decide +kernel); (· decide +kernel); (· rfl); (· exact fun _ _ _ h => h); (· rfl))
    | ((with_reducible apply TA.take_gN 3); (· rfl); (· decide +kernel); (· rfl); (· rfl); (· rfl); (· (first | exact Y.neq_b b2 rfl rfl | (first | exact yQ | exact yA | exact yB | exact yM | exact yV))); (· decide +kernel); (· decide +kernel); (· rfl); (· exact fun _ _ _ h => h); (· rfl))
    | refine wkX0 ?_
    | refine wkX1 ?_
    | refine wkX2 ?_
    | refine wkX3 ?_
    | ((with_reducible apply TA.oneN 0); (· rfl); (· rfl); (· decide +kernel); (· rfl))
    | ((with_reducible apply TA.oneN 1); (· rfl); (· rfl); (· decide +kernel); (· rfl))
    | ((with_reducible apply TA.oneN 2); (· rfl); (· rfl); (· decide +kernel); (· rfl))
    | ((with_reducible apply TA.oneN 3); (· rfl); (· rfl); (· decide +kernel); (· rfl))
    | refine TQ.any leF selF ?_
    | refine TC.region_any 13 (_) (by kernel_rfl) rfl selF ?_ | refine TA.done (by decide +kernel) ?_ | refine TQ.any_panic ?_)
      refine TQ.endR1 (L' := L) Tryz.results9 rvA rfl (.refl _) ?_ selF
      exact ⟨rfl, rfl, rfl⟩
    have b2' : (!decide (((p.length : Nat) : Int) = (q.length : Nat))) = false := by rw [decide_eq_true (by omega)]; rfl
    obtain ⟨T, hT⟩ : ∃ T, T = decide (p.drop 0 = q.drop 0) := ⟨_, rfl⟩
    rw [show decide (p = q) = T from hT.symm] at hI
    repeat' (first
    | refine wkQ ?_
    | refine wkV ?_
    | refine stS ?_ | (refine stB ?_; intro _) | (refine stC ?_; refine And.intro (fun _ => ?_) (fun _ => ?_))
    | ((with_reducible apply TA.takeN 0); (· rfl); (· decide +kernel); (· rfl); (· first | exact Y.neq_b b2' rfl rfl | (first | exact yQ | exact yA | exact yB | exact yM | exact yV)); (· decide +kernel); (· decide +kernel); (· rfl); (· exact fun _ _ _ h => h); (· rfl))
    | ((with_reducible apply TA.takeN 1); (· rfl); (· decide +kernel); (· rfl); (· first | exact Y.neq_b b2' rfl rfl | (first | exact yQ | exact yA | exact yB | exact yM | exact yV)); (· decide +kernel); (· decide +kernel); (· rfl); (· exact fun _ _ _ h => h); (· rfl))
    | ((with_reducible apply TA.takeN 2); (· rfl); (· decide +kernel); (· rfl); (· first | exact Y.neq_b b2' rfl rfl | (first | exact yQ | exact yA | exact yB | exact yM | exact yV)); (· decide +kernel); (· decide +kernel); (· rfl); (· exact fun _ _ _ h => h); (· rfl))
    | ((with_reducible apply TA.takeN 3); (· rfl); (· decide +kernel); (· rfl); (· first | exact Y.neq_b b2' rfl rfl | (first | exact yQ | exact yA | exact yB | exact yM | exact yV)); (· decide +kernel); (· decide +kernel); (· rfl); (· exact fun _ _ _ h => h); (· rfl))
    | ((with_reducible apply TA.take_gN 0); (· rfl); (· decide +kernel); (· rfl); (· rfl); (· rfl); (· (first | exact Y.neq_b b2' rfl rfl | (first | exact yQ | exact yA | exact yB | exact yM | exact yV))); (· decide +kernel); (· decide +kernel); (· rfl); (· exact fun _ _ _ h => h); (· rfl))
    | ((with_reducible apply TA.take_gN 1); (· rfl); (· decide +kernel); (· rfl); (· rfl); (· rfl); (· (first | exact Y.neq_b b2' rfl rfl | (first | exact yQ | exact yA | exact yB | exact yM | exact yV))); (· decide +kernel); (· decide +kernel); (· rfl); (· exact fun _ _ _ h => h); (· rfl))
    | ((with_reducible apply TA.take_gN 2); (· rfl); (· decide +kernel); (· rfl); (· rfl); (· rfl); (· (first | exact Y.neq_b b2' rfl rfl | (first | exact yQ | exact yA | exact yB | exact yM | exact yV))); (· decide +kernel); (· decide +kernel); (· rfl); (· exact fun _ _ _ h => h); (· rfl))
    | ((with_reducible apply TA.take_gN 3); (· rfl); (· decide +kernel); (· rfl); (· rfl); (· rfl); (· (first | exact Y.neq_b b2' rfl rfl | (first | exact yQ | exact yA | exact yB | exact yM | exact yV))); (· decide +kernel); (· decide +kernel); (· rfl); (· exact fun _ _ _ h => h); (· rfl))
    | refine wkX0 ?_
    | refine wkX1 ?_
    | refine wkX2 ?_
    | refine wkX3 ?_
    | ((with_reducible apply TA.oneN 0); (· rfl); (· rfl); (· decide +kernel); (· rfl))
    | ((with_reducible apply TA.oneN 1); (· rfl); (· rfl); (· decide +kernel); (· rfl))
    | ((with_reducible apply TA.oneN 2); (· rfl); (· rfl); (· decide +kernel); (· rfl))
    | ((with_reducible apply TA.oneN 3); (· rfl); (· rfl); (· decide +kernel); (· rfl))
    | refine TQ.any leF selF ?_
    | refine TC.region_any 13 (_) (by kernel_rfl) rfl selF ?_ | refine TA.done (by decide +kernel) ?_ | refine TQ.any_panic ?_)
    refine TC.loopK (fun j : Nat => j ≤ p.length ∧ decide (p.drop j = q.drop j) = T) (fun j => p.length - j) (fun j _ => [(6, .int .i64 (j : Nat)), (5, .int .i64 (i : Nat)), (3, .pointer (some ⟨b3, 0, none⟩)), (2, .pointer (some ⟨b2, 0, none⟩))]) [] .nil (fun _ L => L) 0 ⟨Nat.zero_le _, hT.symm⟩ subA selF ?_
    clear hT b2'
    rintro j ⟨hj, hJ⟩
    try dsimp only at hj hJ ⊢
    by_cases hlt2 : j < p.length
    · obtain ⟨x, hx⟩ : ∃ q, p[j]? = some q := ⟨_, List.getElem?_eq_getElem hlt2⟩
      obtain ⟨y, hy⟩ : ∃ z, q[j]? = some z := ⟨_, List.getElem?_eq_getElem (by omega)⟩
      have hlt2' : j < q.length := by omega
      obtain ⟨b7, o7, rfl, hg7⟩ := HSP.out.elem hlt2 (by decide)
      obtain ⟨b8, o8, rfl, hg8⟩ := HSQ.out.elem hlt2' (by decide)
      have hl7 := pt_cells hg7 (flatP_get hx).1 (flatP_get hx).2
      have hl8 := pt_cells hg8 (flatP_get hy).1 (flatP_get hy).2
      have hll : [Value.int .i64 x.1, .int .i64 x.2].length = 2 := rfl
      have hll2 : [Value.int .i64 y.1, .int .i64 y.2].length = 2 := rfl
      rw [drop_of_get hx, drop_of_get hy, dec_cons] at hJ
      clear hg7 hg8 hx hy HSP HSQ
      by_cases he : x = y
      · have be : (!decide (x = y)) = false := by rw [decide_eq_true he]; rfl
        rw [decide_eq_true he, Bool.true_and] at hJ
        repeat' (first
    | refine wkQ ?_
    | refine wkV ?_
    | refine stS ?_ | (refine stB ?_; intro _) | (refine stC ?_; refine And.intro (fun _ => ?_) (fun _ => ?_))
    | ((with_reducible apply TA.takeN 0); (· rfl); (· decide +kernel); (· rfl); (· first | exact Y.neq_pt be rfl rfl | (first | exact yQ | exact yA | exact yB | exact yM | exact yV)); (· decide +kernel); (· decide +kernel); (· rfl); (· exact fun _ _ _ h => h); (· rfl))
    | ((with_reducible apply TA.takeN 1); (· rfl); (· decide +kernel); (· rfl); (· first | exact Y.neq_pt be rfl rfl | (first | exact yQ | exact yA | exact yB | exact yM | exact yV)); (· decide +kernel); (· decide +kernel); (· rfl); (· exact fun _ _ _ h => h); (· rfl))
    | ((with_reducible apply TA.takeN 2); (· rfl); (· decide +kernel); (· rfl); (· first | exact Y.neq_pt be rfl rfl | (first | exact yQ | exact yA | exact yB | exact yM | exact yV)); (· decide +kernel); (· decide +kernel); (· rfl); (· exact fun _ _ _ h => h); (· rfl))
    | ((with_reducible apply TA.takeN 3); (· rfl); (· decide +kernel); (· rfl); (· first | exact Y.neq_pt be rfl rfl | (first | exact yQ | exact yA | exact yB | exact yM | exact yV)); (· decide +kernel); (· decide +kernel); (· rfl); (· exact fun _ _ _ h => h); (· rfl))
    | ((with_reducible apply TA.take_gN 0); (· rfl); (· decide +kernel); (· rfl); (· rfl); (· rfl); (· (first | exact Y.neq_pt be rfl rfl | (first | exact yQ | exact yA | exact yB | exact yM | exact yV))); (· decide +kernel); (· decide +kernel); (· rfl); (· exact fun _ _ _ h => h); (· rfl))
    | ((with_reducible apply TA.take_gN 1); (· rfl); (· decide +kernel); (· rfl); (· rfl); (· rfl); (· (first | exact Y.neq_pt be rfl rfl | (first | exact yQ | exact yA | exact yB | exact yM | exact yV))); (· decide +kernel); (· decide +kernel); (· rfl); (· exact fun _ _ _ h => h); (· rfl))
    | ((with_reducible apply TA.take_gN 2); (· rfl); (· decide +kernel); (· rfl); (· rfl); (· rfl); (· (first | exact Y.neq_pt be rfl rfl | (first | exact yQ | exact yA | exact yB | exact yM | exact yV))); (· decide +kernel); (· decide +kernel); (· rfl); (· exact fun _ _ _ h => h); (· rfl))
    | ((with_reducible apply TA.take_gN 3); (· rfl); (· decide +kernel); (· rfl); (· rfl); (· rfl); (· (first | exact Y.neq_pt be rfl rfl | (first | exact yQ | exact yA | exact yB | exact yM | exact yV))); (· decide +kernel); (· decide +kernel); (· rfl); (· exact fun _ _ _ h => h); (· rfl))
    | refine wkX0 ?_
    | refine wkX1 ?_
    | refine wkX2 ?_
    | refine wkX3 ?_
    | ((with_reducible apply TA.oneN 0); (· rfl); (· rfl); (· decide +kernel); (· rfl))
    | ((with_reducible apply TA.oneN 1); (· rfl); (· rfl); (· decide +kernel); (· rfl))
    | ((with_reducible apply TA.oneN 2); (· rfl); (· rfl); (· decide +kernel); (· rfl))
    | ((with_reducible apply TA.oneN 3); (· rfl); (· rfl); (· decide +kernel); (· rfl))
    | refine TQ.any leF selF ?_
    | refine TC.region_any 17 (_) (by kernel_rfl) rfl selF ?_ | refine TA.done (by decide +kernel) ?_ | refine TQ.any_panic ?_)
        refine TQ.round (j + 1) ?_ ?_ rfl subA selF
        · exact ⟨by omega, hJ⟩
        · show p.length - (j + 1) < p.length - j
          omega
      · have be : (!decide (x = y)) = true := by rw [decide_eq_false he]; rfl
        rw [decide_eq_false he, Bool.false_and] at hJ
        obtain rfl : false = T := hJ
        obtain rfl : false = R := hI
        repeat' (first
    | refine wkQ ?_
    | refine wkV ?_
    | refine stS ?_ | (refine stB ?_; intro _) | (refine stC ?_; refine And.intro (fun _ => ?_) (fun _ => ?_))
    | ((with_reducible apply TA.takeN 0); (· rfl); (· decide +kernel); (· rfl); (· first | exact Y.neq_pt be rfl rfl | (first | exact yQ | exact yA | exact yB | exact yM | exact yV)); (· decide +kernel); (· decide +kernel); (· rfl); (· exact fun _ _ _ h => h); (· rfl))
    | ((with_reducible apply TA.takeN 1); (· rfl); (· decide +kernel); (· rfl); (· first | exact Y.neq_pt be rfl rfl | (first | exact yQ | exact yA | exact yB | exact yM | exact yV)); (· decide +kernel); (· decide +kernel); (· rfl); (· exact fun _ _ _ h => h); (· rfl))
    | ((with_reducible apply TA.takeN 2); (· rfl); (· decide +kernel); (· rfl); (· first | exact Y.neq_pt be rfl rfl | (first | exact yQ | exact yA | exact yB | exact yM | exact yV)); (· decide +kernel); (· decide +kernel); (· rfl); (· exact fun _ _ _ h => h); (· rfl))
    | ((with_reducible apply TA.takeN 3); (· rfl); (· decide +kernel); (· rfl); (· first | exact Y.neq_pt be rfl rfl | (first | exact yQ | exact yA | exact yB | exact yM | exact yV)); (· decide +kernel); (· decide +kernel); (· rfl); (· exact fun _ _ _ h => h); (· rfl))
    | ((with_reducible apply TA.take_gN 0); (· rfl); (· decide +kernel); (· rfl); (· rfl); (· rfl); (· (first | exact Y.neq_pt be rfl rfl | (first | exact yQ | exact yA | exact yB | exact yM | exact yV))); (· decide +kernel); (· decide +kernel); (· rfl); (· exact fun _ _ _ h => h); (· rfl))
    | ((with_reducible apply TA.take_gN 1); (· rfl); (· decide +kernel); (· rfl); (· rfl); (· rfl); (· (first | exact Y.neq_pt be rfl rfl | (first | exact yQ | exact yA | exact yB | exact yM | exact yV))); (· decide +kernel); (· decide +kernel); (· rfl); (· exact fun _ _ _ h => h); (· rfl))
    | ((with_reducible apply TA.take_gN 2); (· rfl); (· decide +kernel); (· rfl); (· rfl); (· rfl); (· (first | exact Y.neq_pt be rfl rfl | (first | exact yQ | exact yA | exact yB | exact yM | exact yV))); (· decide +kernel); (· decide +kernel); (· rfl); (· exact fun _ _ _ h => h); (· rfl))
    | ((with_reducible apply TA.take_gN 3); (· rfl); (· decide +kernel); (· rfl); (· rfl); (· rfl); (· (first | exact Y.neq_pt be rfl rfl | (first | exact yQ | exact yA | exact yB | exact yM | exact yV))); (· decide +kernel); (· decide +kernel); (· rfl); (· exact fun _ _ _ h => h); (· rfl))
    | refine wkX0 ?_
    | refine wkX1 ?_
    | refine wkX2 ?_
    | refine wkX3 ?_
    | ((with_reducible apply TA.oneN 0); (· rfl); (· rfl); (· decide +kernel); (· rfl))
    | ((with_reducible apply TA.oneN 1); (· rfl); (· rfl); (· decide +kernel); (· rfl))
    | ((with_reducible apply TA.oneN 2); (· rfl); (· rfl); (· decide +kernel); (· rfl))
    | ((with_reducible apply TA.oneN 3); (· rfl); (· rfl); (· decide +kernel); (· rfl))
    | refine TQ.any leF selF ?_
    | refine TC.region_any 17 (_) (by kernel_rfl) rfl selF ?_ | refine TA.done (by decide +kernel) ?_ | refine TQ.any_panic ?_)
        refine TQ.endR1 (L' := L) Tryz.results9 rvA rfl (.refl _) ?_ selF
        exact ⟨rfl, rfl, rfl⟩
    · obtain rfl : j = p.length := by omega
      rw [List.drop_length, hl, List.drop_length] at hJ
      obtain rfl : true = T := hJ
      rw [Bool.true_and] at hI
      clear HSP HSQ
      repeat' (first
    | refine wkQ ?_
    | refine wkV ?_
    | refine stS ?_ | (refine stB ?_; intro _) | (refine stC ?_; refine And.intro (fun _ => ?_) (fun _ => ?_)))
      refine TQ.round (i + 1) ?_ ?_ rfl subA selF
      · exact ⟨by omega, hI⟩
      · show ps.length - (i + 1) < ps.length - i
        omega
  · obtain rfl : i = ps.length := by omega
    rw [List.drop_length, hn, List.drop_length] at hI
    obtain rfl : true = R := hI
    clear PA PB
    repeat' (first
    | refine wkQ ?_
    | refine wkV ?_
    | refine stS ?_ | (refine stB ?_; intro _) | (refine stC ?_; refine And.intro (fun _ => ?_) (fun _ => ?_)))
    refine TQ.endR1 (L' := L) Tryz.results9 rvA rfl (.refl _) ?_ selF
    exact ⟨rfl, rfl, rfl⟩
end Go.Proofs.YtklmfbildebimaaGreatDoor
