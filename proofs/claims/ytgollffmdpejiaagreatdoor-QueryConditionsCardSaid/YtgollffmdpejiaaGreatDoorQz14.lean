/-
  The edges of a ring, one by one; geom.Inside. Shapes; the edges of a part, one by one. All edges of a shape, one by one. The walks of shape's in, In. The walks of slices.IndexFunc, slices.ContainsFunc over points, shape's moves.
-/
import Derived.Test.YtgollffmdpejiaaGreatDoorQz11
import Derived.Test.YtgollffmdpejiaaGreatDoorQz7
import Derived.Test.YtgollffmdpejiaaGreatDoorQz3
import Derived.Test.YtgollffmdpejiaaGreatDoorQz13
namespace Go.Proofs.YtgollffmdpejiaaGreatDoor
open Go.RowKit Go.TL
set_option maxRecDepth 100000

def ringE (l : List Pt) : List (Pt × Pt) := l.zip (l.drop 1 ++ l.take 1)
theorem ringE_len (l : List Pt) : (ringE l).length = l.length := by
  cases l with
  | nil => rfl
  | cons a t => simp [ringE]
theorem ringE_get {l : List Pt} {i : Nat} {a b : Pt} (ha : l[i]? = some a) (hb : l[(i + 1) % l.length]? = some b) : (ringE l)[i]? = some (a, b) := by
  have hi := (List.getElem?_eq_some_iff.1 ha).1
  unfold ringE
  rw [List.getElem?_zip_eq_some]
  refine ⟨ha, ?_⟩
  by_cases h : i + 1 < l.length
  · rw [Nat.mod_eq_of_lt h] at hb
    rw [List.getElem?_append_left (by rw [List.length_drop]; omega), List.getElem?_drop, Nat.add_comm]
    exact hb
  · have he : i + 1 = l.length := by omega
    rw [he, Nat.mod_self] at hb
    rw [List.getElem?_append_right (by rw [List.length_drop]; omega), List.length_drop, show i - (l.length - 1) = 0 by omega]
    cases l with
    | nil => simp at hi
    | cons x t => simpa using hb
end Go.Proofs.YtgollffmdpejiaaGreatDoor
namespace Go.Proofs.YtgollffmdpejiaaGreatDoor
open Go.RowKit Go.TL
set_option maxRecDepth 100000

def IsParts (g : Gh) (v : Value) (ps : List (List Pt)) : Prop := ∃ fl : List Value, Sl g v ps.length 1 fl ∧ ∀ (i : Nat) (p : List Pt), ps[i]? = some p → ∃ u, fl[i]? = some u ∧ Sl g u p.length 2 (flatP p)
abbrev edV (e : Pt × Pt) : Value := .agg #[.int .i64 e.1.1, .int .i64 e.1.2, .int .i64 e.2.1, .int .i64 e.2.2]
def partE (k : Int) (l : List Pt) : List (Pt × Pt) := if k = 1 then (ringE l).take (l.length - 1) else ringE l
theorem partE_len (k : Int) (l : List Pt) : (partE k l).length = if k = 1 then l.length - 1 else l.length := by
  unfold partE
  split
  · rw [List.length_take, ringE_len]; omega
  · exact ringE_len l
abbrev partI (k : Int) (l : List Pt) : List (Array Value) := (partE k l).map fun e => #[edV e]
set_option maxHeartbeats 16000000 in
theorem sedges_iter (k : Int) (l : List Pt) (v : Value) (g : Gh) (b b2 : Nat) (hS : Sl g v l.length 2 (flatP l)) (hb : g.cell b 0 = some v) (hk : g.cell b2 0 = some (.int .i64 k)) (_hl : l.length ≤ 1000000) : Iter Tryz.prog 295 #[.pointer (some ⟨b, 0, none⟩), .pointer (some ⟨b2, 0, none⟩)] (partI k l) g := by
  refine ⟨fun r I X hM hX hY g1 L1 M hg h0 => ?_⟩
  show Does _ _ #[.func (.yield r) #[] #[], .pointer (some ⟨b, 0, none⟩), .pointer (some ⟨b2, 0, none⟩)] _ _ _
  unfold partI
  rw [List.length_map, partE_len]
  obtain ⟨N, hN⟩ : ∃ N, N = if k = 1 then l.length - 1 else l.length := ⟨_, rfl⟩
  rw [← hN]
  refine Does.of3 Tryz.func295 rfl Tryz.ntmps295 rfl ?_
  haveI NE : NL (Go.TL.End Tryz.prog Tryz.f295 (fun e g2 L2 => ∃ v L3, e = .returned v ∧ L2 = L3 ++ M ∧ (I N g2 L3 ∨ X g2 L3)) g1) := ⟨by rintro ⟨a, w, g', L', _, ⟨v, L3, h, _⟩, _⟩; cases h⟩
  obtain ⟨ao, cap, rfl⟩ := hS.slice
  have hS1 := hS.le hg
  have hb1 : g1.cell b 0 = some (.slice ao l.length cap) := hg.cell hb
  have hk1 : g1.cell b2 0 = some (.int .i64 k) := hg.cell hk
  have hY1 : ∀ i x y g2 L2 M2, i < N → l[i]? = some x → l[(i + 1) % l.length]? = some y → g1.le g2 → I i g2 L2 → Yld Tryz.prog r #[edV (x, y)] g2 (L2 ++ M2) fun b g3 L3 => ∃ L4, L3 = L4 ++ M2 ∧ (match b with
      | true => I (i + 1) g3 L4
      | false => X g3 L4) := fun i x y g2 L2 M2 hi hx hy hg2 hI => hY i _ g2 L2 M2 (by
        have h := ringE_get hx hy
        rw [List.getElem?_map, partE]
        split
        · rename_i hk1; rw [if_pos hk1] at hN; rw [List.getElem?_take, if_pos (by omega), h]; rfl
        · rw [h]; rfl) (hg.trans hg2) hI
  clear hb hS hY hk
  repeat' (first
    | refine wkQ ?_
    | refine wkV ?_
    | refine stS ?_ | (refine stB ?_; intro _) | (refine stC ?_; constructor <;> intro _))
  refine TC.loop (α := Nat × Gh × List Ent) (fun z => z.1 ≤ l.length ∧ (l.length = 0 ∨ z.1 ≤ N) ∧ g1.le z.2.1 ∧ I z.1 z.2.1 z.2.2) (fun z => l.length - z.1) (fun z => [(11, .int .i64 (z.1 : Nat)), (10, .int .i64 (l.length : Nat)), (4, .int .i64 (l.length : Nat)), (9, .slice ao l.length cap), (0, .func (.yield r) #[] #[]), (1, .pointer (some ⟨b, 0, none⟩)), (2, .pointer (some ⟨b2, 0, none⟩))]) (fun z => z.2.1) (fun z => z.2.2 ++ M) (0, g1, L1) ⟨Nat.zero_le _, .inr (Nat.zero_le _), .refl _, h0⟩ rfl subA selF ?_
  rintro ⟨i, gi, Li⟩ ⟨hi, hiN, hgi, hI⟩
  dsimp only at hi hiN hgi hI ⊢
  by_cases hlt : i < l.length
  · obtain ⟨p, hp⟩ : ∃ p, l[i]? = some p := ⟨_, List.getElem?_eq_getElem hlt⟩
    have hm : (i + 1) % l.length < l.length := Nat.mod_lt _ (by omega)
    obtain ⟨q, hq⟩ : ∃ q, l[(i + 1) % l.length]? = some q := ⟨_, List.getElem?_eq_getElem hm⟩
    have hYi := fun M2 h => hY1 i p q gi Li M2 h hp hq hgi hI
    have hSi := hS1.le hgi
    have hbi := hgi.cell hb1
    have hki := hgi.cell hk1
    obtain ⟨b1, o1, rfl, hg1⟩ := hSi.elem hlt (by decide)
    obtain ⟨b3, o2, he2, hg2⟩ := hSi.elem hm (by decide)
    obtain ⟨rfl, rfl⟩ : b1 = b3 ∧ o1 = o2 := by simpa using he2
    have hld : ∀ j u, [Value.int .i64 p.1, .int .i64 p.2][j]? = some u → gi.cell b1 (o1 + i * 2 + j) = some u := fun j u hu => by
      match j, hu with
      | 0, hu => simp at hu; subst hu; exact hg1 0 _ (flatP_get hp).1
      | 1, hu => simp at hu; subst hu; exact hg1 1 _ (flatP_get hp).2
      | j + 2, hu => simp at hu
    obtain ⟨k2, hk2⟩ : ∃ k, k = (i + 1) % l.length := ⟨_, rfl⟩
    rw [← hk2] at hg2 hm hq
    have hld2 : ∀ j u, [Value.int .i64 q.1, .int .i64 q.2][j]? = some u → gi.cell b1 (o1 + k2 * 2 + j) = some u := fun j u hu => by
      match j, hu with
      | 0, hu => simp at hu; subst hu; exact hg2 0 _ (flatP_get hq).1
      | 1, hu => simp at hu; subst hu; exact hg2 1 _ (flatP_get hq).2
      | j + 2, hu => simp at hu
    have hll : [Value.int .i64 p.1, .int .i64 p.2].length = 2 := rfl
    have hll2 : [Value.int .i64 q.1, .int .i64 q.2].length = 2 := rfl
    have HK := Hn.mk (show ((i : Nat) + 1 : Int).tmod (l.length : Nat) = (k2 : Nat) by rw [hk2]; exact (Int.ofNat_tmod (i + 1) l.length).symm)
    have hl0 : ¬ ((l.length : Nat) : Int) = 0 := by omega
    have HS := Hn.mk (show IntKind.i64.wrap (((l.length : Nat) : Int) - 1) = ((l.length - 1 : Nat) : Int) by rw [IntWalk.i64_in _ (by omega)]; omega)
    clear hSi hg1 hg2 he2 hY1 hS1 hp hq hk2
    by_cases hkk : k = 1
    · have bk : decide (k = 1) = true := decide_eq_true hkk
      rw [if_pos hkk] at hN
      by_cases hlast : i = l.length - 1
      · have bl : decide (((i : Nat) : Int) = (l.length - 1 : Nat)) = true := decide_eq_true (by omega)
        repeat' (first
    | refine wkQ ?_
    | (refine TC.region_tailY 10 (by kernel_rfl) (by kernel_rfl) (by rfl) ?_; simp only [List.take_succ_cons, List.take_zero, List.drop_succ_cons, List.drop_zero])
    | (refine wkA 18 (v := .bool true) ?_ ?_; · exact Y.eql_b bk rfl rfl)
    | (refine wkA 22 (v := .int .i64 ((l.length - 1 : Nat) : Int)) ?_ ?_; · exact Y.sub rfl rfl HS.out)
    | (refine wkA 23 (v := .bool true) ?_ ?_; · exact Y.eql_b bl rfl rfl)
    | refine wkV ?_
    | refine stS ?_ | (refine stB ?_; intro _) | (refine stC ?_; constructor <;> intro _)
    | refine wkW ?_)
        refine TQ.endR0 (L' := Li ++ M) Tryz.results295 rfl hgi ?_ (.drop .refl)
        exact ⟨_, Li, rfl, rfl, .inl (by rw [hN, ← hlast]; exact hI)⟩
      · have bl : decide (((i : Nat) : Int) = (l.length - 1 : Nat)) = false := decide_eq_false (by omega)
        repeat' (first
    | refine wkQ ?_
    | (refine TC.region_tailY 10 (by kernel_rfl) (by kernel_rfl) (by rfl) ?_; simp only [List.take_succ_cons, List.take_zero, List.drop_succ_cons, List.drop_zero])
    | (refine wkA 18 (v := .bool true) ?_ ?_; · exact Y.eql_b bk rfl rfl)
    | (refine wkA 22 (v := .int .i64 ((l.length - 1 : Nat) : Int)) ?_ ?_; · exact Y.sub rfl rfl HS.out)
    | (refine wkA 23 (v := .bool false) ?_ ?_; · exact Y.eql_b bl rfl rfl)
    | (refine wkA 31 (v := .int .i64 (k2 : Nat)) ?_ ?_; · exact Y.rem rfl rfl hl0 HK.out)
    | (refine wkA 34 (v := edV (p, q)) ?_ ?_; · exact Y.build_pp rfl rfl)
    | refine wkV ?_
    | refine stS ?_ | (refine stB ?_; intro _) | (refine stC ?_; constructor <;> intro _)
    | refine wkW ?_)
        refine TQ.then_Y (TY.call rfl rfl rfl ((hYi _ (by omega)).perm (midPerm _ _ _)) ?_)
        rintro bb g' L' hg' ⟨L4, rfl, hm4⟩
        cases bb with
        | true =>
          refine TY.fin rfl ?_
          repeat' (first
    | refine wkQ ?_
    | refine wkV ?_
    | refine stS ?_ | (refine stB ?_; intro _) | (refine stC ?_; constructor <;> intro _)
    | refine wkW ?_)
          refine TQ.round (i + 1, g', L4) ?_ ?_ rfl subA (midSel _ _ _)
          · exact ⟨by omega, .inr (by omega), hgi.trans hg', hm4⟩
          · show l.length - (i + 1) < l.length - i
            omega
        | false =>
          refine TY.fin rfl ?_
          repeat' (first
    | refine wkQ ?_
    | refine wkV ?_
    | refine stS ?_ | (refine stB ?_; intro _) | (refine stC ?_; constructor <;> intro _)
    | refine wkW ?_)
          refine TQ.endR0 (L' := L4 ++ M) Tryz.results295 rfl (hgi.trans hg') ?_ (midSel _ _ _)
          exact ⟨_, L4, rfl, rfl, .inr hm4⟩
    · have bk : decide (k = 1) = false := decide_eq_false hkk
      rw [if_neg hkk] at hN
      repeat' (first
    | refine wkQ ?_
    | (refine TC.region_tailY 10 (by kernel_rfl) (by kernel_rfl) (by rfl) ?_; simp only [List.take_succ_cons, List.take_zero, List.drop_succ_cons, List.drop_zero])
    | (refine wkA 18 (v := .bool false) ?_ ?_; · exact Y.eql_b bk rfl rfl)
    | (refine wkA 31 (v := .int .i64 (k2 : Nat)) ?_ ?_; · exact Y.rem rfl rfl hl0 HK.out)
    | (refine wkA 34 (v := edV (p, q)) ?_ ?_; · exact Y.build_pp rfl rfl)
    | refine wkV ?_
    | refine stS ?_ | (refine stB ?_; intro _) | (refine stC ?_; constructor <;> intro _)
    | refine wkW ?_)
      refine TQ.then_Y (TY.call rfl rfl rfl ((hYi _ (by omega)).perm (midPerm _ _ _)) ?_)
      rintro bb g' L' hg' ⟨L4, rfl, hm4⟩
      cases bb with
      | true =>
        refine TY.fin rfl ?_
        repeat' (first
    | refine wkQ ?_
    | refine wkV ?_
    | refine stS ?_ | (refine stB ?_; intro _) | (refine stC ?_; constructor <;> intro _)
    | refine wkW ?_)
        refine TQ.round (i + 1, g', L4) ?_ ?_ rfl subA (midSel _ _ _)
        · exact ⟨by omega, .inr (by omega), hgi.trans hg', hm4⟩
        · show l.length - (i + 1) < l.length - i
          omega
      | false =>
        refine TY.fin rfl ?_
        repeat' (first
    | refine wkQ ?_
    | refine wkV ?_
    | refine stS ?_ | (refine stB ?_; intro _) | (refine stC ?_; constructor <;> intro _)
    | refine wkW ?_)
        refine TQ.endR0 (L' := L4 ++ M) Tryz.results295 rfl (hgi.trans hg') ?_ (midSel _ _ _)
        exact ⟨_, L4, rfl, rfl, .inr hm4⟩
  · obtain rfl : i = l.length := by omega
    have hiN2 : l.length = N := by split at hN <;> omega
    clear hS1 hY1
    repeat' (first
    | refine wkQ ?_
    | refine wkV ?_
    | refine stS ?_ | (refine stB ?_; intro _) | (refine stC ?_; constructor <;> intro _)
    | refine wkW ?_)
    refine TQ.end_normal (TQ.endR0 (L' := Li ++ M) Tryz.results295 rfl hgi ?_ .refl)
    exact ⟨_, Li, rfl, rfl, .inl (hiN2 ▸ hI)⟩
end Go.Proofs.YtgollffmdpejiaaGreatDoor
namespace Go.TL
open Go Go.RowKit
section
variable {P : Program} {r : Option Nat} {ops : Array Oper} {Q : Exit → Act → World → Prop} {l : List Oper} {e : Exit} {n : Nat} {ds : List Deferred} {S : Slots} {g : Gh} {L L' : List Ent}
end
end Go.TL
namespace Go.Proofs.YtgollffmdpejiaaGreatDoor
open Go.RowKit Go.TL
set_option maxRecDepth 100000

abbrev shV (k : Int) (v : Value) : Value := .agg #[.int .i64 k, v]
theorem sedges_does (k : Int) (l : List Pt) (pv v : Value) (g : Gh) (L : List Ent) (_hp : pv.one = true) (hS : Sl g v l.length 2 (flatP l)) (hl : l.length ≤ 1000000) : Does Tryz.prog 262 #[shV k pv, v] g L (fun e g' L' => ∃ lb, e = .returned (.func (.func 295) #[] lb) ∧ L' = L ∧ Iter Tryz.prog 295 lb (partI k l) g') := by
  refine Does.of2 Tryz.func262 rfl Tryz.ntmps262 rfl ?_
  obtain ⟨ao, cap, rfl⟩ := hS.slice
  repeat' (first
    | refine wkQ ?_
    | ((with_reducible apply TL.box_keep (d := 2)); (· rfl); (· first | exact cells_one rfl | rfl); (· rfl); (· exact Nat.le_of_ble_eq_true rfl); intro b2 g1 h1 hc)
    | ((with_reducible apply TL.box_keep (d := 3)); (· rfl); (· first | exact cells_one rfl | rfl); (· rfl); (· exact Nat.le_of_ble_eq_true rfl); intro b3 g2 h2 hd)
    | (refine wkA 5 (v := .func (.func 295) #[] [Value.pointer (some ⟨_, 0, none⟩), Value.pointer (some ⟨_, 0, none⟩)].toArray) ?_ ?_; · exact Y.make_func rfl)
    | refine wkV ?_
    | refine stS ?_ | (refine stB ?_; intro _) | (refine stC ?_; constructor <;> intro _))
  refine TQ.endR1 (L' := L) Tryz.results262 rvA rfl (h1.trans h2) ?_ selF
  exact ⟨_, rfl, rfl, sedges_iter k l _ g2 b3 b2 (hS.le (h1.trans h2)) (hd 0 _ rfl) (h2.cell (hc 0 _ rfl)) hl⟩
end Go.Proofs.YtgollffmdpejiaaGreatDoor
namespace Go.Proofs.YtgollffmdpejiaaGreatDoor
open Go.RowKit Go.TL
set_option maxRecDepth 100000

def OnF (a b p : Pt) : Bool := [a, b, p].all mayB && onB a b p
theorem item_of {es : List (Pt × Pt)} {i : Nat} {x : Array Value} (h : (es.map fun e => #[edV e])[i]? = some x) : ∃ e, es[i]? = some e ∧ #[edV e] = x := by
  rw [List.getElem?_map] at h
  cases h2 : es[i]? with
  | none => rw [h2] at h; cases h
  | some e => rw [h2] at h; exact ⟨e, rfl, Option.some.inj h⟩
structure ShOk (ps : List (List Pt)) : Prop where
  len : ps.length ≤ 1000000
  part : ∀ p ∈ ps, p.length ≤ 1000000
end Go.Proofs.YtgollffmdpejiaaGreatDoor
namespace Go.Proofs.YtgollffmdpejiaaGreatDoor
open Go.RowKit Go.TL
set_option maxRecDepth 100000

theorem pt_cells {g : Gh} {b o : Nat} {p : Pt} {c : Nat → Option Value} (h : ∀ j v, c j = some v → g.cell b (o + j) = some v) (h0 : c 0 = some (.int .i64 p.1)) (h1 : c 1 = some (.int .i64 p.2)) : ∀ j u, [Value.int .i64 p.1, .int .i64 p.2][j]? = some u → g.cell b (o + j) = some u := fun j u hu => by
  match j, hu with
  | 0, hu => simp at hu; subst hu; exact h 0 _ h0
  | 1, hu => simp at hu; subst hu; exact h 1 _ h1
  | j + 2, hu => simp at hu
def idxF (p : Pt → Bool) : List Pt → Nat → Int
  | [], _ => -1
  | a :: r, i => if p a = true then (i : Int) else idxF p r (i + 1)
theorem idxF_any (p : Pt → Bool) : ∀ (l : List Pt) (i : Nat), decide (0 ≤ idxF p l i) = l.any p
  | [], i => by rw [idxF]; rfl
  | a :: r, i => by
    have := idxF_any p r (i + 1)
    rw [idxF, List.any_cons]
    cases h : p a with
    | true => rw [if_pos rfl]; simp
    | false => rw [if_neg (by decide), this]; rfl
set_option maxHeartbeats 8000000 in
theorem indexF_gives (F : FuncId) (caps : List Value) (P : Pt → Bool) (l : List Pt) (v : Value) (g : Gh) (L : List Ent) (hc : callable Tryz.prog F = true) (hS : Sl g v l.length 2 (flatP l)) (_hl : l.length ≤ 1000000) (hA : ∀ p ∈ l, Gives Tryz.prog F (pt p :: caps).toArray g L (.bool (P p))) :
    Gives Tryz.prog 258 #[v, .func (.func F) #[] caps.toArray] g L (.int .i64 (idxF P l 0)) := by
  refine .of (Does.of2 Tryz.func258 rfl Tryz.ntmps258 rfl ?_)
  obtain ⟨ao, cap, rfl⟩ := hS.slice
  obtain ⟨R, hR⟩ : ∃ R, R = idxF P (l.drop 0) 0 := ⟨_, rfl⟩
  rw [show idxF P l 0 = R from hR.symm]
  repeat' (first
    | refine wkQ ?_
    | refine wkV ?_
    | refine stS ?_ | (refine stB ?_; intro _) | (refine stC ?_; constructor <;> intro _))
  refine TC.loopK (fun i : Nat => i ≤ l.length ∧ idxF P (l.drop i) i = R) (fun i => l.length - i) (fun i _ => [(8, .int .i64 (i : Nat)), (7, .int .i64 (l.length : Nat)), (0, .slice ao l.length cap), (1, .func (.func F) #[] caps.toArray)]) [] .nil (fun _ L => L) 0 ⟨Nat.zero_le _, hR.symm⟩ subA selF ?_
  clear hR
  rintro i ⟨hi, hR⟩
  try dsimp only at hi hR ⊢
  by_cases hlt : i < l.length
  · obtain ⟨p, hp⟩ : ∃ p, l[i]? = some p := ⟨_, List.getElem?_eq_getElem hlt⟩
    obtain ⟨b1, o1, rfl, hg⟩ := hS.elem hlt (by decide)
    have hld := pt_cells hg (flatP_get hp).1 (flatP_get hp).2
    have hll : [Value.int .i64 p.1, .int .i64 p.2].length = 2 := rfl
    have A := hA p (List.mem_of_getElem? hp)
    rw [drop_of_get hp, idxF] at hR
    clear hS hg hA
    cases hm : P p with
    | true =>
      rw [hm] at A hR
      rw [if_pos rfl] at hR
      subst hR
      repeat' (first
    | refine wkQ ?_
    | refine wkV ?_
      | refine TL.gives (Enters.func (by rfl) hc (by rfl)) A (by rfl) ?_
    | refine stS ?_ | (refine stB ?_; intro _) | (refine stC ?_; constructor <;> intro _))
      refine TQ.endR1 (L' := L) Tryz.results258 rvA rfl (.refl _) ?_ selF
      exact ⟨rfl, rfl, rfl⟩
    | false =>
      rw [hm] at A hR
      rw [if_neg (by decide)] at hR
      repeat' (first
    | refine wkQ ?_
    | refine wkV ?_
      | refine TL.gives (Enters.func (by rfl) hc (by rfl)) A (by rfl) ?_
    | refine stS ?_ | (refine stB ?_; intro _) | (refine stC ?_; constructor <;> intro _))
      refine TQ.round (i + 1) ?_ ?_ rfl subA selF
      · exact ⟨by omega, hR⟩
      · show l.length - (i + 1) < l.length - i
        omega
  · obtain rfl : i = l.length := by omega
    rw [List.drop_length, idxF] at hR
    subst hR
    clear hS hA
    repeat' (first
    | refine wkQ ?_
    | refine wkV ?_
    | refine stS ?_ | (refine stB ?_; intro _) | (refine stC ?_; constructor <;> intro _))
    refine TQ.endR1 (L' := L) Tryz.results258 rvA rfl (.refl _) ?_ selF
    exact ⟨rfl, rfl, rfl⟩
theorem containsF_gives (F : FuncId) (caps : List Value) (P : Pt → Bool) (l : List Pt) (v : Value) (g : Gh) (L : List Ent) (hc : callable Tryz.prog F = true) (hS : Sl g v l.length 2 (flatP l)) (hl : l.length ≤ 1000000) (hA : ∀ p ∈ l, Gives Tryz.prog F (pt p :: caps).toArray g L (.bool (P p))) :
    Gives Tryz.prog 215 #[v, .func (.func F) #[] caps.toArray] g L (.bool (l.any P)) := by
  refine .of (Does.of2 Tryz.func215 rfl Tryz.ntmps215 rfl ?_)
  have A := indexF_gives F caps P l v g L hc hS hl hA
  obtain ⟨ao, cap, rfl⟩ := hS.slice
  obtain ⟨b, hb⟩ : ∃ b, b = l.any P := ⟨_, rfl⟩
  have hd := idxF_any P l 0
  rw [← hb] at hd ⊢
  generalize idxF P l 0 = k at *
  clear hS hA hb
  repeat' (first
    | refine wkQ ?_
    | (refine wkA 8 (v := .bool b) ?_ ?_; · exact Y.geq_b hd rfl rfl)
    | refine wkV ?_
    | refine wkD (A) ?_
    | refine stS ?_ | (refine stB ?_; intro _) | (refine stC ?_; constructor <;> intro _))
  refine TQ.endR1 (L' := L) Tryz.results215 rvA rfl (.refl _) ?_ selF
  exact ⟨rfl, rfl, rfl⟩
theorem rightOne_gives (p : Pt) (g : Gh) (L : List Ent) : Gives Tryz.prog 255 #[pt p] g L (.bool (!mayB p)) := by
  refine .of (Does.of1 Tryz.func255 rfl Tryz.ntmps255 rfl ?_)
  have M := fun L => May_gives g L p
  repeat' (first
    | refine wkQ ?_
    | refine wkV ?_
    | refine wkD (M _) ?_
    | refine stS ?_ | (refine stB ?_; intro _) | (refine stC ?_; constructor <;> intro _))
  refine TQ.endR1 (L' := L) Tryz.results255 rvA rfl (.refl _) ?_ selF
  exact ⟨rfl, rfl, rfl⟩
def movesF : List Pt → Bool
  | a :: b :: r => !decide (b = a) && movesF (b :: r)
  | _ => true
set_option maxHeartbeats 8000000 in
theorem moves_gives (l : List Pt) (v : Value) (g : Gh) (L : List Ent) (hS : Sl g v l.length 2 (flatP l)) (_hl : l.length ≤ 1000000) : Gives Tryz.prog 256 #[v] g L (.bool (movesF l)) := by
  refine .of (Does.of1 Tryz.func256 rfl Tryz.ntmps256 rfl ?_)
  obtain ⟨ao, cap, rfl⟩ := hS.slice
  obtain ⟨R, hR⟩ : ∃ R, R = movesF (l.drop 0) := ⟨_, rfl⟩
  rw [show movesF l = R from hR.symm]
  repeat' (first
    | refine wkQ ?_
    | refine wkV ?_
    | refine stS ?_ | (refine stB ?_; intro _) | (refine stC ?_; constructor <;> intro _))
  refine TC.loopK (fun i : Nat => (i + 1 ≤ l.length ∨ i = 0 ∧ l.length = 0) ∧ movesF (l.drop i) = R) (fun i => l.length - i) (fun i _ => [(3, .int .i64 ((i + 1 : Nat) : Int)), (0, .slice ao l.length cap)]) [] .nil (fun _ L => L) 0 ⟨by omega, hR.symm⟩ subA selF ?_
  clear hR
  rintro i ⟨hi, hR⟩
  try dsimp only at hi hR ⊢
  by_cases hlt : i + 1 < l.length
  · obtain ⟨p, hp⟩ : ∃ p, l[i]? = some p := ⟨_, List.getElem?_eq_getElem (by omega)⟩
    obtain ⟨q, hq⟩ : ∃ q, l[i + 1]? = some q := ⟨_, List.getElem?_eq_getElem hlt⟩
    obtain ⟨b1, o1, rfl, hg⟩ := hS.elem (i := i) (by omega) (by decide)
    obtain ⟨b3, o2, he2, hg2⟩ := hS.elem hlt (by decide)
    obtain ⟨rfl, rfl⟩ : b1 = b3 ∧ o1 = o2 := by simpa using he2
    have hld := pt_cells hg (flatP_get hp).1 (flatP_get hp).2
    have hld2 := pt_cells hg2 (flatP_get hq).1 (flatP_get hq).2
    have hll : [Value.int .i64 p.1, .int .i64 p.2].length = 2 := rfl
    have hll2 : [Value.int .i64 q.1, .int .i64 q.2].length = 2 := rfl
    have HS := Hn.mk (show IntKind.i64.wrap (((i + 1 : Nat) : Int) - 1) = ((i : Nat) : Int) by rw [IntWalk.i64_in _ (by omega)]; omega)
    have hR2 : (!decide (q = p) && movesF (l.drop (i + 1))) = R := by
      rw [← hR, drop_of_get hp, drop_of_get hq]; rfl
    clear hS hg hg2 he2 hR
    by_cases he : q = p
    · have bq : decide (q = p) = true := decide_eq_true he
      rw [bq] at hR2
      repeat' (first
    | refine wkQ ?_
    | refine wkV ?_
    | refine stS ?_ | (refine stB ?_; intro _) | (refine stC ?_; constructor <;> intro _)
    | ((with_reducible apply TA.takeN 0); (· rfl); (· decide +kernel); (· rfl); (· first | first | exact Y.eql_pt bq rfl rfl | exact Y.sub rfl rfl HS.out | exact yW); (· decide +kernel); (· decide +kernel); (· rfl); (· exact fun _ _ _ h => h); (· rfl))
    | ((with_reducible apply TA.takeN 1); (· rfl); (· decide +kernel); (· rfl); (· first | first | exact Y.eql_pt bq rfl rfl | exact Y.sub rfl rfl HS.out | exact yW); (· decide +kernel); (· decide +kernel); (· rfl); (· exact fun _ _ _ h => h); (· rfl))
    | ((with_reducible apply TA.takeN 2); (· rfl); (· decide +kernel); (· rfl); (· first | first | exact Y.eql_pt bq rfl rfl | exact Y.sub rfl rfl HS.out | exact yW); (· decide +kernel); (· decide +kernel); (· rfl); (· exact fun _ _ _ h => h); (· rfl))
    | ((with_reducible apply TA.takeN 3); (· rfl); (· decide +kernel); (· rfl); (· first | first | exact Y.eql_pt bq rfl rfl | exact Y.sub rfl rfl HS.out | exact yW); (· decide +kernel); (· decide +kernel); (· rfl); (· exact fun _ _ _ h => h); (· rfl))
    | ((with_reducible apply TA.take_gN 0); (· rfl); (· decide +kernel); (· rfl); (· rfl); (· rfl); (· (first | first | exact Y.eql_pt bq rfl rfl | exact Y.sub rfl rfl HS.out | exact yW)); (· decide +kernel); (· decide +kernel); (· rfl); (· exact fun _ _ _ h => h); (· rfl))
    | ((with_reducible apply TA.take_gN 1); (· rfl); (· decide +kernel); (· rfl); (· rfl); (· rfl); (· (first | first | exact Y.eql_pt bq rfl rfl | exact Y.sub rfl rfl HS.out | exact yW)); (· decide +kernel); (· decide +kernel); (· rfl); (· exact fun _ _ _ h => h); (· rfl))
    | ((with_reducible apply TA.take_gN 2); (· rfl); (· decide +kernel); (· rfl); (· rfl); (· rfl); (· (first | first | exact Y.eql_pt bq rfl rfl | exact Y.sub rfl rfl HS.out | exact yW)); (· decide +kernel); (· decide +kernel); (· rfl); (· exact fun _ _ _ h => h); (· rfl))
    | ((with_reducible apply TA.take_gN 3); (· rfl); (· decide +kernel); (· rfl); (· rfl); (· rfl); (· (first | first | exact Y.eql_pt bq rfl rfl | exact Y.sub rfl rfl HS.out | exact yW)); (· decide +kernel); (· decide +kernel); (· rfl); (· exact fun _ _ _ h => h); (· rfl))
    | refine wkX0 ?_
    | refine wkX1 ?_
    | refine wkX2 ?_
    | refine wkX3 ?_
    | refine wkO0 ?_
    | refine wkO1 ?_
    | refine wkO2 ?_
    | refine wkO3 ?_
    | refine TQ.any leF selF ?_
    | refine TC.region_any 10 (_) (by kernel_rfl) rfl selF ?_ | refine TA.done (by decide +kernel) ?_ | refine TQ.any_panic ?_ | fail)
      refine TQ.endR1 (L' := L) Tryz.results256 rvA rfl (.refl _) ?_ selF
      exact ⟨by rw [← hR2]; rfl, rfl, rfl⟩
    · have bq : decide (q = p) = false := decide_eq_false he
      rw [bq] at hR2
      repeat' (first
    | refine wkQ ?_
    | refine wkV ?_
    | refine stS ?_ | (refine stB ?_; intro _) | (refine stC ?_; constructor <;> intro _)
    | ((with_reducible apply TA.takeN 0); (· rfl); (· decide +kernel); (· rfl); (· first | first | exact Y.eql_pt bq rfl rfl | exact Y.sub rfl rfl HS.out | exact yW); (· decide +kernel); (· decide +kernel); (· rfl); (· exact fun _ _ _ h => h); (· rfl))
    | ((with_reducible apply TA.takeN 1); (· rfl); (· decide +kernel); (· rfl); (· first | first | exact Y.eql_pt bq rfl rfl | exact Y.sub rfl rfl HS.out | exact yW); (· decide +kernel); (· decide +kernel); (· rfl); (· exact fun _ _ _ h => h); (· rfl))
    | ((with_reducible apply TA.takeN 2); (· rfl); (· decide +kernel); (· rfl); (· first | first | exact Y.eql_pt bq rfl rfl | exact Y.sub rfl rfl HS.out | exact yW); (· decide +kernel); (· decide +kernel); (· rfl); (· exact fun _ _ _ h => h); (· rfl))
    | ((with_reducible apply TA.takeN 3); (· rfl); (· decide +kernel); (· rfl); (· first | first | exact Y.eql_pt bq rfl rfl | exact Y.sub rfl rfl HS.out | exact yW); (· decide +kernel); (· decide +kernel); (· rfl); (· exact fun _ _ _ h => h); (· rfl))
    | ((with_reducible apply TA.take_gN 0); (· rfl); (· decide +kernel); (· rfl); (· rfl); (· rfl); (· (first | first | exact Y.eql_pt bq rfl rfl | exact Y.sub rfl rfl HS.out | exact yW)); (· decide +kernel); (· decide +kernel); (· rfl); (· exact fun _ _ _ h => h); (· rfl))
    | ((with_reducible apply TA.take_gN 1); (· rfl); (· decide +kernel); (· rfl); (· rfl); (· rfl); (· (first | first | exact Y.eql_pt bq rfl rfl | exact Y.sub rfl rfl HS.out | exact yW)); (· decide +kernel); (· decide +kernel); (· rfl); (· exact fun _ _ _ h => h); (· rfl))
    | ((with_reducible apply TA.take_gN 2); (· rfl); (· decide +kernel); (· rfl); (· rfl); (· rfl); (· (first | first | exact Y.eql_pt bq rfl rfl | exact Y.sub rfl rfl HS.out | exact yW)); (· decide +kernel); (· decide +kernel); (· rfl); (· exact fun _ _ _ h => h); (· rfl))
    | ((with_reducible apply TA.take_gN 3); (· rfl); (· decide +kernel); (· rfl); (· rfl); (· rfl); (· (first | first | exact Y.eql_pt bq rfl rfl | exact Y.sub rfl rfl HS.out | exact yW)); (· decide +kernel); (· decide +kernel); (· rfl); (· exact fun _ _ _ h => h); (· rfl))
    | refine wkX0 ?_
    | refine wkX1 ?_
    | refine wkX2 ?_
    | refine wkX3 ?_
    | refine wkO0 ?_
    | refine wkO1 ?_
    | refine wkO2 ?_
    | refine wkO3 ?_
    | refine TQ.any leF selF ?_
    | refine TC.region_any 10 (_) (by kernel_rfl) rfl selF ?_ | refine TA.done (by decide +kernel) ?_ | refine TQ.any_panic ?_ | fail)
      refine TQ.round (i + 1) ?_ ?_ rfl subA selF
      · exact ⟨by omega, hR2⟩
      · show l.length - (i + 1) < l.length - i
        omega
  · have hT : R = true := by
      rw [← hR]
      rcases hi with hi | ⟨rfl, h0⟩
      · obtain ⟨p, hp⟩ : ∃ p, l[i]? = some p := ⟨_, List.getElem?_eq_getElem (by omega)⟩
        rw [drop_of_get hp, List.drop_eq_nil_of_le (by omega)]; rfl
      · rw [List.eq_nil_of_length_eq_zero h0]; rfl
    subst hT
    clear hS hR
    repeat' (first
    | refine wkQ ?_
    | refine wkV ?_
    | refine stS ?_ | (refine stB ?_; intro _) | (refine stC ?_; constructor <;> intro _))
    refine TQ.endR1 (L' := L) Tryz.results256 rvA rfl (.refl _) ?_ selF
    exact ⟨rfl, rfl, rfl⟩
end Go.Proofs.YtgollffmdpejiaaGreatDoor
