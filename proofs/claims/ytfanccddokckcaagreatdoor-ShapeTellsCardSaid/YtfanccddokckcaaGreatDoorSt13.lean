/-
  Shapes; the edges of a part, one by one. All edges of a shape, one by one.
-/
import Derived.Test.YtfanccddokckcaaGreatDoorSt2
import Derived.Test.YtfanccddokckcaaGreatDoorSt12
namespace Go.Proofs.YtfanccddokckcaaGreatDoor
open Go.RowKit Go.TL
set_option maxRecDepth 100000

def IsParts (g : Gh) (v : Value) (ps : List (List Pt)) : Prop := ∃ fl : List Value, Sl g v ps.length 1 fl ∧ ∀ (i : Nat) (p : List Pt), ps[i]? = some p → ∃ u, fl[i]? = some u ∧ Sl g u p.length 2 (flatP p)
theorem IsParts.le {g g' : Gh} {v : Value} {ps : List (List Pt)} (h : IsParts g v ps) (hg : g.le g') : IsParts g' v ps := by
  obtain ⟨fl, h1, h2⟩ := h
  exact ⟨fl, h1.le hg, fun i p hp => by obtain ⟨u, h3, h4⟩ := h2 i p hp; exact ⟨u, h3, h4.le hg⟩⟩
abbrev edV (e : Pt × Pt) : Value := .agg #[.int .i64 e.1.1, .int .i64 e.1.2, .int .i64 e.2.1, .int .i64 e.2.2]
def partE (k : Int) (l : List Pt) : List (Pt × Pt) := if k = 1 then (ringE l).take (l.length - 1) else ringE l
theorem partE_len (k : Int) (l : List Pt) : (partE k l).length = if k = 1 then l.length - 1 else l.length := by
  unfold partE
  split
  · rw [List.length_take, ringE_len]; omega
  · exact ringE_len l
abbrev partI (k : Int) (l : List Pt) : List (Array Value) := (partE k l).map fun e => #[edV e]
set_option maxHeartbeats 16000000 in
theorem sedges_iter (k : Int) (l : List Pt) (v : Value) (g : Gh) (b b2 : Nat) (hS : Sl g v l.length 2 (flatP l)) (hb : g.cell b 0 = some v) (hk : g.cell b2 0 = some (.int .i64 k)) (_hl : l.length ≤ 1000000) : Iter Tryz.prog 118 #[.pointer (some ⟨b, 0, none⟩), .pointer (some ⟨b2, 0, none⟩)] (partI k l) g := by
  refine ⟨fun r I X hM hX hY g1 L1 M hg h0 => ?_⟩
  show Does _ _ #[.func (.yield r) #[] #[], .pointer (some ⟨b, 0, none⟩), .pointer (some ⟨b2, 0, none⟩)] _ _ _
  unfold partI
  rw [List.length_map, partE_len]
  obtain ⟨N, hN⟩ : ∃ N, N = if k = 1 then l.length - 1 else l.length := ⟨_, rfl⟩
  rw [← hN]
  refine Does.of3 Tryz.func118 rfl Tryz.ntmps118 rfl ?_
  haveI NE : NL (Go.TL.End Tryz.prog Tryz.f118 (fun e g2 L2 => ∃ v L3, e = .returned v ∧ L2 = L3 ++ M ∧ (I N g2 L3 ∨ X g2 L3)) g1) := ⟨by rintro ⟨a, w, g', L', _, ⟨v, L3, h, _⟩, _⟩; cases h⟩
  obtain ⟨ao, cap, rfl⟩ := hS.slice
  have hS1 := hS.le hg
  have hb1 : g1.cell b 0 = some (.slice ao l.length cap) := hg.cell hb
  have hk1 : g1.cell b2 0 = some (.int .i64 k) := hg.cell hk
  have hY1 : ∀ i x y g2 L2 M2, i < N → l[i]? = some x → l[(i + 1) % l.length]? = some y → g1.le g2 → I i g2 L2 → Yld Tryz.prog r #[edV (x, y)] g2 (L2 ++ M2) fun b g3 L3 => ∃ L4, L3 = L4 ++ M2 ∧ (match b with
      | true => I (i + 1) g3 L4
      | false => X g3 L4) := fun i x y g2 L2 M2 hi hx hy hg2 hI => hY i _ g2 L2 M2 (by
        have h := ringE_get hx hy
        rw [List.getElem?_map, partE]
        split
        · rename_i hk1; rw [if_pos hk1] at hN; rw [List.getElem?_take, if_pos (by omega), h]; rfl
        · rw [h]; rfl) (hg.trans hg2) hI
  clear hb hS hY hk
  repeat' (first
    | refine wkQ ?_
    | refine wkV ?_
    | refine stS ?_ | (refine stB ?_; intro _) | (refine stC ?_; refine And.intro (fun _ => ?_) (fun _ => ?_)))
  refine TC.loop (α := Nat × Gh × List Ent) (fun z => z.1 ≤ l.length ∧ (l.length = 0 ∨ z.1 ≤ N) ∧ g1.le z.2.1 ∧ I z.1 z.2.1 z.2.2) (fun z => l.length - z.1) (fun z => [(11, .int .i64 (z.1 : Nat)), (10, .int .i64 (l.length : Nat)), (4, .int .i64 (l.length : Nat)), (9, .slice ao l.length cap), (0, .func (.yield r) #[] #[]), (1, .pointer (some ⟨b, 0, none⟩)), (2, .pointer (some ⟨b2, 0, none⟩))]) (fun z => z.2.1) (fun z => z.2.2 ++ M) (0, g1, L1) ⟨Nat.zero_le _, .inr (Nat.zero_le _), .refl _, h0⟩ rfl subA selF ?_
  rintro ⟨i, gi, Li⟩ ⟨hi, hiN, hgi, hI⟩
  dsimp only at hi hiN hgi hI ⊢
  by_cases hlt : i < l.length
  · obtain ⟨p, hp⟩ : ∃ p, l[i]? = some p := ⟨_, List.getElem?_eq_getElem hlt⟩
    have hm : (i + 1) % l.length < l.length := Nat.mod_lt _ (by omega)
    obtain ⟨q, hq⟩ : ∃ q, l[(i + 1) % l.length]? = some q := ⟨_, List.getElem?_eq_getElem hm⟩
    have hYi := fun M2 h => hY1 i p q gi Li M2 h hp hq hgi hI
    have hSi := hS1.le hgi
    have hbi := hgi.cell hb1
    have hki := hgi.cell hk1
    obtain ⟨b1, o1, rfl, hg1⟩ := hSi.elem hlt (by decide)
    obtain ⟨b3, o2, he2, hg2⟩ := hSi.elem hm (by decide)
    obtain ⟨rfl, rfl⟩ : b1 = b3 ∧ o1 = o2 := by simpa using he2
    have hld : ∀ j u, [Value.int .i64 p.1, .int .i64 p.2][j]? = some u → gi.cell b1 (o1 + i * 2 + j) = some u := fun j u hu => by
      match j, hu with
      | 0, hu => simp at hu; subst hu; exact hg1 0 _ (flatP_get hp).1
      | 1, hu => simp at hu; subst hu; exact hg1 1 _ (flatP_get hp).2
      | j + 2, hu => simp at hu
    obtain ⟨k2, hk2⟩ : ∃ k, k = (i + 1) % l.length := ⟨_, rfl⟩
    rw [← hk2] at hg2 hm hq
    have hld2 : ∀ j u, [Value.int .i64 q.1, .int .i64 q.2][j]? = some u → gi.cell b1 (o1 + k2 * 2 + j) = some u := fun j u hu => by
      match j, hu with
      | 0, hu => simp at hu; subst hu; exact hg2 0 _ (flatP_get hq).1
      | 1, hu => simp at hu; subst hu; exact hg2 1 _ (flatP_get hq).2
      | j + 2, hu => simp at hu
    have hll : [Value.int .i64 p.1, .int .i64 p.2].length = 2 := rfl
    have hll2 : [Value.int .i64 q.1, .int .i64 q.2].length = 2 := rfl
    have HK := Hn.mk (show ((i : Nat) + 1 : Int).tmod (l.length : Nat) = (k2 : Nat) by rw [hk2]; exact (Int.ofNat_tmod (i + 1) l.length).symm)
    have hl0 : ¬ ((l.length : Nat) : Int) = 0 := by omega
    have HS := Hn.mk (show IntKind.i64.wrap (((l.length : Nat) : Int) - 1) = ((l.length - 1 : Nat) : Int) by rw [IntWalk.i64_in _ (by omega)]; omega)
    clear hSi hg1 hg2 he2 hY1 hS1 hp hq hk2
    by_cases hkk : k = 1
    · have bk : decide (k = 1) = true := decide_eq_true hkk
      rw [if_pos hkk] at hN
      by_cases hlast : i = l.length - 1
      · have bl : decide (((i : Nat) : Int) = (l.length - 1 : Nat)) = true := decide_eq_true (by omega)
        repeat' (first
    | refine wkQ ?_
    | (refine TC.region_tailY 10 (by kernel_rfl) (by kernel_rfl) (by rfl) ?_; simp only [List.take_succ_cons, List.take_zero, List.drop_succ_cons, List.drop_zero])
    | ((with_reducible apply TL.pure (d := 18) (v := .bool true)); (· exact Y.eql_b bk rfl rfl); (· rfl)) | ((with_reducible apply TW.pure (d := 18) (v := .bool true)); (· exact Y.eql_b bk rfl rfl); (· rfl))
    | ((with_reducible apply TL.pure (d := 22) (v := .int .i64 ((l.length - 1 : Nat) : Int))); (· exact Y.sub rfl rfl HS.out); (· rfl)) | ((with_reducible apply TW.pure (d := 22) (v := .int .i64 ((l.length - 1 : Nat) : Int))); (· exact Y.sub rfl rfl HS.out); (· rfl))
    | ((with_reducible apply TL.pure (d := 23) (v := .bool true)); (· exact Y.eql_b bl rfl rfl); (· rfl)) | ((with_reducible apply TW.pure (d := 23) (v := .bool true)); (· exact Y.eql_b bl rfl rfl); (· rfl))
    | refine wkV ?_
    | refine stS ?_ | (refine stB ?_; intro _) | (refine stC ?_; refine And.intro (fun _ => ?_) (fun _ => ?_))
    | apply TC.region_draw (by kernel_rfl) (by kernel_rfl) | refine TW.nil ?_ | ((with_reducible apply TW.pure); (· exact yA); (· rfl)))
        refine TQ.endR0 (L' := Li ++ M) Tryz.results118 rfl hgi ?_ (.drop .refl)
        exact ⟨_, Li, rfl, rfl, .inl (by rw [hN, ← hlast]; exact hI)⟩
      · have bl : decide (((i : Nat) : Int) = (l.length - 1 : Nat)) = false := decide_eq_false (by omega)
        repeat' (first
    | refine wkQ ?_
    | (refine TC.region_tailY 10 (by kernel_rfl) (by kernel_rfl) (by rfl) ?_; simp only [List.take_succ_cons, List.take_zero, List.drop_succ_cons, List.drop_zero])
    | ((with_reducible apply TL.pure (d := 18) (v := .bool true)); (· exact Y.eql_b bk rfl rfl); (· rfl)) | ((with_reducible apply TW.pure (d := 18) (v := .bool true)); (· exact Y.eql_b bk rfl rfl); (· rfl))
    | ((with_reducible apply TL.pure (d := 22) (v := .int .i64 ((l.length - 1 : Nat) : Int))); (· exact Y.sub rfl rfl HS.out); (· rfl)) | ((with_reducible apply TW.pure (d := 22) (v := .int .i64 ((l.length - 1 : Nat) : Int))); (· exact Y.sub rfl rfl HS.out); (· rfl))
    | ((with_reducible apply TL.pure (d := 23) (v := .bool false)); (· exact Y.eql_b bl rfl rfl); (· rfl)) | ((with_reducible apply TW.pure (d := 23) (v := .bool false)); (· exact Y.eql_b bl rfl rfl); (· rfl))
    | ((with_reducible apply TL.pure (d := 31) (v := .int .i64 (k2 : Nat))); (· exact Y.rem rfl rfl hl0 HK.out); (· rfl)) | ((with_reducible apply TW.pure (d := 31) (v := .int .i64 (k2 : Nat))); (· exact Y.rem rfl rfl hl0 HK.out); (· rfl))
    | ((with_reducible apply TL.pure (d := 34) (v := edV (p, q))); (· exact Y.build_pp rfl rfl); (· rfl)) | ((with_reducible apply TW.pure (d := 34) (v := edV (p, q))); (· exact Y.build_pp rfl rfl); (· rfl))
    | refine wkV ?_
    | refine stS ?_ | (refine stB ?_; intro _) | (refine stC ?_; refine And.intro (fun _ => ?_) (fun _ => ?_))
    | apply TC.region_draw (by kernel_rfl) (by kernel_rfl) | refine TW.nil ?_ | ((with_reducible apply TW.pure); (· exact yA); (· rfl)))
        refine TQ.then_Y (TY.call rfl rfl rfl ((hYi _ (by omega)).perm (midPerm _ _ _)) ?_)
        rintro bb g' L' hg' ⟨L4, rfl, hm4⟩
        cases bb with
        | true =>
          refine TY.fin rfl ?_
          repeat' (first
    | refine wkQ ?_
    | refine wkV ?_
    | refine stS ?_ | (refine stB ?_; intro _) | (refine stC ?_; refine And.intro (fun _ => ?_) (fun _ => ?_))
    | apply TC.region_draw (by kernel_rfl) (by kernel_rfl) | refine TW.nil ?_ | ((with_reducible apply TW.pure); (· exact yA); (· rfl)))
          refine TQ.round (i + 1, g', L4) ?_ ?_ rfl subA (midSel _ _ _)
          · exact ⟨by omega, .inr (by omega), hgi.trans hg', hm4⟩
          · show l.length - (i + 1) < l.length - i
            omega
        | false =>
          refine TY.fin rfl ?_
          repeat' (first
    | refine wkQ ?_
    | refine wkV ?_
    | refine stS ?_ | (refine stB ?_; intro _) | (refine stC ?_; refine And.intro (fun _ => ?_) (fun _ => ?_))
    | apply TC.region_draw (by kernel_rfl) (by kernel_rfl) | refine TW.nil ?_ | ((with_reducible apply TW.pure); (· exact yA); (· rfl)))
          refine TQ.endR0 (L' := L4 ++ M) Tryz.results118 rfl (hgi.trans hg') ?_ (midSel _ _ _)
          exact ⟨_, L4, rfl, rfl, .inr hm4⟩
    · have bk : decide (k = 1) = false := decide_eq_false hkk
      rw [if_neg hkk] at hN
      repeat' (first
    | refine wkQ ?_
    | (refine TC.region_tailY 10 (by kernel_rfl) (by kernel_rfl) (by rfl) ?_; simp only [List.take_succ_cons, List.take_zero, List.drop_succ_cons, List.drop_zero])
    | ((with_reducible apply TL.pure (d := 18) (v := .bool false)); (· exact Y.eql_b bk rfl rfl); (· rfl)) | ((with_reducible apply TW.pure (d := 18) (v := .bool false)); (· exact Y.eql_b bk rfl rfl); (· rfl))
    | ((with_reducible apply TL.pure (d := 31) (v := .int .i64 (k2 : Nat))); (· exact Y.rem rfl rfl hl0 HK.out); (· rfl)) | ((with_reducible apply TW.pure (d := 31) (v := .int .i64 (k2 : Nat))); (· exact Y.rem rfl rfl hl0 HK.out); (· rfl))
    | ((with_reducible apply TL.pure (d := 34) (v := edV (p, q))); (· exact Y.build_pp rfl rfl); (· rfl)) | ((with_reducible apply TW.pure (d := 34) (v := edV (p, q))); (· exact Y.build_pp rfl rfl); (· rfl))
    | refine wkV ?_
    | refine stS ?_ | (refine stB ?_; intro _) | (refine stC ?_; refine And.intro (fun _ => ?_) (fun _ => ?_))
    | apply TC.region_draw (by kernel_rfl) (by kernel_rfl) | refine TW.nil ?_ | ((with_reducible apply TW.pure); (· exact yA); (· rfl)))
      refine TQ.then_Y (TY.call rfl rfl rfl ((hYi _ (by omega)).perm (midPerm _ _ _)) ?_)
      rintro bb g' L' hg' ⟨L4, rfl, hm4⟩
      cases bb with
      | true =>
        refine TY.fin rfl ?_
        repeat' (first
    | refine wkQ ?_
    | refine wkV ?_
    | refine stS ?_ | (refine stB ?_; intro _) | (refine stC ?_; refine And.intro (fun _ => ?_) (fun _ => ?_))
    | apply TC.region_draw (by kernel_rfl) (by kernel_rfl) | refine TW.nil ?_ | ((with_reducible apply TW.pure); (· exact yA); (· rfl)))
        refine TQ.round (i + 1, g', L4) ?_ ?_ rfl subA (midSel _ _ _)
        · exact ⟨by omega, .inr (by omega), hgi.trans hg', hm4⟩
        · show l.length - (i + 1) < l.length - i
          omega
      | false =>
        refine TY.fin rfl ?_
        repeat' (first
    | refine wkQ ?_
    | refine wkV ?_
    | refine stS ?_ | (refine stB ?_; intro _) | (refine stC ?_; refine And.intro (fun _ => ?_) (fun _ => ?_))
    | apply TC.region_draw (by kernel_rfl) (by kernel_rfl) | refine TW.nil ?_ | ((with_reducible apply TW.pure); (· exact yA); (· rfl)))
        refine TQ.endR0 (L' := L4 ++ M) Tryz.results118 rfl (hgi.trans hg') ?_ (midSel _ _ _)
        exact ⟨_, L4, rfl, rfl, .inr hm4⟩
  · obtain rfl : i = l.length := by omega
    have hiN2 : l.length = N := by split at hN <;> omega
    clear hS1 hY1
    repeat' (first
    | refine wkQ ?_
    | refine wkV ?_
    | refine stS ?_ | (refine stB ?_; intro _) | (refine stC ?_; refine And.intro (fun _ => ?_) (fun _ => ?_))
    | apply TC.region_draw (by kernel_rfl) (by kernel_rfl) | refine TW.nil ?_ | ((with_reducible apply TW.pure); (· exact yA); (· rfl)))
    refine TQ.end_normal (TQ.endR0 (L' := Li ++ M) Tryz.results118 rfl hgi ?_ .refl)
    exact ⟨_, Li, rfl, rfl, .inl (hiN2 ▸ hI)⟩
end Go.Proofs.YtfanccddokckcaaGreatDoor
namespace Go.TL
open Go Go.RowKit
section
variable {P : Program} {r : Option Nat} {ops : Array Oper} {Q : Exit → Act → World → Prop} {l : List Oper} {e : Exit} {n : Nat} {ds : List Deferred} {S : Slots} {g : Gh} {L L' : List Ent}
theorem TQ.permL (h : TQ Q e n ds S g L') (hL : L'.Perm L) : TQ Q e n ds S g L := .mk fun a w hf hs => h.h a w hf (hs.perm hL)
theorem TY.perm (h : TY P r ops Q l n ds S g L') (hL : L'.Perm L) : TY P r ops Q l n ds S g L := .mk fun a w hf hs => h.h a w hf (hs.perm hL)
end
theorem mid3 (a b c : Ent) (A M : List Ent) : (A ++ (a :: b :: c :: M)).Perm (a :: b :: c :: (A ++ M)) :=
  List.perm_middle.trans ((List.perm_middle.trans (List.perm_middle.cons b)).cons a)
end Go.TL
namespace Go.Proofs.YtfanccddokckcaaGreatDoor
open Go.RowKit Go.TL
set_option maxRecDepth 100000

abbrev shV (k : Int) (v : Value) : Value := .agg #[.int .i64 k, v]
theorem sedges_does (k : Int) (l : List Pt) (pv v : Value) (g : Gh) (L : List Ent) (_hp : pv.one = true) (hS : Sl g v l.length 2 (flatP l)) (hl : l.length ≤ 1000000) : Does Tryz.prog 94 #[shV k pv, v] g L (fun e g' L' => ∃ lb, e = .returned (.func (.func 118) #[] lb) ∧ L' = L ∧ Iter Tryz.prog 118 lb (partI k l) g') := by
  refine Does.of2 Tryz.func94 rfl Tryz.ntmps94 rfl ?_
  obtain ⟨ao, cap, rfl⟩ := hS.slice
  repeat' (first
    | refine wkQ ?_
    | ((with_reducible apply TL.box_keep (d := 2)); (· rfl); (· first | exact cells_one rfl | rfl); (· rfl); (· exact Nat.le_of_ble_eq_true rfl); intro b2 g1 h1 hc)
    | ((with_reducible apply TL.box_keep (d := 3)); (· rfl); (· first | exact cells_one rfl | rfl); (· rfl); (· exact Nat.le_of_ble_eq_true rfl); intro b3 g2 h2 hd)
    | ((with_reducible apply TL.pure (d := 5) (v := .func (.func 118) #[] [Value.pointer (some ⟨_, 0, none⟩), Value.pointer (some ⟨_, 0, none⟩)].toArray)); (· exact Y.make_func rfl); (· rfl)) | ((with_reducible apply TW.pure (d := 5) (v := .func (.func 118) #[] [Value.pointer (some ⟨_, 0, none⟩), Value.pointer (some ⟨_, 0, none⟩)].toArray)); (· exact Y.make_func rfl); (· rfl))
    | refine wkV ?_
    | refine stS ?_ | (refine stB ?_; intro _) | (refine stC ?_; refine And.intro (fun _ => ?_) (fun _ => ?_)))
  refine TQ.endR1 (L' := L) Tryz.results94 rvA rfl (h1.trans h2) ?_ selF
  exact ⟨_, rfl, rfl, sedges_iter k l _ g2 b3 b2 (hS.le (h1.trans h2)) (hd 0 _ rfl) (h2.cell (hc 0 _ rfl)) hl⟩
def allE (k : Int) (ps : List (List Pt)) : List (Pt × Pt) := ps.flatMap (partE k)
abbrev allI (k : Int) (ps : List (List Pt)) : List (Array Value) := (allE k ps).map fun e => #[edV e]
theorem allE_get {k : Int} {ps : List (List Pt)} {j i : Nat} {p : List Pt} {e : Pt × Pt} (hj : ps[j]? = some p) (hi : (partE k p)[i]? = some e) : (allE k ps)[(allE k (ps.take j)).length + i]? = some e := by
  have h1 : ps = ps.take j ++ p :: ps.drop (j + 1) := by
    conv => lhs; rw [← List.take_append_drop j ps, drop_of_get hj]
  have h2 : allE k ps = allE k (ps.take j) ++ (partE k p ++ allE k (ps.drop (j + 1))) := by
    conv => lhs; rw [h1]
    simp [allE]
  rw [h2, List.getElem?_append_right (by omega), Nat.add_sub_cancel_left, List.getElem?_append_left (List.getElem?_eq_some_iff.1 hi).1]
  exact hi
theorem allE_next {k : Int} {ps : List (List Pt)} {j : Nat} {p : List Pt} (hj : ps[j]? = some p) : (allE k (ps.take (j + 1))).length = (allE k (ps.take j)).length + (partE k p).length := by
  rw [take_of_get hj]
  simp [allE]
set_option maxHeartbeats 16000000 in
theorem sall_iter (k : Int) (ps : List (List Pt)) (v : Value) (g : Gh) (b : Nat) (hS : IsParts g v ps) (hb0 : g.cell b 0 = some (.int .i64 k)) (hb1 : g.cell b 1 = some v) (_hl : ps.length ≤ 1000000) (hl2 : ∀ p ∈ ps, p.length ≤ 1000000) : Iter Tryz.prog 93 #[.pointer (some ⟨b, 0, none⟩)] (allI k ps) g := by
  refine ⟨fun r I X hM hX hY g1 L1 M hg h0 => ?_⟩
  show Does _ _ #[.func (.yield r) #[] #[], .pointer (some ⟨b, 0, none⟩)] _ _ _
  unfold allI
  rw [List.length_map]
  refine Does.ofM2 Tryz.func93 rfl Tryz.ntmps93 rfl ?_
  obtain ⟨fl, hSl, hpt⟩ := hS
  obtain ⟨ao, cap, rfl⟩ := hSl.slice
  have hS1 := hSl.le hg
  have hc0 : g1.cell b 0 = some (.int .i64 k) := hg.cell hb0
  have hc1 : g1.cell b 1 = some (.slice ao ps.length cap) := hg.cell hb1
  have hY1 : ∀ j i p x g2 L2 M2, ps[j]? = some p → (partE k p)[i]? = some x → g1.le g2 → I ((allE k (ps.take j)).length + i) g2 L2 → Yld Tryz.prog r #[edV x] g2 (L2 ++ M2) fun b g3 L3 => ∃ L4, L3 = L4 ++ M2 ∧ (match b with
      | true => I ((allE k (ps.take j)).length + i + 1) g3 L4
      | false => X g3 L4) := fun j i p x g2 L2 M2 hj hx hg2 hI => hY _ _ g2 L2 M2 (by rw [List.getElem?_map, allE_get hj hx]; rfl) (hg.trans hg2) hI
  clear hY hb0 hb1 hSl
  repeat' (first
    | refine wkQ ?_
    | refine wkV ?_
    | refine stS ?_ | (refine stB ?_; intro _) | (refine stC ?_; refine And.intro (fun _ => ?_) (fun _ => ?_)))
  rename_i b2
  obtain ⟨fv, hfv⟩ : ∃ fv : Value, fv = .func (.yield r) #[] #[] := ⟨_, rfl⟩
  obtain ⟨T, hT⟩ : ∃ T, T = (allE k ps).length := ⟨_, rfl⟩
  rw [← hT]
  refine TC.loopD (α := Nat × Gh × List Ent × List Nat) (fun z => z.1 ≤ ps.length ∧ g1.le z.2.1 ∧ I (allE k (ps.take z.1)).length z.2.1 z.2.2.1) (fun z => ps.length - z.1) (fun z => marks z.2.2.2) (fun z => [(9, .int .i64 (z.1 : Nat)), (8, .int .i64 (ps.length : Nat)), (7, .slice ao ps.length cap), (2, .pointer (some ⟨b2, 0, none⟩)), (1, .pointer (some ⟨b, 0, none⟩))]) (fun z => z.2.1) (fun z => .obj b2 (.cells [.func (.yield r) #[] #[]].toArray 127 (0, 0)) :: (z.2.2.1 ++ (markE z.2.2.2 ++ M))) (0, g1, L1, []) ⟨Nat.zero_le _, .refl _, h0⟩ rfl rfl subA .refl ?_
  rintro ⟨j, gj, Lj, Ds⟩ ⟨hj, hgj, hI⟩
  dsimp only at hj hgj hI ⊢
  by_cases hlt : j < ps.length
  · obtain ⟨p, hp⟩ : ∃ p, ps[j]? = some p := ⟨_, List.getElem?_eq_getElem hlt⟩
    obtain ⟨u, hu, hSu⟩ := hpt j p hp
    obtain ⟨b1, o1, rfl, hg1⟩ := hS1.elem hlt (by decide)
    have hld : gj.cell b1 (o1 + j * 1) = some u := hgj.cell (hg1 0 _ (by rw [Nat.mul_one]; exact hu))
    have hSj := hSu.le (hg.trans hgj)
    have hc0j := hgj.cell hc0
    have hc1j := hgj.cell hc1
    have hlb : ∀ i w, [Value.int .i64 k, .slice (some ⟨b1, o1, none⟩) ps.length cap][i]? = some w → gj.cell b (0 + i) = some w := fun i w hw => by
      match i, hw with
      | 0, hw => simp at hw; subst hw; exact hc0j
      | 1, hw => simp at hw; subst hw; exact hc1j
      | i + 2, hw => simp at hw
    have hll : [Value.int .i64 k, .slice (some ⟨b1, o1, none⟩) ps.length cap].length = 2 := rfl
    have ED := fun L => sedges_does k p (.slice (some ⟨b1, o1, none⟩) ps.length cap) u gj L rfl hSj (hl2 p (List.mem_of_getElem? hp))
    obtain ⟨au, cu, rfl⟩ := hSu.slice
    have hYp := fun i x g2 L2 M2 h1 h2 h3 => hY1 j i p x g2 L2 M2 hp h1 (hgj.trans h2) h3
    have hnx := allE_next (k := k) hp
    generalize (allE k (ps.take j)).length = N at *
    clear hS1 hY1 hpt hSu hSj hg1
    repeat' (first
    | refine wkQ ?_
    | refine wkV ?_
    | (refine TL.call (Enters.plain (by kernel_rfl) (by rfl)) (by rfl) (ED _) ?_; (rintro e g2 Ln hg2 ⟨lb, k1, k2, it⟩; have k2 := k2.symm; subst k1; subst k2; refine CallK.ret ?_))
    | refine stS ?_ | (refine stB ?_; intro _) | (refine stC ?_; refine And.intro (fun _ => ?_) (fun _ => ?_)))
    refine TC.rangeF (ps := #[16]) (xs := partI k p) rfl (by kernel_rfl) it (by intro x hx; obtain ⟨e, _, rfl⟩ := List.mem_map.1 hx; rfl) (by rfl)
      (fun i (z : Gh × List Ent) => g2.le z.1 ∧ I (N + i) z.1 z.2) (fun z => z.1) (fun z => .obj b2 (.cells [.func (.yield r) #[] #[]].toArray 127 (0, 0)) :: z.2)
      (fun c (z : Gh × List Ent) => c = .ret ∧ g2.le z.1 ∧ X z.1 z.2) (fun z => z.1) (fun z => .obj b2 (.cells [.func (.yield r) #[] #[]].toArray 127 (0, 0)) :: z.2)
      (markE Ds ++ M) (g2, Lj) ⟨.refl _, hM _ _ _ _ hI hg2⟩ (.refl _) .refl ?_ ?_ ?_
    · rintro r2 rc i x ⟨gz, Lz⟩ M2 gx hrc hx ⟨hz, hIz⟩ hgx hg2x
      obtain ⟨e, he, rfl⟩ : ∃ e, (partE k p)[i]? = some e ∧ #[edV e] = x := by
        rw [List.getElem?_map] at hx
        cases h : (partE k p)[i]? with
        | none => rw [h] at hx; cases hx
        | some e => rw [h] at hx; exact ⟨e, rfl, Option.some.inj hx⟩
      have hYe := fun M3 => hYp i e gx Lz M3 he (hg2.trans hg2x) (hM _ _ _ _ hIz hgx)
      clear hYp it hI hx he
      dsimp only [List.cons_append]
      refine TR.weak (S' := [(16, edV e), (2, .pointer (some ⟨b2, 0, none⟩))]) ?_ subA .refl
      repeat' (first
    | refine wkQ ?_
    | refine wkV ?_
    | refine wkP ?_
    | refine TR.seq ?_ | refine TR.region (by rfl) ?_ | refine TL.nil ?_ | refine TQ.then_R ?_
    | ((with_reducible apply TL.storeE); (· rfl); (· rfl); (· rfl); (· exact pkA); (· infer_instance)) | ((with_reducible apply TL.store_whole); (· rfl); (· rfl); (· exact oneA); (· rfl); (· exact pkA); (· rfl))
    | refine TR.block ?_ | refine TR.ret ?_ | refine TR.skip ?_ | refine TR.exit ?_ | refine TR.cond rfl ?_
    | refine TQ.down ?_ | refine TQ.in_exit' rfl ?_
    | refine TL.guard_yes rfl rfl ?_ | refine TL.guard_no rfl rfl rfl rfl ?_ | refine TL.guard_no0 rfl rfl rfl ?_ | refine TL.guard_undef rfl rfl rfl ?_ | refine TL.guard_undef0 rfl rfl ?_ | refine TL.guard rfl rfl rfl ?_
    | refine Br.t rfl ?_ | refine Br.f rfl ?_ | refine Br.ky kpA ?_ | refine Br.kn kpA ?_ | refine Br.nky kpA ?_ | refine Br.nkn kpA ?_
    | refine Br.eq0 (fun _ => ?_) (fun _ => ?_) | refine Br.neq0 (fun _ => ?_) (fun _ => ?_) | refine Br.eq (fun _ => ?_) (fun _ => ?_) | refine Br.neq (fun _ => ?_) (fun _ => ?_) | refine Br.not (fun _ => ?_) (fun _ => ?_) | refine Br.dec (fun _ => ?_) (fun _ => ?_) | refine Br.bool (fun _ => ?_) (fun _ => ?_)
    | ((with_reducible apply TL.alloc_ag); (· rfl); intro _) | ((with_reducible apply TL.alloc_sc); (· rfl); (· rfl); intro _) | ((with_reducible apply TL.box_ag); (· rfl); (· rfl); intro _) | ((with_reducible apply TL.box_sc); (· rfl); (· rfl); (· rfl); intro _))
      refine TQ.begin hrc pkA ?_
      refine TR.block (TR.seq (TR.region_Y (TY.pre 2 rfl ?_)))
      simp only [List.take_succ_cons, List.take_zero, List.drop_succ_cons, List.drop_zero]
      repeat' (first
    | refine wkQ ?_
    | refine wkV ?_
    | refine wkP ?_
    | refine TR.seq ?_ | refine TR.region (by rfl) ?_ | refine TL.nil ?_ | refine TQ.then_R ?_
    | ((with_reducible apply TL.storeE); (· rfl); (· rfl); (· rfl); (· exact pkA); (· infer_instance)) | ((with_reducible apply TL.store_whole); (· rfl); (· rfl); (· exact oneA); (· rfl); (· exact pkA); (· rfl))
    | refine TR.block ?_ | refine TR.ret ?_ | refine TR.skip ?_ | refine TR.exit ?_ | refine TR.cond rfl ?_
    | refine TQ.down ?_ | refine TQ.in_exit' rfl ?_
    | refine TL.guard_yes rfl rfl ?_ | refine TL.guard_no rfl rfl rfl rfl ?_ | refine TL.guard_no0 rfl rfl rfl ?_ | refine TL.guard_undef rfl rfl rfl ?_ | refine TL.guard_undef0 rfl rfl ?_ | refine TL.guard rfl rfl rfl ?_
    | refine Br.t rfl ?_ | refine Br.f rfl ?_ | refine Br.ky kpA ?_ | refine Br.kn kpA ?_ | refine Br.nky kpA ?_ | refine Br.nkn kpA ?_
    | refine Br.eq0 (fun _ => ?_) (fun _ => ?_) | refine Br.neq0 (fun _ => ?_) (fun _ => ?_) | refine Br.eq (fun _ => ?_) (fun _ => ?_) | refine Br.neq (fun _ => ?_) (fun _ => ?_) | refine Br.not (fun _ => ?_) (fun _ => ?_) | refine Br.dec (fun _ => ?_) (fun _ => ?_) | refine Br.bool (fun _ => ?_) (fun _ => ?_)
    | ((with_reducible apply TL.alloc_ag); (· rfl); intro _) | ((with_reducible apply TL.alloc_sc); (· rfl); (· rfl); intro _) | ((with_reducible apply TL.box_ag); (· rfl); (· rfl); intro _) | ((with_reducible apply TL.box_sc); (· rfl); (· rfl); (· rfl); intro _))
      refine TQ.then_Y (TY.call rfl rfl rfl ((hYe _).perm (mid3 _ _ _ _ _)) ?_)
      rintro bb g' L' hg' ⟨L4, rfl, hm4⟩
      refine TY.perm ?_ (mid3 _ _ _ _ _).symm
      cases bb with
      | true =>
        refine TY.fin rfl ?_
        repeat' (first
    | refine wkQ ?_
    | refine wkV ?_
    | refine wkP ?_
    | refine TR.seq ?_ | refine TR.region (by rfl) ?_ | refine TL.nil ?_ | refine TQ.then_R ?_
    | ((with_reducible apply TL.storeE); (· rfl); (· rfl); (· rfl); (· exact pkA); (· infer_instance)) | ((with_reducible apply TL.store_whole); (· rfl); (· rfl); (· exact oneA); (· rfl); (· exact pkA); (· rfl))
    | refine TR.block ?_ | refine TR.ret ?_ | refine TR.skip ?_ | refine TR.exit ?_ | refine TR.cond rfl ?_
    | refine TQ.down ?_ | refine TQ.in_exit' rfl ?_
    | refine TL.guard_yes rfl rfl ?_ | refine TL.guard_no rfl rfl rfl rfl ?_ | refine TL.guard_no0 rfl rfl rfl ?_ | refine TL.guard_undef rfl rfl rfl ?_ | refine TL.guard_undef0 rfl rfl ?_ | refine TL.guard rfl rfl rfl ?_
    | refine Br.t rfl ?_ | refine Br.f rfl ?_ | refine Br.ky kpA ?_ | refine Br.kn kpA ?_ | refine Br.nky kpA ?_ | refine Br.nkn kpA ?_
    | refine Br.eq0 (fun _ => ?_) (fun _ => ?_) | refine Br.neq0 (fun _ => ?_) (fun _ => ?_) | refine Br.eq (fun _ => ?_) (fun _ => ?_) | refine Br.neq (fun _ => ?_) (fun _ => ?_) | refine Br.not (fun _ => ?_) (fun _ => ?_) | refine Br.dec (fun _ => ?_) (fun _ => ?_) | refine Br.bool (fun _ => ?_) (fun _ => ?_)
    | ((with_reducible apply TL.alloc_ag); (· rfl); intro _) | ((with_reducible apply TL.alloc_sc); (· rfl); (· rfl); intro _) | ((with_reducible apply TL.box_ag); (· rfl); (· rfl); intro _) | ((with_reducible apply TL.box_sc); (· rfl); (· rfl); (· rfl); intro _))
        refine TQ.goes (g', L4) ⟨hg2x.trans hg', hm4⟩ (.refl _) hg' hrc pkA ?_
        exact .drop .refl
      | false =>
        refine TY.fin rfl ?_
        repeat' (first
    | refine wkQ ?_
    | refine wkV ?_
    | refine wkP ?_
    | refine TR.seq ?_ | refine TR.region (by rfl) ?_ | refine TL.nil ?_ | refine TQ.then_R ?_
    | ((with_reducible apply TL.storeE); (· rfl); (· rfl); (· rfl); (· exact pkA); (· infer_instance)) | ((with_reducible apply TL.store_whole); (· rfl); (· rfl); (· exact oneA); (· rfl); (· exact pkA); (· rfl))
    | refine TR.block ?_ | refine TR.ret ?_ | refine TR.skip ?_ | refine TR.exit ?_ | refine TR.cond rfl ?_
    | refine TQ.down ?_ | refine TQ.in_exit' rfl ?_
    | refine TL.guard_yes rfl rfl ?_ | refine TL.guard_no rfl rfl rfl rfl ?_ | refine TL.guard_no0 rfl rfl rfl ?_ | refine TL.guard_undef rfl rfl rfl ?_ | refine TL.guard_undef0 rfl rfl ?_ | refine TL.guard rfl rfl rfl ?_
    | refine Br.t rfl ?_ | refine Br.f rfl ?_ | refine Br.ky kpA ?_ | refine Br.kn kpA ?_ | refine Br.nky kpA ?_ | refine Br.nkn kpA ?_
    | refine Br.eq0 (fun _ => ?_) (fun _ => ?_) | refine Br.neq0 (fun _ => ?_) (fun _ => ?_) | refine Br.eq (fun _ => ?_) (fun _ => ?_) | refine Br.neq (fun _ => ?_) (fun _ => ?_) | refine Br.not (fun _ => ?_) (fun _ => ?_) | refine Br.dec (fun _ => ?_) (fun _ => ?_) | refine Br.bool (fun _ => ?_) (fun _ => ?_)
    | ((with_reducible apply TL.alloc_ag); (· rfl); intro _) | ((with_reducible apply TL.alloc_sc); (· rfl); (· rfl); intro _) | ((with_reducible apply TL.box_ag); (· rfl); (· rfl); intro _) | ((with_reducible apply TL.box_sc); (· rfl); (· rfl); (· rfl); intro _))
        refine TQ.leaves_ret (g', L4) ⟨rfl, hg2x.trans hg', hm4⟩ (.refl _) hg' hrc pkA ?_
        exact .drop .refl
    · rintro D ⟨gz, Lz⟩ gx ⟨hz, hIz⟩ hgx hg2x
      rw [List.length_map] at hIz
      dsimp only [List.cons_append]
      repeat' (first
    | refine wkQ ?_
    | refine wkV ?_
    | refine stS ?_ | (refine stB ?_; intro _) | (refine stC ?_; refine And.intro (fun _ => ?_) (fun _ => ?_)))
      refine TQ.permL (L' := .obj b2 (.cells [.func (.yield r) #[] #[]].toArray 127 (0, 0)) :: (Lz ++ (markE (D :: Ds) ++ M))) ?_ ((List.Perm.cons _ List.perm_middle).trans (.swap ..))
      refine TQ.roundD (j + 1, gx, Lz, D :: Ds) ⟨by omega, hgj.trans (hg2.trans hg2x), ?_⟩ (show ps.length - (j + 1) < ps.length - j by omega) rfl rfl subA .refl
      show I (allE k (ps.take (j + 1))).length gx Lz
      rw [hnx]
      exact hM _ _ _ _ hIz hgx
    · rintro D c ⟨gz, Lz⟩ gx ⟨rfl, hz, hX1⟩ hgx hg2x
      dsimp only [List.cons_append]
      repeat' (first
    | refine wkQ ?_
    | refine wkV ?_
    | refine stS ?_ | (refine stB ?_; intro _) | (refine stC ?_; refine And.intro (fun _ => ?_) (fun _ => ?_)))
      refine TQ.permL (L' := markE (D :: Ds) ++ (.obj b2 (.cells [.func (.yield r) #[] #[]].toArray 127 (0, 0)) :: (Lz ++ M))) ?_ (List.Perm.cons _ (List.perm_middle.trans (List.Perm.cons _ (List.perm_append_comm_assoc _ _ _))))
      refine TQ.endM (D :: Ds) rfl .refl ?_
      refine TQ.endR0 (L' := Lz ++ M) Tryz.results93 rfl (hgj.trans (hg2.trans hg2x)) ?_ (.drop .refl)
      exact ⟨_, Lz, rfl, rfl, .inr (hX _ _ _ hX1 hgx)⟩
  · obtain rfl : j = ps.length := by omega
    repeat' (first
    | refine wkQ ?_
    | refine wkV ?_
    | refine stS ?_ | (refine stB ?_; intro _) | (refine stC ?_; refine And.intro (fun _ => ?_) (fun _ => ?_)))
    refine TQ.endM_normal ?_
    refine TQ.permL (L' := markE Ds ++ (.obj b2 (.cells [.func (.yield r) #[] #[]].toArray 127 (0, 0)) :: (Lj ++ M))) ?_ (List.perm_middle.trans (List.Perm.cons _ (List.perm_append_comm_assoc _ _ _)))
    refine TQ.endM Ds rfl .refl ?_
    refine TQ.endR0 (L' := Lj ++ M) Tryz.results93 rfl hgj ?_ (.drop .refl)
    rw [List.take_length, ← hT] at hI
    exact ⟨_, Lj, rfl, rfl, .inl hI⟩
theorem sall_does (k : Int) (ps : List (List Pt)) (v : Value) (g : Gh) (L : List Ent) (hS : IsParts g v ps) (hl : ps.length ≤ 1000000) (hl2 : ∀ p ∈ ps, p.length ≤ 1000000) : Does Tryz.prog 55 #[shV k v] g L (fun e g' L' => ∃ lb, e = .returned (.func (.func 93) #[] lb) ∧ L' = L ∧ Iter Tryz.prog 93 lb (allI k ps) g') := by
  refine Does.of1 Tryz.func55 rfl Tryz.ntmps55 rfl ?_
  obtain ⟨ao, cap, rfl⟩ : ∃ ao cap, v = .slice ao ps.length cap := by obtain ⟨fl, h, _⟩ := hS; exact h.slice
  repeat' (first
    | refine wkQ ?_
    | ((with_reducible apply TL.box_keep (d := 1)); (· rfl); (· first | exact cells_one rfl | rfl); (· rfl); (· exact Nat.le_of_ble_eq_true rfl); intro b g1 h1 hc)
    | ((with_reducible apply TL.pure (d := 3) (v := .func (.func 93) #[] [Value.pointer (some ⟨_, 0, none⟩)].toArray)); (· exact Y.make_func rfl); (· rfl)) | ((with_reducible apply TW.pure (d := 3) (v := .func (.func 93) #[] [Value.pointer (some ⟨_, 0, none⟩)].toArray)); (· exact Y.make_func rfl); (· rfl))
    | refine wkV ?_
    | refine stS ?_ | (refine stB ?_; intro _) | (refine stC ?_; refine And.intro (fun _ => ?_) (fun _ => ?_)))
  refine TQ.endR1 (L' := L) Tryz.results55 rvA rfl h1 ?_ selF
  exact ⟨_, rfl, rfl, sall_iter k ps _ g1 b (hS.le h1) (hc 0 _ rfl) (hc 1 _ rfl) hl hl2⟩
end Go.Proofs.YtfanccddokckcaaGreatDoor
