/-
  Shapes; the edges of a part, one by one.
-/
import Derived.Test.YtklmfbildebimaaGreatDoorSr2
import Derived.Test.YtklmfbildebimaaGreatDoorSr13
namespace Go.Proofs.YtklmfbildebimaaGreatDoor
open Go.RowKit Go.TL
set_option maxRecDepth 100000

def IsParts (g : Gh) (v : Value) (ps : List (List Pt)) : Prop := ∃ fl : List Value, Sl g v ps.length 1 fl ∧ ∀ (i : Nat) (p : List Pt), ps[i]? = some p → ∃ u, fl[i]? = some u ∧ Sl g u p.length 2 (flatP p)
theorem IsParts.le {g g' : Gh} {v : Value} {ps : List (List Pt)} (h : IsParts g v ps) (hg : g.le g') : IsParts g' v ps := by
  obtain ⟨fl, h1, h2⟩ := h
  exact ⟨fl, h1.le hg, fun i p hp => by obtain ⟨u, h3, h4⟩ := h2 i p hp; exact ⟨u, h3, h4.le hg⟩⟩
abbrev edV (e : Pt × Pt) : Value := .agg #[.int .i64 e.1.1, .int .i64 e.1.2, .int .i64 e.2.1, .int .i64 e.2.2]
def partE (k : Int) (l : List Pt) : List (Pt × Pt) := if k = 1 then (ringE l).take (l.length - 1) else ringE l
theorem partE_len (k : Int) (l : List Pt) : (partE k l).length = if k = 1 then l.length - 1 else l.length := by
  unfold partE
  split
  · rw [List.length_take, ringE_len]; omega
  · exact ringE_len l
abbrev partI (k : Int) (l : List Pt) : List (Array Value) := (partE k l).map fun e => #[edV e]
set_option maxHeartbeats 16000000 in
theorem sedges_iter (k : Int) (l : List Pt) (v : Value) (g : Gh) (b b2 : Nat) (hS : Sl g v l.length 2 (flatP l)) (hb : g.cell b 0 = some v) (hk : g.cell b2 0 = some (.int .i64 k)) (_hl : l.length ≤ 1000000) : Iter Tryz.prog 93 #[.pointer (some ⟨b, 0, none⟩), .pointer (some ⟨b2, 0, none⟩)] (partI k l) g := by
  refine ⟨fun r I X hM hX hY g1 L1 M hg h0 => ?_⟩
  show Does _ _ #[.func (.yield r) #[] #[], .pointer (some ⟨b, 0, none⟩), .pointer (some ⟨b2, 0, none⟩)] _ _ _
  unfold partI
  rw [List.length_map, partE_len]
  obtain ⟨N, hN⟩ : ∃ N, N = if k = 1 then l.length - 1 else l.length := ⟨_, rfl⟩
  rw [← hN]
  refine Does.of3 Tryz.func93 rfl Tryz.ntmps93 rfl ?_
  haveI NE : NL (Go.TL.End Tryz.prog Tryz.f93 (fun e g2 L2 => ∃ v L3, e = .returned v ∧ L2 = L3 ++ M ∧ (I N g2 L3 ∨ X g2 L3)) g1) := ⟨by rintro ⟨a, w, g', L', _, ⟨v, L3, h, _⟩, _⟩; cases h⟩
  obtain ⟨ao, cap, rfl⟩ := hS.slice
  have hS1 := hS.le hg
  have hb1 : g1.cell b 0 = some (.slice ao l.length cap) := hg.cell hb
  have hk1 : g1.cell b2 0 = some (.int .i64 k) := hg.cell hk
  have hY1 : ∀ i x y g2 L2 M2, i < N → l[i]? = some x → l[(i + 1) % l.length]? = some y → g1.le g2 → I i g2 L2 → Yld Tryz.prog r #[edV (x, y)] g2 (L2 ++ M2) fun b g3 L3 => ∃ L4, L3 = L4 ++ M2 ∧ (match b with
      | true => I (i + 1) g3 L4
      | false => X g3 L4) := fun i x y g2 L2 M2 hi hx hy hg2 hI => hY i _ g2 L2 M2 (by
        have h := ringE_get hx hy
        rw [List.getElem?_map, partE]
        split
        · rename_i hk1; rw [if_pos hk1] at hN; rw [List.getElem?_take, if_pos (by omega), h]; rfl
        · rw [h]; rfl) (hg.trans hg2) hI
  clear hb hS hY hk
  repeat' (first
    | refine wkQ ?_
    | refine wkV ?_
    | refine stS ?_ | (refine stB ?_; intro _) | (refine stC ?_; refine And.intro (fun _ => ?_) (fun _ => ?_)))
  refine TC.loop (α := Nat × Gh × List Ent) (fun z => z.1 ≤ l.length ∧ (l.length = 0 ∨ z.1 ≤ N) ∧ g1.le z.2.1 ∧ I z.1 z.2.1 z.2.2) (fun z => l.length - z.1) (fun z => [(11, .int .i64 (z.1 : Nat)), (10, .int .i64 (l.length : Nat)), (4, .int .i64 (l.length : Nat)), (9, .slice ao l.length cap), (0, .func (.yield r) #[] #[]), (1, .pointer (some ⟨b, 0, none⟩)), (2, .pointer (some ⟨b2, 0, none⟩))]) (fun z => z.2.1) (fun z => z.2.2 ++ M) (0, g1, L1) ⟨Nat.zero_le _, .inr (Nat.zero_le _), .refl _, h0⟩ rfl subA selF ?_
  rintro ⟨i, gi, Li⟩ ⟨hi, hiN, hgi, hI⟩
  dsimp only at hi hiN hgi hI ⊢
  by_cases hlt : i < l.length
  · obtain ⟨p, hp⟩ : ∃ p, l[i]? = some p := ⟨_, List.getElem?_eq_getElem hlt⟩
    have hm : (i + 1) % l.length < l.length := Nat.mod_lt _ (by omega)
    obtain ⟨q, hq⟩ : ∃ q, l[(i + 1) % l.length]? = some q := ⟨_, List.getElem?_eq_getElem hm⟩
    have hYi := fun M2 h => hY1 i p q gi Li M2 h hp hq hgi hI
    have hSi := hS1.le hgi
    have hbi := hgi.cell hb1
    have hki := hgi.cell hk1
    obtain ⟨b1, o1, rfl, hg1⟩ := hSi.elem hlt (by decide)
    obtain ⟨b3, o2, he2, hg2⟩ := hSi.elem hm (by decide)
    obtain ⟨rfl, rfl⟩ : b1 = b3 ∧ o1 = o2 := by simpa using he2
    have hld : ∀ j u, [Value.int .i64 p.1, .int .i64 p.2][j]? = some u → gi.cell b1 (o1 + i * 2 + j) = some u := fun j u hu => by
      match j, hu with
      | 0, hu => simp at hu; subst hu; exact hg1 0 _ (flatP_get hp).1
      | 1, hu => simp at hu; subst hu; exact hg1 1 _ (flatP_get hp).2
      | j + 2, hu => simp at hu
    obtain ⟨k2, hk2⟩ : ∃ k, k = (i + 1) % l.length := ⟨_, rfl⟩
    rw [← hk2] at hg2 hm hq
    have hld2 : ∀ j u, [Value.int .i64 q.1, .int .i64 q.2][j]? = some u → gi.cell b1 (o1 + k2 * 2 + j) = some u := fun j u hu => by
      match j, hu with
      | 0, hu => simp at hu; subst hu; exact hg2 0 _ (flatP_get hq).1
      | 1, hu => simp at hu; subst hu; exact hg2 1 _ (flatP_get hq).2
      | j + 2, hu => simp at hu
    have hll : [Value.int .i64 p.1, .int .i64 p.2].length = 2 := rfl
    have hll2 : [Value.int .i64 q.1, .int .i64 q.2].length = 2 := rfl
    have HK := Hn.mk (show ((i : Nat) + 1 : Int).tmod (l.length : Nat) = (k2 : Nat) by rw [hk2]; exact (Int.ofNat_tmod (i + 1) l.length).symm)
    have hl0 : ¬ ((l.length : Nat) : Int) = 0 := by omega
    have HS := Hn.mk (show IntKind.i64.wrap (((l.length : Nat) : Int) - 1) = ((l.length - 1 : Nat) : Int) by rw [IntWalk.i64_in _ (by omega)]; omega)
    clear hSi hg1 hg2 he2 hY1 hS1 hp hq hk2
    by_cases hkk : k = 1
    · have bk : decide (k = 1) = true := decide_eq_true hkk
      rw [if_pos hkk] at hN
      by_cases hlast : i = l.length - 1
      · have bl : decide (((i : Nat) : Int) = (l.length - 1 : Nat)) = true := decide_eq_true (by omega)
        repeat' (first
    | refine wkQ ?_
    | (refine TC.region_tailY 10 (by kernel_rfl) (by kernel_rfl) (by rfl) ?_; simp only [List.take_succ_cons, List.take_zero, List.drop_succ_cons, List.drop_zero])
    | ((with_reducible apply TL.pure (d := 18) (v := .bool true)); (· exact Y.eql_b bk rfl rfl); (· rfl)) | ((with_reducible apply TW.pure (d := 18) (v := .bool true)); (· exact Y.eql_b bk rfl rfl); (· rfl))
    | ((with_reducible apply TL.pure (d := 22) (v := .int .i64 ((l.length - 1 : Nat) : Int))); (· exact Y.sub rfl rfl HS.out); (· rfl)) | ((with_reducible apply TW.pure (d := 22) (v := .int .i64 ((l.length - 1 : Nat) : Int))); (· exact Y.sub rfl rfl HS.out); (· rfl))
    | ((with_reducible apply TL.pure (d := 23) (v := .bool true)); (· exact Y.eql_b bl rfl rfl); (· rfl)) | ((with_reducible apply TW.pure (d := 23) (v := .bool true)); (· exact Y.eql_b bl rfl rfl); (· rfl))
    | refine wkV ?_
    | refine stS ?_ | (refine stB ?_; intro _) | (refine stC ?_; refine And.intro (fun _ => ?_) (fun _ => ?_))
    | apply TC.region_draw (by kernel_rfl) (by kernel_rfl) | refine TW.nil ?_ | ((with_reducible apply TW.pure); (· exact yA); (· rfl)))
        refine TQ.endR0 (L' := Li ++ M) Tryz.results93 rfl hgi ?_ (.drop .refl)
        exact ⟨_, Li, rfl, rfl, .inl (by rw [hN, ← hlast]; exact hI)⟩
      · have bl : decide (((i : Nat) : Int) = (l.length - 1 : Nat)) = false := decide_eq_false (by omega)
        repeat' (first
    | refine wkQ ?_
    | (refine TC.region_tailY 10 (by kernel_rfl) (by kernel_rfl) (by rfl) ?_; simp only [List.take_succ_cons, List.take_zero, List.drop_succ_cons, List.drop_zero])
    | ((with_reducible apply TL.pure (d := 18) (v := .bool true)); (· exact Y.eql_b bk rfl rfl); (· rfl)) | ((with_reducible apply TW.pure (d := 18) (v := .bool true)); (· exact Y.eql_b bk rfl rfl); (· rfl))
    | ((with_reducible apply TL.pure (d := 22) (v := .int .i64 ((l.length - 1 : Nat) : Int))); (· exact Y.sub rfl rfl HS.out); (· rfl)) | ((with_reducible apply TW.pure (d := 22) (v := .int .i64 ((l.length - 1 : Nat) : Int))); (· exact Y.sub rfl rfl HS.out); (· rfl))
    | ((with_reducible apply TL.pure (d := 23) (v := .bool false)); (· exact Y.eql_b bl rfl rfl); (· rfl)) | ((with_reducible apply TW.pure (d := 23) (v := .bool false)); (· exact Y.eql_b bl rfl rfl); (· rfl))
    | ((with_reducible apply TL.pure (d := 31) (v := .int .i64 (k2 : Nat))); (· exact Y.rem rfl rfl hl0 HK.out); (· rfl)) | ((with_reducible apply TW.pure (d := 31) (v := .int .i64 (k2 : Nat))); (· exact Y.rem rfl rfl hl0 HK.out); (· rfl))
    | ((with_reducible apply TL.pure (d := 34) (v := edV (p, q))); (· exact Y.build_pp rfl rfl); (· rfl)) | ((with_reducible apply TW.pure (d := 34) (v := edV (p, q))); (· exact Y.build_pp rfl rfl); (· rfl))
    | refine wkV ?_
    | refine stS ?_ | (refine stB ?_; intro _) | (refine stC ?_; refine And.intro (fun _ => ?_) (fun _ => ?_))
    | apply TC.region_draw (by kernel_rfl) (by kernel_rfl) | refine TW.nil ?_ | ((with_reducible apply TW.pure); (· exact yA); (· rfl)))
        refine TQ.then_Y (TY.call rfl rfl rfl ((hYi _ (by omega)).perm (midPerm _ _ _)) ?_)
        rintro bb g' L' hg' ⟨L4, rfl, hm4⟩
        cases bb with
        | true =>
          refine TY.fin rfl ?_
          repeat' (first
    | refine wkQ ?_
    | refine wkV ?_
    | refine stS ?_ | (refine stB ?_; intro _) | (refine stC ?_; refine And.intro (fun _ => ?_) (fun _ => ?_))
    | apply TC.region_draw (by kernel_rfl) (by kernel_rfl) | refine TW.nil ?_ | ((with_reducible apply TW.pure); (· exact yA); (· rfl)))
          refine TQ.round (i + 1, g', L4) ?_ ?_ rfl subA (midSel _ _ _)
          · exact ⟨by omega, .inr (by omega), hgi.trans hg', hm4⟩
          · show l.length - (i + 1) < l.length - i
            omega
        | false =>
          refine TY.fin rfl ?_
          repeat' (first
    | refine wkQ ?_
    | refine wkV ?_
    | refine stS ?_ | (refine stB ?_; intro _) | (refine stC ?_; refine And.intro (fun _ => ?_) (fun _ => ?_))
    | apply TC.region_draw (by kernel_rfl) (by kernel_rfl) | refine TW.nil ?_ | ((with_reducible apply TW.pure); (· exact yA); (· rfl)))
          refine TQ.endR0 (L' := L4 ++ M) Tryz.results93 rfl (hgi.trans hg') ?_ (midSel _ _ _)
          exact ⟨_, L4, rfl, rfl, .inr hm4⟩
    · have bk : decide (k = 1) = false := decide_eq_false hkk
      rw [if_neg hkk] at hN
      repeat' (first
    | refine wkQ ?_
    | (refine TC.region_tailY 10 (by kernel_rfl) (by kernel_rfl) (by rfl) ?_; simp only [List.take_succ_cons, List.take_zero, List.drop_succ_cons, List.drop_zero])
    | ((with_reducible apply TL.pure (d := 18) (v := .bool false)); (· exact Y.eql_b bk rfl rfl); (· rfl)) | ((with_reducible apply TW.pure (d := 18) (v := .bool false)); (· exact Y.eql_b bk rfl rfl); (· rfl))
    | ((with_reducible apply TL.pure (d := 31) (v := .int .i64 (k2 : Nat))); (· exact Y.rem rfl rfl hl0 HK.out); (· rfl)) | ((with_reducible apply TW.pure (d := 31) (v := .int .i64 (k2 : Nat))); (· exact Y.rem rfl rfl hl0 HK.out); (· rfl))
    | ((with_reducible apply TL.pure (d := 34) (v := edV (p, q))); (· exact Y.build_pp rfl rfl); (· rfl)) | ((with_reducible apply TW.pure (d := 34) (v := edV (p, q))); (· exact Y.build_pp rfl rfl); (· rfl))
    | refine wkV ?_
    | refine stS ?_ | (refine stB ?_; intro _) | (refine stC ?_; refine And.intro (fun _ => ?_) (fun _ => ?_))
    | apply TC.region_draw (by kernel_rfl) (by kernel_rfl) | refine TW.nil ?_ | ((with_reducible apply TW.pure); (· exact yA); (· rfl)))
      refine TQ.then_Y (TY.call rfl rfl rfl ((hYi _ (by omega)).perm (midPerm _ _ _)) ?_)
      rintro bb g' L' hg' ⟨L4, rfl, hm4⟩
      cases bb with
      | true =>
        refine TY.fin rfl ?_
        repeat' (first
    | refine wkQ ?_
    | refine wkV ?_
    | refine stS ?_ | (refine stB ?_; intro _) | (refine stC ?_; refine And.intro (fun _ => ?_) (fun _ => ?_))
    | apply TC.region_draw (by kernel_rfl) (by kernel_rfl) | refine TW.nil ?_ | ((with_reducible apply TW.pure); (· exact yA); (· rfl)))
        refine TQ.round (i + 1, g', L4) ?_ ?_ rfl subA (midSel _ _ _)
        · exact ⟨by omega, .inr (by omega), hgi.trans hg', hm4⟩
        · show l.length - (i + 1) < l.length - i
          omega
      | false =>
        refine TY.fin rfl ?_
        repeat' (first
    | refine wkQ ?_
    | refine wkV ?_
    | refine stS ?_ | (refine stB ?_; intro _) | (refine stC ?_; refine And.intro (fun _ => ?_) (fun _ => ?_))
    | apply TC.region_draw (by kernel_rfl) (by kernel_rfl) | refine TW.nil ?_ | ((with_reducible apply TW.pure); (· exact yA); (· rfl)))
        refine TQ.endR0 (L' := L4 ++ M) Tryz.results93 rfl (hgi.trans hg') ?_ (midSel _ _ _)
        exact ⟨_, L4, rfl, rfl, .inr hm4⟩
  · obtain rfl : i = l.length := by omega
    have hiN2 : l.length = N := by split at hN <;> omega
    clear hS1 hY1
    repeat' (first
    | refine wkQ ?_
    | refine wkV ?_
    | refine stS ?_ | (refine stB ?_; intro _) | (refine stC ?_; refine And.intro (fun _ => ?_) (fun _ => ?_))
    | apply TC.region_draw (by kernel_rfl) (by kernel_rfl) | refine TW.nil ?_ | ((with_reducible apply TW.pure); (· exact yA); (· rfl)))
    refine TQ.end_normal (TQ.endR0 (L' := Li ++ M) Tryz.results93 rfl hgi ?_ .refl)
    exact ⟨_, Li, rfl, rfl, .inl (hiN2 ▸ hI)⟩
end Go.Proofs.YtklmfbildebimaaGreatDoor
