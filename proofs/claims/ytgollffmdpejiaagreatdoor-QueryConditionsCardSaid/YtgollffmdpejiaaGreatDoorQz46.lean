/-
  The walk of a question, one level within others.
-/
import Derived.Test.YtgollffmdpejiaaGreatDoorQz3
import Derived.Test.YtgollffmdpejiaaGreatDoorQz43
import Derived.Test.YtgollffmdpejiaaGreatDoorQz23
namespace Go.Proofs.YtgollffmdpejiaaGreatDoor
open Go.RowKit Go.TL
set_option maxRecDepth 100000

theorem IsQs.append {g : Gh} : ∀ {l m : List Qn} {f f2 : List Value}, IsQs g l f → IsQs g m f2 → IsQs g (l ++ m) (f ++ f2)
  | [], m, f, f2, h, h2 => by rw [IsQs] at h; subst h; exact h2
  | q :: r, m, f, f2, h, h2 => by
    rw [IsQs] at h
    obtain ⟨v, f3, rfl, h1, h3⟩ := h
    rw [List.cons_append, List.cons_append, IsQs]
    exact ⟨v, f3 ++ f2, rfl, h1, IsQs.append h3 h2⟩
theorem IsQs.ones {g : Gh} : ∀ {l : List Qn} {f : List Value}, IsQs g l f → f.all Value.one = true
  | [], f, h => by rw [IsQs] at h; subst h; rfl
  | q :: r, f, h => by
    rw [IsQs] at h
    obtain ⟨v, f3, rfl, h1, h3⟩ := h
    rw [List.all_cons, IsQ.one h1, IsQs.ones h3]; rfl
theorem quest_zero : QuestOk 0 := fun x v b left g L hX sX h0 hl hT hU hP => by
  refine Does.of3 Tryz.func37 rfl Tryz.ntmps37 rfl ?_
  have NN := fun g L => qneed_no g L
  have ov := hX.one
  rw [rdQ]
  clear hX sX h0 hT hU hP
  have b0 : decide (((32 - 0 : Nat) : Int) < 32) = false := rfl
  repeat' (first
    | refine wkQ ?_
    | (refine wkA 13 (v := .bool false) ?_ ?_; · exact Y.lss_b b0 rfl rfl)
    | refine wkV ?_
    | refine TL.throws (Enters.plain (by kernel_rfl) (by rfl)) (NN _ _) (by rfl) ?_
    | refine stS ?_ | (refine stB ?_; intro _) | (refine stC ?_; constructor <;> intro _)
    | refine wkW ?_)
  refine TQ.end_panic (L' := rdO b (left : Nat) :: L) rfl (.refl _) ?_ selF
  exact .no
set_option maxHeartbeats 128000000 in
theorem quest_succ (d : Nat) (hd : QuestOk d) (h32 : d + 1 ≤ 32) : QuestOk (d + 1) := fun x v b left g L hX sX h0 hl hT hU hP => by
  refine Does.of3 Tryz.func37 rfl Tryz.ntmps37 rfl ?_
  have NY := fun g L => qneed_yes g L
  have NN := fun g L => qneed_no g L
  have ov := hX.one
  have MD := many_does d hd
  obtain ⟨di, hdi⟩ : ∃ di : Int, di = ((32 - (d + 1) : Nat) : Int) := ⟨_, rfl⟩
  obtain ⟨dj, hdj⟩ : ∃ dj : Int, dj = ((32 - d : Nat) : Int) := ⟨_, rfl⟩
  unfold QuestOk at hd
  rw [← hdj] at MD hd
  rw [← hdi]
  have bi : decide (di < 32) = true := decide_eq_true (by omega)
  have W1 := Hn.mk (show IntKind.i64.wrap (di + 1) = dj by rw [IntWalk.i64_in _ (by omega)]; omega)
  clear hdi hdj h32
  by_cases hx : isObjJ x = false
  · have NO := fun L => qobject_no x v g L hX hx
    have hq : rdQ (d + 1) left x = none := by cases x <;> first | rfl | cases hx
    rw [hq]
    clear hX sX h0 hT hU hP hd hq MD
    repeat' (first
    | refine wkQ ?_
    | (refine wkA 13 (v := .bool true) ?_ ?_; · exact Y.lss_b bi rfl rfl)
    | refine wkV ?_
    | refine wkD (NY _ _) ?_
    | refine TL.throws (Enters.plain (by kernel_rfl) (by rfl)) (NO _) (by rfl) ?_
    | refine TL.build_empty (by rfl) (fun b0 => ?_)
    | refine stS ?_ | (refine stB ?_; intro _) | (refine stC ?_; constructor <;> intro _)
    | refine wkW ?_)
    refine TQ.end_panic (L' := rdO b (left : Nat) :: L) rfl (.refl _) ?_ selF
    exact .no
  obtain ⟨ns, l, rfl⟩ : ∃ ns l, x = .obj ns l := by cases x <;> first | exact ⟨_, _, rfl⟩ | exact absurd rfl hx
  clear hx
  rw [IsJ] at hX
  obtain ⟨sl, fl, rfl, hS, hM⟩ := hX
  obtain ⟨ao, cap, rfl⟩ := hS.slice
  have hlen : l.length ≤ 1000000 := by rw [smJ] at sX; omega
  have YL := fun L => qobject_yes (.slice ao l.length cap) g L
  have hl0 := look_obj h0
  rw [rdQ]
  obtain ⟨R, hR⟩ : ∃ R, R = (membersQ (rdQ d) left (ns.drop 0) (l.drop 0)).map fun r => ([] ++ r.1, r.2) := ⟨_, rfl⟩
  rw [show membersQ (rdQ d) left ns l = R by rw [hR, List.drop_zero, List.drop_zero]; cases membersQ (rdQ d) left ns l <;> rfl]
  have HS0 := Hn.mk hS
  clear hS
  repeat' (first
    | refine wkQ ?_
    | (refine wkA 13 (v := .bool true) ?_ ?_; · exact Y.lss_b bi rfl rfl)
    | refine wkV ?_
    | refine wkD (NY _ _) ?_
    | refine wkD (YL _) ?_
    | refine TL.build_empty (by rfl) (fun b0 => ?_)
    | refine stS ?_ | (refine stB ?_; intro _) | (refine stC ?_; constructor <;> intro _)
    | refine wkW ?_)
  refine TC.obj_row (k := 0) (sz := 1) (cs := []) (b := b0) pkA rfl (by decide) ?_
  refine TC.loop (α := CdS) (fun x => x.i ≤ l.length ∧ g.le x.g ∧ IsQs x.g x.qs x.fl ∧ (x.qs.length = x.k ∧ x.k + x.left ≤ 100) ∧ (membersQ (rdQ d) x.left (ns.drop x.i) (l.drop x.i)).map (fun r => (x.qs ++ r.1, r.2)) = R) (fun x => l.length - x.i) (fun x => [(19, .int .i64 (x.i : Nat)), (18, .int .i64 (l.length : Nat)), (17, .slice ao l.length cap), (7, .slice x.a x.k x.c), (2, .int .i64 di), (0, .pointer (some ⟨b, 0, none⟩))]) (fun x => x.g)
    (fun x => .row 95 1 (.slice x.a x.k x.c) x.k x.fl :: rdO b (x.left : Nat) :: L) ⟨0, 0, some ⟨b0, 0, none⟩, 0, [], [], g, left⟩ ⟨Nat.zero_le _, .refl _, by rw [IsQs], ⟨rfl, by show 0 + left ≤ 100; omega⟩, hR.symm⟩ rfl subA selF ?_
  clear hR YL
  rintro ⟨i, k, a, c, qs, f0, gx, lf⟩ ⟨hi, hgx, hQ, ⟨hk, hlf⟩, hI⟩
  try dsimp only at hi hgx hQ hk hlf hI ⊢
  by_cases hlt : i < l.length
  · obtain ⟨x, hx⟩ : ∃ x, l[i]? = some x := ⟨_, List.getElem?_eq_getElem hlt⟩
    obtain ⟨s, u, hs, hf1, hf2, jx⟩ := IsMs.get hM hx
    obtain ⟨b1, o1, rfl, hg⟩ := HS0.out.elem hlt (by decide)
    have hc4 : ∀ (j : Nat) w, [str s, u][j]? = some w → gx.cell b1 (o1 + i * 2 + j) = some w := fun j w hw => by
      match j, hw with
      | 0, hw => cases hw; exact hgx.cell (hg 0 _ hf1)
      | 1, hw => cases hw; exact hgx.cell (hg 1 _ hf2)
    have hll : [str s, u].length = 2 := rfl
    have ou := jx.one
    have sx : smJ x := smJs_get (by rw [smJ] at sX; exact sX.2.2) hx
    have sp : s.length ≤ 1000000 := by rw [smJ] at sX; exact sX.2.1 s (List.mem_of_getElem? hs)
    rw [drop_of_get hx, drop_of_get hs] at hI
    cases lf with
    | zero =>
      rw [membersQ, Option.map_none] at hI
      subst hI
      have NO := fun L => qcount_no b gx L
      clear hg hf1 hf2 jx hM sX h0 hT hU hP HS0 hd MD hl0
      repeat' (first
    | refine wkQ ?_
    | (refine wkA 22 (v := .agg #[str s, u]) ?_ ?_; · exact Y.load_cells rfl hc4 hll)
    | refine wkV ?_
    | (refine TL.callP (Enters.plain (by kernel_rfl) (by rfl)) (NO _) permA (by rfl) ?_; (unfold CntR; rintro e g4 L4 hg4 ⟨k1, n4, k2⟩; subst k1; subst k2; refine CallK.panic ?_))
    | refine stS ?_ | (refine stB ?_; intro _) | (refine stC ?_; constructor <;> intro _))
      refine TQ.end_panic (L' := rdO b n4 :: L) rfl (hgx.trans hg4) ?_ selF
      exact .no
    | succ lf =>
      have CY := fun L => qcount_yes b lf gx L (by omega)
      have l0x := hl0 x (List.mem_of_getElem? hx)
      have MQ := fun L => MD x u b lf gx L (jx.le hgx) sx l0x (by omega) (hT.le hgx) (hU.le hgx) (hP.le hgx)
      have QQ := fun L => hd x u b lf gx L (jx.le hgx) sx l0x (by omega) (hT.le hgx) (hU.le hgx) (hP.le hgx)
      have ST := fun L => steps_does s gx L sp (hU.le hgx)
      have CQ := fun g1 (h1 : gx.le g1) L => conditions_does s x u b lf g1 L (jx.le (hgx.trans h1)) sx l0x sp (by omega) (hT.le (hgx.trans h1)) (hU.le (hgx.trans h1)) (hP.le (hgx.trans h1))
      rw [membersQ] at hI
      have hml := fun q l1 => memQ_len (rdQ_le d) (n := s) (v := x) (left := lf) (q := q) (l1 := l1)
      unfold memQ at hI hml
      clear hg hf1 hf2 jx hM sX h0 hT hU hP HS0 hd MD hl0
      by_cases n1 : s = andN
      · have e1 : decide (s = andN) = true := decide_eq_true n1
        rw [if_pos n1] at hI hml
        cases hm : manyQ (rdQ d) lf x with
        | none =>
          rw [hm] at hI MQ
          dsimp only [Option.map_none] at hI
          subst hI
          unfold QsR at MQ
          repeat' (first
    | refine wkQ ?_
    | (refine wkA 47 (v := .bool true) ?_ ?_; · exact Y.eql_is e1 rfl rfl)
    | (refine wkA 22 (v := .agg #[str s, u]) ?_ ?_; · exact Y.load_cells rfl hc4 hll)
    | (refine wkA 53 (v := .int .i64 dj) ?_ ?_; · exact Y.add rfl rfl W1.out)
    | refine wkV ?_
    | apply TL.turns (Enters.func (by rfl) (by kernel_rfl) (by rfl)) (CY _) permA (by rfl) | apply TL.turns (Enters.plain (by kernel_rfl) (by rfl)) (CY _) permA (by rfl)
    | (refine TL.callP (Enters.plain (by kernel_rfl) (by rfl)) (MQ _) permA (by rfl) ?_; (rintro e g4 L4 hg4 ⟨k1, n4, k2⟩; subst k1; subst k2; refine CallK.panic ?_))
    | refine stS ?_ | (refine stB ?_; intro _) | (refine stC ?_; constructor <;> intro _))
          refine TQ.end_panic (L' := rdO b n4 :: L) rfl (hgx.trans hg4) ?_ selF
          exact .no
        | some q =>
          obtain ⟨q, l1⟩ := q
          rw [hm] at hI MQ hml
          dsimp only [Option.map_some] at hI
          have hml := hml _ _ rfl
          simp only [List.length_cons, List.length_nil] at hml
          unfold QsR at MQ
          dsimp only at MQ
          repeat' (first
    | refine wkQ ?_
    | (refine wkA 47 (v := .bool true) ?_ ?_; · exact Y.eql_is e1 rfl rfl)
    | (refine wkA 22 (v := .agg #[str s, u]) ?_ ?_; · exact Y.load_cells rfl hc4 hll)
    | (refine wkA 53 (v := .int .i64 dj) ?_ ?_; · exact Y.add rfl rfl W1.out)
    | refine wkV ?_
    | apply TL.turns (Enters.func (by rfl) (by kernel_rfl) (by rfl)) (CY _) permA (by rfl) | apply TL.turns (Enters.plain (by kernel_rfl) (by rfl)) (CY _) permA (by rfl)
    | (refine TL.callP (Enters.plain (by kernel_rfl) (by rfl)) (MQ _) permA (by rfl) ?_; (rintro e g4 L4 hg4 ⟨s4, f4, k1, k2, hs4, hq4⟩; subst k1; subst k2; obtain ⟨a4, c4, rfl⟩ := hs4.slice; refine CallK.ret ?_))
    | ((with_reducible apply TL.build_slice (len := 1)); (· rfl); (· rfl); (· exact oneA); (· rfl); (· rfl); (· rfl); intro bn)
    | ((with_reducible apply TL.append (e := 95)); (· rfl); (· rfl); (· rfl); (· rfl); (· exact pkA); (· exact Src.obj pkA); (· rfl); (· exact oneA); (· exact ⟨by unfold maxLen; omega, by omega⟩); (· rfl); intro vf; refine Go.TL.TL.row_slice (v := vf) pkA ?_; rintro a2 c2 rfl _)
    | refine stS ?_ | (refine stB ?_; intro _) | (refine stC ?_; constructor <;> intro _))
          refine TQ.round (⟨i + 1, k + 1, a2, c2, qs ++ [.all q], f0 ++ [.iface 83 (.slice a4 q.length c4)], g4, l1⟩ : CdS) ?_ ?_ rfl subA selF
          · refine ⟨hlt, hgx.trans hg4, IsQs.append (IsQs.le (hg4) hQ) (IsQs.single (by rw [IsQ]; exact ⟨_, f4, rfl, hs4, hq4⟩)), ⟨by simp [hk], show k + 1 + l1 ≤ 100 by omega⟩, ?_⟩
            show (membersQ (rdQ d) l1 (ns.drop (i + 1)) (l.drop (i + 1))).map (fun r => ((qs ++ [.all q]) ++ r.1, r.2)) = R
            rw [← hI]
            cases membersQ (rdQ d) l1 (ns.drop (i + 1)) (l.drop (i + 1)) <;> simp
          · show l.length - (i + 1) < l.length - i
            omega
      have e1 : decide (s = andN) = false := decide_eq_false n1
      rw [if_neg n1] at hI hml
      by_cases n2 : s = orN
      · have e2 : decide (s = orN) = true := decide_eq_true n2
        rw [if_pos n2] at hI hml
        cases hm : manyQ (rdQ d) lf x with
        | none =>
          rw [hm] at hI MQ
          dsimp only [Option.map_none] at hI
          subst hI
          unfold QsR at MQ
          repeat' (first
    | refine wkQ ?_
    | (refine wkA 47 (v := .bool false) ?_ ?_; · exact Y.eql_is e1 rfl rfl)
    | (refine wkA 59 (v := .bool true) ?_ ?_; · exact Y.eql_is e2 rfl rfl)
    | (refine wkA 22 (v := .agg #[str s, u]) ?_ ?_; · exact Y.load_cells rfl hc4 hll)
    | (refine wkA 65 (v := .int .i64 dj) ?_ ?_; · exact Y.add rfl rfl W1.out)
    | refine wkV ?_
    | apply TL.turns (Enters.func (by rfl) (by kernel_rfl) (by rfl)) (CY _) permA (by rfl) | apply TL.turns (Enters.plain (by kernel_rfl) (by rfl)) (CY _) permA (by rfl)
    | (refine TL.callP (Enters.plain (by kernel_rfl) (by rfl)) (MQ _) permA (by rfl) ?_; (rintro e g4 L4 hg4 ⟨k1, n4, k2⟩; subst k1; subst k2; refine CallK.panic ?_))
    | refine stS ?_ | (refine stB ?_; intro _) | (refine stC ?_; constructor <;> intro _))
          refine TQ.end_panic (L' := rdO b n4 :: L) rfl (hgx.trans hg4) ?_ selF
          exact .no
        | some q =>
          obtain ⟨q, l1⟩ := q
          rw [hm] at hI MQ hml
          dsimp only [Option.map_some] at hI
          have hml := hml _ _ rfl
          simp only [List.length_cons, List.length_nil] at hml
          unfold QsR at MQ
          dsimp only at MQ
          repeat' (first
    | refine wkQ ?_
    | (refine wkA 47 (v := .bool false) ?_ ?_; · exact Y.eql_is e1 rfl rfl)
    | (refine wkA 59 (v := .bool true) ?_ ?_; · exact Y.eql_is e2 rfl rfl)
    | (refine wkA 22 (v := .agg #[str s, u]) ?_ ?_; · exact Y.load_cells rfl hc4 hll)
    | (refine wkA 65 (v := .int .i64 dj) ?_ ?_; · exact Y.add rfl rfl W1.out)
    | refine wkV ?_
    | apply TL.turns (Enters.func (by rfl) (by kernel_rfl) (by rfl)) (CY _) permA (by rfl) | apply TL.turns (Enters.plain (by kernel_rfl) (by rfl)) (CY _) permA (by rfl)
    | (refine TL.callP (Enters.plain (by kernel_rfl) (by rfl)) (MQ _) permA (by rfl) ?_; (rintro e g4 L4 hg4 ⟨s4, f4, k1, k2, hs4, hq4⟩; subst k1; subst k2; obtain ⟨a4, c4, rfl⟩ := hs4.slice; refine CallK.ret ?_))
    | ((with_reducible apply TL.build_slice (len := 1)); (· rfl); (· rfl); (· exact oneA); (· rfl); (· rfl); (· rfl); intro bn)
    | ((with_reducible apply TL.append (e := 95)); (· rfl); (· rfl); (· rfl); (· rfl); (· exact pkA); (· exact Src.obj pkA); (· rfl); (· exact oneA); (· exact ⟨by unfold maxLen; omega, by omega⟩); (· rfl); intro vf; refine Go.TL.TL.row_slice (v := vf) pkA ?_; rintro a2 c2 rfl _)
    | refine stS ?_ | (refine stB ?_; intro _) | (refine stC ?_; constructor <;> intro _))
          refine TQ.round (⟨i + 1, k + 1, a2, c2, qs ++ [.one q], f0 ++ [.iface 118 (.slice a4 q.length c4)], g4, l1⟩ : CdS) ?_ ?_ rfl subA selF
          · refine ⟨hlt, hgx.trans hg4, IsQs.append (IsQs.le (hg4) hQ) (IsQs.single (by rw [IsQ]; exact ⟨_, f4, rfl, hs4, hq4⟩)), ⟨by simp [hk], show k + 1 + l1 ≤ 100 by omega⟩, ?_⟩
            show (membersQ (rdQ d) l1 (ns.drop (i + 1)) (l.drop (i + 1))).map (fun r => ((qs ++ [.one q]) ++ r.1, r.2)) = R
            rw [← hI]
            cases membersQ (rdQ d) l1 (ns.drop (i + 1)) (l.drop (i + 1)) <;> simp
          · show l.length - (i + 1) < l.length - i
            omega
      have e2 : decide (s = orN) = false := decide_eq_false n2
      rw [if_neg n2] at hI hml
      by_cases n3 : s = notN
      · have e3 : decide (s = notN) = true := decide_eq_true n3
        rw [if_pos n3] at hI hml
        cases hm : rdQ d lf x with
        | none =>
          rw [hm] at hI QQ
          dsimp only [Option.map_none] at hI
          subst hI
          unfold QsR at QQ
          repeat' (first
    | refine wkQ ?_
    | (refine wkA 47 (v := .bool false) ?_ ?_; · exact Y.eql_is e1 rfl rfl)
    | (refine wkA 59 (v := .bool false) ?_ ?_; · exact Y.eql_is e2 rfl rfl)
    | (refine wkA 71 (v := .bool true) ?_ ?_; · exact Y.eql_is e3 rfl rfl)
    | (refine wkA 22 (v := .agg #[str s, u]) ?_ ?_; · exact Y.load_cells rfl hc4 hll)
    | (refine wkA 77 (v := .int .i64 dj) ?_ ?_; · exact Y.add rfl rfl W1.out)
    | refine wkV ?_
    | apply TL.turns (Enters.func (by rfl) (by kernel_rfl) (by rfl)) (CY _) permA (by rfl) | apply TL.turns (Enters.plain (by kernel_rfl) (by rfl)) (CY _) permA (by rfl)
    | (refine TL.callP (Enters.plain (by kernel_rfl) (by rfl)) (QQ _) permA (by rfl) ?_; (rintro e g4 L4 hg4 ⟨k1, n4, k2⟩; subst k1; subst k2; refine CallK.panic ?_))
    | refine stS ?_ | (refine stB ?_; intro _) | (refine stC ?_; constructor <;> intro _))
          refine TQ.end_panic (L' := rdO b n4 :: L) rfl (hgx.trans hg4) ?_ selF
          exact .no
        | some q =>
          obtain ⟨q, l1⟩ := q
          rw [hm] at hI QQ hml
          dsimp only [Option.map_some] at hI
          have hml := hml _ _ rfl
          simp only [List.length_cons, List.length_nil] at hml
          unfold QsR at QQ
          dsimp only at QQ
          repeat' (first
    | refine wkQ ?_
    | (refine wkA 47 (v := .bool false) ?_ ?_; · exact Y.eql_is e1 rfl rfl)
    | (refine wkA 59 (v := .bool false) ?_ ?_; · exact Y.eql_is e2 rfl rfl)
    | (refine wkA 71 (v := .bool true) ?_ ?_; · exact Y.eql_is e3 rfl rfl)
    | (refine wkA 22 (v := .agg #[str s, u]) ?_ ?_; · exact Y.load_cells rfl hc4 hll)
    | (refine wkA 77 (v := .int .i64 dj) ?_ ?_; · exact Y.add rfl rfl W1.out)
    | refine wkV ?_
    | apply TL.turns (Enters.func (by rfl) (by kernel_rfl) (by rfl)) (CY _) permA (by rfl) | apply TL.turns (Enters.plain (by kernel_rfl) (by rfl)) (CY _) permA (by rfl)
    | (refine TL.callP (Enters.plain (by kernel_rfl) (by rfl)) (QQ _) permA (by rfl) ?_; (rintro e g4 L4 hg4 ⟨s4, f4, k1, k2, hs4, hq4⟩; subst k1; subst k2; obtain ⟨a4, c4, rfl⟩ := hs4.slice; refine CallK.ret ?_))
    | ((with_reducible apply TL.build_slice (len := 1)); (· rfl); (· rfl); (· exact oneA); (· rfl); (· rfl); (· rfl); intro bn)
    | ((with_reducible apply TL.append (e := 95)); (· rfl); (· rfl); (· rfl); (· rfl); (· exact pkA); (· exact Src.obj pkA); (· rfl); (· exact oneA); (· exact ⟨by unfold maxLen; omega, by omega⟩); (· rfl); intro vf; refine Go.TL.TL.row_slice (v := vf) pkA ?_; rintro a2 c2 rfl _)
    | refine stS ?_ | (refine stB ?_; intro _) | (refine stC ?_; constructor <;> intro _))
          refine TQ.round (⟨i + 1, k + 1, a2, c2, qs ++ [.not q], f0 ++ [.iface 120 (.agg #[.iface 83 (.slice a4 q.length c4)])], g4, l1⟩ : CdS) ?_ ?_ rfl subA selF
          · refine ⟨hlt, hgx.trans hg4, IsQs.append (IsQs.le (hg4) hQ) (IsQs.single (by rw [IsQ]; exact ⟨_, f4, rfl, hs4, hq4⟩)), ⟨by simp [hk], show k + 1 + l1 ≤ 100 by omega⟩, ?_⟩
            show (membersQ (rdQ d) l1 (ns.drop (i + 1)) (l.drop (i + 1))).map (fun r => ((qs ++ [.not q]) ++ r.1, r.2)) = R
            rw [← hI]
            cases membersQ (rdQ d) l1 (ns.drop (i + 1)) (l.drop (i + 1)) <;> simp
          · show l.length - (i + 1) < l.length - i
            omega
      have e3 : decide (s = notN) = false := decide_eq_false n3
      rw [if_neg n3] at hI hml
      have NM := fun g L => qnamed_gives s g L
      clear MQ QQ
      by_cases hn : named s = true
      · rw [if_pos hn] at hI
        dsimp only [Option.map_none] at hI
        subst hI
        rw [hn] at NM
        clear CQ ST
        repeat' (first
    | refine wkQ ?_
    | (refine wkA 47 (v := .bool false) ?_ ?_; · exact Y.eql_is e1 rfl rfl)
    | (refine wkA 59 (v := .bool false) ?_ ?_; · exact Y.eql_is e2 rfl rfl)
    | (refine wkA 71 (v := .bool false) ?_ ?_; · exact Y.eql_is e3 rfl rfl)
    | (refine wkA 22 (v := .agg #[str s, u]) ?_ ?_; · exact Y.load_cells rfl hc4 hll)
    | refine wkV ?_
    | apply TL.turns (Enters.func (by rfl) (by kernel_rfl) (by rfl)) (CY _) permA (by rfl) | apply TL.turns (Enters.plain (by kernel_rfl) (by rfl)) (CY _) permA (by rfl)
    | refine wkD (NM _ _) ?_
    | refine TL.throws (Enters.plain (by kernel_rfl) (by rfl)) (NN _ _) (by rfl) ?_
    | refine stS ?_ | (refine stB ?_; intro _) | (refine stC ?_; constructor <;> intro _))
        refine TQ.end_panic (L' := rdO b (lf : Nat) :: L) rfl hgx ?_ selF
        exact .no
      rw [if_neg hn] at hI hml
      have hn2 : named s = false := by cases h : named s <;> first | rfl | exact absurd h hn
      rw [hn2] at NM
      unfold StepsR at ST
      cases hst : stepsL s with
      | none =>
        rw [hst] at hI ST
        dsimp only at ST
        rw [if_neg (by decide)] at hI
        dsimp only [Option.map_none] at hI
        subst hI
        have b16 : decide (((16 : Nat) : Int) = 0) = false := rfl
        clear CQ
        repeat' (first
    | refine wkQ ?_
    | (refine wkA 47 (v := .bool false) ?_ ?_; · exact Y.eql_is e1 rfl rfl)
    | (refine wkA 59 (v := .bool false) ?_ ?_; · exact Y.eql_is e2 rfl rfl)
    | (refine wkA 71 (v := .bool false) ?_ ?_; · exact Y.eql_is e3 rfl rfl)
    | (refine wkA 22 (v := .agg #[str s, u]) ?_ ?_; · exact Y.load_cells rfl hc4 hll)
    | (refine wkA 39 (v := .bool false) ?_ ?_; · exact Y.eql_b b16 rfl rfl)
    | refine wkV ?_
    | apply TL.turns (Enters.func (by rfl) (by kernel_rfl) (by rfl)) (CY _) permA (by rfl) | apply TL.turns (Enters.plain (by kernel_rfl) (by rfl)) (CY _) permA (by rfl)
    | refine wkD (NM _ _) ?_
    | refine wkD (NY _ _) ?_
    | (refine TL.call (Enters.plain (by kernel_rfl) (by rfl)) (by rfl) (ST _) ?_; (rintro e g3 Ln h3 ⟨v3, e3, k1, k2, o3, k3⟩; have k2 := k2.symm; subst k1; subst k2; (obtain ⟨rfl, rfl⟩ := k3); refine CallK.ret ?_))
    | refine TL.throws (Enters.plain (by kernel_rfl) (by rfl)) (NN _ _) (by rfl) ?_
    | refine stS ?_ | (refine stB ?_; intro _) | (refine stC ?_; constructor <;> intro _))
        refine TQ.end_panic (L' := rdO b (lf : Nat) :: L) rfl (hgx.trans h3) ?_ selF
        exact .no
      | some st =>
        rw [hst] at hI ST hml
        dsimp only at ST
        rw [if_pos (by rfl)] at hI hml
        have b16 : decide (((0 : Nat) : Int) = 0) = true := rfl
        cases hm : condsR s x lf with
        | none =>
          rw [hm] at hI CQ
          dsimp only [Option.map_none] at hI
          subst hI
          unfold QsR at CQ
          repeat' (first
    | refine wkQ ?_
    | (refine wkA 47 (v := .bool false) ?_ ?_; · exact Y.eql_is e1 rfl rfl)
    | (refine wkA 59 (v := .bool false) ?_ ?_; · exact Y.eql_is e2 rfl rfl)
    | (refine wkA 71 (v := .bool false) ?_ ?_; · exact Y.eql_is e3 rfl rfl)
    | (refine wkA 22 (v := .agg #[str s, u]) ?_ ?_; · exact Y.load_cells rfl hc4 hll)
    | (refine wkA 39 (v := .bool true) ?_ ?_; · exact Y.eql_b b16 rfl rfl)
    | refine wkV ?_
    | apply TL.turns (Enters.func (by rfl) (by kernel_rfl) (by rfl)) (CY _) permA (by rfl) | apply TL.turns (Enters.plain (by kernel_rfl) (by rfl)) (CY _) permA (by rfl)
    | refine wkD (NM _ _) ?_
    | refine wkD (NY _ _) ?_
    | (refine TL.call (Enters.plain (by kernel_rfl) (by rfl)) (by rfl) (ST _) ?_; (rintro e g3 Ln h3 ⟨v3, e3, k1, k2, o3, k3⟩; have k2 := k2.symm; subst k1; subst k2; (obtain ⟨rfl, k4⟩ := k3); refine CallK.ret ?_))
    | (refine TL.callP (Enters.plain (by kernel_rfl) (by rfl)) (CQ _ h3 _) permA (by rfl) ?_; (rintro e g4 L4 hg4 ⟨k1, n4, k2⟩; subst k1; subst k2; refine CallK.panic ?_))
    | refine stS ?_ | (refine stB ?_; intro _) | (refine stC ?_; constructor <;> intro _))
          refine TQ.end_panic (L' := rdO b n4 :: L) rfl (hgx.trans (h3.trans hg4)) ?_ selF
          exact .no
        | some q =>
          obtain ⟨q, l1⟩ := q
          rw [hm] at hI CQ hml
          dsimp only [Option.map_some] at hI
          have hml := hml _ _ rfl
          unfold QsR at CQ
          dsimp only at CQ
          repeat' (first
    | refine wkQ ?_
    | (refine wkA 47 (v := .bool false) ?_ ?_; · exact Y.eql_is e1 rfl rfl)
    | (refine wkA 59 (v := .bool false) ?_ ?_; · exact Y.eql_is e2 rfl rfl)
    | (refine wkA 71 (v := .bool false) ?_ ?_; · exact Y.eql_is e3 rfl rfl)
    | (refine wkA 22 (v := .agg #[str s, u]) ?_ ?_; · exact Y.load_cells rfl hc4 hll)
    | (refine wkA 39 (v := .bool true) ?_ ?_; · exact Y.eql_b b16 rfl rfl)
    | refine wkV ?_
    | apply TL.turns (Enters.func (by rfl) (by kernel_rfl) (by rfl)) (CY _) permA (by rfl) | apply TL.turns (Enters.plain (by kernel_rfl) (by rfl)) (CY _) permA (by rfl)
    | refine wkD (NM _ _) ?_
    | refine wkD (NY _ _) ?_
    | (refine TL.call (Enters.plain (by kernel_rfl) (by rfl)) (by rfl) (ST _) ?_; (rintro e g3 Ln h3 ⟨v3, e3, k1, k2, o3, k3⟩; have k2 := k2.symm; subst k1; subst k2; (obtain ⟨rfl, k4⟩ := k3); refine CallK.ret ?_))
    | (refine TL.callP (Enters.plain (by kernel_rfl) (by rfl)) (CQ _ h3 _) permA (by rfl) ?_; (rintro e g4 L4 hg4 ⟨s4, f4, k1, k2, hs4, hq4⟩; subst k1; subst k2; obtain ⟨a4, c4, rfl⟩ := hs4.slice; refine CallK.ret ?_))
    | ((with_reducible apply TL.append2 (e := 95)); (· rfl); (· rfl); (· rfl); (· rfl); (· exact pkA); (· exact Src.sl hs4); (· exact hs4.len); (· exact IsQs.ones hq4); (· exact ⟨by unfold maxLen; omega, by omega⟩); (· rfl); intro vf; refine Go.TL.TL.row_slice (v := vf) pkA ?_; rintro a2 c2 rfl _)
    | refine stS ?_ | (refine stB ?_; intro _) | (refine stC ?_; constructor <;> intro _))
          refine TQ.round (⟨i + 1, k + q.length, a2, c2, qs ++ q, f0 ++ f4, g4, l1⟩ : CdS) ?_ ?_ rfl subA selF
          · refine ⟨hlt, hgx.trans (h3.trans hg4), IsQs.append (IsQs.le (h3.trans hg4) hQ) (hq4), ⟨by simp [hk], show k + q.length + l1 ≤ 100 by omega⟩, ?_⟩
            show (membersQ (rdQ d) l1 (ns.drop (i + 1)) (l.drop (i + 1))).map (fun r => ((qs ++ q) ++ r.1, r.2)) = R
            rw [← hI]
            cases membersQ (rdQ d) l1 (ns.drop (i + 1)) (l.drop (i + 1)) <;> simp
          · show l.length - (i + 1) < l.length - i
            omega
  · obtain rfl : i = l.length := by omega
    rw [List.drop_eq_nil_of_le (Nat.le_refl _)] at hI
    have hI2 : R = some (qs, lf) := by
      rw [← hI]
      cases ns.drop l.length <;> rw [membersQ] <;> simp
    subst hI2
    clear hd MD
    repeat' (first
    | refine wkQ ?_
    | refine wkV ?_
    | refine stS ?_ | (refine stB ?_; intro _) | (refine stC ?_; constructor <;> intro _)
    | refine wkW ?_)
    refine TQ.freeze pkA ?_
    intro gf hgf hsf
    refine TQ.endR1 (L' := (rdO b (lf : Nat) :: L)) Tryz.results37 rvA rfl ((hgx.trans hgf)) ?_ selF
    exact .yes hk hsf (IsQs.le hgf hQ)
theorem quest_ok : ∀ (d : Nat), d ≤ 32 → QuestOk d
  | 0, _ => quest_zero
  | d + 1, h => quest_succ d (quest_ok d (by omega)) h
end Go.Proofs.YtgollffmdpejiaaGreatDoor
