/-
  The walk of word.Words. The walks of slices.BinarySearch over texts, word.Stop, query's words.
-/
import Derived.Test.YtgollffmdpejiaaGreatDoorQz3
import Derived.Test.YtgollffmdpejiaaGreatDoorQz32
import Derived.Test.YtgollffmdpejiaaGreatDoorQz35
import Derived.Test.YtgollffmdpejiaaGreatDoorQz13
import Derived.Test.YtgollffmdpejiaaGreatDoorQz7
namespace Go.Proofs.YtgollffmdpejiaaGreatDoor
open Go.RowKit Go.TL
set_option maxRecDepth 100000

set_option maxHeartbeats 4000000 in
theorem wsigns_does (s : List UInt8) (g : Gh) (L : List Ent) (hl : s.length ≤ 1000000000) : Does Tryz.prog 301 #[str s] g L (fun e g' L' => ∃ lb, e = .returned (.func (.func 323) #[] lb) ∧ L' = L ∧ Iter Tryz.prog 323 lb ((itemsW s).map itV) g') := by
  refine Does.of1 Tryz.func301 rfl Tryz.ntmps301 rfl ?_
  repeat' (first
    | refine wkQ ?_
    | ((with_reducible apply TL.box_keep (d := 1)); (· rfl); (· first | exact cells_one rfl | rfl); (· rfl); (· exact Nat.le_of_ble_eq_true rfl); intro b g1 h1 hc)
    | (refine wkA 3 (v := .func (.func 323) #[] [Value.pointer (some ⟨_, 0, none⟩)].toArray) ?_ ?_; · exact Y.make_func rfl)
    | refine wkV ?_
    | refine stS ?_ | (refine stB ?_; intro _) | (refine stC ?_; constructor <;> intro _))
  refine TQ.endR1 (L' := L) Tryz.results301 rvA rfl h1 ?_ selF
  exact ⟨_, rfl, rfl, wsigns_iter s g1 b (hc 0 _ rfl) hl⟩
def flatW : List (List UInt8 × Nat × Nat) → List Value
  | [] => []
  | (t, a, b) :: r => str t :: .int .i64 (a : Nat) :: .int .i64 (b : Nat) :: flatW r
theorem flatW_snoc : ∀ (l : List (List UInt8 × Nat × Nat)) (t : List UInt8) (a b : Nat), flatW (l ++ [(t, a, b)]) = flatW l ++ [str t, .int .i64 (a : Nat), .int .i64 (b : Nat)]
  | [], t, a, b => rfl
  | (x, y, z) :: r, t, a, b => by
    rw [List.cons_append, flatW, flatW, flatW_snoc r t a b]; rfl
def wst (T : List (Nat × List UInt8)) (k : Nat) : WS := (T.take k).foldl (fun st e => wstep st e.1 e.2) ⟨[], [], -1, false⟩
theorem wst_step {T : List (Nat × List UInt8)} {k : Nat} {e : Nat × List UInt8} (h : T[k]? = some e) : wst T (k + 1) = wstep (wst T k) e.1 e.2 := by
  unfold wst
  rw [List.take_add_one, h]
  simp
theorem signB_len (c : Nat) : (signB c).length ≤ 4 := by
  unfold signB
  repeat' split
  all_goals simp
theorem lookT_len : ∀ (l : List (Nat × Nat × List UInt8)) (c : Nat), (∀ p ∈ l, p.2.2.length ≤ 4) → (lookT c l).length ≤ 4
  | [], _, _ => by rw [lookT]; simp
  | p :: r, c, h => by
    obtain ⟨a, b, s⟩ := p
    rw [lookT]
    split
    · exact h _ List.mem_cons_self
    · exact lookT_len r c fun q hq => h q (List.mem_cons_of_mem _ hq)
theorem foldC_len (c : Nat) : (foldC c).length ≤ 4 := by
  unfold foldC
  have h := fun d => lookT_len runT d (by decide)
  repeat' split
  all_goals first | exact signB_len _ | exact h _ | simp
theorem itemsF_len4 (s : List UInt8) : ∀ (f i : Nat), ∀ e ∈ itemsF s f i, e.2.length ≤ 4
  | 0, i, e, he => by
    rw [itemsF] at he
    obtain rfl : e = (i, []) := by simpa using he
    simp
  | f + 1, i, e, he => by
    rw [itemsF] at he
    split at he
    · obtain rfl : e = (i, []) := by simpa using he
      simp
    · rcases List.mem_cons.1 he with rfl | he
      · exact foldC_len _
      · exact itemsF_len4 s f _ e he
structure WOk (n k : Nat) (st : WS) : Prop where
  lo : -1 ≤ st.frm
  hi : st.frm ≤ n
  now : st.now.length ≤ 32
  out : st.out.length ≤ k
theorem wstep_ok {n k : Nat} {st : WS} {i : Nat} {s : List UInt8} (h : WOk n k st) (_hi : i ≤ n) : WOk n (k + 1) (wstep st i s) := by
  obtain ⟨h1, h2, h3, h4⟩ := h
  unfold wstep
  repeat' split
  all_goals constructor
  all_goals first | omega | (dsimp only; omega) | (simp; omega) | simp
theorem wst_ok {T : List (Nat × List UInt8)} {n : Nat} (hT : ∀ e ∈ T, e.1 ≤ n) : ∀ k, k ≤ T.length → WOk n k (wst T k)
  | 0, _ => ⟨by show (-1 : Int) ≤ -1; omega, by show (-1 : Int) ≤ n; omega, by show 0 ≤ 32; omega, Nat.le_refl _⟩
  | k + 1, hk => by
    obtain ⟨e, he⟩ : ∃ e, T[k]? = some e := ⟨_, List.getElem?_eq_getElem (by omega)⟩
    rw [wst_step he]
    exact wstep_ok (wst_ok hT k (by omega)) (hT e (List.mem_of_getElem? he))
theorem item_of2 {T : List (Nat × List UInt8)} {i : Nat} {x : Array Value} (h : (T.map itV)[i]? = some x) : ∃ e, T[i]? = some e ∧ x = itV e := by
  rw [List.getElem?_map] at h
  cases he : T[i]? with
  | none => rw [he] at h; cases h
  | some e => rw [he] at h; exact ⟨e, rfl, by simpa using h.symm⟩
abbrev wL (b3 b4 b5 b6 : Nat) (st : WS) (z : Nat × Value × Value × Value) : List Ent :=
  .obj b3 (.cells [z.2.1].toArray 314 (0, 0)) :: .row 316 3 z.2.1 st.out.length (flatW st.out) :: BdO b4 z.2.2.1 z.2.2.2 :: .row 5 1 z.2.2.2 st.now.length (byteVals st.now) :: .obj b5 (.cells [.int .i64 st.frm].toArray 3 (0, 0)) :: [.obj b6 (.cells [.bool st.cut].toArray 4 (0, 0))]
set_option maxHeartbeats 64000000 in
theorem words_does (s : List UInt8) (g : Gh) (L : List Ent) (_hl : s.length ≤ 1000000) : Does Tryz.prog 271 #[str s] g L (fun e g' L' => ∃ v, e = .returned v ∧ L' = L ∧ Sl g' v (wordsL s).length 3 (flatW (wordsL s))) := by
  refine Does.ofM1 Tryz.func271 rfl Tryz.ntmps271 rfl ?_
  have SG := fun g L => wsigns_does s g L (by omega)
  have hTl : (itemsW s).length ≤ s.length + 1 := itemsF_len s _ _
  have hTb : ∀ e ∈ itemsW s, e.1 ≤ s.length := itemsF_bd s _ 0 (Nat.zero_le _)
  have hT4 : ∀ e ∈ itemsW s, e.2.length ≤ 4 := itemsF_len4 s _ 0
  have hW : wordsL s = (wst (itemsW s) (itemsW s).length).out := by unfold wst; rw [List.take_length]; rfl
  rw [hW]
  clear hW
  generalize itemsW s = T at *
  have hok := fun k hk => wst_ok hTb k hk
  repeat' (first
    | refine wkQ ?_
    | refine wkV ?_
    | (refine TL.call (Enters.plain (by kernel_rfl) (by rfl)) (by rfl) (SG _ _) ?_; (rintro e g1 Ln hg1 ⟨lb, k1, k2, it⟩; have k2 := k2.symm; subst k1; subst k2; refine CallK.ret ?_))
    | refine stS ?_ | (refine stB ?_; intro _) | (refine stC ?_; constructor <;> intro _))
  rename_i b3 b4 b5 b6
  refine TC.row_nil 316 3 ?_
  refine TC.row_nil 5 1 ?_
  refine TC.rangeF (ps := #[11, 12]) (xs := T.map itV) rfl (by kernel_rfl) it (by intro x hx; obtain ⟨e, _, rfl⟩ := List.mem_map.1 hx; rfl) (by rfl)
    (fun i (z : Nat × Value × Value × Value) => z.1 = i ∧ BdP b4 z.2.2.1 ∧ ((wst T z.1).now = [] → z.2.2.2 = .slice none 0 0)) (fun _ => g1) (fun z => wL b3 b4 b5 b6 (wst T z.1) z)
    (fun _ (_ : Nat) => False) (fun _ => g1) (fun _ => [])
    L (0, .slice none 0 0, .pointer none, .slice none 0 0) ⟨rfl, .inl rfl, fun _ => rfl⟩ (.refl _) selF ?_ ?_ ?_
  · rintro r rc i x ⟨k, vo, p, bv⟩ M gx hrc hx ⟨hk, hp, hbv⟩ hgx _
    obtain ⟨⟨a, f⟩, he, rfl⟩ := item_of2 hx
    dsimp only at hk hp hbv
    subst hk
    have hkl := (List.getElem?_eq_some_iff.1 he).1
    have ha := hTb _ (List.mem_of_getElem? he)
    have hf4 := hT4 _ (List.mem_of_getElem? he)
    have hst := hok k (by omega)
    have hnx := wst_step he
    dsimp only [wL, List.cons_append, List.nil_append] at ha hf4 hnx ⊢
    have fin : ∀ q, wst T (k + 1) = q → Hn (wst T (k + 1) = q) := fun q h => ⟨h⟩
    generalize hw1 : wst T (k + 1) = st1 at *
    generalize wst T k = st at *
    obtain ⟨out, now, frm, cut⟩ := st
    obtain ⟨o1, o2, o3, o4⟩ := hst
    dsimp only at o1 o2 o3 o4 hbv
    refine TR.weak (S' := [(12, str f), (11, .int .i64 (a : Nat)), (3, .pointer (some ⟨b3, 0, none⟩)), (4, .pointer (some ⟨b4, 0, none⟩)), (5, .pointer (some ⟨b5, 0, none⟩)), (6, .pointer (some ⟨b6, 0, none⟩))]) ?_ subA .refl
    have HW := Hn.mk hw1
    clear it hx he hok hTb hT4 SG fin hw1
    unfold wstep at hnx
    dsimp only at hnx ⊢
    have hwn := HW.out.trans hnx
    clear hnx HW
    have hkey : ∀ m y, y = [str now, .int .i64 (m : Nat), .int .i64 (a : Nat)] → flatW out ++ y = flatW (out ++ [(now, m, a)]) := fun m y h => by rw [h, flatW_snoc]
    by_cases hf : f = []
    · subst hf
      rw [if_pos rfl] at hwn
      by_cases h0 : 0 ≤ frm
      · rw [if_pos h0] at hwn
        obtain ⟨m, rfl⟩ : ∃ m : Nat, frm = m := ⟨frm.toNat, by omega⟩
        rw [Int.toNat_natCast] at hwn
        have HW := Hn.mk hwn
        have HB := Hn.mk hbv
        clear hwn hf4 hbv
        refine TR.row_slice (v := vo) pkA ?_
        rintro av cv rfl _
        repeat' (first
    | refine wkQ ?_
    | (refine wkA 15 (v := .bool true) ?_ ?_; · exact Y.eql_is (decide_eq_true rfl) rfl rfl)
    | (refine wkA 18 (v := .bool true) ?_ ?_; · exact Y.geq_b (decide_eq_true h0) rfl rfl)
    | refine wkV ?_
    | refine TR.region_sink 7 8 ([.obj b3 (.cells [.slice av out.length cv].toArray 314 (0, 0)), .obj b5 (.cells [.int .i64 (m : Nat)].toArray 3 (0, 0))]) (by kernel_rfl) (by decide +kernel) (by decide +kernel) rfl selF ?_ | refine TQ.anyT_panic ?_
    | ((with_reducible apply TB.takeF 0); (· rfl); (· decide +kernel); (· rfl); (· first | (first | exact yQ | exact yA | exact yB | exact yM | exact yV) | fail); (· decide +kernel); (· decide +kernel); (· rfl); (· exact fun _ _ _ h => h); (· rfl))
    | ((with_reducible apply TB.takeF 1); (· rfl); (· decide +kernel); (· rfl); (· first | (first | exact yQ | exact yA | exact yB | exact yM | exact yV) | fail); (· decide +kernel); (· decide +kernel); (· rfl); (· exact fun _ _ _ h => h); (· rfl))
    | ((with_reducible apply TB.takeF 2); (· rfl); (· decide +kernel); (· rfl); (· first | (first | exact yQ | exact yA | exact yB | exact yM | exact yV) | fail); (· decide +kernel); (· decide +kernel); (· rfl); (· exact fun _ _ _ h => h); (· rfl))
    | ((with_reducible apply TB.takeF 3); (· rfl); (· decide +kernel); (· rfl); (· first | (first | exact yQ | exact yA | exact yB | exact yM | exact yV) | fail); (· decide +kernel); (· decide +kernel); (· rfl); (· exact fun _ _ _ h => h); (· rfl))
    | ((with_reducible apply TB.takeF 4); (· rfl); (· decide +kernel); (· rfl); (· first | (first | exact yQ | exact yA | exact yB | exact yM | exact yV) | fail); (· decide +kernel); (· decide +kernel); (· rfl); (· exact fun _ _ _ h => h); (· rfl))
    | ((with_reducible apply TB.takeF 5); (· rfl); (· decide +kernel); (· rfl); (· first | (first | exact yQ | exact yA | exact yB | exact yM | exact yV) | fail); (· decide +kernel); (· decide +kernel); (· rfl); (· exact fun _ _ _ h => h); (· rfl))
    | ((with_reducible apply TB.takeF 6); (· rfl); (· decide +kernel); (· rfl); (· first | (first | exact yQ | exact yA | exact yB | exact yM | exact yV) | fail); (· decide +kernel); (· decide +kernel); (· rfl); (· exact fun _ _ _ h => h); (· rfl))
    | ((with_reducible apply TB.takeF 7); (· rfl); (· decide +kernel); (· rfl); (· first | (first | exact yQ | exact yA | exact yB | exact yM | exact yV) | fail); (· decide +kernel); (· decide +kernel); (· rfl); (· exact fun _ _ _ h => h); (· rfl))
    | apply TL.turns (Enters.func (by rfl) (by kernel_rfl) (by rfl)) (bdstring_keep _ _ _ _ _ _ HB.out) permA (by rfl) | apply TL.turns (Enters.plain (by kernel_rfl) (by rfl)) (bdstring_keep _ _ _ _ _ _ HB.out) permA (by rfl)
    | apply TL.turns (Enters.func (by rfl) (by kernel_rfl) (by rfl)) (bdreset_turns _ _ _ _ _) permA (by rfl) | apply TL.turns (Enters.plain (by kernel_rfl) (by rfl)) (bdreset_turns _ _ _ _ _) permA (by rfl)
    | ((with_reducible apply TB.oneF 0); (· rfl); (· rfl); (· decide +kernel); (· rfl); intro hsk)
    | ((with_reducible apply TB.oneF 1); (· rfl); (· rfl); (· decide +kernel); (· rfl); intro hsk)
    | ((with_reducible apply TB.oneF 2); (· rfl); (· rfl); (· decide +kernel); (· rfl); intro hsk)
    | ((with_reducible apply TB.oneF 3); (· rfl); (· rfl); (· decide +kernel); (· rfl); intro hsk)
    | ((with_reducible apply TB.oneF 4); (· rfl); (· rfl); (· decide +kernel); (· rfl); intro hsk)
    | ((with_reducible apply TB.oneF 5); (· rfl); (· rfl); (· decide +kernel); (· rfl); intro hsk)
    | ((with_reducible apply TB.oneF 6); (· rfl); (· rfl); (· decide +kernel); (· rfl); intro hsk)
    | ((with_reducible apply TB.oneF 7); (· rfl); (· rfl); (· decide +kernel); (· rfl); intro hsk)
    | refine TQ.lastT (by decide +kernel) ?_ | refine TQ.anyT (by assumption) leF selF ?_
    | ((with_reducible apply TL.build_slice); (· rfl); (· rfl); (· exact oneA); (· rfl); (· rfl); (· rfl); intro _) | refine TL.build_one (by rfl) (by first | rfl | assumption) (by rfl) (by rfl) (by rfl) (by rfl) (fun _ => ?_) | refine TL.build_empty (by rfl) (fun _ => ?_)
    | ((with_reducible apply TL.append (e := 316)); (· rfl); (· rfl); (· rfl); (· rfl); (· exact pkA); (· first | exact Src.obj pkA | exact Src.sl (by assumption) | exact Src.row pkA); (· first | rfl | exact (byteVals_length _).trans (Nat.mul_one _).symm); (· first | exact byteVals_all _ | exact oneA); (· exact ⟨by unfold maxLen; omega, by omega⟩); (· rfl); intro vf; refine Go.TL.TL.row_slice (v := vf) pkA ?_; rintro a2 c2 rfl _)
    | refine wkP ?_
    | refine TR.seq ?_ | refine TR.region (by rfl) ?_ | refine TL.nil ?_ | refine TQ.then_R ?_ | refine TQ.begin (by assumption) pkA ?_
    | ((with_reducible apply TL.storeE); (· rfl); (· rfl); (· rfl); (· exact pkA); (· infer_instance)) | ((with_reducible apply TL.store_whole); (· rfl); (· rfl); (· exact oneA); (· rfl); (· exact pkA); (· rfl))
    | refine TR.block ?_ | refine TR.ret ?_ | refine TR.skip ?_ | refine TR.exit ?_ | refine TR.cond rfl ?_
    | refine TQ.down ?_ | refine TQ.in_exit' rfl ?_
    | refine TL.guard_yes rfl rfl ?_ | refine TL.guard_no rfl rfl rfl rfl ?_ | refine TL.guard_no0 rfl rfl rfl ?_ | refine TL.guard_undef rfl rfl rfl ?_ | refine TL.guard_undef0 rfl rfl ?_ | refine TL.guard rfl rfl rfl ?_
    | refine Br.t rfl ?_ | refine Br.f rfl ?_ | refine Br.ky kpA ?_ | refine Br.kn kpA ?_ | refine Br.nky kpA ?_ | refine Br.nkn kpA ?_
    | refine Br.eq0 (fun _ => ?_) (fun _ => ?_) | refine Br.neq0 (fun _ => ?_) (fun _ => ?_) | refine Br.eq (fun _ => ?_) (fun _ => ?_) | refine Br.neq (fun _ => ?_) (fun _ => ?_) | refine Br.not (fun _ => ?_) (fun _ => ?_) | refine Br.dec (fun _ => ?_) (fun _ => ?_) | refine Br.bool (fun _ => ?_) (fun _ => ?_)
    | ((with_reducible apply TL.alloc_ag); (· rfl); intro _) | ((with_reducible apply TL.alloc_sc); (· rfl); (· rfl); intro _) | ((with_reducible apply TL.box_ag); (· rfl); (· rfl); intro _) | ((with_reducible apply TL.box_sc); (· rfl); (· rfl); (· rfl); intro _) | fail)
        refine TQ.row_nil 5 1 ?_
        simp only [List.set_cons_zero, List.set_cons_succ]
        rw [hkey m _ rfl]
        refine TQ.goes (k + 1, .slice a2 (out.length + 1) c2, .pointer none, .slice none 0 0) ⟨rfl, .inl rfl, fun _ => rfl⟩ hgx (.refl _) hrc pkA ?_
        dsimp only
        rw [HW.out, show (out ++ [(now, m, a)]).length = out.length + 1 by simp]
        exact selF
      · rw [if_neg h0] at hwn
        have HW := Hn.mk hwn
        clear hwn hf4 hkey
        repeat' (first
    | refine wkQ ?_
    | (refine wkA 15 (v := .bool true) ?_ ?_; · exact Y.eql_is (decide_eq_true rfl) rfl rfl)
    | (refine wkA 18 (v := .bool false) ?_ ?_; · exact Y.geq_b (decide_eq_false h0) rfl rfl)
    | (refine wkA 30 (v := .bool false) ?_ ?_; · exact Y.neq_is (by rfl) rfl rfl)
    | refine wkV ?_
    | refine wkP ?_
    | refine TR.seq ?_ | refine TR.region (by rfl) ?_ | refine TL.nil ?_ | refine TQ.then_R ?_ | refine TQ.begin (by assumption) pkA ?_
    | ((with_reducible apply TL.storeE); (· rfl); (· rfl); (· rfl); (· exact pkA); (· infer_instance)) | ((with_reducible apply TL.store_whole); (· rfl); (· rfl); (· exact oneA); (· rfl); (· exact pkA); (· rfl))
    | refine TR.block ?_ | refine TR.ret ?_ | refine TR.skip ?_ | refine TR.exit ?_ | refine TR.cond rfl ?_
    | refine TQ.down ?_ | refine TQ.in_exit' rfl ?_
    | refine TL.guard_yes rfl rfl ?_ | refine TL.guard_no rfl rfl rfl rfl ?_ | refine TL.guard_no0 rfl rfl rfl ?_ | refine TL.guard_undef rfl rfl rfl ?_ | refine TL.guard_undef0 rfl rfl ?_ | refine TL.guard rfl rfl rfl ?_
    | refine Br.t rfl ?_ | refine Br.f rfl ?_ | refine Br.ky kpA ?_ | refine Br.kn kpA ?_ | refine Br.nky kpA ?_ | refine Br.nkn kpA ?_
    | refine Br.eq0 (fun _ => ?_) (fun _ => ?_) | refine Br.neq0 (fun _ => ?_) (fun _ => ?_) | refine Br.eq (fun _ => ?_) (fun _ => ?_) | refine Br.neq (fun _ => ?_) (fun _ => ?_) | refine Br.not (fun _ => ?_) (fun _ => ?_) | refine Br.dec (fun _ => ?_) (fun _ => ?_) | refine Br.bool (fun _ => ?_) (fun _ => ?_)
    | ((with_reducible apply TL.alloc_ag); (· rfl); intro _) | ((with_reducible apply TL.alloc_sc); (· rfl); (· rfl); intro _) | ((with_reducible apply TL.box_ag); (· rfl); (· rfl); intro _) | ((with_reducible apply TL.box_sc); (· rfl); (· rfl); (· rfl); intro _) | fail)
        refine TQ.goes (k + 1, vo, p, bv) ⟨rfl, hp, fun h => hbv (by rw [HW.out] at h; exact h)⟩ hgx (.refl _) hrc pkA ?_
        dsimp only
        rw [HW.out]
        exact selF
    · rw [if_neg hf] at hwn
      have hfl : f.length ≤ 4 := hf4
      clear hf4 hkey
      refine TR.row_slice (v := bv) pkA ?_
      rintro ab cb rfl _
      have HB := Hn.mk hbv
      clear hbv
      by_cases hc : cut = true ∨ 32 < now.length + f.length
      · rw [if_pos hc] at hwn
        by_cases hm : frm < 0
        · rw [if_pos hm] at hwn
          have HW := Hn.mk hwn
          clear hwn
          cases cut with
          | true =>
            repeat' (first
    | refine wkQ ?_
    | (refine wkA 15 (v := .bool false) ?_ ?_; · exact Y.eql_is (decide_eq_false hf) rfl rfl)
    | (refine wkA 30 (v := .bool true) ?_ ?_; · exact Y.neq_is (by rw [decide_eq_false hf]; rfl) rfl rfl)
    | (refine wkA 32 (v := .bool true) ?_ ?_; · exact Y.lss_b (decide_eq_true hm) rfl rfl)
    | (refine wkA 39 (v := .int .i64 ((now.length + f.length : Nat) : Int)) ?_ ?_; · exact Y.add rfl rfl (by rw [IntWalk.i64_in _ (by omega)]; omega))
    | (refine wkA 40 (v := .bool true) ?_ ?_; · exact Y.gtr_b (decide_eq_true (by omega)) rfl rfl)
    | refine wkV ?_
    | apply TL.turns (Enters.func (by rfl) (by kernel_rfl) (by rfl)) (bdlen_turns b4 now.length cb p ab _ _ (by omega)) permA (by rfl) | apply TL.turns (Enters.plain (by kernel_rfl) (by rfl)) (bdlen_turns b4 now.length cb p ab _ _ (by omega)) permA (by rfl)
    | refine wkP ?_
    | refine TR.seq ?_ | refine TR.region (by rfl) ?_ | refine TL.nil ?_ | refine TQ.then_R ?_ | refine TQ.begin (by assumption) pkA ?_
    | ((with_reducible apply TL.storeE); (· rfl); (· rfl); (· rfl); (· exact pkA); (· infer_instance)) | ((with_reducible apply TL.store_whole); (· rfl); (· rfl); (· exact oneA); (· rfl); (· exact pkA); (· rfl))
    | refine TR.block ?_ | refine TR.ret ?_ | refine TR.skip ?_ | refine TR.exit ?_ | refine TR.cond rfl ?_
    | refine TQ.down ?_ | refine TQ.in_exit' rfl ?_
    | refine TL.guard_yes rfl rfl ?_ | refine TL.guard_no rfl rfl rfl rfl ?_ | refine TL.guard_no0 rfl rfl rfl ?_ | refine TL.guard_undef rfl rfl rfl ?_ | refine TL.guard_undef0 rfl rfl ?_ | refine TL.guard rfl rfl rfl ?_
    | refine Br.t rfl ?_ | refine Br.f rfl ?_ | refine Br.ky kpA ?_ | refine Br.kn kpA ?_ | refine Br.nky kpA ?_ | refine Br.nkn kpA ?_
    | refine Br.eq0 (fun _ => ?_) (fun _ => ?_) | refine Br.neq0 (fun _ => ?_) (fun _ => ?_) | refine Br.eq (fun _ => ?_) (fun _ => ?_) | refine Br.neq (fun _ => ?_) (fun _ => ?_) | refine Br.not (fun _ => ?_) (fun _ => ?_) | refine Br.dec (fun _ => ?_) (fun _ => ?_) | refine Br.bool (fun _ => ?_) (fun _ => ?_)
    | ((with_reducible apply TL.alloc_ag); (· rfl); intro _) | ((with_reducible apply TL.alloc_sc); (· rfl); (· rfl); intro _) | ((with_reducible apply TL.box_ag); (· rfl); (· rfl); intro _) | ((with_reducible apply TL.box_sc); (· rfl); (· rfl); (· rfl); intro _) | fail)
            refine TQ.goes (k + 1, vo, p, .slice ab now.length cb) ⟨rfl, hp, fun h => HB.out (by rw [HW.out] at h; exact h)⟩ hgx (.refl _) hrc pkA ?_
            dsimp only
            rw [HW.out]
            exact selF
          | false =>
            have hlong : 32 < now.length + f.length := hc.resolve_left (by decide)
            repeat' (first
    | refine wkQ ?_
    | (refine wkA 15 (v := .bool false) ?_ ?_; · exact Y.eql_is (decide_eq_false hf) rfl rfl)
    | (refine wkA 30 (v := .bool true) ?_ ?_; · exact Y.neq_is (by rw [decide_eq_false hf]; rfl) rfl rfl)
    | (refine wkA 32 (v := .bool true) ?_ ?_; · exact Y.lss_b (decide_eq_true hm) rfl rfl)
    | (refine wkA 39 (v := .int .i64 ((now.length + f.length : Nat) : Int)) ?_ ?_; · exact Y.add rfl rfl (by rw [IntWalk.i64_in _ (by omega)]; omega))
    | (refine wkA 40 (v := .bool true) ?_ ?_; · exact Y.gtr_b (decide_eq_true (by omega)) rfl rfl)
    | refine wkV ?_
    | apply TL.turns (Enters.func (by rfl) (by kernel_rfl) (by rfl)) (bdlen_turns b4 now.length cb p ab _ _ (by omega)) permA (by rfl) | apply TL.turns (Enters.plain (by kernel_rfl) (by rfl)) (bdlen_turns b4 now.length cb p ab _ _ (by omega)) permA (by rfl)
    | refine wkP ?_
    | refine TR.seq ?_ | refine TR.region (by rfl) ?_ | refine TL.nil ?_ | refine TQ.then_R ?_ | refine TQ.begin (by assumption) pkA ?_
    | ((with_reducible apply TL.storeE); (· rfl); (· rfl); (· rfl); (· exact pkA); (· infer_instance)) | ((with_reducible apply TL.store_whole); (· rfl); (· rfl); (· exact oneA); (· rfl); (· exact pkA); (· rfl))
    | refine TR.block ?_ | refine TR.ret ?_ | refine TR.skip ?_ | refine TR.exit ?_ | refine TR.cond rfl ?_
    | refine TQ.down ?_ | refine TQ.in_exit' rfl ?_
    | refine TL.guard_yes rfl rfl ?_ | refine TL.guard_no rfl rfl rfl rfl ?_ | refine TL.guard_no0 rfl rfl rfl ?_ | refine TL.guard_undef rfl rfl rfl ?_ | refine TL.guard_undef0 rfl rfl ?_ | refine TL.guard rfl rfl rfl ?_
    | refine Br.t rfl ?_ | refine Br.f rfl ?_ | refine Br.ky kpA ?_ | refine Br.kn kpA ?_ | refine Br.nky kpA ?_ | refine Br.nkn kpA ?_
    | refine Br.eq0 (fun _ => ?_) (fun _ => ?_) | refine Br.neq0 (fun _ => ?_) (fun _ => ?_) | refine Br.eq (fun _ => ?_) (fun _ => ?_) | refine Br.neq (fun _ => ?_) (fun _ => ?_) | refine Br.not (fun _ => ?_) (fun _ => ?_) | refine Br.dec (fun _ => ?_) (fun _ => ?_) | refine Br.bool (fun _ => ?_) (fun _ => ?_)
    | ((with_reducible apply TL.alloc_ag); (· rfl); intro _) | ((with_reducible apply TL.alloc_sc); (· rfl); (· rfl); intro _) | ((with_reducible apply TL.box_ag); (· rfl); (· rfl); intro _) | ((with_reducible apply TL.box_sc); (· rfl); (· rfl); (· rfl); intro _) | fail)
            refine TQ.goes (k + 1, vo, p, .slice ab now.length cb) ⟨rfl, hp, fun h => HB.out (by rw [HW.out] at h; exact h)⟩ hgx (.refl _) hrc pkA ?_
            dsimp only
            rw [HW.out]
            exact selF
        · rw [if_neg hm] at hwn
          have HW := Hn.mk hwn
          clear hwn
          cases cut with
          | true =>
            repeat' (first
    | refine wkQ ?_
    | (refine wkA 15 (v := .bool false) ?_ ?_; · exact Y.eql_is (decide_eq_false hf) rfl rfl)
    | (refine wkA 30 (v := .bool true) ?_ ?_; · exact Y.neq_is (by rw [decide_eq_false hf]; rfl) rfl rfl)
    | (refine wkA 32 (v := .bool false) ?_ ?_; · exact Y.lss_b (decide_eq_false hm) rfl rfl)
    | (refine wkA 39 (v := .int .i64 ((now.length + f.length : Nat) : Int)) ?_ ?_; · exact Y.add rfl rfl (by rw [IntWalk.i64_in _ (by omega)]; omega))
    | (refine wkA 40 (v := .bool true) ?_ ?_; · exact Y.gtr_b (decide_eq_true (by omega)) rfl rfl)
    | refine wkV ?_
    | apply TL.turns (Enters.func (by rfl) (by kernel_rfl) (by rfl)) (bdlen_turns b4 now.length cb p ab _ _ (by omega)) permA (by rfl) | apply TL.turns (Enters.plain (by kernel_rfl) (by rfl)) (bdlen_turns b4 now.length cb p ab _ _ (by omega)) permA (by rfl)
    | refine wkP ?_
    | refine TR.seq ?_ | refine TR.region (by rfl) ?_ | refine TL.nil ?_ | refine TQ.then_R ?_ | refine TQ.begin (by assumption) pkA ?_
    | ((with_reducible apply TL.storeE); (· rfl); (· rfl); (· rfl); (· exact pkA); (· infer_instance)) | ((with_reducible apply TL.store_whole); (· rfl); (· rfl); (· exact oneA); (· rfl); (· exact pkA); (· rfl))
    | refine TR.block ?_ | refine TR.ret ?_ | refine TR.skip ?_ | refine TR.exit ?_ | refine TR.cond rfl ?_
    | refine TQ.down ?_ | refine TQ.in_exit' rfl ?_
    | refine TL.guard_yes rfl rfl ?_ | refine TL.guard_no rfl rfl rfl rfl ?_ | refine TL.guard_no0 rfl rfl rfl ?_ | refine TL.guard_undef rfl rfl rfl ?_ | refine TL.guard_undef0 rfl rfl ?_ | refine TL.guard rfl rfl rfl ?_
    | refine Br.t rfl ?_ | refine Br.f rfl ?_ | refine Br.ky kpA ?_ | refine Br.kn kpA ?_ | refine Br.nky kpA ?_ | refine Br.nkn kpA ?_
    | refine Br.eq0 (fun _ => ?_) (fun _ => ?_) | refine Br.neq0 (fun _ => ?_) (fun _ => ?_) | refine Br.eq (fun _ => ?_) (fun _ => ?_) | refine Br.neq (fun _ => ?_) (fun _ => ?_) | refine Br.not (fun _ => ?_) (fun _ => ?_) | refine Br.dec (fun _ => ?_) (fun _ => ?_) | refine Br.bool (fun _ => ?_) (fun _ => ?_)
    | ((with_reducible apply TL.alloc_ag); (· rfl); intro _) | ((with_reducible apply TL.alloc_sc); (· rfl); (· rfl); intro _) | ((with_reducible apply TL.box_ag); (· rfl); (· rfl); intro _) | ((with_reducible apply TL.box_sc); (· rfl); (· rfl); (· rfl); intro _) | fail)
            refine TQ.goes (k + 1, vo, p, .slice ab now.length cb) ⟨rfl, hp, fun h => HB.out (by rw [HW.out] at h; exact h)⟩ hgx (.refl _) hrc pkA ?_
            dsimp only
            rw [HW.out]
            exact selF
          | false =>
            have hlong : 32 < now.length + f.length := hc.resolve_left (by decide)
            repeat' (first
    | refine wkQ ?_
    | (refine wkA 15 (v := .bool false) ?_ ?_; · exact Y.eql_is (decide_eq_false hf) rfl rfl)
    | (refine wkA 30 (v := .bool true) ?_ ?_; · exact Y.neq_is (by rw [decide_eq_false hf]; rfl) rfl rfl)
    | (refine wkA 32 (v := .bool false) ?_ ?_; · exact Y.lss_b (decide_eq_false hm) rfl rfl)
    | (refine wkA 39 (v := .int .i64 ((now.length + f.length : Nat) : Int)) ?_ ?_; · exact Y.add rfl rfl (by rw [IntWalk.i64_in _ (by omega)]; omega))
    | (refine wkA 40 (v := .bool true) ?_ ?_; · exact Y.gtr_b (decide_eq_true (by omega)) rfl rfl)
    | refine wkV ?_
    | apply TL.turns (Enters.func (by rfl) (by kernel_rfl) (by rfl)) (bdlen_turns b4 now.length cb p ab _ _ (by omega)) permA (by rfl) | apply TL.turns (Enters.plain (by kernel_rfl) (by rfl)) (bdlen_turns b4 now.length cb p ab _ _ (by omega)) permA (by rfl)
    | refine wkP ?_
    | refine TR.seq ?_ | refine TR.region (by rfl) ?_ | refine TL.nil ?_ | refine TQ.then_R ?_ | refine TQ.begin (by assumption) pkA ?_
    | ((with_reducible apply TL.storeE); (· rfl); (· rfl); (· rfl); (· exact pkA); (· infer_instance)) | ((with_reducible apply TL.store_whole); (· rfl); (· rfl); (· exact oneA); (· rfl); (· exact pkA); (· rfl))
    | refine TR.block ?_ | refine TR.ret ?_ | refine TR.skip ?_ | refine TR.exit ?_ | refine TR.cond rfl ?_
    | refine TQ.down ?_ | refine TQ.in_exit' rfl ?_
    | refine TL.guard_yes rfl rfl ?_ | refine TL.guard_no rfl rfl rfl rfl ?_ | refine TL.guard_no0 rfl rfl rfl ?_ | refine TL.guard_undef rfl rfl rfl ?_ | refine TL.guard_undef0 rfl rfl ?_ | refine TL.guard rfl rfl rfl ?_
    | refine Br.t rfl ?_ | refine Br.f rfl ?_ | refine Br.ky kpA ?_ | refine Br.kn kpA ?_ | refine Br.nky kpA ?_ | refine Br.nkn kpA ?_
    | refine Br.eq0 (fun _ => ?_) (fun _ => ?_) | refine Br.neq0 (fun _ => ?_) (fun _ => ?_) | refine Br.eq (fun _ => ?_) (fun _ => ?_) | refine Br.neq (fun _ => ?_) (fun _ => ?_) | refine Br.not (fun _ => ?_) (fun _ => ?_) | refine Br.dec (fun _ => ?_) (fun _ => ?_) | refine Br.bool (fun _ => ?_) (fun _ => ?_)
    | ((with_reducible apply TL.alloc_ag); (· rfl); intro _) | ((with_reducible apply TL.alloc_sc); (· rfl); (· rfl); intro _) | ((with_reducible apply TL.box_ag); (· rfl); (· rfl); intro _) | ((with_reducible apply TL.box_sc); (· rfl); (· rfl); (· rfl); intro _) | fail)
            refine TQ.goes (k + 1, vo, p, .slice ab now.length cb) ⟨rfl, hp, fun h => HB.out (by rw [HW.out] at h; exact h)⟩ hgx (.refl _) hrc pkA ?_
            dsimp only
            rw [HW.out]
            exact selF
      · rw [if_neg hc] at hwn
        have hcut : cut = false := by
          cases cut with
          | false => rfl
          | true => exact absurd (.inl rfl) hc
        subst hcut
        have hshort : ¬ 32 < now.length + f.length := fun h => hc (.inr h)
        have hne : ¬ now ++ f = [] := fun h => hf (List.append_eq_nil_iff.1 h).2
        by_cases hm : frm < 0
        · rw [if_pos hm] at hwn
          have HW := Hn.mk hwn
          clear hwn hc
          repeat' (first
    | refine wkQ ?_
    | (refine wkA 15 (v := .bool false) ?_ ?_; · exact Y.eql_is (decide_eq_false hf) rfl rfl)
    | (refine wkA 30 (v := .bool true) ?_ ?_; · exact Y.neq_is (by rw [decide_eq_false hf]; rfl) rfl rfl)
    | (refine wkA 32 (v := .bool true) ?_ ?_; · exact Y.lss_b (decide_eq_true hm) rfl rfl)
    | (refine wkA 39 (v := .int .i64 ((now.length + f.length : Nat) : Int)) ?_ ?_; · exact Y.add rfl rfl (by rw [IntWalk.i64_in _ (by omega)]; omega))
    | (refine wkA 40 (v := .bool false) ?_ ?_; · exact Y.gtr_b (decide_eq_false (by omega)) rfl rfl)
    | refine wkV ?_
    | apply TL.turns (Enters.func (by rfl) (by kernel_rfl) (by rfl)) (bdlen_turns b4 now.length cb p ab _ _ (by omega)) permA (by rfl) | apply TL.turns (Enters.plain (by kernel_rfl) (by rfl)) (bdlen_turns b4 now.length cb p ab _ _ (by omega)) permA (by rfl)
    | (refine TL.call (Enters.plain (by kernel_rfl) (by rfl)) (by rfl) (Does.perm (bdstr_does hp _ now f _ _ (by omega)) permA) ?_; (rintro e g2 Ln _ ⟨a3, c3, kk, k1, k2, k3⟩; have k2 := k2.symm; subst k1; subst k2; subst k3; refine CallK.ret ?_))
    | refine wkP ?_
    | refine TR.seq ?_ | refine TR.region (by rfl) ?_ | refine TL.nil ?_ | refine TQ.then_R ?_ | refine TQ.begin (by assumption) pkA ?_
    | ((with_reducible apply TL.storeE); (· rfl); (· rfl); (· rfl); (· exact pkA); (· infer_instance)) | ((with_reducible apply TL.store_whole); (· rfl); (· rfl); (· exact oneA); (· rfl); (· exact pkA); (· rfl))
    | refine TR.block ?_ | refine TR.ret ?_ | refine TR.skip ?_ | refine TR.exit ?_ | refine TR.cond rfl ?_
    | refine TQ.down ?_ | refine TQ.in_exit' rfl ?_
    | refine TL.guard_yes rfl rfl ?_ | refine TL.guard_no rfl rfl rfl rfl ?_ | refine TL.guard_no0 rfl rfl rfl ?_ | refine TL.guard_undef rfl rfl rfl ?_ | refine TL.guard_undef0 rfl rfl ?_ | refine TL.guard rfl rfl rfl ?_
    | refine Br.t rfl ?_ | refine Br.f rfl ?_ | refine Br.ky kpA ?_ | refine Br.kn kpA ?_ | refine Br.nky kpA ?_ | refine Br.nkn kpA ?_
    | refine Br.eq0 (fun _ => ?_) (fun _ => ?_) | refine Br.neq0 (fun _ => ?_) (fun _ => ?_) | refine Br.eq (fun _ => ?_) (fun _ => ?_) | refine Br.neq (fun _ => ?_) (fun _ => ?_) | refine Br.not (fun _ => ?_) (fun _ => ?_) | refine Br.dec (fun _ => ?_) (fun _ => ?_) | refine Br.bool (fun _ => ?_) (fun _ => ?_)
    | ((with_reducible apply TL.alloc_ag); (· rfl); intro _) | ((with_reducible apply TL.alloc_sc); (· rfl); (· rfl); intro _) | ((with_reducible apply TL.box_ag); (· rfl); (· rfl); intro _) | ((with_reducible apply TL.box_sc); (· rfl); (· rfl); (· rfl); intro _) | fail)
          refine TQ.goes (k + 1, vo, .pointer (some ⟨b4, 0, none⟩), .slice a3 (now ++ f).length c3) ⟨rfl, .inr rfl, fun h => absurd (by rw [HW.out] at h; exact h) hne⟩ hgx (.refl _) hrc pkA ?_
          dsimp only
          rw [HW.out]
          exact selF
        · rw [if_neg hm] at hwn
          have HW := Hn.mk hwn
          clear hwn hc
          repeat' (first
    | refine wkQ ?_
    | (refine wkA 15 (v := .bool false) ?_ ?_; · exact Y.eql_is (decide_eq_false hf) rfl rfl)
    | (refine wkA 30 (v := .bool true) ?_ ?_; · exact Y.neq_is (by rw [decide_eq_false hf]; rfl) rfl rfl)
    | (refine wkA 32 (v := .bool false) ?_ ?_; · exact Y.lss_b (decide_eq_false hm) rfl rfl)
    | (refine wkA 39 (v := .int .i64 ((now.length + f.length : Nat) : Int)) ?_ ?_; · exact Y.add rfl rfl (by rw [IntWalk.i64_in _ (by omega)]; omega))
    | (refine wkA 40 (v := .bool false) ?_ ?_; · exact Y.gtr_b (decide_eq_false (by omega)) rfl rfl)
    | refine wkV ?_
    | apply TL.turns (Enters.func (by rfl) (by kernel_rfl) (by rfl)) (bdlen_turns b4 now.length cb p ab _ _ (by omega)) permA (by rfl) | apply TL.turns (Enters.plain (by kernel_rfl) (by rfl)) (bdlen_turns b4 now.length cb p ab _ _ (by omega)) permA (by rfl)
    | (refine TL.call (Enters.plain (by kernel_rfl) (by rfl)) (by rfl) (Does.perm (bdstr_does hp _ now f _ _ (by omega)) permA) ?_; (rintro e g2 Ln _ ⟨a3, c3, kk, k1, k2, k3⟩; have k2 := k2.symm; subst k1; subst k2; subst k3; refine CallK.ret ?_))
    | refine wkP ?_
    | refine TR.seq ?_ | refine TR.region (by rfl) ?_ | refine TL.nil ?_ | refine TQ.then_R ?_ | refine TQ.begin (by assumption) pkA ?_
    | ((with_reducible apply TL.storeE); (· rfl); (· rfl); (· rfl); (· exact pkA); (· infer_instance)) | ((with_reducible apply TL.store_whole); (· rfl); (· rfl); (· exact oneA); (· rfl); (· exact pkA); (· rfl))
    | refine TR.block ?_ | refine TR.ret ?_ | refine TR.skip ?_ | refine TR.exit ?_ | refine TR.cond rfl ?_
    | refine TQ.down ?_ | refine TQ.in_exit' rfl ?_
    | refine TL.guard_yes rfl rfl ?_ | refine TL.guard_no rfl rfl rfl rfl ?_ | refine TL.guard_no0 rfl rfl rfl ?_ | refine TL.guard_undef rfl rfl rfl ?_ | refine TL.guard_undef0 rfl rfl ?_ | refine TL.guard rfl rfl rfl ?_
    | refine Br.t rfl ?_ | refine Br.f rfl ?_ | refine Br.ky kpA ?_ | refine Br.kn kpA ?_ | refine Br.nky kpA ?_ | refine Br.nkn kpA ?_
    | refine Br.eq0 (fun _ => ?_) (fun _ => ?_) | refine Br.neq0 (fun _ => ?_) (fun _ => ?_) | refine Br.eq (fun _ => ?_) (fun _ => ?_) | refine Br.neq (fun _ => ?_) (fun _ => ?_) | refine Br.not (fun _ => ?_) (fun _ => ?_) | refine Br.dec (fun _ => ?_) (fun _ => ?_) | refine Br.bool (fun _ => ?_) (fun _ => ?_)
    | ((with_reducible apply TL.alloc_ag); (· rfl); intro _) | ((with_reducible apply TL.alloc_sc); (· rfl); (· rfl); intro _) | ((with_reducible apply TL.box_ag); (· rfl); (· rfl); intro _) | ((with_reducible apply TL.box_sc); (· rfl); (· rfl); (· rfl); intro _) | fail)
          refine TQ.goes (k + 1, vo, .pointer (some ⟨b4, 0, none⟩), .slice a3 (now ++ f).length c3) ⟨rfl, .inr rfl, fun h => absurd (by rw [HW.out] at h; exact h) hne⟩ hgx (.refl _) hrc pkA ?_
          dsimp only
          rw [HW.out]
          exact selF
  · rintro D ⟨k, vo, p, bv⟩ gx ⟨hk, hp, hbv⟩ hgx _
    rw [List.length_map] at hk
    dsimp only [wL, List.cons_append, List.nil_append] at hk hp hbv ⊢
    subst hk
    clear it hok hTb hT4 SG hTl
    generalize wst T T.length = st at *
    refine TQ.row_slice (v := vo) (.there (.there .here)) ?_
    rintro av cv rfl _
    repeat' (first
    | refine wkQ ?_
    | refine wkV ?_
    | refine stS ?_ | (refine stB ?_; intro _) | (refine stC ?_; constructor <;> intro _))
    refine TQ.endM [D] rfl (.cons pkA .refl) ?_
    refine TQ.freeze pkA fun g2 hg2 HS => ?_
    refine TQ.endR1 (L' := L) Tryz.results271 rvA rfl (hg1.trans (hgx.trans hg2)) ?_ selF
    exact ⟨_, rfl, rfl, HS⟩
  · rintro D c y g1 h
    exact h.elim
end Go.Proofs.YtgollffmdpejiaaGreatDoor
namespace Go.Proofs.YtgollffmdpejiaaGreatDoor
open Go Go.RowKit Go.TL
set_option maxRecDepth 100000

theorem cNaNS_gives (s : List UInt8) (g : Gh) (L : List Ent) : Gives Tryz.prog 344 #[str s] g L (.bool false) := by
  refine .of (Does.of1 Tryz.func344 rfl Tryz.ntmps344 rfl ?_)
  repeat' (first
    | refine wkQ ?_
    | refine wkV ?_
    | refine stS ?_ | (refine stB ?_; intro _) | (refine stC ?_; constructor <;> intro _))
  refine TQ.endR1 (L' := L) Tryz.results344 rvA rfl (.refl _) ?_ selF
  exact ⟨by simp, rfl, rfl⟩
theorem slNaNS_gives (s : List UInt8) (g : Gh) (L : List Ent) : Gives Tryz.prog 326 #[str s] g L (.bool false) := by
  refine .of (Does.of1 Tryz.func326 rfl Tryz.ntmps326 rfl ?_)
  repeat' (first
    | refine wkQ ?_
    | refine wkV ?_
    | refine stS ?_ | (refine stB ?_; intro _) | (refine stC ?_; constructor <;> intro _))
  refine TQ.endR1 (L' := L) Tryz.results326 rvA rfl (.refl _) ?_ selF
  exact ⟨by simp, rfl, rfl⟩
theorem cLess_gives (s r : List UInt8) (g : Gh) (L : List Ent) : Gives Tryz.prog 325 #[str s, str r] g L (.bool (Op.bytesLess s r)) := by
  refine .of (Does.of2 Tryz.func325 rfl Tryz.ntmps325 rfl ?_)
  have A := fun L => cNaNS_gives s g L
  repeat' (first
    | refine wkQ ?_
    | (refine wkA 15 (v := .bool (Op.bytesLess s r)) ?_ ?_; · exact Y.lss_str rfl rfl)
    | refine wkV ?_
    | refine wkD (A _) ?_
    | refine stS ?_ | (refine stB ?_; intro _) | (refine stC ?_; constructor <;> intro _))
  refine TQ.endR1 (L' := L) Tryz.results325 rvA rfl (.refl _) ?_ selF
  exact ⟨rfl, rfl, rfl⟩
set_option maxHeartbeats 16000000 in
theorem bsearch_gives (l : List (List UInt8)) (w : List UInt8) (F : Nat) (v : Value) (g : Gh) (L : List Ent) (hS : Sl g v l.length 1 (strs l)) (_hl : l.length ≤ 1000000) (hF : l.length < 2 ^ F) : Gives Tryz.prog 303 #[v, str w] g L (.tuple #[.int .i64 (bsL l w F 0 l.length : Nat), .bool (decide (bsL l w F 0 l.length < l.length ∧ l.getD (bsL l w F 0 l.length) [] = w))]) := by
  refine .of (Does.of2 Tryz.func303 rfl Tryz.ntmps303 rfl ?_)
  obtain ⟨ao, cap, rfl⟩ := hS.slice
  obtain ⟨R, hR⟩ : ∃ R, R = bsL l w F 0 l.length := ⟨_, rfl⟩
  rw [← hR]
  repeat' (first
    | refine wkQ ?_
    | refine wkV ?_
    | refine stS ?_ | (refine stB ?_; intro _) | (refine stC ?_; constructor <;> intro _))
  refine TC.loopL (α := Nat × Nat × Nat) (fun z => z.1 ≤ z.2.1 ∧ z.2.1 ≤ l.length ∧ z.2.1 - z.1 < 2 ^ z.2.2 ∧ bsL l w z.2.2 z.1 z.2.1 = R) (fun z => z.2.1 - z.1) (fun z _ => [(7, .int .i64 (z.1 : Nat)), (8, .int .i64 (z.2.1 : Nat)), (6, .int .i64 (l.length : Nat)), (0, .slice ao l.length cap), (1, str w)]) (fun _ => L) (0, l.length, F) ⟨Nat.zero_le _, Nat.le_refl _, by simpa using hF, hR.symm⟩ subA selF ?_
  clear hR hF
  rintro ⟨i, j, f⟩ ⟨hij, hjn, hf, hR⟩
  dsimp only at hij hjn hf hR ⊢
  by_cases hlt : i < j
  · cases f with
    | zero => rw [Nat.pow_zero] at hf; omega
    | succ f =>
    rw [Nat.pow_succ] at hf
    rw [bsL, if_pos hlt] at hR
    obtain ⟨h, hh⟩ : ∃ h, h = (i + j) / 2 := ⟨_, rfl⟩
    rw [← hh] at hR
    have hhi : h < l.length := by omega
    obtain ⟨x, hx⟩ : ∃ c, l[h]? = some c := ⟨_, List.getElem?_eq_getElem hhi⟩
    rw [show l.getD h [] = x by rw [List.getD_eq_getElem?_getD, hx]; rfl] at hR
    obtain ⟨b1, o1, rfl, hgx⟩ := hS.elem (i := h) hhi (by decide)
    have hld : g.cell b1 (o1 + h * 1) = some (str x) := hgx 0 _ (by rw [Nat.mul_one]; exact strs_get hx)
    have LE := fun L => cLess_gives x w g L
    have w1 : IntKind.i64.wrap ((i : Int) + (j : Nat)) = ((i + j : Nat) : Int) := by rw [IntWalk.i64_in _ (by omega)]; omega
    have w2 : IntKind.u64.wrap ((i + j : Nat) : Int) = ((i + j : Nat) : Int) := by rw [IntKind.wrap_u64]; omega
    have w3 : IntKind.i64.wrap ((h : Nat) : Int) = ((h : Nat) : Int) := by rw [IntWalk.i64_in _ (by omega)]
    have w4 : IntKind.i64.wrap ((h : Int) + 1) = ((h + 1 : Nat) : Int) := by rw [IntWalk.i64_in _ (by omega)]; omega
    have w5 : ((((i + j) / 2 ^ 1 : Nat) : Nat) : Int) = ((h : Nat) : Int) := by rw [hh]
    have W1 := Hn.mk w1
    have W2 := Hn.mk w2
    have W3 := Hn.mk w3
    have W4 := Hn.mk w4
    have W5 := Hn.mk w5
    have HF : Hn (∀ q, 2 ^ f = q → j - (h + 1) < q ∧ h - i < q) := ⟨fun q hq => by rw [hq] at hf; omega⟩
    have hb1 : h + 1 ≤ j := by omega
    have hb2 : i ≤ h := by omega
    clear hx hgx hf w1 w2 w3 w4 w5 hh hS
    cases hle : Op.bytesLess x w with
    | true =>
      rw [hle] at LE hR
      rw [if_pos rfl] at hR
      repeat' (first
    | refine wkQ ?_
    | (refine wkA 18 (v := .int .i64 ((i + j : Nat) : Int)) ?_ ?_; · exact Y.add rfl rfl W1.out)
    | (refine wkA 19 (v := .int .u64 ((i + j : Nat) : Int)) ?_ ?_; · exact Y.conv_int rfl W2.out)
    | (refine wkA 20 (v := .int .u64 (((i + j) / 2 ^ 1 : Nat) : Int)) ?_ ?_; · exact Y.shrN rfl rfl rfl rfl (by decide))
    | (refine wkA 21 (v := .int .i64 ((h : Nat) : Int)) ?_ ?_; · exact Y.conv_int rfl (by rw [W5.out]; exact W3.out))
    | (refine wkA 29 (v := .int .i64 ((h + 1 : Nat) : Int)) ?_ ?_; · exact Y.add rfl rfl W4.out)
    | refine wkV ?_
    | refine wkM ?_
    | refine wkD (LE _) ?_
    | refine stS ?_ | (refine stB ?_; intro _) | (refine stC ?_; constructor <;> intro _))
      refine TQ.round (h + 1, j, f) ?_ ?_ rfl subA selF
      · exact ⟨hb1, hjn, (HF.out _ rfl).1, hR⟩
      · show j - (h + 1) < j - i
        omega
    | false =>
      rw [hle] at LE hR
      rw [if_neg (by decide)] at hR
      repeat' (first
    | refine wkQ ?_
    | (refine wkA 18 (v := .int .i64 ((i + j : Nat) : Int)) ?_ ?_; · exact Y.add rfl rfl W1.out)
    | (refine wkA 19 (v := .int .u64 ((i + j : Nat) : Int)) ?_ ?_; · exact Y.conv_int rfl W2.out)
    | (refine wkA 20 (v := .int .u64 (((i + j) / 2 ^ 1 : Nat) : Int)) ?_ ?_; · exact Y.shrN rfl rfl rfl rfl (by decide))
    | (refine wkA 21 (v := .int .i64 ((h : Nat) : Int)) ?_ ?_; · exact Y.conv_int rfl (by rw [W5.out]; exact W3.out))
    | refine wkV ?_
    | refine wkM ?_
    | refine wkD (LE _) ?_
    | refine stS ?_ | (refine stB ?_; intro _) | (refine stC ?_; constructor <;> intro _))
      refine TQ.round (i, h, f) ?_ ?_ rfl subA selF
      · exact ⟨hb2, by dsimp only; omega, (HF.out _ rfl).2, hR⟩
      · show h - i < j - i
        omega
  · have hRi : R = i := by
      rw [← hR]
      cases f with
      | zero => rw [bsL]
      | succ f => rw [bsL, if_neg hlt]
    clear hR
    subst hRi
    by_cases hn : R < l.length
    case neg =>
      rw [decide_eq_false (fun h => hn h.1)]
      clear hS
      repeat' (first
    | refine wkQ ?_
    | (refine wkA 34 (v := .bool false) ?_ ?_; · exact Y.lss_b (decide_eq_false (by omega)) rfl rfl)
    | refine wkV ?_
    | refine stS ?_ | (refine stB ?_; intro _) | (refine stC ?_; constructor <;> intro _))
      refine TQ.endR2 (L' := L) Tryz.results303 rvA rvA rfl (.refl _) ?_ selF
      exact ⟨rfl, rfl, rfl⟩
    obtain ⟨x, hx⟩ : ∃ c, l[R]? = some c := ⟨_, List.getElem?_eq_getElem hn⟩
    obtain ⟨b1, o1, rfl, hgx⟩ := hS.elem (i := R) hn (by decide)
    have hld : g.cell b1 (o1 + R * 1) = some (str x) := hgx 0 _ (by rw [Nat.mul_one]; exact strs_get hx)
    have hgd : l.getD R [] = x := by rw [List.getD_eq_getElem?_getD, hx]; rfl
    have NA := fun s L => slNaNS_gives s g L
    rw [hgd]
    clear hS hgx hx hgd
    by_cases he : x = w
    · rw [decide_eq_true ⟨hn, he⟩]
      repeat' (first
    | refine wkQ ?_
    | (refine wkA 34 (v := .bool true) ?_ ?_; · exact Y.lss_b (decide_eq_true (by omega)) rfl rfl)
    | (refine wkA 41 (v := .bool true) ?_ ?_; · exact Y.eql_is (decide_eq_true he) rfl rfl)
    | refine wkV ?_
    | refine wkM ?_
    | refine stS ?_ | (refine stB ?_; intro _) | (refine stC ?_; constructor <;> intro _))
      refine TQ.endR2 (L' := L) Tryz.results303 rvA rvA rfl (.refl _) ?_ selF
      exact ⟨rfl, rfl, rfl⟩
    · rw [decide_eq_false (fun h => he h.2)]
      repeat' (first
    | refine wkQ ?_
    | (refine wkA 34 (v := .bool true) ?_ ?_; · exact Y.lss_b (decide_eq_true (by omega)) rfl rfl)
    | (refine wkA 41 (v := .bool false) ?_ ?_; · exact Y.eql_is (decide_eq_false he) rfl rfl)
    | refine wkV ?_
    | refine wkM ?_
    | refine wkD (NA _ _) ?_
    | refine stS ?_ | (refine stB ?_; intro _) | (refine stC ?_; constructor <;> intro _))
      refine TQ.endR2 (L' := L) Tryz.results303 rvA rvA rfl (.refl _) ?_ selF
      exact ⟨rfl, rfl, rfl⟩
def tx_stop : List UInt8 := [97, 32, 97, 110, 32, 97, 110, 100, 32, 97, 114, 101, 32, 97, 115, 32, 97, 116, 32, 98, 101, 32, 98, 117, 116, 32, 98, 121, 32, 102, 111, 114, 32, 105, 102, 32, 105, 110, 32, 105, 110, 116, 111, 32, 105, 115, 32, 105, 116, 32, 110, 111, 32, 110, 111, 116, 32, 111, 102, 32, 111, 110, 32, 111, 114, 32, 115, 117, 99, 104, 32, 116, 104, 97, 116, 32, 116, 104, 101, 32, 116, 104, 101, 105, 114, 32, 116, 104, 101, 110, 32, 116, 104, 101, 114, 101, 32, 116, 104, 101, 115, 101, 32, 116, 104, 101, 121, 32, 116, 104, 105, 115, 32, 116, 111, 32, 119, 97, 115, 32, 119, 105, 108, 108, 32, 119, 105, 116, 104]
set_option maxHeartbeats 4000000 in
theorem stops_does (g : Gh) (L : List Ent) (hT : GSp g) : Does Tryz.prog 304 #[] g L (fun e g' L' => ∃ v, e = .returned v ∧ L' = L ∧ Sl g' v stopT.length 1 (strs stopT)) := by
  refine Does.of0 Tryz.func304 rfl Tryz.ntmps304 rfl ?_
  have A := fun L => fields_does tx_stop g L (by decide +kernel) (by decide +kernel) hT
  rw [show Lib.fields tx_stop = stopT by decide +kernel] at A
  clear hT
  repeat' (first
    | refine wkQ ?_
    | refine wkV ?_
    | (refine TL.call (Enters.plain (by kernel_rfl) (by rfl)) (by rfl) (A _) ?_; (rintro e g1 Ln hg1 ⟨vr, k1, k2, k3⟩; have k2 := k2.symm; subst k1; subst k2; (obtain ⟨ar, cr, rfl⟩ := k3.slice; have K3 := Hn.mk k3; clear k3); refine CallK.ret ?_))
    | refine stS ?_ | (refine stB ?_; intro _) | (refine stC ?_; constructor <;> intro _))
  refine TQ.endR1 (L' := L) Tryz.results304 rvA rfl (hg1) ?_ selF
  exact ⟨_, rfl, rfl, K3.out⟩
set_option maxHeartbeats 4000000 in
theorem stop_gives (w : List UInt8) (g : Gh) (L : List Ent) (hT : GSp g) : Gives Tryz.prog 272 #[str w] g L (.bool (stopB w)) := by
  refine .of (Does.of1 Tryz.func272 rfl Tryz.ntmps272 rfl ?_)
  have A := fun L => stops_does g L hT
  have BS := fun v g L (h : Sl g v stopT.length 1 (strs stopT)) => bsearch_gives stopT w 7 v g L h (by decide) (by decide)
  have hb : stopB w = decide (bsL stopT w 7 0 stopT.length < stopT.length ∧ stopT.getD (bsL stopT w 7 0 stopT.length) [] = w) := rfl
  rw [hb]
  generalize decide (bsL stopT w 7 0 stopT.length < stopT.length ∧ stopT.getD (bsL stopT w 7 0 stopT.length) [] = w) = bb at *
  generalize bsL stopT w 7 0 stopT.length = k at *
  clear hT hb
  repeat' (first
    | refine wkQ ?_
    | refine wkV ?_
    | (refine TL.call (Enters.plain (by kernel_rfl) (by rfl)) (by rfl) (A _) ?_; (rintro e g1 Ln hg1 ⟨vr, k1, k2, k3⟩; have k2 := k2.symm; subst k1; subst k2; (have B1 := fun L => BS _ _ L k3; obtain ⟨ar, cr, rfl⟩ := k3.slice; clear k3); refine CallK.ret ?_))
    | refine wkD (B1 _) ?_
    | refine stS ?_ | (refine stB ?_; intro _) | (refine stC ?_; constructor <;> intro _))
  refine TQ.less hg1 ?_
  refine TQ.endR1 (L' := L) Tryz.results272 rvA rfl (.refl _) ?_ selF
  exact ⟨rfl, rfl, rfl⟩
structure WLen (st : WS) : Prop where
  now : st.now.length ≤ 32
  out : ∀ e ∈ st.out, e.1.length ≤ 32
theorem wstep_len {st : WS} {i : Nat} {s : List UInt8} (h : WLen st) : WLen (wstep st i s) := by
  obtain ⟨h1, h2⟩ := h
  unfold wstep
  split
  · split
    · refine ⟨by simp, fun e he => ?_⟩
      rcases List.mem_append.1 he with he | he
      · exact h2 e he
      · obtain rfl := List.mem_singleton.1 he
        exact h1
    · exact ⟨h1, h2⟩
  · split
    · exact ⟨h1, h2⟩
    · rename_i hc
      refine ⟨?_, h2⟩
      rw [List.length_append]
      have : ¬ 32 < st.now.length + s.length := fun h => hc (.inr h)
      omega
theorem wordsL_len (s : List UInt8) : ∀ e ∈ wordsL s, e.1.length ≤ 32 := by
  have h : ∀ (l : List (Nat × List UInt8)) (st : WS), WLen st → WLen (l.foldl (fun st e => wstep st e.1 e.2) st) := by
    intro l
    induction l with
    | nil => exact fun st h => h
    | cons a r ih => exact fun st h => ih _ (wstep_len h)
  exact (h _ _ ⟨by simp, by simp⟩).out
def stemsF : List (List UInt8 × Nat × Nat) → List (List UInt8)
  | [] => []
  | e :: r => if stopB e.1 = true then stemsF r else stemL e.1 :: stemsF r
def stemsL (s : List UInt8) : List (List UInt8) := stemsF (wordsL s)
theorem flatW_get : ∀ (l : List (List UInt8 × Nat × Nat)) (i : Nat) (p : List UInt8 × Nat × Nat), l[i]? = some p → ∀ j u, [str p.1, .int .i64 (p.2.1 : Nat), .int .i64 (p.2.2 : Nat)][j]? = some u → (flatW l)[i * 3 + j]? = some u
  | [], _, _, h => by simp at h
  | (a, b, c) :: r, 0, p, h => by
    simp at h; subst h
    intro j u hu
    match j, hu with
    | 0, hu => exact hu
    | 1, hu => exact hu
    | 2, hu => exact hu
    | j + 3, hu => simp at hu
  | (a, b, c) :: r, i + 1, p, h => by
    rw [List.getElem?_cons_succ] at h
    intro j u hu
    have := flatW_get r i p h j u hu
    rw [show (i + 1) * 3 + j = i * 3 + j + 3 by omega]
    exact this
theorem strs_snoc (l : List (List UInt8)) (a : List UInt8) : strs (l ++ [a]) = strs l ++ [str a] := by simp [strs]
theorem itemsW_len (s : List UInt8) : (itemsW s).length ≤ s.length + 1 := itemsF_len s _ _
def WCnt (k : Nat) (st : WS) : Prop := 2 * st.out.length + (if 0 ≤ st.frm then 1 else 0) ≤ k
theorem wstep_cnt {k i : Nat} {st : WS} {s : List UInt8} (h : WCnt k st) : WCnt (k + 1) (wstep st i s) := by
  unfold WCnt at *
  have h2 : 2 * st.out.length ≤ k := Nat.le_trans (Nat.le_add_right _ _) h
  have h1 : ∀ p : Prop, ∀ [Decidable p], (if p then 1 else 0) ≤ 1 := fun p _ => by split <;> omega
  unfold wstep
  by_cases hs : s = []
  · rw [if_pos hs]
    by_cases h0 : 0 ≤ st.frm
    · rw [if_pos h0] at h
      rw [if_pos h0]
      dsimp only
      rw [if_neg (by decide), List.length_append, List.length_singleton]
      omega
    · rw [if_neg h0]; omega
  · rw [if_neg hs]
    split
    all_goals
      dsimp only
      refine Nat.le_trans (Nat.add_le_add_left (h1 _) _) ?_
      omega
theorem wordsL_count (s : List UInt8) : 2 * (wordsL s).length ≤ s.length + 1 := by
  have h : ∀ (l : List (Nat × List UInt8)) (k : Nat) (st : WS), WCnt k st → WCnt (k + l.length) (l.foldl (fun st e => wstep st e.1 e.2) st) := by
    intro l
    induction l with
    | nil => exact fun k st h => h
    | cons a r ih =>
      intro k st h
      have := ih (k + 1) _ (wstep_cnt (i := a.1) (s := a.2) h)
      rw [List.length_cons, show k + (r.length + 1) = k + 1 + r.length by omega]
      exact this
  have h0 := h (itemsW s) 0 ⟨[], [], -1, false⟩ (by unfold WCnt; decide)
  have hl := itemsW_len s
  unfold WCnt at h0
  show 2 * ((itemsW s).foldl (fun st e => wstep st e.1 e.2) ⟨[], [], -1, false⟩).out.length ≤ s.length + 1
  omega
set_option maxHeartbeats 32000000 in
theorem qwords_does (s : List UInt8) (g : Gh) (L : List Ent) (hs : s.length ≤ 1000000) (hT : GSp g) : Does Tryz.prog 229 #[str s] g L (fun e g' L' => ∃ v, e = .returned v ∧ L' = L ∧ Sl g' v (stemsL s).length 1 (strs (stemsL s))) := by
  refine Does.of1 Tryz.func229 rfl Tryz.ntmps229 rfl ?_
  have A := fun L => words_does s g L (by omega)
  have hl := wordsL_len s
  have hc := wordsL_count s
  obtain ⟨R, hR⟩ : ∃ R, R = stemsL s := ⟨_, rfl⟩
  rw [← hR]
  unfold stemsL at hR
  generalize wordsL s = l at *
  refine TC.row_nil 9 1 ?_
  repeat' (first
    | refine wkQ ?_
    | refine wkV ?_
    | (refine TL.call (Enters.plain (by kernel_rfl) (by rfl)) (by rfl) (A _) ?_; (rintro e g1 Ln hg1 ⟨vr, k1, k2, k3⟩; have k2 := k2.symm; subst k1; subst k2; (obtain ⟨ar, cr, rfl⟩ := k3.slice; have K3 := Hn.mk k3; clear k3); refine CallK.ret ?_))
    | refine stS ?_ | (refine stB ?_; intro _) | (refine stC ?_; constructor <;> intro _))
  clear A
  refine TC.loop (α := Nat × Value × List (List UInt8)) (fun z => z.1 ≤ l.length ∧ z.2.2.length ≤ z.1 ∧ z.2.2 ++ stemsF (l.drop z.1) = R) (fun z => l.length - z.1) (fun z => [(9, .int .i64 (z.1 : Nat)), (8, .int .i64 (l.length : Nat)), (7, .slice ar l.length cr), (3, z.2.1)]) (fun _ => g1) (fun z => .row 9 1 z.2.1 z.2.2.length (strs z.2.2) :: L) (0, .slice none 0 0, []) ⟨Nat.zero_le _, Nat.le_refl _, hR.symm⟩ rfl subA selA ?_
  clear hR
  rintro ⟨i, v, dn⟩ ⟨hi, hdn, hI⟩
  dsimp only at hi hdn hI ⊢
  refine TC.row_slice (v := v) pkA ?_
  rintro av cv rfl _
  by_cases hlt : i < l.length
  · obtain ⟨⟨t, a, b⟩, hx⟩ : ∃ c, l[i]? = some c := ⟨_, List.getElem?_eq_getElem hlt⟩
    obtain ⟨b1, o1, rfl, hgx⟩ := K3.out.elem (i := i) hlt (by decide)
    have hld : ∀ j u, [str t, .int .i64 (a : Nat), .int .i64 (b : Nat)][j]? = some u → g1.cell b1 (o1 + i * 3 + j) = some u := fun j u hu => hgx j u (flatW_get l i _ hx j u hu)
    have hll : [str t, Value.int .i64 (a : Nat), .int .i64 (b : Nat)].length = 3 := rfl
    have htl : t.length ≤ 32 := hl _ (List.mem_of_getElem? hx)
    rw [drop_of_get hx, stemsF] at hI
    dsimp only at hI
    have SB := fun L => stop_gives t g1 L (hT.le hg1)
    have SM := fun L => stem_gives t g1 L (by omega) (hT.le hg1)
    have HQ := Hn.mk (strs_snoc dn (stemL t))
    clear hgx hx hT hl
    cases hs : stopB t with
    | true =>
      rw [hs] at SB hI
      rw [if_pos rfl] at hI
      repeat' (first
    | refine wkQ ?_
    | refine wkV ?_
    | refine wkM ?_
    | refine wkD (SB _) ?_
    | refine stS ?_ | (refine stB ?_; intro _) | (refine stC ?_; constructor <;> intro _))
      refine TQ.round (i + 1, .slice av dn.length cv, dn) ?_ ?_ rfl subA selF
      · exact ⟨by dsimp only; omega, by dsimp only; omega, hI⟩
      · show l.length - (i + 1) < l.length - i
        omega
    | false =>
      rw [hs] at SB hI
      rw [if_neg (by decide)] at hI
      generalize stemL t = y at *
      repeat' (first
    | refine wkQ ?_
    | refine wkV ?_
    | refine wkM ?_
    | refine wkD (SB _) ?_
    | refine wkD (SM _) ?_
    | ((with_reducible apply TL.build_slice); (· rfl); (· rfl); (· exact oneA); (· rfl); (· rfl); (· rfl); intro _) | refine TL.build_one (by rfl) (by first | rfl | assumption) (by rfl) (by rfl) (by rfl) (by rfl) (fun _ => ?_) | refine TL.build_empty (by rfl) (fun _ => ?_)
    | ((with_reducible apply TL.append (e := 9)); (· rfl); (· rfl); (· rfl); (· rfl); (· exact pkA); (· first | exact Src.obj pkA | exact Src.sl (by assumption) | exact Src.row pkA); (· first | rfl | exact (byteVals_length _).trans (Nat.mul_one _).symm); (· first | exact byteVals_all _ | exact oneA); (· exact ⟨by unfold maxLen; omega, by omega⟩); (· rfl); intro vf; refine Go.TL.TL.row_slice (v := vf) pkA ?_; rintro a2 c2 rfl _)
    | refine stS ?_ | (refine stB ?_; intro _) | (refine stC ?_; constructor <;> intro _))
      rw [show dn.length + 1 = (dn ++ [y]).length by simp]
      have q := HQ.out
      refine TQ.round (i + 1, .slice a2 (dn ++ [y]).length c2, dn ++ [y]) ?_ ?_ rfl subA ?_
      · exact ⟨by dsimp only; omega, by simp; omega, by rw [List.append_assoc]; exact hI⟩
      · show l.length - (i + 1) < l.length - i
        omega
      · dsimp only
        rw [q]
        exact selF
  · obtain rfl : i = l.length := by omega
    rw [List.drop_eq_nil_of_le (Nat.le_refl _), stemsF, List.append_nil] at hI
    subst hI
    clear hT hl
    repeat' (first
    | refine wkQ ?_
    | refine wkV ?_
    | refine stS ?_ | (refine stB ?_; intro _) | (refine stC ?_; constructor <;> intro _))
    refine TQ.freeze pkA fun g2 hg2 HS => ?_
    refine TQ.endR1 (L' := L) Tryz.results229 rvA rfl (hg1.trans hg2) ?_ selF
    exact ⟨_, rfl, rfl, HS⟩
end Go.Proofs.YtgollffmdpejiaaGreatDoor
