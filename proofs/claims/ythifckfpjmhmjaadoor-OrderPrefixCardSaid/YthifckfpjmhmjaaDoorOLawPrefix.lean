/-
  The law OrderPrefix.
-/
import Derived.Test.YthifckfpjmhmjaaDoorOAwake
namespace Go.Proofs.YthifckfpjmhmjaaDoor
open Go.RowKit Go.TL
set_option maxRecDepth 100000

theorem all255 : ∀ (k : Nat) (y : List UInt8), (Op.bytesLess y (List.replicate k 255) || (List.replicate k 255).isPrefixOf y) = true
  | 0, y => by simp [Op.bytesLess]
  | k + 1, [] => by rw [List.replicate_succ, Op.bytesLess]; rfl
  | k + 1, a :: y => by
    have ih := all255 k y
    rw [List.replicate_succ, Op.bytesLess, List.isPrefixOf]
    by_cases h : a = 255
    · subst h
      simp only [UInt8.lt_irrefl, decide_false, Bool.false_or, beq_self_eq_true, Bool.true_and]
      exact ih
    · have hlt : a < 255 := by
        rw [UInt8.lt_iff_toNat_lt]
        have h1 := UInt8.toNat_lt a
        have h2 : a.toNat ≠ 255 := fun e => h (UInt8.toNat_inj.1 e)
        show a.toNat < 255
        omega
      simp [hlt]
/-- Ahead of the least bytes above all that begin so is just what is ahead of these, or begins so. -/
theorem less_pref (c : UInt8) (hc : c ≠ 255) (k : Nat) : ∀ (t x : List UInt8), Op.bytesLess x (t ++ [c + 1]) = (Op.bytesLess x (t ++ c :: List.replicate k 255) || (t ++ c :: List.replicate k 255).isPrefixOf x)
  | [], [] => by simp [Op.bytesLess]
  | d :: t, [] => by simp [Op.bytesLess]
  | [], a :: y => by
    have h := all255 k y
    simp only [List.nil_append, Op.bytesLess, Bool.and_false, Bool.or_false, List.isPrefixOf]
    have hc1 : (c + 1).toNat = c.toNat + 1 := by
      have h1 := UInt8.toNat_lt c
      have h2 : c.toNat ≠ 255 := fun e => hc (UInt8.toNat_inj.1 e)
      rw [UInt8.toNat_add, show (1 : UInt8).toNat = 1 from rfl]; omega
    by_cases h1 : a = c
    · subst h1
      have h2 : a < a + 1 := by rw [UInt8.lt_iff_toNat_lt]; omega
      simp only [h2, decide_true, UInt8.lt_irrefl, decide_false, beq_self_eq_true, Bool.true_and, Bool.false_or]
      exact h.symm
    · have h3 : (a < c + 1) ↔ (a < c) := by
        rw [UInt8.lt_iff_toNat_lt, UInt8.lt_iff_toNat_lt, hc1]
        have : a.toNat ≠ c.toNat := fun e => h1 (UInt8.toNat_inj.1 e)
        omega
      have e1 : (a == c) = false := beq_false_of_ne h1
      have e2 : (c == a) = false := beq_false_of_ne fun e => h1 e.symm
      simp [h3, e1, e2]
  | d :: t, a :: y => by
    have ih := less_pref c hc k t y
    simp only [List.cons_append, Op.bytesLess, List.isPrefixOf, ih]
    by_cases h1 : a = d
    · subst h1; simp [UInt8.lt_irrefl]
    · have e1 : (a == d) = false := beq_false_of_ne h1
      have e2 : (d == a) = false := beq_false_of_ne fun e => h1 e.symm
      simp [e1, e2]
theorem topL_spec (s : List UInt8) : ∀ m, (∀ j, topL s m ≤ j → j < m → s.getD j 0 = 255) ∧ (0 < topL s m → s.getD (topL s m - 1) 0 ≠ 255)
  | 0 => ⟨fun j _ h => by omega, fun h => by rw [topL] at h; omega⟩
  | m + 1 => by
    obtain ⟨h1, h2⟩ := topL_spec s m
    rw [topL]
    by_cases h : s.getD m 0 = 255
    · rw [if_pos h]
      refine ⟨fun j hj hm => ?_, h2⟩
      by_cases hjm : j = m
      · subst hjm; exact h
      · exact h1 j hj (by omega)
    · rw [if_neg h]
      exact ⟨fun j hj hm => by omega, fun _ => by rw [show m + 1 - 1 = m by omega]; exact h⟩
theorem pref_parts {s : List UInt8} (h : prefL s ≠ []) : ∃ t c k, c ≠ 255 ∧ s = t ++ c :: List.replicate k 255 ∧ prefL s = t ++ [c + 1] := by
  have hle := topL_le s s.length
  obtain ⟨h1, h2⟩ := topL_spec s s.length
  unfold prefL at h ⊢
  obtain ⟨T, hT⟩ : ∃ T, T = topL s s.length := ⟨_, rfl⟩
  rw [← hT] at h h1 h2 hle ⊢
  by_cases h0 : T = 0
  · rw [if_pos h0] at h; exact absurd rfl h
  rw [if_neg h0]
  refine ⟨s.take (T - 1), s.getD (T - 1) 0, s.length - T, h2 (by omega), ?_, rfl⟩
  conv => lhs; rw [← List.take_append_drop (T - 1) s]
  congr 1
  rw [List.drop_eq_getElem_cons (by omega)]
  congr 1
  · simp [List.getD_eq_getElem?_getD, show T - 1 < s.length by omega]
  · rw [show T - 1 + 1 = T by omega]
    refine List.eq_replicate_iff.2 ⟨by simp, fun b hb => ?_⟩
    obtain ⟨j, hj⟩ := List.getElem?_of_mem hb
    rw [List.getElem?_drop] at hj
    have hlt := (List.getElem?_eq_some_iff.1 hj).1
    have := h1 (T + j) (by omega) (by omega)
    rw [List.getD_eq_getElem?_getD, hj] at this
    exact this
theorem pref_none {s : List UInt8} (h : prefL s = []) : ∀ j, j < s.length → s.getD j 0 = 255 := by
  have hle := topL_le s s.length
  obtain ⟨h1, h2⟩ := topL_spec s s.length
  unfold prefL at h
  by_cases h0 : topL s s.length = 0
  · intro j hj; exact h1 j (by omega) hj
  · rw [if_neg h0] at h; simp at h
theorem begins_iff (s o : List UInt8) : s.isPrefixOf o = (decide (s.length ≤ o.length) && decide (o.take s.length = s)) := by
  rw [Bool.eq_iff_iff]
  simp only [List.isPrefixOf_iff_prefix, Bool.and_eq_true, decide_eq_true_eq]
  constructor
  · intro h
    exact ⟨h.length_le, (List.prefix_iff_eq_take.1 h).symm⟩
  · rintro ⟨_, h⟩
    exact List.prefix_iff_eq_take.2 h.symm
theorem pref_law {s : List UInt8} (h : prefL s ≠ []) (m o : List UInt8) : Op.bytesLess (s ++ m) (prefL s) = true ∧ Op.bytesLess o (prefL s) = (Op.bytesLess o s || (decide (s.length ≤ o.length) && decide (o.take s.length = s))) := by
  obtain ⟨t, c, k, hc, hs, hp⟩ := pref_parts h
  have key := fun x => less_pref c hc k t x
  rw [← hs, ← hp] at key
  refine ⟨?_, by rw [key, begins_iff]⟩
  rw [key, begins_iff]
  simp
set_option maxHeartbeats 16000000 in
theorem lawOrderPrefix (s m o : List UInt8) (v1 v2 v3 : Value) (g : Gh) (h1 : Sl g v1 s.length 1 (byteVals s)) (h2 : Sl g v2 m.length 1 (byteVals m)) (h3 : Sl g v3 o.length 1 (byteVals o)) (hT : GTabs g) (hU : GU8 g) : Gives Tryd.prog 6 #[v1, v2, v3] g [] (.bool true) := by
  refine .of (Does.of3 Tryd.func6 rfl Tryd.ntmps6 rfl ?_)
  have AW := fun L => awake05_gives (g := g) (L := L) hT hU
  obtain ⟨a1, c1, rfl⟩ := h1.slice
  obtain ⟨a2, c2, rfl⟩ := h2.slice
  obtain ⟨a3, c3, rfl⟩ := h3.slice
  clear hT hU
  by_cases l1 : 300 < s.length
  · clear h1 h2 h3
    repeat' (first
    | ((with_reducible apply TL.pure); (· exact yA); (· rfl))
    | ((with_reducible apply TL.byteK); (· rfl); (· rfl); (· exact natA); (· assumption); (· rfl); intro _) | ((with_reducible apply TL.byte); (· rfl); (· rfl); (· exact natA); (· exact omA); (· rfl); intro _ _ _)
    | refine TC.seq ?_ | refine TC.region ?_ | refine TL.nil ?_ | refine TQ.then_normal ?_
    | ((with_reducible apply TL.storeE); (· rfl); (· rfl); (· rfl); (· exact pkA); (· infer_instance)) | ((with_reducible apply TL.store_whole); (· rfl); (· rfl); (· first | rfl | (first | rfl | ((try simp only [List.set_cons_zero, List.set_cons_succ]); refine all1 (by first | rfl | assumption) ?_; first | rfl | (refine all1 (by first | rfl | assumption) ?_; first | rfl | (refine all1 (by first | rfl | assumption) ?_; rfl))))); (· rfl); (· exact pkA); (· rfl))
    | refine TC.block ?_ | refine TC.ret ?_ | refine TC.skip ?_ | refine TC.exit ?_
    | ((with_reducible apply TC.cond_true); (· rfl)) | ((with_reducible apply TC.cond_false); (· rfl)) | refine TC.cond_ky rfl kpA ?_ | refine TC.cond_kn rfl kpA ?_ | refine TC.cond_nky rfl kpA ?_ | refine TC.cond_nkn rfl kpA ?_ | refine TC.cond_eq0 rfl (fun _ => ?_) (fun _ => ?_) | refine TC.cond_neq0 rfl (fun _ => ?_) (fun _ => ?_) | refine TC.cond_eq rfl (fun _ => ?_) (fun _ => ?_) | refine TC.cond_neq rfl (fun _ => ?_) (fun _ => ?_) | refine TC.cond_not rfl (fun _ => ?_) (fun _ => ?_) | refine TC.cond_dec rfl (fun _ => ?_) (fun _ => ?_) | refine TC.cond_bool rfl (fun _ => ?_) (fun _ => ?_)
    | refine TQ.then_ret ?_ | refine TQ.then_exit ?_ | refine TQ.then_panic ?_ | refine TQ.in_normal ?_ | refine TQ.in_ret ?_ | refine TQ.in_exit ?_ | refine TQ.in_exit' rfl ?_ | refine TQ.in_panic ?_
    | refine TQ.round_ret ?_ | refine TQ.round_exit ?_ | refine TQ.round_panic ?_ | refine TQ.cut_ret ?_ | refine TQ.cut_exit ?_ | refine TQ.cut_panic ?_
    | ((with_reducible apply TL.guard_yes); (· rfl); (· rfl)) | ((with_reducible apply TL.guard_no); (· rfl); (· rfl); (· rfl); (· rfl)) | ((with_reducible apply TL.guard_no0); (· rfl); (· rfl); (· rfl)) | ((with_reducible apply TL.guard_undef); (· rfl); (· rfl); (· rfl)) | ((with_reducible apply TL.guard_undef0); (· rfl); (· rfl))
    | refine TL.guard_ky rfl rfl kpA ?_ | refine TL.guard_kn rfl rfl kpA ?_ | refine TL.guard_nky rfl rfl kpA ?_ | refine TL.guard_nkn rfl rfl kpA ?_ | refine TL.guard_eq0 rfl rfl rfl (fun _ => ?_) (fun _ => ?_) | refine TL.guard_neq0 rfl rfl rfl (fun _ => ?_) (fun _ => ?_) | refine TL.guard_eq rfl rfl rfl (fun _ => ?_) (fun _ => ?_) | refine TL.guard_neq rfl rfl rfl (fun _ => ?_) (fun _ => ?_) | refine TL.guard_ndec rfl rfl rfl (fun _ => ?_) (fun _ => ?_) | refine TL.guard_dec rfl rfl rfl (fun _ => ?_) (fun _ => ?_) | refine TL.guard_split rfl rfl rfl (fun _ => ?_) (fun _ => ?_)
    | ((with_reducible apply TL.alloc_ag); (· rfl); intro _) | ((with_reducible apply TL.alloc_sc); (· rfl); (· rfl); intro _) | ((with_reducible apply TL.box_ag); (· rfl); (· rfl); intro _) | ((with_reducible apply TL.box_sc); (· rfl); (· rfl); (· rfl); intro _)
    | ((with_reducible apply TL.range_str); (· rfl); (· rfl); intro _) | ((with_reducible apply TL.next_str); (· rfl); (· exact pkA); (· rfl); all_goals intro _)
    | apply TC.region_draw (by kernel_rfl) (by kernel_rfl) | refine TW.nil ?_
    | ((with_reducible apply TW.pure); (· exact yA); (· rfl)) | ((with_reducible apply TW.byteK); (· rfl); (· rfl); (· exact natA); (· assumption); (· rfl); intro _) | ((with_reducible apply TW.byte); (· rfl); (· rfl); (· exact natA); (· exact omA); (· rfl); intro _ _ _)
    | ((with_reducible apply TW.guard_yes); (· rfl); (· rfl)) | ((with_reducible apply TW.guard_no); (· rfl); (· rfl); (· rfl); (· rfl)) | ((with_reducible apply TW.guard_undef); (· rfl); (· rfl); (· rfl))
    | refine TW.guard_ky rfl rfl kpA ?_ | refine TW.guard_kn rfl rfl kpA ?_ | refine TW.guard_nky rfl rfl kpA ?_ | refine TW.guard_nkn rfl rfl kpA ?_ | refine TW.guard_eq0 rfl rfl rfl (fun _ => ?_) (fun _ => ?_) | refine TW.guard_neq0 rfl rfl rfl (fun _ => ?_) (fun _ => ?_) | refine TW.guard_eq rfl rfl rfl (fun _ => ?_) (fun _ => ?_) | refine TW.guard_neq rfl rfl rfl (fun _ => ?_) (fun _ => ?_) | refine TW.guard_ndec rfl rfl rfl (fun _ => ?_) (fun _ => ?_) | refine TW.guard_dec rfl rfl rfl (fun _ => ?_) (fun _ => ?_) | refine TW.guard_split rfl rfl rfl (fun _ => ?_) (fun _ => ?_))
    refine TQ.endR1 (L' := []) Tryd.results6 (by first | exact RVal.tmp rfl | exact RVal.cells rfl pkA (by rfl) | exact RVal.cell rfl pkA rfl) rfl (.refl _) ?_ (by repeat (first | exact Sel.refl | exact Sel.nil | apply Sel.cons (by (repeat (first | exact Pick.here | apply Pick.there))) | apply Sel.drop))
    exact ⟨rfl, rfl, rfl⟩
  by_cases l2 : 300 < m.length
  · clear h1 h2 h3
    repeat' (first
    | ((with_reducible apply TL.pure); (· exact yA); (· rfl))
    | ((with_reducible apply TL.byteK); (· rfl); (· rfl); (· exact natA); (· assumption); (· rfl); intro _) | ((with_reducible apply TL.byte); (· rfl); (· rfl); (· exact natA); (· exact omA); (· rfl); intro _ _ _)
    | refine TC.seq ?_ | refine TC.region ?_ | refine TL.nil ?_ | refine TQ.then_normal ?_
    | ((with_reducible apply TL.storeE); (· rfl); (· rfl); (· rfl); (· exact pkA); (· infer_instance)) | ((with_reducible apply TL.store_whole); (· rfl); (· rfl); (· first | rfl | (first | rfl | ((try simp only [List.set_cons_zero, List.set_cons_succ]); refine all1 (by first | rfl | assumption) ?_; first | rfl | (refine all1 (by first | rfl | assumption) ?_; first | rfl | (refine all1 (by first | rfl | assumption) ?_; rfl))))); (· rfl); (· exact pkA); (· rfl))
    | refine TC.block ?_ | refine TC.ret ?_ | refine TC.skip ?_ | refine TC.exit ?_
    | ((with_reducible apply TC.cond_true); (· rfl)) | ((with_reducible apply TC.cond_false); (· rfl)) | refine TC.cond_ky rfl kpA ?_ | refine TC.cond_kn rfl kpA ?_ | refine TC.cond_nky rfl kpA ?_ | refine TC.cond_nkn rfl kpA ?_ | refine TC.cond_eq0 rfl (fun _ => ?_) (fun _ => ?_) | refine TC.cond_neq0 rfl (fun _ => ?_) (fun _ => ?_) | refine TC.cond_eq rfl (fun _ => ?_) (fun _ => ?_) | refine TC.cond_neq rfl (fun _ => ?_) (fun _ => ?_) | refine TC.cond_not rfl (fun _ => ?_) (fun _ => ?_) | refine TC.cond_dec rfl (fun _ => ?_) (fun _ => ?_) | refine TC.cond_bool rfl (fun _ => ?_) (fun _ => ?_)
    | refine TQ.then_ret ?_ | refine TQ.then_exit ?_ | refine TQ.then_panic ?_ | refine TQ.in_normal ?_ | refine TQ.in_ret ?_ | refine TQ.in_exit ?_ | refine TQ.in_exit' rfl ?_ | refine TQ.in_panic ?_
    | refine TQ.round_ret ?_ | refine TQ.round_exit ?_ | refine TQ.round_panic ?_ | refine TQ.cut_ret ?_ | refine TQ.cut_exit ?_ | refine TQ.cut_panic ?_
    | ((with_reducible apply TL.guard_yes); (· rfl); (· rfl)) | ((with_reducible apply TL.guard_no); (· rfl); (· rfl); (· rfl); (· rfl)) | ((with_reducible apply TL.guard_no0); (· rfl); (· rfl); (· rfl)) | ((with_reducible apply TL.guard_undef); (· rfl); (· rfl); (· rfl)) | ((with_reducible apply TL.guard_undef0); (· rfl); (· rfl))
    | refine TL.guard_ky rfl rfl kpA ?_ | refine TL.guard_kn rfl rfl kpA ?_ | refine TL.guard_nky rfl rfl kpA ?_ | refine TL.guard_nkn rfl rfl kpA ?_ | refine TL.guard_eq0 rfl rfl rfl (fun _ => ?_) (fun _ => ?_) | refine TL.guard_neq0 rfl rfl rfl (fun _ => ?_) (fun _ => ?_) | refine TL.guard_eq rfl rfl rfl (fun _ => ?_) (fun _ => ?_) | refine TL.guard_neq rfl rfl rfl (fun _ => ?_) (fun _ => ?_) | refine TL.guard_ndec rfl rfl rfl (fun _ => ?_) (fun _ => ?_) | refine TL.guard_dec rfl rfl rfl (fun _ => ?_) (fun _ => ?_) | refine TL.guard_split rfl rfl rfl (fun _ => ?_) (fun _ => ?_)
    | ((with_reducible apply TL.alloc_ag); (· rfl); intro _) | ((with_reducible apply TL.alloc_sc); (· rfl); (· rfl); intro _) | ((with_reducible apply TL.box_ag); (· rfl); (· rfl); intro _) | ((with_reducible apply TL.box_sc); (· rfl); (· rfl); (· rfl); intro _)
    | ((with_reducible apply TL.range_str); (· rfl); (· rfl); intro _) | ((with_reducible apply TL.next_str); (· rfl); (· exact pkA); (· rfl); all_goals intro _)
    | apply TC.region_draw (by kernel_rfl) (by kernel_rfl) | refine TW.nil ?_
    | ((with_reducible apply TW.pure); (· exact yA); (· rfl)) | ((with_reducible apply TW.byteK); (· rfl); (· rfl); (· exact natA); (· assumption); (· rfl); intro _) | ((with_reducible apply TW.byte); (· rfl); (· rfl); (· exact natA); (· exact omA); (· rfl); intro _ _ _)
    | ((with_reducible apply TW.guard_yes); (· rfl); (· rfl)) | ((with_reducible apply TW.guard_no); (· rfl); (· rfl); (· rfl); (· rfl)) | ((with_reducible apply TW.guard_undef); (· rfl); (· rfl); (· rfl))
    | refine TW.guard_ky rfl rfl kpA ?_ | refine TW.guard_kn rfl rfl kpA ?_ | refine TW.guard_nky rfl rfl kpA ?_ | refine TW.guard_nkn rfl rfl kpA ?_ | refine TW.guard_eq0 rfl rfl rfl (fun _ => ?_) (fun _ => ?_) | refine TW.guard_neq0 rfl rfl rfl (fun _ => ?_) (fun _ => ?_) | refine TW.guard_eq rfl rfl rfl (fun _ => ?_) (fun _ => ?_) | refine TW.guard_neq rfl rfl rfl (fun _ => ?_) (fun _ => ?_) | refine TW.guard_ndec rfl rfl rfl (fun _ => ?_) (fun _ => ?_) | refine TW.guard_dec rfl rfl rfl (fun _ => ?_) (fun _ => ?_) | refine TW.guard_split rfl rfl rfl (fun _ => ?_) (fun _ => ?_))
    refine TQ.endR1 (L' := []) Tryd.results6 (by first | exact RVal.tmp rfl | exact RVal.cells rfl pkA (by rfl) | exact RVal.cell rfl pkA rfl) rfl (.refl _) ?_ (by repeat (first | exact Sel.refl | exact Sel.nil | apply Sel.cons (by (repeat (first | exact Pick.here | apply Pick.there))) | apply Sel.drop))
    exact ⟨rfl, rfl, rfl⟩
  by_cases l3 : 300 < o.length
  · clear h1 h2 h3
    repeat' (first
    | ((with_reducible apply TL.pure); (· exact yA); (· rfl))
    | ((with_reducible apply TL.byteK); (· rfl); (· rfl); (· exact natA); (· assumption); (· rfl); intro _) | ((with_reducible apply TL.byte); (· rfl); (· rfl); (· exact natA); (· exact omA); (· rfl); intro _ _ _)
    | refine TC.seq ?_ | refine TC.region ?_ | refine TL.nil ?_ | refine TQ.then_normal ?_
    | ((with_reducible apply TL.storeE); (· rfl); (· rfl); (· rfl); (· exact pkA); (· infer_instance)) | ((with_reducible apply TL.store_whole); (· rfl); (· rfl); (· first | rfl | (first | rfl | ((try simp only [List.set_cons_zero, List.set_cons_succ]); refine all1 (by first | rfl | assumption) ?_; first | rfl | (refine all1 (by first | rfl | assumption) ?_; first | rfl | (refine all1 (by first | rfl | assumption) ?_; rfl))))); (· rfl); (· exact pkA); (· rfl))
    | refine TC.block ?_ | refine TC.ret ?_ | refine TC.skip ?_ | refine TC.exit ?_
    | ((with_reducible apply TC.cond_true); (· rfl)) | ((with_reducible apply TC.cond_false); (· rfl)) | refine TC.cond_ky rfl kpA ?_ | refine TC.cond_kn rfl kpA ?_ | refine TC.cond_nky rfl kpA ?_ | refine TC.cond_nkn rfl kpA ?_ | refine TC.cond_eq0 rfl (fun _ => ?_) (fun _ => ?_) | refine TC.cond_neq0 rfl (fun _ => ?_) (fun _ => ?_) | refine TC.cond_eq rfl (fun _ => ?_) (fun _ => ?_) | refine TC.cond_neq rfl (fun _ => ?_) (fun _ => ?_) | refine TC.cond_not rfl (fun _ => ?_) (fun _ => ?_) | refine TC.cond_dec rfl (fun _ => ?_) (fun _ => ?_) | refine TC.cond_bool rfl (fun _ => ?_) (fun _ => ?_)
    | refine TQ.then_ret ?_ | refine TQ.then_exit ?_ | refine TQ.then_panic ?_ | refine TQ.in_normal ?_ | refine TQ.in_ret ?_ | refine TQ.in_exit ?_ | refine TQ.in_exit' rfl ?_ | refine TQ.in_panic ?_
    | refine TQ.round_ret ?_ | refine TQ.round_exit ?_ | refine TQ.round_panic ?_ | refine TQ.cut_ret ?_ | refine TQ.cut_exit ?_ | refine TQ.cut_panic ?_
    | ((with_reducible apply TL.guard_yes); (· rfl); (· rfl)) | ((with_reducible apply TL.guard_no); (· rfl); (· rfl); (· rfl); (· rfl)) | ((with_reducible apply TL.guard_no0); (· rfl); (· rfl); (· rfl)) | ((with_reducible apply TL.guard_undef); (· rfl); (· rfl); (· rfl)) | ((with_reducible apply TL.guard_undef0); (· rfl); (· rfl))
    | refine TL.guard_ky rfl rfl kpA ?_ | refine TL.guard_kn rfl rfl kpA ?_ | refine TL.guard_nky rfl rfl kpA ?_ | refine TL.guard_nkn rfl rfl kpA ?_ | refine TL.guard_eq0 rfl rfl rfl (fun _ => ?_) (fun _ => ?_) | refine TL.guard_neq0 rfl rfl rfl (fun _ => ?_) (fun _ => ?_) | refine TL.guard_eq rfl rfl rfl (fun _ => ?_) (fun _ => ?_) | refine TL.guard_neq rfl rfl rfl (fun _ => ?_) (fun _ => ?_) | refine TL.guard_ndec rfl rfl rfl (fun _ => ?_) (fun _ => ?_) | refine TL.guard_dec rfl rfl rfl (fun _ => ?_) (fun _ => ?_) | refine TL.guard_split rfl rfl rfl (fun _ => ?_) (fun _ => ?_)
    | ((with_reducible apply TL.alloc_ag); (· rfl); intro _) | ((with_reducible apply TL.alloc_sc); (· rfl); (· rfl); intro _) | ((with_reducible apply TL.box_ag); (· rfl); (· rfl); intro _) | ((with_reducible apply TL.box_sc); (· rfl); (· rfl); (· rfl); intro _)
    | ((with_reducible apply TL.range_str); (· rfl); (· rfl); intro _) | ((with_reducible apply TL.next_str); (· rfl); (· exact pkA); (· rfl); all_goals intro _)
    | apply TC.region_draw (by kernel_rfl) (by kernel_rfl) | refine TW.nil ?_
    | ((with_reducible apply TW.pure); (· exact yA); (· rfl)) | ((with_reducible apply TW.byteK); (· rfl); (· rfl); (· exact natA); (· assumption); (· rfl); intro _) | ((with_reducible apply TW.byte); (· rfl); (· rfl); (· exact natA); (· exact omA); (· rfl); intro _ _ _)
    | ((with_reducible apply TW.guard_yes); (· rfl); (· rfl)) | ((with_reducible apply TW.guard_no); (· rfl); (· rfl); (· rfl); (· rfl)) | ((with_reducible apply TW.guard_undef); (· rfl); (· rfl); (· rfl))
    | refine TW.guard_ky rfl rfl kpA ?_ | refine TW.guard_kn rfl rfl kpA ?_ | refine TW.guard_nky rfl rfl kpA ?_ | refine TW.guard_nkn rfl rfl kpA ?_ | refine TW.guard_eq0 rfl rfl rfl (fun _ => ?_) (fun _ => ?_) | refine TW.guard_neq0 rfl rfl rfl (fun _ => ?_) (fun _ => ?_) | refine TW.guard_eq rfl rfl rfl (fun _ => ?_) (fun _ => ?_) | refine TW.guard_neq rfl rfl rfl (fun _ => ?_) (fun _ => ?_) | refine TW.guard_ndec rfl rfl rfl (fun _ => ?_) (fun _ => ?_) | refine TW.guard_dec rfl rfl rfl (fun _ => ?_) (fun _ => ?_) | refine TW.guard_split rfl rfl rfl (fun _ => ?_) (fun _ => ?_))
    refine TQ.endR1 (L' := []) Tryd.results6 (by first | exact RVal.tmp rfl | exact RVal.cells rfl pkA (by rfl) | exact RVal.cell rfl pkA rfl) rfl (.refl _) ?_ (by repeat (first | exact Sel.refl | exact Sel.nil | apply Sel.cons (by (repeat (first | exact Pick.here | apply Pick.there))) | apply Sel.drop))
    exact ⟨rfl, rfl, rfl⟩
  have P := fun L => oPrefix_rows s _ g L h1 (by omega)
  by_cases hp : prefL s = []
  · have hn := pref_none hp
    rw [hp] at P
    have HN : Hn _ := ⟨hn⟩
    clear hn hp
    repeat' (first
    | ((with_reducible apply TL.pure); (· exact yV); (· rfl)) | ((with_reducible apply TW.pure); (· exact yV); (· rfl))
    | ((with_reducible apply TL.pure); (· exact Y.bytes_row rfl pkA); (· rfl)) | ((with_reducible apply TL.pure); (· exact Y.bytes_src rfl (Src.sl (by assumption)) rfl); (· rfl)) | ((with_reducible apply TW.pure); (· exact Y.bytes_row rfl pkA); (· rfl)) | ((with_reducible apply TW.pure); (· exact Y.bytes_src rfl (Src.sl (by assumption)) rfl); (· rfl))
    | refine TL.rows (Enters.plain (by kernel_rfl) (by rfl)) (P _) (by repeat (first | exact List.Perm.refl _ | apply Pk.cons (by (repeat (first | exact Pick.here | apply Pick.there))))) (by rfl) (fun _ => ?_)
    | ((with_reducible apply TL.pure); (· exact yA); (· rfl))
    | ((with_reducible apply TL.byteK); (· rfl); (· rfl); (· exact natA); (· assumption); (· rfl); intro _) | ((with_reducible apply TL.byte); (· rfl); (· rfl); (· exact natA); (· exact omA); (· rfl); intro _ _ _)
    | refine TC.seq ?_ | refine TC.region ?_ | refine TL.nil ?_ | refine TQ.then_normal ?_
    | ((with_reducible apply TL.storeE); (· rfl); (· rfl); (· rfl); (· exact pkA); (· infer_instance)) | ((with_reducible apply TL.store_whole); (· rfl); (· rfl); (· first | rfl | (first | rfl | ((try simp only [List.set_cons_zero, List.set_cons_succ]); refine all1 (by first | rfl | assumption) ?_; first | rfl | (refine all1 (by first | rfl | assumption) ?_; first | rfl | (refine all1 (by first | rfl | assumption) ?_; rfl))))); (· rfl); (· exact pkA); (· rfl))
    | refine TC.block ?_ | refine TC.ret ?_ | refine TC.skip ?_ | refine TC.exit ?_
    | ((with_reducible apply TC.cond_true); (· rfl)) | ((with_reducible apply TC.cond_false); (· rfl)) | refine TC.cond_ky rfl kpA ?_ | refine TC.cond_kn rfl kpA ?_ | refine TC.cond_nky rfl kpA ?_ | refine TC.cond_nkn rfl kpA ?_ | refine TC.cond_eq0 rfl (fun _ => ?_) (fun _ => ?_) | refine TC.cond_neq0 rfl (fun _ => ?_) (fun _ => ?_) | refine TC.cond_eq rfl (fun _ => ?_) (fun _ => ?_) | refine TC.cond_neq rfl (fun _ => ?_) (fun _ => ?_) | refine TC.cond_not rfl (fun _ => ?_) (fun _ => ?_) | refine TC.cond_dec rfl (fun _ => ?_) (fun _ => ?_) | refine TC.cond_bool rfl (fun _ => ?_) (fun _ => ?_)
    | refine TQ.then_ret ?_ | refine TQ.then_exit ?_ | refine TQ.then_panic ?_ | refine TQ.in_normal ?_ | refine TQ.in_ret ?_ | refine TQ.in_exit ?_ | refine TQ.in_exit' rfl ?_ | refine TQ.in_panic ?_
    | refine TQ.round_ret ?_ | refine TQ.round_exit ?_ | refine TQ.round_panic ?_ | refine TQ.cut_ret ?_ | refine TQ.cut_exit ?_ | refine TQ.cut_panic ?_
    | ((with_reducible apply TL.guard_yes); (· rfl); (· rfl)) | ((with_reducible apply TL.guard_no); (· rfl); (· rfl); (· rfl); (· rfl)) | ((with_reducible apply TL.guard_no0); (· rfl); (· rfl); (· rfl)) | ((with_reducible apply TL.guard_undef); (· rfl); (· rfl); (· rfl)) | ((with_reducible apply TL.guard_undef0); (· rfl); (· rfl))
    | refine TL.guard_ky rfl rfl kpA ?_ | refine TL.guard_kn rfl rfl kpA ?_ | refine TL.guard_nky rfl rfl kpA ?_ | refine TL.guard_nkn rfl rfl kpA ?_ | refine TL.guard_eq0 rfl rfl rfl (fun _ => ?_) (fun _ => ?_) | refine TL.guard_neq0 rfl rfl rfl (fun _ => ?_) (fun _ => ?_) | refine TL.guard_eq rfl rfl rfl (fun _ => ?_) (fun _ => ?_) | refine TL.guard_neq rfl rfl rfl (fun _ => ?_) (fun _ => ?_) | refine TL.guard_ndec rfl rfl rfl (fun _ => ?_) (fun _ => ?_) | refine TL.guard_dec rfl rfl rfl (fun _ => ?_) (fun _ => ?_) | refine TL.guard_split rfl rfl rfl (fun _ => ?_) (fun _ => ?_)
    | ((with_reducible apply TL.alloc_ag); (· rfl); intro _) | ((with_reducible apply TL.alloc_sc); (· rfl); (· rfl); intro _) | ((with_reducible apply TL.box_ag); (· rfl); (· rfl); intro _) | ((with_reducible apply TL.box_sc); (· rfl); (· rfl); (· rfl); intro _)
    | ((with_reducible apply TL.range_str); (· rfl); (· rfl); intro _) | ((with_reducible apply TL.next_str); (· rfl); (· exact pkA); (· rfl); all_goals intro _)
    | apply TC.region_draw (by kernel_rfl) (by kernel_rfl) | refine TW.nil ?_
    | ((with_reducible apply TW.pure); (· exact yA); (· rfl)) | ((with_reducible apply TW.byteK); (· rfl); (· rfl); (· exact natA); (· assumption); (· rfl); intro _) | ((with_reducible apply TW.byte); (· rfl); (· rfl); (· exact natA); (· exact omA); (· rfl); intro _ _ _)
    | ((with_reducible apply TW.guard_yes); (· rfl); (· rfl)) | ((with_reducible apply TW.guard_no); (· rfl); (· rfl); (· rfl); (· rfl)) | ((with_reducible apply TW.guard_undef); (· rfl); (· rfl); (· rfl))
    | refine TW.guard_ky rfl rfl kpA ?_ | refine TW.guard_kn rfl rfl kpA ?_ | refine TW.guard_nky rfl rfl kpA ?_ | refine TW.guard_nkn rfl rfl kpA ?_ | refine TW.guard_eq0 rfl rfl rfl (fun _ => ?_) (fun _ => ?_) | refine TW.guard_neq0 rfl rfl rfl (fun _ => ?_) (fun _ => ?_) | refine TW.guard_eq rfl rfl rfl (fun _ => ?_) (fun _ => ?_) | refine TW.guard_neq rfl rfl rfl (fun _ => ?_) (fun _ => ?_) | refine TW.guard_ndec rfl rfl rfl (fun _ => ?_) (fun _ => ?_) | refine TW.guard_dec rfl rfl rfl (fun _ => ?_) (fun _ => ?_) | refine TW.guard_split rfl rfl rfl (fun _ => ?_) (fun _ => ?_))
    refine TC.loopK (fun i : Nat => i ≤ s.length) (fun i => s.length - i) (fun i _ => [(8, .int .i64 (i : Nat)), (0, .slice a1 s.length c1)]) [] (by repeat (first | exact Drop.nil | apply Drop.cons (by (repeat (first | exact Pick.here | apply Pick.there))))) (fun _ L => L) 0 (Nat.zero_le _) (by repeat (first | exact trivial | refine ⟨rfl, ?_⟩)) (by repeat (first | exact Sel.refl | exact Sel.nil | apply Sel.cons (by (repeat (first | exact Pick.here | apply Pick.there))) | apply Sel.drop)) ?_
    rintro i hi
    try dsimp only at hi ⊢
    by_cases hlt : i < s.length
    · have h255 := HN.out i hlt
      obtain ⟨b1, o1, rfl, hg⟩ := h1.elem hlt (by decide)
      have hld : g.cell b1 (o1 + i * 1) = some (.int .u8 255) := by
        have h5 : (byteVals s)[i * 1 + 0]? = some (.int .u8 255) := by
          rw [Nat.mul_one, Nat.add_zero, byteVals_get (List.getElem?_eq_getElem hlt)]
          rw [List.getD_eq_getElem?_getD, List.getElem?_eq_getElem hlt] at h255
          have h6 : s[i] = 255 := h255
          rw [h6]; rfl
        exact hg 0 _ h5
      clear h1 h2 h3 h255 hg
      repeat' (first
    | ((with_reducible apply TL.pure); (· exact yV); (· rfl)) | ((with_reducible apply TW.pure); (· exact yV); (· rfl))
    | ((with_reducible apply TL.pure); (· exact Y.bytes_row rfl pkA); (· rfl)) | ((with_reducible apply TL.pure); (· exact Y.bytes_src rfl (Src.sl (by assumption)) rfl); (· rfl)) | ((with_reducible apply TW.pure); (· exact Y.bytes_row rfl pkA); (· rfl)) | ((with_reducible apply TW.pure); (· exact Y.bytes_src rfl (Src.sl (by assumption)) rfl); (· rfl))
    | ((with_reducible apply TL.pure); (· exact yA); (· rfl))
    | ((with_reducible apply TL.byteK); (· rfl); (· rfl); (· exact natA); (· assumption); (· rfl); intro _) | ((with_reducible apply TL.byte); (· rfl); (· rfl); (· exact natA); (· exact omA); (· rfl); intro _ _ _)
    | refine TC.seq ?_ | refine TC.region ?_ | refine TL.nil ?_ | refine TQ.then_normal ?_
    | ((with_reducible apply TL.storeE); (· rfl); (· rfl); (· rfl); (· exact pkA); (· infer_instance)) | ((with_reducible apply TL.store_whole); (· rfl); (· rfl); (· first | rfl | (first | rfl | ((try simp only [List.set_cons_zero, List.set_cons_succ]); refine all1 (by first | rfl | assumption) ?_; first | rfl | (refine all1 (by first | rfl | assumption) ?_; first | rfl | (refine all1 (by first | rfl | assumption) ?_; rfl))))); (· rfl); (· exact pkA); (· rfl))
    | refine TC.block ?_ | refine TC.ret ?_ | refine TC.skip ?_ | refine TC.exit ?_
    | ((with_reducible apply TC.cond_true); (· rfl)) | ((with_reducible apply TC.cond_false); (· rfl)) | refine TC.cond_ky rfl kpA ?_ | refine TC.cond_kn rfl kpA ?_ | refine TC.cond_nky rfl kpA ?_ | refine TC.cond_nkn rfl kpA ?_ | refine TC.cond_eq0 rfl (fun _ => ?_) (fun _ => ?_) | refine TC.cond_neq0 rfl (fun _ => ?_) (fun _ => ?_) | refine TC.cond_eq rfl (fun _ => ?_) (fun _ => ?_) | refine TC.cond_neq rfl (fun _ => ?_) (fun _ => ?_) | refine TC.cond_not rfl (fun _ => ?_) (fun _ => ?_) | refine TC.cond_dec rfl (fun _ => ?_) (fun _ => ?_) | refine TC.cond_bool rfl (fun _ => ?_) (fun _ => ?_)
    | refine TQ.then_ret ?_ | refine TQ.then_exit ?_ | refine TQ.then_panic ?_ | refine TQ.in_normal ?_ | refine TQ.in_ret ?_ | refine TQ.in_exit ?_ | refine TQ.in_exit' rfl ?_ | refine TQ.in_panic ?_
    | refine TQ.round_ret ?_ | refine TQ.round_exit ?_ | refine TQ.round_panic ?_ | refine TQ.cut_ret ?_ | refine TQ.cut_exit ?_ | refine TQ.cut_panic ?_
    | ((with_reducible apply TL.guard_yes); (· rfl); (· rfl)) | ((with_reducible apply TL.guard_no); (· rfl); (· rfl); (· rfl); (· rfl)) | ((with_reducible apply TL.guard_no0); (· rfl); (· rfl); (· rfl)) | ((with_reducible apply TL.guard_undef); (· rfl); (· rfl); (· rfl)) | ((with_reducible apply TL.guard_undef0); (· rfl); (· rfl))
    | refine TL.guard_ky rfl rfl kpA ?_ | refine TL.guard_kn rfl rfl kpA ?_ | refine TL.guard_nky rfl rfl kpA ?_ | refine TL.guard_nkn rfl rfl kpA ?_ | refine TL.guard_eq0 rfl rfl rfl (fun _ => ?_) (fun _ => ?_) | refine TL.guard_neq0 rfl rfl rfl (fun _ => ?_) (fun _ => ?_) | refine TL.guard_eq rfl rfl rfl (fun _ => ?_) (fun _ => ?_) | refine TL.guard_neq rfl rfl rfl (fun _ => ?_) (fun _ => ?_) | refine TL.guard_ndec rfl rfl rfl (fun _ => ?_) (fun _ => ?_) | refine TL.guard_dec rfl rfl rfl (fun _ => ?_) (fun _ => ?_) | refine TL.guard_split rfl rfl rfl (fun _ => ?_) (fun _ => ?_)
    | ((with_reducible apply TL.alloc_ag); (· rfl); intro _) | ((with_reducible apply TL.alloc_sc); (· rfl); (· rfl); intro _) | ((with_reducible apply TL.box_ag); (· rfl); (· rfl); intro _) | ((with_reducible apply TL.box_sc); (· rfl); (· rfl); (· rfl); intro _)
    | ((with_reducible apply TL.range_str); (· rfl); (· rfl); intro _) | ((with_reducible apply TL.next_str); (· rfl); (· exact pkA); (· rfl); all_goals intro _)
    | apply TC.region_draw (by kernel_rfl) (by kernel_rfl) | refine TW.nil ?_
    | ((with_reducible apply TW.pure); (· exact yA); (· rfl)) | ((with_reducible apply TW.byteK); (· rfl); (· rfl); (· exact natA); (· assumption); (· rfl); intro _) | ((with_reducible apply TW.byte); (· rfl); (· rfl); (· exact natA); (· exact omA); (· rfl); intro _ _ _)
    | ((with_reducible apply TW.guard_yes); (· rfl); (· rfl)) | ((with_reducible apply TW.guard_no); (· rfl); (· rfl); (· rfl); (· rfl)) | ((with_reducible apply TW.guard_undef); (· rfl); (· rfl); (· rfl))
    | refine TW.guard_ky rfl rfl kpA ?_ | refine TW.guard_kn rfl rfl kpA ?_ | refine TW.guard_nky rfl rfl kpA ?_ | refine TW.guard_nkn rfl rfl kpA ?_ | refine TW.guard_eq0 rfl rfl rfl (fun _ => ?_) (fun _ => ?_) | refine TW.guard_neq0 rfl rfl rfl (fun _ => ?_) (fun _ => ?_) | refine TW.guard_eq rfl rfl rfl (fun _ => ?_) (fun _ => ?_) | refine TW.guard_neq rfl rfl rfl (fun _ => ?_) (fun _ => ?_) | refine TW.guard_ndec rfl rfl rfl (fun _ => ?_) (fun _ => ?_) | refine TW.guard_dec rfl rfl rfl (fun _ => ?_) (fun _ => ?_) | refine TW.guard_split rfl rfl rfl (fun _ => ?_) (fun _ => ?_))
      refine TQ.round (i + 1) ?_ ?_ rfl (by repeat (first | exact trivial | refine ⟨rfl, ?_⟩)) (by repeat (first | exact Sel.refl | exact Sel.nil | apply Sel.cons (by (repeat (first | exact Pick.here | apply Pick.there))) | apply Sel.drop))
      · show i + 1 ≤ s.length
        omega
      · show s.length - (i + 1) < s.length - i
        omega
    · clear h1 h2 h3
      repeat' (first
    | ((with_reducible apply TL.pure); (· exact yV); (· rfl)) | ((with_reducible apply TW.pure); (· exact yV); (· rfl))
    | ((with_reducible apply TL.pure); (· exact Y.bytes_row rfl pkA); (· rfl)) | ((with_reducible apply TL.pure); (· exact Y.bytes_src rfl (Src.sl (by assumption)) rfl); (· rfl)) | ((with_reducible apply TW.pure); (· exact Y.bytes_row rfl pkA); (· rfl)) | ((with_reducible apply TW.pure); (· exact Y.bytes_src rfl (Src.sl (by assumption)) rfl); (· rfl))
    | ((with_reducible apply TL.gives_plain); (· kernel_rfl); (· rfl); (· exact AW _); (· rfl)) | ((with_reducible apply TW.gives_plain); (· kernel_rfl); (· rfl); (· exact AW _); (· rfl))
    | ((with_reducible apply TL.pure); (· exact yA); (· rfl))
    | ((with_reducible apply TL.byteK); (· rfl); (· rfl); (· exact natA); (· assumption); (· rfl); intro _) | ((with_reducible apply TL.byte); (· rfl); (· rfl); (· exact natA); (· exact omA); (· rfl); intro _ _ _)
    | refine TC.seq ?_ | refine TC.region ?_ | refine TL.nil ?_ | refine TQ.then_normal ?_
    | ((with_reducible apply TL.storeE); (· rfl); (· rfl); (· rfl); (· exact pkA); (· infer_instance)) | ((with_reducible apply TL.store_whole); (· rfl); (· rfl); (· first | rfl | (first | rfl | ((try simp only [List.set_cons_zero, List.set_cons_succ]); refine all1 (by first | rfl | assumption) ?_; first | rfl | (refine all1 (by first | rfl | assumption) ?_; first | rfl | (refine all1 (by first | rfl | assumption) ?_; rfl))))); (· rfl); (· exact pkA); (· rfl))
    | refine TC.block ?_ | refine TC.ret ?_ | refine TC.skip ?_ | refine TC.exit ?_
    | ((with_reducible apply TC.cond_true); (· rfl)) | ((with_reducible apply TC.cond_false); (· rfl)) | refine TC.cond_ky rfl kpA ?_ | refine TC.cond_kn rfl kpA ?_ | refine TC.cond_nky rfl kpA ?_ | refine TC.cond_nkn rfl kpA ?_ | refine TC.cond_eq0 rfl (fun _ => ?_) (fun _ => ?_) | refine TC.cond_neq0 rfl (fun _ => ?_) (fun _ => ?_) | refine TC.cond_eq rfl (fun _ => ?_) (fun _ => ?_) | refine TC.cond_neq rfl (fun _ => ?_) (fun _ => ?_) | refine TC.cond_not rfl (fun _ => ?_) (fun _ => ?_) | refine TC.cond_dec rfl (fun _ => ?_) (fun _ => ?_) | refine TC.cond_bool rfl (fun _ => ?_) (fun _ => ?_)
    | refine TQ.then_ret ?_ | refine TQ.then_exit ?_ | refine TQ.then_panic ?_ | refine TQ.in_normal ?_ | refine TQ.in_ret ?_ | refine TQ.in_exit ?_ | refine TQ.in_exit' rfl ?_ | refine TQ.in_panic ?_
    | refine TQ.round_ret ?_ | refine TQ.round_exit ?_ | refine TQ.round_panic ?_ | refine TQ.cut_ret ?_ | refine TQ.cut_exit ?_ | refine TQ.cut_panic ?_
    | ((with_reducible apply TL.guard_yes); (· rfl); (· rfl)) | ((with_reducible apply TL.guard_no); (· rfl); (· rfl); (· rfl); (· rfl)) | ((with_reducible apply TL.guard_no0); (· rfl); (· rfl); (· rfl)) | ((with_reducible apply TL.guard_undef); (· rfl); (· rfl); (· rfl)) | ((with_reducible apply TL.guard_undef0); (· rfl); (· rfl))
    | refine TL.guard_ky rfl rfl kpA ?_ | refine TL.guard_kn rfl rfl kpA ?_ | refine TL.guard_nky rfl rfl kpA ?_ | refine TL.guard_nkn rfl rfl kpA ?_ | refine TL.guard_eq0 rfl rfl rfl (fun _ => ?_) (fun _ => ?_) | refine TL.guard_neq0 rfl rfl rfl (fun _ => ?_) (fun _ => ?_) | refine TL.guard_eq rfl rfl rfl (fun _ => ?_) (fun _ => ?_) | refine TL.guard_neq rfl rfl rfl (fun _ => ?_) (fun _ => ?_) | refine TL.guard_ndec rfl rfl rfl (fun _ => ?_) (fun _ => ?_) | refine TL.guard_dec rfl rfl rfl (fun _ => ?_) (fun _ => ?_) | refine TL.guard_split rfl rfl rfl (fun _ => ?_) (fun _ => ?_)
    | ((with_reducible apply TL.alloc_ag); (· rfl); intro _) | ((with_reducible apply TL.alloc_sc); (· rfl); (· rfl); intro _) | ((with_reducible apply TL.box_ag); (· rfl); (· rfl); intro _) | ((with_reducible apply TL.box_sc); (· rfl); (· rfl); (· rfl); intro _)
    | ((with_reducible apply TL.range_str); (· rfl); (· rfl); intro _) | ((with_reducible apply TL.next_str); (· rfl); (· exact pkA); (· rfl); all_goals intro _)
    | apply TC.region_draw (by kernel_rfl) (by kernel_rfl) | refine TW.nil ?_
    | ((with_reducible apply TW.pure); (· exact yA); (· rfl)) | ((with_reducible apply TW.byteK); (· rfl); (· rfl); (· exact natA); (· assumption); (· rfl); intro _) | ((with_reducible apply TW.byte); (· rfl); (· rfl); (· exact natA); (· exact omA); (· rfl); intro _ _ _)
    | ((with_reducible apply TW.guard_yes); (· rfl); (· rfl)) | ((with_reducible apply TW.guard_no); (· rfl); (· rfl); (· rfl); (· rfl)) | ((with_reducible apply TW.guard_undef); (· rfl); (· rfl); (· rfl))
    | refine TW.guard_ky rfl rfl kpA ?_ | refine TW.guard_kn rfl rfl kpA ?_ | refine TW.guard_nky rfl rfl kpA ?_ | refine TW.guard_nkn rfl rfl kpA ?_ | refine TW.guard_eq0 rfl rfl rfl (fun _ => ?_) (fun _ => ?_) | refine TW.guard_neq0 rfl rfl rfl (fun _ => ?_) (fun _ => ?_) | refine TW.guard_eq rfl rfl rfl (fun _ => ?_) (fun _ => ?_) | refine TW.guard_neq rfl rfl rfl (fun _ => ?_) (fun _ => ?_) | refine TW.guard_ndec rfl rfl rfl (fun _ => ?_) (fun _ => ?_) | refine TW.guard_dec rfl rfl rfl (fun _ => ?_) (fun _ => ?_) | refine TW.guard_split rfl rfl rfl (fun _ => ?_) (fun _ => ?_))
      refine TQ.endR1 (L' := []) Tryd.results6 (by first | exact RVal.tmp rfl | exact RVal.cells rfl pkA (by rfl) | exact RVal.cell rfl pkA rfl) rfl (.refl _) ?_ (by repeat (first | exact Sel.refl | exact Sel.nil | apply Sel.cons (by (repeat (first | exact Pick.here | apply Pick.there))) | apply Sel.drop))
      exact ⟨rfl, rfl, rfl⟩
  · obtain ⟨q1, q2⟩ := pref_law hp m o
    generalize prefL s = p at *
    have HP : Hn (¬ p = []) := ⟨hp⟩
    have Q1 : Hn _ := ⟨q1⟩
    clear hp q1
    cases hC : Op.bytesLess o s with
    | true =>
      rw [hC, Bool.true_or] at q2
      by_cases hA : s.length ≤ o.length
      · by_cases hB : o.take s.length = s
        · repeat' (first
    | ((with_reducible apply TL.pure (d := 65) (v := .bool true)); (· exact Y.lss_is Q1.out rfl rfl); (· rfl)) | ((with_reducible apply TW.pure (d := 65) (v := .bool true)); (· exact Y.lss_is Q1.out rfl rfl); (· rfl))
    | ((with_reducible apply TL.pure (d := 69) (v := .bool _)); (· exact Y.lss_is q2 rfl rfl); (· rfl)) | ((with_reducible apply TW.pure (d := 69) (v := .bool _)); (· exact Y.lss_is q2 rfl rfl); (· rfl))
    | ((with_reducible apply TL.pure (d := 73) (v := .bool _)); (· exact Y.lss_is hC rfl rfl); (· rfl)) | ((with_reducible apply TW.pure (d := 73) (v := .bool _)); (· exact Y.lss_is hC rfl rfl); (· rfl))
    | ((with_reducible apply TL.pure (d := 61) (v := .bool true)); (· exact Y.eql_is (decide_eq_true hB) rfl rfl); (· rfl)) | ((with_reducible apply TW.pure (d := 61) (v := .bool true)); (· exact Y.eql_is (decide_eq_true hB) rfl rfl); (· rfl))
    | ((with_reducible apply TL.pure); (· exact yV); (· rfl)) | ((with_reducible apply TW.pure); (· exact yV); (· rfl))
    | ((with_reducible apply TL.pure); (· exact yA); (· rfl))
    | ((with_reducible apply TL.byteK); (· rfl); (· rfl); (· exact natA); (· assumption); (· rfl); intro _) | ((with_reducible apply TL.byte); (· rfl); (· rfl); (· exact natA); (· exact omA); (· rfl); intro _ _ _)
    | refine TC.seq ?_ | refine TC.region ?_ | refine TL.nil ?_ | refine TQ.then_normal ?_
    | ((with_reducible apply TL.storeE); (· rfl); (· rfl); (· rfl); (· exact pkA); (· infer_instance)) | ((with_reducible apply TL.store_whole); (· rfl); (· rfl); (· first | rfl | (first | rfl | ((try simp only [List.set_cons_zero, List.set_cons_succ]); refine all1 (by first | rfl | assumption) ?_; first | rfl | (refine all1 (by first | rfl | assumption) ?_; first | rfl | (refine all1 (by first | rfl | assumption) ?_; rfl))))); (· rfl); (· exact pkA); (· rfl))
    | refine TC.block ?_ | refine TC.ret ?_ | refine TC.skip ?_ | refine TC.exit ?_
    | ((with_reducible apply TC.cond_true); (· rfl)) | ((with_reducible apply TC.cond_false); (· rfl)) | refine TC.cond_ky rfl kpA ?_ | refine TC.cond_kn rfl kpA ?_ | refine TC.cond_nky rfl kpA ?_ | refine TC.cond_nkn rfl kpA ?_ | refine TC.cond_eq0 rfl (fun _ => ?_) (fun _ => ?_) | refine TC.cond_neq0 rfl (fun _ => ?_) (fun _ => ?_) | refine TC.cond_eq rfl (fun _ => ?_) (fun _ => ?_) | refine TC.cond_neq rfl (fun _ => ?_) (fun _ => ?_) | refine TC.cond_not rfl (fun _ => ?_) (fun _ => ?_) | refine TC.cond_dec rfl (fun _ => ?_) (fun _ => ?_) | refine TC.cond_bool rfl (fun _ => ?_) (fun _ => ?_)
    | refine TQ.then_ret ?_ | refine TQ.then_exit ?_ | refine TQ.then_panic ?_ | refine TQ.in_normal ?_ | refine TQ.in_ret ?_ | refine TQ.in_exit ?_ | refine TQ.in_exit' rfl ?_ | refine TQ.in_panic ?_
    | refine TQ.round_ret ?_ | refine TQ.round_exit ?_ | refine TQ.round_panic ?_ | refine TQ.cut_ret ?_ | refine TQ.cut_exit ?_ | refine TQ.cut_panic ?_
    | ((with_reducible apply TL.guard_yes); (· rfl); (· rfl)) | ((with_reducible apply TL.guard_no); (· rfl); (· rfl); (· rfl); (· rfl)) | ((with_reducible apply TL.guard_no0); (· rfl); (· rfl); (· rfl)) | ((with_reducible apply TL.guard_undef); (· rfl); (· rfl); (· rfl)) | ((with_reducible apply TL.guard_undef0); (· rfl); (· rfl))
    | refine TL.guard_ky rfl rfl kpA ?_ | refine TL.guard_kn rfl rfl kpA ?_ | refine TL.guard_nky rfl rfl kpA ?_ | refine TL.guard_nkn rfl rfl kpA ?_ | refine TL.guard_eq0 rfl rfl rfl (fun _ => ?_) (fun _ => ?_) | refine TL.guard_neq0 rfl rfl rfl (fun _ => ?_) (fun _ => ?_) | refine TL.guard_eq rfl rfl rfl (fun _ => ?_) (fun _ => ?_) | refine TL.guard_neq rfl rfl rfl (fun _ => ?_) (fun _ => ?_) | refine TL.guard_ndec rfl rfl rfl (fun _ => ?_) (fun _ => ?_) | refine TL.guard_dec rfl rfl rfl (fun _ => ?_) (fun _ => ?_) | refine TL.guard_split rfl rfl rfl (fun _ => ?_) (fun _ => ?_)
    | ((with_reducible apply TL.alloc_ag); (· rfl); intro _) | ((with_reducible apply TL.alloc_sc); (· rfl); (· rfl); intro _) | ((with_reducible apply TL.box_ag); (· rfl); (· rfl); intro _) | ((with_reducible apply TL.box_sc); (· rfl); (· rfl); (· rfl); intro _)
    | ((with_reducible apply TL.range_str); (· rfl); (· rfl); intro _) | ((with_reducible apply TL.next_str); (· rfl); (· exact pkA); (· rfl); all_goals intro _)
    | apply TC.region_draw (by kernel_rfl) (by kernel_rfl) | refine TW.nil ?_
    | ((with_reducible apply TW.pure); (· exact yA); (· rfl)) | ((with_reducible apply TW.byteK); (· rfl); (· rfl); (· exact natA); (· assumption); (· rfl); intro _) | ((with_reducible apply TW.byte); (· rfl); (· rfl); (· exact natA); (· exact omA); (· rfl); intro _ _ _)
    | ((with_reducible apply TW.guard_yes); (· rfl); (· rfl)) | ((with_reducible apply TW.guard_no); (· rfl); (· rfl); (· rfl); (· rfl)) | ((with_reducible apply TW.guard_undef); (· rfl); (· rfl); (· rfl))
    | refine TW.guard_ky rfl rfl kpA ?_ | refine TW.guard_kn rfl rfl kpA ?_ | refine TW.guard_nky rfl rfl kpA ?_ | refine TW.guard_nkn rfl rfl kpA ?_ | refine TW.guard_eq0 rfl rfl rfl (fun _ => ?_) (fun _ => ?_) | refine TW.guard_neq0 rfl rfl rfl (fun _ => ?_) (fun _ => ?_) | refine TW.guard_eq rfl rfl rfl (fun _ => ?_) (fun _ => ?_) | refine TW.guard_neq rfl rfl rfl (fun _ => ?_) (fun _ => ?_) | refine TW.guard_ndec rfl rfl rfl (fun _ => ?_) (fun _ => ?_) | refine TW.guard_dec rfl rfl rfl (fun _ => ?_) (fun _ => ?_) | refine TW.guard_split rfl rfl rfl (fun _ => ?_) (fun _ => ?_)
    | ((with_reducible apply TL.pure); (· exact Y.bytes_row rfl pkA); (· rfl)) | ((with_reducible apply TL.pure); (· exact Y.bytes_src rfl (Src.sl (by assumption)) rfl); (· rfl)) | ((with_reducible apply TW.pure); (· exact Y.bytes_row rfl pkA); (· rfl)) | ((with_reducible apply TW.pure); (· exact Y.bytes_src rfl (Src.sl (by assumption)) rfl); (· rfl))
    | refine TL.rows (Enters.plain (by kernel_rfl) (by rfl)) (P _) (by repeat (first | exact List.Perm.refl _ | apply Pk.cons (by (repeat (first | exact Pick.here | apply Pick.there))))) (by rfl) (fun _ => ?_)
    | ((with_reducible apply TL.gives_plain); (· kernel_rfl); (· rfl); (· exact AW _); (· rfl)) | ((with_reducible apply TW.gives_plain); (· kernel_rfl); (· rfl); (· exact AW _); (· rfl)))
          refine TQ.endR1 (L' := []) Tryd.results6 (by first | exact RVal.tmp rfl | exact RVal.cells rfl pkA (by rfl) | exact RVal.cell rfl pkA rfl) rfl (.refl _) ?_ (by repeat (first | exact Sel.refl | exact Sel.nil | apply Sel.cons (by (repeat (first | exact Pick.here | apply Pick.there))) | apply Sel.drop))
          exact ⟨rfl, rfl, rfl⟩
        · have HB : Hn _ := ⟨hB⟩
          repeat' (first
    | ((with_reducible apply TL.pure (d := 65) (v := .bool true)); (· exact Y.lss_is Q1.out rfl rfl); (· rfl)) | ((with_reducible apply TW.pure (d := 65) (v := .bool true)); (· exact Y.lss_is Q1.out rfl rfl); (· rfl))
    | ((with_reducible apply TL.pure (d := 69) (v := .bool _)); (· exact Y.lss_is q2 rfl rfl); (· rfl)) | ((with_reducible apply TW.pure (d := 69) (v := .bool _)); (· exact Y.lss_is q2 rfl rfl); (· rfl))
    | ((with_reducible apply TL.pure (d := 73) (v := .bool _)); (· exact Y.lss_is hC rfl rfl); (· rfl)) | ((with_reducible apply TW.pure (d := 73) (v := .bool _)); (· exact Y.lss_is hC rfl rfl); (· rfl))
    | ((with_reducible apply TL.pure (d := 61) (v := .bool false)); (· exact Y.eql_is (decide_eq_false hB) rfl rfl); (· rfl)) | ((with_reducible apply TW.pure (d := 61) (v := .bool false)); (· exact Y.eql_is (decide_eq_false hB) rfl rfl); (· rfl))
    | ((with_reducible apply TL.pure); (· exact yV); (· rfl)) | ((with_reducible apply TW.pure); (· exact yV); (· rfl))
    | ((with_reducible apply TL.pure); (· exact yA); (· rfl))
    | ((with_reducible apply TL.byteK); (· rfl); (· rfl); (· exact natA); (· assumption); (· rfl); intro _) | ((with_reducible apply TL.byte); (· rfl); (· rfl); (· exact natA); (· exact omA); (· rfl); intro _ _ _)
    | refine TC.seq ?_ | refine TC.region ?_ | refine TL.nil ?_ | refine TQ.then_normal ?_
    | ((with_reducible apply TL.storeE); (· rfl); (· rfl); (· rfl); (· exact pkA); (· infer_instance)) | ((with_reducible apply TL.store_whole); (· rfl); (· rfl); (· first | rfl | (first | rfl | ((try simp only [List.set_cons_zero, List.set_cons_succ]); refine all1 (by first | rfl | assumption) ?_; first | rfl | (refine all1 (by first | rfl | assumption) ?_; first | rfl | (refine all1 (by first | rfl | assumption) ?_; rfl))))); (· rfl); (· exact pkA); (· rfl))
    | refine TC.block ?_ | refine TC.ret ?_ | refine TC.skip ?_ | refine TC.exit ?_
    | ((with_reducible apply TC.cond_true); (· rfl)) | ((with_reducible apply TC.cond_false); (· rfl)) | refine TC.cond_ky rfl kpA ?_ | refine TC.cond_kn rfl kpA ?_ | refine TC.cond_nky rfl kpA ?_ | refine TC.cond_nkn rfl kpA ?_ | refine TC.cond_eq0 rfl (fun _ => ?_) (fun _ => ?_) | refine TC.cond_neq0 rfl (fun _ => ?_) (fun _ => ?_) | refine TC.cond_eq rfl (fun _ => ?_) (fun _ => ?_) | refine TC.cond_neq rfl (fun _ => ?_) (fun _ => ?_) | refine TC.cond_not rfl (fun _ => ?_) (fun _ => ?_) | refine TC.cond_dec rfl (fun _ => ?_) (fun _ => ?_) | refine TC.cond_bool rfl (fun _ => ?_) (fun _ => ?_)
    | refine TQ.then_ret ?_ | refine TQ.then_exit ?_ | refine TQ.then_panic ?_ | refine TQ.in_normal ?_ | refine TQ.in_ret ?_ | refine TQ.in_exit ?_ | refine TQ.in_exit' rfl ?_ | refine TQ.in_panic ?_
    | refine TQ.round_ret ?_ | refine TQ.round_exit ?_ | refine TQ.round_panic ?_ | refine TQ.cut_ret ?_ | refine TQ.cut_exit ?_ | refine TQ.cut_panic ?_
    | ((with_reducible apply TL.guard_yes); (· rfl); (· rfl)) | ((with_reducible apply TL.guard_no); (· rfl); (· rfl); (· rfl); (· rfl)) | ((with_reducible apply TL.guard_no0); (· rfl); (· rfl); (· rfl)) | ((with_reducible apply TL.guard_undef); (· rfl); (· rfl); (· rfl)) | ((with_reducible apply TL.guard_undef0); (· rfl); (· rfl))
    | refine TL.guard_ky rfl rfl kpA ?_ | refine TL.guard_kn rfl rfl kpA ?_ | refine TL.guard_nky rfl rfl kpA ?_ | refine TL.guard_nkn rfl rfl kpA ?_ | refine TL.guard_eq0 rfl rfl rfl (fun _ => ?_) (fun _ => ?_) | refine TL.guard_neq0 rfl rfl rfl (fun _ => ?_) (fun _ => ?_) | refine TL.guard_eq rfl rfl rfl (fun _ => ?_) (fun _ => ?_) | refine TL.guard_neq rfl rfl rfl (fun _ => ?_) (fun _ => ?_) | refine TL.guard_ndec rfl rfl rfl (fun _ => ?_) (fun _ => ?_) | refine TL.guard_dec rfl rfl rfl (fun _ => ?_) (fun _ => ?_) | refine TL.guard_split rfl rfl rfl (fun _ => ?_) (fun _ => ?_)
    | ((with_reducible apply TL.alloc_ag); (· rfl); intro _) | ((with_reducible apply TL.alloc_sc); (· rfl); (· rfl); intro _) | ((with_reducible apply TL.box_ag); (· rfl); (· rfl); intro _) | ((with_reducible apply TL.box_sc); (· rfl); (· rfl); (· rfl); intro _)
    | ((with_reducible apply TL.range_str); (· rfl); (· rfl); intro _) | ((with_reducible apply TL.next_str); (· rfl); (· exact pkA); (· rfl); all_goals intro _)
    | apply TC.region_draw (by kernel_rfl) (by kernel_rfl) | refine TW.nil ?_
    | ((with_reducible apply TW.pure); (· exact yA); (· rfl)) | ((with_reducible apply TW.byteK); (· rfl); (· rfl); (· exact natA); (· assumption); (· rfl); intro _) | ((with_reducible apply TW.byte); (· rfl); (· rfl); (· exact natA); (· exact omA); (· rfl); intro _ _ _)
    | ((with_reducible apply TW.guard_yes); (· rfl); (· rfl)) | ((with_reducible apply TW.guard_no); (· rfl); (· rfl); (· rfl); (· rfl)) | ((with_reducible apply TW.guard_undef); (· rfl); (· rfl); (· rfl))
    | refine TW.guard_ky rfl rfl kpA ?_ | refine TW.guard_kn rfl rfl kpA ?_ | refine TW.guard_nky rfl rfl kpA ?_ | refine TW.guard_nkn rfl rfl kpA ?_ | refine TW.guard_eq0 rfl rfl rfl (fun _ => ?_) (fun _ => ?_) | refine TW.guard_neq0 rfl rfl rfl (fun _ => ?_) (fun _ => ?_) | refine TW.guard_eq rfl rfl rfl (fun _ => ?_) (fun _ => ?_) | refine TW.guard_neq rfl rfl rfl (fun _ => ?_) (fun _ => ?_) | refine TW.guard_ndec rfl rfl rfl (fun _ => ?_) (fun _ => ?_) | refine TW.guard_dec rfl rfl rfl (fun _ => ?_) (fun _ => ?_) | refine TW.guard_split rfl rfl rfl (fun _ => ?_) (fun _ => ?_)
    | ((with_reducible apply TL.pure); (· exact Y.bytes_row rfl pkA); (· rfl)) | ((with_reducible apply TL.pure); (· exact Y.bytes_src rfl (Src.sl (by assumption)) rfl); (· rfl)) | ((with_reducible apply TW.pure); (· exact Y.bytes_row rfl pkA); (· rfl)) | ((with_reducible apply TW.pure); (· exact Y.bytes_src rfl (Src.sl (by assumption)) rfl); (· rfl))
    | refine TL.rows (Enters.plain (by kernel_rfl) (by rfl)) (P _) (by repeat (first | exact List.Perm.refl _ | apply Pk.cons (by (repeat (first | exact Pick.here | apply Pick.there))))) (by rfl) (fun _ => ?_)
    | ((with_reducible apply TL.gives_plain); (· kernel_rfl); (· rfl); (· exact AW _); (· rfl)) | ((with_reducible apply TW.gives_plain); (· kernel_rfl); (· rfl); (· exact AW _); (· rfl)))
          refine TQ.endR1 (L' := []) Tryd.results6 (by first | exact RVal.tmp rfl | exact RVal.cells rfl pkA (by rfl) | exact RVal.cell rfl pkA rfl) rfl (.refl _) ?_ (by repeat (first | exact Sel.refl | exact Sel.nil | apply Sel.cons (by (repeat (first | exact Pick.here | apply Pick.there))) | apply Sel.drop))
          exact ⟨rfl, rfl, rfl⟩
      · repeat' (first
    | ((with_reducible apply TL.pure (d := 65) (v := .bool true)); (· exact Y.lss_is Q1.out rfl rfl); (· rfl)) | ((with_reducible apply TW.pure (d := 65) (v := .bool true)); (· exact Y.lss_is Q1.out rfl rfl); (· rfl))
    | ((with_reducible apply TL.pure (d := 69) (v := .bool _)); (· exact Y.lss_is q2 rfl rfl); (· rfl)) | ((with_reducible apply TW.pure (d := 69) (v := .bool _)); (· exact Y.lss_is q2 rfl rfl); (· rfl))
    | ((with_reducible apply TL.pure (d := 73) (v := .bool _)); (· exact Y.lss_is hC rfl rfl); (· rfl)) | ((with_reducible apply TW.pure (d := 73) (v := .bool _)); (· exact Y.lss_is hC rfl rfl); (· rfl))
    | ((with_reducible apply TL.pure); (· exact yV); (· rfl)) | ((with_reducible apply TW.pure); (· exact yV); (· rfl))
    | ((with_reducible apply TL.pure); (· exact yA); (· rfl))
    | ((with_reducible apply TL.byteK); (· rfl); (· rfl); (· exact natA); (· assumption); (· rfl); intro _) | ((with_reducible apply TL.byte); (· rfl); (· rfl); (· exact natA); (· exact omA); (· rfl); intro _ _ _)
    | refine TC.seq ?_ | refine TC.region ?_ | refine TL.nil ?_ | refine TQ.then_normal ?_
    | ((with_reducible apply TL.storeE); (· rfl); (· rfl); (· rfl); (· exact pkA); (· infer_instance)) | ((with_reducible apply TL.store_whole); (· rfl); (· rfl); (· first | rfl | (first | rfl | ((try simp only [List.set_cons_zero, List.set_cons_succ]); refine all1 (by first | rfl | assumption) ?_; first | rfl | (refine all1 (by first | rfl | assumption) ?_; first | rfl | (refine all1 (by first | rfl | assumption) ?_; rfl))))); (· rfl); (· exact pkA); (· rfl))
    | refine TC.block ?_ | refine TC.ret ?_ | refine TC.skip ?_ | refine TC.exit ?_
    | ((with_reducible apply TC.cond_true); (· rfl)) | ((with_reducible apply TC.cond_false); (· rfl)) | refine TC.cond_ky rfl kpA ?_ | refine TC.cond_kn rfl kpA ?_ | refine TC.cond_nky rfl kpA ?_ | refine TC.cond_nkn rfl kpA ?_ | refine TC.cond_eq0 rfl (fun _ => ?_) (fun _ => ?_) | refine TC.cond_neq0 rfl (fun _ => ?_) (fun _ => ?_) | refine TC.cond_eq rfl (fun _ => ?_) (fun _ => ?_) | refine TC.cond_neq rfl (fun _ => ?_) (fun _ => ?_) | refine TC.cond_not rfl (fun _ => ?_) (fun _ => ?_) | refine TC.cond_dec rfl (fun _ => ?_) (fun _ => ?_) | refine TC.cond_bool rfl (fun _ => ?_) (fun _ => ?_)
    | refine TQ.then_ret ?_ | refine TQ.then_exit ?_ | refine TQ.then_panic ?_ | refine TQ.in_normal ?_ | refine TQ.in_ret ?_ | refine TQ.in_exit ?_ | refine TQ.in_exit' rfl ?_ | refine TQ.in_panic ?_
    | refine TQ.round_ret ?_ | refine TQ.round_exit ?_ | refine TQ.round_panic ?_ | refine TQ.cut_ret ?_ | refine TQ.cut_exit ?_ | refine TQ.cut_panic ?_
    | ((with_reducible apply TL.guard_yes); (· rfl); (· rfl)) | ((with_reducible apply TL.guard_no); (· rfl); (· rfl); (· rfl); (· rfl)) | ((with_reducible apply TL.guard_no0); (· rfl); (· rfl); (· rfl)) | ((with_reducible apply TL.guard_undef); (· rfl); (· rfl); (· rfl)) | ((with_reducible apply TL.guard_undef0); (· rfl); (· rfl))
    | refine TL.guard_ky rfl rfl kpA ?_ | refine TL.guard_kn rfl rfl kpA ?_ | refine TL.guard_nky rfl rfl kpA ?_ | refine TL.guard_nkn rfl rfl kpA ?_ | refine TL.guard_eq0 rfl rfl rfl (fun _ => ?_) (fun _ => ?_) | refine TL.guard_neq0 rfl rfl rfl (fun _ => ?_) (fun _ => ?_) | refine TL.guard_eq rfl rfl rfl (fun _ => ?_) (fun _ => ?_) | refine TL.guard_neq rfl rfl rfl (fun _ => ?_) (fun _ => ?_) | refine TL.guard_ndec rfl rfl rfl (fun _ => ?_) (fun _ => ?_) | refine TL.guard_dec rfl rfl rfl (fun _ => ?_) (fun _ => ?_) | refine TL.guard_split rfl rfl rfl (fun _ => ?_) (fun _ => ?_)
    | ((with_reducible apply TL.alloc_ag); (· rfl); intro _) | ((with_reducible apply TL.alloc_sc); (· rfl); (· rfl); intro _) | ((with_reducible apply TL.box_ag); (· rfl); (· rfl); intro _) | ((with_reducible apply TL.box_sc); (· rfl); (· rfl); (· rfl); intro _)
    | ((with_reducible apply TL.range_str); (· rfl); (· rfl); intro _) | ((with_reducible apply TL.next_str); (· rfl); (· exact pkA); (· rfl); all_goals intro _)
    | apply TC.region_draw (by kernel_rfl) (by kernel_rfl) | refine TW.nil ?_
    | ((with_reducible apply TW.pure); (· exact yA); (· rfl)) | ((with_reducible apply TW.byteK); (· rfl); (· rfl); (· exact natA); (· assumption); (· rfl); intro _) | ((with_reducible apply TW.byte); (· rfl); (· rfl); (· exact natA); (· exact omA); (· rfl); intro _ _ _)
    | ((with_reducible apply TW.guard_yes); (· rfl); (· rfl)) | ((with_reducible apply TW.guard_no); (· rfl); (· rfl); (· rfl); (· rfl)) | ((with_reducible apply TW.guard_undef); (· rfl); (· rfl); (· rfl))
    | refine TW.guard_ky rfl rfl kpA ?_ | refine TW.guard_kn rfl rfl kpA ?_ | refine TW.guard_nky rfl rfl kpA ?_ | refine TW.guard_nkn rfl rfl kpA ?_ | refine TW.guard_eq0 rfl rfl rfl (fun _ => ?_) (fun _ => ?_) | refine TW.guard_neq0 rfl rfl rfl (fun _ => ?_) (fun _ => ?_) | refine TW.guard_eq rfl rfl rfl (fun _ => ?_) (fun _ => ?_) | refine TW.guard_neq rfl rfl rfl (fun _ => ?_) (fun _ => ?_) | refine TW.guard_ndec rfl rfl rfl (fun _ => ?_) (fun _ => ?_) | refine TW.guard_dec rfl rfl rfl (fun _ => ?_) (fun _ => ?_) | refine TW.guard_split rfl rfl rfl (fun _ => ?_) (fun _ => ?_)
    | ((with_reducible apply TL.pure); (· exact Y.bytes_row rfl pkA); (· rfl)) | ((with_reducible apply TL.pure); (· exact Y.bytes_src rfl (Src.sl (by assumption)) rfl); (· rfl)) | ((with_reducible apply TW.pure); (· exact Y.bytes_row rfl pkA); (· rfl)) | ((with_reducible apply TW.pure); (· exact Y.bytes_src rfl (Src.sl (by assumption)) rfl); (· rfl))
    | refine TL.rows (Enters.plain (by kernel_rfl) (by rfl)) (P _) (by repeat (first | exact List.Perm.refl _ | apply Pk.cons (by (repeat (first | exact Pick.here | apply Pick.there))))) (by rfl) (fun _ => ?_)
    | ((with_reducible apply TL.gives_plain); (· kernel_rfl); (· rfl); (· exact AW _); (· rfl)) | ((with_reducible apply TW.gives_plain); (· kernel_rfl); (· rfl); (· exact AW _); (· rfl)))
        refine TQ.endR1 (L' := []) Tryd.results6 (by first | exact RVal.tmp rfl | exact RVal.cells rfl pkA (by rfl) | exact RVal.cell rfl pkA rfl) rfl (.refl _) ?_ (by repeat (first | exact Sel.refl | exact Sel.nil | apply Sel.cons (by (repeat (first | exact Pick.here | apply Pick.there))) | apply Sel.drop))
        exact ⟨rfl, rfl, rfl⟩
    | false =>
      rw [hC, Bool.false_or] at q2
      by_cases hA : s.length ≤ o.length
      · rw [decide_eq_true hA, Bool.true_and] at q2
        by_cases hB : o.take s.length = s
        · rw [decide_eq_true hB] at q2
          repeat' (first
    | ((with_reducible apply TL.pure (d := 65) (v := .bool true)); (· exact Y.lss_is Q1.out rfl rfl); (· rfl)) | ((with_reducible apply TW.pure (d := 65) (v := .bool true)); (· exact Y.lss_is Q1.out rfl rfl); (· rfl))
    | ((with_reducible apply TL.pure (d := 69) (v := .bool _)); (· exact Y.lss_is q2 rfl rfl); (· rfl)) | ((with_reducible apply TW.pure (d := 69) (v := .bool _)); (· exact Y.lss_is q2 rfl rfl); (· rfl))
    | ((with_reducible apply TL.pure (d := 73) (v := .bool _)); (· exact Y.lss_is hC rfl rfl); (· rfl)) | ((with_reducible apply TW.pure (d := 73) (v := .bool _)); (· exact Y.lss_is hC rfl rfl); (· rfl))
    | ((with_reducible apply TL.pure (d := 61) (v := .bool true)); (· exact Y.eql_is (decide_eq_true hB) rfl rfl); (· rfl)) | ((with_reducible apply TW.pure (d := 61) (v := .bool true)); (· exact Y.eql_is (decide_eq_true hB) rfl rfl); (· rfl))
    | ((with_reducible apply TL.pure); (· exact yV); (· rfl)) | ((with_reducible apply TW.pure); (· exact yV); (· rfl))
    | ((with_reducible apply TL.pure); (· exact yA); (· rfl))
    | ((with_reducible apply TL.byteK); (· rfl); (· rfl); (· exact natA); (· assumption); (· rfl); intro _) | ((with_reducible apply TL.byte); (· rfl); (· rfl); (· exact natA); (· exact omA); (· rfl); intro _ _ _)
    | refine TC.seq ?_ | refine TC.region ?_ | refine TL.nil ?_ | refine TQ.then_normal ?_
    | ((with_reducible apply TL.storeE); (· rfl); (· rfl); (· rfl); (· exact pkA); (· infer_instance)) | ((with_reducible apply TL.store_whole); (· rfl); (· rfl); (· first | rfl | (first | rfl | ((try simp only [List.set_cons_zero, List.set_cons_succ]); refine all1 (by first | rfl | assumption) ?_; first | rfl | (refine all1 (by first | rfl | assumption) ?_; first | rfl | (refine all1 (by first | rfl | assumption) ?_; rfl))))); (· rfl); (· exact pkA); (· rfl))
    | refine TC.block ?_ | refine TC.ret ?_ | refine TC.skip ?_ | refine TC.exit ?_
    | ((with_reducible apply TC.cond_true); (· rfl)) | ((with_reducible apply TC.cond_false); (· rfl)) | refine TC.cond_ky rfl kpA ?_ | refine TC.cond_kn rfl kpA ?_ | refine TC.cond_nky rfl kpA ?_ | refine TC.cond_nkn rfl kpA ?_ | refine TC.cond_eq0 rfl (fun _ => ?_) (fun _ => ?_) | refine TC.cond_neq0 rfl (fun _ => ?_) (fun _ => ?_) | refine TC.cond_eq rfl (fun _ => ?_) (fun _ => ?_) | refine TC.cond_neq rfl (fun _ => ?_) (fun _ => ?_) | refine TC.cond_not rfl (fun _ => ?_) (fun _ => ?_) | refine TC.cond_dec rfl (fun _ => ?_) (fun _ => ?_) | refine TC.cond_bool rfl (fun _ => ?_) (fun _ => ?_)
    | refine TQ.then_ret ?_ | refine TQ.then_exit ?_ | refine TQ.then_panic ?_ | refine TQ.in_normal ?_ | refine TQ.in_ret ?_ | refine TQ.in_exit ?_ | refine TQ.in_exit' rfl ?_ | refine TQ.in_panic ?_
    | refine TQ.round_ret ?_ | refine TQ.round_exit ?_ | refine TQ.round_panic ?_ | refine TQ.cut_ret ?_ | refine TQ.cut_exit ?_ | refine TQ.cut_panic ?_
    | ((with_reducible apply TL.guard_yes); (· rfl); (· rfl)) | ((with_reducible apply TL.guard_no); (· rfl); (· rfl); (· rfl); (· rfl)) | ((with_reducible apply TL.guard_no0); (· rfl); (· rfl); (· rfl)) | ((with_reducible apply TL.guard_undef); (· rfl); (· rfl); (· rfl)) | ((with_reducible apply TL.guard_undef0); (· rfl); (· rfl))
    | refine TL.guard_ky rfl rfl kpA ?_ | refine TL.guard_kn rfl rfl kpA ?_ | refine TL.guard_nky rfl rfl kpA ?_ | refine TL.guard_nkn rfl rfl kpA ?_ | refine TL.guard_eq0 rfl rfl rfl (fun _ => ?_) (fun _ => ?_) | refine TL.guard_neq0 rfl rfl rfl (fun _ => ?_) (fun _ => ?_) | refine TL.guard_eq rfl rfl rfl (fun _ => ?_) (fun _ => ?_) | refine TL.guard_neq rfl rfl rfl (fun _ => ?_) (fun _ => ?_) | refine TL.guard_ndec rfl rfl rfl (fun _ => ?_) (fun _ => ?_) | refine TL.guard_dec rfl rfl rfl (fun _ => ?_) (fun _ => ?_) | refine TL.guard_split rfl rfl rfl (fun _ => ?_) (fun _ => ?_)
    | ((with_reducible apply TL.alloc_ag); (· rfl); intro _) | ((with_reducible apply TL.alloc_sc); (· rfl); (· rfl); intro _) | ((with_reducible apply TL.box_ag); (· rfl); (· rfl); intro _) | ((with_reducible apply TL.box_sc); (· rfl); (· rfl); (· rfl); intro _)
    | ((with_reducible apply TL.range_str); (· rfl); (· rfl); intro _) | ((with_reducible apply TL.next_str); (· rfl); (· exact pkA); (· rfl); all_goals intro _)
    | apply TC.region_draw (by kernel_rfl) (by kernel_rfl) | refine TW.nil ?_
    | ((with_reducible apply TW.pure); (· exact yA); (· rfl)) | ((with_reducible apply TW.byteK); (· rfl); (· rfl); (· exact natA); (· assumption); (· rfl); intro _) | ((with_reducible apply TW.byte); (· rfl); (· rfl); (· exact natA); (· exact omA); (· rfl); intro _ _ _)
    | ((with_reducible apply TW.guard_yes); (· rfl); (· rfl)) | ((with_reducible apply TW.guard_no); (· rfl); (· rfl); (· rfl); (· rfl)) | ((with_reducible apply TW.guard_undef); (· rfl); (· rfl); (· rfl))
    | refine TW.guard_ky rfl rfl kpA ?_ | refine TW.guard_kn rfl rfl kpA ?_ | refine TW.guard_nky rfl rfl kpA ?_ | refine TW.guard_nkn rfl rfl kpA ?_ | refine TW.guard_eq0 rfl rfl rfl (fun _ => ?_) (fun _ => ?_) | refine TW.guard_neq0 rfl rfl rfl (fun _ => ?_) (fun _ => ?_) | refine TW.guard_eq rfl rfl rfl (fun _ => ?_) (fun _ => ?_) | refine TW.guard_neq rfl rfl rfl (fun _ => ?_) (fun _ => ?_) | refine TW.guard_ndec rfl rfl rfl (fun _ => ?_) (fun _ => ?_) | refine TW.guard_dec rfl rfl rfl (fun _ => ?_) (fun _ => ?_) | refine TW.guard_split rfl rfl rfl (fun _ => ?_) (fun _ => ?_)
    | ((with_reducible apply TL.pure); (· exact Y.bytes_row rfl pkA); (· rfl)) | ((with_reducible apply TL.pure); (· exact Y.bytes_src rfl (Src.sl (by assumption)) rfl); (· rfl)) | ((with_reducible apply TW.pure); (· exact Y.bytes_row rfl pkA); (· rfl)) | ((with_reducible apply TW.pure); (· exact Y.bytes_src rfl (Src.sl (by assumption)) rfl); (· rfl))
    | refine TL.rows (Enters.plain (by kernel_rfl) (by rfl)) (P _) (by repeat (first | exact List.Perm.refl _ | apply Pk.cons (by (repeat (first | exact Pick.here | apply Pick.there))))) (by rfl) (fun _ => ?_)
    | ((with_reducible apply TL.gives_plain); (· kernel_rfl); (· rfl); (· exact AW _); (· rfl)) | ((with_reducible apply TW.gives_plain); (· kernel_rfl); (· rfl); (· exact AW _); (· rfl)))
          refine TQ.endR1 (L' := []) Tryd.results6 (by first | exact RVal.tmp rfl | exact RVal.cells rfl pkA (by rfl) | exact RVal.cell rfl pkA rfl) rfl (.refl _) ?_ (by repeat (first | exact Sel.refl | exact Sel.nil | apply Sel.cons (by (repeat (first | exact Pick.here | apply Pick.there))) | apply Sel.drop))
          exact ⟨rfl, rfl, rfl⟩
        · rw [decide_eq_false hB] at q2
          have HB : Hn _ := ⟨hB⟩
          repeat' (first
    | ((with_reducible apply TL.pure (d := 65) (v := .bool true)); (· exact Y.lss_is Q1.out rfl rfl); (· rfl)) | ((with_reducible apply TW.pure (d := 65) (v := .bool true)); (· exact Y.lss_is Q1.out rfl rfl); (· rfl))
    | ((with_reducible apply TL.pure (d := 69) (v := .bool _)); (· exact Y.lss_is q2 rfl rfl); (· rfl)) | ((with_reducible apply TW.pure (d := 69) (v := .bool _)); (· exact Y.lss_is q2 rfl rfl); (· rfl))
    | ((with_reducible apply TL.pure (d := 73) (v := .bool _)); (· exact Y.lss_is hC rfl rfl); (· rfl)) | ((with_reducible apply TW.pure (d := 73) (v := .bool _)); (· exact Y.lss_is hC rfl rfl); (· rfl))
    | ((with_reducible apply TL.pure (d := 61) (v := .bool false)); (· exact Y.eql_is (decide_eq_false hB) rfl rfl); (· rfl)) | ((with_reducible apply TW.pure (d := 61) (v := .bool false)); (· exact Y.eql_is (decide_eq_false hB) rfl rfl); (· rfl))
    | ((with_reducible apply TL.pure); (· exact yV); (· rfl)) | ((with_reducible apply TW.pure); (· exact yV); (· rfl))
    | ((with_reducible apply TL.pure); (· exact yA); (· rfl))
    | ((with_reducible apply TL.byteK); (· rfl); (· rfl); (· exact natA); (· assumption); (· rfl); intro _) | ((with_reducible apply TL.byte); (· rfl); (· rfl); (· exact natA); (· exact omA); (· rfl); intro _ _ _)
    | refine TC.seq ?_ | refine TC.region ?_ | refine TL.nil ?_ | refine TQ.then_normal ?_
    | ((with_reducible apply TL.storeE); (· rfl); (· rfl); (· rfl); (· exact pkA); (· infer_instance)) | ((with_reducible apply TL.store_whole); (· rfl); (· rfl); (· first | rfl | (first | rfl | ((try simp only [List.set_cons_zero, List.set_cons_succ]); refine all1 (by first | rfl | assumption) ?_; first | rfl | (refine all1 (by first | rfl | assumption) ?_; first | rfl | (refine all1 (by first | rfl | assumption) ?_; rfl))))); (· rfl); (· exact pkA); (· rfl))
    | refine TC.block ?_ | refine TC.ret ?_ | refine TC.skip ?_ | refine TC.exit ?_
    | ((with_reducible apply TC.cond_true); (· rfl)) | ((with_reducible apply TC.cond_false); (· rfl)) | refine TC.cond_ky rfl kpA ?_ | refine TC.cond_kn rfl kpA ?_ | refine TC.cond_nky rfl kpA ?_ | refine TC.cond_nkn rfl kpA ?_ | refine TC.cond_eq0 rfl (fun _ => ?_) (fun _ => ?_) | refine TC.cond_neq0 rfl (fun _ => ?_) (fun _ => ?_) | refine TC.cond_eq rfl (fun _ => ?_) (fun _ => ?_) | refine TC.cond_neq rfl (fun _ => ?_) (fun _ => ?_) | refine TC.cond_not rfl (fun _ => ?_) (fun _ => ?_) | refine TC.cond_dec rfl (fun _ => ?_) (fun _ => ?_) | refine TC.cond_bool rfl (fun _ => ?_) (fun _ => ?_)
    | refine TQ.then_ret ?_ | refine TQ.then_exit ?_ | refine TQ.then_panic ?_ | refine TQ.in_normal ?_ | refine TQ.in_ret ?_ | refine TQ.in_exit ?_ | refine TQ.in_exit' rfl ?_ | refine TQ.in_panic ?_
    | refine TQ.round_ret ?_ | refine TQ.round_exit ?_ | refine TQ.round_panic ?_ | refine TQ.cut_ret ?_ | refine TQ.cut_exit ?_ | refine TQ.cut_panic ?_
    | ((with_reducible apply TL.guard_yes); (· rfl); (· rfl)) | ((with_reducible apply TL.guard_no); (· rfl); (· rfl); (· rfl); (· rfl)) | ((with_reducible apply TL.guard_no0); (· rfl); (· rfl); (· rfl)) | ((with_reducible apply TL.guard_undef); (· rfl); (· rfl); (· rfl)) | ((with_reducible apply TL.guard_undef0); (· rfl); (· rfl))
    | refine TL.guard_ky rfl rfl kpA ?_ | refine TL.guard_kn rfl rfl kpA ?_ | refine TL.guard_nky rfl rfl kpA ?_ | refine TL.guard_nkn rfl rfl kpA ?_ | refine TL.guard_eq0 rfl rfl rfl (fun _ => ?_) (fun _ => ?_) | refine TL.guard_neq0 rfl rfl rfl (fun _ => ?_) (fun _ => ?_) | refine TL.guard_eq rfl rfl rfl (fun _ => ?_) (fun _ => ?_) | refine TL.guard_neq rfl rfl rfl (fun _ => ?_) (fun _ => ?_) | refine TL.guard_ndec rfl rfl rfl (fun _ => ?_) (fun _ => ?_) | refine TL.guard_dec rfl rfl rfl (fun _ => ?_) (fun _ => ?_) | refine TL.guard_split rfl rfl rfl (fun _ => ?_) (fun _ => ?_)
    | ((with_reducible apply TL.alloc_ag); (· rfl); intro _) | ((with_reducible apply TL.alloc_sc); (· rfl); (· rfl); intro _) | ((with_reducible apply TL.box_ag); (· rfl); (· rfl); intro _) | ((with_reducible apply TL.box_sc); (· rfl); (· rfl); (· rfl); intro _)
    | ((with_reducible apply TL.range_str); (· rfl); (· rfl); intro _) | ((with_reducible apply TL.next_str); (· rfl); (· exact pkA); (· rfl); all_goals intro _)
    | apply TC.region_draw (by kernel_rfl) (by kernel_rfl) | refine TW.nil ?_
    | ((with_reducible apply TW.pure); (· exact yA); (· rfl)) | ((with_reducible apply TW.byteK); (· rfl); (· rfl); (· exact natA); (· assumption); (· rfl); intro _) | ((with_reducible apply TW.byte); (· rfl); (· rfl); (· exact natA); (· exact omA); (· rfl); intro _ _ _)
    | ((with_reducible apply TW.guard_yes); (· rfl); (· rfl)) | ((with_reducible apply TW.guard_no); (· rfl); (· rfl); (· rfl); (· rfl)) | ((with_reducible apply TW.guard_undef); (· rfl); (· rfl); (· rfl))
    | refine TW.guard_ky rfl rfl kpA ?_ | refine TW.guard_kn rfl rfl kpA ?_ | refine TW.guard_nky rfl rfl kpA ?_ | refine TW.guard_nkn rfl rfl kpA ?_ | refine TW.guard_eq0 rfl rfl rfl (fun _ => ?_) (fun _ => ?_) | refine TW.guard_neq0 rfl rfl rfl (fun _ => ?_) (fun _ => ?_) | refine TW.guard_eq rfl rfl rfl (fun _ => ?_) (fun _ => ?_) | refine TW.guard_neq rfl rfl rfl (fun _ => ?_) (fun _ => ?_) | refine TW.guard_ndec rfl rfl rfl (fun _ => ?_) (fun _ => ?_) | refine TW.guard_dec rfl rfl rfl (fun _ => ?_) (fun _ => ?_) | refine TW.guard_split rfl rfl rfl (fun _ => ?_) (fun _ => ?_)
    | ((with_reducible apply TL.pure); (· exact Y.bytes_row rfl pkA); (· rfl)) | ((with_reducible apply TL.pure); (· exact Y.bytes_src rfl (Src.sl (by assumption)) rfl); (· rfl)) | ((with_reducible apply TW.pure); (· exact Y.bytes_row rfl pkA); (· rfl)) | ((with_reducible apply TW.pure); (· exact Y.bytes_src rfl (Src.sl (by assumption)) rfl); (· rfl))
    | refine TL.rows (Enters.plain (by kernel_rfl) (by rfl)) (P _) (by repeat (first | exact List.Perm.refl _ | apply Pk.cons (by (repeat (first | exact Pick.here | apply Pick.there))))) (by rfl) (fun _ => ?_)
    | ((with_reducible apply TL.gives_plain); (· kernel_rfl); (· rfl); (· exact AW _); (· rfl)) | ((with_reducible apply TW.gives_plain); (· kernel_rfl); (· rfl); (· exact AW _); (· rfl)))
          refine TQ.endR1 (L' := []) Tryd.results6 (by first | exact RVal.tmp rfl | exact RVal.cells rfl pkA (by rfl) | exact RVal.cell rfl pkA rfl) rfl (.refl _) ?_ (by repeat (first | exact Sel.refl | exact Sel.nil | apply Sel.cons (by (repeat (first | exact Pick.here | apply Pick.there))) | apply Sel.drop))
          exact ⟨rfl, rfl, rfl⟩
      · rw [decide_eq_false hA, Bool.false_and] at q2
        repeat' (first
    | ((with_reducible apply TL.pure (d := 65) (v := .bool true)); (· exact Y.lss_is Q1.out rfl rfl); (· rfl)) | ((with_reducible apply TW.pure (d := 65) (v := .bool true)); (· exact Y.lss_is Q1.out rfl rfl); (· rfl))
    | ((with_reducible apply TL.pure (d := 69) (v := .bool _)); (· exact Y.lss_is q2 rfl rfl); (· rfl)) | ((with_reducible apply TW.pure (d := 69) (v := .bool _)); (· exact Y.lss_is q2 rfl rfl); (· rfl))
    | ((with_reducible apply TL.pure (d := 73) (v := .bool _)); (· exact Y.lss_is hC rfl rfl); (· rfl)) | ((with_reducible apply TW.pure (d := 73) (v := .bool _)); (· exact Y.lss_is hC rfl rfl); (· rfl))
    | ((with_reducible apply TL.pure); (· exact yV); (· rfl)) | ((with_reducible apply TW.pure); (· exact yV); (· rfl))
    | ((with_reducible apply TL.pure); (· exact yA); (· rfl))
    | ((with_reducible apply TL.byteK); (· rfl); (· rfl); (· exact natA); (· assumption); (· rfl); intro _) | ((with_reducible apply TL.byte); (· rfl); (· rfl); (· exact natA); (· exact omA); (· rfl); intro _ _ _)
    | refine TC.seq ?_ | refine TC.region ?_ | refine TL.nil ?_ | refine TQ.then_normal ?_
    | ((with_reducible apply TL.storeE); (· rfl); (· rfl); (· rfl); (· exact pkA); (· infer_instance)) | ((with_reducible apply TL.store_whole); (· rfl); (· rfl); (· first | rfl | (first | rfl | ((try simp only [List.set_cons_zero, List.set_cons_succ]); refine all1 (by first | rfl | assumption) ?_; first | rfl | (refine all1 (by first | rfl | assumption) ?_; first | rfl | (refine all1 (by first | rfl | assumption) ?_; rfl))))); (· rfl); (· exact pkA); (· rfl))
    | refine TC.block ?_ | refine TC.ret ?_ | refine TC.skip ?_ | refine TC.exit ?_
    | ((with_reducible apply TC.cond_true); (· rfl)) | ((with_reducible apply TC.cond_false); (· rfl)) | refine TC.cond_ky rfl kpA ?_ | refine TC.cond_kn rfl kpA ?_ | refine TC.cond_nky rfl kpA ?_ | refine TC.cond_nkn rfl kpA ?_ | refine TC.cond_eq0 rfl (fun _ => ?_) (fun _ => ?_) | refine TC.cond_neq0 rfl (fun _ => ?_) (fun _ => ?_) | refine TC.cond_eq rfl (fun _ => ?_) (fun _ => ?_) | refine TC.cond_neq rfl (fun _ => ?_) (fun _ => ?_) | refine TC.cond_not rfl (fun _ => ?_) (fun _ => ?_) | refine TC.cond_dec rfl (fun _ => ?_) (fun _ => ?_) | refine TC.cond_bool rfl (fun _ => ?_) (fun _ => ?_)
    | refine TQ.then_ret ?_ | refine TQ.then_exit ?_ | refine TQ.then_panic ?_ | refine TQ.in_normal ?_ | refine TQ.in_ret ?_ | refine TQ.in_exit ?_ | refine TQ.in_exit' rfl ?_ | refine TQ.in_panic ?_
    | refine TQ.round_ret ?_ | refine TQ.round_exit ?_ | refine TQ.round_panic ?_ | refine TQ.cut_ret ?_ | refine TQ.cut_exit ?_ | refine TQ.cut_panic ?_
    | ((with_reducible apply TL.guard_yes); (· rfl); (· rfl)) | ((with_reducible apply TL.guard_no); (· rfl); (· rfl); (· rfl); (· rfl)) | ((with_reducible apply TL.guard_no0); (· rfl); (· rfl); (· rfl)) | ((with_reducible apply TL.guard_undef); (· rfl); (· rfl); (· rfl)) | ((with_reducible apply TL.guard_undef0); (· rfl); (· rfl))
    | refine TL.guard_ky rfl rfl kpA ?_ | refine TL.guard_kn rfl rfl kpA ?_ | refine TL.guard_nky rfl rfl kpA ?_ | refine TL.guard_nkn rfl rfl kpA ?_ | refine TL.guard_eq0 rfl rfl rfl (fun _ => ?_) (fun _ => ?_) | refine TL.guard_neq0 rfl rfl rfl (fun _ => ?_) (fun _ => ?_) | refine TL.guard_eq rfl rfl rfl (fun _ => ?_) (fun _ => ?_) | refine TL.guard_neq rfl rfl rfl (fun _ => ?_) (fun _ => ?_) | refine TL.guard_ndec rfl rfl rfl (fun _ => ?_) (fun _ => ?_) | refine TL.guard_dec rfl rfl rfl (fun _ => ?_) (fun _ => ?_) | refine TL.guard_split rfl rfl rfl (fun _ => ?_) (fun _ => ?_)
    | ((with_reducible apply TL.alloc_ag); (· rfl); intro _) | ((with_reducible apply TL.alloc_sc); (· rfl); (· rfl); intro _) | ((with_reducible apply TL.box_ag); (· rfl); (· rfl); intro _) | ((with_reducible apply TL.box_sc); (· rfl); (· rfl); (· rfl); intro _)
    | ((with_reducible apply TL.range_str); (· rfl); (· rfl); intro _) | ((with_reducible apply TL.next_str); (· rfl); (· exact pkA); (· rfl); all_goals intro _)
    | apply TC.region_draw (by kernel_rfl) (by kernel_rfl) | refine TW.nil ?_
    | ((with_reducible apply TW.pure); (· exact yA); (· rfl)) | ((with_reducible apply TW.byteK); (· rfl); (· rfl); (· exact natA); (· assumption); (· rfl); intro _) | ((with_reducible apply TW.byte); (· rfl); (· rfl); (· exact natA); (· exact omA); (· rfl); intro _ _ _)
    | ((with_reducible apply TW.guard_yes); (· rfl); (· rfl)) | ((with_reducible apply TW.guard_no); (· rfl); (· rfl); (· rfl); (· rfl)) | ((with_reducible apply TW.guard_undef); (· rfl); (· rfl); (· rfl))
    | refine TW.guard_ky rfl rfl kpA ?_ | refine TW.guard_kn rfl rfl kpA ?_ | refine TW.guard_nky rfl rfl kpA ?_ | refine TW.guard_nkn rfl rfl kpA ?_ | refine TW.guard_eq0 rfl rfl rfl (fun _ => ?_) (fun _ => ?_) | refine TW.guard_neq0 rfl rfl rfl (fun _ => ?_) (fun _ => ?_) | refine TW.guard_eq rfl rfl rfl (fun _ => ?_) (fun _ => ?_) | refine TW.guard_neq rfl rfl rfl (fun _ => ?_) (fun _ => ?_) | refine TW.guard_ndec rfl rfl rfl (fun _ => ?_) (fun _ => ?_) | refine TW.guard_dec rfl rfl rfl (fun _ => ?_) (fun _ => ?_) | refine TW.guard_split rfl rfl rfl (fun _ => ?_) (fun _ => ?_)
    | ((with_reducible apply TL.pure); (· exact Y.bytes_row rfl pkA); (· rfl)) | ((with_reducible apply TL.pure); (· exact Y.bytes_src rfl (Src.sl (by assumption)) rfl); (· rfl)) | ((with_reducible apply TW.pure); (· exact Y.bytes_row rfl pkA); (· rfl)) | ((with_reducible apply TW.pure); (· exact Y.bytes_src rfl (Src.sl (by assumption)) rfl); (· rfl))
    | refine TL.rows (Enters.plain (by kernel_rfl) (by rfl)) (P _) (by repeat (first | exact List.Perm.refl _ | apply Pk.cons (by (repeat (first | exact Pick.here | apply Pick.there))))) (by rfl) (fun _ => ?_)
    | ((with_reducible apply TL.gives_plain); (· kernel_rfl); (· rfl); (· exact AW _); (· rfl)) | ((with_reducible apply TW.gives_plain); (· kernel_rfl); (· rfl); (· exact AW _); (· rfl)))
        refine TQ.endR1 (L' := []) Tryd.results6 (by first | exact RVal.tmp rfl | exact RVal.cells rfl pkA (by rfl) | exact RVal.cell rfl pkA rfl) rfl (.refl _) ?_ (by repeat (first | exact Sel.refl | exact Sel.nil | apply Sel.cons (by (repeat (first | exact Pick.here | apply Pick.there))) | apply Sel.drop))
        exact ⟨rfl, rfl, rfl⟩
end Go.Proofs.YthifckfpjmhmjaaDoor
