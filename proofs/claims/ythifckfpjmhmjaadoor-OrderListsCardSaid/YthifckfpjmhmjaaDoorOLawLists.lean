/-
  The document's Depth; the law OrderLists.
-/
import Derived.Test.YthifckfpjmhmjaaDoorOOrder
import Derived.Test.YthifckfpjmhmjaaDoorOTold
namespace Go.Proofs.YthifckfpjmhmjaaDoor
open Go.RowKit Go.TL
set_option maxRecDepth 100000

mutual
/-- How deep a value is. -/
def dpV : DV → Nat
  | .mk k _ _ _ items _ => if k < 4 then 0 else dps items + 1
def dps : List DV → Nat
  | [] => 0
  | x :: r => max (dpV x) (dps r)
end
theorem dps_at {l : List DV} {i : Nat} {x : DV} (h : l[i]? = some x) : dps (l.drop i) = max (dpV x) (dps (l.drop (i + 1))) := by
  obtain ⟨hi, he⟩ := List.getElem?_eq_some_iff.1 h
  rw [List.drop_eq_getElem_cons hi, he, dps]
theorem dps_get : ∀ {l : List DV} {i : Nat} {x : DV}, l[i]? = some x → dpV x ≤ dps l
  | [], _, _, h => by simp at h
  | y :: r, 0, x, h => by
    obtain rfl : y = x := by simpa using h
    rw [dps]; omega
  | y :: r, i + 1, x, h => by
    have := dps_get (l := r) (i := i) (x := x) (by simpa using h)
    rw [dps]; omega
set_option maxHeartbeats 8000000 in
theorem rDepth_gives : ∀ (N : Nat) (x : DV), dsz x ≤ N → ∀ (cs : List Value) (g : Gh) (L : List Ent), IsV g x cs → okV x → dpV x ≤ 1000 → Gives Tryd.prog 19 #[.agg cs.toArray] g L (.int .i64 (dpV x : Nat))
  | 0, .mk .., h, _, _, _, _, _, _ => by rw [dsz] at h; omega
  | N + 1, .mk k b n s items names, hN, cs, g, L, hV, hO, hd => by
    have IH := rDepth_gives N
    rw [dsz] at hN
    rw [IsV] at hV
    rw [okV] at hO
    rw [dpV] at hd ⊢
    obtain ⟨vi, vn, flat, rfl, ⟨k0, k1⟩, ⟨n0, n1⟩, hs, hi, hil, hfl, hn, hnl, hns⟩ := hV
    obtain ⟨o1, o2, o3⟩ := hO
    obtain ⟨aoi, capi, rfl⟩ := hi.slice
    obtain ⟨aon, capn, rfl⟩ := hn.slice
    refine .of (Does.of1 Tryd.func19 rfl Tryd.ntmps19 rfl ?_)
    by_cases hk : k < 4
    · rw [if_pos hk]
      clear hi hfl hn IH
      repeat' (first
    | ((with_reducible apply TL.pure); (· exact yA); (· rfl))
    | refine TC.seq ?_ | refine TC.region ?_ | refine TL.nil ?_ | refine TQ.then_normal ?_
    | ((with_reducible apply TL.storeE); (· rfl); (· rfl); (· rfl); (· exact pkA); (· infer_instance)) | ((with_reducible apply TL.store_whole); (· rfl); (· rfl); (· first | rfl | (first | rfl | ((try simp only [List.set_cons_zero, List.set_cons_succ]); refine all1 (by first | rfl | assumption) ?_; first | rfl | (refine all1 (by first | rfl | assumption) ?_; first | rfl | (refine all1 (by first | rfl | assumption) ?_; rfl))))); (· rfl); (· exact pkA); (· rfl))
    | refine TC.block ?_ | refine TC.ret ?_ | refine TC.skip ?_ | refine TC.exit ?_
    | ((with_reducible apply TC.cond_true); (· rfl)) | ((with_reducible apply TC.cond_false); (· rfl)) | refine TC.cond_ky rfl kpA ?_ | refine TC.cond_kn rfl kpA ?_ | refine TC.cond_nky rfl kpA ?_ | refine TC.cond_nkn rfl kpA ?_ | refine TC.cond_eq0 rfl (fun _ => ?_) (fun _ => ?_) | refine TC.cond_neq0 rfl (fun _ => ?_) (fun _ => ?_) | refine TC.cond_eq rfl (fun _ => ?_) (fun _ => ?_) | refine TC.cond_neq rfl (fun _ => ?_) (fun _ => ?_) | refine TC.cond_not rfl (fun _ => ?_) (fun _ => ?_) | refine TC.cond_dec rfl (fun _ => ?_) (fun _ => ?_) | refine TC.cond_bool rfl (fun _ => ?_) (fun _ => ?_)
    | refine TQ.then_ret ?_ | refine TQ.then_exit ?_ | refine TQ.then_panic ?_ | refine TQ.in_normal ?_ | refine TQ.in_ret ?_ | refine TQ.in_exit ?_ | refine TQ.in_exit' rfl ?_ | refine TQ.in_panic ?_
    | refine TQ.round_ret ?_ | refine TQ.round_exit ?_ | refine TQ.round_panic ?_ | refine TQ.cut_ret ?_ | refine TQ.cut_exit ?_ | refine TQ.cut_panic ?_
    | ((with_reducible apply TL.guard_yes); (· rfl); (· rfl)) | ((with_reducible apply TL.guard_no); (· rfl); (· rfl); (· rfl); (· rfl)) | ((with_reducible apply TL.guard_no0); (· rfl); (· rfl); (· rfl)) | ((with_reducible apply TL.guard_undef); (· rfl); (· rfl); (· rfl)) | ((with_reducible apply TL.guard_undef0); (· rfl); (· rfl))
    | refine TL.guard_ky rfl rfl kpA ?_ | refine TL.guard_kn rfl rfl kpA ?_ | refine TL.guard_nky rfl rfl kpA ?_ | refine TL.guard_nkn rfl rfl kpA ?_ | refine TL.guard_eq0 rfl rfl rfl (fun _ => ?_) (fun _ => ?_) | refine TL.guard_neq0 rfl rfl rfl (fun _ => ?_) (fun _ => ?_) | refine TL.guard_eq rfl rfl rfl (fun _ => ?_) (fun _ => ?_) | refine TL.guard_neq rfl rfl rfl (fun _ => ?_) (fun _ => ?_) | refine TL.guard_ndec rfl rfl rfl (fun _ => ?_) (fun _ => ?_) | refine TL.guard_dec rfl rfl rfl (fun _ => ?_) (fun _ => ?_) | refine TL.guard_split rfl rfl rfl (fun _ => ?_) (fun _ => ?_)
    | ((with_reducible apply TL.alloc_ag); (· rfl); intro _) | ((with_reducible apply TL.alloc_sc); (· rfl); (· rfl); intro _) | ((with_reducible apply TL.box_ag); (· rfl); (· rfl); intro _) | ((with_reducible apply TL.box_sc); (· rfl); (· rfl); (· rfl); intro _))
      refine TQ.endR1 (L' := L) Tryd.results19 (by first | exact RVal.tmp rfl | exact RVal.cells rfl pkA (by rfl) | exact RVal.cell rfl pkA rfl) rfl (.refl _) ?_ (by repeat (first | exact Sel.refl | exact Sel.nil | apply Sel.cons (by (repeat (first | exact Pick.here | apply Pick.there))) | apply Sel.drop))
      exact ⟨rfl, rfl, rfl⟩
    · rw [if_neg hk] at hd ⊢
      have ho := o3 (by omega)
      repeat' (first
    | ((with_reducible apply TL.pure); (· exact yA); (· rfl))
    | refine TC.seq ?_ | refine TC.region ?_ | refine TL.nil ?_ | refine TQ.then_normal ?_
    | ((with_reducible apply TL.storeE); (· rfl); (· rfl); (· rfl); (· exact pkA); (· infer_instance)) | ((with_reducible apply TL.store_whole); (· rfl); (· rfl); (· first | rfl | (first | rfl | ((try simp only [List.set_cons_zero, List.set_cons_succ]); refine all1 (by first | rfl | assumption) ?_; first | rfl | (refine all1 (by first | rfl | assumption) ?_; first | rfl | (refine all1 (by first | rfl | assumption) ?_; rfl))))); (· rfl); (· exact pkA); (· rfl))
    | refine TC.block ?_ | refine TC.ret ?_ | refine TC.skip ?_ | refine TC.exit ?_
    | ((with_reducible apply TC.cond_true); (· rfl)) | ((with_reducible apply TC.cond_false); (· rfl)) | refine TC.cond_ky rfl kpA ?_ | refine TC.cond_kn rfl kpA ?_ | refine TC.cond_nky rfl kpA ?_ | refine TC.cond_nkn rfl kpA ?_ | refine TC.cond_eq0 rfl (fun _ => ?_) (fun _ => ?_) | refine TC.cond_neq0 rfl (fun _ => ?_) (fun _ => ?_) | refine TC.cond_eq rfl (fun _ => ?_) (fun _ => ?_) | refine TC.cond_neq rfl (fun _ => ?_) (fun _ => ?_) | refine TC.cond_not rfl (fun _ => ?_) (fun _ => ?_) | refine TC.cond_dec rfl (fun _ => ?_) (fun _ => ?_) | refine TC.cond_bool rfl (fun _ => ?_) (fun _ => ?_)
    | refine TQ.then_ret ?_ | refine TQ.then_exit ?_ | refine TQ.then_panic ?_ | refine TQ.in_normal ?_ | refine TQ.in_ret ?_ | refine TQ.in_exit ?_ | refine TQ.in_exit' rfl ?_ | refine TQ.in_panic ?_
    | refine TQ.round_ret ?_ | refine TQ.round_exit ?_ | refine TQ.round_panic ?_ | refine TQ.cut_ret ?_ | refine TQ.cut_exit ?_ | refine TQ.cut_panic ?_
    | ((with_reducible apply TL.guard_yes); (· rfl); (· rfl)) | ((with_reducible apply TL.guard_no); (· rfl); (· rfl); (· rfl); (· rfl)) | ((with_reducible apply TL.guard_no0); (· rfl); (· rfl); (· rfl)) | ((with_reducible apply TL.guard_undef); (· rfl); (· rfl); (· rfl)) | ((with_reducible apply TL.guard_undef0); (· rfl); (· rfl))
    | refine TL.guard_ky rfl rfl kpA ?_ | refine TL.guard_kn rfl rfl kpA ?_ | refine TL.guard_nky rfl rfl kpA ?_ | refine TL.guard_nkn rfl rfl kpA ?_ | refine TL.guard_eq0 rfl rfl rfl (fun _ => ?_) (fun _ => ?_) | refine TL.guard_neq0 rfl rfl rfl (fun _ => ?_) (fun _ => ?_) | refine TL.guard_eq rfl rfl rfl (fun _ => ?_) (fun _ => ?_) | refine TL.guard_neq rfl rfl rfl (fun _ => ?_) (fun _ => ?_) | refine TL.guard_ndec rfl rfl rfl (fun _ => ?_) (fun _ => ?_) | refine TL.guard_dec rfl rfl rfl (fun _ => ?_) (fun _ => ?_) | refine TL.guard_split rfl rfl rfl (fun _ => ?_) (fun _ => ?_)
    | ((with_reducible apply TL.alloc_ag); (· rfl); intro _) | ((with_reducible apply TL.alloc_sc); (· rfl); (· rfl); intro _) | ((with_reducible apply TL.box_ag); (· rfl); (· rfl); intro _) | ((with_reducible apply TL.box_sc); (· rfl); (· rfl); (· rfl); intro _))
      rename_i bo
      refine TC.loopK (fun x : Nat × Nat => x.1 ≤ items.length ∧ max x.2 (dps (items.drop x.1)) = dps items) (fun x => items.length - x.1) (fun x _ => [(4, .int .i64 (x.1 : Nat)), (3, .int .i64 (x.2 : Nat)), (1, .pointer (some ⟨bo, 0, none⟩))]) [] (by repeat (first | exact Drop.nil | apply Drop.cons (by (repeat (first | exact Pick.here | apply Pick.there))))) (fun _ L => L) (0, 0) ⟨Nat.zero_le _, by rw [List.drop_zero]; omega⟩ (by repeat (first | exact trivial | refine ⟨rfl, ?_⟩)) (by repeat (first | exact Sel.refl | exact Sel.nil | apply Sel.cons (by (repeat (first | exact Pick.here | apply Pick.there))) | apply Sel.drop)) ?_
      rintro ⟨i, m⟩ ⟨hi1, hm⟩
      dsimp only at hi1 hm ⊢
      by_cases hlt : i < items.length
      · obtain ⟨x, hx⟩ : ∃ x, items[i]? = some x := ⟨_, List.getElem?_eq_getElem hlt⟩
        obtain ⟨cs', hV', hl6, hcs⟩ := hfl.get hx
        obtain ⟨b1, o1', rfl, hg⟩ := hi.elem hlt (by decide)
        have hld : ∀ j u, cs'[j]? = some u → g.cell b1 (o1' + i * 6 + j) = some u := fun j u hu => hg j u (hcs j u hu)
        have hsz := dsz_get hx
        have hdx := dps_get hx
        rw [dps_at hx] at hm
        have A := fun L => IH x (by omega) cs' g L hV' (okVs.get ho hx) (by omega)
        generalize dpV x = d at *
        obtain ⟨e, he⟩ : ∃ e, e = dps (items.drop (i + 1)) := ⟨_, rfl⟩
        rw [← he] at hm
        have HE := Hn.mk he
        clear he
        have HM : Hn (max (if m < d then d else m) e = dps items) := ⟨by split <;> omega⟩
        have hmb : m ≤ 1000 := by omega
        clear hfl hi hn hcs hg hns hV' IH hm
        by_cases hmd : m < d
        · have hm2 := HM.out
          rw [if_pos hmd] at hm2
          have HM2 := Hn.mk hm2
          clear hm2 HM
          repeat' (first
    | ((with_reducible apply TL.pure); (· exact yV); (· rfl)) | ((with_reducible apply TW.pure); (· exact yV); (· rfl))
    | ((with_reducible apply TL.gives_plain); (· kernel_rfl); (· rfl); (· exact A _); (· rfl)) | ((with_reducible apply TW.gives_plain); (· kernel_rfl); (· rfl); (· exact A _); (· rfl))
    | ((with_reducible apply TL.pure); (· exact yA); (· rfl))
    | refine TC.seq ?_ | refine TC.region ?_ | refine TL.nil ?_ | refine TQ.then_normal ?_
    | ((with_reducible apply TL.storeE); (· rfl); (· rfl); (· rfl); (· exact pkA); (· infer_instance)) | ((with_reducible apply TL.store_whole); (· rfl); (· rfl); (· first | rfl | (first | rfl | ((try simp only [List.set_cons_zero, List.set_cons_succ]); refine all1 (by first | rfl | assumption) ?_; first | rfl | (refine all1 (by first | rfl | assumption) ?_; first | rfl | (refine all1 (by first | rfl | assumption) ?_; rfl))))); (· rfl); (· exact pkA); (· rfl))
    | refine TC.block ?_ | refine TC.ret ?_ | refine TC.skip ?_ | refine TC.exit ?_
    | ((with_reducible apply TC.cond_true); (· rfl)) | ((with_reducible apply TC.cond_false); (· rfl)) | refine TC.cond_ky rfl kpA ?_ | refine TC.cond_kn rfl kpA ?_ | refine TC.cond_nky rfl kpA ?_ | refine TC.cond_nkn rfl kpA ?_ | refine TC.cond_eq0 rfl (fun _ => ?_) (fun _ => ?_) | refine TC.cond_neq0 rfl (fun _ => ?_) (fun _ => ?_) | refine TC.cond_eq rfl (fun _ => ?_) (fun _ => ?_) | refine TC.cond_neq rfl (fun _ => ?_) (fun _ => ?_) | refine TC.cond_not rfl (fun _ => ?_) (fun _ => ?_) | refine TC.cond_dec rfl (fun _ => ?_) (fun _ => ?_) | refine TC.cond_bool rfl (fun _ => ?_) (fun _ => ?_)
    | refine TQ.then_ret ?_ | refine TQ.then_exit ?_ | refine TQ.then_panic ?_ | refine TQ.in_normal ?_ | refine TQ.in_ret ?_ | refine TQ.in_exit ?_ | refine TQ.in_exit' rfl ?_ | refine TQ.in_panic ?_
    | refine TQ.round_ret ?_ | refine TQ.round_exit ?_ | refine TQ.round_panic ?_ | refine TQ.cut_ret ?_ | refine TQ.cut_exit ?_ | refine TQ.cut_panic ?_
    | ((with_reducible apply TL.guard_yes); (· rfl); (· rfl)) | ((with_reducible apply TL.guard_no); (· rfl); (· rfl); (· rfl); (· rfl)) | ((with_reducible apply TL.guard_no0); (· rfl); (· rfl); (· rfl)) | ((with_reducible apply TL.guard_undef); (· rfl); (· rfl); (· rfl)) | ((with_reducible apply TL.guard_undef0); (· rfl); (· rfl))
    | refine TL.guard_ky rfl rfl kpA ?_ | refine TL.guard_kn rfl rfl kpA ?_ | refine TL.guard_nky rfl rfl kpA ?_ | refine TL.guard_nkn rfl rfl kpA ?_ | refine TL.guard_eq0 rfl rfl rfl (fun _ => ?_) (fun _ => ?_) | refine TL.guard_neq0 rfl rfl rfl (fun _ => ?_) (fun _ => ?_) | refine TL.guard_eq rfl rfl rfl (fun _ => ?_) (fun _ => ?_) | refine TL.guard_neq rfl rfl rfl (fun _ => ?_) (fun _ => ?_) | refine TL.guard_ndec rfl rfl rfl (fun _ => ?_) (fun _ => ?_) | refine TL.guard_dec rfl rfl rfl (fun _ => ?_) (fun _ => ?_) | refine TL.guard_split rfl rfl rfl (fun _ => ?_) (fun _ => ?_)
    | ((with_reducible apply TL.alloc_ag); (· rfl); intro _) | ((with_reducible apply TL.alloc_sc); (· rfl); (· rfl); intro _) | ((with_reducible apply TL.box_ag); (· rfl); (· rfl); intro _) | ((with_reducible apply TL.box_sc); (· rfl); (· rfl); (· rfl); intro _))
          refine TQ.round (i + 1, d) ?_ ?_ rfl (by repeat (first | exact trivial | refine ⟨rfl, ?_⟩)) (by repeat (first | exact Sel.refl | exact Sel.nil | apply Sel.cons (by (repeat (first | exact Pick.here | apply Pick.there))) | apply Sel.drop))
          · exact ⟨by omega, by show max _ (dps (items.drop (i + 1))) = _; rw [← HE.out]; exact HM2.out⟩
          · show items.length - (i + 1) < items.length - i
            omega
        · have hm2 := HM.out
          rw [if_neg hmd] at hm2
          have HM2 := Hn.mk hm2
          clear hm2 HM
          repeat' (first
    | ((with_reducible apply TL.pure); (· exact yV); (· rfl)) | ((with_reducible apply TW.pure); (· exact yV); (· rfl))
    | ((with_reducible apply TL.gives_plain); (· kernel_rfl); (· rfl); (· exact A _); (· rfl)) | ((with_reducible apply TW.gives_plain); (· kernel_rfl); (· rfl); (· exact A _); (· rfl))
    | ((with_reducible apply TL.pure); (· exact yA); (· rfl))
    | refine TC.seq ?_ | refine TC.region ?_ | refine TL.nil ?_ | refine TQ.then_normal ?_
    | ((with_reducible apply TL.storeE); (· rfl); (· rfl); (· rfl); (· exact pkA); (· infer_instance)) | ((with_reducible apply TL.store_whole); (· rfl); (· rfl); (· first | rfl | (first | rfl | ((try simp only [List.set_cons_zero, List.set_cons_succ]); refine all1 (by first | rfl | assumption) ?_; first | rfl | (refine all1 (by first | rfl | assumption) ?_; first | rfl | (refine all1 (by first | rfl | assumption) ?_; rfl))))); (· rfl); (· exact pkA); (· rfl))
    | refine TC.block ?_ | refine TC.ret ?_ | refine TC.skip ?_ | refine TC.exit ?_
    | ((with_reducible apply TC.cond_true); (· rfl)) | ((with_reducible apply TC.cond_false); (· rfl)) | refine TC.cond_ky rfl kpA ?_ | refine TC.cond_kn rfl kpA ?_ | refine TC.cond_nky rfl kpA ?_ | refine TC.cond_nkn rfl kpA ?_ | refine TC.cond_eq0 rfl (fun _ => ?_) (fun _ => ?_) | refine TC.cond_neq0 rfl (fun _ => ?_) (fun _ => ?_) | refine TC.cond_eq rfl (fun _ => ?_) (fun _ => ?_) | refine TC.cond_neq rfl (fun _ => ?_) (fun _ => ?_) | refine TC.cond_not rfl (fun _ => ?_) (fun _ => ?_) | refine TC.cond_dec rfl (fun _ => ?_) (fun _ => ?_) | refine TC.cond_bool rfl (fun _ => ?_) (fun _ => ?_)
    | refine TQ.then_ret ?_ | refine TQ.then_exit ?_ | refine TQ.then_panic ?_ | refine TQ.in_normal ?_ | refine TQ.in_ret ?_ | refine TQ.in_exit ?_ | refine TQ.in_exit' rfl ?_ | refine TQ.in_panic ?_
    | refine TQ.round_ret ?_ | refine TQ.round_exit ?_ | refine TQ.round_panic ?_ | refine TQ.cut_ret ?_ | refine TQ.cut_exit ?_ | refine TQ.cut_panic ?_
    | ((with_reducible apply TL.guard_yes); (· rfl); (· rfl)) | ((with_reducible apply TL.guard_no); (· rfl); (· rfl); (· rfl); (· rfl)) | ((with_reducible apply TL.guard_no0); (· rfl); (· rfl); (· rfl)) | ((with_reducible apply TL.guard_undef); (· rfl); (· rfl); (· rfl)) | ((with_reducible apply TL.guard_undef0); (· rfl); (· rfl))
    | refine TL.guard_ky rfl rfl kpA ?_ | refine TL.guard_kn rfl rfl kpA ?_ | refine TL.guard_nky rfl rfl kpA ?_ | refine TL.guard_nkn rfl rfl kpA ?_ | refine TL.guard_eq0 rfl rfl rfl (fun _ => ?_) (fun _ => ?_) | refine TL.guard_neq0 rfl rfl rfl (fun _ => ?_) (fun _ => ?_) | refine TL.guard_eq rfl rfl rfl (fun _ => ?_) (fun _ => ?_) | refine TL.guard_neq rfl rfl rfl (fun _ => ?_) (fun _ => ?_) | refine TL.guard_ndec rfl rfl rfl (fun _ => ?_) (fun _ => ?_) | refine TL.guard_dec rfl rfl rfl (fun _ => ?_) (fun _ => ?_) | refine TL.guard_split rfl rfl rfl (fun _ => ?_) (fun _ => ?_)
    | ((with_reducible apply TL.alloc_ag); (· rfl); intro _) | ((with_reducible apply TL.alloc_sc); (· rfl); (· rfl); intro _) | ((with_reducible apply TL.box_ag); (· rfl); (· rfl); intro _) | ((with_reducible apply TL.box_sc); (· rfl); (· rfl); (· rfl); intro _))
          refine TQ.round (i + 1, m) ?_ ?_ rfl (by repeat (first | exact trivial | refine ⟨rfl, ?_⟩)) (by repeat (first | exact Sel.refl | exact Sel.nil | apply Sel.cons (by (repeat (first | exact Pick.here | apply Pick.there))) | apply Sel.drop))
          · exact ⟨by omega, by show max _ (dps (items.drop (i + 1))) = _; rw [← HE.out]; exact HM2.out⟩
          · show items.length - (i + 1) < items.length - i
            omega
      · obtain rfl : i = items.length := by omega
        rw [List.drop_length, dps] at hm
        have hm2 : m = dps items := by omega
        rw [← hm2] at hd ⊢
        clear hm hm2 hfl hi hn IH
        repeat' (first
    | ((with_reducible apply TL.pure); (· exact yA); (· rfl))
    | refine TC.seq ?_ | refine TC.region ?_ | refine TL.nil ?_ | refine TQ.then_normal ?_
    | ((with_reducible apply TL.storeE); (· rfl); (· rfl); (· rfl); (· exact pkA); (· infer_instance)) | ((with_reducible apply TL.store_whole); (· rfl); (· rfl); (· first | rfl | (first | rfl | ((try simp only [List.set_cons_zero, List.set_cons_succ]); refine all1 (by first | rfl | assumption) ?_; first | rfl | (refine all1 (by first | rfl | assumption) ?_; first | rfl | (refine all1 (by first | rfl | assumption) ?_; rfl))))); (· rfl); (· exact pkA); (· rfl))
    | refine TC.block ?_ | refine TC.ret ?_ | refine TC.skip ?_ | refine TC.exit ?_
    | ((with_reducible apply TC.cond_true); (· rfl)) | ((with_reducible apply TC.cond_false); (· rfl)) | refine TC.cond_ky rfl kpA ?_ | refine TC.cond_kn rfl kpA ?_ | refine TC.cond_nky rfl kpA ?_ | refine TC.cond_nkn rfl kpA ?_ | refine TC.cond_eq0 rfl (fun _ => ?_) (fun _ => ?_) | refine TC.cond_neq0 rfl (fun _ => ?_) (fun _ => ?_) | refine TC.cond_eq rfl (fun _ => ?_) (fun _ => ?_) | refine TC.cond_neq rfl (fun _ => ?_) (fun _ => ?_) | refine TC.cond_not rfl (fun _ => ?_) (fun _ => ?_) | refine TC.cond_dec rfl (fun _ => ?_) (fun _ => ?_) | refine TC.cond_bool rfl (fun _ => ?_) (fun _ => ?_)
    | refine TQ.then_ret ?_ | refine TQ.then_exit ?_ | refine TQ.then_panic ?_ | refine TQ.in_normal ?_ | refine TQ.in_ret ?_ | refine TQ.in_exit ?_ | refine TQ.in_exit' rfl ?_ | refine TQ.in_panic ?_
    | refine TQ.round_ret ?_ | refine TQ.round_exit ?_ | refine TQ.round_panic ?_ | refine TQ.cut_ret ?_ | refine TQ.cut_exit ?_ | refine TQ.cut_panic ?_
    | ((with_reducible apply TL.guard_yes); (· rfl); (· rfl)) | ((with_reducible apply TL.guard_no); (· rfl); (· rfl); (· rfl); (· rfl)) | ((with_reducible apply TL.guard_no0); (· rfl); (· rfl); (· rfl)) | ((with_reducible apply TL.guard_undef); (· rfl); (· rfl); (· rfl)) | ((with_reducible apply TL.guard_undef0); (· rfl); (· rfl))
    | refine TL.guard_ky rfl rfl kpA ?_ | refine TL.guard_kn rfl rfl kpA ?_ | refine TL.guard_nky rfl rfl kpA ?_ | refine TL.guard_nkn rfl rfl kpA ?_ | refine TL.guard_eq0 rfl rfl rfl (fun _ => ?_) (fun _ => ?_) | refine TL.guard_neq0 rfl rfl rfl (fun _ => ?_) (fun _ => ?_) | refine TL.guard_eq rfl rfl rfl (fun _ => ?_) (fun _ => ?_) | refine TL.guard_neq rfl rfl rfl (fun _ => ?_) (fun _ => ?_) | refine TL.guard_ndec rfl rfl rfl (fun _ => ?_) (fun _ => ?_) | refine TL.guard_dec rfl rfl rfl (fun _ => ?_) (fun _ => ?_) | refine TL.guard_split rfl rfl rfl (fun _ => ?_) (fun _ => ?_)
    | ((with_reducible apply TL.alloc_ag); (· rfl); intro _) | ((with_reducible apply TL.alloc_sc); (· rfl); (· rfl); intro _) | ((with_reducible apply TL.box_ag); (· rfl); (· rfl); intro _) | ((with_reducible apply TL.box_sc); (· rfl); (· rfl); (· rfl); intro _))
        refine TQ.endR1 (L' := L) Tryd.results19 (by first | exact RVal.tmp rfl | exact RVal.cells rfl pkA (by rfl) | exact RVal.cell rfl pkA rfl) rfl (.refl _) ?_ (by repeat (first | exact Sel.refl | exact Sel.nil | apply Sel.cons (by (repeat (first | exact Pick.here | apply Pick.there))) | apply Sel.drop))
        exact ⟨rfl, rfl, rfl⟩
mutual
theorem dp_may : ∀ (x : DV) (w : Nat), mayV x w = 0 → w ≤ 32 → dpV x + w ≤ 32
  | .mk k b n s items names, w, h, hw => by
    rw [mayV] at h
    rw [dpV]
    by_cases k3 : k < 4
    · rw [if_pos k3]; omega
    rw [if_neg k3]
    rw [if_neg (show ¬ (k = 0 ∨ k = 1) by omega), if_neg (show ¬ k = 2 by omega), if_neg (show ¬ k = 3 by omega)] at h
    by_cases k4 : k = 4
    · rw [if_pos k4] at h
      split at h
      · cases h
      · have := dps_may items w h (by omega); omega
    rw [if_neg k4] at h
    by_cases k5 : k = 5
    · rw [if_pos k5] at h
      split at h
      · cases h
      · have := dpo_may [] names items w h (by omega); omega
    rw [if_neg k5] at h
    cases h
theorem dps_may : ∀ (l : List DV) (w : Nat), mays l w = 0 → w ≤ 31 → dps l + w + 1 ≤ 32
  | [], _, _, _ => by rw [dps]; omega
  | x :: r, w, h, hw => by
    rw [mays] at h
    split at h
    · rename_i h1
      have a := dp_may x (w + 1) h1 (by omega)
      have b := dps_may r w h hw
      rw [dps]; omega
    · omega
theorem dpo_may : ∀ (seen ns : List (List UInt8)) (l : List DV) (w : Nat), mayo seen ns l w = 0 → w ≤ 31 → dps l + w + 1 ≤ 32
  | _, _, [], _, _, _ => by rw [dps]; omega
  | seen, ns, x :: r, w, h, hw => by
    rw [mayo] at h
    split at h
    · cases h
    split at h
    · cases h
    split at h
    · rename_i h1
      have a := dp_may x (w + 1) h1 (by omega)
      have b := dpo_may _ _ r w h hw
      rw [dps]; omega
    · omega
end
mutual
theorem may_in : ∀ (x : DV) (w v : Nat), mayV x w = 0 → dpV x + v ≤ 32 → mayV x v = 0
  | .mk k b n s items names, w, v, h, hv => by
    rw [mayV] at h ⊢
    rw [dpV] at hv
    by_cases k01 : k = 0 ∨ k = 1
    · rw [if_pos k01]
    rw [if_neg k01] at h ⊢
    by_cases k2 : k = 2
    · rw [if_pos k2] at h ⊢; exact h
    rw [if_neg k2] at h ⊢
    by_cases k3 : k = 3
    · rw [if_pos k3] at h ⊢; exact h
    rw [if_neg k3] at h ⊢
    by_cases k4 : k = 4
    · rw [if_neg (show ¬ k < 4 by omega)] at hv
      rw [if_pos k4] at h ⊢
      split at h
      · cases h
      · rw [if_neg (by omega)]; exact mays_in items w v h (by omega)
    rw [if_neg k4] at h ⊢
    by_cases k5 : k = 5
    · rw [if_neg (show ¬ k < 4 by omega)] at hv
      rw [if_pos k5] at h ⊢
      split at h
      · cases h
      · rw [if_neg (by omega)]; exact mayo_in [] names items w v h (by omega)
    rw [if_neg k5] at h
    cases h
theorem mays_in : ∀ (l : List DV) (w v : Nat), mays l w = 0 → dps l + v + 1 ≤ 32 → mays l v = 0
  | [], _, _, _, _ => by rw [mays]
  | x :: r, w, v, h, hv => by
    rw [mays] at h ⊢
    rw [dps] at hv
    split at h
    · rename_i h1
      rw [if_pos (may_in x (w + 1) (v + 1) h1 (by omega))]
      exact mays_in r w v h (by omega)
    · omega
theorem mayo_in : ∀ (seen ns : List (List UInt8)) (l : List DV) (w v : Nat), mayo seen ns l w = 0 → dps l + v + 1 ≤ 32 → mayo seen ns l v = 0
  | _, _, [], _, _, _, _ => by rw [mayo]
  | seen, ns, x :: r, w, v, h, hv => by
    rw [mayo] at h ⊢
    rw [dps] at hv
    split at h
    · cases h
    rename_i h1
    rw [if_neg h1]
    split at h
    · cases h
    rename_i h2
    rw [if_neg h2]
    split at h
    · rename_i h3
      rw [if_pos (may_in x (w + 1) (v + 1) h3 (by omega))]
      exact mayo_in _ _ r w v h (by omega)
    · omega
end
/-- What OrderLists asks for. -/
theorem lists_look {x y : DV} (hx : mayV x 0 = 0) (hy : mayV y 0 = 0) (dx : dpV x ≤ 30) (dy : dpV y ≤ 30) : lookJ (.list [toJ x, toJ y]) 0 = 0 ∧ lookJ (.list [toJ x]) 0 = 0 := by
  have h1 := may_in x 0 1 hx (by omega)
  have h2 := may_in y 0 1 hy (by omega)
  rw [lookJ, lookJ, looks, looks, looks, looks, look_toJ _ x (Nat.le_refl _), look_toJ _ y (Nat.le_refl _), h1, h2]
  exact ⟨rfl, rfl⟩
theorem lists_cmp {x y : J} (bx : nbJ x) : cmpJ (.list [x]) (.list [x, y]) = -1 := by
  have h := (key_order _ x (Nat.le_refl _) x bx bx).is
  rw [cmpB_self] at h
  rw [cmpJ, cmpJs, if_neg (by simp), ← h]
  show (if (0 : Int) ≠ 0 then 0 else cmpJs false _ _ [] [y] 1 2) = -1
  rw [if_neg (by simp), cmpJs]
  decide
theorem lists_key (x y : J) : keyJ (.list [x, y]) = (([6] ++ keyJ x) ++ keyJ y) ++ [0] := by
  rw [keyJ, keyJs, keyJs, keyJs]; simp
set_option maxHeartbeats 16000000 in
theorem lawOrderLists (x y : DV) (cs ds : List Value) (g : Gh) (hX : IsV g x cs) (hY : IsV g y ds) (hT : GTabs g) (hU : GU8 g) : Gives Tryd.prog 7 #[.agg cs.toArray, .agg ds.toArray] g [] (.bool true) := by
  refine .of (Does.of2 Tryd.func7 rfl Tryd.ntmps7 rfl ?_)
  have L1 := fun L => light_gives x cs g L hX
  have L2 := fun L => light_gives y ds g L hY
  have l1 := hX.len
  have l2 := hY.len
  cases hx : lightB x with
  | false =>
    rw [hx] at L1
    clear hX hY hT hU
    repeat' (first
    | ((with_reducible apply TL.pure); (· exact yV); (· rfl)) | ((with_reducible apply TW.pure); (· exact yV); (· rfl))
    | ((with_reducible apply TL.gives_plain); (· kernel_rfl); (· rfl); (· exact L1 _); (· rfl)) | ((with_reducible apply TW.gives_plain); (· kernel_rfl); (· rfl); (· exact L1 _); (· rfl))
    | ((with_reducible apply TL.gives_plain); (· kernel_rfl); (· rfl); (· exact L2 _); (· rfl)) | ((with_reducible apply TW.gives_plain); (· kernel_rfl); (· rfl); (· exact L2 _); (· rfl))
    | ((with_reducible apply TL.pure); (· exact yA); (· rfl))
    | refine TC.seq ?_ | refine TC.region ?_ | refine TL.nil ?_ | refine TQ.then_normal ?_
    | ((with_reducible apply TL.storeE); (· rfl); (· rfl); (· rfl); (· exact pkA); (· infer_instance)) | ((with_reducible apply TL.store_whole); (· rfl); (· rfl); (· first | rfl | (first | rfl | ((try simp only [List.set_cons_zero, List.set_cons_succ]); refine all1 (by first | rfl | assumption) ?_; first | rfl | (refine all1 (by first | rfl | assumption) ?_; first | rfl | (refine all1 (by first | rfl | assumption) ?_; rfl))))); (· rfl); (· exact pkA); (· rfl))
    | refine TC.block ?_ | refine TC.ret ?_ | refine TC.skip ?_ | refine TC.exit ?_
    | ((with_reducible apply TC.cond_true); (· rfl)) | ((with_reducible apply TC.cond_false); (· rfl)) | refine TC.cond_ky rfl kpA ?_ | refine TC.cond_kn rfl kpA ?_ | refine TC.cond_nky rfl kpA ?_ | refine TC.cond_nkn rfl kpA ?_ | refine TC.cond_eq0 rfl (fun _ => ?_) (fun _ => ?_) | refine TC.cond_neq0 rfl (fun _ => ?_) (fun _ => ?_) | refine TC.cond_eq rfl (fun _ => ?_) (fun _ => ?_) | refine TC.cond_neq rfl (fun _ => ?_) (fun _ => ?_) | refine TC.cond_not rfl (fun _ => ?_) (fun _ => ?_) | refine TC.cond_dec rfl (fun _ => ?_) (fun _ => ?_) | refine TC.cond_bool rfl (fun _ => ?_) (fun _ => ?_)
    | refine TQ.then_ret ?_ | refine TQ.then_exit ?_ | refine TQ.then_panic ?_ | refine TQ.in_normal ?_ | refine TQ.in_ret ?_ | refine TQ.in_exit ?_ | refine TQ.in_exit' rfl ?_ | refine TQ.in_panic ?_
    | refine TQ.round_ret ?_ | refine TQ.round_exit ?_ | refine TQ.round_panic ?_ | refine TQ.cut_ret ?_ | refine TQ.cut_exit ?_ | refine TQ.cut_panic ?_
    | ((with_reducible apply TL.guard_yes); (· rfl); (· rfl)) | ((with_reducible apply TL.guard_no); (· rfl); (· rfl); (· rfl); (· rfl)) | ((with_reducible apply TL.guard_no0); (· rfl); (· rfl); (· rfl)) | ((with_reducible apply TL.guard_undef); (· rfl); (· rfl); (· rfl)) | ((with_reducible apply TL.guard_undef0); (· rfl); (· rfl))
    | refine TL.guard_ky rfl rfl kpA ?_ | refine TL.guard_kn rfl rfl kpA ?_ | refine TL.guard_nky rfl rfl kpA ?_ | refine TL.guard_nkn rfl rfl kpA ?_ | refine TL.guard_eq0 rfl rfl rfl (fun _ => ?_) (fun _ => ?_) | refine TL.guard_neq0 rfl rfl rfl (fun _ => ?_) (fun _ => ?_) | refine TL.guard_eq rfl rfl rfl (fun _ => ?_) (fun _ => ?_) | refine TL.guard_neq rfl rfl rfl (fun _ => ?_) (fun _ => ?_) | refine TL.guard_ndec rfl rfl rfl (fun _ => ?_) (fun _ => ?_) | refine TL.guard_dec rfl rfl rfl (fun _ => ?_) (fun _ => ?_) | refine TL.guard_split rfl rfl rfl (fun _ => ?_) (fun _ => ?_)
    | ((with_reducible apply TL.alloc_ag); (· rfl); intro _) | ((with_reducible apply TL.alloc_sc); (· rfl); (· rfl); intro _) | ((with_reducible apply TL.box_ag); (· rfl); (· rfl); intro _) | ((with_reducible apply TL.box_sc); (· rfl); (· rfl); (· rfl); intro _))
    refine TQ.endR1 (L' := []) Tryd.results7 (by first | exact RVal.tmp rfl | exact RVal.cells rfl pkA (by rfl) | exact RVal.cell rfl pkA rfl) rfl (.refl _) ?_ (by repeat (first | exact Sel.refl | exact Sel.nil | apply Sel.cons (by (repeat (first | exact Pick.here | apply Pick.there))) | apply Sel.drop))
    exact ⟨rfl, rfl, rfl⟩
  | true =>
  rw [hx] at L1
  cases hy : lightB y with
  | false =>
    rw [hy] at L2
    clear hX hY hT hU
    repeat' (first
    | ((with_reducible apply TL.pure); (· exact yV); (· rfl)) | ((with_reducible apply TW.pure); (· exact yV); (· rfl))
    | ((with_reducible apply TL.gives_plain); (· kernel_rfl); (· rfl); (· exact L1 _); (· rfl)) | ((with_reducible apply TW.gives_plain); (· kernel_rfl); (· rfl); (· exact L1 _); (· rfl))
    | ((with_reducible apply TL.gives_plain); (· kernel_rfl); (· rfl); (· exact L2 _); (· rfl)) | ((with_reducible apply TW.gives_plain); (· kernel_rfl); (· rfl); (· exact L2 _); (· rfl))
    | ((with_reducible apply TL.pure); (· exact yA); (· rfl))
    | refine TC.seq ?_ | refine TC.region ?_ | refine TL.nil ?_ | refine TQ.then_normal ?_
    | ((with_reducible apply TL.storeE); (· rfl); (· rfl); (· rfl); (· exact pkA); (· infer_instance)) | ((with_reducible apply TL.store_whole); (· rfl); (· rfl); (· first | rfl | (first | rfl | ((try simp only [List.set_cons_zero, List.set_cons_succ]); refine all1 (by first | rfl | assumption) ?_; first | rfl | (refine all1 (by first | rfl | assumption) ?_; first | rfl | (refine all1 (by first | rfl | assumption) ?_; rfl))))); (· rfl); (· exact pkA); (· rfl))
    | refine TC.block ?_ | refine TC.ret ?_ | refine TC.skip ?_ | refine TC.exit ?_
    | ((with_reducible apply TC.cond_true); (· rfl)) | ((with_reducible apply TC.cond_false); (· rfl)) | refine TC.cond_ky rfl kpA ?_ | refine TC.cond_kn rfl kpA ?_ | refine TC.cond_nky rfl kpA ?_ | refine TC.cond_nkn rfl kpA ?_ | refine TC.cond_eq0 rfl (fun _ => ?_) (fun _ => ?_) | refine TC.cond_neq0 rfl (fun _ => ?_) (fun _ => ?_) | refine TC.cond_eq rfl (fun _ => ?_) (fun _ => ?_) | refine TC.cond_neq rfl (fun _ => ?_) (fun _ => ?_) | refine TC.cond_not rfl (fun _ => ?_) (fun _ => ?_) | refine TC.cond_dec rfl (fun _ => ?_) (fun _ => ?_) | refine TC.cond_bool rfl (fun _ => ?_) (fun _ => ?_)
    | refine TQ.then_ret ?_ | refine TQ.then_exit ?_ | refine TQ.then_panic ?_ | refine TQ.in_normal ?_ | refine TQ.in_ret ?_ | refine TQ.in_exit ?_ | refine TQ.in_exit' rfl ?_ | refine TQ.in_panic ?_
    | refine TQ.round_ret ?_ | refine TQ.round_exit ?_ | refine TQ.round_panic ?_ | refine TQ.cut_ret ?_ | refine TQ.cut_exit ?_ | refine TQ.cut_panic ?_
    | ((with_reducible apply TL.guard_yes); (· rfl); (· rfl)) | ((with_reducible apply TL.guard_no); (· rfl); (· rfl); (· rfl); (· rfl)) | ((with_reducible apply TL.guard_no0); (· rfl); (· rfl); (· rfl)) | ((with_reducible apply TL.guard_undef); (· rfl); (· rfl); (· rfl)) | ((with_reducible apply TL.guard_undef0); (· rfl); (· rfl))
    | refine TL.guard_ky rfl rfl kpA ?_ | refine TL.guard_kn rfl rfl kpA ?_ | refine TL.guard_nky rfl rfl kpA ?_ | refine TL.guard_nkn rfl rfl kpA ?_ | refine TL.guard_eq0 rfl rfl rfl (fun _ => ?_) (fun _ => ?_) | refine TL.guard_neq0 rfl rfl rfl (fun _ => ?_) (fun _ => ?_) | refine TL.guard_eq rfl rfl rfl (fun _ => ?_) (fun _ => ?_) | refine TL.guard_neq rfl rfl rfl (fun _ => ?_) (fun _ => ?_) | refine TL.guard_ndec rfl rfl rfl (fun _ => ?_) (fun _ => ?_) | refine TL.guard_dec rfl rfl rfl (fun _ => ?_) (fun _ => ?_) | refine TL.guard_split rfl rfl rfl (fun _ => ?_) (fun _ => ?_)
    | ((with_reducible apply TL.alloc_ag); (· rfl); intro _) | ((with_reducible apply TL.alloc_sc); (· rfl); (· rfl); intro _) | ((with_reducible apply TL.box_ag); (· rfl); (· rfl); intro _) | ((with_reducible apply TL.box_sc); (· rfl); (· rfl); (· rfl); intro _))
    refine TQ.endR1 (L' := []) Tryd.results7 (by first | exact RVal.tmp rfl | exact RVal.cells rfl pkA (by rfl) | exact RVal.cell rfl pkA rfl) rfl (.refl _) ?_ (by repeat (first | exact Sel.refl | exact Sel.nil | apply Sel.cons (by (repeat (first | exact Pick.here | apply Pick.there))) | apply Sel.drop))
    exact ⟨rfl, rfl, rfl⟩
  | true =>
  rw [hy] at L2
  have wx := wf_of_light hx
  have wy := wf_of_light hy
  have M1 := fun L => rMay_gives x cs g L hX wx
  have M2 := fun L => rMay_gives y ds g L hY wy
  by_cases m1 : mayV x 0 = 0
  rotate_left
  · have n1 : Hn (¬ ((mayV x 0 : Nat) : Int) = 0) := ⟨by omega⟩
    generalize mayV x 0 = k1 at *
    clear hX hY hT hU
    repeat' (first
    | ((with_reducible apply TL.pure); (· exact yV); (· rfl)) | ((with_reducible apply TW.pure); (· exact yV); (· rfl))
    | ((with_reducible apply TL.gives_plain); (· kernel_rfl); (· rfl); (· exact L1 _); (· rfl)) | ((with_reducible apply TW.gives_plain); (· kernel_rfl); (· rfl); (· exact L1 _); (· rfl))
    | ((with_reducible apply TL.gives_plain); (· kernel_rfl); (· rfl); (· exact L2 _); (· rfl)) | ((with_reducible apply TW.gives_plain); (· kernel_rfl); (· rfl); (· exact L2 _); (· rfl))
    | ((with_reducible apply TL.gives_plain); (· kernel_rfl); (· rfl); (· exact M1 _); (· rfl)) | ((with_reducible apply TW.gives_plain); (· kernel_rfl); (· rfl); (· exact M1 _); (· rfl))
    | ((with_reducible apply TL.gives_plain); (· kernel_rfl); (· rfl); (· exact M2 _); (· rfl)) | ((with_reducible apply TW.gives_plain); (· kernel_rfl); (· rfl); (· exact M2 _); (· rfl))
    | ((with_reducible apply TL.pure); (· exact yA); (· rfl))
    | refine TC.seq ?_ | refine TC.region ?_ | refine TL.nil ?_ | refine TQ.then_normal ?_
    | ((with_reducible apply TL.storeE); (· rfl); (· rfl); (· rfl); (· exact pkA); (· infer_instance)) | ((with_reducible apply TL.store_whole); (· rfl); (· rfl); (· first | rfl | (first | rfl | ((try simp only [List.set_cons_zero, List.set_cons_succ]); refine all1 (by first | rfl | assumption) ?_; first | rfl | (refine all1 (by first | rfl | assumption) ?_; first | rfl | (refine all1 (by first | rfl | assumption) ?_; rfl))))); (· rfl); (· exact pkA); (· rfl))
    | refine TC.block ?_ | refine TC.ret ?_ | refine TC.skip ?_ | refine TC.exit ?_
    | ((with_reducible apply TC.cond_true); (· rfl)) | ((with_reducible apply TC.cond_false); (· rfl)) | refine TC.cond_ky rfl kpA ?_ | refine TC.cond_kn rfl kpA ?_ | refine TC.cond_nky rfl kpA ?_ | refine TC.cond_nkn rfl kpA ?_ | refine TC.cond_eq0 rfl (fun _ => ?_) (fun _ => ?_) | refine TC.cond_neq0 rfl (fun _ => ?_) (fun _ => ?_) | refine TC.cond_eq rfl (fun _ => ?_) (fun _ => ?_) | refine TC.cond_neq rfl (fun _ => ?_) (fun _ => ?_) | refine TC.cond_not rfl (fun _ => ?_) (fun _ => ?_) | refine TC.cond_dec rfl (fun _ => ?_) (fun _ => ?_) | refine TC.cond_bool rfl (fun _ => ?_) (fun _ => ?_)
    | refine TQ.then_ret ?_ | refine TQ.then_exit ?_ | refine TQ.then_panic ?_ | refine TQ.in_normal ?_ | refine TQ.in_ret ?_ | refine TQ.in_exit ?_ | refine TQ.in_exit' rfl ?_ | refine TQ.in_panic ?_
    | refine TQ.round_ret ?_ | refine TQ.round_exit ?_ | refine TQ.round_panic ?_ | refine TQ.cut_ret ?_ | refine TQ.cut_exit ?_ | refine TQ.cut_panic ?_
    | ((with_reducible apply TL.guard_yes); (· rfl); (· rfl)) | ((with_reducible apply TL.guard_no); (· rfl); (· rfl); (· rfl); (· rfl)) | ((with_reducible apply TL.guard_no0); (· rfl); (· rfl); (· rfl)) | ((with_reducible apply TL.guard_undef); (· rfl); (· rfl); (· rfl)) | ((with_reducible apply TL.guard_undef0); (· rfl); (· rfl))
    | refine TL.guard_ky rfl rfl kpA ?_ | refine TL.guard_kn rfl rfl kpA ?_ | refine TL.guard_nky rfl rfl kpA ?_ | refine TL.guard_nkn rfl rfl kpA ?_ | refine TL.guard_eq0 rfl rfl rfl (fun _ => ?_) (fun _ => ?_) | refine TL.guard_neq0 rfl rfl rfl (fun _ => ?_) (fun _ => ?_) | refine TL.guard_eq rfl rfl rfl (fun _ => ?_) (fun _ => ?_) | refine TL.guard_neq rfl rfl rfl (fun _ => ?_) (fun _ => ?_) | refine TL.guard_ndec rfl rfl rfl (fun _ => ?_) (fun _ => ?_) | refine TL.guard_dec rfl rfl rfl (fun _ => ?_) (fun _ => ?_) | refine TL.guard_split rfl rfl rfl (fun _ => ?_) (fun _ => ?_)
    | ((with_reducible apply TL.alloc_ag); (· rfl); intro _) | ((with_reducible apply TL.alloc_sc); (· rfl); (· rfl); intro _) | ((with_reducible apply TL.box_ag); (· rfl); (· rfl); intro _) | ((with_reducible apply TL.box_sc); (· rfl); (· rfl); (· rfl); intro _))
    refine TQ.endR1 (L' := []) Tryd.results7 (by first | exact RVal.tmp rfl | exact RVal.cells rfl pkA (by rfl) | exact RVal.cell rfl pkA rfl) rfl (.refl _) ?_ (by repeat (first | exact Sel.refl | exact Sel.nil | apply Sel.cons (by (repeat (first | exact Pick.here | apply Pick.there))) | apply Sel.drop))
    exact ⟨rfl, rfl, rfl⟩
  rw [m1] at M1
  by_cases m2 : mayV y 0 = 0
  rotate_left
  · have n1 : Hn (¬ ((mayV y 0 : Nat) : Int) = 0) := ⟨by omega⟩
    generalize mayV y 0 = k1 at *
    clear hX hY hT hU
    repeat' (first
    | ((with_reducible apply TL.pure); (· exact yV); (· rfl)) | ((with_reducible apply TW.pure); (· exact yV); (· rfl))
    | ((with_reducible apply TL.gives_plain); (· kernel_rfl); (· rfl); (· exact L1 _); (· rfl)) | ((with_reducible apply TW.gives_plain); (· kernel_rfl); (· rfl); (· exact L1 _); (· rfl))
    | ((with_reducible apply TL.gives_plain); (· kernel_rfl); (· rfl); (· exact L2 _); (· rfl)) | ((with_reducible apply TW.gives_plain); (· kernel_rfl); (· rfl); (· exact L2 _); (· rfl))
    | ((with_reducible apply TL.gives_plain); (· kernel_rfl); (· rfl); (· exact M1 _); (· rfl)) | ((with_reducible apply TW.gives_plain); (· kernel_rfl); (· rfl); (· exact M1 _); (· rfl))
    | ((with_reducible apply TL.gives_plain); (· kernel_rfl); (· rfl); (· exact M2 _); (· rfl)) | ((with_reducible apply TW.gives_plain); (· kernel_rfl); (· rfl); (· exact M2 _); (· rfl))
    | ((with_reducible apply TL.pure); (· exact yA); (· rfl))
    | refine TC.seq ?_ | refine TC.region ?_ | refine TL.nil ?_ | refine TQ.then_normal ?_
    | ((with_reducible apply TL.storeE); (· rfl); (· rfl); (· rfl); (· exact pkA); (· infer_instance)) | ((with_reducible apply TL.store_whole); (· rfl); (· rfl); (· first | rfl | (first | rfl | ((try simp only [List.set_cons_zero, List.set_cons_succ]); refine all1 (by first | rfl | assumption) ?_; first | rfl | (refine all1 (by first | rfl | assumption) ?_; first | rfl | (refine all1 (by first | rfl | assumption) ?_; rfl))))); (· rfl); (· exact pkA); (· rfl))
    | refine TC.block ?_ | refine TC.ret ?_ | refine TC.skip ?_ | refine TC.exit ?_
    | ((with_reducible apply TC.cond_true); (· rfl)) | ((with_reducible apply TC.cond_false); (· rfl)) | refine TC.cond_ky rfl kpA ?_ | refine TC.cond_kn rfl kpA ?_ | refine TC.cond_nky rfl kpA ?_ | refine TC.cond_nkn rfl kpA ?_ | refine TC.cond_eq0 rfl (fun _ => ?_) (fun _ => ?_) | refine TC.cond_neq0 rfl (fun _ => ?_) (fun _ => ?_) | refine TC.cond_eq rfl (fun _ => ?_) (fun _ => ?_) | refine TC.cond_neq rfl (fun _ => ?_) (fun _ => ?_) | refine TC.cond_not rfl (fun _ => ?_) (fun _ => ?_) | refine TC.cond_dec rfl (fun _ => ?_) (fun _ => ?_) | refine TC.cond_bool rfl (fun _ => ?_) (fun _ => ?_)
    | refine TQ.then_ret ?_ | refine TQ.then_exit ?_ | refine TQ.then_panic ?_ | refine TQ.in_normal ?_ | refine TQ.in_ret ?_ | refine TQ.in_exit ?_ | refine TQ.in_exit' rfl ?_ | refine TQ.in_panic ?_
    | refine TQ.round_ret ?_ | refine TQ.round_exit ?_ | refine TQ.round_panic ?_ | refine TQ.cut_ret ?_ | refine TQ.cut_exit ?_ | refine TQ.cut_panic ?_
    | ((with_reducible apply TL.guard_yes); (· rfl); (· rfl)) | ((with_reducible apply TL.guard_no); (· rfl); (· rfl); (· rfl); (· rfl)) | ((with_reducible apply TL.guard_no0); (· rfl); (· rfl); (· rfl)) | ((with_reducible apply TL.guard_undef); (· rfl); (· rfl); (· rfl)) | ((with_reducible apply TL.guard_undef0); (· rfl); (· rfl))
    | refine TL.guard_ky rfl rfl kpA ?_ | refine TL.guard_kn rfl rfl kpA ?_ | refine TL.guard_nky rfl rfl kpA ?_ | refine TL.guard_nkn rfl rfl kpA ?_ | refine TL.guard_eq0 rfl rfl rfl (fun _ => ?_) (fun _ => ?_) | refine TL.guard_neq0 rfl rfl rfl (fun _ => ?_) (fun _ => ?_) | refine TL.guard_eq rfl rfl rfl (fun _ => ?_) (fun _ => ?_) | refine TL.guard_neq rfl rfl rfl (fun _ => ?_) (fun _ => ?_) | refine TL.guard_ndec rfl rfl rfl (fun _ => ?_) (fun _ => ?_) | refine TL.guard_dec rfl rfl rfl (fun _ => ?_) (fun _ => ?_) | refine TL.guard_split rfl rfl rfl (fun _ => ?_) (fun _ => ?_)
    | ((with_reducible apply TL.alloc_ag); (· rfl); intro _) | ((with_reducible apply TL.alloc_sc); (· rfl); (· rfl); intro _) | ((with_reducible apply TL.box_ag); (· rfl); (· rfl); intro _) | ((with_reducible apply TL.box_sc); (· rfl); (· rfl); (· rfl); intro _))
    refine TQ.endR1 (L' := []) Tryd.results7 (by first | exact RVal.tmp rfl | exact RVal.cells rfl pkA (by rfl) | exact RVal.cell rfl pkA rfl) rfl (.refl _) ?_ (by repeat (first | exact Sel.refl | exact Sel.nil | apply Sel.cons (by (repeat (first | exact Pick.here | apply Pick.there))) | apply Sel.drop))
    exact ⟨rfl, rfl, rfl⟩
  rw [m2] at M2
  have q1 := dp_may x 0 m1 (by omega)
  have q2 := dp_may y 0 m2 (by omega)
  have P1 := fun L => rDepth_gives _ x (Nat.le_refl _) cs g L hX (ok_may' x 0 m1) (by omega)
  have P2 := fun L => rDepth_gives _ y (Nat.le_refl _) ds g L hY (ok_may' y 0 m2) (by omega)
  by_cases d1 : dpV x ≤ 30
  rotate_left
  · generalize dpV x = k1 at *
    clear hX hY hT hU
    repeat' (first
    | ((with_reducible apply TL.pure); (· exact yV); (· rfl)) | ((with_reducible apply TW.pure); (· exact yV); (· rfl))
    | ((with_reducible apply TL.gives_plain); (· kernel_rfl); (· rfl); (· exact L1 _); (· rfl)) | ((with_reducible apply TW.gives_plain); (· kernel_rfl); (· rfl); (· exact L1 _); (· rfl))
    | ((with_reducible apply TL.gives_plain); (· kernel_rfl); (· rfl); (· exact L2 _); (· rfl)) | ((with_reducible apply TW.gives_plain); (· kernel_rfl); (· rfl); (· exact L2 _); (· rfl))
    | ((with_reducible apply TL.gives_plain); (· kernel_rfl); (· rfl); (· exact M1 _); (· rfl)) | ((with_reducible apply TW.gives_plain); (· kernel_rfl); (· rfl); (· exact M1 _); (· rfl))
    | ((with_reducible apply TL.gives_plain); (· kernel_rfl); (· rfl); (· exact M2 _); (· rfl)) | ((with_reducible apply TW.gives_plain); (· kernel_rfl); (· rfl); (· exact M2 _); (· rfl))
    | ((with_reducible apply TL.gives_plain); (· kernel_rfl); (· rfl); (· exact P1 _); (· rfl)) | ((with_reducible apply TW.gives_plain); (· kernel_rfl); (· rfl); (· exact P1 _); (· rfl))
    | ((with_reducible apply TL.gives_plain); (· kernel_rfl); (· rfl); (· exact P2 _); (· rfl)) | ((with_reducible apply TW.gives_plain); (· kernel_rfl); (· rfl); (· exact P2 _); (· rfl))
    | ((with_reducible apply TL.pure); (· exact yA); (· rfl))
    | refine TC.seq ?_ | refine TC.region ?_ | refine TL.nil ?_ | refine TQ.then_normal ?_
    | ((with_reducible apply TL.storeE); (· rfl); (· rfl); (· rfl); (· exact pkA); (· infer_instance)) | ((with_reducible apply TL.store_whole); (· rfl); (· rfl); (· first | rfl | (first | rfl | ((try simp only [List.set_cons_zero, List.set_cons_succ]); refine all1 (by first | rfl | assumption) ?_; first | rfl | (refine all1 (by first | rfl | assumption) ?_; first | rfl | (refine all1 (by first | rfl | assumption) ?_; rfl))))); (· rfl); (· exact pkA); (· rfl))
    | refine TC.block ?_ | refine TC.ret ?_ | refine TC.skip ?_ | refine TC.exit ?_
    | ((with_reducible apply TC.cond_true); (· rfl)) | ((with_reducible apply TC.cond_false); (· rfl)) | refine TC.cond_ky rfl kpA ?_ | refine TC.cond_kn rfl kpA ?_ | refine TC.cond_nky rfl kpA ?_ | refine TC.cond_nkn rfl kpA ?_ | refine TC.cond_eq0 rfl (fun _ => ?_) (fun _ => ?_) | refine TC.cond_neq0 rfl (fun _ => ?_) (fun _ => ?_) | refine TC.cond_eq rfl (fun _ => ?_) (fun _ => ?_) | refine TC.cond_neq rfl (fun _ => ?_) (fun _ => ?_) | refine TC.cond_not rfl (fun _ => ?_) (fun _ => ?_) | refine TC.cond_dec rfl (fun _ => ?_) (fun _ => ?_) | refine TC.cond_bool rfl (fun _ => ?_) (fun _ => ?_)
    | refine TQ.then_ret ?_ | refine TQ.then_exit ?_ | refine TQ.then_panic ?_ | refine TQ.in_normal ?_ | refine TQ.in_ret ?_ | refine TQ.in_exit ?_ | refine TQ.in_exit' rfl ?_ | refine TQ.in_panic ?_
    | refine TQ.round_ret ?_ | refine TQ.round_exit ?_ | refine TQ.round_panic ?_ | refine TQ.cut_ret ?_ | refine TQ.cut_exit ?_ | refine TQ.cut_panic ?_
    | ((with_reducible apply TL.guard_yes); (· rfl); (· rfl)) | ((with_reducible apply TL.guard_no); (· rfl); (· rfl); (· rfl); (· rfl)) | ((with_reducible apply TL.guard_no0); (· rfl); (· rfl); (· rfl)) | ((with_reducible apply TL.guard_undef); (· rfl); (· rfl); (· rfl)) | ((with_reducible apply TL.guard_undef0); (· rfl); (· rfl))
    | refine TL.guard_ky rfl rfl kpA ?_ | refine TL.guard_kn rfl rfl kpA ?_ | refine TL.guard_nky rfl rfl kpA ?_ | refine TL.guard_nkn rfl rfl kpA ?_ | refine TL.guard_eq0 rfl rfl rfl (fun _ => ?_) (fun _ => ?_) | refine TL.guard_neq0 rfl rfl rfl (fun _ => ?_) (fun _ => ?_) | refine TL.guard_eq rfl rfl rfl (fun _ => ?_) (fun _ => ?_) | refine TL.guard_neq rfl rfl rfl (fun _ => ?_) (fun _ => ?_) | refine TL.guard_ndec rfl rfl rfl (fun _ => ?_) (fun _ => ?_) | refine TL.guard_dec rfl rfl rfl (fun _ => ?_) (fun _ => ?_) | refine TL.guard_split rfl rfl rfl (fun _ => ?_) (fun _ => ?_)
    | ((with_reducible apply TL.alloc_ag); (· rfl); intro _) | ((with_reducible apply TL.alloc_sc); (· rfl); (· rfl); intro _) | ((with_reducible apply TL.box_ag); (· rfl); (· rfl); intro _) | ((with_reducible apply TL.box_sc); (· rfl); (· rfl); (· rfl); intro _))
    refine TQ.endR1 (L' := []) Tryd.results7 (by first | exact RVal.tmp rfl | exact RVal.cells rfl pkA (by rfl) | exact RVal.cell rfl pkA rfl) rfl (.refl _) ?_ (by repeat (first | exact Sel.refl | exact Sel.nil | apply Sel.cons (by (repeat (first | exact Pick.here | apply Pick.there))) | apply Sel.drop))
    exact ⟨rfl, rfl, rfl⟩
  by_cases d2 : dpV y ≤ 30
  rotate_left
  · generalize dpV x = k1 at *
    generalize dpV y = k2 at *
    clear hX hY hT hU
    repeat' (first
    | ((with_reducible apply TL.pure); (· exact yV); (· rfl)) | ((with_reducible apply TW.pure); (· exact yV); (· rfl))
    | ((with_reducible apply TL.gives_plain); (· kernel_rfl); (· rfl); (· exact L1 _); (· rfl)) | ((with_reducible apply TW.gives_plain); (· kernel_rfl); (· rfl); (· exact L1 _); (· rfl))
    | ((with_reducible apply TL.gives_plain); (· kernel_rfl); (· rfl); (· exact L2 _); (· rfl)) | ((with_reducible apply TW.gives_plain); (· kernel_rfl); (· rfl); (· exact L2 _); (· rfl))
    | ((with_reducible apply TL.gives_plain); (· kernel_rfl); (· rfl); (· exact M1 _); (· rfl)) | ((with_reducible apply TW.gives_plain); (· kernel_rfl); (· rfl); (· exact M1 _); (· rfl))
    | ((with_reducible apply TL.gives_plain); (· kernel_rfl); (· rfl); (· exact M2 _); (· rfl)) | ((with_reducible apply TW.gives_plain); (· kernel_rfl); (· rfl); (· exact M2 _); (· rfl))
    | ((with_reducible apply TL.gives_plain); (· kernel_rfl); (· rfl); (· exact P1 _); (· rfl)) | ((with_reducible apply TW.gives_plain); (· kernel_rfl); (· rfl); (· exact P1 _); (· rfl))
    | ((with_reducible apply TL.gives_plain); (· kernel_rfl); (· rfl); (· exact P2 _); (· rfl)) | ((with_reducible apply TW.gives_plain); (· kernel_rfl); (· rfl); (· exact P2 _); (· rfl))
    | ((with_reducible apply TL.pure); (· exact yA); (· rfl))
    | refine TC.seq ?_ | refine TC.region ?_ | refine TL.nil ?_ | refine TQ.then_normal ?_
    | ((with_reducible apply TL.storeE); (· rfl); (· rfl); (· rfl); (· exact pkA); (· infer_instance)) | ((with_reducible apply TL.store_whole); (· rfl); (· rfl); (· first | rfl | (first | rfl | ((try simp only [List.set_cons_zero, List.set_cons_succ]); refine all1 (by first | rfl | assumption) ?_; first | rfl | (refine all1 (by first | rfl | assumption) ?_; first | rfl | (refine all1 (by first | rfl | assumption) ?_; rfl))))); (· rfl); (· exact pkA); (· rfl))
    | refine TC.block ?_ | refine TC.ret ?_ | refine TC.skip ?_ | refine TC.exit ?_
    | ((with_reducible apply TC.cond_true); (· rfl)) | ((with_reducible apply TC.cond_false); (· rfl)) | refine TC.cond_ky rfl kpA ?_ | refine TC.cond_kn rfl kpA ?_ | refine TC.cond_nky rfl kpA ?_ | refine TC.cond_nkn rfl kpA ?_ | refine TC.cond_eq0 rfl (fun _ => ?_) (fun _ => ?_) | refine TC.cond_neq0 rfl (fun _ => ?_) (fun _ => ?_) | refine TC.cond_eq rfl (fun _ => ?_) (fun _ => ?_) | refine TC.cond_neq rfl (fun _ => ?_) (fun _ => ?_) | refine TC.cond_not rfl (fun _ => ?_) (fun _ => ?_) | refine TC.cond_dec rfl (fun _ => ?_) (fun _ => ?_) | refine TC.cond_bool rfl (fun _ => ?_) (fun _ => ?_)
    | refine TQ.then_ret ?_ | refine TQ.then_exit ?_ | refine TQ.then_panic ?_ | refine TQ.in_normal ?_ | refine TQ.in_ret ?_ | refine TQ.in_exit ?_ | refine TQ.in_exit' rfl ?_ | refine TQ.in_panic ?_
    | refine TQ.round_ret ?_ | refine TQ.round_exit ?_ | refine TQ.round_panic ?_ | refine TQ.cut_ret ?_ | refine TQ.cut_exit ?_ | refine TQ.cut_panic ?_
    | ((with_reducible apply TL.guard_yes); (· rfl); (· rfl)) | ((with_reducible apply TL.guard_no); (· rfl); (· rfl); (· rfl); (· rfl)) | ((with_reducible apply TL.guard_no0); (· rfl); (· rfl); (· rfl)) | ((with_reducible apply TL.guard_undef); (· rfl); (· rfl); (· rfl)) | ((with_reducible apply TL.guard_undef0); (· rfl); (· rfl))
    | refine TL.guard_ky rfl rfl kpA ?_ | refine TL.guard_kn rfl rfl kpA ?_ | refine TL.guard_nky rfl rfl kpA ?_ | refine TL.guard_nkn rfl rfl kpA ?_ | refine TL.guard_eq0 rfl rfl rfl (fun _ => ?_) (fun _ => ?_) | refine TL.guard_neq0 rfl rfl rfl (fun _ => ?_) (fun _ => ?_) | refine TL.guard_eq rfl rfl rfl (fun _ => ?_) (fun _ => ?_) | refine TL.guard_neq rfl rfl rfl (fun _ => ?_) (fun _ => ?_) | refine TL.guard_ndec rfl rfl rfl (fun _ => ?_) (fun _ => ?_) | refine TL.guard_dec rfl rfl rfl (fun _ => ?_) (fun _ => ?_) | refine TL.guard_split rfl rfl rfl (fun _ => ?_) (fun _ => ?_)
    | ((with_reducible apply TL.alloc_ag); (· rfl); intro _) | ((with_reducible apply TL.alloc_sc); (· rfl); (· rfl); intro _) | ((with_reducible apply TL.box_ag); (· rfl); (· rfl); intro _) | ((with_reducible apply TL.box_sc); (· rfl); (· rfl); (· rfl); intro _))
    refine TQ.endR1 (L' := []) Tryd.results7 (by first | exact RVal.tmp rfl | exact RVal.cells rfl pkA (by rfl) | exact RVal.cell rfl pkA rfl) rfl (.refl _) ?_ (by repeat (first | exact Sel.refl | exact Sel.nil | apply Sel.cons (by (repeat (first | exact Pick.here | apply Pick.there))) | apply Sel.drop))
    exact ⟨rfl, rfl, rfl⟩
  have hlook := Hn.mk (lists_look m1 m2 d1 d2)
  have bx := Hn.mk (IsV.nb _ x (Nat.le_refl _) cs hX wx)
  have kv1 : keyV x = keyJ (toJ x) := by unfold keyV; rw [if_pos m1]
  have kv2 : keyV y = keyJ (toJ y) := by unfold keyV; rw [if_pos m2]
  have kb1 := key_light hx
  have kb2 := key_light hy
  generalize dpV x = dd1 at *
  generalize dpV y = dd2 at *
  repeat' (first
    | ((with_reducible apply TL.pure); (· exact yV); (· rfl)) | ((with_reducible apply TW.pure); (· exact yV); (· rfl))
    | (refine TL.makes (Enters.plain (by kernel_rfl) (by rfl)) (told_makes _ x (Nat.le_refl _) cs g _ hX wx) (by rfl) ?_; (rintro v1 g1 hg1 j1))
    | (refine TL.makes (Enters.plain (by kernel_rfl) (by rfl)) (told_makes _ y (Nat.le_refl _) ds g1 _ (IsV.le hg1 _ _ hY) wy) (by rfl) ?_; (rintro v2 g2 hg2 j2; have hg12 := hg1.trans hg2; have J1 := IsJ.le hg2 _ _ j1; have T2 := hT.le hg12; have U2 := hU.le hg12; have C1 := fun L => key_told L hx J1 T2 U2; have C2 := fun L => key_told L hy j2 T2 U2; rw [kv1, m1] at C1; rw [kv2, m2] at C2; have o1 := J1.one; have o2 := j2.one))
    | ((with_reducible apply TL.gives_plain); (· kernel_rfl); (· rfl); (· exact L1 _); (· rfl)) | ((with_reducible apply TW.gives_plain); (· kernel_rfl); (· rfl); (· exact L1 _); (· rfl))
    | ((with_reducible apply TL.gives_plain); (· kernel_rfl); (· rfl); (· exact L2 _); (· rfl)) | ((with_reducible apply TW.gives_plain); (· kernel_rfl); (· rfl); (· exact L2 _); (· rfl))
    | ((with_reducible apply TL.gives_plain); (· kernel_rfl); (· rfl); (· exact M1 _); (· rfl)) | ((with_reducible apply TW.gives_plain); (· kernel_rfl); (· rfl); (· exact M1 _); (· rfl))
    | ((with_reducible apply TL.gives_plain); (· kernel_rfl); (· rfl); (· exact M2 _); (· rfl)) | ((with_reducible apply TW.gives_plain); (· kernel_rfl); (· rfl); (· exact M2 _); (· rfl))
    | ((with_reducible apply TL.gives_plain); (· kernel_rfl); (· rfl); (· exact P1 _); (· rfl)) | ((with_reducible apply TW.gives_plain); (· kernel_rfl); (· rfl); (· exact P1 _); (· rfl))
    | ((with_reducible apply TL.gives_plain); (· kernel_rfl); (· rfl); (· exact P2 _); (· rfl)) | ((with_reducible apply TW.gives_plain); (· kernel_rfl); (· rfl); (· exact P2 _); (· rfl))
    | (refine TL.call (Enters.plain (by kernel_rfl) (by rfl)) (by rfl) (C1 _) ?_; (rintro e gk Lk _ ⟨w1, k1, k2, k3⟩; have k2 := k2.symm; subst k1; subst k2; subst k3; refine CallK.ret ?_; refine Go.TL.TL.row_slice (v := w1) pkA ?_; rintro ka1 kc1 rfl _))
    | (refine TL.call (Enters.plain (by kernel_rfl) (by rfl)) (by rfl) (C2 _) ?_; (rintro e gk Lk _ ⟨w2, k1, k2, k3⟩; have k2 := k2.symm; subst k1; subst k2; subst k3; refine CallK.ret ?_; refine Go.TL.TL.row_slice (v := w2) pkA ?_; rintro ka2 kc2 rfl _))
    | ((with_reducible apply TL.build_slice); (· rfl); (· rfl); (· (first | rfl | ((try simp only [List.set_cons_zero, List.set_cons_succ]); refine all1 (by first | rfl | assumption) ?_; first | rfl | (refine all1 (by first | rfl | assumption) ?_; first | rfl | (refine all1 (by first | rfl | assumption) ?_; rfl))))); (· rfl); (· rfl); (· rfl); intro _) | refine TL.build_one (by rfl) (by first | rfl | assumption) (by rfl) (by rfl) (by rfl) (by rfl) (fun _ => ?_) | refine TL.build_empty (by rfl) (fun _ => ?_)
    | ((with_reducible apply TA.take 0); (· decide +kernel); (· rfl); (· (first | exact yA | exact yB | exact yM | exact yV)); (· decide +kernel); (· decide +kernel); (· rfl); (· exact fun _ _ _ h => h); (· rfl))
    | ((with_reducible apply TA.take 1); (· decide +kernel); (· rfl); (· (first | exact yA | exact yB | exact yM | exact yV)); (· decide +kernel); (· decide +kernel); (· rfl); (· exact fun _ _ _ h => h); (· rfl))
    | ((with_reducible apply TA.take 2); (· decide +kernel); (· rfl); (· (first | exact yA | exact yB | exact yM | exact yV)); (· decide +kernel); (· decide +kernel); (· rfl); (· exact fun _ _ _ h => h); (· rfl))
    | ((with_reducible apply TA.take 3); (· decide +kernel); (· rfl); (· (first | exact yA | exact yB | exact yM | exact yV)); (· decide +kernel); (· decide +kernel); (· rfl); (· exact fun _ _ _ h => h); (· rfl))
    | ((with_reducible apply TA.take 4); (· decide +kernel); (· rfl); (· (first | exact yA | exact yB | exact yM | exact yV)); (· decide +kernel); (· decide +kernel); (· rfl); (· exact fun _ _ _ h => h); (· rfl))
    | ((with_reducible apply TA.take 5); (· decide +kernel); (· rfl); (· (first | exact yA | exact yB | exact yM | exact yV)); (· decide +kernel); (· decide +kernel); (· rfl); (· exact fun _ _ _ h => h); (· rfl))
    | ((with_reducible apply TA.one 0); (· rfl); (· decide +kernel); (· rfl))
    | ((with_reducible apply TA.one 1); (· rfl); (· decide +kernel); (· rfl))
    | ((with_reducible apply TA.one 2); (· rfl); (· decide +kernel); (· rfl))
    | ((with_reducible apply TA.one 3); (· rfl); (· decide +kernel); (· rfl))
    | ((with_reducible apply TA.one 4); (· rfl); (· decide +kernel); (· rfl))
    | ((with_reducible apply TA.one 5); (· rfl); (· decide +kernel); (· rfl))
    | refine TQ.any (by first | exact .refl _ | assumption) (by repeat (first | exact Sel.refl | exact Sel.nil | apply Sel.cons (by (repeat (first | exact Pick.here | apply Pick.there))) | apply Sel.drop)) ?_
    | refine TC.region_any 6 (_) (by kernel_rfl) rfl (by repeat (first | exact Sel.refl | exact Sel.nil | apply Sel.cons (by (repeat (first | exact Pick.here | apply Pick.there))) | apply Sel.drop)) ?_ | refine TA.done (by decide +kernel) ?_ | refine TQ.any_panic ?_
    | ((with_reducible apply TL.pure); (· exact yA); (· rfl))
    | refine TC.seq ?_ | refine TC.region ?_ | refine TL.nil ?_ | refine TQ.then_normal ?_
    | ((with_reducible apply TL.storeE); (· rfl); (· rfl); (· rfl); (· exact pkA); (· infer_instance)) | ((with_reducible apply TL.store_whole); (· rfl); (· rfl); (· first | rfl | (first | rfl | ((try simp only [List.set_cons_zero, List.set_cons_succ]); refine all1 (by first | rfl | assumption) ?_; first | rfl | (refine all1 (by first | rfl | assumption) ?_; first | rfl | (refine all1 (by first | rfl | assumption) ?_; rfl))))); (· rfl); (· exact pkA); (· rfl))
    | refine TC.block ?_ | refine TC.ret ?_ | refine TC.skip ?_ | refine TC.exit ?_
    | ((with_reducible apply TC.cond_true); (· rfl)) | ((with_reducible apply TC.cond_false); (· rfl)) | refine TC.cond_ky rfl kpA ?_ | refine TC.cond_kn rfl kpA ?_ | refine TC.cond_nky rfl kpA ?_ | refine TC.cond_nkn rfl kpA ?_ | refine TC.cond_eq0 rfl (fun _ => ?_) (fun _ => ?_) | refine TC.cond_neq0 rfl (fun _ => ?_) (fun _ => ?_) | refine TC.cond_eq rfl (fun _ => ?_) (fun _ => ?_) | refine TC.cond_neq rfl (fun _ => ?_) (fun _ => ?_) | refine TC.cond_not rfl (fun _ => ?_) (fun _ => ?_) | refine TC.cond_dec rfl (fun _ => ?_) (fun _ => ?_) | refine TC.cond_bool rfl (fun _ => ?_) (fun _ => ?_)
    | refine TQ.then_ret ?_ | refine TQ.then_exit ?_ | refine TQ.then_panic ?_ | refine TQ.in_normal ?_ | refine TQ.in_ret ?_ | refine TQ.in_exit ?_ | refine TQ.in_exit' rfl ?_ | refine TQ.in_panic ?_
    | refine TQ.round_ret ?_ | refine TQ.round_exit ?_ | refine TQ.round_panic ?_ | refine TQ.cut_ret ?_ | refine TQ.cut_exit ?_ | refine TQ.cut_panic ?_
    | ((with_reducible apply TL.guard_yes); (· rfl); (· rfl)) | ((with_reducible apply TL.guard_no); (· rfl); (· rfl); (· rfl); (· rfl)) | ((with_reducible apply TL.guard_no0); (· rfl); (· rfl); (· rfl)) | ((with_reducible apply TL.guard_undef); (· rfl); (· rfl); (· rfl)) | ((with_reducible apply TL.guard_undef0); (· rfl); (· rfl))
    | refine TL.guard_ky rfl rfl kpA ?_ | refine TL.guard_kn rfl rfl kpA ?_ | refine TL.guard_nky rfl rfl kpA ?_ | refine TL.guard_nkn rfl rfl kpA ?_ | refine TL.guard_eq0 rfl rfl rfl (fun _ => ?_) (fun _ => ?_) | refine TL.guard_neq0 rfl rfl rfl (fun _ => ?_) (fun _ => ?_) | refine TL.guard_eq rfl rfl rfl (fun _ => ?_) (fun _ => ?_) | refine TL.guard_neq rfl rfl rfl (fun _ => ?_) (fun _ => ?_) | refine TL.guard_ndec rfl rfl rfl (fun _ => ?_) (fun _ => ?_) | refine TL.guard_dec rfl rfl rfl (fun _ => ?_) (fun _ => ?_) | refine TL.guard_split rfl rfl rfl (fun _ => ?_) (fun _ => ?_)
    | ((with_reducible apply TL.alloc_ag); (· rfl); intro _) | ((with_reducible apply TL.alloc_sc); (· rfl); (· rfl); intro _) | ((with_reducible apply TL.box_ag); (· rfl); (· rfl); intro _) | ((with_reducible apply TL.box_sc); (· rfl); (· rfl); (· rfl); intro _))
  rename_i bb1 bb2 bl
  refine Go.TL.TL.weak (S' := [(61, .iface 43 (.slice (some ⟨bl, 0, none⟩) 2 2)), (5, v1), (6, v2), (7, .slice ka1 (keyJ (toJ x)).length kc1), (8, .int .i64 0), (9, .slice ka2 (keyJ (toJ y)).length kc2), (10, .int .i64 0)]) ?_ (by repeat (first | exact trivial | refine ⟨rfl, ?_⟩)) Sel.refl
  refine TL.freeze_obj bl 1 (k := 2) pkA rfl (by decide) ?_
  intro g3 hg3 hs3
  have J13 := IsJ.le hg3 _ _ J1
  have J23 := IsJ.le hg3 _ _ j2
  have T3 := T2.le hg3
  have U3 := U2.le hg3
  have JL : IsJ g3 (.list [toJ x, toJ y]) (.iface 43 (.slice (some ⟨bl, 0, none⟩) 2 2)) := by
    rw [IsJ]
    exact ⟨_, _, rfl, hs3, ((show IsJs g3 [] [] by rw [IsJs]).snoc J13).snoc J23⟩
  have sL : smJ (.list [toJ x, toJ y]) := by rw [smJ, smJs, smJs, smJs]; exact ⟨by simp, sm_light hx, sm_light hy, trivial⟩
  have sL1 : smJ (.list [toJ x]) := by rw [smJ, smJs, smJs]; exact ⟨by simp, sm_light hx, trivial⟩
  have hkey := lists_key (toJ x) (toJ y)
  have hkl : (keyJ (.list [toJ x, toJ y])).length ≤ 2000000 := by
    rw [hkey]; simp only [List.length_append, List.length_singleton]; omega
  have C3 := fun L => oKey_does (.list [toJ x, toJ y]) _ g3 L JL sL (by omega) T3 U3
  unfold KeyR keyOf at C3
  rw [hlook.out.1, if_pos rfl] at C3
  have hcmp := lists_cmp (y := toJ y) bx.out
  have lk := hlook.out
  clear hX hY hT hU L1 L2 M1 M2 P1 P2 C1 C2 wx wy kv1 kv2 hx hy m1 m2 q1 q2 d1 d2 hlook bx T2 U2 J1 j1 j2 hs3
  generalize hKL : keyJ (.list [toJ x, toJ y]) = KL at *
  repeat' (first
    | ((with_reducible apply TL.pure); (· exact yV); (· rfl)) | ((with_reducible apply TW.pure); (· exact yV); (· rfl))
    | (refine TL.call (Enters.plain (by kernel_rfl) (by rfl)) (by rfl) (C3 _) ?_; (rintro e gk Lk _ ⟨w3, k1, k2, k3⟩; have k2 := k2.symm; subst k1; subst k2; subst k3; refine CallK.ret ?_; refine Go.TL.TL.row_slice (v := w3) pkA ?_; rintro ka3 kc3 rfl _))
    | ((with_reducible apply TL.build_slice); (· rfl); (· rfl); (· (first | rfl | ((try simp only [List.set_cons_zero, List.set_cons_succ]); refine all1 (by first | rfl | assumption) ?_; first | rfl | (refine all1 (by first | rfl | assumption) ?_; first | rfl | (refine all1 (by first | rfl | assumption) ?_; rfl))))); (· rfl); (· rfl); (· rfl); intro _) | refine TL.build_one (by rfl) (by first | rfl | assumption) (by rfl) (by rfl) (by rfl) (by rfl) (fun _ => ?_) | refine TL.build_empty (by rfl) (fun _ => ?_)
    | ((with_reducible apply TL.pure); (· exact yA); (· rfl))
    | refine TC.seq ?_ | refine TC.region ?_ | refine TL.nil ?_ | refine TQ.then_normal ?_
    | ((with_reducible apply TL.storeE); (· rfl); (· rfl); (· rfl); (· exact pkA); (· infer_instance)) | ((with_reducible apply TL.store_whole); (· rfl); (· rfl); (· first | rfl | (first | rfl | ((try simp only [List.set_cons_zero, List.set_cons_succ]); refine all1 (by first | rfl | assumption) ?_; first | rfl | (refine all1 (by first | rfl | assumption) ?_; first | rfl | (refine all1 (by first | rfl | assumption) ?_; rfl))))); (· rfl); (· exact pkA); (· rfl))
    | refine TC.block ?_ | refine TC.ret ?_ | refine TC.skip ?_ | refine TC.exit ?_
    | ((with_reducible apply TC.cond_true); (· rfl)) | ((with_reducible apply TC.cond_false); (· rfl)) | refine TC.cond_ky rfl kpA ?_ | refine TC.cond_kn rfl kpA ?_ | refine TC.cond_nky rfl kpA ?_ | refine TC.cond_nkn rfl kpA ?_ | refine TC.cond_eq0 rfl (fun _ => ?_) (fun _ => ?_) | refine TC.cond_neq0 rfl (fun _ => ?_) (fun _ => ?_) | refine TC.cond_eq rfl (fun _ => ?_) (fun _ => ?_) | refine TC.cond_neq rfl (fun _ => ?_) (fun _ => ?_) | refine TC.cond_not rfl (fun _ => ?_) (fun _ => ?_) | refine TC.cond_dec rfl (fun _ => ?_) (fun _ => ?_) | refine TC.cond_bool rfl (fun _ => ?_) (fun _ => ?_)
    | refine TQ.then_ret ?_ | refine TQ.then_exit ?_ | refine TQ.then_panic ?_ | refine TQ.in_normal ?_ | refine TQ.in_ret ?_ | refine TQ.in_exit ?_ | refine TQ.in_exit' rfl ?_ | refine TQ.in_panic ?_
    | refine TQ.round_ret ?_ | refine TQ.round_exit ?_ | refine TQ.round_panic ?_ | refine TQ.cut_ret ?_ | refine TQ.cut_exit ?_ | refine TQ.cut_panic ?_
    | ((with_reducible apply TL.guard_yes); (· rfl); (· rfl)) | ((with_reducible apply TL.guard_no); (· rfl); (· rfl); (· rfl); (· rfl)) | ((with_reducible apply TL.guard_no0); (· rfl); (· rfl); (· rfl)) | ((with_reducible apply TL.guard_undef); (· rfl); (· rfl); (· rfl)) | ((with_reducible apply TL.guard_undef0); (· rfl); (· rfl))
    | refine TL.guard_ky rfl rfl kpA ?_ | refine TL.guard_kn rfl rfl kpA ?_ | refine TL.guard_nky rfl rfl kpA ?_ | refine TL.guard_nkn rfl rfl kpA ?_ | refine TL.guard_eq0 rfl rfl rfl (fun _ => ?_) (fun _ => ?_) | refine TL.guard_neq0 rfl rfl rfl (fun _ => ?_) (fun _ => ?_) | refine TL.guard_eq rfl rfl rfl (fun _ => ?_) (fun _ => ?_) | refine TL.guard_neq rfl rfl rfl (fun _ => ?_) (fun _ => ?_) | refine TL.guard_ndec rfl rfl rfl (fun _ => ?_) (fun _ => ?_) | refine TL.guard_dec rfl rfl rfl (fun _ => ?_) (fun _ => ?_) | refine TL.guard_split rfl rfl rfl (fun _ => ?_) (fun _ => ?_)
    | ((with_reducible apply TL.alloc_ag); (· rfl); intro _) | ((with_reducible apply TL.alloc_sc); (· rfl); (· rfl); intro _) | ((with_reducible apply TL.box_ag); (· rfl); (· rfl); intro _) | ((with_reducible apply TL.box_sc); (· rfl); (· rfl); (· rfl); intro _))
  rename_i bm1 bm2
  refine Go.TL.TL.weak (S' := [(68, .iface 43 (.slice (some ⟨bm1, 0, none⟩) 1 1)), (72, .iface 43 (.slice (some ⟨bm2, 0, none⟩) 2 2)), (7, .slice ka1 (keyJ (toJ x)).length kc1), (8, .int .i64 0), (9, .slice ka2 (keyJ (toJ y)).length kc2), (10, .int .i64 0), (11, .slice ka3 KL.length kc3), (12, .int .i64 0)]) ?_ (by repeat (first | exact trivial | refine ⟨rfl, ?_⟩)) Sel.refl
  refine TL.freeze_obj bm2 1 (k := 2) pkA rfl (by decide) ?_
  intro g4 hg4 hs4
  refine TL.freeze_obj bm1 1 (k := 1) pkA rfl (by decide) ?_
  intro g5 hg5 hs5
  have hg35 := hg4.trans hg5
  have J15 := IsJ.le hg35 _ _ J13
  have J25 := IsJ.le hg35 _ _ J23
  have T5 := T3.le hg35
  have U5 := U3.le hg35
  have JA : IsJ g5 (.list [toJ x]) (.iface 43 (.slice (some ⟨bm1, 0, none⟩) 1 1)) := by
    rw [IsJ]
    exact ⟨_, _, rfl, hs5, (show IsJs g5 [] [] by rw [IsJs]).snoc J15⟩
  have JB : IsJ g5 (.list [toJ x, toJ y]) (.iface 43 (.slice (some ⟨bm2, 0, none⟩) 2 2)) := by
    rw [IsJ]
    exact ⟨_, _, rfl, hs4.le hg5, ((show IsJs g5 [] [] by rw [IsJs]).snoc J15).snoc J25⟩
  have C4 := fun L => oCompare_gives _ _ _ _ g5 L JA JB sL1 sL T5 U5
  have he : errJ (.list [toJ x]) (.list [toJ x, toJ y]) = 0 := by unfold errJ; rw [lk.1, lk.2]; rfl
  rw [he, if_pos rfl, hcmp] at C4
  have AW := fun L => awake05_gives (g := g5) (L := L) T5 U5
  clear C3 JL JA JB hs4 hs5 J13 J23 J15 J25 T3 U3 T5 U5 sL sL1 lk hcmp he hKL
  generalize keyJ (toJ x) = K at *
  generalize keyJ (toJ y) = M at *
  repeat' (first
    | ((with_reducible apply TL.pure (d := 104) (v := .bool true)); (· exact Y.eql_is (decide_eq_true hkey) rfl rfl); (· rfl)) | ((with_reducible apply TW.pure (d := 104) (v := .bool true)); (· exact Y.eql_is (decide_eq_true hkey) rfl rfl); (· rfl))
    | ((with_reducible apply TL.pure); (· exact yV); (· rfl)) | ((with_reducible apply TW.pure); (· exact yV); (· rfl))
    | ((with_reducible apply TL.gives_plain); (· kernel_rfl); (· rfl); (· exact C4 _); (· rfl)) | ((with_reducible apply TW.gives_plain); (· kernel_rfl); (· rfl); (· exact C4 _); (· rfl))
    | ((with_reducible apply TL.gives_plain); (· kernel_rfl); (· rfl); (· exact AW _); (· rfl)) | ((with_reducible apply TW.gives_plain); (· kernel_rfl); (· rfl); (· exact AW _); (· rfl))
    | ((with_reducible apply TL.pure); (· exact yA); (· rfl))
    | refine TC.seq ?_ | refine TC.region ?_ | refine TL.nil ?_ | refine TQ.then_normal ?_
    | ((with_reducible apply TL.storeE); (· rfl); (· rfl); (· rfl); (· exact pkA); (· infer_instance)) | ((with_reducible apply TL.store_whole); (· rfl); (· rfl); (· first | rfl | (first | rfl | ((try simp only [List.set_cons_zero, List.set_cons_succ]); refine all1 (by first | rfl | assumption) ?_; first | rfl | (refine all1 (by first | rfl | assumption) ?_; first | rfl | (refine all1 (by first | rfl | assumption) ?_; rfl))))); (· rfl); (· exact pkA); (· rfl))
    | refine TC.block ?_ | refine TC.ret ?_ | refine TC.skip ?_ | refine TC.exit ?_
    | ((with_reducible apply TC.cond_true); (· rfl)) | ((with_reducible apply TC.cond_false); (· rfl)) | refine TC.cond_ky rfl kpA ?_ | refine TC.cond_kn rfl kpA ?_ | refine TC.cond_nky rfl kpA ?_ | refine TC.cond_nkn rfl kpA ?_ | refine TC.cond_eq0 rfl (fun _ => ?_) (fun _ => ?_) | refine TC.cond_neq0 rfl (fun _ => ?_) (fun _ => ?_) | refine TC.cond_eq rfl (fun _ => ?_) (fun _ => ?_) | refine TC.cond_neq rfl (fun _ => ?_) (fun _ => ?_) | refine TC.cond_not rfl (fun _ => ?_) (fun _ => ?_) | refine TC.cond_dec rfl (fun _ => ?_) (fun _ => ?_) | refine TC.cond_bool rfl (fun _ => ?_) (fun _ => ?_)
    | refine TQ.then_ret ?_ | refine TQ.then_exit ?_ | refine TQ.then_panic ?_ | refine TQ.in_normal ?_ | refine TQ.in_ret ?_ | refine TQ.in_exit ?_ | refine TQ.in_exit' rfl ?_ | refine TQ.in_panic ?_
    | refine TQ.round_ret ?_ | refine TQ.round_exit ?_ | refine TQ.round_panic ?_ | refine TQ.cut_ret ?_ | refine TQ.cut_exit ?_ | refine TQ.cut_panic ?_
    | ((with_reducible apply TL.guard_yes); (· rfl); (· rfl)) | ((with_reducible apply TL.guard_no); (· rfl); (· rfl); (· rfl); (· rfl)) | ((with_reducible apply TL.guard_no0); (· rfl); (· rfl); (· rfl)) | ((with_reducible apply TL.guard_undef); (· rfl); (· rfl); (· rfl)) | ((with_reducible apply TL.guard_undef0); (· rfl); (· rfl))
    | refine TL.guard_ky rfl rfl kpA ?_ | refine TL.guard_kn rfl rfl kpA ?_ | refine TL.guard_nky rfl rfl kpA ?_ | refine TL.guard_nkn rfl rfl kpA ?_ | refine TL.guard_eq0 rfl rfl rfl (fun _ => ?_) (fun _ => ?_) | refine TL.guard_neq0 rfl rfl rfl (fun _ => ?_) (fun _ => ?_) | refine TL.guard_eq rfl rfl rfl (fun _ => ?_) (fun _ => ?_) | refine TL.guard_neq rfl rfl rfl (fun _ => ?_) (fun _ => ?_) | refine TL.guard_ndec rfl rfl rfl (fun _ => ?_) (fun _ => ?_) | refine TL.guard_dec rfl rfl rfl (fun _ => ?_) (fun _ => ?_) | refine TL.guard_split rfl rfl rfl (fun _ => ?_) (fun _ => ?_)
    | ((with_reducible apply TL.alloc_ag); (· rfl); intro _) | ((with_reducible apply TL.alloc_sc); (· rfl); (· rfl); intro _) | ((with_reducible apply TL.box_ag); (· rfl); (· rfl); intro _) | ((with_reducible apply TL.box_sc); (· rfl); (· rfl); (· rfl); intro _)
    | ((with_reducible apply TL.pure); (· exact Y.bytes_row rfl pkA); (· rfl)) | ((with_reducible apply TL.pure); (· exact Y.bytes_src rfl (Src.sl (by assumption)) rfl); (· rfl)) | ((with_reducible apply TW.pure); (· exact Y.bytes_row rfl pkA); (· rfl)) | ((with_reducible apply TW.pure); (· exact Y.bytes_src rfl (Src.sl (by assumption)) rfl); (· rfl)))
  refine TQ.less (hg12.trans (hg3.trans hg35)) ?_
  refine TQ.endR1 (L' := []) Tryd.results7 (by first | exact RVal.tmp rfl | exact RVal.cells rfl pkA (by rfl) | exact RVal.cell rfl pkA rfl) rfl (.refl _) ?_ (by repeat (first | exact Sel.refl | exact Sel.nil | apply Sel.cons (by (repeat (first | exact Pick.here | apply Pick.there))) | apply Sel.drop))
  exact ⟨rfl, rfl, rfl⟩
end Go.Proofs.YthifckfpjmhmjaaDoor
