/-
  The walk of the document's Parse.
-/
import Derived.Test.YtfmadoeadmclbaaGreatDoorHr2
import Derived.Test.YtfmadoeadmclbaaGreatDoorHr3
import Derived.Test.YtfmadoeadmclbaaGreatDoorHr33
import Derived.Test.YtfmadoeadmclbaaGreatDoorHr19
import Derived.Test.YtfmadoeadmclbaaGreatDoorHr34
namespace Go.Proofs.YtfmadoeadmclbaaGreatDoor
open Go.RowKit Go.TL
set_option maxRecDepth 100000

theorem figure_gives (c : UInt8) (g : Gh) (L : List Ent) : Gives Tryz.prog 81 #[.int .u8 c.toNat] g L (.bool (isFig c)) := .same fun w => figure_any c w
theorem rscan_gives (s : List UInt8) (g : Gh) (L : List Ent) (h : s.length ≤ 100000) : Gives Tryz.prog 52 #[str s] g L (.int .i64 (scanL s : Nat)) := .same fun w => rscan_any ⟨s.toArray⟩ s w (by simp) (by rw [size_mk]; exact h)
theorem figure_is {c : UInt8} {b : Bool} (h : isFig c = b) (g : Gh) (L : List Ent) : Gives Tryz.prog 81 #[.int .u8 c.toNat] g L (.bool b) := h ▸ figure_gives c g L
theorem small_gives (s : List UInt8) (g : Gh) (L : List Ent) (h : s.length ≤ 1000000) (hf : ∀ c ∈ s, isFig c = true) : Gives Tryz.prog 82 #[str s] g L (.int .i64 ((min (valD s) 1000000 : Nat) : Int)) := .same fun w => small_any ⟨s.toArray⟩ s w (by simp) (by rw [size_mk]; exact h) hf
theorem isFig_iff {c : UInt8} : isFig c = true ↔ 48 ≤ c.toNat ∧ c.toNat ≤ 57 := by rw [isFig, Bool.and_eq_true, decide_eq_true_iff, decide_eq_true_iff]
theorem byte_is {c d : UInt8} (h : (c.toNat : Int) = (d.toNat : Int)) : c = d := UInt8.toNat_inj.1 (by omega)
theorem scan_form {s : List UInt8} (h : scanL s = s.length) (h0 : s ≠ []) : ∃ p ex, cutL s = some p ∧ p.size = s.length ∧ Form s p ex := by
  unfold scanL at h
  cases hc : cutL s with
  | none => rw [hc] at h; exact absurd (List.eq_nil_of_length_eq_zero h.symm) h0
  | some p =>
    rw [hc] at h
    obtain ⟨ex, hf⟩ := cut_form hc h
    exact ⟨p, ex, rfl, h, hf⟩
theorem parseL_form {s : List UInt8} {p : Pc} {ex : List UInt8} (hc : cutL s = some p) (hz : p.size = s.length) (hf : Form s p ex) (hs : s.length ≤ 60000) : parseL s = numR (shiftR p) p := by
  have hlen : p.whole.length + p.rest.length ≤ s.length := by
    rw [form_ahead hf, List.length_append]; unfold aheadP; simp only [List.length_append]; omega
  have hpw : ∀ c ∈ p.power, isFig c = true := by
    rcases hf.ex with ⟨_, h, _⟩ | ⟨e, es, _, _, _, _, _, h⟩
    · rw [h]; simp
    · exact h
  unfold parseL
  rw [if_neg (by omega), hc]
  simp only []
  rw [if_pos hz, numOf_far p (by omega) (by omega), shiftR_eq p hpw, numR_eq]
  intro c hc
  rcases List.mem_append.1 hc with h | h
  · exact hf.whole c h
  · exact hf.rest c h
theorem parseL_bad {s : List UInt8} (hs : s.length ≤ 60000) (h : s = [] ∨ scanL s ≠ s.length) : parseL s = (0, 11) := by
  unfold parseL
  rw [if_neg (by omega)]
  rcases h with rfl | h
  · rfl
  · unfold scanL at h
    cases hc : cutL s with
    | none => rfl
    | some p => rw [hc] at h; exact if_neg h
theorem exp_key {m : Nat} {s a es : List UInt8} {e : UInt8} {p : Pc} (hm : a.length = m) (hA : s = a ++ (e :: (es ++ p.power))) (x3 : es = [] ∨ es = [43] ∨ es = [45]) (x4 : p.down = decide (es = [45])) (x5 : p.power ≠ []) (x6 : ∀ c ∈ p.power, isFig c = true) (hs : s.length ≤ 60000) :
    ∃ (y : UInt8) (fy : Bool) (k mn : Nat), s[m + 1]? = some y ∧ isFig y = fy ∧ (fy = true → k = 0 ∧ 48 ≤ y.toNat) ∧ (fy = false → k = 1) ∧ m + 1 + k ≤ s.length ∧ s.drop (m + 1 + k) = p.power ∧ mn ≤ 1000000 ∧ shiftR p = (if (y.toNat : Int) = 45 then -(mn : Int) else mn) ∧
      ∀ (t : List UInt8) (g : Gh) (L : List Ent), t = p.power → Gives Tryz.prog 82 #[str t] g L (.int .i64 (mn : Nat)) := by
  subst hm
  have hsm : ∀ (t : List UInt8) (g : Gh) (L : List Ent), t = p.power → Gives Tryz.prog 82 #[str t] g L (.int .i64 ((min (valD p.power) 1000000 : Nat) : Int)) := fun t g L ht => by
    rw [ht]; exact small_gives _ _ _ (by rw [hA] at hs; simp at hs; omega) x6
  obtain ⟨c1, pr, hpw⟩ : ∃ c1 pr, p.power = c1 :: pr := List.exists_cons_of_ne_nil x5
  have hc1 : isFig c1 = true := x6 c1 (by rw [hpw]; exact List.mem_cons_self)
  obtain ⟨f1, f2⟩ := isFig_iff.1 hc1
  have hdrop : ∀ k, s.drop (a.length + 1 + k) = (es ++ p.power).drop k := fun k => by
    rw [hA, Nat.add_assoc, ← List.drop_drop, List.drop_left, Nat.add_comm, List.drop_succ_cons]
  have hget : s[a.length + 1]? = (es ++ p.power)[0]? := by
    rw [hA, List.getElem?_append_right (by omega)]; simp
  rcases x3 with rfl | rfl | rfl
  · refine ⟨c1, true, 0, _, by rw [hget, hpw]; rfl, hc1, fun _ => ⟨rfl, f1⟩, fun h => (by cases h), by rw [hA]; simp, by rw [hdrop]; rfl, Nat.min_le_right _ _, ?_, hsm⟩
    rw [if_neg (by omega), shiftR, x4]; rfl
  · refine ⟨43, false, 1, _, by rw [hget]; rfl, rfl, fun h => (by cases h), fun _ => rfl, by rw [hA]; simp; omega, by rw [hdrop]; rfl, Nat.min_le_right _ _, ?_, hsm⟩
    rw [if_neg (by decide), shiftR, x4]; rfl
  · refine ⟨45, false, 1, _, by rw [hget]; rfl, rfl, fun h => (by cases h), fun _ => rfl, by rw [hA]; simp; omega, by rw [hdrop]; rfl, Nat.min_le_right _ _, ?_, hsm⟩
    rw [if_pos (by decide), shiftR, x4]; rfl
theorem gt_lit (z : List UInt8) (h : z.length = 19) (hf : ∀ c ∈ z, isFig c = true) : (!(Op.bytesLess z [57, 48, 48, 48, 48, 48, 48, 48, 48, 48, 48, 48, 48, 48, 48, 48, 48, 48, 48] || z == [57, 48, 48, 48, 48, 48, 48, 48, 48, 48, 48, 48, 48, 48, 48, 48, 48, 48, 48])) = decide (9000000000000000000 < valD z) := by
  have hl : ∀ c ∈ ([57, 48, 48, 48, 48, 48, 48, 48, 48, 48, 48, 48, 48, 48, 48, 48, 48, 48, 48] : List UInt8), isFig c = true := by decide
  have hv : valD [57, 48, 48, 48, 48, 48, 48, 48, 48, 48, 48, 48, 48, 48, 48, 48, 48, 48, 48] = 9000000000000000000 := by decide
  have h1 := less_figs z _ (by rw [h]; rfl) hf hl
  have h2 := less_figs _ z (by rw [h]; rfl) hl hf
  rw [hv] at h1 h2
  rw [h1]
  by_cases e : z = [57, 48, 48, 48, 48, 48, 48, 48, 48, 48, 48, 48, 48, 48, 48, 48, 48, 48, 48]
  · rw [e, hv]; rfl
  · rw [beq_eq_false_iff_ne.2 e, Bool.or_false, Bool.eq_iff_iff, Bool.not_eq_true', decide_eq_false_iff_not, decide_eq_true_iff]
    have hne : valD z ≠ 9000000000000000000 := fun e2 => e (figs_inj z _ (by rw [h]; rfl) hf hl (by rw [e2, hv]))
    omega
set_option maxHeartbeats 8000000 in
theorem rParse_gives (s : List UInt8) (g : Gh) (L : List Ent) (hs : s.length ≤ 60000) : Gives Tryz.prog 53 #[str s] g L (.tuple #[.int .i64 (parseL s).1, .int .i64 (parseL s).2]) := by
  refine .of (Does.of1 Tryz.func53 rfl Tryz.ntmps53 rfl ?_)
  repeat' (first
    | refine wkP ?_
    | ((with_reducible apply TL.byteK); (· rfl); (· rfl); (· exact natA); (· assumption); (· rfl); intro _) | ((with_reducible apply TL.byte); (· rfl); (· rfl); (· exact natA); (· exact omA); (· rfl); intro _ _ _)
    | refine wkZ ?_ | (refine stB ?_; intro _) | (refine stC ?_; refine And.intro (fun _ => ?_) (fun _ => ?_))
    | ((with_reducible apply TL.range_str); (· rfl); (· rfl); intro _) | ((with_reducible apply TL.next_str); (· rfl); (· exact pkA); (· rfl); all_goals intro _)
    | apply TC.region_draw (by kernel_rfl) (by kernel_rfl) | refine TW.nil ?_ | ((with_reducible apply TW.pure); (· exact yA); (· rfl))
    | ((with_reducible apply TW.byteK); (· rfl); (· rfl); (· exact natA); (· assumption); (· rfl); intro _) | ((with_reducible apply TW.byte); (· rfl); (· rfl); (· exact natA); (· exact omA); (· rfl); intro _ _ _)
    | refine TW.guard_yes rfl rfl ?_ | refine TW.guard_no rfl rfl rfl rfl ?_ | refine TW.guard_undef rfl rfl rfl ?_ | refine TW.guard rfl rfl rfl ?_)
  refine TC.seq ?_
  repeat' (first
    | refine wkP ?_
    | ((with_reducible apply TL.byteK); (· rfl); (· rfl); (· exact natA); (· assumption); (· rfl); intro _) | ((with_reducible apply TL.byte); (· rfl); (· rfl); (· exact natA); (· exact omA); (· rfl); intro _ _ _)
    | refine wkZ ?_ | (refine stB ?_; intro _) | (refine stC ?_; refine And.intro (fun _ => ?_) (fun _ => ?_))
    | ((with_reducible apply TL.range_str); (· rfl); (· rfl); intro _) | ((with_reducible apply TL.next_str); (· rfl); (· exact pkA); (· rfl); all_goals intro _)
    | apply TC.region_draw (by kernel_rfl) (by kernel_rfl) | refine TW.nil ?_ | ((with_reducible apply TW.pure); (· exact yA); (· rfl))
    | ((with_reducible apply TW.byteK); (· rfl); (· rfl); (· exact natA); (· assumption); (· rfl); intro _) | ((with_reducible apply TW.byte); (· rfl); (· rfl); (· exact natA); (· exact omA); (· rfl); intro _ _ _)
    | refine TW.guard_yes rfl rfl ?_ | refine TW.guard_no rfl rfl rfl rfl ?_ | refine TW.guard_undef rfl rfl rfl ?_ | refine TW.guard rfl rfl rfl ?_)
  refine TC.seq ?_
  repeat' (first
    | ((with_reducible apply TL.gives_plain); (· kernel_rfl); (· rfl); (· exact rscan_gives _ _ _ (by omega)); (· rfl)) | ((with_reducible apply TW.gives_plain); (· kernel_rfl); (· rfl); (· exact rscan_gives _ _ _ (by omega)); (· rfl))
    | refine wkP ?_
    | ((with_reducible apply TL.byteK); (· rfl); (· rfl); (· exact natA); (· assumption); (· rfl); intro _) | ((with_reducible apply TL.byte); (· rfl); (· rfl); (· exact natA); (· exact omA); (· rfl); intro _ _ _)
    | refine wkZ ?_ | (refine stB ?_; intro _) | (refine stC ?_; refine And.intro (fun _ => ?_) (fun _ => ?_))
    | ((with_reducible apply TL.range_str); (· rfl); (· rfl); intro _) | ((with_reducible apply TL.next_str); (· rfl); (· exact pkA); (· rfl); all_goals intro _)
    | apply TC.region_draw (by kernel_rfl) (by kernel_rfl) | refine TW.nil ?_ | ((with_reducible apply TW.pure); (· exact yA); (· rfl))
    | ((with_reducible apply TW.byteK); (· rfl); (· rfl); (· exact natA); (· assumption); (· rfl); intro _) | ((with_reducible apply TW.byte); (· rfl); (· rfl); (· exact natA); (· exact omA); (· rfl); intro _ _ _)
    | refine TW.guard_yes rfl rfl ?_ | refine TW.guard_no rfl rfl rfl rfl ?_ | refine TW.guard_undef rfl rfl rfl ?_ | refine TW.guard rfl rfl rfl ?_)
  · rename_i h
    refine TQ.endR2 (L' := L) Tryz.results53 rvA rvA rfl (.refl _) ?_ selA
    rw [parseL_bad hs (.inl (List.eq_nil_of_length_eq_zero h))]
    exact ⟨rfl, rfl, rfl⟩
  · rename_i h
    refine TQ.endR2 (L' := L) Tryz.results53 rvA rvA rfl (.refl _) ?_ selA
    rw [parseL_bad hs (.inr (fun e => h.out (by rw [e])))]
    exact ⟨rfl, rfl, rfl⟩
  rename_i h0 hsc c0 hc0 _
  obtain ⟨p, ex, hcut, hz, hform⟩ := scan_form (s := s) (by omega) (fun e => by rw [e] at h0; exact absurd h0 (by decide))
  rw [parseL_form hcut hz hform hs]
  have hA := form_ahead hform
  have hst := stP_ahead hform.whole hform.rest
  have hnoE := ahead_noE hform.whole hform.rest
  have hlen : s.length = (aheadP p).length + ex.length := by rw [← List.length_append, ← hA]
  have hm0 : decide ((c0.toNat : Int) = 45) = p.minus := by
    cases hm : p.minus with
    | true =>
      have : s[0]? = some 45 := by rw [hform.eq, hm]; rfl
      rw [Option.some.inj (hc0.symm.trans this)]; rfl
    | false =>
      obtain ⟨c, e1, e2, _⟩ := head_fig (t := (if p.rest = [] then [] else [46]) ++ (p.rest ++ ex)) hform.ne hform.whole
      have h1 : s[0]? = some c := by rw [hform.eq, hm]; exact e1
      rw [Option.some.inj (hc0.symm.trans h1)]
      have := isFig_iff.1 e2
      exact decide_eq_false (by omega)
  rw [hm0]
  refine TC.cutK (fun z : Int => z = shiftR p) (fun z _ => [(7, .int .i64 z), (5, str (p.whole ++ p.rest)), (6, .int .i64 (p.rest.length : Nat)), (4, .bool p.minus)]) [] (by repeat (first | apply Drop.nil | apply Drop.cons (by (repeat (first | apply Pick.here | apply Pick.there))))) (fun _ L => L) ?_ (fun z hz => ?_)
  · repeat' (first
    | refine wkP ?_
    | ((with_reducible apply TL.byteK); (· rfl); (· rfl); (· exact natA); (· assumption); (· rfl); intro _) | ((with_reducible apply TL.byte); (· rfl); (· rfl); (· exact natA); (· exact omA); (· rfl); intro _ _ _)
    | refine wkZ ?_ | (refine stB ?_; intro _) | (refine stC ?_; refine And.intro (fun _ => ?_) (fun _ => ?_))
    | ((with_reducible apply TL.range_str); (· rfl); (· rfl); intro _) | ((with_reducible apply TL.next_str); (· rfl); (· exact pkA); (· rfl); all_goals intro _)
    | apply TC.region_draw (by kernel_rfl) (by kernel_rfl) | refine TW.nil ?_ | ((with_reducible apply TW.pure); (· exact yA); (· rfl))
    | ((with_reducible apply TW.byteK); (· rfl); (· rfl); (· exact natA); (· assumption); (· rfl); intro _) | ((with_reducible apply TW.byte); (· rfl); (· rfl); (· exact natA); (· exact omA); (· rfl); intro _ _ _)
    | refine TW.guard_yes rfl rfl ?_ | refine TW.guard_no rfl rfl rfl rfl ?_ | refine TW.guard_undef rfl rfl rfl ?_ | refine TW.guard rfl rfl rfl ?_)
    refine TC.loopK (fun x : Nat × List UInt8 × Nat × Bool => x.1 ≤ (aheadP p).length ∧ stP ((aheadP p).take x.1) = x.2) (fun x => (aheadP p).length - x.1) (fun x _ => [(9, .int .i64 (x.1 : Nat)), (5, str x.2.1), (6, .int .i64 (x.2.2.1 : Nat)), (8, .bool x.2.2.2), (7, .int .i64 0), (4, .bool p.minus), (0, str s)]) [] (by repeat (first | apply Drop.nil | apply Drop.cons (by (repeat (first | apply Pick.here | apply Pick.there))))) (fun _ L => L) (0, [], 0, false) ⟨Nat.zero_le _, rfl⟩ subA selA ?_
    rintro ⟨i, dg, bh, dt⟩ ⟨hi, hx⟩
    dsimp only at hi hx ⊢
    have hbh : dg.length ≤ i ∧ bh ≤ i := by
      have := stP_le ((aheadP p).take i) ([], 0, false)
      rw [show List.foldl stepP ([], 0, false) ((aheadP p).take i) = stP ((aheadP p).take i) from rfl, hx, List.length_take] at this
      simp only [List.length_nil] at this
      omega
    by_cases hlt : i < (aheadP p).length
    · obtain ⟨c, hc⟩ : ∃ c, (aheadP p)[i]? = some c := ⟨_, List.getElem?_eq_getElem hlt⟩
      have hc2 : s[i]? = some c := by rw [hA, List.getElem?_append_left hlt]; exact hc
      have hnx := stP_snoc hc
      rw [hx] at hnx
      obtain ⟨n1, n2⟩ := hnoE c (List.mem_of_getElem? hc)
      have n1' : Hn (¬ (c.toNat : Int) = 101) := ⟨fun e => n1 (byte_is e)⟩
      have n2' : Hn (¬ (c.toNat : Int) = 69) := ⟨fun e => n2 (byte_is e)⟩
      cases hf : isFig c with
      | true =>
        obtain ⟨f1, f2⟩ := isFig_iff.1 hf
        have hd46 : decide (c = 46) = false := decide_eq_false (by rintro rfl; revert hf; decide)
        have e1 : dg ++ (s.drop i).take 1 = dg ++ [c] := by rw [drop_get hc2]; rfl
        repeat' (first
    | ((with_reducible apply TL.gives_plain); (· kernel_rfl); (· rfl); (· exact figure_is hf _ _); (· rfl)) | ((with_reducible apply TW.gives_plain); (· kernel_rfl); (· rfl); (· exact figure_is hf _ _); (· rfl))
    | refine wkP ?_
    | ((with_reducible apply TL.byteK); (· rfl); (· rfl); (· exact natA); (· assumption); (· rfl); intro _) | ((with_reducible apply TL.byte); (· rfl); (· rfl); (· exact natA); (· exact omA); (· rfl); intro _ _ _)
    | refine stS ?_ | (refine stB ?_; intro _) | (refine stC ?_; refine And.intro (fun _ => ?_) (fun _ => ?_))
    | apply TC.region_draw (by kernel_rfl) (by kernel_rfl) | refine TW.nil ?_ | ((with_reducible apply TW.pure); (· exact yA); (· rfl))
    | ((with_reducible apply TL.range_str); (· rfl); (· rfl); intro _) | ((with_reducible apply TL.next_str); (· rfl); (· exact pkA); (· rfl); all_goals intro _)
    | ((with_reducible apply TW.byteK); (· rfl); (· rfl); (· exact natA); (· assumption); (· rfl); intro _) | ((with_reducible apply TW.byte); (· rfl); (· rfl); (· exact natA); (· exact omA); (· rfl); intro _ _ _)
    | refine TW.guard_yes rfl rfl ?_ | refine TW.guard_no rfl rfl rfl rfl ?_ | refine TW.guard_undef rfl rfl rfl ?_ | refine TW.guard rfl rfl rfl ?_)
        · have ht : dt = true := by assumption
          refine TQ.round (i + 1, dg ++ (s.drop i).take 1, bh + 1, dt) ?_ ?_ rfl subA selA
          · refine ⟨by omega, ?_⟩
            rw [hnx, stepP, e1, ht, hd46]
            simp [hf]
          · show (aheadP p).length - (i + 1) < (aheadP p).length - i
            omega
        · have ht : dt = false := by assumption
          refine TQ.round (i + 1, dg ++ (s.drop i).take 1, bh, dt) ?_ ?_ rfl subA selA
          · refine ⟨by omega, ?_⟩
            rw [hnx, stepP, e1, ht, hd46]
            simp [hf]
          · show (aheadP p).length - (i + 1) < (aheadP p).length - i
            omega
      | false =>
        repeat' (first
    | ((with_reducible apply TL.gives_plain); (· kernel_rfl); (· rfl); (· exact figure_is hf _ _); (· rfl)) | ((with_reducible apply TW.gives_plain); (· kernel_rfl); (· rfl); (· exact figure_is hf _ _); (· rfl))
    | refine wkP ?_
    | ((with_reducible apply TL.byteK); (· rfl); (· rfl); (· exact natA); (· assumption); (· rfl); intro _) | ((with_reducible apply TL.byte); (· rfl); (· rfl); (· exact natA); (· exact omA); (· rfl); intro _ _ _)
    | refine stS ?_ | (refine stB ?_; intro _) | (refine stC ?_; refine And.intro (fun _ => ?_) (fun _ => ?_))
    | apply TC.region_draw (by kernel_rfl) (by kernel_rfl) | refine TW.nil ?_ | ((with_reducible apply TW.pure); (· exact yA); (· rfl))
    | ((with_reducible apply TL.range_str); (· rfl); (· rfl); intro _) | ((with_reducible apply TL.next_str); (· rfl); (· exact pkA); (· rfl); all_goals intro _)
    | ((with_reducible apply TW.byteK); (· rfl); (· rfl); (· exact natA); (· assumption); (· rfl); intro _) | ((with_reducible apply TW.byte); (· rfl); (· rfl); (· exact natA); (· exact omA); (· rfl); intro _ _ _)
    | refine TW.guard_yes rfl rfl ?_ | refine TW.guard_no rfl rfl rfl rfl ?_ | refine TW.guard_undef rfl rfl rfl ?_ | refine TW.guard rfl rfl rfl ?_)
        · have h46 : (c.toNat : Int) = 46 := by assumption
          refine TQ.round (i + 1, dg, bh, true) ?_ ?_ rfl subA selA
          · refine ⟨by omega, ?_⟩
            have h9 : isFig 46 = false := rfl
            rw [hnx, stepP]
            simp [byte_is (d := 46) h46, h9]
          · show (aheadP p).length - (i + 1) < (aheadP p).length - i
            omega
        · have h46 : Hn (¬ (c.toNat : Int) = 46) := by assumption
          refine TQ.round (i + 1, dg, bh, dt) ?_ ?_ rfl subA selA
          · refine ⟨by omega, ?_⟩
            have : decide (c = 46) = false := decide_eq_false (fun e => h46.out (by rw [e]; rfl))
            rw [hnx, stepP, this]
            simp [hf]
          · show (aheadP p).length - (i + 1) < (aheadP p).length - i
            omega
    obtain rfl : i = (aheadP p).length := by omega
    rw [List.take_length, hst] at hx
    obtain ⟨rfl, rfl, rfl⟩ := Prod.mk.inj hx |>.imp id fun h => Prod.mk.inj h
    rcases hform.ex with ⟨x1, x2, x3⟩ | ⟨e, es, x1, x2, x3, x4, x5, x6⟩
    · have hlen0 : ex.length = 0 := by rw [x1]; rfl
      repeat' (first
    | refine stS ?_ | (refine stB ?_; intro _) | (refine stC ?_; refine And.intro (fun _ => ?_) (fun _ => ?_)))
      refine TQ.cut 0 ?_ rfl subA selA
      unfold shiftR
      rw [x2, x3]; rfl
    have hce : s[(aheadP p).length]? = some e := by rw [hA, x1]; simp
    have he : isFig e = false := by rcases x2 with rfl | rfl <;> decide
    have hee : (e.toNat : Int) = 101 ∨ (e.toNat : Int) = 69 := by rcases x2 with rfl | rfl <;> decide
    have key := exp_key (m := (aheadP p).length) (s := s) (e := e) (es := es) (p := p) (a := aheadP p) rfl (by rw [hA, x1]) x3 x4 x5 x6 hs
    obtain ⟨y, fy, k, mn, hy, hfy, hyf, hk, hkl, hdr, hmn, hsh, hsm⟩ := key
    have hml : (aheadP p).length < s.length := (List.getElem?_eq_some_iff.1 hce).1
    generalize (aheadP p).length = m at *
    clear hlen x1 x2 x3 x4 x5 x6 hA hnoE hst hc0 hm0 hsc h0 hcut hz hform hi hbh hlt
    have hne : Hn (¬ (e.toNat : Int) = 46) := ⟨by omega⟩
    have heo : Hn (¬ (e.toNat : Int) = 101) → (e.toNat : Int) = 69 := fun h => hee.resolve_left h.out
    clear hee
    have hsum : shiftR p = 0 - (mn : Int) ↔ shiftR p = -(mn : Int) := by rw [Int.zero_sub]
    cases fy with
    | true =>
      obtain ⟨rfl, hy48⟩ := hyf rfl
      clear hk hyf
      have hy45 : Hn (¬ (y.toNat : Int) = 45) := ⟨by omega⟩
      rw [if_neg hy45.out] at hsh
      clear hy48
      repeat' (first
    | (have he69 := heo (by assumption); clear heo)
    | ((with_reducible apply TL.gives_plain); (· kernel_rfl); (· rfl); (· exact figure_is he _ _); (· rfl)) | ((with_reducible apply TW.gives_plain); (· kernel_rfl); (· rfl); (· exact figure_is he _ _); (· rfl))
    | ((with_reducible apply TL.gives_plain); (· kernel_rfl); (· rfl); (· exact figure_is hfy _ _); (· rfl)) | ((with_reducible apply TW.gives_plain); (· kernel_rfl); (· rfl); (· exact figure_is hfy _ _); (· rfl))
    | ((with_reducible apply TL.gives_plain); (· kernel_rfl); (· rfl); (· exact hsm _ _ _ hdr); (· rfl)) | ((with_reducible apply TW.gives_plain); (· kernel_rfl); (· rfl); (· exact hsm _ _ _ hdr); (· rfl))
    | refine wkP ?_
    | ((with_reducible apply TL.byteK); (· rfl); (· rfl); (· exact natA); (· assumption); (· rfl); intro _) | ((with_reducible apply TL.byte); (· rfl); (· rfl); (· exact natA); (· exact omA); (· rfl); intro _ _ _)
    | refine stS ?_ | (refine stB ?_; intro _) | (refine stC ?_; refine And.intro (fun _ => ?_) (fun _ => ?_))
    | apply TC.region_draw (by kernel_rfl) (by kernel_rfl) | refine TW.nil ?_ | ((with_reducible apply TW.pure); (· exact yA); (· rfl))
    | ((with_reducible apply TL.range_str); (· rfl); (· rfl); intro _) | ((with_reducible apply TL.next_str); (· rfl); (· exact pkA); (· rfl); all_goals intro _)
    | ((with_reducible apply TW.byteK); (· rfl); (· rfl); (· exact natA); (· assumption); (· rfl); intro _) | ((with_reducible apply TW.byte); (· rfl); (· rfl); (· exact natA); (· exact omA); (· rfl); intro _ _ _)
    | refine TW.guard_yes rfl rfl ?_ | refine TW.guard_no rfl rfl rfl rfl ?_ | refine TW.guard_undef rfl rfl rfl ?_ | refine TW.guard rfl rfl rfl ?_)
      all_goals
        refine TQ.cut (mn : Int) ?_ rfl subA selA
        exact hsh.symm
    | false =>
      obtain rfl := hk rfl
      clear hk hyf
      repeat' (first
    | (have he69 := heo (by assumption); clear heo)
    | ((with_reducible apply TL.gives_plain); (· kernel_rfl); (· rfl); (· exact figure_is he _ _); (· rfl)) | ((with_reducible apply TW.gives_plain); (· kernel_rfl); (· rfl); (· exact figure_is he _ _); (· rfl))
    | ((with_reducible apply TL.gives_plain); (· kernel_rfl); (· rfl); (· exact figure_is hfy _ _); (· rfl)) | ((with_reducible apply TW.gives_plain); (· kernel_rfl); (· rfl); (· exact figure_is hfy _ _); (· rfl))
    | ((with_reducible apply TL.gives_plain); (· kernel_rfl); (· rfl); (· exact hsm _ _ _ hdr); (· rfl)) | ((with_reducible apply TW.gives_plain); (· kernel_rfl); (· rfl); (· exact hsm _ _ _ hdr); (· rfl))
    | refine wkP ?_
    | ((with_reducible apply TL.byteK); (· rfl); (· rfl); (· exact natA); (· assumption); (· rfl); intro _) | ((with_reducible apply TL.byte); (· rfl); (· rfl); (· exact natA); (· exact omA); (· rfl); intro _ _ _)
    | refine stS ?_ | (refine stB ?_; intro _) | (refine stC ?_; refine And.intro (fun _ => ?_) (fun _ => ?_))
    | apply TC.region_draw (by kernel_rfl) (by kernel_rfl) | refine TW.nil ?_ | ((with_reducible apply TW.pure); (· exact yA); (· rfl))
    | ((with_reducible apply TL.range_str); (· rfl); (· rfl); intro _) | ((with_reducible apply TL.next_str); (· rfl); (· exact pkA); (· rfl); all_goals intro _)
    | ((with_reducible apply TW.byteK); (· rfl); (· rfl); (· exact natA); (· assumption); (· rfl); intro _) | ((with_reducible apply TW.byte); (· rfl); (· rfl); (· exact natA); (· exact omA); (· rfl); intro _ _ _)
    | refine TW.guard_yes rfl rfl ?_ | refine TW.guard_no rfl rfl rfl rfl ?_ | refine TW.guard_undef rfl rfl rfl ?_ | refine TW.guard rfl rfl rfl ?_)
      · refine TQ.cut (0 - (mn : Int)) ?_ rfl subA selA
        have h45 : (y.toNat : Int) = 45 := by assumption
        rw [if_pos h45] at hsh
        show 0 - (mn : Int) = _
        rw [hsh]; omega
      · refine TQ.cut (mn : Int) ?_ rfl subA selA
        have h45 : Hn (¬ (y.toNat : Int) = 45) := by assumption
        rw [if_neg h45.out] at hsh
        exact hsh.symm
      · refine TQ.cut (0 - (mn : Int)) ?_ rfl subA selA
        have h45 : (y.toNat : Int) = 45 := by assumption
        rw [if_pos h45] at hsh
        show 0 - (mn : Int) = _
        rw [hsh]; omega
      · refine TQ.cut (mn : Int) ?_ rfl subA selA
        have h45 : Hn (¬ (y.toNat : Int) = 45) := by assumption
        rw [if_neg h45.out] at hsh
        exact hsh.symm
  have hsb : -1000000 ≤ shiftR p ∧ shiftR p ≤ 1000000 := by
    have := Nat.min_le_right (valD p.power) 1000000
    unfold shiftR; split <;> omega
  have hwl : p.whole.length + p.rest.length ≤ 60000 := by
    have : p.whole.length + p.rest.length ≤ (aheadP p).length := by unfold aheadP; simp only [List.length_append]; omega
    omega
  subst z
  have hfig : ∀ c ∈ p.whole ++ p.rest, isFig c = true := fun c hc => (List.mem_append.1 hc).elim (hform.whole c) (hform.rest c)
  clear hlen hnoE hst hA hc0 hm0 hsc h0 hcut hform hs
  have hln : (p.whole ++ p.rest).length ≤ 60000 := by rw [List.length_append]; omega
  have hrl : p.rest.length ≤ 60000 := by omega
  generalize hD : p.whole ++ p.rest = D at *
  obtain ⟨R, hR⟩ : ∃ R, numR (shiftR p) p = R := ⟨_, rfl⟩
  rw [hR]
  unfold numR at hR
  rw [hD] at hR
  dsimp only at hR
  generalize shiftR p = sh at *
  generalize p.rest.length = rl at *
  generalize p.minus = mi at *
  clear hwl
  have hA := trimL_split D
  have hAl := trimL_le D
  generalize hAA : trimL D = A at *
  repeat' (first
    | refine wkP ?_
    | ((with_reducible apply TL.byteK); (· rfl); (· rfl); (· exact natA); (· assumption); (· rfl); intro _) | ((with_reducible apply TL.byte); (· rfl); (· rfl); (· exact natA); (· exact omA); (· rfl); intro _ _ _)
    | refine wkZ ?_ | (refine stB ?_; intro _) | (refine stC ?_; refine And.intro (fun _ => ?_) (fun _ => ?_))
    | ((with_reducible apply TL.range_str); (· rfl); (· rfl); intro _) | ((with_reducible apply TL.next_str); (· rfl); (· exact pkA); (· rfl); all_goals intro _)
    | apply TC.region_draw (by kernel_rfl) (by kernel_rfl) | refine TW.nil ?_ | ((with_reducible apply TW.pure); (· exact yA); (· rfl))
    | ((with_reducible apply TW.byteK); (· rfl); (· rfl); (· exact natA); (· assumption); (· rfl); intro _) | ((with_reducible apply TW.byte); (· rfl); (· rfl); (· exact natA); (· exact omA); (· rfl); intro _ _ _)
    | refine TW.guard_yes rfl rfl ?_ | refine TW.guard_no rfl rfl rfl rfl ?_ | refine TW.guard_undef rfl rfl rfl ?_ | refine TW.guard rfl rfl rfl ?_)
  refine TC.cutK (fun k : Nat => k ≤ D.length ∧ D.drop k = A) (fun k _ => [(12, .int .i64 (k : Nat)), (11, .int .i64 (sh - rl + 7)), (5, str D), (4, .bool mi)]) [] (by repeat (first | apply Drop.nil | apply Drop.cons (by (repeat (first | apply Pick.here | apply Pick.there))))) (fun _ L => L) ?_ (fun k hk => ?_)
  · repeat' (first
    | refine wkP ?_
    | ((with_reducible apply TL.byteK); (· rfl); (· rfl); (· exact natA); (· assumption); (· rfl); intro _) | ((with_reducible apply TL.byte); (· rfl); (· rfl); (· exact natA); (· exact omA); (· rfl); intro _ _ _)
    | refine wkZ ?_ | (refine stB ?_; intro _) | (refine stC ?_; refine And.intro (fun _ => ?_) (fun _ => ?_))
    | ((with_reducible apply TL.range_str); (· rfl); (· rfl); intro _) | ((with_reducible apply TL.next_str); (· rfl); (· exact pkA); (· rfl); all_goals intro _)
    | apply TC.region_draw (by kernel_rfl) (by kernel_rfl) | refine TW.nil ?_ | ((with_reducible apply TW.pure); (· exact yA); (· rfl))
    | ((with_reducible apply TW.byteK); (· rfl); (· rfl); (· exact natA); (· assumption); (· rfl); intro _) | ((with_reducible apply TW.byte); (· rfl); (· rfl); (· exact natA); (· exact omA); (· rfl); intro _ _ _)
    | refine TW.guard_yes rfl rfl ?_ | refine TW.guard_no rfl rfl rfl rfl ?_ | refine TW.guard_undef rfl rfl rfl ?_ | refine TW.guard rfl rfl rfl ?_)
    refine TC.loopK (fun k : Nat => k ≤ D.length ∧ trimL (D.drop k) = A) (fun k => D.length - k) (fun k _ => [(12, .int .i64 (k : Nat)), (11, .int .i64 (sh - rl + 7)), (5, str D), (4, .bool mi)]) [] (by repeat (first | apply Drop.nil | apply Drop.cons (by (repeat (first | apply Pick.here | apply Pick.there))))) (fun _ L => L) 0 ⟨Nat.zero_le _, hAA⟩ subA selA ?_
    rintro k ⟨hk, hkA⟩
    repeat' (first
    | refine wkP ?_
    | ((with_reducible apply TL.byteK); (· rfl); (· rfl); (· exact natA); (· assumption); (· rfl); intro _) | ((with_reducible apply TL.byte); (· rfl); (· rfl); (· exact natA); (· exact omA); (· rfl); intro _ _ _)
    | refine stS ?_ | (refine stB ?_; intro _) | (refine stC ?_; refine And.intro (fun _ => ?_) (fun _ => ?_))
    | apply TC.region_draw (by kernel_rfl) (by kernel_rfl) | refine TW.nil ?_ | ((with_reducible apply TW.pure); (· exact yA); (· rfl))
    | ((with_reducible apply TL.range_str); (· rfl); (· rfl); intro _) | ((with_reducible apply TL.next_str); (· rfl); (· exact pkA); (· rfl); all_goals intro _)
    | ((with_reducible apply TW.byteK); (· rfl); (· rfl); (· exact natA); (· assumption); (· rfl); intro _) | ((with_reducible apply TW.byte); (· rfl); (· rfl); (· exact natA); (· exact omA); (· rfl); intro _ _ _)
    | refine TW.guard_yes rfl rfl ?_ | refine TW.guard_no rfl rfl rfl rfl ?_ | refine TW.guard_undef rfl rfl rfl ?_ | refine TW.guard rfl rfl rfl ?_)
    · rename_i c hc _ h48
      rw [drop_get hc, byte_is (d := 48) h48, trimL_zero] at hkA
      refine TQ.round (k + 1) ?_ ?_ rfl subA selA
      · exact ⟨by omega, hkA⟩
      · show D.length - (k + 1) < D.length - k
        omega
    · rename_i c hc _ h48
      rw [drop_get hc, trimL_stop _ (fun e => h48.out (by rw [e]; rfl)), ← drop_get hc] at hkA
      refine TQ.cut k ?_ rfl subA selA
      exact ⟨hk, hkA⟩
    · refine TQ.cut k ?_ rfl subA selA
      refine ⟨hk, ?_⟩
      rw [List.drop_eq_nil_of_le (by omega)] at hkA ⊢
      exact hkA
  obtain ⟨hk, hkA⟩ := hk
  clear hA
  have hlA : A.length = D.length - k := by rw [← hkA, List.length_drop]
  repeat' (first
    | refine wkP ?_
    | ((with_reducible apply TL.byteK); (· rfl); (· rfl); (· exact natA); (· assumption); (· rfl); intro _) | ((with_reducible apply TL.byte); (· rfl); (· rfl); (· exact natA); (· exact omA); (· rfl); intro _ _ _)
    | refine wkZ ?_ | (refine stB ?_; intro _) | (refine stC ?_; refine And.intro (fun _ => ?_) (fun _ => ?_))
    | ((with_reducible apply TL.range_str); (· rfl); (· rfl); intro _) | ((with_reducible apply TL.next_str); (· rfl); (· exact pkA); (· rfl); all_goals intro _)
    | apply TC.region_draw (by kernel_rfl) (by kernel_rfl) | refine TW.nil ?_ | ((with_reducible apply TW.pure); (· exact yA); (· rfl))
    | ((with_reducible apply TW.byteK); (· rfl); (· rfl); (· exact natA); (· assumption); (· rfl); intro _) | ((with_reducible apply TW.byte); (· rfl); (· rfl); (· exact natA); (· exact omA); (· rfl); intro _ _ _)
    | refine TW.guard_yes rfl rfl ?_ | refine TW.guard_no rfl rfl rfl rfl ?_ | refine TW.guard_undef rfl rfl rfl ?_ | refine TW.guard rfl rfl rfl ?_)
  rw [hkA]
  have hP : -1060000 ≤ sh - rl + 7 ∧ sh - rl + 7 ≤ 1000007 := by omega
  generalize sh - (rl : Int) + 7 = P0 at *
  refine TC.cutK (fun z : Int => z = P0 + ((A.length - (trimR A).length : Nat) : Int)) (fun z _ => [(11, .int .i64 z), (5, str (trimR A)), (4, .bool mi)]) [] (by repeat (first | apply Drop.nil | apply Drop.cons (by (repeat (first | apply Pick.here | apply Pick.there))))) (fun _ L => L) ?_ (fun z hz => ?_)
  · repeat' (first
    | refine wkP ?_
    | ((with_reducible apply TL.byteK); (· rfl); (· rfl); (· exact natA); (· assumption); (· rfl); intro _) | ((with_reducible apply TL.byte); (· rfl); (· rfl); (· exact natA); (· exact omA); (· rfl); intro _ _ _)
    | refine wkZ ?_ | (refine stB ?_; intro _) | (refine stC ?_; refine And.intro (fun _ => ?_) (fun _ => ?_))
    | ((with_reducible apply TL.range_str); (· rfl); (· rfl); intro _) | ((with_reducible apply TL.next_str); (· rfl); (· exact pkA); (· rfl); all_goals intro _)
    | apply TC.region_draw (by kernel_rfl) (by kernel_rfl) | refine TW.nil ?_ | ((with_reducible apply TW.pure); (· exact yA); (· rfl))
    | ((with_reducible apply TW.byteK); (· rfl); (· rfl); (· exact natA); (· assumption); (· rfl); intro _) | ((with_reducible apply TW.byte); (· rfl); (· rfl); (· exact natA); (· exact omA); (· rfl); intro _ _ _)
    | refine TW.guard_yes rfl rfl ?_ | refine TW.guard_no rfl rfl rfl rfl ?_ | refine TW.guard_undef rfl rfl rfl ?_ | refine TW.guard rfl rfl rfl ?_)
    refine TC.loopK (fun d : List UInt8 × Int => trimR d.1 = trimR A ∧ d.1.length ≤ A.length ∧ d.2 = P0 + ((A.length - d.1.length : Nat) : Int)) (fun d => d.1.length) (fun d _ => [(11, .int .i64 d.2), (5, str d.1), (4, .bool mi)]) [] (by repeat (first | apply Drop.nil | apply Drop.cons (by (repeat (first | apply Pick.here | apply Pick.there))))) (fun _ L => L) (A, P0) ⟨rfl, Nat.le_refl _, by simp⟩ subA selA ?_
    rintro ⟨d, q⟩ ⟨hd, hdl, hq⟩
    dsimp only at hd hdl hq ⊢
    repeat' (first
    | refine wkP ?_
    | ((with_reducible apply TL.byteK); (· rfl); (· rfl); (· exact natA); (· assumption); (· rfl); intro _) | ((with_reducible apply TL.byte); (· rfl); (· rfl); (· exact natA); (· exact omA); (· rfl); intro _ _ _)
    | refine stS ?_ | (refine stB ?_; intro _) | (refine stC ?_; refine And.intro (fun _ => ?_) (fun _ => ?_))
    | apply TC.region_draw (by kernel_rfl) (by kernel_rfl) | refine TW.nil ?_ | ((with_reducible apply TW.pure); (· exact yA); (· rfl))
    | ((with_reducible apply TL.range_str); (· rfl); (· rfl); intro _) | ((with_reducible apply TL.next_str); (· rfl); (· exact pkA); (· rfl); all_goals intro _)
    | ((with_reducible apply TW.byteK); (· rfl); (· rfl); (· exact natA); (· assumption); (· rfl); intro _) | ((with_reducible apply TW.byte); (· rfl); (· rfl); (· exact natA); (· exact omA); (· rfl); intro _ _ _)
    | refine TW.guard_yes rfl rfl ?_ | refine TW.guard_no rfl rfl rfl rfl ?_ | refine TW.guard_undef rfl rfl rfl ?_ | refine TW.guard rfl rfl rfl ?_)
    · rename_i _ c hc _ h48
      obtain ⟨h1, _⟩ := trimR_last (c := c) (s := d) (by rw [show d.length - 1 = ((d.length : Int) - 1).toNat by omega]; exact hc)
      refine TQ.round (d.take ((d.length : Int) - 1).toNat, q + 1) ?_ ?_ rfl subA selA
      · rw [show ((d.length : Int) - 1).toNat = d.length - 1 by omega]
        refine ⟨(h1 (byte_is (d := 48) h48)).trans hd, by rw [List.length_take]; omega, ?_⟩
        show q + 1 = _
        rw [List.length_take]; omega
      · show (d.take _).length < d.length
        rw [List.length_take]; omega
    · rename_i _ c hc _ h48
      obtain ⟨_, h1⟩ := trimR_last (c := c) (s := d) (by rw [show d.length - 1 = ((d.length : Int) - 1).toNat by omega]; exact hc)
      have h1 := h1 (fun e => h48.out (by rw [e]; rfl))
      rw [← hd, h1]
      refine TQ.cut q ?_ rfl subA selA
      exact hq
    · have : d = [] := List.eq_nil_of_length_eq_zero (by omega)
      subst this
      rw [← hd]
      refine TQ.cut q ?_ rfl subA selA
      exact hq
  subst hz
  have hBl := trimR_le A
  have hBf : ∀ c ∈ trimR A, isFig c = true := fun c hc => by
    have := trimR_mem hc
    rw [← hAA] at this
    exact hfig c (trimL_mem this)
  have hnil := trimR_nil (s := D)
  rw [hAA] at hnil
  generalize trimR A = B at *
  have hQ : ∃ Z : Int, P0 + ((A.length - B.length : Nat) : Int) = Z ∧ -1060000 ≤ Z ∧ Z ≤ 1070000 := ⟨_, rfl, by omega, by omega⟩
  obtain ⟨Z, hZ, hZ1, hZ2⟩ := hQ
  rw [hZ]
  rw [hZ] at hR
  have hBb : B.length ≤ 60000 := by omega
  clear hP hlA hk hkA hsb hrl hln hfig hAl hnil
  refine TC.seq ?_
  repeat' (first
    | refine wkP ?_
    | ((with_reducible apply TL.byteK); (· rfl); (· rfl); (· exact natA); (· assumption); (· rfl); intro _) | ((with_reducible apply TL.byte); (· rfl); (· rfl); (· exact natA); (· exact omA); (· rfl); intro _ _ _)
    | refine wkZ ?_ | (refine stB ?_; intro _) | (refine stC ?_; refine And.intro (fun _ => ?_) (fun _ => ?_))
    | ((with_reducible apply TL.range_str); (· rfl); (· rfl); intro _) | ((with_reducible apply TL.next_str); (· rfl); (· exact pkA); (· rfl); all_goals intro _)
    | apply TC.region_draw (by kernel_rfl) (by kernel_rfl) | refine TW.nil ?_ | ((with_reducible apply TW.pure); (· exact yA); (· rfl))
    | ((with_reducible apply TW.byteK); (· rfl); (· rfl); (· exact natA); (· assumption); (· rfl); intro _) | ((with_reducible apply TW.byte); (· rfl); (· rfl); (· exact natA); (· exact omA); (· rfl); intro _ _ _)
    | refine TW.guard_yes rfl rfl ?_ | refine TW.guard_no rfl rfl rfl rfl ?_ | refine TW.guard_undef rfl rfl rfl ?_ | refine TW.guard rfl rfl rfl ?_)
  · have h0 : B = [] := by assumption
    rw [if_pos h0] at hR
    refine TQ.endR2 (L' := L) Tryz.results53 rvA rvA rfl (.refl _) ?_ selA
    rw [← hR]
    exact ⟨rfl, rfl, rfl⟩
  have hB0 : Hn (¬ B = []) := by assumption
  rw [if_neg hB0.out] at hR
  refine TC.seq ?_
  repeat' (first
    | refine wkP ?_
    | ((with_reducible apply TL.byteK); (· rfl); (· rfl); (· exact natA); (· assumption); (· rfl); intro _) | ((with_reducible apply TL.byte); (· rfl); (· rfl); (· exact natA); (· exact omA); (· rfl); intro _ _ _)
    | refine wkZ ?_ | (refine stB ?_; intro _) | (refine stC ?_; refine And.intro (fun _ => ?_) (fun _ => ?_))
    | ((with_reducible apply TL.range_str); (· rfl); (· rfl); intro _) | ((with_reducible apply TL.next_str); (· rfl); (· exact pkA); (· rfl); all_goals intro _)
    | apply TC.region_draw (by kernel_rfl) (by kernel_rfl) | refine TW.nil ?_ | ((with_reducible apply TW.pure); (· exact yA); (· rfl))
    | ((with_reducible apply TW.byteK); (· rfl); (· rfl); (· exact natA); (· assumption); (· rfl); intro _) | ((with_reducible apply TW.byte); (· rfl); (· rfl); (· exact natA); (· exact omA); (· rfl); intro _ _ _)
    | refine TW.guard_yes rfl rfl ?_ | refine TW.guard_no rfl rfl rfl rfl ?_ | refine TW.guard_undef rfl rfl rfl ?_ | refine TW.guard rfl rfl rfl ?_)
  · refine TQ.endR2 (L' := L) Tryz.results53 rvA rvA rfl (.refl _) ?_ selA
    rw [if_pos (by omega)] at hR
    rw [← hR]
    exact ⟨rfl, rfl, rfl⟩
  · refine TQ.endR2 (L' := L) Tryz.results53 rvA rvA rfl (.refl _) ?_ selA
    rw [if_pos (by omega)] at hR
    rw [← hR]
    exact ⟨rfl, rfl, rfl⟩
  rw [if_neg (by omega)] at hR
  obtain ⟨q, rfl⟩ : ∃ q : Nat, Z = q := ⟨Z.toNat, by omega⟩
  rw [Int.toNat_natCast] at hR
  have hq19 : B.length + q ≤ 19 := by omega
  clear hZ hZ1 hZ2 hBb hBl hAA
  refine TC.cutK (fun z : List UInt8 => z = B ++ List.replicate q 48) (fun z _ => [(5, str z), (4, .bool mi)]) [] (by repeat (first | apply Drop.nil | apply Drop.cons (by (repeat (first | apply Pick.here | apply Pick.there))))) (fun _ L => L) ?_ (fun z hz => ?_)
  · repeat' (first
    | refine wkP ?_
    | ((with_reducible apply TL.byteK); (· rfl); (· rfl); (· exact natA); (· assumption); (· rfl); intro _) | ((with_reducible apply TL.byte); (· rfl); (· rfl); (· exact natA); (· exact omA); (· rfl); intro _ _ _)
    | refine wkZ ?_ | (refine stB ?_; intro _) | (refine stC ?_; refine And.intro (fun _ => ?_) (fun _ => ?_))
    | ((with_reducible apply TL.range_str); (· rfl); (· rfl); intro _) | ((with_reducible apply TL.next_str); (· rfl); (· exact pkA); (· rfl); all_goals intro _)
    | apply TC.region_draw (by kernel_rfl) (by kernel_rfl) | refine TW.nil ?_ | ((with_reducible apply TW.pure); (· exact yA); (· rfl))
    | ((with_reducible apply TW.byteK); (· rfl); (· rfl); (· exact natA); (· assumption); (· rfl); intro _) | ((with_reducible apply TW.byte); (· rfl); (· rfl); (· exact natA); (· exact omA); (· rfl); intro _ _ _)
    | refine TW.guard_yes rfl rfl ?_ | refine TW.guard_no rfl rfl rfl rfl ?_ | refine TW.guard_undef rfl rfl rfl ?_ | refine TW.guard rfl rfl rfl ?_)
    refine TC.loopK (fun x : Nat × List UInt8 => x.1 ≤ q ∧ x.2 = B ++ List.replicate x.1 48) (fun x => q - x.1) (fun x _ => [(13, .int .i64 (x.1 : Nat)), (11, .int .i64 (q : Nat)), (5, str x.2), (4, .bool mi)]) [] (by repeat (first | apply Drop.nil | apply Drop.cons (by (repeat (first | apply Pick.here | apply Pick.there))))) (fun _ L => L) (0, B) ⟨Nat.zero_le _, by simp⟩ subA selA ?_
    rintro ⟨i, d⟩ ⟨hi, hd⟩
    dsimp only at hi hd ⊢
    have hdl : d.length ≤ 19 := by rw [hd, List.length_append, List.length_replicate]; omega
    repeat' (first
    | refine stS ?_ | (refine stB ?_; intro _) | (refine stC ?_; refine And.intro (fun _ => ?_) (fun _ => ?_)))
    · refine TQ.round (i + 1, d ++ [48]) ?_ ?_ rfl subA selA
      · refine ⟨by omega, ?_⟩
        rw [hd, List.append_assoc, List.replicate_succ']
      · show q - (i + 1) < q - i
        omega
    · refine TQ.cut d ?_ rfl subA selA
      rw [hd, show i = q by omega]
  subst hz
  have hCl : (B ++ List.replicate q 48).length ≤ 19 := by rw [List.length_append, List.length_replicate]; exact hq19
  have hCf : ∀ c ∈ B ++ List.replicate q 48, isFig c = true := fun c hc => by
    rcases List.mem_append.1 hc with h | h
    · exact hBf c h
    · rw [List.eq_of_mem_replicate h]; rfl
  rw [← valD_shift] at hR
  generalize B ++ List.replicate q 48 = C at *
  clear hBf hq19 hB0
  refine TC.cutK (fun z : List UInt8 => z.length = 19 ∧ valD z = valD C ∧ ∀ c ∈ z, isFig c = true) (fun z _ => [(5, str z), (4, .bool mi)]) [] (by repeat (first | apply Drop.nil | apply Drop.cons (by (repeat (first | apply Pick.here | apply Pick.there))))) (fun _ L => L) ?_ (fun z hz => ?_)
  · repeat' (first
    | refine wkP ?_
    | ((with_reducible apply TL.byteK); (· rfl); (· rfl); (· exact natA); (· assumption); (· rfl); intro _) | ((with_reducible apply TL.byte); (· rfl); (· rfl); (· exact natA); (· exact omA); (· rfl); intro _ _ _)
    | refine wkZ ?_ | (refine stB ?_; intro _) | (refine stC ?_; refine And.intro (fun _ => ?_) (fun _ => ?_))
    | ((with_reducible apply TL.range_str); (· rfl); (· rfl); intro _) | ((with_reducible apply TL.next_str); (· rfl); (· exact pkA); (· rfl); all_goals intro _)
    | apply TC.region_draw (by kernel_rfl) (by kernel_rfl) | refine TW.nil ?_ | ((with_reducible apply TW.pure); (· exact yA); (· rfl))
    | ((with_reducible apply TW.byteK); (· rfl); (· rfl); (· exact natA); (· assumption); (· rfl); intro _) | ((with_reducible apply TW.byte); (· rfl); (· rfl); (· exact natA); (· exact omA); (· rfl); intro _ _ _)
    | refine TW.guard_yes rfl rfl ?_ | refine TW.guard_no rfl rfl rfl rfl ?_ | refine TW.guard_undef rfl rfl rfl ?_ | refine TW.guard rfl rfl rfl ?_)
    refine TC.loopK (fun z : List UInt8 => z.length ≤ 19 ∧ valD z = valD C ∧ ∀ c ∈ z, isFig c = true) (fun z => 19 - z.length) (fun z _ => [(5, str z), (4, .bool mi)]) [] (by repeat (first | apply Drop.nil | apply Drop.cons (by (repeat (first | apply Pick.here | apply Pick.there))))) (fun _ L => L) C ⟨hCl, rfl, hCf⟩ subA selA ?_
    rintro z ⟨hz1, hz2, hz3⟩
    repeat' (first
    | refine stS ?_ | (refine stB ?_; intro _) | (refine stC ?_; refine And.intro (fun _ => ?_) (fun _ => ?_)))
    · refine TQ.round ([48] ++ z) ?_ ?_ rfl subA selA
      · refine ⟨by simp; omega, ?_, fun c hc => ?_⟩
        · rw [← hz2]; exact valD_lead 1 z
        · rcases List.mem_cons.1 hc with rfl | h
          · rfl
          · exact hz3 c h
      · show 19 - ([48] ++ z).length < 19 - z.length
        simp; omega
    · refine TQ.cut z ?_ rfl subA selA
      exact ⟨by omega, hz2, hz3⟩
  obtain ⟨hz1, hz2, hz3⟩ := hz
  rw [← hz2] at hR
  clear hz2 hCl hCf
  have hgt := gt_lit z hz1 hz3
  refine TC.seq ?_
  repeat' (first
    | refine wkP ?_
    | ((with_reducible apply TL.byteK); (· rfl); (· rfl); (· exact natA); (· assumption); (· rfl); intro _) | ((with_reducible apply TL.byte); (· rfl); (· rfl); (· exact natA); (· exact omA); (· rfl); intro _ _ _)
    | refine wkZ ?_ | (refine stB ?_; intro _) | (refine stC ?_; refine And.intro (fun _ => ?_) (fun _ => ?_))
    | ((with_reducible apply TL.range_str); (· rfl); (· rfl); intro _) | ((with_reducible apply TL.next_str); (· rfl); (· exact pkA); (· rfl); all_goals intro _)
    | apply TC.region_draw (by kernel_rfl) (by kernel_rfl) | refine TW.nil ?_ | ((with_reducible apply TW.pure); (· exact yA); (· rfl))
    | ((with_reducible apply TW.byteK); (· rfl); (· rfl); (· exact natA); (· assumption); (· rfl); intro _) | ((with_reducible apply TW.byte); (· rfl); (· rfl); (· exact natA); (· exact omA); (· rfl); intro _ _ _)
    | refine TW.guard_yes rfl rfl ?_ | refine TW.guard_no rfl rfl rfl rfl ?_ | refine TW.guard_undef rfl rfl rfl ?_ | refine TW.guard rfl rfl rfl ?_)
  · have h : (!(Op.bytesLess z [57, 48, 48, 48, 48, 48, 48, 48, 48, 48, 48, 48, 48, 48, 48, 48, 48, 48, 48] || z == [57, 48, 48, 48, 48, 48, 48, 48, 48, 48, 48, 48, 48, 48, 48, 48, 48, 48, 48])) = true := by assumption
    rw [hgt] at h
    rw [if_pos (of_decide_eq_true h)] at hR
    refine TQ.endR2 (L' := L) Tryz.results53 rvA rvA rfl (.refl _) ?_ selA
    rw [← hR]
    exact ⟨rfl, rfl, rfl⟩
  have h : (!(Op.bytesLess z [57, 48, 48, 48, 48, 48, 48, 48, 48, 48, 48, 48, 48, 48, 48, 48, 48, 48, 48] || z == [57, 48, 48, 48, 48, 48, 48, 48, 48, 48, 48, 48, 48, 48, 48, 48, 48, 48, 48])) = false := by assumption
  rw [hgt] at h
  have hN := of_decide_eq_false h
  rw [if_neg hN] at hR
  have hN : valD z ≤ 9000000000000000000 := by omega
  clear h hgt
  have hmf : ∀ c : UInt8, ∀ i, z[i]? = some c → 48 ≤ c.toNat ∧ c.toNat ≤ 57 := fun c i h => isFig_iff.1 (hz3 c (List.mem_of_getElem? h))
  clear hz3
  repeat' (first
    | refine wkP ?_
    | ((with_reducible apply TL.byteK); (· rfl); (· rfl); (· exact natA); (· assumption); (· rfl); intro _) | ((with_reducible apply TL.byte); (· rfl); (· rfl); (· exact natA); (· exact omA); (· rfl); intro _ _ _)
    | refine wkZ ?_ | (refine stB ?_; intro _) | (refine stC ?_; refine And.intro (fun _ => ?_) (fun _ => ?_))
    | ((with_reducible apply TL.range_str); (· rfl); (· rfl); intro _) | ((with_reducible apply TL.next_str); (· rfl); (· exact pkA); (· rfl); all_goals intro _)
    | apply TC.region_draw (by kernel_rfl) (by kernel_rfl) | refine TW.nil ?_ | ((with_reducible apply TW.pure); (· exact yA); (· rfl))
    | ((with_reducible apply TW.byteK); (· rfl); (· rfl); (· exact natA); (· assumption); (· rfl); intro _) | ((with_reducible apply TW.byte); (· rfl); (· rfl); (· exact natA); (· exact omA); (· rfl); intro _ _ _)
    | refine TW.guard_yes rfl rfl ?_ | refine TW.guard_no rfl rfl rfl rfl ?_ | refine TW.guard_undef rfl rfl rfl ?_ | refine TW.guard rfl rfl rfl ?_)
  refine TC.cutK (fun m : Nat => m = valD z) (fun m _ => [(14, .int .i64 (m : Nat)), (4, .bool mi)]) [] (by repeat (first | apply Drop.nil | apply Drop.cons (by (repeat (first | apply Pick.here | apply Pick.there))))) (fun _ L => L) ?_ (fun m hm => ?_)
  · repeat' (first
    | refine wkP ?_
    | ((with_reducible apply TL.byteK); (· rfl); (· rfl); (· exact natA); (· assumption); (· rfl); intro _) | ((with_reducible apply TL.byte); (· rfl); (· rfl); (· exact natA); (· exact omA); (· rfl); intro _ _ _)
    | refine wkZ ?_ | (refine stB ?_; intro _) | (refine stC ?_; refine And.intro (fun _ => ?_) (fun _ => ?_))
    | ((with_reducible apply TL.range_str); (· rfl); (· rfl); intro _) | ((with_reducible apply TL.next_str); (· rfl); (· exact pkA); (· rfl); all_goals intro _)
    | apply TC.region_draw (by kernel_rfl) (by kernel_rfl) | refine TW.nil ?_ | ((with_reducible apply TW.pure); (· exact yA); (· rfl))
    | ((with_reducible apply TW.byteK); (· rfl); (· rfl); (· exact natA); (· assumption); (· rfl); intro _) | ((with_reducible apply TW.byte); (· rfl); (· rfl); (· exact natA); (· exact omA); (· rfl); intro _ _ _)
    | refine TW.guard_yes rfl rfl ?_ | refine TW.guard_no rfl rfl rfl rfl ?_ | refine TW.guard_undef rfl rfl rfl ?_ | refine TW.guard rfl rfl rfl ?_)
    refine TC.loopK (fun x : Nat × Nat => x.1 ≤ 19 ∧ x.2 = valD (z.take x.1)) (fun x => 19 - x.1) (fun x _ => [(15, .int .i64 (x.1 : Nat)), (14, .int .i64 (x.2 : Nat)), (5, str z), (4, .bool mi)]) [] (by repeat (first | apply Drop.nil | apply Drop.cons (by (repeat (first | apply Pick.here | apply Pick.there))))) (fun _ L => L) (0, 0) ⟨Nat.zero_le _, rfl⟩ subA selA ?_
    rintro ⟨i, m⟩ ⟨hi, hm⟩
    dsimp only at hi hm ⊢
    have hle := valD_take_le z i
    by_cases hlt : i < 19
    · obtain ⟨c, hc⟩ : ∃ c, z[i]? = some c := ⟨_, List.getElem?_eq_getElem (by omega)⟩
      obtain ⟨f1, f2⟩ := hmf c i hc
      have hn := valD_take_succ hc
      have hle2 := valD_take_le z (i + 1)
      clear hmf
      repeat' (first
    | refine wkP ?_
    | ((with_reducible apply TL.byteK); (· rfl); (· rfl); (· exact natA); (· assumption); (· rfl); intro _) | ((with_reducible apply TL.byte); (· rfl); (· rfl); (· exact natA); (· exact omA); (· rfl); intro _ _ _)
    | refine stS ?_ | (refine stB ?_; intro _) | (refine stC ?_; refine And.intro (fun _ => ?_) (fun _ => ?_))
    | apply TC.region_draw (by kernel_rfl) (by kernel_rfl) | refine TW.nil ?_ | ((with_reducible apply TW.pure); (· exact yA); (· rfl))
    | ((with_reducible apply TL.range_str); (· rfl); (· rfl); intro _) | ((with_reducible apply TL.next_str); (· rfl); (· exact pkA); (· rfl); all_goals intro _)
    | ((with_reducible apply TW.byteK); (· rfl); (· rfl); (· exact natA); (· assumption); (· rfl); intro _) | ((with_reducible apply TW.byte); (· rfl); (· rfl); (· exact natA); (· exact omA); (· rfl); intro _ _ _)
    | refine TW.guard_yes rfl rfl ?_ | refine TW.guard_no rfl rfl rfl rfl ?_ | refine TW.guard_undef rfl rfl rfl ?_ | refine TW.guard rfl rfl rfl ?_)
      refine TQ.slot (t := 14) rfl (show Value.int .i64 (10 * (m : Int) + ((c.toNat : Int) - 48)) = .int .i64 ((10 * m + (c.toNat - 48) : Nat) : Int) from congrArg (Value.int .i64) (by omega)) ?_
      refine TQ.round (i + 1, 10 * m + (c.toNat - 48)) ?_ ?_ rfl subA selA
      · exact ⟨by omega, by rw [hn, hm]⟩
      · show 19 - (i + 1) < 19 - i
        omega
    · clear hmf
      repeat' (first
    | refine stS ?_ | (refine stB ?_; intro _) | (refine stC ?_; refine And.intro (fun _ => ?_) (fun _ => ?_)))
      refine TQ.cut m ?_ rfl subA selA
      rw [hm, show i = z.length by omega, List.take_length]
  subst hm
  clear hmf
  refine TC.seq ?_
  repeat' (first
    | refine wkP ?_
    | ((with_reducible apply TL.byteK); (· rfl); (· rfl); (· exact natA); (· assumption); (· rfl); intro _) | ((with_reducible apply TL.byte); (· rfl); (· rfl); (· exact natA); (· exact omA); (· rfl); intro _ _ _)
    | refine wkZ ?_ | (refine stB ?_; intro _) | (refine stC ?_; refine And.intro (fun _ => ?_) (fun _ => ?_))
    | ((with_reducible apply TL.range_str); (· rfl); (· rfl); intro _) | ((with_reducible apply TL.next_str); (· rfl); (· exact pkA); (· rfl); all_goals intro _)
    | apply TC.region_draw (by kernel_rfl) (by kernel_rfl) | refine TW.nil ?_ | ((with_reducible apply TW.pure); (· exact yA); (· rfl))
    | ((with_reducible apply TW.byteK); (· rfl); (· rfl); (· exact natA); (· assumption); (· rfl); intro _) | ((with_reducible apply TW.byte); (· rfl); (· rfl); (· exact natA); (· exact omA); (· rfl); intro _ _ _)
    | refine TW.guard_yes rfl rfl ?_ | refine TW.guard_no rfl rfl rfl rfl ?_ | refine TW.guard_undef rfl rfl rfl ?_ | refine TW.guard rfl rfl rfl ?_)
  · have hm : mi = true := by assumption
    refine TQ.endR2 (L' := L) Tryz.results53 rvA rvA rfl (.refl _) ?_ selA
    rw [← hR, hm]
    exact ⟨by simp, rfl, rfl⟩
  have hm : mi = false := by assumption
  repeat' (first
    | refine wkP ?_
    | ((with_reducible apply TL.byteK); (· rfl); (· rfl); (· exact natA); (· assumption); (· rfl); intro _) | ((with_reducible apply TL.byte); (· rfl); (· rfl); (· exact natA); (· exact omA); (· rfl); intro _ _ _)
    | refine wkZ ?_ | (refine stB ?_; intro _) | (refine stC ?_; refine And.intro (fun _ => ?_) (fun _ => ?_))
    | ((with_reducible apply TL.range_str); (· rfl); (· rfl); intro _) | ((with_reducible apply TL.next_str); (· rfl); (· exact pkA); (· rfl); all_goals intro _)
    | apply TC.region_draw (by kernel_rfl) (by kernel_rfl) | refine TW.nil ?_ | ((with_reducible apply TW.pure); (· exact yA); (· rfl))
    | ((with_reducible apply TW.byteK); (· rfl); (· rfl); (· exact natA); (· assumption); (· rfl); intro _) | ((with_reducible apply TW.byte); (· rfl); (· rfl); (· exact natA); (· exact omA); (· rfl); intro _ _ _)
    | refine TW.guard_yes rfl rfl ?_ | refine TW.guard_no rfl rfl rfl rfl ?_ | refine TW.guard_undef rfl rfl rfl ?_ | refine TW.guard rfl rfl rfl ?_)
  refine TQ.endR2 (L' := L) Tryz.results53 rvA rvA rfl (.refl _) ?_ selA
  rw [← hR, hm]
  exact ⟨by simp, rfl, rfl⟩
end Go.Proofs.YtfmadoeadmclbaaGreatDoor
