/-
  The walk of num.cut: a text's pieces.
-/
import Derived.Test.YtfmadoeadmclbaaGreatDoorHr2
import Derived.Test.YtfmadoeadmclbaaGreatDoorHr3
import Derived.Test.YtfmadoeadmclbaaGreatDoorHr4
import Derived.Test.YtfmadoeadmclbaaGreatDoorHr17
import Derived.Test.YtfmadoeadmclbaaGreatDoorHr6
namespace Go.Proofs.YtfmadoeadmclbaaGreatDoor
open Go.RowKit Go.TL
set_option maxRecDepth 100000
def headIs (l : List UInt8) (c : UInt8) : Bool := decide (l.head? = some c)
theorem cutL_none {l : List UInt8} (h : figs (l.drop (signAt l)) = 0) : cutL l = none := by
  unfold cutL; simp only []; rw [if_pos h]
section
variable {l : List UInt8} {a n r b : Nat}
theorem cutL_plain (ha : a = signAt l) (hf : figs (l.drop a) ≠ 0) (hn : n = wholeLen (l.drop a)) (hr : r = restLen (l.drop (a + n))) (hb : b = a + n + (if r = 0 then 0 else 1 + r)) (hE : isE (l.drop b) = false) :
    cutL l = some ⟨decide (a = 1), (l.drop a).take n, ((l.drop (a + n)).drop 1).take r, [], false, b⟩ := by
  unfold cutL
  simp only []
  rw [← ha, if_neg hf, ← hn, List.drop_drop, ← hr, ← hb, hE]
  rfl
theorem cutL_exp (ha : a = signAt l) (hf : figs (l.drop a) ≠ 0) (hn : n = wholeLen (l.drop a)) (hr : r = restLen (l.drop (a + n))) (hb : b = a + n + (if r = 0 then 0 else 1 + r)) (hE : isE (l.drop b) = true) {g k : Nat} (hg : g = expSign (l.drop (b + 1))) (hk : k = figs (l.drop (b + (1 + g)))) :
    cutL l = if k = 0 then some ⟨decide (a = 1), (l.drop a).take n, ((l.drop (a + n)).drop 1).take r, [], false, b⟩
      else some ⟨decide (a = 1), (l.drop a).take n, ((l.drop (a + n)).drop 1).take r, (l.drop (b + (1 + g))).take k, decide (l[b + 1]? = some 45), b + 1 + g + k⟩ := by
  unfold cutL
  simp only []
  rw [← ha, if_neg hf, ← hn, List.drop_drop, ← hr, ← hb, if_pos hE]
  simp only [List.drop_drop, List.getElem?_drop]
  rw [← hg, ← hk]
end
theorem down_law {l : List UInt8} {b g : Nat} {c : UInt8} (hc : l[b + g]? = some c) (hg : g = expSign (l.drop (b + 1))) (hE : isE (l.drop b) = true) : ((c.toNat : Int) == 45) = decide (l[b + 1]? = some 45) := by
  have hbyte : ∀ d : UInt8, ((d.toNat : Int) == 45) = decide (some d = some 45) := fun d => by
    rw [Bool.eq_iff_iff, beq_iff_eq, decide_eq_true_iff]
    constructor
    · intro e
      have : d.toNat = (45 : UInt8).toNat := by have h : (45 : UInt8).toNat = 45 := rfl
                                                omega
      rw [UInt8.toNat_inj.1 this]
    · intro e; rw [Option.some.inj e]; rfl
  have hb1 : (l.drop (b + 1))[0]? = l[b + 1]? := by rw [List.getElem?_drop]
  rw [expSign, hb1] at hg
  split at hg
  · subst hg
    rw [hc]; exact hbyte c
  · rename_i h
    subst hg
    rw [Nat.add_zero] at hc
    rw [decide_eq_false (fun e => h (.inr e)), hbyte c]
    apply decide_eq_false
    intro e
    have hc2 : (l.drop b)[0]? = some c := by rw [List.getElem?_drop]; exact hc
    have hE2 := hE
    rw [isE, hc2, Option.some.inj e] at hE2
    revert hE2; decide

theorem take_turns (b1 b2 : Nat) (s : List UInt8) (i k : Nat) (g : Gh) (L : List Ent) (h : i + k ≤ s.length) (hs : s.length ≤ 4611686018427387904) :
    Turns Tryz.prog 112 #[.int .i64 k, .pointer (some ⟨b1, 0, none⟩), .pointer (some ⟨b2, 0, none⟩)] g (.obj b1 (.cells #[str s] 9 (0, 0)) :: .obj b2 (.cells #[.int .i64 i] 3 (0, 0)) :: L)
      (str ((s.drop i).take k)) (.obj b2 (.cells #[.int .i64 ((i : Int) + (k : Int))] 3 (0, 0)) :: .obj b1 (.cells #[str s] 9 (0, 0)) :: L) := by
  refine .of (Does.of3 Tryz.func112 rfl Tryz.ntmps112 rfl ?_)
  repeat' (first
    | refine wkP ?_
    | ((with_reducible apply TL.byteK); (· rfl); (· rfl); (· exact natA); (· assumption); (· rfl); intro _) | ((with_reducible apply TL.byte); (· rfl); (· rfl); (· exact natA); (· exact omA); (· rfl); intro _ _ _)
    | refine TC.seq ?_ | refine TC.region ?_ | refine TL.nil ?_ | refine TQ.then_normal ?_
    | ((with_reducible apply TL.storeE); (· rfl); (· rfl); (· rfl); (· exact pkA); (· infer_instance)) | ((with_reducible apply TL.store_whole); (· rfl); (· rfl); (· first | rfl | exact oneA); (· rfl); (· exact pkA); (· rfl))
    | refine TC.block ?_ | refine TC.ret ?_ | refine TC.skip ?_ | refine TC.exit ?_
    | (refine TC.cond_not rfl (fun _ => ?_) (fun _ => ?_) <;> (try (exfalso; omega))) | (refine TC.cond_dec rfl (fun _ => ?_) (fun _ => ?_) <;> (try (exfalso; omega))) | ((with_reducible apply TC.cond_true); (· rfl)) | ((with_reducible apply TC.cond_false); (· rfl)) | refine TC.cond_bool rfl (fun _ => ?_) (fun _ => ?_)
    | refine TQ.then_ret ?_ | refine TQ.then_exit ?_ | refine TQ.then_panic ?_ | refine TQ.in_normal ?_ | refine TQ.in_ret ?_ | refine TQ.in_exit ?_ | refine TQ.in_exit' rfl ?_ | refine TQ.in_panic ?_
    | refine TQ.round_ret ?_ | refine TQ.round_exit ?_ | refine TQ.round_panic ?_ | refine TQ.cut_ret ?_ | refine TQ.cut_exit ?_ | refine TQ.cut_panic ?_
    | (refine TL.guard_ndec rfl rfl rfl (fun _ => ?_) (fun _ => ?_) <;> (try (exfalso; omega))) | (refine TL.guard_dec rfl rfl rfl (fun _ => ?_) (fun _ => ?_) <;> (try (exfalso; omega)))
    | ((with_reducible apply TL.guard_yes); (· rfl); (· rfl)) | ((with_reducible apply TL.guard_no); (· rfl); (· rfl); (· rfl); (· rfl)) | ((with_reducible apply TL.guard_no0); (· rfl); (· rfl); (· rfl)) | ((with_reducible apply TL.guard_undef); (· rfl); (· rfl); (· rfl)) | ((with_reducible apply TL.guard_undef0); (· rfl); (· rfl))
    | refine TL.guard_split rfl rfl rfl (fun _ => ?_) (fun _ => ?_)
    | ((with_reducible apply TL.alloc_ag); (· rfl); intro _) | ((with_reducible apply TL.alloc_sc); (· rfl); (· rfl); intro _) | ((with_reducible apply TL.box_ag); (· rfl); (· rfl); intro _) | ((with_reducible apply TL.box_sc); (· rfl); (· rfl); (· rfl); intro _)
    | ((with_reducible apply TL.range_str); (· rfl); (· rfl); intro _) | ((with_reducible apply TL.next_str); (· rfl); (· exact pkA); (· rfl); all_goals (intro _; (try (exfalso; omega))))
    | apply TC.region_draw (by kernel_rfl) (by kernel_rfl) | refine TW.nil ?_
    | ((with_reducible apply TW.pure); (· exact yA); (· rfl)) | ((with_reducible apply TW.byteK); (· rfl); (· rfl); (· exact natA); (· assumption); (· rfl); intro _) | ((with_reducible apply TW.byte); (· rfl); (· rfl); (· exact natA); (· exact omA); (· rfl); intro _ _ _)
    | (refine TW.guard_ndec rfl rfl rfl (fun _ => ?_) (fun _ => ?_) <;> (try (exfalso; omega))) | (refine TW.guard_dec rfl rfl rfl (fun _ => ?_) (fun _ => ?_) <;> (try (exfalso; omega)))
    | ((with_reducible apply TW.guard_yes); (· rfl); (· rfl)) | ((with_reducible apply TW.guard_no); (· rfl); (· rfl); (· rfl); (· rfl)) | ((with_reducible apply TW.guard_undef); (· rfl); (· rfl); (· rfl))
    | refine TW.guard_split rfl rfl rfl (fun _ => ?_) (fun _ => ?_))
  refine TQ.endR1 (L' := _) Tryz.results112 rvA rfl (.refl _) ?_ selA
  exact ⟨rfl, rfl, rfl⟩
theorem prefix_gives (s : List UInt8) (c : UInt8) (g : Gh) (L : List Ent) : Gives Tryz.prog 68 #[str s, .string ⟨#[c]⟩] g L (.bool (headIs s c)) := .same fun w =>
  (Tryz.strings_HasPrefix ⟨s.toArray⟩ ⟨#[c]⟩ w).mono fun e w' ⟨h1, h2⟩ => ⟨by
    rw [h1]
    congr 2
    cases s with
    | nil => rfl
    | cons d r =>
      show ((c == d) && true) = decide (some d = some c)
      rw [Bool.and_true, Bool.eq_iff_iff, beq_iff_eq, decide_eq_true_iff]
      exact ⟨fun e => by rw [e], fun e => (Option.some.inj e).symm⟩, h2⟩
theorem figures_gives (s : List UInt8) (g : Gh) (L : List Ent) (hs : s.length ≤ 4611686018427387904) : Gives Tryz.prog 113 #[str s] g L (.int .i64 (figs s : Nat)) := .ext fun w => figures_any s w (by omega)
def cutV (s : List UInt8) : Value := match cutL s with
  | some p => .tuple #[.agg #[.bool p.minus, str p.whole, str p.rest, str p.power, .bool p.down, .int .i64 p.size], .bool true]
  | none => .tuple #[.agg #[.bool (decide (signAt s = 1)), str [], str [], str [], .bool false, .int .i64 0], .bool false]
theorem restLen_le (s : List UInt8) : restLen s ≤ s.length - 1 := by
  unfold restLen
  split
  · have := figs_le (s.drop 1); rw [List.length_drop] at this; exact this
  · omega
theorem head_iff (s : List UInt8) (c : UInt8) : s.head? = some c ↔ s[0]? = some c := by rw [List.head?_eq_getElem?]
abbrev cutS (b1 b2 b4 b5 : Nat) : Slots := [(6, .func (.func 112) #[] #[.pointer (some ⟨b1, 0, none⟩), .pointer (some ⟨b5, 0, none⟩)]), (1, .pointer (some ⟨b1, 0, none⟩)), (2, .pointer (some ⟨b2, 0, none⟩)), (4, .pointer (some ⟨b4, 0, none⟩)), (5, .pointer (some ⟨b5, 0, none⟩))]
abbrev cutE (b4 b5 : Nat) (i : Nat) (m : Bool) (w r p : List UInt8) (d : Bool) (z : Nat) (L : List Ent) : List Ent := .obj b5 (.cells #[.int .i64 (i : Nat)] 3 (0, 0)) :: .obj b4 (.cells #[.bool m, str w, str r, str p, .bool d, .int .i64 (z : Nat)] 146 (0, 0)) :: L
set_option maxHeartbeats 8000000 in
theorem cut_gives (s : List UInt8) (g : Gh) (L : List Ent) (hs : s.length ≤ 4611686018427387904) : Gives Tryz.prog 97 #[str s] g L (cutV s) := by
  refine .of (Does.of1 Tryz.func97 rfl Tryz.ntmps97 rfl ?_)
  have h45 : s.head? = some 45 → 1 ≤ s.length := by cases s <;> simp
  repeat' (first
    | refine wkP ?_
    | ((with_reducible apply TL.byteK); (· rfl); (· rfl); (· exact natA); (· assumption); (· rfl); intro _) | ((with_reducible apply TL.byte); (· rfl); (· rfl); (· exact natA); (· exact omA); (· rfl); intro _ _ _)
    | refine TC.seq_region ?_ | refine TC.region ?_ | refine TL.nil ?_ | refine TQ.then_normal ?_
    | ((with_reducible apply TL.storeE); (· rfl); (· rfl); (· rfl); (· exact pkA); (· infer_instance)) | ((with_reducible apply TL.store_whole); (· rfl); (· rfl); (· first | rfl | exact oneA); (· rfl); (· exact pkA); (· rfl))
    | refine TC.block ?_ | refine TC.ret ?_ | refine TC.skip ?_ | refine TC.exit ?_
    | (refine TC.cond_not rfl (fun _ => ?_) (fun _ => ?_) <;> (try (exfalso; omega))) | (refine TC.cond_dec rfl (fun _ => ?_) (fun _ => ?_) <;> (try (exfalso; omega))) | ((with_reducible apply TC.cond_true); (· rfl)) | ((with_reducible apply TC.cond_false); (· rfl)) | refine TC.cond_bool rfl (fun _ => ?_) (fun _ => ?_)
    | refine TQ.then_ret ?_ | refine TQ.then_exit ?_ | refine TQ.then_panic ?_ | refine TQ.in_normal ?_ | refine TQ.in_ret ?_ | refine TQ.in_exit ?_ | refine TQ.in_exit' rfl ?_ | refine TQ.in_panic ?_
    | refine TQ.round_ret ?_ | refine TQ.round_exit ?_ | refine TQ.round_panic ?_ | refine TQ.cut_ret ?_ | refine TQ.cut_exit ?_ | refine TQ.cut_panic ?_
    | (refine TL.guard_ndec rfl rfl rfl (fun _ => ?_) (fun _ => ?_) <;> (try (exfalso; omega))) | (refine TL.guard_dec rfl rfl rfl (fun _ => ?_) (fun _ => ?_) <;> (try (exfalso; omega)))
    | ((with_reducible apply TL.guard_yes); (· rfl); (· rfl)) | ((with_reducible apply TL.guard_no); (· rfl); (· rfl); (· rfl); (· rfl)) | ((with_reducible apply TL.guard_no0); (· rfl); (· rfl); (· rfl)) | ((with_reducible apply TL.guard_undef); (· rfl); (· rfl); (· rfl)) | ((with_reducible apply TL.guard_undef0); (· rfl); (· rfl))
    | refine TL.guard_split rfl rfl rfl (fun _ => ?_) (fun _ => ?_)
    | ((with_reducible apply TL.alloc_ag); (· rfl); intro _) | ((with_reducible apply TL.alloc_sc); (· rfl); (· rfl); intro _) | ((with_reducible apply TL.box_ag); (· rfl); (· rfl); intro _) | ((with_reducible apply TL.box_sc); (· rfl); (· rfl); (· rfl); intro _)
    | ((with_reducible apply TL.range_str); (· rfl); (· rfl); intro _) | ((with_reducible apply TL.next_str); (· rfl); (· exact pkA); (· rfl); all_goals (intro _; (try (exfalso; omega))))
    | apply TC.region_draw (by kernel_rfl) (by kernel_rfl) | refine TW.nil ?_
    | ((with_reducible apply TW.pure); (· exact yA); (· rfl)) | ((with_reducible apply TW.byteK); (· rfl); (· rfl); (· exact natA); (· assumption); (· rfl); intro _) | ((with_reducible apply TW.byte); (· rfl); (· rfl); (· exact natA); (· exact omA); (· rfl); intro _ _ _)
    | (refine TW.guard_ndec rfl rfl rfl (fun _ => ?_) (fun _ => ?_) <;> (try (exfalso; omega))) | (refine TW.guard_dec rfl rfl rfl (fun _ => ?_) (fun _ => ?_) <;> (try (exfalso; omega)))
    | ((with_reducible apply TW.guard_yes); (· rfl); (· rfl)) | ((with_reducible apply TW.guard_no); (· rfl); (· rfl); (· rfl); (· rfl)) | ((with_reducible apply TW.guard_undef); (· rfl); (· rfl); (· rfl))
    | refine TW.guard_split rfl rfl rfl (fun _ => ?_) (fun _ => ?_))
  rename_i b1 b2 b4 b5
  refine TC.cutK (fun a => a = signAt s ∧ a ≤ s.length) (fun _ _ => cutS b1 b2 b4 b5) [b5, b4] (by repeat (first | apply Drop.nil | apply Drop.cons (by (repeat (first | apply Pick.here | apply Pick.there))))) (fun a L => cutE b4 b5 a (decide (a = 1)) [] [] [] false 0 L) ?_ (fun a ha => ?_)
  · repeat' (first
    | (have h1 := h45 (by assumption); clear h45)
    | ((with_reducible apply TL.gives_plain); (· kernel_rfl); (· rfl); (· exact prefix_gives _ _ _ _); (· rfl)) | ((with_reducible apply TW.gives_plain); (· kernel_rfl); (· rfl); (· exact prefix_gives _ _ _ _); (· rfl))
    | apply TL.turns (Enters.func (by rfl) (by kernel_rfl) (by rfl)) (take_turns _ _ s 0 1 _ _ (by omega) hs) permA (by rfl) | apply TL.turns (Enters.plain (by kernel_rfl) (by rfl)) (take_turns _ _ s 0 1 _ _ (by omega) hs) permA (by rfl)
    | refine wkP ?_
    | ((with_reducible apply TL.byteK); (· rfl); (· rfl); (· exact natA); (· assumption); (· rfl); intro _) | ((with_reducible apply TL.byte); (· rfl); (· rfl); (· exact natA); (· exact omA); (· rfl); intro _ _ _)
    | refine TC.seq_region ?_ | refine TC.region ?_ | refine TL.nil ?_ | refine TQ.then_normal ?_
    | ((with_reducible apply TL.storeE); (· rfl); (· rfl); (· rfl); (· exact pkA); (· infer_instance)) | ((with_reducible apply TL.store_whole); (· rfl); (· rfl); (· first | rfl | exact oneA); (· rfl); (· exact pkA); (· rfl))
    | refine TC.block ?_ | refine TC.ret ?_ | refine TC.skip ?_ | refine TC.exit ?_
    | (refine TC.cond_not rfl (fun _ => ?_) (fun _ => ?_) <;> (try (exfalso; omega))) | (refine TC.cond_dec rfl (fun _ => ?_) (fun _ => ?_) <;> (try (exfalso; omega))) | ((with_reducible apply TC.cond_true); (· rfl)) | ((with_reducible apply TC.cond_false); (· rfl)) | refine TC.cond_bool rfl (fun _ => ?_) (fun _ => ?_)
    | refine TQ.then_ret ?_ | refine TQ.then_exit ?_ | refine TQ.then_panic ?_ | refine TQ.in_normal ?_ | refine TQ.in_ret ?_ | refine TQ.in_exit ?_ | refine TQ.in_exit' rfl ?_ | refine TQ.in_panic ?_
    | refine TQ.round_ret ?_ | refine TQ.round_exit ?_ | refine TQ.round_panic ?_ | refine TQ.cut_ret ?_ | refine TQ.cut_exit ?_ | refine TQ.cut_panic ?_
    | (refine TL.guard_ndec rfl rfl rfl (fun _ => ?_) (fun _ => ?_) <;> (try (exfalso; omega))) | (refine TL.guard_dec rfl rfl rfl (fun _ => ?_) (fun _ => ?_) <;> (try (exfalso; omega)))
    | ((with_reducible apply TL.guard_yes); (· rfl); (· rfl)) | ((with_reducible apply TL.guard_no); (· rfl); (· rfl); (· rfl); (· rfl)) | ((with_reducible apply TL.guard_no0); (· rfl); (· rfl); (· rfl)) | ((with_reducible apply TL.guard_undef); (· rfl); (· rfl); (· rfl)) | ((with_reducible apply TL.guard_undef0); (· rfl); (· rfl))
    | refine TL.guard_split rfl rfl rfl (fun _ => ?_) (fun _ => ?_)
    | ((with_reducible apply TL.alloc_ag); (· rfl); intro _) | ((with_reducible apply TL.alloc_sc); (· rfl); (· rfl); intro _) | ((with_reducible apply TL.box_ag); (· rfl); (· rfl); intro _) | ((with_reducible apply TL.box_sc); (· rfl); (· rfl); (· rfl); intro _)
    | ((with_reducible apply TL.range_str); (· rfl); (· rfl); intro _) | ((with_reducible apply TL.next_str); (· rfl); (· exact pkA); (· rfl); all_goals (intro _; (try (exfalso; omega))))
    | apply TC.region_draw (by kernel_rfl) (by kernel_rfl) | refine TW.nil ?_
    | ((with_reducible apply TW.pure); (· exact yA); (· rfl)) | ((with_reducible apply TW.byteK); (· rfl); (· rfl); (· exact natA); (· assumption); (· rfl); intro _) | ((with_reducible apply TW.byte); (· rfl); (· rfl); (· exact natA); (· exact omA); (· rfl); intro _ _ _)
    | (refine TW.guard_ndec rfl rfl rfl (fun _ => ?_) (fun _ => ?_) <;> (try (exfalso; omega))) | (refine TW.guard_dec rfl rfl rfl (fun _ => ?_) (fun _ => ?_) <;> (try (exfalso; omega)))
    | ((with_reducible apply TW.guard_yes); (· rfl); (· rfl)) | ((with_reducible apply TW.guard_no); (· rfl); (· rfl); (· rfl); (· rfl)) | ((with_reducible apply TW.guard_undef); (· rfl); (· rfl); (· rfl))
    | refine TW.guard_split rfl rfl rfl (fun _ => ?_) (fun _ => ?_))
    · refine TQ.cut 1 ?_ rfl subA selA
      exact ⟨by unfold signAt; rw [if_pos ((head_iff _ _).1 (by assumption))], h1⟩
    · refine TQ.cut 0 ?_ rfl subA selA
      exact ⟨by unfold signAt; rw [if_neg (fun h => (by assumption : ¬ s.head? = some 45) ((head_iff _ _).2 h))], by omega⟩
  clear h45
  obtain ⟨ha, hal⟩ := ha
  repeat' (first
    | ((with_reducible apply TL.gives_plain); (· kernel_rfl); (· rfl); (· exact figures_gives _ _ _ (by simp only [List.length_drop]; omega)); (· rfl)) | ((with_reducible apply TW.gives_plain); (· kernel_rfl); (· rfl); (· exact figures_gives _ _ _ (by simp only [List.length_drop]; omega)); (· rfl))
    | refine wkP ?_
    | ((with_reducible apply TL.byteK); (· rfl); (· rfl); (· exact natA); (· assumption); (· rfl); intro _) | ((with_reducible apply TL.byte); (· rfl); (· rfl); (· exact natA); (· exact omA); (· rfl); intro _ _ _)
    | refine TC.seq_region ?_ | refine TC.region ?_ | refine TL.nil ?_ | refine TQ.then_normal ?_
    | ((with_reducible apply TL.storeE); (· rfl); (· rfl); (· rfl); (· exact pkA); (· infer_instance)) | ((with_reducible apply TL.store_whole); (· rfl); (· rfl); (· first | rfl | exact oneA); (· rfl); (· exact pkA); (· rfl))
    | refine TC.block ?_ | refine TC.ret ?_ | refine TC.skip ?_ | refine TC.exit ?_
    | (refine TC.cond_not rfl (fun _ => ?_) (fun _ => ?_) <;> (try (exfalso; omega))) | (refine TC.cond_dec rfl (fun _ => ?_) (fun _ => ?_) <;> (try (exfalso; omega))) | ((with_reducible apply TC.cond_true); (· rfl)) | ((with_reducible apply TC.cond_false); (· rfl)) | refine TC.cond_bool rfl (fun _ => ?_) (fun _ => ?_)
    | refine TQ.then_ret ?_ | refine TQ.then_exit ?_ | refine TQ.then_panic ?_ | refine TQ.in_normal ?_ | refine TQ.in_ret ?_ | refine TQ.in_exit ?_ | refine TQ.in_exit' rfl ?_ | refine TQ.in_panic ?_
    | refine TQ.round_ret ?_ | refine TQ.round_exit ?_ | refine TQ.round_panic ?_ | refine TQ.cut_ret ?_ | refine TQ.cut_exit ?_ | refine TQ.cut_panic ?_
    | (refine TL.guard_ndec rfl rfl rfl (fun _ => ?_) (fun _ => ?_) <;> (try (exfalso; omega))) | (refine TL.guard_dec rfl rfl rfl (fun _ => ?_) (fun _ => ?_) <;> (try (exfalso; omega)))
    | ((with_reducible apply TL.guard_yes); (· rfl); (· rfl)) | ((with_reducible apply TL.guard_no); (· rfl); (· rfl); (· rfl); (· rfl)) | ((with_reducible apply TL.guard_no0); (· rfl); (· rfl); (· rfl)) | ((with_reducible apply TL.guard_undef); (· rfl); (· rfl); (· rfl)) | ((with_reducible apply TL.guard_undef0); (· rfl); (· rfl))
    | refine TL.guard_split rfl rfl rfl (fun _ => ?_) (fun _ => ?_)
    | ((with_reducible apply TL.alloc_ag); (· rfl); intro _) | ((with_reducible apply TL.alloc_sc); (· rfl); (· rfl); intro _) | ((with_reducible apply TL.box_ag); (· rfl); (· rfl); intro _) | ((with_reducible apply TL.box_sc); (· rfl); (· rfl); (· rfl); intro _)
    | ((with_reducible apply TL.range_str); (· rfl); (· rfl); intro _) | ((with_reducible apply TL.next_str); (· rfl); (· exact pkA); (· rfl); all_goals (intro _; (try (exfalso; omega))))
    | apply TC.region_draw (by kernel_rfl) (by kernel_rfl) | refine TW.nil ?_
    | ((with_reducible apply TW.pure); (· exact yA); (· rfl)) | ((with_reducible apply TW.byteK); (· rfl); (· rfl); (· exact natA); (· assumption); (· rfl); intro _) | ((with_reducible apply TW.byte); (· rfl); (· rfl); (· exact natA); (· exact omA); (· rfl); intro _ _ _)
    | (refine TW.guard_ndec rfl rfl rfl (fun _ => ?_) (fun _ => ?_) <;> (try (exfalso; omega))) | (refine TW.guard_dec rfl rfl rfl (fun _ => ?_) (fun _ => ?_) <;> (try (exfalso; omega)))
    | ((with_reducible apply TW.guard_yes); (· rfl); (· rfl)) | ((with_reducible apply TW.guard_no); (· rfl); (· rfl); (· rfl); (· rfl)) | ((with_reducible apply TW.guard_undef); (· rfl); (· rfl); (· rfl))
    | refine TW.guard_split rfl rfl rfl (fun _ => ?_) (fun _ => ?_))
  refine TC.seq ?_
  repeat' (first
    | refine wkP ?_
    | ((with_reducible apply TL.byteK); (· rfl); (· rfl); (· exact natA); (· assumption); (· rfl); intro _) | ((with_reducible apply TL.byte); (· rfl); (· rfl); (· exact natA); (· exact omA); (· rfl); intro _ _ _)
    | refine TC.seq_region ?_ | refine TC.region ?_ | refine TL.nil ?_ | refine TQ.then_normal ?_
    | ((with_reducible apply TL.storeE); (· rfl); (· rfl); (· rfl); (· exact pkA); (· infer_instance)) | ((with_reducible apply TL.store_whole); (· rfl); (· rfl); (· first | rfl | exact oneA); (· rfl); (· exact pkA); (· rfl))
    | refine TC.block ?_ | refine TC.ret ?_ | refine TC.skip ?_ | refine TC.exit ?_
    | (refine TC.cond_not rfl (fun _ => ?_) (fun _ => ?_) <;> (try (exfalso; omega))) | (refine TC.cond_dec rfl (fun _ => ?_) (fun _ => ?_) <;> (try (exfalso; omega))) | ((with_reducible apply TC.cond_true); (· rfl)) | ((with_reducible apply TC.cond_false); (· rfl)) | refine TC.cond_bool rfl (fun _ => ?_) (fun _ => ?_)
    | refine TQ.then_ret ?_ | refine TQ.then_exit ?_ | refine TQ.then_panic ?_ | refine TQ.in_normal ?_ | refine TQ.in_ret ?_ | refine TQ.in_exit ?_ | refine TQ.in_exit' rfl ?_ | refine TQ.in_panic ?_
    | refine TQ.round_ret ?_ | refine TQ.round_exit ?_ | refine TQ.round_panic ?_ | refine TQ.cut_ret ?_ | refine TQ.cut_exit ?_ | refine TQ.cut_panic ?_
    | (refine TL.guard_ndec rfl rfl rfl (fun _ => ?_) (fun _ => ?_) <;> (try (exfalso; omega))) | (refine TL.guard_dec rfl rfl rfl (fun _ => ?_) (fun _ => ?_) <;> (try (exfalso; omega)))
    | ((with_reducible apply TL.guard_yes); (· rfl); (· rfl)) | ((with_reducible apply TL.guard_no); (· rfl); (· rfl); (· rfl); (· rfl)) | ((with_reducible apply TL.guard_no0); (· rfl); (· rfl); (· rfl)) | ((with_reducible apply TL.guard_undef); (· rfl); (· rfl); (· rfl)) | ((with_reducible apply TL.guard_undef0); (· rfl); (· rfl))
    | refine TL.guard_split rfl rfl rfl (fun _ => ?_) (fun _ => ?_)
    | ((with_reducible apply TL.alloc_ag); (· rfl); intro _) | ((with_reducible apply TL.alloc_sc); (· rfl); (· rfl); intro _) | ((with_reducible apply TL.box_ag); (· rfl); (· rfl); intro _) | ((with_reducible apply TL.box_sc); (· rfl); (· rfl); (· rfl); intro _)
    | ((with_reducible apply TL.range_str); (· rfl); (· rfl); intro _) | ((with_reducible apply TL.next_str); (· rfl); (· exact pkA); (· rfl); all_goals (intro _; (try (exfalso; omega))))
    | apply TC.region_draw (by kernel_rfl) (by kernel_rfl) | refine TW.nil ?_
    | ((with_reducible apply TW.pure); (· exact yA); (· rfl)) | ((with_reducible apply TW.byteK); (· rfl); (· rfl); (· exact natA); (· assumption); (· rfl); intro _) | ((with_reducible apply TW.byte); (· rfl); (· rfl); (· exact natA); (· exact omA); (· rfl); intro _ _ _)
    | (refine TW.guard_ndec rfl rfl rfl (fun _ => ?_) (fun _ => ?_) <;> (try (exfalso; omega))) | (refine TW.guard_dec rfl rfl rfl (fun _ => ?_) (fun _ => ?_) <;> (try (exfalso; omega)))
    | ((with_reducible apply TW.guard_yes); (· rfl); (· rfl)) | ((with_reducible apply TW.guard_no); (· rfl); (· rfl); (· rfl); (· rfl)) | ((with_reducible apply TW.guard_undef); (· rfl); (· rfl); (· rfl))
    | refine TW.guard_split rfl rfl rfl (fun _ => ?_) (fun _ => ?_))
  · refine TQ.endR2 (L' := L) Tryz.results97 rvA rvA rfl (.refl _) ?_ selA
    refine ⟨?_, rfl, rfl⟩
    unfold cutV
    rw [cutL_none (by rw [← ha]; omega), ha]
    rfl
  have hf : figs (s.drop a) ≤ s.length - a := by have := figs_le (s.drop a); rw [List.length_drop] at this; exact this
  refine TC.cutK (fun n => n = wholeLen (s.drop a) ∧ 1 ≤ n ∧ n ≤ figs (s.drop a)) (fun n _ => (7, .int .i64 (n : Nat)) :: cutS b1 b2 b4 b5) [] (by repeat (first | apply Drop.nil | apply Drop.cons (by (repeat (first | apply Pick.here | apply Pick.there))))) (fun _ L => L) ?_ (fun n hn => ?_)
  · repeat' (first
    | refine wkP ?_
    | ((with_reducible apply TL.byteK); (· rfl); (· rfl); (· exact natA); (· assumption); (· rfl); intro _) | ((with_reducible apply TL.byte); (· rfl); (· rfl); (· exact natA); (· exact omA); (· rfl); intro _ _ _)
    | refine TC.seq_region ?_ | refine TC.region ?_ | refine TL.nil ?_ | refine TQ.then_normal ?_
    | ((with_reducible apply TL.storeE); (· rfl); (· rfl); (· rfl); (· exact pkA); (· infer_instance)) | ((with_reducible apply TL.store_whole); (· rfl); (· rfl); (· first | rfl | exact oneA); (· rfl); (· exact pkA); (· rfl))
    | refine TC.block ?_ | refine TC.ret ?_ | refine TC.skip ?_ | refine TC.exit ?_
    | (refine TC.cond_not rfl (fun _ => ?_) (fun _ => ?_) <;> (try (exfalso; omega))) | (refine TC.cond_dec rfl (fun _ => ?_) (fun _ => ?_) <;> (try (exfalso; omega))) | ((with_reducible apply TC.cond_true); (· rfl)) | ((with_reducible apply TC.cond_false); (· rfl)) | refine TC.cond_bool rfl (fun _ => ?_) (fun _ => ?_)
    | refine TQ.then_ret ?_ | refine TQ.then_exit ?_ | refine TQ.then_panic ?_ | refine TQ.in_normal ?_ | refine TQ.in_ret ?_ | refine TQ.in_exit ?_ | refine TQ.in_exit' rfl ?_ | refine TQ.in_panic ?_
    | refine TQ.round_ret ?_ | refine TQ.round_exit ?_ | refine TQ.round_panic ?_ | refine TQ.cut_ret ?_ | refine TQ.cut_exit ?_ | refine TQ.cut_panic ?_
    | (refine TL.guard_ndec rfl rfl rfl (fun _ => ?_) (fun _ => ?_) <;> (try (exfalso; omega))) | (refine TL.guard_dec rfl rfl rfl (fun _ => ?_) (fun _ => ?_) <;> (try (exfalso; omega)))
    | ((with_reducible apply TL.guard_yes); (· rfl); (· rfl)) | ((with_reducible apply TL.guard_no); (· rfl); (· rfl); (· rfl); (· rfl)) | ((with_reducible apply TL.guard_no0); (· rfl); (· rfl); (· rfl)) | ((with_reducible apply TL.guard_undef); (· rfl); (· rfl); (· rfl)) | ((with_reducible apply TL.guard_undef0); (· rfl); (· rfl))
    | refine TL.guard_split rfl rfl rfl (fun _ => ?_) (fun _ => ?_)
    | ((with_reducible apply TL.alloc_ag); (· rfl); intro _) | ((with_reducible apply TL.alloc_sc); (· rfl); (· rfl); intro _) | ((with_reducible apply TL.box_ag); (· rfl); (· rfl); intro _) | ((with_reducible apply TL.box_sc); (· rfl); (· rfl); (· rfl); intro _)
    | ((with_reducible apply TL.range_str); (· rfl); (· rfl); intro _) | ((with_reducible apply TL.next_str); (· rfl); (· exact pkA); (· rfl); all_goals (intro _; (try (exfalso; omega))))
    | apply TC.region_draw (by kernel_rfl) (by kernel_rfl) | refine TW.nil ?_
    | ((with_reducible apply TW.pure); (· exact yA); (· rfl)) | ((with_reducible apply TW.byteK); (· rfl); (· rfl); (· exact natA); (· assumption); (· rfl); intro _) | ((with_reducible apply TW.byte); (· rfl); (· rfl); (· exact natA); (· exact omA); (· rfl); intro _ _ _)
    | (refine TW.guard_ndec rfl rfl rfl (fun _ => ?_) (fun _ => ?_) <;> (try (exfalso; omega))) | (refine TW.guard_dec rfl rfl rfl (fun _ => ?_) (fun _ => ?_) <;> (try (exfalso; omega)))
    | ((with_reducible apply TW.guard_yes); (· rfl); (· rfl)) | ((with_reducible apply TW.guard_no); (· rfl); (· rfl); (· rfl); (· rfl)) | ((with_reducible apply TW.guard_undef); (· rfl); (· rfl); (· rfl))
    | refine TW.guard_split rfl rfl rfl (fun _ => ?_) (fun _ => ?_))
    · refine TQ.cut 1 ?_ rfl subA selA
      rename_i c hc _ h48
      have : c = 48 := UInt8.toNat_inj.1 (by show c.toNat = 48; omega)
      have hw : wholeLen (s.drop a) = 1 := by unfold wholeLen; rw [List.getElem?_drop, Nat.add_zero, hc, this, if_pos rfl]
      exact ⟨hw.symm, by omega, by omega⟩
    · refine TQ.cut (figs (s.drop a)) ?_ rfl subA selA
      rename_i c hc _ h48
      have hw : wholeLen (s.drop a) = figs (s.drop a) := by
        unfold wholeLen; rw [List.getElem?_drop, Nat.add_zero, hc, if_neg]
        intro e; exact h48 (by rw [Option.some.inj e]; rfl)
      exact ⟨hw.symm, by omega, by omega⟩
  obtain ⟨hn, hn1, hnf⟩ := hn
  have hr := restLen_le (s.drop (a + n))
  rw [List.length_drop] at hr
  have hdot : (s.drop (a + n)).head? = some 46 → 1 ≤ s.length - (a + n) ∧ restLen (s.drop (a + n)) = figs (s.drop (a + n + 1)) := fun h => by
    rw [head_iff] at h
    refine ⟨?_, by unfold restLen; rw [if_pos h, List.drop_drop]⟩
    have := (List.getElem?_eq_some_iff.1 h).1
    rw [List.length_drop] at this; omega
  have hnd : ¬ (s.drop (a + n)).head? = some 46 → restLen (s.drop (a + n)) = 0 := fun h => by
    rw [head_iff] at h
    unfold restLen; rw [if_neg h]
  repeat' (first
    | apply TL.turns (Enters.func (by rfl) (by kernel_rfl) (by rfl)) (take_turns _ _ s a n _ _ (by omega) hs) permA (by rfl) | apply TL.turns (Enters.plain (by kernel_rfl) (by rfl)) (take_turns _ _ s a n _ _ (by omega) hs) permA (by rfl)
    | refine wkP ?_
    | ((with_reducible apply TL.byteK); (· rfl); (· rfl); (· exact natA); (· assumption); (· rfl); intro _) | ((with_reducible apply TL.byte); (· rfl); (· rfl); (· exact natA); (· exact omA); (· rfl); intro _ _ _)
    | refine TC.seq_region ?_ | refine TC.region ?_ | refine TL.nil ?_ | refine TQ.then_normal ?_
    | ((with_reducible apply TL.storeE); (· rfl); (· rfl); (· rfl); (· exact pkA); (· infer_instance)) | ((with_reducible apply TL.store_whole); (· rfl); (· rfl); (· first | rfl | exact oneA); (· rfl); (· exact pkA); (· rfl))
    | refine TC.block ?_ | refine TC.ret ?_ | refine TC.skip ?_ | refine TC.exit ?_
    | (refine TC.cond_not rfl (fun _ => ?_) (fun _ => ?_) <;> (try (exfalso; omega))) | (refine TC.cond_dec rfl (fun _ => ?_) (fun _ => ?_) <;> (try (exfalso; omega))) | ((with_reducible apply TC.cond_true); (· rfl)) | ((with_reducible apply TC.cond_false); (· rfl)) | refine TC.cond_bool rfl (fun _ => ?_) (fun _ => ?_)
    | refine TQ.then_ret ?_ | refine TQ.then_exit ?_ | refine TQ.then_panic ?_ | refine TQ.in_normal ?_ | refine TQ.in_ret ?_ | refine TQ.in_exit ?_ | refine TQ.in_exit' rfl ?_ | refine TQ.in_panic ?_
    | refine TQ.round_ret ?_ | refine TQ.round_exit ?_ | refine TQ.round_panic ?_ | refine TQ.cut_ret ?_ | refine TQ.cut_exit ?_ | refine TQ.cut_panic ?_
    | (refine TL.guard_ndec rfl rfl rfl (fun _ => ?_) (fun _ => ?_) <;> (try (exfalso; omega))) | (refine TL.guard_dec rfl rfl rfl (fun _ => ?_) (fun _ => ?_) <;> (try (exfalso; omega)))
    | ((with_reducible apply TL.guard_yes); (· rfl); (· rfl)) | ((with_reducible apply TL.guard_no); (· rfl); (· rfl); (· rfl); (· rfl)) | ((with_reducible apply TL.guard_no0); (· rfl); (· rfl); (· rfl)) | ((with_reducible apply TL.guard_undef); (· rfl); (· rfl); (· rfl)) | ((with_reducible apply TL.guard_undef0); (· rfl); (· rfl))
    | refine TL.guard_split rfl rfl rfl (fun _ => ?_) (fun _ => ?_)
    | ((with_reducible apply TL.alloc_ag); (· rfl); intro _) | ((with_reducible apply TL.alloc_sc); (· rfl); (· rfl); intro _) | ((with_reducible apply TL.box_ag); (· rfl); (· rfl); intro _) | ((with_reducible apply TL.box_sc); (· rfl); (· rfl); (· rfl); intro _)
    | ((with_reducible apply TL.range_str); (· rfl); (· rfl); intro _) | ((with_reducible apply TL.next_str); (· rfl); (· exact pkA); (· rfl); all_goals (intro _; (try (exfalso; omega))))
    | apply TC.region_draw (by kernel_rfl) (by kernel_rfl) | refine TW.nil ?_
    | ((with_reducible apply TW.pure); (· exact yA); (· rfl)) | ((with_reducible apply TW.byteK); (· rfl); (· rfl); (· exact natA); (· assumption); (· rfl); intro _) | ((with_reducible apply TW.byte); (· rfl); (· rfl); (· exact natA); (· exact omA); (· rfl); intro _ _ _)
    | (refine TW.guard_ndec rfl rfl rfl (fun _ => ?_) (fun _ => ?_) <;> (try (exfalso; omega))) | (refine TW.guard_dec rfl rfl rfl (fun _ => ?_) (fun _ => ?_) <;> (try (exfalso; omega)))
    | ((with_reducible apply TW.guard_yes); (· rfl); (· rfl)) | ((with_reducible apply TW.guard_no); (· rfl); (· rfl); (· rfl); (· rfl)) | ((with_reducible apply TW.guard_undef); (· rfl); (· rfl); (· rfl))
    | refine TW.guard_split rfl rfl rfl (fun _ => ?_) (fun _ => ?_))
  refine TC.cutK (fun b => b = a + n + (if restLen (s.drop (a + n)) = 0 then 0 else 1 + restLen (s.drop (a + n))) ∧ b ≤ s.length) (fun _ _ => cutS b1 b2 b4 b5) [b5, b4] (by repeat (first | apply Drop.nil | apply Drop.cons (by (repeat (first | apply Pick.here | apply Pick.there))))) (fun b L => cutE b4 b5 b (decide (a = 1)) ((s.drop a).take n) ((s.drop (a + n + 1)).take (restLen (s.drop (a + n)))) [] false 0 L) ?_ (fun b hb => ?_)
  · repeat' (first
    | (have hd := hdot (by assumption); clear hdot)
    | ((with_reducible apply TL.gives_plain); (· kernel_rfl); (· rfl); (· exact prefix_gives _ _ _ _); (· rfl)) | ((with_reducible apply TW.gives_plain); (· kernel_rfl); (· rfl); (· exact prefix_gives _ _ _ _); (· rfl))
    | ((with_reducible apply TL.gives_plain); (· kernel_rfl); (· rfl); (· exact figures_gives _ _ _ (by simp only [List.length_drop]; omega)); (· rfl)) | ((with_reducible apply TW.gives_plain); (· kernel_rfl); (· rfl); (· exact figures_gives _ _ _ (by simp only [List.length_drop]; omega)); (· rfl))
    | apply TL.turns (Enters.func (by rfl) (by kernel_rfl) (by rfl)) (take_turns _ _ s (a + n) 1 _ _ (by omega) hs) permA (by rfl) | apply TL.turns (Enters.plain (by kernel_rfl) (by rfl)) (take_turns _ _ s (a + n) 1 _ _ (by omega) hs) permA (by rfl)
    | apply TL.turns (Enters.func (by rfl) (by kernel_rfl) (by rfl)) (take_turns _ _ s (a + n + 1) (figs (s.drop (a + n + 1))) _ _ (by omega) hs) permA (by rfl) | apply TL.turns (Enters.plain (by kernel_rfl) (by rfl)) (take_turns _ _ s (a + n + 1) (figs (s.drop (a + n + 1))) _ _ (by omega) hs) permA (by rfl)
    | refine wkP ?_
    | ((with_reducible apply TL.byteK); (· rfl); (· rfl); (· exact natA); (· assumption); (· rfl); intro _) | ((with_reducible apply TL.byte); (· rfl); (· rfl); (· exact natA); (· exact omA); (· rfl); intro _ _ _)
    | refine TC.seq ?_ | refine TC.region ?_ | refine TL.nil ?_ | refine TQ.then_normal ?_
    | ((with_reducible apply TL.storeE); (· rfl); (· rfl); (· rfl); (· exact pkA); (· infer_instance)) | ((with_reducible apply TL.store_whole); (· rfl); (· rfl); (· first | rfl | exact oneA); (· rfl); (· exact pkA); (· rfl))
    | refine TC.block ?_ | refine TC.ret ?_ | refine TC.skip ?_ | refine TC.exit ?_
    | (refine TC.cond_not rfl (fun _ => ?_) (fun _ => ?_) <;> (try (exfalso; omega))) | (refine TC.cond_dec rfl (fun _ => ?_) (fun _ => ?_) <;> (try (exfalso; omega))) | ((with_reducible apply TC.cond_true); (· rfl)) | ((with_reducible apply TC.cond_false); (· rfl)) | refine TC.cond_bool rfl (fun _ => ?_) (fun _ => ?_)
    | refine TQ.then_ret ?_ | refine TQ.then_exit ?_ | refine TQ.then_panic ?_ | refine TQ.in_normal ?_ | refine TQ.in_ret ?_ | refine TQ.in_exit ?_ | refine TQ.in_exit' rfl ?_ | refine TQ.in_panic ?_
    | refine TQ.round_ret ?_ | refine TQ.round_exit ?_ | refine TQ.round_panic ?_ | refine TQ.cut_ret ?_ | refine TQ.cut_exit ?_ | refine TQ.cut_panic ?_
    | (refine TL.guard_ndec rfl rfl rfl (fun _ => ?_) (fun _ => ?_) <;> (try (exfalso; omega))) | (refine TL.guard_dec rfl rfl rfl (fun _ => ?_) (fun _ => ?_) <;> (try (exfalso; omega)))
    | ((with_reducible apply TL.guard_yes); (· rfl); (· rfl)) | ((with_reducible apply TL.guard_no); (· rfl); (· rfl); (· rfl); (· rfl)) | ((with_reducible apply TL.guard_no0); (· rfl); (· rfl); (· rfl)) | ((with_reducible apply TL.guard_undef); (· rfl); (· rfl); (· rfl)) | ((with_reducible apply TL.guard_undef0); (· rfl); (· rfl))
    | refine TL.guard_split rfl rfl rfl (fun _ => ?_) (fun _ => ?_)
    | ((with_reducible apply TL.alloc_ag); (· rfl); intro _) | ((with_reducible apply TL.alloc_sc); (· rfl); (· rfl); intro _) | ((with_reducible apply TL.box_ag); (· rfl); (· rfl); intro _) | ((with_reducible apply TL.box_sc); (· rfl); (· rfl); (· rfl); intro _)
    | ((with_reducible apply TL.range_str); (· rfl); (· rfl); intro _) | ((with_reducible apply TL.next_str); (· rfl); (· exact pkA); (· rfl); all_goals (intro _; (try (exfalso; omega))))
    | apply TC.region_draw (by kernel_rfl) (by kernel_rfl) | refine TW.nil ?_
    | ((with_reducible apply TW.pure); (· exact yA); (· rfl)) | ((with_reducible apply TW.byteK); (· rfl); (· rfl); (· exact natA); (· assumption); (· rfl); intro _) | ((with_reducible apply TW.byte); (· rfl); (· rfl); (· exact natA); (· exact omA); (· rfl); intro _ _ _)
    | (refine TW.guard_ndec rfl rfl rfl (fun _ => ?_) (fun _ => ?_) <;> (try (exfalso; omega))) | (refine TW.guard_dec rfl rfl rfl (fun _ => ?_) (fun _ => ?_) <;> (try (exfalso; omega)))
    | ((with_reducible apply TW.guard_yes); (· rfl); (· rfl)) | ((with_reducible apply TW.guard_no); (· rfl); (· rfl); (· rfl); (· rfl)) | ((with_reducible apply TW.guard_undef); (· rfl); (· rfl); (· rfl))
    | refine TW.guard_split rfl rfl rfl (fun _ => ?_) (fun _ => ?_))
    · have hpos : 0 < figs (s.drop (a + n + 1)) := by omega
      rw [hd.2]
      refine TQ.cut (a + n + 1 + figs (s.drop (a + n + 1))) ?_ rfl subA selA
      exact ⟨by rw [if_neg (by omega)]; omega, by omega⟩
    · have hpos : figs (s.drop (a + n + 1)) = 0 := by omega
      rw [hd.2, hpos]
      refine TQ.cut (a + n) ?_ rfl subA selA
      exact ⟨rfl, by omega⟩
    · have h0 := hnd (by assumption)
      rw [h0]
      refine TQ.cut (a + n) ?_ rfl subA selA
      exact ⟨rfl, by omega⟩
  obtain ⟨hb, hbl⟩ := hb
  clear hdot hnd
  repeat' (first
    | refine wkP ?_
    | ((with_reducible apply TL.byteK); (· rfl); (· rfl); (· exact natA); (· assumption); (· rfl); intro _) | ((with_reducible apply TL.byte); (· rfl); (· rfl); (· exact natA); (· exact omA); (· rfl); intro _ _ _)
    | refine TC.seq_region ?_ | refine TC.region ?_ | refine TL.nil ?_ | refine TQ.then_normal ?_
    | ((with_reducible apply TL.storeE); (· rfl); (· rfl); (· rfl); (· exact pkA); (· infer_instance)) | ((with_reducible apply TL.store_whole); (· rfl); (· rfl); (· first | rfl | exact oneA); (· rfl); (· exact pkA); (· rfl))
    | refine TC.block ?_ | refine TC.ret ?_ | refine TC.skip ?_ | refine TC.exit ?_
    | (refine TC.cond_not rfl (fun _ => ?_) (fun _ => ?_) <;> (try (exfalso; omega))) | (refine TC.cond_dec rfl (fun _ => ?_) (fun _ => ?_) <;> (try (exfalso; omega))) | ((with_reducible apply TC.cond_true); (· rfl)) | ((with_reducible apply TC.cond_false); (· rfl)) | refine TC.cond_bool rfl (fun _ => ?_) (fun _ => ?_)
    | refine TQ.then_ret ?_ | refine TQ.then_exit ?_ | refine TQ.then_panic ?_ | refine TQ.in_normal ?_ | refine TQ.in_ret ?_ | refine TQ.in_exit ?_ | refine TQ.in_exit' rfl ?_ | refine TQ.in_panic ?_
    | refine TQ.round_ret ?_ | refine TQ.round_exit ?_ | refine TQ.round_panic ?_ | refine TQ.cut_ret ?_ | refine TQ.cut_exit ?_ | refine TQ.cut_panic ?_
    | (refine TL.guard_ndec rfl rfl rfl (fun _ => ?_) (fun _ => ?_) <;> (try (exfalso; omega))) | (refine TL.guard_dec rfl rfl rfl (fun _ => ?_) (fun _ => ?_) <;> (try (exfalso; omega)))
    | ((with_reducible apply TL.guard_yes); (· rfl); (· rfl)) | ((with_reducible apply TL.guard_no); (· rfl); (· rfl); (· rfl); (· rfl)) | ((with_reducible apply TL.guard_no0); (· rfl); (· rfl); (· rfl)) | ((with_reducible apply TL.guard_undef); (· rfl); (· rfl); (· rfl)) | ((with_reducible apply TL.guard_undef0); (· rfl); (· rfl))
    | refine TL.guard_split rfl rfl rfl (fun _ => ?_) (fun _ => ?_)
    | ((with_reducible apply TL.alloc_ag); (· rfl); intro _) | ((with_reducible apply TL.alloc_sc); (· rfl); (· rfl); intro _) | ((with_reducible apply TL.box_ag); (· rfl); (· rfl); intro _) | ((with_reducible apply TL.box_sc); (· rfl); (· rfl); (· rfl); intro _)
    | ((with_reducible apply TL.range_str); (· rfl); (· rfl); intro _) | ((with_reducible apply TL.next_str); (· rfl); (· exact pkA); (· rfl); all_goals (intro _; (try (exfalso; omega))))
    | apply TC.region_draw (by kernel_rfl) (by kernel_rfl) | refine TW.nil ?_
    | ((with_reducible apply TW.pure); (· exact yA); (· rfl)) | ((with_reducible apply TW.byteK); (· rfl); (· rfl); (· exact natA); (· assumption); (· rfl); intro _) | ((with_reducible apply TW.byte); (· rfl); (· rfl); (· exact natA); (· exact omA); (· rfl); intro _ _ _)
    | (refine TW.guard_ndec rfl rfl rfl (fun _ => ?_) (fun _ => ?_) <;> (try (exfalso; omega))) | (refine TW.guard_dec rfl rfl rfl (fun _ => ?_) (fun _ => ?_) <;> (try (exfalso; omega)))
    | ((with_reducible apply TW.guard_yes); (· rfl); (· rfl)) | ((with_reducible apply TW.guard_no); (· rfl); (· rfl); (· rfl); (· rfl)) | ((with_reducible apply TW.guard_undef); (· rfl); (· rfl); (· rfl))
    | refine TW.guard_split rfl rfl rfl (fun _ => ?_) (fun _ => ?_))
  refine TC.seq ?_
  have hE : ∀ c, s[b]? = some c → isE (s.drop b) = (decide ((c.toNat : Int) = 101) || decide ((c.toNat : Int) = 69)) := fun c hc => by
    unfold isE
    rw [List.getElem?_drop, Nat.add_zero, hc]
    have hbyte : ∀ k : UInt8, (some c == some k) = decide ((c.toNat : Int) = (k.toNat : Int)) := fun k => by
      rw [Bool.eq_iff_iff, beq_iff_eq, decide_eq_true_iff]
      exact ⟨fun e => by rw [Option.some.inj e], fun e => by rw [UInt8.toNat_inj.1 (Int.ofNat.inj e)]⟩
    rw [hbyte, hbyte]; rfl
  have hE0 : s.length ≤ b → isE (s.drop b) = false := fun h => by rw [List.drop_eq_nil_of_le h]; rfl
  refine TC.cutK (fun e : Bool => e = isE (s.drop b)) (fun e _ => (67, .bool e) :: cutS b1 b2 b4 b5) [] (by repeat (first | apply Drop.nil | apply Drop.cons (by (repeat (first | apply Pick.here | apply Pick.there))))) (fun _ L => L) ?_ (fun e he => ?_)
  · repeat' (first
    | refine wkP ?_
    | ((with_reducible apply TL.byteK); (· rfl); (· rfl); (· exact natA); (· assumption); (· rfl); intro _) | ((with_reducible apply TL.byte); (· rfl); (· rfl); (· exact natA); (· exact omA); (· rfl); intro _ _ _)
    | refine TC.seq ?_ | refine TC.region ?_ | refine TL.nil ?_ | refine TQ.then_normal ?_
    | ((with_reducible apply TL.storeE); (· rfl); (· rfl); (· rfl); (· exact pkA); (· infer_instance)) | ((with_reducible apply TL.store_whole); (· rfl); (· rfl); (· first | rfl | exact oneA); (· rfl); (· exact pkA); (· rfl))
    | refine TC.block ?_ | refine TC.ret ?_ | refine TC.skip ?_ | refine TC.exit ?_
    | (refine TC.cond_not rfl (fun _ => ?_) (fun _ => ?_) <;> (try (exfalso; omega))) | (refine TC.cond_dec rfl (fun _ => ?_) (fun _ => ?_) <;> (try (exfalso; omega))) | ((with_reducible apply TC.cond_true); (· rfl)) | ((with_reducible apply TC.cond_false); (· rfl)) | refine TC.cond_bool rfl (fun _ => ?_) (fun _ => ?_)
    | refine TQ.then_ret ?_ | refine TQ.then_exit ?_ | refine TQ.then_panic ?_ | refine TQ.in_normal ?_ | refine TQ.in_ret ?_ | refine TQ.in_exit ?_ | refine TQ.in_exit' rfl ?_ | refine TQ.in_panic ?_
    | refine TQ.round_ret ?_ | refine TQ.round_exit ?_ | refine TQ.round_panic ?_ | refine TQ.cut_ret ?_ | refine TQ.cut_exit ?_ | refine TQ.cut_panic ?_
    | (refine TL.guard_ndec rfl rfl rfl (fun _ => ?_) (fun _ => ?_) <;> (try (exfalso; omega))) | (refine TL.guard_dec rfl rfl rfl (fun _ => ?_) (fun _ => ?_) <;> (try (exfalso; omega)))
    | ((with_reducible apply TL.guard_yes); (· rfl); (· rfl)) | ((with_reducible apply TL.guard_no); (· rfl); (· rfl); (· rfl); (· rfl)) | ((with_reducible apply TL.guard_no0); (· rfl); (· rfl); (· rfl)) | ((with_reducible apply TL.guard_undef); (· rfl); (· rfl); (· rfl)) | ((with_reducible apply TL.guard_undef0); (· rfl); (· rfl))
    | refine TL.guard_split rfl rfl rfl (fun _ => ?_) (fun _ => ?_)
    | ((with_reducible apply TL.alloc_ag); (· rfl); intro _) | ((with_reducible apply TL.alloc_sc); (· rfl); (· rfl); intro _) | ((with_reducible apply TL.box_ag); (· rfl); (· rfl); intro _) | ((with_reducible apply TL.box_sc); (· rfl); (· rfl); (· rfl); intro _)
    | ((with_reducible apply TL.range_str); (· rfl); (· rfl); intro _) | ((with_reducible apply TL.next_str); (· rfl); (· exact pkA); (· rfl); all_goals (intro _; (try (exfalso; omega))))
    | apply TC.region_draw (by kernel_rfl) (by kernel_rfl) | refine TW.nil ?_
    | ((with_reducible apply TW.pure); (· exact yA); (· rfl)) | ((with_reducible apply TW.byteK); (· rfl); (· rfl); (· exact natA); (· assumption); (· rfl); intro _) | ((with_reducible apply TW.byte); (· rfl); (· rfl); (· exact natA); (· exact omA); (· rfl); intro _ _ _)
    | (refine TW.guard_ndec rfl rfl rfl (fun _ => ?_) (fun _ => ?_) <;> (try (exfalso; omega))) | (refine TW.guard_dec rfl rfl rfl (fun _ => ?_) (fun _ => ?_) <;> (try (exfalso; omega)))
    | ((with_reducible apply TW.guard_yes); (· rfl); (· rfl)) | ((with_reducible apply TW.guard_no); (· rfl); (· rfl); (· rfl); (· rfl)) | ((with_reducible apply TW.guard_undef); (· rfl); (· rfl); (· rfl))
    | refine TW.guard_split rfl rfl rfl (fun _ => ?_) (fun _ => ?_))
    · rename_i c hc _ h1
      refine TQ.cut true ?_ rfl subA selA
      rw [hE c hc, decide_eq_true h1]; rfl
    · rename_i c hc _ h1 _
      refine TQ.cut (decide ((c.toNat : Int) = 69)) ?_ rfl subA selA
      rw [hE c hc, decide_eq_false h1, Bool.false_or]
    · refine TQ.cut false ?_ rfl subA selA
      exact (hE0 (by omega)).symm
  clear hE hE0
  repeat' (first
    | refine wkP ?_
    | ((with_reducible apply TL.byteK); (· rfl); (· rfl); (· exact natA); (· assumption); (· rfl); intro _) | ((with_reducible apply TL.byte); (· rfl); (· rfl); (· exact natA); (· exact omA); (· rfl); intro _ _ _)
    | refine TC.seq_region ?_ | refine TC.region ?_ | refine TL.nil ?_ | refine TQ.then_normal ?_
    | ((with_reducible apply TL.storeE); (· rfl); (· rfl); (· rfl); (· exact pkA); (· infer_instance)) | ((with_reducible apply TL.store_whole); (· rfl); (· rfl); (· first | rfl | exact oneA); (· rfl); (· exact pkA); (· rfl))
    | refine TC.block ?_ | refine TC.ret ?_ | refine TC.skip ?_ | refine TC.exit ?_
    | (refine TC.cond_not rfl (fun _ => ?_) (fun _ => ?_) <;> (try (exfalso; omega))) | (refine TC.cond_dec rfl (fun _ => ?_) (fun _ => ?_) <;> (try (exfalso; omega))) | ((with_reducible apply TC.cond_true); (· rfl)) | ((with_reducible apply TC.cond_false); (· rfl)) | refine TC.cond_bool rfl (fun _ => ?_) (fun _ => ?_)
    | refine TQ.then_ret ?_ | refine TQ.then_exit ?_ | refine TQ.then_panic ?_ | refine TQ.in_normal ?_ | refine TQ.in_ret ?_ | refine TQ.in_exit ?_ | refine TQ.in_exit' rfl ?_ | refine TQ.in_panic ?_
    | refine TQ.round_ret ?_ | refine TQ.round_exit ?_ | refine TQ.round_panic ?_ | refine TQ.cut_ret ?_ | refine TQ.cut_exit ?_ | refine TQ.cut_panic ?_
    | (refine TL.guard_ndec rfl rfl rfl (fun _ => ?_) (fun _ => ?_) <;> (try (exfalso; omega))) | (refine TL.guard_dec rfl rfl rfl (fun _ => ?_) (fun _ => ?_) <;> (try (exfalso; omega)))
    | ((with_reducible apply TL.guard_yes); (· rfl); (· rfl)) | ((with_reducible apply TL.guard_no); (· rfl); (· rfl); (· rfl); (· rfl)) | ((with_reducible apply TL.guard_no0); (· rfl); (· rfl); (· rfl)) | ((with_reducible apply TL.guard_undef); (· rfl); (· rfl); (· rfl)) | ((with_reducible apply TL.guard_undef0); (· rfl); (· rfl))
    | refine TL.guard_split rfl rfl rfl (fun _ => ?_) (fun _ => ?_)
    | ((with_reducible apply TL.alloc_ag); (· rfl); intro _) | ((with_reducible apply TL.alloc_sc); (· rfl); (· rfl); intro _) | ((with_reducible apply TL.box_ag); (· rfl); (· rfl); intro _) | ((with_reducible apply TL.box_sc); (· rfl); (· rfl); (· rfl); intro _)
    | ((with_reducible apply TL.range_str); (· rfl); (· rfl); intro _) | ((with_reducible apply TL.next_str); (· rfl); (· exact pkA); (· rfl); all_goals (intro _; (try (exfalso; omega))))
    | apply TC.region_draw (by kernel_rfl) (by kernel_rfl) | refine TW.nil ?_
    | ((with_reducible apply TW.pure); (· exact yA); (· rfl)) | ((with_reducible apply TW.byteK); (· rfl); (· rfl); (· exact natA); (· assumption); (· rfl); intro _) | ((with_reducible apply TW.byte); (· rfl); (· rfl); (· exact natA); (· exact omA); (· rfl); intro _ _ _)
    | (refine TW.guard_ndec rfl rfl rfl (fun _ => ?_) (fun _ => ?_) <;> (try (exfalso; omega))) | (refine TW.guard_dec rfl rfl rfl (fun _ => ?_) (fun _ => ?_) <;> (try (exfalso; omega)))
    | ((with_reducible apply TW.guard_yes); (· rfl); (· rfl)) | ((with_reducible apply TW.guard_no); (· rfl); (· rfl); (· rfl); (· rfl)) | ((with_reducible apply TW.guard_undef); (· rfl); (· rfl); (· rfl))
    | refine TW.guard_split rfl rfl rfl (fun _ => ?_) (fun _ => ?_))
  rotate_left
  · refine TQ.endR2 (L' := L) Tryz.results97 rvA rvA rfl (.refl _) ?_ selA
    refine ⟨?_, rfl, rfl⟩
    have hEf : isE (s.drop b) = false := by rw [← he]; assumption
    unfold cutV
    rw [cutL_plain ha (by omega) hn rfl hb hEf, List.drop_drop]
  have hEt : isE (s.drop b) = true := by rw [← he]; assumption
  obtain ⟨c0, hc0, hc1⟩ : ∃ c, s[b]? = some c ∧ b < s.length := by
    have h1 := hEt
    unfold isE at h1
    cases hq : (s.drop b)[0]? with
    | none => rw [hq] at h1; cases h1
    | some c =>
      rw [List.getElem?_drop, Nat.add_zero] at hq
      exact ⟨c, hq, (List.getElem?_eq_some_iff.1 hq).1⟩
  have hg0 : expSign (s.drop (b + 1)) ≤ 1 := by unfold expSign; split <;> omega
  refine TC.cutK (fun k => k = expSign (s.drop (b + 1)) ∧ b + 1 + k ≤ s.length) (fun k _ => (9, .int .i64 (k : Nat)) :: cutS b1 b2 b4 b5) [] (by repeat (first | apply Drop.nil | apply Drop.cons (by (repeat (first | apply Pick.here | apply Pick.there))))) (fun _ L => L) ?_ (fun k hk => ?_)
  · have hne : ¬ s.drop (b + 1) = [] → 0 < (s.drop (b + 1)).length := fun h => List.length_pos_iff.2 h
    have hx : ∀ c, (s.drop (b + 1))[0]? = some c → expSign (s.drop (b + 1)) = if (c.toNat : Int) = 43 ∨ (c.toNat : Int) = 45 then 1 else 0 := fun c hc => by
      unfold expSign
      rw [hc]
      have hbyte : ∀ k : UInt8, (some c = some k) = ((c.toNat : Int) = (k.toNat : Int)) := fun k => propext
        ⟨fun e => by rw [Option.some.inj e], fun e => by rw [UInt8.toNat_inj.1 (Int.ofNat.inj e)]⟩
      simp only [hbyte]; rfl
    have hl0 : (s.drop (b + 1)).length = s.length - (b + 1) := List.length_drop
    repeat' (first
    | (have h0 := hne (by assumption); clear hne)
    | refine wkP ?_
    | ((with_reducible apply TL.byteK); (· rfl); (· rfl); (· exact natA); (· assumption); (· rfl); intro _) | ((with_reducible apply TL.byte); (· rfl); (· rfl); (· exact natA); (· exact omA); (· rfl); intro _ _ _)
    | refine TC.seq ?_ | refine TC.region ?_ | refine TL.nil ?_ | refine TQ.then_normal ?_
    | ((with_reducible apply TL.storeE); (· rfl); (· rfl); (· rfl); (· exact pkA); (· infer_instance)) | ((with_reducible apply TL.store_whole); (· rfl); (· rfl); (· first | rfl | exact oneA); (· rfl); (· exact pkA); (· rfl))
    | refine TC.block ?_ | refine TC.ret ?_ | refine TC.skip ?_ | refine TC.exit ?_
    | (refine TC.cond_not rfl (fun _ => ?_) (fun _ => ?_) <;> (try (exfalso; omega))) | (refine TC.cond_dec rfl (fun _ => ?_) (fun _ => ?_) <;> (try (exfalso; omega))) | ((with_reducible apply TC.cond_true); (· rfl)) | ((with_reducible apply TC.cond_false); (· rfl)) | refine TC.cond_bool rfl (fun _ => ?_) (fun _ => ?_)
    | refine TQ.then_ret ?_ | refine TQ.then_exit ?_ | refine TQ.then_panic ?_ | refine TQ.in_normal ?_ | refine TQ.in_ret ?_ | refine TQ.in_exit ?_ | refine TQ.in_exit' rfl ?_ | refine TQ.in_panic ?_
    | refine TQ.round_ret ?_ | refine TQ.round_exit ?_ | refine TQ.round_panic ?_ | refine TQ.cut_ret ?_ | refine TQ.cut_exit ?_ | refine TQ.cut_panic ?_
    | (refine TL.guard_ndec rfl rfl rfl (fun _ => ?_) (fun _ => ?_) <;> (try (exfalso; omega))) | (refine TL.guard_dec rfl rfl rfl (fun _ => ?_) (fun _ => ?_) <;> (try (exfalso; omega)))
    | ((with_reducible apply TL.guard_yes); (· rfl); (· rfl)) | ((with_reducible apply TL.guard_no); (· rfl); (· rfl); (· rfl); (· rfl)) | ((with_reducible apply TL.guard_no0); (· rfl); (· rfl); (· rfl)) | ((with_reducible apply TL.guard_undef); (· rfl); (· rfl); (· rfl)) | ((with_reducible apply TL.guard_undef0); (· rfl); (· rfl))
    | refine TL.guard_split rfl rfl rfl (fun _ => ?_) (fun _ => ?_)
    | ((with_reducible apply TL.alloc_ag); (· rfl); intro _) | ((with_reducible apply TL.alloc_sc); (· rfl); (· rfl); intro _) | ((with_reducible apply TL.box_ag); (· rfl); (· rfl); intro _) | ((with_reducible apply TL.box_sc); (· rfl); (· rfl); (· rfl); intro _)
    | ((with_reducible apply TL.range_str); (· rfl); (· rfl); intro _) | ((with_reducible apply TL.next_str); (· rfl); (· exact pkA); (· rfl); all_goals (intro _; (try (exfalso; omega))))
    | apply TC.region_draw (by kernel_rfl) (by kernel_rfl) | refine TW.nil ?_
    | ((with_reducible apply TW.pure); (· exact yA); (· rfl)) | ((with_reducible apply TW.byteK); (· rfl); (· rfl); (· exact natA); (· assumption); (· rfl); intro _) | ((with_reducible apply TW.byte); (· rfl); (· rfl); (· exact natA); (· exact omA); (· rfl); intro _ _ _)
    | (refine TW.guard_ndec rfl rfl rfl (fun _ => ?_) (fun _ => ?_) <;> (try (exfalso; omega))) | (refine TW.guard_dec rfl rfl rfl (fun _ => ?_) (fun _ => ?_) <;> (try (exfalso; omega)))
    | ((with_reducible apply TW.guard_yes); (· rfl); (· rfl)) | ((with_reducible apply TW.guard_no); (· rfl); (· rfl); (· rfl); (· rfl)) | ((with_reducible apply TW.guard_undef); (· rfl); (· rfl); (· rfl))
    | refine TW.guard_split rfl rfl rfl (fun _ => ?_) (fun _ => ?_))
    · rename_i c hc _ h1
      refine TQ.cut 1 ?_ rfl subA selA
      exact ⟨by rw [hx c hc, if_pos (.inl h1)], by omega⟩
    · rename_i c hc _ _ _ h1
      refine TQ.cut 1 ?_ rfl subA selA
      exact ⟨by rw [hx c hc, if_pos (.inr h1)], by omega⟩
    · rename_i c hc _ h2 _ h1
      refine TQ.cut 0 ?_ rfl subA selA
      exact ⟨by rw [hx c hc, if_neg (fun h => h.elim h2 h1)], by omega⟩
    · rename_i h1
      refine TQ.cut 0 ?_ rfl subA selA
      exact ⟨by rw [h1]; rfl, by omega⟩
  obtain ⟨hk, hkl⟩ := hk
  have hfk := figs_le (s.drop (b + 1 + k))
  rw [List.length_drop] at hfk
  have hlt : k < ((s.drop b).take (1 + k)).length := by rw [List.length_take, List.length_drop]; omega
  repeat' (first
    | ((with_reducible apply TL.gives_plain); (· kernel_rfl); (· rfl); (· exact figures_gives _ _ _ (by simp only [List.length_drop]; omega)); (· rfl)) | ((with_reducible apply TW.gives_plain); (· kernel_rfl); (· rfl); (· exact figures_gives _ _ _ (by simp only [List.length_drop]; omega)); (· rfl))
    | apply TL.turns (Enters.func (by rfl) (by kernel_rfl) (by rfl)) (take_turns _ _ s b (1 + k) _ _ (by omega) hs) permA (by rfl) | apply TL.turns (Enters.plain (by kernel_rfl) (by rfl)) (take_turns _ _ s b (1 + k) _ _ (by omega) hs) permA (by rfl)
    | apply TL.turns (Enters.func (by rfl) (by kernel_rfl) (by rfl)) (take_turns _ _ s (b + (1 + k)) (figs (s.drop (b + 1 + k))) _ _ (by omega) hs) permA (by rfl) | apply TL.turns (Enters.plain (by kernel_rfl) (by rfl)) (take_turns _ _ s (b + (1 + k)) (figs (s.drop (b + 1 + k))) _ _ (by omega) hs) permA (by rfl)
    | refine wkP ?_
    | ((with_reducible apply TL.byteK); (· rfl); (· rfl); (· exact natA); (· assumption); (· rfl); intro _) | ((with_reducible apply TL.byte); (· rfl); (· rfl); (· exact natA); (· exact omA); (· rfl); intro _ _ _)
    | refine TC.seq ?_ | refine TC.region ?_ | refine TL.nil ?_ | refine TQ.then_normal ?_
    | ((with_reducible apply TL.storeE); (· rfl); (· rfl); (· rfl); (· exact pkA); (· infer_instance)) | ((with_reducible apply TL.store_whole); (· rfl); (· rfl); (· first | rfl | exact oneA); (· rfl); (· exact pkA); (· rfl))
    | refine TC.block ?_ | refine TC.ret ?_ | refine TC.skip ?_ | refine TC.exit ?_
    | (refine TC.cond_not rfl (fun _ => ?_) (fun _ => ?_) <;> (try (exfalso; omega))) | (refine TC.cond_dec rfl (fun _ => ?_) (fun _ => ?_) <;> (try (exfalso; omega))) | ((with_reducible apply TC.cond_true); (· rfl)) | ((with_reducible apply TC.cond_false); (· rfl)) | refine TC.cond_bool rfl (fun _ => ?_) (fun _ => ?_)
    | refine TQ.then_ret ?_ | refine TQ.then_exit ?_ | refine TQ.then_panic ?_ | refine TQ.in_normal ?_ | refine TQ.in_ret ?_ | refine TQ.in_exit ?_ | refine TQ.in_exit' rfl ?_ | refine TQ.in_panic ?_
    | refine TQ.round_ret ?_ | refine TQ.round_exit ?_ | refine TQ.round_panic ?_ | refine TQ.cut_ret ?_ | refine TQ.cut_exit ?_ | refine TQ.cut_panic ?_
    | (refine TL.guard_ndec rfl rfl rfl (fun _ => ?_) (fun _ => ?_) <;> (try (exfalso; omega))) | (refine TL.guard_dec rfl rfl rfl (fun _ => ?_) (fun _ => ?_) <;> (try (exfalso; omega)))
    | ((with_reducible apply TL.guard_yes); (· rfl); (· rfl)) | ((with_reducible apply TL.guard_no); (· rfl); (· rfl); (· rfl); (· rfl)) | ((with_reducible apply TL.guard_no0); (· rfl); (· rfl); (· rfl)) | ((with_reducible apply TL.guard_undef); (· rfl); (· rfl); (· rfl)) | ((with_reducible apply TL.guard_undef0); (· rfl); (· rfl))
    | refine TL.guard_split rfl rfl rfl (fun _ => ?_) (fun _ => ?_)
    | ((with_reducible apply TL.alloc_ag); (· rfl); intro _) | ((with_reducible apply TL.alloc_sc); (· rfl); (· rfl); intro _) | ((with_reducible apply TL.box_ag); (· rfl); (· rfl); intro _) | ((with_reducible apply TL.box_sc); (· rfl); (· rfl); (· rfl); intro _)
    | ((with_reducible apply TL.range_str); (· rfl); (· rfl); intro _) | ((with_reducible apply TL.next_str); (· rfl); (· exact pkA); (· rfl); all_goals (intro _; (try (exfalso; omega))))
    | apply TC.region_draw (by kernel_rfl) (by kernel_rfl) | refine TW.nil ?_
    | ((with_reducible apply TW.pure); (· exact yA); (· rfl)) | ((with_reducible apply TW.byteK); (· rfl); (· rfl); (· exact natA); (· assumption); (· rfl); intro _) | ((with_reducible apply TW.byte); (· rfl); (· rfl); (· exact natA); (· exact omA); (· rfl); intro _ _ _)
    | (refine TW.guard_ndec rfl rfl rfl (fun _ => ?_) (fun _ => ?_) <;> (try (exfalso; omega))) | (refine TW.guard_dec rfl rfl rfl (fun _ => ?_) (fun _ => ?_) <;> (try (exfalso; omega)))
    | ((with_reducible apply TW.guard_yes); (· rfl); (· rfl)) | ((with_reducible apply TW.guard_no); (· rfl); (· rfl); (· rfl); (· rfl)) | ((with_reducible apply TW.guard_undef); (· rfl); (· rfl); (· rfl))
    | refine TW.guard_split rfl rfl rfl (fun _ => ?_) (fun _ => ?_))
  · rename_i c hc _
    refine TQ.endR2 (L' := L) Tryz.results97 rvA rvA rfl (.refl _) ?_ selA
    refine ⟨?_, rfl, rfl⟩
    have hcc : s[b + k]? = some c := by
      rw [List.getElem?_take, if_pos (by omega), List.getElem?_drop] at hc
      exact hc
    have hdn := down_law hcc hk hEt
    have hdd : decide ((c.toNat : Int) = 45) = decide (s[b + 1]? = some 45) := by rw [← hdn, Bool.eq_iff_iff]; simp
    unfold cutV
    rw [cutL_exp ha (by omega) hn rfl hb hEt hk rfl, List.drop_drop, if_neg (by rw [show b + (1 + k) = b + 1 + k by omega]; omega), hdd]
    rw [show b + (1 + k) = b + 1 + k by omega]
    rfl
  · refine TQ.endR2 (L' := L) Tryz.results97 rvA rvA rfl (.refl _) ?_ selA
    refine ⟨?_, rfl, rfl⟩
    unfold cutV
    rw [cutL_exp ha (by omega) hn rfl hb hEt hk rfl, List.drop_drop, if_pos (by rw [show b + (1 + k) = b + 1 + k by omega]; omega)]
theorem isE_get {s : List UInt8} {c : UInt8} (h : s[0]? = some c) : isE s = (decide (c = 101) || decide (c = 69)) := by
  rw [isE, h]
  congr 1 <;> (rw [Bool.eq_iff_iff]; simp)
theorem cut_any (S : ByteArray) (l : List UInt8) (w : World) (hl : S.data.toList = l) (hS : S.size ≤ 4611686018427387904) :
    Calls Tryz.prog 97 #[.string S] w fun e w' => Ext w w' ∧ ((∃ p c1 c2 c3, cutL l = some p ∧ c1.data.toList = p.whole ∧ c2.data.toList = p.rest ∧ c3.data.toList = p.power ∧ e = .returned (.tuple #[.agg #[.bool p.minus, .string c1, .string c2, .string c3, .bool p.down, .int .i64 (p.size : Nat)], .bool true])) ∨ (cutL l = none ∧ ∃ M : Bool, e = .returned (.tuple #[.agg #[.bool M, .string ⟨#[]⟩, .string ⟨#[]⟩, .string ⟨#[]⟩, .bool false, .int .i64 0], .bool false]))) := by
  obtain rfl : S = ⟨l.toArray⟩ := by
    cases S with
    | mk d => subst hl; simp
  refine (Gives.calls (fun g => cut_gives l g [] (by rw [size_mk] at hS; exact hS)) w).mono ?_
  rintro e w' ⟨rfl, hx⟩
  refine ⟨hx, ?_⟩
  unfold cutV
  cases h : cutL l with
  | none => exact .inr ⟨rfl, _, rfl⟩
  | some p => exact .inl ⟨p, ⟨p.whole.toArray⟩, ⟨p.rest.toArray⟩, ⟨p.power.toArray⟩, rfl, by simp, by simp, by simp, rfl⟩
end Go.Proofs.YtfmadoeadmclbaaGreatDoor
