/-
  The walk of Parse.
-/
import Derived.Test.YtfmadoeadmclbaaGreatDoorHc1
import Derived.Test.YtfmadoeadmclbaaGreatDoorHc36
namespace Go.Proofs.YtfmadoeadmclbaaGreatDoor
open Go.RowKit Go.TL
set_option maxRecDepth 100000

theorem late_tail' (b c k : Nat) (hk : k ≠ 0) (x : Value) (g : Gh) (L : List Ent) : Late Tryz.prog 25 #[.pointer (some ⟨b, 0, none⟩), .pointer (some ⟨c, 0, none⟩)] .returning .returning g (.obj b (.cells [.int .i64 (k : Nat)].toArray 23 (0, 0)) :: .obj c (.cells [x].toArray 20 (0, 0)) :: L) (.obj c (.cells [.nilIface].toArray 20 (0, 0)) :: .obj b (.cells [.int .i64 (k : Nat)].toArray 23 (0, 0)) :: L) :=
  ⟨fun w hs => (late_tail b c k hk x g L).h w (hs.perm (List.Perm.swap ..))⟩
def ParseR (o : Except Nat J) (L : List Ent) : Ending → Gh → List Ent → Prop := fun e g' L1 => L1 = L ∧ match o with
    | .ok x => ∃ v, e = .returned (.tuple #[v, .int .i64 0]) ∧ IsJ g' x v
    | .error k => e = .returned (.tuple #[.nilIface, .int .i64 (k : Nat)])
set_option maxHeartbeats 16000000 in
theorem jParse_does (s : List UInt8) (ao : Option Addr) (n cap : Nat) (g : Gh) (L : List Ent) (hS : Sl g (.slice ao n cap) n 1 (byteVals s)) (hn : s.length = n) (hU : GU8 g) : Does Tryz.prog 8 #[.slice ao n cap] g L (ParseR (jparse s) L) := by
  refine Does.ofD1 Tryz.func8 rfl Tryz.ntmps8 rfl ?_
  subst hn
  unfold jparse
  by_cases hlt : 65536 < s.length
  · rw [if_pos hlt]
    have HL : Hn ((65536 : Int) < (s.length : Nat)) := ⟨by omega⟩
    repeat' (first
    | ((with_reducible apply TL.pure); (· exact yQ); (· rfl))
    | ((with_reducible apply TL.pure (d := 7) (v := .bool true)); (· exact Y.gtr_b (decide_eq_true HL.out) rfl rfl); (· rfl)) | ((with_reducible apply TW.pure (d := 7) (v := .bool true)); (· exact Y.gtr_b (decide_eq_true HL.out) rfl rfl); (· rfl))
    | ((with_reducible apply TL.pure); (· exact yV); (· rfl)) | ((with_reducible apply TW.pure); (· exact yV); (· rfl))
    | ((with_reducible apply TL.pure); (· exact yA); (· rfl))
    | refine stS ?_ | (refine stB ?_; intro _) | (refine stC ?_; refine And.intro (fun _ => ?_) (fun _ => ?_)))
    refine TQ.endD_ret_none (L' := L) rfl Tryz.results8 rvA rvA (.refl _) ?_ selF
    exact ⟨rfl, rfl⟩
  rw [if_neg hlt]
  have HL : Hn (¬ (65536 : Int) < (s.length : Nat)) := ⟨by omega⟩
  have VV : ∀ b L, Does Tryz.prog 27 #[.pointer (some ⟨b, 0, none⟩), .int .i64 0] g (.obj b (.cells ([.string ⟨#[]⟩, .int .i64 0].set 0 (.string ⟨s.toArray⟩)).toArray 58 (0, 0)) :: L) (RdR (valT 32 s) b s L) := fun b L => jvalue_does b s (by omega) 32 (Nat.le_refl _) 0 g L (Nat.zero_le _) hU
  cases hv : valT 32 s with
  | error k =>
    rw [hv] at VV
    unfold RdR at VV
    dsimp only at VV ⊢
    have hk : k ≠ 0 := valT_err _ _ _ hv
    repeat' (first
    | ((with_reducible apply TL.pure); (· exact yQ); (· rfl))
    | ((with_reducible apply TL.pure (d := 7) (v := .bool false)); (· exact Y.gtr_b (decide_eq_false HL.out) rfl rfl); (· rfl)) | ((with_reducible apply TW.pure (d := 7) (v := .bool false)); (· exact Y.gtr_b (decide_eq_false HL.out) rfl rfl); (· rfl))
    | ((with_reducible apply TL.pure); (· exact Y.bytes_row rfl pkA); (· rfl)) | ((with_reducible apply TL.pure); (· exact Y.bytes_src rfl (Src.sl (by assumption)) rfl); (· rfl)) | ((with_reducible apply TW.pure); (· exact Y.bytes_row rfl pkA); (· rfl)) | ((with_reducible apply TW.pure); (· exact Y.bytes_src rfl (Src.sl (by assumption)) rfl); (· rfl))
      | refine TL.defer_v (by rfl) (by rfl) ?_
      | refine TL.defer (by rfl) ?_
      
    | ((with_reducible apply TL.pure); (· exact yV); (· rfl)) | ((with_reducible apply TW.pure); (· exact yV); (· rfl))
    | (refine TL.call (Enters.plain (by kernel_rfl) (by rfl)) (by rfl) (Does.perm (VV _ _) permF) ?_; (rintro e g1 Ln hg1 ⟨k1, k3⟩; subst k1; subst k3; refine CallK.panic ?_))
    | ((with_reducible apply TL.pure); (· exact yA); (· rfl))
    | refine stS ?_ | (refine stB ?_; intro _) | (refine stC ?_; refine And.intro (fun _ => ?_) (fun _ => ?_)))
    rename_i b2 b3 b1
    refine TQ.endD_panic_two (L' := L) (vs := [.pointer (some ⟨b3, 0, none⟩)]) (caps := []) (vs' := []) (caps' := [.pointer (some ⟨b3, 0, none⟩), .pointer (some ⟨b2, 0, none⟩)]) (late_stop b3 k _ g1 _) rfl (late_tail' b3 b2 k (hk) _ g1 L) rfl (by kernel_rfl) (by kernel_rfl) Tryz.results8 rvA rvA (hg1) ?_ (.refl _) selF
    exact ⟨rfl, rfl⟩
  | ok p =>
    obtain ⟨x, r⟩ := p
    rw [hv] at VV
    unfold RdR at VV
    dsimp only at VV ⊢
    have BB := fun b iv (h : iv ≤ s.length) g1 L => jblanks_turns b s iv g1 L h (by omega)
    by_cases hr : blL r = []
    · rw [if_pos hr]
      have YE := fun iv (h : decide (((blAt s iv : Nat) : Int) = (s.length : Nat)) = true) g1 L => need_yes (b := decide (((blAt s iv : Nat) : Int) = (s.length : Nat))) h 11 g1 L
      repeat' (first
    | ((with_reducible apply TL.pure); (· exact yQ); (· rfl))
    | ((with_reducible apply TL.pure (d := 7) (v := .bool false)); (· exact Y.gtr_b (decide_eq_false HL.out) rfl rfl); (· rfl)) | ((with_reducible apply TW.pure (d := 7) (v := .bool false)); (· exact Y.gtr_b (decide_eq_false HL.out) rfl rfl); (· rfl))
    | ((with_reducible apply TL.pure); (· exact Y.bytes_row rfl pkA); (· rfl)) | ((with_reducible apply TL.pure); (· exact Y.bytes_src rfl (Src.sl (by assumption)) rfl); (· rfl)) | ((with_reducible apply TW.pure); (· exact Y.bytes_row rfl pkA); (· rfl)) | ((with_reducible apply TW.pure); (· exact Y.bytes_src rfl (Src.sl (by assumption)) rfl); (· rfl))
      | refine TL.defer_v (by rfl) (by rfl) ?_
      | refine TL.defer (by rfl) ?_
      
    | ((with_reducible apply TL.pure); (· exact yV); (· rfl)) | ((with_reducible apply TW.pure); (· exact yV); (· rfl))
    | (refine TL.call (Enters.plain (by kernel_rfl) (by rfl)) (by rfl) (Does.perm (VV _ _) permF) ?_; (rintro e g1 Ln hg1 ⟨vv, iv, k1, k3, hiv, hrv, hjv⟩; subst k1; subst k3; have hov := hjv.one; have HE := Hn.mk (show decide (((blAt s iv : Nat) : Int) = (s.length : Nat)) = true by
        have h1 := congrArg List.length ((blAt_drop s iv).trans (hrv ▸ hr)); rw [List.length_drop, List.length_nil] at h1; have h2 := (blAt_bd s iv hiv).2; rw [decide_eq_true_iff]; omega); refine CallK.ret ?_))
    | ((with_reducible apply TL.storeE); (· rfl); (· rfl); (· assumption); (· exact pkA); (· infer_instance))
    | apply TL.turns (Enters.plain (by kernel_rfl) (by rfl)) (BB _ iv hiv _ _) permF (by rfl)
    | refine TL.gives (Enters.plain (by kernel_rfl) (by rfl)) (Gives.perm (YE iv HE.out _ _) permF) (by rfl) ?_
    | ((with_reducible apply TA.takeN 0); (· rfl); (· decide +kernel); (· rfl); (· (first | exact yQ | exact yA | exact yB | exact yM | exact yV)); (· decide +kernel); (· decide +kernel); (· rfl); (· exact fun _ _ _ h => endD_put Tryz.results8 (by decide) (by decide) h); (· rfl))
    | ((with_reducible apply TA.takeN 1); (· rfl); (· decide +kernel); (· rfl); (· (first | exact yQ | exact yA | exact yB | exact yM | exact yV)); (· decide +kernel); (· decide +kernel); (· rfl); (· exact fun _ _ _ h => endD_put Tryz.results8 (by decide) (by decide) h); (· rfl))
    | ((with_reducible apply TA.takeN 2); (· rfl); (· decide +kernel); (· rfl); (· (first | exact yQ | exact yA | exact yB | exact yM | exact yV)); (· decide +kernel); (· decide +kernel); (· rfl); (· exact fun _ _ _ h => endD_put Tryz.results8 (by decide) (by decide) h); (· rfl))
    | ((with_reducible apply TA.takeN 3); (· rfl); (· decide +kernel); (· rfl); (· (first | exact yQ | exact yA | exact yB | exact yM | exact yV)); (· decide +kernel); (· decide +kernel); (· rfl); (· exact fun _ _ _ h => endD_put Tryz.results8 (by decide) (by decide) h); (· rfl))
    | ((with_reducible apply TA.takeN 0); (· rfl); (· decide +kernel); (· rfl); (· (first | exact yQ | exact yA | exact yB | exact yM | exact yV)); (· decide +kernel); (· decide +kernel); (· rfl); (· exact fun _ _ _ h => h); (· rfl))
    | ((with_reducible apply TA.takeN 1); (· rfl); (· decide +kernel); (· rfl); (· (first | exact yQ | exact yA | exact yB | exact yM | exact yV)); (· decide +kernel); (· decide +kernel); (· rfl); (· exact fun _ _ _ h => h); (· rfl))
    | ((with_reducible apply TA.takeN 2); (· rfl); (· decide +kernel); (· rfl); (· (first | exact yQ | exact yA | exact yB | exact yM | exact yV)); (· decide +kernel); (· decide +kernel); (· rfl); (· exact fun _ _ _ h => h); (· rfl))
    | ((with_reducible apply TA.takeN 3); (· rfl); (· decide +kernel); (· rfl); (· (first | exact yQ | exact yA | exact yB | exact yM | exact yV)); (· decide +kernel); (· decide +kernel); (· rfl); (· exact fun _ _ _ h => h); (· rfl))
    | ((with_reducible apply TA.oneN 0); (· rfl); (· rfl); (· decide +kernel); (· rfl))
    | ((with_reducible apply TA.oneN 1); (· rfl); (· rfl); (· decide +kernel); (· rfl))
    | ((with_reducible apply TA.oneN 2); (· rfl); (· rfl); (· decide +kernel); (· rfl))
    | ((with_reducible apply TA.oneN 3); (· rfl); (· rfl); (· decide +kernel); (· rfl))
    | refine TQ.any leF selF ?_
    | refine TC.region_any 11 (_) (by kernel_rfl) rfl selF ?_ | refine TA.done (by decide +kernel) ?_ | refine TQ.any_panic ?_
    | ((with_reducible apply TL.pure); (· exact yA); (· rfl))
    | refine stS ?_ | (refine stB ?_; intro _) | (refine stC ?_; refine And.intro (fun _ => ?_) (fun _ => ?_)))
      rename_i b2 b3 b1
      refine TQ.only (.obj b3 (.cells [.int .i64 0].toArray 23 (0, 0)) :: .obj b2 (.cells [vv].toArray 20 (0, 0)) :: L) selF ?_
      refine TQ.endD_ret_two (L' := L) (vs := [.pointer (some ⟨b3, 0, none⟩)]) (caps := []) (vs' := []) (caps' := [.pointer (some ⟨b3, 0, none⟩), .pointer (some ⟨b2, 0, none⟩)]) (late_idle b3 g1 _) (late_zero b3 b2 g1 (.obj b2 (.cells [vv].toArray 20 (0, 0)) :: L)) rfl (by kernel_rfl) (by kernel_rfl) Tryz.results8 rvA rvA hg1 ?_ (.refl _) selF
      exact ⟨rfl, _, rfl, hjv⟩
    · rw [if_neg hr]
      have NO := fun iv (h : decide (((blAt s iv : Nat) : Int) = (s.length : Nat)) = false) g1 L => need_no (b := decide (((blAt s iv : Nat) : Int) = (s.length : Nat))) h 11 g1 L
      repeat' (first
    | ((with_reducible apply TL.pure); (· exact yQ); (· rfl))
    | ((with_reducible apply TL.pure (d := 7) (v := .bool false)); (· exact Y.gtr_b (decide_eq_false HL.out) rfl rfl); (· rfl)) | ((with_reducible apply TW.pure (d := 7) (v := .bool false)); (· exact Y.gtr_b (decide_eq_false HL.out) rfl rfl); (· rfl))
    | ((with_reducible apply TL.pure); (· exact Y.bytes_row rfl pkA); (· rfl)) | ((with_reducible apply TL.pure); (· exact Y.bytes_src rfl (Src.sl (by assumption)) rfl); (· rfl)) | ((with_reducible apply TW.pure); (· exact Y.bytes_row rfl pkA); (· rfl)) | ((with_reducible apply TW.pure); (· exact Y.bytes_src rfl (Src.sl (by assumption)) rfl); (· rfl))
      | refine TL.defer_v (by rfl) (by rfl) ?_
      | refine TL.defer (by rfl) ?_
      
    | ((with_reducible apply TL.pure); (· exact yV); (· rfl)) | ((with_reducible apply TW.pure); (· exact yV); (· rfl))
    | (refine TL.call (Enters.plain (by kernel_rfl) (by rfl)) (by rfl) (Does.perm (VV _ _) permF) ?_; (rintro e g1 Ln hg1 ⟨vv, iv, k1, k3, hiv, hrv, hjv⟩; subst k1; subst k3; have hov := hjv.one; have HE := Hn.mk (show decide (((blAt s iv : Nat) : Int) = (s.length : Nat)) = false by
        have h1 := (blAt_drop s iv).trans (congrArg blL hrv); rw [decide_eq_false_iff_not]; intro e; apply hr; rw [← h1]; exact List.drop_eq_nil_of_le (by omega)); refine CallK.ret ?_))
    | ((with_reducible apply TL.storeE); (· rfl); (· rfl); (· assumption); (· exact pkA); (· infer_instance))
    | apply TL.turns (Enters.plain (by kernel_rfl) (by rfl)) (BB _ iv hiv _ _) permF (by rfl)
    | refine TL.throws (Enters.plain (by kernel_rfl) (by rfl)) (Throws.perm (NO iv HE.out _ _) permF) (by rfl) ?_
    | ((with_reducible apply TA.takeN 0); (· rfl); (· decide +kernel); (· rfl); (· (first | exact yQ | exact yA | exact yB | exact yM | exact yV)); (· decide +kernel); (· decide +kernel); (· rfl); (· exact fun _ _ _ h => endD_put Tryz.results8 (by decide) (by decide) h); (· rfl))
    | ((with_reducible apply TA.takeN 1); (· rfl); (· decide +kernel); (· rfl); (· (first | exact yQ | exact yA | exact yB | exact yM | exact yV)); (· decide +kernel); (· decide +kernel); (· rfl); (· exact fun _ _ _ h => endD_put Tryz.results8 (by decide) (by decide) h); (· rfl))
    | ((with_reducible apply TA.takeN 2); (· rfl); (· decide +kernel); (· rfl); (· (first | exact yQ | exact yA | exact yB | exact yM | exact yV)); (· decide +kernel); (· decide +kernel); (· rfl); (· exact fun _ _ _ h => endD_put Tryz.results8 (by decide) (by decide) h); (· rfl))
    | ((with_reducible apply TA.takeN 3); (· rfl); (· decide +kernel); (· rfl); (· (first | exact yQ | exact yA | exact yB | exact yM | exact yV)); (· decide +kernel); (· decide +kernel); (· rfl); (· exact fun _ _ _ h => endD_put Tryz.results8 (by decide) (by decide) h); (· rfl))
    | ((with_reducible apply TA.takeN 0); (· rfl); (· decide +kernel); (· rfl); (· (first | exact yQ | exact yA | exact yB | exact yM | exact yV)); (· decide +kernel); (· decide +kernel); (· rfl); (· exact fun _ _ _ h => h); (· rfl))
    | ((with_reducible apply TA.takeN 1); (· rfl); (· decide +kernel); (· rfl); (· (first | exact yQ | exact yA | exact yB | exact yM | exact yV)); (· decide +kernel); (· decide +kernel); (· rfl); (· exact fun _ _ _ h => h); (· rfl))
    | ((with_reducible apply TA.takeN 2); (· rfl); (· decide +kernel); (· rfl); (· (first | exact yQ | exact yA | exact yB | exact yM | exact yV)); (· decide +kernel); (· decide +kernel); (· rfl); (· exact fun _ _ _ h => h); (· rfl))
    | ((with_reducible apply TA.takeN 3); (· rfl); (· decide +kernel); (· rfl); (· (first | exact yQ | exact yA | exact yB | exact yM | exact yV)); (· decide +kernel); (· decide +kernel); (· rfl); (· exact fun _ _ _ h => h); (· rfl))
    | ((with_reducible apply TA.oneN 0); (· rfl); (· rfl); (· decide +kernel); (· rfl))
    | ((with_reducible apply TA.oneN 1); (· rfl); (· rfl); (· decide +kernel); (· rfl))
    | ((with_reducible apply TA.oneN 2); (· rfl); (· rfl); (· decide +kernel); (· rfl))
    | ((with_reducible apply TA.oneN 3); (· rfl); (· rfl); (· decide +kernel); (· rfl))
    | refine TQ.any leF selF ?_
    | refine TC.region_any 11 (_) (by kernel_rfl) rfl selF ?_ | refine TA.done (by decide +kernel) ?_ | refine TQ.any_panic ?_
    | ((with_reducible apply TL.pure); (· exact yA); (· rfl))
    | refine stS ?_ | (refine stB ?_; intro _) | (refine stC ?_; refine And.intro (fun _ => ?_) (fun _ => ?_)))
      rename_i b2 b3 b1
      refine TQ.only (.obj b3 (.cells [.int .i64 0].toArray 23 (0, 0)) :: .obj b2 (.cells [vv].toArray 20 (0, 0)) :: L) selF ?_
      refine TQ.endD_panic_two (L' := L) (vs := [.pointer (some ⟨b3, 0, none⟩)]) (caps := []) (vs' := []) (caps' := [.pointer (some ⟨b3, 0, none⟩), .pointer (some ⟨b2, 0, none⟩)]) (late_stop b3 11 _ g1 _) rfl (late_tail' b3 b2 11 (by decide) _ g1 L) rfl (by kernel_rfl) (by kernel_rfl) Tryz.results8 rvA rvA hg1 ?_ (.refl _) selF
      exact ⟨rfl, rfl⟩
end Go.Proofs.YtfmadoeadmclbaaGreatDoor
