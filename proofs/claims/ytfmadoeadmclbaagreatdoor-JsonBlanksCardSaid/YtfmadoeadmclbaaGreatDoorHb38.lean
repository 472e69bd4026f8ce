/-
  The walk of Parse. The walk of layer 4's awake.
-/
import Derived.Test.YtfmadoeadmclbaaGreatDoorHb1
import Derived.Test.YtfmadoeadmclbaaGreatDoorHb37
import Derived.Test.YtfmadoeadmclbaaGreatDoorHb31
namespace Go.Proofs.YtfmadoeadmclbaaGreatDoor
open Go.RowKit Go.TL
set_option maxRecDepth 100000

theorem late_tail' (b c k : Nat) (hk : k ≠ 0) (x : Value) (g : Gh) (L : List Ent) : Late Tryz.prog 25 #[.pointer (some ⟨b, 0, none⟩), .pointer (some ⟨c, 0, none⟩)] .returning .returning g (.obj b (.cells [.int .i64 (k : Nat)].toArray 23 (0, 0)) :: .obj c (.cells [x].toArray 20 (0, 0)) :: L) (.obj c (.cells [.nilIface].toArray 20 (0, 0)) :: .obj b (.cells [.int .i64 (k : Nat)].toArray 23 (0, 0)) :: L) :=
  ⟨fun w hs => (late_tail b c k hk x g L).h w (hs.perm (List.Perm.swap ..))⟩
def ParseR (o : Except Nat J) (L : List Ent) : Ending → Gh → List Ent → Prop := fun e g' L1 => L1 = L ∧ match o with
    | .ok x => ∃ v, e = .returned (.tuple #[v, .int .i64 0]) ∧ IsJ g' x v
    | .error k => e = .returned (.tuple #[.nilIface, .int .i64 (k : Nat)])
set_option maxHeartbeats 16000000 in
theorem jParse_does (s : List UInt8) (ao : Option Addr) (n cap : Nat) (g : Gh) (L : List Ent) (hS : Sl g (.slice ao n cap) n 1 (byteVals s)) (hn : s.length = n) (hU : GU8 g) : Does Tryz.prog 8 #[.slice ao n cap] g L (ParseR (jparse s) L) := by
  refine Does.ofD1 Tryz.func8 rfl Tryz.ntmps8 rfl ?_
  subst hn
  unfold jparse
  by_cases hlt : 65536 < s.length
  · rw [if_pos hlt]
    have HL : Hn ((65536 : Int) < (s.length : Nat)) := ⟨by omega⟩
    repeat' (first
    | ((with_reducible apply TL.pure); (· exact yQ); (· rfl))
    | ((with_reducible apply TL.pure (d := 7) (v := .bool true)); (· exact Y.gtr_b (decide_eq_true HL.out) rfl rfl); (· rfl)) | ((with_reducible apply TW.pure (d := 7) (v := .bool true)); (· exact Y.gtr_b (decide_eq_true HL.out) rfl rfl); (· rfl))
    | ((with_reducible apply TL.pure); (· exact yV); (· rfl)) | ((with_reducible apply TW.pure); (· exact yV); (· rfl))
    | ((with_reducible apply TL.pure); (· exact yA); (· rfl))
    | refine stS ?_ | (refine stB ?_; intro _) | (refine stC ?_; refine And.intro (fun _ => ?_) (fun _ => ?_)))
    refine TQ.endD_ret_none (L' := L) rfl Tryz.results8 rvA rvA (.refl _) ?_ selF
    exact ⟨rfl, rfl⟩
  rw [if_neg hlt]
  have HL : Hn (¬ (65536 : Int) < (s.length : Nat)) := ⟨by omega⟩
  have VV : ∀ b L, Does Tryz.prog 27 #[.pointer (some ⟨b, 0, none⟩), .int .i64 0] g (.obj b (.cells ([.string ⟨#[]⟩, .int .i64 0].set 0 (.string ⟨s.toArray⟩)).toArray 58 (0, 0)) :: L) (RdR (valT 32 s) b s L) := fun b L => jvalue_does b s (by omega) 32 (Nat.le_refl _) 0 g L (Nat.zero_le _) hU
  cases hv : valT 32 s with
  | error k =>
    rw [hv] at VV
    unfold RdR at VV
    dsimp only at VV ⊢
    have hk : k ≠ 0 := valT_err _ _ _ hv
    repeat' (first
    | ((with_reducible apply TL.pure); (· exact yQ); (· rfl))
    | ((with_reducible apply TL.pure (d := 7) (v := .bool false)); (· exact Y.gtr_b (decide_eq_false HL.out) rfl rfl); (· rfl)) | ((with_reducible apply TW.pure (d := 7) (v := .bool false)); (· exact Y.gtr_b (decide_eq_false HL.out) rfl rfl); (· rfl))
    | ((with_reducible apply TL.pure); (· exact Y.bytes_row rfl pkA); (· rfl)) | ((with_reducible apply TL.pure); (· exact Y.bytes_src rfl (Src.sl (by assumption)) rfl); (· rfl)) | ((with_reducible apply TW.pure); (· exact Y.bytes_row rfl pkA); (· rfl)) | ((with_reducible apply TW.pure); (· exact Y.bytes_src rfl (Src.sl (by assumption)) rfl); (· rfl))
      | refine TL.defer_v (by rfl) (by rfl) ?_
      | refine TL.defer (by rfl) ?_
      
    | ((with_reducible apply TL.pure); (· exact yV); (· rfl)) | ((with_reducible apply TW.pure); (· exact yV); (· rfl))
    | (refine TL.call (Enters.plain (by kernel_rfl) (by rfl)) (by rfl) (Does.perm (VV _ _) permF) ?_; (rintro e g1 Ln hg1 ⟨k1, k3⟩; subst k1; subst k3; refine CallK.panic ?_))
    | ((with_reducible apply TL.pure); (· exact yA); (· rfl))
    | refine stS ?_ | (refine stB ?_; intro _) | (refine stC ?_; refine And.intro (fun _ => ?_) (fun _ => ?_)))
    rename_i b2 b3 b1
    refine TQ.endD_panic_two (L' := L) (vs := [.pointer (some ⟨b3, 0, none⟩)]) (caps := []) (vs' := []) (caps' := [.pointer (some ⟨b3, 0, none⟩), .pointer (some ⟨b2, 0, none⟩)]) (late_stop b3 k _ g1 _) rfl (late_tail' b3 b2 k (hk) _ g1 L) rfl (by kernel_rfl) (by kernel_rfl) Tryz.results8 rvA rvA (hg1) ?_ (.refl _) selF
    exact ⟨rfl, rfl⟩
  | ok p =>
    obtain ⟨x, r⟩ := p
    rw [hv] at VV
    unfold RdR at VV
    dsimp only at VV ⊢
    have BB := fun b iv (h : iv ≤ s.length) g1 L => jblanks_turns b s iv g1 L h (by omega)
    by_cases hr : blL r = []
    · rw [if_pos hr]
      have YE := fun iv (h : decide (((blAt s iv : Nat) : Int) = (s.length : Nat)) = true) g1 L => need_yes (b := decide (((blAt s iv : Nat) : Int) = (s.length : Nat))) h 11 g1 L
      repeat' (first
    | ((with_reducible apply TL.pure); (· exact yQ); (· rfl))
    | ((with_reducible apply TL.pure (d := 7) (v := .bool false)); (· exact Y.gtr_b (decide_eq_false HL.out) rfl rfl); (· rfl)) | ((with_reducible apply TW.pure (d := 7) (v := .bool false)); (· exact Y.gtr_b (decide_eq_false HL.out) rfl rfl); (· rfl))
    | ((with_reducible apply TL.pure); (· exact Y.bytes_row rfl pkA); (· rfl)) | ((with_reducible apply TL.pure); (· exact Y.bytes_src rfl (Src.sl (by assumption)) rfl); (· rfl)) | ((with_reducible apply TW.pure); (· exact Y.bytes_row rfl pkA); (· rfl)) | ((with_reducible apply TW.pure); (· exact Y.bytes_src rfl (Src.sl (by assumption)) rfl); (· rfl))
      | refine TL.defer_v (by rfl) (by rfl) ?_
      | refine TL.defer (by rfl) ?_
      
    | ((with_reducible apply TL.pure); (· exact yV); (· rfl)) | ((with_reducible apply TW.pure); (· exact yV); (· rfl))
    | (refine TL.call (Enters.plain (by kernel_rfl) (by rfl)) (by rfl) (Does.perm (VV _ _) permF) ?_; (rintro e g1 Ln hg1 ⟨vv, iv, k1, k3, hiv, hrv, hjv⟩; subst k1; subst k3; have hov := hjv.one; have HE := Hn.mk (show decide (((blAt s iv : Nat) : Int) = (s.length : Nat)) = true by
        have h1 := congrArg List.length ((blAt_drop s iv).trans (hrv ▸ hr)); rw [List.length_drop, List.length_nil] at h1; have h2 := (blAt_bd s iv hiv).2; rw [decide_eq_true_iff]; omega); refine CallK.ret ?_))
    | ((with_reducible apply TL.storeE); (· rfl); (· rfl); (· assumption); (· exact pkA); (· infer_instance))
    | apply TL.turns (Enters.plain (by kernel_rfl) (by rfl)) (BB _ iv hiv _ _) permF (by rfl)
    | refine TL.gives (Enters.plain (by kernel_rfl) (by rfl)) (Gives.perm (YE iv HE.out _ _) permF) (by rfl) ?_
    | ((with_reducible apply TA.takeN 0); (· rfl); (· decide +kernel); (· rfl); (· (first | exact yQ | exact yA | exact yB | exact yM | exact yV)); (· decide +kernel); (· decide +kernel); (· rfl); (· exact fun _ _ _ h => endD_put Tryz.results8 (by decide) (by decide) h); (· rfl))
    | ((with_reducible apply TA.takeN 1); (· rfl); (· decide +kernel); (· rfl); (· (first | exact yQ | exact yA | exact yB | exact yM | exact yV)); (· decide +kernel); (· decide +kernel); (· rfl); (· exact fun _ _ _ h => endD_put Tryz.results8 (by decide) (by decide) h); (· rfl))
    | ((with_reducible apply TA.takeN 2); (· rfl); (· decide +kernel); (· rfl); (· (first | exact yQ | exact yA | exact yB | exact yM | exact yV)); (· decide +kernel); (· decide +kernel); (· rfl); (· exact fun _ _ _ h => endD_put Tryz.results8 (by decide) (by decide) h); (· rfl))
    | ((with_reducible apply TA.takeN 3); (· rfl); (· decide +kernel); (· rfl); (· (first | exact yQ | exact yA | exact yB | exact yM | exact yV)); (· decide +kernel); (· decide +kernel); (· rfl); (· exact fun _ _ _ h => endD_put Tryz.results8 (by decide) (by decide) h); (· rfl))
    | ((with_reducible apply TA.takeN 0); (· rfl); (· decide +kernel); (· rfl); (· (first | exact yQ | exact yA | exact yB | exact yM | exact yV)); (· decide +kernel); (· decide +kernel); (· rfl); (· exact fun _ _ _ h => h); (· rfl))
    | ((with_reducible apply TA.takeN 1); (· rfl); (· decide +kernel); (· rfl); (· (first | exact yQ | exact yA | exact yB | exact yM | exact yV)); (· decide +kernel); (· decide +kernel); (· rfl); (· exact fun _ _ _ h => h); (· rfl))
    | ((with_reducible apply TA.takeN 2); (· rfl); (· decide +kernel); (· rfl); (· (first | exact yQ | exact yA | exact yB | exact yM | exact yV)); (· decide +kernel); (· decide +kernel); (· rfl); (· exact fun _ _ _ h => h); (· rfl))
    | ((with_reducible apply TA.takeN 3); (· rfl); (· decide +kernel); (· rfl); (· (first | exact yQ | exact yA | exact yB | exact yM | exact yV)); (· decide +kernel); (· decide +kernel); (· rfl); (· exact fun _ _ _ h => h); (· rfl))
    | ((with_reducible apply TA.oneN 0); (· rfl); (· rfl); (· decide +kernel); (· rfl))
    | ((with_reducible apply TA.oneN 1); (· rfl); (· rfl); (· decide +kernel); (· rfl))
    | ((with_reducible apply TA.oneN 2); (· rfl); (· rfl); (· decide +kernel); (· rfl))
    | ((with_reducible apply TA.oneN 3); (· rfl); (· rfl); (· decide +kernel); (· rfl))
    | refine TQ.any leF selF ?_
    | refine TC.region_any 11 (_) (by kernel_rfl) rfl selF ?_ | refine TA.done (by decide +kernel) ?_ | refine TQ.any_panic ?_
    | ((with_reducible apply TL.pure); (· exact yA); (· rfl))
    | refine stS ?_ | (refine stB ?_; intro _) | (refine stC ?_; refine And.intro (fun _ => ?_) (fun _ => ?_)))
      rename_i b2 b3 b1
      refine TQ.only (.obj b3 (.cells [.int .i64 0].toArray 23 (0, 0)) :: .obj b2 (.cells [vv].toArray 20 (0, 0)) :: L) selF ?_
      refine TQ.endD_ret_two (L' := L) (vs := [.pointer (some ⟨b3, 0, none⟩)]) (caps := []) (vs' := []) (caps' := [.pointer (some ⟨b3, 0, none⟩), .pointer (some ⟨b2, 0, none⟩)]) (late_idle b3 g1 _) (late_zero b3 b2 g1 (.obj b2 (.cells [vv].toArray 20 (0, 0)) :: L)) rfl (by kernel_rfl) (by kernel_rfl) Tryz.results8 rvA rvA hg1 ?_ (.refl _) selF
      exact ⟨rfl, _, rfl, hjv⟩
    · rw [if_neg hr]
      have NO := fun iv (h : decide (((blAt s iv : Nat) : Int) = (s.length : Nat)) = false) g1 L => need_no (b := decide (((blAt s iv : Nat) : Int) = (s.length : Nat))) h 11 g1 L
      repeat' (first
    | ((with_reducible apply TL.pure); (· exact yQ); (· rfl))
    | ((with_reducible apply TL.pure (d := 7) (v := .bool false)); (· exact Y.gtr_b (decide_eq_false HL.out) rfl rfl); (· rfl)) | ((with_reducible apply TW.pure (d := 7) (v := .bool false)); (· exact Y.gtr_b (decide_eq_false HL.out) rfl rfl); (· rfl))
    | ((with_reducible apply TL.pure); (· exact Y.bytes_row rfl pkA); (· rfl)) | ((with_reducible apply TL.pure); (· exact Y.bytes_src rfl (Src.sl (by assumption)) rfl); (· rfl)) | ((with_reducible apply TW.pure); (· exact Y.bytes_row rfl pkA); (· rfl)) | ((with_reducible apply TW.pure); (· exact Y.bytes_src rfl (Src.sl (by assumption)) rfl); (· rfl))
      | refine TL.defer_v (by rfl) (by rfl) ?_
      | refine TL.defer (by rfl) ?_
      
    | ((with_reducible apply TL.pure); (· exact yV); (· rfl)) | ((with_reducible apply TW.pure); (· exact yV); (· rfl))
    | (refine TL.call (Enters.plain (by kernel_rfl) (by rfl)) (by rfl) (Does.perm (VV _ _) permF) ?_; (rintro e g1 Ln hg1 ⟨vv, iv, k1, k3, hiv, hrv, hjv⟩; subst k1; subst k3; have hov := hjv.one; have HE := Hn.mk (show decide (((blAt s iv : Nat) : Int) = (s.length : Nat)) = false by
        have h1 := (blAt_drop s iv).trans (congrArg blL hrv); rw [decide_eq_false_iff_not]; intro e; apply hr; rw [← h1]; exact List.drop_eq_nil_of_le (by omega)); refine CallK.ret ?_))
    | ((with_reducible apply TL.storeE); (· rfl); (· rfl); (· assumption); (· exact pkA); (· infer_instance))
    | apply TL.turns (Enters.plain (by kernel_rfl) (by rfl)) (BB _ iv hiv _ _) permF (by rfl)
    | refine TL.throws (Enters.plain (by kernel_rfl) (by rfl)) (Throws.perm (NO iv HE.out _ _) permF) (by rfl) ?_
    | ((with_reducible apply TA.takeN 0); (· rfl); (· decide +kernel); (· rfl); (· (first | exact yQ | exact yA | exact yB | exact yM | exact yV)); (· decide +kernel); (· decide +kernel); (· rfl); (· exact fun _ _ _ h => endD_put Tryz.results8 (by decide) (by decide) h); (· rfl))
    | ((with_reducible apply TA.takeN 1); (· rfl); (· decide +kernel); (· rfl); (· (first | exact yQ | exact yA | exact yB | exact yM | exact yV)); (· decide +kernel); (· decide +kernel); (· rfl); (· exact fun _ _ _ h => endD_put Tryz.results8 (by decide) (by decide) h); (· rfl))
    | ((with_reducible apply TA.takeN 2); (· rfl); (· decide +kernel); (· rfl); (· (first | exact yQ | exact yA | exact yB | exact yM | exact yV)); (· decide +kernel); (· decide +kernel); (· rfl); (· exact fun _ _ _ h => endD_put Tryz.results8 (by decide) (by decide) h); (· rfl))
    | ((with_reducible apply TA.takeN 3); (· rfl); (· decide +kernel); (· rfl); (· (first | exact yQ | exact yA | exact yB | exact yM | exact yV)); (· decide +kernel); (· decide +kernel); (· rfl); (· exact fun _ _ _ h => endD_put Tryz.results8 (by decide) (by decide) h); (· rfl))
    | ((with_reducible apply TA.takeN 0); (· rfl); (· decide +kernel); (· rfl); (· (first | exact yQ | exact yA | exact yB | exact yM | exact yV)); (· decide +kernel); (· decide +kernel); (· rfl); (· exact fun _ _ _ h => h); (· rfl))
    | ((with_reducible apply TA.takeN 1); (· rfl); (· decide +kernel); (· rfl); (· (first | exact yQ | exact yA | exact yB | exact yM | exact yV)); (· decide +kernel); (· decide +kernel); (· rfl); (· exact fun _ _ _ h => h); (· rfl))
    | ((with_reducible apply TA.takeN 2); (· rfl); (· decide +kernel); (· rfl); (· (first | exact yQ | exact yA | exact yB | exact yM | exact yV)); (· decide +kernel); (· decide +kernel); (· rfl); (· exact fun _ _ _ h => h); (· rfl))
    | ((with_reducible apply TA.takeN 3); (· rfl); (· decide +kernel); (· rfl); (· (first | exact yQ | exact yA | exact yB | exact yM | exact yV)); (· decide +kernel); (· decide +kernel); (· rfl); (· exact fun _ _ _ h => h); (· rfl))
    | ((with_reducible apply TA.oneN 0); (· rfl); (· rfl); (· decide +kernel); (· rfl))
    | ((with_reducible apply TA.oneN 1); (· rfl); (· rfl); (· decide +kernel); (· rfl))
    | ((with_reducible apply TA.oneN 2); (· rfl); (· rfl); (· decide +kernel); (· rfl))
    | ((with_reducible apply TA.oneN 3); (· rfl); (· rfl); (· decide +kernel); (· rfl))
    | refine TQ.any leF selF ?_
    | refine TC.region_any 11 (_) (by kernel_rfl) rfl selF ?_ | refine TA.done (by decide +kernel) ?_ | refine TQ.any_panic ?_
    | ((with_reducible apply TL.pure); (· exact yA); (· rfl))
    | refine stS ?_ | (refine stB ?_; intro _) | (refine stC ?_; refine And.intro (fun _ => ?_) (fun _ => ?_)))
      rename_i b2 b3 b1
      refine TQ.only (.obj b3 (.cells [.int .i64 0].toArray 23 (0, 0)) :: .obj b2 (.cells [vv].toArray 20 (0, 0)) :: L) selF ?_
      refine TQ.endD_panic_two (L' := L) (vs := [.pointer (some ⟨b3, 0, none⟩)]) (caps := []) (vs' := []) (caps' := [.pointer (some ⟨b3, 0, none⟩), .pointer (some ⟨b2, 0, none⟩)]) (late_stop b3 11 _ g1 _) rfl (late_tail' b3 b2 11 (by decide) _ g1 L) rfl (by kernel_rfl) (by kernel_rfl) Tryz.results8 rvA rvA hg1 ?_ (.refl _) selF
      exact ⟨rfl, rfl⟩
end Go.Proofs.YtfmadoeadmclbaaGreatDoor
namespace Go.Proofs.YtfmadoeadmclbaaGreatDoor
open Go.RowKit Go.TL
set_option maxRecDepth 100000

abbrev awS1 : List UInt8 := [32, 123, 34, 97, 34, 58, 91, 49, 46, 53, 48, 44, 110, 117, 108, 108, 44, 34, 92, 117, 48, 48, 101, 57, 92, 47, 34, 93, 125, 32]
abbrev awS2 : List UInt8 := [123, 34, 97, 34, 58, 49, 44, 34, 97, 34, 58, 50, 125]
abbrev awS3 : List UInt8 := [91, 49, 101, 57, 57, 93]
abbrev awS4 : List UInt8 := [34, 92, 117, 100, 56, 48, 48, 34]
abbrev awP : List UInt8 := [123, 34, 97, 34, 58, 91, 49, 46, 53, 44, 110, 117, 108, 108, 44, 34, 195, 169, 47, 34, 93, 125]
abbrev awX : J := .obj [[97]] [.list [.num 15000000, .null, .text [195, 169, 47]]]
theorem awj1 : jparse awS1 = .ok awX := by kernel_rfl
theorem awj2 : jparse awS2 = .error 13 := by kernel_rfl
theorem awj3 : jparse awS3 = .error 12 := by kernel_rfl
theorem awj4 : jparse awS4 = .error 11 := by kernel_rfl
theorem awl : lookJ awX 0 = 0 := by kernel_rfl
theorem awn : printL 15000000 = ([49, 46, 53], 0) := by
  have d1 : Lib.decDigits 1 = [49] := by rw [Lib.decDigits]; rfl
  have d2 : Lib.decDigits 5000000 = [53, 48, 48, 48, 48, 48, 48] := by
    rw [Lib.decDigits, dif_neg (by omega), Lib.decDigits, dif_neg (by omega), Lib.decDigits, dif_neg (by omega), Lib.decDigits, dif_neg (by omega), Lib.decDigits, dif_neg (by omega), Lib.decDigits, dif_neg (by omega), Lib.decDigits, dif_pos (by omega)]
    rfl
  rw [printL, if_neg (by omega), if_neg (by omega)]
  have e1 : (15000000 : Int).natAbs / 10000000 = 1 := by decide
  have e2 : (15000000 : Int).natAbs % 10000000 = 5000000 := by decide
  rw [e1, e2, if_neg (by omega), d1, restL, d2]
  rfl
theorem awp : prJ awX = awP := by
  rw [prJ, prMs, prJ, prJs, prJ, awn]
  rfl
set_option maxHeartbeats 32000000 in
theorem awake04_gives {g : Gh} {L : List Ent} (hT : GTabs g) (hU : GU8 g) : Gives Tryz.prog 12 #[] g L (.bool true) := by
  refine .of (Does.of0 Tryz.func12 rfl Tryz.ntmps12 rfl ?_)
  have P1 := fun (g2 : Gh) (h : g.le g2) (b : Nat) (hs : Sl g2 (.slice (some ⟨b, 0, none⟩) 30 30) 30 1 (byteVals awS1)) L => jParse_does awS1 (some ⟨b, 0, none⟩) 30 30 g2 L hs rfl (hU.le h)
  have P2 := fun (g2 : Gh) (h : g.le g2) (b : Nat) (hs : Sl g2 (.slice (some ⟨b, 0, none⟩) 13 13) 13 1 (byteVals awS2)) L => jParse_does awS2 (some ⟨b, 0, none⟩) 13 13 g2 L hs rfl (hU.le h)
  have P3 := fun (g2 : Gh) (h : g.le g2) (b : Nat) (hs : Sl g2 (.slice (some ⟨b, 0, none⟩) 6 6) 6 1 (byteVals awS3)) L => jParse_does awS3 (some ⟨b, 0, none⟩) 6 6 g2 L hs rfl (hU.le h)
  have P4 := fun (g2 : Gh) (h : g.le g2) (b : Nat) (hs : Sl g2 (.slice (some ⟨b, 0, none⟩) 8 8) 8 1 (byteVals awS4)) L => jParse_does awS4 (some ⟨b, 0, none⟩) 8 8 g2 L hs rfl (hU.le h)
  rw [awj1] at P1
  rw [awj2] at P2
  rw [awj3] at P3
  rw [awj4] at P4
  unfold ParseR at P1 P2 P3 P4
  dsimp only at P1 P2 P3 P4
  have PP := fun (g2 : Gh) (h : g.le g2) (v : Value) (hj : IsJ g2 awX v) L => jPrint_does awX v g2 L hj (by simp [smJ, smJs]) awl (by decide) (hT.le h) (hU.le h)
  rw [awp] at PP
  unfold PrintR at PP
  have hlp : awP.length = 22 := rfl
  rw [hlp] at PP
  repeat' (first
    | ((with_reducible apply TL.pure); (· exact yQ); (· rfl))
    | ((with_reducible apply TL.build_slice (len := 30)); (· rfl); (· rfl); (· exact oneA); (· rfl); (· rfl); (· rfl); intro bb)
    | ((with_reducible apply TL.mark_bytes (k := 30)); (· rfl); (· exact pkA); (· rfl); (· rfl); intro g1 h1 s1; (have Q1 := P1 g1 h1 _ s1; clear P1 s1))
    | (refine TL.call (Enters.plain (by kernel_rfl) (by rfl)) (by rfl) (Q1 _) ?_; (rintro e g2 Ln h2 ⟨k2, v2, k1, j2⟩; have k2 := k2.symm; subst k1; subst k2; (have h02 := h1.trans h2; have Q := PP g2 h02 v2 j2; have hov := IsJ.one j2; clear Q1 PP j2); refine CallK.ret ?_))
    | (refine TL.call (Enters.plain (by kernel_rfl) (by rfl)) (by rfl) (Q _) ?_; (rintro e g3 Ln h3 ⟨bp, cp, k1, k2, s3⟩; have k2 := k2.symm; subst k1; subst k2; (have h03 := h02.trans h3; clear Q); refine CallK.ret ?_))
    | ((with_reducible apply TL.build_slice (len := 13)); (· rfl); (· rfl); (· exact oneA); (· rfl); (· rfl); (· rfl); intro bb)
    | ((with_reducible apply TL.mark_bytes (k := 13)); (· rfl); (· exact pkA); (· rfl); (· rfl); intro g4 h4 s4; (have h04 := h03.trans h4; have s34 := s3.le h4; have Q2 := P2 g4 h04 _ s4; clear P2 s4 s3))
    | (refine TL.call (Enters.plain (by kernel_rfl) (by rfl)) (by rfl) (Q2 _) ?_; (rintro e g5 Ln h5 ⟨k2, k1⟩; have k2 := k2.symm; subst k1; subst k2; (have h05 := h04.trans h5; have s35 := s34.le h5; clear Q2 s34); refine CallK.ret ?_))
    | ((with_reducible apply TL.build_slice (len := 6)); (· rfl); (· rfl); (· exact oneA); (· rfl); (· rfl); (· rfl); intro bb)
    | ((with_reducible apply TL.mark_bytes (k := 6)); (· rfl); (· exact pkA); (· rfl); (· rfl); intro g6 h6 s6; (have h06 := h05.trans h6; have s36 := s35.le h6; have Q3 := P3 g6 h06 _ s6; clear P3 s6 s35))
    | (refine TL.call (Enters.plain (by kernel_rfl) (by rfl)) (by rfl) (Q3 _) ?_; (rintro e g7 Ln h7 ⟨k2, k1⟩; have k2 := k2.symm; subst k1; subst k2; (have h07 := h06.trans h7; have s37 := s36.le h7; clear Q3 s36); refine CallK.ret ?_))
    | ((with_reducible apply TL.build_slice (len := 8)); (· rfl); (· rfl); (· exact oneA); (· rfl); (· rfl); (· rfl); intro bb)
    | ((with_reducible apply TL.mark_bytes (k := 8)); (· rfl); (· exact pkA); (· rfl); (· rfl); intro g8 h8 s8; (have h08 := h07.trans h8; have s38 := s37.le h8; have Q4 := P4 g8 h08 _ s8; clear P4 s8 s37))
    | (refine TL.call (Enters.plain (by kernel_rfl) (by rfl)) (by rfl) (Q4 _) ?_; (rintro e g9 Ln h9 ⟨k2, k1⟩; have k2 := k2.symm; subst k1; subst k2; (have h09 := h08.trans h9; have s39 := s38.le h9; clear Q4 s38); refine CallK.ret ?_))
    | ((with_reducible apply TL.pure); (· exact Y.bytes_row rfl pkA); (· rfl)) | ((with_reducible apply TL.pure); (· exact Y.bytes_src rfl (Src.sl (by assumption)) rfl); (· rfl)) | ((with_reducible apply TW.pure); (· exact Y.bytes_row rfl pkA); (· rfl)) | ((with_reducible apply TW.pure); (· exact Y.bytes_src rfl (Src.sl (by assumption)) rfl); (· rfl))
    | ((with_reducible apply TL.pure); (· exact yV); (· rfl)) | ((with_reducible apply TW.pure); (· exact yV); (· rfl))
    | ((with_reducible apply TL.pure); (· exact yA); (· rfl))
    | refine stS ?_ | (refine stB ?_; intro _) | (refine stC ?_; refine And.intro (fun _ => ?_) (fun _ => ?_)))
  refine TQ.less h09 ?_
  refine TQ.endR1 (L' := L) Tryz.results12 rvA rfl (.refl _) ?_ selF
  exact ⟨rfl, rfl, rfl⟩
end Go.Proofs.YtfmadoeadmclbaaGreatDoor
