/-
  QueryConditions answers true: proved of every input that can be read, the listed tables being as the program's text lays them.
-/
import Derived.Test.YtgollffmdpejiaaGreatDoorQz50
import Derived.Test.YtgollffmdpejiaaGreatDoorQz48
import Derived.Test.YtgollffmdpejiaaGreatDoorCards
import Derived.Test.YtgollffmdpejiaaGreatDoorTie
import Derived.ChangeMaps5
import Derived.Test.YtgollffmdpejiaaGreatDoorQz38
namespace Go.Proofs.YtgollffmdpejiaaGreatDoor
open Go.ChangeShapes Go.WideShapes Go.ChangeAt Go.RowKit Go.Joins Go.ChangeMaps Go.TL

set_option maxRecDepth 100000 in
theorem queryConditions_lifted (os : Os) (started : os.Started) (H : Type) (enc : TypeId × Value → H) :
    ReturnsInHanded {} Tryz.checked os 6 .any (fun w args => (Rows.queryConditionsSpec.pre enc Tryz.prog Tryz.f6 Rows.queryConditionsRow.domain false w args ∧ laidMetH Tryz.prog Rows.queryConditionsRow.laid w) ∧ sizedMet enc Tryz.prog Tryz.f6 (OpenSpec.ofChange Rows.queryConditionsSpec) false w args)
      (Rows.queryConditionsSpec.post enc Tryz.prog Tryz.f6 false true false false) := by
  refine returnsInHanded_of_change_and (C := Tryz.checked) (X := fun w _ => laidMetH Tryz.prog Rows.queryConditionsRow.laid w) (fun _ _ _ hh h => h.of_heap hh) own started (by kernel_rfl) Tryz.func6
    (ChangeSpec.witness_shaped (enc := enc) (C := Tryz.checked) (os := os) (X := fun w _ => laidMetH Tryz.prog Rows.queryConditionsRow.laid w) false (World.laidAll Tryz.prog os Rows.queryConditionsRow.laid) #[.agg #[.int .i64 0, .bool false, .int .i64 0, .string ⟨#[]⟩, .slice none 0 0, .slice none 0 0]] 8 (World.laidAll_os _ _ _)
      (World.shaped_of_ZipB (by kernel_rfl) (by kernel_rfl)) (by kernel_rfl) (by kernel_rfl) (by kernel_rfl)
      (by rw [MakeChecks.laidMetH_plain _ _ _ (by kernel_rfl)]; exact laidMet_laidAll _ (by kernel_rfl) (by kernel_rfl))) ?_
  intro W base args ds gs before hval0 hW _ _ hL _
  have hval : ∀ (j : Nat) t v, Tryz.f6.params[j]? = some t → args[j]? = some v → Value.okWide Tryz.prog W .any base t v := hval0
  have hW' := hW
  obtain ⟨p, q, hA0, hV, rfl, hfz, hnd⟩ := hW
  have hA : DataW.TrodAll enc Tryz.prog W 0 (fun _ => true) true Tryz.f6.params.toList args.toList ds p := hA0
  rw [Tryz.params6] at hA hval
  obtain ⟨v0, d0, rfl, rfl, h0⟩ := trodAll_one hA
  obtain ⟨x0, cs0, rfl, hV0⟩ := open_arg_V h0
  refine (((lawQueryConditions x0 _ (.of W) _ hV0 (gtabs_of (tabs_of hL)) (u8_of hL) (sp_of hL)).h W (.start W)).mono fun _ _ h => And.intro h.1 h.2.below).mono fun e W' ⟨he, hb⟩ => ?_
  exact ⟨_, he, law_post laidOut (of_decide_eq_true (by kernel_rfl)) rfl rfl rfl Tryz.underlying4 hW' hb⟩

theorem and_t {a b : Bool} (h : a = true) (k : b = true) : (a && b) = true := by rw [h, k]; rfl
set_option maxHeartbeats 16000000 in
theorem queryConditions_closed : joinedFacts Tryz.pinned.checked.prog 6 Tryz.f6 Rows.queryConditionsSpec Rows.queryConditionsRow = true := by
  unfold joinedFacts
  refine and_t (and_t (and_t (and_t (and_t (and_t (and_t (and_t (and_t (and_t (and_t (and_t (and_t (and_t (and_t (and_t (and_t (and_t (and_t (and_t (and_t (and_t (and_t (and_t (and_t (and_t (and_t (and_t (and_t (and_t (and_t ?_ ?_) ?_) ?_) ?_) ?_) ?_) ?_) ?_) ?_) ?_) ?_) ?_) ?_) ?_) ?_) ?_) ?_) ?_) ?_) ?_) ?_) ?_) ?_) ?_) ?_) ?_) ?_) ?_) ?_) ?_) ?_
  all_goals as_aux_lemma => kernel_rfl
theorem queryConditions_said : Rows.QueryConditionsSaid :=
  OpenClaim.holds_of_wide 6 Tryz.f6 rfl rfl rfl rfl rfl rfl rfl ⟨rfl, rfl, rfl, rfl, rfl⟩ rfl rfl rfl rfl rfl (by kernel_rfl) Tryz.func6 queryConditions_closed
    (of_decide_eq_true (by kernel_rfl)) (by unfold Func.isWrapper; first | (rw [if_pos (by decide +kernel)]; kernel_rfl) | (rw [if_neg (by decide +kernel)]; exact ⟨rfl, rfl⟩))
    (fun os started H enc _ => queryConditions_lifted os started H enc)

theorem queryConditions_plain (f : FuncId) (fn : Func) (hf : Tryz.pinned.checked.prog.funcNamed "waywiser/waywiserlaw21.QueryConditions" = some f) (hfn : Tryz.pinned.checked.prog.funcs[f]? = some fn) :
    true = Tryz.pinned.checked.prog.looks [] ∧ ∀ (j : Nat) t, fn.params[j]? = some t → Tryz.pinned.checked.prog.wantsStandIn t = false := by
  obtain rfl : f = 6 := Option.some.inj ((show Tryz.prog.funcNamed "waywiser/waywiserlaw21.QueryConditions" = some 6 by kernel_rfl).symm.trans hf) |>.symm
  obtain rfl : fn = Tryz.f6 := (Option.some.inj (Tryz.func6.symm.trans hfn)).symm
  refine ⟨by kernel_rfl, fun j t ht => ?_⟩
  rw [Tryz.params6] at ht
  obtain rfl : t = 29 := by simpa using Array.mem_of_getElem? ht
  exact (show Tryz.prog.wantsStandIn 29 = false by kernel_rfl)

theorem queryConditions_holds : Rows.QueryConditionsCardSaid :=
  Claim7.holds_tied_plain_at .later [] _ _ _ _ queryConditions_said (fun _ h => by cases h) (by kernel_rfl) (fun _ h => by cases h) queryConditions_row_tie rfl ⟨rfl, rfl⟩ (by kernel_rfl) rfl queryConditions_plain (by kernel_rfl)
end Go.Proofs.YtgollffmdpejiaaGreatDoor
