/-
  NumShifts answers true for whatever text: proved of every input that can be read, the listed tables being as the program's text lays them.
-/
import Derived.Test.YtlffebmhknilhaaDoorLawNumShifts
import Derived.Test.YtlffebmhknilhaaDoorNumOwn
import Derived.Test.YtlffebmhknilhaaDoorCards
import Derived.Test.YtlffebmhknilhaaDoorTie
import Derived.ChangeMaps5
namespace Go.Proofs.YtlffebmhknilhaaDoor
open Go.ChangeShapes Go.WideShapes Go.ChangeAt Go.RowKit Go.Joins Go.ChangeMaps

set_option maxRecDepth 100000 in
theorem numShifts_lifted (os : Os) (started : os.Started) (H : Type) (enc : TypeId × Value → H) :
    ReturnsInHanded {} Tryd.checked os 6 .any (fun w args => (Rows.numShiftsSpec.pre enc Tryd.prog Tryd.f6 Rows.numShiftsRow.domain false w args ∧ laidMetH Tryd.prog Rows.numShiftsRow.laid w) ∧ sizedMet enc Tryd.prog Tryd.f6 (OpenSpec.ofChange Rows.numShiftsSpec) false w args)
      (Rows.numShiftsSpec.post enc Tryd.prog Tryd.f6 false true false false) := by
  refine returnsInHanded_of_change_and (C := Tryd.checked) (X := fun w _ => laidMetH Tryd.prog Rows.numShiftsRow.laid w) (fun _ _ _ hh h => h.of_heap hh) own started (by kernel_rfl) Tryd.func6
    (ChangeSpec.witness_shaped (enc := enc) (C := Tryd.checked) (os := os) (X := fun w _ => laidMetH Tryd.prog Rows.numShiftsRow.laid w) false (World.laidAll Tryd.prog os Rows.numShiftsRow.laid) #[.string ⟨#[]⟩] 8 (World.laidAll_os _ _ _)
      (World.shaped_of_ZipB (by kernel_rfl) (by kernel_rfl)) (by kernel_rfl) (by kernel_rfl) (by kernel_rfl)
      (by rw [MakeChecks.laidMetH_plain _ _ _ (by kernel_rfl)]; exact laidMet_laidAll _ (by kernel_rfl) (by kernel_rfl))) ?_
  intro W base args ds gs before hval0 hW _ _ hL _
  have hval : ∀ (j : Nat) t v, Tryd.f6.params[j]? = some t → args[j]? = some v → Value.okWide Tryd.prog W .any base t v := hval0
  have hW' := hW
  obtain ⟨p, q, hA0, hV, rfl, hfz, hnd⟩ := hW
  have hA : DataW.TrodAll enc Tryd.prog W 0 (fun _ => true) true Tryd.f6.params.toList args.toList ds p := hA0
  rw [Tryd.params6] at hA hval
  obtain ⟨v0, d0, rfl, rfl, h0⟩ := trodAll_one hA
  obtain ⟨S, rfl, _, _, hS⟩ := open_string Tryd.underlying9 (hval 0 9 v0 rfl rfl) h0
  refine (lawNumShifts_any S S.data.toList W rfl (by unfold maxLen at hS; omega) (tabs_of hL)).mono fun e W' ⟨he, hb⟩ => ?_
  exact ⟨_, he, law_post laidOut (of_decide_eq_true (by kernel_rfl)) rfl rfl rfl Tryd.underlying4 hW' hb⟩

theorem numShifts_said : Rows.NumShiftsSaid :=
  OpenClaim.holds_of_wide 6 Tryd.f6 rfl rfl rfl rfl rfl rfl rfl ⟨rfl, rfl, rfl, rfl, rfl⟩ rfl rfl rfl rfl rfl (by kernel_rfl) Tryd.func6 (by kernel_rfl)
    (of_decide_eq_true (by kernel_rfl)) (by unfold Func.isWrapper; first | (rw [if_pos (by decide +kernel)]; kernel_rfl) | (rw [if_neg (by decide +kernel)]; exact ⟨rfl, rfl⟩))
    (fun os started H enc _ => numShifts_lifted os started H enc)

theorem numShifts_plain (f : FuncId) (fn : Func) (hf : Tryd.pinned.checked.prog.funcNamed "waywiser/waywiserlaw03.NumShifts" = some f) (hfn : Tryd.pinned.checked.prog.funcs[f]? = some fn) :
    false = Tryd.pinned.checked.prog.looks [] ∧ ∀ (j : Nat) t, fn.params[j]? = some t → Tryd.pinned.checked.prog.wantsStandIn t = false := by
  obtain rfl : f = 6 := Option.some.inj ((show Tryd.prog.funcNamed "waywiser/waywiserlaw03.NumShifts" = some 6 by kernel_rfl).symm.trans hf) |>.symm
  obtain rfl : fn = Tryd.f6 := (Option.some.inj (Tryd.func6.symm.trans hfn)).symm
  refine ⟨by kernel_rfl, fun j t ht => ?_⟩
  rw [Tryd.params6] at ht
  obtain rfl : t = 9 := by simpa using Array.mem_of_getElem? ht
  exact (show Tryd.prog.wantsStandIn 9 = false by kernel_rfl)

theorem numShifts_holds : Rows.NumShiftsCardSaid :=
  Claim7.holds_tied_plain_at .later [] _ _ _ _ numShifts_said (fun _ h => by cases h) (by kernel_rfl) (fun _ h => by cases h) numShifts_row_tie rfl ⟨rfl, rfl⟩ (by kernel_rfl) rfl numShifts_plain (by kernel_rfl)
end Go.Proofs.YtlffebmhknilhaaDoor
