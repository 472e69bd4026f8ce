/-
  OrderHolds answers true: proved of every input that can be read, the listed tables being as the program's text lays them.
-/
import Derived.Test.YthifckfpjmhmjaaDoorOLawHolds
import Derived.Test.YthifckfpjmhmjaaDoorOOwn
import Derived.Test.YthifckfpjmhmjaaDoorCards
import Derived.Test.YthifckfpjmhmjaaDoorTie
import Derived.ChangeMaps5
import Derived.Test.YthifckfpjmhmjaaDoorOOpen
namespace Go.Proofs.YthifckfpjmhmjaaDoor
open Go.ChangeShapes Go.WideShapes Go.ChangeAt Go.RowKit Go.Joins Go.ChangeMaps Go.TL

set_option maxRecDepth 100000 in
theorem orderHolds_lifted (os : Os) (started : os.Started) (H : Type) (enc : TypeId × Value → H) :
    ReturnsInHanded {} Tryd.checked os 8 .any (fun w args => (Rows.orderHoldsSpec.pre enc Tryd.prog Tryd.f8 Rows.orderHoldsRow.domain false w args ∧ laidMetH Tryd.prog Rows.orderHoldsRow.laid w) ∧ sizedMet enc Tryd.prog Tryd.f8 (OpenSpec.ofChange Rows.orderHoldsSpec) false w args)
      (Rows.orderHoldsSpec.post enc Tryd.prog Tryd.f8 false true false false) := by
  refine returnsInHanded_of_change_and (C := Tryd.checked) (X := fun w _ => laidMetH Tryd.prog Rows.orderHoldsRow.laid w) (fun _ _ _ hh h => h.of_heap hh) own started (by kernel_rfl) Tryd.func8
    (ChangeSpec.witness_shaped (enc := enc) (C := Tryd.checked) (os := os) (X := fun w _ => laidMetH Tryd.prog Rows.orderHoldsRow.laid w) false (World.laidAll Tryd.prog os Rows.orderHoldsRow.laid) #[.agg #[.int .i64 0, .bool false, .int .i64 0, .string ⟨#[]⟩, .slice none 0 0, .slice none 0 0], .agg #[.int .i64 0, .bool false, .int .i64 0, .string ⟨#[]⟩, .slice none 0 0, .slice none 0 0]] 8 (World.laidAll_os _ _ _)
      (World.shaped_of_ZipB (by kernel_rfl) (by kernel_rfl)) (by kernel_rfl) (by kernel_rfl) (by kernel_rfl)
      (by rw [MakeChecks.laidMetH_plain _ _ _ (by kernel_rfl)]; exact laidMet_laidAll _ (by kernel_rfl) (by kernel_rfl))) ?_
  intro W base args ds gs before hval0 hW _ _ hL _
  have hval : ∀ (j : Nat) t v, Tryd.f8.params[j]? = some t → args[j]? = some v → Value.okWide Tryd.prog W .any base t v := hval0
  have hW' := hW
  obtain ⟨p, q, hA0, hV, rfl, hfz, hnd⟩ := hW
  have hA : DataW.TrodAll enc Tryd.prog W 0 (fun _ => true) true Tryd.f8.params.toList args.toList ds p := hA0
  rw [Tryd.params8] at hA hval
  obtain ⟨v0, v1, d0, d1, p0, p1, rfl, rfl, _, h0, h1⟩ := trodAll_two hA
  obtain ⟨x0, cs0, rfl, hV0⟩ := open_arg_V h0
  obtain ⟨x1, cs1, rfl, hV1⟩ := open_arg_V h1
  refine (((lawOrderHolds x0 x1 _ _ (.of W) hV0 hV1 (gtabs_of (tabs_of hL)) (u8_of hL)).h W (.start W)).mono fun _ _ h => And.intro h.1 h.2.below).mono fun e W' ⟨he, hb⟩ => ?_
  exact ⟨_, he, law_post laidOut (of_decide_eq_true (by kernel_rfl)) rfl rfl rfl Tryd.underlying4 hW' hb⟩

theorem orderHolds_said : Rows.OrderHoldsSaid :=
  OpenClaim.holds_of_wide 8 Tryd.f8 rfl rfl rfl rfl rfl rfl rfl ⟨rfl, rfl, rfl, rfl, rfl⟩ rfl rfl rfl rfl rfl (by kernel_rfl) Tryd.func8 (by kernel_rfl)
    (of_decide_eq_true (by kernel_rfl)) (by unfold Func.isWrapper; first | (rw [if_pos (by decide +kernel)]; kernel_rfl) | (rw [if_neg (by decide +kernel)]; exact ⟨rfl, rfl⟩))
    (fun os started H enc _ => orderHolds_lifted os started H enc)

theorem orderHolds_plain (f : FuncId) (fn : Func) (hf : Tryd.pinned.checked.prog.funcNamed "waywiser/waywiserlaw05.OrderHolds" = some f) (hfn : Tryd.pinned.checked.prog.funcs[f]? = some fn) :
    true = Tryd.pinned.checked.prog.looks [] ∧ ∀ (j : Nat) t, fn.params[j]? = some t → Tryd.pinned.checked.prog.wantsStandIn t = false := by
  obtain rfl : f = 8 := Option.some.inj ((show Tryd.prog.funcNamed "waywiser/waywiserlaw05.OrderHolds" = some 8 by kernel_rfl).symm.trans hf) |>.symm
  obtain rfl : fn = Tryd.f8 := (Option.some.inj (Tryd.func8.symm.trans hfn)).symm
  refine ⟨by kernel_rfl, fun j t ht => ?_⟩
  rw [Tryd.params8] at ht
  obtain rfl : t = 25 := by simpa using Array.mem_of_getElem? ht
  exact (show Tryd.prog.wantsStandIn 25 = false by kernel_rfl)

theorem orderHolds_holds : Rows.OrderHoldsCardSaid :=
  Claim7.holds_tied_plain_at .later [] _ _ _ _ orderHolds_said (fun _ h => by cases h) (by kernel_rfl) (fun _ h => by cases h) orderHolds_row_tie rfl ⟨rfl, rfl⟩ (by kernel_rfl) rfl orderHolds_plain (by kernel_rfl)
end Go.Proofs.YthifckfpjmhmjaaDoor
