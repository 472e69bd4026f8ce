/-
  UpdateRows answers true: proved of every input that can be read, the listed tables being as the program's text lays them.
-/
import Derived.Test.YthngolfabfijpaaGreatDoorHc46
import Derived.Test.YthngolfabfijpaaGreatDoorHc47
import Derived.Test.YthngolfabfijpaaGreatDoorCards
import Derived.Test.YthngolfabfijpaaGreatDoorTie
import Derived.ChangeMaps5
namespace Go.Proofs.YthngolfabfijpaaGreatDoor
open Go.ChangeShapes Go.WideShapes Go.ChangeAt Go.RowKit Go.Joins Go.ChangeMaps Go.TL

set_option maxRecDepth 100000 in
theorem updateRows_lifted (os : Os) (started : os.Started) (H : Type) (enc : TypeId × Value → H) :
    ReturnsInHanded {} Tryz.checked os 5 .any (fun w args => (Rows.updateRowsSpec.pre enc Tryz.prog Tryz.f5 Rows.updateRowsRow.domain false w args ∧ laidMetH Tryz.prog Rows.updateRowsRow.laid w) ∧ sizedMet enc Tryz.prog Tryz.f5 (OpenSpec.ofChange Rows.updateRowsSpec) false w args)
      (Rows.updateRowsSpec.post enc Tryz.prog Tryz.f5 false true false false) := by
  refine returnsInHanded_of_change_and (C := Tryz.checked) (X := fun w _ => laidMetH Tryz.prog Rows.updateRowsRow.laid w) (fun _ _ _ hh h => h.of_heap hh) own started (by kernel_rfl) Tryz.func5
    (ChangeSpec.witness_shaped (enc := enc) (C := Tryz.checked) (os := os) (X := fun w _ => laidMetH Tryz.prog Rows.updateRowsRow.laid w) false (World.laidAll Tryz.prog os Rows.updateRowsRow.laid) #[.agg #[.int .i64 0, .bool false, .int .i64 0, .string ⟨#[]⟩, .slice none 0 0, .slice none 0 0], .agg #[.int .i64 0, .bool false, .int .i64 0, .string ⟨#[]⟩, .slice none 0 0, .slice none 0 0], .agg #[.int .i64 0, .bool false, .int .i64 0, .string ⟨#[]⟩, .slice none 0 0, .slice none 0 0]] 8 (World.laidAll_os _ _ _)
      (World.shaped_of_ZipB (by kernel_rfl) (by kernel_rfl)) (by kernel_rfl) (by kernel_rfl) (by kernel_rfl)
      (by rw [MakeChecks.laidMetH_plain _ _ _ (by kernel_rfl)]; exact laidMet_laidAll _ (by kernel_rfl) (by kernel_rfl))) ?_
  intro W base args ds gs before hval0 hW _ _ hL _
  have hval : ∀ (j : Nat) t v, Tryz.f5.params[j]? = some t → args[j]? = some v → Value.okWide Tryz.prog W .any base t v := hval0
  have hW' := hW
  obtain ⟨p, q, hA0, hV, rfl, hfz, hnd⟩ := hW
  have hA : DataW.TrodAll enc Tryz.prog W 0 (fun _ => true) true Tryz.f5.params.toList args.toList ds p := hA0
  rw [Tryz.params5] at hA hval
  obtain ⟨v0, v1, v2, d0, d1, d2, p0, p1, p2, rfl, rfl, _, h0, h1, h2⟩ := trodAll_three hA
  obtain ⟨x0, cs0, rfl, hV0⟩ := open_arg_V h0
  obtain ⟨x1, cs1, rfl, hV1⟩ := open_arg_V h1
  obtain ⟨x2, cs2, rfl, hV2⟩ := open_arg_V h2
  refine (((lawUpdateRows x0 x1 x2 _ _ _ (.of W) hV0 hV1 hV2 (err_of hL) (gtabs_of (tabs_of hL)) (u8_of hL)).h W (.start W)).mono fun _ _ h => And.intro h.1 h.2.below).mono fun e W' ⟨he, hb⟩ => ?_
  exact ⟨_, he, law_post laidOut (of_decide_eq_true (by kernel_rfl)) rfl rfl rfl Tryz.underlying4 hW' hb⟩

theorem updateRows_said : Rows.UpdateRowsSaid :=
  OpenClaim.holds_of_wide 5 Tryz.f5 rfl rfl rfl rfl rfl rfl rfl ⟨rfl, rfl, rfl, rfl, rfl⟩ rfl rfl rfl rfl rfl (by kernel_rfl) Tryz.func5 (by kernel_rfl)
    (of_decide_eq_true (by kernel_rfl)) (by unfold Func.isWrapper; first | (rw [if_pos (by decide +kernel)]; kernel_rfl) | (rw [if_neg (by decide +kernel)]; exact ⟨rfl, rfl⟩))
    (fun os started H enc _ => updateRows_lifted os started H enc)

theorem updateRows_plain (f : FuncId) (fn : Func) (hf : Tryz.pinned.checked.prog.funcNamed "waywiser/waywiserlaw22.UpdateRows" = some f) (hfn : Tryz.pinned.checked.prog.funcs[f]? = some fn) :
    true = Tryz.pinned.checked.prog.looks [] ∧ ∀ (j : Nat) t, fn.params[j]? = some t → Tryz.pinned.checked.prog.wantsStandIn t = false := by
  obtain rfl : f = 5 := Option.some.inj ((show Tryz.prog.funcNamed "waywiser/waywiserlaw22.UpdateRows" = some 5 by kernel_rfl).symm.trans hf) |>.symm
  obtain rfl : fn = Tryz.f5 := (Option.some.inj (Tryz.func5.symm.trans hfn)).symm
  refine ⟨by kernel_rfl, fun j t ht => ?_⟩
  rw [Tryz.params5] at ht
  have hm := Array.mem_of_getElem? ht
  simp only [List.mem_toArray, List.mem_cons, List.not_mem_nil, or_false] at hm
  rcases hm with rfl | rfl | rfl
  · exact (show Tryz.prog.wantsStandIn 29 = false by kernel_rfl)
  · exact (show Tryz.prog.wantsStandIn 29 = false by kernel_rfl)
  · exact (show Tryz.prog.wantsStandIn 29 = false by kernel_rfl)

theorem updateRows_holds : Rows.UpdateRowsCardSaid :=
  Claim7.holds_tied_plain_at .later [] _ _ _ _ updateRows_said (fun _ h => by cases h) (by kernel_rfl) (fun _ h => by cases h) updateRows_row_tie rfl ⟨rfl, rfl⟩ (by kernel_rfl) rfl updateRows_plain (by kernel_rfl)
end Go.Proofs.YthngolfabfijpaaGreatDoor
