/-
  ShapeTells answers true: proved of every input that can be read, the listed tables being as the program's text lays them.
-/
import Derived.Test.YtfanccddokckcaaGreatDoorSt46
import Derived.Test.YtfanccddokckcaaGreatDoorSt47
import Derived.Test.YtfanccddokckcaaGreatDoorCards
import Derived.Test.YtfanccddokckcaaGreatDoorTie
import Derived.ChangeMaps5
namespace Go.Proofs.YtfanccddokckcaaGreatDoor
open Go.ChangeShapes Go.WideShapes Go.ChangeAt Go.RowKit Go.Joins Go.ChangeMaps Go.TL

set_option maxRecDepth 100000 in
theorem shapeTells_lifted (os : Os) (started : os.Started) (H : Type) (enc : TypeId × Value → H) :
    ReturnsInHanded {} Tryz.checked os 8 .any (fun w args => (Rows.shapeTellsSpec.pre enc Tryz.prog Tryz.f8 Rows.shapeTellsRow.domain false w args ∧ laidMetH Tryz.prog Rows.shapeTellsRow.laid w) ∧ sizedMet enc Tryz.prog Tryz.f8 (OpenSpec.ofChange Rows.shapeTellsSpec) false w args)
      (Rows.shapeTellsSpec.post enc Tryz.prog Tryz.f8 false true false false) := by
  refine returnsInHanded_of_change_and (C := Tryz.checked) (X := fun w _ => laidMetH Tryz.prog Rows.shapeTellsRow.laid w) (fun _ _ _ hh h => h.of_heap hh) own started (by kernel_rfl) Tryz.func8
    (ChangeSpec.witness_shaped (enc := enc) (C := Tryz.checked) (os := os) (X := fun w _ => laidMetH Tryz.prog Rows.shapeTellsRow.laid w) false (World.laidAll Tryz.prog os Rows.shapeTellsRow.laid) #[.agg #[.int .i64 0, .slice none 0 0], .agg #[.int .i64 0, .int .i64 0]] 8 (World.laidAll_os _ _ _)
      (World.shaped_of_ZipB (by kernel_rfl) (by kernel_rfl)) (by kernel_rfl) (by kernel_rfl) (by kernel_rfl)
      (by rw [MakeChecks.laidMetH_plain _ _ _ (by kernel_rfl)]; exact laidMet_laidAll _ (by kernel_rfl) (by kernel_rfl))) ?_
  intro W base args ds gs before hval0 hW _ hsz hL _
  have hval : ∀ (j : Nat) t v, Tryz.f8.params[j]? = some t → args[j]? = some v → Value.okWide Tryz.prog W .any base t v := hval0
  have hW' := hW
  obtain ⟨p, q, hA0, hV, rfl, hfz, hnd⟩ := hW
  have hA : DataW.TrodAll enc Tryz.prog W 0 (fun _ => true) true Tryz.f8.params.toList args.toList ds p := hA0
  rw [Tryz.params8] at hA hval hsz
  obtain ⟨v0, v1, d0, d1, p0, p1, rfl, rfl, _, h0, h1⟩ := trodAll_two hA
  obtain ⟨k0, x0, u0, rfl, hS0, hb0, hl0⟩ := open_arg_sh h0 (fun m hm => by simpa using List.all_eq_true.1 hsz m (DataW.weights_mem_each (j := 0) (t := 36) (d := d0) rfl rfl m hm))
  obtain ⟨x1, rfl⟩ := open_arg_pt h1
  refine (((lawShapeTells k0 x0 u0 x1  (.of W) _ hS0 hb0 hl0 (gtabs_of (tabs_of hL)) (u8_of hL)).h W (.start W)).mono fun _ _ h => And.intro h.1 h.2.below).mono fun e W' ⟨he, hb⟩ => ?_
  exact ⟨_, he, law_post laidOut (of_decide_eq_true (by kernel_rfl)) rfl rfl rfl Tryz.underlying4 hW' hb⟩

theorem shapeTells_said : Rows.ShapeTellsSaid :=
  OpenClaim.holds_of_wide 8 Tryz.f8 rfl rfl rfl rfl rfl rfl rfl ⟨rfl, rfl, rfl, rfl, rfl⟩ rfl rfl rfl rfl rfl (by kernel_rfl) Tryz.func8 (by kernel_rfl)
    (of_decide_eq_true (by kernel_rfl)) (by unfold Func.isWrapper; first | (rw [if_pos (by decide +kernel)]; kernel_rfl) | (rw [if_neg (by decide +kernel)]; exact ⟨rfl, rfl⟩))
    (fun os started H enc _ => shapeTells_lifted os started H enc)

theorem shapeTells_plain (f : FuncId) (fn : Func) (hf : Tryz.pinned.checked.prog.funcNamed "waywiser/waywiserlaw09.ShapeTells" = some f) (hfn : Tryz.pinned.checked.prog.funcs[f]? = some fn) :
    true = Tryz.pinned.checked.prog.looks [] ∧ ∀ (j : Nat) t, fn.params[j]? = some t → Tryz.pinned.checked.prog.wantsStandIn t = false := by
  obtain rfl : f = 8 := Option.some.inj ((show Tryz.prog.funcNamed "waywiser/waywiserlaw09.ShapeTells" = some 8 by kernel_rfl).symm.trans hf) |>.symm
  obtain rfl : fn = Tryz.f8 := (Option.some.inj (Tryz.func8.symm.trans hfn)).symm
  refine ⟨by kernel_rfl, fun j t ht => ?_⟩
  rw [Tryz.params8] at ht
  obtain rfl | rfl : t = 36 ∨ t = 50 := by simpa using Array.mem_of_getElem? ht
  · exact (show Tryz.prog.wantsStandIn 36 = false by kernel_rfl)
  · exact (show Tryz.prog.wantsStandIn 50 = false by kernel_rfl)

theorem shapeTells_holds : Rows.ShapeTellsCardSaid :=
  Claim7.holds_tied_plain_at .later [] _ _ _ _ shapeTells_said (fun _ h => by cases h) (by kernel_rfl) (fun _ h => by cases h) shapeTells_row_tie rfl ⟨rfl, rfl⟩ (by kernel_rfl) rfl shapeTells_plain (by kernel_rfl)
end Go.Proofs.YtfanccddokckcaaGreatDoor
