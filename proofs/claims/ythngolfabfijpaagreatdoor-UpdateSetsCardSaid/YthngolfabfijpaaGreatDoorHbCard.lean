/-
  UpdateSets answers true: proved of every input that can be read, the listed tables being as the program's text lays them.
-/
import Derived.Test.YthngolfabfijpaaGreatDoorHb46
import Derived.Test.YthngolfabfijpaaGreatDoorHb47
import Derived.Test.YthngolfabfijpaaGreatDoorCards
import Derived.Test.YthngolfabfijpaaGreatDoorTie
import Derived.ChangeMaps5
namespace Go.Proofs.YthngolfabfijpaaGreatDoor
open Go.ChangeShapes Go.WideShapes Go.ChangeAt Go.RowKit Go.Joins Go.ChangeMaps Go.TL

set_option maxRecDepth 100000 in
theorem updateSets_lifted (os : Os) (started : os.Started) (H : Type) (enc : TypeId × Value → H) :
    ReturnsInHanded {} Tryz.checked os 6 .any (fun w args => (Rows.updateSetsSpec.pre enc Tryz.prog Tryz.f6 Rows.updateSetsRow.domain false w args ∧ laidMetH Tryz.prog Rows.updateSetsRow.laid w) ∧ sizedMet enc Tryz.prog Tryz.f6 (OpenSpec.ofChange Rows.updateSetsSpec) false w args)
      (Rows.updateSetsSpec.post enc Tryz.prog Tryz.f6 false true false false) := by
  refine returnsInHanded_of_change_and (C := Tryz.checked) (X := fun w _ => laidMetH Tryz.prog Rows.updateSetsRow.laid w) (fun _ _ _ hh h => h.of_heap hh) own started (by kernel_rfl) Tryz.func6
    (ChangeSpec.witness_shaped (enc := enc) (C := Tryz.checked) (os := os) (X := fun w _ => laidMetH Tryz.prog Rows.updateSetsRow.laid w) false (World.laidAll Tryz.prog os Rows.updateSetsRow.laid) #[.agg #[.int .i64 0, .bool false, .int .i64 0, .string ⟨#[]⟩, .slice none 0 0, .slice none 0 0], .string ⟨#[]⟩, .agg #[.int .i64 0, .bool false, .int .i64 0, .string ⟨#[]⟩, .slice none 0 0, .slice none 0 0]] 8 (World.laidAll_os _ _ _)
      (World.shaped_of_ZipB (by kernel_rfl) (by kernel_rfl)) (by kernel_rfl) (by kernel_rfl) (by kernel_rfl)
      (by rw [MakeChecks.laidMetH_plain _ _ _ (by kernel_rfl)]; exact laidMet_laidAll _ (by kernel_rfl) (by kernel_rfl))) ?_
  intro W base args ds gs before hval0 hW _ _ hL _
  have hval : ∀ (j : Nat) t v, Tryz.f6.params[j]? = some t → args[j]? = some v → Value.okWide Tryz.prog W .any base t v := hval0
  have hW' := hW
  obtain ⟨p, q, hA0, hV, rfl, hfz, hnd⟩ := hW
  have hA : DataW.TrodAll enc Tryz.prog W 0 (fun _ => true) true Tryz.f6.params.toList args.toList ds p := hA0
  rw [Tryz.params6] at hA hval
  obtain ⟨v0, v1, v2, d0, d1, d2, p0, p1, p2, rfl, rfl, _, h0, h1, h2⟩ := trodAll_three hA
  obtain ⟨x0, cs0, rfl, hV0⟩ := open_arg_V h0
  obtain ⟨S1, rfl, _, _, hS1⟩ := open_string Tryz.underlying9 (hval 1 9 v1 rfl rfl) h1
  obtain ⟨l1, rfl⟩ : ∃ l : List UInt8, S1 = ⟨l.toArray⟩ := ⟨S1.data.toList, by cases S1; simp⟩
  obtain ⟨x2, cs2, rfl, hV2⟩ := open_arg_V h2
  refine (((lawUpdateSets x0 l1 x2 _ _ (.of W) hV0 (by have h := hS1; rw [size_mk] at h; exact Nat.le_trans h (by decide)) hV2 (err_of hL) (gtabs_of (tabs_of hL)) (u8_of hL)).h W (.start W)).mono fun _ _ h => And.intro h.1 h.2.below).mono fun e W' ⟨he, hb⟩ => ?_
  exact ⟨_, he, law_post laidOut (of_decide_eq_true (by kernel_rfl)) rfl rfl rfl Tryz.underlying4 hW' hb⟩

theorem updateSets_said : Rows.UpdateSetsSaid :=
  OpenClaim.holds_of_wide 6 Tryz.f6 rfl rfl rfl rfl rfl rfl rfl ⟨rfl, rfl, rfl, rfl, rfl⟩ rfl rfl rfl rfl rfl (by kernel_rfl) Tryz.func6 (by kernel_rfl)
    (of_decide_eq_true (by kernel_rfl)) (by unfold Func.isWrapper; first | (rw [if_pos (by decide +kernel)]; kernel_rfl) | (rw [if_neg (by decide +kernel)]; exact ⟨rfl, rfl⟩))
    (fun os started H enc _ => updateSets_lifted os started H enc)

theorem updateSets_plain (f : FuncId) (fn : Func) (hf : Tryz.pinned.checked.prog.funcNamed "waywiser/waywiserlaw22.UpdateSets" = some f) (hfn : Tryz.pinned.checked.prog.funcs[f]? = some fn) :
    true = Tryz.pinned.checked.prog.looks [] ∧ ∀ (j : Nat) t, fn.params[j]? = some t → Tryz.pinned.checked.prog.wantsStandIn t = false := by
  obtain rfl : f = 6 := Option.some.inj ((show Tryz.prog.funcNamed "waywiser/waywiserlaw22.UpdateSets" = some 6 by kernel_rfl).symm.trans hf) |>.symm
  obtain rfl : fn = Tryz.f6 := (Option.some.inj (Tryz.func6.symm.trans hfn)).symm
  refine ⟨by kernel_rfl, fun j t ht => ?_⟩
  rw [Tryz.params6] at ht
  have hm := Array.mem_of_getElem? ht
  simp only [List.mem_toArray, List.mem_cons, List.not_mem_nil, or_false] at hm
  rcases hm with rfl | rfl | rfl
  · exact (show Tryz.prog.wantsStandIn 29 = false by kernel_rfl)
  · exact (show Tryz.prog.wantsStandIn 9 = false by kernel_rfl)
  · exact (show Tryz.prog.wantsStandIn 29 = false by kernel_rfl)

theorem updateSets_holds : Rows.UpdateSetsCardSaid :=
  Claim7.holds_tied_plain_at .later [] _ _ _ _ updateSets_said (fun _ h => by cases h) (by kernel_rfl) (fun _ h => by cases h) updateSets_row_tie rfl ⟨rfl, rfl⟩ (by kernel_rfl) rfl updateSets_plain (by kernel_rfl)
end Go.Proofs.YthngolfabfijpaaGreatDoor
