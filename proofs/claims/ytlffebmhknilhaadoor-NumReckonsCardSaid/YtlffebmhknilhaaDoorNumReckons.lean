/-
  NumReckons answers true: proved of every input that can be read, the listed tables being as the program's text lays them.
-/
import Derived.Test.YtlffebmhknilhaaDoorRTimes2
import Derived.Test.YtlffebmhknilhaaDoorNumOwn
import Derived.Test.YtlffebmhknilhaaDoorCards
import Derived.Test.YtlffebmhknilhaaDoorTie
import Derived.ChangeMaps5
namespace Go.Proofs.YtlffebmhknilhaaDoor
open Go.ChangeShapes Go.WideShapes Go.ChangeAt Go.RowKit Go.Joins Go.ChangeMaps Go.TL

set_option maxRecDepth 100000 in
theorem numReckons_lifted (os : Os) (started : os.Started) (H : Type) (enc : TypeId × Value → H) :
    ReturnsInHanded {} Tryd.checked os 7 .any (fun w args => (Rows.numReckonsSpec.pre enc Tryd.prog Tryd.f7 Rows.numReckonsRow.domain false w args ∧ laidMetH Tryd.prog Rows.numReckonsRow.laid w) ∧ sizedMet enc Tryd.prog Tryd.f7 (OpenSpec.ofChange Rows.numReckonsSpec) false w args)
      (Rows.numReckonsSpec.post enc Tryd.prog Tryd.f7 false true false false) := by
  refine returnsInHanded_of_change_and (C := Tryd.checked) (X := fun w _ => laidMetH Tryd.prog Rows.numReckonsRow.laid w) (fun _ _ _ hh h => h.of_heap hh) own started (by kernel_rfl) Tryd.func7
    (ChangeSpec.witness_shaped (enc := enc) (C := Tryd.checked) (os := os) (X := fun w _ => laidMetH Tryd.prog Rows.numReckonsRow.laid w) false (World.laidAll Tryd.prog os Rows.numReckonsRow.laid) #[.int .i64 0, .int .i64 0] 8 (World.laidAll_os _ _ _)
      (World.shaped_of_ZipB (by kernel_rfl) (by kernel_rfl)) (by kernel_rfl) (by kernel_rfl) (by kernel_rfl)
      (by rw [MakeChecks.laidMetH_plain _ _ _ (by kernel_rfl)]; exact laidMet_laidAll _ (by kernel_rfl) (by kernel_rfl))) ?_
  intro W base args ds gs before hval0 hW _ _ hL _
  have hval : ∀ (j : Nat) t v, Tryd.f7.params[j]? = some t → args[j]? = some v → Value.okWide Tryd.prog W .any base t v := hval0
  have hW' := hW
  obtain ⟨p, q, hA0, hV, rfl, hfz, hnd⟩ := hW
  have hA : DataW.TrodAll enc Tryd.prog W 0 (fun _ => true) true Tryd.f7.params.toList args.toList ds p := hA0
  rw [Tryd.params7] at hA hval
  obtain ⟨v0, v1, d0, d1, p0, p1, rfl, rfl, _, h0, h1⟩ := trodAll_two hA
  obtain ⟨x0, rfl, _, _, wx0⟩ := open_int Tryd.underlying2 (hval 0 2 v0 rfl rfl) h0
  have bx0 := bounds_i64 wx0
  obtain ⟨x1, rfl, _, _, wx1⟩ := open_int Tryd.underlying2 (hval 1 2 v1 rfl rfl) h1
  have bx1 := bounds_i64 wx1
  refine (((lawNumReckons x0 x1 (.of W) (gtabs_of (tabs_of hL)) bx0.1 bx0.2 bx1.1 bx1.2).h W (.start W)).mono fun _ _ h => And.intro h.1 h.2.below).mono fun e W' ⟨he, hb⟩ => ?_
  exact ⟨_, he, law_post laidOut (of_decide_eq_true (by kernel_rfl)) rfl rfl rfl Tryd.underlying4 hW' hb⟩

theorem numReckons_said : Rows.NumReckonsSaid :=
  OpenClaim.holds_of_wide 7 Tryd.f7 rfl rfl rfl rfl rfl rfl rfl ⟨rfl, rfl, rfl, rfl, rfl⟩ rfl rfl rfl rfl rfl (by kernel_rfl) Tryd.func7 (by kernel_rfl)
    (of_decide_eq_true (by kernel_rfl)) (by unfold Func.isWrapper; first | (rw [if_pos (by decide +kernel)]; kernel_rfl) | (rw [if_neg (by decide +kernel)]; exact ⟨rfl, rfl⟩))
    (fun os started H enc _ => numReckons_lifted os started H enc)

theorem numReckons_plain (f : FuncId) (fn : Func) (hf : Tryd.pinned.checked.prog.funcNamed "waywiser/waywiserlaw03.NumReckons" = some f) (hfn : Tryd.pinned.checked.prog.funcs[f]? = some fn) :
    false = Tryd.pinned.checked.prog.looks [] ∧ ∀ (j : Nat) t, fn.params[j]? = some t → Tryd.pinned.checked.prog.wantsStandIn t = false := by
  obtain rfl : f = 7 := Option.some.inj ((show Tryd.prog.funcNamed "waywiser/waywiserlaw03.NumReckons" = some 7 by kernel_rfl).symm.trans hf) |>.symm
  obtain rfl : fn = Tryd.f7 := (Option.some.inj (Tryd.func7.symm.trans hfn)).symm
  refine ⟨by kernel_rfl, fun j t ht => ?_⟩
  rw [Tryd.params7] at ht
  obtain rfl : t = 2 := by simpa using Array.mem_of_getElem? ht
  exact (show Tryd.prog.wantsStandIn 2 = false by kernel_rfl)

theorem numReckons_holds : Rows.NumReckonsCardSaid :=
  Claim7.holds_tied_plain_at .later [] _ _ _ _ numReckons_said (fun _ h => by cases h) (by kernel_rfl) (fun _ h => by cases h) numReckons_row_tie rfl ⟨rfl, rfl⟩ (by kernel_rfl) rfl numReckons_plain (by kernel_rfl)
end Go.Proofs.YtlffebmhknilhaaDoor
