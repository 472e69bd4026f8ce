/-
  OrderPrefix answers true: proved of every input that can be read, the listed tables being as the program's text lays them.
-/
import Derived.Test.YthifckfpjmhmjaaDoorOLawPrefix
import Derived.Test.YthifckfpjmhmjaaDoorOOwn
import Derived.Test.YthifckfpjmhmjaaDoorCards
import Derived.Test.YthifckfpjmhmjaaDoorTie
import Derived.ChangeMaps5
import Derived.Test.YthifckfpjmhmjaaDoorOOpen
namespace Go.Proofs.YthifckfpjmhmjaaDoor
open Go.ChangeShapes Go.WideShapes Go.ChangeAt Go.RowKit Go.Joins Go.ChangeMaps Go.TL

set_option maxRecDepth 100000 in
theorem orderPrefix_lifted (os : Os) (started : os.Started) (H : Type) (enc : TypeId × Value → H) :
    ReturnsInHanded {} Tryd.checked os 6 .any (fun w args => (Rows.orderPrefixSpec.pre enc Tryd.prog Tryd.f6 Rows.orderPrefixRow.domain false w args ∧ laidMetH Tryd.prog Rows.orderPrefixRow.laid w) ∧ sizedMet enc Tryd.prog Tryd.f6 (OpenSpec.ofChange Rows.orderPrefixSpec) false w args)
      (Rows.orderPrefixSpec.post enc Tryd.prog Tryd.f6 false true false false) := by
  refine returnsInHanded_of_change_and (C := Tryd.checked) (X := fun w _ => laidMetH Tryd.prog Rows.orderPrefixRow.laid w) (fun _ _ _ hh h => h.of_heap hh) own started (by kernel_rfl) Tryd.func6
    (ChangeSpec.witness_shaped (enc := enc) (C := Tryd.checked) (os := os) (X := fun w _ => laidMetH Tryd.prog Rows.orderPrefixRow.laid w) false (World.laidAll Tryd.prog os Rows.orderPrefixRow.laid) #[.slice none 0 0, .slice none 0 0, .slice none 0 0] 8 (World.laidAll_os _ _ _)
      (World.shaped_of_ZipB (by kernel_rfl) (by kernel_rfl)) (by kernel_rfl) (by kernel_rfl) (by kernel_rfl)
      (by rw [MakeChecks.laidMetH_plain _ _ _ (by kernel_rfl)]; exact laidMet_laidAll _ (by kernel_rfl) (by kernel_rfl))) ?_
  intro W base args ds gs before hval0 hW _ _ hL _
  have hval : ∀ (j : Nat) t v, Tryd.f6.params[j]? = some t → args[j]? = some v → Value.okWide Tryd.prog W .any base t v := hval0
  have hW' := hW
  obtain ⟨p, q, hA0, hV, rfl, hfz, hnd⟩ := hW
  have hA : DataW.TrodAll enc Tryd.prog W 0 (fun _ => true) true Tryd.f6.params.toList args.toList ds p := hA0
  rw [Tryd.params6] at hA hval
  obtain ⟨v0, v1, v2, d0, d1, d2, p0, p1, p2, rfl, rfl, _, h0, h1, h2⟩ := trodAll_three hA
  obtain ⟨a0, n0, c0, rfl⟩ := okWide_slice Tryd.underlying35 (hval 0 35 v0 rfl rfl)
  obtain ⟨fuel0, hf0⟩ := h0
  obtain ⟨l0, hS0, hl0⟩ := open_sl_bytes hf0
  obtain ⟨a1, n1, c1, rfl⟩ := okWide_slice Tryd.underlying35 (hval 1 35 v1 rfl rfl)
  obtain ⟨fuel1, hf1⟩ := h1
  obtain ⟨l1, hS1, hl1⟩ := open_sl_bytes hf1
  obtain ⟨a2, n2, c2, rfl⟩ := okWide_slice Tryd.underlying35 (hval 2 35 v2 rfl rfl)
  obtain ⟨fuel2, hf2⟩ := h2
  obtain ⟨l2, hS2, hl2⟩ := open_sl_bytes hf2
  refine (((lawOrderPrefix l0 l1 l2 _ _ _ (.of W) hS0 hS1 hS2 (gtabs_of (tabs_of hL)) (u8_of hL)).h W (.start W)).mono fun _ _ h => And.intro h.1 h.2.below).mono fun e W' ⟨he, hb⟩ => ?_
  exact ⟨_, he, law_post laidOut (of_decide_eq_true (by kernel_rfl)) rfl rfl rfl Tryd.underlying4 hW' hb⟩

theorem orderPrefix_said : Rows.OrderPrefixSaid :=
  OpenClaim.holds_of_wide 6 Tryd.f6 rfl rfl rfl rfl rfl rfl rfl ⟨rfl, rfl, rfl, rfl, rfl⟩ rfl rfl rfl rfl rfl (by kernel_rfl) Tryd.func6 (by kernel_rfl)
    (of_decide_eq_true (by kernel_rfl)) (by unfold Func.isWrapper; first | (rw [if_pos (by decide +kernel)]; kernel_rfl) | (rw [if_neg (by decide +kernel)]; exact ⟨rfl, rfl⟩))
    (fun os started H enc _ => orderPrefix_lifted os started H enc)

theorem orderPrefix_plain (f : FuncId) (fn : Func) (hf : Tryd.pinned.checked.prog.funcNamed "waywiser/waywiserlaw05.OrderPrefix" = some f) (hfn : Tryd.pinned.checked.prog.funcs[f]? = some fn) :
    true = Tryd.pinned.checked.prog.looks [] ∧ ∀ (j : Nat) t, fn.params[j]? = some t → Tryd.pinned.checked.prog.wantsStandIn t = false := by
  obtain rfl : f = 6 := Option.some.inj ((show Tryd.prog.funcNamed "waywiser/waywiserlaw05.OrderPrefix" = some 6 by kernel_rfl).symm.trans hf) |>.symm
  obtain rfl : fn = Tryd.f6 := (Option.some.inj (Tryd.func6.symm.trans hfn)).symm
  refine ⟨by kernel_rfl, fun j t ht => ?_⟩
  rw [Tryd.params6] at ht
  obtain rfl : t = 35 := by simpa using Array.mem_of_getElem? ht
  exact (show Tryd.prog.wantsStandIn 35 = false by kernel_rfl)

theorem orderPrefix_holds : Rows.OrderPrefixCardSaid :=
  Claim7.holds_tied_plain_at .later [] _ _ _ _ orderPrefix_said (fun _ h => by cases h) (by kernel_rfl) (fun _ h => by cases h) orderPrefix_row_tie rfl ⟨rfl, rfl⟩ (by kernel_rfl) rfl orderPrefix_plain (by kernel_rfl)
end Go.Proofs.YthifckfpjmhmjaaDoor
