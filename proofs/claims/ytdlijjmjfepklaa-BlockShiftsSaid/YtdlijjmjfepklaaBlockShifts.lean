/-
  BlockShifts answers true for whatever posting and number: proved of every input that can be read; no condition.
-/
import Derived.Test.YtdlijjmjfepklaaLawShifts
import Derived.Test.YtdlijjmjfepklaaOpen
namespace Go.Proofs.Ytdlijjmjfepklaa
open Go.ChangeShapes Go.WideShapes Go.ChangeAt Go.RowKit Go.Joins

set_option maxRecDepth 100000 in
theorem blockShifts_lifted (os : Os) (started : os.Started) (H : Type) (enc : TypeId × Value → H) :
    ReturnsInHanded {} Try.checked os 4 .any (Rows.blockShiftsSpec.pre6 enc Try.prog Try.f4 Rows.blockShiftsRow.domain false) (Rows.blockShiftsSpec.post enc Try.prog Try.f4 false true false false) := by
  refine returnsInHanded_of_change (C := Try.checked) own started (by kernel_rfl) Try.func4
    (ChangeSpec.witness6 (enc := enc) (C := Try.checked) false ⟨#[], #[.agg #[.int .i64 0, .int .i64 0, .slice none 0 0], .int .i64 0], []⟩ 8 (by kernel_rfl) (by kernel_rfl) (by kernel_rfl) (by kernel_rfl)) ?_
  intro W base args ds gs before hval0 hW _ _
  have hval : ∀ (j : Nat) t v, Try.f4.params[j]? = some t → args[j]? = some v → Value.okWide Try.prog W .any base t v := hval0
  have hW' := hW
  obtain ⟨p, q, hA0, hV, rfl, hfz, hnd⟩ := hW
  have hA : DataW.TrodAll enc Try.prog W 0 (fun _ => true) true Try.f4.params.toList args.toList ds p := hA0
  rw [Try.params4] at hA hval
  obtain ⟨v0, v1, d0, d1, p0, p1, rfl, rfl, rfl, h0, h1⟩ := trodAll_two hA
  obtain ⟨pr, pl, pa, n, pc, px, rfl, hn, hn6, hp⟩ := open_post (hval 0 24 v0 rfl rfl) h0
  obtain ⟨by_, rfl, rfl, rfl, wb⟩ := open_int Try.underlying3 (hval 1 3 v1 rfl rfl) h1
  refine (lawShifts_any pr pl pa pc px n by_ W hn hn6 hp).mono fun e W' ⟨he, hb⟩ => ?_
  exact ⟨_, he, law_post laidOut (of_decide_eq_true (by kernel_rfl)) rfl rfl rfl Try.underlying4 hW' hb⟩

theorem blockShifts_holds : Rows.BlockShiftsSaid :=
  OpenClaim.holds_of_wide 4 Try.f4 rfl rfl rfl rfl rfl rfl rfl ⟨rfl, rfl, rfl, rfl, rfl⟩ rfl rfl rfl rfl rfl (by kernel_rfl) Try.func4 (by kernel_rfl)
    (of_decide_eq_true (by kernel_rfl)) (by unfold Func.isWrapper; first | (rw [if_pos (by decide +kernel)]; kernel_rfl) | (rw [if_neg (by decide +kernel)]; exact ⟨rfl, rfl⟩))
    (fun os started H enc _ => blockShifts_lifted os started H enc)
end Go.Proofs.Ytdlijjmjfepklaa
