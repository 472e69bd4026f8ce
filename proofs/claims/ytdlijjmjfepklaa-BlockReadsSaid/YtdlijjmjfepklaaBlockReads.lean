/-
  BlockReads answers true for whatever bytes: proved of every input that can be read; no condition.
-/
import Derived.Test.YtdlijjmjfepklaaLawReads
import Derived.Test.YtdlijjmjfepklaaOpenBytes
namespace Go.Proofs.Ytdlijjmjfepklaa
open Go.ChangeShapes Go.WideShapes Go.ChangeAt Go.RowKit Go.Joins

set_option maxRecDepth 100000 in
theorem blockReads_lifted (os : Os) (started : os.Started) (H : Type) (enc : TypeId × Value → H) :
    ReturnsInHanded {} Try.checked os 7 .any (Rows.blockReadsSpec.pre6 enc Try.prog Try.f7 Rows.blockReadsRow.domain false) (Rows.blockReadsSpec.post enc Try.prog Try.f7 false true false false) := by
  refine returnsInHanded_of_change (C := Try.checked) own started (by kernel_rfl) Try.func7
    (ChangeSpec.witness6 (enc := enc) (C := Try.checked) false ⟨#[], #[.slice none 0 0], []⟩ 8 (by kernel_rfl) (by kernel_rfl) (by kernel_rfl) (by kernel_rfl)) ?_
  intro W base args ds gs before hval0 hW _ _
  have hval : ∀ (j : Nat) t v, Try.f7.params[j]? = some t → args[j]? = some v → Value.okWide Try.prog W .any base t v := hval0
  have hW' := hW
  obtain ⟨p, q, hA0, hV, rfl, hfz, hnd⟩ := hW
  have hA : DataW.TrodAll enc Try.prog W 0 (fun _ => true) true Try.f7.params.toList args.toList ds p := hA0
  rw [Try.params7] at hA hval
  obtain ⟨v0, d0, rfl, rfl, h0⟩ := trodAll_one hA
  have hv0 := hval 0 36 v0 rfl rfl
  obtain ⟨a0, len0, cap0, rfl⟩ := okWide_slice Try.underlying36 hv0
  obtain ⟨fuel, hf⟩ := h0
  obtain ⟨ao, n, cap, s, hv, hn, hnc, hcm, hp, hlow⟩ := open_bytes hv0 hf
  simp only [Value.slice.injEq] at hv
  obtain ⟨rfl, rfl, rfl⟩ := hv
  refine (lawReads_any a0 len0 cap0 s W hn (by unfold maxLen at hcm; omega) hp).mono fun e W' ⟨he, hb⟩ => ?_
  exact ⟨_, he, law_post laidOut (of_decide_eq_true (by kernel_rfl)) rfl rfl rfl Try.underlying4 hW' hb⟩

theorem blockReads_holds : Rows.BlockReadsSaid :=
  OpenClaim.holds_of_wide 7 Try.f7 rfl rfl rfl rfl rfl rfl rfl ⟨rfl, rfl, rfl, rfl, rfl⟩ rfl rfl rfl rfl rfl (by kernel_rfl) Try.func7 (by kernel_rfl)
    (of_decide_eq_true (by kernel_rfl)) (by unfold Func.isWrapper; first | (rw [if_pos (by decide +kernel)]; kernel_rfl) | (rw [if_neg (by decide +kernel)]; exact ⟨rfl, rfl⟩))
    (fun os started H enc _ => blockReads_lifted os started H enc)
end Go.Proofs.Ytdlijjmjfepklaa
