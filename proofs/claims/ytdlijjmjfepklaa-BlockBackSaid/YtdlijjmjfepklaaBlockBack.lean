/-
  BlockBack answers true for whatever list and bytes: proved of every input that can be read; no condition.
-/
import Derived.Test.YtdlijjmjfepklaaLawBack
import Derived.Test.YtdlijjmjfepklaaOpenBytes
namespace Go.Proofs.Ytdlijjmjfepklaa
open Go.ChangeShapes Go.WideShapes Go.ChangeAt Go.RowKit Go.Joins

set_option maxRecDepth 100000 in
theorem blockBack_lifted (os : Os) (started : os.Started) (H : Type) (enc : TypeId × Value → H) :
    ReturnsInHanded {} Try.checked os 8 .any (Rows.blockBackSpec.pre6 enc Try.prog Try.f8 Rows.blockBackRow.domain false) (Rows.blockBackSpec.post enc Try.prog Try.f8 false true false false) := by
  refine returnsInHanded_of_change (C := Try.checked) own started (by kernel_rfl) Try.func8
    (ChangeSpec.witness6 (enc := enc) (C := Try.checked) false ⟨#[], #[.slice none 0 0, .slice none 0 0], []⟩ 8 (by kernel_rfl) (by kernel_rfl) (by kernel_rfl) (by kernel_rfl)) ?_
  intro W base args ds gs before hval0 hW _ _
  have hval : ∀ (j : Nat) t v, Try.f8.params[j]? = some t → args[j]? = some v → Value.okWide Try.prog W .any base t v := hval0
  have hW' := hW
  obtain ⟨p, q, hA0, hV, rfl, hfz, hnd⟩ := hW
  have hA : DataW.TrodAll enc Try.prog W 0 (fun _ => true) true Try.f8.params.toList args.toList ds p := hA0
  rw [Try.params8] at hA hval
  obtain ⟨v0, v1, d0, d1, p0, p1, rfl, rfl, _, h0, h1⟩ := trodAll_two hA
  have hv0 := hval 0 34 v0 rfl rfl
  have hv1 := hval 1 36 v1 rfl rfl
  obtain ⟨a0, len0, cap0, rfl⟩ := okWide_slice Try.underlying34 hv0
  obtain ⟨a1, len1, cap1, rfl⟩ := okWide_slice Try.underlying36 hv1
  obtain ⟨fuel, hf⟩ := h0
  obtain ⟨fuel1, hf1⟩ := h1
  obtain ⟨ao, n, cap, ps, hv, hn, hn6, hp, _⟩ := open_posts hf
  simp only [Value.slice.injEq] at hv
  obtain ⟨rfl, rfl, rfl⟩ := hv
  obtain ⟨bo, m, cb, s, hvb, hm, hmc, hcb, hb, hlow⟩ := open_bytes hv1 hf1
  simp only [Value.slice.injEq] at hvb
  obtain ⟨rfl, rfl, rfl⟩ := hvb
  refine (lawBack_any a0 len0 cap0 ps a1 len1 cap1 s W hn hn6 hp hm hmc hcb hb hlow).mono fun e W' ⟨he, hb⟩ => ?_
  exact ⟨_, he, law_post laidOut (of_decide_eq_true (by kernel_rfl)) rfl rfl rfl Try.underlying4 hW' hb⟩

theorem blockBack_holds : Rows.BlockBackSaid :=
  OpenClaim.holds_of_wide 8 Try.f8 rfl rfl rfl rfl rfl rfl rfl ⟨rfl, rfl, rfl, rfl, rfl⟩ rfl rfl rfl rfl rfl (by kernel_rfl) Try.func8 (by kernel_rfl)
    (of_decide_eq_true (by kernel_rfl)) (by unfold Func.isWrapper; first | (rw [if_pos (by decide +kernel)]; kernel_rfl) | (rw [if_neg (by decide +kernel)]; exact ⟨rfl, rfl⟩))
    (fun os started H enc _ => blockBack_lifted os started H enc)
end Go.Proofs.Ytdlijjmjfepklaa
