/-
  The steps of a walk in one word.
-/
import Derived.Test.YtfmadoeadmclbaaGreatDoorHb0
namespace Go.TL
open Go Go.RowKit Go.Proofs.YtfmadoeadmclbaaGreatDoor
theorem Br.two {b : Bool} {X Y : Prop} {p q : Prop} (h : (p → X) → (q → Y) → Br b X Y) (k : (p → X) ∧ (q → Y)) : Br b X Y := h k.1 k.2
theorem stS {goal next : Prop} (k : next) (h : next → goal := by first
    | exact fun k => TL.pure yA rfl k
    | apply TC.seq | apply TC.region | apply TL.nil | apply TQ.then_normal
    | exact fun k => TL.storeE rfl rfl rfl pkA inferInstance k | exact fun k => TL.store_whole rfl rfl oneA rfl pkA rfl k
    | apply TC.block | apply TC.ret | apply TC.skip | apply TC.exit | apply TC.cond rfl
    | apply TQ.down | apply TQ.in_exit' rfl
    | apply TL.guard_yes rfl rfl | apply TL.guard_no rfl rfl rfl rfl | apply TL.guard_no0 rfl rfl rfl | apply TL.guard_undef rfl rfl rfl | apply TL.guard_undef0 rfl rfl | apply TL.guard rfl rfl rfl
    | apply Br.t rfl | apply Br.f rfl | apply Br.ky kpA | apply Br.kn kpA | apply Br.nky kpA | apply Br.nkn kpA
    | fail) : goal := h k
theorem stB {goal next : Prop} (k : next) (h : next → goal := by first
    | exact fun k => TL.alloc_ag rfl k | exact fun k => TL.alloc_sc rfl rfl k | exact fun k => TL.box_ag rfl rfl k | exact fun k => TL.box_sc rfl rfl rfl k
    | fail) : goal := h k
theorem stC {goal next : Prop} (k : next) (h : next → goal := by first
    | exact Br.two Br.eq0 | exact Br.two Br.neq0 | exact Br.two Br.eq | exact Br.two Br.neq | exact Br.two Br.not | exact Br.two Br.dec | exact Br.two Br.bool
    | fail) : goal := h k
end Go.TL
