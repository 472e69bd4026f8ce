/-
  The walk of path.put.
-/
import Derived.Test.YtacogbfgegcliaaGreatDoorPPutA
import Derived.Test.YtacogbfgegcliaaGreatDoorPPutB
import Derived.Test.YtacogbfgegcliaaGreatDoorPPutC
import Derived.Test.YtacogbfgegcliaaGreatDoorPPutD
namespace Go.Proofs.YtacogbfgegcliaaGreatDoor
open Go.RowKit Go.TL
set_option maxRecDepth 100000

theorem put_does : ∀ (l : List (List UInt8)), PutOk l
  | [] => fun _ _ x y v u sv M N g L hM hN hs hS hE hT => by
    refine Does.of3 Tryz.func65 rfl Tryz.ntmps65 rfl ?_
    obtain ⟨ao, cap, rfl⟩ := hs.slice
    have h1 := hM.one
    have h2 := hN.one
    clear hs
    repeat' (first
    | ((with_reducible apply TL.pure); (· exact yV); (· rfl)) | ((with_reducible apply TW.pure); (· exact yV); (· rfl))
    | ((with_reducible apply TL.pure); (· exact yA); (· rfl))
    | refine TC.seq ?_ | refine TC.region ?_ | refine TL.nil ?_ | refine TQ.then_normal ?_
    | ((with_reducible apply TL.storeE); (· rfl); (· rfl); (· rfl); (· exact pkA); (· infer_instance)) | ((with_reducible apply TL.store_whole); (· rfl); (· rfl); (· exact oneA); (· rfl); (· exact pkA); (· rfl))
    | refine TC.block ?_ | refine TC.ret ?_ | refine TC.skip ?_ | refine TC.exit ?_ | refine TC.cond rfl ?_
    | refine TQ.down ?_ | refine TQ.in_exit' rfl ?_
    | refine TL.guard_yes rfl rfl ?_ | refine TL.guard_no rfl rfl rfl rfl ?_ | refine TL.guard_no0 rfl rfl rfl ?_ | refine TL.guard_undef rfl rfl rfl ?_ | refine TL.guard_undef0 rfl rfl ?_ | refine TL.guard rfl rfl rfl ?_
    | refine Br.t rfl ?_ | refine Br.f rfl ?_ | refine Br.ky kpA ?_ | refine Br.kn kpA ?_ | refine Br.nky kpA ?_ | refine Br.nkn kpA ?_
    | refine Br.eq0 (fun _ => ?_) (fun _ => ?_) | refine Br.neq0 (fun _ => ?_) (fun _ => ?_) | refine Br.eq (fun _ => ?_) (fun _ => ?_) | refine Br.neq (fun _ => ?_) (fun _ => ?_) | refine Br.not (fun _ => ?_) (fun _ => ?_) | refine Br.dec (fun _ => ?_) (fun _ => ?_) | refine Br.bool (fun _ => ?_) (fun _ => ?_)
    | ((with_reducible apply TL.alloc_ag); (· rfl); intro _) | ((with_reducible apply TL.alloc_sc); (· rfl); (· rfl); intro _) | ((with_reducible apply TL.box_ag); (· rfl); (· rfl); intro _) | ((with_reducible apply TL.box_sc); (· rfl); (· rfl); (· rfl); intro _))
    refine TQ.endR2 (L' := (grp N :: L)) Tryz.results65 rvA rvA rfl (.refl _) ?_ selA
    exact ⟨u, true, rfl, rfl, h2, rfl, N, rfl, hN⟩
  | s :: r => fun hl hl2 x y v u sv M N g L hM hN hs hS hE hT => by
    have IH := put_does r
    cases x with
    | obj ns xs =>
      cases hk : idxN ns s with
      | none => exact put_obj_new s r IH hl hl2 ns xs y v u sv M N g L hM hN hs hS hE hT hk
      | some k => exact put_obj_old s r IH hl hl2 ns xs k y v u sv M N g L hM hN hs hS hE hT hk
    | list xs =>
      cases hi : itemL s with
      | none => exact put_list_no s r IH hl hl2 xs y v u sv M N g L hM hN hs hS hE hT hi
      | some k =>
        by_cases h1 : k < xs.length
        · exact put_list_old s r IH hl hl2 xs k y v u sv M N g L hM hN hs hS hE hT hi h1
        · by_cases h2 : k = xs.length
          · exact put_list_new s r IH hl hl2 xs k y v u sv M N g L hM hN hs hS hE hT hi h2
          · exact put_list_far s r IH hl hl2 xs k y v u sv M N g L hM hN hs hS hE hT hi (by omega)
    | _ => exact put_flat s r IH hl hl2 _ (fun _ e => by cases e) (fun _ _ e => by cases e) y v u sv M N g L hM hN hs hS hE hT
end Go.Proofs.YtacogbfgegcliaaGreatDoor
