/-
  The walk of the document's with. The walk of the document's Get.
-/
import Derived.Test.YtacogbfgegcliaaGreatDoorHd37
import Derived.Test.YtacogbfgegcliaaGreatDoorHd38
import Derived.Test.YtacogbfgegcliaaGreatDoorHd36
namespace Go.Proofs.YtacogbfgegcliaaGreatDoor
open Go.RowKit Go.TL
set_option maxRecDepth 100000

def withI (items : List DV) (j : Nat) (y : DV) : List DV := if j = items.length then items ++ [y] else items.set j y
set_option maxHeartbeats 16000000 in
theorem rwith6_does (k : Int) (b : Bool) (n : Int) (t : List UInt8) (items : List DV) (names : List (List UInt8)) (cs : List Value) (y : DV) (us : List Value) (j : Nat) (g : Gh) (L : List Ent) (hX : IsV g (.mk k b n t items names) cs) (hY : IsV g y us) (hj : j ≤ items.length) (hl : items.length ≤ 1000000) :
    Does Tryz.prog 103 #[.agg cs.toArray, .int .i64 (j : Nat), .agg us.toArray] g L (fun e g' L' => ∃ cs', e = .returned (.agg cs'.toArray) ∧ L' = L ∧ IsV g' (.mk k b n t (withI items j y) names) cs') := by
  refine Does.of3 Tryz.func103 rfl Tryz.ntmps103 rfl ?_
  have hul := hY.len
  have huo := hY.ones
  rw [IsV] at hX
  obtain ⟨vi, vn, flat, rfl, bk, bn, bt, hSi, hil, hI, hSn, hnl, hnb⟩ := hX
  have hfl := hI.len
  have hfo := hI.ones
  obtain ⟨ai, ci, rfl⟩ := hSi.slice
  obtain ⟨an, cn, rfl⟩ := hSn.slice
  have HB := Hn.mk (And.intro bk (And.intro bn (And.intro bt (And.intro hil (And.intro hnl hnb)))))
  have HI := Hn.mk hI
  have HS := Hn.mk hSn
  have HY := Hn.mk hY
  clear bk bn bt hil hI hSn hnl hnb hY
  by_cases he : j = items.length
  · subst he
    repeat' (first
    | ((with_reducible apply TL.pure); (· exact yV); (· rfl)) | ((with_reducible apply TW.pure); (· exact yV); (· rfl))
    | (refine TL.build_empty (by rfl) (fun bb => ?_); refine TL.obj_row (b := bb) (k := 0) (sz := 6) .here rfl (by decide) ?_)
    | ((with_reducible apply TL.append (e := 29)); (· rfl); (· rfl); (· rfl); (· rfl); (· exact pkA); (· first | exact Src.obj pkA | exact Src.sl (by assumption) | exact Src.row pkA); (· first | exact hfl | exact hul); (· first | exact hfo | exact huo); (· exact ⟨by unfold maxLen; omega, by omega⟩); (· rfl); intro vf; refine Go.TL.TL.row_slice (v := vf) pkA ?_; rintro af cf rfl _; try rw [Nat.zero_add, List.nil_append])
    | ((with_reducible apply TL.build_slice); (· rfl); (· rfl); (· exact oneA); (· rfl); (· rfl); (· rfl); intro _) | refine TL.build_one (by rfl) (by first | rfl | assumption) (by rfl) (by rfl) (by rfl) (by rfl) (fun _ => ?_) | refine TL.build_empty (by rfl) (fun _ => ?_)
    | ((with_reducible apply TL.pure); (· exact yA); (· rfl))
    | refine TC.seq ?_ | refine TC.region ?_ | refine TL.nil ?_ | refine TQ.then_normal ?_
    | ((with_reducible apply TL.storeE); (· rfl); (· rfl); (· rfl); (· exact pkA); (· infer_instance)) | ((with_reducible apply TL.store_whole); (· rfl); (· rfl); (· exact oneA); (· rfl); (· exact pkA); (· rfl))
    | refine TC.block ?_ | refine TC.ret ?_ | refine TC.skip ?_ | refine TC.exit ?_ | refine TC.cond rfl ?_
    | refine TQ.down ?_ | refine TQ.in_exit' rfl ?_
    | refine TL.guard_yes rfl rfl ?_ | refine TL.guard_no rfl rfl rfl rfl ?_ | refine TL.guard_no0 rfl rfl rfl ?_ | refine TL.guard_undef rfl rfl rfl ?_ | refine TL.guard_undef0 rfl rfl ?_ | refine TL.guard rfl rfl rfl ?_
    | refine Br.t rfl ?_ | refine Br.f rfl ?_ | refine Br.ky kpA ?_ | refine Br.kn kpA ?_ | refine Br.nky kpA ?_ | refine Br.nkn kpA ?_
    | refine Br.eq0 (fun _ => ?_) (fun _ => ?_) | refine Br.neq0 (fun _ => ?_) (fun _ => ?_) | refine Br.eq (fun _ => ?_) (fun _ => ?_) | refine Br.neq (fun _ => ?_) (fun _ => ?_) | refine Br.not (fun _ => ?_) (fun _ => ?_) | refine Br.dec (fun _ => ?_) (fun _ => ?_) | refine Br.bool (fun _ => ?_) (fun _ => ?_)
    | ((with_reducible apply TL.alloc_ag); (· rfl); intro _) | ((with_reducible apply TL.alloc_sc); (· rfl); (· rfl); intro _) | ((with_reducible apply TL.box_ag); (· rfl); (· rfl); intro _) | ((with_reducible apply TL.box_sc); (· rfl); (· rfl); (· rfl); intro _))
    refine TQ.freeze (v := .slice af (items.length + 1) cf) pkA ?_
    intro g' hg' hsl
    refine TQ.endR1 (L' := L) Tryz.results103 rvA rfl (hg') ?_ selA
    refine ⟨_, rfl, rfl, ?_⟩
    obtain ⟨bk, bn, bt, hil, hnl, hnb⟩ := HB.out
    unfold withI
    rw [if_pos rfl, IsV]
    refine ⟨_, _, flat ++ us, rfl, bk, bn, bt, ?_, ?_, .append (.one (IsV.le hg' _ _ HY.out)) (IsVs.le hg' _ _ HI.out), HS.out.le hg', hnl, hnb⟩
    · rw [List.length_append, List.length_singleton]; exact hsl
    · rw [List.length_append, List.length_singleton]; omega
  · have hlt : j < items.length := by omega
    have HE : Hn (¬ ((j : Nat) : Int) = (items.length : Nat)) := ⟨by omega⟩
    repeat' (first
    | ((with_reducible apply TL.pure); (· exact yV); (· rfl)) | ((with_reducible apply TW.pure); (· exact yV); (· rfl))
    | (refine TL.build_empty (by rfl) (fun bb => ?_); refine TL.obj_row (b := bb) (k := 0) (sz := 6) .here rfl (by decide) ?_)
    | ((with_reducible apply TL.append (e := 29)); (· rfl); (· rfl); (· rfl); (· rfl); (· exact pkA); (· exact Src.sl (by assumption)); (· exact hfl); (· exact hfo); (· exact ⟨by unfold maxLen; omega, by omega⟩); (· rfl); intro vf; rw [Nat.zero_add, List.nil_append]; refine Go.TL.TL.row_form (v := vf) pkA (by omega) ?_; rintro bf cf rfl _)
    | ((with_reducible apply TL.store_row_ag); (· rfl); (· rfl); (· exact huo); (· exact hul); (· exact pkA); (· omega))
    | ((with_reducible apply TL.pure); (· exact yA); (· rfl))
    | refine TC.seq ?_ | refine TC.region ?_ | refine TL.nil ?_ | refine TQ.then_normal ?_
    | ((with_reducible apply TL.storeE); (· rfl); (· rfl); (· rfl); (· exact pkA); (· infer_instance)) | ((with_reducible apply TL.store_whole); (· rfl); (· rfl); (· exact oneA); (· rfl); (· exact pkA); (· rfl))
    | refine TC.block ?_ | refine TC.ret ?_ | refine TC.skip ?_ | refine TC.exit ?_ | refine TC.cond rfl ?_
    | refine TQ.down ?_ | refine TQ.in_exit' rfl ?_
    | refine TL.guard_yes rfl rfl ?_ | refine TL.guard_no rfl rfl rfl rfl ?_ | refine TL.guard_no0 rfl rfl rfl ?_ | refine TL.guard_undef rfl rfl rfl ?_ | refine TL.guard_undef0 rfl rfl ?_ | refine TL.guard rfl rfl rfl ?_
    | refine Br.t rfl ?_ | refine Br.f rfl ?_ | refine Br.ky kpA ?_ | refine Br.kn kpA ?_ | refine Br.nky kpA ?_ | refine Br.nkn kpA ?_
    | refine Br.eq0 (fun _ => ?_) (fun _ => ?_) | refine Br.neq0 (fun _ => ?_) (fun _ => ?_) | refine Br.eq (fun _ => ?_) (fun _ => ?_) | refine Br.neq (fun _ => ?_) (fun _ => ?_) | refine Br.not (fun _ => ?_) (fun _ => ?_) | refine Br.dec (fun _ => ?_) (fun _ => ?_) | refine Br.bool (fun _ => ?_) (fun _ => ?_)
    | ((with_reducible apply TL.alloc_ag); (· rfl); intro _) | ((with_reducible apply TL.alloc_sc); (· rfl); (· rfl); intro _) | ((with_reducible apply TL.box_ag); (· rfl); (· rfl); intro _) | ((with_reducible apply TL.box_sc); (· rfl); (· rfl); (· rfl); intro _))
    refine TQ.freeze (v := .slice (some ⟨bf, 0, none⟩) items.length cf) pkA ?_
    intro g' hg' hsl
    refine TQ.endR1 (L' := L) Tryz.results103 rvA rfl (hg') ?_ selA
    refine ⟨_, rfl, rfl, ?_⟩
    obtain ⟨bk, bn, bt, hil, hnl, hnb⟩ := HB.out
    unfold withI
    rw [if_neg he, IsV]
    rw [Nat.zero_add] at hsl
    refine ⟨_, _, _, rfl, bk, bn, bt, ?_, ?_, (IsVs.le hg' _ _ HI.out).set (IsV.le hg' _ _ HY.out) hlt, HS.out.le hg', hnl, hnb⟩
    · rw [List.length_set]; exact hsl
    · rw [List.length_set]; exact hil
end Go.Proofs.YtacogbfgegcliaaGreatDoor
namespace Go.Proofs.YtacogbfgegcliaaGreatDoor
open Go.RowKit Go.TL
set_option maxRecDepth 100000

theorem at_lt {k : Int} {items : List DV} {names : List (List UInt8)} {s : List UInt8} {j : Nat} (h : atD k items names s = some j) (hn : k = 5 → names.length = items.length) : j < items.length ∧ (k = 4 ∨ k = 5) := by
  unfold atD at h
  split at h
  · rename_i h5
    have := idxN_lt h
    rw [hn h5] at this
    exact ⟨this, .inr h5⟩
  · split at h
    · rename_i h4
      obtain ⟨m, _, hm⟩ := Option.bind_eq_some_iff.1 h
      split at hm
      · rename_i hlt
        obtain rfl := Option.some.inj hm
        exact ⟨hlt, .inl h4⟩
      · cases hm
    · cases h
end Go.Proofs.YtacogbfgegcliaaGreatDoor
