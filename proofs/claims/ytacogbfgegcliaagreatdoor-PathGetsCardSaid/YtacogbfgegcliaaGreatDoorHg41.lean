/-
  The walk of the document's Get.
-/
import Derived.Test.YtacogbfgegcliaaGreatDoorHg39
import Derived.Test.YtacogbfgegcliaaGreatDoorHg38
namespace Go.Proofs.YtacogbfgegcliaaGreatDoor
open Go.RowKit Go.TL
set_option maxRecDepth 100000

def GetDR (o : Option DV) (g : Gh) (L : List Ent) : Ending → Gh → List Ent → Prop := fun e g' L' => ∃ (cs : List Value) (b : Bool), e = .returned (.tuple #[.agg cs.toArray, .bool b]) ∧ g' = g ∧ L' = L ∧ (match o with
  | some z => b = true ∧ IsV g z cs ∧ wfV z
  | none => b = false ∧ cs = [.int .i64 0, .bool false, .int .i64 0, .string ⟨#[]⟩, .slice none 0 0, .slice none 0 0])
theorem at_lt {k : Int} {items : List DV} {names : List (List UInt8)} {s : List UInt8} {j : Nat} (h : atD k items names s = some j) (hn : k = 5 → names.length = items.length) : j < items.length ∧ (k = 4 ∨ k = 5) := by
  unfold atD at h
  split at h
  · rename_i h5
    have := idxN_lt h
    rw [hn h5] at this
    exact ⟨this, .inr h5⟩
  · split at h
    · rename_i h4
      obtain ⟨m, _, hm⟩ := Option.bind_eq_some_iff.1 h
      split at hm
      · rename_i hlt
        obtain rfl := Option.some.inj hm
        exact ⟨hlt, .inl h4⟩
      · cases hm
    · cases h
set_option maxHeartbeats 16000000 in
theorem rGet6_does (l : List (List UInt8)) (x : DV) (cs : List Value) (vl : Value) (g : Gh) (L : List Ent) (hX : IsV g x cs) (hW : wfV x) (hl : ∀ s ∈ l, s ≠ [] ∧ s.length ≤ 1000000) (hll : l.length ≤ 1000000) (hS : Sl g vl l.length 1 (strs l)) : Does Tryz.prog 43 #[.agg cs.toArray, vl] g L (GetDR (getD l x) g L) := by
  refine Does.of2 Tryz.func43 rfl Tryz.ntmps43 rfl ?_
  obtain ⟨al, cl, rfl⟩ := hS.slice
  obtain ⟨R, hR⟩ : ∃ R, R = getD l x := ⟨_, rfl⟩
  rw [← hR]
  unfold GetDR
  have h6 := hX.len
  obtain ⟨k, b, n, t, items, names⟩ := x
  have hX0 := hX
  rw [IsV] at hX
  obtain ⟨vi, vn, flat, rfl, _⟩ := hX
  repeat' (first
    | ((with_reducible apply TL.pure); (· exact yV); (· rfl)) | ((with_reducible apply TW.pure); (· exact yV); (· rfl))
    | ((with_reducible apply TL.pure); (· exact yA); (· rfl))
    | refine TC.seq ?_ | refine TC.region ?_ | refine TL.nil ?_ | refine TQ.then_normal ?_
    | ((with_reducible apply TL.storeE); (· rfl); (· rfl); (· rfl); (· exact pkA); (· infer_instance)) | ((with_reducible apply TL.store_whole); (· rfl); (· rfl); (· exact oneA); (· rfl); (· exact pkA); (· rfl))
    | refine TC.block ?_ | refine TC.ret ?_ | refine TC.skip ?_ | refine TC.exit ?_ | refine TC.cond rfl ?_
    | refine TQ.down ?_ | refine TQ.in_exit' rfl ?_
    | refine TL.guard_yes rfl rfl ?_ | refine TL.guard_no rfl rfl rfl rfl ?_ | refine TL.guard_no0 rfl rfl rfl ?_ | refine TL.guard_undef rfl rfl rfl ?_ | refine TL.guard_undef0 rfl rfl ?_ | refine TL.guard rfl rfl rfl ?_
    | refine Br.t rfl ?_ | refine Br.f rfl ?_ | refine Br.ky kpA ?_ | refine Br.kn kpA ?_ | refine Br.nky kpA ?_ | refine Br.nkn kpA ?_
    | refine Br.eq0 (fun _ => ?_) (fun _ => ?_) | refine Br.neq0 (fun _ => ?_) (fun _ => ?_) | refine Br.eq (fun _ => ?_) (fun _ => ?_) | refine Br.neq (fun _ => ?_) (fun _ => ?_) | refine Br.not (fun _ => ?_) (fun _ => ?_) | refine Br.dec (fun _ => ?_) (fun _ => ?_) | refine Br.bool (fun _ => ?_) (fun _ => ?_)
    | ((with_reducible apply TL.alloc_ag); (· rfl); intro _) | ((with_reducible apply TL.alloc_sc); (· rfl); (· rfl); intro _) | ((with_reducible apply TL.box_ag); (· rfl); (· rfl); intro _) | ((with_reducible apply TL.box_sc); (· rfl); (· rfl); (· rfl); intro _))
  rename_i b2 b4
  refine TC.loopL (α := Nat × DV × List Value) (fun y => y.1 ≤ l.length ∧ getD (l.drop y.1) y.2.1 = R ∧ IsV g y.2.1 y.2.2 ∧ wfV y.2.1) (fun y => l.length - y.1) (fun y _ => [(6, .int .i64 (y.1 : Nat)), (1, .slice al l.length cl), (2, .pointer (some ⟨b2, 0, none⟩)), (4, .pointer (some ⟨b4, 0, none⟩))]) (fun y => .obj b2 (.cells y.2.2.toArray 29 (0, 0)) :: .obj b4 (.cells [.int .i64 0, .bool false, .int .i64 0, .string ⟨#[]⟩, .slice none 0 0, .slice none 0 0].toArray 29 (0, 0)) :: L) (0, .mk k b n t items names, _) ⟨Nat.zero_le _, hR.symm, hX0, hW⟩ subA selA ?_
  clear hR hX0 hW h6
  rintro ⟨i, ⟨k, b, n, t, items, names⟩, cs⟩ ⟨hi, hR, hX, hW⟩
  dsimp only at hi hR hX hW ⊢
  by_cases hlt : i < l.length
  · obtain ⟨s, hs⟩ : ∃ s, l[i]? = some s := ⟨_, List.getElem?_eq_getElem hlt⟩
    obtain ⟨hs0, hsl⟩ := hl s (List.mem_of_getElem? hs)
    obtain ⟨b1, o1, rfl, hg⟩ := hS.elem hlt (by decide)
    have hld : g.cell b1 (o1 + i * 1) = some (str s) := hg 0 _ (by rw [Nat.mul_one]; exact strs_get hs)
    have A := fun L => rat6_gives k b n t items names cs s g L hX hW hs0 hsl
    rw [drop_of_get hs, getD] at hR
    rw [IsV] at hX
    rw [wfV] at hW
    obtain ⟨vi, vn, flat, rfl, bk, bn, bt, hSi, hil, hI, hSn, hnl, hnb⟩ := hX
    obtain ⟨_, hil2, hW5, hWs⟩ := hW
    obtain ⟨ai, ci, rfl⟩ := hSi.slice
    obtain ⟨an, cn, rfl⟩ := hSn.slice
    cases ha : atD k items names s with
    | none =>
      have hV : atV k items names s = -1 := by unfold atV; rw [ha]
      rw [hV] at A
      rw [ha] at hR
      obtain rfl : R = none := hR.symm
      clear hSi hI hSn hg hS hl hW5 hWs hV ha
      repeat' (first
    | ((with_reducible apply TL.pure); (· exact yV); (· rfl)) | ((with_reducible apply TW.pure); (· exact yV); (· rfl))
    | ((with_reducible apply TL.pure); (· exact yM); (· rfl)) | ((with_reducible apply TW.pure); (· exact yM); (· rfl))
    | ((with_reducible apply TL.gives_plain); (· kernel_rfl); (· rfl); (· exact A _); (· rfl)) | ((with_reducible apply TW.gives_plain); (· kernel_rfl); (· rfl); (· exact A _); (· rfl))
    | ((with_reducible apply TL.pure); (· exact yA); (· rfl))
    | refine TC.seq ?_ | refine TC.region ?_ | refine TL.nil ?_ | refine TQ.then_normal ?_
    | ((with_reducible apply TL.storeE); (· rfl); (· rfl); (· rfl); (· exact pkA); (· infer_instance)) | ((with_reducible apply TL.store_whole); (· rfl); (· rfl); (· exact oneA); (· rfl); (· exact pkA); (· rfl))
    | refine TC.block ?_ | refine TC.ret ?_ | refine TC.skip ?_ | refine TC.exit ?_ | refine TC.cond rfl ?_
    | refine TQ.down ?_ | refine TQ.in_exit' rfl ?_
    | refine TL.guard_yes rfl rfl ?_ | refine TL.guard_no rfl rfl rfl rfl ?_ | refine TL.guard_no0 rfl rfl rfl ?_ | refine TL.guard_undef rfl rfl rfl ?_ | refine TL.guard_undef0 rfl rfl ?_ | refine TL.guard rfl rfl rfl ?_
    | refine Br.t rfl ?_ | refine Br.f rfl ?_ | refine Br.ky kpA ?_ | refine Br.kn kpA ?_ | refine Br.nky kpA ?_ | refine Br.nkn kpA ?_
    | refine Br.eq0 (fun _ => ?_) (fun _ => ?_) | refine Br.neq0 (fun _ => ?_) (fun _ => ?_) | refine Br.eq (fun _ => ?_) (fun _ => ?_) | refine Br.neq (fun _ => ?_) (fun _ => ?_) | refine Br.not (fun _ => ?_) (fun _ => ?_) | refine Br.dec (fun _ => ?_) (fun _ => ?_) | refine Br.bool (fun _ => ?_) (fun _ => ?_)
    | ((with_reducible apply TL.alloc_ag); (· rfl); intro _) | ((with_reducible apply TL.alloc_sc); (· rfl); (· rfl); intro _) | ((with_reducible apply TL.box_ag); (· rfl); (· rfl); intro _) | ((with_reducible apply TL.box_sc); (· rfl); (· rfl); (· rfl); intro _)
    | apply TC.region_draw (by kernel_rfl) (by kernel_rfl) | refine TW.nil ?_ | ((with_reducible apply TW.pure); (· exact yA); (· rfl)))
      refine TQ.endR2 (L' := L) Tryz.results43 rvA rvA rfl (.refl _) ?_ selA
      exact ⟨_, false, rfl, rfl, rfl, rfl, rfl⟩
    | some j =>
      have hV : atV k items names s = (j : Nat) := by unfold atV; rw [ha]
      rw [hV] at A
      rw [ha] at hR
      obtain ⟨hjl, hk⟩ := at_lt ha (fun e => (hW5 e).1)
      obtain ⟨y, hy⟩ : ∃ y, items[j]? = some y := ⟨_, List.getElem?_eq_getElem hjl⟩
      obtain ⟨cs', hV', hcl, hfl⟩ := hI.get hy
      obtain ⟨b3, o3, rfl, hg3⟩ := hSi.elem hjl (by decide)
      have hWy := wfVs.get (hWs hk) hy
      have hR : (items[j]?).bind (getD (l.drop (i + 1))) = R := hR
      rw [hy, Option.bind_some] at hR
      have hj0 : Hn (¬ ((j : Nat) : Int) < 0) := ⟨by omega⟩
      obtain ⟨k', b', n', t', items', names'⟩ := y
      have hV0 := hV'
      rw [IsV] at hV'
      obtain ⟨vi', vn', flat', rfl, _, _, _, hSi', _, _, hSn', _, _⟩ := hV'
      obtain ⟨ai', ci', rfl⟩ := hSi'.slice
      obtain ⟨an', cn', rfl⟩ := hSn'.slice
      have hld3 : ∀ j2 u, ([.int .i64 k', .bool b', .int .i64 n', str t', .slice ai' items'.length ci', .slice an' names'.length cn'] : List Value)[j2]? = some u → g.cell b3 (o3 + j * 6 + j2) = some u := fun j2 u hu => hg3 j2 u (hfl j2 u hu)
      have HR := Hn.mk hR
      have HW := Hn.mk hWy
      have HV := Hn.mk hV0
      clear hSi hI hSn hg hS hl hW5 hWs hV ha hg3 hfl hSi' hSn' hy hR hWy hV0
      repeat' (first
    | ((with_reducible apply TL.pure); (· exact yV); (· rfl)) | ((with_reducible apply TW.pure); (· exact yV); (· rfl))
    | ((with_reducible apply TL.pure); (· exact yM); (· rfl)) | ((with_reducible apply TW.pure); (· exact yM); (· rfl))
    | ((with_reducible apply TL.gives_plain); (· kernel_rfl); (· rfl); (· exact A _); (· rfl)) | ((with_reducible apply TW.gives_plain); (· kernel_rfl); (· rfl); (· exact A _); (· rfl))
    | ((with_reducible apply TL.pure); (· exact yA); (· rfl))
    | refine TC.seq ?_ | refine TC.region ?_ | refine TL.nil ?_ | refine TQ.then_normal ?_
    | ((with_reducible apply TL.storeE); (· rfl); (· rfl); (· rfl); (· exact pkA); (· infer_instance)) | ((with_reducible apply TL.store_whole); (· rfl); (· rfl); (· exact oneA); (· rfl); (· exact pkA); (· rfl))
    | refine TC.block ?_ | refine TC.ret ?_ | refine TC.skip ?_ | refine TC.exit ?_ | refine TC.cond rfl ?_
    | refine TQ.down ?_ | refine TQ.in_exit' rfl ?_
    | refine TL.guard_yes rfl rfl ?_ | refine TL.guard_no rfl rfl rfl rfl ?_ | refine TL.guard_no0 rfl rfl rfl ?_ | refine TL.guard_undef rfl rfl rfl ?_ | refine TL.guard_undef0 rfl rfl ?_ | refine TL.guard rfl rfl rfl ?_
    | refine Br.t rfl ?_ | refine Br.f rfl ?_ | refine Br.ky kpA ?_ | refine Br.kn kpA ?_ | refine Br.nky kpA ?_ | refine Br.nkn kpA ?_
    | refine Br.eq0 (fun _ => ?_) (fun _ => ?_) | refine Br.neq0 (fun _ => ?_) (fun _ => ?_) | refine Br.eq (fun _ => ?_) (fun _ => ?_) | refine Br.neq (fun _ => ?_) (fun _ => ?_) | refine Br.not (fun _ => ?_) (fun _ => ?_) | refine Br.dec (fun _ => ?_) (fun _ => ?_) | refine Br.bool (fun _ => ?_) (fun _ => ?_)
    | ((with_reducible apply TL.alloc_ag); (· rfl); intro _) | ((with_reducible apply TL.alloc_sc); (· rfl); (· rfl); intro _) | ((with_reducible apply TL.box_ag); (· rfl); (· rfl); intro _) | ((with_reducible apply TL.box_sc); (· rfl); (· rfl); (· rfl); intro _)
    | apply TC.region_draw (by kernel_rfl) (by kernel_rfl) | refine TW.nil ?_ | ((with_reducible apply TW.pure); (· exact yA); (· rfl)))
      refine TQ.round (i + 1, .mk k' b' n' t' items' names', [.int .i64 k', .bool b', .int .i64 n', str t', .slice ai' items'.length ci', .slice an' names'.length cn']) ?_ ?_ rfl subA selA
      · exact ⟨by dsimp only; omega, HR.out, HV.out, HW.out⟩
      · show l.length - (i + 1) < l.length - i
        omega
  · rw [List.drop_eq_nil_of_le (by omega), getD] at hR
    subst hR
    have HX := Hn.mk hX
    rw [IsV] at hX
    obtain ⟨vi, vn, flat, rfl, _, _, _, hSi, _, _, hSn, _, _⟩ := hX
    obtain ⟨ai, ci, rfl⟩ := hSi.slice
    obtain ⟨an, cn, rfl⟩ := hSn.slice
    clear hSi hSn
    clear hS hl
    repeat' (first
    | ((with_reducible apply TL.pure); (· exact yV); (· rfl)) | ((with_reducible apply TW.pure); (· exact yV); (· rfl))
    | ((with_reducible apply TL.pure); (· exact yM); (· rfl)) | ((with_reducible apply TW.pure); (· exact yM); (· rfl))
    | ((with_reducible apply TL.pure); (· exact yA); (· rfl))
    | refine TC.seq ?_ | refine TC.region ?_ | refine TL.nil ?_ | refine TQ.then_normal ?_
    | ((with_reducible apply TL.storeE); (· rfl); (· rfl); (· rfl); (· exact pkA); (· infer_instance)) | ((with_reducible apply TL.store_whole); (· rfl); (· rfl); (· exact oneA); (· rfl); (· exact pkA); (· rfl))
    | refine TC.block ?_ | refine TC.ret ?_ | refine TC.skip ?_ | refine TC.exit ?_ | refine TC.cond rfl ?_
    | refine TQ.down ?_ | refine TQ.in_exit' rfl ?_
    | refine TL.guard_yes rfl rfl ?_ | refine TL.guard_no rfl rfl rfl rfl ?_ | refine TL.guard_no0 rfl rfl rfl ?_ | refine TL.guard_undef rfl rfl rfl ?_ | refine TL.guard_undef0 rfl rfl ?_ | refine TL.guard rfl rfl rfl ?_
    | refine Br.t rfl ?_ | refine Br.f rfl ?_ | refine Br.ky kpA ?_ | refine Br.kn kpA ?_ | refine Br.nky kpA ?_ | refine Br.nkn kpA ?_
    | refine Br.eq0 (fun _ => ?_) (fun _ => ?_) | refine Br.neq0 (fun _ => ?_) (fun _ => ?_) | refine Br.eq (fun _ => ?_) (fun _ => ?_) | refine Br.neq (fun _ => ?_) (fun _ => ?_) | refine Br.not (fun _ => ?_) (fun _ => ?_) | refine Br.dec (fun _ => ?_) (fun _ => ?_) | refine Br.bool (fun _ => ?_) (fun _ => ?_)
    | ((with_reducible apply TL.alloc_ag); (· rfl); intro _) | ((with_reducible apply TL.alloc_sc); (· rfl); (· rfl); intro _) | ((with_reducible apply TL.box_ag); (· rfl); (· rfl); intro _) | ((with_reducible apply TL.box_sc); (· rfl); (· rfl); (· rfl); intro _)
    | apply TC.region_draw (by kernel_rfl) (by kernel_rfl) | refine TW.nil ?_ | ((with_reducible apply TW.pure); (· exact yA); (· rfl)))
    refine TQ.endR2 (L' := L) Tryz.results43 rvA rvA rfl (.refl _) ?_ selA
    exact ⟨[_, _, _, _, _, _], true, rfl, rfl, rfl, rfl, HX.out, hW⟩
end Go.Proofs.YtacogbfgegcliaaGreatDoor
