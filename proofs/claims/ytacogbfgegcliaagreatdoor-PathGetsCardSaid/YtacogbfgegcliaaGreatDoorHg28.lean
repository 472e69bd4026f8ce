/-
  The walks of slices.Delete. What drop does; trees without a part.
-/
import Derived.Test.YtacogbfgegcliaaGreatDoorHg27
import Derived.Test.YtacogbfgegcliaaGreatDoorHg22
namespace Go.Proofs.YtacogbfgegcliaaGreatDoor
open Go.RowKit Go.TL
set_option maxRecDepth 100000

theorem delM_cells {cs flat : List Value} {k i cap : Nat} (hf : cs.take (k * 2) = flat) (hl : cs.length = cap * 2) (hik : i < k) (hkc : k ≤ cap) (zs : List Value) (hz : zs.length = 2) :
    flat.length = k * 2 ∧ (flat.drop ((i + 1) * 2)).length = (k - (i + 1)) * 2 ∧ (cs.take (i * 2) ++ flat.drop ((i + 1) * 2) ++ cs.drop (i * 2 + (k - (i + 1)) * 2)).length = cap * 2 ∧
    ∀ cs', cs' = cs.take (i * 2) ++ flat.drop ((i + 1) * 2) ++ cs.drop (i * 2 + (k - (i + 1)) * 2) → (cs'.take ((k - 1) * 2) ++ zs ++ cs'.drop ((k - 1) * 2 + 2)).length = cap * 2 ∧ (cs'.take ((k - 1) * 2) ++ zs ++ cs'.drop ((k - 1) * 2 + 2)).take ((k - 1) * 2) = flat.take (i * 2) ++ flat.drop ((i + 1) * 2) := by
  have h1 : flat.length = k * 2 := by rw [← hf, List.length_take]; omega
  have h2 : (flat.drop ((i + 1) * 2)).length = (k - (i + 1)) * 2 := by rw [List.length_drop]; omega
  have h3 : (cs.take (i * 2) ++ flat.drop ((i + 1) * 2) ++ cs.drop (i * 2 + (k - (i + 1)) * 2)).length = cap * 2 := by rw [List.length_append, List.length_append, h2, List.length_take, List.length_drop]; omega
  refine ⟨h1, h2, h3, fun cs' hcs => ?_⟩
  have h4 : cs'.length = cap * 2 := by rw [hcs]; exact h3
  have h5 : (cs'.take ((k - 1) * 2)).length = (k - 1) * 2 := by rw [List.length_take]; omega
  refine ⟨by rw [List.length_append, List.length_append, h5, hz, List.length_drop]; omega, ?_⟩
  rw [List.append_assoc, List.take_append_of_le_length (by omega), List.take_take, Nat.min_self, hcs, List.append_assoc, List.take_append, List.take_append]
  have h6 : (cs.take (i * 2)).length = i * 2 := by rw [List.length_take]; omega
  rw [h6, h2, List.take_of_length_le (by omega : (cs.take (i * 2)).length ≤ (k - 1) * 2), List.take_of_length_le (by omega : (flat.drop ((i + 1) * 2)).length ≤ (k - 1) * 2 - i * 2), show (k - 1) * 2 - i * 2 - (k - (i + 1)) * 2 = 0 by omega, List.take_zero, List.append_nil, ← hf, List.take_take, Nat.min_eq_left (by omega)]
set_option maxHeartbeats 16000000 in
theorem delM_does (b k cap i : Nat) (flat : List Value) (g : Gh) (L : List Ent) (hik : i < k) (hk : k ≤ 100000000) (h1 : ∀ u ∈ flat, u.one = true) : Does Tryz.prog 104 #[.slice (some ⟨b, 0, none⟩) k cap, .int .i64 (i : Nat), .int .i64 (i + 1 : Nat)] g (.row 87 2 (.slice (some ⟨b, 0, none⟩) k cap) k flat :: L)
    (fun r g' L1 => r = .returned (.slice (some ⟨b, 0, none⟩) (k - 1) cap) ∧ g' = g ∧ L1 = .row 87 2 (.slice (some ⟨b, 0, none⟩) (k - 1) cap) (k - 1) (flat.take (i * 2) ++ flat.drop ((i + 1) * 2)) :: L) := by
  refine Does.of3 Tryz.func104 rfl Tryz.ntmps104 rfl ?_
  refine TC.row_obj pkA ?_
  intro cs hcs hcl hkc hcm
  obtain ⟨d1, d2, d3, d4⟩ := delM_cells hcs hcl hik hkc [str [], .nilIface] rfl
  have hnews : ∀ j u, (flat.drop ((i + 1) * 2))[j]? = some u → cs[(i + 1) * 2 + j]? = some u := fun j u hu => by
    rw [List.getElem?_drop, ← hcs, List.getElem?_take] at hu
    split at hu
    · exact hu
    · cases hu
  have hone : ∀ u ∈ flat.drop ((i + 1) * 2), u.one = true := fun u hu => h1 u (List.mem_of_mem_drop hu)
  obtain ⟨o3, ho3⟩ : ∃ o, o = if k = i then 0 else 0 + i * 2 := ⟨_, rfl⟩
  obtain ⟨o5, ho5⟩ : ∃ o, o = if cap = i + 1 then 0 else 0 + (i + 1) * 2 := ⟨_, rfl⟩
  obtain ⟨o6, ho6⟩ : ∃ o, o = if cap = k - 1 then 0 else 0 + (k - 1) * 2 := ⟨_, rfl⟩
  have h66 : o6 = (k - 1) * 2 := by rw [ho6, if_neg (by omega)]; omega
  obtain ⟨news, hnw⟩ : ∃ news, news = flat.drop ((i + 1) * 2) := ⟨_, rfl⟩
  rw [← hnw] at d2 d3 d4 hnews hone
  have hnews5 : ∀ j u, news[j]? = some u → cs[o5 + j]? = some u := fun j u hu => by
    by_cases hc : cap = i + 1
    · have : news = [] := List.eq_nil_of_length_eq_zero (by rw [d2]; omega)
      rw [this] at hu; simp at hu
    · rw [ho5, if_neg hc, Nat.zero_add]; exact hnews j u hu
  have D4 := d4 _ rfl
  have H3 := Hn.mk ho3
  have H5 := Hn.mk ho5
  have H6 := Hn.mk ho6
  have HH := Hn.mk (And.intro D4 hnw)
  have HN := Hn.mk (And.intro hnews5 hone)
  clear ho3 ho5 ho6 hnews hnews5 hone d4 D4 hcs h1 hnw
  repeat' (first
    | ((with_reducible apply TL.pure (d := 13) (v := .slice (some ⟨b, o3, none⟩) (i + 1 - i) (k - i))); (· exact Y.slice_three rfl rfl rfl rfl natA natA natA (by omega) (by omega) (by omega) H3.out); (· rfl)) | ((with_reducible apply TW.pure (d := 13) (v := .slice (some ⟨b, o3, none⟩) (i + 1 - i) (k - i))); (· exact Y.slice_three rfl rfl rfl rfl natA natA natA (by omega) (by omega) (by omega) H3.out); (· rfl))
    | ((with_reducible apply TL.pure (d := 25) (v := .slice (some ⟨b, o5, none⟩) (k - (i + 1)) (cap - (i + 1)))); (· exact Y.slice_from rfl rfl natA (by omega) (by omega) H5.out); (· rfl)) | ((with_reducible apply TW.pure (d := 25) (v := .slice (some ⟨b, o5, none⟩) (k - (i + 1)) (cap - (i + 1)))); (· exact Y.slice_from rfl rfl natA (by omega) (by omega) H5.out); (· rfl))
    | ((with_reducible apply TL.pure (d := 31) (v := .slice (some ⟨b, o6, none⟩) (k - (k - 1)) (cap - (k - 1)))); (· exact Y.slice_two (i := k - 1) (j := k) rfl rfl rfl (by omega) (by omega) (by omega) (by omega) H6.out); (· rfl)) | ((with_reducible apply TW.pure (d := 31) (v := .slice (some ⟨b, o6, none⟩) (k - (k - 1)) (cap - (k - 1)))); (· exact Y.slice_two (i := k - 1) (j := k) rfl rfl rfl (by omega) (by omega) (by omega) (by omega) H6.out); (· rfl))
    | ((with_reducible apply TL.pure); (· exact yV); (· rfl)) | ((with_reducible apply TW.pure); (· exact yV); (· rfl))
    | ((with_reducible apply TL.append_room (news := news)); (· rfl); (· rfl); (· exact pkA); (· exact d2); (· exact HN.out.1); (· exact HN.out.2); (· omega); (· omega); (· rfl))
    | ((with_reducible apply TL.clear); (· rfl); (· omega); (· exact pkA); (· rfl); (· rfl); (· rfl); (· rw [d3, h66]; omega))
    | (refine TC.region_tail 6 (by kernel_rfl) (by kernel_rfl) ?_; simp only [List.take_succ_cons, List.take_zero, List.drop_succ_cons, List.drop_zero]) | refine TQ.tail ?_
    | ((with_reducible apply TL.pure); (· exact yA); (· rfl))
    | refine TC.seq ?_ | refine TC.region ?_ | refine TL.nil ?_ | refine TQ.then_normal ?_
    | ((with_reducible apply TL.storeE); (· rfl); (· rfl); (· rfl); (· exact pkA); (· infer_instance)) | ((with_reducible apply TL.store_whole); (· rfl); (· rfl); (· exact oneA); (· rfl); (· exact pkA); (· rfl))
    | refine TC.block ?_ | refine TC.ret ?_ | refine TC.skip ?_ | refine TC.exit ?_ | refine TC.cond rfl ?_
    | refine TQ.down ?_ | refine TQ.in_exit' rfl ?_
    | refine TL.guard_yes rfl rfl ?_ | refine TL.guard_no rfl rfl rfl rfl ?_ | refine TL.guard_no0 rfl rfl rfl ?_ | refine TL.guard_undef rfl rfl rfl ?_ | refine TL.guard_undef0 rfl rfl ?_ | refine TL.guard rfl rfl rfl ?_
    | refine Br.t rfl ?_ | refine Br.f rfl ?_ | refine Br.ky kpA ?_ | refine Br.kn kpA ?_ | refine Br.nky kpA ?_ | refine Br.nkn kpA ?_
    | refine Br.eq0 (fun _ => ?_) (fun _ => ?_) | refine Br.neq0 (fun _ => ?_) (fun _ => ?_) | refine Br.eq (fun _ => ?_) (fun _ => ?_) | refine Br.neq (fun _ => ?_) (fun _ => ?_) | refine Br.not (fun _ => ?_) (fun _ => ?_) | refine Br.dec (fun _ => ?_) (fun _ => ?_) | refine Br.bool (fun _ => ?_) (fun _ => ?_)
    | ((with_reducible apply TL.alloc_ag); (· rfl); intro _) | ((with_reducible apply TL.alloc_sc); (· rfl); (· rfl); intro _) | ((with_reducible apply TL.box_ag); (· rfl); (· rfl); intro _) | ((with_reducible apply TL.box_sc); (· rfl); (· rfl); (· rfl); intro _)
    | apply TC.region_draw (by kernel_rfl) (by kernel_rfl) | refine TW.nil ?_ | ((with_reducible apply TW.pure); (· exact yA); (· rfl)))
  refine TQ.slot (t := 6) (u := .slice (some ⟨b, 0, none⟩) (k - 1) cap) rfl (by rw [show i + (k - (i + 1)) = k - 1 by omega]) ?_
  subst h66
  obtain ⟨⟨e1, e2⟩, e3⟩ := HH.out
  refine TQ.obj_part (k := k - 1) (sz := 2) (cap := cap) pkA e1 (by omega) hcm ?_
  refine TQ.rowE pkA e2 ?_
  subst e3
  refine TQ.endR1 (L' := (.row 87 2 (.slice (some ⟨b, 0, none⟩) (k - 1) cap) (k - 1) (flat.take (i * 2) ++ flat.drop ((i + 1) * 2)) :: L)) Tryz.results104 rvA rfl (.refl _) ?_ selA
  exact ⟨rfl, rfl, rfl⟩
theorem delL_cells {cs flat : List Value} {k i cap : Nat} (hf : cs.take (k * 1) = flat) (hl : cs.length = cap * 1) (hik : i < k) (hkc : k ≤ cap) (zs : List Value) (hz : zs.length = 1) :
    flat.length = k * 1 ∧ (flat.drop ((i + 1) * 1)).length = (k - (i + 1)) * 1 ∧ (cs.take (i * 1) ++ flat.drop ((i + 1) * 1) ++ cs.drop (i * 1 + (k - (i + 1)) * 1)).length = cap * 1 ∧
    ∀ cs', cs' = cs.take (i * 1) ++ flat.drop ((i + 1) * 1) ++ cs.drop (i * 1 + (k - (i + 1)) * 1) → (cs'.take ((k - 1) * 1) ++ zs ++ cs'.drop ((k - 1) * 1 + 1)).length = cap * 1 ∧ (cs'.take ((k - 1) * 1) ++ zs ++ cs'.drop ((k - 1) * 1 + 1)).take ((k - 1) * 1) = flat.take (i * 1) ++ flat.drop ((i + 1) * 1) := by
  have h1 : flat.length = k * 1 := by rw [← hf, List.length_take]; omega
  have h2 : (flat.drop ((i + 1) * 1)).length = (k - (i + 1)) * 1 := by rw [List.length_drop]; omega
  have h3 : (cs.take (i * 1) ++ flat.drop ((i + 1) * 1) ++ cs.drop (i * 1 + (k - (i + 1)) * 1)).length = cap * 1 := by rw [List.length_append, List.length_append, h2, List.length_take, List.length_drop]; omega
  refine ⟨h1, h2, h3, fun cs' hcs => ?_⟩
  have h4 : cs'.length = cap * 1 := by rw [hcs]; exact h3
  have h5 : (cs'.take ((k - 1) * 1)).length = (k - 1) * 1 := by rw [List.length_take]; omega
  refine ⟨by rw [List.length_append, List.length_append, h5, hz, List.length_drop]; omega, ?_⟩
  rw [List.append_assoc, List.take_append_of_le_length (by omega), List.take_take, Nat.min_self, hcs, List.append_assoc, List.take_append, List.take_append]
  have h6 : (cs.take (i * 1)).length = i * 1 := by rw [List.length_take]; omega
  rw [h6, h2, List.take_of_length_le (by omega : (cs.take (i * 1)).length ≤ (k - 1) * 1), List.take_of_length_le (by omega : (flat.drop ((i + 1) * 1)).length ≤ (k - 1) * 1 - i * 1), show (k - 1) * 1 - i * 1 - (k - (i + 1)) * 1 = 0 by omega, List.take_zero, List.append_nil, ← hf, List.take_take, Nat.min_eq_left (by omega)]
set_option maxHeartbeats 16000000 in
theorem delL_does (b k cap i : Nat) (flat : List Value) (g : Gh) (L : List Ent) (hik : i < k) (hk : k ≤ 100000000) (h1 : ∀ u ∈ flat, u.one = true) : Does Tryz.prog 105 #[.slice (some ⟨b, 0, none⟩) k cap, .int .i64 (i : Nat), .int .i64 (i + 1 : Nat)] g (.row 20 1 (.slice (some ⟨b, 0, none⟩) k cap) k flat :: L)
    (fun r g' L1 => r = .returned (.slice (some ⟨b, 0, none⟩) (k - 1) cap) ∧ g' = g ∧ L1 = .row 20 1 (.slice (some ⟨b, 0, none⟩) (k - 1) cap) (k - 1) (flat.take (i * 1) ++ flat.drop ((i + 1) * 1)) :: L) := by
  refine Does.of3 Tryz.func105 rfl Tryz.ntmps105 rfl ?_
  refine TC.row_obj pkA ?_
  intro cs hcs hcl hkc hcm
  obtain ⟨d1, d2, d3, d4⟩ := delL_cells hcs hcl hik hkc [.nilIface] rfl
  have hnews : ∀ j u, (flat.drop ((i + 1) * 1))[j]? = some u → cs[(i + 1) * 1 + j]? = some u := fun j u hu => by
    rw [List.getElem?_drop, ← hcs, List.getElem?_take] at hu
    split at hu
    · exact hu
    · cases hu
  have hone : ∀ u ∈ flat.drop ((i + 1) * 1), u.one = true := fun u hu => h1 u (List.mem_of_mem_drop hu)
  obtain ⟨o3, ho3⟩ : ∃ o, o = if k = i then 0 else 0 + i * 1 := ⟨_, rfl⟩
  obtain ⟨o5, ho5⟩ : ∃ o, o = if cap = i + 1 then 0 else 0 + (i + 1) * 1 := ⟨_, rfl⟩
  obtain ⟨o6, ho6⟩ : ∃ o, o = if cap = k - 1 then 0 else 0 + (k - 1) * 1 := ⟨_, rfl⟩
  have h66 : o6 = (k - 1) * 1 := by rw [ho6, if_neg (by omega)]; omega
  obtain ⟨news, hnw⟩ : ∃ news, news = flat.drop ((i + 1) * 1) := ⟨_, rfl⟩
  rw [← hnw] at d2 d3 d4 hnews hone
  have hnews5 : ∀ j u, news[j]? = some u → cs[o5 + j]? = some u := fun j u hu => by
    by_cases hc : cap = i + 1
    · have : news = [] := List.eq_nil_of_length_eq_zero (by rw [d2]; omega)
      rw [this] at hu; simp at hu
    · rw [ho5, if_neg hc, Nat.zero_add]; exact hnews j u hu
  have D4 := d4 _ rfl
  have H3 := Hn.mk ho3
  have H5 := Hn.mk ho5
  have H6 := Hn.mk ho6
  have HH := Hn.mk (And.intro D4 hnw)
  have HN := Hn.mk (And.intro hnews5 hone)
  clear ho3 ho5 ho6 hnews hnews5 hone d4 D4 hcs h1 hnw
  repeat' (first
    | ((with_reducible apply TL.pure (d := 13) (v := .slice (some ⟨b, o3, none⟩) (i + 1 - i) (k - i))); (· exact Y.slice_three rfl rfl rfl rfl natA natA natA (by omega) (by omega) (by omega) H3.out); (· rfl)) | ((with_reducible apply TW.pure (d := 13) (v := .slice (some ⟨b, o3, none⟩) (i + 1 - i) (k - i))); (· exact Y.slice_three rfl rfl rfl rfl natA natA natA (by omega) (by omega) (by omega) H3.out); (· rfl))
    | ((with_reducible apply TL.pure (d := 25) (v := .slice (some ⟨b, o5, none⟩) (k - (i + 1)) (cap - (i + 1)))); (· exact Y.slice_from rfl rfl natA (by omega) (by omega) H5.out); (· rfl)) | ((with_reducible apply TW.pure (d := 25) (v := .slice (some ⟨b, o5, none⟩) (k - (i + 1)) (cap - (i + 1)))); (· exact Y.slice_from rfl rfl natA (by omega) (by omega) H5.out); (· rfl))
    | ((with_reducible apply TL.pure (d := 31) (v := .slice (some ⟨b, o6, none⟩) (k - (k - 1)) (cap - (k - 1)))); (· exact Y.slice_two (i := k - 1) (j := k) rfl rfl rfl (by omega) (by omega) (by omega) (by omega) H6.out); (· rfl)) | ((with_reducible apply TW.pure (d := 31) (v := .slice (some ⟨b, o6, none⟩) (k - (k - 1)) (cap - (k - 1)))); (· exact Y.slice_two (i := k - 1) (j := k) rfl rfl rfl (by omega) (by omega) (by omega) (by omega) H6.out); (· rfl))
    | ((with_reducible apply TL.pure); (· exact yV); (· rfl)) | ((with_reducible apply TW.pure); (· exact yV); (· rfl))
    | ((with_reducible apply TL.append_room (news := news)); (· rfl); (· rfl); (· exact pkA); (· exact d2); (· exact HN.out.1); (· exact HN.out.2); (· omega); (· omega); (· rfl))
    | ((with_reducible apply TL.clear); (· rfl); (· omega); (· exact pkA); (· rfl); (· rfl); (· rfl); (· rw [d3, h66]; omega))
    | (refine TC.region_tail 6 (by kernel_rfl) (by kernel_rfl) ?_; simp only [List.take_succ_cons, List.take_zero, List.drop_succ_cons, List.drop_zero]) | refine TQ.tail ?_
    | ((with_reducible apply TL.pure); (· exact yA); (· rfl))
    | refine TC.seq ?_ | refine TC.region ?_ | refine TL.nil ?_ | refine TQ.then_normal ?_
    | ((with_reducible apply TL.storeE); (· rfl); (· rfl); (· rfl); (· exact pkA); (· infer_instance)) | ((with_reducible apply TL.store_whole); (· rfl); (· rfl); (· exact oneA); (· rfl); (· exact pkA); (· rfl))
    | refine TC.block ?_ | refine TC.ret ?_ | refine TC.skip ?_ | refine TC.exit ?_ | refine TC.cond rfl ?_
    | refine TQ.down ?_ | refine TQ.in_exit' rfl ?_
    | refine TL.guard_yes rfl rfl ?_ | refine TL.guard_no rfl rfl rfl rfl ?_ | refine TL.guard_no0 rfl rfl rfl ?_ | refine TL.guard_undef rfl rfl rfl ?_ | refine TL.guard_undef0 rfl rfl ?_ | refine TL.guard rfl rfl rfl ?_
    | refine Br.t rfl ?_ | refine Br.f rfl ?_ | refine Br.ky kpA ?_ | refine Br.kn kpA ?_ | refine Br.nky kpA ?_ | refine Br.nkn kpA ?_
    | refine Br.eq0 (fun _ => ?_) (fun _ => ?_) | refine Br.neq0 (fun _ => ?_) (fun _ => ?_) | refine Br.eq (fun _ => ?_) (fun _ => ?_) | refine Br.neq (fun _ => ?_) (fun _ => ?_) | refine Br.not (fun _ => ?_) (fun _ => ?_) | refine Br.dec (fun _ => ?_) (fun _ => ?_) | refine Br.bool (fun _ => ?_) (fun _ => ?_)
    | ((with_reducible apply TL.alloc_ag); (· rfl); intro _) | ((with_reducible apply TL.alloc_sc); (· rfl); (· rfl); intro _) | ((with_reducible apply TL.box_ag); (· rfl); (· rfl); intro _) | ((with_reducible apply TL.box_sc); (· rfl); (· rfl); (· rfl); intro _)
    | apply TC.region_draw (by kernel_rfl) (by kernel_rfl) | refine TW.nil ?_ | ((with_reducible apply TW.pure); (· exact yA); (· rfl)))
  refine TQ.slot (t := 6) (u := .slice (some ⟨b, 0, none⟩) (k - 1) cap) rfl (by rw [show i + (k - (i + 1)) = k - 1 by omega]) ?_
  subst h66
  obtain ⟨⟨e1, e2⟩, e3⟩ := HH.out
  refine TQ.obj_part (k := k - 1) (sz := 1) (cap := cap) pkA e1 (by omega) hcm ?_
  refine TQ.rowE pkA e2 ?_
  subst e3
  refine TQ.endR1 (L' := (.row 20 1 (.slice (some ⟨b, 0, none⟩) (k - 1) cap) (k - 1) (flat.take (i * 1) ++ flat.drop ((i + 1) * 1)) :: L)) Tryz.results105 rvA rfl (.refl _) ?_ selA
  exact ⟨rfl, rfl, rfl⟩
end Go.Proofs.YtacogbfgegcliaaGreatDoor
namespace Go.Proofs.YtacogbfgegcliaaGreatDoor
open Go.RowKit Go.TL
set_option maxRecDepth 100000

def DropOk (l : List (List UInt8)) : Prop := (∀ s ∈ l, s.length ≤ 1000000) → l.length ≤ 1000 → ∀ (x : J) (v sv : Value) (M : List Ent) (g : Gh) (L : List Ent), TrJ x v M → Sl g sv l.length 1 (strs l) → smJ x → GErr g → GTabs g → Does Tryz.prog 68 #[v, sv] g (grp M :: L) (PutR (dropJ l x) g L)
theorem TrJs.ones : ∀ {l : List J} {flat : List Value} {M : List Ent}, TrJs l flat M → ∀ u ∈ flat, u.one = true
  | [], flat, M, h, u, hu => by rw [TrJs] at h; obtain ⟨rfl, _⟩ := h; cases hu
  | x :: r, flat, M, h, u, hu => by
    rw [TrJs] at h
    obtain ⟨v, fl, M1, M2, rfl, rfl, h1, h2⟩ := h
    rcases List.mem_cons.1 hu with rfl | hu
    · exact h1.one
    · exact h2.ones u hu
theorem TrMs.ones : ∀ {ns : List (List UInt8)} {l : List J} {flat : List Value} {M : List Ent}, TrMs ns l flat M → ∀ u ∈ flat, u.one = true
  | [], [], flat, M, h, u, hu => by rw [TrMs] at h; obtain ⟨rfl, _⟩ := h; cases hu
  | n :: ns, x :: r, flat, M, h, u, hu => by
    rw [TrMs] at h
    obtain ⟨v, fl, M1, M2, rfl, rfl, h1, h2⟩ := h
    rcases List.mem_cons.1 hu with rfl | hu
    · rfl
    rcases List.mem_cons.1 hu with rfl | hu
    · exact h1.one
    · exact h2.ones u hu
  | [], _ :: _, _, _, h, _, _ => by rw [TrMs] at h; exact h.elim
  | _ :: _, [], _, _, h, _, _ => by rw [TrMs] at h; exact h.elim
theorem TrJs.delE : ∀ {l : List J} {flat : List Value} {M : List Ent} {i : Nat} {x : J}, TrJs l flat M → l[i]? = some x → ∃ v A B C, M = A ++ (B ++ C) ∧ TrJ x v B ∧ flat[i]? = some v ∧ TrJs (l.eraseIdx i) (flat.take i ++ flat.drop (i + 1)) (A ++ C) ∧ (∀ x' v' M', TrJ x' v' M' → TrJs (l.set i x') (flat.set i v') (A ++ (M' ++ C)))
  | [], _, _, _, _, _, h => by simp at h
  | y :: r, flat, M, 0, x, h, hx => by
    rw [TrJs] at h
    obtain ⟨u, fl, M1, M2, rfl, rfl, h1, h2⟩ := h
    obtain rfl : y = x := by simpa using hx
    refine ⟨u, [], M1, M2, rfl, h1, rfl, by simpa using h2, fun x' v' M' h' => ?_⟩
    rw [List.set_cons_zero, List.set_cons_zero, TrJs]
    exact ⟨v', fl, M', M2, rfl, rfl, h', h2⟩
  | y :: r, flat, M, i + 1, x, h, hx => by
    rw [TrJs] at h
    obtain ⟨u, fl, M1, M2, rfl, rfl, h1, h2⟩ := h
    obtain ⟨v, A, B, C, rfl, e3, e4, e5, e6⟩ := h2.delE (i := i) (by simpa using hx)
    refine ⟨v, M1 ++ A, B, C, by rw [List.append_assoc], e3, by simpa using e4, ?_, fun x' v' M' h' => ?_⟩
    · rw [List.eraseIdx_cons_succ, List.take_succ_cons, List.drop_succ_cons, List.cons_append, TrJs]
      exact ⟨u, _, M1, _, rfl, by rw [List.append_assoc], h1, e5⟩
    · rw [List.set_cons_succ, List.set_cons_succ, TrJs]
      exact ⟨u, _, M1, _, rfl, by rw [List.append_assoc], h1, e6 x' v' M' h'⟩
theorem TrMs.delE : ∀ {ns : List (List UInt8)} {l : List J} {flat : List Value} {M : List Ent} {i : Nat} {x : J}, TrMs ns l flat M → l[i]? = some x → ∃ v A B C, M = A ++ (B ++ C) ∧ TrJ x v B ∧ flat[i * 2 + 1]? = some v ∧ TrMs (ns.eraseIdx i) (l.eraseIdx i) (flat.take (i * 2) ++ flat.drop ((i + 1) * 2)) (A ++ C) ∧ (∀ x' v' M', TrJ x' v' M' → TrMs ns (l.set i x') (flat.set (i * 2 + 1) v') (A ++ (M' ++ C)))
  | [], [], _, _, _, _, _, h => by simp at h
  | n :: ns, y :: r, flat, M, 0, x, h, hx => by
    rw [TrMs] at h
    obtain ⟨u, fl, M1, M2, rfl, rfl, h1, h2⟩ := h
    obtain rfl : y = x := by simpa using hx
    refine ⟨u, [], M1, M2, rfl, h1, rfl, by simpa using h2, fun x' v' M' h' => ?_⟩
    show TrMs (n :: ns) (x' :: r) (str n :: v' :: fl) (M' ++ M2)
    rw [TrMs]
    exact ⟨v', fl, M', M2, rfl, rfl, h', h2⟩
  | n :: ns, y :: r, flat, M, i + 1, x, h, hx => by
    rw [TrMs] at h
    obtain ⟨u, fl, M1, M2, rfl, rfl, h1, h2⟩ := h
    obtain ⟨v, A, B, C, rfl, e3, e4, e5, e6⟩ := h2.delE (i := i) (by simpa using hx)
    refine ⟨v, M1 ++ A, B, C, by rw [List.append_assoc], e3, ?_, ?_, fun x' v' M' h' => ?_⟩
    · rw [show (i + 1) * 2 + 1 = i * 2 + 1 + 1 + 1 by omega]; simpa using e4
    · rw [show (i + 1) * 2 = i * 2 + 1 + 1 by omega, show (i + 1 + 1) * 2 = (i + 1) * 2 + 1 + 1 by omega, List.eraseIdx_cons_succ, List.eraseIdx_cons_succ, List.take_succ_cons, List.take_succ_cons, List.drop_succ_cons, List.drop_succ_cons, List.cons_append, List.cons_append, TrMs]
      exact ⟨u, _, M1, _, rfl, by rw [List.append_assoc], h1, e5⟩
    · rw [show (i + 1) * 2 + 1 = i * 2 + 1 + 1 + 1 by omega, List.set_cons_succ, List.set_cons_succ, List.set_cons_succ, TrMs]
      exact ⟨u, _, M1, _, rfl, by rw [List.append_assoc], h1, e6 x' v' M' h'⟩
  | [], _ :: _, _, _, _, _, h, _ => by rw [TrMs] at h; exact h.elim
  | _ :: _, [], _, _, _, _, h, _ => by rw [TrMs] at h; exact h.elim
end Go.Proofs.YtacogbfgegcliaaGreatDoor
