/-
  The walk of the document's Field.
-/
import Derived.Test.YtfmadoeadmclbaaGreatDoorHc1
import Derived.Test.YtfmadoeadmclbaaGreatDoorHc5
import Derived.Test.YtfmadoeadmclbaaGreatDoorHc13
import Derived.Test.YtfmadoeadmclbaaGreatDoorHc31
import Derived.Test.YtfmadoeadmclbaaGreatDoorHc44
namespace Go.Proofs.YtfmadoeadmclbaaGreatDoor
open Go.RowKit Go.TL
set_option maxRecDepth 100000

def fieldD : DV → List UInt8 → Option DV
  | .mk k _ _ _ items names, nm => if k = 5 then (idxN names nm).bind (items[·]?) else none
theorem field_toJ (x : DV) (nm : List UInt8) : fieldJ (toJ x) nm = (fieldD x nm).map toJ := by
  obtain ⟨k, b, n, s, items, names⟩ := x
  rw [toJ_eq, fieldD]
  by_cases k5 : k = 5
  · subst k5
    rw [if_neg (by decide), if_neg (by decide), if_neg (by decide), if_neg (by decide), if_neg (by decide), if_pos rfl, if_pos rfl]
    unfold fieldJ
    dsimp only
    cases idxN names nm with
    | none => rfl
    | some i => exact List.getElem?_map ..
  · rw [if_neg k5, if_neg k5]
    repeat' split
    all_goals rfl
set_option maxHeartbeats 16000000 in
theorem rField4_gives (x : DV) (cs : List Value) (g : Gh) (nm : List UInt8) (hV : IsV g x cs) (hW : wfV x) : ∃ zs b, (∀ L, Gives Tryz.prog 20 #[.agg cs.toArray, str nm] g L (.tuple #[.agg zs.toArray, .bool b])) ∧ zs.length = 6 ∧ (match fieldD x nm with
    | some w => b = true ∧ IsV g w zs
    | none => b = false ∧ zs = [.int .i64 0, .bool false, .int .i64 0, .string ⟨#[]⟩, .slice none 0 0, .slice none 0 0]) := by
  obtain ⟨k, b, n, s, items, names⟩ := x
  rw [IsV] at hV
  rw [wfV] at hW
  obtain ⟨vi, vn, flat, rfl, _, _, _, hS, hil, hI, hSn, hnl, _⟩ := hV
  obtain ⟨ai, ci, rfl⟩ := hS.slice
  obtain ⟨an, cn, rfl⟩ := hSn.slice
  obtain ⟨w1, w2, w3, w4⟩ := hW
  rw [fieldD]
  by_cases k5 : k = 5
  · subst k5
    obtain ⟨wn, _⟩ := w3 rfl
    rw [if_pos rfl]
    cases hk : idxN names nm with
    | none =>
      have hno := idxN_none hk
      refine ⟨[.int .i64 0, .bool false, .int .i64 0, .string ⟨#[]⟩, .slice none 0 0, .slice none 0 0], false, fun L => .of (Does.of2 Tryz.func20 rfl Tryz.ntmps20 rfl ?_), rfl, rfl, rfl⟩
      clear hI w3 w4
      repeat' (first
    | ((with_reducible apply TL.pure); (· exact yQ); (· rfl))
    | ((with_reducible apply TL.pure); (· exact yV); (· rfl)) | ((with_reducible apply TW.pure); (· exact yV); (· rfl))
    | ((with_reducible apply TL.pure); (· exact yM); (· rfl)) | ((with_reducible apply TW.pure); (· exact yM); (· rfl))
    | ((with_reducible apply TL.pure); (· exact yA); (· rfl))
    | refine stS ?_ | (refine stB ?_; intro _) | (refine stC ?_; refine And.intro (fun _ => ?_) (fun _ => ?_)))
      rename_i b2 b4
      refine TC.loopL (fun i : Nat => i ≤ items.length) (fun i => items.length - i) (fun i _ => [(6, .int .i64 (i : Nat)), (1, str nm), (2, .pointer (some ⟨b2, 0, none⟩)), (4, .pointer (some ⟨b4, 0, none⟩))]) (fun _ => .obj b2 (.cells [.int .i64 5, .bool b, .int .i64 n, str s, .slice ai items.length ci, .slice an names.length cn].toArray 29 (0, 0)) :: .obj b4 (.cells [.int .i64 0, .bool false, .int .i64 0, .string ⟨#[]⟩, .slice none 0 0, .slice none 0 0].toArray 29 (0, 0)) :: L) 0 (Nat.zero_le _) subA selF ?_
      rintro i hi
      try dsimp only at hi ⊢
      by_cases hlt : i < items.length
      · obtain ⟨nn, hnn⟩ : ∃ nn, names[i]? = some nn := ⟨_, List.getElem?_eq_getElem (by omega)⟩
        obtain ⟨b9, o9, rfl, hg9⟩ := hSn.elem (i := i) (by omega) (by decide)
        have hld : g.cell b9 (o9 + i * 1) = some (str nn) := hg9 0 _ (by rw [Nat.mul_one]; exact strs_get hnn)
        have hne := hno nn (List.mem_of_getElem? hnn)
        have HNE := Hn.mk (decide_eq_false hne)
        clear hS hSn hg9 hno hne hnn
        repeat' (first
    | ((with_reducible apply TL.pure); (· exact yQ); (· rfl))
    | ((with_reducible apply TL.pure (d := 23) (v := .bool false)); (· exact Y.eql_is HNE.out rfl rfl); (· rfl)) | ((with_reducible apply TW.pure (d := 23) (v := .bool false)); (· exact Y.eql_is HNE.out rfl rfl); (· rfl))
    | ((with_reducible apply TL.pure); (· exact yV); (· rfl)) | ((with_reducible apply TW.pure); (· exact yV); (· rfl))
    | ((with_reducible apply TL.pure); (· exact yM); (· rfl)) | ((with_reducible apply TW.pure); (· exact yM); (· rfl))
    | ((with_reducible apply TL.pure); (· exact yA); (· rfl))
    | refine stS ?_ | (refine stB ?_; intro _) | (refine stC ?_; refine And.intro (fun _ => ?_) (fun _ => ?_)))
        refine TQ.round (i + 1) ?_ ?_ rfl subA selF
        · show i + 1 ≤ items.length
          omega
        · show items.length - (i + 1) < items.length - i
          omega
      · obtain rfl : i = items.length := by omega
        clear hS hSn hno
        repeat' (first
    | ((with_reducible apply TL.pure); (· exact yQ); (· rfl))
    | ((with_reducible apply TL.pure); (· exact yV); (· rfl)) | ((with_reducible apply TW.pure); (· exact yV); (· rfl))
    | ((with_reducible apply TL.pure); (· exact yM); (· rfl)) | ((with_reducible apply TW.pure); (· exact yM); (· rfl))
    | ((with_reducible apply TL.pure); (· exact yA); (· rfl))
    | refine stS ?_ | (refine stB ?_; intro _) | (refine stC ?_; refine And.intro (fun _ => ?_) (fun _ => ?_)))
        refine TQ.endR2 (L' := L) Tryz.results20 rvA rvA rfl (.refl _) ?_ selF
        exact ⟨rfl, rfl, rfl⟩
    | some j =>
      obtain ⟨hk1, hk2⟩ := idxN_some hk
      have hkl := idxN_lt hk
      obtain ⟨y, hy⟩ : ∃ y, items[j]? = some y := ⟨_, List.getElem?_eq_getElem (by omega)⟩
      obtain ⟨c1, hV1, hcl1, hfl1⟩ := hI.get hy
      have hb : (some j).bind (items[·]?) = some y := hy
      rw [hb]
      obtain ⟨zk, zb, zn, zs, zi, zil, zic, zm, zml, zmc, rfl⟩ : ∃ zk zb zn zs zi zil zic zm zml zmc, c1 = [.int .i64 zk, .bool zb, .int .i64 zn, str zs, .slice zi zil zic, .slice zm zml zmc] := by
        obtain ⟨k2, b2, n2, s2, i2, m2⟩ := y
        rw [IsV] at hV1
        obtain ⟨vi2, vn2, _, e, _, _, _, h1, _, _, h2, _⟩ := hV1
        obtain ⟨_, _, e1⟩ := h1.slice
        obtain ⟨_, _, e2⟩ := h2.slice
        subst e1; subst e2
        exact ⟨_, _, _, _, _, _, _, _, _, _, e⟩
      refine ⟨[.int .i64 zk, .bool zb, .int .i64 zn, str zs, .slice zi zil zic, .slice zm zml zmc], true, fun L => .of (Does.of2 Tryz.func20 rfl Tryz.ntmps20 rfl ?_), rfl, rfl, hV1⟩
      clear hI w3 w4 hb
      repeat' (first
    | ((with_reducible apply TL.pure); (· exact yQ); (· rfl))
    | ((with_reducible apply TL.pure); (· exact yV); (· rfl)) | ((with_reducible apply TW.pure); (· exact yV); (· rfl))
    | ((with_reducible apply TL.pure); (· exact yM); (· rfl)) | ((with_reducible apply TW.pure); (· exact yM); (· rfl))
    | ((with_reducible apply TL.pure); (· exact yA); (· rfl))
    | refine stS ?_ | (refine stB ?_; intro _) | (refine stC ?_; refine And.intro (fun _ => ?_) (fun _ => ?_)))
      rename_i b2 b4
      refine TC.loopL (fun i : Nat => i ≤ j) (fun i => items.length - i) (fun i _ => [(6, .int .i64 (i : Nat)), (1, str nm), (2, .pointer (some ⟨b2, 0, none⟩)), (4, .pointer (some ⟨b4, 0, none⟩))]) (fun _ => .obj b2 (.cells [.int .i64 5, .bool b, .int .i64 n, str s, .slice ai items.length ci, .slice an names.length cn].toArray 29 (0, 0)) :: .obj b4 (.cells [.int .i64 0, .bool false, .int .i64 0, .string ⟨#[]⟩, .slice none 0 0, .slice none 0 0].toArray 29 (0, 0)) :: L) 0 (Nat.zero_le _) subA selF ?_
      rintro i hi
      try dsimp only at hi ⊢
      have hlt : i < items.length := by omega
      by_cases hij : i = j
      · subst hij
        obtain ⟨b9, o9, rfl, hg9⟩ := hSn.elem (i := i) (by omega) (by decide)
        obtain ⟨b7, o7, rfl, hg7⟩ := hS.elem hlt (by decide)
        have hld : g.cell b9 (o9 + i * 1) = some (str nm) := hg9 0 _ (by rw [Nat.mul_one]; exact strs_get hk1)
        have hld3 : ∀ j2 u, ([.int .i64 zk, .bool zb, .int .i64 zn, str zs, .slice zi zil zic, .slice zm zml zmc] : List Value)[j2]? = some u → g.cell b7 (o7 + i * 6 + j2) = some u := fun j2 u hu => hg7 j2 u (hfl1 j2 u hu)
        clear hS hSn hg9 hg7 hfl1 hk1 hk2 hV1 hy hk
        repeat' (first
    | ((with_reducible apply TL.pure); (· exact yQ); (· rfl))
    | ((with_reducible apply TL.pure (d := 23) (v := .bool true)); (· exact Y.eql_is (decide_eq_true rfl) rfl rfl); (· rfl)) | ((with_reducible apply TW.pure (d := 23) (v := .bool true)); (· exact Y.eql_is (decide_eq_true rfl) rfl rfl); (· rfl))
    | ((with_reducible apply TL.pure); (· exact yV); (· rfl)) | ((with_reducible apply TW.pure); (· exact yV); (· rfl))
    | ((with_reducible apply TL.pure); (· exact yM); (· rfl)) | ((with_reducible apply TW.pure); (· exact yM); (· rfl))
    | ((with_reducible apply TL.pure); (· exact yA); (· rfl))
    | refine TC.seq ?_ | refine TC.region ?_ | refine TL.nil ?_ | refine TQ.then_normal ?_
    | ((with_reducible apply TL.storeE); (· rfl); (· rfl); (· rfl); (· exact pkA); (· infer_instance)) | ((with_reducible apply TL.store_whole); (· rfl); (· rfl); (· exact oneA); (· rfl); (· exact pkA); (· rfl))
    | refine TC.block ?_ | refine TC.ret ?_ | refine TC.skip ?_ | refine TC.exit ?_ | refine TC.cond rfl ?_
    | refine TQ.down ?_ | refine TQ.in_exit' rfl ?_
    | refine TL.guard_yes rfl rfl ?_ | refine TL.guard_no rfl rfl rfl rfl ?_ | refine TL.guard_no0 rfl rfl rfl ?_ | refine TL.guard_undef rfl rfl rfl ?_ | refine TL.guard_undef0 rfl rfl ?_ | refine TL.guard rfl rfl rfl ?_
    | refine Br.t rfl ?_ | refine Br.f rfl ?_ | refine Br.ky kpA ?_ | refine Br.kn kpA ?_ | refine Br.nky kpA ?_ | refine Br.nkn kpA ?_
    | refine Br.eq0 (fun _ => ?_) (fun _ => ?_) | refine Br.neq0 (fun _ => ?_) (fun _ => ?_) | refine Br.eq (fun _ => ?_) (fun _ => ?_) | refine Br.neq (fun _ => ?_) (fun _ => ?_) | refine Br.not (fun _ => ?_) (fun _ => ?_) | refine Br.dec (fun _ => ?_) (fun _ => ?_) | refine Br.bool (fun _ => ?_) (fun _ => ?_)
    | ((with_reducible apply TL.alloc_ag); (· rfl); intro _) | ((with_reducible apply TL.alloc_sc); (· rfl); (· rfl); intro _) | ((with_reducible apply TL.box_ag); (· rfl); (· rfl); intro _) | ((with_reducible apply TL.box_sc); (· rfl); (· rfl); (· rfl); intro _))
        refine TQ.endR2 (L' := L) Tryz.results20 rvA rvA rfl (.refl _) ?_ selF
        exact ⟨rfl, rfl, rfl⟩
      · obtain ⟨nn, hnn⟩ : ∃ nn, names[i]? = some nn := ⟨_, List.getElem?_eq_getElem (by omega)⟩
        obtain ⟨b9, o9, rfl, hg9⟩ := hSn.elem (i := i) (by omega) (by decide)
        have hld : g.cell b9 (o9 + i * 1) = some (str nn) := hg9 0 _ (by rw [Nat.mul_one]; exact strs_get hnn)
        have hne : nn ≠ nm := fun e => hk2 i (by omega) (by rw [hnn, e])
        have HNE := Hn.mk (decide_eq_false hne)
        clear hS hSn hg9 hne hnn hk1 hk2 hV1 hy hfl1 hk
        repeat' (first
    | ((with_reducible apply TL.pure); (· exact yQ); (· rfl))
    | ((with_reducible apply TL.pure (d := 23) (v := .bool false)); (· exact Y.eql_is HNE.out rfl rfl); (· rfl)) | ((with_reducible apply TW.pure (d := 23) (v := .bool false)); (· exact Y.eql_is HNE.out rfl rfl); (· rfl))
    | ((with_reducible apply TL.pure); (· exact yV); (· rfl)) | ((with_reducible apply TW.pure); (· exact yV); (· rfl))
    | ((with_reducible apply TL.pure); (· exact yM); (· rfl)) | ((with_reducible apply TW.pure); (· exact yM); (· rfl))
    | ((with_reducible apply TL.pure); (· exact yA); (· rfl))
    | refine stS ?_ | (refine stB ?_; intro _) | (refine stC ?_; refine And.intro (fun _ => ?_) (fun _ => ?_)))
        refine TQ.round (i + 1) ?_ ?_ rfl subA selF
        · show i + 1 ≤ j
          omega
        · show items.length - (i + 1) < items.length - i
          omega
  · rw [if_neg k5]
    have HK := Hn.mk k5
    refine ⟨[.int .i64 0, .bool false, .int .i64 0, .string ⟨#[]⟩, .slice none 0 0, .slice none 0 0], false, fun L => .of (Does.of2 Tryz.func20 rfl Tryz.ntmps20 rfl ?_), rfl, rfl, rfl⟩
    clear hI w3 w4 hS hSn
    repeat' (first
    | ((with_reducible apply TL.pure); (· exact yQ); (· rfl))
    | ((with_reducible apply TL.pure); (· exact yV); (· rfl)) | ((with_reducible apply TW.pure); (· exact yV); (· rfl))
    | ((with_reducible apply TL.pure); (· exact yM); (· rfl)) | ((with_reducible apply TW.pure); (· exact yM); (· rfl))
    | ((with_reducible apply TL.pure); (· exact yA); (· rfl))
    | refine stS ?_ | (refine stB ?_; intro _) | (refine stC ?_; refine And.intro (fun _ => ?_) (fun _ => ?_)))
    refine TQ.endR2 (L' := L) Tryz.results20 rvA rvA rfl (.refl _) ?_ selF
    exact ⟨rfl, rfl, rfl⟩
end Go.Proofs.YtfmadoeadmclbaaGreatDoor
