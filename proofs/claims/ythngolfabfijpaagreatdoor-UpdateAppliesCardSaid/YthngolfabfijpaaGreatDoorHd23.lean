/-
  The walk of the document's drop.
-/
import Derived.Test.YthngolfabfijpaaGreatDoorHd2
import Derived.Test.YthngolfabfijpaaGreatDoorHd22
namespace Go.Proofs.YthngolfabfijpaaGreatDoor
open Go.RowKit Go.TL
set_option maxRecDepth 100000

theorem _root_.Go.TL.Sl.drop {g : Gh} {b off n sz cap : Nat} {xs : List Value} (h : Sl g (.slice (some ⟨b, off, none⟩) n cap) n sz xs) {i : Nat} (_hi : i ≤ n) (o : Nat) (ho : o = if cap = i then off else off + i * sz) : Sl g (.slice (some ⟨b, o, none⟩) (n - i) (cap - i)) (n - i) sz (xs.drop (i * sz)) := by
  obtain ⟨h1, ao, c, e, h2, h3⟩ := h
  simp only [Value.slice.injEq, true_and] at e
  obtain ⟨rfl, rfl⟩ := e
  refine ⟨by rw [List.length_drop, h1, Nat.sub_mul], _, _, rfl, by omega, fun j u hu => ?_⟩
  rw [List.getElem?_drop] at hu
  obtain ⟨b', off', e2, h4⟩ := h3 _ _ hu
  simp only [Option.some.injEq, Addr.mk.injEq, and_true] at e2
  obtain ⟨rfl, rfl⟩ := e2
  have hlt := (List.getElem?_eq_some_iff.1 hu).1
  refine ⟨b, o, rfl, ?_⟩
  by_cases hc : cap = i
  · have : n = i := by omega
    subst this
    rw [h1] at hlt
    omega
  · rw [ho, if_neg hc, Nat.add_assoc]
    exact h4
theorem allOnes_take {l : List Value} (h : l.all Value.one = true) (i : Nat) : (l.take i).all Value.one = true :=
  List.all_eq_true.2 fun x hx => List.all_eq_true.1 h x (List.mem_of_mem_take hx)
theorem allOnes_drop {l : List Value} (h : l.all Value.one = true) (i : Nat) : (l.drop i).all Value.one = true :=
  List.all_eq_true.2 fun x hx => List.all_eq_true.1 h x (List.mem_of_mem_drop hx)
theorem erase_len {α : Type} {l : List α} {j : Nat} (h : j < l.length) : j + (l.length - (j + 1)) = (l.eraseIdx j).length := by
  rw [List.length_eraseIdx, if_pos h]; omega
set_option maxHeartbeats 64000000 in
theorem rdrop6_does : ∀ (l : List (List UInt8)) (x : DV) (cs : List Value) (vl : Value) (m : Nat) (g : Gh) (L : List Ent), l ≠ [] → IsV g x cs → wfN m x → m ≤ 10000 → (∀ s ∈ l, s ≠ [] ∧ s.length ≤ 1000) → l.length ≤ 1000 → Sl g vl l.length 1 (strs l) → Does Tryz.prog 104 #[.agg cs.toArray, vl] g L (PutDR (dropD l x) L)
  | [], _, _, _, _, _, _, h0, _, _, _, _, _, _ => absurd rfl h0
  | s :: r, .mk k b n t items names, cs, vl, m, g, L, _, hX, hW, hm, hl, hll, hS => by
    have IH := rdrop6_does r
    obtain ⟨hs0, hsl⟩ := hl s List.mem_cons_self
    have A := fun L => rat6_gives k b n t items names cs s g L hX (wf_of_N _ m hW (by omega)) hs0 (by omega)
    rw [wfN] at hW
    obtain ⟨w1, w2, w3, w4⟩ := hW
    rw [List.length_cons] at hS hll
    obtain ⟨al, cl, rfl⟩ := hS.slice
    obtain ⟨bs, os, os', rfl, hcs, hos, hld0, hs1⟩ := Sl.from1 hS rfl
    have hX0 := hX
    rw [IsV] at hX
    obtain ⟨vi, vn, flat, rfl, bk, bn, bt, hSi, hil, hI, hSn, hnl, hnb⟩ := hX
    obtain ⟨ai, ci, rfl⟩ := hSi.slice
    obtain ⟨an, cn, rfl⟩ := hSn.slice
    refine Does.of2 Tryz.func104 rfl Tryz.ntmps104 rfl ?_
    cases hat : atD k items names s with
    | none =>
      have hV : atV k items names s = -1 := by unfold atV; rw [hat]
      rw [hV] at A
      have HP := Hn.mk (show dropD (s :: r) (.mk k b n t items names) = none by rw [dropD, hat])
      have HX := Hn.mk hX0
      clear hX0 hS hSi hI hSn hs1 bk bn bt hnb IH w3 w4 hl hV hat
      repeat' (first | refine wkQ ?_ | refine wkV ?_ | ((with_reducible apply TW.gives_plain); (· kernel_rfl); (· rfl); (· exact A _); (· rfl)) | refine stS ?_ | (refine stB ?_; intro _) | apply TC.region_draw (by kernel_rfl) (by kernel_rfl) | refine TW.nil ?_ | ((with_reducible apply TW.pure); (· exact yA); (· rfl)) | fail)
      refine TQ.endR2 (L' := L) Tryz.results104 rvA rvA rfl (.refl _) ?_ selF
      refine ⟨_, false, _, rfl, rfl, HX.out, ?_⟩
      rw [HP.out]
    | some j =>
      have hV : atV k items names s = (j : Nat) := by unfold atV; rw [hat]
      rw [hV] at A
      obtain ⟨hjl, hk⟩ := at_lt hat (fun e => (w3 e).1)
      obtain ⟨z0, hz0⟩ : ∃ z0, items[j]? = some z0 := ⟨_, List.getElem?_eq_getElem hjl⟩
      obtain ⟨b7, o7, rfl, hg7⟩ := hSi.elem hjl (by decide)
      have HX := Hn.mk hX0
      have J0 : Hn (¬ ((j : Nat) : Int) < 0) := ⟨by omega⟩
      rw [dropD, hat]
      dsimp only
      rw [hz0]
      dsimp only
      by_cases hr : r = []
      · rw [if_pos hr]
        have hr0 : r.length = 0 := by rw [hr]; rfl
        have R0 : Hn (¬ (1 : Int) < ((r.length + 1 : Nat) : Int)) := ⟨by omega⟩
        obtain ⟨oz, hoz⟩ : ∃ oz, oz = if ci = j + 1 then o7 else o7 + (j + 1) * 6 := ⟨_, rfl⟩
        have hcap := hSi.cap
        have ht1 := hSi.take (i := j) (by omega)
        have ht2 := hSi.drop (i := j + 1) (by omega) oz hoz
        rw [show (j + 1) * 6 = j * 6 + 6 by omega] at ht2
        have hu1 := allOnes_take hI.ones (j * 6)
        have hu2 := allOnes_drop hI.ones (j * 6 + 6)
        have HO := Hn.mk hoz
        by_cases h5 : k = 5
        · rw [if_pos h5]
          have hnl2 := (w3 h5).1
          obtain ⟨b8, o8, rfl, hg8⟩ := hSn.elem (i := j) (by omega) (by decide)
          obtain ⟨on, hon⟩ : ∃ on, on = if cn = j + 1 then o8 else o8 + (j + 1) * 1 := ⟨_, rfl⟩
          have hcapn := hSn.cap
          have hn1 := hSn.take (i := j) (by omega)
          have hn2 := hSn.drop (i := j + 1) (by omega) on hon
          rw [Nat.mul_one] at hn1 hn2
          unfold strs at hn1 hn2
          rw [← List.map_take] at hn1
          rw [← List.map_drop] at hn2
          have hn1 : Sl g _ _ _ (strs _) := hn1
          have hn2 : Sl g _ _ _ (strs _) := hn2
          have HON := Hn.mk hon
          have H5 := Hn.mk h5
          have HB := Hn.mk (And.intro bk (And.intro bn (And.intro bt (And.intro hil (And.intro hnl hnb)))))
          have HI := Hn.mk hI
          have HE := Hn.mk (erase_len hjl)
          have HEN := Hn.mk (erase_len (l := names) (j := j) (by omega))
          clear hX0 hS hSi hI hSn hs1 bk bn bt hnb IH w3 w4 hl hV hat hg7 hg8 hr hk hoz h5 hon
          repeat' (first | refine wkQ ?_ | refine wkV ?_ | ((with_reducible apply TW.gives_plain); (· kernel_rfl); (· rfl); (· exact A _); (· rfl)) | refine TC.region_sink 13 14 (_) (by kernel_rfl) (by decide +kernel) rfl selF ?_ | ((with_reducible apply TB.takeF 1); (· rfl); (· decide +kernel); (· rfl); (· first | (first | exact yQ | exact yA | exact yB | exact yM | exact yV) | first | exact Y.slice_to rfl rfl rfl (by omega) | exact Y.slice_from (i := j + 1) rfl rfl (by omega) (by omega) hcap HO.out | exact Y.slice_from (i := j + 1) rfl rfl (by omega) (by omega) hcapn HON.out); (· decide +kernel); (· decide +kernel); (· rfl); (· exact fun _ _ _ h => h); (· rfl)) | ((with_reducible apply TB.takeF 2); (· rfl); (· decide +kernel); (· rfl); (· first | (first | exact yQ | exact yA | exact yB | exact yM | exact yV) | first | exact Y.slice_to rfl rfl rfl (by omega) | exact Y.slice_from (i := j + 1) rfl rfl (by omega) (by omega) hcap HO.out | exact Y.slice_from (i := j + 1) rfl rfl (by omega) (by omega) hcapn HON.out); (· decide +kernel); (· decide +kernel); (· rfl); (· exact fun _ _ _ h => h); (· rfl)) | ((with_reducible apply TB.takeF 3); (· rfl); (· decide +kernel); (· rfl); (· first | (first | exact yQ | exact yA | exact yB | exact yM | exact yV) | first | exact Y.slice_to rfl rfl rfl (by omega) | exact Y.slice_from (i := j + 1) rfl rfl (by omega) (by omega) hcap HO.out | exact Y.slice_from (i := j + 1) rfl rfl (by omega) (by omega) hcapn HON.out); (· decide +kernel); (· decide +kernel); (· rfl); (· exact fun _ _ _ h => h); (· rfl)) | ((with_reducible apply TB.takeF 4); (· rfl); (· decide +kernel); (· rfl); (· first | (first | exact yQ | exact yA | exact yB | exact yM | exact yV) | first | exact Y.slice_to rfl rfl rfl (by omega) | exact Y.slice_from (i := j + 1) rfl rfl (by omega) (by omega) hcap HO.out | exact Y.slice_from (i := j + 1) rfl rfl (by omega) (by omega) hcapn HON.out); (· decide +kernel); (· decide +kernel); (· rfl); (· exact fun _ _ _ h => h); (· rfl)) | ((with_reducible apply TB.takeF 6); (· rfl); (· decide +kernel); (· rfl); (· first | (first | exact yQ | exact yA | exact yB | exact yM | exact yV) | first | exact Y.slice_to rfl rfl rfl (by omega) | exact Y.slice_from (i := j + 1) rfl rfl (by omega) (by omega) hcap HO.out | exact Y.slice_from (i := j + 1) rfl rfl (by omega) (by omega) hcapn HON.out); (· decide +kernel); (· decide +kernel); (· rfl); (· exact fun _ _ _ h => h); (· rfl)) | ((with_reducible apply TB.takeF 7); (· rfl); (· decide +kernel); (· rfl); (· first | (first | exact yQ | exact yA | exact yB | exact yM | exact yV) | first | exact Y.slice_to rfl rfl rfl (by omega) | exact Y.slice_from (i := j + 1) rfl rfl (by omega) (by omega) hcap HO.out | exact Y.slice_from (i := j + 1) rfl rfl (by omega) (by omega) hcapn HON.out); (· decide +kernel); (· decide +kernel); (· rfl); (· exact fun _ _ _ h => h); (· rfl)) | ((with_reducible apply TB.takeF 8); (· rfl); (· decide +kernel); (· rfl); (· first | (first | exact yQ | exact yA | exact yB | exact yM | exact yV) | first | exact Y.slice_to rfl rfl rfl (by omega) | exact Y.slice_from (i := j + 1) rfl rfl (by omega) (by omega) hcap HO.out | exact Y.slice_from (i := j + 1) rfl rfl (by omega) (by omega) hcapn HON.out); (· decide +kernel); (· decide +kernel); (· rfl); (· exact fun _ _ _ h => h); (· rfl)) | ((with_reducible apply TB.takeF 9); (· rfl); (· decide +kernel); (· rfl); (· first | (first | exact yQ | exact yA | exact yB | exact yM | exact yV) | first | exact Y.slice_to rfl rfl rfl (by omega) | exact Y.slice_from (i := j + 1) rfl rfl (by omega) (by omega) hcap HO.out | exact Y.slice_from (i := j + 1) rfl rfl (by omega) (by omega) hcapn HON.out); (· decide +kernel); (· decide +kernel); (· rfl); (· exact fun _ _ _ h => h); (· rfl)) | ((with_reducible apply TB.takeF 10); (· rfl); (· decide +kernel); (· rfl); (· first | (first | exact yQ | exact yA | exact yB | exact yM | exact yV) | first | exact Y.slice_to rfl rfl rfl (by omega) | exact Y.slice_from (i := j + 1) rfl rfl (by omega) (by omega) hcap HO.out | exact Y.slice_from (i := j + 1) rfl rfl (by omega) (by omega) hcapn HON.out); (· decide +kernel); (· decide +kernel); (· rfl); (· exact fun _ _ _ h => h); (· rfl)) | ((with_reducible apply TB.takeF 12); (· rfl); (· decide +kernel); (· rfl); (· first | (first | exact yQ | exact yA | exact yB | exact yM | exact yV) | first | exact Y.slice_to rfl rfl rfl (by omega) | exact Y.slice_from (i := j + 1) rfl rfl (by omega) (by omega) hcap HO.out | exact Y.slice_from (i := j + 1) rfl rfl (by omega) (by omega) hcapn HON.out); (· decide +kernel); (· decide +kernel); (· rfl); (· exact fun _ _ _ h => h); (· rfl)) | ((with_reducible apply TB.oneF 0); (· rfl); (· rfl); (· decide +kernel); (· rfl); intro hsk) | ((with_reducible apply TB.oneF 5); (· rfl); (· rfl); (· decide +kernel); (· rfl); intro hsk) | ((with_reducible apply TB.oneF 11); (· rfl); (· rfl); (· decide +kernel); (· rfl); intro hsk) | ((with_reducible apply TB.oneF 13); (· rfl); (· rfl); (· decide +kernel); (· rfl); intro hsk) | refine TQ.lastT (by decide +kernel) ?_ | refine TQ.anyT (by assumption) leF selF ?_ | (refine TL.build_empty (by rfl) (fun bb => ?_); refine TL.obj_row (e := 29) (b := bb) (k := 0) (sz := 6) .here rfl (by decide) ?_) | ((with_reducible apply TL.append (e := 29)); (· rfl); (· rfl); (· rfl); (· rfl); (· exact pkA); (· first | exact Src.sl ht1 | exact Src.sl ht2 | exact Src.sl hn1 | exact Src.sl hn2); (· first | exact ht1.len | exact ht2.len | exact hn1.len | exact hn2.len); (· first | exact hu1 | exact hu2 | exact strs_one _); (· exact ⟨by unfold maxLen; omega, by omega⟩); (· rfl); intro vf; refine Go.TL.TL.row_slice (v := vf) pkA ?_; rintro a2 c2 rfl _; try rw [Nat.zero_add, List.nil_append]) | (refine TL.build_empty (by rfl) (fun bb => ?_); refine TL.obj_row (e := 9) (b := bb) (k := 0) (sz := 1) .here rfl (by decide) ?_) | ((with_reducible apply TL.append (e := 9)); (· rfl); (· rfl); (· rfl); (· rfl); (· exact pkA); (· first | exact Src.sl ht1 | exact Src.sl ht2 | exact Src.sl hn1 | exact Src.sl hn2); (· first | exact ht1.len | exact ht2.len | exact hn1.len | exact hn2.len); (· first | exact hu1 | exact hu2 | exact strs_one _); (· exact ⟨by unfold maxLen; omega, by omega⟩); (· rfl); intro vf; refine Go.TL.TL.row_slice (v := vf) pkA ?_; rintro a3 c3 rfl _; try rw [Nat.zero_add, List.nil_append]) | refine stS ?_ | (refine stB ?_; intro _) | apply TC.region_draw (by kernel_rfl) (by kernel_rfl) | refine TW.nil ?_ | ((with_reducible apply TW.pure); (· exact yA); (· rfl)) | fail)
          rw [HE.out, HEN.out]
          refine TQ.freeze (v := .slice a2 (items.eraseIdx j).length c2) pkA ?_
          intro g' hg' hsl
          refine TQ.freeze (v := .slice a3 (names.eraseIdx j).length c3) pkA ?_
          intro g2 hg2 hsn
          refine TQ.endR2 (L' := L) Tryz.results104 rvA rvA rfl (hg'.trans hg2) ?_ selF
          refine ⟨_, true, _, rfl, rfl, ?_, rfl, rfl⟩
          obtain ⟨bk, bn, bt, hil, hnl, hnb⟩ := HB.out
          rw [IsV]
          refine ⟨_, _, _, rfl, bk, bn, bt, hsl.le hg2, Nat.le_trans (List.length_eraseIdx_le ..) hil, (IsVs.le (hg'.trans hg2) _ _ HI.out).erase j, ?_, Nat.le_trans (List.length_eraseIdx_le ..) hnl, fun u hu => hnb u (List.mem_of_mem_eraseIdx hu)⟩
          rw [List.eraseIdx_eq_take_drop_succ, strs_app]
          rw [List.eraseIdx_eq_take_drop_succ] at hsn
          exact hsn
        · have h4 : k = 4 := by omega
          rw [if_neg h5]
          have H5 := Hn.mk h5
          have HB := Hn.mk (And.intro bk (And.intro bn (And.intro bt (And.intro hil (And.intro hnl hnb)))))
          have HI := Hn.mk hI
          have HS := Hn.mk hSn
          have HE := Hn.mk (erase_len hjl)
          clear hX0 hS hSi hI hSn hs1 bk bn bt hnb IH w3 w4 hl hV hat hg7 hr hk hoz h4 h5
          repeat' (first | refine wkQ ?_ | refine wkV ?_ | ((with_reducible apply TW.gives_plain); (· kernel_rfl); (· rfl); (· exact A _); (· rfl)) | refine TC.region_sink 13 14 (_) (by kernel_rfl) (by decide +kernel) rfl selF ?_ | ((with_reducible apply TB.takeF 1); (· rfl); (· decide +kernel); (· rfl); (· first | (first | exact yQ | exact yA | exact yB | exact yM | exact yV) | first | exact Y.slice_to rfl rfl rfl (by omega) | exact Y.slice_from (i := j + 1) rfl rfl (by omega) (by omega) hcap HO.out); (· decide +kernel); (· decide +kernel); (· rfl); (· exact fun _ _ _ h => h); (· rfl)) | ((with_reducible apply TB.takeF 2); (· rfl); (· decide +kernel); (· rfl); (· first | (first | exact yQ | exact yA | exact yB | exact yM | exact yV) | first | exact Y.slice_to rfl rfl rfl (by omega) | exact Y.slice_from (i := j + 1) rfl rfl (by omega) (by omega) hcap HO.out); (· decide +kernel); (· decide +kernel); (· rfl); (· exact fun _ _ _ h => h); (· rfl)) | ((with_reducible apply TB.takeF 3); (· rfl); (· decide +kernel); (· rfl); (· first | (first | exact yQ | exact yA | exact yB | exact yM | exact yV) | first | exact Y.slice_to rfl rfl rfl (by omega) | exact Y.slice_from (i := j + 1) rfl rfl (by omega) (by omega) hcap HO.out); (· decide +kernel); (· decide +kernel); (· rfl); (· exact fun _ _ _ h => h); (· rfl)) | ((with_reducible apply TB.takeF 4); (· rfl); (· decide +kernel); (· rfl); (· first | (first | exact yQ | exact yA | exact yB | exact yM | exact yV) | first | exact Y.slice_to rfl rfl rfl (by omega) | exact Y.slice_from (i := j + 1) rfl rfl (by omega) (by omega) hcap HO.out); (· decide +kernel); (· decide +kernel); (· rfl); (· exact fun _ _ _ h => h); (· rfl)) | ((with_reducible apply TB.takeF 6); (· rfl); (· decide +kernel); (· rfl); (· first | (first | exact yQ | exact yA | exact yB | exact yM | exact yV) | first | exact Y.slice_to rfl rfl rfl (by omega) | exact Y.slice_from (i := j + 1) rfl rfl (by omega) (by omega) hcap HO.out); (· decide +kernel); (· decide +kernel); (· rfl); (· exact fun _ _ _ h => h); (· rfl)) | ((with_reducible apply TB.takeF 7); (· rfl); (· decide +kernel); (· rfl); (· first | (first | exact yQ | exact yA | exact yB | exact yM | exact yV) | first | exact Y.slice_to rfl rfl rfl (by omega) | exact Y.slice_from (i := j + 1) rfl rfl (by omega) (by omega) hcap HO.out); (· decide +kernel); (· decide +kernel); (· rfl); (· exact fun _ _ _ h => h); (· rfl)) | ((with_reducible apply TB.takeF 8); (· rfl); (· decide +kernel); (· rfl); (· first | (first | exact yQ | exact yA | exact yB | exact yM | exact yV) | first | exact Y.slice_to rfl rfl rfl (by omega) | exact Y.slice_from (i := j + 1) rfl rfl (by omega) (by omega) hcap HO.out); (· decide +kernel); (· decide +kernel); (· rfl); (· exact fun _ _ _ h => h); (· rfl)) | ((with_reducible apply TB.takeF 9); (· rfl); (· decide +kernel); (· rfl); (· first | (first | exact yQ | exact yA | exact yB | exact yM | exact yV) | first | exact Y.slice_to rfl rfl rfl (by omega) | exact Y.slice_from (i := j + 1) rfl rfl (by omega) (by omega) hcap HO.out); (· decide +kernel); (· decide +kernel); (· rfl); (· exact fun _ _ _ h => h); (· rfl)) | ((with_reducible apply TB.takeF 10); (· rfl); (· decide +kernel); (· rfl); (· first | (first | exact yQ | exact yA | exact yB | exact yM | exact yV) | first | exact Y.slice_to rfl rfl rfl (by omega) | exact Y.slice_from (i := j + 1) rfl rfl (by omega) (by omega) hcap HO.out); (· decide +kernel); (· decide +kernel); (· rfl); (· exact fun _ _ _ h => h); (· rfl)) | ((with_reducible apply TB.takeF 12); (· rfl); (· decide +kernel); (· rfl); (· first | (first | exact yQ | exact yA | exact yB | exact yM | exact yV) | first | exact Y.slice_to rfl rfl rfl (by omega) | exact Y.slice_from (i := j + 1) rfl rfl (by omega) (by omega) hcap HO.out); (· decide +kernel); (· decide +kernel); (· rfl); (· exact fun _ _ _ h => h); (· rfl)) | ((with_reducible apply TB.oneF 0); (· rfl); (· rfl); (· decide +kernel); (· rfl); intro hsk) | ((with_reducible apply TB.oneF 5); (· rfl); (· rfl); (· decide +kernel); (· rfl); intro hsk) | ((with_reducible apply TB.oneF 11); (· rfl); (· rfl); (· decide +kernel); (· rfl); intro hsk) | ((with_reducible apply TB.oneF 13); (· rfl); (· rfl); (· decide +kernel); (· rfl); intro hsk) | refine TQ.lastT (by decide +kernel) ?_ | refine TQ.anyT (by assumption) leF selF ?_ | (refine TL.build_empty (by rfl) (fun bb => ?_); refine TL.obj_row (b := bb) (k := 0) (sz := 6) .here rfl (by decide) ?_) | ((with_reducible apply TL.append (e := 29)); (· rfl); (· rfl); (· rfl); (· rfl); (· exact pkA); (· first | exact Src.sl ht1 | exact Src.sl ht2 | exact Src.sl hn1 | exact Src.sl hn2); (· first | exact ht1.len | exact ht2.len | exact hn1.len | exact hn2.len); (· first | exact hu1 | exact hu2 | exact strs_one _); (· exact ⟨by unfold maxLen; omega, by omega⟩); (· rfl); intro vf; refine Go.TL.TL.row_slice (v := vf) pkA ?_; rintro a2 c2 rfl _; try rw [Nat.zero_add, List.nil_append]) | refine stS ?_ | (refine stB ?_; intro _) | apply TC.region_draw (by kernel_rfl) (by kernel_rfl) | refine TW.nil ?_ | ((with_reducible apply TW.pure); (· exact yA); (· rfl)) | fail)
          rw [HE.out]
          refine TQ.freeze (v := .slice a2 (items.eraseIdx j).length c2) pkA ?_
          intro g' hg' hsl
          refine TQ.endR2 (L' := L) Tryz.results104 rvA rvA rfl (hg') ?_ selF
          refine ⟨_, true, _, rfl, rfl, ?_, rfl, rfl⟩
          obtain ⟨bk, bn, bt, hil, hnl, hnb⟩ := HB.out
          rw [IsV]
          exact ⟨_, _, _, rfl, bk, bn, bt, hsl, Nat.le_trans (List.length_eraseIdx_le ..) hil, (IsVs.le hg' _ _ HI.out).erase j, HS.out.le hg', hnl, hnb⟩
      · rw [if_neg hr]
        have hr0 : 0 < r.length := List.length_pos_iff.2 hr
        have R0 : Hn ((1 : Int) < ((r.length + 1 : Nat) : Int)) := ⟨by omega⟩
        obtain ⟨cs', hV', hcl, hfl⟩ := hI.get hz0
        obtain ⟨zk, zb, zn, zs, zi, zil, zic, zm, zml, zmc, rfl⟩ := hV'.form
        have hld3 : ∀ j2 u, ([.int .i64 zk, .bool zb, .int .i64 zn, str zs, .slice zi zil zic, .slice zm zml zmc] : List Value)[j2]? = some u → g.cell b7 (o7 + j * 6 + j2) = some u := fun j2 u hu => hg7 j2 u (hfl j2 u hu)
        have B := fun L => IH z0 _ (.slice (some ⟨bs, os', none⟩) r.length (cl - 1)) m g L hr hV' ((w4 hk).get hz0) hm (fun s hs => hl s (List.mem_cons_of_mem _ hs)) (by omega) hs1
        unfold PutDR at B
        have WI := fun (g2 : Gh) (h : g.le g2) (w : DV) (cw : List Value) (hw : IsV g2 w cw) L => rwith6_does k b n t items names _ w cw j g2 L (IsV.le h _ _ hX0) hw (by omega) (by omega)
        have HO := Hn.mk hos
        cases hp : dropD r z0 with
        | none =>
          rw [hp] at B
          dsimp only at B
          clear hX0 hS hSi hI hSn hs1 bk bn bt hnb IH w3 w4 hl hV hat hg7 hr hk hos hfl hV' hp hz0
          repeat' (first | refine wkQ ?_ | refine wkV ?_ | ((with_reducible apply TW.gives_plain); (· kernel_rfl); (· rfl); (· exact A _); (· rfl)) | (refine TL.call (Enters.plain (by kernel_rfl) (by rfl)) (by rfl) (B _) ?_; (rintro e g3 Ln h3 ⟨cz, bz, zz, k1, k2, hz, hm⟩; have k2 := k2.symm; subst k1; subst k2; obtain ⟨qk, qb, qn, qs, qi, qil, qic, qm, qml, qmc, rfl⟩ := hz.form; (obtain rfl := hm); have W1 := WI g3 h3 _ _ hz; have HZ := Hn.mk hz; have HM := Hn.mk hm; clear hz hm; refine CallK.ret ?_)) | (refine TL.call (Enters.plain (by kernel_rfl) (by rfl)) (by rfl) (W1 _) ?_; (rintro e g2 Ln h2 ⟨cz2, k1, k2, hz2⟩; have k2 := k2.symm; subst k1; subst k2; obtain ⟨rk, rb, rn, rs, ri, ril, ric, rm, rml, rmc, rfl⟩ := hz2.form; have HZ2 := Hn.mk hz2; clear hz2; refine CallK.ret ?_)) | ((with_reducible apply TA.two 7 11); (· rfl); (· rfl); (· decide +kernel); (· rfl); (· rfl)) | ((with_reducible apply TA.takeF 0); (· rfl); (· decide +kernel); (· rfl); (· first | (first | exact yQ | exact yA | exact yB | exact yM | exact yV) | exact Y.slice_from rfl rfl (show (1 : Int) = (1 : Nat) from rfl) (by omega) hcs HO.out); (· decide +kernel); (· decide +kernel); (· rfl); (· exact fun _ _ _ h => h); (· rfl)) | ((with_reducible apply TA.takeF 1); (· rfl); (· decide +kernel); (· rfl); (· first | (first | exact yQ | exact yA | exact yB | exact yM | exact yV) | exact Y.slice_from rfl rfl (show (1 : Int) = (1 : Nat) from rfl) (by omega) hcs HO.out); (· decide +kernel); (· decide +kernel); (· rfl); (· exact fun _ _ _ h => h); (· rfl)) | ((with_reducible apply TA.takeF 2); (· rfl); (· decide +kernel); (· rfl); (· first | (first | exact yQ | exact yA | exact yB | exact yM | exact yV) | exact Y.slice_from rfl rfl (show (1 : Int) = (1 : Nat) from rfl) (by omega) hcs HO.out); (· decide +kernel); (· decide +kernel); (· rfl); (· exact fun _ _ _ h => h); (· rfl)) | ((with_reducible apply TA.takeF 3); (· rfl); (· decide +kernel); (· rfl); (· first | (first | exact yQ | exact yA | exact yB | exact yM | exact yV) | exact Y.slice_from rfl rfl (show (1 : Int) = (1 : Nat) from rfl) (by omega) hcs HO.out); (· decide +kernel); (· decide +kernel); (· rfl); (· exact fun _ _ _ h => h); (· rfl)) | ((with_reducible apply TA.takeF 4); (· rfl); (· decide +kernel); (· rfl); (· first | (first | exact yQ | exact yA | exact yB | exact yM | exact yV) | exact Y.slice_from rfl rfl (show (1 : Int) = (1 : Nat) from rfl) (by omega) hcs HO.out); (· decide +kernel); (· decide +kernel); (· rfl); (· exact fun _ _ _ h => h); (· rfl)) | ((with_reducible apply TA.takeF 5); (· rfl); (· decide +kernel); (· rfl); (· first | (first | exact yQ | exact yA | exact yB | exact yM | exact yV) | exact Y.slice_from rfl rfl (show (1 : Int) = (1 : Nat) from rfl) (by omega) hcs HO.out); (· decide +kernel); (· decide +kernel); (· rfl); (· exact fun _ _ _ h => h); (· rfl)) | ((with_reducible apply TA.takeF 6); (· rfl); (· decide +kernel); (· rfl); (· first | (first | exact yQ | exact yA | exact yB | exact yM | exact yV) | exact Y.slice_from rfl rfl (show (1 : Int) = (1 : Nat) from rfl) (by omega) hcs HO.out); (· decide +kernel); (· decide +kernel); (· rfl); (· exact fun _ _ _ h => h); (· rfl)) | ((with_reducible apply TA.takeF 8); (· rfl); (· decide +kernel); (· rfl); (· first | (first | exact yQ | exact yA | exact yB | exact yM | exact yV) | exact Y.slice_from rfl rfl (show (1 : Int) = (1 : Nat) from rfl) (by omega) hcs HO.out); (· decide +kernel); (· decide +kernel); (· rfl); (· exact fun _ _ _ h => h); (· rfl)) | ((with_reducible apply TA.takeF 9); (· rfl); (· decide +kernel); (· rfl); (· first | (first | exact yQ | exact yA | exact yB | exact yM | exact yV) | exact Y.slice_from rfl rfl (show (1 : Int) = (1 : Nat) from rfl) (by omega) hcs HO.out); (· decide +kernel); (· decide +kernel); (· rfl); (· exact fun _ _ _ h => h); (· rfl)) | ((with_reducible apply TA.takeF 10); (· rfl); (· decide +kernel); (· rfl); (· first | (first | exact yQ | exact yA | exact yB | exact yM | exact yV) | exact Y.slice_from rfl rfl (show (1 : Int) = (1 : Nat) from rfl) (by omega) hcs HO.out); (· decide +kernel); (· decide +kernel); (· rfl); (· exact fun _ _ _ h => h); (· rfl)) | ((with_reducible apply TA.takeF 13); (· rfl); (· decide +kernel); (· rfl); (· first | (first | exact yQ | exact yA | exact yB | exact yM | exact yV) | exact Y.slice_from rfl rfl (show (1 : Int) = (1 : Nat) from rfl) (by omega) hcs HO.out); (· decide +kernel); (· decide +kernel); (· rfl); (· exact fun _ _ _ h => h); (· rfl)) | ((with_reducible apply TA.oneF 7); (· rfl); (· rfl); (· decide +kernel); (· rfl)) | ((with_reducible apply TA.oneF 11); (· rfl); (· rfl); (· decide +kernel); (· rfl)) | ((with_reducible apply TA.oneF 12); (· rfl); (· rfl); (· decide +kernel); (· rfl)) | refine TQ.any leF selF ?_ | refine TC.region_any 14 (_) (by kernel_rfl) rfl selF ?_ | refine TA.done (by decide +kernel) ?_ | refine stS ?_ | (refine stB ?_; intro _) | apply TC.region_draw (by kernel_rfl) (by kernel_rfl) | refine TW.nil ?_ | ((with_reducible apply TW.pure); (· exact yA); (· rfl)) | fail)
          all_goals
            refine TQ.endR2 (L' := L) Tryz.results104 rvA rvA rfl (h3.trans h2) ?_ selF
            exact ⟨_, false, _, rfl, rfl, HZ2.out, rfl⟩
        | some w =>
          rw [hp] at B
          dsimp only at B
          have hwi : withI items j w = items.set j w := if_neg (by omega)
          have HWI := Hn.mk hwi
          clear hX0 hS hSi hI hSn hs1 bk bn bt hnb IH w3 w4 hl hV hat hg7 hr hk hos hfl hV' hp hz0 hwi
          repeat' (first | refine wkQ ?_ | refine wkV ?_ | ((with_reducible apply TW.gives_plain); (· kernel_rfl); (· rfl); (· exact A _); (· rfl)) | (refine TL.call (Enters.plain (by kernel_rfl) (by rfl)) (by rfl) (B _) ?_; (rintro e g3 Ln h3 ⟨cz, bz, zz, k1, k2, hz, hm⟩; have k2 := k2.symm; subst k1; subst k2; obtain ⟨qk, qb, qn, qs, qi, qil, qic, qm, qml, qmc, rfl⟩ := hz.form; (obtain ⟨rfl, rfl⟩ := hm); have W1 := WI g3 h3 _ _ hz; have HZ := Hn.mk hz; have HM := Hn.mk hm; clear hz hm; refine CallK.ret ?_)) | (refine TL.call (Enters.plain (by kernel_rfl) (by rfl)) (by rfl) (W1 _) ?_; (rintro e g2 Ln h2 ⟨cz2, k1, k2, hz2⟩; have k2 := k2.symm; subst k1; subst k2; obtain ⟨rk, rb, rn, rs, ri, ril, ric, rm, rml, rmc, rfl⟩ := hz2.form; have HZ2 := Hn.mk hz2; clear hz2; refine CallK.ret ?_)) | ((with_reducible apply TA.two 7 11); (· rfl); (· rfl); (· decide +kernel); (· rfl); (· rfl)) | ((with_reducible apply TA.takeF 0); (· rfl); (· decide +kernel); (· rfl); (· first | (first | exact yQ | exact yA | exact yB | exact yM | exact yV) | exact Y.slice_from rfl rfl (show (1 : Int) = (1 : Nat) from rfl) (by omega) hcs HO.out); (· decide +kernel); (· decide +kernel); (· rfl); (· exact fun _ _ _ h => h); (· rfl)) | ((with_reducible apply TA.takeF 1); (· rfl); (· decide +kernel); (· rfl); (· first | (first | exact yQ | exact yA | exact yB | exact yM | exact yV) | exact Y.slice_from rfl rfl (show (1 : Int) = (1 : Nat) from rfl) (by omega) hcs HO.out); (· decide +kernel); (· decide +kernel); (· rfl); (· exact fun _ _ _ h => h); (· rfl)) | ((with_reducible apply TA.takeF 2); (· rfl); (· decide +kernel); (· rfl); (· first | (first | exact yQ | exact yA | exact yB | exact yM | exact yV) | exact Y.slice_from rfl rfl (show (1 : Int) = (1 : Nat) from rfl) (by omega) hcs HO.out); (· decide +kernel); (· decide +kernel); (· rfl); (· exact fun _ _ _ h => h); (· rfl)) | ((with_reducible apply TA.takeF 3); (· rfl); (· decide +kernel); (· rfl); (· first | (first | exact yQ | exact yA | exact yB | exact yM | exact yV) | exact Y.slice_from rfl rfl (show (1 : Int) = (1 : Nat) from rfl) (by omega) hcs HO.out); (· decide +kernel); (· decide +kernel); (· rfl); (· exact fun _ _ _ h => h); (· rfl)) | ((with_reducible apply TA.takeF 4); (· rfl); (· decide +kernel); (· rfl); (· first | (first | exact yQ | exact yA | exact yB | exact yM | exact yV) | exact Y.slice_from rfl rfl (show (1 : Int) = (1 : Nat) from rfl) (by omega) hcs HO.out); (· decide +kernel); (· decide +kernel); (· rfl); (· exact fun _ _ _ h => h); (· rfl)) | ((with_reducible apply TA.takeF 5); (· rfl); (· decide +kernel); (· rfl); (· first | (first | exact yQ | exact yA | exact yB | exact yM | exact yV) | exact Y.slice_from rfl rfl (show (1 : Int) = (1 : Nat) from rfl) (by omega) hcs HO.out); (· decide +kernel); (· decide +kernel); (· rfl); (· exact fun _ _ _ h => h); (· rfl)) | ((with_reducible apply TA.takeF 6); (· rfl); (· decide +kernel); (· rfl); (· first | (first | exact yQ | exact yA | exact yB | exact yM | exact yV) | exact Y.slice_from rfl rfl (show (1 : Int) = (1 : Nat) from rfl) (by omega) hcs HO.out); (· decide +kernel); (· decide +kernel); (· rfl); (· exact fun _ _ _ h => h); (· rfl)) | ((with_reducible apply TA.takeF 8); (· rfl); (· decide +kernel); (· rfl); (· first | (first | exact yQ | exact yA | exact yB | exact yM | exact yV) | exact Y.slice_from rfl rfl (show (1 : Int) = (1 : Nat) from rfl) (by omega) hcs HO.out); (· decide +kernel); (· decide +kernel); (· rfl); (· exact fun _ _ _ h => h); (· rfl)) | ((with_reducible apply TA.takeF 9); (· rfl); (· decide +kernel); (· rfl); (· first | (first | exact yQ | exact yA | exact yB | exact yM | exact yV) | exact Y.slice_from rfl rfl (show (1 : Int) = (1 : Nat) from rfl) (by omega) hcs HO.out); (· decide +kernel); (· decide +kernel); (· rfl); (· exact fun _ _ _ h => h); (· rfl)) | ((with_reducible apply TA.takeF 10); (· rfl); (· decide +kernel); (· rfl); (· first | (first | exact yQ | exact yA | exact yB | exact yM | exact yV) | exact Y.slice_from rfl rfl (show (1 : Int) = (1 : Nat) from rfl) (by omega) hcs HO.out); (· decide +kernel); (· decide +kernel); (· rfl); (· exact fun _ _ _ h => h); (· rfl)) | ((with_reducible apply TA.takeF 13); (· rfl); (· decide +kernel); (· rfl); (· first | (first | exact yQ | exact yA | exact yB | exact yM | exact yV) | exact Y.slice_from rfl rfl (show (1 : Int) = (1 : Nat) from rfl) (by omega) hcs HO.out); (· decide +kernel); (· decide +kernel); (· rfl); (· exact fun _ _ _ h => h); (· rfl)) | ((with_reducible apply TA.oneF 7); (· rfl); (· rfl); (· decide +kernel); (· rfl)) | ((with_reducible apply TA.oneF 11); (· rfl); (· rfl); (· decide +kernel); (· rfl)) | ((with_reducible apply TA.oneF 12); (· rfl); (· rfl); (· decide +kernel); (· rfl)) | refine TQ.any leF selF ?_ | refine TC.region_any 14 (_) (by kernel_rfl) rfl selF ?_ | refine TA.done (by decide +kernel) ?_ | refine stS ?_ | (refine stB ?_; intro _) | apply TC.region_draw (by kernel_rfl) (by kernel_rfl) | refine TW.nil ?_ | ((with_reducible apply TW.pure); (· exact yA); (· rfl)) | fail)
          all_goals
            refine TQ.endR2 (L' := L) Tryz.results104 rvA rvA rfl (h3.trans h2) ?_ selF
            refine ⟨_, true, _, rfl, rfl, HZ2.out, rfl, ?_⟩
            rw [HWI.out]
end Go.Proofs.YthngolfabfijpaaGreatDoor
