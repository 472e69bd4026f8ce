/-
  How great the document's values are behind put and drop. The walk of the document's with. The walk of the document's Depth. How deep the document's values are behind put.
-/
import Derived.Test.YthngolfabfijpaaGreatDoorHd11
import Derived.Test.YthngolfabfijpaaGreatDoorHd15
import Derived.Test.YthngolfabfijpaaGreatDoorHd2
import Derived.Test.YthngolfabfijpaaGreatDoorHd1
import Derived.Test.YthngolfabfijpaaGreatDoorHd10
namespace Go.Proofs.YthngolfabfijpaaGreatDoor
open Go.RowKit Go.TL
set_option maxRecDepth 100000

/-! ### How great -/
theorem wfN_noneD (m : Nat) : wfN m noneD := by
  unfold noneD
  rw [wfN]
  exact ⟨Nat.zero_le _, Nat.zero_le _, fun _ => ⟨rfl, fun x hx => by cases hx⟩, fun _ => by rw [wfNs]; trivial⟩
theorem wfN_put : ∀ (l : List (List UInt8)) (x y z : DV) (m : Nat), (∀ s ∈ l, s.length ≤ m) → wfN m x → wfN m y → putD l x y = some z → wfN (m + 1) z
  | [], x, y, z, m, _, _, hy, h => by
    rw [putD] at h
    obtain rfl := Option.some.inj h
    exact wfN_up _ _ _ hy (Nat.le_succ _)
  | s :: r, .mk k b n t items names, y, z, m, hl, hx, hy, h => by
    have hr : ∀ s ∈ r, s.length ≤ m := fun s hs => hl s (List.mem_cons_of_mem _ hs)
    have hx2 := wfN_up _ _ _ hx (Nat.le_succ m)
    rw [wfN] at hx hx2
    obtain ⟨x1, x2, x3, x4⟩ := hx
    obtain ⟨y1, y2, y3, y4⟩ := hx2
    rw [putD] at h
    split at h
    · rename_i hk
      split at h
      · split at h
        · rename_i i _ z0 hz0
          obtain ⟨w, hw, rfl⟩ := Option.map_eq_some_iff.1 h
          have h1 := wfN_put r z0 y w m hr ((x4 hk).get hz0) hy hw
          rw [wfN, List.length_set]
          exact ⟨y1, y2, y3, fun _ => (y4 hk).set h1⟩
        · cases h
      · split at h
        · cases h
        · obtain ⟨w, hw, rfl⟩ := Option.map_eq_some_iff.1 h
          have h1 := wfN_put r noneD y w m hr (wfN_noneD m) hy hw
          rw [wfN, List.length_append, List.length_singleton]
          refine ⟨y1, by omega, fun h5 => ?_, fun _ => (y4 hk).snoc h1⟩
          obtain ⟨z1, z2⟩ := x3 h5
          rw [if_pos h5]
          refine ⟨by rw [List.length_append, List.length_singleton, z1], fun u hu => ?_⟩
          rcases List.mem_append.1 hu with hu | hu
          · exact Nat.le_succ_of_le (z2 u hu)
          · rw [List.mem_singleton.1 hu]
            exact Nat.le_succ_of_le (hl s List.mem_cons_self)
    · cases h
theorem wfN_drop : ∀ (l : List (List UInt8)) (x z : DV) (m : Nat), wfN m x → dropD l x = some z → wfN m z
  | [], x, z, m, _, h => by rw [dropD] at h; cases h
  | s :: r, .mk k b n t items names, z, m, hx, h => by
    rw [wfN] at hx
    obtain ⟨x1, x2, x3, x4⟩ := hx
    rw [dropD] at h
    split at h
    · rename_i i hi
      split at h
      · rename_i z0 hz0
        have hk : k = 4 ∨ k = 5 := by
          unfold atD at hi
          split at hi
          · exact .inr ‹_›
          · split at hi
            · exact .inl ‹_›
            · cases hi
        split at h
        · obtain rfl := Option.some.inj h
          have hle : (items.eraseIdx i).length ≤ m := Nat.le_trans (List.length_eraseIdx_le ..) x2
          rw [wfN]
          refine ⟨x1, hle, fun h5 => ?_, fun _ => (x4 hk).erase⟩
          obtain ⟨z1, z2⟩ := x3 h5
          rw [if_pos h5]
          refine ⟨?_, fun u hu => z2 u (List.mem_of_mem_eraseIdx hu)⟩
          rw [List.length_eraseIdx, List.length_eraseIdx, z1]
        · obtain ⟨w, hw, rfl⟩ := Option.map_eq_some_iff.1 h
          have h1 := wfN_drop r z0 w m ((x4 hk).get hz0) hw
          rw [wfN, List.length_set]
          exact ⟨x1, x2, x3, fun _ => (x4 hk).set h1⟩
      · cases h
    · cases h
end Go.Proofs.YthngolfabfijpaaGreatDoor
namespace Go.Proofs.YthngolfabfijpaaGreatDoor
open Go.RowKit Go.TL
set_option maxRecDepth 100000

def withI (items : List DV) (j : Nat) (y : DV) : List DV := if j = items.length then items ++ [y] else items.set j y
set_option maxHeartbeats 16000000 in
theorem rwith6_does (k : Int) (b : Bool) (n : Int) (t : List UInt8) (items : List DV) (names : List (List UInt8)) (cs : List Value) (y : DV) (us : List Value) (j : Nat) (g : Gh) (L : List Ent) (hX : IsV g (.mk k b n t items names) cs) (hY : IsV g y us) (_hj : j ≤ items.length) (_hl : items.length ≤ 1000000) :
    Does Tryz.prog 138 #[.agg cs.toArray, .int .i64 (j : Nat), .agg us.toArray] g L (fun e g' L' => ∃ cs', e = .returned (.agg cs'.toArray) ∧ L' = L ∧ IsV g' (.mk k b n t (withI items j y) names) cs') := by
  refine Does.of3 Tryz.func138 rfl Tryz.ntmps138 rfl ?_
  have hul := hY.len
  have huo := hY.ones
  rw [IsV] at hX
  obtain ⟨vi, vn, flat, rfl, bk, bn, bt, hSi, hil, hI, hSn, hnl, hnb⟩ := hX
  have hfl := hI.len
  have hfo := hI.ones
  obtain ⟨ai, ci, rfl⟩ := hSi.slice
  obtain ⟨an, cn, rfl⟩ := hSn.slice
  have HB := Hn.mk (And.intro bk (And.intro bn (And.intro bt (And.intro hil (And.intro hnl hnb)))))
  have HI := Hn.mk hI
  have HS := Hn.mk hSn
  have HY := Hn.mk hY
  clear bk bn bt hil hI hSn hnl hnb hY
  by_cases he : j = items.length
  · subst he
    repeat' (first | refine wkV ?_ | (refine TL.build_empty (by rfl) (fun bb => ?_); refine TL.obj_row (b := bb) (k := 0) (sz := 6) .here rfl (by decide) ?_) | ((with_reducible apply TL.append (e := 29)); (· rfl); (· rfl); (· rfl); (· rfl); (· exact pkA); (· first | exact Src.obj pkA | exact Src.sl (by assumption) | exact Src.row pkA); (· first | exact hfl | exact hul); (· first | exact hfo | exact huo); (· exact ⟨by unfold maxLen; omega, by omega⟩); (· rfl); intro vf; refine Go.TL.TL.row_slice (v := vf) pkA ?_; rintro af cf rfl _; try rw [Nat.zero_add, List.nil_append]) | refine TL.build_one (by rfl) (by first | rfl | assumption) (by rfl) (by rfl) (by rfl) (by rfl) (fun _ => ?_) | refine stS ?_ | (refine stB ?_; intro _) | fail)
    refine TQ.freeze (v := .slice af (items.length + 1) cf) pkA ?_
    intro g' hg' hsl
    refine TQ.endR1 (L' := L) Tryz.results138 rvA rfl (hg') ?_ selA
    refine ⟨_, rfl, rfl, ?_⟩
    obtain ⟨bk, bn, bt, hil, hnl, hnb⟩ := HB.out
    unfold withI
    rw [if_pos rfl, IsV]
    refine ⟨_, _, flat ++ us, rfl, bk, bn, bt, ?_, ?_, .append (.one (IsV.le hg' _ _ HY.out)) (IsVs.le hg' _ _ HI.out), HS.out.le hg', hnl, hnb⟩
    · rw [List.length_append, List.length_singleton]; exact hsl
    · rw [List.length_append, List.length_singleton]; omega
  · have hlt : j < items.length := by omega
    have HE : Hn (¬ ((j : Nat) : Int) = (items.length : Nat)) := ⟨by omega⟩
    repeat' (first | refine wkV ?_ | (refine TL.build_empty (by rfl) (fun bb => ?_); refine TL.obj_row (b := bb) (k := 0) (sz := 6) .here rfl (by decide) ?_) | ((with_reducible apply TL.append (e := 29)); (· rfl); (· rfl); (· rfl); (· rfl); (· exact pkA); (· exact Src.sl (by assumption)); (· exact hfl); (· exact hfo); (· exact ⟨by unfold maxLen; omega, by omega⟩); (· rfl); intro vf; rw [Nat.zero_add, List.nil_append]; refine Go.TL.TL.row_form (v := vf) pkA (by omega) ?_; rintro bf cf rfl _) | ((with_reducible apply TL.store_row_ag); (· rfl); (· rfl); (· exact huo); (· exact hul); (· exact pkA); (· omega)) | refine stS ?_ | (refine stB ?_; intro _) | fail)
    refine TQ.freeze (v := .slice (some ⟨bf, 0, none⟩) items.length cf) pkA ?_
    intro g' hg' hsl
    refine TQ.endR1 (L' := L) Tryz.results138 rvA rfl (hg') ?_ selA
    refine ⟨_, rfl, rfl, ?_⟩
    obtain ⟨bk, bn, bt, hil, hnl, hnb⟩ := HB.out
    unfold withI
    rw [if_neg he, IsV]
    rw [Nat.zero_add] at hsl
    refine ⟨_, _, _, rfl, bk, bn, bt, ?_, ?_, (IsVs.le hg' _ _ HI.out).set (IsV.le hg' _ _ HY.out) hlt, HS.out.le hg', hnl, hnb⟩
    · rw [List.length_set]; exact hsl
    · rw [List.length_set]; exact hil
end Go.Proofs.YthngolfabfijpaaGreatDoor
namespace Go.Proofs.YthngolfabfijpaaGreatDoor
open Go.RowKit Go.TL
set_option maxRecDepth 100000

theorem depDs_get : ∀ {l : List DV} {i : Nat} {x : DV}, l[i]? = some x → depD x ≤ depDs l
  | [], _, _, h => by simp at h
  | y :: r, 0, x, h => by
    obtain rfl : y = x := by simpa using h
    rw [depDs]; omega
  | y :: r, i + 1, x, h => by
    have := depDs_get (l := r) (i := i) (x := x) (by simpa using h)
    rw [depDs]; omega
theorem depDs_at {l : List DV} {i : Nat} {x : DV} (h : l[i]? = some x) : depDs (l.drop i) = max (depD x) (depDs (l.drop (i + 1))) := by
  rw [drop_of_get h, depDs]
set_option maxHeartbeats 16000000 in
theorem rDepth_gives : ∀ (N : Nat) (x : DV), dsz x ≤ N → ∀ (cs : List Value) (g : Gh) (L : List Ent), IsV g x cs → depD x ≤ 1000 → Gives Tryz.prog 110 #[.agg cs.toArray] g L (.int .i64 (depD x : Nat))
  | 0, .mk .., h, _, _, _, _, _ => by rw [dsz] at h; omega
  | N + 1, .mk k b n s items names, hN, cs, g, L, hV, hD => by
    have IH := rDepth_gives N
    rw [dsz] at hN
    refine .of (Does.of1 Tryz.func110 rfl Tryz.ntmps110 rfl ?_)
    rw [IsV] at hV
    obtain ⟨vi, vn, flat, rfl, _, _, _, hS, hil, hI, hSn, _, _⟩ := hV
    obtain ⟨ai, ci, rfl⟩ := hS.slice
    obtain ⟨an, cn, rfl⟩ := hSn.slice
    rw [depD] at hD ⊢
    by_cases hk : k < 4
    · rw [if_pos hk]
      clear hS hI hSn IH hil
      repeat' (first | refine stS ?_ | (refine stB ?_; intro _) | fail)
      refine TQ.endR1 (L' := L) Tryz.results110 rvA rfl (.refl _) ?_ selA
      exact ⟨rfl, rfl, rfl⟩
    · rw [if_neg hk] at hD ⊢
      obtain ⟨D, hD2⟩ : ∃ D, D = depDs items := ⟨_, rfl⟩
      rw [← hD2] at hD ⊢
      clear hSn
      repeat' (first | refine stS ?_ | (refine stB ?_; intro _) | fail)
      rename_i b1
      refine TC.loopL (fun z : Nat × Nat => z.1 ≤ items.length ∧ max z.2 (depDs (items.drop z.1)) = D) (fun z => items.length - z.1) (fun z _ => [(4, .int .i64 (z.1 : Nat)), (3, .int .i64 (z.2 : Nat)), (1, .pointer (some ⟨b1, 0, none⟩))]) (fun _ => .obj b1 (.cells [.int .i64 k, .bool b, .int .i64 n, str s, .slice ai items.length ci, .slice an names.length cn].toArray 29 (0, 0)) :: L) (0, 0) ⟨Nat.zero_le _, by rw [hD2]; simp⟩ subA selA ?_
      rintro ⟨i, m⟩ ⟨hi, hm⟩
      dsimp only at hi hm ⊢
      by_cases hlt : i < items.length
      · obtain ⟨y, hy⟩ : ∃ y, items[i]? = some y := ⟨_, List.getElem?_eq_getElem hlt⟩
        obtain ⟨cs', hV', hcl, hfl⟩ := hI.get hy
        obtain ⟨b3, o3, rfl, hg3⟩ := hS.elem hlt (by decide)
        have hsz := dsz_get hy
        have hdy := depDs_get hy
        rw [depDs_at hy] at hm
        have A := fun L => IH y (by omega) cs' g L hV' (by omega)
        have hld3 : ∀ j2 u, cs'[j2]? = some u → g.cell b3 (o3 + i * 6 + j2) = some u := fun j2 u hu => hg3 j2 u (hfl j2 u hu)
        clear IH hI hS hg3 hfl hV' hD2
        by_cases hgt : m < depD y
        · have HG : Hn (((m : Nat) : Int) < (depD y : Nat)) := ⟨by omega⟩
          have HM : Hn (max (depD y) (depDs (items.drop (i + 1))) = D) := ⟨by omega⟩
          clear hm
          generalize depD y = e at *
          repeat' (first | refine wkV ?_ | ((with_reducible apply TL.gives_plain); (· kernel_rfl); (· rfl); (· exact A _); (· rfl)) | refine stS ?_ | fail)
          refine TQ.round (i + 1, e) ?_ ?_ rfl subA selA
          · exact ⟨by dsimp only; omega, HM.out⟩
          · show items.length - (i + 1) < items.length - i
            omega
        · have HG : Hn (¬ ((m : Nat) : Int) < (depD y : Nat)) := ⟨by omega⟩
          have HM : Hn (max m (depDs (items.drop (i + 1))) = D) := ⟨by omega⟩
          clear hm
          generalize depD y = e at *
          repeat' (first | refine wkV ?_ | ((with_reducible apply TL.gives_plain); (· kernel_rfl); (· rfl); (· exact A _); (· rfl)) | refine stS ?_ | fail)
          refine TQ.round (i + 1, m) ?_ ?_ rfl subA selA
          · exact ⟨by dsimp only; omega, HM.out⟩
          · show items.length - (i + 1) < items.length - i
            omega
      · rw [List.drop_eq_nil_of_le (by omega), depDs] at hm
        obtain rfl : m = D := by omega
        clear hI hS IH hD2
        repeat' (first | refine stS ?_ | fail)
        refine TQ.endR1 (L' := L) Tryz.results110 rvA rfl (.refl _) ?_ selA
        exact ⟨rfl, rfl, rfl⟩
end Go.Proofs.YthngolfabfijpaaGreatDoor
namespace Go.Proofs.YthngolfabfijpaaGreatDoor
open Go.RowKit Go.TL
set_option maxRecDepth 100000

theorem depDs_set : ∀ (l : List DV) (i : Nat) (x : DV), depDs (l.set i x) ≤ max (depDs l) (depD x)
  | [], _, _ => by rw [List.set_nil]; exact Nat.le_max_left ..
  | y :: r, 0, x => by rw [List.set_cons_zero, depDs, depDs]; omega
  | y :: r, i + 1, x => by
    have := depDs_set r i x
    rw [List.set_cons_succ, depDs, depDs]; omega
theorem depDs_snoc : ∀ (l : List DV) (x : DV), depDs (l ++ [x]) ≤ max (depDs l) (depD x)
  | [], x => by
    have h0 : depDs [] = 0 := by rw [depDs]
    have h1 : depDs [x] = max (depD x) 0 := by rw [depDs, h0]
    rw [List.nil_append]; omega
  | y :: r, x => by
    have := depDs_snoc r x
    rw [List.cons_append, depDs, depDs]; omega
theorem dep_put : ∀ (l : List (List UInt8)) (x y z : DV), putD l x y = some z → depD z ≤ max (depD x) (depD y + l.length + 1)
  | [], x, y, z, h => by
    rw [putD] at h
    obtain rfl := Option.some.inj h
    omega
  | s :: r, .mk k b n t items names, y, z, h => by
    rw [putD] at h
    split at h
    · rename_i hk
      have hk4 : ¬ k < 4 := by omega
      split at h
      · split at h
        · rename_i i _ _ z0 hz0
          obtain ⟨w, hw, rfl⟩ := Option.map_eq_some_iff.1 h
          have h1 := dep_put r z0 y w hw
          have h2 := depDs_set items i w
          have h3 := depDs_get hz0
          rw [depD, depD, if_neg hk4, if_neg hk4, List.length_cons]; omega
        · cases h
      · split at h
        · cases h
        · obtain ⟨w, hw, rfl⟩ := Option.map_eq_some_iff.1 h
          have h1 := dep_put r noneD y w hw
          have h2 := depDs_snoc items w
          have h3 : depD noneD = 1 := rfl
          rw [depD, depD, if_neg hk4, if_neg hk4, List.length_cons]; omega
    · cases h
end Go.Proofs.YthngolfabfijpaaGreatDoor
