/-
  The walk of layer 18's document's Unpack.
-/
import Derived.Test.YtdlijjmjfepklaaSame
import Derived.Test.YtdlijjmjfepklaaLawPacks
namespace Go.Proofs.Ytdlijjmjfepklaa
open Go.RowKit

theorem gtGo_suf : ∀ (f m : Nat) (s : List UInt8) (x : Nat) (r : List UInt8), gtGo f m s = some (x, r) → r <:+ s := by
  intro f
  induction f with
  | zero => intro m s x r h; simp [gtGo] at h
  | succ f ih =>
    intro m s x r h
    cases s with
    | nil => simp [gtGo] at h
    | cons c t =>
      rw [gtGo] at h
      split at h
      · simp only [Option.some.injEq, Prod.mk.injEq] at h
        obtain ⟨_, rfl⟩ := h
        exact List.suffix_cons _ _
      · exact (ih _ _ _ _ h).trans (List.suffix_cons _ _)
theorem get_suf (ao : Option Addr) (n cap q : Nat) (s t : List UInt8) (w : World) (hs : s.length = n) (hn : n ≤ 4611686018427387904) (hc : CellsAt w ao (byteVals s)) (ht : t <:+ s) (hq : q = n - t.length) :
    Calls Try.prog 34 #[.slice ao n cap, .int .i64 q] w fun e w' => ((∃ x r q', gtNum t = some (x, r) ∧ r <:+ s ∧ q' = n - r.length ∧ q' ≤ n ∧ e = .returned (.tuple #[.int .i64 (x : Nat), .int .i64 (q' : Nat)])) ∨ (gtNum t = none ∧ e = .returned (.tuple #[.int .i64 0, .int .i64 (-1)]))) ∧ Ext w w' :=
  (get_any ao n cap q s w hs hn (by omega) hc).mono fun e w' ⟨h1, h2⟩ => by
    have e1 : s.drop q = t := by rw [hq, ← hs]; exact (List.suffix_iff_eq_drop.1 ht).symm
    rw [e1] at h1
    refine ⟨?_, h2⟩
    cases hg : gtNum t with
    | none => rw [hg] at h1; exact .inr ⟨rfl, h1⟩
    | some y =>
      obtain ⟨x, r⟩ := y
      rw [hg] at h1
      exact .inl ⟨x, r, n - r.length, rfl, (gtGo_suf _ _ _ _ _ hg).trans ht, rfl, by omega, h1⟩

/-- While the three numbers of a posting are read. -/
structure TS (k : Nat) (t0 t : List UInt8) (x0 x1 x2 : Nat) : Prop where
  z0 : k = 0 → t = t0 ∧ x0 = 0 ∧ x1 = 0 ∧ x2 = 0
  z1 : k = 1 → gtThree t0 = some (x0, t) ∧ x1 = 0 ∧ x2 = 0
  z2 : k = 2 → x2 = 0 ∧ ∃ u, gtThree t0 = some (x0, u) ∧ gtThree u = some (x1, t)
  z3 : k = 3 → ∃ u v, gtThree t0 = some (x0, u) ∧ gtThree u = some (x1, v) ∧ gtThree v = some (x2, t)
theorem TS.fail {k : Nat} {t0 t : List UInt8} {x0 x1 x2 L : Nat} {last : Int} (h : TS k t0 t x0 x1 x2) (hk : k < 3) (hg : gtThree t = none) : gtPost L last t0 = none := by
  have : k = 0 ∨ k = 1 ∨ k = 2 := by omega
  rcases this with rfl | rfl | rfl
  · obtain ⟨rfl, _⟩ := h.z0 rfl
    rw [gtPost, hg]
  · rw [gtPost, (h.z1 rfl).1]; simp only []; rw [hg]
  · obtain ⟨_, u, h1, h2⟩ := h.z2 rfl
    rw [gtPost, h1]; simp only []; rw [h2]; simp only []; rw [hg]

theorem TS.next {k : Nat} {t0 t r : List UInt8} {x0 x1 x2 x : Nat} (h : TS k t0 t x0 x1 x2) (hg : gtThree t = some (x, r)) :
    (k = 0 → TS 1 t0 r x x1 x2) ∧ (k = 1 → TS 2 t0 r x0 x x2) ∧ (k = 2 → TS 3 t0 r x0 x1 x) := by
  refine ⟨fun e => ⟨by omega, fun _ => ?_, by omega, by omega⟩, fun e => ⟨by omega, by omega, fun _ => ?_, by omega⟩, fun e => ⟨by omega, by omega, by omega, fun _ => ?_⟩⟩
  · obtain ⟨rfl, _, h1, h2⟩ := h.z0 e
    exact ⟨hg, h1, h2⟩
  · obtain ⟨h1, _, h2⟩ := h.z1 e
    exact ⟨h2, t, h1, hg⟩
  · obtain ⟨_, u, h1, h2⟩ := h.z2 e
    exact ⟨u, t, h1, h2, hg⟩

theorem gtAts_succ (f : Nat) (a : Int) (s : List UInt8) : gtAts (f + 1) a s = (match gtNum s with
    | none => none
    | some (x, t) => if x ≤ 1048576 then (gtAts f (a + (1 + (x : Int))) t).map (fun q => ((a + (1 + (x : Int))) :: q.1, q.2)) else none) := rfl
/-- While a posting's places are read: the three numbers' block, the posting's block, its places' row. -/
structure RS (w0 : World) (P : Nat) (row len : Int) (arr : Obj) (wr : World) (o : Value) (ats : List Int) : Prop where
  ext : Ext w0 wr
  ord : w0.heap.size < P ∧ P < wr.heap.size
  hA : wr.heap[w0.heap.size]? = some arr
  h5 : wr.heap[P]? = some (.cells #[.int .i64 row, .int .i64 len, o] 24 (0, 0))
  own : wr.ownsRow (P + 1) 3 1 o ats.length (ints ats)
theorem RS.mono {w0 wr w1 : World} {P : Nat} {row len : Int} {arr : Obj} {o : Value} {ats : List Int} (h : RS w0 P row len arr wr o ats) (x : Ext wr w1) : RS w0 P row len arr w1 o ats :=
  ⟨Ext.trans' h.ext x, ⟨h.ord.1, Nat.lt_of_lt_of_le h.ord.2 x.size⟩, (x.block _ (by have := h.ord; omega)).trans h.hA, (x.block _ h.ord.2).trans h.h5, owns_ext h.own x⟩
theorem RS.below {w0 w1 w3 : World} {P : Nat} {row len : Int} {arr ob : Obj} {o v3 : Value} {ats : List Int} (h : RS w0 P row len arr w1 o ats) (o3 : Owns (w1.alloc ob) w3 o v3) : Below (P + 1) w1 w3 :=
  ((Below.refl (P + 1) w1).alloc (by have := h.ord; omega) ob).trans (o3.below (by have := h.ord; simp; omega) (fun k hk => owns_low h.own k hk))
theorem RS.append {w0 w1 w3 : World} {P : Nat} {row len x : Int} {arr ob : Obj} {o v3 : Value} {ats : List Int} (h : RS w0 P row len arr w1 o ats) (o3 : Owns (w1.alloc ob) w3 o v3) (hown : w3.ownsRow (P + 1) 3 1 v3 (ats.length + 1) (ints ats ++ ints [x])) :
    RS w0 P row len arr (w3.setCell ⟨P, 2, none⟩ v3) v3 (ats ++ [x]) := by
  have ho := h.ord
  have hB := h.below o3
  refine ⟨(h.ext.trans (hB.mono (by omega))).setCell (p := ⟨P, 2, none⟩) (Nat.le_of_lt ho.1) _, ⟨ho.1, by have := hB.size; simp [World.setCell]; omega⟩, ?_, ?_, ?_⟩
  · exact (Below.heap_setCell _ _ _ _ (by show w0.heap.size ≠ P; omega)).trans ((hB.block _ (by omega)).trans h.hA)
  · have h5 := (hB.block P (by omega)).trans h.h5
    simp [World.setCell, Array.getElem?_modify, h5]
  · have := ownsRow_setCell_below hown (a := ⟨P, 2, none⟩) (by show P < _; omega) v3
    simpa [ints] using this

set_option maxRecDepth 100000 in
set_option maxHeartbeats 4000000 in
theorem rUnpack_any (ao : Option Addr) (n cap : Nat) (s : List UInt8) (w : World) (hs : s.length = n) (hn : n ≤ 1000000) (hc : CellsAt w ao (byteVals s)) :
    Calls Try.prog 23 #[.slice ao n cap] w fun e w' => Ext w w' ∧ ((∃ l qs a c, gtList s = some l ∧ e = .returned (.tuple #[.slice a qs.length c, .int .i64 0]) ∧ PostsAt w' a qs ∧ qs.map PV.norm = l ∧ (∀ p ∈ qs, p.ats.length ≤ 1000000)) ∨ (gtList s = none ∧ e = .returned (.tuple #[.slice none 0 0, .int .i64 5]))) := by
  have Hs := Lib.hid hs
  have HG : Hid (∀ (w1 : World) (q : Nat) (t : List UInt8), Ext w w1 → t <:+ s → q = n - t.length → Calls Try.prog 34 #[.slice ao n cap, .int .i64 q] w1 fun e w' => ((∃ x r q', gtNum t = some (x, r) ∧ r <:+ s ∧ q' = n - r.length ∧ q' ≤ n ∧ e = .returned (.tuple #[.int .i64 (x : Nat), .int .i64 (q' : Nat)])) ∨ (gtNum t = none ∧ e = .returned (.tuple #[.int .i64 0, .int .i64 (-1)]))) ∧ Ext w1 w') :=
    fun w1 q t h1 h2 h3 => get_suf ao n cap q s t w1 hs (by omega) (hc.ext h1) h2 h3
  have HG0 := Lib.hid (HG.out w 0 s (Below.refl _ _) (List.suffix_refl _) (by omega))
  have HC := Lib.hid hc
  clear hs hc
  go_enter Try.func23, Try.ntmps23
  go_wp2_with fail
  refine HG0.out.mono ?_
  rintro e w1 ⟨⟨cnt, t1, q1, g1, hsf1, hq1, hq1n, rfl⟩ | ⟨g1, rfl⟩, hE1⟩
  rotate_left
  · go_wp2_with fail
    go_ret2
    exact ⟨hE1, .inr ⟨by rw [gtList, g1], rfl⟩⟩
  have d1 : decide ((q1 : Int) < 0) = false := by rw [decide_eq_false_iff_not]; omega
  by_cases hcnt : 64 < cnt
  · have d2 : decide (64 < (cnt : Int)) = true := by rw [decide_eq_true_iff]; omega
    have d2' : decide ((cnt : Int) > 64) = true := d2
    go_wp2_with fail
    go_ret2
    exact ⟨hE1, .inr ⟨by rw [gtList, g1]; simp only []; rw [if_neg (by omega)], rfl⟩⟩
  have d2 : decide (64 < (cnt : Int)) = false := by rw [decide_eq_false_iff_not]; omega
  have HL : Hid (gtList s = match gtAll n cnt (-1) t1 with | none => none | some (l, _) => if rightB l = true ∧ packB l = s then some l else none) := by
    show _ = _
    rw [gtList, g1]; simp only []; rw [if_pos (by omega), Hs.out]
    rfl
  have Hq1 := Lib.hid hq1
  have Hsf := Lib.hid hsf1
  clear g1 hq1 hsf1 HG0
  go_wp2_with fail
  go_loopw [5, 6, 7, 8] (fun at_ o row i wr => ∃ (k q : Nat) (l : Int) (qs : List PV) (ao : Option Addr) (cap : Nat) (t : List UInt8), k ≤ cnt ∧ i = .int .i64 k ∧ row = .int .i64 l ∧ at_ = .int .i64 q ∧ q ≤ n ∧ Hid (q = n - t.length ∧ t <:+ s) ∧ -1 ≤ l ∧ l ≤ (k : Int) * 9007199254740993 ∧ Hid (qs.length = k) ∧ o = .slice ao qs.length cap ∧ wr.ownsRow w.heap.size 24 3 o qs.length (flat3 qs) ∧ Inner wr o qs ∧ Ext w wr ∧ Hid (gtAll n cnt (-1) t1 = (gtAll n (cnt - k) l t).map fun q => (qs.map PV.norm ++ q.1, q.2)) ∧ Hid (∀ p ∈ qs, p.ats.length ≤ 1000000)) (fun _ _ _ i _ => cnt - (intOf i).toNat)
  case atStart => exact ⟨0, q1, -1, [], none, 0, t1, by omega, rfl, rfl, rfl, hq1n, ⟨Hq1.out, Hsf.out⟩, by omega, by omega, rfl, rfl, World.ownsRow_nil _ _ _ _, (fun p hp => by cases hp), hE1, by simp [Hid], by simp [Hid]⟩
  case round =>
    obtain ⟨k, q, l, qs, ao2, cap2, t, hk, rfl, rfl, rfl, hqn, hqs, hl1, hl2, hql, rfl, hr, hi, hE, hg, hats⟩ := hrel
    by_cases hlt : k < cnt
    · have hRo := hr.lt
      obtain ⟨wo, rfl⟩ : ∃ wo : World, wo = wr := ⟨_, rfl⟩
      have Hr := Lib.hid hr
      have Hi := Lib.hid hi
      have HFail : Hid (gtPost n l t = none → gtList s = none) := fun h => by
        obtain ⟨f, hf⟩ : ∃ f, cnt - k = f + 1 := ⟨cnt - k - 1, by omega⟩
        rw [HL.out, hg.out, hf, gtAll, h]; rfl
      clear hr hi hRo
      go_wp2_with fail
      go_loopw [5, 10] (fun at_ i wr => ∃ (j q2 x0 x1 x2 : Nat) (t2 : List UInt8), j ≤ 3 ∧ i = .int .i64 j ∧ at_ = .int .i64 q2 ∧ q2 ≤ n ∧ Hid (q2 = n - t2.length ∧ t2 <:+ s) ∧ x0 ≤ 9007199254740992 ∧ x1 ≤ 9007199254740992 ∧ x2 ≤ 9007199254740992 ∧ Hid (TS j t t2 x0 x1 x2) ∧ Ext wo wr ∧ wo.heap.size < wr.heap.size ∧ wr.heap[wo.heap.size]? = some (.cells #[.int .i64 x0, .int .i64 x1, .int .i64 x2] 69 (0, 0))) (fun _ i _ => 3 - (intOf i).toNat)
      case atStart => exact ⟨0, q, 0, 0, 0, t, by omega, rfl, rfl, hqn, hqs, by omega, by omega, by omega, ⟨fun _ => ⟨rfl, rfl, rfl, rfl⟩, by omega, by omega, by omega⟩, (Below.refl _ _).alloc (Nat.le_refl _) _, by simp, heap_alloc_new _ _⟩
      case round =>
        obtain ⟨j, q2, x0, x1, x2, t2, hj, rfl, rfl, hq2, hqs2, b0, b1, b2, hT, hE2, hsz2, hA⟩ := hrel
        by_cases hj3 : j < 3
        · have HG1 := Lib.hid (HG.out wr q2 t2 (Ext.trans' hE hE2) hqs2.out.2 hqs2.out.1)
          go_wp2_with fail
          refine HG1.out.mono ?_
          rintro e w2 ⟨⟨x, r, q3, g3, hsf3, hq3, hq3n, rfl⟩ | ⟨g3, rfl⟩, hE3⟩
          rotate_left
          · have hbad : gtThree t2 = none := by rw [gtThree, g3]
            have hf := HFail.out (hT.out.fail (L := n) (last := l) hj3 hbad)
            have Hf := Lib.hid hf
            clear hT hf
            go_wp2_with fail
            go_ret2
            exact ⟨Ext.trans' hE (Ext.trans' hE2 hE3), .inr ⟨Hf.out, rfl⟩⟩
          have e1 : decide ((q3 : Int) < 0) = false := by rw [decide_eq_false_iff_not]; omega
          by_cases hxb : 9007199254740992 < x
          · have e2 : decide (9007199254740992 < (x : Int)) = true := by rw [decide_eq_true_iff]; omega
            have e2' : decide ((x : Int) > 9007199254740992) = true := e2
            have hbad : gtThree t2 = none := by rw [gtThree, g3]; simp only []; rw [if_neg (by omega)]
            have hf := HFail.out (hT.out.fail (L := n) (last := l) hj3 hbad)
            have Hf := Lib.hid hf
            clear hT hf
            go_wp2_with fail
            go_ret2
            exact ⟨Ext.trans' hE (Ext.trans' hE2 hE3), .inr ⟨Hf.out, rfl⟩⟩
          have e2 : decide (9007199254740992 < (x : Int)) = false := by rw [decide_eq_false_iff_not]; omega
          have hgood : gtThree t2 = some (x, r) := by rw [gtThree, g3]; simp only []; rw [if_pos (by omega)]
          have HN := Lib.hid (hT.out.next hgood)
          have hA2 := (hE3.block _ hsz2).trans hA
          have hs3 : wo.heap.size < w2.heap.size := Nat.lt_of_lt_of_le hsz2 hE3.size
          have hE4 := Lib.hid (Ext.trans' hE2 hE3)
          have HA2 := Lib.hid hA2
          have Hq3 := Lib.hid hq3
          have Hs3 := Lib.hid hsf3
          have a0 := cell_of_row w2 wo.heap.size 0 _ _ _ hA2
          have a1 := cell_of_row w2 wo.heap.size 1 _ _ _ hA2
          have a2 := cell_of_row w2 wo.heap.size 2 _ _ _ hA2
          have k0 := frozen_of_row w2 wo.heap.size 0 _ _ hA2
          have k1 := frozen_of_row w2 wo.heap.size 1 _ _ hA2
          have k2 := frozen_of_row w2 wo.heap.size 2 _ _ hA2
          simp at a0 a1 a2
          have hcase : j = 0 ∨ j = 1 ∨ j = 2 := by omega
          clear hT g3 hgood hA hA2 hE2 hE3 hq3 hsf3 HG1
          rcases hcase with rfl | rfl | rfl
          · go_wp2_with fail
            go_roundw
            case rel =>
              refine ⟨1, q3, x, x1, x2, r, by omega, by go_num, by rfl, hq3n, ⟨Hq3.out, Hs3.out⟩, by omega, b1, b2, HN.out.1 (by trivial), (hE4.out).setCell (p := ⟨wo.heap.size, 0, none⟩) (Nat.le_refl _) _, by simpa [World.setCell] using hs3, ?_⟩
              have := HA2.out
              simp [World.setCell, Array.getElem?_modify, this]
            case measure => simp [intOf]
          · go_wp2_with fail
            go_roundw
            case rel =>
              refine ⟨2, q3, x0, x, x2, r, by omega, by go_num, by rfl, hq3n, ⟨Hq3.out, Hs3.out⟩, b0, by omega, b2, HN.out.2.1 (by trivial), (hE4.out).setCell (p := ⟨wo.heap.size, 1, none⟩) (Nat.le_refl _) _, by simpa [World.setCell] using hs3, ?_⟩
              have := HA2.out
              simp [World.setCell, Array.getElem?_modify, this]
            case measure => simp [intOf]
          · go_wp2_with fail
            go_roundw
            case rel =>
              refine ⟨3, q3, x0, x1, x, r, by omega, by go_num, by rfl, hq3n, ⟨Hq3.out, Hs3.out⟩, b0, b1, by omega, HN.out.2.2 (by trivial), (hE4.out).setCell (p := ⟨wo.heap.size, 2, none⟩) (Nat.le_refl _) _, by simpa [World.setCell] using hs3, ?_⟩
              have := HA2.out
              simp [World.setCell, Array.getElem?_modify, this]
            case measure => simp [intOf]
        · have hj3' : j = 3 := by omega
          have Hj3 := Lib.hid hj3'
          obtain ⟨u3, v3, T1, T2, T3⟩ := hT.out.z3 hj3'
          clear hj3'
          have HP : Hid (gtPost n l t = if x2 < n then (gtAts (x2 + 1) (-1) t2).map (fun q => ((l + (1 + (x0 : Int)), (x1 : Int) + 1, q.1), q.2)) else none) := by
            show _ = _
            rw [gtPost, T1]; simp only []; rw [T2]; simp only []; rw [T3]
          have a0 := cell_of_row wr wo.heap.size 0 _ _ _ hA
          have a1 := cell_of_row wr wo.heap.size 1 _ _ _ hA
          have a2 := cell_of_row wr wo.heap.size 2 _ _ _ hA
          simp at a0 a1 a2
          have HA := Lib.hid hA
          clear hT T1 T2 T3 hA
          by_cases hx2 : x2 < n
          · have e1 : decide ((x2 : Int) ≥ (n : Int)) = false := by rw [decide_eq_false_iff_not]; omega
            have e1' : decide ((n : Int) ≤ (x2 : Int)) = false := e1
            have e1n : decide (n ≤ x2) = false := by rw [decide_eq_false_iff_not]; omega
            have e1m : (n ≤ x2) = False := by rw [eq_iff_iff]; exact ⟨fun h => by omega, False.elim⟩
            have HR0 : Hid (RS wo wr.heap.size (l + (1 + (x0 : Int))) ((x1 : Int) + 1) (.cells #[.int .i64 x0, .int .i64 x1, .int .i64 x2] 69 (0, 0)) (wr.alloc (.cells #[.int .i64 (l + (1 + (x0 : Int))), .int .i64 ((x1 : Int) + 1), .slice none 0 0] 24)) (.slice none 0 0) []) :=
              ⟨hE2.alloc (Nat.le_of_lt hsz2) _, ⟨hsz2, by simp⟩, (heap_alloc_old _ _ hsz2).trans HA.out, heap_alloc_new _ _, World.ownsRow_nil _ _ _ _⟩
            obtain ⟨wp, rfl⟩ : ∃ wp : World, wp = wr := ⟨_, rfl⟩
            have Hx2 := Lib.hid hx2
            go_wp2_with fail
            clear e1 e1' e1n e1m
            go_loopw [5, 14, 15] (fun at_ pl i wr => ∃ (j q3 : Nat) (a : Int) (ats : List Int) (ao : Option Addr) (cap : Nat) (t3 : List UInt8), j ≤ x2 + 1 ∧ i = .int .i64 j ∧ at_ = .int .i64 q3 ∧ q3 ≤ n ∧ Hid (q3 = n - t3.length ∧ t3 <:+ s) ∧ pl = .int .i64 a ∧ -1 ≤ a ∧ a ≤ (j : Int) * 1048577 ∧ Hid (ats.length = j) ∧ RS wo wp.heap.size (l + (1 + (x0 : Int))) ((x1 : Int) + 1) (.cells #[.int .i64 x0, .int .i64 x1, .int .i64 x2] 69 (0, 0)) wr (.slice ao ats.length cap) ats ∧ Hid (gtAts (x2 + 1) (-1) t2 = (gtAts (x2 + 1 - j) a t3).map fun q => (ats ++ q.1, q.2))) (fun _ _ i _ => x2 + 1 - (intOf i).toNat)
            case atStart => exact ⟨0, q2, -1, [], none, 0, t2, by omega, rfl, rfl, hq2, hqs2, rfl, by omega, by omega, rfl, HR0.out, by simp [Hid]⟩
            case round =>
              obtain ⟨j, q3, a, ats, ao9, cap9, t3, hj9, rfl, rfl, hq3, hqs3, rfl, ha1, ha2, hal, hRS, hg9⟩ := hrel
              obtain ⟨y0, y1, y2, _, _, _⟩ := cells_of3 (row := l + (1 + (x0 : Int))) (len := (x1 : Int) + 1) hRS.h5
              have b0' := cell_of_row wr wo.heap.size 0 _ _ _ hRS.hA
              have b1' := cell_of_row wr wo.heap.size 1 _ _ _ hRS.hA
              have b2' := cell_of_row wr wo.heap.size 2 _ _ _ hRS.hA
              simp at b0' b1' b2'
              by_cases hjx : j < x2 + 1
              · have HG2 := Lib.hid (HG.out wr q3 t3 (Ext.trans' hE hRS.ext) hqs3.out.2 hqs3.out.1)
                have dj : decide ((j : Int) ≤ (x2 : Int)) = true := by rw [decide_eq_true_iff]; omega
                obtain ⟨f, hf⟩ : ∃ f, x2 + 1 - j = f + 1 := ⟨x2 - j, by omega⟩
                have hg10 := hg9.out
                rw [hf, gtAts_succ f a t3] at hg10
                have HRS := Lib.hid hRS
                have Hf := Lib.hid hf
                clear hRS hf hg9
                go_wp2_with fail
                refine HG2.out.mono ?_
                rintro e w2 ⟨⟨x, r, q4, g3, hsf3, hq4, hq4n, rfl⟩ | ⟨g3, rfl⟩, hE3⟩
                rotate_left
                · rw [g3] at hg10
                  have hfail := HFail.out (by rw [HP.out, if_pos Hx2.out, hg10]; rfl)
                  have Hfl := Lib.hid hfail
                  have HE := Lib.hid (Ext.trans' hE (Ext.trans' HRS.out.ext hE3))
                  clear hg10 g3 hfail
                  go_wp2_with fail
                  go_ret2
                  exact ⟨HE.out, .inr ⟨Hfl.out, rfl⟩⟩
                rw [g3] at hg10
                simp only [] at hg10
                have d4 : decide ((q4 : Int) < 0) = false := by rw [decide_eq_false_iff_not]; omega
                by_cases hxb : x ≤ 1048576
                · rw [if_pos hxb] at hg10
                  have d5 : decide ((x : Int) > 1048576) = false := by rw [decide_eq_false_iff_not]; omega
                  have d5' : decide (1048576 < (x : Int)) = false := d5
                  have R2 := HRS.out.mono hE3
                  obtain ⟨z0, z1, z2, k0, k1, k2⟩ := cells_of3 (row := l + (1 + (x0 : Int))) (len := (x1 : Int) + 1) R2.h5
                  have hr1 := R2.own.alloc (.cells #[.int .i64 (a + (1 + (x : Int)))] 3)
                  have hcn : CellsAt (w2.alloc (.cells #[.int .i64 (a + (1 + (x : Int)))] 3)) (some ⟨w2.heap.size, 0, none⟩) (ints [a + (1 + (x : Int))]) := cells_new (heap_alloc_new _ _)
                  have hb3 : wp.heap.size + 1 ≤ (w2.alloc (.cells #[.int .i64 (a + (1 + (x : Int)))] 3)).heap.size := by have := R2.ord; simp; omega
                  have hB := Lib.hid (show ats.length + 1 ≤ maxLen ∧ (ats.length + 1) * 8 ≤ 140737488355328 by have := hal.out; unfold maxLen; omega)
                  have HK : Hid (∀ (w3 : World) (v3 : Value), Owns (w2.alloc (.cells #[.int .i64 (a + (1 + (x : Int)))] 3)) w3 (.slice ao9 ats.length cap9) v3 → PSCells w3 wp.heap.size (l + (1 + (x0 : Int))) ((x1 : Int) + 1) (.slice ao9 ats.length cap9)) := fun w3 v3 o3 => cells_of3 (((R2.below o3).block _ (by omega)).trans R2.h5)
                  have hR2 := Lib.hid R2
                  have Hg := Lib.hid hg10
                  have Hq4 := Lib.hid hq4
                  have Hs4 := Lib.hid hsf3
                  clear R2 hg10 g3 hq4 hsf3 HRS
                  go_wp2_with (at_builtin; refine wpList_append_cells rfl (.tmp 94) (.tmp 96) rfl Try.underlying22 infoInt rfl Nat.one_pos rfl hr1 (some ⟨w2.heap.size, 0, none⟩) 1 1 (ints [a + (1 + (x : Int))]) rfl rfl hcn (ints_one _) hB.out.1 hB.out.2 hb3 ?_; intro v3 w5 hown3 o3; obtain ⟨d0, d1, d2, e0, e1, e2⟩ := HK.out _ _ o3; obtain ⟨ao5, cap5, rfl, _, _⟩ := owns_form hown3)
                  go_roundw
                  case rel =>
                    refine ⟨j + 1, q4, _, ats ++ [a + (1 + (x : Int))], ao5, cap5, r, by omega, by go_num, by rfl, hq4n, ⟨Hq4.out, Hs4.out⟩, rfl, by omega, by push_cast; omega, by show _ = _; simp [hal.out], ?_, ?_⟩
                    · have := hR2.out.append o3 hown3
                      simpa using this
                    · show _ = _
                      rw [Hg.out, show x2 + 1 - (j + 1) = f by have := Hf.out; omega, Option.map_map]
                      congr 1
                      funext q; simp
                  case measure => simp [intOf]; omega
                · rw [if_neg hxb] at hg10
                  have d5 : decide ((x : Int) > 1048576) = true := by rw [decide_eq_true_iff]; omega
                  have d5' : decide (1048576 < (x : Int)) = true := d5
                  have hfail := HFail.out (by rw [HP.out, if_pos Hx2.out, hg10]; rfl)
                  have Hfl := Lib.hid hfail
                  have HE := Lib.hid (Ext.trans' hE (Ext.trans' HRS.out.ext hE3))
                  clear hg10 g3 hfail
                  go_wp2_with fail
                  go_ret2
                  exact ⟨HE.out, .inr ⟨Hfl.out, rfl⟩⟩
              · obtain rfl : j = x2 + 1 := by omega
                have hgd : gtPost n l t = some ((l + (1 + (x0 : Int)), (x1 : Int) + 1, ats), t3) := by
                  rw [HP.out, if_pos Hx2.out, hg9.out, Nat.sub_self, gtAts]; simp
                have hOL : ∀ b, (Value.slice ao2 qs.length cap2).ownBlock = some b → b < wo.heap.size := fun b e => (Hr.out.lt b e).2
                have hrw : wr.ownsRow w.heap.size 24 3 (.slice ao2 qs.length cap2) qs.length (flat3 qs) := owns_ext Hr.out hRS.ext
                have hr1 := hrw.alloc (.cells #[.int .i64 (l + (1 + (x0 : Int))), .int .i64 ((x1 : Int) + 1), .slice ao9 ats.length cap9] 24)
                have hcn : CellsAt (wr.alloc (.cells #[.int .i64 (l + (1 + (x0 : Int))), .int .i64 ((x1 : Int) + 1), .slice ao9 ats.length cap9] 24)) (some ⟨wr.heap.size, 0, none⟩) (flat3 [⟨l + (1 + (x0 : Int)), (x1 : Int) + 1, ao9, cap9, ats⟩]) := cells_new3 (heap_alloc_new _ _)
                have hwo : w.heap.size ≤ wo.heap.size := hE.size
                have hb3 : w.heap.size ≤ (wr.alloc (.cells #[.int .i64 (l + (1 + (x0 : Int))), .int .i64 ((x1 : Int) + 1), .slice ao9 ats.length cap9] 24)).heap.size := by have := hRS.ord; simp; omega
                have hB := Lib.hid (show qs.length + 1 ≤ maxLen ∧ (qs.length + 1) * 40 ≤ 140737488355328 by have := hql.out; unfold maxLen; omega)
                have hI : Inner (wr.alloc (.cells #[.int .i64 (l + (1 + (x0 : Int))), .int .i64 ((x1 : Int) + 1), .slice ao9 ats.length cap9] 24)) (.slice ao2 qs.length cap2) (qs ++ [⟨l + (1 + (x0 : Int)), (x1 : Int) + 1, ao9, cap9, ats⟩]) := by
                  refine Inner.ext (w := wr) ?_ ((Below.refl _ _).alloc (Nat.le_refl _) _)
                  intro q hq
                  rcases List.mem_append.1 hq with h1 | h1
                  · exact (Hi.out.ext hRS.ext) q h1
                  · simp only [List.mem_singleton] at h1; subst h1
                    obtain ⟨a7, c7, e7, hc7, hb7⟩ := owns_form hRS.own
                    simp only [Value.slice.injEq, true_and] at e7
                    obtain ⟨rfl, rfl⟩ := e7
                    exact ⟨hc7, fun b off e => ⟨fun e2 => by have h1 := (hb7 b off e).1; have h2 := hOL b e2; have h3 := hRS.ord; omega, (hb7 b off e).2⟩⟩
                have HI := Lib.hid hI
                have HRS := Lib.hid hRS
                have Hgd := Lib.hid hgd
                have HOL := Lib.hid hOL
                have dj : decide ((((x2 + 1 : Nat) : Int)) ≤ (x2 : Int)) = false := by rw [decide_eq_false_iff_not]; omega
                have dj' : decide (x2 + 1 ≤ x2) = false := by rw [decide_eq_false_iff_not]; omega
                have dj2 : decide (((x2 : Int) + 1) ≤ (x2 : Int)) = false := by rw [decide_eq_false_iff_not]; omega
                clear hI hRS hgd hg9 hOL hrw
                go_wp2_with (at_builtin; refine wpList_append_cells rfl (.tmp 100) (.tmp 102) rfl Try.underlying34 infoRP rfl (by omega) rfl hr1 (some ⟨wr.heap.size, 0, none⟩) 1 1 (flat3 [⟨l + (1 + (x0 : Int)), (x1 : Int) + 1, ao9, cap9, ats⟩]) rfl rfl hcn (flat3_one _) hB.out.1 hB.out.2 hb3 ?_; intro v3 w5 hown3 o3; obtain ⟨ao5, cap5, rfl, _, _⟩ := owns_form hown3)
                go_roundw
                case rel =>
                  refine ⟨k + 1, q3, l + (1 + (x0 : Int)), qs ++ [⟨l + (1 + (x0 : Int)), (x1 : Int) + 1, ao9, cap9, ats⟩], ao5, cap5, t3, by omega, by go_num, by rfl, by rfl, hq3, hqs3, by omega, by push_cast; omega, by show _ = _; simp [hql.out], by simp, ?_, ?_, ?_, ?_, ?_⟩
                  · have e : flat3 (qs ++ [⟨l + (1 + (x0 : Int)), (x1 : Int) + 1, ao9, cap9, ats⟩]) = flat3 qs ++ flat3 [⟨l + (1 + (x0 : Int)), (x1 : Int) + 1, ao9, cap9, ats⟩] := by simp [flat3]
                    rw [e, List.length_append]; exact hown3
                  · exact HI.out.owns o3
                  · exact ((Ext.trans' hE HRS.out.ext).trans ((Below.refl _ _).alloc (by have := HRS.out.ord; omega) _)).trans (o3.below hb3 fun q hq' => (hr1.lt q hq').1)
                  · show _ = _
                    obtain ⟨f, hf⟩ : ∃ f, cnt - k = f + 1 := ⟨cnt - k - 1, by omega⟩
                    rw [hg.out, hf, gtAll, Hgd.out, show cnt - (k + 1) = f by omega]
                    simp only []
                    rw [Option.map_map]
                    congr 1
                    funext q; simp [PV.norm, postOf]
                  · intro p hp
                    rcases List.mem_append.1 hp with h | h
                    · exact hats.out p h
                    · simp only [List.mem_singleton] at h; subst h; show ats.length ≤ _; have := hal.out; omega
                case measure => simp [intOf]; omega
          · have e1 : decide ((x2 : Int) ≥ (n : Int)) = true := by rw [decide_eq_true_iff]; omega
            have hf := HFail.out (by rw [HP.out, if_neg hx2])
            have Hf := Lib.hid hf
            clear hf
            go_wp2_with fail
            go_ret2
            exact ⟨Ext.trans' hE (hE2.alloc (Nat.le_of_lt hsz2) _), .inr ⟨Hf.out, rfl⟩⟩
    · obtain rfl : k = cnt := by omega
      obtain ⟨ao7, c7, e7, hc7, hb7⟩ := owns_form hr
      simp only [Value.slice.injEq, true_and] at e7
      obtain ⟨rfl, rfl⟩ := e7
      have hP : PostsAt wr ao2 qs := posts_of_cells hc7 (fun p hp => (hi p hp).1)
      have hG : gtList s = if rightB qs = true ∧ packB qs = s then some (qs.map PV.norm) else none := by
        rw [HL.out, hg.out, Nat.sub_self, gtAll]
        simp [rightB_norm, packB_norm]
      have HPk := Lib.hid (rPack_any ao2 qs.length cap2 qs wr rfl (by have := hql.out; omega) hP hats.out)
      have HG2 := Lib.hid hG
      have HP := Lib.hid hP
      clear hr hi hc7 hb7 hP hG hg
      go_wp2_with fail
      refine HPk.out.mono ?_
      rintro e w2 ⟨a2, c2, rfl, k2, E2⟩
      cases hrb : rightB qs with
      | false =>
        have e1 : errR qs = 5 := by rw [errR, hrb]; rfl
        have hf : gtList s = none := by rw [HG2.out, hrb, if_neg (by simp)]
        have Hf := Lib.hid hf
        rw [e1]
        clear hf e1 k2 HG2 hrb
        go_wp2_with fail
        go_ret2
        exact ⟨Ext.trans' hE E2, .inr ⟨Hf.out, rfl⟩⟩
      | true =>
        have e1 : errR qs = 0 := by rw [errR, hrb]; rfl
        have e2 : packR qs = packB qs := by rw [packR, hrb]; rfl
        have hcv1 : (convert 36 9 (.slice a2 (packR qs).length c2)).run Try.prog w2 = .ok (.string ⟨(packR qs).toArray⟩) w2 :=
          run_convert_cells w2 36 9 5 Try.underlying36 Try.underlying5 Try.underlying9 a2 _ c2 (packR qs) rfl k2
        have hcv2 : (convert 36 9 (.slice ao n cap)).run Try.prog w2 = .ok (.string ⟨s.toArray⟩) w2 :=
          run_convert_cells w2 36 9 5 Try.underlying36 Try.underlying5 Try.underlying9 ao n cap s Hs.out (HC.out.ext (Ext.trans' hE E2))
        rw [e1]
        rw [e2] at hcv1 ⊢
        by_cases hps : packB qs = s
        · have hf : gtList s = some (qs.map PV.norm) := by rw [HG2.out, if_pos ⟨hrb, hps⟩]
          have Hf := Lib.hid hf
          rw [hps] at hcv1 ⊢
          have Hr := Lib.hid hrb
          clear hf e1 e2 k2 HG2 hps hrb
          go_wp2_with fail
          go_ret2
          exact ⟨Ext.trans' hE E2, .inl ⟨_, qs, ao2, cap2, Hf.out, rfl, HP.out.ext E2, rfl, hats.out⟩⟩
        · have hf : gtList s = none := by rw [HG2.out, if_neg (fun h => hps h.2)]
          have Hf := Lib.hid hf
          obtain ⟨X, hX⟩ : ∃ X : ByteArray, X = ⟨(packB qs).toArray⟩ := ⟨_, rfl⟩
          obtain ⟨Y, hY⟩ : ∃ Y : ByteArray, Y = ⟨s.toArray⟩ := ⟨_, rfl⟩
          have hXY : (X.toList == Y.toList) = false := by
            rw [beq_eq_false_iff_ne, hX, hY, ByteArray.toList_mk, ByteArray.toList_mk]
            exact hps
          rw [← hX] at hcv1
          rw [← hY] at hcv2
          clear hf e1 e2 k2 HG2 hps hrb hX hY
          go_wp2_with fail
          go_ret2
          exact ⟨Ext.trans' hE E2, .inr ⟨Hf.out, rfl⟩⟩
end Go.Proofs.Ytdlijjmjfepklaa
