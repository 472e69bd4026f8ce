/-
  The walks of layer 18: the document's Follow.
-/
import Derived.Test.YtdlijjmjfepklaaFollow
namespace Go.Proofs.Ytdlijjmjfepklaa
open Go.RowKit

set_option maxRecDepth 100000 in
set_option maxHeartbeats 2000000 in
theorem refFollow_not (p q : PV) (by_ : Int) (w : World) (hp : CellsAt w p.ao (ints p.ats)) (hq : CellsAt w q.ao (ints q.ats)) (hpl : p.ats.length ≤ 9223372036854775807) (hql : q.ats.length ≤ 9223372036854775807) (hno : followOk p q by_ = false) :
    Calls Try.prog 12 #[p.val, q.val, .int .i64 by_] w fun e w' => e = .returned (.slice none 0 0) ∧ Ext w w' := by
  obtain ⟨pr, pl, pa, pc, px⟩ := p
  obtain ⟨qr, ql, qa, qc, qx⟩ := q
  simp only [PV.val, followOk] at *
  obtain ⟨W, hW⟩ : ∃ W, W = (w.alloc (.cells #[.int .i64 pr, .int .i64 pl, .slice pa px.length pc] 24)).alloc (.cells #[.int .i64 qr, .int .i64 ql, .slice qa qx.length qc] 24) := ⟨_, rfl⟩
  have hE : Ext w W := by rw [hW]; exact (by repeat (first | (with_reducible exact Below.refl _ _) | (with_reducible assumption) | (with_reducible refine bdrewN ?_ _) | (with_reducible refine Below.drew ?_) | (with_reducible refine Below.alloc ?_ (by simp) _) | (with_reducible refine Below.setCell ?_ (by simp) _)))
  have C1 := Lib.hid (one_any pr pl pa px.length pc px W rfl hpl (hp.ext hE))
  have q0 : W.cell? ⟨w.heap.size + 1, 0, none⟩ = some (.int .i64 qr) := by rw [hW]; go_simp
  have q1 : W.cell? ⟨w.heap.size + 1, 1, none⟩ = some (.int .i64 ql) := by rw [hW]; go_simp
  have q2 : W.cell? ⟨w.heap.size + 1, 2, none⟩ = some (.slice qa qx.length qc) := by rw [hW]; go_simp
  have p0 : W.cell? ⟨w.heap.size, 0, none⟩ = some (.int .i64 pr) := by rw [hW]; go_simp
  have Hno := Lib.hid hno
  clear hno
  cases h1 : postB pr pl px with
  | false =>
    rw [h1] at C1
    subst hW
    clear q0 q1 q2 p0
    go_enter Try.func12, Try.ntmps12
    go_wp2_with fail
    refine C1.out.mono ?_
    rintro e w1 ⟨rfl, he1⟩
    go_wp2
    go_ret
    exact ⟨rfl, Ext.trans' hE he1⟩
  | true =>
    rw [h1] at C1
    have C2 : ∀ w1, Ext W w1 → Calls Try.prog 14 #[.agg #[.int .i64 qr, .int .i64 ql, .slice qa qx.length qc]] w1 fun e w' => e = .returned (.bool (postB qr ql qx)) ∧ Ext w1 w' := fun w1 h => one_any qr ql qa qx.length qc qx w1 rfl hql ((hq.ext hE).ext h)
    have HC2 := Lib.hid C2
    have HW := Lib.hid hW
    clear C2
    cases h2 : postB qr ql qx with
    | false =>
      rw [h2] at HC2
      clear hW
      go_enter Try.func12, Try.ntmps12
      go_wp2_with fail
      rw [← HW.out]
      refine C1.out.mono ?_
      rintro e w1 ⟨rfl, he1⟩
      have r0 := keeps he1 q0
      have r1 := keeps he1 q1
      have r2 := keeps he1 q2
      go_wp2_with fail
      refine (HC2.out w1 he1).mono ?_
      rintro e w2 ⟨rfl, he2⟩
      go_wp2
      go_ret
      exact ⟨rfl, Ext.trans' hE (Ext.trans' he1 he2)⟩
    | true =>
      rw [h2] at HC2
      clear hW
      have h3 : pr = qr → ¬ by_ < 1 → by_ > 1048576 := fun a b => by have := Hno.out; rw [h1, h2] at this; simp [a, b] at this; omega
      by_cases h4 : pr = qr
      · have h4' : (pr != qr) = false := by simpa using h4
        have H3 := Lib.hid (h3 h4)
        have H4 := Lib.hid h4
        clear h3 h4
        by_cases h5 : by_ < 1
        all_goals
          try have h6 := H3.out h5
          go_enter Try.func12, Try.ntmps12
          go_wp2_with fail
          rw [← HW.out]
          refine C1.out.mono ?_
          rintro e w1 ⟨rfl, he1⟩
          have r0 := keeps he1 q0
          have r1 := keeps he1 q1
          have r2 := keeps he1 q2
          go_wp2_with fail
          refine (HC2.out w1 he1).mono ?_
          rintro e w2 ⟨rfl, he2⟩
          have s0 := keeps he2 r0
          have s1 := keeps he2 (keeps he1 p0)
          go_wp2
          go_ret
          exact ⟨rfl, Ext.trans' hE (Ext.trans' he1 he2)⟩
      · have h4' : (pr != qr) = true := by simpa using h4
        clear h3 h4
        go_enter Try.func12, Try.ntmps12
        go_wp2_with fail
        rw [← HW.out]
        refine C1.out.mono ?_
        rintro e w1 ⟨rfl, he1⟩
        have r0 := keeps he1 q0
        have r1 := keeps he1 q1
        have r2 := keeps he1 q2
        go_wp2_with fail
        refine (HC2.out w1 he1).mono ?_
        rintro e w2 ⟨rfl, he2⟩
        have s0 := keeps he2 r0
        have s1 := keeps he2 (keeps he1 p0)
        go_wp2
        go_ret
        exact ⟨rfl, Ext.trans' hE (Ext.trans' he1 he2)⟩


def hitsOf (qx : List Int) (m x : Int) : List Int := (qx.filter fun y => decide (y = m)).map fun _ => x
def refFollowL (px qx : List Int) (by_ : Int) : List Int := px.flatMap fun n => hitsOf qx (n + by_) n

theorem hits_good {last len : Int} {qx : List Int} (h : goodFrom last len qx = true) (m x : Int) : hitsOf qx m x = if m ∈ qx then [x] else [] := by
  induction qx generalizing last with
  | nil => rfl
  | cons y r ih =>
    simp only [goodFrom, Bool.and_eq_true, Bool.not_eq_true', decide_eq_false_iff_not] at h
    have ih := ih h.2
    have hm := good_mem h.2
    unfold hitsOf at *
    by_cases e : y = m
    · subst e
      have hn : ¬ y ∈ r := fun hy => by have := (hm y hy).1; omega
      rw [if_neg hn] at ih
      simp [ih]
    · have e2 : ¬ m = y := fun h => e h.symm
      simp only [List.filter_cons, e, decide_false, Bool.false_eq_true, if_false, List.mem_cons, e2, false_or]
      exact ih

theorem refFollow_eq {len : Int} {px qx : List Int} (h : goodFrom (-1) len qx = true) (by_ : Int) : refFollowL px qx by_ = px.filter fun n => decide (n + by_ ∈ qx) := by
  induction px with
  | nil => rfl
  | cons y r ih =>
    unfold refFollowL at *
    rw [List.flatMap_cons, ih, hits_good h, List.filter_cons]
    by_cases e : y + by_ ∈ qx <;> simp [e]

theorem hits_le (qx : List Int) (m x : Int) : (hitsOf qx m x).length ≤ qx.length := by
  unfold hitsOf
  rw [List.length_map]
  exact List.length_filter_le _ _
theorem refFollow_le (px qx : List Int) (by_ : Int) : (refFollowL px qx by_).length ≤ px.length * qx.length := by
  induction px with
  | nil => simp [refFollowL]
  | cons y r ih =>
    unfold refFollowL at *
    rw [List.flatMap_cons, List.length_append, List.length_cons, Nat.add_mul]
    have := hits_le qx (y + by_) y
    omega

set_option maxRecDepth 100000 in
set_option maxHeartbeats 2000000 in
theorem refFollow_ok (p q : PV) (by_ : Int) (w : World) (hp : CellsAt w p.ao (ints p.ats)) (hq : CellsAt w q.ao (ints q.ats)) (hpl : p.ats.length ≤ 1000000) (hql : q.ats.length ≤ 1000000) (hok : followOk p q by_ = true) :
    Calls Try.prog 12 #[p.val, q.val, .int .i64 by_] w fun e w' => ∃ v', e = .returned v' ∧ w'.ownsRow w.heap.size 3 1 v' (followB p q by_).length (ints (followB p q by_)) ∧ Ext w w' := by
  have HF0 : followB p q by_ = p.ats.filter fun n => decide (n + by_ ∈ q.ats) := by simp [followB, hok]
  obtain ⟨pr, pl, pa, pc, px⟩ := p
  obtain ⟨qr, ql, qa, qc, qx⟩ := q
  simp only [PV.val, followOk, Bool.and_eq_true, Bool.not_eq_true', decide_eq_false_iff_not, bne_eq_false_iff_eq] at *
  obtain ⟨⟨⟨⟨h1, h2⟩, h3⟩, h4⟩, h5⟩ := hok
  obtain rfl : pr = qr := h3
  have F1 := postB_fact (p := ⟨pr, pl, pa, pc, px⟩) h1
  have F2 := postB_fact (p := ⟨pr, ql, qa, qc, qx⟩) h2
  rw [← refFollow_eq F2.good] at HF0
  have HF := Lib.hid HF0
  have G1 := Lib.hid (good_mem F1.good)
  have l1 : pl ≤ 1048576 := F1.len1
  obtain ⟨W, hW⟩ : ∃ W, W = (w.alloc (.cells #[.int .i64 pr, .int .i64 pl, .slice pa px.length pc] 24)).alloc (.cells #[.int .i64 pr, .int .i64 ql, .slice qa qx.length qc] 24) := ⟨_, rfl⟩
  have hE : Ext w W := by rw [hW]; exact (by repeat (first | (with_reducible exact Below.refl _ _) | (with_reducible assumption) | (with_reducible refine bdrewN ?_ _) | (with_reducible refine Below.drew ?_) | (with_reducible refine Below.alloc ?_ (by simp) _) | (with_reducible refine Below.setCell ?_ (by simp) _)))
  have C1 := one_any pr pl pa px.length pc px W rfl (by omega) (hp.ext hE)
  have C2 : ∀ w1, Ext W w1 → Calls Try.prog 14 #[.agg #[.int .i64 pr, .int .i64 ql, .slice qa qx.length qc]] w1 fun e w' => e = .returned (.bool (postB pr ql qx)) ∧ Ext w1 w' := fun w1 h => one_any pr ql qa qx.length qc qx w1 rfl (by omega) ((hq.ext hE).ext h)
  rw [h1] at C1
  rw [h2] at C2
  have HC1 := Lib.hid C1
  have HC2 := Lib.hid C2
  have q0 : W.cell? ⟨w.heap.size + 1, 0, none⟩ = some (.int .i64 pr) := by rw [hW]; go_simp
  have q1 : W.cell? ⟨w.heap.size + 1, 1, none⟩ = some (.int .i64 ql) := by rw [hW]; go_simp
  have q2 : W.cell? ⟨w.heap.size + 1, 2, none⟩ = some (.slice qa qx.length qc) := by rw [hW]; go_simp
  have p0 : W.cell? ⟨w.heap.size, 0, none⟩ = some (.int .i64 pr) := by rw [hW]; go_simp
  have p2 : W.cell? ⟨w.heap.size, 2, none⟩ = some (.slice pa px.length pc) := by rw [hW]; go_simp
  have HW := Lib.hid hW
  clear hW C1 C2 h1 h2 F1 F2 HF0
  go_enter Try.func12, Try.ntmps12
  go_wp2_with fail
  rw [← HW.out]
  refine HC1.out.mono ?_
  rintro e w1 ⟨rfl, he1⟩
  have r0 := keeps he1 q0
  have r1 := keeps he1 q1
  have r2 := keeps he1 q2
  go_wp2_with fail
  refine (HC2.out w1 he1).mono ?_
  rintro e w2 ⟨rfl, he2⟩
  have s0 := keeps he2 r0
  have s1 := keeps he2 (keeps he1 p0)
  have s2 := keeps he2 r2
  have s3 := keeps he2 (keeps he1 p2)
  have heW : Ext w w2 := Ext.trans' hE (Ext.trans' he1 he2)
  have HqA : Hid (∀ W', Ext w2 W' → CellsAt W' qa (ints qx)) := fun W' h => (hq.ext heW).ext h
  have HpA : Hid (∀ W', Ext w2 W' → CellsAt W' pa (ints px)) := fun W' h => (hp.ext heW).ext h
  clear q0 q1 q2 p0 p2 r0 r1 r2 hp hq hE
  go_wp2_with fail
  go_loopw [7, 8] (fun o i wr => ∃ k : Nat, k ≤ px.length ∧ i = .int .i64 k ∧ wr.ownsRow w2.heap.size 3 1 o (refFollowL (px.take k) qx by_).length (ints (refFollowL (px.take k) qx by_)) ∧ Ext w2 wr) (fun _ i _ => px.length - (intOf i).toNat)
  case atStart => exact ⟨0, Nat.zero_le _, rfl, World.ownsRow_nil _ _ _ _, Below.refl _ _⟩
  case round =>
    obtain ⟨k, hk, rfl, hr, he3⟩ := hrel
    have t2 := keeps he3 s2
    have t3 := keeps he3 s3
    by_cases hlt : k < px.length
    · obtain ⟨x, hx⟩ := get_of_lt (l := px) rfl hlt
      obtain ⟨b, off, rfl, _, c1⟩ := HpA.out _ he3 k _ (ints_get hx)
      have hxb := G1.out x (List.mem_of_getElem? hx)
      have hl0 := refFollow_le (px.take k) qx by_
      have hT := take_of_get hx
      have hT2 : refFollowL (px.take (k + 1)) qx by_ = refFollowL (px.take k) qx by_ ++ hitsOf qx (x + by_) x := by rw [hT]; simp [refFollowL]
      have HT := Lib.hid hT2
      obtain ⟨L, hL⟩ : ∃ L, L = refFollowL (px.take k) qx by_ := ⟨_, rfl⟩
      rw [← hL] at hr hT2 hl0
      have hl1 : L.length ≤ 1000000000000 := by
        have h1 : (px.take k).length ≤ 1000000 := by simp; omega
        have h2 := Nat.mul_le_mul h1 hql
        omega
      have HLL := Lib.hid hL
      have HT2 := Lib.hid hT2
      have HX := Lib.hid hx
      clear hT hT2 hx hL hl0
      go_wp2_with fail
      obtain ⟨wo, rfl⟩ : ∃ wo : World, wo = wr := ⟨_, rfl⟩
      go_loopw [7, 9] (fun o i wr => ∃ j : Nat, j ≤ qx.length ∧ i = .int .i64 j ∧ wr.ownsRow w2.heap.size 3 1 o (L ++ hitsOf (qx.take j) (x + by_) x).length (ints (L ++ hitsOf (qx.take j) (x + by_) x)) ∧ Ext w2 wr) (fun _ i _ => qx.length - (intOf i).toNat)
      case atStart => exact ⟨0, Nat.zero_le _, rfl, by simpa [hitsOf] using hr, he3⟩
      case round =>
        obtain ⟨j, hj, rfl, hr2, he4⟩ := hrel
        have t4 := keeps he4 s2
        have t5 := keeps he4 s3
        by_cases hlt2 : j < qx.length
        · obtain ⟨y, hy⟩ := get_of_lt (l := qx) rfl hlt2
          obtain ⟨b2, off2, rfl, _, c2⟩ := HqA.out _ he4 j _ (ints_get hy)
          obtain ⟨b3, off3, e3, _, c3⟩ := HpA.out _ he4 k _ (ints_get HX.out)
          simp only [Option.some.injEq, Addr.mk.injEq] at e3
          obtain ⟨rfl, rfl, _⟩ := e3
          have hw1 : IntKind.i64.wrap (x + by_) = x + by_ := IntWalk.i64_in _ (by omega)
          have hyT : qx.take (j + 1) = qx.take j ++ [y] := take_of_get hy
          have hl2 := hits_le (qx.take j) (x + by_) x
          have hB := Lib.hid (show (L ++ hitsOf (qx.take j) (x + by_) x).length + 1 ≤ maxLen ∧ ((L ++ hitsOf (qx.take j) (x + by_) x).length + 1) * 8 ≤ 140737488355328 by
            have h3 : (qx.take j).length ≤ 1000000 := by simp; omega
            rw [List.length_append]; unfold maxLen; omega)
          have HyT := Lib.hid hyT
          obtain ⟨ao5, cap5, rfl, _, _⟩ := owns_form hr2
          clear hyT hl2 hy
          by_cases e : y = x + by_
          · have e' : (y == x + by_) = true := by simpa using e
            have He := Lib.hid e
            clear e
            go_wp2_with fail
            go_quiet (fail)
            have hcn : CellsAt ((wr.drewN nq).alloc (.cells #[.int .i64 x] 3)) (some ⟨wr.heap.size, 0, none⟩) (ints [x]) := cells_new (heap_alloc_new (wr.drewN nq) _)
            have hb3 : w2.heap.size ≤ ((wr.drewN nq).alloc (.cells #[.int .i64 x] 3)).heap.size := by simp; have := he4.size; omega
            have hr3 := (show (wr.drewN nq).ownsRow _ _ _ _ _ _ from hr2).alloc (.cells #[.int .i64 x] 3)
            have he5 : Ext w2 ((wr.drewN nq).alloc (.cells #[.int .i64 x] 3)) := (bdrewN he4 nq).alloc (by have := he4.size; simp; omega) _
            go_wp2_with (at_builtin; refine wpList_append_cells rfl (.tmp 61) (.tmp 67) rfl Try.underlying22 infoInt rfl Nat.one_pos rfl hr3 (some ⟨wr.heap.size, 0, none⟩) 1 1 (ints [x]) rfl rfl hcn (ints_one _) hB.out.1 hB.out.2 hb3 ?_; intro v3 w3 hown3 o3)
            go_roundw
            case rel =>
              refine ⟨j + 1, by omega, by go_num, ?_, ?_⟩
              · have e6 : L ++ hitsOf (qx.take (j + 1)) (x + by_) x = (L ++ hitsOf (qx.take j) (x + by_) x) ++ [x] := by
                  rw [HyT.out]; simp [hitsOf, He.out]
                rw [e6, List.length_append]
                simpa [ints] using hown3
              · exact he5.trans (o3.below hb3 fun q hq => (hr3.lt q hq).1)
            case measure => simp [intOf]; omega
          · have e' : (y == x + by_) = false := by simpa using e
            have He := Lib.hid e
            clear e
            go_wp2_with fail
            go_quiet (fail)
            go_wp2
            go_roundw
            case rel =>
              refine ⟨j + 1, by omega, by go_num, ?_, bdrewN he4 _⟩
              have e6 : hitsOf (qx.take (j + 1)) (x + by_) x = hitsOf (qx.take j) (x + by_) x := by
                rw [HyT.out]; simp [hitsOf, He.out]
              rw [e6]
              exact hr2
            case measure => simp [intOf]; omega
        · obtain rfl : j = qx.length := by omega
          rw [List.take_length] at hr2
          go_wp2
          go_roundw
          case rel => exact ⟨k + 1, by omega, by go_num, by rw [HT.out, ← HLL.out]; exact hr2, he4⟩
          case measure => simp [intOf]; omega
    · obtain rfl : k = px.length := by omega
      rw [List.take_length] at hr
      go_wp2
      go_ret
      refine ⟨_, rfl, ?_, Ext.trans' heW he3⟩
      rw [HF.out]
      exact owns_mono hr heW.size
end Go.Proofs.Ytdlijjmjfepklaa
