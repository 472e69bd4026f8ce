/-
  The walks of layer 18: where one word follows another one; rows of integers held against one another.
-/
import Derived.Test.YtdlijjmjfepklaaPack
import Derived.Test.YtdlijjmjfepklaaBlockB
import Derived.Maps.OwnOps
import Derived.Maps.Keyed
import Derived.Maps.Views
namespace Go.Proofs.Ytdlijjmjfepklaa
open Go.RowKit
open Go.Maps (Keyed int_keyed keyOf_int_mk)

set_option maxRecDepth 100000 in
set_option maxHeartbeats 400000 in
theorem ints_any (ao bo : Option Addr) (ca cb : Nat) (w : World) (xs ys : List Int) (la lb : Nat) (hx : xs.length = la) (hy : ys.length = lb) (hla : la ≤ 9223372036854775807) (hlb : lb ≤ 9223372036854775807)
    (hca : CellsAt w ao (ints xs)) (hcb : CellsAt w bo (ints ys)) :
    Calls Try.prog 9 #[.slice ao la ca, .slice bo lb cb] w fun e w' => e = .returned (.bool (xs == ys)) ∧ Ext w w' := by
  by_cases hll : la = lb
  · subst hll
    have h : ((la : Int) != (la : Int)) = false := by simp
    have Hx := Lib.hid hx
    have Hy := Lib.hid hy
    clear hx hy
    go_enter Try.func9, Try.ntmps9
    go_wp2
    go_loopw [4, 5] (fun r i wr => ∃ k n : Nat, k ≤ la ∧ r = .bool false ∧ i = .int .i64 k ∧ wr = w.drewN n ∧ Hid ((xs == ys) = (xs.drop k == ys.drop k))) (fun _ i _ => la - (intOf i).toNat)
    case atStart => exact ⟨0, 0, Nat.zero_le _, rfl, rfl, rfl, rfl⟩
    case round =>
      obtain ⟨k, n, hk, rfl, rfl, rfl, hj⟩ := hrel
      by_cases hlt : k < la
      · obtain ⟨x, hxk⟩ := get_of_lt Hx.out hlt
        obtain ⟨y, hyk⟩ := get_of_lt Hy.out hlt
        obtain ⟨b, off, rfl, _, c1⟩ := hca k _ (ints_get hxk)
        obtain ⟨b', off', rfl, _, c2⟩ := hcb k _ (ints_get hyk)
        have hj2 := hj.out
        rw [drop_of_get hxk, drop_of_get hyk] at hj2
        have Hj := Lib.hid hj2
        clear hj2 hxk hyk
        have hd : decide ((k : Int) < (la : Int)) = true := by simp; omega
        by_cases he : x = y
        · have he' : (x != y) = false := by simpa using he
          have He := Lib.hid he
          clear he
          go_wp2_with fail
          go_quiet (fail)
          go_wp2
          go_roundw
          case rel => exact ⟨k + 1, n + nq, by omega, rfl, by go_num, by simp, Hj.out.trans (by rw [He.out]; simp)⟩
          case measure => simp [intOf]; omega
        · have he' : (x != y) = true := by simpa using he
          have He := Lib.hid he
          clear he
          go_wp2_with fail
          go_quiet (fail)
          go_wp2
          go_ret
          exact ⟨ret_bool (Hj.out.trans (by simp [He.out])).symm, (by repeat (first | (with_reducible exact Below.refl _ _) | (with_reducible assumption) | (with_reducible refine bdrewN ?_ _) | (with_reducible refine Below.drew ?_) | (with_reducible refine Below.alloc ?_ (by simp) _) | (with_reducible refine Below.setCell ?_ (by simp) _)))⟩
      · have hd : decide ((k : Int) < (la : Int)) = false := by simp; omega
        go_wp2
        go_ret
        have e1 : xs.drop k = [] := by have := Hx.out; simp; omega
        have e2 : ys.drop k = [] := by have := Hy.out; simp; omega
        exact ⟨ret_bool (hj.out.trans (by rw [e1, e2]; rfl)).symm, (by repeat (first | (with_reducible exact Below.refl _ _) | (with_reducible assumption) | (with_reducible refine bdrewN ?_ _) | (with_reducible refine Below.drew ?_) | (with_reducible refine Below.alloc ?_ (by simp) _) | (with_reducible refine Below.setCell ?_ (by simp) _)))⟩
  · have h : ((la : Int) != (lb : Int)) = true := by simp; omega
    have Hll := Lib.hid hll
    clear hll
    go_enter Try.func9, Try.ntmps9
    go_wp2
    go_ret
    refine ⟨ret_bool ?_, Below.refl _ _⟩
    have : (xs == ys) = false := by
      have := Hll.out
      apply beq_false_of_ne
      rintro rfl
      omega
    exact this.symm

theorem plainElem_bool_inv {H : Type} {P : Program} {e : TypeId} (he : P.underlying e = some .bool) {v : Value} {z : DataW H × List MemPlace} (h : plainElem P e v = some z) : ∃ a, v = .bool a ∧ z = (.lit (.bool a), []) := by
  unfold plainElem at h
  rw [he] at h
  cases v <;> simp at h
  exact ⟨_, rfl, h.symm⟩

/-- 'm[k]' at elements that are bools. -/
theorem wpList_lookup_own_bool {H : Type} {P : Program} (w : World) {ops : Array Oper} {rest : List Oper} {o : Oper} {a : Act} {Q : Exit → Act → World → Prop}
    (hg : o.guard = none) (m x : Operand) (t : TypeId) (hop : o.op = Op.lookup t m x false)
    (k e : TypeId) (K : Keyed P k) (ht : P.underlying t = some (.map k e)) (he : P.underlying e = some .bool) (hz : (zeroValue e).run P w = .ok (.bool false) w) (b n : Nat) (D : DataW H)
    (hm : a.eval m = .map (some b)) (hown : w.ownsMap P k (plainElem P e) b n D) (key : Value) (kl : Lit) (hx : a.eval x = key) (hkey : keyOf P k key = some kl) (r : Bool) (hr : D.atKey kl (.lit (.bool false)) = .lit (.bool r))
    (hK : wpList P ops Q rest (a.put o.dst (.bool r)) w) :
    wpList P ops Q (o :: rest) a w := by
  refine wpList_plain hg fun K' hK' => ?_
  obtain ⟨v, ps, hrun, hv⟩ := hown.lookup K ht hz (plainElem_bool he false) hkey
  obtain ⟨c, rfl, hc⟩ := plainElem_bool_inv he hv
  simp only [Prod.mk.injEq] at hc
  rw [hr] at hc
  have : r = c := by simpa using hc.1
  subst this
  unfold Oper.wp
  simp [execOp, hop, hm, hx, hrun, Result.andThen]
  exact hK' _ _ hK

def followOk (p q : PV) (by_ : Int) : Bool := postB p.row p.len p.ats && postB q.row q.len q.ats && !(p.row != q.row) && !(decide (by_ < 1)) && !(decide (by_ > 1048576))
def followB (p q : PV) (by_ : Int) : List Int := if followOk p q by_ then p.ats.filter fun n => decide (n + by_ ∈ q.ats) else []

set_option maxRecDepth 100000 in
set_option maxHeartbeats 2000000 in
theorem follow_not (p q : PV) (by_ : Int) (w : World) (hp : CellsAt w p.ao (ints p.ats)) (hq : CellsAt w q.ao (ints q.ats)) (hpl : p.ats.length ≤ 9223372036854775807) (hql : q.ats.length ≤ 9223372036854775807) (hno : followOk p q by_ = false) :
    Calls Try.prog 10 #[p.val, q.val, .int .i64 by_] w fun e w' => e = .returned (.slice none 0 0) ∧ Ext w w' := by
  obtain ⟨pr, pl, pa, pc, px⟩ := p
  obtain ⟨qr, ql, qa, qc, qx⟩ := q
  simp only [PV.val, followOk] at *
  obtain ⟨W, hW⟩ : ∃ W, W = (w.alloc (.cells #[.int .i64 pr, .int .i64 pl, .slice pa px.length pc] 27)).alloc (.cells #[.int .i64 qr, .int .i64 ql, .slice qa qx.length qc] 27) := ⟨_, rfl⟩
  have hE : Ext w W := by rw [hW]; exact (by repeat (first | (with_reducible exact Below.refl _ _) | (with_reducible assumption) | (with_reducible refine bdrewN ?_ _) | (with_reducible refine Below.drew ?_) | (with_reducible refine Below.alloc ?_ (by simp) _) | (with_reducible refine Below.setCell ?_ (by simp) _)))
  have C1 := Lib.hid (right_any pr pl pa px.length pc px W rfl hpl (hp.ext hE))
  have q0 : W.cell? ⟨w.heap.size + 1, 0, none⟩ = some (.int .i64 qr) := by rw [hW]; go_simp
  have q1 : W.cell? ⟨w.heap.size + 1, 1, none⟩ = some (.int .i64 ql) := by rw [hW]; go_simp
  have q2 : W.cell? ⟨w.heap.size + 1, 2, none⟩ = some (.slice qa qx.length qc) := by rw [hW]; go_simp
  have p0 : W.cell? ⟨w.heap.size, 0, none⟩ = some (.int .i64 pr) := by rw [hW]; go_simp
  have Hno := Lib.hid hno
  clear hno
  cases h1 : postB pr pl px with
  | false =>
    rw [h1] at C1
    subst hW
    clear q0 q1 q2 p0
    go_enter Try.func10, Try.ntmps10
    go_wp2_with fail
    refine C1.out.mono ?_
    rintro e w1 ⟨rfl, he1⟩
    go_wp2
    go_ret
    exact ⟨rfl, Ext.trans' hE he1⟩
  | true =>
    rw [h1] at C1
    have C2 : ∀ w1, Ext W w1 → Calls Try.prog 26 #[.agg #[.int .i64 qr, .int .i64 ql, .slice qa qx.length qc]] w1 fun e w' => e = .returned (.bool (postB qr ql qx)) ∧ Ext w1 w' := fun w1 h => right_any qr ql qa qx.length qc qx w1 rfl hql ((hq.ext hE).ext h)
    have HC2 := Lib.hid C2
    have HW := Lib.hid hW
    clear C2
    cases h2 : postB qr ql qx with
    | false =>
      rw [h2] at HC2
      clear hW
      go_enter Try.func10, Try.ntmps10
      go_wp2_with fail
      rw [← HW.out]
      refine C1.out.mono ?_
      rintro e w1 ⟨rfl, he1⟩
      have r0 := keeps he1 q0
      have r1 := keeps he1 q1
      have r2 := keeps he1 q2
      go_wp2_with fail
      refine (HC2.out w1 he1).mono ?_
      rintro e w2 ⟨rfl, he2⟩
      go_wp2
      go_ret
      exact ⟨rfl, Ext.trans' hE (Ext.trans' he1 he2)⟩
    | true =>
      rw [h2] at HC2
      clear hW
      have h3 : pr = qr → ¬ by_ < 1 → by_ > 1048576 := fun a b => by have := Hno.out; rw [h1, h2] at this; simp [a, b] at this; omega
      by_cases h4 : pr = qr
      · have h4' : (pr != qr) = false := by simpa using h4
        have H3 := Lib.hid (h3 h4)
        have H4 := Lib.hid h4
        clear h3 h4
        by_cases h5 : by_ < 1
        all_goals
          try have h6 := H3.out h5
          go_enter Try.func10, Try.ntmps10
          go_wp2_with fail
          rw [← HW.out]
          refine C1.out.mono ?_
          rintro e w1 ⟨rfl, he1⟩
          have r0 := keeps he1 q0
          have r1 := keeps he1 q1
          have r2 := keeps he1 q2
          go_wp2_with fail
          refine (HC2.out w1 he1).mono ?_
          rintro e w2 ⟨rfl, he2⟩
          have s0 := keeps he2 r0
          have s1 := keeps he2 (keeps he1 p0)
          go_wp2
          go_ret
          exact ⟨rfl, Ext.trans' hE (Ext.trans' he1 he2)⟩
      · have h4' : (pr != qr) = true := by simpa using h4
        clear h3 h4
        go_enter Try.func10, Try.ntmps10
        go_wp2_with fail
        rw [← HW.out]
        refine C1.out.mono ?_
        rintro e w1 ⟨rfl, he1⟩
        have r0 := keeps he1 q0
        have r1 := keeps he1 q1
        have r2 := keeps he1 q2
        go_wp2_with fail
        refine (HC2.out w1 he1).mono ?_
        rintro e w2 ⟨rfl, he2⟩
        have s0 := keeps he2 r0
        have s1 := keeps he2 (keeps he1 p0)
        go_wp2
        go_ret
        exact ⟨rfl, Ext.trans' hE (Ext.trans' he1 he2)⟩

theorem good_mem {last len : Int} {xs : List Int} (h : goodFrom last len xs = true) : ∀ x ∈ xs, last < x ∧ x < len := by
  induction xs generalizing last with
  | nil => intro x hx; cases hx
  | cons y r ih =>
    simp only [goodFrom, Bool.and_eq_true, Bool.not_eq_true', decide_eq_false_iff_not] at h
    intro x hx
    rcases List.mem_cons.1 hx with rfl | hx
    · exact ⟨by omega, by omega⟩
    · have := ih h.2 x hx
      exact ⟨by omega, this.2⟩

/-- What the map of places knows: which numbers are among the first ones. -/
def Knows (D : DataW Unit) (l : List Int) : Prop := Maps.IsMap D ∧ ∀ x, D.atKey (.int .i64 x) (.lit (.bool false)) = .lit (.bool (decide (x ∈ l)))

theorem Knows.nil : Knows (.map []) [] := ⟨⟨[], rfl⟩, fun x => by simp [DataW.atKey]⟩

theorem Knows.put {D : DataW Unit} {l : List Int} (h : Knows D l) (y : Int) : Knows (D.put (.int .i64 y) (.lit (.bool true))) (l ++ [y]) := by
  refine ⟨h.1.put _ _, fun x => ?_⟩
  · by_cases e : x = y
    · subst e
      rw [Maps.atKey_put_same h.1 (by trivial)]
      simp
    · rw [Maps.atKey_put_other (by simpa using e), h.2]
      simp [e]

theorem zeroBool (w : World) : (zeroValue 4).run Try.prog w = .ok (.bool false) w := by kernel_rfl
theorem keyInt : Keyed Try.prog 3 := int_keyed Try.underlying3

set_option maxRecDepth 100000 in
set_option maxHeartbeats 2000000 in
theorem follow_ok (p q : PV) (by_ : Int) (w : World) (hp : CellsAt w p.ao (ints p.ats)) (hq : CellsAt w q.ao (ints q.ats)) (hpl : p.ats.length ≤ 1000000) (hql : q.ats.length ≤ 1000000) (hok : followOk p q by_ = true) :
    Calls Try.prog 10 #[p.val, q.val, .int .i64 by_] w fun e w' => ∃ v', e = .returned v' ∧ w'.ownsRow w.heap.size 3 1 v' (followB p q by_).length (ints (followB p q by_)) ∧ Ext w w' := by
  have HF : Hid (followB p q by_ = p.ats.filter fun n => decide (n + by_ ∈ q.ats)) := by simp [Hid, followB, hok]
  obtain ⟨pr, pl, pa, pc, px⟩ := p
  obtain ⟨qr, ql, qa, qc, qx⟩ := q
  simp only [PV.val, followOk, Bool.and_eq_true, Bool.not_eq_true', decide_eq_false_iff_not, bne_eq_false_iff_eq] at *
  obtain ⟨⟨⟨⟨h1, h2⟩, h3⟩, h4⟩, h5⟩ := hok
  obtain rfl : pr = qr := h3
  have F1 := postB_fact (p := ⟨pr, pl, pa, pc, px⟩) h1
  have F2 := postB_fact (p := ⟨pr, ql, qa, qc, qx⟩) h2
  have G1 := Lib.hid (good_mem F1.good)
  have G2 := Lib.hid (good_mem F2.good)
  have l1 : pl ≤ 1048576 := F1.len1
  have l2 : ql ≤ 1048576 := F2.len1
  obtain ⟨W, hW⟩ : ∃ W, W = (w.alloc (.cells #[.int .i64 pr, .int .i64 pl, .slice pa px.length pc] 27)).alloc (.cells #[.int .i64 pr, .int .i64 ql, .slice qa qx.length qc] 27) := ⟨_, rfl⟩
  have hE : Ext w W := by rw [hW]; exact (by repeat (first | (with_reducible exact Below.refl _ _) | (with_reducible assumption) | (with_reducible refine bdrewN ?_ _) | (with_reducible refine Below.drew ?_) | (with_reducible refine Below.alloc ?_ (by simp) _) | (with_reducible refine Below.setCell ?_ (by simp) _)))
  have hWs : W.heap.size = w.heap.size + 2 := by rw [hW]; simp
  have C1 := right_any pr pl pa px.length pc px W rfl (by omega) (hp.ext hE)
  have C2 : ∀ w1, Ext W w1 → Calls Try.prog 26 #[.agg #[.int .i64 pr, .int .i64 ql, .slice qa qx.length qc]] w1 fun e w' => e = .returned (.bool (postB pr ql qx)) ∧ Ext w1 w' := fun w1 h => right_any pr ql qa qx.length qc qx w1 rfl (by omega) ((hq.ext hE).ext h)
  rw [h1] at C1
  rw [h2] at C2
  have HC1 := Lib.hid C1
  have HC2 := Lib.hid C2
  have q0 : W.cell? ⟨w.heap.size + 1, 0, none⟩ = some (.int .i64 pr) := by rw [hW]; go_simp
  have q1 : W.cell? ⟨w.heap.size + 1, 1, none⟩ = some (.int .i64 ql) := by rw [hW]; go_simp
  have q2 : W.cell? ⟨w.heap.size + 1, 2, none⟩ = some (.slice qa qx.length qc) := by rw [hW]; go_simp
  have p0 : W.cell? ⟨w.heap.size, 0, none⟩ = some (.int .i64 pr) := by rw [hW]; go_simp
  have p2 : W.cell? ⟨w.heap.size, 2, none⟩ = some (.slice pa px.length pc) := by rw [hW]; go_simp
  have HW := Lib.hid hW
  have HWs := Lib.hid hWs
  have hmm := @run_makeMap Try.prog
  clear hW C1 C2 h1 h2 F1 F2 hWs
  go_enter Try.func10, Try.ntmps10
  go_wp2_with fail
  rw [← HW.out]
  refine HC1.out.mono ?_
  rintro e w1 ⟨rfl, he1⟩
  have r0 := keeps he1 q0
  have r1 := keeps he1 q1
  have r2 := keeps he1 q2
  go_wp2_with fail
  refine (HC2.out w1 he1).mono ?_
  rintro e w2 ⟨rfl, he2⟩
  have s0 := keeps he2 r0
  have s1 := keeps he2 (keeps he1 p0)
  have s2 := keeps he2 r2
  have s3 := keeps he2 (keeps he1 p2)
  have heW : Ext w w2 := Ext.trans' hE (Ext.trans' he1 he2)
  have hs2 : Hid (w.heap.size + 2 ≤ w2.heap.size) := by have := HWs.out; have := he1.size; have := he2.size; show _ ≤ _; omega
  clear q0 q1 q2 p0 p2 r0 r1 r2 hmm
  have hmm := @run_makeMap Try.prog
  have i1 : w.heap.size + 1 < w2.heap.size := by have := hs2.out; omega
  have i0 : w.heap.size < w2.heap.size := by omega
  have HqA : Hid (∀ W', Ext w2 W' → CellsAt W' qa (ints qx)) := fun W' h => (hq.ext heW).ext h
  have HpA : Hid (∀ W', Ext w2 W' → CellsAt W' pa (ints px)) := fun W' h => (hp.ext heW).ext h
  have hEm := (Below.refl w2.heap.size w2).alloc (Nat.le_refl _) (.map #[] 0)
  have hO0 : (w2.alloc (.map #[] 0)).ownsMap Try.prog 3 (plainElem (H := Unit) Try.prog 4) w2.heap.size 0 (.map []) := World.ownsMap_made _ _ _ _
  have HEm := Lib.hid hEm
  clear hE hp hq hEm
  go_wp2_with fail
  go_loopw [40] (fun i wr => ∃ (k : Nat) (D : DataW Unit), k ≤ qx.length ∧ i = .int .i64 k ∧ wr.ownsMap Try.prog 3 (plainElem Try.prog 4) w2.heap.size k D ∧ Knows D (qx.take k) ∧ Ext w2 wr) (fun i _ => qx.length - (intOf i).toNat)
  case atStart => exact ⟨0, _, Nat.zero_le _, rfl, hO0, Knows.nil, HEm.out⟩
  case round =>
    obtain ⟨k, D, hk, rfl, hO, hD, he3⟩ := hrel
    by_cases hlt : k < qx.length
    · obtain ⟨x, hx⟩ := get_of_lt (l := qx) rfl hlt
      obtain ⟨b, off, rfl, _, c1⟩ := HqA.out _ he3 k _ (ints_get hx)
      have hxb := G2.out x (List.mem_of_getElem? hx)
      have hwf : (Lit.int .i64 x).wf = true := WalkArith.wf_i64 (by omega)
      have hT := take_of_get hx
      have HT := Lib.hid hT
      clear hT hx
      go_wp2_with (at_mapUpdate; refine wpList_mapUpdate_own _ rfl _ _ _ 55 rfl 3 4 keyInt Try.underlying55 _ w2.heap.size k D rfl hO (by unfold maxLen; omega) _ _ _ rfl rfl (keyOf_int_mk Try.underlying3 hwf) _ [] (plainElem_bool Try.underlying4 true) ?_; intro w3 hO3 hg3)
      go_roundw
      case rel => exact ⟨k + 1, _, by omega, by go_num, hO3, by rw [HT.out]; exact hD.put x, he3.grown hg3 he3.size (by simp)⟩
      case measure => simp [intOf]; omega
    · obtain rfl : k = qx.length := by omega
      rw [List.take_length] at hD
      have hsz : w2.heap.size < wr.heap.size := hO.lt
      have t3 := keeps he3 s3
      have HpB : Hid (∀ W', Ext wr W' → CellsAt W' pa (ints px)) := fun W' h => HpA.out W' (Ext.trans' he3 h)
      have hlen5 : Hid (∀ l : List Int, l.length ≤ 1000000 → l.length + 1 ≤ maxLen ∧ (l.length + 1) * 8 ≤ 140737488355328) := fun l hl => by unfold maxLen; omega
      go_wp2_with fail
      obtain ⟨wo, rfl⟩ : ∃ wo : World, wo = wr := ⟨_, rfl⟩
      go_loopw [10, 50] (fun o i wr => ∃ k : Nat, k ≤ px.length ∧ i = .int .i64 k ∧ wr.ownsRow wo.heap.size 3 1 o ((px.take k).filter fun n => decide (n + by_ ∈ qx)).length (ints ((px.take k).filter fun n => decide (n + by_ ∈ qx))) ∧ wr.ownsMap Try.prog 3 (plainElem Try.prog 4) w2.heap.size qx.length D ∧ Ext wo wr) (fun _ i _ => px.length - (intOf i).toNat)
      case atStart => exact ⟨0, Nat.zero_le _, rfl, World.ownsRow_nil _ _ _ _, hO, Below.refl _ _⟩
      case round =>
        obtain ⟨k, hk, rfl, hr, hO2, he4⟩ := hrel
        by_cases hlt2 : k < px.length
        · obtain ⟨x, hx⟩ := get_of_lt (l := px) rfl hlt2
          obtain ⟨b, off, rfl, _, c1⟩ := HpB.out _ he4 k _ (ints_get hx)
          have hxb := G1.out x (List.mem_of_getElem? hx)
          have hwf : (Lit.int .i64 (x + by_)).wf = true := WalkArith.wf_i64 (by omega)
          have hT := take_of_get hx
          have HT := Lib.hid hT
          have hl6 : ((px.take k).filter fun n => decide (n + by_ ∈ qx)).length ≤ 1000000 := Nat.le_trans (List.length_filter_le _ _) (by simp; omega)
          have hB := Lib.hid (hlen5.out _ hl6)
          have hbs : Hid (w2.heap.size + 1 ≤ wr.heap.size) := by have := he4.size; show _ ≤ _; omega
          have hcn : CellsAt (wr.alloc (.cells #[.int .i64 x] 3)) (some ⟨wr.heap.size, 0, none⟩) (ints [x]) := cells_new (heap_alloc_new _ _)
          have hb3 : wo.heap.size ≤ (wr.alloc (.cells #[.int .i64 x] 3)).heap.size := by simp; have := he4.size; omega
          have hr2 := hr.alloc (.cells #[.int .i64 x] 3)
          obtain ⟨ao2, cap2, rfl, _, _⟩ := owns_form hr
          clear hT hx hl6
          by_cases hin : x + by_ ∈ qx
          · have hat : D.atKey (.int .i64 (x + by_)) (.lit (.bool false)) = .lit (.bool true) := by rw [hD.2]; simp [hin]
            have Hin := Lib.hid hin
            have Hat := Lib.hid hat
            clear hin hat
            go_wp2_with (first | (at_lookup; refine wpList_lookup_own_bool _ rfl _ _ 55 rfl 3 4 keyInt Try.underlying55 Try.underlying4 (zeroBool _) w2.heap.size qx.length D rfl hO2 _ _ rfl (keyOf_int_mk Try.underlying3 hwf) true Hat.out ?_) | (at_builtin; refine wpList_append_cells rfl (.tmp 59) (.tmp 61) rfl Try.underlying22 infoInt rfl Nat.one_pos rfl hr2 (some ⟨wr.heap.size, 0, none⟩) 1 1 (ints [x]) rfl rfl hcn (ints_one _) hB.out.1 hB.out.2 hb3 ?_; intro v3 w3 hown3 o3))
            have hO3 : w3.ownsMap Try.prog 3 (plainElem (H := Unit) Try.prog 4) w2.heap.size qx.length D := (hO2.alloc _).kept o3.grown (fun e => by have := (hr2.lt _ e.symm).1; omega)
            have he5 : Ext wo w3 := (he4.alloc he4.size _).trans (o3.below hb3 (fun k hk => (hr2.lt k hk).1))
            go_roundw
            case rel =>
              refine ⟨k + 1, by omega, by go_num, ?_, hO3, he5⟩
              rw [HT.out, List.filter_append]
              have e6 : [x].filter (fun n => decide (n + by_ ∈ qx)) = [x] := by simp [Hin.out]
              rw [e6, List.length_append]
              simpa [ints] using hown3
            case measure => simp [intOf]; omega
          · have hat : D.atKey (.int .i64 (x + by_)) (.lit (.bool false)) = .lit (.bool false) := by rw [hD.2]; simp [hin]
            have Hin := Lib.hid hin
            have Hat := Lib.hid hat
            clear hin hat
            go_wp2_with (at_lookup; refine wpList_lookup_own_bool _ rfl _ _ 55 rfl 3 4 keyInt Try.underlying55 Try.underlying4 (zeroBool _) w2.heap.size qx.length D rfl hO2 _ _ rfl (keyOf_int_mk Try.underlying3 hwf) false Hat.out ?_)
            go_roundw
            case rel =>
              refine ⟨k + 1, by omega, by go_num, ?_, hO2, he4⟩
              rw [HT.out, List.filter_append]
              have e6 : [x].filter (fun n => decide (n + by_ ∈ qx)) = [] := by simp [Hin.out]
              rw [e6, List.append_nil]
              exact hr
            case measure => simp [intOf]; omega
        · obtain rfl : k = px.length := by omega
          rw [List.take_length] at hr
          go_wp2
          go_ret
          refine ⟨_, rfl, ?_, Ext.trans' heW (Ext.trans' he3 he4)⟩
          rw [HF.out]
          exact owns_mono hr (by have := heW.size; have := he3.size; omega)
end Go.Proofs.Ytdlijjmjfepklaa
