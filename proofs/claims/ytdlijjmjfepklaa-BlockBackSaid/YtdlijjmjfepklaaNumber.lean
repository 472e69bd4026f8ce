/-
  The walks of layer 18: a number's bytes, and those of places that rise, added to a row of bytes.
-/
import Derived.Test.YtdlijjmjfepklaaInsert
import Derived.Test.YtdlijjmjfepklaaBlockA
namespace Go.Proofs.Ytdlijjmjfepklaa
open Go.RowKit

/-- all figures but the last one, base 128, each with 128 added -/
def hiB (n : Nat) : List UInt8 := if n = 0 then [] else hiB (n / 128) ++ [UInt8.ofNat (n % 128 + 128)]
termination_by n
decreasing_by omega
def numB (n : Nat) : List UInt8 := hiB (n / 128) ++ [UInt8.ofNat (n % 128)]

theorem hiB_zero : hiB 0 = [] := by rw [hiB]; simp
theorem hiB_pos {n : Nat} (h : 0 < n) : hiB n = hiB (n / 128) ++ [UInt8.ofNat (n % 128 + 128)] := by rw [hiB, if_neg (by omega)]
theorem hiB_length (k : Nat) : ∀ n, n < 128 ^ k → (hiB n).length ≤ k := by
  induction k with
  | zero => intro n h; simp at h; subst h; simp [hiB_zero]
  | succ k ih =>
    intro n h
    by_cases h0 : n = 0
    · subst h0; simp [hiB_zero]
    · rw [hiB_pos (by omega)]
      have := ih (n / 128) (by rw [Nat.pow_succ] at h; omega)
      simp; omega
theorem numB_length {n : Nat} (h : n < 4611686018427387904) : (numB n).length ≤ 10 := by
  have := hiB_length 9 (n / 128) (by simp; omega)
  simp [numB]; omega

theorem or128 : ∀ c : Fin 128, bits BinOp.or IntKind.u8 ((c : Nat) : Int) 128 = ((c : Nat) : Int) + 128 := by decide +kernel
theorem or128_mod (m : Nat) : bits BinOp.or IntKind.u8 ((m : Int) % 128) 128 = ((m % 128 + 128 : Nat) : Int) := by
  have := or128 ⟨m % 128, by omega⟩
  simpa using this

theorem byteVals_num {m : Nat} (h : m < 256) : byteVals [UInt8.ofNat m] = [.int .u8 (m : Int)] := by
  have : (UInt8.ofNat m).toNat = m := by simp; omega
  simp only [byteVals, List.map_cons, List.map_nil, this]

set_option maxHeartbeats 1000000 in
theorem number_own {base : Nat} {v : Value} {k : Nat} {xs : List UInt8} (n : Nat) (w : World) (hown : w.ownsRow base 5 1 v k (byteVals xs)) (hn : n < 4611686018427387904) (hk : k ≤ 70368744177664) (hbase : base ≤ w.heap.size) :
    Calls Try.prog 27 #[v, .int .i64 n] w fun e w' => ∃ v', e = .returned v' ∧ w'.ownsRow base 5 1 v' (k + (numB n).length) (byteVals (xs ++ numB n)) ∧ Owns w w' v v' := by
  obtain ⟨ao, cap, rfl, hcells, _⟩ := owns_form hown
  have hxl : xs.length = k := by have := hown.1; rw [byteVals_length] at this; omega
  have Hx := Lib.hid hxl
  clear hxl
  have hmod : 0 ≤ (n : Int) % 128 ∧ (n : Int) % 128 < 128 := by omega
  have B1 : k + 1 ≤ maxLen := by unfold maxLen; omega
  have B2 : (k + 1) * 1 ≤ 140737488355328 := by omega
  have B3 : base ≤ (w.alloc (.cells #[.int .u8 ((n : Int) % 128)] 5)).heap.size := by simp; omega
  have E1 : Ext w (w.alloc (.cells #[.int .u8 ((n : Int) % 128)] 5)) := (by repeat (first | (with_reducible exact Below.refl _ _) | (with_reducible assumption) | (with_reducible refine bdrewN ?_ _) | (with_reducible refine Below.drew ?_) | (with_reducible refine Below.alloc ?_ (by simp) _) | (with_reducible refine Below.setCell ?_ (by simp) _)))
  have e0 : byteVals [UInt8.ofNat (n % 128)] = [.int .u8 ((n : Int) % 128)] := by rw [byteVals_num (by omega)]; simp
  have O1 : ∀ u ∈ [Value.int .u8 ((n : Int) % 128)], u.oneCell' = true := by simp [Value.oneCell']
  have Hlen : ∀ m, m ≤ n → (numB m).length ≤ 10 := fun m hm => numB_length (by omega)
  have HL := Lib.hid Hlen
  have H0 := Lib.hid e0
  clear Hlen e0 hcells
  go_enter Try.func27, Try.ntmps27
  go_wp2_with (at_builtin; refine wpList_append_cells rfl (.tmp 8) (.tmp 12) rfl Try.underlying36 infoByte rfl Nat.one_pos rfl (hown.alloc _) (some ⟨w.heap.size, 0, none⟩) 1 1 [.int .u8 ((n : Int) % 128)] rfl rfl (cells_new (heap_alloc_new _ _)) O1 B1 B2 B3 ?_; intro v1 w1 hown1 o1)
  have ho1 := Owns.of_ext E1 o1
  rw [← H0.out, ← byteVals_append] at hown1
  have hb1 : base ≤ w1.heap.size := Nat.le_trans hbase ho1.grown.size
  clear o1 hown B3 E1 O1 B1 B2
  have hs1 : Hid (w.heap.size ≤ w1.heap.size) := ho1.grown.size
  go_loopw [0, 1] (fun b i wr => ∃ (m : Nat) (done : List UInt8), m ≤ n ∧ i = .int .i64 m ∧ wr.ownsRow base 5 1 b (k + done.length) (byteVals (xs ++ done)) ∧ Owns w wr (.slice ao k cap) b ∧ base ≤ wr.heap.size ∧ Hid (numB n = hiB m ++ done ∧ 0 < done.length ∧ done.length ≤ 10)) (fun _ i _ => (intOf i).toNat)
  case atStart => exact ⟨n / 128, [UInt8.ofNat (n % 128)], by omega, by go_num, hown1, ho1, hb1, ⟨rfl, by simp, by simp⟩⟩
  case round =>
    obtain ⟨m, done, hm, rfl, hr, ho, hbw, hd⟩ := hrel
    by_cases h0 : 0 < m
    · have hmod2 : 0 ≤ (m : Int) % 128 ∧ (m : Int) % 128 < 128 := by omega
      obtain ⟨ao2, cap2, rfl, _, _⟩ := owns_form hr
      obtain ⟨x, hx⟩ : ∃ x, x = bits BinOp.or IntKind.u8 ((m : Int) % 128) 128 := ⟨_, rfl⟩
      have E2 : Ext wr (wr.alloc (.cells #[.int .u8 x] 5)) := (by repeat (first | (with_reducible exact Below.refl _ _) | (with_reducible assumption) | (with_reducible refine bdrewN ?_ _) | (with_reducible refine Below.drew ?_) | (with_reducible refine Below.alloc ?_ (by simp) _) | (with_reducible refine Below.setCell ?_ (by simp) _)))
      have hd2 := hd.out.2
      have hS1 : byteVals (xs ++ done) = byteVals xs ++ byteVals done := byteVals_append _ _
      have hS2 : (byteVals (xs ++ done)).take k = byteVals xs ∧ (byteVals (xs ++ done)).drop k = byteVals done := by
        have : (byteVals xs).length = k := by rw [byteVals_length]; exact Hx.out
        rw [hS1]
        exact ⟨List.take_left' this, List.drop_left' this⟩
      have hS3 : byteVals xs ++ Value.int .u8 x :: byteVals done = byteVals (xs ++ (UInt8.ofNat (m % 128 + 128) :: done)) := by
        rw [byteVals_append]
        have := byteVals_num (m := m % 128 + 128) (by omega)
        rw [← or128_mod, ← hx] at this
        show _ = byteVals xs ++ byteVals ([UInt8.ofNat (m % 128 + 128)] ++ done)
        rw [byteVals_append, this]; rfl
      have HS2 := Lib.hid hS2
      have HS3 := Lib.hid hS3
      have Hx2 := Lib.hid hx
      have hkl : k < k + done.length := by omega
      clear hS1 hS2 hS3 hx hd2
      go_wp2_with fail
      rw [← Hx2.out]
      refine (insert_own (i := k) (.int .u8 x) wr.heap.size _ (hr.alloc _) hkl (by have := hd.out.2.2; omega) (by simp; omega) (heap_alloc_new _ _) (fun e => ?_) rfl (byteVals_one _)).mono ?_
      · have := hr.lt _ e
        omega
      rintro e w2 ⟨v2, rfl, hown2, o2⟩
      have ho2 := ho.trans (Owns.of_ext E2 o2)
      rw [HS2.out.1, HS2.out.2, HS3.out] at hown2
      have hb2 : base ≤ w2.heap.size := Nat.le_trans hbase ho2.grown.size
      go_wp2
      go_roundw
      case rel => exact ⟨m / 128, UInt8.ofNat (m % 128 + 128) :: done, by omega, by go_num, hown2, ho2, hb2, ⟨by rw [hd.out.1, hiB_pos h0]; simp, by simp, by
        have h1 := HL.out n (Nat.le_refl _)
        rw [hd.out.1, hiB_pos h0] at h1
        simp at h1 ⊢; omega⟩⟩
      case measure => simp [intOf]; omega
    · obtain rfl : m = 0 := by omega
      go_wp2
      go_ret
      obtain ⟨h1, _, _⟩ := hd.out
      rw [hiB_zero, List.nil_append] at h1
      exact ⟨_, rfl, by rw [h1]; exact hr, ho⟩

def rowB : Int → List Int → List UInt8
  | _, [] => []
  | last, x :: r => numB (x - last - 1).toNat ++ rowB x r

set_option maxHeartbeats 1000000 in
theorem row_own {base : Nat} {v : Value} {k : Nat} {xs : List UInt8} (ao : Option Addr) (n cap : Nat) (ats : List Int) (len : Int) (w : World) (hown : w.ownsRow base 5 1 v k (byteVals xs)) (hx : ats.length = n) (hc : CellsAt w ao (ints ats)) (hlow : LowAt base ao)
    (hg : goodFrom (-1) len ats = true) (hlen : len ≤ 1048576) (hn : n ≤ 1048576) (hk : k ≤ 35184372088832) (hbase : base ≤ w.heap.size) :
    Calls Try.prog 28 #[v, .slice ao n cap] w fun e w' => ∃ v', e = .returned v' ∧ w'.ownsRow base 5 1 v' (k + (rowB (-1) ats).length) (byteVals (xs ++ rowB (-1) ats)) ∧ (rowB (-1) ats).length ≤ 10 * n ∧ Owns w w' v v' := by
  have Hx := Lib.hid hx
  have Hg := Lib.hid hg
  have hv := owns_low hown
  clear hx hg
  go_enter Try.func28, Try.ntmps28
  go_wp2_with fail
  go_loopw [0, 5, 10] (fun b last i wr => ∃ (j : Nat) (l : Int) (done : List UInt8), j ≤ n ∧ -1 ≤ l ∧ l ≤ 1048576 ∧ last = .int .i64 l ∧ i = .int .i64 j ∧ wr.ownsRow base 5 1 b (k + done.length) (byteVals (xs ++ done)) ∧ Owns w wr v b ∧ base ≤ wr.heap.size ∧ Hid (rowB (-1) ats = done ++ rowB l (ats.drop j) ∧ goodFrom l len (ats.drop j) = true ∧ done.length ≤ 10 * j)) (fun _ _ i _ => n - (intOf i).toNat)
  case atStart => exact ⟨0, -1, [], Nat.zero_le _, by omega, by omega, rfl, rfl, by simpa using hown, Owns.refl _ _, hbase, ⟨rfl, Hg.out, by simp⟩⟩
  case round =>
    obtain ⟨j, l, done, hj, hl1, hl2, rfl, rfl, hr, ho, hbw, hd⟩ := hrel
    by_cases hlt : j < n
    · obtain ⟨x, hx⟩ := get_of_lt Hx.out hlt
      have hbel := ho.below hbase hv
      obtain ⟨b, off, rfl, hb, c1⟩ := hc.below hbel hlow j _ (ints_get hx)
      have hd2 : rowB (-1) ats = (done ++ numB (x - l - 1).toNat) ++ rowB x (ats.drop (j + 1)) ∧ (l < x ∧ x < len) ∧ goodFrom x len (ats.drop (j + 1)) = true := by
        obtain ⟨h1, h2, _⟩ := hd.out
        rw [drop_of_get hx] at h1 h2
        simp only [goodFrom, Bool.and_eq_true, Bool.not_eq_true', decide_eq_false_iff_not] at h2
        exact ⟨by rw [h1]; simp [rowB], ⟨by omega, by omega⟩, h2.2⟩
      obtain ⟨hd3, ⟨g1, g2⟩, hd4⟩ := hd2
      have Hd := Lib.hid (And.intro hd3 (And.intro hd4 hd.out.2.2))
      obtain ⟨q, hq⟩ : ∃ q : Nat, x - l - 1 = (q : Int) := ⟨(x - l - 1).toNat, by omega⟩
      have Hq := Lib.hid hq
      have hqn : q < 4611686018427387904 := by omega
      have Hql : Hid ((numB q).length ≤ 10) := numB_length hqn
      clear hx hd3 hd4 hd hbel hq
      go_wp2_with fail
      rw [Hq.out]
      refine (number_own q _ hr hqn (by have := Hd.out.2.2; omega) hbw).mono ?_
      rintro e w2 ⟨v2, rfl, hown2, o2⟩
      have ho2 := ho.trans o2
      have hb2 : base ≤ w2.heap.size := Nat.le_trans hbase ho2.grown.size
      go_wp2
      go_roundw
      case rel =>
        have e1 : (x - l - 1).toNat = q := by have := Hq.out; omega
        exact ⟨j + 1, x, done ++ numB q, by omega, by omega, by omega, rfl, by go_num, by simpa [Nat.add_assoc] using hown2, ho2, hb2, ⟨by rw [← e1]; exact Hd.out.1, Hd.out.2.1, by have := Hd.out.2.2; have := Hql.out; simp; omega⟩⟩
      case measure => simp [intOf]; omega
    · obtain rfl : j = n := by omega
      go_wp2
      go_ret
      obtain ⟨h1, _, h3⟩ := hd.out
      have : ats.drop j = [] := by have := Hx.out; simp; omega
      rw [this, rowB, List.append_nil] at h1
      exact ⟨_, rfl, by rw [h1]; exact hr, by rw [h1]; exact h3, ho⟩

theorem numB_small {n : Nat} (h : n < 128) : numB n = [UInt8.ofNat n] := by
  rw [numB, Nat.div_eq_of_lt h, hiB_zero, Nat.mod_eq_of_lt h, List.nil_append]
theorem numB_big {n : Nat} (h : ¬ n < 128) : numB n = hiB (n / 128) ++ [UInt8.ofNat (n % 128)] ∧ hiB (n / 128) = hiB (n / 128 / 128) ++ [UInt8.ofNat (n / 128 % 128 + 128)] :=
  ⟨rfl, hiB_pos (by omega)⟩

set_option maxRecDepth 100000 in
set_option maxHeartbeats 1000000 in
theorem refNumber_small (n : Nat) (w : World) (h : n < 128) :
    Calls Try.prog 29 #[.int .i64 n] w fun e w' => ∃ v', e = .returned v' ∧ w'.ownsRow w.heap.size 5 1 v' (numB n).length (byteVals (numB n)) ∧ Ext w w' := by
  have e0 : byteVals (numB n) = [.int .u8 (n : Int)] := by rw [numB_small h, byteVals_num (by omega)]
  have e1 : (numB n).length = 1 := by rw [numB_small h]; rfl
  have H0 := Lib.hid e0
  have H1 := Lib.hid e1
  clear e0 e1
  go_enter Try.func29, Try.ntmps29
  go_wp2_with fail
  go_ret
  refine ⟨_, rfl, ?_, (by repeat (first | (with_reducible exact Below.refl _ _) | (with_reducible assumption) | (with_reducible refine bdrewN ?_ _) | (with_reducible refine Below.drew ?_) | (with_reducible refine Below.alloc ?_ (by simp) _) | (with_reducible refine Below.setCell ?_ (by simp) _)))⟩
  rw [H0.out, H1.out]
  exact ⟨rfl, .inr ⟨w.heap.size, 1, #[.int .u8 (n : Int)], rfl, Nat.le_refl _, heap_alloc_new _ _, Nat.le_refl _, by simp [maxLen], rfl, rfl⟩⟩

set_option maxRecDepth 100000 in
set_option maxHeartbeats 1000000 in
theorem refNumber_any (f : Nat) : ∀ (n : Nat) (w : World), n ≤ f → n < 4611686018427387904 →
    Calls Try.prog 29 #[.int .i64 n] w fun e w' => ∃ v', e = .returned v' ∧ w'.ownsRow w.heap.size 5 1 v' (numB n).length (byteVals (numB n)) ∧ Ext w w' := by
  induction f with
  | zero => exact fun n w hf _ => refNumber_small n w (by omega)
  | succ f ih =>
    intro n w hf hn
    by_cases h : n < 128
    · exact refNumber_small n w h
    · have Hb := Lib.hid (numB_big h)
      have Hl : Hid ((numB n).length ≤ 10) := numB_length hn
      have hmod : 0 ≤ (n : Int) % 128 ∧ (n : Int) % 128 < 128 := by omega
      go_enter Try.func29, Try.ntmps29
      go_wp2_with fail
      refine (ih (n / 128) _ (by omega) (by omega)).mono ?_
      rintro e w1 ⟨v1, rfl, hown, hext⟩
      obtain ⟨p, hp⟩ : ∃ p, p = hiB (n / 128 / 128) := ⟨_, rfl⟩
      obtain ⟨c, hc⟩ : ∃ c, c = UInt8.ofNat (n / 128 % 128) := ⟨_, rfl⟩
      have hcv : c.toNat = n / 128 % 128 := by rw [hc]; simp; omega
      have hc1 : 0 ≤ (c.toNat : Int) ∧ (c.toNat : Int) < 128 := by omega
      have e1 : numB (n / 128) = p ++ [c] := by rw [hp, hc]; rfl
      have e2 : (numB (n / 128)).length = p.length + 1 := by rw [e1]; simp
      rw [e2, e1, byteVals_append] at hown
      obtain ⟨q, hq⟩ : ∃ q, q = p.length := ⟨_, rfl⟩
      rw [← hq] at hown
      obtain ⟨g, cap, rfl, hg1, hg2⟩ := hown.form (by omega)
      have hql : q < 10 := by have := Hl.out; rw [Hb.out.1, Hb.out.2, ← hp] at this; simp at this; omega
      have hbl : (byteVals p).length = q := by rw [byteVals_length, hq]
      have hcell : w1.cell? ⟨g, q, none⟩ = some (.int .u8 c.toNat) := by
        rw [hown.cellAt q (by omega), List.getElem?_append_right (by omega), hbl]; simp [byteVals]
      have hfz := hown.frozenAt q
      obtain ⟨hst, hgr⟩ := hown.stored q (.int .u8 ((c.toNat : Int) + 128))
      have e3 : (byteVals p ++ byteVals [c]).set q (.int .u8 ((c.toNat : Int) + 128)) = byteVals (hiB (n / 128)) := by
        rw [Hb.out.2, ← hp, byteVals_append, byteVals_num (by omega), List.set_append_right _ _ (by omega), hbl, Nat.sub_self]
        simp only [byteVals, List.map_cons, List.map_nil, List.set_cons_zero]
        have : ((n / 128 % 128 + 128 : Nat) : Int) = (c.toNat : Int) + 128 := by omega
        rw [this]
      rw [e3] at hst
      have e4 : byteVals [UInt8.ofNat (n % 128)] = [.int .u8 ((n : Int) % 128)] := by rw [byteVals_num (by omega)]; simp
      have O1 : ∀ u ∈ [Value.int .u8 ((n : Int) % 128)], u.oneCell' = true := by simp [Value.oneCell']
      have B1 : q + 1 + 1 ≤ maxLen := by unfold maxLen; omega
      have B2 : (q + 1 + 1) * 1 ≤ 140737488355328 := by omega
      have hz2 : (w1.setCell ⟨g, q, none⟩ (.int .u8 ((c.toNat : Int) + 128))).heap.size = w1.heap.size := by simp [World.setCell]
      have hE2 : Below w.heap.size w (w1.setCell ⟨g, q, none⟩ (.int .u8 ((c.toNat : Int) + 128))) := Below.setCell hext (by simpa using hg1) _
      have hE3 : Below w.heap.size w ((w1.setCell ⟨g, q, none⟩ (.int .u8 ((c.toNat : Int) + 128))).alloc (.cells #[.int .u8 ((n : Int) % 128)] 5)) := hE2.alloc (by rw [hz2]; exact hext.size) _
      have hcn : CellsAt ((w1.setCell ⟨g, q, none⟩ (.int .u8 ((c.toNat : Int) + 128))).alloc (.cells #[.int .u8 ((n : Int) % 128)] 5)) (some ⟨w1.heap.size, 0, none⟩) [.int .u8 ((n : Int) % 128)] := by
        have := cells_new (heap_alloc_new (w1.setCell ⟨g, q, none⟩ (.int .u8 ((c.toNat : Int) + 128))) (.cells #[.int .u8 ((n : Int) % 128)] 5))
        rwa [hz2] at this
      have B3 : w.heap.size ≤ ((w1.setCell ⟨g, q, none⟩ (.int .u8 ((c.toNat : Int) + 128))).alloc (.cells #[.int .u8 ((n : Int) % 128)] 5)).heap.size := hE3.size
      have hst2 := hst.alloc (.cells #[.int .u8 ((n : Int) % 128)] 5)
      have HX := Lib.hid (And.intro e2 (And.intro e4 (And.intro hq hp)))
      have HE := Lib.hid hE3
      clear hE2 hE3 hz2 hown e1 e2 e3 e4 hc hcv hq hp hbl hgr h hst
      go_wp2_with (at_builtin; refine wpList_append_cells rfl (.tmp 20) (.tmp 24) rfl Try.underlying36 infoByte rfl Nat.one_pos rfl hst2 (some ⟨w1.heap.size, 0, none⟩) 1 1 [.int .u8 ((n : Int) % 128)] rfl rfl hcn O1 B1 B2 B3 ?_; intro v3 w3 hown3 o3)
      go_ret
      obtain ⟨_, e4, hq, hp⟩ := HX.out
      have e5 : (numB n).length = q + 1 + 1 := by rw [Hb.out.1, Hb.out.2, hq, hp]; simp
      refine ⟨_, rfl, ?_, HE.out.trans (o3.below HE.out.size fun k hk => (hst2.lt k hk).1)⟩
      rw [e5, Hb.out.1, byteVals_append, e4]
      exact hown3
end Go.Proofs.Ytdlijjmjfepklaa
