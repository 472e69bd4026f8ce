/-
  The walks of layer 18: Pack, the program's and the document's.
-/
import Derived.Test.YtdlijjmjfepklaaPosts
import Derived.Test.YtdlijjmjfepklaaNumber
namespace Go.Proofs.Ytdlijjmjfepklaa
open Go.RowKit

def packL : Int → List PV → List UInt8
  | _, [] => []
  | last, p :: r => numB (p.row - last - 1).toNat ++ numB (p.len - 1).toNat ++ numB (p.ats.length - 1) ++ rowB (-1) p.ats ++ packL p.row r
def packB (ps : List PV) : List UInt8 := numB ps.length ++ packL (-1) ps

theorem low_of_cells {w : World} {ao : Option Addr} {cs : List Value} (h : CellsAt w ao cs) (h0 : 0 < cs.length) : LowAt w.heap.size ao := fun b off e => by
  obtain ⟨b2, off2, e2, hb, _⟩ := h 0 _ (List.getElem?_eq_getElem h0)
  rw [e] at e2
  simp only [Option.some.injEq, Addr.mk.injEq] at e2
  omega

structure PostFact (p : PV) : Prop where
  row0 : 0 ≤ p.row
  row1 : p.row ≤ 9007199254740992
  len0 : 1 ≤ p.len
  len1 : p.len ≤ 1048576
  some : 0 < p.ats.length
  good : goodFrom (-1) p.len p.ats = true
theorem postB_fact {p : PV} (h : postB p.row p.len p.ats = true) : PostFact p := by
  simp only [postB, Bool.and_eq_true, Bool.not_eq_true', decide_eq_false_iff_not, beq_eq_false_iff_ne, ne_eq] at h
  obtain ⟨⟨⟨⟨⟨h1, h2⟩, h3⟩, h4⟩, h5⟩, h6⟩ := h
  exact ⟨by omega, by omega, by omega, by omega, by omega, h6⟩

theorem Owns.cell {a b : World} {v x : Value} (h : Owns a b v x) {p : Addr} {u : Value} (hp : a.cell? p = some u) (hne : v.ownBlock ≠ some p.block) : b.cell? p = some u :=
  h.grown.cell hp (fun e => hne e.symm)

/-- number, and row, seen from a round of Pack: the posting of the round lies in a block of its own. -/
structure Kept3 (w0 w' : World) (v' : Value) (blk : Nat) (a0 a1 a2 : Value) : Prop where
  ext : Ext w0 w'
  lt : blk < w'.heap.size
  ne : v'.ownBlock ≠ some blk
  c0 : w'.cell? ⟨blk, 0, none⟩ = some a0
  c1 : w'.cell? ⟨blk, 1, none⟩ = some a1
  c2 : w'.cell? ⟨blk, 2, none⟩ = some a2
theorem Kept3.step {w0 w1 w2 : World} {v v' : Value} {blk : Nat} {a0 a1 a2 : Value} (h : Kept3 w0 w1 v blk a0 a1 a2) (o : Owns w1 w2 v v') (hv : ∀ k, v.ownBlock = some k → w0.heap.size ≤ k) : Kept3 w0 w2 v' blk a0 a1 a2 :=
  ⟨h.ext.trans (o.below h.ext.size hv), Nat.lt_of_lt_of_le h.lt o.grown.size, fun e => by
    rcases o.row _ e with h1 | h1
    · exact h.ne h1
    · have := h.lt; omega, o.cell h.c0 h.ne, o.cell h.c1 h.ne, o.cell h.c2 h.ne⟩
theorem Kept3.drew {w0 w1 : World} {v : Value} {blk : Nat} {a0 a1 a2 : Value} (h : Kept3 w0 w1 v blk a0 a1 a2) : Kept3 w0 w1.drew v blk a0 a1 a2 := ⟨h.ext.drew, h.lt, h.ne, h.c0, h.c1, h.c2⟩

theorem number_kept {w0 : World} {v : Value} {k : Nat} {xs : List UInt8} {blk : Nat} {a0 a1 a2 : Value} (n : Nat) (w : World) (hown : w.ownsRow w0.heap.size 5 1 v k (byteVals xs)) (hn : n < 4611686018427387904) (hk : k ≤ 70368744177664) (h : Kept3 w0 w v blk a0 a1 a2) :
    Calls Try.prog 27 #[v, .int .i64 n] w fun e w' => ∃ v', e = .returned v' ∧ w'.ownsRow w0.heap.size 5 1 v' (k + (numB n).length) (byteVals (xs ++ numB n)) ∧ Kept3 w0 w' v' blk a0 a1 a2 :=
  (number_own n w hown hn hk h.ext.size).mono fun _ _ ⟨v', he, h1, h2⟩ => ⟨v', he, h1, h.step h2 (owns_low hown)⟩

set_option maxRecDepth 100000 in
set_option maxHeartbeats 2000000 in
theorem pack_any (ao : Option Addr) (n cap : Nat) (ps : List PV) (w : World) (hx : ps.length = n) (hn : n ≤ 9223372036854775807) (hc : PostsAt w ao ps) (hs : ∀ p ∈ ps, p.ats.length ≤ 1000000) (hgood : rightB ps = true) :
    Calls Try.prog 16 #[.slice ao n cap] w fun e w' => ∃ v', e = .returned (.tuple #[v', .int .i64 0]) ∧ w'.ownsRow w.heap.size 5 1 v' (packB ps).length (byteVals (packB ps)) ∧ Ext w w' := by
  have h64 : n ≤ 64 := by simp only [rightB, Bool.and_eq_true, decide_eq_true_eq] at hgood; omega
  have Hl : Hid (listB (-1) ps = true) := by simp only [rightB, Bool.and_eq_true] at hgood; exact hgood.1
  have HR := Lib.hid (rightList_any ao n cap ps w hx hn hc (fun p hp => by have := hs p hp; omega))
  rw [hgood] at HR
  have Hx := Lib.hid hx
  clear hx hgood
  go_enter Try.func16, Try.ntmps16
  go_wp2_with fail
  refine HR.out.mono ?_
  rintro e w1 ⟨rfl, he1⟩
  have hn2 : n < 4611686018427387904 := by omega
  go_wp2_with fail
  refine (number_own (base := w.heap.size) (k := 0) (xs := []) n w1 (World.ownsRow_nil _ _ _ _) hn2 (by omega) he1.size).mono ?_
  rintro e w2 ⟨v2, rfl, hown2, ho2⟩
  have he2 : Ext w w2 := Ext.trans' he1 (ho2.ext rfl)
  have hnl := numB_length hn2
  simp only [Nat.zero_add, List.nil_append] at hown2
  have Hnl := Lib.hid hnl
  clear hnl ho2 HR
  go_wp2_with fail
  go_loopw [4, 5, 16] (fun b last i wr => ∃ (k : Nat) (l : Int) (done : List UInt8), k ≤ n ∧ -1 ≤ l ∧ l ≤ 9007199254740992 ∧ last = .int .i64 l ∧ i = .int .i64 k ∧ wr.ownsRow w.heap.size 5 1 b done.length (byteVals done) ∧ Ext w wr ∧ Hid (packB ps = done ++ packL l (ps.drop k) ∧ listB l (ps.drop k) = true ∧ done.length ≤ 10 + 10000030 * k)) (fun _ _ i _ => n - (intOf i).toNat)
  case atStart => exact ⟨0, -1, numB n, Nat.zero_le _, by omega, by omega, rfl, rfl, hown2, he2, ⟨by rw [packB, Hx.out]; rfl, Hl.out, by have := Hnl.out; omega⟩⟩
  case round =>
    obtain ⟨k, l, done, hk, hl1, hl2, rfl, rfl, hr, he, hd⟩ := hrel
    by_cases hlt : k < n
    · obtain ⟨p, hp⟩ := get_of_lt Hx.out hlt
      obtain ⟨b, off, rfl, hb, c1, c2, c3⟩ := (hc.ext he).cells k p hp
      have hin0 := hc.inner p (List.mem_of_getElem? hp)
      have hlen := hs p (List.mem_of_getElem? hp)
      obtain ⟨h1, h2, h3⟩ := hd.out
      rw [drop_of_get hp] at h1 h2
      simp only [listB, Bool.and_eq_true, Bool.not_eq_true', decide_eq_false_iff_not] at h2
      obtain ⟨⟨hpb, hrow⟩, hrest⟩ := h2
      have F := postB_fact hpb
      have f1 := F.row0
      have f2 := F.row1
      have f3 := F.len0
      have f4 := F.len1
      have f5 := F.some
      have K0 : Kept3 w (wr.alloc (.cells #[.int .i64 p.row, .int .i64 p.len, .slice p.ao p.ats.length p.cap] 27)) u4 wr.heap.size (.int .i64 p.row) (.int .i64 p.len) (.slice p.ao p.ats.length p.cap) :=
        ⟨Ext.trans' he ((Below.refl _ wr).alloc (Nat.le_refl _) _), by simp, fun e => by have := (hr.lt _ e).2; omega, by go_simp, by go_simp, by go_simp⟩
      obtain ⟨q1, hq1⟩ : ∃ q : Nat, p.row - l - 1 = (q : Int) := ⟨(p.row - l - 1).toNat, by omega⟩
      obtain ⟨q2, hq2⟩ : ∃ q : Nat, p.len - 1 = (q : Int) := ⟨(p.len - 1).toNat, by omega⟩
      obtain ⟨q3, hq3⟩ : ∃ q : Nat, (p.ats.length : Int) - 1 = (q : Int) := ⟨p.ats.length - 1, by omega⟩
      have n1 : q1 < 4611686018427387904 := by omega
      have n2 : q2 < 4611686018427387904 := by omega
      have n3 : q3 < 4611686018427387904 := by omega
      have m1 := numB_length n1
      have m2 := numB_length n2
      have m3 := numB_length n3
      have e1 : packL l (p :: ps.drop (k + 1)) = numB q1 ++ numB q2 ++ numB q3 ++ rowB (-1) p.ats ++ packL p.row (ps.drop (k + 1)) := by
        rw [packL, hq1, hq2, show p.ats.length - 1 = q3 by omega]; rfl
      rw [e1] at h1
      have hlow : LowAt w.heap.size p.ao := low_of_cells hin0 (by simp [ints]; omega)
      have Hq1 := Lib.hid hq1
      have Hq2 := Lib.hid hq2
      have Hq3 := Lib.hid hq3
      have Hd := Lib.hid (And.intro h1 hrest)
      have HF := Lib.hid F
      clear hp hd h1 hrest e1 hpb hq1 hq2 hq3 F
      go_wp2_with fail
      rw [Hq1.out]
      refine (number_kept q1 _ (hr.alloc _) n1 (by omega) K0).mono ?_
      rintro e w2 ⟨v2, rfl, hown2, K1⟩
      go_wp2_with fail
      have y1 := K1.c1
      have y2 := K1.c2
      have B2 : done.length + (numB q1).length ≤ 70368744177664 := by omega
      have B3 : done.length + (numB q1).length + (numB q2).length ≤ 70368744177664 := by omega
      have C2 := Lib.hid (number_kept q2 _ hown2.drew n2 B2 K1.drew)
      have hw2 : IntKind.i64.wrap (p.len - 1) = (q2 : Int) := by rw [IntWalk.i64_in _ (by omega)]; exact Hq2.out
      have hw3 : IntKind.i64.wrap ((p.ats.length : Int) - 1) = (q3 : Int) := by rw [IntWalk.i64_in _ (by omega)]; exact Hq3.out
      go_region_held3 (fun w' => w'.cell? ⟨wr.heap.size, 1, none⟩ = some (.int .i64 p.len) ∧ w'.cell? ⟨wr.heap.size, 2, none⟩ = some (.slice p.ao p.ats.length p.cap)) (first | exact ⟨y1, y2⟩ | exact ⟨K2.c1, K2.c2⟩ | exact ⟨K3.c1, K3.c2⟩) (first | (go_at_call 27; ((with_reducible refine C2.out.mono ?_)); rintro e w3 ⟨v3, rfl, hown3, K2⟩) | (go_at_call 27; ((with_reducible refine (number_kept q3 _ hown3 n3 B3 K2).mono ?_)); rintro e w4 ⟨v4, rfl, hown4, K3⟩) | fail)
      clear hw2 hw3
      have z2 := K3.c2
      have z0 := K3.c0
      have hg := HF.out.good
      have B4 : done.length + (numB q1).length + (numB q2).length + (numB q3).length ≤ 35184372088832 := by omega
      have C4 := Lib.hid (row_own p.ao p.ats.length p.cap p.ats p.len _ hown4 rfl (hin0.ext K3.ext) hlow hg f4 (by omega) B4 K3.ext.size)
      have hv4 := owns_low hown4
      clear hg
      go_wp2_with fail
      refine C4.out.mono ?_
      rintro e w5 ⟨v5, rfl, hown5, hlr, o5⟩
      have K4 := K3.step o5 hv4
      have z0' := K4.c0
      go_wp2
      go_roundw
      case rel =>
        obtain ⟨h1, h2⟩ := Hd.out
        have hL : (done ++ numB q1 ++ numB q2 ++ numB q3 ++ rowB (-1) p.ats).length = done.length + (numB q1).length + (numB q2).length + (numB q3).length + (rowB (-1) p.ats).length := by simp; omega
        refine ⟨k + 1, p.row, done ++ numB q1 ++ numB q2 ++ numB q3 ++ rowB (-1) p.ats, by omega, by omega, by omega, rfl, by go_num, ?_, K4.ext, ⟨by rw [h1]; simp, h2, by rw [hL]; omega⟩⟩
        rw [hL]; exact hown5
      case measure => simp [intOf]; omega
    · obtain rfl : k = n := by omega
      obtain ⟨h1, _, _⟩ := hd.out
      have : ps.drop k = [] := by have := Hx.out; simp; omega
      rw [this, packL, List.append_nil] at h1
      have H1 := Lib.hid h1
      clear h1 this
      go_wp2
      go_ret2
      exact ⟨_, rfl, by rw [H1.out]; exact hr, he⟩

set_option maxRecDepth 100000 in
set_option maxHeartbeats 1000000 in
theorem pack_not (ao : Option Addr) (n cap : Nat) (ps : List PV) (w : World) (hx : ps.length = n) (hn : n ≤ 9223372036854775807) (hc : PostsAt w ao ps) (hs : ∀ p ∈ ps, p.ats.length ≤ 9223372036854775807) (hgood : rightB ps = false) :
    Calls Try.prog 16 #[.slice ao n cap] w fun e w' => e = .returned (.tuple #[.slice none 0 0, .int .i64 5]) ∧ Ext w w' := by
  have HR := Lib.hid (rightList_any ao n cap ps w hx hn hc hs)
  rw [hgood] at HR
  clear hx hgood
  go_enter Try.func16, Try.ntmps16
  go_wp2_with fail
  refine HR.out.mono ?_
  rintro e w1 ⟨rfl, he1⟩
  go_wp2
  go_ret2
  exact ⟨rfl, he1⟩

theorem owns_ext {w w' : World} {base : Nat} {e : TypeId} {size : Nat} {v : Value} {n : Nat} {xs : List Value} (h : w.ownsRow base e size v n xs) (x : Ext w w') : w'.ownsRow base e size v n xs := by
  obtain ⟨hl, h⟩ := h
  refine ⟨hl, ?_⟩
  rcases h with h | ⟨g, cap, cur, hv, hb, hg, r⟩
  · exact .inl h
  · exact .inr ⟨g, cap, cur, hv, hb, (x.block g (Array.getElem?_eq_some_iff.1 hg).1).trans hg, r⟩
theorem Kept3.stepE {w0 w1 w2 : World} {v : Value} {blk : Nat} {a0 a1 a2 : Value} (h : Kept3 w0 w1 v blk a0 a1 a2) (x : Ext w1 w2) : Kept3 w0 w2 v blk a0 a1 a2 :=
  ⟨Ext.trans' h.ext x, Nat.lt_of_lt_of_le h.lt x.size, h.ne, keeps x h.c0, keeps x h.c1, keeps x h.c2⟩

theorem refNumber_kept {w0 : World} {v : Value} {k : Nat} {xs : List UInt8} {blk : Nat} {a0 a1 a2 : Value} (n : Nat) (w : World) (hown : w.ownsRow w0.heap.size 5 1 v k (byteVals xs)) (hn : n < 4611686018427387904) (h : Kept3 w0 w v blk a0 a1 a2) :
    Calls Try.prog 29 #[.int .i64 n] w fun e w' => ∃ ao c, e = .returned (.slice ao (numB n).length c) ∧ CellsAt w' ao (byteVals (numB n)) ∧ w'.ownsRow w0.heap.size 5 1 v k (byteVals xs) ∧ Kept3 w0 w' v blk a0 a1 a2 ∧ Ext w w' :=
  (refNumber_any n n w (Nat.le_refl _) hn).mono fun _ _ ⟨v', he, h1, h2⟩ => by
    obtain ⟨ao, c, rfl, hc, _⟩ := owns_form h1
    exact ⟨ao, c, he, hc, owns_ext hown h2, h.stepE h2, h2⟩

theorem bl1 (l : List UInt8) : (byteVals l).length = l.length * 1 := by rw [byteVals_length, Nat.mul_one]

set_option maxRecDepth 100000 in
set_option maxHeartbeats 4000000 in
theorem refPack_any (ao : Option Addr) (n cap : Nat) (ps : List PV) (w : World) (hx : ps.length = n) (hn : n ≤ 9223372036854775807) (hc : PostsAt w ao ps) (hs : ∀ p ∈ ps, p.ats.length ≤ 1000000) (hgood : rightB ps = true) :
    Calls Try.prog 18 #[.slice ao n cap] w fun e w' => ∃ v', e = .returned (.tuple #[v', .int .i64 0]) ∧ w'.ownsRow w.heap.size 5 1 v' (packB ps).length (byteVals (packB ps)) ∧ Ext w w' := by
  have h64 : n ≤ 64 := by simp only [rightB, Bool.and_eq_true, decide_eq_true_eq] at hgood; omega
  have Hl : Hid (listB (-1) ps = true) := by simp only [rightB, Bool.and_eq_true] at hgood; exact hgood.1
  have HR := Lib.hid (refRight_any ao n cap ps w hx hn hc (fun p hp => by have := hs p hp; omega))
  rw [hgood] at HR
  have Hx := Lib.hid hx
  clear hx hgood
  go_enter Try.func18, Try.ntmps18
  go_wp2_with fail
  refine HR.out.mono ?_
  rintro e w1 ⟨rfl, he1⟩
  have hn2 : n < 4611686018427387904 := by omega
  go_wp2_with fail
  refine (refNumber_any n n w1 (Nat.le_refl _) hn2).mono ?_
  rintro e w2 ⟨v2, rfl, hown2, he12⟩
  have he2 : Ext w w2 := Ext.trans' he1 he12
  have hown2 := owns_mono hown2 he1.size
  have Hnl := Lib.hid (numB_length hn2)
  clear he12 HR
  go_wp2_with fail
  go_loopw [4, 5] (fun b i wr => ∃ (k : Nat) (l : Int) (done : List UInt8), k ≤ n ∧ -1 ≤ l ∧ l ≤ 9007199254740992 ∧ i = .int .i64 k ∧ wr.ownsRow w.heap.size 5 1 b done.length (byteVals done) ∧ Ext w wr ∧ Hid ((k = 0 → l = -1) ∧ ∀ j p, k = j + 1 → ps[j]? = some p → p.row = l) ∧ Hid (packB ps = done ++ packL l (ps.drop k) ∧ listB l (ps.drop k) = true ∧ done.length ≤ 10 + 10000030 * k)) (fun _ i _ => n - (intOf i).toNat)
  case atStart => exact ⟨0, -1, numB n, Nat.zero_le _, by omega, by omega, rfl, hown2, he2, ⟨fun _ => rfl, fun j p hj => by omega⟩, ⟨by rw [packB, Hx.out]; rfl, Hl.out, by have := Hnl.out; omega⟩⟩
  case round =>
    obtain ⟨k, l, done, hk, hl1, hl2, rfl, hr, he, hl, hd⟩ := hrel
    by_cases hlt : k < n
    · obtain ⟨p, hp⟩ := get_of_lt Hx.out hlt
      obtain ⟨b, off, rfl, hb, c1, c2, c3⟩ := (hc.ext he).cells k p hp
      have hin0 := hc.inner p (List.mem_of_getElem? hp)
      have hlen := hs p (List.mem_of_getElem? hp)
      obtain ⟨h1, h2, h3⟩ := hd.out
      rw [drop_of_get hp] at h1 h2
      simp only [listB, Bool.and_eq_true, Bool.not_eq_true', decide_eq_false_iff_not] at h2
      obtain ⟨⟨hpb, hrow⟩, hrest⟩ := h2
      have F := postB_fact hpb
      have f1 := F.row0
      have f2 := F.row1
      have f3 := F.len0
      have f4 := F.len1
      have f5 := F.some
      obtain ⟨V, hV⟩ : ∃ V : List Value, V = [.int .i64 p.row, .int .i64 p.len, .slice p.ao p.ats.length p.cap] := ⟨_, rfl⟩
      have K0 : Kept3 w (wr.alloc (.cells #[.int .i64 p.row, .int .i64 p.len, .slice p.ao p.ats.length p.cap] 24)) u4 wr.heap.size (.int .i64 p.row) (.int .i64 p.len) (.slice p.ao p.ats.length p.cap) :=
        ⟨Ext.trans' he ((Below.refl _ wr).alloc (Nat.le_refl _) _), by simp, fun e => by have := (hr.lt _ e).2; omega, by go_simp, by go_simp, by go_simp⟩
      obtain ⟨q1, hq1⟩ : ∃ q : Nat, p.row - l - 1 = (q : Int) := ⟨(p.row - l - 1).toNat, by omega⟩
      obtain ⟨q2, hq2⟩ : ∃ q : Nat, p.len - 1 = (q : Int) := ⟨(p.len - 1).toNat, by omega⟩
      obtain ⟨q3, hq3⟩ : ∃ q : Nat, (p.ats.length : Int) - 1 = (q : Int) := ⟨p.ats.length - 1, by omega⟩
      have n1 : q1 < 4611686018427387904 := by omega
      have n2 : q2 < 4611686018427387904 := by omega
      have n3 : q3 < 4611686018427387904 := by omega
      have m1 := numB_length n1
      have m2 := numB_length n2
      have m3 := numB_length n3
      have e1 : packL l (p :: ps.drop (k + 1)) = numB q1 ++ numB q2 ++ numB q3 ++ rowB (-1) p.ats ++ packL p.row (ps.drop (k + 1)) := by
        rw [packL, hq1, hq2, show p.ats.length - 1 = q3 by omega]; rfl
      rw [e1] at h1
      have Hl' : Hid (∀ j p', k + 1 = j + 1 → ps[j]? = some p' → p'.row = p.row) := fun j p' hj h => by
        obtain rfl : k = j := by omega
        rw [hp] at h; simp only [Option.some.injEq] at h; rw [h]
      have HK0 := Lib.hid K0
      have Hq1 := Lib.hid hq1
      have Hq2 := Lib.hid hq2
      have Hq3 := Lib.hid hq3
      have Hd := Lib.hid (And.intro h1 hrest)
      have HF := Lib.hid F
      have B1 : done.length + (numB q1).length ≤ maxLen := by unfold maxLen; omega
      have B1' : (done.length + (numB q1).length) * 1 ≤ 140737488355328 := by omega
      have HP := Lib.hid hp
      clear hp hd h1 hrest e1 hpb hq1 hq2 hq3 F hV K0
      have HR0 := Lib.hid hr
      have HB1 := Lib.hid (And.intro B1 B1')
      clear B1 B1'
      go_upto_if 25 with (fail)
      go_cut [4] (fun b' wx => wx.ownsRow w.heap.size 5 1 b' (done.length + (numB q1).length) (byteVals (done ++ numB q1)) ∧ Kept3 w wx b' wr.heap.size (.int .i64 p.row) (.int .i64 p.len) (.slice p.ao p.ats.length p.cap))
      case first =>
        by_cases h0 : k = 0
        · obtain rfl : k = 0 := h0
          obtain rfl : l = -1 := hl.out.1 rfl
          have hq : p.row = (q1 : Int) := by have := Hq1.out; omega
          have C1 := refNumber_kept q1 _ (HR0.out.alloc _) n1 HK0.out
          rw [← hq] at C1
          have C2 := Lib.hid C1
          clear hq C1
          go_wp2_with fail
          refine C2.out.mono ?_
          rintro e w3 ⟨ao3, c3', rfl, hc3, hown3, K3, _⟩
          have C3 := Lib.hid hc3
          go_wp2_with (at_builtin; refine wpList_append_cells rfl (.tmp 26) (.tmp 29) rfl Try.underlying36 infoByte rfl Nat.one_pos rfl hown3 ao3 (numB q1).length c3' (byteVals (numB q1)) rfl (bl1 _) C3.out (byteVals_one _) HB1.out.1 HB1.out.2 K3.ext.size ?_; intro v4 w4 hown4 o4)
          have K4 := K3.step o4 (owns_low hown3)
          rw [← byteVals_append] at hown4
          go_wp2
          go_meet
          exact ⟨hown4, K4⟩
        · have hk0 : ((k : Int) == 0) = false := by simpa using h0
          have hkd : Hid (k ≠ 0) := h0
          have d4 : decide (((k : Int) - 1) < (n : Int)) = true := by simp; omega
          have d5 : (0 : Int) ≤ (k : Int) - 1 := by omega
          have d6 : ((k : Int) - 1).toNat = k - 1 := by omega
          have x3 : wr.cell? ⟨b, off + (k - 1) * 3, none⟩ = some (.int .i64 l) := by
            obtain ⟨p', hp'⟩ := get_of_lt Hx.out (show k - 1 < n by omega)
            obtain ⟨b2, off2, e, _, c5, _⟩ := (hc.ext he).cells (k - 1) p' hp'
            simp only [Option.some.injEq, Addr.mk.injEq] at e
            obtain ⟨rfl, rfl, _⟩ := e
            rw [c5, hl.out.2 (k - 1) p' (by omega) hp']
          have d4' : ((k : Int) - 1) < (n : Int) := by omega
          have d4'' : (k : Int) ≤ (n : Int) := by omega
          have d5' : (1 : Int) ≤ (k : Int) := by omega
          have d5'' : 1 ≤ k := by omega
          have HN : Hid (u4.ownBlock ≠ some b) := fun e => by
            have := (HR0.out.lt _ e).1
            obtain ⟨_, _, e2, h2, _⟩ := hc.cells k p HP.out
            simp only [Option.some.injEq, Addr.mk.injEq] at e2
            omega
          have hw1 : IntKind.i64.wrap (p.row - l) = p.row - l := IntWalk.i64_in _ (by omega)
          have hw2 : IntKind.i64.wrap (p.row - l - 1) = (q1 : Int) := by rw [IntWalk.i64_in _ (by omega)]; exact Hq1.out
          have hw3 : IntKind.i64.wrap ((k : Int) - 1) = (k : Int) - 1 := IntWalk.i64_in _ (by omega)
          clear h0
          go_wp2_with fail
          have K0 := HK0.out.drew
          have y0 := K0.c0
          have y3 := (((Below.refl _ wr).alloc (Nat.le_refl _) (.cells #[.int .i64 p.row, .int .i64 p.len, .slice p.ao p.ats.length p.cap] 24)).drew.cell (p := ⟨b, off + (k - 1) * 3, none⟩) hb).trans x3
          have C1 := Lib.hid (refNumber_kept q1 _ (HR0.out.alloc _).drew n1 K0)
          go_region_held3 (fun w' => w'.cell? ⟨wr.heap.size, 0, none⟩ = some (.int .i64 p.row) ∧ w'.cell? ⟨b, off + (k - 1) * 3, none⟩ = some (.int .i64 l)) (first | exact ⟨y0, y3⟩ | exact ⟨K3.c0, keeps X3 y3⟩ | exact ⟨K4.c0, o4.cell (keeps X3 y3) HN.out⟩) (first | (go_at_call 29; ((with_reducible refine C1.out.mono ?_)); rintro e w3 ⟨ao3, c3', rfl, hc3, hown3, K3, X3⟩) | ((with_reducible refine step_append_cells rfl (.tmp 31) (.tmp 42) rfl Try.underlying36 infoByte rfl Nat.one_pos rfl hown3 ao3 (numB q1).length c3' (byteVals (numB q1)) rfl (bl1 _) hc3 (byteVals_one _) HB1.out.1 HB1.out.2 K3.ext.size ?_); intro v4 w4 hown4 o4; have K4 := K3.step o4 (owns_low hown3)) | fail)
          rw [← byteVals_append] at hown4
          go_wp2
          go_meet
          exact ⟨hown4, K4⟩
      case rest =>
        obtain ⟨hown4, K4⟩ := hcut
        have B2 : done.length + (numB q1).length + (numB q2).length ≤ maxLen ∧ (done.length + (numB q1).length + (numB q2).length) * 1 ≤ 140737488355328 := by unfold maxLen; omega
        have B3 : done.length + (numB q1).length + (numB q2).length + (numB q3).length ≤ maxLen ∧ (done.length + (numB q1).length + (numB q2).length + (numB q3).length) * 1 ≤ 140737488355328 := by unfold maxLen; omega
        have C1 := refNumber_kept q2 _ hown4 n2 K4
        rw [← Hq2.out] at C1
        have C2 := Lib.hid C1
        have HB2 := Lib.hid B2
        have HB3 := Lib.hid B3
        have z1 := K4.c1
        clear C1 B2 B3
        go_wp2_with fail
        ((with_reducible refine C2.out.mono ?_); rintro e w5 ⟨ao5, c5', rfl, hc5, hown5, K5, _⟩)
        have C5 := Lib.hid hc5
        have z2 := K5.c2
        clear hc5
        go_wp2_with (at_builtin; refine wpList_append_cells rfl (.tmp 44) (.tmp 48) rfl Try.underlying36 infoByte rfl Nat.one_pos rfl hown5 ao5 (numB q2).length c5' (byteVals (numB q2)) rfl (bl1 _) C5.out (byteVals_one _) HB2.out.1 HB2.out.2 K5.ext.size ?_; intro v6 w6 hown6 o6; have K6 := K5.step o6 (owns_low hown5); have z6 := K6.c2; rw [← byteVals_append] at hown6)
        have C7 := refNumber_kept q3 _ hown6 n3 K6
        rw [← Hq3.out] at C7
        have C8 := Lib.hid C7
        clear C7
        ((with_reducible refine C8.out.mono ?_); rintro e w7 ⟨ao7, c7', rfl, hc7, hown7, K7, _⟩)
        have C7 := Lib.hid hc7
        clear hc7
        go_wp2_with (at_builtin; refine wpList_append_cells rfl (.tmp 50) (.tmp 55) rfl Try.underlying36 infoByte rfl Nat.one_pos rfl hown7 ao7 (numB q3).length c7' (byteVals (numB q3)) rfl (bl1 _) C7.out (byteVals_one _) HB3.out.1 HB3.out.2 K7.ext.size ?_; intro v8 w8 hown8 o8; have K8 := K7.step o8 (owns_low hown7); have z8 := K8.c2; rw [← byteVals_append] at hown8)
        obtain ⟨D, hD⟩ : ∃ D, D = done ++ numB q1 ++ numB q2 ++ numB q3 := ⟨_, rfl⟩
        obtain ⟨N, hN⟩ : ∃ N, N = done.length + (numB q1).length + (numB q2).length + (numB q3).length := ⟨_, rfl⟩
        have hDN : D.length = N := by rw [hD, hN]; simp; omega
        have hNb : N ≤ 10 + 10000030 * k + 30 := by omega
        rw [← hD, ← hN] at hown8
        have HD := Lib.hid hD
        have HDN := Lib.hid hDN
        obtain ⟨m, hm⟩ : ∃ m, m = p.ats.length := ⟨_, rfl⟩
        have Hm := Lib.hid hm
        have hm6 : m ≤ 1000000 := by omega
        have hm0 : 0 < m := by omega
        rw [← hm] at K8 z8
        have hin8 : CellsAt w p.ao (ints p.ats) := hin0
        clear hD hDN hN hm z1 z2 z6 hlen f5
        obtain ⟨wo, rfl⟩ : ∃ wo : World, wo = wr := ⟨_, rfl⟩
        have hBE : Below w.heap.size w w8 := K8.ext
        go_loopw [4, 7] (fun b2 j wx => ∃ (i : Nat) (l2 : Int) (d2 : List UInt8), i ≤ m ∧ -1 ≤ l2 ∧ l2 ≤ 1048576 ∧ j = .int .i64 i ∧ wx.ownsRow w.heap.size 5 1 b2 (N + d2.length) (byteVals (D ++ d2)) ∧ Kept3 w wx b2 wo.heap.size (.int .i64 p.row) (.int .i64 p.len) (.slice p.ao m p.cap) ∧ Hid ((i = 0 → l2 = -1) ∧ ∀ t, i = t + 1 → p.ats[t]? = some l2) ∧ Hid (rowB (-1) p.ats = d2 ++ rowB l2 (p.ats.drop i) ∧ goodFrom l2 p.len (p.ats.drop i) = true ∧ d2.length ≤ 10 * i)) (fun _ j _ => m - (intOf j).toNat)
        case atStart => exact ⟨0, -1, [], Nat.zero_le _, by omega, by omega, rfl, by simpa using hown8, K8, ⟨fun _ => rfl, fun t ht => by omega⟩, ⟨rfl, HF.out.good, by simp⟩⟩
        case round =>
          obtain ⟨i, l2, d2, hi, hl3, hl4, rfl, hr2, K9, hl5, hd2⟩ := hrel
          by_cases hlt2 : i < m
          · obtain ⟨x, hx⟩ := get_of_lt (l := p.ats) Hm.out.symm hlt2
            obtain ⟨bi, offi, epa, hbi, ci⟩ := (hin8.ext K9.ext) i _ (ints_get hx)
            have hinw := hin8.ext K9.ext
            have z9 := K9.c2
            rw [epa] at z9
            obtain ⟨g1, g2, g3⟩ := hd2.out
            rw [drop_of_get hx] at g1 g2
            simp only [goodFrom, Bool.and_eq_true, Bool.not_eq_true', decide_eq_false_iff_not] at g2
            obtain ⟨⟨g4, g5⟩, g6⟩ := g2
            obtain ⟨q, hq⟩ : ∃ q : Nat, x - l2 - 1 = (q : Int) := ⟨(x - l2 - 1).toNat, by omega⟩
            have nq : q < 4611686018427387904 := by omega
            have mq := numB_length nq
            rw [rowB, hq, Int.toNat_natCast] at g1
            have Hg := Lib.hid (And.intro g1 g6)
            have Hq := Lib.hid hq
            have HB := Lib.hid (show N + d2.length + (numB q).length ≤ maxLen ∧ (N + d2.length + (numB q).length) * 1 ≤ 140737488355328 by unfold maxLen; omega)
            have Hx2 := Lib.hid hx
            have HE := Lib.hid epa
            have HC := Lib.hid (refNumber_kept q _ hr2 nq K9)
            clear g1 g6 hq hx epa
            go_upto_block 3 with (fail)
            go_cut [4] (fun b' wy => wy.ownsRow w.heap.size 5 1 b' (N + d2.length + (numB q).length) (byteVals (D ++ d2 ++ numB q)) ∧ Kept3 w wy b' wo.heap.size (.int .i64 p.row) (.int .i64 p.len) (.slice p.ao m p.cap))
            case first =>
              by_cases h0 : i = 0
              · obtain rfl : i = 0 := h0
                obtain rfl : l2 = -1 := hl5.out.1 rfl
                have hq2 : x = (q : Int) := by have := Hq.out; omega
                have C1 := HC.out
                rw [← hq2] at C1
                have C2 := Lib.hid C1
                simp only [Nat.add_zero] at ci
                clear hq2 C1
                go_wp2_with fail
                ((with_reducible refine C2.out.mono ?_); rintro e wa ⟨aoa, ca, rfl, hca, howna, Ka, _⟩)
                have Ca := Lib.hid hca
                clear hca
                go_wp2_with (at_builtin; refine wpList_append_cells rfl (.tmp 66) (.tmp 72) rfl Try.underlying36 infoByte rfl Nat.one_pos rfl howna aoa (numB q).length ca (byteVals (numB q)) rfl (bl1 _) Ca.out (byteVals_one _) HB.out.1 HB.out.2 Ka.ext.size ?_; intro vb wb hownb ob; have Kb := Ka.step ob (owns_low howna); rw [← byteVals_append] at hownb)
                go_meet
                exact ⟨hownb, Kb⟩
              · have hk0 : ((i : Int) == 0) = false := by simpa using h0
                have d4 : decide (((i : Int) - 1) < (m : Int)) = true := by simp; omega
                have d4' : ((i : Int) - 1) < (m : Int) := by omega
                have d4'' : (i : Int) ≤ (m : Int) := by omega
                have d5 : (0 : Int) ≤ (i : Int) - 1 := by omega
                have d5' : (1 : Int) ≤ (i : Int) := by omega
                have d5'' : 1 ≤ i := by omega
                have d6 : ((i : Int) - 1).toNat = i - 1 := by omega
                have cj : wr.cell? ⟨bi, offi + (i - 1), none⟩ = some (.int .i64 l2) := by
                  obtain ⟨b3, off3, e3, _, c5⟩ := hinw (i - 1) _ (ints_get (hl5.out.2 (i - 1) (by omega)))
                  rw [HE.out] at e3
                  simp only [Option.some.injEq, Addr.mk.injEq] at e3
                  obtain ⟨rfl, rfl, _⟩ := e3
                  exact c5
                have hbw : bi < w.heap.size := by
                  obtain ⟨b3, off3, e3, h3, _⟩ := hin8 i _ (ints_get Hx2.out)
                  rw [HE.out] at e3
                  simp only [Option.some.injEq, Addr.mk.injEq] at e3
                  omega
                have hw1 : IntKind.i64.wrap (x - l2) = x - l2 := IntWalk.i64_in _ (by omega)
                have hw2 : IntKind.i64.wrap (x - l2 - 1) = (q : Int) := by rw [IntWalk.i64_in _ (by omega)]; exact Hq.out
                have hw3 : IntKind.i64.wrap ((i : Int) - 1) = (i : Int) - 1 := IntWalk.i64_in _ (by omega)
                have HN : Hid (u4.ownBlock ≠ some bi) := fun e => by
                  have := (hr2.lt _ e).1
                  omega
                clear h0
                go_wp2_with fail
                have C1 := Lib.hid (refNumber_kept q _ hr2.drew nq K9.drew)
                go_region_held3 (fun w' => w'.cell? ⟨wo.heap.size, 2, none⟩ = some (.slice (some ⟨bi, offi, none⟩) m p.cap) ∧ w'.cell? ⟨bi, offi + i, none⟩ = some (.int .i64 x) ∧ w'.cell? ⟨bi, offi + (i - 1), none⟩ = some (.int .i64 l2)) (first | exact ⟨z9, ci, cj⟩ | exact ⟨keeps X3 z9, keeps X3 ci, keeps X3 cj⟩ | exact ⟨o4.cell (keeps X3 z9) K3.ne, o4.cell (keeps X3 ci) HN.out, o4.cell (keeps X3 cj) HN.out⟩) (first | (go_at_call 29; ((with_reducible refine C1.out.mono ?_)); rintro e w3 ⟨ao3, c3', rfl, hc3, hown3, K3, X3⟩) | ((with_reducible refine step_append_cells rfl (.tmp 74) (.tmp 88) rfl Try.underlying36 infoByte rfl Nat.one_pos rfl hown3 ao3 (numB q).length c3' (byteVals (numB q)) rfl (bl1 _) hc3 (byteVals_one _) HB.out.1 HB.out.2 K3.ext.size ?_); intro v4 w4 hown4 o4; have K4 := K3.step o4 (owns_low hown3)) | fail)
                rw [← byteVals_append] at hown4
                go_wp2
                go_meet
                exact ⟨hown4, K4⟩
            case rest =>
              obtain ⟨hownb, Kb⟩ := hcut
              go_wp2
              go_roundw
              case rel =>
                exact ⟨i + 1, x, d2 ++ numB q, by omega, by omega, by omega, by go_num, by simpa [Nat.add_assoc] using hownb, Kb, ⟨fun h => by omega, fun t ht => by
                  obtain rfl : i = t := by omega
                  exact Hx2.out⟩, ⟨by rw [Hg.out.1]; simp, Hg.out.2, by simp; omega⟩⟩
              case measure => simp [intOf]; omega
          · obtain rfl : i = m := by omega
            have z9 := K9.c2
            obtain ⟨g1, _, g3⟩ := hd2.out
            have : p.ats.drop i = [] := by have := Hm.out; simp; omega
            rw [this, rowB, List.append_nil] at g1
            have Hg := Lib.hid g1
            clear g1 this
            go_wp2
            go_roundw
            case rel =>
              obtain ⟨h1, h2⟩ := Hd.out
              have hL : (D ++ d2).length = N + d2.length := by rw [List.length_append, HDN.out]
              refine ⟨k + 1, p.row, D ++ d2, by omega, by omega, by omega, by go_num, ?_, K9.ext, ⟨fun h => by omega, Hl'.out⟩, ⟨by rw [h1, HD.out, Hg.out]; simp, h2, by rw [hL]; omega⟩⟩
              rw [hL]; exact hr2
            case measure => simp [intOf]; omega
    · obtain rfl : k = n := by omega
      obtain ⟨h1, _, _⟩ := hd.out
      have : ps.drop k = [] := by have := Hx.out; simp; omega
      rw [this, packL, List.append_nil] at h1
      have H1 := Lib.hid h1
      clear h1 this
      go_wp2
      go_ret2
      exact ⟨_, rfl, by rw [H1.out]; exact hr, he⟩
end Go.Proofs.Ytdlijjmjfepklaa
