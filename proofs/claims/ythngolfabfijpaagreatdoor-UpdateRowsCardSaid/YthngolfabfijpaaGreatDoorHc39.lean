/-
  The walk of utf8.AppendRune at the codes that UTF-8 may hold.
-/
import Derived.Test.YthngolfabfijpaaGreatDoorHc2
import Derived.Test.YthngolfabfijpaaGreatDoorHc38
namespace Go.TL
open Go Go.RowKit Go.Proofs.YthngolfabfijpaaGreatDoor
section
variable {P : Program} {n : Nat} {ds : List Deferred} {S : Slots} {g : Gh} {L : List Ent} {gd : Option (Nat × Bool)} {dst : Option Nat} {x y : Operand} {t t' ty : TypeId} {pos : String} {aft : Array Edge} {k k' : IntKind} {a m c j : Nat}
theorem wrap_u8 (p : Int) : IntKind.u8.wrap p = p % 256 := by simp [IntKind.wrap, IntKind.bits, IntKind.signed]
theorem Y.u8_of [ht : Und P t (.int .u8)] [hu : Und P t' (.int k')] (hx : ev S x = some (.int k' (c : Nat))) (_hc : c ≤ 255 ∧ m = c) : Yields P n ds S g L ⟨dst, .convert t' t x, ty, pos, aft, gd⟩ (.int .u8 (m : Nat)) :=
  Y.conv_int hx (by rw [wrap_u8]; omega)
theorem Y.u8_low [ht : Und P t (.int .u8)] [hu : Und P t' (.int k')] (hx : ev S x = some (.int k' (c : Nat))) (_hc : m = c % 256) : Yields P n ds S g L ⟨dst, .convert t' t x, ty, pos, aft, gd⟩ (.int .u8 (m : Nat)) :=
  Y.conv_int hx (by rw [wrap_u8]; omega)
theorem Y.shr_n {q : Int} (hx : ev S x = some (.int k (c : Nat))) (hy : ev S y = some (.int k' q)) (hq : q = j) (hj : j ≤ k.bits) (hm : m = c / 2 ^ j) : Yields P n ds S g L ⟨dst, .binOp .shr t x y t', ty, pos, aft, gd⟩ (.int k (m : Nat)) := by
  subst hm
  refine Y.shr hx hy hq hj ?_
  rw [Int.fdiv_eq_ediv_of_nonneg _ (by exact_mod_cast Nat.zero_le (2 ^ j))]
  exact_mod_cast rfl
theorem and63 (a : Nat) : a &&& 63 = a % 64 := Nat.and_two_pow_sub_one_eq_mod a 6
theorem Y.and63 (hx : ev S x = some (.int .u8 (a : Nat))) (hy : ev S y = some (.int .u8 63)) (_ha : a < 256) (_hm : m = a % 64) : Yields P n ds S g L ⟨dst, .binOp .and t x y t', ty, pos, aft, gd⟩ (.int .u8 (m : Nat)) :=
  Y.and (a := a) (b := 63) hx hy rfl rfl (by show a < 2 ^ 8; omega) (by decide) (by rw [wrap_u8, Go.TL.and63]; omega)
theorem or_hi_eq (h q m : Nat) (j : Nat) (hh : h = 2 ^ j * q) (hm : m < 2 ^ j) : h ||| m = h + m := by
  subst hh; rw [Nat.two_pow_add_eq_or_of_lt hm]
theorem Y.or_hi {h r : Nat} (ho : h ||| m = h + m) (hx : ev S x = some (.int .u8 (h : Nat))) (hy : ev S y = some (.int .u8 (m : Nat))) (_hr : h + m < 256 ∧ r = h + m) : Yields P n ds S g L ⟨dst, .binOp .or t x y t', ty, pos, aft, gd⟩ (.int .u8 (r : Nat)) :=
  Y.or (a := h) (b := m) hx hy rfl rfl (by show h < 2 ^ 8; omega) (by show m < 2 ^ 8; omega) (by rw [wrap_u8, ho]; omega)
end
end Go.TL
namespace Go.TL
open Go Go.RowKit Go.Proofs.YthngolfabfijpaaGreatDoor
section
variable {P : Program} {n : Nat} {ds : List Deferred} {S : Slots} {g : Gh} {L : List Ent} {gd : Option (Nat × Bool)} {dst : Option Nat} {x y : Operand} {t t' ty : TypeId} {pos : String} {aft : Array Edge} {p q : Int} {k : IntKind}
theorem Y.ltB {b : Bool} (hb : decide (p < q) = b) (hx : ev S x = some (.int k p)) (hy : ev S y = some (.int k q)) : Yields P n ds S g L ⟨dst, .binOp .lss t x y t', ty, pos, aft, gd⟩ (.bool b) := by
  subst hb; exact Y.lss hx hy
theorem Y.leB {b : Bool} (hb : decide (p ≤ q) = b) (hx : ev S x = some (.int k p)) (hy : ev S y = some (.int k q)) : Yields P n ds S g L ⟨dst, .binOp .leq t x y t', ty, pos, aft, gd⟩ (.bool b) := by
  subst hb; exact Y.leq hx hy
theorem Y.gtB {b : Bool} (hb : decide (q < p) = b) (hx : ev S x = some (.int k p)) (hy : ev S y = some (.int k q)) : Yields P n ds S g L ⟨dst, .binOp .gtr t x y t', ty, pos, aft, gd⟩ (.bool b) := by
  subst hb; exact Y.gtr hx hy
end
end Go.TL
namespace Go.Proofs.YthngolfabfijpaaGreatDoor
open Go.RowKit Go.TL
set_option maxRecDepth 100000

def AppR (l : List UInt8) (g : Gh) (L : List Ent) : Ending → Gh → List Ent → Prop := fun r g' L1 => ∃ a c, r = .returned (.slice a l.length c) ∧ g' = g ∧ L1 = .row 5 1 (.slice a l.length c) l.length (byteVals l) :: L
theorem bv2 (l : List UInt8) (a b : Nat) (_ha : a < 256) (_hb : b < 256) : byteVals l ++ [Value.int .u8 (a : Nat), Value.int .u8 (b : Nat)] = byteVals (l ++ [UInt8.ofNat a, UInt8.ofNat b]) := by
  rw [byteVals_append]; simp only [byteVals, List.map_cons, List.map_nil]
  rw [show (UInt8.ofNat a).toNat = a by simp; omega, show (UInt8.ofNat b).toNat = b by simp; omega]
theorem bv3 (l : List UInt8) (a b c : Nat) (_ha : a < 256) (_hb : b < 256) (_hc : c < 256) : byteVals l ++ [Value.int .u8 (a : Nat), Value.int .u8 (b : Nat), Value.int .u8 (c : Nat)] = byteVals (l ++ [UInt8.ofNat a, UInt8.ofNat b, UInt8.ofNat c]) := by
  rw [byteVals_append]; simp only [byteVals, List.map_cons, List.map_nil]
  rw [show (UInt8.ofNat a).toNat = a by simp; omega, show (UInt8.ofNat b).toNat = b by simp; omega, show (UInt8.ofNat c).toNat = c by simp; omega]
theorem bv4 (l : List UInt8) (a b c d : Nat) (_ha : a < 256) (_hb : b < 256) (_hc : c < 256) (_hd : d < 256) : byteVals l ++ [Value.int .u8 (a : Nat), Value.int .u8 (b : Nat), Value.int .u8 (c : Nat), Value.int .u8 (d : Nat)] = byteVals (l ++ [UInt8.ofNat a, UInt8.ofNat b, UInt8.ofNat c, UInt8.ofNat d]) := by
  rw [byteVals_append]; simp only [byteVals, List.map_cons, List.map_nil]
  rw [show (UInt8.ofNat a).toNat = a by simp; omega, show (UInt8.ofNat b).toNat = b by simp; omega, show (UInt8.ofNat c).toNat = c by simp; omega, show (UInt8.ofNat d).toNat = d by simp; omega]
set_option maxHeartbeats 8000000 in
theorem appnon_does (c : Nat) (_hc : 128 ≤ c) (hg : goodC c) (l : List UInt8) (ao : Option Addr) (cap : Nat) (g : Gh) (L : List Ent) (_hl : l.length ≤ 100000000) : Does Tryz.prog 182 #[.slice ao l.length cap, .int .i32 (c : Nat)] g (.row 5 1 (.slice ao l.length cap) l.length (byteVals l) :: L) (AppR (l ++ signB c) g L) := by
  refine Does.of2 Tryz.func182 rfl Tryz.ntmps182 rfl ?_
  obtain ⟨hg1, hg2⟩ := hg
  unfold AppR
  by_cases c2 : c ≤ 2047
  · have hs : signB c = [UInt8.ofNat (192 + c / 64), UInt8.ofNat (128 + c % 64)] := by unfold signB; rw [if_neg (by omega), if_pos (by omega)]
    have O1 := or_hi_eq 192 3 (c / 64) 6 rfl (by omega)
    have O2 := or_hi_eq 128 1 (c % 64) 7 rfl (by omega)
    have C2 : Hn (((c : Nat) : Int) ≤ 2047) := ⟨by omega⟩
    repeat' (first
    | refine wkQ ?_
    | ((with_reducible apply TL.pure (d := 13) (v := .bool true)); (· exact Y.leB (decide_eq_true C2.out) rfl rfl); (· rfl)) | ((with_reducible apply TW.pure (d := 13) (v := .bool true)); (· exact Y.leB (decide_eq_true C2.out) rfl rfl); (· rfl))
    | ((with_reducible apply TL.pure (d := 16) (v := .int .i32 ((c / 64 : Nat) : Int))); (· exact Y.shr_n rfl rfl (show (6 : Int) = (6 : Nat) from rfl) (by decide) (by omega)); (· rfl)) | ((with_reducible apply TW.pure (d := 16) (v := .int .i32 ((c / 64 : Nat) : Int))); (· exact Y.shr_n rfl rfl (show (6 : Int) = (6 : Nat) from rfl) (by decide) (by omega)); (· rfl))
    | ((with_reducible apply TL.pure (d := 17) (v := .int .u8 ((c / 64 : Nat) : Int))); (· exact Y.u8_of rfl (by omega)); (· rfl)) | ((with_reducible apply TW.pure (d := 17) (v := .int .u8 ((c / 64 : Nat) : Int))); (· exact Y.u8_of rfl (by omega)); (· rfl))
    | ((with_reducible apply TL.pure (d := 18) (v := .int .u8 ((192 + c / 64 : Nat) : Int))); (· exact Y.or_hi (O1) rfl rfl (by omega)); (· rfl)) | ((with_reducible apply TW.pure (d := 18) (v := .int .u8 ((192 + c / 64 : Nat) : Int))); (· exact Y.or_hi (O1) rfl rfl (by omega)); (· rfl))
    | ((with_reducible apply TL.pure (d := 20) (v := .int .u8 ((c % 256 : Nat) : Int))); (· exact Y.u8_low rfl (by omega)); (· rfl)) | ((with_reducible apply TW.pure (d := 20) (v := .int .u8 ((c % 256 : Nat) : Int))); (· exact Y.u8_low rfl (by omega)); (· rfl))
    | ((with_reducible apply TL.pure (d := 21) (v := .int .u8 ((c % 64 : Nat) : Int))); (· exact Y.and63 rfl rfl (by omega) (by omega)); (· rfl)) | ((with_reducible apply TW.pure (d := 21) (v := .int .u8 ((c % 64 : Nat) : Int))); (· exact Y.and63 rfl rfl (by omega) (by omega)); (· rfl))
    | ((with_reducible apply TL.pure (d := 22) (v := .int .u8 ((128 + c % 64 : Nat) : Int))); (· exact Y.or_hi (O2) rfl rfl (by omega)); (· rfl)) | ((with_reducible apply TW.pure (d := 22) (v := .int .u8 ((128 + c % 64 : Nat) : Int))); (· exact Y.or_hi (O2) rfl rfl (by omega)); (· rfl))
    | refine wkV ?_
    | ((with_reducible apply TL.build_slice); (· rfl); (· rfl); (· exact oneA); (· rfl); (· rfl); (· rfl); intro _) | refine TL.build_one (by rfl) (by first | rfl | assumption) (by rfl) (by rfl) (by rfl) (by rfl) (fun _ => ?_) | refine TL.build_empty (by rfl) (fun _ => ?_)
    | ((with_reducible apply TL.append (e := 5)); (· rfl); (· rfl); (· rfl); (· rfl); (· exact pkA); (· exact Src.obj pkA); (· rfl); (· rfl); (· exact ⟨by unfold maxLen; omega, by omega⟩); (· rfl); intro vf; refine Go.TL.TL.row_slice (v := vf) pkA ?_; rintro aq cq rfl _)
    | refine stS ?_ | (refine stB ?_; intro _) | (refine stC ?_; refine And.intro (fun _ => ?_) (fun _ => ?_)))
    rw [hs, show l.length + 2 = (l ++ [UInt8.ofNat (192 + c / 64), UInt8.ofNat (128 + c % 64)]).length by simp, bv2 _ _ _ (by omega) (by omega)]
    refine TQ.endR1 (L' := (.row 5 1 (.slice aq (l ++ [UInt8.ofNat (192 + c / 64), UInt8.ofNat (128 + c % 64)]).length cq) (l ++ [UInt8.ofNat (192 + c / 64), UInt8.ofNat (128 + c % 64)]).length (byteVals (l ++ [UInt8.ofNat (192 + c / 64), UInt8.ofNat (128 + c % 64)])) :: L)) Tryz.results182 rvA rfl (.refl _) ?_ selF
    exact ⟨aq, cq, rfl, rfl, rfl⟩
  · have C2 : Hn (¬ ((c : Nat) : Int) ≤ 2047) := ⟨by omega⟩
    have O2 := or_hi_eq 128 1 (c / 64 % 64) 7 rfl (by omega)
    have O3 := or_hi_eq 128 1 (c % 64) 7 rfl (by omega)
    by_cases c3 : c ≤ 65535
    · have hs : signB c = [UInt8.ofNat (224 + c / 4096), UInt8.ofNat (128 + c / 64 % 64), UInt8.ofNat (128 + c % 64)] := by unfold signB; rw [if_neg (by omega), if_neg (by omega), if_pos (by omega)]
      have O1 := or_hi_eq 224 14 (c / 4096) 4 rfl (by omega)
      by_cases c4 : c < 55296
      · have C3 : Hn (((c : Nat) : Int) < 55296) := ⟨by omega⟩
        repeat' (first
    | refine wkQ ?_
    | ((with_reducible apply TL.pure (d := 13) (v := .bool false)); (· exact Y.leB (decide_eq_false C2.out) rfl rfl); (· rfl)) | ((with_reducible apply TW.pure (d := 13) (v := .bool false)); (· exact Y.leB (decide_eq_false C2.out) rfl rfl); (· rfl))
    | ((with_reducible apply TL.pure (d := 27) (v := .bool true)); (· exact Y.ltB (decide_eq_true C3.out) rfl rfl); (· rfl)) | ((with_reducible apply TW.pure (d := 27) (v := .bool true)); (· exact Y.ltB (decide_eq_true C3.out) rfl rfl); (· rfl))
    | ((with_reducible apply TL.pure (d := 36) (v := .int .i32 ((c / 4096 : Nat) : Int))); (· exact Y.shr_n rfl rfl (show (12 : Int) = (12 : Nat) from rfl) (by decide) (by omega)); (· rfl)) | ((with_reducible apply TW.pure (d := 36) (v := .int .i32 ((c / 4096 : Nat) : Int))); (· exact Y.shr_n rfl rfl (show (12 : Int) = (12 : Nat) from rfl) (by decide) (by omega)); (· rfl))
    | ((with_reducible apply TL.pure (d := 37) (v := .int .u8 ((c / 4096 : Nat) : Int))); (· exact Y.u8_of rfl (by omega)); (· rfl)) | ((with_reducible apply TW.pure (d := 37) (v := .int .u8 ((c / 4096 : Nat) : Int))); (· exact Y.u8_of rfl (by omega)); (· rfl))
    | ((with_reducible apply TL.pure (d := 38) (v := .int .u8 ((224 + c / 4096 : Nat) : Int))); (· exact Y.or_hi (O1) rfl rfl (by omega)); (· rfl)) | ((with_reducible apply TW.pure (d := 38) (v := .int .u8 ((224 + c / 4096 : Nat) : Int))); (· exact Y.or_hi (O1) rfl rfl (by omega)); (· rfl))
    | ((with_reducible apply TL.pure (d := 40) (v := .int .i32 ((c / 64 : Nat) : Int))); (· exact Y.shr_n rfl rfl (show (6 : Int) = (6 : Nat) from rfl) (by decide) (by omega)); (· rfl)) | ((with_reducible apply TW.pure (d := 40) (v := .int .i32 ((c / 64 : Nat) : Int))); (· exact Y.shr_n rfl rfl (show (6 : Int) = (6 : Nat) from rfl) (by decide) (by omega)); (· rfl))
    | ((with_reducible apply TL.pure (d := 41) (v := .int .u8 ((c / 64 % 256 : Nat) : Int))); (· exact Y.u8_low rfl (by omega)); (· rfl)) | ((with_reducible apply TW.pure (d := 41) (v := .int .u8 ((c / 64 % 256 : Nat) : Int))); (· exact Y.u8_low rfl (by omega)); (· rfl))
    | ((with_reducible apply TL.pure (d := 42) (v := .int .u8 ((c / 64 % 64 : Nat) : Int))); (· exact Y.and63 rfl rfl (by omega) (by omega)); (· rfl)) | ((with_reducible apply TW.pure (d := 42) (v := .int .u8 ((c / 64 % 64 : Nat) : Int))); (· exact Y.and63 rfl rfl (by omega) (by omega)); (· rfl))
    | ((with_reducible apply TL.pure (d := 43) (v := .int .u8 ((128 + c / 64 % 64 : Nat) : Int))); (· exact Y.or_hi (O2) rfl rfl (by omega)); (· rfl)) | ((with_reducible apply TW.pure (d := 43) (v := .int .u8 ((128 + c / 64 % 64 : Nat) : Int))); (· exact Y.or_hi (O2) rfl rfl (by omega)); (· rfl))
    | ((with_reducible apply TL.pure (d := 45) (v := .int .u8 ((c % 256 : Nat) : Int))); (· exact Y.u8_low rfl (by omega)); (· rfl)) | ((with_reducible apply TW.pure (d := 45) (v := .int .u8 ((c % 256 : Nat) : Int))); (· exact Y.u8_low rfl (by omega)); (· rfl))
    | ((with_reducible apply TL.pure (d := 46) (v := .int .u8 ((c % 64 : Nat) : Int))); (· exact Y.and63 rfl rfl (by omega) (by omega)); (· rfl)) | ((with_reducible apply TW.pure (d := 46) (v := .int .u8 ((c % 64 : Nat) : Int))); (· exact Y.and63 rfl rfl (by omega) (by omega)); (· rfl))
    | ((with_reducible apply TL.pure (d := 47) (v := .int .u8 ((128 + c % 64 : Nat) : Int))); (· exact Y.or_hi (O3) rfl rfl (by omega)); (· rfl)) | ((with_reducible apply TW.pure (d := 47) (v := .int .u8 ((128 + c % 64 : Nat) : Int))); (· exact Y.or_hi (O3) rfl rfl (by omega)); (· rfl))
    | refine wkV ?_
    | ((with_reducible apply TL.build_slice); (· rfl); (· rfl); (· exact oneA); (· rfl); (· rfl); (· rfl); intro _) | refine TL.build_one (by rfl) (by first | rfl | assumption) (by rfl) (by rfl) (by rfl) (by rfl) (fun _ => ?_) | refine TL.build_empty (by rfl) (fun _ => ?_)
    | ((with_reducible apply TL.append (e := 5)); (· rfl); (· rfl); (· rfl); (· rfl); (· exact pkA); (· exact Src.obj pkA); (· rfl); (· rfl); (· exact ⟨by unfold maxLen; omega, by omega⟩); (· rfl); intro vf; refine Go.TL.TL.row_slice (v := vf) pkA ?_; rintro aq cq rfl _)
    | refine stS ?_ | (refine stB ?_; intro _) | (refine stC ?_; refine And.intro (fun _ => ?_) (fun _ => ?_)))
        rw [hs, show l.length + 3 = (l ++ [UInt8.ofNat (224 + c / 4096), UInt8.ofNat (128 + c / 64 % 64), UInt8.ofNat (128 + c % 64)]).length by simp, bv3 _ _ _ _ (by omega) (by omega) (by omega)]
        refine TQ.endR1 (L' := (.row 5 1 (.slice aq (l ++ [UInt8.ofNat (224 + c / 4096), UInt8.ofNat (128 + c / 64 % 64), UInt8.ofNat (128 + c % 64)]).length cq) (l ++ [UInt8.ofNat (224 + c / 4096), UInt8.ofNat (128 + c / 64 % 64), UInt8.ofNat (128 + c % 64)]).length (byteVals (l ++ [UInt8.ofNat (224 + c / 4096), UInt8.ofNat (128 + c / 64 % 64), UInt8.ofNat (128 + c % 64)])) :: L)) Tryz.results182 rvA rfl (.refl _) ?_ selF
        exact ⟨aq, cq, rfl, rfl, rfl⟩
      · have C3 : Hn (¬ ((c : Nat) : Int) < 55296) := ⟨by omega⟩
        have C4 : Hn ((57343 : Int) < (c : Nat)) := ⟨by omega⟩
        have C5 : Hn (((c : Nat) : Int) ≤ 65535) := ⟨by omega⟩
        repeat' (first
    | refine wkQ ?_
    | ((with_reducible apply TL.pure (d := 13) (v := .bool false)); (· exact Y.leB (decide_eq_false C2.out) rfl rfl); (· rfl)) | ((with_reducible apply TW.pure (d := 13) (v := .bool false)); (· exact Y.leB (decide_eq_false C2.out) rfl rfl); (· rfl))
    | ((with_reducible apply TL.pure (d := 27) (v := .bool false)); (· exact Y.ltB (decide_eq_false C3.out) rfl rfl); (· rfl)) | ((with_reducible apply TW.pure (d := 27) (v := .bool false)); (· exact Y.ltB (decide_eq_false C3.out) rfl rfl); (· rfl))
    | ((with_reducible apply TL.pure (d := 29) (v := .bool true)); (· exact Y.ltB (decide_eq_true C4.out) rfl rfl); (· rfl)) | ((with_reducible apply TW.pure (d := 29) (v := .bool true)); (· exact Y.ltB (decide_eq_true C4.out) rfl rfl); (· rfl))
    | ((with_reducible apply TL.pure (d := 32) (v := .bool true)); (· exact Y.leB (decide_eq_true C5.out) rfl rfl); (· rfl)) | ((with_reducible apply TW.pure (d := 32) (v := .bool true)); (· exact Y.leB (decide_eq_true C5.out) rfl rfl); (· rfl))
    | ((with_reducible apply TL.pure (d := 36) (v := .int .i32 ((c / 4096 : Nat) : Int))); (· exact Y.shr_n rfl rfl (show (12 : Int) = (12 : Nat) from rfl) (by decide) (by omega)); (· rfl)) | ((with_reducible apply TW.pure (d := 36) (v := .int .i32 ((c / 4096 : Nat) : Int))); (· exact Y.shr_n rfl rfl (show (12 : Int) = (12 : Nat) from rfl) (by decide) (by omega)); (· rfl))
    | ((with_reducible apply TL.pure (d := 37) (v := .int .u8 ((c / 4096 : Nat) : Int))); (· exact Y.u8_of rfl (by omega)); (· rfl)) | ((with_reducible apply TW.pure (d := 37) (v := .int .u8 ((c / 4096 : Nat) : Int))); (· exact Y.u8_of rfl (by omega)); (· rfl))
    | ((with_reducible apply TL.pure (d := 38) (v := .int .u8 ((224 + c / 4096 : Nat) : Int))); (· exact Y.or_hi (O1) rfl rfl (by omega)); (· rfl)) | ((with_reducible apply TW.pure (d := 38) (v := .int .u8 ((224 + c / 4096 : Nat) : Int))); (· exact Y.or_hi (O1) rfl rfl (by omega)); (· rfl))
    | ((with_reducible apply TL.pure (d := 40) (v := .int .i32 ((c / 64 : Nat) : Int))); (· exact Y.shr_n rfl rfl (show (6 : Int) = (6 : Nat) from rfl) (by decide) (by omega)); (· rfl)) | ((with_reducible apply TW.pure (d := 40) (v := .int .i32 ((c / 64 : Nat) : Int))); (· exact Y.shr_n rfl rfl (show (6 : Int) = (6 : Nat) from rfl) (by decide) (by omega)); (· rfl))
    | ((with_reducible apply TL.pure (d := 41) (v := .int .u8 ((c / 64 % 256 : Nat) : Int))); (· exact Y.u8_low rfl (by omega)); (· rfl)) | ((with_reducible apply TW.pure (d := 41) (v := .int .u8 ((c / 64 % 256 : Nat) : Int))); (· exact Y.u8_low rfl (by omega)); (· rfl))
    | ((with_reducible apply TL.pure (d := 42) (v := .int .u8 ((c / 64 % 64 : Nat) : Int))); (· exact Y.and63 rfl rfl (by omega) (by omega)); (· rfl)) | ((with_reducible apply TW.pure (d := 42) (v := .int .u8 ((c / 64 % 64 : Nat) : Int))); (· exact Y.and63 rfl rfl (by omega) (by omega)); (· rfl))
    | ((with_reducible apply TL.pure (d := 43) (v := .int .u8 ((128 + c / 64 % 64 : Nat) : Int))); (· exact Y.or_hi (O2) rfl rfl (by omega)); (· rfl)) | ((with_reducible apply TW.pure (d := 43) (v := .int .u8 ((128 + c / 64 % 64 : Nat) : Int))); (· exact Y.or_hi (O2) rfl rfl (by omega)); (· rfl))
    | ((with_reducible apply TL.pure (d := 45) (v := .int .u8 ((c % 256 : Nat) : Int))); (· exact Y.u8_low rfl (by omega)); (· rfl)) | ((with_reducible apply TW.pure (d := 45) (v := .int .u8 ((c % 256 : Nat) : Int))); (· exact Y.u8_low rfl (by omega)); (· rfl))
    | ((with_reducible apply TL.pure (d := 46) (v := .int .u8 ((c % 64 : Nat) : Int))); (· exact Y.and63 rfl rfl (by omega) (by omega)); (· rfl)) | ((with_reducible apply TW.pure (d := 46) (v := .int .u8 ((c % 64 : Nat) : Int))); (· exact Y.and63 rfl rfl (by omega) (by omega)); (· rfl))
    | ((with_reducible apply TL.pure (d := 47) (v := .int .u8 ((128 + c % 64 : Nat) : Int))); (· exact Y.or_hi (O3) rfl rfl (by omega)); (· rfl)) | ((with_reducible apply TW.pure (d := 47) (v := .int .u8 ((128 + c % 64 : Nat) : Int))); (· exact Y.or_hi (O3) rfl rfl (by omega)); (· rfl))
    | refine wkV ?_
    | ((with_reducible apply TL.build_slice); (· rfl); (· rfl); (· exact oneA); (· rfl); (· rfl); (· rfl); intro _) | refine TL.build_one (by rfl) (by first | rfl | assumption) (by rfl) (by rfl) (by rfl) (by rfl) (fun _ => ?_) | refine TL.build_empty (by rfl) (fun _ => ?_)
    | ((with_reducible apply TL.append (e := 5)); (· rfl); (· rfl); (· rfl); (· rfl); (· exact pkA); (· exact Src.obj pkA); (· rfl); (· rfl); (· exact ⟨by unfold maxLen; omega, by omega⟩); (· rfl); intro vf; refine Go.TL.TL.row_slice (v := vf) pkA ?_; rintro aq cq rfl _)
    | refine stS ?_ | (refine stB ?_; intro _) | (refine stC ?_; refine And.intro (fun _ => ?_) (fun _ => ?_)))
        rw [hs, show l.length + 3 = (l ++ [UInt8.ofNat (224 + c / 4096), UInt8.ofNat (128 + c / 64 % 64), UInt8.ofNat (128 + c % 64)]).length by simp, bv3 _ _ _ _ (by omega) (by omega) (by omega)]
        refine TQ.endR1 (L' := (.row 5 1 (.slice aq (l ++ [UInt8.ofNat (224 + c / 4096), UInt8.ofNat (128 + c / 64 % 64), UInt8.ofNat (128 + c % 64)]).length cq) (l ++ [UInt8.ofNat (224 + c / 4096), UInt8.ofNat (128 + c / 64 % 64), UInt8.ofNat (128 + c % 64)]).length (byteVals (l ++ [UInt8.ofNat (224 + c / 4096), UInt8.ofNat (128 + c / 64 % 64), UInt8.ofNat (128 + c % 64)])) :: L)) Tryz.results182 rvA rfl (.refl _) ?_ selF
        exact ⟨aq, cq, rfl, rfl, rfl⟩
    · have hs : signB c = [UInt8.ofNat (240 + c / 262144), UInt8.ofNat (128 + c / 4096 % 64), UInt8.ofNat (128 + c / 64 % 64), UInt8.ofNat (128 + c % 64)] := by unfold signB; rw [if_neg (by omega), if_neg (by omega), if_neg (by omega)]
      have O1 := or_hi_eq 240 30 (c / 262144) 3 rfl (by omega)
      have O4 := or_hi_eq 128 1 (c / 4096 % 64) 7 rfl (by omega)
      have C3 : Hn (¬ ((c : Nat) : Int) < 55296) := ⟨by omega⟩
      have C4 : Hn ((57343 : Int) < (c : Nat)) := ⟨by omega⟩
      have C5 : Hn (¬ ((c : Nat) : Int) ≤ 65535) := ⟨by omega⟩
      have C6 : Hn ((65535 : Int) < (c : Nat)) := ⟨by omega⟩
      have C7 : Hn (((c : Nat) : Int) ≤ 1114111) := ⟨by omega⟩
      repeat' (first
    | refine wkQ ?_
    | ((with_reducible apply TL.pure (d := 13) (v := .bool false)); (· exact Y.leB (decide_eq_false C2.out) rfl rfl); (· rfl)) | ((with_reducible apply TW.pure (d := 13) (v := .bool false)); (· exact Y.leB (decide_eq_false C2.out) rfl rfl); (· rfl))
    | ((with_reducible apply TL.pure (d := 27) (v := .bool false)); (· exact Y.ltB (decide_eq_false C3.out) rfl rfl); (· rfl)) | ((with_reducible apply TW.pure (d := 27) (v := .bool false)); (· exact Y.ltB (decide_eq_false C3.out) rfl rfl); (· rfl))
    | ((with_reducible apply TL.pure (d := 29) (v := .bool true)); (· exact Y.ltB (decide_eq_true C4.out) rfl rfl); (· rfl)) | ((with_reducible apply TW.pure (d := 29) (v := .bool true)); (· exact Y.ltB (decide_eq_true C4.out) rfl rfl); (· rfl))
    | ((with_reducible apply TL.pure (d := 32) (v := .bool false)); (· exact Y.leB (decide_eq_false C5.out) rfl rfl); (· rfl)) | ((with_reducible apply TW.pure (d := 32) (v := .bool false)); (· exact Y.leB (decide_eq_false C5.out) rfl rfl); (· rfl))
    | ((with_reducible apply TL.pure (d := 52) (v := .bool true)); (· exact Y.gtB (decide_eq_true C6.out) rfl rfl); (· rfl)) | ((with_reducible apply TW.pure (d := 52) (v := .bool true)); (· exact Y.gtB (decide_eq_true C6.out) rfl rfl); (· rfl))
    | ((with_reducible apply TL.pure (d := 55) (v := .bool true)); (· exact Y.leB (decide_eq_true C7.out) rfl rfl); (· rfl)) | ((with_reducible apply TW.pure (d := 55) (v := .bool true)); (· exact Y.leB (decide_eq_true C7.out) rfl rfl); (· rfl))
    | ((with_reducible apply TL.pure (d := 59) (v := .int .i32 ((c / 262144 : Nat) : Int))); (· exact Y.shr_n rfl rfl (show (18 : Int) = (18 : Nat) from rfl) (by decide) (by omega)); (· rfl)) | ((with_reducible apply TW.pure (d := 59) (v := .int .i32 ((c / 262144 : Nat) : Int))); (· exact Y.shr_n rfl rfl (show (18 : Int) = (18 : Nat) from rfl) (by decide) (by omega)); (· rfl))
    | ((with_reducible apply TL.pure (d := 60) (v := .int .u8 ((c / 262144 : Nat) : Int))); (· exact Y.u8_of rfl (by omega)); (· rfl)) | ((with_reducible apply TW.pure (d := 60) (v := .int .u8 ((c / 262144 : Nat) : Int))); (· exact Y.u8_of rfl (by omega)); (· rfl))
    | ((with_reducible apply TL.pure (d := 61) (v := .int .u8 ((240 + c / 262144 : Nat) : Int))); (· exact Y.or_hi (O1) rfl rfl (by omega)); (· rfl)) | ((with_reducible apply TW.pure (d := 61) (v := .int .u8 ((240 + c / 262144 : Nat) : Int))); (· exact Y.or_hi (O1) rfl rfl (by omega)); (· rfl))
    | ((with_reducible apply TL.pure (d := 63) (v := .int .i32 ((c / 4096 : Nat) : Int))); (· exact Y.shr_n rfl rfl (show (12 : Int) = (12 : Nat) from rfl) (by decide) (by omega)); (· rfl)) | ((with_reducible apply TW.pure (d := 63) (v := .int .i32 ((c / 4096 : Nat) : Int))); (· exact Y.shr_n rfl rfl (show (12 : Int) = (12 : Nat) from rfl) (by decide) (by omega)); (· rfl))
    | ((with_reducible apply TL.pure (d := 64) (v := .int .u8 ((c / 4096 % 256 : Nat) : Int))); (· exact Y.u8_low rfl (by omega)); (· rfl)) | ((with_reducible apply TW.pure (d := 64) (v := .int .u8 ((c / 4096 % 256 : Nat) : Int))); (· exact Y.u8_low rfl (by omega)); (· rfl))
    | ((with_reducible apply TL.pure (d := 65) (v := .int .u8 ((c / 4096 % 64 : Nat) : Int))); (· exact Y.and63 rfl rfl (by omega) (by omega)); (· rfl)) | ((with_reducible apply TW.pure (d := 65) (v := .int .u8 ((c / 4096 % 64 : Nat) : Int))); (· exact Y.and63 rfl rfl (by omega) (by omega)); (· rfl))
    | ((with_reducible apply TL.pure (d := 66) (v := .int .u8 ((128 + c / 4096 % 64 : Nat) : Int))); (· exact Y.or_hi (O4) rfl rfl (by omega)); (· rfl)) | ((with_reducible apply TW.pure (d := 66) (v := .int .u8 ((128 + c / 4096 % 64 : Nat) : Int))); (· exact Y.or_hi (O4) rfl rfl (by omega)); (· rfl))
    | ((with_reducible apply TL.pure (d := 68) (v := .int .i32 ((c / 64 : Nat) : Int))); (· exact Y.shr_n rfl rfl (show (6 : Int) = (6 : Nat) from rfl) (by decide) (by omega)); (· rfl)) | ((with_reducible apply TW.pure (d := 68) (v := .int .i32 ((c / 64 : Nat) : Int))); (· exact Y.shr_n rfl rfl (show (6 : Int) = (6 : Nat) from rfl) (by decide) (by omega)); (· rfl))
    | ((with_reducible apply TL.pure (d := 69) (v := .int .u8 ((c / 64 % 256 : Nat) : Int))); (· exact Y.u8_low rfl (by omega)); (· rfl)) | ((with_reducible apply TW.pure (d := 69) (v := .int .u8 ((c / 64 % 256 : Nat) : Int))); (· exact Y.u8_low rfl (by omega)); (· rfl))
    | ((with_reducible apply TL.pure (d := 70) (v := .int .u8 ((c / 64 % 64 : Nat) : Int))); (· exact Y.and63 rfl rfl (by omega) (by omega)); (· rfl)) | ((with_reducible apply TW.pure (d := 70) (v := .int .u8 ((c / 64 % 64 : Nat) : Int))); (· exact Y.and63 rfl rfl (by omega) (by omega)); (· rfl))
    | ((with_reducible apply TL.pure (d := 71) (v := .int .u8 ((128 + c / 64 % 64 : Nat) : Int))); (· exact Y.or_hi (O2) rfl rfl (by omega)); (· rfl)) | ((with_reducible apply TW.pure (d := 71) (v := .int .u8 ((128 + c / 64 % 64 : Nat) : Int))); (· exact Y.or_hi (O2) rfl rfl (by omega)); (· rfl))
    | ((with_reducible apply TL.pure (d := 73) (v := .int .u8 ((c % 256 : Nat) : Int))); (· exact Y.u8_low rfl (by omega)); (· rfl)) | ((with_reducible apply TW.pure (d := 73) (v := .int .u8 ((c % 256 : Nat) : Int))); (· exact Y.u8_low rfl (by omega)); (· rfl))
    | ((with_reducible apply TL.pure (d := 74) (v := .int .u8 ((c % 64 : Nat) : Int))); (· exact Y.and63 rfl rfl (by omega) (by omega)); (· rfl)) | ((with_reducible apply TW.pure (d := 74) (v := .int .u8 ((c % 64 : Nat) : Int))); (· exact Y.and63 rfl rfl (by omega) (by omega)); (· rfl))
    | ((with_reducible apply TL.pure (d := 75) (v := .int .u8 ((128 + c % 64 : Nat) : Int))); (· exact Y.or_hi (O3) rfl rfl (by omega)); (· rfl)) | ((with_reducible apply TW.pure (d := 75) (v := .int .u8 ((128 + c % 64 : Nat) : Int))); (· exact Y.or_hi (O3) rfl rfl (by omega)); (· rfl))
    | refine wkV ?_
    | ((with_reducible apply TL.build_slice); (· rfl); (· rfl); (· exact oneA); (· rfl); (· rfl); (· rfl); intro _) | refine TL.build_one (by rfl) (by first | rfl | assumption) (by rfl) (by rfl) (by rfl) (by rfl) (fun _ => ?_) | refine TL.build_empty (by rfl) (fun _ => ?_)
    | ((with_reducible apply TL.append (e := 5)); (· rfl); (· rfl); (· rfl); (· rfl); (· exact pkA); (· exact Src.obj pkA); (· rfl); (· rfl); (· exact ⟨by unfold maxLen; omega, by omega⟩); (· rfl); intro vf; refine Go.TL.TL.row_slice (v := vf) pkA ?_; rintro aq cq rfl _)
    | refine stS ?_ | (refine stB ?_; intro _) | (refine stC ?_; refine And.intro (fun _ => ?_) (fun _ => ?_)))
      rw [hs, show l.length + 4 = (l ++ [UInt8.ofNat (240 + c / 262144), UInt8.ofNat (128 + c / 4096 % 64), UInt8.ofNat (128 + c / 64 % 64), UInt8.ofNat (128 + c % 64)]).length by simp, bv4 _ _ _ _ _ (by omega) (by omega) (by omega) (by omega)]
      refine TQ.endR1 (L' := (.row 5 1 (.slice aq (l ++ [UInt8.ofNat (240 + c / 262144), UInt8.ofNat (128 + c / 4096 % 64), UInt8.ofNat (128 + c / 64 % 64), UInt8.ofNat (128 + c % 64)]).length cq) (l ++ [UInt8.ofNat (240 + c / 262144), UInt8.ofNat (128 + c / 4096 % 64), UInt8.ofNat (128 + c / 64 % 64), UInt8.ofNat (128 + c % 64)]).length (byteVals (l ++ [UInt8.ofNat (240 + c / 262144), UInt8.ofNat (128 + c / 4096 % 64), UInt8.ofNat (128 + c / 64 % 64), UInt8.ofNat (128 + c % 64)])) :: L)) Tryz.results182 rvA rfl (.refl _) ?_ selF
      exact ⟨aq, cq, rfl, rfl, rfl⟩
theorem apprune_does (c : Nat) (hg : goodC c) (l : List UInt8) (ao : Option Addr) (cap : Nat) (g : Gh) (L : List Ent) (hl : l.length ≤ 100000000) : Does Tryz.prog 161 #[.slice ao l.length cap, .int .i32 (c : Nat)] g (.row 5 1 (.slice ao l.length cap) l.length (byteVals l) :: L) (AppR (l ++ signB c) g L) := by
  refine Does.of2 Tryz.func161 rfl Tryz.ntmps161 rfl ?_
  have hg1 := hg.1
  by_cases h1 : c ≤ 127
  · have C1 : Hn (((c : Nat) : Int) ≤ 127) := ⟨by omega⟩
    have hs : signB c = [UInt8.ofNat c] := by unfold signB; rw [if_pos (by omega)]
    unfold AppR
    rw [hs]
    repeat' (first
    | refine wkQ ?_
    | ((with_reducible apply TL.pure (d := 7) (v := .bool true)); (· exact Y.leB (decide_eq_true C1.out) rfl rfl); (· rfl)) | ((with_reducible apply TW.pure (d := 7) (v := .bool true)); (· exact Y.leB (decide_eq_true C1.out) rfl rfl); (· rfl))
    | ((with_reducible apply TL.pure (d := 10) (v := .int .u8 ((c : Nat) : Int))); (· exact Y.u8_of rfl (by omega)); (· rfl)) | ((with_reducible apply TW.pure (d := 10) (v := .int .u8 ((c : Nat) : Int))); (· exact Y.u8_of rfl (by omega)); (· rfl))
    | refine wkV ?_
    | ((with_reducible apply TL.build_slice); (· rfl); (· rfl); (· exact oneA); (· rfl); (· rfl); (· rfl); intro _) | refine TL.build_one (by rfl) (by first | rfl | assumption) (by rfl) (by rfl) (by rfl) (by rfl) (fun _ => ?_) | refine TL.build_empty (by rfl) (fun _ => ?_)
    | ((with_reducible apply TL.append (e := 5)); (· rfl); (· rfl); (· rfl); (· rfl); (· exact pkA); (· exact Src.obj pkA); (· rfl); (· rfl); (· exact ⟨by unfold maxLen; omega, by omega⟩); (· rfl); intro vf; refine Go.TL.TL.row_slice (v := vf) pkA ?_; rintro aq cq rfl _)
    | refine stS ?_ | (refine stB ?_; intro _) | (refine stC ?_; refine And.intro (fun _ => ?_) (fun _ => ?_)))
    rw [show l.length + 1 = (l ++ [UInt8.ofNat c]).length by simp, show byteVals l ++ [Value.int .u8 (c : Nat)] = byteVals (l ++ [UInt8.ofNat c]) by rw [byteVals_append]; simp only [byteVals, List.map_cons, List.map_nil]; rw [show (UInt8.ofNat c).toNat = c by simp; omega]]
    refine TQ.endR1 (L' := (.row 5 1 (.slice aq (l ++ [UInt8.ofNat c]).length cq) (l ++ [UInt8.ofNat c]).length (byteVals (l ++ [UInt8.ofNat c])) :: L)) Tryz.results161 rvA rfl (.refl _) ?_ selF
    exact ⟨aq, cq, rfl, rfl, rfl⟩
  · have C1 : Hn (¬ ((c : Nat) : Int) ≤ 127) := ⟨by omega⟩
    have A := fun L => appnon_does c (by omega) hg l ao cap g L hl
    unfold AppR at A ⊢
    generalize l ++ signB c = l2 at *
    repeat' (first
    | refine wkQ ?_
    | ((with_reducible apply TL.pure (d := 7) (v := .bool false)); (· exact Y.leB (decide_eq_false C1.out) rfl rfl); (· rfl)) | ((with_reducible apply TW.pure (d := 7) (v := .bool false)); (· exact Y.leB (decide_eq_false C1.out) rfl rfl); (· rfl))
    | refine wkV ?_
    | (refine TL.call (Enters.plain (by kernel_rfl) (by rfl)) (by rfl) (A _) ?_; (rintro e g2 L2 _ ⟨a2, c2, k1, k2, k3⟩; have k2 := k2.symm; subst k1; subst k2; subst k3; refine CallK.ret ?_))
    | refine stS ?_ | (refine stB ?_; intro _) | (refine stC ?_; refine And.intro (fun _ => ?_) (fun _ => ?_)))
    refine TQ.endR1 (L' := (.row 5 1 (.slice a2 l2.length c2) l2.length (byteVals l2) :: L)) Tryz.results161 rvA rfl (.refl _) ?_ selF
    exact ⟨a2, c2, rfl, rfl, rfl⟩
end Go.Proofs.YthngolfabfijpaaGreatDoor
