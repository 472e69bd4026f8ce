/-
  The walks of word's table, apart, Fold.
-/
import Derived.Test.YtgollffmdpejiaaGreatDoorQz23
import Derived.Test.YtgollffmdpejiaaGreatDoorQz7
import Derived.Test.YtgollffmdpejiaaGreatDoorQz2
import Derived.Test.YtgollffmdpejiaaGreatDoorQz3
namespace Go.TL
open Go Go.RowKit Go.Proofs.YtgollffmdpejiaaGreatDoor
section
variable {P : Program} {n : Nat} {ds : List Deferred} {S : Slots} {g : Gh} {L : List Ent} {gd : Option (Nat × Bool)} {dst : Option Nat} {x y : Operand} {t t' ty : TypeId} {pos : String} {aft : Array Edge} {p q : Int} {k : IntKind}
theorem encode_good {c : Nat} (h : Utf8.valid (c : Int) = true) : Utf8.encode (c : Int) = ⟨(signB c).toArray⟩ := by
  unfold Utf8.encode signB
  rw [h]
  simp only [if_true, Int.toNat_natCast]
  repeat' split
  all_goals rfl
theorem Y.rune_str {c : Nat} [ht : Und P t (.int k)] [hu : Und P t' .string] (hx : ev S x = some (.int k (c : Nat))) (h : Utf8.valid (c : Int) = true) : Yields P n ds S g L ⟨dst, .convert t t' x, ty, pos, aft, gd⟩ (str (signB c)) := .mk fun a w hf _ => by
  simp [execOp, hf.ev hx, convert, run_und ht.eq, run_und hu.eq, Conv.intToString, encode_good h, str]
end
end Go.TL
namespace Go.Proofs.YtgollffmdpejiaaGreatDoor
open Go.RowKit Go.TL
set_option maxRecDepth 100000

def runC : List (Nat × Nat × List UInt8) → List Value
  | [] => []
  | (a, b, s) :: r => .int .i32 (a : Nat) :: .int .i32 (b : Nat) :: str s :: runC r
theorem runC_drop : ∀ (l : List (Nat × Nat × List UInt8)) (i : Nat) (p : Nat × Nat × List UInt8), l[i]? = some p → ((runC l).drop (i * 3)).take 3 = [.int .i32 (p.1 : Nat), .int .i32 (p.2.1 : Nat), str p.2.2]
  | [], _, _, h => by simp at h
  | (a, b, s) :: r, 0, p, h => by
    simp at h; subst h; rfl
  | (a, b, s) :: r, i + 1, p, h => by
    rw [List.getElem?_cons_succ] at h
    rw [show (i + 1) * 3 = i * 3 + 3 by omega]
    exact runC_drop r i p h
instance : Inf Tryz.prog 366 120 960 (.agg #[.int .i32 0, .int .i32 0, .string ⟨#[]⟩, .int .i32 0, .int .i32 0, .string ⟨#[]⟩, .int .i32 0, .int .i32 0, .string ⟨#[]⟩, .int .i32 0, .int .i32 0, .string ⟨#[]⟩, .int .i32 0, .int .i32 0, .string ⟨#[]⟩, .int .i32 0, .int .i32 0, .string ⟨#[]⟩, .int .i32 0, .int .i32 0, .string ⟨#[]⟩, .int .i32 0, .int .i32 0, .string ⟨#[]⟩, .int .i32 0, .int .i32 0, .string ⟨#[]⟩, .int .i32 0, .int .i32 0, .string ⟨#[]⟩, .int .i32 0, .int .i32 0, .string ⟨#[]⟩, .int .i32 0, .int .i32 0, .string ⟨#[]⟩, .int .i32 0, .int .i32 0, .string ⟨#[]⟩, .int .i32 0, .int .i32 0, .string ⟨#[]⟩, .int .i32 0, .int .i32 0, .string ⟨#[]⟩, .int .i32 0, .int .i32 0, .string ⟨#[]⟩, .int .i32 0, .int .i32 0, .string ⟨#[]⟩, .int .i32 0, .int .i32 0, .string ⟨#[]⟩, .int .i32 0, .int .i32 0, .string ⟨#[]⟩, .int .i32 0, .int .i32 0, .string ⟨#[]⟩, .int .i32 0, .int .i32 0, .string ⟨#[]⟩, .int .i32 0, .int .i32 0, .string ⟨#[]⟩, .int .i32 0, .int .i32 0, .string ⟨#[]⟩, .int .i32 0, .int .i32 0, .string ⟨#[]⟩, .int .i32 0, .int .i32 0, .string ⟨#[]⟩, .int .i32 0, .int .i32 0, .string ⟨#[]⟩, .int .i32 0, .int .i32 0, .string ⟨#[]⟩, .int .i32 0, .int .i32 0, .string ⟨#[]⟩, .int .i32 0, .int .i32 0, .string ⟨#[]⟩, .int .i32 0, .int .i32 0, .string ⟨#[]⟩, .int .i32 0, .int .i32 0, .string ⟨#[]⟩, .int .i32 0, .int .i32 0, .string ⟨#[]⟩, .int .i32 0, .int .i32 0, .string ⟨#[]⟩, .int .i32 0, .int .i32 0, .string ⟨#[]⟩, .int .i32 0, .int .i32 0, .string ⟨#[]⟩, .int .i32 0, .int .i32 0, .string ⟨#[]⟩, .int .i32 0, .int .i32 0, .string ⟨#[]⟩, .int .i32 0, .int .i32 0, .string ⟨#[]⟩, .int .i32 0, .int .i32 0, .string ⟨#[]⟩, .int .i32 0, .int .i32 0, .string ⟨#[]⟩]) := ⟨Tryz.t366, by kernel_rfl, rfl, rfl, rfl⟩
theorem runT_bd : ∀ p ∈ runT, p.1 ≤ 383 ∧ p.2.1 ≤ 383 := by decide
theorem runT_len : runT.length = 40 := by decide
set_option maxHeartbeats 32000000 in
theorem wtable_gives (g : Gh) (L : List Ent) : Gives Tryz.prog 343 #[] g L (.agg (runC runT).toArray) := by
  refine .of (Does.of0 Tryz.func343 rfl Tryz.ntmps343 rfl ?_)
  repeat' (first
    | refine wkQ ?_
    | ((with_reducible apply TL.pure (d := 41)); (· exact Y.build_arr rfl rfl); (· rfl))
    | refine wkV ?_
    | refine stS ?_ | (refine stB ?_; intro _) | (refine stC ?_; constructor <;> intro _))
  refine TQ.endR1 (L' := L) Tryz.results343 rvA rfl (.refl _) ?_ selF
  exact ⟨rfl, rfl, rfl⟩
set_option maxHeartbeats 8000000 in
theorem validRune_gives (c : Nat) (_hc : c ≤ 1114111) (g : Gh) (L : List Ent) : Gives Tryz.prog 279 #[.int .i32 (c : Nat)] g L (.bool (Utf8.valid (c : Int))) := by
  refine .of (Does.of1 Tryz.func279 rfl Tryz.ntmps279 rfl ?_)
  have hv := valid_iff c
  by_cases h1 : c < 55296
  · rw [decide_eq_true (by omega)] at hv
    rw [hv]
    clear hv
    repeat' (first
    | refine wkQ ?_
    | (refine wkA 5 (v := .bool true) ?_ ?_; · exact Y.leqB (decide_eq_true (by omega)) rfl rfl)
    | (refine wkA 8 (v := .bool true) ?_ ?_; · exact Y.lss_b (decide_eq_true (by omega)) rfl rfl)
    | refine wkV ?_
    | refine stS ?_ | (refine stB ?_; intro _) | (refine stC ?_; constructor <;> intro _))
    refine TQ.endR1 (L' := L) Tryz.results279 rvA rfl (.refl _) ?_ selF
    exact ⟨rfl, rfl, rfl⟩
  by_cases h2 : 57343 < c
  · rw [decide_eq_true (by omega)] at hv
    rw [hv]
    clear hv
    repeat' (first
    | refine wkQ ?_
    | (refine wkA 5 (v := .bool true) ?_ ?_; · exact Y.leqB (decide_eq_true (by omega)) rfl rfl)
    | (refine wkA 8 (v := .bool false) ?_ ?_; · exact Y.lss_b (decide_eq_false (by omega)) rfl rfl)
    | (refine wkA 12 (v := .bool true) ?_ ?_; · exact Y.lss_b (decide_eq_true (by omega)) rfl rfl)
    | (refine wkA 15 (v := .bool true) ?_ ?_; · exact Y.leqB (decide_eq_true (by omega)) rfl rfl)
    | refine wkV ?_
    | refine stS ?_ | (refine stB ?_; intro _) | (refine stC ?_; constructor <;> intro _))
    refine TQ.endR1 (L' := L) Tryz.results279 rvA rfl (.refl _) ?_ selF
    exact ⟨rfl, rfl, rfl⟩
  · rw [decide_eq_false (by omega)] at hv
    rw [hv]
    clear hv
    repeat' (first
    | refine wkQ ?_
    | (refine wkA 5 (v := .bool true) ?_ ?_; · exact Y.leqB (decide_eq_true (by omega)) rfl rfl)
    | (refine wkA 8 (v := .bool false) ?_ ?_; · exact Y.lss_b (decide_eq_false (by omega)) rfl rfl)
    | (refine wkA 12 (v := .bool false) ?_ ?_; · exact Y.lss_b (decide_eq_false (by omega)) rfl rfl)
    | refine wkV ?_
    | refine stS ?_ | (refine stB ?_; intro _) | (refine stC ?_; constructor <;> intro _))
    refine TQ.endR1 (L' := L) Tryz.results279 rvA rfl (.refl _) ?_ selF
    exact ⟨rfl, rfl, rfl⟩
set_option maxHeartbeats 32000000 in
theorem wapart_gives (c : Nat) (hc : c ≤ 1114111) (g : Gh) (L : List Ent) : Gives Tryz.prog 342 #[.int .i32 (c : Nat)] g L (.bool (apartC c)) := by
  refine .of (Does.of1 Tryz.func342 rfl Tryz.ntmps342 rfl ?_)
  have V := fun L => validRune_gives c hc g L
  unfold apartC
  generalize Utf8.valid (c : Int) = bv at *
  by_cases h0 : c < 8192
  · rw [decide_eq_false (show ¬ (8192 ≤ c ∧ c ≤ 8303) by omega), decide_eq_false (show ¬ (12288 ≤ c ∧ c ≤ 12351) by omega), decide_eq_false (show ¬ (c = 65533) by omega)]
    repeat' (first
    | refine wkQ ?_
    | (refine wkA 4 (v := .bool false) ?_ ?_; · exact Y.geq_b (decide_eq_false (by omega)) rfl rfl)
    | (refine wkA 7 (v := .bool true) ?_ ?_; · exact Y.leqB (decide_eq_true (by omega)) rfl rfl)
    | (refine wkA 11 (v := .bool false) ?_ ?_; · exact Y.geq_b (decide_eq_false (by omega)) rfl rfl)
    | (refine wkA 14 (v := .bool true) ?_ ?_; · exact Y.leqB (decide_eq_true (by omega)) rfl rfl)
    | (refine wkA 19 (v := .bool false) ?_ ?_; · exact Y.eql_b (decide_eq_false (by omega)) rfl rfl)
    | refine wkV ?_
    | refine wkD (V _) ?_
    | refine stS ?_ | (refine stB ?_; intro _) | (refine stC ?_; constructor <;> intro _))
    refine TQ.endR1 (L' := L) Tryz.results342 rvA rfl (.refl _) ?_ selF
    exact ⟨rfl, rfl, rfl⟩
  by_cases h1 : 8192 ≤ c ∧ c ≤ 8303
  · rw [decide_eq_true (show (8192 ≤ c ∧ c ≤ 8303) by omega), decide_eq_false (show ¬ (12288 ≤ c ∧ c ≤ 12351) by omega), decide_eq_false (show ¬ (c = 65533) by omega)]
    repeat' (first
    | refine wkQ ?_
    | (refine wkA 4 (v := .bool true) ?_ ?_; · exact Y.geq_b (decide_eq_true (by omega)) rfl rfl)
    | (refine wkA 7 (v := .bool true) ?_ ?_; · exact Y.leqB (decide_eq_true (by omega)) rfl rfl)
    | (refine wkA 11 (v := .bool false) ?_ ?_; · exact Y.geq_b (decide_eq_false (by omega)) rfl rfl)
    | (refine wkA 14 (v := .bool true) ?_ ?_; · exact Y.leqB (decide_eq_true (by omega)) rfl rfl)
    | (refine wkA 19 (v := .bool false) ?_ ?_; · exact Y.eql_b (decide_eq_false (by omega)) rfl rfl)
    | refine wkV ?_
    | refine wkD (V _) ?_
    | refine stS ?_ | (refine stB ?_; intro _) | (refine stC ?_; constructor <;> intro _))
    refine TQ.endR1 (L' := L) Tryz.results342 rvA rfl (.refl _) ?_ selF
    exact ⟨rfl, rfl, rfl⟩
  by_cases h2 : 8303 < c ∧ c < 12288
  · rw [decide_eq_false (show ¬ (8192 ≤ c ∧ c ≤ 8303) by omega), decide_eq_false (show ¬ (12288 ≤ c ∧ c ≤ 12351) by omega), decide_eq_false (show ¬ (c = 65533) by omega)]
    repeat' (first
    | refine wkQ ?_
    | (refine wkA 4 (v := .bool true) ?_ ?_; · exact Y.geq_b (decide_eq_true (by omega)) rfl rfl)
    | (refine wkA 7 (v := .bool false) ?_ ?_; · exact Y.leqB (decide_eq_false (by omega)) rfl rfl)
    | (refine wkA 11 (v := .bool false) ?_ ?_; · exact Y.geq_b (decide_eq_false (by omega)) rfl rfl)
    | (refine wkA 14 (v := .bool true) ?_ ?_; · exact Y.leqB (decide_eq_true (by omega)) rfl rfl)
    | (refine wkA 19 (v := .bool false) ?_ ?_; · exact Y.eql_b (decide_eq_false (by omega)) rfl rfl)
    | refine wkV ?_
    | refine wkD (V _) ?_
    | refine stS ?_ | (refine stB ?_; intro _) | (refine stC ?_; constructor <;> intro _))
    refine TQ.endR1 (L' := L) Tryz.results342 rvA rfl (.refl _) ?_ selF
    exact ⟨rfl, rfl, rfl⟩
  by_cases h3 : 12288 ≤ c ∧ c ≤ 12351
  · rw [decide_eq_false (show ¬ (8192 ≤ c ∧ c ≤ 8303) by omega), decide_eq_true (show (12288 ≤ c ∧ c ≤ 12351) by omega), decide_eq_false (show ¬ (c = 65533) by omega)]
    repeat' (first
    | refine wkQ ?_
    | (refine wkA 4 (v := .bool true) ?_ ?_; · exact Y.geq_b (decide_eq_true (by omega)) rfl rfl)
    | (refine wkA 7 (v := .bool false) ?_ ?_; · exact Y.leqB (decide_eq_false (by omega)) rfl rfl)
    | (refine wkA 11 (v := .bool true) ?_ ?_; · exact Y.geq_b (decide_eq_true (by omega)) rfl rfl)
    | (refine wkA 14 (v := .bool true) ?_ ?_; · exact Y.leqB (decide_eq_true (by omega)) rfl rfl)
    | (refine wkA 19 (v := .bool false) ?_ ?_; · exact Y.eql_b (decide_eq_false (by omega)) rfl rfl)
    | refine wkV ?_
    | refine wkD (V _) ?_
    | refine stS ?_ | (refine stB ?_; intro _) | (refine stC ?_; constructor <;> intro _))
    refine TQ.endR1 (L' := L) Tryz.results342 rvA rfl (.refl _) ?_ selF
    exact ⟨rfl, rfl, rfl⟩
  by_cases h4 : 12351 < c ∧ c ≠ 65533
  · rw [decide_eq_false (show ¬ (8192 ≤ c ∧ c ≤ 8303) by omega), decide_eq_false (show ¬ (12288 ≤ c ∧ c ≤ 12351) by omega), decide_eq_false (show ¬ (c = 65533) by omega)]
    repeat' (first
    | refine wkQ ?_
    | (refine wkA 4 (v := .bool true) ?_ ?_; · exact Y.geq_b (decide_eq_true (by omega)) rfl rfl)
    | (refine wkA 7 (v := .bool false) ?_ ?_; · exact Y.leqB (decide_eq_false (by omega)) rfl rfl)
    | (refine wkA 11 (v := .bool true) ?_ ?_; · exact Y.geq_b (decide_eq_true (by omega)) rfl rfl)
    | (refine wkA 14 (v := .bool false) ?_ ?_; · exact Y.leqB (decide_eq_false (by omega)) rfl rfl)
    | (refine wkA 19 (v := .bool false) ?_ ?_; · exact Y.eql_b (decide_eq_false (by omega)) rfl rfl)
    | refine wkV ?_
    | refine wkD (V _) ?_
    | refine stS ?_ | (refine stB ?_; intro _) | (refine stC ?_; constructor <;> intro _))
    refine TQ.endR1 (L' := L) Tryz.results342 rvA rfl (.refl _) ?_ selF
    exact ⟨rfl, rfl, rfl⟩
  · rw [decide_eq_false (show ¬ (8192 ≤ c ∧ c ≤ 8303) by omega), decide_eq_false (show ¬ (12288 ≤ c ∧ c ≤ 12351) by omega), decide_eq_true (show (c = 65533) by omega)]
    repeat' (first
    | refine wkQ ?_
    | (refine wkA 4 (v := .bool true) ?_ ?_; · exact Y.geq_b (decide_eq_true (by omega)) rfl rfl)
    | (refine wkA 7 (v := .bool false) ?_ ?_; · exact Y.leqB (decide_eq_false (by omega)) rfl rfl)
    | (refine wkA 11 (v := .bool true) ?_ ?_; · exact Y.geq_b (decide_eq_true (by omega)) rfl rfl)
    | (refine wkA 14 (v := .bool false) ?_ ?_; · exact Y.leqB (decide_eq_false (by omega)) rfl rfl)
    | (refine wkA 19 (v := .bool true) ?_ ?_; · exact Y.eql_b (decide_eq_true (by omega)) rfl rfl)
    | refine wkV ?_
    | refine wkD (V _) ?_
    | refine stS ?_ | (refine stB ?_; intro _) | (refine stC ?_; constructor <;> intro _))
    refine TQ.endR1 (L' := L) Tryz.results342 rvA rfl (.refl _) ?_ selF
    exact ⟨rfl, rfl, rfl⟩
theorem valid_of {c : Nat} (_h : c ≤ 1114111) (_h2 : c < 55296 ∨ 57343 < c) : Utf8.valid (c : Int) = true := by
  rw [valid_iff]; exact decide_eq_true (by omega)
theorem apart_valid {c : Nat} (h : apartC c = false) : Utf8.valid (c : Int) = true := by
  unfold apartC at h
  simp only [Bool.or_eq_false_iff, Bool.not_eq_false'] at h
  exact h.2
set_option maxHeartbeats 32000000 in
theorem wFold_one (c : Nat) (_hc : (97 ≤ c ∧ c ≤ 122) ∨ (48 ≤ c ∧ c ≤ 57)) (g : Gh) (L : List Ent) : Gives Tryz.prog 324 #[.int .i32 (c : Nat)] g L (str (signB c)) := by
  refine .of (Does.of1 Tryz.func324 rfl Tryz.ntmps324 rfl ?_)
  have hv : Utf8.valid (c : Int) = true := valid_of (by omega) (by omega)
  by_cases h : 97 ≤ c
  · repeat' (first
    | refine wkQ ?_
    | (refine wkA 7 (v := .bool true) ?_ ?_; · exact Y.geq_b (decide_eq_true (by omega)) rfl rfl)
    | (refine wkA 10 (v := .bool true) ?_ ?_; · exact Y.leqB (decide_eq_true (by omega)) rfl rfl)
    | (refine wkA 13 (v := .bool true) ?_ ?_; · exact Y.geq_b (decide_eq_true (by omega)) rfl rfl)
    | (refine wkA 16 (v := .bool false) ?_ ?_; · exact Y.leqB (decide_eq_false (by omega)) rfl rfl)
    | (refine wkA 22 (v := .bool true) ?_ ?_; · exact Y.geq_b (decide_eq_true (by omega)) rfl rfl)
    | (refine wkA 25 (v := .bool false) ?_ ?_; · exact Y.leqB (decide_eq_false (by omega)) rfl rfl)
    | (refine wkA 32 (v := .bool false) ?_ ?_; · exact Y.geq_b (decide_eq_false (by omega)) rfl rfl)
    | (refine wkA 39 (v := .bool false) ?_ ?_; · exact Y.geq_b (decide_eq_false (by omega)) rfl rfl)
    | (refine wkA 42 (v := .bool true) ?_ ?_; · exact Y.leqB (decide_eq_true (by omega)) rfl rfl)
    | (refine wkA 19 (v := str (signB c)) ?_ ?_; · exact Y.rune_str rfl hv)
    | refine wkV ?_
    | refine stS ?_ | (refine stB ?_; intro _) | (refine stC ?_; constructor <;> intro _))
    refine TQ.endR1 (L' := L) Tryz.results324 rvA rfl (.refl _) ?_ selF
    exact ⟨rfl, rfl, rfl⟩
  · repeat' (first
    | refine wkQ ?_
    | (refine wkA 7 (v := .bool false) ?_ ?_; · exact Y.geq_b (decide_eq_false (by omega)) rfl rfl)
    | (refine wkA 10 (v := .bool true) ?_ ?_; · exact Y.leqB (decide_eq_true (by omega)) rfl rfl)
    | (refine wkA 13 (v := .bool true) ?_ ?_; · exact Y.geq_b (decide_eq_true (by omega)) rfl rfl)
    | (refine wkA 16 (v := .bool true) ?_ ?_; · exact Y.leqB (decide_eq_true (by omega)) rfl rfl)
    | (refine wkA 22 (v := .bool false) ?_ ?_; · exact Y.geq_b (decide_eq_false (by omega)) rfl rfl)
    | (refine wkA 25 (v := .bool true) ?_ ?_; · exact Y.leqB (decide_eq_true (by omega)) rfl rfl)
    | (refine wkA 32 (v := .bool false) ?_ ?_; · exact Y.geq_b (decide_eq_false (by omega)) rfl rfl)
    | (refine wkA 39 (v := .bool false) ?_ ?_; · exact Y.geq_b (decide_eq_false (by omega)) rfl rfl)
    | (refine wkA 42 (v := .bool true) ?_ ?_; · exact Y.leqB (decide_eq_true (by omega)) rfl rfl)
    | (refine wkA 19 (v := str (signB c)) ?_ ?_; · exact Y.rune_str rfl hv)
    | refine wkV ?_
    | refine stS ?_ | (refine stB ?_; intro _) | (refine stC ?_; constructor <;> intro _))
    refine TQ.endR1 (L' := L) Tryz.results324 rvA rfl (.refl _) ?_ selF
    exact ⟨rfl, rfl, rfl⟩
set_option maxHeartbeats 32000000 in
theorem wFold_up (c : Nat) (_hc : 65 ≤ c ∧ c ≤ 90) (g : Gh) (L : List Ent) : Gives Tryz.prog 324 #[.int .i32 (c : Nat)] g L (str (signB (c + 32))) := by
  refine .of (Does.of1 Tryz.func324 rfl Tryz.ntmps324 rfl ?_)
  have hv : Utf8.valid ((c + 32 : Nat) : Int) = true := valid_of (by omega) (by omega)
  have hw : IntKind.i32.wrap ((c : Int) + 32) = ((c + 32 : Nat) : Int) := by
    rw [IntKind.wrap_i32]; omega
  have HW := Hn.mk hw
  clear hw
  repeat' (first
    | refine wkQ ?_
    | (refine wkA 7 (v := .bool false) ?_ ?_; · exact Y.geq_b (decide_eq_false (by omega)) rfl rfl)
    | (refine wkA 10 (v := .bool true) ?_ ?_; · exact Y.leqB (decide_eq_true (by omega)) rfl rfl)
    | (refine wkA 13 (v := .bool true) ?_ ?_; · exact Y.geq_b (decide_eq_true (by omega)) rfl rfl)
    | (refine wkA 16 (v := .bool false) ?_ ?_; · exact Y.leqB (decide_eq_false (by omega)) rfl rfl)
    | (refine wkA 22 (v := .bool true) ?_ ?_; · exact Y.geq_b (decide_eq_true (by omega)) rfl rfl)
    | (refine wkA 25 (v := .bool true) ?_ ?_; · exact Y.leqB (decide_eq_true (by omega)) rfl rfl)
    | (refine wkA 32 (v := .bool false) ?_ ?_; · exact Y.geq_b (decide_eq_false (by omega)) rfl rfl)
    | (refine wkA 39 (v := .bool false) ?_ ?_; · exact Y.geq_b (decide_eq_false (by omega)) rfl rfl)
    | (refine wkA 42 (v := .bool true) ?_ ?_; · exact Y.leqB (decide_eq_true (by omega)) rfl rfl)
    | (refine wkA 28 (v := .int .i32 ((c + 32 : Nat) : Int)) ?_ ?_; · exact Y.add rfl rfl HW.out)
    | (refine wkA 29 (v := str (signB (c + 32))) ?_ ?_; · exact Y.rune_str rfl hv)
    | refine wkV ?_
    | refine stS ?_ | (refine stB ?_; intro _) | (refine stC ?_; constructor <;> intro _))
  refine TQ.endR1 (L' := L) Tryz.results324 rvA rfl (.refl _) ?_ selF
  exact ⟨rfl, rfl, rfl⟩
set_option maxHeartbeats 32000000 in
theorem wFold_far (c : Nat) (hc : 384 ≤ c ∧ c ≤ 1114111) (g : Gh) (L : List Ent) : Gives Tryz.prog 324 #[.int .i32 (c : Nat)] g L (str (if apartC c = true then [] else signB c)) := by
  refine .of (Does.of1 Tryz.func324 rfl Tryz.ntmps324 rfl ?_)
  have A := fun L => wapart_gives c hc.2 g L
  cases ha : apartC c with
  | true =>
    rw [ha] at A
    rw [if_pos rfl]
    clear ha
    repeat' (first
    | refine wkQ ?_
    | (refine wkA 7 (v := .bool true) ?_ ?_; · exact Y.geq_b (decide_eq_true (by omega)) rfl rfl)
    | (refine wkA 10 (v := .bool false) ?_ ?_; · exact Y.leqB (decide_eq_false (by omega)) rfl rfl)
    | (refine wkA 13 (v := .bool true) ?_ ?_; · exact Y.geq_b (decide_eq_true (by omega)) rfl rfl)
    | (refine wkA 16 (v := .bool false) ?_ ?_; · exact Y.leqB (decide_eq_false (by omega)) rfl rfl)
    | (refine wkA 22 (v := .bool true) ?_ ?_; · exact Y.geq_b (decide_eq_true (by omega)) rfl rfl)
    | (refine wkA 25 (v := .bool false) ?_ ?_; · exact Y.leqB (decide_eq_false (by omega)) rfl rfl)
    | (refine wkA 32 (v := .bool true) ?_ ?_; · exact Y.geq_b (decide_eq_true (by omega)) rfl rfl)
    | (refine wkA 39 (v := .bool true) ?_ ?_; · exact Y.geq_b (decide_eq_true (by omega)) rfl rfl)
    | (refine wkA 42 (v := .bool false) ?_ ?_; · exact Y.leqB (decide_eq_false (by omega)) rfl rfl)
    | refine wkV ?_
    | refine wkD (A _) ?_
    | refine stS ?_ | (refine stB ?_; intro _) | (refine stC ?_; constructor <;> intro _))
    refine TQ.endR1 (L' := L) Tryz.results324 rvA rfl (.refl _) ?_ selF
    exact ⟨rfl, rfl, rfl⟩
  | false =>
    rw [ha] at A
    rw [if_neg (by decide)]
    have hv := apart_valid ha
    clear ha
    repeat' (first
    | refine wkQ ?_
    | (refine wkA 7 (v := .bool true) ?_ ?_; · exact Y.geq_b (decide_eq_true (by omega)) rfl rfl)
    | (refine wkA 10 (v := .bool false) ?_ ?_; · exact Y.leqB (decide_eq_false (by omega)) rfl rfl)
    | (refine wkA 13 (v := .bool true) ?_ ?_; · exact Y.geq_b (decide_eq_true (by omega)) rfl rfl)
    | (refine wkA 16 (v := .bool false) ?_ ?_; · exact Y.leqB (decide_eq_false (by omega)) rfl rfl)
    | (refine wkA 22 (v := .bool true) ?_ ?_; · exact Y.geq_b (decide_eq_true (by omega)) rfl rfl)
    | (refine wkA 25 (v := .bool false) ?_ ?_; · exact Y.leqB (decide_eq_false (by omega)) rfl rfl)
    | (refine wkA 32 (v := .bool true) ?_ ?_; · exact Y.geq_b (decide_eq_true (by omega)) rfl rfl)
    | (refine wkA 39 (v := .bool true) ?_ ?_; · exact Y.geq_b (decide_eq_true (by omega)) rfl rfl)
    | (refine wkA 42 (v := .bool false) ?_ ?_; · exact Y.leqB (decide_eq_false (by omega)) rfl rfl)
    | (refine wkA 36 (v := str (signB c)) ?_ ?_; · exact Y.rune_str rfl hv)
    | refine wkV ?_
    | refine wkD (A _) ?_
    | refine stS ?_ | (refine stB ?_; intro _) | (refine stC ?_; constructor <;> intro _))
    refine TQ.endR1 (L' := L) Tryz.results324 rvA rfl (.refl _) ?_ selF
    exact ⟨rfl, rfl, rfl⟩
set_option maxHeartbeats 64000000 in
theorem wFold_tab (c d : Nat) (_hc : c < 384) (hd : d = if 224 ≤ c ∧ c ≤ 254 then c - 32 else c) (hk : c < 48 ∨ (57 < c ∧ c < 65) ∨ (90 < c ∧ c < 97) ∨ (122 < c ∧ c < 224) ∨ (224 ≤ c ∧ c ≤ 254) ∨ 254 < c) (g : Gh) (L : List Ent) : Gives Tryz.prog 324 #[.int .i32 (c : Nat)] g L (str (lookT d runT)) := by
  refine .of (Does.of1 Tryz.func324 rfl Tryz.ntmps324 rfl ?_)
  have hdb : d ≤ 383 := by rw [hd]; split <;> omega
  have T := fun L => wtable_gives g L
  have hT := fun (i : Nat) (p : Nat × Nat × List UInt8) (h : runT[i]? = some p) => runC_drop runT i p h
  have hB := fun (i : Nat) (p : Nat × Nat × List UInt8) (h : runT[i]? = some p) => runT_bd p (List.mem_of_getElem? h)
  have hL := runT_len
  obtain ⟨R, hR⟩ : ∃ R, R = lookT d (runT.drop 0) := ⟨_, rfl⟩
  rw [show lookT d runT = R from hR.symm]
  generalize runT = tb at *
  have hR := Hn.mk hR.symm
  have HT := Hn.mk hT
  have HB := Hn.mk hB
  have HL := Hn.mk hL
  clear hT hB hL
  have hw : (224 ≤ c ∧ c ≤ 254) → Hn (IntKind.i32.wrap ((c : Int) - 32) = ((d : Nat) : Int)) := fun h => by
    rw [if_pos h] at hd
    refine ⟨?_⟩
    rw [IntKind.wrap_i32]; omega
  have hdc : ¬ (224 ≤ c ∧ c ≤ 254) → d = c := fun h => by rw [if_neg h] at hd; exact hd
  clear hd
  rcases hk with h | h | h | h | h | h
  all_goals first | (have hq := hdc (by omega); subst hq) | have HW := hw (by omega)
  all_goals clear hw hdc
  all_goals
    repeat' (first
    | refine wkQ ?_
    | (refine wkA 7 (v := .bool true) ?_ ?_; · exact Y.geq_b (decide_eq_true (by omega)) rfl rfl)
    | (refine wkA 7 (v := .bool false) ?_ ?_; · exact Y.geq_b (decide_eq_false (by omega)) rfl rfl)
    | (refine wkA 10 (v := .bool true) ?_ ?_; · exact Y.leqB (decide_eq_true (by omega)) rfl rfl)
    | (refine wkA 10 (v := .bool false) ?_ ?_; · exact Y.leqB (decide_eq_false (by omega)) rfl rfl)
    | (refine wkA 13 (v := .bool true) ?_ ?_; · exact Y.geq_b (decide_eq_true (by omega)) rfl rfl)
    | (refine wkA 13 (v := .bool false) ?_ ?_; · exact Y.geq_b (decide_eq_false (by omega)) rfl rfl)
    | (refine wkA 16 (v := .bool true) ?_ ?_; · exact Y.leqB (decide_eq_true (by omega)) rfl rfl)
    | (refine wkA 16 (v := .bool false) ?_ ?_; · exact Y.leqB (decide_eq_false (by omega)) rfl rfl)
    | (refine wkA 22 (v := .bool true) ?_ ?_; · exact Y.geq_b (decide_eq_true (by omega)) rfl rfl)
    | (refine wkA 22 (v := .bool false) ?_ ?_; · exact Y.geq_b (decide_eq_false (by omega)) rfl rfl)
    | (refine wkA 25 (v := .bool true) ?_ ?_; · exact Y.leqB (decide_eq_true (by omega)) rfl rfl)
    | (refine wkA 25 (v := .bool false) ?_ ?_; · exact Y.leqB (decide_eq_false (by omega)) rfl rfl)
    | (refine wkA 32 (v := .bool true) ?_ ?_; · exact Y.geq_b (decide_eq_true (by omega)) rfl rfl)
    | (refine wkA 32 (v := .bool false) ?_ ?_; · exact Y.geq_b (decide_eq_false (by omega)) rfl rfl)
    | (refine wkA 39 (v := .bool true) ?_ ?_; · exact Y.geq_b (decide_eq_true (by omega)) rfl rfl)
    | (refine wkA 39 (v := .bool false) ?_ ?_; · exact Y.geq_b (decide_eq_false (by omega)) rfl rfl)
    | (refine wkA 42 (v := .bool true) ?_ ?_; · exact Y.leqB (decide_eq_true (by omega)) rfl rfl)
    | (refine wkA 42 (v := .bool false) ?_ ?_; · exact Y.leqB (decide_eq_false (by omega)) rfl rfl)
    | (refine wkA 45 (v := .int .i32 ((d : Nat) : Int)) ?_ ?_; · exact Y.sub rfl rfl HW.out)
    | refine wkV ?_
    | refine wkD (T _) ?_
    | refine stS ?_ | (refine stB ?_; intro _) | (refine stC ?_; constructor <;> intro _))
  all_goals
    refine TC.loopL (fun i : Nat => i ≤ 40 ∧ Hn (lookT d (tb.drop i) = R)) (fun i => 40 - i) (fun i _ => [(47, .int .i64 (i : Nat)), (46, .agg (runC tb).toArray), (0, .int .i32 (d : Nat))]) (fun _ => L) 0 ⟨Nat.zero_le _, hR⟩ subA selF ?_
    clear hR
    rintro i ⟨hi, hR⟩
    try dsimp only at hi hR ⊢
    by_cases hlt : i < 40
    · obtain ⟨p, hp⟩ : ∃ p, tb[i]? = some p := ⟨_, List.getElem?_eq_getElem (by rw [HL.out]; exact hlt)⟩
      have hag := Hn.mk (HT.out i p hp)
      obtain ⟨b1, b2⟩ := HB.out i p hp
      have hR := hR.out
      rw [drop_of_get hp] at hR
      obtain ⟨p1, p2, p3⟩ := p
      dsimp only at hag b1 b2 hR
      rw [lookT] at hR
      clear HT HB HL hp
      by_cases hin : p1 ≤ d ∧ d ≤ p2
      · rw [if_pos hin] at hR
        subst hR
        repeat' (first
    | refine wkQ ?_
    | (refine wkA 49 (v := .agg [Value.int .i32 (p1 : Nat), .int .i32 (p2 : Nat), str p3].toArray) ?_ ?_; · exact Y.index_ag rfl rfl rfl hlt hag.out)
    | (refine wkA 53 (v := .bool true) ?_ ?_; · exact Y.geq_b (decide_eq_true (by omega)) rfl rfl)
    | (refine wkA 58 (v := .bool true) ?_ ?_; · exact Y.leqB (decide_eq_true (by omega)) rfl rfl)
    | refine wkV ?_
    | refine stS ?_ | (refine stB ?_; intro _) | (refine stC ?_; constructor <;> intro _))
        refine TQ.endR1 (L' := L) Tryz.results324 rvA rfl (.refl _) ?_ selF
        exact ⟨rfl, rfl, rfl⟩
      · rw [if_neg hin] at hR
        have hR := Hn.mk hR
        by_cases h1 : p1 ≤ d
        · repeat' (first
    | refine wkQ ?_
    | (refine wkA 49 (v := .agg [Value.int .i32 (p1 : Nat), .int .i32 (p2 : Nat), str p3].toArray) ?_ ?_; · exact Y.index_ag rfl rfl rfl hlt hag.out)
    | (refine wkA 53 (v := .bool true) ?_ ?_; · exact Y.geq_b (decide_eq_true (by omega)) rfl rfl)
    | (refine wkA 58 (v := .bool false) ?_ ?_; · exact Y.leqB (decide_eq_false (by omega)) rfl rfl)
    | refine wkV ?_
    | refine stS ?_ | (refine stB ?_; intro _) | (refine stC ?_; constructor <;> intro _))
          refine TQ.round (i + 1) ?_ ?_ rfl subA selF
          · exact ⟨by omega, hR⟩
          · show 40 - (i + 1) < 40 - i
            omega
        · repeat' (first
    | refine wkQ ?_
    | (refine wkA 49 (v := .agg [Value.int .i32 (p1 : Nat), .int .i32 (p2 : Nat), str p3].toArray) ?_ ?_; · exact Y.index_ag rfl rfl rfl hlt hag.out)
    | (refine wkA 53 (v := .bool false) ?_ ?_; · exact Y.geq_b (decide_eq_false (by omega)) rfl rfl)
    | refine wkV ?_
    | refine stS ?_ | (refine stB ?_; intro _) | (refine stC ?_; constructor <;> intro _))
          refine TQ.round (i + 1) ?_ ?_ rfl subA selF
          · exact ⟨by omega, hR⟩
          · show 40 - (i + 1) < 40 - i
            omega
    · obtain rfl : i = 40 := by omega
      have hR := hR.out
      rw [List.drop_eq_nil_of_le (by rw [HL.out]; exact Nat.le_refl _), lookT] at hR
      subst hR
      clear HT HB HL hlt
      repeat' (first
    | refine wkQ ?_
    | refine wkV ?_
    | refine stS ?_ | (refine stB ?_; intro _) | (refine stC ?_; constructor <;> intro _))
      refine TQ.endR1 (L' := L) Tryz.results324 rvA rfl (.refl _) ?_ selF
      exact ⟨rfl, rfl, rfl⟩
theorem wFold_gives (c : Nat) (hc : c ≤ 1114111) (g : Gh) (L : List Ent) : Gives Tryz.prog 324 #[.int .i32 (c : Nat)] g L (str (foldC c)) := by
  unfold foldC
  by_cases h1 : (97 ≤ c ∧ c ≤ 122) ∨ (48 ≤ c ∧ c ≤ 57)
  · rw [if_pos h1]; exact wFold_one c h1 g L
  rw [if_neg h1]
  by_cases h2 : 65 ≤ c ∧ c ≤ 90
  · rw [if_pos h2]; exact wFold_up c h2 g L
  rw [if_neg h2]
  by_cases h3 : 384 ≤ c
  · rw [if_pos h3]; exact wFold_far c ⟨h3, hc⟩ g L
  rw [if_neg h3]
  exact wFold_tab c _ (by omega) rfl (by omega) g L
end Go.Proofs.YtgollffmdpejiaaGreatDoor
