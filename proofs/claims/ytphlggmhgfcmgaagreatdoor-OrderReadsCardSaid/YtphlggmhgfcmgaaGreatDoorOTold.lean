/-
  Layer 5: what the program is told of values, compared, and their keys.
-/
import Derived.Test.YtphlggmhgfcmgaaGreatDoorOTell
import Derived.Test.YtphlggmhgfcmgaaGreatDoorOAwake
import Derived.Test.YtphlggmhgfcmgaaGreatDoorTold05
import Derived.Test.YtphlggmhgfcmgaaGreatDoorB3
namespace Go.Proofs.YtphlggmhgfcmgaaGreatDoor
open Go.RowKit Go.TL
set_option maxRecDepth 100000

/-- Why one of two may not be compared. -/
def errV (x y : DV) : Nat := if mayV x 0 ≠ 0 then mayV x 0 else mayV y 0
theorem sm_light {x : DV} (h : lightB x = true) : smJ (toJ x) := sm_toJ _ x (Nat.le_refl _) 300 (of_decide_eq_true h)
theorem cmp_told {x y : DV} {v1 v2 : Value} {g : Gh} (L : List Ent) (hx : lightB x = true) (hy : lightB y = true) (j1 : IsJ g (toJ x) v1) (j2 : IsJ g (toJ y) v2) (hT : GTabs g) (hU : GU8 g) :
    Gives Tryz.prog 19 #[v1, v2] g L (.tuple #[.int .i64 (if errV x y = 0 then cmpV x y else 0), .int .i64 (errV x y : Nat)]) := by
  have h := oCompare_gives (toJ x) (toJ y) v1 v2 g L j1 j2 (sm_light hx) (sm_light hy) hT hU
  have e : errJ (toJ x) (toJ y) = errV x y := by unfold errJ errV; rw [look_toJ _ x (Nat.le_refl _), look_toJ _ y (Nat.le_refl _)]
  rw [e] at h
  by_cases h0 : errV x y = 0
  · have h1 : mayV x 0 = 0 ∧ mayV y 0 = 0 := by
      unfold errV at h0
      split at h0 <;> omega
    rw [if_pos h0, cmp_toJ _ x (Nat.le_refl _) y (ok_may' x 0 h1.1) (ok_may' y 0 h1.2)] at h
    rw [if_pos h0]; exact h
  · rw [if_neg h0] at h
    rw [if_neg h0]; exact h
theorem wordL_le (s : List UInt8) : (wordL s).length ≤ 2 * s.length + 3 := by
  have := escL_len s
  rw [wordL, List.length_cons, List.length_append]
  show _ + 2 + 1 ≤ _
  omega
/-- A light value's key is not long. -/
theorem key_len : ∀ (N : Nat) (x : DV), dsz x ≤ N → ∀ (l : Int), l ≤ 1000 → 0 ≤ cnt x l → ((keyJ (toJ x)).length : Int) + 603 ≤ 2000 * (l - cnt x l)
  | 0, .mk .., h, _, _, _ => by rw [dsz] at h; omega
  | N + 1, .mk k b n s items names, h, l, hl, hc => by
    have IH := key_len N
    rw [dsz] at h
    rw [cnt] at hc ⊢
    by_cases hno : l - 1 < 0 ∨ 300 < s.length ∨ 300 < items.length ∨ (k = 5 ∧ names.length ≠ items.length)
    · rw [if_pos hno] at hc; omega
    rw [if_neg hno] at hc ⊢
    have H1 : ∀ (o : Bool) (r : List DV) (ns : List (List UInt8)) (m : Int), m ≤ 1000 → dszs r ≤ N → 0 ≤ cnts o ns r m → ((keyJs (r.map toJ)).length : Int) ≤ 2000 * (m - cnts o ns r m) ∧ (o = true → ((keyJo ns (r.map toJ)).length : Int) ≤ 2000 * (m - cnts o ns r m)) := by
      intro o r
      induction r with
      | nil =>
        intro ns m _ _ _
        rw [cnts, List.map_nil, keyJs, keyJo]
        simp
      | cons x r ih =>
        intro ns m hm hd hc
        rw [dszs] at hd
        rw [cnts] at hc ⊢
        by_cases h1 : o = true ∧ 300 < (ns.headD []).length
        · rw [if_pos h1] at hc; omega
        rw [if_neg h1] at hc ⊢
        by_cases h2 : cnt x m < 0
        · rw [if_pos h2] at hc; omega
        rw [if_neg h2] at hc ⊢
        have h3 := IH x (by omega) m hm (by omega)
        have h4 : cnt x m ≤ 1000 := by omega
        have h5 := ih ns.tail (cnt x m) h4 (by omega) hc
        rw [List.map_cons, keyJs, keyJo, List.length_append, List.length_append, List.length_append]
        refine ⟨by push_cast; omega, fun ho => ?_⟩
        have h6 := wordL_le (ns.headD [])
        have h7 : ¬ 300 < (ns.headD []).length := fun e => h1 ⟨ho, e⟩
        have h8 := h5.2 ho
        push_cast
        omega
    rw [toJ_eq]
    by_cases k0 : k = 0
    · rw [if_neg (show ¬ (k = 4 ∨ k = 5) by omega), if_pos k0, keyJ]; show ((1 : Nat) : Int) + 603 ≤ _; omega
    rw [if_neg k0]
    by_cases k1 : k = 1
    · rw [if_neg (show ¬ (k = 4 ∨ k = 5) by omega), if_pos k1, keyJ]; show ((1 : Nat) : Int) + 603 ≤ _; omega
    rw [if_neg k1]
    by_cases k2 : k = 2
    · rw [if_neg (show ¬ (k = 4 ∨ k = 5) by omega), if_pos k2, keyJ, List.length_cons, beL_len]; omega
    rw [if_neg k2]
    by_cases k3 : k = 3
    · have := wordL_le s
      rw [if_neg (show ¬ (k = 4 ∨ k = 5) by omega), if_pos k3, keyJ]; omega
    rw [if_neg k3]
    by_cases k4 : k = 4
    · rw [if_pos (show k = 4 ∨ k = 5 from .inl k4)] at hc ⊢
      have := H1 _ items names (l - 1) (by omega) (by omega) hc
      rw [if_pos k4, keyJ, List.length_cons, List.length_append, List.length_singleton]
      have := this.1
      push_cast
      omega
    rw [if_neg k4]
    by_cases k5 : k = 5
    · rw [if_pos (show k = 4 ∨ k = 5 from .inr k5)] at hc ⊢
      have := H1 _ items names (l - 1) (by omega) (by omega) hc
      rw [if_pos k5, keyJ, List.length_cons, List.length_append, List.length_singleton]
      have := this.2 (by simp [k5])
      push_cast
      omega
    rw [if_neg k5, if_neg (show ¬ (k = 4 ∨ k = 5) by omega), keyJ]; show ((1 : Nat) : Int) + 603 ≤ _; omega
theorem key_light {x : DV} (h : lightB x = true) : (keyJ (toJ x)).length ≤ 600000 := by
  have h0 : 0 ≤ cnt x 300 := of_decide_eq_true h
  have := key_len _ x (Nat.le_refl _) 300 (by decide) h0
  omega
/-- The key of what the program is told. -/
def keyV (x : DV) : List UInt8 := if mayV x 0 = 0 then keyJ (toJ x) else []
theorem key_told {x : DV} {v : Value} {g : Gh} (L : List Ent) (hx : lightB x = true) (j : IsJ g (toJ x) v) (hT : GTabs g) (hU : GU8 g) :
    Does Tryz.prog 18 #[v] g L fun r g' L1 => ∃ v', r = .returned (.tuple #[v', .int .i64 (mayV x 0 : Nat)]) ∧ g' = g ∧ L1 = .row 5 1 v' (keyV x).length (byteVals (keyV x)) :: L := by
  have h := oKey_does (toJ x) v g L j (sm_light hx) (by have := key_light hx; omega) hT hU
  unfold KeyR keyOf at h
  rw [look_toJ _ x (Nat.le_refl _)] at h
  exact h
end Go.Proofs.YtphlggmhgfcmgaaGreatDoor
