/-
  A plain text made wide: blanks round the signs between its parts.
-/
import Derived.Test.YtfmadoeadmclbaaGreatDoorHb41
namespace Go.Proofs.YtfmadoeadmclbaaGreatDoor
open Go.RowKit

def isSt (c : UInt8) : Bool := decide (c = 91) || decide (c = 93) || decide (c = 123) || decide (c = 125) || decide (c = 44) || decide (c = 58)
def wO : List UInt8 → Bool → Option (List UInt8)
  | [], _ => some []
  | c :: t, q => if q = false ∧ isSt c = true then (wO t q).map fun u => 9 :: c :: 10 :: 32 :: u
    else if q = true ∧ c = 92 then (match t with
      | [] => none
      | d :: u => (wO u q).map fun v => c :: d :: v)
    else (wO t (if c = 34 then !q else q)).map fun u => c :: u
theorem wO_cons (c : UInt8) (t : List UInt8) (q : Bool) : wO (c :: t) q = if q = false ∧ isSt c = true then (wO t q).map fun u => 9 :: c :: 10 :: 32 :: u
    else if q = true ∧ c = 92 then (match t with
      | [] => none
      | d :: u => (wO u q).map fun v => c :: d :: v)
    else (wO t (if c = 34 then !q else q)).map fun u => c :: u := by
  rw [wO.eq_def]
theorem wO_st {c : UInt8} {t w : List UInt8} (hc : isSt c = true) (h : wO t false = some w) : wO (c :: t) false = some (9 :: c :: 10 :: 32 :: w) := by
  rw [wO_cons, if_pos ⟨rfl, hc⟩, h]; rfl
theorem wO_out {c : UInt8} {t w : List UInt8} (hc : isSt c = false) (h34 : c ≠ 34) (h : wO t false = some w) : wO (c :: t) false = some (c :: w) := by
  rw [wO_cons, if_neg (by rw [hc]; simp), if_neg (by simp), if_neg h34, h]; rfl
theorem wO_open {t w : List UInt8} (h : wO t true = some w) : wO (34 :: t) false = some (34 :: w) := by
  rw [wO_cons, if_neg (by decide), if_neg (by decide), if_pos rfl]
  rw [show (!false) = true from rfl, h]; rfl
theorem wO_close {t w : List UInt8} (h : wO t false = some w) : wO (34 :: t) true = some (34 :: w) := by
  rw [wO_cons, if_neg (by decide), if_neg (by decide), if_pos rfl]
  rw [show (!true) = false from rfl, h]; rfl
theorem wO_in {c : UInt8} {t w : List UInt8} (h34 : c ≠ 34) (h92 : c ≠ 92) (h : wO t true = some w) : wO (c :: t) true = some (c :: w) := by
  rw [wO_cons, if_neg (by simp), if_neg (by simp [h92]), if_neg h34, h]; rfl
theorem wO_esc {d : UInt8} {t w : List UInt8} (h : wO t true = some w) : wO (92 :: d :: t) true = some (92 :: d :: w) := by
  rw [wO_cons, if_neg (by simp), if_pos ⟨rfl, rfl⟩]
  show (wO t true).map _ = _
  rw [h]; rfl
theorem wO_outs : ∀ (l : List UInt8), (∀ c ∈ l, isSt c = false ∧ c ≠ 34) → ∀ {r w : List UInt8}, wO r false = some w → wO (l ++ r) false = some (l ++ w)
  | [], _, _, _, h => h
  | c :: l, hl, r, w, h => by
    have hc := hl c List.mem_cons_self
    rw [List.cons_append, List.cons_append]
    exact wO_out hc.1 hc.2 (wO_outs l (fun d hd => hl d (List.mem_cons_of_mem _ hd)) h)
theorem hexC_in {a : Nat} (h : a < 16) : hexC a ≠ 34 ∧ hexC a ≠ 92 := by
  have hh : ∀ i : Fin 16, hexC i.val ≠ 34 ∧ hexC i.val ≠ 92 := by decide +kernel
  exact hh ⟨a, h⟩
theorem wO_quoB : ∀ (s : List UInt8) {r w : List UInt8}, wO r true = some w → wO (quoB s ++ r) true = some (quoB s ++ w)
  | [], _, _, h => h
  | c :: t, r, w, h => by
    have ih := wO_quoB t h
    have he : ∀ l : UInt8, escB c = [92, l] → wO (quoB (c :: t) ++ r) true = some (quoB (c :: t) ++ w) := fun l e => by
      rw [quoB, e]
      exact wO_esc ih
    by_cases h34 : c = 34
    · exact he 34 (by unfold escB; rw [if_pos h34])
    by_cases h92 : c = 92
    · exact he 92 (by unfold escB; rw [if_neg h34, if_pos h92])
    by_cases h8 : c = 8
    · exact he 98 (by unfold escB; rw [if_neg h34, if_neg h92, if_pos h8])
    by_cases h12 : c = 12
    · exact he 102 (by unfold escB; rw [if_neg h34, if_neg h92, if_neg h8, if_pos h12])
    by_cases h10 : c = 10
    · exact he 110 (by unfold escB; rw [if_neg h34, if_neg h92, if_neg h8, if_neg h12, if_pos h10])
    by_cases h13 : c = 13
    · exact he 114 (by unfold escB; rw [if_neg h34, if_neg h92, if_neg h8, if_neg h12, if_neg h10, if_pos h13])
    by_cases h9 : c = 9
    · exact he 116 (by unfold escB; rw [if_neg h34, if_neg h92, if_neg h8, if_neg h12, if_neg h10, if_neg h13, if_pos h9])
    by_cases h32 : c.toNat < 32
    · have e : escB c = [92, 117, 48, 48, hexC (c.toNat / 16), hexC (c.toNat % 16)] := by
        unfold escB
        rw [if_neg h34, if_neg h92, if_neg h8, if_neg h12, if_neg h10, if_neg h13, if_neg h9, if_pos h32]
      have a1 := hexC_in (a := c.toNat / 16) (by omega)
      have a2 := hexC_in (a := c.toNat % 16) (by omega)
      rw [quoB, e]
      exact wO_esc (wO_in (by decide) (by decide) (wO_in (by decide) (by decide) (wO_in a1.1 a1.2 (wO_in a2.1 a2.2 ih))))
    · have e : escB c = [c] := by
        unfold escB
        rw [if_neg h34, if_neg h92, if_neg h8, if_neg h12, if_neg h10, if_neg h13, if_neg h9, if_neg h32]
      rw [quoB, e]
      exact wO_in h34 h92 ih
theorem wO_quo (s : List UInt8) {r w : List UInt8} (h : wO r false = some w) : wO (quo s ++ r) false = some (quo s ++ w) := by
  unfold quo
  rw [List.cons_append, List.cons_append, List.append_assoc, List.append_assoc]
  exact wO_open (wO_quoB s (wO_close h))
theorem print_chars {n : Int} (h : heldB n = true) : ∀ c ∈ (printL n).1, isSt c = false ∧ c ≠ 34 := by
  have h2 : ¬ (n < -9000000000000000000 ∨ 9000000000000000000 < n) := by
    have := heldB_iff.1 h
    omega
  have key : ∀ c : UInt8, (c = 45 ∨ c = 46 ∨ isFig c = true) → isSt c = false ∧ c ≠ 34 := by
    have hh : ∀ i : Fin 256, (UInt8.ofNat i.val = 45 ∨ UInt8.ofNat i.val = 46 ∨ isFig (UInt8.ofNat i.val) = true) → isSt (UInt8.ofNat i.val) = false ∧ UInt8.ofNat i.val ≠ 34 := by decide +kernel
    intro c
    have h3 := hh ⟨c.toNat, c.toNat_lt⟩
    simp only [UInt8.ofNat_toNat] at h3
    exact h3
  intro c hc
  apply key
  unfold printL at hc
  rw [if_neg h2] at hc
  dsimp only at hc
  rcases List.mem_append.1 hc with hc | hc
  · split at hc
    · left; simpa using hc
    · cases hc
  · rcases List.mem_append.1 hc with hc | hc
    · exact .inr (.inr (dec_figs _ c hc))
    · split at hc
      · cases hc
      · rcases List.mem_append.1 hc with hc | hc
        · right; left; simpa using hc
        · exact .inr (.inr (pad_figs _ c (trimR_mem hc)))
abbrev wPre : List UInt8 := [9]
abbrev wPost : List UInt8 := [10, 32]
theorem wO_brk {c : UInt8} {t w : List UInt8} (hc : isSt c = true) (h : wO t false = some w) : wO (c :: t) false = some (brk wPre wPost c w) := wO_st hc h
mutual
theorem wO_val : ∀ (x : J), okJ x → ∀ {r w : List UInt8}, wO r false = some w → wO (prJ x ++ r) false = some (prW wPre wPost x ++ w)
  | .null, _, r, w, h => by rw [prJ, prW]; exact wO_outs _ (by decide) h
  | .bool true, _, r, w, h => by rw [prJ, prW]; exact wO_outs _ (by decide) h
  | .bool false, _, r, w, h => by rw [prJ, prW]; exact wO_outs _ (by decide) h
  | .num n, hk, r, w, h => by rw [okJ] at hk; rw [prJ, prW]; exact wO_outs _ (print_chars hk) h
  | .text s, _, r, w, h => by rw [prJ, prW]; exact wO_quo s h
  | .list xs, hk, r, w, h => by
    rw [okJ] at hk
    rw [prJ, prW, List.append_assoc, List.append_assoc]
    refine wO_vals 91 xs rfl hk ?_
    unfold endL
    split
    · rw [brk_app, brk_app]; exact wO_brk rfl (wO_brk rfl h)
    · rw [brk_app]; exact wO_brk rfl h
  | .obj ns xs, hk, r, w, h => by
    rw [okJ] at hk
    rw [prJ, prW, List.append_assoc, List.append_assoc]
    refine wO_valm 123 ns xs rfl hk.2.2.2 ?_
    unfold endL
    split
    · rw [brk_app, brk_app]; exact wO_brk rfl (wO_brk rfl h)
    · rw [brk_app]; exact wO_brk rfl h
  | .other _, hk, _, _, _ => by rw [okJ] at hk; exact hk.elim
theorem wO_vals : ∀ (c : UInt8) (l : List J), isSt c = true → okJs l → ∀ {r w : List UInt8}, wO r false = some w → wO (prJs c l ++ r) false = some (prWs wPre wPost c l ++ w)
  | _, [], _, _, r, w, h => by rw [prJs, prWs]; exact h
  | c, x :: t, hc, hk, r, w, h => by
    rw [okJs] at hk
    rw [prJs, prWs, brk_app, List.cons_append, List.append_assoc, List.append_assoc]
    exact wO_brk hc (wO_val x hk.1 (wO_vals 44 t rfl hk.2 h))
theorem wO_valm : ∀ (c : UInt8) (ns : List (List UInt8)) (l : List J), isSt c = true → okJs l → ∀ {r w : List UInt8}, wO r false = some w → wO (prMs c ns l ++ r) false = some (prWm wPre wPost c ns l ++ w)
  | _, _, [], _, _, r, w, h => by rw [prMs, prWm]; exact h
  | c, ns, x :: t, hc, hk, r, w, h => by
    rw [okJs] at hk
    rw [prMs, prWm, brk_app, List.cons_append, List.append_assoc, List.append_assoc, brk_app, List.cons_append, List.append_assoc, List.append_assoc]
    exact wO_brk hc (wO_quo _ (wO_brk rfl (wO_val x hk.1 (wO_valm 44 ns.tail t rfl hk.2 h))))
end
theorem wide_back {x : J} (hk : okJ x) (hd : depJ x ≤ 32) : ∃ w, wO (prJ x) false = some w ∧ ((32 :: w).length ≤ 65536 → jparse (32 :: w) = .ok x) := by
  have h := wO_val x hk (r := []) (w := []) rfl
  rw [List.append_nil, List.append_nil] at h
  refine ⟨_, h, fun hl => ?_⟩
  have := parse_back (pre := wPre) (post := wPost) (q := [32]) (by unfold allBl; decide) (by unfold allBl; decide) hk hd (by unfold allBl; decide) hl
  exact this
theorem wO_len : ∀ (n : Nat) (l : List UInt8) (q : Bool) (w : List UInt8), l.length ≤ n → wO l q = some w → w.length ≤ 4 * l.length
  | _, [], q, w, _, h => by rw [wO] at h; obtain rfl := Option.some.inj h; simp
  | 0, c :: t, _, _, hn, _ => by simp at hn
  | n + 1, c :: t, q, w, hn, h => by
    rw [List.length_cons] at hn
    rw [wO_cons] at h
    split at h
    · obtain ⟨u, hu, rfl⟩ := Option.map_eq_some_iff.1 h
      have := wO_len n t q u (by omega) hu
      simp only [List.length_cons]; omega
    · split at h
      · split at h
        · cases h
        · rename_i d v
          obtain ⟨u, hu, rfl⟩ := Option.map_eq_some_iff.1 h
          have := wO_len n v q u (by rw [List.length_cons] at hn; omega) hu
          simp only [List.length_cons]; omega
      · obtain ⟨u, hu, rfl⟩ := Option.map_eq_some_iff.1 h
        have := wO_len n t _ u (by omega) hu
        simp only [List.length_cons]; omega
end Go.Proofs.YtfmadoeadmclbaaGreatDoor
