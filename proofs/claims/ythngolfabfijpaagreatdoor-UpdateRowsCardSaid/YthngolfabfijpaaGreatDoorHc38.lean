/-
  The walk of the document's Light. JSON texts as data: what a text is read as; plain texts. A sign's code and its bytes.
-/
import Derived.Test.YthngolfabfijpaaGreatDoorHc2
import Derived.Test.YthngolfabfijpaaGreatDoorHc5
import Derived.Test.YthngolfabfijpaaGreatDoorHc10
import Derived.Test.YthngolfabfijpaaGreatDoorHc4
import Derived.Test.YthngolfabfijpaaGreatDoorHc8
import Derived.Lib.RuneBytes
namespace Go.Proofs.YthngolfabfijpaaGreatDoor
open Go.RowKit Go.TL
set_option maxRecDepth 100000

set_option maxHeartbeats 8000000 in
theorem count_gives : ∀ (N : Nat) (x : DV), dsz x ≤ N → ∀ (cs : List Value) (g : Gh) (L : List Ent) (left : Int), IsV g x cs → 0 ≤ left → left ≤ 1000 → Gives Tryz.prog 32 #[.agg cs.toArray, .int .i64 left] g L (.int .i64 (cnt x left))
  | 0, .mk .., h, _, _, _, _, _, _, _ => by rw [dsz] at h; omega
  | N + 1, .mk k b n s items names, hN, cs, g, L, left, hV, l0, l1 => by
    have IH := count_gives N
    rw [dsz] at hN
    rw [IsV] at hV
    obtain ⟨vi, vn, flat, rfl, ⟨k0, k1⟩, _, hs, hi, hil, hfl, hn, hnl, hns⟩ := hV
    obtain ⟨aoi, capi, rfl⟩ := hi.slice
    obtain ⟨aon, capn, rfl⟩ := hn.slice
    obtain ⟨R, hR⟩ : ∃ R, R = cnt (.mk k b n s items names) left := ⟨_, rfl⟩
    rw [← hR]
    rw [cnt] at hR
    refine .of (Does.of2 Tryz.func32 rfl Tryz.ntmps32 rfl ?_)
    by_cases hb1 : left - 1 < 0
    · rw [if_pos (.inl hb1)] at hR
      subst hR
      repeat' (first
    | refine stS ?_ | (refine stB ?_; intro _) | (refine stC ?_; refine And.intro (fun _ => ?_) (fun _ => ?_)))
      refine TQ.endR1 (L' := L) Tryz.results32 rvA rfl (.refl _) ?_ selA
      exact ⟨rfl, rfl, rfl⟩
    by_cases hb2 : 300 < s.length
    · rw [if_pos (.inr (.inl hb2))] at hR
      subst hR
      repeat' (first
    | refine stS ?_ | (refine stB ?_; intro _) | (refine stC ?_; refine And.intro (fun _ => ?_) (fun _ => ?_)))
      refine TQ.endR1 (L' := L) Tryz.results32 rvA rfl (.refl _) ?_ selA
      exact ⟨rfl, rfl, rfl⟩
    by_cases hb3 : 300 < items.length
    · rw [if_pos (.inr (.inr (.inl hb3)))] at hR
      subst hR
      repeat' (first
    | refine stS ?_ | (refine stB ?_; intro _) | (refine stC ?_; refine And.intro (fun _ => ?_) (fun _ => ?_)))
      refine TQ.endR1 (L' := L) Tryz.results32 rvA rfl (.refl _) ?_ selA
      exact ⟨rfl, rfl, rfl⟩
    by_cases hk5 : k = 5
    · subst hk5
      by_cases hb4 : names.length = items.length
      · rw [if_neg (by omega), if_pos (.inr rfl)] at hR
        repeat' (first
    | refine stS ?_ | (refine stB ?_; intro _) | (refine stC ?_; refine And.intro (fun _ => ?_) (fun _ => ?_)))
        rename_i bo
        refine TC.loopK (fun x : Nat × Int => x.1 ≤ items.length ∧ 0 ≤ x.2 ∧ x.2 ≤ 1000 ∧ cnts true (names.drop x.1) (items.drop x.1) x.2 = R) (fun x => items.length - x.1) (fun x _ => [(5, .int .i64 (x.1 : Nat)), (1, .int .i64 x.2), (2, .pointer (some ⟨bo, 0, none⟩))]) [] (by repeat (first | apply Drop.nil | apply Drop.cons (by (repeat (first | apply Pick.here | apply Pick.there))))) (fun _ L => L) (0, left - 1) ⟨Nat.zero_le _, by omega, by omega, by rw [hR]; rfl⟩ subA selA ?_
        clear hR
        rintro ⟨i, l⟩ ⟨hi1, m0, m1, hR⟩
        dsimp only at hi1 m0 m1 hR ⊢
        by_cases hlt : i < items.length
        · obtain ⟨x, hx⟩ : ∃ x, items[i]? = some x := ⟨_, List.getElem?_eq_getElem hlt⟩
          obtain ⟨nm, hnm⟩ : ∃ nm, names[i]? = some nm := ⟨_, List.getElem?_eq_getElem (by omega)⟩
          obtain ⟨cs', hV', hl6, hcs⟩ := hfl.get hx
          obtain ⟨b1, o1, rfl, hg⟩ := hi.elem hlt (by decide)
          obtain ⟨b2, o2, rfl, hg2⟩ := hn.elem (i := i) (by omega) (by decide)
          have hld : ∀ j u, cs'[j]? = some u → g.cell b1 (o1 + i * 6 + j) = some u := fun j u hu => hg j u (hcs j u hu)
          have hln : g.cell b2 (o2 + i * 1) = some (str nm) := hg2 0 _ (by rw [Nat.mul_one]; exact strs_get hnm)
          have hnmb := hns nm (List.mem_of_getElem? hnm)
          have hsz := dsz_get hx
          rw [cnts_at hx, List.headD_eq_head?_getD, List.head?_drop, hnm] at hR
          obtain ⟨c0, c1⟩ := cnt_bd x l m0 m1
          have A := fun L => IH x (by omega) cs' g L l hV' m0 m1
          generalize cnt x l = r at *
          clear hfl hi hn hcs hg hg2 hns hV'
          simp only [Option.getD_some, true_and] at hR
          have hR1 : 300 < nm.length → R = -1 := fun h => by rw [if_pos h] at hR; exact hR.symm
          have hR2 : ¬ 300 < nm.length → r < 0 → R = -1 := fun h h2 => by rw [if_neg h, if_pos h2] at hR; exact hR.symm
          have hR3 : ¬ 300 < nm.length → ¬ r < 0 → cnts true (names.drop (i + 1)) (items.drop (i + 1)) r = R := fun h h2 => by rw [if_neg h, if_neg h2] at hR; exact hR
          clear hR
          repeat' (first
    | refine wkV ?_
    | ((with_reducible apply TL.gives_plain); (· kernel_rfl); (· rfl); (· exact A _); (· rfl)) | ((with_reducible apply TW.gives_plain); (· kernel_rfl); (· rfl); (· exact A _); (· rfl))
    | refine stS ?_ | (refine stB ?_; intro _) | (refine stC ?_; refine And.intro (fun _ => ?_) (fun _ => ?_)))
          · obtain rfl := hR1 (by omega)
            refine TQ.endR1 (L' := L) Tryz.results32 rvA rfl (.refl _) ?_ selA
            exact ⟨rfl, rfl, rfl⟩
          · obtain rfl := hR2 (by omega) (by omega)
            refine TQ.endR1 (L' := L) Tryz.results32 rvA rfl (.refl _) ?_ selA
            exact ⟨rfl, rfl, rfl⟩
          · refine TQ.round (i + 1, r) ?_ ?_ rfl subA selA
            · exact ⟨by omega, by omega, c1, hR3 (by omega) (by omega)⟩
            · show items.length - (i + 1) < items.length - i
              omega
        · obtain rfl : i = items.length := by omega
          rw [List.drop_length, cnts] at hR
          subst hR
          repeat' (first
    | refine stS ?_ | (refine stB ?_; intro _) | (refine stC ?_; refine And.intro (fun _ => ?_) (fun _ => ?_)))
          refine TQ.endR1 (L' := L) Tryz.results32 rvA rfl (.refl _) ?_ selA
          exact ⟨rfl, rfl, rfl⟩
      · rw [if_pos (.inr (.inr (.inr ⟨rfl, hb4⟩)))] at hR
        subst hR
        repeat' (first
    | refine stS ?_ | (refine stB ?_; intro _) | (refine stC ?_; refine And.intro (fun _ => ?_) (fun _ => ?_)))
        refine TQ.endR1 (L' := L) Tryz.results32 rvA rfl (.refl _) ?_ selA
        exact ⟨rfl, rfl, rfl⟩
    by_cases hk4 : k = 4
    · subst hk4
      rw [if_neg (by omega), if_pos (.inl rfl)] at hR
      repeat' (first
    | refine stS ?_ | (refine stB ?_; intro _) | (refine stC ?_; refine And.intro (fun _ => ?_) (fun _ => ?_)))
      rename_i bo
      refine TC.loopK (fun x : Nat × Int => x.1 ≤ items.length ∧ 0 ≤ x.2 ∧ x.2 ≤ 1000 ∧ cnts false (names.drop x.1) (items.drop x.1) x.2 = R) (fun x => items.length - x.1) (fun x _ => [(5, .int .i64 (x.1 : Nat)), (1, .int .i64 x.2), (2, .pointer (some ⟨bo, 0, none⟩))]) [] (by repeat (first | apply Drop.nil | apply Drop.cons (by (repeat (first | apply Pick.here | apply Pick.there))))) (fun _ L => L) (0, left - 1) ⟨Nat.zero_le _, by omega, by omega, by rw [hR]; rfl⟩ subA selA ?_
      clear hR
      rintro ⟨i, l⟩ ⟨hi1, m0, m1, hR⟩
      dsimp only at hi1 m0 m1 hR ⊢
      by_cases hlt : i < items.length
      · obtain ⟨x, hx⟩ : ∃ x, items[i]? = some x := ⟨_, List.getElem?_eq_getElem hlt⟩
        obtain ⟨cs', hV', hl6, hcs⟩ := hfl.get hx
        obtain ⟨b1, o1, rfl, hg⟩ := hi.elem hlt (by decide)
        have hld : ∀ j u, cs'[j]? = some u → g.cell b1 (o1 + i * 6 + j) = some u := fun j u hu => hg j u (hcs j u hu)
        have hsz := dsz_get hx
        rw [cnts_at hx, if_neg (by simp)] at hR
        obtain ⟨c0, c1⟩ := cnt_bd x l m0 m1
        have A := fun L => IH x (by omega) cs' g L l hV' m0 m1
        generalize cnt x l = r at *
        clear hfl hi hn hcs hg hns hV'
        have hR2 : r < 0 → R = -1 := fun h2 => by rw [if_pos h2] at hR; exact hR.symm
        have hR3 : ¬ r < 0 → cnts false (names.drop (i + 1)) (items.drop (i + 1)) r = R := fun h2 => by rw [if_neg h2] at hR; exact hR
        clear hR
        repeat' (first
    | refine wkV ?_
    | ((with_reducible apply TL.gives_plain); (· kernel_rfl); (· rfl); (· exact A _); (· rfl)) | ((with_reducible apply TW.gives_plain); (· kernel_rfl); (· rfl); (· exact A _); (· rfl))
    | refine stS ?_ | (refine stB ?_; intro _) | (refine stC ?_; refine And.intro (fun _ => ?_) (fun _ => ?_)))
        · obtain rfl := hR2 (by omega)
          refine TQ.endR1 (L' := L) Tryz.results32 rvA rfl (.refl _) ?_ selA
          exact ⟨rfl, rfl, rfl⟩
        · refine TQ.round (i + 1, r) ?_ ?_ rfl subA selA
          · exact ⟨by omega, by omega, c1, hR3 (by omega)⟩
          · show items.length - (i + 1) < items.length - i
            omega
      · obtain rfl : i = items.length := by omega
        rw [List.drop_length, cnts] at hR
        subst hR
        repeat' (first
    | refine stS ?_ | (refine stB ?_; intro _) | (refine stC ?_; refine And.intro (fun _ => ?_) (fun _ => ?_)))
        refine TQ.endR1 (L' := L) Tryz.results32 rvA rfl (.refl _) ?_ selA
        exact ⟨rfl, rfl, rfl⟩
    rw [if_neg (by omega), if_neg (by omega)] at hR
    subst hR
    have n5 : Hn (¬ k = 5) := ⟨hk5⟩
    have n4 : Hn (¬ k = 4) := ⟨hk4⟩
    repeat' (first
    | refine stS ?_ | (refine stB ?_; intro _) | (refine stC ?_; refine And.intro (fun _ => ?_) (fun _ => ?_)))
    refine TQ.endR1 (L' := L) Tryz.results32 rvA rfl (.refl _) ?_ selA
    exact ⟨rfl, rfl, rfl⟩
set_option maxHeartbeats 4000000 in
theorem light_gives (x : DV) (cs : List Value) (g : Gh) (L : List Ent) (hV : IsV g x cs) : Gives Tryz.prog 15 #[.agg cs.toArray] g L (.bool (lightB x)) := by
  refine .of (Does.of1 Tryz.func15 rfl Tryz.ntmps15 rfl ?_)
  have A := fun L => count_gives _ x (Nat.le_refl _) cs g L 300 hV (by decide) (by decide)
  obtain ⟨c0, c1⟩ := cnt_bd x 300 (by decide) (by decide)
  unfold lightB
  generalize cnt x 300 = r at *
  have h6 := hV.len
  clear hV
  repeat' (first
    | refine wkV ?_
    | ((with_reducible apply TL.gives_plain); (· kernel_rfl); (· rfl); (· exact A _); (· rfl)) | ((with_reducible apply TW.gives_plain); (· kernel_rfl); (· rfl); (· exact A _); (· rfl))
    | refine stS ?_ | (refine stB ?_; intro _) | (refine stC ?_; refine And.intro (fun _ => ?_) (fun _ => ?_)))
  all_goals
    refine TQ.endR1 (L' := L) Tryz.results15 rvA rfl (.refl _) ?_ selA
    exact ⟨rfl, rfl, rfl⟩
end Go.Proofs.YthngolfabfijpaaGreatDoor
namespace Go.Proofs.YthngolfabfijpaaGreatDoor
open Go.RowKit Go.TL

def signB (c : Nat) : List UInt8 :=
  if c < 128 then [UInt8.ofNat c] else if c < 2048 then [UInt8.ofNat (192 + c / 64), UInt8.ofNat (128 + c % 64)]
  else if c < 65536 then [UInt8.ofNat (224 + c / 4096), UInt8.ofNat (128 + c / 64 % 64), UInt8.ofNat (128 + c % 64)]
  else [UInt8.ofNat (240 + c / 262144), UInt8.ofNat (128 + c / 4096 % 64), UInt8.ofNat (128 + c / 64 % 64), UInt8.ofNat (128 + c % 64)]
def shortL (c : UInt8) : Option Nat := if c = 34 then some 34 else if c = 92 then some 92 else if c = 47 then some 47 else if c = 98 then some 8 else if c = 102 then some 12 else if c = 110 then some 10 else if c = 114 then some 13 else if c = 116 then some 9 else none
/-! ### No more bytes than there were -/
end Go.Proofs.YthngolfabfijpaaGreatDoor
namespace Go.Proofs.YthngolfabfijpaaGreatDoor
open Go.RowKit Go.TL
set_option maxRecDepth 100000

theorem permF {L' L : List Ent} (h : L'.Perm L := by first | ((repeat (first | with_reducible apply List.Perm.refl | with_reducible apply Pk.cons (by first | ((repeat (first | with_reducible apply Pick.here | with_reducible apply Pick.there)); done) | fail))); done) | fail) : L'.Perm L := h
theorem ofN {x : UInt8} {n : Nat} (h : n = x.toNat) : UInt8.ofNat n = x := by rw [h, UInt8.ofNat_toNat]
def goodC (c : Nat) : Prop := c ≤ 1114111 ∧ (c < 55296 ∨ 57344 ≤ c)
theorem valid_good {c : Nat} (h : Utf8.valid (c : Int) = true) : goodC c := by
  rw [valid_iff] at h
  have := of_decide_eq_true h
  unfold goodC; omega
theorem decode_bytes (x : UInt8) (r : List UInt8) (h : signL (x :: r) ≠ 0) : ∃ c k, Lib.decodeL (x :: r) = (c, k) ∧ k = signL (x :: r) ∧ k ≤ (x :: r).length ∧ 1 ≤ k ∧ (x :: r).take k = signB c ∧ goodC c ∧ (x.toNat < 128 → c = x.toNat) ∧ (128 ≤ x.toNat → 128 ≤ c) := by
  rcases decode_sign x r with ⟨h0, _⟩ | ⟨_, hk, hn⟩
  · exact absurd h0 h
  have hx := UInt8.toNat_lt x
  refine ⟨(Lib.decodeL (x :: r)).1, (Lib.decodeL (x :: r)).2, rfl, hk, ?_⟩
  clear hk h
  have e := decode_eq (x :: r)
  simp only [List.getD_cons_zero, List.getD_cons_succ, beq_iff_eq, Bool.and_eq_true, decide_eq_true_eq, List.length_cons] at e
  generalize Lib.decodeL (x :: r) = d at *
  by_cases c1 : x.toNat < 128
  · rw [if_pos c1] at e
    subst e
    refine ⟨by simp, by simp, ?_, by unfold goodC; dsimp only; omega, fun _ => rfl, fun h => by omega⟩
    dsimp only
    unfold signB
    rw [if_pos c1, ofN rfl]; rfl
  rw [if_neg c1] at e
  split at e
  · rename_i hh
    obtain ⟨h1, h2, h3⟩ := hh
    match r, h2, h3 with
    | a :: t, h2, h3 =>
      simp only [List.getD_cons_zero] at e h3
      have ha := UInt8.toNat_lt a
      split at e
      · rename_i hc
        obtain ⟨c, hcc⟩ : ∃ c, c = x.toNat % 32 * 64 + a.toNat % 64 := ⟨_, rfl⟩
        rw [← hcc] at e hc
        subst e
        refine ⟨by simp, by simp, ?_, by unfold goodC; dsimp only; omega, fun h => by omega, fun _ => hc⟩
        dsimp only
        unfold signB
        rw [if_neg (by omega), if_pos (by omega), ofN (x := x) (by omega), ofN (x := a) (by omega)]; rfl
      · subst e; exact absurd ⟨rfl, rfl⟩ hn
    | [], h2, _ => simp at h2
  split at e
  · rename_i hh
    obtain ⟨⟨h1, h2, h3⟩, h4, h5⟩ := hh
    match r, h4, h3, h5 with
    | a :: b :: t, h4, h3, h5 =>
      simp only [List.getD_cons_zero, List.getD_cons_succ] at e h3 h5
      have ha := UInt8.toNat_lt a
      have hb := UInt8.toNat_lt b
      split at e
      · rename_i hc
        obtain ⟨c, hcc⟩ : ∃ c, c = x.toNat % 16 * 4096 + a.toNat % 64 * 64 + b.toNat % 64 := ⟨_, rfl⟩
        rw [← hcc] at e hc
        subst e
        have hg := valid_good hc.2
        refine ⟨by simp, by simp, ?_, hg, fun h => by omega, fun _ => by have := hc.1; dsimp only; omega⟩
        have := hc.1
        dsimp only
        unfold signB
        rw [if_neg (by omega), if_neg (by omega), if_pos (by omega), ofN (x := x) (by omega), ofN (x := a) (by omega), ofN (x := b) (by omega)]; rfl
      · subst e; exact absurd ⟨rfl, rfl⟩ hn
    | [_], h4, _, _ => simp at h4
    | [], h4, _, _ => simp at h4
  split at e
  · rename_i hh
    obtain ⟨⟨⟨h1, h2, h3⟩, h4, h5⟩, h6, h7⟩ := hh
    rcases r with _ | ⟨a, _ | ⟨b, _ | ⟨d', t⟩⟩⟩
    · simp at h6
    · simp at h6
    · simp at h6
    · simp only [List.getD_cons_zero, List.getD_cons_succ] at e h3 h5 h7
      have ha := UInt8.toNat_lt a
      have hb := UInt8.toNat_lt b
      have hd := UInt8.toNat_lt d'
      split at e
      · rename_i hc
        obtain ⟨c, hcc⟩ : ∃ c, c = x.toNat % 8 * 262144 + a.toNat % 64 * 4096 + b.toNat % 64 * 64 + d'.toNat % 64 := ⟨_, rfl⟩
        rw [← hcc] at e hc
        subst e
        have hg := valid_good hc.2
        refine ⟨by simp, by simp, ?_, hg, fun h => by omega, fun _ => by have := hc.1; dsimp only; omega⟩
        have := hc.1
        have hg1 := hg.1
        dsimp only at hg1 ⊢
        unfold signB
        rw [if_neg (by omega), if_neg (by omega), if_neg (by omega), ofN (x := x) (by omega), ofN (x := a) (by omega), ofN (x := b) (by omega), ofN (x := d') (by omega)]; rfl
      · subst e; exact absurd ⟨rfl, rfl⟩ hn
  · subst e; exact absurd ⟨rfl, rfl⟩ hn
end Go.Proofs.YthngolfabfijpaaGreatDoor
