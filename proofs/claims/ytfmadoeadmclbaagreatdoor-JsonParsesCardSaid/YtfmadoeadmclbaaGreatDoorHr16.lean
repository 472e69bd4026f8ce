/-
  The walks of the JSON reader's unit and word.
-/
import Derived.Test.YtfmadoeadmclbaaGreatDoorHr2
import Derived.Test.YtfmadoeadmclbaaGreatDoorHr15
namespace Go.Proofs.YtfmadoeadmclbaaGreatDoor
open Go.RowKit Go.TL
set_option maxRecDepth 100000

theorem lowC_up {c : UInt8} (h : 65 ≤ c.toNat ∧ c.toNat ≤ 70) : (((lowC c).toNat : Nat) : Int) = (c.toNat : Nat) + 32 := by
  have hh : ∀ i : Fin 256, decide (65 ≤ (UInt8.ofNat i.val).toNat ∧ (UInt8.ofNat i.val).toNat ≤ 70 → (lowC (UInt8.ofNat i.val)).toNat = (UInt8.ofNat i.val).toNat + 32) = true := by decide +kernel
  have := hh ⟨c.toNat, c.toNat_lt⟩
  simp only [UInt8.ofNat_toNat] at this
  rw [of_decide_eq_true this h]; rfl
theorem lowC_no {c : UInt8} (h : ¬ (65 ≤ c.toNat ∧ c.toNat ≤ 70)) : lowC c = c := by unfold lowC; rw [if_neg h]
theorem hexIx_gives (c : UInt8) (v : Int) (g : Gh) (L : List Ent) (hv : v = (c.toNat : Nat)) : Gives Tryz.prog 48 #[str hexDs, .int .u8 v] g L (.int .i64 (Lib.indexByte hexDs c)) := by
  subst hv; exact IndexByte_gives hexDs c g L
def UnitR (R : Option (Nat × List UInt8)) (b : Nat) (s : List UInt8) (i0 : Nat) (g : Gh) (L : List Ent) : Ending → Gh → List Ent → Prop := fun e g' L1 => match R with
    | some (a, _) => e = .returned (.int .i32 (a : Nat)) ∧ g' = g ∧ L1 = RdJ b s (i0 + 4) :: L ∧ a < 65536
    | none => e = .panicked [stopV 11] ∧ g' = g ∧ L1 = L
set_option maxHeartbeats 8000000 in
theorem junit_round (b : Nat) (s : List UInt8) (i0 : Nat) (R : Option (Nat × List UInt8)) (hs : s.length ≤ 1000000) (hi : i0 ≤ 1000010) (hR : hexF 4 0 (s.drop i0) = R) (g : Gh) (L : List Ent) : Does Tryz.prog 95 #[.pointer (some ⟨b, 0, none⟩)] g (RdJ b s i0 :: L) (UnitR R b s i0 g L) := by
  refine Does.of1 Tryz.func95 rfl Tryz.ntmps95 rfl ?_
  repeat' (first
    | refine wkQ ?_
    | refine wkV ?_
    | refine stS ?_ | (refine stB ?_; intro _) | (refine stC ?_; refine And.intro (fun _ => ?_) (fun _ => ?_)))
  refine TC.loopL (fun z : Nat × Nat => z.1 ≤ 4 ∧ hexF (4 - z.1) z.2 (s.drop (i0 + z.1)) = R ∧ (z.1 = 0 → z.2 < 1) ∧ (z.1 = 1 → z.2 < 16) ∧ (z.1 = 2 → z.2 < 256) ∧ (z.1 = 3 → z.2 < 4096) ∧ (z.1 = 4 → z.2 < 65536)) (fun z => 4 - z.1) (fun z _ => [(6, .int .i64 (z.1 : Nat)), (3, .int .i32 (z.2 : Nat)), (0, .pointer (some ⟨b, 0, none⟩))]) (fun z => RdJ b s (i0 + z.1) :: L) (0, 0) ⟨by omega, hR, by omega, by omega, by omega, by omega, by omega⟩ subA selF ?_
  clear hR
  rintro ⟨j, o⟩ ⟨hj, hR, b0, b1, b2, b3, b4⟩
  dsimp only at hj hR b0 b1 b2 b3 b4 ⊢
  by_cases hlt : j < 4
  · have ho : o < 4096 := by omega
    rw [show 4 - j = (3 - j) + 1 by omega, hexF_get] at hR
    have P := fun L => jpeek_gives b s (i0 + j) g L (by omega) hs
    have hix := ix_hex (s.getD (i0 + j) 0)
    have hin : (hexD (s.getD (i0 + j) 0)).isSome = true → i0 + j < s.length := fun h => by
      by_cases hl : i0 + j < s.length
      · exact hl
      · rw [List.getD_eq_getElem?_getD, List.getElem?_eq_none (by omega), Option.getD_none, hexD_zero] at h; cases h
    have hd16 := fun d => @hexD_lt (s.getD (i0 + j) 0) d
    generalize s.getD (i0 + j) 0 = c at *
    have cb := UInt8.toNat_lt c
    cases hd : hexD c with
    | none =>
      rw [hd] at hR hix
      dsimp only at hR hix
      subst hR
      have N := fun L => need_no (b := decide (0 ≤ (-1 : Int))) (by decide) 11 g L
      by_cases hu : 65 ≤ c.toNat ∧ c.toNat ≤ 70
      · have A := fun L => hexIx_gives (lowC c) ((c.toNat : Nat) + 32) g L (lowC_up hu).symm
        rw [hix] at A
        have H1 : Hn ((65 : Int) ≤ (c.toNat : Nat)) := ⟨by omega⟩
        have H2 : Hn (((c.toNat : Nat) : Int) ≤ 70) := ⟨by omega⟩
        clear hix hin hd16 hd b0 b1 b2 b3 b4
        repeat' (first
    | refine wkQ ?_
    | refine wkV ?_
    | ((with_reducible apply TL.gives_plain); (· kernel_rfl); (· rfl); (· exact P _); (· rfl)) | ((with_reducible apply TW.gives_plain); (· kernel_rfl); (· rfl); (· exact P _); (· rfl))
    | ((with_reducible apply TL.gives_plain); (· kernel_rfl); (· rfl); (· exact A _); (· rfl)) | ((with_reducible apply TW.gives_plain); (· kernel_rfl); (· rfl); (· exact A _); (· rfl))
    | refine TL.throws (Enters.plain (by kernel_rfl) (by rfl)) (N _) (by rfl) ?_
    | refine stS ?_ | (refine stB ?_; intro _) | (refine stC ?_; refine And.intro (fun _ => ?_) (fun _ => ?_)))
        refine TQ.end_panic (L' := L) rfl (.refl _) ?_ selA
        exact ⟨rfl, rfl, rfl⟩
      · have A := fun L => hexIx_gives (lowC c) (c.toNat : Nat) g L (by rw [lowC_no hu])
        rw [hix] at A
        by_cases h1 : 65 ≤ c.toNat
        · have H1 : Hn ((65 : Int) ≤ (c.toNat : Nat)) := ⟨by omega⟩
          have H2 : Hn (¬ ((c.toNat : Nat) : Int) ≤ 70) := ⟨by omega⟩
          clear hix hin hd16 hd b0 b1 b2 b3 b4
          repeat' (first
    | refine wkQ ?_
    | refine wkV ?_
    | ((with_reducible apply TL.gives_plain); (· kernel_rfl); (· rfl); (· exact P _); (· rfl)) | ((with_reducible apply TW.gives_plain); (· kernel_rfl); (· rfl); (· exact P _); (· rfl))
    | ((with_reducible apply TL.gives_plain); (· kernel_rfl); (· rfl); (· exact A _); (· rfl)) | ((with_reducible apply TW.gives_plain); (· kernel_rfl); (· rfl); (· exact A _); (· rfl))
    | refine TL.throws (Enters.plain (by kernel_rfl) (by rfl)) (N _) (by rfl) ?_
    | refine stS ?_ | (refine stB ?_; intro _) | (refine stC ?_; refine And.intro (fun _ => ?_) (fun _ => ?_)))
          refine TQ.end_panic (L' := L) rfl (.refl _) ?_ selA
          exact ⟨rfl, rfl, rfl⟩
        · have H1 : Hn (¬ (65 : Int) ≤ (c.toNat : Nat)) := ⟨by omega⟩
          clear hix hin hd16 hd b0 b1 b2 b3 b4
          repeat' (first
    | refine wkQ ?_
    | refine wkV ?_
    | ((with_reducible apply TL.gives_plain); (· kernel_rfl); (· rfl); (· exact P _); (· rfl)) | ((with_reducible apply TW.gives_plain); (· kernel_rfl); (· rfl); (· exact P _); (· rfl))
    | ((with_reducible apply TL.gives_plain); (· kernel_rfl); (· rfl); (· exact A _); (· rfl)) | ((with_reducible apply TW.gives_plain); (· kernel_rfl); (· rfl); (· exact A _); (· rfl))
    | refine TL.throws (Enters.plain (by kernel_rfl) (by rfl)) (N _) (by rfl) ?_
    | refine stS ?_ | (refine stB ?_; intro _) | (refine stC ?_; refine And.intro (fun _ => ?_) (fun _ => ?_)))
          refine TQ.end_panic (L' := L) rfl (.refl _) ?_ selA
          exact ⟨rfl, rfl, rfl⟩
    | some d =>
      rw [hd] at hR hix
      dsimp only at hR hix
      have hd2 := hd16 d hd
      have hin2 := hin (by rw [hd]; rfl)
      rw [if_pos hin2] at hR
      have HR := Hn.mk hR
      have hdI : (0 : Int) ≤ ((d : Nat) : Int) := Int.natCast_nonneg _
      have N := fun L => need_yes (b := decide (0 ≤ ((d : Nat) : Int))) (decide_eq_true hdI) 11 g L
      have Z1 : Hn (IntKind.i32.wrap (((o : Nat) : Int) * 2 ^ 4) = ((o * 16 : Nat) : Int)) := ⟨by rw [IntWalk.i32_in _ (by omega)]; omega⟩
      have Z2 : Hn (IntKind.i32.wrap ((o * 16 ||| d : Nat) : Int) = ((16 * o + d : Nat) : Int)) := ⟨by rw [lor16 o d hd2]; exact IntWalk.i32_in _ (by omega)⟩
      have hB : Hn ((j + 1 = 0 → 16 * o + d < 1) ∧ (j + 1 = 1 → 16 * o + d < 16) ∧ (j + 1 = 2 → 16 * o + d < 256) ∧ (j + 1 = 3 → 16 * o + d < 4096) ∧ (j + 1 = 4 → 16 * o + d < 65536)) := ⟨by omega⟩
      by_cases hu : 65 ≤ c.toNat ∧ c.toNat ≤ 70
      · have A := fun L => hexIx_gives (lowC c) ((c.toNat : Nat) + 32) g L (lowC_up hu).symm
        rw [hix] at A
        have H1 : Hn ((65 : Int) ≤ (c.toNat : Nat)) := ⟨by omega⟩
        have H2 : Hn (((c.toNat : Nat) : Int) ≤ 70) := ⟨by omega⟩
        clear hix hin hd16 hd hR b0 b1 b2 b3 b4
        repeat' (first
    | refine wkQ ?_
    | ((with_reducible apply TL.pure (d := 24) (v := .int .i32 ((o * 16 : Nat) : Int))); (· exact Y.shl rfl rfl (show (4 : Int) = (4 : Nat) from rfl) (by decide) Z1.out); (· rfl)) | ((with_reducible apply TW.pure (d := 24) (v := .int .i32 ((o * 16 : Nat) : Int))); (· exact Y.shl rfl rfl (show (4 : Int) = (4 : Nat) from rfl) (by decide) Z1.out); (· rfl))
    | ((with_reducible apply TL.pure (d := 27) (v := .int .i32 ((16 * o + d : Nat) : Int))); (· exact Y.or rfl rfl rfl rfl (by show o * 16 < 2 ^ 32; omega) (by show d < 2 ^ 32; omega) Z2.out); (· rfl)) | ((with_reducible apply TW.pure (d := 27) (v := .int .i32 ((16 * o + d : Nat) : Int))); (· exact Y.or rfl rfl rfl rfl (by show o * 16 < 2 ^ 32; omega) (by show d < 2 ^ 32; omega) Z2.out); (· rfl))
    | refine wkV ?_
    | ((with_reducible apply TL.gives_plain); (· kernel_rfl); (· rfl); (· exact P _); (· rfl)) | ((with_reducible apply TW.gives_plain); (· kernel_rfl); (· rfl); (· exact P _); (· rfl))
    | ((with_reducible apply TL.gives_plain); (· kernel_rfl); (· rfl); (· exact A _); (· rfl)) | ((with_reducible apply TW.gives_plain); (· kernel_rfl); (· rfl); (· exact A _); (· rfl))
    | ((with_reducible apply TL.gives_plain); (· kernel_rfl); (· rfl); (· exact N _); (· rfl)) | ((with_reducible apply TW.gives_plain); (· kernel_rfl); (· rfl); (· exact N _); (· rfl))
    | refine stS ?_ | (refine stB ?_; intro _) | (refine stC ?_; refine And.intro (fun _ => ?_) (fun _ => ?_)))
        refine TQ.round (j + 1, 16 * o + d) ?_ ?_ rfl subA selF
        · exact ⟨by dsimp only; omega, by rw [show 4 - (j + 1) = 3 - j by omega]; exact HR.out, hB.out⟩
        · show 4 - (j + 1) < 4 - j
          omega
      · have A := fun L => hexIx_gives (lowC c) (c.toNat : Nat) g L (by rw [lowC_no hu])
        rw [hix] at A
        by_cases h1 : 65 ≤ c.toNat
        · have H1 : Hn ((65 : Int) ≤ (c.toNat : Nat)) := ⟨by omega⟩
          have H2 : Hn (¬ ((c.toNat : Nat) : Int) ≤ 70) := ⟨by omega⟩
          clear hix hin hd16 hd hR b0 b1 b2 b3 b4
          repeat' (first
    | refine wkQ ?_
    | ((with_reducible apply TL.pure (d := 24) (v := .int .i32 ((o * 16 : Nat) : Int))); (· exact Y.shl rfl rfl (show (4 : Int) = (4 : Nat) from rfl) (by decide) Z1.out); (· rfl)) | ((with_reducible apply TW.pure (d := 24) (v := .int .i32 ((o * 16 : Nat) : Int))); (· exact Y.shl rfl rfl (show (4 : Int) = (4 : Nat) from rfl) (by decide) Z1.out); (· rfl))
    | ((with_reducible apply TL.pure (d := 27) (v := .int .i32 ((16 * o + d : Nat) : Int))); (· exact Y.or rfl rfl rfl rfl (by show o * 16 < 2 ^ 32; omega) (by show d < 2 ^ 32; omega) Z2.out); (· rfl)) | ((with_reducible apply TW.pure (d := 27) (v := .int .i32 ((16 * o + d : Nat) : Int))); (· exact Y.or rfl rfl rfl rfl (by show o * 16 < 2 ^ 32; omega) (by show d < 2 ^ 32; omega) Z2.out); (· rfl))
    | refine wkV ?_
    | ((with_reducible apply TL.gives_plain); (· kernel_rfl); (· rfl); (· exact P _); (· rfl)) | ((with_reducible apply TW.gives_plain); (· kernel_rfl); (· rfl); (· exact P _); (· rfl))
    | ((with_reducible apply TL.gives_plain); (· kernel_rfl); (· rfl); (· exact A _); (· rfl)) | ((with_reducible apply TW.gives_plain); (· kernel_rfl); (· rfl); (· exact A _); (· rfl))
    | ((with_reducible apply TL.gives_plain); (· kernel_rfl); (· rfl); (· exact N _); (· rfl)) | ((with_reducible apply TW.gives_plain); (· kernel_rfl); (· rfl); (· exact N _); (· rfl))
    | refine stS ?_ | (refine stB ?_; intro _) | (refine stC ?_; refine And.intro (fun _ => ?_) (fun _ => ?_)))
          refine TQ.round (j + 1, 16 * o + d) ?_ ?_ rfl subA selF
          · exact ⟨by dsimp only; omega, by rw [show 4 - (j + 1) = 3 - j by omega]; exact HR.out, hB.out⟩
          · show 4 - (j + 1) < 4 - j
            omega
        · have H1 : Hn (¬ (65 : Int) ≤ (c.toNat : Nat)) := ⟨by omega⟩
          clear hix hin hd16 hd hR b0 b1 b2 b3 b4
          repeat' (first
    | refine wkQ ?_
    | ((with_reducible apply TL.pure (d := 24) (v := .int .i32 ((o * 16 : Nat) : Int))); (· exact Y.shl rfl rfl (show (4 : Int) = (4 : Nat) from rfl) (by decide) Z1.out); (· rfl)) | ((with_reducible apply TW.pure (d := 24) (v := .int .i32 ((o * 16 : Nat) : Int))); (· exact Y.shl rfl rfl (show (4 : Int) = (4 : Nat) from rfl) (by decide) Z1.out); (· rfl))
    | ((with_reducible apply TL.pure (d := 27) (v := .int .i32 ((16 * o + d : Nat) : Int))); (· exact Y.or rfl rfl rfl rfl (by show o * 16 < 2 ^ 32; omega) (by show d < 2 ^ 32; omega) Z2.out); (· rfl)) | ((with_reducible apply TW.pure (d := 27) (v := .int .i32 ((16 * o + d : Nat) : Int))); (· exact Y.or rfl rfl rfl rfl (by show o * 16 < 2 ^ 32; omega) (by show d < 2 ^ 32; omega) Z2.out); (· rfl))
    | refine wkV ?_
    | ((with_reducible apply TL.gives_plain); (· kernel_rfl); (· rfl); (· exact P _); (· rfl)) | ((with_reducible apply TW.gives_plain); (· kernel_rfl); (· rfl); (· exact P _); (· rfl))
    | ((with_reducible apply TL.gives_plain); (· kernel_rfl); (· rfl); (· exact A _); (· rfl)) | ((with_reducible apply TW.gives_plain); (· kernel_rfl); (· rfl); (· exact A _); (· rfl))
    | ((with_reducible apply TL.gives_plain); (· kernel_rfl); (· rfl); (· exact N _); (· rfl)) | ((with_reducible apply TW.gives_plain); (· kernel_rfl); (· rfl); (· exact N _); (· rfl))
    | refine stS ?_ | (refine stB ?_; intro _) | (refine stC ?_; refine And.intro (fun _ => ?_) (fun _ => ?_)))
          refine TQ.round (j + 1, 16 * o + d) ?_ ?_ rfl subA selF
          · exact ⟨by dsimp only; omega, by rw [show 4 - (j + 1) = 3 - j by omega]; exact HR.out, hB.out⟩
          · show 4 - (j + 1) < 4 - j
            omega
  · obtain rfl : j = 4 := by omega
    rw [hexF] at hR
    subst hR
    have ho := b4 rfl
    repeat' (first
    | refine wkQ ?_
    | refine wkV ?_
    | refine stS ?_ | (refine stB ?_; intro _) | (refine stC ?_; refine And.intro (fun _ => ?_) (fun _ => ?_)))
    refine TQ.endR1 (L' := (RdJ b s (i0 + 4) :: L)) Tryz.results95 rvA rfl (.refl _) ?_ selF
    exact ⟨rfl, rfl, rfl, ho⟩
theorem hasPrefix_take (s p : List UInt8) : Lib.hasPrefix s p = decide (s.take p.length = p) := by
  unfold Lib.hasPrefix
  by_cases h : p <+: s
  · rw [List.prefix_iff_eq_take] at h
    rw [decide_eq_true h.symm]
    exact List.isPrefixOf_iff_prefix.2 (by rw [h]; exact List.take_prefix _ _)
  · rw [decide_eq_false (fun e => h (by rw [← e]; exact List.take_prefix _ _))]
    exact Bool.eq_false_iff.2 fun e => h (List.isPrefixOf_iff_prefix.1 e)
theorem HasPrefix_gives (s p : List UInt8) (g : Gh) (L : List Ent) : Gives Tryz.prog 68 #[str s, str p] g L (.bool (decide (s.take p.length = p))) := .mk fun w hw => by
  refine (Tryz.strings_HasPrefix ⟨s.toArray⟩ ⟨p.toArray⟩ w).mono fun e w' ⟨h1, h2⟩ => ⟨?_, by rw [h2]; exact hw⟩
  rw [h1, ← hasPrefix_take]
set_option maxHeartbeats 8000000 in
theorem jword_yes (b : Nat) (s : List UInt8) (i : Nat) (p : List UInt8) (v : Value) (g : Gh) (L : List Ent) (hi : i ≤ s.length) (hs : s.length ≤ 1000000) (h : (s.drop i).take p.length = p) : Turns Tryz.prog 43 #[.pointer (some ⟨b, 0, none⟩), str p, v] g (RdJ b s i :: L) v (RdJ b s (i + p.length) :: L) := by
  refine .of (Does.of3 Tryz.func43 rfl Tryz.ntmps43 rfl ?_)
  have hpl : p.length ≤ 1000000 := by have := congrArg List.length h; rw [List.length_take, List.length_drop] at this; omega
  have A := fun L => HasPrefix_gives (s.drop i) p g L
  rw [decide_eq_true h] at A
  have N := fun L => need_yes (b := true) rfl 11 g L
  clear h
  repeat' (first
    | refine wkQ ?_
    | refine wkV ?_
    | ((with_reducible apply TL.gives_plain); (· kernel_rfl); (· rfl); (· exact A _); (· rfl)) | ((with_reducible apply TW.gives_plain); (· kernel_rfl); (· rfl); (· exact A _); (· rfl))
    | ((with_reducible apply TL.gives_plain); (· kernel_rfl); (· rfl); (· exact N _); (· rfl)) | ((with_reducible apply TW.gives_plain); (· kernel_rfl); (· rfl); (· exact N _); (· rfl))
    | refine wkP ?_
    | ((with_reducible apply TL.byteK); (· rfl); (· rfl); (· exact natA); (· assumption); (· rfl); intro _) | ((with_reducible apply TL.byte); (· rfl); (· rfl); (· exact natA); (· exact omA); (· rfl); intro _ _ _)
    | refine stS ?_ | (refine stB ?_; intro _) | (refine stC ?_; refine And.intro (fun _ => ?_) (fun _ => ?_))
    | apply TC.region_draw (by kernel_rfl) (by kernel_rfl) | refine TW.nil ?_ | ((with_reducible apply TW.pure); (· exact yA); (· rfl))
    | ((with_reducible apply TL.range_str); (· rfl); (· rfl); intro _) | ((with_reducible apply TL.next_str); (· rfl); (· exact pkA); (· rfl); all_goals intro _)
    | ((with_reducible apply TW.byteK); (· rfl); (· rfl); (· exact natA); (· assumption); (· rfl); intro _) | ((with_reducible apply TW.byte); (· rfl); (· rfl); (· exact natA); (· exact omA); (· rfl); intro _ _ _)
    | refine TW.guard_yes rfl rfl ?_ | refine TW.guard_no rfl rfl rfl rfl ?_ | refine TW.guard_undef rfl rfl rfl ?_ | refine TW.guard rfl rfl rfl ?_)
  refine TQ.endR1 (L' := (RdJ b s (i + p.length) :: L)) Tryz.results43 rvA rfl (.refl _) ?_ selF
  exact ⟨rfl, rfl, rfl⟩
set_option maxHeartbeats 8000000 in
theorem jword_no (b : Nat) (s : List UInt8) (i : Nat) (p : List UInt8) (v : Value) (g : Gh) (L : List Ent) (hi : i ≤ s.length) (_hs : s.length ≤ 1000000) (h : (s.drop i).take p.length ≠ p) : Throws Tryz.prog 43 #[.pointer (some ⟨b, 0, none⟩), str p, v] g (RdJ b s i :: L) [stopV 11] := by
  refine .of (Does.of3 Tryz.func43 rfl Tryz.ntmps43 rfl ?_)
  have A := fun L => HasPrefix_gives (s.drop i) p g L
  rw [decide_eq_false h] at A
  have N := fun L => need_no (b := false) rfl 11 g L
  clear h
  repeat' (first
    | refine wkQ ?_
    | refine wkV ?_
    | ((with_reducible apply TL.gives_plain); (· kernel_rfl); (· rfl); (· exact A _); (· rfl)) | ((with_reducible apply TW.gives_plain); (· kernel_rfl); (· rfl); (· exact A _); (· rfl))
    | refine TL.throws (Enters.plain (by kernel_rfl) (by rfl)) (N _) (by rfl) ?_
    | refine wkN0 ?_
    | refine wkN1 ?_
    | refine wkN2 ?_
    | refine wkN3 ?_
    | refine wkN0 ?_
    | refine wkN1 ?_
    | refine wkN2 ?_
    | refine wkN3 ?_
    | ((with_reducible apply TA.oneN 0); (· rfl); (· rfl); (· decide +kernel); (· rfl))
    | ((with_reducible apply TA.oneN 1); (· rfl); (· rfl); (· decide +kernel); (· rfl))
    | ((with_reducible apply TA.oneN 2); (· rfl); (· rfl); (· decide +kernel); (· rfl))
    | ((with_reducible apply TA.oneN 3); (· rfl); (· rfl); (· decide +kernel); (· rfl))
    | refine TQ.any leF selF ?_
    | refine TC.region_any 12 (_) (by kernel_rfl) rfl selF ?_ | refine TA.done (by decide +kernel) ?_ | refine TQ.any_panic ?_
    | refine stS ?_ | (refine stB ?_; intro _) | (refine stC ?_; refine And.intro (fun _ => ?_) (fun _ => ?_)))
  refine TQ.end_panic (L' := (RdJ b s i :: L)) rfl (.refl _) ?_ selA
  exact ⟨rfl, rfl, rfl⟩
end Go.Proofs.YtfmadoeadmclbaaGreatDoor
