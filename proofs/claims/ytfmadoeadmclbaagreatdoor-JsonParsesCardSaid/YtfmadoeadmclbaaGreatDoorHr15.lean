/-
  The walks of the JSON reader's small parts: blanks, peek, take, want, unit, word.
-/
import Derived.Test.YtfmadoeadmclbaaGreatDoorHr2
import Derived.Test.YtfmadoeadmclbaaGreatDoorHr11
import Derived.Test.YtfmadoeadmclbaaGreatDoorHr6
namespace Go.Proofs.YtfmadoeadmclbaaGreatDoor
open Go.RowKit Go.TL
set_option maxRecDepth 100000

abbrev RdJ (b : Nat) (s : List UInt8) (i : Nat) : Ent := .obj b (.cells [str s, .int .i64 (i : Nat)].toArray 58 (0, 0))
def blN : List UInt8 → Nat
  | [] => 0
  | c :: t => if isBl c = true then blN t + 1 else 0
theorem blN_le : ∀ (s : List UInt8), blN s ≤ s.length
  | [] => Nat.le_refl _
  | c :: t => by
    have := blN_le t
    rw [blN]; split
    · rw [List.length_cons]; omega
    · exact Nat.zero_le _
theorem blL_N : ∀ (s : List UInt8), blL s = s.drop (blN s)
  | [] => rfl
  | c :: t => by
    rw [blL, blN]; split
    · rw [List.drop_succ_cons]; exact blL_N t
    · rfl
def blAt (s : List UInt8) (i : Nat) : Nat := i + blN (s.drop i)
theorem blAt_bd (s : List UInt8) (i : Nat) (h : i ≤ s.length) : i ≤ blAt s i ∧ blAt s i ≤ s.length := by
  have := blN_le (s.drop i)
  rw [List.length_drop] at this
  unfold blAt; omega
theorem blAt_drop (s : List UInt8) (i : Nat) : s.drop (blAt s i) = blL (s.drop i) := by
  rw [blL_N, List.drop_drop]; rfl
theorem blAt_step {s : List UInt8} {i : Nat} {c : UInt8} (h : s[i]? = some c) : blAt s i = if isBl c = true then blAt s (i + 1) else i := by
  unfold blAt
  rw [drop_of_get h, blN]
  split <;> omega
theorem blAt_end {s : List UInt8} {i : Nat} (h : s.length ≤ i) : blAt s i = i := by
  unfold blAt
  rw [List.drop_eq_nil_of_le h, blN]; omega
theorem IndexByte_gives (s : List UInt8) (c : UInt8) (g : Gh) (L : List Ent) : Gives Tryz.prog 48 #[str s, .int .u8 (c.toNat : Nat)] g L (.int .i64 (Lib.indexByte s c)) := .mk fun w hw => by
  refine (Tryz.strings_IndexByte ⟨s.toArray⟩ (c.toNat : Nat) w).mono fun e w' ⟨h1, h2⟩ => ⟨?_, by rw [h2]; exact hw⟩
  rw [h1, show ((c.toNat : Nat) : Int).toNat.toUInt8 = c by simp]
theorem ix_bl (c : UInt8) : (0 ≤ Lib.indexByte [32, 9, 10, 13] c) ↔ isBl c = true := by
  have h : ∀ i : Fin 256, (decide (0 ≤ Lib.indexByte [32, 9, 10, 13] (UInt8.ofNat i.val)) = isBl (UInt8.ofNat i.val)) := by decide +kernel
  have := h ⟨c.toNat, c.toNat_lt⟩
  simp only [UInt8.ofNat_toNat] at this
  rw [← this, decide_eq_true_iff]
set_option maxHeartbeats 8000000 in
theorem jblanks_turns (b : Nat) (s : List UInt8) (i0 : Nat) (g : Gh) (L : List Ent) (hi0 : i0 ≤ s.length) (hs : s.length ≤ 1000000) : Turns Tryz.prog 28 #[.pointer (some ⟨b, 0, none⟩)] g (RdJ b s i0 :: L) (.tuple #[]) (RdJ b s (blAt s i0) :: L) := by
  refine .of (Does.of1 Tryz.func28 rfl Tryz.ntmps28 rfl ?_)
  obtain ⟨z, hz⟩ : ∃ z, z = blAt s i0 := ⟨_, rfl⟩
  rw [← hz]
  refine TC.block ?_
  refine TC.loopL (fun i : Nat => i ≤ s.length ∧ blAt s i = z) (fun i => s.length - i) (fun _ _ => [(0, .pointer (some ⟨b, 0, none⟩))]) (fun i => RdJ b s i :: L) i0 ⟨hi0, hz.symm⟩ subA selF ?_
  rintro i ⟨hi, hb⟩
  try dsimp only at hi hb ⊢
  by_cases hlt : i < s.length
  · obtain ⟨c, hc⟩ : ∃ c, s[i]? = some c := ⟨_, List.getElem?_eq_getElem hlt⟩
    rw [blAt_step hc] at hb
    have A := fun L => IndexByte_gives [32, 9, 10, 13] c g L
    have hx := ix_bl c
    generalize Lib.indexByte [32, 9, 10, 13] c = x at *
    by_cases hbl : isBl c = true
    · rw [if_pos hbl] at hb
      have HX := Hn.mk (hx.2 hbl)
      have HB := Hn.mk hb
      clear hb hx hbl
      repeat' (first
    | refine wkQ ?_
    | refine wkV ?_
    | ((with_reducible apply TL.gives_plain); (· kernel_rfl); (· rfl); (· exact A _); (· rfl)) | ((with_reducible apply TW.gives_plain); (· kernel_rfl); (· rfl); (· exact A _); (· rfl))
    | refine wkP ?_
    | ((with_reducible apply TL.byteK); (· rfl); (· rfl); (· exact natA); (· assumption); (· rfl); intro _) | ((with_reducible apply TL.byte); (· rfl); (· rfl); (· exact natA); (· exact omA); (· rfl); intro _ _ _)
    | refine stS ?_ | (refine stB ?_; intro _) | (refine stC ?_; refine And.intro (fun _ => ?_) (fun _ => ?_))
    | apply TC.region_draw (by kernel_rfl) (by kernel_rfl) | refine TW.nil ?_ | ((with_reducible apply TW.pure); (· exact yA); (· rfl))
    | ((with_reducible apply TL.range_str); (· rfl); (· rfl); intro _) | ((with_reducible apply TL.next_str); (· rfl); (· exact pkA); (· rfl); all_goals intro _)
    | ((with_reducible apply TW.byteK); (· rfl); (· rfl); (· exact natA); (· assumption); (· rfl); intro _) | ((with_reducible apply TW.byte); (· rfl); (· rfl); (· exact natA); (· exact omA); (· rfl); intro _ _ _)
    | refine TW.guard_yes rfl rfl ?_ | refine TW.guard_no rfl rfl rfl rfl ?_ | refine TW.guard_undef rfl rfl rfl ?_ | refine TW.guard rfl rfl rfl ?_)
      refine TQ.round (i + 1) ?_ ?_ rfl subA selF
      · exact ⟨by omega, HB.out⟩
      · show s.length - (i + 1) < s.length - i
        omega
    · rw [if_neg hbl] at hb
      have HX := Hn.mk (fun h => hbl (hx.1 h))
      subst hb
      clear hx hbl
      repeat' (first
    | refine wkQ ?_
    | refine wkV ?_
    | ((with_reducible apply TL.gives_plain); (· kernel_rfl); (· rfl); (· exact A _); (· rfl)) | ((with_reducible apply TW.gives_plain); (· kernel_rfl); (· rfl); (· exact A _); (· rfl))
    | refine wkP ?_
    | ((with_reducible apply TL.byteK); (· rfl); (· rfl); (· exact natA); (· assumption); (· rfl); intro _) | ((with_reducible apply TL.byte); (· rfl); (· rfl); (· exact natA); (· exact omA); (· rfl); intro _ _ _)
    | refine stS ?_ | (refine stB ?_; intro _) | (refine stC ?_; refine And.intro (fun _ => ?_) (fun _ => ?_))
    | apply TC.region_draw (by kernel_rfl) (by kernel_rfl) | refine TW.nil ?_ | ((with_reducible apply TW.pure); (· exact yA); (· rfl))
    | ((with_reducible apply TL.range_str); (· rfl); (· rfl); intro _) | ((with_reducible apply TL.next_str); (· rfl); (· exact pkA); (· rfl); all_goals intro _)
    | ((with_reducible apply TW.byteK); (· rfl); (· rfl); (· exact natA); (· assumption); (· rfl); intro _) | ((with_reducible apply TW.byte); (· rfl); (· rfl); (· exact natA); (· exact omA); (· rfl); intro _ _ _)
    | refine TW.guard_yes rfl rfl ?_ | refine TW.guard_no rfl rfl rfl rfl ?_ | refine TW.guard_undef rfl rfl rfl ?_ | refine TW.guard rfl rfl rfl ?_)
      refine TQ.end_normal ?_
      refine TQ.endR0 (L' := (RdJ b s i :: L)) Tryz.results28 rfl (.refl _) ?_ selF
      exact ⟨rfl, rfl, rfl⟩
  · rw [blAt_end (by omega)] at hb
    subst hb
    repeat' (first
    | refine wkQ ?_
    | refine wkV ?_
    | refine wkP ?_
    | ((with_reducible apply TL.byteK); (· rfl); (· rfl); (· exact natA); (· assumption); (· rfl); intro _) | ((with_reducible apply TL.byte); (· rfl); (· rfl); (· exact natA); (· exact omA); (· rfl); intro _ _ _)
    | refine stS ?_ | (refine stB ?_; intro _) | (refine stC ?_; refine And.intro (fun _ => ?_) (fun _ => ?_))
    | apply TC.region_draw (by kernel_rfl) (by kernel_rfl) | refine TW.nil ?_ | ((with_reducible apply TW.pure); (· exact yA); (· rfl))
    | ((with_reducible apply TL.range_str); (· rfl); (· rfl); intro _) | ((with_reducible apply TL.next_str); (· rfl); (· exact pkA); (· rfl); all_goals intro _)
    | ((with_reducible apply TW.byteK); (· rfl); (· rfl); (· exact natA); (· assumption); (· rfl); intro _) | ((with_reducible apply TW.byte); (· rfl); (· rfl); (· exact natA); (· exact omA); (· rfl); intro _ _ _)
    | refine TW.guard_yes rfl rfl ?_ | refine TW.guard_no rfl rfl rfl rfl ?_ | refine TW.guard_undef rfl rfl rfl ?_ | refine TW.guard rfl rfl rfl ?_)
    refine TQ.end_normal ?_
    refine TQ.endR0 (L' := (RdJ b s i :: L)) Tryz.results28 rfl (.refl _) ?_ selF
    exact ⟨rfl, rfl, rfl⟩
theorem jpeek_gives (b : Nat) (s : List UInt8) (i : Nat) (g : Gh) (L : List Ent) (_hi : i ≤ 2000000) (_hs : s.length ≤ 1000000) : Gives Tryz.prog 42 #[.pointer (some ⟨b, 0, none⟩)] g (RdJ b s i :: L) (.int .u8 ((s.getD i 0).toNat : Nat)) := by
  refine .of (Does.of1 Tryz.func42 rfl Tryz.ntmps42 rfl ?_)
  by_cases hlt : i < s.length
  · obtain ⟨c, hc⟩ : ∃ c, s[i]? = some c := ⟨_, List.getElem?_eq_getElem hlt⟩
    have hd : s.getD i 0 = c := by rw [List.getD_eq_getElem?_getD, hc]; rfl
    rw [hd]
    clear hd
    repeat' (first
    | refine wkQ ?_
    | refine wkV ?_
    | refine wkP ?_
    | ((with_reducible apply TL.byteK); (· rfl); (· rfl); (· exact natA); (· assumption); (· rfl); intro _) | ((with_reducible apply TL.byte); (· rfl); (· rfl); (· exact natA); (· exact omA); (· rfl); intro _ _ _)
    | refine stS ?_ | (refine stB ?_; intro _) | (refine stC ?_; refine And.intro (fun _ => ?_) (fun _ => ?_))
    | apply TC.region_draw (by kernel_rfl) (by kernel_rfl) | refine TW.nil ?_ | ((with_reducible apply TW.pure); (· exact yA); (· rfl))
    | ((with_reducible apply TL.range_str); (· rfl); (· rfl); intro _) | ((with_reducible apply TL.next_str); (· rfl); (· exact pkA); (· rfl); all_goals intro _)
    | ((with_reducible apply TW.byteK); (· rfl); (· rfl); (· exact natA); (· assumption); (· rfl); intro _) | ((with_reducible apply TW.byte); (· rfl); (· rfl); (· exact natA); (· exact omA); (· rfl); intro _ _ _)
    | refine TW.guard_yes rfl rfl ?_ | refine TW.guard_no rfl rfl rfl rfl ?_ | refine TW.guard_undef rfl rfl rfl ?_ | refine TW.guard rfl rfl rfl ?_)
    refine TQ.endR1 (L' := (RdJ b s i :: L)) Tryz.results42 rvA rfl (.refl _) ?_ selF
    exact ⟨rfl, rfl, rfl⟩
  · have hd : s.getD i 0 = 0 := by rw [List.getD_eq_getElem?_getD, List.getElem?_eq_none (by omega)]; rfl
    rw [hd]
    clear hd
    repeat' (first
    | refine wkQ ?_
    | refine wkV ?_
    | refine wkP ?_
    | ((with_reducible apply TL.byteK); (· rfl); (· rfl); (· exact natA); (· assumption); (· rfl); intro _) | ((with_reducible apply TL.byte); (· rfl); (· rfl); (· exact natA); (· exact omA); (· rfl); intro _ _ _)
    | refine stS ?_ | (refine stB ?_; intro _) | (refine stC ?_; refine And.intro (fun _ => ?_) (fun _ => ?_))
    | apply TC.region_draw (by kernel_rfl) (by kernel_rfl) | refine TW.nil ?_ | ((with_reducible apply TW.pure); (· exact yA); (· rfl))
    | ((with_reducible apply TL.range_str); (· rfl); (· rfl); intro _) | ((with_reducible apply TL.next_str); (· rfl); (· exact pkA); (· rfl); all_goals intro _)
    | ((with_reducible apply TW.byteK); (· rfl); (· rfl); (· exact natA); (· assumption); (· rfl); intro _) | ((with_reducible apply TW.byte); (· rfl); (· rfl); (· exact natA); (· exact omA); (· rfl); intro _ _ _)
    | refine TW.guard_yes rfl rfl ?_ | refine TW.guard_no rfl rfl rfl rfl ?_ | refine TW.guard_undef rfl rfl rfl ?_ | refine TW.guard rfl rfl rfl ?_)
    refine TQ.endR1 (L' := (RdJ b s i :: L)) Tryz.results42 rvA rfl (.refl _) ?_ selF
    exact ⟨rfl, rfl, rfl⟩
set_option maxHeartbeats 4000000 in
theorem jtake_yes (b : Nat) (s : List UInt8) (i : Nat) (c : UInt8) (g : Gh) (L : List Ent) (hi : s[i]? = some c) (hs : s.length ≤ 1000000) : Turns Tryz.prog 72 #[.pointer (some ⟨b, 0, none⟩), .int .u8 (c.toNat : Nat)] g (RdJ b s i :: L) (.bool true) (RdJ b s (i + 1) :: L) := by
  refine .of (Does.of2 Tryz.func72 rfl Tryz.ntmps72 rfl ?_)
  have hlt := (List.getElem?_eq_some_iff.1 hi).1
  have HQ : Hn (((c.toNat : Nat) : Int) = (c.toNat : Nat)) := ⟨rfl⟩
  repeat' (first
    | refine wkQ ?_
    | refine wkV ?_
    | refine wkP ?_
    | ((with_reducible apply TL.byteK); (· rfl); (· rfl); (· exact natA); (· assumption); (· rfl); intro _) | ((with_reducible apply TL.byte); (· rfl); (· rfl); (· exact natA); (· exact omA); (· rfl); intro _ _ _)
    | refine stS ?_ | (refine stB ?_; intro _) | (refine stC ?_; refine And.intro (fun _ => ?_) (fun _ => ?_))
    | apply TC.region_draw (by kernel_rfl) (by kernel_rfl) | refine TW.nil ?_ | ((with_reducible apply TW.pure); (· exact yA); (· rfl))
    | ((with_reducible apply TL.range_str); (· rfl); (· rfl); intro _) | ((with_reducible apply TL.next_str); (· rfl); (· exact pkA); (· rfl); all_goals intro _)
    | ((with_reducible apply TW.byteK); (· rfl); (· rfl); (· exact natA); (· assumption); (· rfl); intro _) | ((with_reducible apply TW.byte); (· rfl); (· rfl); (· exact natA); (· exact omA); (· rfl); intro _ _ _)
    | refine TW.guard_yes rfl rfl ?_ | refine TW.guard_no rfl rfl rfl rfl ?_ | refine TW.guard_undef rfl rfl rfl ?_ | refine TW.guard rfl rfl rfl ?_)
  refine TQ.endR1 (L' := (RdJ b s (i + 1) :: L)) Tryz.results72 rvA rfl (.refl _) ?_ selF
  exact ⟨rfl, rfl, rfl⟩
set_option maxHeartbeats 4000000 in
theorem jtake_no (b : Nat) (s : List UInt8) (i : Nat) (c : UInt8) (g : Gh) (L : List Ent) (hi : s[i]? ≠ some c) (_hs : s.length ≤ 1000000) : Gives Tryz.prog 72 #[.pointer (some ⟨b, 0, none⟩), .int .u8 (c.toNat : Nat)] g (RdJ b s i :: L) (.bool false) := by
  refine .of (Does.of2 Tryz.func72 rfl Tryz.ntmps72 rfl ?_)
  by_cases hlt : i < s.length
  · obtain ⟨d, hd⟩ : ∃ d, s[i]? = some d := ⟨_, List.getElem?_eq_getElem hlt⟩
    have HQ : Hn (¬ ((d.toNat : Nat) : Int) = (c.toNat : Nat)) := ⟨fun e => hi (by rw [hd, UInt8.toNat_inj.1 (show d.toNat = c.toNat by omega)])⟩
    clear hi
    repeat' (first
    | refine wkQ ?_
    | refine wkV ?_
    | refine wkP ?_
    | ((with_reducible apply TL.byteK); (· rfl); (· rfl); (· exact natA); (· assumption); (· rfl); intro _) | ((with_reducible apply TL.byte); (· rfl); (· rfl); (· exact natA); (· exact omA); (· rfl); intro _ _ _)
    | refine stS ?_ | (refine stB ?_; intro _) | (refine stC ?_; refine And.intro (fun _ => ?_) (fun _ => ?_))
    | apply TC.region_draw (by kernel_rfl) (by kernel_rfl) | refine TW.nil ?_ | ((with_reducible apply TW.pure); (· exact yA); (· rfl))
    | ((with_reducible apply TL.range_str); (· rfl); (· rfl); intro _) | ((with_reducible apply TL.next_str); (· rfl); (· exact pkA); (· rfl); all_goals intro _)
    | ((with_reducible apply TW.byteK); (· rfl); (· rfl); (· exact natA); (· assumption); (· rfl); intro _) | ((with_reducible apply TW.byte); (· rfl); (· rfl); (· exact natA); (· exact omA); (· rfl); intro _ _ _)
    | refine TW.guard_yes rfl rfl ?_ | refine TW.guard_no rfl rfl rfl rfl ?_ | refine TW.guard_undef rfl rfl rfl ?_ | refine TW.guard rfl rfl rfl ?_)
    refine TQ.endR1 (L' := (RdJ b s i :: L)) Tryz.results72 rvA rfl (.refl _) ?_ selF
    exact ⟨rfl, rfl, rfl⟩
  · clear hi
    repeat' (first
    | refine wkQ ?_
    | refine wkV ?_
    | refine wkP ?_
    | ((with_reducible apply TL.byteK); (· rfl); (· rfl); (· exact natA); (· assumption); (· rfl); intro _) | ((with_reducible apply TL.byte); (· rfl); (· rfl); (· exact natA); (· exact omA); (· rfl); intro _ _ _)
    | refine stS ?_ | (refine stB ?_; intro _) | (refine stC ?_; refine And.intro (fun _ => ?_) (fun _ => ?_))
    | apply TC.region_draw (by kernel_rfl) (by kernel_rfl) | refine TW.nil ?_ | ((with_reducible apply TW.pure); (· exact yA); (· rfl))
    | ((with_reducible apply TL.range_str); (· rfl); (· rfl); intro _) | ((with_reducible apply TL.next_str); (· rfl); (· exact pkA); (· rfl); all_goals intro _)
    | ((with_reducible apply TW.byteK); (· rfl); (· rfl); (· exact natA); (· assumption); (· rfl); intro _) | ((with_reducible apply TW.byte); (· rfl); (· rfl); (· exact natA); (· exact omA); (· rfl); intro _ _ _)
    | refine TW.guard_yes rfl rfl ?_ | refine TW.guard_no rfl rfl rfl rfl ?_ | refine TW.guard_undef rfl rfl rfl ?_ | refine TW.guard rfl rfl rfl ?_)
    refine TQ.endR1 (L' := (RdJ b s i :: L)) Tryz.results72 rvA rfl (.refl _) ?_ selF
    exact ⟨rfl, rfl, rfl⟩
theorem jwant_yes (b : Nat) (s : List UInt8) (i : Nat) (c : UInt8) (g : Gh) (L : List Ent) (hi : s[i]? = some c) (hs : s.length ≤ 1000000) : Turns Tryz.prog 73 #[.pointer (some ⟨b, 0, none⟩), .int .u8 (c.toNat : Nat)] g (RdJ b s i :: L) (.tuple #[]) (RdJ b s (i + 1) :: L) := by
  refine .of (Does.of2 Tryz.func73 rfl Tryz.ntmps73 rfl ?_)
  have A := fun L => jtake_yes b s i c g L hi hs
  have N := fun L => need_yes (b := true) rfl 11 g L
  repeat' (first
    | refine wkQ ?_
    | refine wkV ?_
    | apply TL.turns (Enters.func (by rfl) (by kernel_rfl) (by rfl)) (A _) permA (by rfl) | apply TL.turns (Enters.plain (by kernel_rfl) (by rfl)) (A _) permA (by rfl)
    | ((with_reducible apply TL.gives_plain); (· kernel_rfl); (· rfl); (· exact N _); (· rfl)) | ((with_reducible apply TW.gives_plain); (· kernel_rfl); (· rfl); (· exact N _); (· rfl))
    | refine stS ?_ | (refine stB ?_; intro _) | (refine stC ?_; refine And.intro (fun _ => ?_) (fun _ => ?_)))
  refine TQ.end_normal ?_
  refine TQ.endR0 (L' := (RdJ b s (i + 1) :: L)) Tryz.results73 rfl (.refl _) ?_ selF
  exact ⟨rfl, rfl, rfl⟩
theorem jwant_no (b : Nat) (s : List UInt8) (i : Nat) (c : UInt8) (g : Gh) (L : List Ent) (hi : s[i]? ≠ some c) (hs : s.length ≤ 1000000) : Throws Tryz.prog 73 #[.pointer (some ⟨b, 0, none⟩), .int .u8 (c.toNat : Nat)] g (RdJ b s i :: L) [stopV 11] := by
  refine .of (Does.of2 Tryz.func73 rfl Tryz.ntmps73 rfl ?_)
  have A := fun L => jtake_no b s i c g L hi hs
  have N := fun L => need_no (b := false) rfl 11 g L
  repeat' (first
    | refine wkQ ?_
    | refine wkV ?_
    | ((with_reducible apply TL.gives_plain); (· kernel_rfl); (· rfl); (· exact A _); (· rfl)) | ((with_reducible apply TW.gives_plain); (· kernel_rfl); (· rfl); (· exact A _); (· rfl))
    | refine TL.throws (Enters.plain (by kernel_rfl) (by rfl)) (N _) (by rfl) ?_
    | refine stS ?_ | (refine stB ?_; intro _) | (refine stC ?_; refine And.intro (fun _ => ?_) (fun _ => ?_)))
  refine TQ.end_panic (L' := (RdJ b s i :: L)) rfl (.refl _) ?_ selA
  exact ⟨rfl, rfl, rfl⟩
def hexDs : List UInt8 := [48, 49, 50, 51, 52, 53, 54, 55, 56, 57, 97, 98, 99, 100, 101, 102]
def lowC (c : UInt8) : UInt8 := if 65 ≤ c.toNat ∧ c.toNat ≤ 70 then c + 32 else c
theorem ix_hex (c : UInt8) : Lib.indexByte hexDs (lowC c) = match hexD c with
    | some d => (d : Int)
    | none => -1 := by
  have h : ∀ i : Fin 256, decide (Lib.indexByte hexDs (lowC (UInt8.ofNat i.val)) = match hexD (UInt8.ofNat i.val) with
    | some d => (d : Int)
    | none => -1) = true := by decide +kernel
  have := h ⟨c.toNat, c.toNat_lt⟩
  simp only [UInt8.ofNat_toNat] at this
  exact of_decide_eq_true this
theorem hexD_lt {c : UInt8} {d : Nat} (h : hexD c = some d) : d < 16 := by
  have hh : ∀ i : Fin 256, (match hexD (UInt8.ofNat i.val) with
    | some d => decide (d < 16)
    | none => true) = true := by decide +kernel
  have := hh ⟨c.toNat, c.toNat_lt⟩
  simp only [UInt8.ofNat_toNat] at this
  rw [h] at this
  exact of_decide_eq_true this
theorem hexD_zero : hexD 0 = none := by decide +kernel
theorem lor16 (n d : Nat) (h : d < 16) : (n * 16) ||| d = 16 * n + d := by
  have := Nat.shiftLeft_add_eq_or_of_lt (i := 4) (show d < 2 ^ 4 from h) n
  rw [Nat.shiftLeft_eq] at this
  rw [show n * 16 = n * 2 ^ 4 from rfl, ← this]; omega
theorem hexF_get (k n : Nat) (s : List UInt8) (i : Nat) : hexF (k + 1) n (s.drop i) = match hexD (s.getD i 0) with
    | some d => if i < s.length then hexF k (16 * n + d) (s.drop (i + 1)) else none
    | none => none := by
  by_cases hlt : i < s.length
  · obtain ⟨c, hc⟩ : ∃ c, s[i]? = some c := ⟨_, List.getElem?_eq_getElem hlt⟩
    rw [drop_of_get hc, hexF, List.getD_eq_getElem?_getD, hc, Option.getD_some]
    cases hexD c with
    | none => rfl
    | some d => dsimp only; rw [if_pos hlt]
  · rw [List.drop_eq_nil_of_le (by omega), hexF, List.getD_eq_getElem?_getD, List.getElem?_eq_none (by omega), Option.getD_none, hexD_zero]
end Go.Proofs.YtfmadoeadmclbaaGreatDoor
