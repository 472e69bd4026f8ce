/-
  num's Parse and Scan, as the walk by lemmas takes them. The walks of the JSON reader's escape (all of it) and number.
-/
import Derived.Test.YtfmadoeadmclbaaGreatDoorHb7
import Derived.Test.YtfmadoeadmclbaaGreatDoorHb26
import Derived.Test.YtfmadoeadmclbaaGreatDoorHb1
import Derived.Test.YtfmadoeadmclbaaGreatDoorHb25
namespace Go.Proofs.YtfmadoeadmclbaaGreatDoor
open Go.RowKit Go.TL
set_option maxRecDepth 100000

theorem nParse_g (s : List UInt8) {g : Gh} {L : List Ent} (h : s.length ≤ 4611686018427387904) : Gives Tryz.prog 75 #[str s] g L (.tuple #[.int .i64 (parseL s).1, .int .i64 (parseL s).2]) :=
  .ext fun w => parse_any ⟨s.toArray⟩ s w (by simp) (by rw [size_mk]; exact h)
theorem nScan_g (s : List UInt8) {g : Gh} {L : List Ent} (h : s.length ≤ 4611686018427387904) : Gives Tryz.prog 74 #[str s] g L (.int .i64 (scanL s : Nat)) :=
  .ext fun w => scan_any ⟨s.toArray⟩ s w (by simp) (by rw [size_mk]; exact h)
theorem parseL_bd6 (s : List UInt8) : 0 ≤ (parseL s).2 ∧ (parseL s).2 ≤ 12 := by
  unfold parseL
  split
  · decide
  · split
    · decide
    · split
      · unfold numOf; dsimp only; repeat' split
        all_goals first | decide | (show (0 : Int) ≤ 0 ∧ (0 : Int) ≤ 12; decide)
      · decide
end Go.Proofs.YtfmadoeadmclbaaGreatDoor
namespace Go.Proofs.YtfmadoeadmclbaaGreatDoor
open Go.RowKit Go.TL
set_option maxRecDepth 100000

end Go.Proofs.YtfmadoeadmclbaaGreatDoor
namespace Go.TL
open Go Go.RowKit Go.Proofs.YtfmadoeadmclbaaGreatDoor
section
variable {P : Program} {n : Nat} {ds : List Deferred} {S : Slots} {g : Gh} {L : List Ent} {gd : Option (Nat × Bool)} {dst : Option Nat} {x y : Operand} {t t' ty : TypeId} {pos : String} {aft : Array Edge} {p q : Int} {k : IntKind}
theorem Y.gtr_b {b : Bool} (hb : decide (q < p) = b) (hx : ev S x = some (.int k p)) (hy : ev S y = some (.int k q)) : Yields P n ds S g L ⟨dst, .binOp .gtr t x y t', ty, pos, aft, gd⟩ (.bool b) := by
  subst hb; exact Y.gtr hx hy
theorem Y.eql_b {b : Bool} (hb : decide (p = q) = b) (hx : ev S x = some (.int k p)) (hy : ev S y = some (.int k q)) : Yields P n ds S g L ⟨dst, .binOp .eql t x y t', ty, pos, aft, gd⟩ (.bool b) := by
  subst hb; exact Y.eql hx hy
end
end Go.TL
namespace Go.Proofs.YtfmadoeadmclbaaGreatDoor
open Go.RowKit Go.TL
set_option maxRecDepth 100000
theorem jescape_does (b : Nat) (s : List UInt8) (i : Nat) (hi : i ≤ s.length) (hs : s.length ≤ 1000000) (g : Gh) (L : List Ent) : Does Tryz.prog 70 #[.pointer (some ⟨b, 0, none⟩)] g (RdJ b s i :: L) (EscR (escJ (s.drop i)) b s g L) := by
  by_cases hlt : i < s.length
  · obtain ⟨c, hc⟩ : ∃ c, s[i]? = some c := ⟨_, List.getElem?_eq_getElem hlt⟩
    rw [drop_of_get hc, escJ]
    cases hk : shortL c with
    | none =>
      dsimp only
      exact jescape_rest b s i c hi hs (by rw [List.getD_eq_getElem?_getD, hc]; rfl) hk g L
    | some k =>
      dsimp only
      by_cases h47 : c = 47
      · subst h47
        obtain rfl : k = 47 := by
          have : shortL 47 = some 47 := by decide
          rw [this] at hk; exact (Option.some.inj hk).symm
        exact jescape_slash b s i hs hc g L
      · exact jescape_short b s i c k hs hc hk h47 g L
  · have h := jescape_rest b s i 0 hi hs (by rw [List.getD_eq_getElem?_getD, List.getElem?_eq_none (by omega)]; rfl) (by decide) g L
    rw [List.drop_eq_nil_of_le (by omega), escJ]
    unfold escT at h
    rw [if_neg (by decide)] at h
    exact h
def RdR (o : Except Nat (J × List UInt8)) (b : Nat) (s : List UInt8) (L : List Ent) : Ending → Gh → List Ent → Prop := fun e g' L1 => match o with
    | .ok (x, r) => ∃ v i', e = .returned v ∧ L1 = RdJ b s i' :: L ∧ i' ≤ s.length ∧ s.drop i' = r ∧ IsJ g' x v
    | .error k => e = .panicked [stopV k] ∧ L1 = L
theorem get0_len {s : List UInt8} {x : UInt8} (h : s[0]? = some x) : 1 ≤ s.length := (List.getElem?_eq_some_iff.1 h).1
theorem signAt_le (s : List UInt8) : signAt s ≤ s.length := by
  unfold signAt; split
  · exact get0_len ‹_›
  · exact Nat.zero_le _
theorem wholeLen_le (s : List UInt8) : wholeLen s ≤ s.length := by
  unfold wholeLen; split
  · exact get0_len ‹_›
  · exact figs_le s
theorem expSign_le (s : List UInt8) : expSign s ≤ s.length := by
  unfold expSign; split
  · rename_i h
    rcases h with h | h <;> exact get0_len h
  · exact Nat.zero_le _
theorem rest1_le (s : List UInt8) : (if restLen s = 0 then 0 else 1 + restLen s) ≤ s.length := by
  split
  · exact Nat.zero_le _
  · rename_i h
    unfold restLen at h ⊢
    split
    · rename_i h0
      have h1 := get0_len h0
      have h2 := figs_le (s.drop 1)
      rw [List.length_drop] at h2
      omega
    · rename_i h0
      rw [if_neg h0] at h; exact absurd rfl h
theorem isE_len {s : List UInt8} (h : isE s = true) : 1 ≤ s.length := by
  unfold isE at h
  rw [Bool.or_eq_true, beq_iff_eq, beq_iff_eq] at h
  rcases h with h | h <;> exact get0_len h
theorem scan_le (s : List UInt8) : scanL s ≤ s.length := by
  unfold scanL
  cases h : cutL s with
  | none => exact Nat.zero_le _
  | some p =>
    dsimp only
    unfold cutL at h
    dsimp only at h
    have h1 := signAt_le s
    generalize signAt s = a at *
    have h2 := wholeLen_le (s.drop a)
    rw [List.length_drop] at h2
    split at h
    · cases h
    generalize wholeLen (s.drop a) = n at *
    have h3 := rest1_le ((s.drop a).drop n)
    rw [List.length_drop, List.length_drop] at h3
    generalize (if restLen ((s.drop a).drop n) = 0 then 0 else 1 + restLen ((s.drop a).drop n)) = m at *
    split at h
    · rename_i hE
      have h4 := isE_len hE
      rw [List.length_drop] at h4
      have h5 := expSign_le ((s.drop (a + n + m)).drop 1)
      rw [List.length_drop, List.length_drop] at h5
      generalize expSign ((s.drop (a + n + m)).drop 1) = q at *
      have h6 := figs_le ((s.drop (a + n + m)).drop (1 + q))
      rw [List.length_drop, List.length_drop] at h6
      split at h
      · obtain rfl := Option.some.inj h
        dsimp only; omega
      · obtain rfl := Option.some.inj h
        dsimp only; omega
    · obtain rfl := Option.some.inj h
      dsimp only; omega
theorem parseL_val (s : List UInt8) : -9000000000000000000 ≤ (parseL s).1 ∧ (parseL s).1 ≤ 9000000000000000000 := by
  unfold parseL
  split
  · decide
  · split
    · decide
    · split
      · unfold numOf; dsimp only
        split
        · decide
        split
        · decide
        split
        · decide
        · rename_i h
          dsimp only
          generalize valD _ * 10 ^ _ = q at h
          split <;> omega
      · decide
set_option maxHeartbeats 16000000 in
theorem jnumber_does (b : Nat) (s : List UInt8) (i : Nat) (hi : i ≤ s.length) (hs : s.length ≤ 1000000) (g : Gh) (L : List Ent) : Does Tryz.prog 47 #[.pointer (some ⟨b, 0, none⟩)] g (RdJ b s i :: L) (RdR (numW (s.drop i)) b s L) := by
  refine Does.of1 Tryz.func47 rfl Tryz.ntmps47 rfl ?_
  have A := fun L => nScan_g (g := g) (L := L) (s.drop i) (by rw [List.length_drop]; omega)
  have hsl := scan_le (s.drop i)
  rw [List.length_drop] at hsl
  unfold numW
  obtain ⟨n, hn⟩ : ∃ n, n = scanL (s.drop i) := ⟨_, rfl⟩
  rw [← hn] at A hsl ⊢
  by_cases h0 : n = 0
  · rw [if_pos h0]
    subst h0
    have N := fun L => need_no (b := false) rfl 11 g L
    repeat' (first
    | ((with_reducible apply TL.pure); (· exact yQ); (· rfl))
    | ((with_reducible apply TL.pure); (· exact yV); (· rfl)) | ((with_reducible apply TW.pure); (· exact yV); (· rfl))
    | ((with_reducible apply TL.gives_plain); (· kernel_rfl); (· rfl); (· exact A _); (· rfl)) | ((with_reducible apply TW.gives_plain); (· kernel_rfl); (· rfl); (· exact A _); (· rfl))
    | refine TL.throws (Enters.plain (by kernel_rfl) (by rfl)) (N _) (by rfl) ?_
    | ((with_reducible apply TL.pure); (· exact yA); (· rfl))
    | ((with_reducible apply TL.byteK); (· rfl); (· rfl); (· exact natA); (· assumption); (· rfl); intro _) | ((with_reducible apply TL.byte); (· rfl); (· rfl); (· exact natA); (· exact omA); (· rfl); intro _ _ _)
    | refine stS ?_ | (refine stB ?_; intro _) | (refine stC ?_; refine And.intro (fun _ => ?_) (fun _ => ?_))
    | apply TC.region_draw (by kernel_rfl) (by kernel_rfl) | refine TW.nil ?_ | ((with_reducible apply TW.pure); (· exact yA); (· rfl))
    | ((with_reducible apply TL.range_str); (· rfl); (· rfl); intro _) | ((with_reducible apply TL.next_str); (· rfl); (· exact pkA); (· rfl); all_goals intro _)
    | ((with_reducible apply TW.byteK); (· rfl); (· rfl); (· exact natA); (· assumption); (· rfl); intro _) | ((with_reducible apply TW.byte); (· rfl); (· rfl); (· exact natA); (· exact omA); (· rfl); intro _ _ _)
    | refine TW.guard_yes rfl rfl ?_ | refine TW.guard_no rfl rfl rfl rfl ?_ | refine TW.guard_undef rfl rfl rfl ?_ | refine TW.guard rfl rfl rfl ?_)
    refine TQ.end_panic (L' := L) rfl (.refl _) ?_ selA
    exact ⟨rfl, rfl⟩
  · rw [if_neg h0]
    have N := fun L => need_yes (b := true) rfl 11 g L
    have H0 : Hn ((0 : Int) < (n : Nat)) := ⟨by omega⟩
    have hin : i + n ≤ s.length := by omega
    have B := fun L => nParse_g (g := g) (L := L) ((s.drop i).take n) (by rw [List.length_take, List.length_drop]; omega)
    obtain ⟨hv0, hv1⟩ := parseL_val ((s.drop i).take n)
    obtain ⟨he0, _⟩ := parseL_bd6 ((s.drop i).take n)
    generalize parseL ((s.drop i).take n) = pr at *
    obtain ⟨x, e⟩ := pr
    dsimp only at B hv0 hv1 he0 ⊢
    obtain ⟨k, rfl⟩ : ∃ k : Nat, e = (k : Nat) := ⟨e.toNat, by omega⟩
    have ND : Hn ((s.drop i).drop n = s.drop (i + n)) := ⟨List.drop_drop ..⟩
    clear hn h0
    by_cases hk : k = 0
    · subst hk
      rw [if_pos (show ((0 : Nat) : Int) = 0 from rfl), ND.out]
      have N2 := fun L => need_yes (b := true) rfl 0 g L
      repeat' (first
    | ((with_reducible apply TL.pure); (· exact yQ); (· rfl))
    | ((with_reducible apply TL.pure (d := 17) (v := .bool true)); (· exact Y.gtr_b (decide_eq_true H0.out) rfl rfl); (· rfl)) | ((with_reducible apply TW.pure (d := 17) (v := .bool true)); (· exact Y.gtr_b (decide_eq_true H0.out) rfl rfl); (· rfl))
    | ((with_reducible apply TL.pure); (· exact yV); (· rfl)) | ((with_reducible apply TW.pure); (· exact yV); (· rfl))
    | ((with_reducible apply TL.gives_plain); (· kernel_rfl); (· rfl); (· exact A _); (· rfl)) | ((with_reducible apply TW.gives_plain); (· kernel_rfl); (· rfl); (· exact A _); (· rfl))
    | ((with_reducible apply TL.gives_plain); (· kernel_rfl); (· rfl); (· exact N _); (· rfl)) | ((with_reducible apply TW.gives_plain); (· kernel_rfl); (· rfl); (· exact N _); (· rfl))
    | ((with_reducible apply TL.gives_plain); (· kernel_rfl); (· rfl); (· exact B _); (· rfl)) | ((with_reducible apply TW.gives_plain); (· kernel_rfl); (· rfl); (· exact B _); (· rfl))
    | ((with_reducible apply TL.gives_plain); (· kernel_rfl); (· rfl); (· exact N2 _); (· rfl)) | ((with_reducible apply TW.gives_plain); (· kernel_rfl); (· rfl); (· exact N2 _); (· rfl))
    | ((with_reducible apply TL.pure); (· exact yA); (· rfl))
    | ((with_reducible apply TL.byteK); (· rfl); (· rfl); (· exact natA); (· assumption); (· rfl); intro _) | ((with_reducible apply TL.byte); (· rfl); (· rfl); (· exact natA); (· exact omA); (· rfl); intro _ _ _)
    | refine stS ?_ | (refine stB ?_; intro _) | (refine stC ?_; refine And.intro (fun _ => ?_) (fun _ => ?_))
    | apply TC.region_draw (by kernel_rfl) (by kernel_rfl) | refine TW.nil ?_ | ((with_reducible apply TW.pure); (· exact yA); (· rfl))
    | ((with_reducible apply TL.range_str); (· rfl); (· rfl); intro _) | ((with_reducible apply TL.next_str); (· rfl); (· exact pkA); (· rfl); all_goals intro _)
    | ((with_reducible apply TW.byteK); (· rfl); (· rfl); (· exact natA); (· assumption); (· rfl); intro _) | ((with_reducible apply TW.byte); (· rfl); (· rfl); (· exact natA); (· exact omA); (· rfl); intro _ _ _)
    | refine TW.guard_yes rfl rfl ?_ | refine TW.guard_no rfl rfl rfl rfl ?_ | refine TW.guard_undef rfl rfl rfl ?_ | refine TW.guard rfl rfl rfl ?_)
      refine TQ.endR1 (L' := (RdJ b s (i + n) :: L)) Tryz.results47 rvA rfl (.refl _) ?_ selF
      refine ⟨_, i + n, rfl, rfl, hin, rfl, ?_⟩
      rw [IsJ]
      exact ⟨rfl, by omega, by omega⟩
    · rw [if_neg (by omega)]
      have HK : Hn (¬ ((k : Nat) : Int) = 0) := ⟨by omega⟩
      have N2 := fun L => need_no (b := false) rfl k g L
      rw [show ((k : Nat) : Int).toNat = k from rfl]
      repeat' (first
    | ((with_reducible apply TL.pure); (· exact yQ); (· rfl))
    | ((with_reducible apply TL.pure (d := 17) (v := .bool true)); (· exact Y.gtr_b (decide_eq_true H0.out) rfl rfl); (· rfl)) | ((with_reducible apply TW.pure (d := 17) (v := .bool true)); (· exact Y.gtr_b (decide_eq_true H0.out) rfl rfl); (· rfl))
    | ((with_reducible apply TL.pure (d := 39) (v := .bool false)); (· exact Y.eql_b (decide_eq_false HK.out) rfl rfl); (· rfl)) | ((with_reducible apply TW.pure (d := 39) (v := .bool false)); (· exact Y.eql_b (decide_eq_false HK.out) rfl rfl); (· rfl))
    | ((with_reducible apply TL.pure); (· exact yV); (· rfl)) | ((with_reducible apply TW.pure); (· exact yV); (· rfl))
    | ((with_reducible apply TL.gives_plain); (· kernel_rfl); (· rfl); (· exact A _); (· rfl)) | ((with_reducible apply TW.gives_plain); (· kernel_rfl); (· rfl); (· exact A _); (· rfl))
    | ((with_reducible apply TL.gives_plain); (· kernel_rfl); (· rfl); (· exact N _); (· rfl)) | ((with_reducible apply TW.gives_plain); (· kernel_rfl); (· rfl); (· exact N _); (· rfl))
    | ((with_reducible apply TL.gives_plain); (· kernel_rfl); (· rfl); (· exact B _); (· rfl)) | ((with_reducible apply TW.gives_plain); (· kernel_rfl); (· rfl); (· exact B _); (· rfl))
    | refine TL.throws (Enters.plain (by kernel_rfl) (by rfl)) (N2 _) (by rfl) ?_
    | ((with_reducible apply TL.pure); (· exact yA); (· rfl))
    | ((with_reducible apply TL.byteK); (· rfl); (· rfl); (· exact natA); (· assumption); (· rfl); intro _) | ((with_reducible apply TL.byte); (· rfl); (· rfl); (· exact natA); (· exact omA); (· rfl); intro _ _ _)
    | refine stS ?_ | (refine stB ?_; intro _) | (refine stC ?_; refine And.intro (fun _ => ?_) (fun _ => ?_))
    | apply TC.region_draw (by kernel_rfl) (by kernel_rfl) | refine TW.nil ?_ | ((with_reducible apply TW.pure); (· exact yA); (· rfl))
    | ((with_reducible apply TL.range_str); (· rfl); (· rfl); intro _) | ((with_reducible apply TL.next_str); (· rfl); (· exact pkA); (· rfl); all_goals intro _)
    | ((with_reducible apply TW.byteK); (· rfl); (· rfl); (· exact natA); (· assumption); (· rfl); intro _) | ((with_reducible apply TW.byte); (· rfl); (· rfl); (· exact natA); (· exact omA); (· rfl); intro _ _ _)
    | refine TW.guard_yes rfl rfl ?_ | refine TW.guard_no rfl rfl rfl rfl ?_ | refine TW.guard_undef rfl rfl rfl ?_ | refine TW.guard rfl rfl rfl ?_)
      refine TQ.end_panic (L' := L) rfl (.refl _) ?_ selA
      exact ⟨rfl, rfl⟩
end Go.Proofs.YtfmadoeadmclbaaGreatDoor
