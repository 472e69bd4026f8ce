/-
  The walk of the JSON reader's escape: the rest.
-/
import Derived.Test.YtfmadoeadmclbaaGreatDoorHr2
import Derived.Test.YtfmadoeadmclbaaGreatDoorHr17
import Derived.Test.YtfmadoeadmclbaaGreatDoorHr11
namespace Go.Proofs.YtfmadoeadmclbaaGreatDoor
open Go.RowKit Go.TL
set_option maxRecDepth 100000

end Go.Proofs.YtfmadoeadmclbaaGreatDoor
namespace Go.TL
open Go Go.RowKit Go.Proofs.YtfmadoeadmclbaaGreatDoor
section
variable {P : Program} {n : Nat} {ds : List Deferred} {S : Slots} {g : Gh} {L : List Ent} {gd : Option (Nat × Bool)} {dst : Option Nat} {x y : Operand} {t t' ty : TypeId} {pos : String} {aft : Array Edge} {p q : Int} {k : IntKind}
theorem Y.lss_b {b : Bool} (hb : decide (p < q) = b) (hx : ev S x = some (.int k p)) (hy : ev S y = some (.int k q)) : Yields P n ds S g L ⟨dst, .binOp .lss t x y t', ty, pos, aft, gd⟩ (.bool b) := by
  subst hb; exact Y.lss hx hy
theorem Y.geq_b {b : Bool} (hb : decide (q ≤ p) = b) (hx : ev S x = some (.int k p)) (hy : ev S y = some (.int k q)) : Yields P n ds S g L ⟨dst, .binOp .geq t x y t', ty, pos, aft, gd⟩ (.bool b) := by
  subst hb; exact Y.geq hx hy
end
end Go.TL
namespace Go.Proofs.YtfmadoeadmclbaaGreatDoor
open Go.RowKit Go.TL
set_option maxRecDepth 100000

theorem Throws.perm {P : Program} {f : FuncId} {args : Array Value} {g : Gh} {L L' : List Ent} {c : List PanicEntry} (h : Throws P f args g L' c) (hp : L'.Perm L) : Throws P f args g L c := ⟨fun w hs => (h.h w (hs.perm hp)).mono fun _ _ ⟨he, hs'⟩ => ⟨he, hs'.perm hp.symm⟩⟩
def escT (s : List UInt8) (i : Nat) (c : UInt8) : Option (Nat × List UInt8) := if c = 117 then match hexL (s.drop (i + 1)) with
    | none => none
    | some (a, r) => if a < 55296 ∨ 57344 ≤ a then some (a, r) else if 56320 ≤ a then none else pairL a r
  else none
theorem hexL_drop {s r : List UInt8} {a : Nat} (h : hexL s = some (a, r)) : r = s.drop 4 ∧ 4 ≤ s.length := hexF_drop _ _ _ _ _ h
theorem hexF_lt : ∀ (k n : Nat) (s : List UInt8) (a : Nat) (r : List UInt8), hexF k n s = some (a, r) → a < 16 ^ k * (n + 1)
  | 0, n, s, a, r, h => by
    rw [hexF] at h
    obtain ⟨rfl, _⟩ := Prod.mk.inj (Option.some.inj h)
    omega
  | k + 1, n, [], a, r, h => by rw [hexF] at h; cases h
  | k + 1, n, c :: t, a, r, h => by
    rw [hexF] at h
    split at h
    · cases h
    · rename_i d hd
      have h1 := hexF_lt k _ t a r h
      have h2 := hexD_lt hd
      have h3 : 16 ^ k * (16 * n + d + 1) ≤ 16 ^ k * (16 * (n + 1)) := Nat.mul_le_mul_left _ (by omega)
      rw [Nat.pow_succ, Nat.mul_assoc]
      omega
theorem hexF_lt4 {s r : List UInt8} {a : Nat} (h : hexL s = some (a, r)) : a < 65536 := by
  have := hexF_lt 4 0 s a r h
  simpa using this
theorem pairL_at (a : Nat) (s : List UInt8) (i : Nat) : pairL a (s.drop i) = if s[i]? = some 92 ∧ s[i + 1]? = some 117 then (match hexL (s.drop (i + 2)) with
    | none => none
    | some (b, r) => if 56320 ≤ b ∧ b < 57344 then some (65536 + 1024 * (a - 55296) + (b - 56320), r) else none) else none := by
  by_cases h1 : i < s.length
  · obtain ⟨x, hx⟩ : ∃ x, s[i]? = some x := ⟨_, List.getElem?_eq_getElem h1⟩
    rw [drop_of_get hx, hx]
    by_cases h2 : i + 1 < s.length
    · obtain ⟨y, hy⟩ : ∃ y, s[i + 1]? = some y := ⟨_, List.getElem?_eq_getElem h2⟩
      rw [drop_of_get hy, hy, pairL]
      simp only [Option.some.injEq]
      rfl
    · rw [List.drop_eq_nil_of_le (by omega), List.getElem?_eq_none (show s.length ≤ i + 1 by omega), if_neg (fun h => by cases h.2)]
      rfl
  · rw [List.drop_eq_nil_of_le (by omega), List.getElem?_eq_none (show s.length ≤ i by omega), if_neg (fun h => by cases h.1)]
    rfl
set_option maxHeartbeats 16000000 in
theorem jescape_rest (b : Nat) (s : List UInt8) (i : Nat) (c : UInt8) (hi : i ≤ s.length) (hs : s.length ≤ 1000000) (hc : s.getD i 0 = c) (hk : shortL c = none) (g : Gh) (L : List Ent) : Does Tryz.prog 70 #[.pointer (some ⟨b, 0, none⟩)] g (RdJ b s i :: L) (EscR (escT s i c) b s g L) := by
  refine Does.of1 Tryz.func70 rfl Tryz.ntmps70 rfl ?_
  have P := fun L => jpeek_gives b s i g L (by omega) hs
  rw [hc] at P
  have SH := fun L => jshort_does g L
  unfold ShortR at SH
  have h47 : c ≠ 47 := fun e => by rw [e] at hk; cases hk
  have HQ : Hn (¬ ((c.toNat : Nat) : Int) = 47) := ⟨fun e => h47 (UInt8.toNat_inj.1 (show c.toNat = 47 by omega))⟩
  repeat' (first
    | refine wkQ ?_
    | refine wkV ?_
    | ((with_reducible apply TL.gives_plain); (· kernel_rfl); (· rfl); (· exact P _); (· rfl)) | ((with_reducible apply TW.gives_plain); (· kernel_rfl); (· rfl); (· exact P _); (· rfl))
    | (refine TL.call (Enters.plain (by kernel_rfl) (by rfl)) (by rfl) (SH _) ?_; (rintro e g1 Ln h1 ⟨bm, k1, k2, k3⟩; have k2 := k2.symm; subst k1; subst k2; subst k3; refine CallK.ret ?_))
    | ((with_reducible apply TL.range_map); (· rfl); (· exact pkA); (· rfl); intro _)
    | refine stS ?_ | (refine stB ?_; intro _) | (refine stC ?_; refine And.intro (fun _ => ?_) (fun _ => ?_)))
  rename_i r
  refine TC.loopL (fun _ : Array Nat => True) (fun seen => (leftOf shortEs seen).size) (fun _ _ => [(0, .pointer (some ⟨b, 0, none⟩)), (3, .int .u8 (c.toNat : Nat)), (18, .pointer (some ⟨r, 0, none⟩))]) (fun seen => .obj r (.mapIter (some bm) 7 seen 7) :: .obj bm (.map shortEs 7) :: RdJ b s (i + 1) :: L) #[] trivial subA selF ?_
  intro seen hseen
  by_cases hu : c = 117
  · unfold escT
    rw [if_pos hu]
    have hlt : i < s.length := by
      by_cases h : i < s.length
      · exact h
      · rw [List.getD_eq_getElem?_getD, List.getElem?_eq_none (by omega)] at hc
        rw [← hc] at hu
        cases hu
    have HU : Hn (((c.toNat : Nat) : Int) = 117) := ⟨by rw [hu]; rfl⟩
    have N1 := fun L => need_yes (b := decide (((c.toNat : Nat) : Int) = 117)) (decide_eq_true HU.out) 11 g L
    have U1 := fun L => junit_round b s (i + 1) (hexL (s.drop (i + 1))) hs (by omega) rfl g L
    cases hx : hexL (s.drop (i + 1)) with
    | none =>
      rw [hx] at U1
      unfold UnitR at U1
      dsimp only at U1
      repeat' (first
    | refine wkQ ?_
    | refine wkV ?_
    | (refine TL.next_short c (by rfl) pkA pkA (by rfl) (fun K bo hK h47 hK2 hm => absurd hK (by rw [hk]; intro h; cases h)) (fun K V bo hV hsz hm => ?_) (fun h0 => ?_))
    | ((with_reducible apply TL.pure); (· exact Y.entry_short rfl pkA pkA (by assumption)); (· rfl))
    | ((with_reducible apply TL.gives_plain); (· kernel_rfl); (· rfl); (· exact N1 _); (· rfl)) | ((with_reducible apply TW.gives_plain); (· kernel_rfl); (· rfl); (· exact N1 _); (· rfl))
    | (refine TL.call (Enters.plain (by kernel_rfl) (by rfl)) (by rfl) (Does.perm (U1 _) permF) ?_; (rintro e gu Lu _ ⟨k1, k2, k3⟩; have k2 := k2.symm; subst k1; subst k2; subst k3; refine CallK.panic ?_))
    | refine stS ?_ | (refine stB ?_; intro _) | (refine stC ?_; refine And.intro (fun _ => ?_) (fun _ => ?_)))
      · refine TQ.round (seen.push bo) ?_ ?_ rfl subA selF
        · trivial
        · exact hsz
      · refine TQ.end_panic (L' := L) rfl (.refl _) ?_ selA
        exact ⟨rfl, rfl, rfl⟩
    | some p =>
      obtain ⟨a, r1⟩ := p
      rw [hx] at U1
      unfold UnitR at U1
      dsimp only at U1 ⊢
      obtain ⟨hr1, hl4⟩ := hexL_drop hx
      rw [List.drop_drop] at hr1
      rw [List.length_drop] at hl4
      have ha : a < 65536 := by
        have h := hexF_lt4 hx
        exact h
      clear hx
      by_cases hb1 : a < 55296 ∨ 57344 ≤ a
      · rw [if_pos hb1]
        by_cases hb2 : a < 55296
        · have H1 : Hn (((a : Nat) : Int) < 55296) := ⟨by omega⟩
          repeat' (first
    | refine wkQ ?_
    | ((with_reducible apply TL.pure (d := 36) (v := .bool true)); (· exact Y.lss_b (decide_eq_true H1.out) rfl rfl); (· rfl)) | ((with_reducible apply TW.pure (d := 36) (v := .bool true)); (· exact Y.lss_b (decide_eq_true H1.out) rfl rfl); (· rfl))
    | refine wkV ?_
    | (refine TL.next_short c (by rfl) pkA pkA (by rfl) (fun K bo hK h47 hK2 hm => absurd hK (by rw [hk]; intro h; cases h)) (fun K V bo hV hsz hm => ?_) (fun h0 => ?_))
    | ((with_reducible apply TL.pure); (· exact Y.entry_short rfl pkA pkA (by assumption)); (· rfl))
    | ((with_reducible apply TL.gives_plain); (· kernel_rfl); (· rfl); (· exact N1 _); (· rfl)) | ((with_reducible apply TW.gives_plain); (· kernel_rfl); (· rfl); (· exact N1 _); (· rfl))
    | (refine TL.call (Enters.plain (by kernel_rfl) (by rfl)) (by rfl) (Does.perm (U1 _) permF) ?_; (rintro e gu Lu _ ⟨k1, k2, k3, _⟩; have k2 := k2.symm; subst k1; subst k2; subst k3; refine CallK.ret ?_))
    | refine stS ?_ | (refine stB ?_; intro _) | (refine stC ?_; refine And.intro (fun _ => ?_) (fun _ => ?_)))
          · refine TQ.round (seen.push bo) ?_ ?_ rfl subA selF
            · trivial
            · exact hsz
          · refine TQ.endR1 (L' := (RdJ b s (i + 1 + 4) :: L)) Tryz.results70 rvA rfl (.refl _) ?_ selF
            exact ⟨i + 1 + 4, rfl, rfl, rfl, by omega, hr1.symm, by omega⟩
        · have H1 : Hn (¬ ((a : Nat) : Int) < 55296) := ⟨by omega⟩
          have H2 : Hn ((57344 : Int) ≤ (a : Nat)) := ⟨by omega⟩
          repeat' (first
    | refine wkQ ?_
    | ((with_reducible apply TL.pure (d := 36) (v := .bool false)); (· exact Y.lss_b (decide_eq_false H1.out) rfl rfl); (· rfl)) | ((with_reducible apply TW.pure (d := 36) (v := .bool false)); (· exact Y.lss_b (decide_eq_false H1.out) rfl rfl); (· rfl))
    | ((with_reducible apply TL.pure (d := 39) (v := .bool true)); (· exact Y.geq_b (decide_eq_true H2.out) rfl rfl); (· rfl)) | ((with_reducible apply TW.pure (d := 39) (v := .bool true)); (· exact Y.geq_b (decide_eq_true H2.out) rfl rfl); (· rfl))
    | refine wkV ?_
    | (refine TL.next_short c (by rfl) pkA pkA (by rfl) (fun K bo hK h47 hK2 hm => absurd hK (by rw [hk]; intro h; cases h)) (fun K V bo hV hsz hm => ?_) (fun h0 => ?_))
    | ((with_reducible apply TL.pure); (· exact Y.entry_short rfl pkA pkA (by assumption)); (· rfl))
    | ((with_reducible apply TL.gives_plain); (· kernel_rfl); (· rfl); (· exact N1 _); (· rfl)) | ((with_reducible apply TW.gives_plain); (· kernel_rfl); (· rfl); (· exact N1 _); (· rfl))
    | (refine TL.call (Enters.plain (by kernel_rfl) (by rfl)) (by rfl) (Does.perm (U1 _) permF) ?_; (rintro e gu Lu _ ⟨k1, k2, k3, _⟩; have k2 := k2.symm; subst k1; subst k2; subst k3; refine CallK.ret ?_))
    | refine stS ?_ | (refine stB ?_; intro _) | (refine stC ?_; refine And.intro (fun _ => ?_) (fun _ => ?_)))
          · refine TQ.round (seen.push bo) ?_ ?_ rfl subA selF
            · trivial
            · exact hsz
          · refine TQ.endR1 (L' := (RdJ b s (i + 1 + 4) :: L)) Tryz.results70 rvA rfl (.refl _) ?_ selF
            exact ⟨i + 1 + 4, rfl, rfl, rfl, by omega, hr1.symm, by omega⟩
      · rw [if_neg hb1]
        have H1 : Hn (¬ ((a : Nat) : Int) < 55296) := ⟨by omega⟩
        have H2 : Hn (¬ (57344 : Int) ≤ (a : Nat)) := ⟨by omega⟩
        by_cases hb2 : 56320 ≤ a
        · rw [if_pos hb2]
          have N2b : Hn (¬ ((a : Nat) : Int) < 56320) := ⟨by omega⟩
          have N2 := fun L => need_no (b := false) rfl 11 g L
          clear hb1
          repeat' (first
    | refine wkQ ?_
    | ((with_reducible apply TL.pure (d := 36) (v := .bool false)); (· exact Y.lss_b (decide_eq_false H1.out) rfl rfl); (· rfl)) | ((with_reducible apply TW.pure (d := 36) (v := .bool false)); (· exact Y.lss_b (decide_eq_false H1.out) rfl rfl); (· rfl))
    | ((with_reducible apply TL.pure (d := 39) (v := .bool false)); (· exact Y.geq_b (decide_eq_false H2.out) rfl rfl); (· rfl)) | ((with_reducible apply TW.pure (d := 39) (v := .bool false)); (· exact Y.geq_b (decide_eq_false H2.out) rfl rfl); (· rfl))
    | ((with_reducible apply TL.pure (d := 43) (v := .bool false)); (· exact Y.lss_b (decide_eq_false N2b.out) rfl rfl); (· rfl)) | ((with_reducible apply TW.pure (d := 43) (v := .bool false)); (· exact Y.lss_b (decide_eq_false N2b.out) rfl rfl); (· rfl))
    | refine wkV ?_
    | (refine TL.next_short c (by rfl) pkA pkA (by rfl) (fun K bo hK h47 hK2 hm => absurd hK (by rw [hk]; intro h; cases h)) (fun K V bo hV hsz hm => ?_) (fun h0 => ?_))
    | ((with_reducible apply TL.pure); (· exact Y.entry_short rfl pkA pkA (by assumption)); (· rfl))
    | ((with_reducible apply TL.gives_plain); (· kernel_rfl); (· rfl); (· exact N1 _); (· rfl)) | ((with_reducible apply TW.gives_plain); (· kernel_rfl); (· rfl); (· exact N1 _); (· rfl))
    | (refine TL.call (Enters.plain (by kernel_rfl) (by rfl)) (by rfl) (Does.perm (U1 _) permF) ?_; (rintro e gu Lu _ ⟨k1, k2, k3, _⟩; have k2 := k2.symm; subst k1; subst k2; subst k3; refine CallK.ret ?_))
    | refine TL.throws (Enters.plain (by kernel_rfl) (by rfl)) (N2 _) (by rfl) ?_
    | refine stS ?_ | (refine stB ?_; intro _) | (refine stC ?_; refine And.intro (fun _ => ?_) (fun _ => ?_)))
          · refine TQ.round (seen.push bo) ?_ ?_ rfl subA selF
            · trivial
            · exact hsz
          · refine TQ.end_panic (L' := L) rfl (.refl _) ?_ selA
            exact ⟨rfl, rfl, rfl⟩
        · rw [if_neg hb2, hr1, pairL_at]
          have N2b : Hn (((a : Nat) : Int) < 56320) := ⟨by omega⟩
          have N2 := fun L => need_yes (b := true) rfl 11 g L
          by_cases hw1 : s[i + 1 + 4]? = some 92
          · have W1 := fun L => jwant_yes b s (i + 1 + 4) 92 g L hw1 hs
            by_cases hw2 : s[i + 1 + 4 + 1]? = some 117
            · have W2 := fun L => jwant_yes b s (i + 1 + 4 + 1) 117 g L hw2 hs
              rw [if_pos ⟨hw1, hw2⟩]
              have U2 := fun L => junit_round b s (i + 1 + 4 + 1 + 1) (hexL (s.drop (i + 1 + 4 + 2))) hs (by omega) rfl g L
              cases hx2 : hexL (s.drop (i + 1 + 4 + 2)) with
              | none =>
                rw [hx2] at U2
                unfold UnitR at U2
                dsimp only at U2 ⊢
                clear hb1 hw1 hw2 hx2
                repeat' (first
    | refine wkQ ?_
    | ((with_reducible apply TL.pure (d := 36) (v := .bool false)); (· exact Y.lss_b (decide_eq_false H1.out) rfl rfl); (· rfl)) | ((with_reducible apply TW.pure (d := 36) (v := .bool false)); (· exact Y.lss_b (decide_eq_false H1.out) rfl rfl); (· rfl))
    | ((with_reducible apply TL.pure (d := 39) (v := .bool false)); (· exact Y.geq_b (decide_eq_false H2.out) rfl rfl); (· rfl)) | ((with_reducible apply TW.pure (d := 39) (v := .bool false)); (· exact Y.geq_b (decide_eq_false H2.out) rfl rfl); (· rfl))
    | ((with_reducible apply TL.pure (d := 43) (v := .bool true)); (· exact Y.lss_b (decide_eq_true N2b.out) rfl rfl); (· rfl)) | ((with_reducible apply TW.pure (d := 43) (v := .bool true)); (· exact Y.lss_b (decide_eq_true N2b.out) rfl rfl); (· rfl))
    | refine wkV ?_
    | (refine TL.next_short c (by rfl) pkA pkA (by rfl) (fun K bo hK h47 hK2 hm => absurd hK (by rw [hk]; intro h; cases h)) (fun K V bo hV hsz hm => ?_) (fun h0 => ?_))
    | ((with_reducible apply TL.pure); (· exact Y.entry_short rfl pkA pkA (by assumption)); (· rfl))
    | ((with_reducible apply TL.gives_plain); (· kernel_rfl); (· rfl); (· exact N1 _); (· rfl)) | ((with_reducible apply TW.gives_plain); (· kernel_rfl); (· rfl); (· exact N1 _); (· rfl))
    | (refine TL.call (Enters.plain (by kernel_rfl) (by rfl)) (by rfl) (Does.perm (U1 _) permF) ?_; (rintro e gu Lu _ ⟨k1, k2, k3, _⟩; have k2 := k2.symm; subst k1; subst k2; subst k3; refine CallK.ret ?_))
    | ((with_reducible apply TL.gives_plain); (· kernel_rfl); (· rfl); (· exact N2 _); (· rfl)) | ((with_reducible apply TW.gives_plain); (· kernel_rfl); (· rfl); (· exact N2 _); (· rfl))
    | apply TL.turns (Enters.plain (by kernel_rfl) (by rfl)) (W1 _) permF (by rfl)
    | apply TL.turns (Enters.plain (by kernel_rfl) (by rfl)) (W2 _) permF (by rfl)
    | (refine TL.call (Enters.plain (by kernel_rfl) (by rfl)) (by rfl) (Does.perm (U2 _) permF) ?_; (rintro e gu Lu _ ⟨k1, k2, k3⟩; have k2 := k2.symm; subst k1; subst k2; subst k3; refine CallK.panic ?_))
    | refine stS ?_ | (refine stB ?_; intro _) | (refine stC ?_; refine And.intro (fun _ => ?_) (fun _ => ?_)))
                · refine TQ.round (seen.push bo) ?_ ?_ rfl subA selF
                  · trivial
                  · exact hsz
                · refine TQ.end_panic (L' := L) rfl (.refl _) ?_ selA
                  exact ⟨rfl, rfl, rfl⟩
              | some p2 =>
                obtain ⟨q, r2⟩ := p2
                rw [hx2] at U2
                unfold UnitR at U2
                dsimp only at U2 ⊢
                obtain ⟨hr2, hl42⟩ := hexL_drop hx2
                rw [List.drop_drop] at hr2
                rw [List.length_drop] at hl42
                have hq := hexF_lt4 hx2
                by_cases hqq : 56320 ≤ q ∧ q < 57344
                · rw [if_pos hqq]
                  have Q1 : Hn ((56320 : Int) ≤ (q : Nat)) := ⟨by omega⟩
                  have Q2 : Hn (((q : Nat) : Int) < 57344) := ⟨by omega⟩
                  have N3 := fun L => need_yes (b := true) rfl 11 g L
                  have Z1 : (IntKind.i32.wrap ((((a : Nat) : Int) - 55296) * 2 ^ 10) = ((1024 * (a - 55296) : Nat) : Int)) := by rw [IntWalk.i32_in _ (by omega)]; omega
                  have Z0 : (IntKind.i32.wrap (((a : Nat) : Int) - 55296) = ((a : Nat) : Int) - 55296) := IntWalk.i32_in _ (by omega)
                  have Z2 : (IntKind.i32.wrap (65536 + ((1024 * (a - 55296) : Nat) : Int)) = 65536 + ((1024 * (a - 55296) : Nat) : Int)) := IntWalk.i32_in _ (by omega)
                  have Z4 : (IntKind.i32.wrap (((q : Nat) : Int) - 56320) = ((q : Nat) : Int) - 56320) := IntWalk.i32_in _ (by omega)
                  have Z3 : (IntKind.i32.wrap ((65536 + ((1024 * (a - 55296) : Nat) : Int)) + (((q : Nat) : Int) - 56320)) = ((65536 + 1024 * (a - 55296) + (q - 56320) : Nat) : Int)) := by rw [IntWalk.i32_in _ (by omega)]; omega
                  have ZZ := Hn.mk (And.intro Z0 (And.intro Z1 (And.intro Z2 (And.intro Z3 Z4))))
                  clear Z0 Z1 Z2 Z3 Z4
                  clear hw1 hw2 hx2
                  repeat' (first
    | refine wkQ ?_
    | ((with_reducible apply TL.pure (d := 36) (v := .bool false)); (· exact Y.lss_b (decide_eq_false H1.out) rfl rfl); (· rfl)) | ((with_reducible apply TW.pure (d := 36) (v := .bool false)); (· exact Y.lss_b (decide_eq_false H1.out) rfl rfl); (· rfl))
    | ((with_reducible apply TL.pure (d := 39) (v := .bool false)); (· exact Y.geq_b (decide_eq_false H2.out) rfl rfl); (· rfl)) | ((with_reducible apply TW.pure (d := 39) (v := .bool false)); (· exact Y.geq_b (decide_eq_false H2.out) rfl rfl); (· rfl))
    | ((with_reducible apply TL.pure (d := 43) (v := .bool true)); (· exact Y.lss_b (decide_eq_true N2b.out) rfl rfl); (· rfl)) | ((with_reducible apply TW.pure (d := 43) (v := .bool true)); (· exact Y.lss_b (decide_eq_true N2b.out) rfl rfl); (· rfl))
    | ((with_reducible apply TL.pure (d := 52) (v := .bool true)); (· exact Y.geq_b (decide_eq_true Q1.out) rfl rfl); (· rfl)) | ((with_reducible apply TW.pure (d := 52) (v := .bool true)); (· exact Y.geq_b (decide_eq_true Q1.out) rfl rfl); (· rfl))
    | ((with_reducible apply TL.pure (d := 55) (v := .bool true)); (· exact Y.lss_b (decide_eq_true Q2.out) rfl rfl); (· rfl)) | ((with_reducible apply TW.pure (d := 55) (v := .bool true)); (· exact Y.lss_b (decide_eq_true Q2.out) rfl rfl); (· rfl))
    | ((with_reducible apply TL.pure (d := 59) (v := .int .i32 (((a : Nat) : Int) - 55296))); (· exact Y.sub rfl rfl ZZ.out.1); (· rfl)) | ((with_reducible apply TW.pure (d := 59) (v := .int .i32 (((a : Nat) : Int) - 55296))); (· exact Y.sub rfl rfl ZZ.out.1); (· rfl))
    | ((with_reducible apply TL.pure (d := 61) (v := .int .i32 (65536 + ((1024 * (a - 55296) : Nat) : Int)))); (· exact Y.add rfl rfl ZZ.out.2.2.1); (· rfl)) | ((with_reducible apply TW.pure (d := 61) (v := .int .i32 (65536 + ((1024 * (a - 55296) : Nat) : Int)))); (· exact Y.add rfl rfl ZZ.out.2.2.1); (· rfl))
    | ((with_reducible apply TL.pure (d := 63) (v := .int .i32 (((q : Nat) : Int) - 56320))); (· exact Y.sub rfl rfl ZZ.out.2.2.2.2); (· rfl)) | ((with_reducible apply TW.pure (d := 63) (v := .int .i32 (((q : Nat) : Int) - 56320))); (· exact Y.sub rfl rfl ZZ.out.2.2.2.2); (· rfl))
    | ((with_reducible apply TL.pure (d := 64) (v := .int .i32 ((65536 + 1024 * (a - 55296) + (q - 56320) : Nat) : Int))); (· exact Y.add rfl rfl ZZ.out.2.2.2.1); (· rfl)) | ((with_reducible apply TW.pure (d := 64) (v := .int .i32 ((65536 + 1024 * (a - 55296) + (q - 56320) : Nat) : Int))); (· exact Y.add rfl rfl ZZ.out.2.2.2.1); (· rfl))
    | ((with_reducible apply TL.pure (d := 60) (v := .int .i32 ((1024 * (a - 55296) : Nat) : Int))); (· exact Y.shl rfl rfl (show (10 : Int) = (10 : Nat) from rfl) (by decide) ZZ.out.2.1); (· rfl)) | ((with_reducible apply TW.pure (d := 60) (v := .int .i32 ((1024 * (a - 55296) : Nat) : Int))); (· exact Y.shl rfl rfl (show (10 : Int) = (10 : Nat) from rfl) (by decide) ZZ.out.2.1); (· rfl))
    | refine wkV ?_
    | (refine TL.next_short c (by rfl) pkA pkA (by rfl) (fun K bo hK h47 hK2 hm => absurd hK (by rw [hk]; intro h; cases h)) (fun K V bo hV hsz hm => ?_) (fun h0 => ?_))
    | ((with_reducible apply TL.pure); (· exact Y.entry_short rfl pkA pkA (by assumption)); (· rfl))
    | ((with_reducible apply TL.gives_plain); (· kernel_rfl); (· rfl); (· exact N1 _); (· rfl)) | ((with_reducible apply TW.gives_plain); (· kernel_rfl); (· rfl); (· exact N1 _); (· rfl))
    | (refine TL.call (Enters.plain (by kernel_rfl) (by rfl)) (by rfl) (Does.perm (U1 _) permF) ?_; (rintro e gu Lu _ ⟨k1, k2, k3, _⟩; have k2 := k2.symm; subst k1; subst k2; subst k3; refine CallK.ret ?_))
    | ((with_reducible apply TL.gives_plain); (· kernel_rfl); (· rfl); (· exact N2 _); (· rfl)) | ((with_reducible apply TW.gives_plain); (· kernel_rfl); (· rfl); (· exact N2 _); (· rfl))
    | apply TL.turns (Enters.plain (by kernel_rfl) (by rfl)) (W1 _) permF (by rfl)
    | apply TL.turns (Enters.plain (by kernel_rfl) (by rfl)) (W2 _) permF (by rfl)
    | (refine TL.call (Enters.plain (by kernel_rfl) (by rfl)) (by rfl) (Does.perm (U2 _) permF) ?_; (rintro e gu Lu _ ⟨k1, k2, k3, _⟩; have k2 := k2.symm; subst k1; subst k2; subst k3; refine CallK.ret ?_))
    | ((with_reducible apply TL.gives_plain); (· kernel_rfl); (· rfl); (· exact N3 _); (· rfl)) | ((with_reducible apply TW.gives_plain); (· kernel_rfl); (· rfl); (· exact N3 _); (· rfl))
    | refine stS ?_ | (refine stB ?_; intro _) | (refine stC ?_; refine And.intro (fun _ => ?_) (fun _ => ?_)))
                  · refine TQ.round (seen.push bo) ?_ ?_ rfl subA selF
                    · trivial
                    · exact hsz
                  · refine TQ.endR1 (L' := (RdJ b s (i + 1 + 4 + 1 + 1 + 4) :: L)) Tryz.results70 rvA rfl (.refl _) ?_ selF
                    exact ⟨i + 1 + 4 + 1 + 1 + 4, rfl, rfl, rfl, by omega, hr2.symm, by omega⟩
                · rw [if_neg hqq]
                  by_cases hq1 : 56320 ≤ q
                  · have Q1 : Hn ((56320 : Int) ≤ (q : Nat)) := ⟨by omega⟩
                    have Q2 : Hn (¬ ((q : Nat) : Int) < 57344) := ⟨by omega⟩
                    have N3 := fun L => need_no (b := false) rfl 11 g L
                    clear hw1 hw2 hx2
                    repeat' (first
    | refine wkQ ?_
    | ((with_reducible apply TL.pure (d := 36) (v := .bool false)); (· exact Y.lss_b (decide_eq_false H1.out) rfl rfl); (· rfl)) | ((with_reducible apply TW.pure (d := 36) (v := .bool false)); (· exact Y.lss_b (decide_eq_false H1.out) rfl rfl); (· rfl))
    | ((with_reducible apply TL.pure (d := 39) (v := .bool false)); (· exact Y.geq_b (decide_eq_false H2.out) rfl rfl); (· rfl)) | ((with_reducible apply TW.pure (d := 39) (v := .bool false)); (· exact Y.geq_b (decide_eq_false H2.out) rfl rfl); (· rfl))
    | ((with_reducible apply TL.pure (d := 43) (v := .bool true)); (· exact Y.lss_b (decide_eq_true N2b.out) rfl rfl); (· rfl)) | ((with_reducible apply TW.pure (d := 43) (v := .bool true)); (· exact Y.lss_b (decide_eq_true N2b.out) rfl rfl); (· rfl))
    | ((with_reducible apply TL.pure (d := 52) (v := .bool true)); (· exact Y.geq_b (decide_eq_true Q1.out) rfl rfl); (· rfl)) | ((with_reducible apply TW.pure (d := 52) (v := .bool true)); (· exact Y.geq_b (decide_eq_true Q1.out) rfl rfl); (· rfl))
    | ((with_reducible apply TL.pure (d := 55) (v := .bool false)); (· exact Y.lss_b (decide_eq_false Q2.out) rfl rfl); (· rfl)) | ((with_reducible apply TW.pure (d := 55) (v := .bool false)); (· exact Y.lss_b (decide_eq_false Q2.out) rfl rfl); (· rfl))
    | refine wkV ?_
    | (refine TL.next_short c (by rfl) pkA pkA (by rfl) (fun K bo hK h47 hK2 hm => absurd hK (by rw [hk]; intro h; cases h)) (fun K V bo hV hsz hm => ?_) (fun h0 => ?_))
    | ((with_reducible apply TL.pure); (· exact Y.entry_short rfl pkA pkA (by assumption)); (· rfl))
    | ((with_reducible apply TL.gives_plain); (· kernel_rfl); (· rfl); (· exact N1 _); (· rfl)) | ((with_reducible apply TW.gives_plain); (· kernel_rfl); (· rfl); (· exact N1 _); (· rfl))
    | (refine TL.call (Enters.plain (by kernel_rfl) (by rfl)) (by rfl) (Does.perm (U1 _) permF) ?_; (rintro e gu Lu _ ⟨k1, k2, k3, _⟩; have k2 := k2.symm; subst k1; subst k2; subst k3; refine CallK.ret ?_))
    | ((with_reducible apply TL.gives_plain); (· kernel_rfl); (· rfl); (· exact N2 _); (· rfl)) | ((with_reducible apply TW.gives_plain); (· kernel_rfl); (· rfl); (· exact N2 _); (· rfl))
    | apply TL.turns (Enters.plain (by kernel_rfl) (by rfl)) (W1 _) permF (by rfl)
    | apply TL.turns (Enters.plain (by kernel_rfl) (by rfl)) (W2 _) permF (by rfl)
    | (refine TL.call (Enters.plain (by kernel_rfl) (by rfl)) (by rfl) (Does.perm (U2 _) permF) ?_; (rintro e gu Lu _ ⟨k1, k2, k3, _⟩; have k2 := k2.symm; subst k1; subst k2; subst k3; refine CallK.ret ?_))
    | refine TL.throws (Enters.plain (by kernel_rfl) (by rfl)) (N3 _) (by rfl) ?_
    | refine stS ?_ | (refine stB ?_; intro _) | (refine stC ?_; refine And.intro (fun _ => ?_) (fun _ => ?_)))
                    · refine TQ.round (seen.push bo) ?_ ?_ rfl subA selF
                      · trivial
                      · exact hsz
                    · refine TQ.end_panic (L' := L) rfl (.refl _) ?_ selA
                      exact ⟨rfl, rfl, rfl⟩
                  · have Q1 : Hn (¬ (56320 : Int) ≤ (q : Nat)) := ⟨by omega⟩
                    have N3 := fun L => need_no (b := false) rfl 11 g L
                    clear hw1 hw2 hx2
                    repeat' (first
    | refine wkQ ?_
    | ((with_reducible apply TL.pure (d := 36) (v := .bool false)); (· exact Y.lss_b (decide_eq_false H1.out) rfl rfl); (· rfl)) | ((with_reducible apply TW.pure (d := 36) (v := .bool false)); (· exact Y.lss_b (decide_eq_false H1.out) rfl rfl); (· rfl))
    | ((with_reducible apply TL.pure (d := 39) (v := .bool false)); (· exact Y.geq_b (decide_eq_false H2.out) rfl rfl); (· rfl)) | ((with_reducible apply TW.pure (d := 39) (v := .bool false)); (· exact Y.geq_b (decide_eq_false H2.out) rfl rfl); (· rfl))
    | ((with_reducible apply TL.pure (d := 43) (v := .bool true)); (· exact Y.lss_b (decide_eq_true N2b.out) rfl rfl); (· rfl)) | ((with_reducible apply TW.pure (d := 43) (v := .bool true)); (· exact Y.lss_b (decide_eq_true N2b.out) rfl rfl); (· rfl))
    | ((with_reducible apply TL.pure (d := 52) (v := .bool false)); (· exact Y.geq_b (decide_eq_false Q1.out) rfl rfl); (· rfl)) | ((with_reducible apply TW.pure (d := 52) (v := .bool false)); (· exact Y.geq_b (decide_eq_false Q1.out) rfl rfl); (· rfl))
    | refine wkV ?_
    | (refine TL.next_short c (by rfl) pkA pkA (by rfl) (fun K bo hK h47 hK2 hm => absurd hK (by rw [hk]; intro h; cases h)) (fun K V bo hV hsz hm => ?_) (fun h0 => ?_))
    | ((with_reducible apply TL.pure); (· exact Y.entry_short rfl pkA pkA (by assumption)); (· rfl))
    | ((with_reducible apply TL.gives_plain); (· kernel_rfl); (· rfl); (· exact N1 _); (· rfl)) | ((with_reducible apply TW.gives_plain); (· kernel_rfl); (· rfl); (· exact N1 _); (· rfl))
    | (refine TL.call (Enters.plain (by kernel_rfl) (by rfl)) (by rfl) (Does.perm (U1 _) permF) ?_; (rintro e gu Lu _ ⟨k1, k2, k3, _⟩; have k2 := k2.symm; subst k1; subst k2; subst k3; refine CallK.ret ?_))
    | ((with_reducible apply TL.gives_plain); (· kernel_rfl); (· rfl); (· exact N2 _); (· rfl)) | ((with_reducible apply TW.gives_plain); (· kernel_rfl); (· rfl); (· exact N2 _); (· rfl))
    | apply TL.turns (Enters.plain (by kernel_rfl) (by rfl)) (W1 _) permF (by rfl)
    | apply TL.turns (Enters.plain (by kernel_rfl) (by rfl)) (W2 _) permF (by rfl)
    | (refine TL.call (Enters.plain (by kernel_rfl) (by rfl)) (by rfl) (Does.perm (U2 _) permF) ?_; (rintro e gu Lu _ ⟨k1, k2, k3, _⟩; have k2 := k2.symm; subst k1; subst k2; subst k3; refine CallK.ret ?_))
    | refine TL.throws (Enters.plain (by kernel_rfl) (by rfl)) (N3 _) (by rfl) ?_
    | refine stS ?_ | (refine stB ?_; intro _) | (refine stC ?_; refine And.intro (fun _ => ?_) (fun _ => ?_)))
                    · refine TQ.round (seen.push bo) ?_ ?_ rfl subA selF
                      · trivial
                      · exact hsz
                    · refine TQ.end_panic (L' := L) rfl (.refl _) ?_ selA
                      exact ⟨rfl, rfl, rfl⟩
            · rw [if_neg (fun h => hw2 h.2)]
              have W2 := fun L => jwant_no b s (i + 1 + 4 + 1) 117 g L hw2 hs
              clear hb1 hw1 hw2
              repeat' (first
    | refine wkQ ?_
    | ((with_reducible apply TL.pure (d := 36) (v := .bool false)); (· exact Y.lss_b (decide_eq_false H1.out) rfl rfl); (· rfl)) | ((with_reducible apply TW.pure (d := 36) (v := .bool false)); (· exact Y.lss_b (decide_eq_false H1.out) rfl rfl); (· rfl))
    | ((with_reducible apply TL.pure (d := 39) (v := .bool false)); (· exact Y.geq_b (decide_eq_false H2.out) rfl rfl); (· rfl)) | ((with_reducible apply TW.pure (d := 39) (v := .bool false)); (· exact Y.geq_b (decide_eq_false H2.out) rfl rfl); (· rfl))
    | ((with_reducible apply TL.pure (d := 43) (v := .bool true)); (· exact Y.lss_b (decide_eq_true N2b.out) rfl rfl); (· rfl)) | ((with_reducible apply TW.pure (d := 43) (v := .bool true)); (· exact Y.lss_b (decide_eq_true N2b.out) rfl rfl); (· rfl))
    | refine wkV ?_
    | (refine TL.next_short c (by rfl) pkA pkA (by rfl) (fun K bo hK h47 hK2 hm => absurd hK (by rw [hk]; intro h; cases h)) (fun K V bo hV hsz hm => ?_) (fun h0 => ?_))
    | ((with_reducible apply TL.pure); (· exact Y.entry_short rfl pkA pkA (by assumption)); (· rfl))
    | ((with_reducible apply TL.gives_plain); (· kernel_rfl); (· rfl); (· exact N1 _); (· rfl)) | ((with_reducible apply TW.gives_plain); (· kernel_rfl); (· rfl); (· exact N1 _); (· rfl))
    | (refine TL.call (Enters.plain (by kernel_rfl) (by rfl)) (by rfl) (Does.perm (U1 _) permF) ?_; (rintro e gu Lu _ ⟨k1, k2, k3, _⟩; have k2 := k2.symm; subst k1; subst k2; subst k3; refine CallK.ret ?_))
    | ((with_reducible apply TL.gives_plain); (· kernel_rfl); (· rfl); (· exact N2 _); (· rfl)) | ((with_reducible apply TW.gives_plain); (· kernel_rfl); (· rfl); (· exact N2 _); (· rfl))
    | apply TL.turns (Enters.plain (by kernel_rfl) (by rfl)) (W1 _) permF (by rfl)
    | refine TL.throws (Enters.plain (by kernel_rfl) (by rfl)) (Throws.perm (W2 _) permF) (by rfl) ?_
    | refine stS ?_ | (refine stB ?_; intro _) | (refine stC ?_; refine And.intro (fun _ => ?_) (fun _ => ?_)))
              · refine TQ.round (seen.push bo) ?_ ?_ rfl subA selF
                · trivial
                · exact hsz
              · refine TQ.end_panic (L' := L) rfl (.refl _) ?_ selA
                exact ⟨rfl, rfl, rfl⟩
          · rw [if_neg (fun h => hw1 h.1)]
            have W1 := fun L => jwant_no b s (i + 1 + 4) 92 g L hw1 hs
            clear hb1 hw1
            repeat' (first
    | refine wkQ ?_
    | ((with_reducible apply TL.pure (d := 36) (v := .bool false)); (· exact Y.lss_b (decide_eq_false H1.out) rfl rfl); (· rfl)) | ((with_reducible apply TW.pure (d := 36) (v := .bool false)); (· exact Y.lss_b (decide_eq_false H1.out) rfl rfl); (· rfl))
    | ((with_reducible apply TL.pure (d := 39) (v := .bool false)); (· exact Y.geq_b (decide_eq_false H2.out) rfl rfl); (· rfl)) | ((with_reducible apply TW.pure (d := 39) (v := .bool false)); (· exact Y.geq_b (decide_eq_false H2.out) rfl rfl); (· rfl))
    | ((with_reducible apply TL.pure (d := 43) (v := .bool true)); (· exact Y.lss_b (decide_eq_true N2b.out) rfl rfl); (· rfl)) | ((with_reducible apply TW.pure (d := 43) (v := .bool true)); (· exact Y.lss_b (decide_eq_true N2b.out) rfl rfl); (· rfl))
    | refine wkV ?_
    | (refine TL.next_short c (by rfl) pkA pkA (by rfl) (fun K bo hK h47 hK2 hm => absurd hK (by rw [hk]; intro h; cases h)) (fun K V bo hV hsz hm => ?_) (fun h0 => ?_))
    | ((with_reducible apply TL.pure); (· exact Y.entry_short rfl pkA pkA (by assumption)); (· rfl))
    | ((with_reducible apply TL.gives_plain); (· kernel_rfl); (· rfl); (· exact N1 _); (· rfl)) | ((with_reducible apply TW.gives_plain); (· kernel_rfl); (· rfl); (· exact N1 _); (· rfl))
    | (refine TL.call (Enters.plain (by kernel_rfl) (by rfl)) (by rfl) (Does.perm (U1 _) permF) ?_; (rintro e gu Lu _ ⟨k1, k2, k3, _⟩; have k2 := k2.symm; subst k1; subst k2; subst k3; refine CallK.ret ?_))
    | ((with_reducible apply TL.gives_plain); (· kernel_rfl); (· rfl); (· exact N2 _); (· rfl)) | ((with_reducible apply TW.gives_plain); (· kernel_rfl); (· rfl); (· exact N2 _); (· rfl))
    | refine TL.throws (Enters.plain (by kernel_rfl) (by rfl)) (Throws.perm (W1 _) permF) (by rfl) ?_
    | refine stS ?_ | (refine stB ?_; intro _) | (refine stC ?_; refine And.intro (fun _ => ?_) (fun _ => ?_)))
            · refine TQ.round (seen.push bo) ?_ ?_ rfl subA selF
              · trivial
              · exact hsz
            · refine TQ.end_panic (L' := L) rfl (.refl _) ?_ selA
              exact ⟨rfl, rfl, rfl⟩
  · unfold escT
    rw [if_neg hu]
    have HU : ¬ (((c.toNat : Nat) : Int) = 117) := fun e => hu (UInt8.toNat_inj.1 (show c.toNat = 117 by omega))
    have N := fun L => need_no (b := decide (((c.toNat : Nat) : Int) = 117)) (decide_eq_false HU) 11 g L
    clear hu HU
    repeat' (first
    | refine wkQ ?_
    | refine wkV ?_
    | (refine TL.next_short c (by rfl) pkA pkA (by rfl) (fun K bo hK h47 hK2 hm => absurd hK (by rw [hk]; intro h; cases h)) (fun K V bo hV hsz hm => ?_) (fun h0 => ?_))
    | ((with_reducible apply TL.pure); (· exact Y.entry_short rfl pkA pkA (by assumption)); (· rfl))
    | refine TL.throws (Enters.plain (by kernel_rfl) (by rfl)) (N _) (by rfl) ?_
    | refine stS ?_ | (refine stB ?_; intro _) | (refine stC ?_; refine And.intro (fun _ => ?_) (fun _ => ?_)))
    · refine TQ.round (seen.push bo) ?_ ?_ rfl subA selF
      · trivial
      · exact hsz
    · refine TQ.end_panic (L' := L) rfl (.refl _) ?_ selA
      exact ⟨rfl, rfl, rfl⟩
end Go.Proofs.YtfmadoeadmclbaaGreatDoor
