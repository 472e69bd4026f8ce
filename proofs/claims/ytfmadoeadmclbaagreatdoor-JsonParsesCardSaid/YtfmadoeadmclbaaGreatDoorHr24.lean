/-
  The walk of the JSON reader's text.
-/
import Derived.Test.YtfmadoeadmclbaaGreatDoorHr2
import Derived.Test.YtfmadoeadmclbaaGreatDoorHr21
import Derived.Test.YtfmadoeadmclbaaGreatDoorHr13
namespace Go.Proofs.YtfmadoeadmclbaaGreatDoor
open Go.RowKit Go.TL
set_option maxRecDepth 100000

end Go.Proofs.YtfmadoeadmclbaaGreatDoor
namespace Go.TL
open Go Go.RowKit Go.Proofs.YtfmadoeadmclbaaGreatDoor
theorem Y.neqB {P : Program} {n : Nat} {ds : List Deferred} {S : Slots} {g : Gh} {L : List Ent} {gd : Option (Nat × Bool)} {dst : Option Nat} {x y : Operand} {t t' ty : TypeId} {pos : String} {aft : Array Edge} {p q : Int} {k : IntKind} {b : Bool} (hb : decide (p = q) = b) (hx : ev S x = some (.int k p)) (hy : ev S y = some (.int k q)) : Yields P n ds S g L ⟨dst, .binOp .neq t x y t', ty, pos, aft, gd⟩ (.bool (!b)) := by
  subst hb; exact Y.neq hx hy
end Go.TL
namespace Go.Proofs.YtfmadoeadmclbaaGreatDoor
open Go.RowKit Go.TL
set_option maxRecDepth 100000
theorem decode_gives (l : List UInt8) {g : Gh} (L : List Ent) (hg : GU8 g) (h0 : l ≠ []) : Gives Tryz.prog 69 #[str l] g L (.tuple #[.int .i32 ((Lib.decodeL l).1 : Nat), .int .i64 ((Lib.decodeL l).2 : Nat)]) :=
  .on fun w hw => by
    have := Tryz.utf8_DecodeRuneInString ⟨l.toArray⟩ w (hg L w hw)
    have hd : Lib.decodeGo ⟨l.toArray⟩ = Lib.decodeL l := by
      unfold Lib.decodeGo Lib.decodeL
      rw [if_neg (fun h => h0 (List.eq_nil_of_length_eq_zero (by simpa [ByteArray.size] using h)))]
    rw [hd] at this
    exact this
theorem esc_good {s : List UInt8} {k : Nat} {r : List UInt8} (h : escJ s = some (k, r)) : goodC k := by
  unfold goodC
  cases s with
  | nil => rw [escJ] at h; cases h
  | cons c t =>
    rw [escJ] at h
    split at h
    · rename_i q hq
      obtain ⟨rfl, _⟩ := Prod.mk.inj (Option.some.inj h)
      unfold shortL at hq
      repeat' split at hq
      all_goals first | (obtain rfl := Option.some.inj hq; omega) | cases hq
    · split at h
      · split at h
        · cases h
        · rename_i a u hu
          have ha := hexF_lt4 hu
          split at h
          · obtain ⟨rfl, _⟩ := Prod.mk.inj (Option.some.inj h)
            omega
          split at h
          · cases h
          · have h2 : pairL a (u.drop 0) = some (k, r) := h
            rw [pairL_at] at h2
            split at h2
            · split at h2
              · cases h2
              · split at h2
                · obtain ⟨rfl, _⟩ := Prod.mk.inj (Option.some.inj h2)
                  omega
                · cases h2
            · cases h2
      · cases h
def TextR (o : Option (List UInt8 × List UInt8)) (b : Nat) (s : List UInt8) (g : Gh) (L : List Ent) : Ending → Gh → List Ent → Prop := fun e g' L1 => match o with
    | some (x, r) => ∃ i', e = .returned (str x) ∧ g' = g ∧ L1 = RdJ b s i' :: L ∧ i' ≤ s.length ∧ s.drop i' = r ∧ x.length ≤ 4 * s.length
    | none => e = .panicked [stopV 11] ∧ g' = g ∧ L1 = L
structure TxS where
  i : Nat
  acc : List UInt8
  p : Value
  v : Value
structure TxI (s : List UInt8) (i0 bb : Nat) (R : Option (List UInt8 × List UInt8)) (x : TxS) : Prop where
  le : x.i ≤ s.length
  ac : x.acc.length ≤ 4 * x.i
  bp : BdP bb x.p
  bn : x.acc = [] → x.v = .slice none 0 0
  re : (textL (s.drop x.i)).map (fun p => (x.acc ++ p.1, p.2)) = R
theorem signB_len (c : Nat) : 1 ≤ (signB c).length ∧ (signB c).length ≤ 4 := by
  unfold signB; repeat' split
  all_goals simp
set_option maxHeartbeats 32000000 in
theorem jtext_does (b : Nat) (s : List UInt8) (i0 : Nat) (hi0 : i0 ≤ s.length) (hs : s.length ≤ 1000000) (g : Gh) (L : List Ent) (hU : GU8 g) : Does Tryz.prog 44 #[.pointer (some ⟨b, 0, none⟩)] g (RdJ b s i0 :: L) (TextR (textL (s.drop i0)) b s g L) := by
  refine Does.of1 Tryz.func44 rfl Tryz.ntmps44 rfl ?_
  obtain ⟨R, hR⟩ : ∃ R, R = textL (s.drop i0) := ⟨_, rfl⟩
  rw [← hR]
  repeat' (first
    | refine wkQ ?_
    | refine wkV ?_
    | refine stS ?_ | (refine stB ?_; intro _) | (refine stC ?_; refine And.intro (fun _ => ?_) (fun _ => ?_)))
  rename_i bb
  refine TC.row_nil 5 1 ?_
  refine TC.loopL (TxI s i0 bb R) (fun x => s.length - x.i) (fun x _ => [(3, .pointer (some ⟨bb, 0, none⟩)), (0, .pointer (some ⟨b, 0, none⟩))]) (fun x => RdJ b s x.i :: BdL bb x.p x.v x.acc L) ⟨i0, [], .pointer none, .slice none 0 0⟩ ⟨hi0, by simp, .inl rfl, fun _ => rfl, by rw [hR]; cases textL (s.drop i0) <;> rfl⟩ subA selF ?_
  clear hR
  rintro ⟨i, acc, p, v⟩ ⟨hi, hac, hbp, hbn, hre⟩
  dsimp only at hi hac hbp hbn hre ⊢
  unfold BdL
  by_cases hlt : i < s.length
  · obtain ⟨x, hx⟩ : ∃ x, s[i]? = some x := ⟨_, List.getElem?_eq_getElem hlt⟩
    have N1 := fun L => need_yes (b := decide (((i : Nat) : Int) < (s.length : Nat))) (decide_eq_true (by omega)) 11 g L
    have D := fun L => decode_gives (s.drop i) (g := g) L hU (by rw [drop_of_get hx]; simp)
    rw [textL_eq, drop_of_get hx] at hre
    dsimp only at hre
    have hsb := UInt8.toNat_lt x
    have N1T := N1
    clear N1
    by_cases hsg : signL (x :: s.drop (i + 1)) = 0
    · have h128 : 128 ≤ x.toNat := by
        by_cases h : x.toNat < 128
        · exfalso
          unfold signL hdrL at hsg
          dsimp only at hsg
          rw [if_pos h] at hsg
          cases hsg
        · omega
      have hd := (decode_sign x (s.drop (i + 1))).resolve_right (fun h => h.1 hsg)
      rw [show Lib.decodeL (s.drop i) = (65533, 1) by rw [drop_of_get hx]; exact hd.2] at D
      dsimp only at D
      rw [if_neg (fun e => by rw [e] at h128; exact absurd h128 (by decide)), if_neg (by omega), if_neg (fun e => by rw [e] at h128; exact absurd h128 (by decide)), if_pos hsg] at hre
      obtain rfl : R = none := hre.symm
      have N2 := fun L => need_no (b := false) rfl 11 g L
      have H31 : Hn ((32 : Int) ≤ (65533 : Nat)) := ⟨by decide⟩
      have H34 : Hn (((65533 : Nat) : Int) = 65533) := ⟨rfl⟩
      clear hre hd hsg
      repeat' (first
    | refine wkQ ?_
    | ((with_reducible apply TL.pure (d := 31) (v := .bool true)); (· exact Y.geq_b (decide_eq_true H31.out) rfl rfl); (· rfl)) | ((with_reducible apply TW.pure (d := 31) (v := .bool true)); (· exact Y.geq_b (decide_eq_true H31.out) rfl rfl); (· rfl))
    | ((with_reducible apply TL.pure (d := 34) (v := .bool false)); (· exact Y.neqB (b := true) (decide_eq_true H34.out) rfl rfl); (· rfl)) | ((with_reducible apply TW.pure (d := 34) (v := .bool false)); (· exact Y.neqB (b := true) (decide_eq_true H34.out) rfl rfl); (· rfl))
    | ((with_reducible apply TL.pure (d := 37) (v := .bool false)); (· exact Y.gtr_b (decide_eq_false (show ¬ (1 : Int) < ((1 : Nat) : Int) by decide)) rfl rfl); (· rfl)) | ((with_reducible apply TW.pure (d := 37) (v := .bool false)); (· exact Y.gtr_b (decide_eq_false (show ¬ (1 : Int) < ((1 : Nat) : Int) by decide)) rfl rfl); (· rfl))
    | refine wkV ?_
    | ((with_reducible apply TL.gives_plain); (· kernel_rfl); (· rfl); (· exact N1T _); (· rfl)) | ((with_reducible apply TW.gives_plain); (· kernel_rfl); (· rfl); (· exact N1T _); (· rfl))
    | ((with_reducible apply TL.gives_plain); (· kernel_rfl); (· rfl); (· exact D _); (· rfl)) | ((with_reducible apply TW.gives_plain); (· kernel_rfl); (· rfl); (· exact D _); (· rfl))
    | refine TL.throws (Enters.plain (by kernel_rfl) (by rfl)) (N2 _) (by rfl) ?_
    | refine wkN0 ?_
    | refine wkN1 ?_
    | refine wkN2 ?_
    | refine wkN3 ?_
    | refine wkN0 ?_
    | refine wkN1 ?_
    | refine wkN2 ?_
    | refine wkN3 ?_
    | ((with_reducible apply TA.oneN 0); (· rfl); (· rfl); (· decide +kernel); (· rfl))
    | ((with_reducible apply TA.oneN 1); (· rfl); (· rfl); (· decide +kernel); (· rfl))
    | ((with_reducible apply TA.oneN 2); (· rfl); (· rfl); (· decide +kernel); (· rfl))
    | ((with_reducible apply TA.oneN 3); (· rfl); (· rfl); (· decide +kernel); (· rfl))
    | refine TQ.any leF selF ?_
    | refine TC.region_any 11 (_) (by kernel_rfl) rfl selF ?_ | refine TA.done (by decide +kernel) ?_ | refine TQ.any_panic ?_
    | refine TC.region_any 15 (_) (by kernel_rfl) rfl selF ?_ | refine TA.done (by decide +kernel) ?_ | refine TQ.any_panic ?_
    | refine stS ?_ | (refine stB ?_; intro _) | (refine stC ?_; refine And.intro (fun _ => ?_) (fun _ => ?_)))
      refine TQ.end_panic (L' := L) rfl (.refl _) ?_ selA
      exact ⟨rfl, rfl, rfl⟩
    · obtain ⟨c, k, hdc, hk, hkl, hk1, htk, hgc, hlo, hhi⟩ := decode_bytes x (s.drop (i + 1)) hsg
      rw [show Lib.decodeL (s.drop i) = (c, k) by rw [drop_of_get hx]; exact hdc] at D
      dsimp only at D
      have hik : i + k ≤ s.length := by rw [List.length_cons, List.length_drop] at hkl; omega
      have hgc1 := hgc.1
      by_cases h32 : c < 32
      · have hx32 : x.toNat < 32 := by
          by_cases h : x.toNat < 128
          · rw [← hlo h]; exact h32
          · have := hhi (by omega); omega
        rw [if_neg (fun e => by rw [e] at hx32; exact absurd hx32 (by decide)), if_pos hx32] at hre
        obtain rfl : R = none := hre.symm
        have N2 := fun L => need_no (b := false) rfl 11 g L
        have H31 : Hn (¬ (32 : Int) ≤ (c : Nat)) := ⟨by omega⟩
        clear hre hsg htk hk hlo hhi hkl
        repeat' (first
    | refine wkQ ?_
    | ((with_reducible apply TL.pure (d := 31) (v := .bool false)); (· exact Y.geq_b (decide_eq_false H31.out) rfl rfl); (· rfl)) | ((with_reducible apply TW.pure (d := 31) (v := .bool false)); (· exact Y.geq_b (decide_eq_false H31.out) rfl rfl); (· rfl))
    | refine wkV ?_
    | ((with_reducible apply TL.gives_plain); (· kernel_rfl); (· rfl); (· exact N1T _); (· rfl)) | ((with_reducible apply TW.gives_plain); (· kernel_rfl); (· rfl); (· exact N1T _); (· rfl))
    | ((with_reducible apply TL.gives_plain); (· kernel_rfl); (· rfl); (· exact D _); (· rfl)) | ((with_reducible apply TW.gives_plain); (· kernel_rfl); (· rfl); (· exact D _); (· rfl))
    | refine TL.throws (Enters.plain (by kernel_rfl) (by rfl)) (N2 _) (by rfl) ?_
    | refine wkN0 ?_
    | refine wkN1 ?_
    | refine wkN2 ?_
    | refine wkN3 ?_
    | refine wkN0 ?_
    | refine wkN1 ?_
    | refine wkN2 ?_
    | refine wkN3 ?_
    | ((with_reducible apply TA.oneN 0); (· rfl); (· rfl); (· decide +kernel); (· rfl))
    | ((with_reducible apply TA.oneN 1); (· rfl); (· rfl); (· decide +kernel); (· rfl))
    | ((with_reducible apply TA.oneN 2); (· rfl); (· rfl); (· decide +kernel); (· rfl))
    | ((with_reducible apply TA.oneN 3); (· rfl); (· rfl); (· decide +kernel); (· rfl))
    | refine TQ.any leF selF ?_
    | refine TC.region_any 11 (_) (by kernel_rfl) rfl selF ?_ | refine TA.done (by decide +kernel) ?_ | refine TQ.any_panic ?_
    | refine TC.region_any 15 (_) (by kernel_rfl) rfl selF ?_ | refine TA.done (by decide +kernel) ?_ | refine TQ.any_panic ?_
    | refine stS ?_ | (refine stB ?_; intro _) | (refine stC ?_; refine And.intro (fun _ => ?_) (fun _ => ?_)))
        refine TQ.end_panic (L' := L) rfl (.refl _) ?_ selA
        exact ⟨rfl, rfl, rfl⟩
      have hx32 : ¬ x.toNat < 32 := fun h => h32 (by rw [hlo (by omega)]; exact h)
      have N2 := fun L => need_yes (b := true) rfl 11 g L
      have H31 : Hn ((32 : Int) ≤ (c : Nat)) := ⟨by omega⟩
      by_cases hx34 : x = 34
      · subst hx34
        rw [if_pos rfl] at hre
        obtain rfl : c = 34 := hlo (by decide)
        have hk2 : k = 1 := by rw [hk]; rfl
        obtain rfl : R = some (acc ++ [], s.drop (i + 1)) := hre.symm
        rw [List.append_nil]
        subst hk2
        have H34 : Hn (¬ ((34 : Nat) : Int) = 65533) := ⟨by decide⟩
        have H51 : Hn (((34 : Nat) : Int) = 34) := ⟨rfl⟩
        clear hre hsg htk hk hlo hhi hkl
        repeat' (first
    | refine wkQ ?_
    | ((with_reducible apply TL.pure (d := 31) (v := .bool true)); (· exact Y.geq_b (decide_eq_true H31.out) rfl rfl); (· rfl)) | ((with_reducible apply TW.pure (d := 31) (v := .bool true)); (· exact Y.geq_b (decide_eq_true H31.out) rfl rfl); (· rfl))
    | ((with_reducible apply TL.pure (d := 34) (v := .bool true)); (· exact Y.neqB (b := false) (decide_eq_false H34.out) rfl rfl); (· rfl)) | ((with_reducible apply TW.pure (d := 34) (v := .bool true)); (· exact Y.neqB (b := false) (decide_eq_false H34.out) rfl rfl); (· rfl))
    | ((with_reducible apply TL.pure (d := 51) (v := .bool true)); (· exact Y.eql_b (decide_eq_true H51.out) rfl rfl); (· rfl)) | ((with_reducible apply TW.pure (d := 51) (v := .bool true)); (· exact Y.eql_b (decide_eq_true H51.out) rfl rfl); (· rfl))
    | refine wkV ?_
    | ((with_reducible apply TL.gives_plain); (· kernel_rfl); (· rfl); (· exact N1T _); (· rfl)) | ((with_reducible apply TW.gives_plain); (· kernel_rfl); (· rfl); (· exact N1T _); (· rfl))
    | ((with_reducible apply TL.gives_plain); (· kernel_rfl); (· rfl); (· exact D _); (· rfl)) | ((with_reducible apply TW.gives_plain); (· kernel_rfl); (· rfl); (· exact D _); (· rfl))
    | ((with_reducible apply TL.gives_plain); (· kernel_rfl); (· rfl); (· exact N2 _); (· rfl)) | ((with_reducible apply TW.gives_plain); (· kernel_rfl); (· rfl); (· exact N2 _); (· rfl))
    | apply TL.turns (Enters.plain (by kernel_rfl) (by rfl)) (bdstring_turns bb p v acc g _ hbn) permF (by rfl)
    | refine wkN0 ?_
    | refine wkN1 ?_
    | refine wkN2 ?_
    | refine wkN3 ?_
    | refine wkN0 ?_
    | refine wkN1 ?_
    | refine wkN2 ?_
    | refine wkN3 ?_
    | ((with_reducible apply TA.oneN 0); (· rfl); (· rfl); (· decide +kernel); (· rfl))
    | ((with_reducible apply TA.oneN 1); (· rfl); (· rfl); (· decide +kernel); (· rfl))
    | ((with_reducible apply TA.oneN 2); (· rfl); (· rfl); (· decide +kernel); (· rfl))
    | ((with_reducible apply TA.oneN 3); (· rfl); (· rfl); (· decide +kernel); (· rfl))
    | refine TQ.any leF selF ?_
    | refine TC.region_any 11 (_) (by kernel_rfl) rfl selF ?_ | refine TA.done (by decide +kernel) ?_ | refine TQ.any_panic ?_
    | refine TC.region_any 15 (_) (by kernel_rfl) rfl selF ?_ | refine TA.done (by decide +kernel) ?_ | refine TQ.any_panic ?_
    | refine stS ?_ | (refine stB ?_; intro _) | (refine stC ?_; refine And.intro (fun _ => ?_) (fun _ => ?_)))
        refine TQ.endR1 (L' := (RdJ b s (i + 1) :: L)) Tryz.results44 rvA rfl (.refl _) ?_ selF
        exact ⟨i + 1, rfl, rfl, rfl, hik, rfl, by omega⟩
      rw [if_neg hx34, if_neg hx32] at hre
      by_cases hx92 : x = 92
      · subst hx92
        rw [if_pos rfl] at hre
        obtain rfl : c = 92 := hlo (by decide)
        have hk2 : k = 1 := by rw [hk]; rfl
        subst hk2
        have H34 : Hn (¬ ((92 : Nat) : Int) = 65533) := ⟨by decide⟩
        have H51 : Hn (¬ ((92 : Nat) : Int) = 34) := ⟨by decide⟩
        have H54 : Hn (((92 : Nat) : Int) = 92) := ⟨rfl⟩
        have ES := fun L => jescape_does b s (i + 1) hik hs g L
        cases he : escJ (s.drop (i + 1)) with
        | none =>
          rw [he] at ES hre
          unfold EscR at ES
          dsimp only at ES hre
          obtain rfl : R = none := hre.symm
          clear hre hsg htk hk hlo hhi hkl he
          repeat' (first
    | refine wkQ ?_
    | ((with_reducible apply TL.pure (d := 31) (v := .bool true)); (· exact Y.geq_b (decide_eq_true H31.out) rfl rfl); (· rfl)) | ((with_reducible apply TW.pure (d := 31) (v := .bool true)); (· exact Y.geq_b (decide_eq_true H31.out) rfl rfl); (· rfl))
    | ((with_reducible apply TL.pure (d := 34) (v := .bool true)); (· exact Y.neqB (b := false) (decide_eq_false H34.out) rfl rfl); (· rfl)) | ((with_reducible apply TW.pure (d := 34) (v := .bool true)); (· exact Y.neqB (b := false) (decide_eq_false H34.out) rfl rfl); (· rfl))
    | ((with_reducible apply TL.pure (d := 51) (v := .bool false)); (· exact Y.eql_b (decide_eq_false H51.out) rfl rfl); (· rfl)) | ((with_reducible apply TW.pure (d := 51) (v := .bool false)); (· exact Y.eql_b (decide_eq_false H51.out) rfl rfl); (· rfl))
    | ((with_reducible apply TL.pure (d := 54) (v := .bool true)); (· exact Y.eql_b (decide_eq_true H54.out) rfl rfl); (· rfl)) | ((with_reducible apply TW.pure (d := 54) (v := .bool true)); (· exact Y.eql_b (decide_eq_true H54.out) rfl rfl); (· rfl))
    | refine wkV ?_
    | ((with_reducible apply TL.gives_plain); (· kernel_rfl); (· rfl); (· exact N1T _); (· rfl)) | ((with_reducible apply TW.gives_plain); (· kernel_rfl); (· rfl); (· exact N1T _); (· rfl))
    | ((with_reducible apply TL.gives_plain); (· kernel_rfl); (· rfl); (· exact D _); (· rfl)) | ((with_reducible apply TW.gives_plain); (· kernel_rfl); (· rfl); (· exact D _); (· rfl))
    | ((with_reducible apply TL.gives_plain); (· kernel_rfl); (· rfl); (· exact N2 _); (· rfl)) | ((with_reducible apply TW.gives_plain); (· kernel_rfl); (· rfl); (· exact N2 _); (· rfl))
    | (refine TL.call (Enters.plain (by kernel_rfl) (by rfl)) (by rfl) (Does.perm (ES _) permA) ?_; (rintro e gu Lu _ ⟨k1, k2, k3⟩; have k2 := k2.symm; subst k1; subst k2; subst k3; refine CallK.panic ?_))
    | refine wkN0 ?_
    | refine wkN1 ?_
    | refine wkN2 ?_
    | refine wkN3 ?_
    | refine wkN0 ?_
    | refine wkN1 ?_
    | refine wkN2 ?_
    | refine wkN3 ?_
    | ((with_reducible apply TA.oneN 0); (· rfl); (· rfl); (· decide +kernel); (· rfl))
    | ((with_reducible apply TA.oneN 1); (· rfl); (· rfl); (· decide +kernel); (· rfl))
    | ((with_reducible apply TA.oneN 2); (· rfl); (· rfl); (· decide +kernel); (· rfl))
    | ((with_reducible apply TA.oneN 3); (· rfl); (· rfl); (· decide +kernel); (· rfl))
    | refine TQ.any leF selF ?_
    | refine TC.region_any 11 (_) (by kernel_rfl) rfl selF ?_ | refine TA.done (by decide +kernel) ?_ | refine TQ.any_panic ?_
    | refine TC.region_any 15 (_) (by kernel_rfl) rfl selF ?_ | refine TA.done (by decide +kernel) ?_ | refine TQ.any_panic ?_
    | refine stS ?_ | (refine stB ?_; intro _) | (refine stC ?_; refine And.intro (fun _ => ?_) (fun _ => ?_)))
          refine TQ.end_panic (L' := L) rfl (.refl _) ?_ selA
          exact ⟨rfl, rfl, rfl⟩
        | some qr =>
          obtain ⟨q, r1⟩ := qr
          rw [he] at ES hre
          unfold EscR at ES
          dsimp only at ES hre
          have hlen := escJ_len he
          rw [List.length_drop] at hlen
          have hq := esc_good he
          have RU := fun L => bdrune_does hbp v acc q hq g L (by omega)
          unfold RuneR BdL at RU
          have hsl := signB_len q
          have hre2 : (textL r1).map (fun p => ((acc ++ signB q) ++ p.1, p.2)) = R := by
            rw [← hre, Option.map_map]
            congr 1
            funext p
            simp
          have HR := Hn.mk hre2
          have hac2 : (acc ++ signB q).length ≤ acc.length + 4 := by rw [List.length_append]; omega
          have hne : acc ++ signB q ≠ [] := fun e => by
            have := congrArg List.length e
            rw [List.length_append, List.length_nil] at this
            omega
          clear hre hre2 hsg htk hk hlo hhi hkl he
          generalize acc ++ signB q = acc2 at *
          repeat' (first
    | refine wkQ ?_
    | ((with_reducible apply TL.pure (d := 31) (v := .bool true)); (· exact Y.geq_b (decide_eq_true H31.out) rfl rfl); (· rfl)) | ((with_reducible apply TW.pure (d := 31) (v := .bool true)); (· exact Y.geq_b (decide_eq_true H31.out) rfl rfl); (· rfl))
    | ((with_reducible apply TL.pure (d := 34) (v := .bool true)); (· exact Y.neqB (b := false) (decide_eq_false H34.out) rfl rfl); (· rfl)) | ((with_reducible apply TW.pure (d := 34) (v := .bool true)); (· exact Y.neqB (b := false) (decide_eq_false H34.out) rfl rfl); (· rfl))
    | ((with_reducible apply TL.pure (d := 51) (v := .bool false)); (· exact Y.eql_b (decide_eq_false H51.out) rfl rfl); (· rfl)) | ((with_reducible apply TW.pure (d := 51) (v := .bool false)); (· exact Y.eql_b (decide_eq_false H51.out) rfl rfl); (· rfl))
    | ((with_reducible apply TL.pure (d := 54) (v := .bool true)); (· exact Y.eql_b (decide_eq_true H54.out) rfl rfl); (· rfl)) | ((with_reducible apply TW.pure (d := 54) (v := .bool true)); (· exact Y.eql_b (decide_eq_true H54.out) rfl rfl); (· rfl))
    | refine wkV ?_
    | ((with_reducible apply TL.gives_plain); (· kernel_rfl); (· rfl); (· exact N1T _); (· rfl)) | ((with_reducible apply TW.gives_plain); (· kernel_rfl); (· rfl); (· exact N1T _); (· rfl))
    | ((with_reducible apply TL.gives_plain); (· kernel_rfl); (· rfl); (· exact D _); (· rfl)) | ((with_reducible apply TW.gives_plain); (· kernel_rfl); (· rfl); (· exact D _); (· rfl))
    | ((with_reducible apply TL.gives_plain); (· kernel_rfl); (· rfl); (· exact N2 _); (· rfl)) | ((with_reducible apply TW.gives_plain); (· kernel_rfl); (· rfl); (· exact N2 _); (· rfl))
    | (refine TL.call (Enters.plain (by kernel_rfl) (by rfl)) (by rfl) (Does.perm (ES _) permA) ?_; (rintro e gu Lu _ ⟨ie, k1, k2, k3, hie, hre, _⟩; have k2 := k2.symm; subst k1; subst k2; subst k3; refine CallK.ret ?_))
    | (refine TL.call (Enters.plain (by kernel_rfl) (by rfl)) (by rfl) (Does.perm (RU _) permF) ?_; (rintro e gu Lu _ ⟨ra, rc, rk, k1, k2, k3⟩; have k2 := k2.symm; subst k1; subst k2; subst k3; refine CallK.ret ?_))
    | refine wkN0 ?_
    | refine wkN1 ?_
    | refine wkN2 ?_
    | refine wkN3 ?_
    | refine wkN0 ?_
    | refine wkN1 ?_
    | refine wkN2 ?_
    | refine wkN3 ?_
    | ((with_reducible apply TA.oneN 0); (· rfl); (· rfl); (· decide +kernel); (· rfl))
    | ((with_reducible apply TA.oneN 1); (· rfl); (· rfl); (· decide +kernel); (· rfl))
    | ((with_reducible apply TA.oneN 2); (· rfl); (· rfl); (· decide +kernel); (· rfl))
    | ((with_reducible apply TA.oneN 3); (· rfl); (· rfl); (· decide +kernel); (· rfl))
    | refine TQ.any leF selF ?_
    | refine TC.region_any 11 (_) (by kernel_rfl) rfl selF ?_ | refine TA.done (by decide +kernel) ?_ | refine TQ.any_panic ?_
    | refine TC.region_any 15 (_) (by kernel_rfl) rfl selF ?_ | refine TA.done (by decide +kernel) ?_ | refine TQ.any_panic ?_
    | refine stS ?_ | (refine stB ?_; intro _) | (refine stC ?_; refine And.intro (fun _ => ?_) (fun _ => ?_)))
          have hie2 : i < ie := by
            have := congrArg List.length hre
            rw [List.length_drop] at this
            omega
          refine TQ.round ⟨ie, acc2, .pointer (some ⟨bb, 0, none⟩), .slice ra acc2.length rc⟩ ?_ ?_ rfl subA selF
          · exact ⟨hie, by dsimp only; omega, .inr rfl, fun e => absurd e hne, by dsimp only; rw [hre]; exact HR.out⟩
          · show s.length - ie < s.length - i
            omega
      · rw [if_neg hx92, if_neg hsg] at hre
        have c34 : ¬ c = 34 := fun e => hx34 (UInt8.toNat_inj.1 (by
          by_cases h : x.toNat < 128
          · rw [← hlo h, e]; rfl
          · have := hhi (by omega); omega))
        have c92 : ¬ c = 92 := fun e => hx92 (UInt8.toNat_inj.1 (by
          by_cases h : x.toNat < 128
          · rw [← hlo h, e]; rfl
          · have := hhi (by omega); omega))
        have RU := fun L => bdrune_does hbp v acc c hgc g L (by omega)
        unfold RuneR BdL at RU
        have hsl := signB_len c
        have hre2 : (textL (s.drop (i + k))).map (fun p => ((acc ++ signB c) ++ p.1, p.2)) = R := by
          rw [← hre, Option.map_map, ← hk, htk, ← drop_of_get hx, List.drop_drop]
          congr 1
          funext p
          simp
        have hac2 : (acc ++ signB c).length ≤ acc.length + 4 := by rw [List.length_append]; omega
        have hne : acc ++ signB c ≠ [] := fun e => by
          have := congrArg List.length e
          rw [List.length_append, List.length_nil] at this
          omega
        have HR := Hn.mk hre2
        have H51 : Hn (¬ ((c : Nat) : Int) = 34) := ⟨by omega⟩
        have H54 : Hn (¬ ((c : Nat) : Int) = 92) := ⟨by omega⟩
        have hk3 : c = 65533 → 1 < k := fun e => by
          have := congrArg List.length htk
          rw [List.length_take, e, show (signB 65533).length = 3 by decide] at this
          omega
        clear hre hre2 hsg htk hk hlo hhi
        generalize acc ++ signB c = acc2 at *
        by_cases hr : c = 65533
        · have H34 : Hn (((c : Nat) : Int) = 65533) := ⟨by omega⟩
          have H37 : Hn ((1 : Int) < (k : Nat)) := ⟨by have := hk3 hr; omega⟩
          clear hr hk3 c34 c92
          repeat' (first
    | refine wkQ ?_
    | ((with_reducible apply TL.pure (d := 31) (v := .bool true)); (· exact Y.geq_b (decide_eq_true H31.out) rfl rfl); (· rfl)) | ((with_reducible apply TW.pure (d := 31) (v := .bool true)); (· exact Y.geq_b (decide_eq_true H31.out) rfl rfl); (· rfl))
    | ((with_reducible apply TL.pure (d := 34) (v := .bool false)); (· exact Y.neqB (b := true) (decide_eq_true H34.out) rfl rfl); (· rfl)) | ((with_reducible apply TW.pure (d := 34) (v := .bool false)); (· exact Y.neqB (b := true) (decide_eq_true H34.out) rfl rfl); (· rfl))
    | ((with_reducible apply TL.pure (d := 37) (v := .bool true)); (· exact Y.gtr_b (decide_eq_true H37.out) rfl rfl); (· rfl)) | ((with_reducible apply TW.pure (d := 37) (v := .bool true)); (· exact Y.gtr_b (decide_eq_true H37.out) rfl rfl); (· rfl))
    | ((with_reducible apply TL.pure (d := 51) (v := .bool false)); (· exact Y.eql_b (decide_eq_false H51.out) rfl rfl); (· rfl)) | ((with_reducible apply TW.pure (d := 51) (v := .bool false)); (· exact Y.eql_b (decide_eq_false H51.out) rfl rfl); (· rfl))
    | ((with_reducible apply TL.pure (d := 54) (v := .bool false)); (· exact Y.eql_b (decide_eq_false H54.out) rfl rfl); (· rfl)) | ((with_reducible apply TW.pure (d := 54) (v := .bool false)); (· exact Y.eql_b (decide_eq_false H54.out) rfl rfl); (· rfl))
    | refine wkV ?_
    | ((with_reducible apply TL.gives_plain); (· kernel_rfl); (· rfl); (· exact N1T _); (· rfl)) | ((with_reducible apply TW.gives_plain); (· kernel_rfl); (· rfl); (· exact N1T _); (· rfl))
    | ((with_reducible apply TL.gives_plain); (· kernel_rfl); (· rfl); (· exact D _); (· rfl)) | ((with_reducible apply TW.gives_plain); (· kernel_rfl); (· rfl); (· exact D _); (· rfl))
    | ((with_reducible apply TL.gives_plain); (· kernel_rfl); (· rfl); (· exact N2 _); (· rfl)) | ((with_reducible apply TW.gives_plain); (· kernel_rfl); (· rfl); (· exact N2 _); (· rfl))
    | (refine TL.call (Enters.plain (by kernel_rfl) (by rfl)) (by rfl) (Does.perm (RU _) permF) ?_; (rintro e gu Lu _ ⟨ra, rc, rk, k1, k2, k3⟩; have k2 := k2.symm; subst k1; subst k2; subst k3; refine CallK.ret ?_))
    | refine wkN0 ?_
    | refine wkN1 ?_
    | refine wkN2 ?_
    | refine wkN3 ?_
    | refine wkN0 ?_
    | refine wkN1 ?_
    | refine wkN2 ?_
    | refine wkN3 ?_
    | ((with_reducible apply TA.oneN 0); (· rfl); (· rfl); (· decide +kernel); (· rfl))
    | ((with_reducible apply TA.oneN 1); (· rfl); (· rfl); (· decide +kernel); (· rfl))
    | ((with_reducible apply TA.oneN 2); (· rfl); (· rfl); (· decide +kernel); (· rfl))
    | ((with_reducible apply TA.oneN 3); (· rfl); (· rfl); (· decide +kernel); (· rfl))
    | refine TQ.any leF selF ?_
    | refine TC.region_any 11 (_) (by kernel_rfl) rfl selF ?_ | refine TA.done (by decide +kernel) ?_ | refine TQ.any_panic ?_
    | refine TC.region_any 15 (_) (by kernel_rfl) rfl selF ?_ | refine TA.done (by decide +kernel) ?_ | refine TQ.any_panic ?_
    | refine stS ?_ | (refine stB ?_; intro _) | (refine stC ?_; refine And.intro (fun _ => ?_) (fun _ => ?_)))
          refine TQ.round ⟨i + k, acc2, .pointer (some ⟨bb, 0, none⟩), .slice ra acc2.length rc⟩ ?_ ?_ rfl subA selF
          · exact ⟨hik, by dsimp only; omega, .inr rfl, fun e => absurd e hne, HR.out⟩
          · show s.length - (i + k) < s.length - i
            omega
        · have H34 : Hn (¬ ((c : Nat) : Int) = 65533) := ⟨by omega⟩
          clear hr hk3 c34 c92
          repeat' (first
    | refine wkQ ?_
    | ((with_reducible apply TL.pure (d := 31) (v := .bool true)); (· exact Y.geq_b (decide_eq_true H31.out) rfl rfl); (· rfl)) | ((with_reducible apply TW.pure (d := 31) (v := .bool true)); (· exact Y.geq_b (decide_eq_true H31.out) rfl rfl); (· rfl))
    | ((with_reducible apply TL.pure (d := 34) (v := .bool true)); (· exact Y.neqB (b := false) (decide_eq_false H34.out) rfl rfl); (· rfl)) | ((with_reducible apply TW.pure (d := 34) (v := .bool true)); (· exact Y.neqB (b := false) (decide_eq_false H34.out) rfl rfl); (· rfl))
    | ((with_reducible apply TL.pure (d := 51) (v := .bool false)); (· exact Y.eql_b (decide_eq_false H51.out) rfl rfl); (· rfl)) | ((with_reducible apply TW.pure (d := 51) (v := .bool false)); (· exact Y.eql_b (decide_eq_false H51.out) rfl rfl); (· rfl))
    | ((with_reducible apply TL.pure (d := 54) (v := .bool false)); (· exact Y.eql_b (decide_eq_false H54.out) rfl rfl); (· rfl)) | ((with_reducible apply TW.pure (d := 54) (v := .bool false)); (· exact Y.eql_b (decide_eq_false H54.out) rfl rfl); (· rfl))
    | refine wkV ?_
    | ((with_reducible apply TL.gives_plain); (· kernel_rfl); (· rfl); (· exact N1T _); (· rfl)) | ((with_reducible apply TW.gives_plain); (· kernel_rfl); (· rfl); (· exact N1T _); (· rfl))
    | ((with_reducible apply TL.gives_plain); (· kernel_rfl); (· rfl); (· exact D _); (· rfl)) | ((with_reducible apply TW.gives_plain); (· kernel_rfl); (· rfl); (· exact D _); (· rfl))
    | ((with_reducible apply TL.gives_plain); (· kernel_rfl); (· rfl); (· exact N2 _); (· rfl)) | ((with_reducible apply TW.gives_plain); (· kernel_rfl); (· rfl); (· exact N2 _); (· rfl))
    | (refine TL.call (Enters.plain (by kernel_rfl) (by rfl)) (by rfl) (Does.perm (RU _) permF) ?_; (rintro e gu Lu _ ⟨ra, rc, rk, k1, k2, k3⟩; have k2 := k2.symm; subst k1; subst k2; subst k3; refine CallK.ret ?_))
    | refine wkN0 ?_
    | refine wkN1 ?_
    | refine wkN2 ?_
    | refine wkN3 ?_
    | refine wkN0 ?_
    | refine wkN1 ?_
    | refine wkN2 ?_
    | refine wkN3 ?_
    | ((with_reducible apply TA.oneN 0); (· rfl); (· rfl); (· decide +kernel); (· rfl))
    | ((with_reducible apply TA.oneN 1); (· rfl); (· rfl); (· decide +kernel); (· rfl))
    | ((with_reducible apply TA.oneN 2); (· rfl); (· rfl); (· decide +kernel); (· rfl))
    | ((with_reducible apply TA.oneN 3); (· rfl); (· rfl); (· decide +kernel); (· rfl))
    | refine TQ.any leF selF ?_
    | refine TC.region_any 11 (_) (by kernel_rfl) rfl selF ?_ | refine TA.done (by decide +kernel) ?_ | refine TQ.any_panic ?_
    | refine TC.region_any 15 (_) (by kernel_rfl) rfl selF ?_ | refine TA.done (by decide +kernel) ?_ | refine TQ.any_panic ?_
    | refine stS ?_ | (refine stB ?_; intro _) | (refine stC ?_; refine And.intro (fun _ => ?_) (fun _ => ?_)))
          refine TQ.round ⟨i + k, acc2, .pointer (some ⟨bb, 0, none⟩), .slice ra acc2.length rc⟩ ?_ ?_ rfl subA selF
          · exact ⟨hik, by dsimp only; omega, .inr rfl, fun e => absurd e hne, HR.out⟩
          · show s.length - (i + k) < s.length - i
            omega
  · have hn : textL (s.drop i) = none := by rw [List.drop_eq_nil_of_le (by omega)]; rfl
    rw [hn] at hre
    obtain rfl : R = none := hre.symm
    have N1 := fun L => need_no (b := decide (((i : Nat) : Int) < (s.length : Nat))) (decide_eq_false (by omega)) 11 g L
    clear hn hre
    repeat' (first
    | refine wkQ ?_
    | refine wkV ?_
    | refine TL.throws (Enters.plain (by kernel_rfl) (by rfl)) (N1 _) (by rfl) ?_
    | refine wkN0 ?_
    | refine wkN1 ?_
    | refine wkN2 ?_
    | refine wkN3 ?_
    | refine wkN0 ?_
    | refine wkN1 ?_
    | refine wkN2 ?_
    | refine wkN3 ?_
    | ((with_reducible apply TA.oneN 0); (· rfl); (· rfl); (· decide +kernel); (· rfl))
    | ((with_reducible apply TA.oneN 1); (· rfl); (· rfl); (· decide +kernel); (· rfl))
    | ((with_reducible apply TA.oneN 2); (· rfl); (· rfl); (· decide +kernel); (· rfl))
    | ((with_reducible apply TA.oneN 3); (· rfl); (· rfl); (· decide +kernel); (· rfl))
    | refine TQ.any leF selF ?_
    | refine TC.region_any 11 (_) (by kernel_rfl) rfl selF ?_ | refine TA.done (by decide +kernel) ?_ | refine TQ.any_panic ?_
    | refine TC.region_any 15 (_) (by kernel_rfl) rfl selF ?_ | refine TA.done (by decide +kernel) ?_ | refine TQ.any_panic ?_
    | refine stS ?_ | (refine stB ?_; intro _) | (refine stC ?_; refine And.intro (fun _ => ?_) (fun _ => ?_)))
    refine TQ.end_panic (L' := L) rfl (.refl _) ?_ selA
    exact ⟨rfl, rfl, rfl⟩
end Go.Proofs.YtfmadoeadmclbaaGreatDoor
