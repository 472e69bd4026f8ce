/-
  The walk of the JSON reader's value.
-/
import Derived.Test.YtfmadoeadmclbaaGreatDoorHr2
import Derived.Test.YtfmadoeadmclbaaGreatDoorHr31
namespace Go.Proofs.YtfmadoeadmclbaaGreatDoor
open Go.RowKit Go.TL
set_option maxRecDepth 100000

theorem u8_dec (c k : UInt8) (n : Int) (hn : n = (k.toNat : Nat)) : decide (((c.toNat : Nat) : Int) = n) = decide (c = k) := by
  subst hn
  rw [decide_eq_decide]
  exact ⟨fun h => UInt8.toNat_inj.1 (by omega), fun h => by rw [h]⟩
theorem numW_nil : numW [] = .error 11 := by rfl
set_option maxHeartbeats 64000000 in
theorem jvalue_flat (l o : List UInt8 → Except Nat (J × List UInt8)) (b : Nat) (s : List UInt8) (i : Nat) (q : Int) (hi : i ≤ s.length) (hs : s.length ≤ 1000000) (hn : ∀ c t, blL (s.drop i) = c :: t → c ≠ 91 ∧ c ≠ 123) (g : Gh) (L : List Ent) (hU : GU8 g) : Does Tryz.prog 27 #[.pointer (some ⟨b, 0, none⟩), .int .i64 q] g (RdJ b s i :: L) (RdR (valW l o (s.drop i)) b s L) := by
  refine Does.of2 Tryz.func27 rfl Tryz.ntmps27 rfl ?_
  have BL := fun L => jblanks_turns b s i g L hi hs
  have hbd := blAt_bd s i hi
  have hbl := blAt_drop s i
  have PK := fun L => jpeek_gives b s (blAt s i) g L (by omega) hs
  unfold valW
  cases hb0 : blL (s.drop i) with
  | nil =>
    rw [hb0] at hbl
    have hg : s.getD (blAt s i) 0 = 0 := by rw [List.getD_eq_getElem?_getD, at_nil hbl]; rfl
    rw [hg] at PK
    have NU := fun L => jnumber_does b s (blAt s i) hbd.2 hs g L
    rw [hbl, numW_nil] at NU
    unfold RdR at NU
    dsimp only at NU
    have K1 : decide (((0 : UInt8).toNat : Int) = 110) = false := by decide
    have K2 : decide (((0 : UInt8).toNat : Int) = 116) = false := by decide
    have K3 : decide (((0 : UInt8).toNat : Int) = 102) = false := by decide
    have K4 : decide (((0 : UInt8).toNat : Int) = 34) = false := by decide
    have K5 : decide (((0 : UInt8).toNat : Int) = 91) = false := by decide
    have K6 : decide (((0 : UInt8).toNat : Int) = 123) = false := by decide
    clear hg hbl hb0 hn
    repeat' (first
    | refine wkQ ?_
    | ((with_reducible apply TL.pure (d := 10) (v := .bool false)); (· exact Y.eql_b K1 rfl rfl); (· rfl)) | ((with_reducible apply TW.pure (d := 10) (v := .bool false)); (· exact Y.eql_b K1 rfl rfl); (· rfl))
    | ((with_reducible apply TL.pure (d := 14) (v := .bool false)); (· exact Y.eql_b K2 rfl rfl); (· rfl)) | ((with_reducible apply TW.pure (d := 14) (v := .bool false)); (· exact Y.eql_b K2 rfl rfl); (· rfl))
    | ((with_reducible apply TL.pure (d := 19) (v := .bool false)); (· exact Y.eql_b K3 rfl rfl); (· rfl)) | ((with_reducible apply TW.pure (d := 19) (v := .bool false)); (· exact Y.eql_b K3 rfl rfl); (· rfl))
    | ((with_reducible apply TL.pure (d := 24) (v := .bool false)); (· exact Y.eql_b K4 rfl rfl); (· rfl)) | ((with_reducible apply TW.pure (d := 24) (v := .bool false)); (· exact Y.eql_b K4 rfl rfl); (· rfl))
    | ((with_reducible apply TL.pure (d := 36) (v := .bool false)); (· exact Y.eql_b K5 rfl rfl); (· rfl)) | ((with_reducible apply TW.pure (d := 36) (v := .bool false)); (· exact Y.eql_b K5 rfl rfl); (· rfl))
    | ((with_reducible apply TL.pure (d := 52) (v := .bool false)); (· exact Y.eql_b K6 rfl rfl); (· rfl)) | ((with_reducible apply TW.pure (d := 52) (v := .bool false)); (· exact Y.eql_b K6 rfl rfl); (· rfl))
    | refine wkV ?_
    | apply TL.turns (Enters.plain (by kernel_rfl) (by rfl)) (BL _) permF (by rfl)
    | refine TL.gives (Enters.plain (by kernel_rfl) (by rfl)) (Gives.perm (PK _) permF) (by rfl) ?_
    | (refine TL.call (Enters.plain (by kernel_rfl) (by rfl)) (by rfl) (Does.perm (NU _) permF) ?_; (rintro e g1 Ln hg1 ⟨k1, k3⟩; subst k1; subst k3; refine CallK.panic ?_))
    | refine stS ?_ | (refine stB ?_; intro _) | (refine stC ?_; refine And.intro (fun _ => ?_) (fun _ => ?_)))
    refine TQ.end_panic (L' := Ln) rfl (hg1) ?_ selF
    exact ⟨rfl, rfl⟩
  | cons c t =>
    obtain ⟨h91, h123⟩ := hn c t hb0
    rw [hb0] at hbl
    obtain ⟨hc0, hc1, hc2⟩ := at_of_drop hbl
    have hg : s.getD (blAt s i) 0 = c := by rw [List.getD_eq_getElem?_getD, hc0]; rfl
    rw [hg] at PK
    clear hg hb0 hn
    dsimp only
    by_cases h110 : c = 110
    · clear hc1
      subst h110
      have K1 : decide (((110 : UInt8).toNat : Int) = 110) = true := by decide
      rw [if_pos rfl]
      unfold wordW
      by_cases hw : (110 :: t).take 4 = [110, 117, 108, 108]
      · rw [if_pos (show (110 :: t).take ([110, 117, 108, 108] : List UInt8).length = [110, 117, 108, 108] from hw)]
        have WD := fun L => jword_yes b s (blAt s i) [110, 117, 108, 108] .nilIface g L hbd.2 hs (by rw [hbl]; exact hw)
        have HL := Hn.mk (show blAt s i + 4 ≤ s.length from by
          have := congrArg List.length hw
          rw [← hbl, List.length_take, List.length_drop] at this
          have h4 : ([110, 117, 108, 108] : List UInt8).length = 4 := rfl
          omega)
        have HD := Hn.mk (show s.drop (blAt s i + 4) = (110 :: t).drop 4 by rw [← hbl, List.drop_drop])
        clear hw hbl
        repeat' (first
    | refine wkQ ?_
    | ((with_reducible apply TL.pure (d := 10) (v := .bool true)); (· exact Y.eql_b K1 rfl rfl); (· rfl)) | ((with_reducible apply TW.pure (d := 10) (v := .bool true)); (· exact Y.eql_b K1 rfl rfl); (· rfl))
    | refine wkV ?_
    | apply TL.turns (Enters.plain (by kernel_rfl) (by rfl)) (BL _) permF (by rfl)
    | refine TL.gives (Enters.plain (by kernel_rfl) (by rfl)) (Gives.perm (PK _) permF) (by rfl) ?_
    | apply TL.turns (Enters.plain (by kernel_rfl) (by rfl)) (WD _) permF (by rfl)
    | refine stS ?_ | (refine stB ?_; intro _) | (refine stC ?_; refine And.intro (fun _ => ?_) (fun _ => ?_)))
        refine TQ.endR1 (L' := (RdJ b s (blAt s i + 4) :: L)) Tryz.results27 rvA rfl (.refl _) ?_ selF
        exact ⟨_, _, rfl, rfl, HL.out, HD.out, by rw [IsJ]⟩
      · rw [if_neg (show ¬ (110 :: t).take ([110, 117, 108, 108] : List UInt8).length = [110, 117, 108, 108] from hw)]
        have WD := fun L => jword_no b s (blAt s i) [110, 117, 108, 108] .nilIface g L hbd.2 hs (by rw [hbl]; exact hw)
        clear hw hbl
        repeat' (first
    | refine wkQ ?_
    | ((with_reducible apply TL.pure (d := 10) (v := .bool true)); (· exact Y.eql_b K1 rfl rfl); (· rfl)) | ((with_reducible apply TW.pure (d := 10) (v := .bool true)); (· exact Y.eql_b K1 rfl rfl); (· rfl))
    | refine wkV ?_
    | apply TL.turns (Enters.plain (by kernel_rfl) (by rfl)) (BL _) permF (by rfl)
    | refine TL.gives (Enters.plain (by kernel_rfl) (by rfl)) (Gives.perm (PK _) permF) (by rfl) ?_
    | refine TL.throws (Enters.plain (by kernel_rfl) (by rfl)) (Throws.perm (WD _) permF) (by rfl) ?_
    | refine stS ?_ | (refine stB ?_; intro _) | (refine stC ?_; refine And.intro (fun _ => ?_) (fun _ => ?_)))
        refine TQ.end_panic (L' := L) rfl (.refl _) ?_ selF
        exact ⟨rfl, rfl⟩
    rw [if_neg h110]
    by_cases h116 : c = 116
    · clear hc1
      subst h116
      have K1 : decide (((116 : UInt8).toNat : Int) = 110) = false := by decide
      have K2 : decide (((116 : UInt8).toNat : Int) = 116) = true := by decide
      rw [if_pos rfl]
      unfold wordW
      by_cases hw : (116 :: t).take 4 = [116, 114, 117, 101]
      · rw [if_pos (show (116 :: t).take ([116, 114, 117, 101] : List UInt8).length = [116, 114, 117, 101] from hw)]
        have WD := fun L => jword_yes b s (blAt s i) [116, 114, 117, 101] (.iface 4 (.bool true)) g L hbd.2 hs (by rw [hbl]; exact hw)
        have HL := Hn.mk (show blAt s i + 4 ≤ s.length from by
          have := congrArg List.length hw
          rw [← hbl, List.length_take, List.length_drop] at this
          have h4 : ([116, 114, 117, 101] : List UInt8).length = 4 := rfl
          omega)
        have HD := Hn.mk (show s.drop (blAt s i + 4) = (116 :: t).drop 4 by rw [← hbl, List.drop_drop])
        clear hw hbl
        repeat' (first
    | refine wkQ ?_
    | ((with_reducible apply TL.pure (d := 10) (v := .bool false)); (· exact Y.eql_b K1 rfl rfl); (· rfl)) | ((with_reducible apply TW.pure (d := 10) (v := .bool false)); (· exact Y.eql_b K1 rfl rfl); (· rfl))
    | ((with_reducible apply TL.pure (d := 14) (v := .bool true)); (· exact Y.eql_b K2 rfl rfl); (· rfl)) | ((with_reducible apply TW.pure (d := 14) (v := .bool true)); (· exact Y.eql_b K2 rfl rfl); (· rfl))
    | refine wkV ?_
    | apply TL.turns (Enters.plain (by kernel_rfl) (by rfl)) (BL _) permF (by rfl)
    | refine TL.gives (Enters.plain (by kernel_rfl) (by rfl)) (Gives.perm (PK _) permF) (by rfl) ?_
    | apply TL.turns (Enters.plain (by kernel_rfl) (by rfl)) (WD _) permF (by rfl)
    | refine stS ?_ | (refine stB ?_; intro _) | (refine stC ?_; refine And.intro (fun _ => ?_) (fun _ => ?_)))
        refine TQ.endR1 (L' := (RdJ b s (blAt s i + 4) :: L)) Tryz.results27 rvA rfl (.refl _) ?_ selF
        exact ⟨_, _, rfl, rfl, HL.out, HD.out, by rw [IsJ]⟩
      · rw [if_neg (show ¬ (116 :: t).take ([116, 114, 117, 101] : List UInt8).length = [116, 114, 117, 101] from hw)]
        have WD := fun L => jword_no b s (blAt s i) [116, 114, 117, 101] (.iface 4 (.bool true)) g L hbd.2 hs (by rw [hbl]; exact hw)
        clear hw hbl
        repeat' (first
    | refine wkQ ?_
    | ((with_reducible apply TL.pure (d := 10) (v := .bool false)); (· exact Y.eql_b K1 rfl rfl); (· rfl)) | ((with_reducible apply TW.pure (d := 10) (v := .bool false)); (· exact Y.eql_b K1 rfl rfl); (· rfl))
    | ((with_reducible apply TL.pure (d := 14) (v := .bool true)); (· exact Y.eql_b K2 rfl rfl); (· rfl)) | ((with_reducible apply TW.pure (d := 14) (v := .bool true)); (· exact Y.eql_b K2 rfl rfl); (· rfl))
    | refine wkV ?_
    | apply TL.turns (Enters.plain (by kernel_rfl) (by rfl)) (BL _) permF (by rfl)
    | refine TL.gives (Enters.plain (by kernel_rfl) (by rfl)) (Gives.perm (PK _) permF) (by rfl) ?_
    | refine TL.throws (Enters.plain (by kernel_rfl) (by rfl)) (Throws.perm (WD _) permF) (by rfl) ?_
    | refine stS ?_ | (refine stB ?_; intro _) | (refine stC ?_; refine And.intro (fun _ => ?_) (fun _ => ?_)))
        refine TQ.end_panic (L' := L) rfl (.refl _) ?_ selF
        exact ⟨rfl, rfl⟩
    rw [if_neg h116]
    by_cases h102 : c = 102
    · clear hc1
      subst h102
      have K1 : decide (((102 : UInt8).toNat : Int) = 110) = false := by decide
      have K2 : decide (((102 : UInt8).toNat : Int) = 116) = false := by decide
      have K3 : decide (((102 : UInt8).toNat : Int) = 102) = true := by decide
      rw [if_pos rfl]
      unfold wordW
      by_cases hw : (102 :: t).take 5 = [102, 97, 108, 115, 101]
      · rw [if_pos (show (102 :: t).take ([102, 97, 108, 115, 101] : List UInt8).length = [102, 97, 108, 115, 101] from hw)]
        have WD := fun L => jword_yes b s (blAt s i) [102, 97, 108, 115, 101] (.iface 4 (.bool false)) g L hbd.2 hs (by rw [hbl]; exact hw)
        have HL := Hn.mk (show blAt s i + 5 ≤ s.length from by
          have := congrArg List.length hw
          rw [← hbl, List.length_take, List.length_drop] at this
          have h4 : ([102, 97, 108, 115, 101] : List UInt8).length = 5 := rfl
          omega)
        have HD := Hn.mk (show s.drop (blAt s i + 5) = (102 :: t).drop 5 by rw [← hbl, List.drop_drop])
        clear hw hbl
        repeat' (first
    | refine wkQ ?_
    | ((with_reducible apply TL.pure (d := 10) (v := .bool false)); (· exact Y.eql_b K1 rfl rfl); (· rfl)) | ((with_reducible apply TW.pure (d := 10) (v := .bool false)); (· exact Y.eql_b K1 rfl rfl); (· rfl))
    | ((with_reducible apply TL.pure (d := 14) (v := .bool false)); (· exact Y.eql_b K2 rfl rfl); (· rfl)) | ((with_reducible apply TW.pure (d := 14) (v := .bool false)); (· exact Y.eql_b K2 rfl rfl); (· rfl))
    | ((with_reducible apply TL.pure (d := 19) (v := .bool true)); (· exact Y.eql_b K3 rfl rfl); (· rfl)) | ((with_reducible apply TW.pure (d := 19) (v := .bool true)); (· exact Y.eql_b K3 rfl rfl); (· rfl))
    | refine wkV ?_
    | apply TL.turns (Enters.plain (by kernel_rfl) (by rfl)) (BL _) permF (by rfl)
    | refine TL.gives (Enters.plain (by kernel_rfl) (by rfl)) (Gives.perm (PK _) permF) (by rfl) ?_
    | apply TL.turns (Enters.plain (by kernel_rfl) (by rfl)) (WD _) permF (by rfl)
    | refine stS ?_ | (refine stB ?_; intro _) | (refine stC ?_; refine And.intro (fun _ => ?_) (fun _ => ?_)))
        refine TQ.endR1 (L' := (RdJ b s (blAt s i + 5) :: L)) Tryz.results27 rvA rfl (.refl _) ?_ selF
        exact ⟨_, _, rfl, rfl, HL.out, HD.out, by rw [IsJ]⟩
      · rw [if_neg (show ¬ (102 :: t).take ([102, 97, 108, 115, 101] : List UInt8).length = [102, 97, 108, 115, 101] from hw)]
        have WD := fun L => jword_no b s (blAt s i) [102, 97, 108, 115, 101] (.iface 4 (.bool false)) g L hbd.2 hs (by rw [hbl]; exact hw)
        clear hw hbl
        repeat' (first
    | refine wkQ ?_
    | ((with_reducible apply TL.pure (d := 10) (v := .bool false)); (· exact Y.eql_b K1 rfl rfl); (· rfl)) | ((with_reducible apply TW.pure (d := 10) (v := .bool false)); (· exact Y.eql_b K1 rfl rfl); (· rfl))
    | ((with_reducible apply TL.pure (d := 14) (v := .bool false)); (· exact Y.eql_b K2 rfl rfl); (· rfl)) | ((with_reducible apply TW.pure (d := 14) (v := .bool false)); (· exact Y.eql_b K2 rfl rfl); (· rfl))
    | ((with_reducible apply TL.pure (d := 19) (v := .bool true)); (· exact Y.eql_b K3 rfl rfl); (· rfl)) | ((with_reducible apply TW.pure (d := 19) (v := .bool true)); (· exact Y.eql_b K3 rfl rfl); (· rfl))
    | refine wkV ?_
    | apply TL.turns (Enters.plain (by kernel_rfl) (by rfl)) (BL _) permF (by rfl)
    | refine TL.gives (Enters.plain (by kernel_rfl) (by rfl)) (Gives.perm (PK _) permF) (by rfl) ?_
    | refine TL.throws (Enters.plain (by kernel_rfl) (by rfl)) (Throws.perm (WD _) permF) (by rfl) ?_
    | refine stS ?_ | (refine stB ?_; intro _) | (refine stC ?_; refine And.intro (fun _ => ?_) (fun _ => ?_)))
        refine TQ.end_panic (L' := L) rfl (.refl _) ?_ selF
        exact ⟨rfl, rfl⟩
    rw [if_neg h102]
    by_cases h34 : c = 34
    · subst h34
      have K1 : decide (((34 : UInt8).toNat : Int) = 110) = false := by decide
      have K2 : decide (((34 : UInt8).toNat : Int) = 116) = false := by decide
      have K3 : decide (((34 : UInt8).toNat : Int) = 102) = false := by decide
      have K4 : decide (((34 : UInt8).toNat : Int) = 34) = true := by decide
      rw [if_pos rfl]
      have TX := fun L => jtext_does b s (blAt s i + 1) hc2 hs g L hU
      rw [hc1] at TX
      unfold TextR at TX
      clear hbl hc0 hc1
      cases ht : textL t with
      | none =>
        rw [ht] at TX
        dsimp only at TX
        repeat' (first
    | refine wkQ ?_
    | ((with_reducible apply TL.pure (d := 10) (v := .bool false)); (· exact Y.eql_b K1 rfl rfl); (· rfl)) | ((with_reducible apply TW.pure (d := 10) (v := .bool false)); (· exact Y.eql_b K1 rfl rfl); (· rfl))
    | ((with_reducible apply TL.pure (d := 14) (v := .bool false)); (· exact Y.eql_b K2 rfl rfl); (· rfl)) | ((with_reducible apply TW.pure (d := 14) (v := .bool false)); (· exact Y.eql_b K2 rfl rfl); (· rfl))
    | ((with_reducible apply TL.pure (d := 19) (v := .bool false)); (· exact Y.eql_b K3 rfl rfl); (· rfl)) | ((with_reducible apply TW.pure (d := 19) (v := .bool false)); (· exact Y.eql_b K3 rfl rfl); (· rfl))
    | ((with_reducible apply TL.pure (d := 24) (v := .bool true)); (· exact Y.eql_b K4 rfl rfl); (· rfl)) | ((with_reducible apply TW.pure (d := 24) (v := .bool true)); (· exact Y.eql_b K4 rfl rfl); (· rfl))
    | ((with_reducible apply TL.pure (d := 29) (v := .int .i64 ((blAt s i + 1 : Nat) : Int))); (· exact Y.add rfl rfl (by rw [IntWalk.i64_in _ (by omega)]; omega)); (· rfl)) | ((with_reducible apply TW.pure (d := 29) (v := .int .i64 ((blAt s i + 1 : Nat) : Int))); (· exact Y.add rfl rfl (by rw [IntWalk.i64_in _ (by omega)]; omega)); (· rfl))
    | refine wkV ?_
    | apply TL.turns (Enters.plain (by kernel_rfl) (by rfl)) (BL _) permF (by rfl)
    | refine TL.gives (Enters.plain (by kernel_rfl) (by rfl)) (Gives.perm (PK _) permF) (by rfl) ?_
    | (refine TL.call (Enters.plain (by kernel_rfl) (by rfl)) (by rfl) (Does.perm (TX _) permF) ?_; (rintro e gu Lu _ ⟨k1, k2, k3⟩; have k2 := k2.symm; subst k1; subst k2; subst k3; refine CallK.panic ?_))
    | refine stS ?_ | (refine stB ?_; intro _) | (refine stC ?_; refine And.intro (fun _ => ?_) (fun _ => ?_)))
        refine TQ.end_panic (L' := Lu) rfl (.refl _) ?_ selF
        exact ⟨rfl, rfl⟩
      | some p =>
        obtain ⟨x, r⟩ := p
        rw [ht] at TX
        dsimp only at TX
        repeat' (first
    | refine wkQ ?_
    | ((with_reducible apply TL.pure (d := 10) (v := .bool false)); (· exact Y.eql_b K1 rfl rfl); (· rfl)) | ((with_reducible apply TW.pure (d := 10) (v := .bool false)); (· exact Y.eql_b K1 rfl rfl); (· rfl))
    | ((with_reducible apply TL.pure (d := 14) (v := .bool false)); (· exact Y.eql_b K2 rfl rfl); (· rfl)) | ((with_reducible apply TW.pure (d := 14) (v := .bool false)); (· exact Y.eql_b K2 rfl rfl); (· rfl))
    | ((with_reducible apply TL.pure (d := 19) (v := .bool false)); (· exact Y.eql_b K3 rfl rfl); (· rfl)) | ((with_reducible apply TW.pure (d := 19) (v := .bool false)); (· exact Y.eql_b K3 rfl rfl); (· rfl))
    | ((with_reducible apply TL.pure (d := 24) (v := .bool true)); (· exact Y.eql_b K4 rfl rfl); (· rfl)) | ((with_reducible apply TW.pure (d := 24) (v := .bool true)); (· exact Y.eql_b K4 rfl rfl); (· rfl))
    | ((with_reducible apply TL.pure (d := 29) (v := .int .i64 ((blAt s i + 1 : Nat) : Int))); (· exact Y.add rfl rfl (by rw [IntWalk.i64_in _ (by omega)]; omega)); (· rfl)) | ((with_reducible apply TW.pure (d := 29) (v := .int .i64 ((blAt s i + 1 : Nat) : Int))); (· exact Y.add rfl rfl (by rw [IntWalk.i64_in _ (by omega)]; omega)); (· rfl))
    | refine wkV ?_
    | apply TL.turns (Enters.plain (by kernel_rfl) (by rfl)) (BL _) permF (by rfl)
    | refine TL.gives (Enters.plain (by kernel_rfl) (by rfl)) (Gives.perm (PK _) permF) (by rfl) ?_
    | (refine TL.call (Enters.plain (by kernel_rfl) (by rfl)) (by rfl) (Does.perm (TX _) permF) ?_; (rintro e gu Lu _ ⟨it, k1, k2, k3, hit, hrt, hxt⟩; have k2 := k2.symm; subst k1; subst k2; subst k3; skip; refine CallK.ret ?_))
    | refine stS ?_ | (refine stB ?_; intro _) | (refine stC ?_; refine And.intro (fun _ => ?_) (fun _ => ?_)))
        refine TQ.endR1 (L' := (RdJ b s it :: L)) Tryz.results27 rvA rfl (.refl _) ?_ selF
        exact ⟨_, _, rfl, rfl, hit, hrt, by rw [IsJ]⟩
    rw [if_neg h34, if_neg h91, if_neg h123]
    have K1 : decide (((c.toNat : Nat) : Int) = 110) = false := by rw [u8_dec c 110 110 rfl]; exact decide_eq_false h110
    have K2 : decide (((c.toNat : Nat) : Int) = 116) = false := by rw [u8_dec c 116 116 rfl]; exact decide_eq_false h116
    have K3 : decide (((c.toNat : Nat) : Int) = 102) = false := by rw [u8_dec c 102 102 rfl]; exact decide_eq_false h102
    have K4 : decide (((c.toNat : Nat) : Int) = 34) = false := by rw [u8_dec c 34 34 rfl]; exact decide_eq_false h34
    have K5 : decide (((c.toNat : Nat) : Int) = 91) = false := by rw [u8_dec c 91 91 rfl]; exact decide_eq_false h91
    have K6 : decide (((c.toNat : Nat) : Int) = 123) = false := by rw [u8_dec c 123 123 rfl]; exact decide_eq_false h123
    have NU := fun L => jnumber_does b s (blAt s i) hbd.2 hs g L
    rw [hbl] at NU
    unfold RdR at NU
    clear hbl hc0 hc1
    cases hw : numW (c :: t) with
    | error e =>
      rw [hw] at NU
      dsimp only at NU
      repeat' (first
    | refine wkQ ?_
    | ((with_reducible apply TL.pure (d := 10) (v := .bool false)); (· exact Y.eql_b K1 rfl rfl); (· rfl)) | ((with_reducible apply TW.pure (d := 10) (v := .bool false)); (· exact Y.eql_b K1 rfl rfl); (· rfl))
    | ((with_reducible apply TL.pure (d := 14) (v := .bool false)); (· exact Y.eql_b K2 rfl rfl); (· rfl)) | ((with_reducible apply TW.pure (d := 14) (v := .bool false)); (· exact Y.eql_b K2 rfl rfl); (· rfl))
    | ((with_reducible apply TL.pure (d := 19) (v := .bool false)); (· exact Y.eql_b K3 rfl rfl); (· rfl)) | ((with_reducible apply TW.pure (d := 19) (v := .bool false)); (· exact Y.eql_b K3 rfl rfl); (· rfl))
    | ((with_reducible apply TL.pure (d := 24) (v := .bool false)); (· exact Y.eql_b K4 rfl rfl); (· rfl)) | ((with_reducible apply TW.pure (d := 24) (v := .bool false)); (· exact Y.eql_b K4 rfl rfl); (· rfl))
    | ((with_reducible apply TL.pure (d := 36) (v := .bool false)); (· exact Y.eql_b K5 rfl rfl); (· rfl)) | ((with_reducible apply TW.pure (d := 36) (v := .bool false)); (· exact Y.eql_b K5 rfl rfl); (· rfl))
    | ((with_reducible apply TL.pure (d := 52) (v := .bool false)); (· exact Y.eql_b K6 rfl rfl); (· rfl)) | ((with_reducible apply TW.pure (d := 52) (v := .bool false)); (· exact Y.eql_b K6 rfl rfl); (· rfl))
    | refine wkV ?_
    | apply TL.turns (Enters.plain (by kernel_rfl) (by rfl)) (BL _) permF (by rfl)
    | refine TL.gives (Enters.plain (by kernel_rfl) (by rfl)) (Gives.perm (PK _) permF) (by rfl) ?_
    | (refine TL.call (Enters.plain (by kernel_rfl) (by rfl)) (by rfl) (Does.perm (NU _) permF) ?_; (rintro e g1 Ln hg1 ⟨k1, k3⟩; subst k1; subst k3; refine CallK.panic ?_))
    | refine stS ?_ | (refine stB ?_; intro _) | (refine stC ?_; refine And.intro (fun _ => ?_) (fun _ => ?_)))
      refine TQ.end_panic (L' := Ln) rfl (hg1) ?_ selF
      exact ⟨rfl, rfl⟩
    | ok p =>
      obtain ⟨x, r⟩ := p
      rw [hw] at NU
      dsimp only at NU
      repeat' (first
    | refine wkQ ?_
    | ((with_reducible apply TL.pure (d := 10) (v := .bool false)); (· exact Y.eql_b K1 rfl rfl); (· rfl)) | ((with_reducible apply TW.pure (d := 10) (v := .bool false)); (· exact Y.eql_b K1 rfl rfl); (· rfl))
    | ((with_reducible apply TL.pure (d := 14) (v := .bool false)); (· exact Y.eql_b K2 rfl rfl); (· rfl)) | ((with_reducible apply TW.pure (d := 14) (v := .bool false)); (· exact Y.eql_b K2 rfl rfl); (· rfl))
    | ((with_reducible apply TL.pure (d := 19) (v := .bool false)); (· exact Y.eql_b K3 rfl rfl); (· rfl)) | ((with_reducible apply TW.pure (d := 19) (v := .bool false)); (· exact Y.eql_b K3 rfl rfl); (· rfl))
    | ((with_reducible apply TL.pure (d := 24) (v := .bool false)); (· exact Y.eql_b K4 rfl rfl); (· rfl)) | ((with_reducible apply TW.pure (d := 24) (v := .bool false)); (· exact Y.eql_b K4 rfl rfl); (· rfl))
    | ((with_reducible apply TL.pure (d := 36) (v := .bool false)); (· exact Y.eql_b K5 rfl rfl); (· rfl)) | ((with_reducible apply TW.pure (d := 36) (v := .bool false)); (· exact Y.eql_b K5 rfl rfl); (· rfl))
    | ((with_reducible apply TL.pure (d := 52) (v := .bool false)); (· exact Y.eql_b K6 rfl rfl); (· rfl)) | ((with_reducible apply TW.pure (d := 52) (v := .bool false)); (· exact Y.eql_b K6 rfl rfl); (· rfl))
    | refine wkV ?_
    | apply TL.turns (Enters.plain (by kernel_rfl) (by rfl)) (BL _) permF (by rfl)
    | refine TL.gives (Enters.plain (by kernel_rfl) (by rfl)) (Gives.perm (PK _) permF) (by rfl) ?_
    | (refine TL.call (Enters.plain (by kernel_rfl) (by rfl)) (by rfl) (Does.perm (NU _) permF) ?_; (rintro e g1 Ln hg1 ⟨vv, iv, k1, k3, hiv, hrv, hjv⟩; subst k1; subst k3; have hov := hjv.one; skip; refine CallK.ret ?_))
    | refine stS ?_ | (refine stB ?_; intro _) | (refine stC ?_; refine And.intro (fun _ => ?_) (fun _ => ?_)))
      refine TQ.endR1 (L' := (RdJ b s iv :: L)) Tryz.results27 rvA rfl (hg1) ?_ selF
      exact ⟨_, _, rfl, rfl, hiv, hrv, hjv⟩
end Go.Proofs.YtfmadoeadmclbaaGreatDoor
