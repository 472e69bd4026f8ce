/-
  The walk of the JSON reader's value: whole.
-/
import Derived.Test.YtfmadoeadmclbaaGreatDoorHr2
import Derived.Test.YtfmadoeadmclbaaGreatDoorHr32
namespace Go.Proofs.YtfmadoeadmclbaaGreatDoor
open Go.RowKit Go.TL
set_option maxRecDepth 100000

set_option maxHeartbeats 16000000 in
theorem jvalue_lst0 (l o : List UInt8 → Except Nat (J × List UInt8)) (b : Nat) (s : List UInt8) (i : Nat) (t : List UInt8) (hi : i ≤ s.length) (hs : s.length ≤ 1000000) (hb0 : blL (s.drop i) = 91 :: t) (h0 : l t = .error 10) (g : Gh) (L : List Ent) : Does Tryz.prog 27 #[.pointer (some ⟨b, 0, none⟩), .int .i64 ((32 : Nat) : Int)] g (RdJ b s i :: L) (RdR (valW l o (s.drop i)) b s L) := by
  refine Does.of2 Tryz.func27 rfl Tryz.ntmps27 rfl ?_
  have BL := fun L => jblanks_turns b s i g L hi hs
  have hbd := blAt_bd s i hi
  have hbl := blAt_drop s i
  have PK := fun L => jpeek_gives b s (blAt s i) g L (by omega) hs
  unfold valW
  rw [hb0] at hbl ⊢
  obtain ⟨hc0, hc1, hc2⟩ := at_of_drop hbl
  have hg : s.getD (blAt s i) 0 = 91 := by rw [List.getD_eq_getElem?_getD, hc0]; rfl
  rw [hg] at PK
  clear hg hb0
  dsimp only
  rw [if_neg (by decide), if_neg (by decide), if_neg (by decide), if_neg (by decide), if_pos rfl]
  have K1 : decide (((91 : UInt8).toNat : Int) = 110) = false := by decide
  have K2 : decide (((91 : UInt8).toNat : Int) = 116) = false := by decide
  have K3 : decide (((91 : UInt8).toNat : Int) = 102) = false := by decide
  have K4 : decide (((91 : UInt8).toNat : Int) = 34) = false := by decide
  have K5 : decide (((91 : UInt8).toNat : Int) = 91) = true := by decide
  rw [h0]
  have NO := fun L => need_no (b := false) rfl 10 g L
  clear hbl hc0 hc1 hc2
  repeat' (first
    | refine wkQ ?_
    | ((with_reducible apply TL.pure (d := 10) (v := .bool false)); (· exact Y.eql_b K1 rfl rfl); (· rfl)) | ((with_reducible apply TW.pure (d := 10) (v := .bool false)); (· exact Y.eql_b K1 rfl rfl); (· rfl))
    | ((with_reducible apply TL.pure (d := 14) (v := .bool false)); (· exact Y.eql_b K2 rfl rfl); (· rfl)) | ((with_reducible apply TW.pure (d := 14) (v := .bool false)); (· exact Y.eql_b K2 rfl rfl); (· rfl))
    | ((with_reducible apply TL.pure (d := 19) (v := .bool false)); (· exact Y.eql_b K3 rfl rfl); (· rfl)) | ((with_reducible apply TW.pure (d := 19) (v := .bool false)); (· exact Y.eql_b K3 rfl rfl); (· rfl))
    | ((with_reducible apply TL.pure (d := 24) (v := .bool false)); (· exact Y.eql_b K4 rfl rfl); (· rfl)) | ((with_reducible apply TW.pure (d := 24) (v := .bool false)); (· exact Y.eql_b K4 rfl rfl); (· rfl))
    | ((with_reducible apply TL.pure (d := 36) (v := .bool true)); (· exact Y.eql_b K5 rfl rfl); (· rfl)) | ((with_reducible apply TW.pure (d := 36) (v := .bool true)); (· exact Y.eql_b K5 rfl rfl); (· rfl))
    | ((with_reducible apply TL.pure (d := 38) (v := .bool false)); (· exact Y.lss_b (show decide (((32 : Nat) : Int) < 32) = false by decide) rfl rfl); (· rfl)) | ((with_reducible apply TW.pure (d := 38) (v := .bool false)); (· exact Y.lss_b (show decide (((32 : Nat) : Int) < 32) = false by decide) rfl rfl); (· rfl))
    | refine wkV ?_
    | apply TL.turns (Enters.plain (by kernel_rfl) (by rfl)) (BL _) permF (by rfl)
    | refine TL.gives (Enters.plain (by kernel_rfl) (by rfl)) (Gives.perm (PK _) permF) (by rfl) ?_
    | refine TL.throws (Enters.plain (by kernel_rfl) (by rfl)) (Throws.perm (NO _) permF) (by rfl) ?_
    | refine stS ?_ | (refine stB ?_; intro _) | (refine stC ?_; refine And.intro (fun _ => ?_) (fun _ => ?_)))
  refine TQ.end_panic (L' := L) rfl (.refl _) ?_ selF
  exact ⟨rfl, rfl⟩
set_option maxHeartbeats 16000000 in
theorem jvalue_lst1 (d : Nat) (hd : d < 32) (l o : List UInt8 → Except Nat (J × List UInt8)) (b : Nat) (s : List UInt8) (i : Nat) (t : List UInt8) (hi : i ≤ s.length) (hs : s.length ≤ 1000000) (hb0 : blL (s.drop i) = 91 :: t) (g : Gh) (L : List Ent)
    (LS : ∀ L, blAt s i + 1 ≤ s.length → s.drop (blAt s i + 1) = t → Does Tryz.prog 45 #[.pointer (some ⟨b, 0, none⟩), .int .i64 ((32 - d : Nat) : Int)] g (RdJ b s (blAt s i + 1) :: L) (RdR (l t) b s L)) :
    Does Tryz.prog 27 #[.pointer (some ⟨b, 0, none⟩), .int .i64 ((32 - (d + 1) : Nat) : Int)] g (RdJ b s i :: L) (RdR (valW l o (s.drop i)) b s L) := by
  refine Does.of2 Tryz.func27 rfl Tryz.ntmps27 rfl ?_
  have BL := fun L => jblanks_turns b s i g L hi hs
  have hbd := blAt_bd s i hi
  have hbl := blAt_drop s i
  have PK := fun L => jpeek_gives b s (blAt s i) g L (by omega) hs
  unfold valW
  rw [hb0] at hbl ⊢
  obtain ⟨hc0, hc1, hc2⟩ := at_of_drop hbl
  have hg : s.getD (blAt s i) 0 = 91 := by rw [List.getD_eq_getElem?_getD, hc0]; rfl
  rw [hg] at PK
  clear hg hb0
  dsimp only
  rw [if_neg (by decide), if_neg (by decide), if_neg (by decide), if_neg (by decide), if_pos rfl]
  have K1 : decide (((91 : UInt8).toNat : Int) = 110) = false := by decide
  have K2 : decide (((91 : UInt8).toNat : Int) = 116) = false := by decide
  have K3 : decide (((91 : UInt8).toNat : Int) = 102) = false := by decide
  have K4 : decide (((91 : UInt8).toNat : Int) = 34) = false := by decide
  have K5 : decide (((91 : UInt8).toNat : Int) = 91) = true := by decide
  have YE := fun L => need_yes (b := true) rfl 10 g L
  have LS := fun L => LS L hc2 hc1
  have HD := Hn.mk (show decide (((32 - (d + 1) : Nat) : Int) < 32) = true by rw [decide_eq_true_iff]; omega)
  unfold RdR at LS
  clear hbl hc0 hc1
  cases hw : l t with
  | error e =>
    rw [hw] at LS
    dsimp only at LS
    repeat' (first
    | refine wkQ ?_
    | ((with_reducible apply TL.pure (d := 10) (v := .bool false)); (· exact Y.eql_b K1 rfl rfl); (· rfl)) | ((with_reducible apply TW.pure (d := 10) (v := .bool false)); (· exact Y.eql_b K1 rfl rfl); (· rfl))
    | ((with_reducible apply TL.pure (d := 14) (v := .bool false)); (· exact Y.eql_b K2 rfl rfl); (· rfl)) | ((with_reducible apply TW.pure (d := 14) (v := .bool false)); (· exact Y.eql_b K2 rfl rfl); (· rfl))
    | ((with_reducible apply TL.pure (d := 19) (v := .bool false)); (· exact Y.eql_b K3 rfl rfl); (· rfl)) | ((with_reducible apply TW.pure (d := 19) (v := .bool false)); (· exact Y.eql_b K3 rfl rfl); (· rfl))
    | ((with_reducible apply TL.pure (d := 24) (v := .bool false)); (· exact Y.eql_b K4 rfl rfl); (· rfl)) | ((with_reducible apply TW.pure (d := 24) (v := .bool false)); (· exact Y.eql_b K4 rfl rfl); (· rfl))
    | ((with_reducible apply TL.pure (d := 36) (v := .bool true)); (· exact Y.eql_b K5 rfl rfl); (· rfl)) | ((with_reducible apply TW.pure (d := 36) (v := .bool true)); (· exact Y.eql_b K5 rfl rfl); (· rfl))
    | ((with_reducible apply TL.pure (d := 38) (v := .bool true)); (· exact Y.lss_b HD.out rfl rfl); (· rfl)) | ((with_reducible apply TW.pure (d := 38) (v := .bool true)); (· exact Y.lss_b HD.out rfl rfl); (· rfl))
    | ((with_reducible apply TL.pure (d := 44) (v := .int .i64 ((blAt s i + 1 : Nat) : Int))); (· exact Y.add rfl rfl (by rw [IntWalk.i64_in _ (by omega)]; omega)); (· rfl)) | ((with_reducible apply TW.pure (d := 44) (v := .int .i64 ((blAt s i + 1 : Nat) : Int))); (· exact Y.add rfl rfl (by rw [IntWalk.i64_in _ (by omega)]; omega)); (· rfl))
    | ((with_reducible apply TL.pure (d := 49) (v := .int .i64 ((32 - d : Nat) : Int))); (· exact Y.add rfl rfl (by rw [IntWalk.i64_in _ (by omega)]; omega)); (· rfl)) | ((with_reducible apply TW.pure (d := 49) (v := .int .i64 ((32 - d : Nat) : Int))); (· exact Y.add rfl rfl (by rw [IntWalk.i64_in _ (by omega)]; omega)); (· rfl))
    | refine wkV ?_
    | apply TL.turns (Enters.plain (by kernel_rfl) (by rfl)) (BL _) permF (by rfl)
    | refine TL.gives (Enters.plain (by kernel_rfl) (by rfl)) (Gives.perm (PK _) permF) (by rfl) ?_
    | refine TL.gives (Enters.plain (by kernel_rfl) (by rfl)) (Gives.perm (YE _) permF) (by rfl) ?_
    | (refine TL.call (Enters.plain (by kernel_rfl) (by rfl)) (by rfl) (Does.perm (LS _) permF) ?_; (rintro e g1 Ln hg1 ⟨k1, k3⟩; subst k1; subst k3; refine CallK.panic ?_))
    | refine stS ?_ | (refine stB ?_; intro _) | (refine stC ?_; refine And.intro (fun _ => ?_) (fun _ => ?_)))
    refine TQ.end_panic (L' := Ln) rfl (hg1) ?_ selF
    exact ⟨rfl, rfl⟩
  | ok p =>
    obtain ⟨x, r⟩ := p
    rw [hw] at LS
    dsimp only at LS
    repeat' (first
    | refine wkQ ?_
    | ((with_reducible apply TL.pure (d := 10) (v := .bool false)); (· exact Y.eql_b K1 rfl rfl); (· rfl)) | ((with_reducible apply TW.pure (d := 10) (v := .bool false)); (· exact Y.eql_b K1 rfl rfl); (· rfl))
    | ((with_reducible apply TL.pure (d := 14) (v := .bool false)); (· exact Y.eql_b K2 rfl rfl); (· rfl)) | ((with_reducible apply TW.pure (d := 14) (v := .bool false)); (· exact Y.eql_b K2 rfl rfl); (· rfl))
    | ((with_reducible apply TL.pure (d := 19) (v := .bool false)); (· exact Y.eql_b K3 rfl rfl); (· rfl)) | ((with_reducible apply TW.pure (d := 19) (v := .bool false)); (· exact Y.eql_b K3 rfl rfl); (· rfl))
    | ((with_reducible apply TL.pure (d := 24) (v := .bool false)); (· exact Y.eql_b K4 rfl rfl); (· rfl)) | ((with_reducible apply TW.pure (d := 24) (v := .bool false)); (· exact Y.eql_b K4 rfl rfl); (· rfl))
    | ((with_reducible apply TL.pure (d := 36) (v := .bool true)); (· exact Y.eql_b K5 rfl rfl); (· rfl)) | ((with_reducible apply TW.pure (d := 36) (v := .bool true)); (· exact Y.eql_b K5 rfl rfl); (· rfl))
    | ((with_reducible apply TL.pure (d := 38) (v := .bool true)); (· exact Y.lss_b HD.out rfl rfl); (· rfl)) | ((with_reducible apply TW.pure (d := 38) (v := .bool true)); (· exact Y.lss_b HD.out rfl rfl); (· rfl))
    | ((with_reducible apply TL.pure (d := 44) (v := .int .i64 ((blAt s i + 1 : Nat) : Int))); (· exact Y.add rfl rfl (by rw [IntWalk.i64_in _ (by omega)]; omega)); (· rfl)) | ((with_reducible apply TW.pure (d := 44) (v := .int .i64 ((blAt s i + 1 : Nat) : Int))); (· exact Y.add rfl rfl (by rw [IntWalk.i64_in _ (by omega)]; omega)); (· rfl))
    | ((with_reducible apply TL.pure (d := 49) (v := .int .i64 ((32 - d : Nat) : Int))); (· exact Y.add rfl rfl (by rw [IntWalk.i64_in _ (by omega)]; omega)); (· rfl)) | ((with_reducible apply TW.pure (d := 49) (v := .int .i64 ((32 - d : Nat) : Int))); (· exact Y.add rfl rfl (by rw [IntWalk.i64_in _ (by omega)]; omega)); (· rfl))
    | refine wkV ?_
    | apply TL.turns (Enters.plain (by kernel_rfl) (by rfl)) (BL _) permF (by rfl)
    | refine TL.gives (Enters.plain (by kernel_rfl) (by rfl)) (Gives.perm (PK _) permF) (by rfl) ?_
    | refine TL.gives (Enters.plain (by kernel_rfl) (by rfl)) (Gives.perm (YE _) permF) (by rfl) ?_
    | (refine TL.call (Enters.plain (by kernel_rfl) (by rfl)) (by rfl) (Does.perm (LS _) permF) ?_; (rintro e g1 Ln hg1 ⟨vv, iv, k1, k3, hiv, hrv, hjv⟩; subst k1; subst k3; have hov := hjv.one; skip; refine CallK.ret ?_))
    | refine stS ?_ | (refine stB ?_; intro _) | (refine stC ?_; refine And.intro (fun _ => ?_) (fun _ => ?_)))
    refine TQ.endR1 (L' := (RdJ b s iv :: L)) Tryz.results27 rvA rfl (hg1) ?_ selF
    exact ⟨_, _, rfl, rfl, hiv, hrv, hjv⟩
set_option maxHeartbeats 16000000 in
theorem jvalue_obj0 (l o : List UInt8 → Except Nat (J × List UInt8)) (b : Nat) (s : List UInt8) (i : Nat) (t : List UInt8) (hi : i ≤ s.length) (hs : s.length ≤ 1000000) (hb0 : blL (s.drop i) = 123 :: t) (h0 : o t = .error 10) (g : Gh) (L : List Ent) : Does Tryz.prog 27 #[.pointer (some ⟨b, 0, none⟩), .int .i64 ((32 : Nat) : Int)] g (RdJ b s i :: L) (RdR (valW l o (s.drop i)) b s L) := by
  refine Does.of2 Tryz.func27 rfl Tryz.ntmps27 rfl ?_
  have BL := fun L => jblanks_turns b s i g L hi hs
  have hbd := blAt_bd s i hi
  have hbl := blAt_drop s i
  have PK := fun L => jpeek_gives b s (blAt s i) g L (by omega) hs
  unfold valW
  rw [hb0] at hbl ⊢
  obtain ⟨hc0, hc1, hc2⟩ := at_of_drop hbl
  have hg : s.getD (blAt s i) 0 = 123 := by rw [List.getD_eq_getElem?_getD, hc0]; rfl
  rw [hg] at PK
  clear hg hb0
  dsimp only
  rw [if_neg (by decide), if_neg (by decide), if_neg (by decide), if_neg (by decide), if_neg (by decide), if_pos rfl]
  have K1 : decide (((123 : UInt8).toNat : Int) = 110) = false := by decide
  have K2 : decide (((123 : UInt8).toNat : Int) = 116) = false := by decide
  have K3 : decide (((123 : UInt8).toNat : Int) = 102) = false := by decide
  have K4 : decide (((123 : UInt8).toNat : Int) = 34) = false := by decide
  have K5 : decide (((123 : UInt8).toNat : Int) = 91) = false := by decide
  have K6 : decide (((123 : UInt8).toNat : Int) = 123) = true := by decide
  rw [h0]
  have NO := fun L => need_no (b := false) rfl 10 g L
  clear hbl hc0 hc1 hc2
  repeat' (first
    | refine wkQ ?_
    | ((with_reducible apply TL.pure (d := 10) (v := .bool false)); (· exact Y.eql_b K1 rfl rfl); (· rfl)) | ((with_reducible apply TW.pure (d := 10) (v := .bool false)); (· exact Y.eql_b K1 rfl rfl); (· rfl))
    | ((with_reducible apply TL.pure (d := 14) (v := .bool false)); (· exact Y.eql_b K2 rfl rfl); (· rfl)) | ((with_reducible apply TW.pure (d := 14) (v := .bool false)); (· exact Y.eql_b K2 rfl rfl); (· rfl))
    | ((with_reducible apply TL.pure (d := 19) (v := .bool false)); (· exact Y.eql_b K3 rfl rfl); (· rfl)) | ((with_reducible apply TW.pure (d := 19) (v := .bool false)); (· exact Y.eql_b K3 rfl rfl); (· rfl))
    | ((with_reducible apply TL.pure (d := 24) (v := .bool false)); (· exact Y.eql_b K4 rfl rfl); (· rfl)) | ((with_reducible apply TW.pure (d := 24) (v := .bool false)); (· exact Y.eql_b K4 rfl rfl); (· rfl))
    | ((with_reducible apply TL.pure (d := 36) (v := .bool false)); (· exact Y.eql_b K5 rfl rfl); (· rfl)) | ((with_reducible apply TW.pure (d := 36) (v := .bool false)); (· exact Y.eql_b K5 rfl rfl); (· rfl))
    | ((with_reducible apply TL.pure (d := 52) (v := .bool true)); (· exact Y.eql_b K6 rfl rfl); (· rfl)) | ((with_reducible apply TW.pure (d := 52) (v := .bool true)); (· exact Y.eql_b K6 rfl rfl); (· rfl))
    | ((with_reducible apply TL.pure (d := 54) (v := .bool false)); (· exact Y.lss_b (show decide (((32 : Nat) : Int) < 32) = false by decide) rfl rfl); (· rfl)) | ((with_reducible apply TW.pure (d := 54) (v := .bool false)); (· exact Y.lss_b (show decide (((32 : Nat) : Int) < 32) = false by decide) rfl rfl); (· rfl))
    | refine wkV ?_
    | apply TL.turns (Enters.plain (by kernel_rfl) (by rfl)) (BL _) permF (by rfl)
    | refine TL.gives (Enters.plain (by kernel_rfl) (by rfl)) (Gives.perm (PK _) permF) (by rfl) ?_
    | refine TL.throws (Enters.plain (by kernel_rfl) (by rfl)) (Throws.perm (NO _) permF) (by rfl) ?_
    | refine stS ?_ | (refine stB ?_; intro _) | (refine stC ?_; refine And.intro (fun _ => ?_) (fun _ => ?_)))
  refine TQ.end_panic (L' := L) rfl (.refl _) ?_ selF
  exact ⟨rfl, rfl⟩
set_option maxHeartbeats 16000000 in
theorem jvalue_obj1 (d : Nat) (hd : d < 32) (l o : List UInt8 → Except Nat (J × List UInt8)) (b : Nat) (s : List UInt8) (i : Nat) (t : List UInt8) (hi : i ≤ s.length) (hs : s.length ≤ 1000000) (hb0 : blL (s.drop i) = 123 :: t) (g : Gh) (L : List Ent)
    (LS : ∀ L, blAt s i + 1 ≤ s.length → s.drop (blAt s i + 1) = t → Does Tryz.prog 46 #[.pointer (some ⟨b, 0, none⟩), .int .i64 ((32 - d : Nat) : Int)] g (RdJ b s (blAt s i + 1) :: L) (RdR (o t) b s L)) :
    Does Tryz.prog 27 #[.pointer (some ⟨b, 0, none⟩), .int .i64 ((32 - (d + 1) : Nat) : Int)] g (RdJ b s i :: L) (RdR (valW l o (s.drop i)) b s L) := by
  refine Does.of2 Tryz.func27 rfl Tryz.ntmps27 rfl ?_
  have BL := fun L => jblanks_turns b s i g L hi hs
  have hbd := blAt_bd s i hi
  have hbl := blAt_drop s i
  have PK := fun L => jpeek_gives b s (blAt s i) g L (by omega) hs
  unfold valW
  rw [hb0] at hbl ⊢
  obtain ⟨hc0, hc1, hc2⟩ := at_of_drop hbl
  have hg : s.getD (blAt s i) 0 = 123 := by rw [List.getD_eq_getElem?_getD, hc0]; rfl
  rw [hg] at PK
  clear hg hb0
  dsimp only
  rw [if_neg (by decide), if_neg (by decide), if_neg (by decide), if_neg (by decide), if_neg (by decide), if_pos rfl]
  have K1 : decide (((123 : UInt8).toNat : Int) = 110) = false := by decide
  have K2 : decide (((123 : UInt8).toNat : Int) = 116) = false := by decide
  have K3 : decide (((123 : UInt8).toNat : Int) = 102) = false := by decide
  have K4 : decide (((123 : UInt8).toNat : Int) = 34) = false := by decide
  have K5 : decide (((123 : UInt8).toNat : Int) = 91) = false := by decide
  have K6 : decide (((123 : UInt8).toNat : Int) = 123) = true := by decide
  have YE := fun L => need_yes (b := true) rfl 10 g L
  have LS := fun L => LS L hc2 hc1
  have HD := Hn.mk (show decide (((32 - (d + 1) : Nat) : Int) < 32) = true by rw [decide_eq_true_iff]; omega)
  unfold RdR at LS
  clear hbl hc0 hc1
  cases hw : o t with
  | error e =>
    rw [hw] at LS
    dsimp only at LS
    repeat' (first
    | refine wkQ ?_
    | ((with_reducible apply TL.pure (d := 10) (v := .bool false)); (· exact Y.eql_b K1 rfl rfl); (· rfl)) | ((with_reducible apply TW.pure (d := 10) (v := .bool false)); (· exact Y.eql_b K1 rfl rfl); (· rfl))
    | ((with_reducible apply TL.pure (d := 14) (v := .bool false)); (· exact Y.eql_b K2 rfl rfl); (· rfl)) | ((with_reducible apply TW.pure (d := 14) (v := .bool false)); (· exact Y.eql_b K2 rfl rfl); (· rfl))
    | ((with_reducible apply TL.pure (d := 19) (v := .bool false)); (· exact Y.eql_b K3 rfl rfl); (· rfl)) | ((with_reducible apply TW.pure (d := 19) (v := .bool false)); (· exact Y.eql_b K3 rfl rfl); (· rfl))
    | ((with_reducible apply TL.pure (d := 24) (v := .bool false)); (· exact Y.eql_b K4 rfl rfl); (· rfl)) | ((with_reducible apply TW.pure (d := 24) (v := .bool false)); (· exact Y.eql_b K4 rfl rfl); (· rfl))
    | ((with_reducible apply TL.pure (d := 36) (v := .bool false)); (· exact Y.eql_b K5 rfl rfl); (· rfl)) | ((with_reducible apply TW.pure (d := 36) (v := .bool false)); (· exact Y.eql_b K5 rfl rfl); (· rfl))
    | ((with_reducible apply TL.pure (d := 52) (v := .bool true)); (· exact Y.eql_b K6 rfl rfl); (· rfl)) | ((with_reducible apply TW.pure (d := 52) (v := .bool true)); (· exact Y.eql_b K6 rfl rfl); (· rfl))
    | ((with_reducible apply TL.pure (d := 54) (v := .bool true)); (· exact Y.lss_b HD.out rfl rfl); (· rfl)) | ((with_reducible apply TW.pure (d := 54) (v := .bool true)); (· exact Y.lss_b HD.out rfl rfl); (· rfl))
    | ((with_reducible apply TL.pure (d := 60) (v := .int .i64 ((blAt s i + 1 : Nat) : Int))); (· exact Y.add rfl rfl (by rw [IntWalk.i64_in _ (by omega)]; omega)); (· rfl)) | ((with_reducible apply TW.pure (d := 60) (v := .int .i64 ((blAt s i + 1 : Nat) : Int))); (· exact Y.add rfl rfl (by rw [IntWalk.i64_in _ (by omega)]; omega)); (· rfl))
    | ((with_reducible apply TL.pure (d := 65) (v := .int .i64 ((32 - d : Nat) : Int))); (· exact Y.add rfl rfl (by rw [IntWalk.i64_in _ (by omega)]; omega)); (· rfl)) | ((with_reducible apply TW.pure (d := 65) (v := .int .i64 ((32 - d : Nat) : Int))); (· exact Y.add rfl rfl (by rw [IntWalk.i64_in _ (by omega)]; omega)); (· rfl))
    | refine wkV ?_
    | apply TL.turns (Enters.plain (by kernel_rfl) (by rfl)) (BL _) permF (by rfl)
    | refine TL.gives (Enters.plain (by kernel_rfl) (by rfl)) (Gives.perm (PK _) permF) (by rfl) ?_
    | refine TL.gives (Enters.plain (by kernel_rfl) (by rfl)) (Gives.perm (YE _) permF) (by rfl) ?_
    | (refine TL.call (Enters.plain (by kernel_rfl) (by rfl)) (by rfl) (Does.perm (LS _) permF) ?_; (rintro e g1 Ln hg1 ⟨k1, k3⟩; subst k1; subst k3; refine CallK.panic ?_))
    | refine stS ?_ | (refine stB ?_; intro _) | (refine stC ?_; refine And.intro (fun _ => ?_) (fun _ => ?_)))
    refine TQ.end_panic (L' := Ln) rfl (hg1) ?_ selF
    exact ⟨rfl, rfl⟩
  | ok p =>
    obtain ⟨x, r⟩ := p
    rw [hw] at LS
    dsimp only at LS
    repeat' (first
    | refine wkQ ?_
    | ((with_reducible apply TL.pure (d := 10) (v := .bool false)); (· exact Y.eql_b K1 rfl rfl); (· rfl)) | ((with_reducible apply TW.pure (d := 10) (v := .bool false)); (· exact Y.eql_b K1 rfl rfl); (· rfl))
    | ((with_reducible apply TL.pure (d := 14) (v := .bool false)); (· exact Y.eql_b K2 rfl rfl); (· rfl)) | ((with_reducible apply TW.pure (d := 14) (v := .bool false)); (· exact Y.eql_b K2 rfl rfl); (· rfl))
    | ((with_reducible apply TL.pure (d := 19) (v := .bool false)); (· exact Y.eql_b K3 rfl rfl); (· rfl)) | ((with_reducible apply TW.pure (d := 19) (v := .bool false)); (· exact Y.eql_b K3 rfl rfl); (· rfl))
    | ((with_reducible apply TL.pure (d := 24) (v := .bool false)); (· exact Y.eql_b K4 rfl rfl); (· rfl)) | ((with_reducible apply TW.pure (d := 24) (v := .bool false)); (· exact Y.eql_b K4 rfl rfl); (· rfl))
    | ((with_reducible apply TL.pure (d := 36) (v := .bool false)); (· exact Y.eql_b K5 rfl rfl); (· rfl)) | ((with_reducible apply TW.pure (d := 36) (v := .bool false)); (· exact Y.eql_b K5 rfl rfl); (· rfl))
    | ((with_reducible apply TL.pure (d := 52) (v := .bool true)); (· exact Y.eql_b K6 rfl rfl); (· rfl)) | ((with_reducible apply TW.pure (d := 52) (v := .bool true)); (· exact Y.eql_b K6 rfl rfl); (· rfl))
    | ((with_reducible apply TL.pure (d := 54) (v := .bool true)); (· exact Y.lss_b HD.out rfl rfl); (· rfl)) | ((with_reducible apply TW.pure (d := 54) (v := .bool true)); (· exact Y.lss_b HD.out rfl rfl); (· rfl))
    | ((with_reducible apply TL.pure (d := 60) (v := .int .i64 ((blAt s i + 1 : Nat) : Int))); (· exact Y.add rfl rfl (by rw [IntWalk.i64_in _ (by omega)]; omega)); (· rfl)) | ((with_reducible apply TW.pure (d := 60) (v := .int .i64 ((blAt s i + 1 : Nat) : Int))); (· exact Y.add rfl rfl (by rw [IntWalk.i64_in _ (by omega)]; omega)); (· rfl))
    | ((with_reducible apply TL.pure (d := 65) (v := .int .i64 ((32 - d : Nat) : Int))); (· exact Y.add rfl rfl (by rw [IntWalk.i64_in _ (by omega)]; omega)); (· rfl)) | ((with_reducible apply TW.pure (d := 65) (v := .int .i64 ((32 - d : Nat) : Int))); (· exact Y.add rfl rfl (by rw [IntWalk.i64_in _ (by omega)]; omega)); (· rfl))
    | refine wkV ?_
    | apply TL.turns (Enters.plain (by kernel_rfl) (by rfl)) (BL _) permF (by rfl)
    | refine TL.gives (Enters.plain (by kernel_rfl) (by rfl)) (Gives.perm (PK _) permF) (by rfl) ?_
    | refine TL.gives (Enters.plain (by kernel_rfl) (by rfl)) (Gives.perm (YE _) permF) (by rfl) ?_
    | (refine TL.call (Enters.plain (by kernel_rfl) (by rfl)) (by rfl) (Does.perm (LS _) permF) ?_; (rintro e g1 Ln hg1 ⟨vv, iv, k1, k3, hiv, hrv, hjv⟩; subst k1; subst k3; have hov := hjv.one; skip; refine CallK.ret ?_))
    | refine stS ?_ | (refine stB ?_; intro _) | (refine stC ?_; refine And.intro (fun _ => ?_) (fun _ => ?_)))
    refine TQ.endR1 (L' := (RdJ b s iv :: L)) Tryz.results27 rvA rfl (hg1) ?_ selF
    exact ⟨_, _, rfl, rfl, hiv, hrv, hjv⟩
theorem jvalue_does (b : Nat) (s : List UInt8) (hs : s.length ≤ 1000000) : ∀ (d : Nat), d ≤ 32 → ValOk d b s
  | 0, _ => fun i g L hi hU => by
    rw [valT]
    by_cases h : ∃ t, blL (s.drop i) = 91 :: t
    · obtain ⟨t, h⟩ := h
      exact jvalue_lst0 _ _ b s i t hi hs h rfl g L
    by_cases h2 : ∃ t, blL (s.drop i) = 123 :: t
    · obtain ⟨t, h2⟩ := h2
      exact jvalue_obj0 _ _ b s i t hi hs h2 rfl g L
    exact jvalue_flat _ _ b s i _ hi hs (fun c t e => ⟨fun e1 => h ⟨t, by rw [e, e1]⟩, fun e1 => h2 ⟨t, by rw [e, e1]⟩⟩) g L hU
  | d + 1, hd => fun i g L hi hU => by
    have V := jvalue_does b s hs d (by omega)
    rw [valT]
    by_cases h : ∃ t, blL (s.drop i) = 91 :: t
    · obtain ⟨t, h⟩ := h
      exact jvalue_lst1 d (by omega) _ _ b s i t hi hs h g L (fun L h1 h2 => h2 ▸ jlist_does d b (by omega) s V _ h1 hs g L hU)
    by_cases h2 : ∃ t, blL (s.drop i) = 123 :: t
    · obtain ⟨t, h2⟩ := h2
      exact jvalue_obj1 d (by omega) _ _ b s i t hi hs h2 g L (fun L h1 h2 => h2 ▸ jobject_does d b (by omega) s V _ h1 hs g L hU)
    exact jvalue_flat _ _ b s i _ hi hs (fun c t e => ⟨fun e1 => h ⟨t, by rw [e, e1]⟩, fun e1 => h2 ⟨t, by rw [e, e1]⟩⟩) g L hU
end Go.Proofs.YtfmadoeadmclbaaGreatDoor
