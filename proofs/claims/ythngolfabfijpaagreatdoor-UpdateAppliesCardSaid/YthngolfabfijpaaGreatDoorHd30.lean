/-
  The walks of update's work: reckon, inc, mul, min, max. The walks of the document's Plus, digits, Times.
-/
import Derived.Test.YthngolfabfijpaaGreatDoorHd2
import Derived.Test.YthngolfabfijpaaGreatDoorHd28
import Derived.Test.YthngolfabfijpaaGreatDoorHd29
import Derived.Test.YthngolfabfijpaaGreatDoorHd0
import Derived.Test.YthngolfabfijpaaGreatDoorHd5
namespace Go.Proofs.YthngolfabfijpaaGreatDoor
open Go.RowKit Go.TL
set_option maxRecDepth 100000

def numAt : Option J → Option Int
  | none => some 0
  | some y => match y with
    | .num n => some n
    | _ => none
theorem reckon_at (f : Int → Int → Int × Int) (x : J) (p : List UInt8) (k : Int) : reckonU f x p (.num k) = match numAt (getP p x) with
    | none => (14, none)
    | some n => if (f n k).2 = 0 then putE x p (.num (f n k).1) else ((f n k).2.toNat, none) := by
  unfold reckonU
  dsimp only
  cases getP p x with
  | none => rfl
  | some y => cases y <;> rfl
theorem unumber_ret {m b : Nat} {p : List UInt8} {x : J} {v : Value} {g : Gh} {L : List Ent} {n : Int} (K : AtOk m p x v g) (h : numAt (getP p x) = some n) : Does Tryz.prog 134 #[.pointer (some ⟨b, 0, none⟩), str p] g (Wk b v :: L) fun e _ L1 => e = .returned (.int .i64 n) ∧ L1 = Wk b v :: L := by
  have D := unumber_does m b p x v g L K
  cases hg : getP p x with
  | none => rw [hg] at D h; obtain rfl := Option.some.inj h; exact D
  | some y =>
    rw [hg] at D h
    cases y with
    | num k => obtain rfl := Option.some.inj h; exact D
    | _ => cases h
theorem unumber_thr {m b : Nat} {p : List UInt8} {x : J} {v : Value} {g : Gh} {L : List Ent} (K : AtOk m p x v g) (h : numAt (getP p x) = none) : Does Tryz.prog 134 #[.pointer (some ⟨b, 0, none⟩), str p] g (Wk b v :: L) fun e _ L1 => e = .panicked [stopU 14] ∧ L1 = L := by
  have D := unumber_does m b p x v g L K
  cases hg : getP p x with
  | none => rw [hg] at h; cases h
  | some y =>
    rw [hg] at D h
    cases y with
    | num k => cases h
    | _ => exact D
theorem plusL_val (a b : Int) : -9000000000000000000 ≤ (plusL a b).1 ∧ (plusL a b).1 ≤ 9000000000000000000 := by
  unfold plusL
  split
  · split
    · exact ⟨by decide, by decide⟩
    · dsimp only; omega
  · exact ⟨by decide, by decide⟩
theorem timesL_val (a b : Int) : -9000000000000000000 ≤ (timesL a b).1 ∧ (timesL a b).1 ≤ 9000000000000000000 := by
  unfold timesL
  split
  · unfold timesV
    split
    · exact ⟨by decide, by decide⟩
    · split <;> (dsimp only; omega)
  · exact ⟨by decide, by decide⟩
theorem num_bounds {m : Nat} {p : List UInt8} {x : J} {v : Value} {g : Gh} (K : AtOk m p x v g) {n : Int} (h : numAt (getP p x) = some n) : -9000000000000000000 ≤ n ∧ n ≤ 9000000000000000000 := by
  cases hg : getP p x with
  | none => rw [hg] at h; obtain rfl := Option.some.inj h; exact ⟨by decide, by decide⟩
  | some y =>
    rw [hg] at h
    cases y with
    | num k =>
      obtain rfl := Option.some.inj h
      have h1 := (getP_inv K.iv hg).1
      rw [look_numU] at h1
      split at h1
      · rename_i hb; exact heldB_iff.1 hb
      · omega
    | _ => cases h
where look_numU {n : Int} {w : Nat} : lookJ (.num n) w = if heldB n = true then 0 else 2 := by rw [lookJ]
set_option maxHeartbeats 16000000 in
theorem ureckon_plus (m b : Nat) (p : List UInt8) (x : J) (v : Value) (k : Int) (g : Gh) (L : List Ent) (K : AtOk m p x v g) (k0 : -9223372036854775808 ≤ k) (k1 : k ≤ 9223372036854775807) : Does Tryz.prog 97 #[.pointer (some ⟨b, 0, none⟩), str p, .iface 50 (.int .i64 k), .func (.func 98) #[] #[]] g (Wk b v :: L) (WorkR b (reckonU plusL x p (.num k)) L) := by
  refine Does.of4 Tryz.func97 rfl Tryz.ntmps97 rfl ?_
  have ov := K.hx.one
  rw [reckon_at]
  cases hn : numAt (getP p x) with
  | none =>
    have D := fun L => unumber_thr (b := b) (L := L) K hn
    dsimp only
    unfold WorkR
    dsimp only
    clear K
    repeat' (first | (refine TL.call (Enters.plain (by kernel_rfl) (by rfl)) (by rfl) (Does.perm (D _) permU) ?_; (rintro e g1 Ln h1 ⟨k1, k2⟩; have k2 := k2.symm; subst k1; subst k2; skip; refine CallK.panic ?_)) | refine wkN0 ?_ | refine wkN1 ?_ | ((with_reducible apply TA.oneN 0); (· rfl); (· rfl); (· decide +kernel); (· rfl)) | refine TC.region_any 12 (_) (by kernel_rfl) rfl selF ?_ | refine TQ.any_panic ?_ | refine stS ?_ | fail)
    refine TQ.end_panic (L' := L) rfl (h1) ?_ selF
    exact ⟨rfl, rfl⟩
  | some n =>
    have D := fun L => unumber_ret (b := b) (L := L) K hn
    have hb := num_bounds K hn
    have PF := fun g L => nPlus_gives n k g L (by omega) (by omega) k0 k1
    have vb := plusL_val n k
    dsimp only
    obtain ⟨r, q, hr⟩ : ∃ r q, plusL n k = (r, q) := ⟨_, _, rfl⟩
    have qb := plusL_bd n k
    rw [hr] at PF vb qb ⊢
    dsimp only at PF vb qb ⊢
    by_cases h0 : q = 0
    · subst h0
      rw [if_pos rfl]
      have YE := fun g L => uneed_yes g L
      have PU := fun g1 (h : g.le g1) L => uput_does m b p x (.num r) v (.iface 50 (.int .i64 r)) g1 L ((K.le h).wk (by rw [IsJ]; exact ⟨rfl, by omega, by omega⟩) (by rw [szJ]; trivial))
      obtain ⟨e0, o0, ho⟩ : ∃ e0 o0, putE x p (.num r) = (e0, o0) := ⟨_, _, rfl⟩
      rw [ho] at PU ⊢
      unfold WorkR at PU ⊢
      clear K hn hb vb hr
      cases o0 with
      | none =>
        dsimp only at PU ⊢
        repeat' (first | refine wkQ ?_ | refine wkV ?_ | (refine TL.call (Enters.plain (by kernel_rfl) (by rfl)) (by rfl) (Does.perm (D _) permU) ?_; (rintro e g1 Ln h1 ⟨k1, k2⟩; subst k1; subst k2; skip; refine CallK.ret ?_)) | refine TL.gives (Enters.func (by rfl) (by kernel_rfl) (by rfl)) (PF g1 _) (by rfl) ?_ | ((with_reducible apply TL.gives_plain); (· kernel_rfl); (· rfl); (· exact YE g1 _); (· rfl)) | (refine TL.call (Enters.plain (by kernel_rfl) (by rfl)) (by rfl) (Does.perm (PU g1 h1 _) permU) ?_; (rintro e g2 Ln h2 ⟨k1, k2⟩; have k2 := k2.symm; subst k1; subst k2; skip; refine CallK.panic ?_)) | refine wkN0 ?_ | refine wkN1 ?_ | ((with_reducible apply TA.oneN 0); (· rfl); (· rfl); (· decide +kernel); (· rfl)) | refine TQ.any leF selF ?_ | refine TC.region_any 12 (_) (by kernel_rfl) rfl selF ?_ | refine TA.done (by decide +kernel) ?_ | refine stS ?_ | fail)
        refine TQ.end_panic (L' := L) rfl (h1.trans h2) ?_ selF
        exact ⟨rfl, rfl⟩
      | some z =>
        dsimp only at PU ⊢
        repeat' (first | refine wkQ ?_ | refine wkV ?_ | (refine TL.call (Enters.plain (by kernel_rfl) (by rfl)) (by rfl) (Does.perm (D _) permU) ?_; (rintro e g1 Ln h1 ⟨k1, k2⟩; subst k1; subst k2; skip; refine CallK.ret ?_)) | refine TL.gives (Enters.func (by rfl) (by kernel_rfl) (by rfl)) (PF g1 _) (by rfl) ?_ | ((with_reducible apply TL.gives_plain); (· kernel_rfl); (· rfl); (· exact YE g1 _); (· rfl)) | (refine TL.call (Enters.plain (by kernel_rfl) (by rfl)) (by rfl) (Does.perm (PU g1 h1 _) permU) ?_; (rintro e g2 Ln h2 ⟨v2, k1, k2, o2, j2⟩; subst k1; subst k2; skip; refine CallK.ret ?_)) | refine wkN0 ?_ | refine wkN1 ?_ | ((with_reducible apply TA.oneN 0); (· rfl); (· rfl); (· decide +kernel); (· rfl)) | refine TQ.any leF selF ?_ | refine TC.region_any 12 (_) (by kernel_rfl) rfl selF ?_ | refine TA.done (by decide +kernel) ?_ | refine stS ?_ | fail)
        try refine TQ.end_normal ?_
        refine TQ.endR0 (L' := (Wk b v2 :: L)) Tryz.results97 rfl (h1.trans h2) ?_ selF
        exact ⟨v2, rfl, rfl, o2, j2⟩
    · rw [if_neg h0]
      obtain ⟨E, rfl⟩ : ∃ E : Nat, q = (E : Int) := ⟨q.toNat, by omega⟩
      have NO := fun g L => uneed_no E (by omega) g L
      unfold WorkR
      rw [Int.toNat_natCast]
      dsimp only
      clear K hn hb vb hr qb
      repeat' (first | refine wkQ ?_ | (refine TL.call (Enters.plain (by kernel_rfl) (by rfl)) (by rfl) (Does.perm (D _) permU) ?_; (rintro e g1 Ln h1 ⟨k1, k2⟩; subst k1; subst k2; skip; refine CallK.ret ?_)) | refine TL.gives (Enters.func (by rfl) (by kernel_rfl) (by rfl)) (PF g1 _) (by rfl) ?_ | refine TL.throws (Enters.plain (by kernel_rfl) (by rfl)) (NO g1 _) (by rfl) ?_ | refine wkN0 ?_ | refine wkN1 ?_ | ((with_reducible apply TA.oneN 0); (· rfl); (· rfl); (· decide +kernel); (· rfl)) | refine TQ.any leF selF ?_ | refine TC.region_any 12 (_) (by kernel_rfl) rfl selF ?_ | refine TA.done (by decide +kernel) ?_ | refine stS ?_ | fail)
      refine TQ.end_panic (L' := L) rfl (h1) ?_ selF
      exact ⟨rfl, rfl⟩
set_option maxHeartbeats 16000000 in
theorem ureckon_times (m b : Nat) (p : List UInt8) (x : J) (v : Value) (k : Int) (g : Gh) (L : List Ent) (K : AtOk m p x v g) (k0 : -9223372036854775808 ≤ k) (k1 : k ≤ 9223372036854775807) : Does Tryz.prog 97 #[.pointer (some ⟨b, 0, none⟩), str p, .iface 50 (.int .i64 k), .func (.func 99) #[] #[]] g (Wk b v :: L) (WorkR b (reckonU timesL x p (.num k)) L) := by
  refine Does.of4 Tryz.func97 rfl Tryz.ntmps97 rfl ?_
  have ov := K.hx.one
  rw [reckon_at]
  cases hn : numAt (getP p x) with
  | none =>
    have D := fun L => unumber_thr (b := b) (L := L) K hn
    dsimp only
    unfold WorkR
    dsimp only
    clear K
    repeat' (first | (refine TL.call (Enters.plain (by kernel_rfl) (by rfl)) (by rfl) (Does.perm (D _) permU) ?_; (rintro e g1 Ln h1 ⟨k1, k2⟩; have k2 := k2.symm; subst k1; subst k2; skip; refine CallK.panic ?_)) | refine wkN0 ?_ | refine wkN1 ?_ | ((with_reducible apply TA.oneN 0); (· rfl); (· rfl); (· decide +kernel); (· rfl)) | refine TC.region_any 12 (_) (by kernel_rfl) rfl selF ?_ | refine TQ.any_panic ?_ | refine stS ?_ | fail)
    refine TQ.end_panic (L' := L) rfl (h1) ?_ selF
    exact ⟨rfl, rfl⟩
  | some n =>
    have D := fun L => unumber_ret (b := b) (L := L) K hn
    have hb := num_bounds K hn
    have PF := fun g L => nTimes_gives n k g L (by omega) (by omega) k0 k1
    have vb := timesL_val n k
    dsimp only
    obtain ⟨r, q, hr⟩ : ∃ r q, timesL n k = (r, q) := ⟨_, _, rfl⟩
    have qb := timesL_bd n k
    rw [hr] at PF vb qb ⊢
    dsimp only at PF vb qb ⊢
    by_cases h0 : q = 0
    · subst h0
      rw [if_pos rfl]
      have YE := fun g L => uneed_yes g L
      have PU := fun g1 (h : g.le g1) L => uput_does m b p x (.num r) v (.iface 50 (.int .i64 r)) g1 L ((K.le h).wk (by rw [IsJ]; exact ⟨rfl, by omega, by omega⟩) (by rw [szJ]; trivial))
      obtain ⟨e0, o0, ho⟩ : ∃ e0 o0, putE x p (.num r) = (e0, o0) := ⟨_, _, rfl⟩
      rw [ho] at PU ⊢
      unfold WorkR at PU ⊢
      clear K hn hb vb hr
      cases o0 with
      | none =>
        dsimp only at PU ⊢
        repeat' (first | refine wkQ ?_ | refine wkV ?_ | (refine TL.call (Enters.plain (by kernel_rfl) (by rfl)) (by rfl) (Does.perm (D _) permU) ?_; (rintro e g1 Ln h1 ⟨k1, k2⟩; subst k1; subst k2; skip; refine CallK.ret ?_)) | refine TL.gives (Enters.func (by rfl) (by kernel_rfl) (by rfl)) (PF g1 _) (by rfl) ?_ | ((with_reducible apply TL.gives_plain); (· kernel_rfl); (· rfl); (· exact YE g1 _); (· rfl)) | (refine TL.call (Enters.plain (by kernel_rfl) (by rfl)) (by rfl) (Does.perm (PU g1 h1 _) permU) ?_; (rintro e g2 Ln h2 ⟨k1, k2⟩; have k2 := k2.symm; subst k1; subst k2; skip; refine CallK.panic ?_)) | refine wkN0 ?_ | refine wkN1 ?_ | ((with_reducible apply TA.oneN 0); (· rfl); (· rfl); (· decide +kernel); (· rfl)) | refine TQ.any leF selF ?_ | refine TC.region_any 12 (_) (by kernel_rfl) rfl selF ?_ | refine TA.done (by decide +kernel) ?_ | refine stS ?_ | fail)
        refine TQ.end_panic (L' := L) rfl (h1.trans h2) ?_ selF
        exact ⟨rfl, rfl⟩
      | some z =>
        dsimp only at PU ⊢
        repeat' (first | refine wkQ ?_ | refine wkV ?_ | (refine TL.call (Enters.plain (by kernel_rfl) (by rfl)) (by rfl) (Does.perm (D _) permU) ?_; (rintro e g1 Ln h1 ⟨k1, k2⟩; subst k1; subst k2; skip; refine CallK.ret ?_)) | refine TL.gives (Enters.func (by rfl) (by kernel_rfl) (by rfl)) (PF g1 _) (by rfl) ?_ | ((with_reducible apply TL.gives_plain); (· kernel_rfl); (· rfl); (· exact YE g1 _); (· rfl)) | (refine TL.call (Enters.plain (by kernel_rfl) (by rfl)) (by rfl) (Does.perm (PU g1 h1 _) permU) ?_; (rintro e g2 Ln h2 ⟨v2, k1, k2, o2, j2⟩; subst k1; subst k2; skip; refine CallK.ret ?_)) | refine wkN0 ?_ | refine wkN1 ?_ | ((with_reducible apply TA.oneN 0); (· rfl); (· rfl); (· decide +kernel); (· rfl)) | refine TQ.any leF selF ?_ | refine TC.region_any 12 (_) (by kernel_rfl) rfl selF ?_ | refine TA.done (by decide +kernel) ?_ | refine stS ?_ | fail)
        try refine TQ.end_normal ?_
        refine TQ.endR0 (L' := (Wk b v2 :: L)) Tryz.results97 rfl (h1.trans h2) ?_ selF
        exact ⟨v2, rfl, rfl, o2, j2⟩
    · rw [if_neg h0]
      obtain ⟨E, rfl⟩ : ∃ E : Nat, q = (E : Int) := ⟨q.toNat, by omega⟩
      have NO := fun g L => uneed_no E (by omega) g L
      unfold WorkR
      rw [Int.toNat_natCast]
      dsimp only
      clear K hn hb vb hr qb
      repeat' (first | refine wkQ ?_ | (refine TL.call (Enters.plain (by kernel_rfl) (by rfl)) (by rfl) (Does.perm (D _) permU) ?_; (rintro e g1 Ln h1 ⟨k1, k2⟩; subst k1; subst k2; skip; refine CallK.ret ?_)) | refine TL.gives (Enters.func (by rfl) (by kernel_rfl) (by rfl)) (PF g1 _) (by rfl) ?_ | refine TL.throws (Enters.plain (by kernel_rfl) (by rfl)) (NO g1 _) (by rfl) ?_ | refine wkN0 ?_ | refine wkN1 ?_ | ((with_reducible apply TA.oneN 0); (· rfl); (· rfl); (· decide +kernel); (· rfl)) | refine TQ.any leF selF ?_ | refine TC.region_any 12 (_) (by kernel_rfl) rfl selF ?_ | refine TA.done (by decide +kernel) ?_ | refine stS ?_ | fail)
      refine TQ.end_panic (L' := L) rfl (h1) ?_ selF
      exact ⟨rfl, rfl⟩
set_option maxHeartbeats 16000000 in
theorem uinc_does (m b : Nat) (p : List UInt8) (x : J) (v : Value) (k : Int) (g : Gh) (L : List Ent) (K : AtOk m p x v g) (k0 : -9223372036854775808 ≤ k) (k1 : k ≤ 9223372036854775807) : Does Tryz.prog 59 #[.pointer (some ⟨b, 0, none⟩), str p, .iface 50 (.int .i64 k)] g (Wk b v :: L) (WorkR b (reckonU plusL x p (.num k)) L) := by
  refine Does.of3 Tryz.func59 rfl Tryz.ntmps59 rfl ?_
  have D := fun L => ureckon_plus m b p x v k g L K k0 k1
  obtain ⟨e0, o0, ho⟩ : ∃ e0 o0, reckonU plusL x p (.num k) = (e0, o0) := ⟨_, _, rfl⟩
  rw [ho] at D ⊢
  unfold WorkR at D ⊢
  clear K ho
  cases o0 with
  | none =>
    dsimp only at D ⊢
    repeat' (first | refine wkQ ?_ | (refine TL.call (Enters.plain (by kernel_rfl) (by rfl)) (by rfl) (Does.perm (D _) permU) ?_; (rintro e g1 Ln h1 ⟨k1, k2⟩; have k2 := k2.symm; subst k1; subst k2; skip; refine CallK.panic ?_)) | refine stS ?_ | fail)
    refine TQ.end_panic (L' := L) rfl (h1) ?_ selF
    exact ⟨rfl, rfl⟩
  | some z =>
    dsimp only at D ⊢
    repeat' (first | refine wkQ ?_ | (refine TL.call (Enters.plain (by kernel_rfl) (by rfl)) (by rfl) (Does.perm (D _) permU) ?_; (rintro e g1 Ln h1 ⟨v1, k1, k2, o1, j1⟩; subst k1; subst k2; skip; refine CallK.ret ?_)) | refine stS ?_ | fail)
    try refine TQ.end_normal ?_
    refine TQ.endR0 (L' := (Wk b v1 :: L)) Tryz.results59 rfl (h1) ?_ selF
    exact ⟨v1, rfl, rfl, o1, j1⟩
set_option maxHeartbeats 16000000 in
theorem umul_does (m b : Nat) (p : List UInt8) (x : J) (v : Value) (k : Int) (g : Gh) (L : List Ent) (K : AtOk m p x v g) (k0 : -9223372036854775808 ≤ k) (k1 : k ≤ 9223372036854775807) : Does Tryz.prog 61 #[.pointer (some ⟨b, 0, none⟩), str p, .iface 50 (.int .i64 k)] g (Wk b v :: L) (WorkR b (reckonU timesL x p (.num k)) L) := by
  refine Does.of3 Tryz.func61 rfl Tryz.ntmps61 rfl ?_
  have D := fun L => ureckon_times m b p x v k g L K k0 k1
  obtain ⟨e0, o0, ho⟩ : ∃ e0 o0, reckonU timesL x p (.num k) = (e0, o0) := ⟨_, _, rfl⟩
  rw [ho] at D ⊢
  unfold WorkR at D ⊢
  clear K ho
  cases o0 with
  | none =>
    dsimp only at D ⊢
    repeat' (first | refine wkQ ?_ | (refine TL.call (Enters.plain (by kernel_rfl) (by rfl)) (by rfl) (Does.perm (D _) permU) ?_; (rintro e g1 Ln h1 ⟨k1, k2⟩; have k2 := k2.symm; subst k1; subst k2; skip; refine CallK.panic ?_)) | refine stS ?_ | fail)
    refine TQ.end_panic (L' := L) rfl (h1) ?_ selF
    exact ⟨rfl, rfl⟩
  | some z =>
    dsimp only at D ⊢
    repeat' (first | refine wkQ ?_ | (refine TL.call (Enters.plain (by kernel_rfl) (by rfl)) (by rfl) (Does.perm (D _) permU) ?_; (rintro e g1 Ln h1 ⟨v1, k1, k2, o1, j1⟩; subst k1; subst k2; skip; refine CallK.ret ?_)) | refine stS ?_ | fail)
    try refine TQ.end_normal ?_
    refine TQ.endR0 (L' := (Wk b v1 :: L)) Tryz.results61 rfl (h1) ?_ selF
    exact ⟨v1, rfl, rfl, o1, j1⟩
set_option maxHeartbeats 16000000 in
theorem umin_does (m b : Nat) (p : List UInt8) (x : J) (v : Value) (y : J) (u : Value) (g : Gh) (L : List Ent) (K : AtOk m p x v g) (hy : IsJ g y u) (zy : szJ m y) (ly : lookJ y 0 = 0) : Does Tryz.prog 62 #[.pointer (some ⟨b, 0, none⟩), str p, u] g (Wk b v :: L) (WorkR b (boundU cmpJ (-1) x p y) L) := by
  refine Does.of3 Tryz.func62 rfl Tryz.ntmps62 rfl ?_
  have D := fun L => ubound_does (-1) m b p x y v u g L K hy zy ly
  obtain ⟨e0, o0, ho⟩ : ∃ e0 o0, boundU cmpJ (-1) x p y = (e0, o0) := ⟨_, _, rfl⟩
  rw [ho] at D ⊢
  unfold WorkR at D ⊢
  clear K ho
  cases o0 with
  | none =>
    dsimp only at D ⊢
    repeat' (first | refine wkQ ?_ | (refine TL.call (Enters.plain (by kernel_rfl) (by rfl)) (by rfl) (Does.perm (D _) permU) ?_; (rintro e g1 Ln h1 ⟨k1, k2⟩; have k2 := k2.symm; subst k1; subst k2; skip; refine CallK.panic ?_)) | refine stS ?_ | fail)
    refine TQ.end_panic (L' := L) rfl (h1) ?_ selF
    exact ⟨rfl, rfl⟩
  | some z =>
    dsimp only at D ⊢
    repeat' (first | refine wkQ ?_ | (refine TL.call (Enters.plain (by kernel_rfl) (by rfl)) (by rfl) (Does.perm (D _) permU) ?_; (rintro e g1 Ln h1 ⟨v1, k1, k2, o1, j1⟩; subst k1; subst k2; skip; refine CallK.ret ?_)) | refine stS ?_ | fail)
    try refine TQ.end_normal ?_
    refine TQ.endR0 (L' := (Wk b v1 :: L)) Tryz.results62 rfl (h1) ?_ selF
    exact ⟨v1, rfl, rfl, o1, j1⟩
set_option maxHeartbeats 16000000 in
theorem umax_does (m b : Nat) (p : List UInt8) (x : J) (v : Value) (y : J) (u : Value) (g : Gh) (L : List Ent) (K : AtOk m p x v g) (hy : IsJ g y u) (zy : szJ m y) (ly : lookJ y 0 = 0) : Does Tryz.prog 63 #[.pointer (some ⟨b, 0, none⟩), str p, u] g (Wk b v :: L) (WorkR b (boundU cmpJ 1 x p y) L) := by
  refine Does.of3 Tryz.func63 rfl Tryz.ntmps63 rfl ?_
  have D := fun L => ubound_does 1 m b p x y v u g L K hy zy ly
  obtain ⟨e0, o0, ho⟩ : ∃ e0 o0, boundU cmpJ 1 x p y = (e0, o0) := ⟨_, _, rfl⟩
  rw [ho] at D ⊢
  unfold WorkR at D ⊢
  clear K ho
  cases o0 with
  | none =>
    dsimp only at D ⊢
    repeat' (first | refine wkQ ?_ | (refine TL.call (Enters.plain (by kernel_rfl) (by rfl)) (by rfl) (Does.perm (D _) permU) ?_; (rintro e g1 Ln h1 ⟨k1, k2⟩; have k2 := k2.symm; subst k1; subst k2; skip; refine CallK.panic ?_)) | refine stS ?_ | fail)
    refine TQ.end_panic (L' := L) rfl (h1) ?_ selF
    exact ⟨rfl, rfl⟩
  | some z =>
    dsimp only at D ⊢
    repeat' (first | refine wkQ ?_ | (refine TL.call (Enters.plain (by kernel_rfl) (by rfl)) (by rfl) (Does.perm (D _) permU) ?_; (rintro e g1 Ln h1 ⟨v1, k1, k2, o1, j1⟩; subst k1; subst k2; skip; refine CallK.ret ?_)) | refine stS ?_ | fail)
    try refine TQ.end_normal ?_
    refine TQ.endR0 (L' := (Wk b v1 :: L)) Tryz.results63 rfl (h1) ?_ selF
    exact ⟨v1, rfl, rfl, o1, j1⟩
end Go.Proofs.YthngolfabfijpaaGreatDoor
namespace Go.Proofs.YthngolfabfijpaaGreatDoor
open Go.RowKit Go.TL
set_option maxRecDepth 100000

def dv : List Nat → Nat
  | [] => 0
  | d :: r => d + 10 * dv r
theorem dv_append : ∀ (a b : List Nat), dv (a ++ b) = dv a + 10 ^ a.length * dv b
  | [], b => by simp [dv]
  | d :: r, b => by
    rw [List.cons_append, dv, dv, dv_append r b, List.length_cons, Nat.pow_succ, Nat.mul_add, ← Nat.mul_assoc, Nat.mul_comm 10 (10 ^ r.length), Nat.add_assoc]
theorem dv_bd : ∀ (l : List Nat), (∀ d ∈ l, d ≤ 9) → dv l < 10 ^ l.length
  | [], _ => by simp [dv]
  | d :: r, h => by
    have := dv_bd r (fun x hx => h x (List.mem_cons_of_mem _ hx))
    have h9 := h d List.mem_cons_self
    rw [dv, List.length_cons, Nat.pow_succ]; omega
def nats (l : List Nat) : List Value := l.map fun (d : Nat) => .int .i64 d
theorem nats_snoc (l : List Nat) (d : Nat) : nats l ++ [.int .i64 (d : Nat)] = nats (l ++ [d]) := by simp [nats]
theorem pow_len {k m : Nat} (h : 10 ^ k * m ≤ 9000000000000000000) (h0 : 0 < m) : k ≤ 18 := by
  have h1 : 10 ^ k ≤ 9000000000000000000 := Nat.le_trans (Nat.le_mul_of_pos_right _ h0) h
  rcases Nat.lt_or_ge 18 k with hk | hk
  · have := Nat.pow_le_pow_right (n := 10) (by decide) hk
    omega
  · exact hk
set_option maxHeartbeats 4000000 in
theorem digits_rows (a : Int) (g : Gh) (L : List Ent) (h0 : -9000000000000000000 ≤ a) (h1 : a ≤ 9000000000000000000) :
    Does Tryz.prog 105 #[.int .i64 a] g L fun r g' L1 => ∃ v l, r = .returned v ∧ g' = g ∧ L1 = .row 3 1 v l.length (nats l) :: L ∧ dv l = a.natAbs ∧ (∀ d ∈ l, d ≤ 9) ∧ l.length ≤ 19 := by
  refine Does.of1 Tryz.func105 rfl Tryz.ntmps105 rfl ?_
  refine TC.row_nil 3 1 ?_
  repeat' (first | refine wkP ?_ | refine wkZ ?_ | fail)
  refine TC.cutL' (fun _ : Unit => True) (fun _ _ => [(0, .int .i64 (a.natAbs : Nat))]) (fun _ => .row 3 1 (.slice none 0 0) 0 [] :: L) ?_ (fun _ _ => ?_)
  · repeat' (first | refine wkP ?_ | refine stS ?_ | (refine stC ?_; refine And.intro (fun _ => ?_) (fun _ => ?_)) | fail)
    · rename_i h
      refine TQ.slot (t := 0) (u := .int .i64 (a.natAbs : Nat)) rfl (congrArg (Value.int .i64) (by omega)) ?_
      refine TQ.cut () ?_ rfl subA selA
      trivial
    · rename_i h
      refine TQ.slot (t := 0) (u := .int .i64 (a.natAbs : Nat)) rfl (congrArg (Value.int .i64) (by omega)) ?_
      refine TQ.cut () ?_ rfl subA selA
      trivial
  obtain ⟨u, hu⟩ : ∃ u, u = a.natAbs := ⟨_, rfl⟩
  rw [← hu]
  have hu9 : u ≤ 9000000000000000000 := by omega
  clear hu h0 h1
  repeat' (first | refine wkP ?_ | refine stS ?_ | fail)
  refine TC.loopL (fun x : Nat × List Nat × Value => dv x.2.1 + 10 ^ x.2.1.length * x.1 = u ∧ (∀ d ∈ x.2.1, d ≤ 9) ∧ x.2.1.length ≤ 19) (fun x => x.1) (fun x _ => [(0, .int .i64 (x.1 : Nat)), (3, x.2.2)]) (fun x => .row 3 1 x.2.2 x.2.1.length (nats x.2.1) :: L) (u, [], .slice none 0 0) ⟨by simp [dv, nats], by simp, by simp⟩ subA selA ?_
  rintro ⟨m, l, v⟩ ⟨hv, h9, hl⟩
  dsimp only at hv h9 hl ⊢
  by_cases hm : m = 0
  · subst hm
    repeat' (first | refine wkP ?_ | refine stS ?_ | fail)
    refine TQ.endR1 (L' := (.row 3 1 v l.length (nats l) :: L)) Tryz.results105 rvA rfl (.refl _) ?_ selA
    exact ⟨v, l, rfl, rfl, rfl, by simpa using hv, h9, hl⟩
  have hmul : 10 ^ l.length * m ≤ 9000000000000000000 := by omega
  have hl18 : l.length ≤ 18 := pow_len hmul (by omega)
  have hmu : m ≤ u := by
    have : m ≤ 10 ^ l.length * m := Nat.le_mul_of_pos_left _ (Nat.pow_pos (by decide))
    omega
  have hnx : dv (l ++ [m % 10]) + 10 ^ (l ++ [m % 10]).length * (m / 10) = u := by
    rw [dv_append, List.length_append, List.length_singleton, Nat.pow_succ, dv, dv, ← hv, Nat.mul_zero, Nat.add_zero]
    have : 10 ^ l.length * m = 10 ^ l.length * (m % 10) + 10 ^ l.length * 10 * (m / 10) := by
      rw [Nat.mul_assoc, ← Nat.mul_add, Nat.mod_add_div]
    omega
  have hH : Hn _ := ⟨hnx⟩
  clear hv hmul hnx
  repeat' (first | ((with_reducible apply TL.build_slice); (· rfl); (· rfl); (· exact oneA); (· rfl); (· rfl); (· rfl); intro _) | ((with_reducible apply TL.append); (· rfl); (· rfl); (· rfl); (· rfl); (· exact pkA); (· first | exact Src.obj pkA | exact Src.sl (by assumption) | exact Src.row pkA); (· first | rfl | exact (byteVals_length _).trans (Nat.mul_one _).symm); (· first | exact byteVals_all _ | exact oneA); (· exact ⟨by unfold maxLen; omega, by omega⟩); (· rfl); intro _) | refine wkP ?_ | refine stS ?_ | fail)
  rename_i b v'
  rw [show l.length + 1 = (l ++ [m % 10]).length by simp, show nats l ++ [Value.int .i64 ((m : Int) % 10)] = nats (l ++ [m % 10]) from nats_snoc l (m % 10)]
  refine TQ.round (m / 10, l ++ [m % 10], v') ?_ ?_ rfl subA selA
  · refine ⟨hH.out, fun d hd => ?_, by simp; omega⟩
    rcases List.mem_append.1 hd with h | h
    · exact h9 d h
    · rw [List.mem_singleton.1 h]; omega
  · show m / 10 < m
    omega
theorem half_law {a b x y r s q : Int} (hx : x = a.tdiv 2) (hy : y = b.tdiv 2) (hr : r = a.tmod 2) (hs : s = b.tmod 2) (hq : q = (r + s).tdiv 2) : (-1 ≤ r ∧ r ≤ 1) ∧ (-1 ≤ s ∧ s ≤ 1) ∧ (-1 ≤ q ∧ q ≤ 1) ∧ a = 2 * x + r ∧ b = 2 * y + s ∧ -1 ≤ r + s - 2 * q ∧ r + s - 2 * q ≤ 1 := by
  have h1 := Int.mul_tdiv_add_tmod a 2
  have h2 := Int.mul_tdiv_add_tmod b 2
  have h3 := Int.mul_tdiv_add_tmod (r + s) 2
  have m1 := Int.natAbs_tmod a 2
  have m2 := Int.natAbs_tmod b 2
  have m3 := Int.natAbs_tmod (r + s) 2
  rw [show Int.natAbs 2 = 2 from rfl] at m1 m2 m3
  rw [← hx, ← hr] at h1
  rw [← hy, ← hs] at h2
  rw [← hq] at h3
  rw [← hr] at m1
  rw [← hs] at m2
  generalize (r + s).tmod 2 = z at *
  clear hx hy hr hs hq
  omega
set_option maxHeartbeats 4000000 in
theorem rPlus_gives (a b : Int) (g : Gh) (L : List Ent) (a0 : -9223372036854775808 ≤ a) (a1 : a ≤ 9223372036854775807) (b0 : -9223372036854775808 ≤ b) (b1 : b ≤ 9223372036854775807) : Gives Tryz.prog 69 #[.int .i64 a, .int .i64 b] g L (.tuple #[.int .i64 (plusL a b).1, .int .i64 (plusL a b).2]) := by
  have A1 := rHeld_gives a g L a0 a1
  have A2 := rHeld_gives b g L b0 b1
  obtain ⟨T, hT⟩ : ∃ T, T = plusL a b := ⟨_, rfl⟩
  rw [← hT]
  unfold plusL at hT
  cases ha : heldB a with
  | false =>
    rw [ha] at A1 hT
    rw [if_neg (by simp)] at hT
    subst hT
    refine .of (Does.of2 Tryz.func69 rfl Tryz.ntmps69 rfl ?_)
    repeat' (first | ((with_reducible apply TL.gives_plain); (· kernel_rfl); (· rfl); (· exact A1); (· rfl)) | refine wkP ?_ | refine stS ?_ | fail)
    refine TQ.endR2 (L' := L) Tryz.results69 rvA rvA rfl (.refl _) ?_ selA
    exact ⟨rfl, rfl, rfl⟩
  | true =>
  cases hb : heldB b with
  | false =>
    rw [ha] at A1
    rw [hb] at A2 hT
    rw [if_neg (by simp)] at hT
    subst hT
    refine .of (Does.of2 Tryz.func69 rfl Tryz.ntmps69 rfl ?_)
    repeat' (first | ((with_reducible apply TL.gives_plain); (· kernel_rfl); (· rfl); (· exact A1); (· rfl)) | ((with_reducible apply TL.gives_plain); (· kernel_rfl); (· rfl); (· exact A2); (· rfl)) | refine wkP ?_ | refine stS ?_ | fail)
    refine TQ.endR2 (L' := L) Tryz.results69 rvA rvA rfl (.refl _) ?_ selA
    exact ⟨rfl, rfl, rfl⟩
  | true =>
  rw [ha] at A1
  rw [hb] at A2
  rw [if_pos ⟨ha, hb⟩] at hT
  obtain ⟨x0, x1⟩ := heldB_iff.1 ha
  obtain ⟨y0, y1⟩ := heldB_iff.1 hb
  obtain ⟨x, hx⟩ : ∃ x, x = a.tdiv 2 := ⟨_, rfl⟩
  obtain ⟨y, hy⟩ : ∃ y, y = b.tdiv 2 := ⟨_, rfl⟩
  obtain ⟨r, hr⟩ : ∃ r, r = a.tmod 2 := ⟨_, rfl⟩
  obtain ⟨s, hs⟩ : ∃ s, s = b.tmod 2 := ⟨_, rfl⟩
  obtain ⟨q, hq⟩ : ∃ q, q = (r + s).tdiv 2 := ⟨_, rfl⟩
  obtain ⟨⟨r0, r1⟩, ⟨s0, s1⟩, ⟨q0, q1⟩, ea, eb, z0, z1⟩ := half_law hx hy hr hs hq
  have H1 : Hn (IntKind.i64.wrap (a.tdiv 2) = x) := ⟨by rw [← hx, IntWalk.i64_in _ (by omega)]⟩
  have H2 : Hn (IntKind.i64.wrap (b.tdiv 2) = y) := ⟨by rw [← hy, IntWalk.i64_in _ (by omega)]⟩
  have H3 : Hn (IntKind.i64.wrap ((r + s).tdiv 2) = q) := ⟨by rw [← hq, IntWalk.i64_in _ (by omega)]⟩
  have H4 : Hn (a.tmod 2 = r) := ⟨hr.symm⟩
  have H5 : Hn (b.tmod 2 = s) := ⟨hs.symm⟩
  clear hx hy hr hs hq ha hb
  by_cases hbig : x + y + q > 4500000000000000000 ∨ x + y + q < -4500000000000000000
  · rw [if_pos (by omega)] at hT
    subst hT
    clear A2
    have A2 := rHeld_gives b g L b0 b1
    rw [show heldB b = true from heldB_iff.2 ⟨y0, y1⟩] at A2
    refine .of (Does.of2 Tryz.func69 rfl Tryz.ntmps69 rfl ?_)
    rcases hbig with hbig | hbig
    all_goals
      repeat' (first | ((with_reducible apply TL.pure (d := 16) (v := .int .i64 x)); (· exact Y.quo rfl rfl (by decide) H1.out); (· rfl)) | ((with_reducible apply TL.pure (d := 18) (v := .int .i64 y)); (· exact Y.quo rfl rfl (by decide) H2.out); (· rfl)) | ((with_reducible apply TL.pure (d := 21) (v := .int .i64 r)); (· exact Y.rem rfl rfl (by decide) H4.out); (· rfl)) | ((with_reducible apply TL.pure (d := 23) (v := .int .i64 s)); (· exact Y.rem rfl rfl (by decide) H5.out); (· rfl)) | ((with_reducible apply TL.pure (d := 25) (v := .int .i64 q)); (· exact Y.quo rfl rfl (by decide) H3.out); (· rfl)) | ((with_reducible apply TL.gives_plain); (· kernel_rfl); (· rfl); (· exact A1); (· rfl)) | ((with_reducible apply TL.gives_plain); (· kernel_rfl); (· rfl); (· exact A2); (· rfl)) | refine wkP ?_ | refine stS ?_ | fail)
      all_goals
        refine TQ.endR2 (L' := L) Tryz.results69 rvA rvA rfl (.refl _) ?_ selA
        exact ⟨rfl, rfl, rfl⟩
  have A3 := rHeld_gives (a + b) g L (by omega) (by omega)
  cases hc : heldB (a + b) with
  | true =>
    have hc2 := heldB_iff.1 hc
    rw [if_neg (by omega)] at hT
    subst hT
    rw [hc] at A3
    clear hc
    refine .of (Does.of2 Tryz.func69 rfl Tryz.ntmps69 rfl ?_)
    repeat' (first | ((with_reducible apply TL.pure (d := 16) (v := .int .i64 x)); (· exact Y.quo rfl rfl (by decide) H1.out); (· rfl)) | ((with_reducible apply TL.pure (d := 18) (v := .int .i64 y)); (· exact Y.quo rfl rfl (by decide) H2.out); (· rfl)) | ((with_reducible apply TL.pure (d := 21) (v := .int .i64 r)); (· exact Y.rem rfl rfl (by decide) H4.out); (· rfl)) | ((with_reducible apply TL.pure (d := 23) (v := .int .i64 s)); (· exact Y.rem rfl rfl (by decide) H5.out); (· rfl)) | ((with_reducible apply TL.pure (d := 25) (v := .int .i64 q)); (· exact Y.quo rfl rfl (by decide) H3.out); (· rfl)) | ((with_reducible apply TL.gives_plain); (· kernel_rfl); (· rfl); (· exact A1); (· rfl)) | ((with_reducible apply TL.gives_plain); (· kernel_rfl); (· rfl); (· exact A2); (· rfl)) | ((with_reducible apply TL.gives_plain); (· kernel_rfl); (· rfl); (· exact A3); (· rfl)) | refine wkP ?_ | refine stS ?_ | fail)
    all_goals
      refine TQ.endR2 (L' := L) Tryz.results69 rvA rvA rfl (.refl _) ?_ selA
      exact ⟨rfl, rfl, rfl⟩
  | false =>
    have hc2 : ¬ (-9000000000000000000 ≤ a + b ∧ a + b ≤ 9000000000000000000) := fun h => by rw [heldB_iff.2 h] at hc; cases hc
    rw [if_pos (by omega)] at hT
    subst hT
    rw [hc] at A3
    clear hc
    refine .of (Does.of2 Tryz.func69 rfl Tryz.ntmps69 rfl ?_)
    repeat' (first | ((with_reducible apply TL.pure (d := 16) (v := .int .i64 x)); (· exact Y.quo rfl rfl (by decide) H1.out); (· rfl)) | ((with_reducible apply TL.pure (d := 18) (v := .int .i64 y)); (· exact Y.quo rfl rfl (by decide) H2.out); (· rfl)) | ((with_reducible apply TL.pure (d := 21) (v := .int .i64 r)); (· exact Y.rem rfl rfl (by decide) H4.out); (· rfl)) | ((with_reducible apply TL.pure (d := 23) (v := .int .i64 s)); (· exact Y.rem rfl rfl (by decide) H5.out); (· rfl)) | ((with_reducible apply TL.pure (d := 25) (v := .int .i64 q)); (· exact Y.quo rfl rfl (by decide) H3.out); (· rfl)) | ((with_reducible apply TL.gives_plain); (· kernel_rfl); (· rfl); (· exact A1); (· rfl)) | ((with_reducible apply TL.gives_plain); (· kernel_rfl); (· rfl); (· exact A2); (· rfl)) | ((with_reducible apply TL.gives_plain); (· kernel_rfl); (· rfl); (· exact A3); (· rfl)) | refine wkP ?_ | refine stS ?_ | fail)
    all_goals
      refine TQ.endR2 (L' := L) Tryz.results69 rvA rvA rfl (.refl _) ?_ selA
      exact ⟨rfl, rfl, rfl⟩
end Go.Proofs.YthngolfabfijpaaGreatDoor
