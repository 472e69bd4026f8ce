/-
  The walks of update's work: reckon, inc, mul, min, max.
-/
import Derived.Test.YthngolfabfijpaaGreatDoorHc2
import Derived.Test.YthngolfabfijpaaGreatDoorHc28
import Derived.Test.YthngolfabfijpaaGreatDoorHc30
namespace Go.Proofs.YthngolfabfijpaaGreatDoor
open Go.RowKit Go.TL
set_option maxRecDepth 100000

def numAt : Option J → Option Int
  | none => some 0
  | some y => match y with
    | .num n => some n
    | _ => none
theorem reckon_at (f : Int → Int → Int × Int) (x : J) (p : List UInt8) (k : Int) : reckonU f x p (.num k) = match numAt (getP p x) with
    | none => (14, none)
    | some n => if (f n k).2 = 0 then putE x p (.num (f n k).1) else ((f n k).2.toNat, none) := by
  unfold reckonU
  dsimp only
  cases getP p x with
  | none => rfl
  | some y => cases y <;> rfl
theorem unumber_ret {m b : Nat} {p : List UInt8} {x : J} {v : Value} {g : Gh} {L : List Ent} {n : Int} (K : AtOk m p x v g) (h : numAt (getP p x) = some n) : Does Tryz.prog 134 #[.pointer (some ⟨b, 0, none⟩), str p] g (Wk b v :: L) fun e _ L1 => e = .returned (.int .i64 n) ∧ L1 = Wk b v :: L := by
  have D := unumber_does m b p x v g L K
  cases hg : getP p x with
  | none => rw [hg] at D h; obtain rfl := Option.some.inj h; exact D
  | some y =>
    rw [hg] at D h
    cases y with
    | num k => obtain rfl := Option.some.inj h; exact D
    | _ => cases h
theorem unumber_thr {m b : Nat} {p : List UInt8} {x : J} {v : Value} {g : Gh} {L : List Ent} (K : AtOk m p x v g) (h : numAt (getP p x) = none) : Does Tryz.prog 134 #[.pointer (some ⟨b, 0, none⟩), str p] g (Wk b v :: L) fun e _ L1 => e = .panicked [stopU 14] ∧ L1 = L := by
  have D := unumber_does m b p x v g L K
  cases hg : getP p x with
  | none => rw [hg] at h; cases h
  | some y =>
    rw [hg] at D h
    cases y with
    | num k => cases h
    | _ => exact D
theorem plusL_val (a b : Int) : -9000000000000000000 ≤ (plusL a b).1 ∧ (plusL a b).1 ≤ 9000000000000000000 := by
  unfold plusL
  split
  · split
    · exact ⟨by decide, by decide⟩
    · dsimp only; omega
  · exact ⟨by decide, by decide⟩
theorem timesL_val (a b : Int) : -9000000000000000000 ≤ (timesL a b).1 ∧ (timesL a b).1 ≤ 9000000000000000000 := by
  unfold timesL
  split
  · unfold timesV
    split
    · exact ⟨by decide, by decide⟩
    · split <;> (dsimp only; omega)
  · exact ⟨by decide, by decide⟩
theorem num_bounds {m : Nat} {p : List UInt8} {x : J} {v : Value} {g : Gh} (K : AtOk m p x v g) {n : Int} (h : numAt (getP p x) = some n) : -9000000000000000000 ≤ n ∧ n ≤ 9000000000000000000 := by
  cases hg : getP p x with
  | none => rw [hg] at h; obtain rfl := Option.some.inj h; exact ⟨by decide, by decide⟩
  | some y =>
    rw [hg] at h
    cases y with
    | num k =>
      obtain rfl := Option.some.inj h
      have h1 := (getP_inv K.iv hg).1
      rw [look_numU] at h1
      split at h1
      · rename_i hb; exact heldB_iff.1 hb
      · omega
    | _ => cases h
where look_numU {n : Int} {w : Nat} : lookJ (.num n) w = if heldB n = true then 0 else 2 := by rw [lookJ]
set_option maxHeartbeats 16000000 in
theorem ureckon_plus (m b : Nat) (p : List UInt8) (x : J) (v : Value) (k : Int) (g : Gh) (L : List Ent) (K : AtOk m p x v g) (k0 : -9223372036854775808 ≤ k) (k1 : k ≤ 9223372036854775807) : Does Tryz.prog 97 #[.pointer (some ⟨b, 0, none⟩), str p, .iface 50 (.int .i64 k), .func (.func 98) #[] #[]] g (Wk b v :: L) (WorkR b (reckonU plusL x p (.num k)) L) := by
  refine Does.of4 Tryz.func97 rfl Tryz.ntmps97 rfl ?_
  have ov := K.hx.one
  rw [reckon_at]
  cases hn : numAt (getP p x) with
  | none =>
    have D := fun L => unumber_thr (b := b) (L := L) K hn
    dsimp only
    unfold WorkR
    dsimp only
    clear K
    repeat' (first
    | refine wkQ ?_
    | refine wkV ?_
    | (refine TL.call (Enters.plain (by kernel_rfl) (by rfl)) (by rfl) (Does.perm (D _) permU) ?_; (rintro e g1 Ln h1 ⟨k1, k2⟩; have k2 := k2.symm; subst k1; subst k2; skip; refine CallK.panic ?_))
    | refine wkN0 ?_
    | refine wkN1 ?_
    | refine wkN2 ?_
    | refine wkN3 ?_
    | refine wkG0 ?_
    | refine wkG1 ?_
    | refine wkG2 ?_
    | refine wkG3 ?_
    | refine wkX0 ?_
    | refine wkX1 ?_
    | refine wkX2 ?_
    | refine wkX3 ?_
    | refine wkN0 ?_
    | refine wkN1 ?_
    | refine wkN2 ?_
    | refine wkN3 ?_
    | ((with_reducible apply TA.oneN 0); (· rfl); (· rfl); (· decide +kernel); (· rfl))
    | ((with_reducible apply TA.oneN 1); (· rfl); (· rfl); (· decide +kernel); (· rfl))
    | ((with_reducible apply TA.oneN 2); (· rfl); (· rfl); (· decide +kernel); (· rfl))
    | ((with_reducible apply TA.oneN 3); (· rfl); (· rfl); (· decide +kernel); (· rfl))
    | refine TQ.any leF selF ?_
    | refine TC.region_any 12 (_) (by kernel_rfl) rfl selF ?_ | refine TA.done (by decide +kernel) ?_ | refine TQ.any_panic ?_
    | refine stS ?_ | (refine stB ?_; intro _) | (refine stC ?_; refine And.intro (fun _ => ?_) (fun _ => ?_))
    | apply TC.region_draw (by kernel_rfl) (by kernel_rfl) | refine TW.nil ?_ | ((with_reducible apply TW.pure); (· exact yA); (· rfl)))
    refine TQ.end_panic (L' := L) rfl (h1) ?_ selF
    exact ⟨rfl, rfl⟩
  | some n =>
    have D := fun L => unumber_ret (b := b) (L := L) K hn
    have hb := num_bounds K hn
    have PF := fun g L => nPlus_gives n k g L (by omega) (by omega) k0 k1
    have vb := plusL_val n k
    dsimp only
    obtain ⟨r, q, hr⟩ : ∃ r q, plusL n k = (r, q) := ⟨_, _, rfl⟩
    have qb := plusL_bd n k
    rw [hr] at PF vb qb ⊢
    dsimp only at PF vb qb ⊢
    by_cases h0 : q = 0
    · subst h0
      rw [if_pos rfl]
      have YE := fun g L => uneed_yes g L
      have PU := fun g1 (h : g.le g1) L => uput_does m b p x (.num r) v (.iface 50 (.int .i64 r)) g1 L ((K.le h).wk (by rw [IsJ]; exact ⟨rfl, by omega, by omega⟩) (by rw [szJ]; trivial))
      obtain ⟨e0, o0, ho⟩ : ∃ e0 o0, putE x p (.num r) = (e0, o0) := ⟨_, _, rfl⟩
      rw [ho] at PU ⊢
      unfold WorkR at PU ⊢
      clear K hn hb vb hr
      cases o0 with
      | none =>
        dsimp only at PU ⊢
        repeat' (first
    | refine wkQ ?_
    | refine wkV ?_
    | (refine TL.call (Enters.plain (by kernel_rfl) (by rfl)) (by rfl) (Does.perm (D _) permU) ?_; (rintro e g1 Ln h1 ⟨k1, k2⟩; subst k1; subst k2; skip; refine CallK.ret ?_))
    | refine TL.gives (Enters.func (by rfl) (by kernel_rfl) (by rfl)) (PF g1 _) (by rfl) ?_ | refine TW.gives (Enters.func (by rfl) (by kernel_rfl) (by rfl)) (PF g1 _) (by rfl) ?_
    | ((with_reducible apply TL.gives_plain); (· kernel_rfl); (· rfl); (· exact YE g1 _); (· rfl)) | ((with_reducible apply TW.gives_plain); (· kernel_rfl); (· rfl); (· exact YE g1 _); (· rfl))
    | (refine TL.call (Enters.plain (by kernel_rfl) (by rfl)) (by rfl) (Does.perm (PU g1 h1 _) permU) ?_; (rintro e g2 Ln h2 ⟨k1, k2⟩; have k2 := k2.symm; subst k1; subst k2; skip; refine CallK.panic ?_))
    | refine wkN0 ?_
    | refine wkN1 ?_
    | refine wkN2 ?_
    | refine wkN3 ?_
    | refine wkG0 ?_
    | refine wkG1 ?_
    | refine wkG2 ?_
    | refine wkG3 ?_
    | refine wkX0 ?_
    | refine wkX1 ?_
    | refine wkX2 ?_
    | refine wkX3 ?_
    | refine wkN0 ?_
    | refine wkN1 ?_
    | refine wkN2 ?_
    | refine wkN3 ?_
    | ((with_reducible apply TA.oneN 0); (· rfl); (· rfl); (· decide +kernel); (· rfl))
    | ((with_reducible apply TA.oneN 1); (· rfl); (· rfl); (· decide +kernel); (· rfl))
    | ((with_reducible apply TA.oneN 2); (· rfl); (· rfl); (· decide +kernel); (· rfl))
    | ((with_reducible apply TA.oneN 3); (· rfl); (· rfl); (· decide +kernel); (· rfl))
    | refine TQ.any leF selF ?_
    | refine TC.region_any 12 (_) (by kernel_rfl) rfl selF ?_ | refine TA.done (by decide +kernel) ?_ | refine TQ.any_panic ?_
    | refine stS ?_ | (refine stB ?_; intro _) | (refine stC ?_; refine And.intro (fun _ => ?_) (fun _ => ?_))
    | apply TC.region_draw (by kernel_rfl) (by kernel_rfl) | refine TW.nil ?_ | ((with_reducible apply TW.pure); (· exact yA); (· rfl)))
        refine TQ.end_panic (L' := L) rfl (h1.trans h2) ?_ selF
        exact ⟨rfl, rfl⟩
      | some z =>
        dsimp only at PU ⊢
        repeat' (first
    | refine wkQ ?_
    | refine wkV ?_
    | (refine TL.call (Enters.plain (by kernel_rfl) (by rfl)) (by rfl) (Does.perm (D _) permU) ?_; (rintro e g1 Ln h1 ⟨k1, k2⟩; subst k1; subst k2; skip; refine CallK.ret ?_))
    | refine TL.gives (Enters.func (by rfl) (by kernel_rfl) (by rfl)) (PF g1 _) (by rfl) ?_ | refine TW.gives (Enters.func (by rfl) (by kernel_rfl) (by rfl)) (PF g1 _) (by rfl) ?_
    | ((with_reducible apply TL.gives_plain); (· kernel_rfl); (· rfl); (· exact YE g1 _); (· rfl)) | ((with_reducible apply TW.gives_plain); (· kernel_rfl); (· rfl); (· exact YE g1 _); (· rfl))
    | (refine TL.call (Enters.plain (by kernel_rfl) (by rfl)) (by rfl) (Does.perm (PU g1 h1 _) permU) ?_; (rintro e g2 Ln h2 ⟨v2, k1, k2, o2, j2⟩; subst k1; subst k2; skip; refine CallK.ret ?_))
    | refine wkN0 ?_
    | refine wkN1 ?_
    | refine wkN2 ?_
    | refine wkN3 ?_
    | refine wkG0 ?_
    | refine wkG1 ?_
    | refine wkG2 ?_
    | refine wkG3 ?_
    | refine wkX0 ?_
    | refine wkX1 ?_
    | refine wkX2 ?_
    | refine wkX3 ?_
    | refine wkN0 ?_
    | refine wkN1 ?_
    | refine wkN2 ?_
    | refine wkN3 ?_
    | ((with_reducible apply TA.oneN 0); (· rfl); (· rfl); (· decide +kernel); (· rfl))
    | ((with_reducible apply TA.oneN 1); (· rfl); (· rfl); (· decide +kernel); (· rfl))
    | ((with_reducible apply TA.oneN 2); (· rfl); (· rfl); (· decide +kernel); (· rfl))
    | ((with_reducible apply TA.oneN 3); (· rfl); (· rfl); (· decide +kernel); (· rfl))
    | refine TQ.any leF selF ?_
    | refine TC.region_any 12 (_) (by kernel_rfl) rfl selF ?_ | refine TA.done (by decide +kernel) ?_ | refine TQ.any_panic ?_
    | refine stS ?_ | (refine stB ?_; intro _) | (refine stC ?_; refine And.intro (fun _ => ?_) (fun _ => ?_))
    | apply TC.region_draw (by kernel_rfl) (by kernel_rfl) | refine TW.nil ?_ | ((with_reducible apply TW.pure); (· exact yA); (· rfl)))
        try refine TQ.end_normal ?_
        refine TQ.endR0 (L' := (Wk b v2 :: L)) Tryz.results97 rfl (h1.trans h2) ?_ selF
        exact ⟨v2, rfl, rfl, o2, j2⟩
    · rw [if_neg h0]
      obtain ⟨E, rfl⟩ : ∃ E : Nat, q = (E : Int) := ⟨q.toNat, by omega⟩
      have NO := fun g L => uneed_no E (by omega) g L
      unfold WorkR
      rw [Int.toNat_natCast]
      dsimp only
      clear K hn hb vb hr qb
      repeat' (first
    | refine wkQ ?_
    | refine wkV ?_
    | (refine TL.call (Enters.plain (by kernel_rfl) (by rfl)) (by rfl) (Does.perm (D _) permU) ?_; (rintro e g1 Ln h1 ⟨k1, k2⟩; subst k1; subst k2; skip; refine CallK.ret ?_))
    | refine TL.gives (Enters.func (by rfl) (by kernel_rfl) (by rfl)) (PF g1 _) (by rfl) ?_ | refine TW.gives (Enters.func (by rfl) (by kernel_rfl) (by rfl)) (PF g1 _) (by rfl) ?_
    | refine TL.throws (Enters.plain (by kernel_rfl) (by rfl)) (NO g1 _) (by rfl) ?_
    | refine wkN0 ?_
    | refine wkN1 ?_
    | refine wkN2 ?_
    | refine wkN3 ?_
    | refine wkG0 ?_
    | refine wkG1 ?_
    | refine wkG2 ?_
    | refine wkG3 ?_
    | refine wkX0 ?_
    | refine wkX1 ?_
    | refine wkX2 ?_
    | refine wkX3 ?_
    | refine wkN0 ?_
    | refine wkN1 ?_
    | refine wkN2 ?_
    | refine wkN3 ?_
    | ((with_reducible apply TA.oneN 0); (· rfl); (· rfl); (· decide +kernel); (· rfl))
    | ((with_reducible apply TA.oneN 1); (· rfl); (· rfl); (· decide +kernel); (· rfl))
    | ((with_reducible apply TA.oneN 2); (· rfl); (· rfl); (· decide +kernel); (· rfl))
    | ((with_reducible apply TA.oneN 3); (· rfl); (· rfl); (· decide +kernel); (· rfl))
    | refine TQ.any leF selF ?_
    | refine TC.region_any 12 (_) (by kernel_rfl) rfl selF ?_ | refine TA.done (by decide +kernel) ?_ | refine TQ.any_panic ?_
    | refine stS ?_ | (refine stB ?_; intro _) | (refine stC ?_; refine And.intro (fun _ => ?_) (fun _ => ?_))
    | apply TC.region_draw (by kernel_rfl) (by kernel_rfl) | refine TW.nil ?_ | ((with_reducible apply TW.pure); (· exact yA); (· rfl)))
      refine TQ.end_panic (L' := L) rfl (h1) ?_ selF
      exact ⟨rfl, rfl⟩
set_option maxHeartbeats 16000000 in
theorem ureckon_times (m b : Nat) (p : List UInt8) (x : J) (v : Value) (k : Int) (g : Gh) (L : List Ent) (K : AtOk m p x v g) (k0 : -9223372036854775808 ≤ k) (k1 : k ≤ 9223372036854775807) : Does Tryz.prog 97 #[.pointer (some ⟨b, 0, none⟩), str p, .iface 50 (.int .i64 k), .func (.func 99) #[] #[]] g (Wk b v :: L) (WorkR b (reckonU timesL x p (.num k)) L) := by
  refine Does.of4 Tryz.func97 rfl Tryz.ntmps97 rfl ?_
  have ov := K.hx.one
  rw [reckon_at]
  cases hn : numAt (getP p x) with
  | none =>
    have D := fun L => unumber_thr (b := b) (L := L) K hn
    dsimp only
    unfold WorkR
    dsimp only
    clear K
    repeat' (first
    | refine wkQ ?_
    | refine wkV ?_
    | (refine TL.call (Enters.plain (by kernel_rfl) (by rfl)) (by rfl) (Does.perm (D _) permU) ?_; (rintro e g1 Ln h1 ⟨k1, k2⟩; have k2 := k2.symm; subst k1; subst k2; skip; refine CallK.panic ?_))
    | refine wkN0 ?_
    | refine wkN1 ?_
    | refine wkN2 ?_
    | refine wkN3 ?_
    | refine wkG0 ?_
    | refine wkG1 ?_
    | refine wkG2 ?_
    | refine wkG3 ?_
    | refine wkX0 ?_
    | refine wkX1 ?_
    | refine wkX2 ?_
    | refine wkX3 ?_
    | refine wkN0 ?_
    | refine wkN1 ?_
    | refine wkN2 ?_
    | refine wkN3 ?_
    | ((with_reducible apply TA.oneN 0); (· rfl); (· rfl); (· decide +kernel); (· rfl))
    | ((with_reducible apply TA.oneN 1); (· rfl); (· rfl); (· decide +kernel); (· rfl))
    | ((with_reducible apply TA.oneN 2); (· rfl); (· rfl); (· decide +kernel); (· rfl))
    | ((with_reducible apply TA.oneN 3); (· rfl); (· rfl); (· decide +kernel); (· rfl))
    | refine TQ.any leF selF ?_
    | refine TC.region_any 12 (_) (by kernel_rfl) rfl selF ?_ | refine TA.done (by decide +kernel) ?_ | refine TQ.any_panic ?_
    | refine stS ?_ | (refine stB ?_; intro _) | (refine stC ?_; refine And.intro (fun _ => ?_) (fun _ => ?_))
    | apply TC.region_draw (by kernel_rfl) (by kernel_rfl) | refine TW.nil ?_ | ((with_reducible apply TW.pure); (· exact yA); (· rfl)))
    refine TQ.end_panic (L' := L) rfl (h1) ?_ selF
    exact ⟨rfl, rfl⟩
  | some n =>
    have D := fun L => unumber_ret (b := b) (L := L) K hn
    have hb := num_bounds K hn
    have PF := fun g L => nTimes_gives n k g L (by omega) (by omega) k0 k1
    have vb := timesL_val n k
    dsimp only
    obtain ⟨r, q, hr⟩ : ∃ r q, timesL n k = (r, q) := ⟨_, _, rfl⟩
    have qb := timesL_bd n k
    rw [hr] at PF vb qb ⊢
    dsimp only at PF vb qb ⊢
    by_cases h0 : q = 0
    · subst h0
      rw [if_pos rfl]
      have YE := fun g L => uneed_yes g L
      have PU := fun g1 (h : g.le g1) L => uput_does m b p x (.num r) v (.iface 50 (.int .i64 r)) g1 L ((K.le h).wk (by rw [IsJ]; exact ⟨rfl, by omega, by omega⟩) (by rw [szJ]; trivial))
      obtain ⟨e0, o0, ho⟩ : ∃ e0 o0, putE x p (.num r) = (e0, o0) := ⟨_, _, rfl⟩
      rw [ho] at PU ⊢
      unfold WorkR at PU ⊢
      clear K hn hb vb hr
      cases o0 with
      | none =>
        dsimp only at PU ⊢
        repeat' (first
    | refine wkQ ?_
    | refine wkV ?_
    | (refine TL.call (Enters.plain (by kernel_rfl) (by rfl)) (by rfl) (Does.perm (D _) permU) ?_; (rintro e g1 Ln h1 ⟨k1, k2⟩; subst k1; subst k2; skip; refine CallK.ret ?_))
    | refine TL.gives (Enters.func (by rfl) (by kernel_rfl) (by rfl)) (PF g1 _) (by rfl) ?_ | refine TW.gives (Enters.func (by rfl) (by kernel_rfl) (by rfl)) (PF g1 _) (by rfl) ?_
    | ((with_reducible apply TL.gives_plain); (· kernel_rfl); (· rfl); (· exact YE g1 _); (· rfl)) | ((with_reducible apply TW.gives_plain); (· kernel_rfl); (· rfl); (· exact YE g1 _); (· rfl))
    | (refine TL.call (Enters.plain (by kernel_rfl) (by rfl)) (by rfl) (Does.perm (PU g1 h1 _) permU) ?_; (rintro e g2 Ln h2 ⟨k1, k2⟩; have k2 := k2.symm; subst k1; subst k2; skip; refine CallK.panic ?_))
    | refine wkN0 ?_
    | refine wkN1 ?_
    | refine wkN2 ?_
    | refine wkN3 ?_
    | refine wkG0 ?_
    | refine wkG1 ?_
    | refine wkG2 ?_
    | refine wkG3 ?_
    | refine wkX0 ?_
    | refine wkX1 ?_
    | refine wkX2 ?_
    | refine wkX3 ?_
    | refine wkN0 ?_
    | refine wkN1 ?_
    | refine wkN2 ?_
    | refine wkN3 ?_
    | ((with_reducible apply TA.oneN 0); (· rfl); (· rfl); (· decide +kernel); (· rfl))
    | ((with_reducible apply TA.oneN 1); (· rfl); (· rfl); (· decide +kernel); (· rfl))
    | ((with_reducible apply TA.oneN 2); (· rfl); (· rfl); (· decide +kernel); (· rfl))
    | ((with_reducible apply TA.oneN 3); (· rfl); (· rfl); (· decide +kernel); (· rfl))
    | refine TQ.any leF selF ?_
    | refine TC.region_any 12 (_) (by kernel_rfl) rfl selF ?_ | refine TA.done (by decide +kernel) ?_ | refine TQ.any_panic ?_
    | refine stS ?_ | (refine stB ?_; intro _) | (refine stC ?_; refine And.intro (fun _ => ?_) (fun _ => ?_))
    | apply TC.region_draw (by kernel_rfl) (by kernel_rfl) | refine TW.nil ?_ | ((with_reducible apply TW.pure); (· exact yA); (· rfl)))
        refine TQ.end_panic (L' := L) rfl (h1.trans h2) ?_ selF
        exact ⟨rfl, rfl⟩
      | some z =>
        dsimp only at PU ⊢
        repeat' (first
    | refine wkQ ?_
    | refine wkV ?_
    | (refine TL.call (Enters.plain (by kernel_rfl) (by rfl)) (by rfl) (Does.perm (D _) permU) ?_; (rintro e g1 Ln h1 ⟨k1, k2⟩; subst k1; subst k2; skip; refine CallK.ret ?_))
    | refine TL.gives (Enters.func (by rfl) (by kernel_rfl) (by rfl)) (PF g1 _) (by rfl) ?_ | refine TW.gives (Enters.func (by rfl) (by kernel_rfl) (by rfl)) (PF g1 _) (by rfl) ?_
    | ((with_reducible apply TL.gives_plain); (· kernel_rfl); (· rfl); (· exact YE g1 _); (· rfl)) | ((with_reducible apply TW.gives_plain); (· kernel_rfl); (· rfl); (· exact YE g1 _); (· rfl))
    | (refine TL.call (Enters.plain (by kernel_rfl) (by rfl)) (by rfl) (Does.perm (PU g1 h1 _) permU) ?_; (rintro e g2 Ln h2 ⟨v2, k1, k2, o2, j2⟩; subst k1; subst k2; skip; refine CallK.ret ?_))
    | refine wkN0 ?_
    | refine wkN1 ?_
    | refine wkN2 ?_
    | refine wkN3 ?_
    | refine wkG0 ?_
    | refine wkG1 ?_
    | refine wkG2 ?_
    | refine wkG3 ?_
    | refine wkX0 ?_
    | refine wkX1 ?_
    | refine wkX2 ?_
    | refine wkX3 ?_
    | refine wkN0 ?_
    | refine wkN1 ?_
    | refine wkN2 ?_
    | refine wkN3 ?_
    | ((with_reducible apply TA.oneN 0); (· rfl); (· rfl); (· decide +kernel); (· rfl))
    | ((with_reducible apply TA.oneN 1); (· rfl); (· rfl); (· decide +kernel); (· rfl))
    | ((with_reducible apply TA.oneN 2); (· rfl); (· rfl); (· decide +kernel); (· rfl))
    | ((with_reducible apply TA.oneN 3); (· rfl); (· rfl); (· decide +kernel); (· rfl))
    | refine TQ.any leF selF ?_
    | refine TC.region_any 12 (_) (by kernel_rfl) rfl selF ?_ | refine TA.done (by decide +kernel) ?_ | refine TQ.any_panic ?_
    | refine stS ?_ | (refine stB ?_; intro _) | (refine stC ?_; refine And.intro (fun _ => ?_) (fun _ => ?_))
    | apply TC.region_draw (by kernel_rfl) (by kernel_rfl) | refine TW.nil ?_ | ((with_reducible apply TW.pure); (· exact yA); (· rfl)))
        try refine TQ.end_normal ?_
        refine TQ.endR0 (L' := (Wk b v2 :: L)) Tryz.results97 rfl (h1.trans h2) ?_ selF
        exact ⟨v2, rfl, rfl, o2, j2⟩
    · rw [if_neg h0]
      obtain ⟨E, rfl⟩ : ∃ E : Nat, q = (E : Int) := ⟨q.toNat, by omega⟩
      have NO := fun g L => uneed_no E (by omega) g L
      unfold WorkR
      rw [Int.toNat_natCast]
      dsimp only
      clear K hn hb vb hr qb
      repeat' (first
    | refine wkQ ?_
    | refine wkV ?_
    | (refine TL.call (Enters.plain (by kernel_rfl) (by rfl)) (by rfl) (Does.perm (D _) permU) ?_; (rintro e g1 Ln h1 ⟨k1, k2⟩; subst k1; subst k2; skip; refine CallK.ret ?_))
    | refine TL.gives (Enters.func (by rfl) (by kernel_rfl) (by rfl)) (PF g1 _) (by rfl) ?_ | refine TW.gives (Enters.func (by rfl) (by kernel_rfl) (by rfl)) (PF g1 _) (by rfl) ?_
    | refine TL.throws (Enters.plain (by kernel_rfl) (by rfl)) (NO g1 _) (by rfl) ?_
    | refine wkN0 ?_
    | refine wkN1 ?_
    | refine wkN2 ?_
    | refine wkN3 ?_
    | refine wkG0 ?_
    | refine wkG1 ?_
    | refine wkG2 ?_
    | refine wkG3 ?_
    | refine wkX0 ?_
    | refine wkX1 ?_
    | refine wkX2 ?_
    | refine wkX3 ?_
    | refine wkN0 ?_
    | refine wkN1 ?_
    | refine wkN2 ?_
    | refine wkN3 ?_
    | ((with_reducible apply TA.oneN 0); (· rfl); (· rfl); (· decide +kernel); (· rfl))
    | ((with_reducible apply TA.oneN 1); (· rfl); (· rfl); (· decide +kernel); (· rfl))
    | ((with_reducible apply TA.oneN 2); (· rfl); (· rfl); (· decide +kernel); (· rfl))
    | ((with_reducible apply TA.oneN 3); (· rfl); (· rfl); (· decide +kernel); (· rfl))
    | refine TQ.any leF selF ?_
    | refine TC.region_any 12 (_) (by kernel_rfl) rfl selF ?_ | refine TA.done (by decide +kernel) ?_ | refine TQ.any_panic ?_
    | refine stS ?_ | (refine stB ?_; intro _) | (refine stC ?_; refine And.intro (fun _ => ?_) (fun _ => ?_))
    | apply TC.region_draw (by kernel_rfl) (by kernel_rfl) | refine TW.nil ?_ | ((with_reducible apply TW.pure); (· exact yA); (· rfl)))
      refine TQ.end_panic (L' := L) rfl (h1) ?_ selF
      exact ⟨rfl, rfl⟩
set_option maxHeartbeats 16000000 in
theorem uinc_does (m b : Nat) (p : List UInt8) (x : J) (v : Value) (k : Int) (g : Gh) (L : List Ent) (K : AtOk m p x v g) (k0 : -9223372036854775808 ≤ k) (k1 : k ≤ 9223372036854775807) : Does Tryz.prog 59 #[.pointer (some ⟨b, 0, none⟩), str p, .iface 50 (.int .i64 k)] g (Wk b v :: L) (WorkR b (reckonU plusL x p (.num k)) L) := by
  refine Does.of3 Tryz.func59 rfl Tryz.ntmps59 rfl ?_
  have D := fun L => ureckon_plus m b p x v k g L K k0 k1
  obtain ⟨e0, o0, ho⟩ : ∃ e0 o0, reckonU plusL x p (.num k) = (e0, o0) := ⟨_, _, rfl⟩
  rw [ho] at D ⊢
  unfold WorkR at D ⊢
  clear K ho
  cases o0 with
  | none =>
    dsimp only at D ⊢
    repeat' (first
    | refine wkQ ?_
    | refine wkV ?_
    | (refine TL.call (Enters.plain (by kernel_rfl) (by rfl)) (by rfl) (Does.perm (D _) permU) ?_; (rintro e g1 Ln h1 ⟨k1, k2⟩; have k2 := k2.symm; subst k1; subst k2; skip; refine CallK.panic ?_))
    | refine stS ?_ | (refine stB ?_; intro _) | (refine stC ?_; refine And.intro (fun _ => ?_) (fun _ => ?_)))
    refine TQ.end_panic (L' := L) rfl (h1) ?_ selF
    exact ⟨rfl, rfl⟩
  | some z =>
    dsimp only at D ⊢
    repeat' (first
    | refine wkQ ?_
    | refine wkV ?_
    | (refine TL.call (Enters.plain (by kernel_rfl) (by rfl)) (by rfl) (Does.perm (D _) permU) ?_; (rintro e g1 Ln h1 ⟨v1, k1, k2, o1, j1⟩; subst k1; subst k2; skip; refine CallK.ret ?_))
    | refine stS ?_ | (refine stB ?_; intro _) | (refine stC ?_; refine And.intro (fun _ => ?_) (fun _ => ?_)))
    try refine TQ.end_normal ?_
    refine TQ.endR0 (L' := (Wk b v1 :: L)) Tryz.results59 rfl (h1) ?_ selF
    exact ⟨v1, rfl, rfl, o1, j1⟩
set_option maxHeartbeats 16000000 in
theorem umul_does (m b : Nat) (p : List UInt8) (x : J) (v : Value) (k : Int) (g : Gh) (L : List Ent) (K : AtOk m p x v g) (k0 : -9223372036854775808 ≤ k) (k1 : k ≤ 9223372036854775807) : Does Tryz.prog 61 #[.pointer (some ⟨b, 0, none⟩), str p, .iface 50 (.int .i64 k)] g (Wk b v :: L) (WorkR b (reckonU timesL x p (.num k)) L) := by
  refine Does.of3 Tryz.func61 rfl Tryz.ntmps61 rfl ?_
  have D := fun L => ureckon_times m b p x v k g L K k0 k1
  obtain ⟨e0, o0, ho⟩ : ∃ e0 o0, reckonU timesL x p (.num k) = (e0, o0) := ⟨_, _, rfl⟩
  rw [ho] at D ⊢
  unfold WorkR at D ⊢
  clear K ho
  cases o0 with
  | none =>
    dsimp only at D ⊢
    repeat' (first
    | refine wkQ ?_
    | refine wkV ?_
    | (refine TL.call (Enters.plain (by kernel_rfl) (by rfl)) (by rfl) (Does.perm (D _) permU) ?_; (rintro e g1 Ln h1 ⟨k1, k2⟩; have k2 := k2.symm; subst k1; subst k2; skip; refine CallK.panic ?_))
    | refine stS ?_ | (refine stB ?_; intro _) | (refine stC ?_; refine And.intro (fun _ => ?_) (fun _ => ?_)))
    refine TQ.end_panic (L' := L) rfl (h1) ?_ selF
    exact ⟨rfl, rfl⟩
  | some z =>
    dsimp only at D ⊢
    repeat' (first
    | refine wkQ ?_
    | refine wkV ?_
    | (refine TL.call (Enters.plain (by kernel_rfl) (by rfl)) (by rfl) (Does.perm (D _) permU) ?_; (rintro e g1 Ln h1 ⟨v1, k1, k2, o1, j1⟩; subst k1; subst k2; skip; refine CallK.ret ?_))
    | refine stS ?_ | (refine stB ?_; intro _) | (refine stC ?_; refine And.intro (fun _ => ?_) (fun _ => ?_)))
    try refine TQ.end_normal ?_
    refine TQ.endR0 (L' := (Wk b v1 :: L)) Tryz.results61 rfl (h1) ?_ selF
    exact ⟨v1, rfl, rfl, o1, j1⟩
set_option maxHeartbeats 16000000 in
theorem umin_does (m b : Nat) (p : List UInt8) (x : J) (v : Value) (y : J) (u : Value) (g : Gh) (L : List Ent) (K : AtOk m p x v g) (hy : IsJ g y u) (zy : szJ m y) (ly : lookJ y 0 = 0) : Does Tryz.prog 62 #[.pointer (some ⟨b, 0, none⟩), str p, u] g (Wk b v :: L) (WorkR b (boundU cmpJ (-1) x p y) L) := by
  refine Does.of3 Tryz.func62 rfl Tryz.ntmps62 rfl ?_
  have D := fun L => ubound_does (-1) m b p x y v u g L K hy zy ly
  obtain ⟨e0, o0, ho⟩ : ∃ e0 o0, boundU cmpJ (-1) x p y = (e0, o0) := ⟨_, _, rfl⟩
  rw [ho] at D ⊢
  unfold WorkR at D ⊢
  clear K ho
  cases o0 with
  | none =>
    dsimp only at D ⊢
    repeat' (first
    | refine wkQ ?_
    | refine wkV ?_
    | (refine TL.call (Enters.plain (by kernel_rfl) (by rfl)) (by rfl) (Does.perm (D _) permU) ?_; (rintro e g1 Ln h1 ⟨k1, k2⟩; have k2 := k2.symm; subst k1; subst k2; skip; refine CallK.panic ?_))
    | refine stS ?_ | (refine stB ?_; intro _) | (refine stC ?_; refine And.intro (fun _ => ?_) (fun _ => ?_)))
    refine TQ.end_panic (L' := L) rfl (h1) ?_ selF
    exact ⟨rfl, rfl⟩
  | some z =>
    dsimp only at D ⊢
    repeat' (first
    | refine wkQ ?_
    | refine wkV ?_
    | (refine TL.call (Enters.plain (by kernel_rfl) (by rfl)) (by rfl) (Does.perm (D _) permU) ?_; (rintro e g1 Ln h1 ⟨v1, k1, k2, o1, j1⟩; subst k1; subst k2; skip; refine CallK.ret ?_))
    | refine stS ?_ | (refine stB ?_; intro _) | (refine stC ?_; refine And.intro (fun _ => ?_) (fun _ => ?_)))
    try refine TQ.end_normal ?_
    refine TQ.endR0 (L' := (Wk b v1 :: L)) Tryz.results62 rfl (h1) ?_ selF
    exact ⟨v1, rfl, rfl, o1, j1⟩
set_option maxHeartbeats 16000000 in
theorem umax_does (m b : Nat) (p : List UInt8) (x : J) (v : Value) (y : J) (u : Value) (g : Gh) (L : List Ent) (K : AtOk m p x v g) (hy : IsJ g y u) (zy : szJ m y) (ly : lookJ y 0 = 0) : Does Tryz.prog 63 #[.pointer (some ⟨b, 0, none⟩), str p, u] g (Wk b v :: L) (WorkR b (boundU cmpJ 1 x p y) L) := by
  refine Does.of3 Tryz.func63 rfl Tryz.ntmps63 rfl ?_
  have D := fun L => ubound_does 1 m b p x y v u g L K hy zy ly
  obtain ⟨e0, o0, ho⟩ : ∃ e0 o0, boundU cmpJ 1 x p y = (e0, o0) := ⟨_, _, rfl⟩
  rw [ho] at D ⊢
  unfold WorkR at D ⊢
  clear K ho
  cases o0 with
  | none =>
    dsimp only at D ⊢
    repeat' (first
    | refine wkQ ?_
    | refine wkV ?_
    | (refine TL.call (Enters.plain (by kernel_rfl) (by rfl)) (by rfl) (Does.perm (D _) permU) ?_; (rintro e g1 Ln h1 ⟨k1, k2⟩; have k2 := k2.symm; subst k1; subst k2; skip; refine CallK.panic ?_))
    | refine stS ?_ | (refine stB ?_; intro _) | (refine stC ?_; refine And.intro (fun _ => ?_) (fun _ => ?_)))
    refine TQ.end_panic (L' := L) rfl (h1) ?_ selF
    exact ⟨rfl, rfl⟩
  | some z =>
    dsimp only at D ⊢
    repeat' (first
    | refine wkQ ?_
    | refine wkV ?_
    | (refine TL.call (Enters.plain (by kernel_rfl) (by rfl)) (by rfl) (Does.perm (D _) permU) ?_; (rintro e g1 Ln h1 ⟨v1, k1, k2, o1, j1⟩; subst k1; subst k2; skip; refine CallK.ret ?_))
    | refine stS ?_ | (refine stB ?_; intro _) | (refine stC ?_; refine And.intro (fun _ => ?_) (fun _ => ?_)))
    try refine TQ.end_normal ?_
    refine TQ.endR0 (L' := (Wk b v1 :: L)) Tryz.results63 rfl (h1) ?_ selF
    exact ⟨v1, rfl, rfl, o1, j1⟩
end Go.Proofs.YthngolfabfijpaaGreatDoor
