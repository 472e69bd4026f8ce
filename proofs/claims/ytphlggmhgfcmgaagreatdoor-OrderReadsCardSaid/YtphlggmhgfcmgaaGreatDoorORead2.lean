/-
  The walk of order's reader: word.
-/
import Derived.Test.YtphlggmhgfcmgaaGreatDoorORead
import Derived.Test.YtphlggmhgfcmgaaGreatDoorBuilder
namespace Go.Proofs.YtphlggmhgfcmgaaGreatDoor
open Go.RowKit Go.TL
set_option maxRecDepth 100000

/-- The text whose key these bytes begin with, and what is behind. -/
def wordP : List UInt8 → Option (List UInt8 × List UInt8)
  | [] => none
  | [c] => none
  | c :: d :: t => if c = 0 then (if d = 1 then some ([], t) else if d = 255 then (wordP t).map fun p => (0 :: p.1, p.2) else none) else (wordP (d :: t)).map fun p => (c :: p.1, p.2)
theorem wordP_cons {c : UInt8} (h : c ≠ 0) (t : List UInt8) : wordP (c :: t) = (wordP t).map fun p => (c :: p.1, p.2) := by
  cases t with
  | nil => rw [wordP, wordP]; rfl
  | cons d u => rw [wordP, if_neg h]
theorem wordP_len : ∀ (n : Nat) (s : List UInt8), s.length ≤ n → ∀ {a r : List UInt8}, wordP s = some (a, r) → a.length + r.length + 2 ≤ s.length
  | _, [], _, _, _, h => by rw [wordP] at h; cases h
  | _, [c], _, _, _, h => by rw [wordP] at h; cases h
  | 0, c :: d :: t, hn, _, _, _ => by simp at hn
  | n + 1, c :: d :: t, hn, a, r, h => by
    rw [List.length_cons, List.length_cons] at hn
    rw [wordP] at h
    simp only [List.length_cons]
    split at h
    · split at h
      · obtain ⟨rfl, rfl⟩ : [] = a ∧ t = r := by simpa using h
        simp
      · split at h
        · obtain ⟨⟨a', r'⟩, h1, h2⟩ := Option.map_eq_some_iff.1 h
          obtain ⟨rfl, rfl⟩ : 0 :: a' = a ∧ r' = r := by simpa using h2
          have := wordP_len n t (by omega) h1
          simp only [List.length_cons]; omega
        · cases h
    · obtain ⟨⟨a', r'⟩, h1, h2⟩ := Option.map_eq_some_iff.1 h
      obtain ⟨rfl, rfl⟩ : c :: a' = a ∧ r' = r := by simpa using h2
      have := wordP_len n (d :: t) (by simp only [List.length_cons]; omega) h1
      simp only [List.length_cons] at this ⊢; omega
/-- What comes of reading: nothing, once something was wrong. -/
def OutW (o : Option (List UInt8 × List UInt8)) (w w' : Bool) (x s' : List UInt8) : Prop := if w = true then w' = true else match o with
  | none => w' = true
  | some (a, r) => w' = false ∧ s' = r ∧ x = a
def WordR (s : List UInt8) (w : Bool) (br : Nat) (g : Gh) (L : List Ent) : Ending → Gh → List Ent → Prop := fun r g' L1 => ∃ v' w' x s', r = .returned (str x) ∧ g' = g ∧ L1 = RdO br v' w' :: L ∧ Sl g v' s'.length 1 (byteVals s') ∧ s'.length ≤ s.length ∧ x.length ≤ s.length ∧ OutW (wordP s) w w' x s'
/-- On the way. -/
structure WordI (s0 : List UInt8) (w0 : Bool) (g : Gh) (bb : Nat) (x : List UInt8 × Bool × Value × List UInt8 × Value × Value) : Prop where
  sl : Sl g x.2.2.1 x.1.length 1 (byteVals x.1)
  le : x.1.length + x.2.2.2.1.length ≤ s0.length
  bp : BdP bb x.2.2.2.2.1
  bn : x.2.2.2.1 = [] → x.2.2.2.2.2 = .slice none 0 0
  no : x.2.1 = true → w0 = true ∨ wordP s0 = none
  yes : x.2.1 = false → w0 = false ∧ wordP s0 = (wordP x.1).map fun p => (x.2.2.2.1 ++ p.1, p.2)
theorem bdp_used (b : Nat) : BdP b (.pointer (some ⟨b, 0, none⟩)) := .inr rfl
set_option maxHeartbeats 16000000 in
theorem word_does (s0 : List UInt8) (w0 : Bool) (v0 : Value) (br : Nat) (g : Gh) (L : List Ent) (hS : Sl g v0 s0.length 1 (byteVals s0)) (hl : s0.length ≤ 1000000) : Does Tryz.prog 21 #[.pointer (some ⟨br, 0, none⟩)] g (RdO br v0 w0 :: L) (WordR s0 w0 br g L) := by
  refine Does.of1 Tryz.func21 rfl Tryz.ntmps21 rfl ?_
  repeat' (first
    | ((with_reducible apply TL.pure); (· exact yA); (· rfl))
    | refine TC.seq ?_ | refine TC.region ?_ | refine TL.nil ?_ | refine TQ.then_normal ?_
    | ((with_reducible apply TL.storeE); (· rfl); (· rfl); (· rfl); (· exact pkA); (· infer_instance)) | ((with_reducible apply TL.store_whole); (· rfl); (· rfl); (· exact oneA); (· rfl); (· exact pkA); (· rfl))
    | refine TC.block ?_ | refine TC.ret ?_ | refine TC.skip ?_ | refine TC.exit ?_ | refine TC.cond rfl ?_
    | refine TQ.down ?_ | refine TQ.in_exit' rfl ?_
    | refine TL.guard_yes rfl rfl ?_ | refine TL.guard_no rfl rfl rfl rfl ?_ | refine TL.guard_no0 rfl rfl rfl ?_ | refine TL.guard_undef rfl rfl rfl ?_ | refine TL.guard_undef0 rfl rfl ?_ | refine TL.guard rfl rfl rfl ?_
    | refine Br.t rfl ?_ | refine Br.f rfl ?_ | refine Br.ky kpA ?_ | refine Br.kn kpA ?_ | refine Br.nky kpA ?_ | refine Br.nkn kpA ?_
    | refine Br.eq0 (fun _ => ?_) (fun _ => ?_) | refine Br.neq0 (fun _ => ?_) (fun _ => ?_) | refine Br.eq (fun _ => ?_) (fun _ => ?_) | refine Br.neq (fun _ => ?_) (fun _ => ?_) | refine Br.not (fun _ => ?_) (fun _ => ?_) | refine Br.dec (fun _ => ?_) (fun _ => ?_) | refine Br.bool (fun _ => ?_) (fun _ => ?_)
    | ((with_reducible apply TL.alloc_ag); (· rfl); intro _) | ((with_reducible apply TL.alloc_sc); (· rfl); (· rfl); intro _) | ((with_reducible apply TL.box_ag); (· rfl); (· rfl); intro _) | ((with_reducible apply TL.box_sc); (· rfl); (· rfl); (· rfl); intro _))
  rename_i bb
  refine TC.row_nil 5 1 ?_
  refine TC.loopL (WordI s0 w0 g bb) (fun x => 2 * x.1.length + (if x.2.1 = true then 0 else 1)) (fun x _ => [(3, .pointer (some ⟨bb, 0, none⟩)), (0, .pointer (some ⟨br, 0, none⟩))]) (fun x => RdO br x.2.2.1 x.2.1 :: BdL bb x.2.2.2.2.1 x.2.2.2.2.2 x.2.2.2.1 L) (s0, w0, v0, [], .pointer none, .slice none 0 0) ?_ subA selA ?_
  · refine ⟨hS, by simp, .inl rfl, fun _ => rfl, fun h => .inl h, fun h => ⟨h, ?_⟩⟩
    show wordP s0 = _
    cases wordP s0 <;> rfl
  clear hS
  rintro ⟨s, w, v, acc, p, vb⟩ ⟨hS, hle, hp, hbn, hno, hyes⟩
  dsimp only at hS hle hp hbn hno hyes ⊢
  unfold BdL
  cases w with
  | true =>
    repeat' (first
    | ((with_reducible apply TL.pure); (· exact yA); (· rfl))
    | refine TC.seq ?_ | refine TC.region ?_ | refine TL.nil ?_ | refine TQ.then_normal ?_
    | ((with_reducible apply TL.storeE); (· rfl); (· rfl); (· rfl); (· exact pkA); (· infer_instance)) | ((with_reducible apply TL.store_whole); (· rfl); (· rfl); (· exact oneA); (· rfl); (· exact pkA); (· rfl))
    | refine TC.block ?_ | refine TC.ret ?_ | refine TC.skip ?_ | refine TC.exit ?_ | refine TC.cond rfl ?_
    | refine TQ.down ?_ | refine TQ.in_exit' rfl ?_
    | refine TL.guard_yes rfl rfl ?_ | refine TL.guard_no rfl rfl rfl rfl ?_ | refine TL.guard_no0 rfl rfl rfl ?_ | refine TL.guard_undef rfl rfl rfl ?_ | refine TL.guard_undef0 rfl rfl ?_ | refine TL.guard rfl rfl rfl ?_
    | refine Br.t rfl ?_ | refine Br.f rfl ?_ | refine Br.ky kpA ?_ | refine Br.kn kpA ?_ | refine Br.nky kpA ?_ | refine Br.nkn kpA ?_
    | refine Br.eq0 (fun _ => ?_) (fun _ => ?_) | refine Br.neq0 (fun _ => ?_) (fun _ => ?_) | refine Br.eq (fun _ => ?_) (fun _ => ?_) | refine Br.neq (fun _ => ?_) (fun _ => ?_) | refine Br.not (fun _ => ?_) (fun _ => ?_) | refine Br.dec (fun _ => ?_) (fun _ => ?_) | refine Br.bool (fun _ => ?_) (fun _ => ?_)
    | ((with_reducible apply TL.alloc_ag); (· rfl); intro _) | ((with_reducible apply TL.alloc_sc); (· rfl); (· rfl); intro _) | ((with_reducible apply TL.box_ag); (· rfl); (· rfl); intro _) | ((with_reducible apply TL.box_sc); (· rfl); (· rfl); (· rfl); intro _))
    refine TQ.endR1 (L' := (RdO br v true :: L)) Tryz.results21 rvA rfl (.refl _) ?_ selA
    refine ⟨v, true, [], s, rfl, rfl, rfl, hS, by omega, by simp, ?_⟩
    unfold OutW
    rcases hno rfl with h | h
    · rw [if_pos h]
    · rw [h]; split <;> rfl
  | false =>
    obtain ⟨rfl, hy⟩ := hyes rfl
    clear hno hyes
    have hl1 : s.length ≤ 1000000 := by omega
    have N1 := fun L => next_does s false v br g L hS hl1
    unfold NextR at N1
    cases s with
    | nil =>
      have hno : wordP s0 = none := by rw [hy, wordP]; rfl
      have N2 := fun v' hS' L => next_does [] true v' br g L hS' (Nat.zero_le _)
      unfold NextR at N2
      clear hy hS hl1
      repeat' (first
    | (refine TL.call (Enters.plain (by kernel_rfl) (by rfl)) (by rfl) (Does.perm (N1 _) (by first | exact List.Perm.refl _ | exact Pk.cons pkA (List.Perm.refl _))) ?_; (rintro e g1 Ln _ ⟨v1, k1, k2, k3, s1⟩; have k2 := k2.symm; subst k1; subst k2; subst k3; refine CallK.ret ?_))
    | (refine TL.call (Enters.plain (by kernel_rfl) (by rfl)) (by rfl) (Does.perm (N2 _ (by assumption) _) (by first | exact List.Perm.refl _ | exact Pk.cons pkA (List.Perm.refl _))) ?_; (rintro e g2 Ln _ ⟨v2, k1, k2, k3, s2⟩; have k2 := k2.symm; subst k1; subst k2; subst k3; refine CallK.ret ?_))
    | ((with_reducible apply TL.pure); (· exact yA); (· rfl))
    | refine TC.seq ?_ | refine TC.region ?_ | refine TL.nil ?_ | refine TQ.then_normal ?_
    | ((with_reducible apply TL.storeE); (· rfl); (· rfl); (· rfl); (· exact pkA); (· infer_instance)) | ((with_reducible apply TL.store_whole); (· rfl); (· rfl); (· exact oneA); (· rfl); (· exact pkA); (· rfl))
    | refine TC.block ?_ | refine TC.ret ?_ | refine TC.skip ?_ | refine TC.exit ?_ | refine TC.cond rfl ?_
    | refine TQ.down ?_ | refine TQ.in_exit' rfl ?_
    | refine TL.guard_yes rfl rfl ?_ | refine TL.guard_no rfl rfl rfl rfl ?_ | refine TL.guard_no0 rfl rfl rfl ?_ | refine TL.guard_undef rfl rfl rfl ?_ | refine TL.guard_undef0 rfl rfl ?_ | refine TL.guard rfl rfl rfl ?_
    | refine Br.t rfl ?_ | refine Br.f rfl ?_ | refine Br.ky kpA ?_ | refine Br.kn kpA ?_ | refine Br.nky kpA ?_ | refine Br.nkn kpA ?_
    | refine Br.eq0 (fun _ => ?_) (fun _ => ?_) | refine Br.neq0 (fun _ => ?_) (fun _ => ?_) | refine Br.eq (fun _ => ?_) (fun _ => ?_) | refine Br.neq (fun _ => ?_) (fun _ => ?_) | refine Br.not (fun _ => ?_) (fun _ => ?_) | refine Br.dec (fun _ => ?_) (fun _ => ?_) | refine Br.bool (fun _ => ?_) (fun _ => ?_)
    | ((with_reducible apply TL.alloc_ag); (· rfl); intro _) | ((with_reducible apply TL.alloc_sc); (· rfl); (· rfl); intro _) | ((with_reducible apply TL.box_ag); (· rfl); (· rfl); intro _) | ((with_reducible apply TL.box_sc); (· rfl); (· rfl); (· rfl); intro _))
      refine TQ.round ([], true, v2, acc, p, vb) ?_ ?_ rfl subA selA
      · exact ⟨s2, hle, hp, hbn, fun _ => .inr hno, fun h => (by cases h)⟩
      · show 2 * 0 + 0 < 2 * 0 + 1
        omega
    | cons c t =>
      rw [List.length_cons] at hle hl1
      have hct : (c.toNat : Int) = 0 → c = 0 := fun h => UInt8.toNat_inj.1 (by show c.toNat = 0; omega)
      by_cases hc : c = 0
      · subst hc
        clear hct
        have N2 := fun v' (hS' : Sl g v' (nextL (0 :: t)).2.length 1 (byteVals (nextL (0 :: t)).2)) L => next_does t false v' br g L hS' (by omega)
        unfold NextR at N2
        cases t with
        | nil =>
          have hno : wordP s0 = none := by rw [hy, wordP]; rfl
          clear hy hS hl1
          repeat' (first
    | (refine TL.call (Enters.plain (by kernel_rfl) (by rfl)) (by rfl) (Does.perm (N1 _) (by first | exact List.Perm.refl _ | exact Pk.cons pkA (List.Perm.refl _))) ?_; (rintro e g1 Ln _ ⟨v1, k1, k2, k3, s1⟩; have k2 := k2.symm; subst k1; subst k2; subst k3; refine CallK.ret ?_))
    | (refine TL.call (Enters.plain (by kernel_rfl) (by rfl)) (by rfl) (Does.perm (N2 _ (by assumption) _) (by first | exact List.Perm.refl _ | exact Pk.cons pkA (List.Perm.refl _))) ?_; (rintro e g2 Ln _ ⟨v2, k1, k2, k3, s2⟩; have k2 := k2.symm; subst k1; subst k2; subst k3; refine CallK.ret ?_))
    | ((with_reducible apply TL.pure); (· exact yA); (· rfl))
    | refine TC.seq ?_ | refine TC.region ?_ | refine TL.nil ?_ | refine TQ.then_normal ?_
    | ((with_reducible apply TL.storeE); (· rfl); (· rfl); (· rfl); (· exact pkA); (· infer_instance)) | ((with_reducible apply TL.store_whole); (· rfl); (· rfl); (· exact oneA); (· rfl); (· exact pkA); (· rfl))
    | refine TC.block ?_ | refine TC.ret ?_ | refine TC.skip ?_ | refine TC.exit ?_ | refine TC.cond rfl ?_
    | refine TQ.down ?_ | refine TQ.in_exit' rfl ?_
    | refine TL.guard_yes rfl rfl ?_ | refine TL.guard_no rfl rfl rfl rfl ?_ | refine TL.guard_no0 rfl rfl rfl ?_ | refine TL.guard_undef rfl rfl rfl ?_ | refine TL.guard_undef0 rfl rfl ?_ | refine TL.guard rfl rfl rfl ?_
    | refine Br.t rfl ?_ | refine Br.f rfl ?_ | refine Br.ky kpA ?_ | refine Br.kn kpA ?_ | refine Br.nky kpA ?_ | refine Br.nkn kpA ?_
    | refine Br.eq0 (fun _ => ?_) (fun _ => ?_) | refine Br.neq0 (fun _ => ?_) (fun _ => ?_) | refine Br.eq (fun _ => ?_) (fun _ => ?_) | refine Br.neq (fun _ => ?_) (fun _ => ?_) | refine Br.not (fun _ => ?_) (fun _ => ?_) | refine Br.dec (fun _ => ?_) (fun _ => ?_) | refine Br.bool (fun _ => ?_) (fun _ => ?_)
    | ((with_reducible apply TL.alloc_ag); (· rfl); intro _) | ((with_reducible apply TL.alloc_sc); (· rfl); (· rfl); intro _) | ((with_reducible apply TL.box_ag); (· rfl); (· rfl); intro _) | ((with_reducible apply TL.box_sc); (· rfl); (· rfl); (· rfl); intro _))
          refine TQ.round ([], true, v2, acc, p, vb) ?_ ?_ rfl subA selA
          · exact ⟨s2, by simp at hle ⊢; omega, hp, hbn, fun _ => .inr hno, fun h => (by cases h)⟩
          · show 2 * 0 + 0 < 2 * 1 + 1
            omega
        | cons d u =>
          rw [List.length_cons] at hle hl1
          have hsy : wordP s0 = (if d = 1 then some ([], u) else if d = 255 then (wordP u).map fun p => (0 :: p.1, p.2) else none).map fun p => (acc ++ p.1, p.2) := by rw [hy, wordP, if_pos rfl]
          have S1 := bdstring_turns bb p vb acc g
          have d1 : (d.toNat : Int) = 1 ↔ d = 1 := ⟨fun h => UInt8.toNat_inj.1 (by show d.toNat = 1; omega), fun h => by subst h; rfl⟩
          have d2 : (d.toNat : Int) = 255 ↔ d = 255 := ⟨fun h => UInt8.toNat_inj.1 (by show d.toNat = 255; omega), fun h => by subst h; rfl⟩
          by_cases h1 : d = 1
          · subst h1
            rw [if_pos rfl] at hsy
            clear hy hS d1 d2
            repeat' (first
    | (refine TL.call (Enters.plain (by kernel_rfl) (by rfl)) (by rfl) (Does.perm (N1 _) (by first | exact List.Perm.refl _ | exact Pk.cons pkA (List.Perm.refl _))) ?_; (rintro e g1 Ln _ ⟨v1, k1, k2, k3, s1⟩; have k2 := k2.symm; subst k1; subst k2; subst k3; refine CallK.ret ?_))
    | (refine TL.call (Enters.plain (by kernel_rfl) (by rfl)) (by rfl) (Does.perm (N2 _ (by assumption) _) (by first | exact List.Perm.refl _ | exact Pk.cons pkA (List.Perm.refl _))) ?_; (rintro e g2 Ln _ ⟨v2, k1, k2, k3, s2⟩; have k2 := k2.symm; subst k1; subst k2; subst k3; refine CallK.ret ?_))
    | apply TL.turns (Enters.func (by rfl) (by kernel_rfl) (by rfl)) (S1 _ hbn) permA (by rfl) | apply TL.turns (Enters.plain (by kernel_rfl) (by rfl)) (S1 _ hbn) permA (by rfl)
    | ((with_reducible apply TL.pure); (· exact yA); (· rfl))
    | refine TC.seq ?_ | refine TC.region ?_ | refine TL.nil ?_ | refine TQ.then_normal ?_
    | ((with_reducible apply TL.storeE); (· rfl); (· rfl); (· rfl); (· exact pkA); (· infer_instance)) | ((with_reducible apply TL.store_whole); (· rfl); (· rfl); (· exact oneA); (· rfl); (· exact pkA); (· rfl))
    | refine TC.block ?_ | refine TC.ret ?_ | refine TC.skip ?_ | refine TC.exit ?_ | refine TC.cond rfl ?_
    | refine TQ.down ?_ | refine TQ.in_exit' rfl ?_
    | refine TL.guard_yes rfl rfl ?_ | refine TL.guard_no rfl rfl rfl rfl ?_ | refine TL.guard_no0 rfl rfl rfl ?_ | refine TL.guard_undef rfl rfl rfl ?_ | refine TL.guard_undef0 rfl rfl ?_ | refine TL.guard rfl rfl rfl ?_
    | refine Br.t rfl ?_ | refine Br.f rfl ?_ | refine Br.ky kpA ?_ | refine Br.kn kpA ?_ | refine Br.nky kpA ?_ | refine Br.nkn kpA ?_
    | refine Br.eq0 (fun _ => ?_) (fun _ => ?_) | refine Br.neq0 (fun _ => ?_) (fun _ => ?_) | refine Br.eq (fun _ => ?_) (fun _ => ?_) | refine Br.neq (fun _ => ?_) (fun _ => ?_) | refine Br.not (fun _ => ?_) (fun _ => ?_) | refine Br.dec (fun _ => ?_) (fun _ => ?_) | refine Br.bool (fun _ => ?_) (fun _ => ?_)
    | ((with_reducible apply TL.alloc_ag); (· rfl); intro _) | ((with_reducible apply TL.alloc_sc); (· rfl); (· rfl); intro _) | ((with_reducible apply TL.box_ag); (· rfl); (· rfl); intro _) | ((with_reducible apply TL.box_sc); (· rfl); (· rfl); (· rfl); intro _))
            refine TQ.endR1 (L' := (RdO br v2 false :: L)) Tryz.results21 rvA rfl (.refl _) ?_ selA
            refine ⟨v2, false, acc, u, rfl, rfl, rfl, s2, by omega, by omega, ?_⟩
            unfold OutW
            rw [hsy]
            simp
          by_cases h2 : d = 255
          · subst h2
            rw [if_neg (by decide), if_pos rfl] at hsy
            have B := fun L => bdbyte_does hp vb acc 0 g L (by omega)
            unfold ByteR at B
            rw [show (((0 : UInt8).toNat : Nat) : Int) = 0 from rfl] at B
            clear hy hS d1 d2 S1
            repeat' (first
    | (refine TL.call (Enters.plain (by kernel_rfl) (by rfl)) (by rfl) (Does.perm (N1 _) (by first | exact List.Perm.refl _ | exact Pk.cons pkA (List.Perm.refl _))) ?_; (rintro e g1 Ln _ ⟨v1, k1, k2, k3, s1⟩; have k2 := k2.symm; subst k1; subst k2; subst k3; refine CallK.ret ?_))
    | (refine TL.call (Enters.plain (by kernel_rfl) (by rfl)) (by rfl) (Does.perm (N2 _ (by assumption) _) (by first | exact List.Perm.refl _ | exact Pk.cons pkA (List.Perm.refl _))) ?_; (rintro e g2 Ln _ ⟨v2, k1, k2, k3, s2⟩; have k2 := k2.symm; subst k1; subst k2; subst k3; refine CallK.ret ?_))
    | (refine TL.call (Enters.plain (by kernel_rfl) (by rfl)) (by rfl) (Does.perm (B _) (Pk.cons pkA (Pk.cons pkA (List.Perm.refl _)))) ?_; (rintro e gw Lw _ ⟨vb', k1, k2, k3⟩; have k2 := k2.symm; subst k1; subst k2; subst k3; refine CallK.ret ?_))
    | ((with_reducible apply TL.pure); (· exact yA); (· rfl))
    | refine TC.seq ?_ | refine TC.region ?_ | refine TL.nil ?_ | refine TQ.then_normal ?_
    | ((with_reducible apply TL.storeE); (· rfl); (· rfl); (· rfl); (· exact pkA); (· infer_instance)) | ((with_reducible apply TL.store_whole); (· rfl); (· rfl); (· exact oneA); (· rfl); (· exact pkA); (· rfl))
    | refine TC.block ?_ | refine TC.ret ?_ | refine TC.skip ?_ | refine TC.exit ?_ | refine TC.cond rfl ?_
    | refine TQ.down ?_ | refine TQ.in_exit' rfl ?_
    | refine TL.guard_yes rfl rfl ?_ | refine TL.guard_no rfl rfl rfl rfl ?_ | refine TL.guard_no0 rfl rfl rfl ?_ | refine TL.guard_undef rfl rfl rfl ?_ | refine TL.guard_undef0 rfl rfl ?_ | refine TL.guard rfl rfl rfl ?_
    | refine Br.t rfl ?_ | refine Br.f rfl ?_ | refine Br.ky kpA ?_ | refine Br.kn kpA ?_ | refine Br.nky kpA ?_ | refine Br.nkn kpA ?_
    | refine Br.eq0 (fun _ => ?_) (fun _ => ?_) | refine Br.neq0 (fun _ => ?_) (fun _ => ?_) | refine Br.eq (fun _ => ?_) (fun _ => ?_) | refine Br.neq (fun _ => ?_) (fun _ => ?_) | refine Br.not (fun _ => ?_) (fun _ => ?_) | refine Br.dec (fun _ => ?_) (fun _ => ?_) | refine Br.bool (fun _ => ?_) (fun _ => ?_)
    | ((with_reducible apply TL.alloc_ag); (· rfl); intro _) | ((with_reducible apply TL.alloc_sc); (· rfl); (· rfl); intro _) | ((with_reducible apply TL.box_ag); (· rfl); (· rfl); intro _) | ((with_reducible apply TL.box_sc); (· rfl); (· rfl); (· rfl); intro _))
            refine TQ.round (u, false, v2, acc ++ [0], .pointer (some ⟨bb, 0, none⟩), vb') ?_ ?_ rfl subA selA
            · refine ⟨s2, by simp; omega, bdp_used bb, by simp, fun h => (by cases h), fun _ => ⟨rfl, ?_⟩⟩
              show wordP s0 = _
              rw [hsy, Option.map_map]
              congr 1
              funext q
              simp
            · show 2 * u.length + 1 < 2 * (u.length + 1 + 1) + 1
              omega
          · rw [if_neg h1, if_neg h2] at hsy
            have n1 : Hn (¬ (d.toNat : Int) = 1) := ⟨fun h => h1 (d1.1 h)⟩
            have n2 : Hn (¬ (d.toNat : Int) = 255) := ⟨fun h => h2 (d2.1 h)⟩
            clear hy hS d1 d2 S1 h1 h2
            repeat' (first
    | (refine TL.call (Enters.plain (by kernel_rfl) (by rfl)) (by rfl) (Does.perm (N1 _) (by first | exact List.Perm.refl _ | exact Pk.cons pkA (List.Perm.refl _))) ?_; (rintro e g1 Ln _ ⟨v1, k1, k2, k3, s1⟩; have k2 := k2.symm; subst k1; subst k2; subst k3; refine CallK.ret ?_))
    | (refine TL.call (Enters.plain (by kernel_rfl) (by rfl)) (by rfl) (Does.perm (N2 _ (by assumption) _) (by first | exact List.Perm.refl _ | exact Pk.cons pkA (List.Perm.refl _))) ?_; (rintro e g2 Ln _ ⟨v2, k1, k2, k3, s2⟩; have k2 := k2.symm; subst k1; subst k2; subst k3; refine CallK.ret ?_))
    | ((with_reducible apply TL.pure); (· exact yA); (· rfl))
    | refine TC.seq ?_ | refine TC.region ?_ | refine TL.nil ?_ | refine TQ.then_normal ?_
    | ((with_reducible apply TL.storeE); (· rfl); (· rfl); (· rfl); (· exact pkA); (· infer_instance)) | ((with_reducible apply TL.store_whole); (· rfl); (· rfl); (· exact oneA); (· rfl); (· exact pkA); (· rfl))
    | refine TC.block ?_ | refine TC.ret ?_ | refine TC.skip ?_ | refine TC.exit ?_ | refine TC.cond rfl ?_
    | refine TQ.down ?_ | refine TQ.in_exit' rfl ?_
    | refine TL.guard_yes rfl rfl ?_ | refine TL.guard_no rfl rfl rfl rfl ?_ | refine TL.guard_no0 rfl rfl rfl ?_ | refine TL.guard_undef rfl rfl rfl ?_ | refine TL.guard_undef0 rfl rfl ?_ | refine TL.guard rfl rfl rfl ?_
    | refine Br.t rfl ?_ | refine Br.f rfl ?_ | refine Br.ky kpA ?_ | refine Br.kn kpA ?_ | refine Br.nky kpA ?_ | refine Br.nkn kpA ?_
    | refine Br.eq0 (fun _ => ?_) (fun _ => ?_) | refine Br.neq0 (fun _ => ?_) (fun _ => ?_) | refine Br.eq (fun _ => ?_) (fun _ => ?_) | refine Br.neq (fun _ => ?_) (fun _ => ?_) | refine Br.not (fun _ => ?_) (fun _ => ?_) | refine Br.dec (fun _ => ?_) (fun _ => ?_) | refine Br.bool (fun _ => ?_) (fun _ => ?_)
    | ((with_reducible apply TL.alloc_ag); (· rfl); intro _) | ((with_reducible apply TL.alloc_sc); (· rfl); (· rfl); intro _) | ((with_reducible apply TL.box_ag); (· rfl); (· rfl); intro _) | ((with_reducible apply TL.box_sc); (· rfl); (· rfl); (· rfl); intro _))
            refine TQ.round (u, true, v2, acc, p, vb) ?_ ?_ rfl subA selA
            · exact ⟨s2, by dsimp only; omega, hp, hbn, fun _ => .inr hsy, fun h => (by cases h)⟩
            · show 2 * u.length + 0 < 2 * (u.length + 1 + 1) + 1
              omega
      · have hn0 : Hn (¬ (c.toNat : Int) = 0) := ⟨fun h => hc (hct h)⟩
        have hsy := hy
        rw [wordP_cons hc, Option.map_map] at hsy
        have B := fun L => bdbyte_does hp vb acc c g L (by omega)
        unfold ByteR at B
        clear hy hS hct hc
        repeat' (first
    | (refine TL.call (Enters.plain (by kernel_rfl) (by rfl)) (by rfl) (Does.perm (N1 _) (by first | exact List.Perm.refl _ | exact Pk.cons pkA (List.Perm.refl _))) ?_; (rintro e g1 Ln _ ⟨v1, k1, k2, k3, s1⟩; have k2 := k2.symm; subst k1; subst k2; subst k3; refine CallK.ret ?_))
    | (refine TL.call (Enters.plain (by kernel_rfl) (by rfl)) (by rfl) (Does.perm (B _) (Pk.cons pkA (Pk.cons pkA (List.Perm.refl _)))) ?_; (rintro e gw Lw _ ⟨vb', k1, k2, k3⟩; have k2 := k2.symm; subst k1; subst k2; subst k3; refine CallK.ret ?_))
    | ((with_reducible apply TL.pure); (· exact yA); (· rfl))
    | refine TC.seq ?_ | refine TC.region ?_ | refine TL.nil ?_ | refine TQ.then_normal ?_
    | ((with_reducible apply TL.storeE); (· rfl); (· rfl); (· rfl); (· exact pkA); (· infer_instance)) | ((with_reducible apply TL.store_whole); (· rfl); (· rfl); (· exact oneA); (· rfl); (· exact pkA); (· rfl))
    | refine TC.block ?_ | refine TC.ret ?_ | refine TC.skip ?_ | refine TC.exit ?_ | refine TC.cond rfl ?_
    | refine TQ.down ?_ | refine TQ.in_exit' rfl ?_
    | refine TL.guard_yes rfl rfl ?_ | refine TL.guard_no rfl rfl rfl rfl ?_ | refine TL.guard_no0 rfl rfl rfl ?_ | refine TL.guard_undef rfl rfl rfl ?_ | refine TL.guard_undef0 rfl rfl ?_ | refine TL.guard rfl rfl rfl ?_
    | refine Br.t rfl ?_ | refine Br.f rfl ?_ | refine Br.ky kpA ?_ | refine Br.kn kpA ?_ | refine Br.nky kpA ?_ | refine Br.nkn kpA ?_
    | refine Br.eq0 (fun _ => ?_) (fun _ => ?_) | refine Br.neq0 (fun _ => ?_) (fun _ => ?_) | refine Br.eq (fun _ => ?_) (fun _ => ?_) | refine Br.neq (fun _ => ?_) (fun _ => ?_) | refine Br.not (fun _ => ?_) (fun _ => ?_) | refine Br.dec (fun _ => ?_) (fun _ => ?_) | refine Br.bool (fun _ => ?_) (fun _ => ?_)
    | ((with_reducible apply TL.alloc_ag); (· rfl); intro _) | ((with_reducible apply TL.alloc_sc); (· rfl); (· rfl); intro _) | ((with_reducible apply TL.box_ag); (· rfl); (· rfl); intro _) | ((with_reducible apply TL.box_sc); (· rfl); (· rfl); (· rfl); intro _))
        refine TQ.round (t, false, v1, acc ++ [c], .pointer (some ⟨bb, 0, none⟩), vb') ?_ ?_ rfl subA selA
        · refine ⟨s1, by simp; omega, bdp_used bb, by simp, fun h => (by cases h), fun _ => ⟨rfl, ?_⟩⟩
          show wordP s0 = _
          rw [hsy]
          congr 1
          funext q
          simp
        · show 2 * t.length + 1 < 2 * (t.length + 1) + 1
          omega
end Go.Proofs.YtphlggmhgfcmgaaGreatDoor
