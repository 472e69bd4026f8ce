/-
  The walk of order.Unkey.
-/
import Derived.Test.YtphlggmhgfcmgaaGreatDoorORead4
namespace Go.Proofs.YtphlggmhgfcmgaaGreatDoor
open Go.RowKit Go.TL
set_option maxRecDepth 100000

/-- A reader of values hands back small ones, and no more bytes than there were. -/
def SmF (f : UInt8 → List UInt8 → Option (J × List UInt8)) : Prop := ∀ k s j r, f k s = some (j, r) → s.length ≤ 1000000 → smJ j ∧ r.length ≤ s.length
theorem list_sm {f : UInt8 → List UInt8 → Option (J × List UInt8)} (hf : SmF f) : ∀ (n : Nat) (s : List UInt8) (xs : List J) (r : List UInt8), listP f n s = some (xs, r) → s.length ≤ 1000000 → smJs xs ∧ xs.length + r.length ≤ s.length
  | 0, _, _, _, h, _ => by rw [listP] at h; cases h
  | _ + 1, [], _, _, h, _ => by rw [listP] at h; cases h
  | n + 1, c :: t, xs, r, h, hs => by
    rw [List.length_cons] at hs ⊢
    rw [listP] at h
    split at h
    · obtain ⟨rfl, rfl⟩ : [] = xs ∧ t = r := by simpa using h
      exact ⟨by rw [smJs]; trivial, by simp⟩
    · cases hc : f c t with
      | none => rw [hc] at h; cases h
      | some q =>
        obtain ⟨x, r1⟩ := q
        rw [hc] at h
        obtain ⟨⟨ys, r2⟩, h1, h2⟩ := Option.map_eq_some_iff.1 h
        obtain ⟨rfl, rfl⟩ : x :: ys = xs ∧ r2 = r := by simpa using h2
        obtain ⟨k1, k2⟩ := hf _ _ _ _ hc (by omega)
        obtain ⟨k3, k4⟩ := list_sm hf n r1 ys r2 h1 (by omega)
        exact ⟨by rw [smJs]; exact ⟨k1, k3⟩, by rw [List.length_cons]; omega⟩
theorem obj_sm {f : UInt8 → List UInt8 → Option (J × List UInt8)} (hf : SmF f) : ∀ (n : Nat) (s : List UInt8) (ns : List (List UInt8)) (xs : List J) (r : List UInt8), objP f n s = some ((ns, xs), r) → s.length ≤ 1000000 → smJs xs ∧ xs.length + r.length ≤ s.length ∧ ∀ n ∈ ns, n.length ≤ 1000000
  | 0, _, _, _, _, h, _ => by rw [objP] at h; cases h
  | _ + 1, [], _, _, _, h, _ => by rw [objP] at h; cases h
  | n + 1, c :: t, ns, xs, r, h, hs => by
    rw [List.length_cons] at hs ⊢
    rw [objP] at h
    split at h
    · obtain ⟨⟨rfl, rfl⟩, rfl⟩ : ([] = ns ∧ [] = xs) ∧ t = r := by simpa using h
      exact ⟨by rw [smJs]; trivial, by simp, by simp⟩
    · split at h
      · cases hw : wordP t with
        | none => rw [hw] at h; cases h
        | some q =>
          obtain ⟨a, r1⟩ := q
          rw [hw] at h
          have hl := wordP_len _ t (Nat.le_refl _) hw
          cases r1 with
          | nil => cases h
          | cons d u =>
            dsimp only at h
            rw [List.length_cons] at hl
            cases hc : f d u with
            | none => rw [hc] at h; cases h
            | some q =>
              obtain ⟨x, r1⟩ := q
              rw [hc] at h
              obtain ⟨⟨⟨ms, ys⟩, r2⟩, h1, h2⟩ := Option.map_eq_some_iff.1 h
              obtain ⟨⟨rfl, rfl⟩, rfl⟩ : (a :: ms = ns ∧ x :: ys = xs) ∧ r2 = r := by simpa using h2
              obtain ⟨k1, k2⟩ := hf _ _ _ _ hc (by omega)
              obtain ⟨k3, k4, k5⟩ := obj_sm hf n r1 ms ys r2 h1 (by omega)
              refine ⟨by rw [smJs]; exact ⟨k1, k3⟩, by rw [List.length_cons]; omega, fun m hm => ?_⟩
              rcases List.mem_cons.1 hm with rfl | hm
              · omega
              · exact k5 m hm
      · cases h
theorem valK_sm {lst obj : List UInt8 → Option (J × List UInt8)} (hL : ∀ s j r, lst s = some (j, r) → s.length ≤ 1000000 → smJ j ∧ r.length ≤ s.length) (hO : ∀ s j r, obj s = some (j, r) → s.length ≤ 1000000 → smJ j ∧ r.length ≤ s.length) : SmF (valK lst obj) := fun k s j r h hs => by
  unfold valK at h
  split at h
  · obtain ⟨rfl, rfl⟩ : J.null = j ∧ s = r := by simpa using h
    exact ⟨by rw [smJ]; trivial, Nat.le_refl _⟩
  split at h
  · obtain ⟨rfl, rfl⟩ : J.bool false = j ∧ s = r := by simpa using h
    exact ⟨by rw [smJ]; trivial, Nat.le_refl _⟩
  split at h
  · obtain ⟨rfl, rfl⟩ : J.bool true = j ∧ s = r := by simpa using h
    exact ⟨by rw [smJ]; trivial, Nat.le_refl _⟩
  split at h
  · split at h
    · cases h
    · obtain ⟨rfl, rfl⟩ : J.num (rdNum s) = j ∧ s.drop 8 = r := by simpa using h
      exact ⟨by rw [smJ]; trivial, by simp⟩
  split at h
  · obtain ⟨⟨a, r1⟩, h1, h2⟩ := Option.map_eq_some_iff.1 h
    obtain ⟨rfl, rfl⟩ : J.text a = j ∧ r1 = r := by simpa using h2
    have hl := wordP_len _ s (Nat.le_refl _) h1
    exact ⟨by rw [smJ]; omega, by omega⟩
  split at h
  · exact hL s j r h hs
  split at h
  · exact hO s j r h hs
  · cases h
theorem val_sm : ∀ d, SmF (valP d)
  | 0 => fun k s j r h hs => by
    rw [valP] at h
    exact valK_sm (fun _ _ _ h => by cases h) (fun _ _ _ h => by cases h) k s j r h hs
  | d + 1 => fun k s j r h hs => by
    rw [valP] at h
    refine valK_sm (fun s j r h hs => ?_) (fun s j r h hs => ?_) k s j r h hs
    · obtain ⟨⟨xs, r1⟩, h1, h2⟩ := Option.map_eq_some_iff.1 h
      obtain ⟨rfl, rfl⟩ : J.list xs = j ∧ r1 = r := by simpa using h2
      obtain ⟨k1, k2⟩ := list_sm (val_sm d) _ s xs r1 h1 hs
      exact ⟨by rw [smJ]; exact ⟨by omega, k1⟩, by omega⟩
    · obtain ⟨⟨⟨ns, xs⟩, r1⟩, h1, h2⟩ := Option.map_eq_some_iff.1 h
      obtain ⟨rfl, rfl⟩ : J.obj ns xs = j ∧ r1 = r := by simpa using h2
      obtain ⟨k1, k2, k3⟩ := obj_sm (val_sm d) _ s ns xs r1 h1 hs
      exact ⟨by rw [smJ]; exact ⟨by omega, k3, k1⟩, by omega⟩
/-- The value whose key these bytes are. -/
def unkP (bs : List UInt8) : Option J := match valP 32 (nextL bs).1 (nextL bs).2 with
  | some (j, []) => if lookJ j 0 = 0 ∧ bs ≠ [] then some j else none
  | _ => none
def UnkR (bs : List UInt8) (L : List Ent) : Ending → Gh → List Ent → Prop := fun r g' L1 => ∃ x e, r = .returned (.tuple #[x, .int .i64 (e : Nat)]) ∧ L1 = L ∧ x.one = true ∧ (if 131072 < bs.length then e = 9 ∧ x = .nilIface else match unkP bs with
  | some j => e = 0 ∧ IsJ g' j x ∧ smJ j ∧ lookJ j 0 = 0
  | none => e = 5 ∧ x = .nilIface)
theorem unk_cases {bs : List UInt8} {R : Option J} {o : Option (J × List UInt8)} {w wv : Bool} {gv : Gh} {xv : Value} {sv : List UInt8} (hR : R = match o with
      | some (j, []) => if lookJ j 0 = 0 ∧ bs ≠ [] then some j else none
      | _ => none) (hem : w = false ↔ bs ≠ []) (hsm : ∀ j r, o = some (j, r) → smJ j) (hov : OutV o w wv gv xv sv) :
    (wv = true ∧ R = none) ∨ (wv = false ∧ Hn (¬ (sv.length : Int) = 0) ∧ R = none) ∨ (∃ j, wv = false ∧ sv = [] ∧ IsJ gv j xv ∧ smJ j ∧ R = if lookJ j 0 = 0 then some j else none) := by
  unfold OutV at hov
  cases w with
  | true =>
    rw [if_pos rfl] at hov
    have hb : bs = [] := by
      by_cases h : bs = []
      · exact h
      · exact absurd (hem.2 h) (by decide)
    refine .inl ⟨hov, ?_⟩
    rw [hR]
    split
    · rw [if_neg (fun h => h.2 hb)]
    · rfl
  | false =>
    rw [if_neg (by decide)] at hov
    have hb := hem.1 rfl
    cases o with
    | none => exact .inl ⟨hov, hR⟩
    | some q =>
      obtain ⟨j, r⟩ := q
      obtain ⟨h1, h2, h3⟩ := hov
      subst h2
      cases sv with
      | nil =>
        refine .inr (.inr ⟨j, h1, rfl, h3, hsm j _ rfl, ?_⟩)
        rw [hR]
        by_cases h0 : lookJ j 0 = 0
        · simp [h0, hb]
        · simp [h0]
      | cons c t => exact .inr (.inl ⟨h1, ⟨by simp; omega⟩, hR⟩)
set_option maxHeartbeats 16000000 in
theorem oUnkey_does (bs : List UInt8) (v : Value) (g : Gh) (L : List Ent) (hS : Sl g v bs.length 1 (byteVals bs)) (hl : bs.length ≤ 140737488355328) (hT : GTabs g) (hU : GU8 g) : Does Tryz.prog 4 #[v] g L (UnkR bs L) := by
  refine Does.of1 Tryz.func4 rfl Tryz.ntmps4 rfl ?_
  obtain ⟨ao, cap, rfl⟩ := hS.slice
  have C := fun L => clone_rows bs _ g L hS hl
  clear hS
  by_cases h9 : 131072 < bs.length
  · repeat' (first
    | ((with_reducible apply TL.pure); (· exact yV); (· rfl)) | ((with_reducible apply TW.pure); (· exact yV); (· rfl))
    | ((with_reducible apply TL.pure); (· exact yA); (· rfl))
    | refine TC.seq ?_ | refine TC.region ?_ | refine TL.nil ?_ | refine TQ.then_normal ?_
    | ((with_reducible apply TL.storeE); (· rfl); (· rfl); (· rfl); (· exact pkA); (· infer_instance)) | ((with_reducible apply TL.store_whole); (· rfl); (· rfl); (· exact oneA); (· rfl); (· exact pkA); (· rfl))
    | refine TC.block ?_ | refine TC.ret ?_ | refine TC.skip ?_ | refine TC.exit ?_ | refine TC.cond rfl ?_
    | refine TQ.down ?_ | refine TQ.in_exit' rfl ?_
    | refine TL.guard_yes rfl rfl ?_ | refine TL.guard_no rfl rfl rfl rfl ?_ | refine TL.guard_no0 rfl rfl rfl ?_ | refine TL.guard_undef rfl rfl rfl ?_ | refine TL.guard_undef0 rfl rfl ?_ | refine TL.guard rfl rfl rfl ?_
    | refine Br.t rfl ?_ | refine Br.f rfl ?_ | refine Br.ky kpA ?_ | refine Br.kn kpA ?_ | refine Br.nky kpA ?_ | refine Br.nkn kpA ?_
    | refine Br.eq0 (fun _ => ?_) (fun _ => ?_) | refine Br.neq0 (fun _ => ?_) (fun _ => ?_) | refine Br.eq (fun _ => ?_) (fun _ => ?_) | refine Br.neq (fun _ => ?_) (fun _ => ?_) | refine Br.not (fun _ => ?_) (fun _ => ?_) | refine Br.dec (fun _ => ?_) (fun _ => ?_) | refine Br.bool (fun _ => ?_) (fun _ => ?_)
    | ((with_reducible apply TL.alloc_ag); (· rfl); intro _) | ((with_reducible apply TL.alloc_sc); (· rfl); (· rfl); intro _) | ((with_reducible apply TL.box_ag); (· rfl); (· rfl); intro _) | ((with_reducible apply TL.box_sc); (· rfl); (· rfl); (· rfl); intro _))
    refine TQ.endR2 (L' := L) Tryz.results4 rvA rvA rfl (.refl _) ?_ selA
    exact ⟨_, 9, rfl, rfl, rfl, by rw [if_pos h9]; exact ⟨rfl, rfl⟩⟩
  · have R9 : ∀ (w : Bool) (o : Option (J × List UInt8)) (x : Value) (s : List UInt8) (gv : Gh), (w = true → o = none ∨ bs = []) → True := fun _ _ _ _ _ _ => trivial
    clear R9
    repeat' (first
    | ((with_reducible apply TL.pure); (· exact yV); (· rfl)) | ((with_reducible apply TW.pure); (· exact yV); (· rfl))
    | refine TL.rows (Enters.plain (by kernel_rfl) (by rfl)) (C _) permA (by rfl) (fun _ => ?_)
    | ((with_reducible apply TL.pure); (· exact yA); (· rfl))
    | refine TC.seq ?_ | refine TC.region ?_ | refine TL.nil ?_ | refine TQ.then_normal ?_
    | ((with_reducible apply TL.storeE); (· rfl); (· rfl); (· rfl); (· exact pkA); (· infer_instance)) | ((with_reducible apply TL.store_whole); (· rfl); (· rfl); (· exact oneA); (· rfl); (· exact pkA); (· rfl))
    | refine TC.block ?_ | refine TC.ret ?_ | refine TC.skip ?_ | refine TC.exit ?_ | refine TC.cond rfl ?_
    | refine TQ.down ?_ | refine TQ.in_exit' rfl ?_
    | refine TL.guard_yes rfl rfl ?_ | refine TL.guard_no rfl rfl rfl rfl ?_ | refine TL.guard_no0 rfl rfl rfl ?_ | refine TL.guard_undef rfl rfl rfl ?_ | refine TL.guard_undef0 rfl rfl ?_ | refine TL.guard rfl rfl rfl ?_
    | refine Br.t rfl ?_ | refine Br.f rfl ?_ | refine Br.ky kpA ?_ | refine Br.kn kpA ?_ | refine Br.nky kpA ?_ | refine Br.nkn kpA ?_
    | refine Br.eq0 (fun _ => ?_) (fun _ => ?_) | refine Br.neq0 (fun _ => ?_) (fun _ => ?_) | refine Br.eq (fun _ => ?_) (fun _ => ?_) | refine Br.neq (fun _ => ?_) (fun _ => ?_) | refine Br.not (fun _ => ?_) (fun _ => ?_) | refine Br.dec (fun _ => ?_) (fun _ => ?_) | refine Br.bool (fun _ => ?_) (fun _ => ?_)
    | ((with_reducible apply TL.alloc_ag); (· rfl); intro _) | ((with_reducible apply TL.alloc_sc); (· rfl); (· rfl); intro _) | ((with_reducible apply TL.box_ag); (· rfl); (· rfl); intro _) | ((with_reducible apply TL.box_sc); (· rfl); (· rfl); (· rfl); intro _))
    rename_i vr
    refine Go.TL.TL.row_slice (v := vr) pkA ?_
    rintro ar cr rfl _
    refine Go.TL.TL.freeze pkA ?_
    intro g1 hg1 hs1
    have hT1 := hT.le hg1
    have hU1 := hU.le hg1
    clear C hT hU
    repeat' (first
    | ((with_reducible apply TL.pure (d := 11) (v := .agg [.slice ar bs.length cr, .bool false].toArray)); (· exact Y.build rfl rfl rfl); (· rfl)) | ((with_reducible apply TW.pure (d := 11) (v := .agg [.slice ar bs.length cr, .bool false].toArray)); (· exact Y.build rfl rfl rfl); (· rfl))
    | ((with_reducible apply TL.pure); (· exact yV); (· rfl)) | ((with_reducible apply TW.pure); (· exact yV); (· rfl))
    | ((with_reducible apply TL.pure); (· exact yA); (· rfl))
    | refine TC.seq ?_ | refine TC.region ?_ | refine TL.nil ?_ | refine TQ.then_normal ?_
    | ((with_reducible apply TL.storeE); (· rfl); (· rfl); (· rfl); (· exact pkA); (· infer_instance)) | ((with_reducible apply TL.store_whole); (· rfl); (· rfl); (· exact oneA); (· rfl); (· exact pkA); (· rfl))
    | refine TC.block ?_ | refine TC.ret ?_ | refine TC.skip ?_ | refine TC.exit ?_ | refine TC.cond rfl ?_
    | refine TQ.down ?_ | refine TQ.in_exit' rfl ?_
    | refine TL.guard_yes rfl rfl ?_ | refine TL.guard_no rfl rfl rfl rfl ?_ | refine TL.guard_no0 rfl rfl rfl ?_ | refine TL.guard_undef rfl rfl rfl ?_ | refine TL.guard_undef0 rfl rfl ?_ | refine TL.guard rfl rfl rfl ?_
    | refine Br.t rfl ?_ | refine Br.f rfl ?_ | refine Br.ky kpA ?_ | refine Br.kn kpA ?_ | refine Br.nky kpA ?_ | refine Br.nkn kpA ?_
    | refine Br.eq0 (fun _ => ?_) (fun _ => ?_) | refine Br.neq0 (fun _ => ?_) (fun _ => ?_) | refine Br.eq (fun _ => ?_) (fun _ => ?_) | refine Br.neq (fun _ => ?_) (fun _ => ?_) | refine Br.not (fun _ => ?_) (fun _ => ?_) | refine Br.dec (fun _ => ?_) (fun _ => ?_) | refine Br.bool (fun _ => ?_) (fun _ => ?_)
    | ((with_reducible apply TL.alloc_ag); (· rfl); intro _) | ((with_reducible apply TL.alloc_sc); (· rfl); (· rfl); intro _) | ((with_reducible apply TL.box_ag); (· rfl); (· rfl); intro _) | ((with_reducible apply TL.box_sc); (· rfl); (· rfl); (· rfl); intro _))
    rename_i bR
    have N1 := fun L => next_does bs false (.slice ar bs.length cr) bR g1 L hs1 (by omega)
    unfold NextR at N1
    have hn0 : (nextL bs).2.length ≤ bs.length := by cases bs <;> simp [nextL]
    have A1 := fun v (h : Sl g1 v (nextL bs).2.length 1 (byteVals (nextL bs).2)) L => value_does 32 0 (by decide) bR (nextL bs).1 (nextL bs).2 (false || bs.isEmpty) v g1 L h (by omega)
    unfold ValR at A1
    obtain ⟨R, hR⟩ : ∃ R, R = unkP bs := ⟨_, rfl⟩
    unfold UnkR
    rw [← hR]
    unfold unkP at hR
    have hsm := val_sm 32 (nextL bs).1 (nextL bs).2
    have hl3 : (nextL bs).2.length ≤ 1000000 := by omega
    have hem : (false || bs.isEmpty) = false ↔ bs ≠ [] := by cases bs <;> simp
    obtain ⟨c, hc⟩ : ∃ c, c = (nextL bs).1 := ⟨_, rfl⟩
    obtain ⟨t, ht⟩ : ∃ t, t = (nextL bs).2 := ⟨_, rfl⟩
    obtain ⟨w, hw⟩ : ∃ w, w = (false || bs.isEmpty) := ⟨_, rfl⟩
    rw [← hc, ← ht, ← hw] at A1 N1
    rw [← hc, ← ht] at hR hsm
    rw [← ht] at hl3
    rw [← hw] at hem
    obtain ⟨o, ho⟩ : ∃ o, o = valP 32 c t := ⟨_, rfl⟩
    rw [← ho] at hR hsm
    simp only [← ho] at A1
    have HE := Hn.mk hem
    have hR := Hn.mk hR
    have hsm : Hn (∀ j r, o = some (j, r) → smJ j) := ⟨fun j r h => (hsm j r h hl3).1⟩
    clear hc ht hw hn0 ho hs1 hem hl
    repeat' (first
    | (refine TL.call (Enters.plain (by kernel_rfl) (by rfl)) (by rfl) (Does.perm (N1 _) (by first | exact List.Perm.refl _ | exact Pk.cons pkA (List.Perm.refl _))) ?_; (rintro e g2 Ln _ ⟨v2, k1, k2, k3, s2⟩; have k2 := k2.symm; subst k1; subst k2; subst k3; refine CallK.ret ?_))
    | (refine TL.call (Enters.plain (by kernel_rfl) (by rfl)) (by rfl) (Does.perm (A1 _ (by assumption) _) (by first | exact List.Perm.refl _ | exact Pk.cons pkA (List.Perm.refl _))) ?_; (rintro e gv Ln hgv ⟨vv, wv, xv, sv, k1, hx1, k3, hsv, hlv, hov⟩; subst k1; subst k3; refine CallK.ret ?_; obtain ⟨av, cv, rfl⟩ := hsv.slice; rcases unk_cases hR.out HE.out hsm.out hov with ⟨rfl, hR1⟩ | ⟨rfl, hs1, hR1⟩ | ⟨j, rfl, rfl, hj, hsm2, hR1⟩ <;> try (have M := fun L => may_gives j xv gv L hj hsm2 (hT1.le hgv) (hU1.le hgv)); try (have hjj := Hn.mk hj; have hsj := Hn.mk hsm2; clear hj hsm2; generalize hle : lookJ j 0 = le at M hR1)))
    | ((with_reducible apply TL.gives_plain); (· kernel_rfl); (· rfl); (· exact M _); (· rfl)) | ((with_reducible apply TW.gives_plain); (· kernel_rfl); (· rfl); (· exact M _); (· rfl))
    | ((with_reducible apply TL.pure); (· exact yV); (· rfl)) | ((with_reducible apply TW.pure); (· exact yV); (· rfl))
    | ((with_reducible apply TL.pure); (· exact yA); (· rfl))
    | refine TC.seq ?_ | refine TC.region ?_ | refine TL.nil ?_ | refine TQ.then_normal ?_
    | ((with_reducible apply TL.storeE); (· rfl); (· rfl); (· rfl); (· exact pkA); (· infer_instance)) | ((with_reducible apply TL.store_whole); (· rfl); (· rfl); (· exact oneA); (· rfl); (· exact pkA); (· rfl))
    | refine TC.block ?_ | refine TC.ret ?_ | refine TC.skip ?_ | refine TC.exit ?_ | refine TC.cond rfl ?_
    | refine TQ.down ?_ | refine TQ.in_exit' rfl ?_
    | refine TL.guard_yes rfl rfl ?_ | refine TL.guard_no rfl rfl rfl rfl ?_ | refine TL.guard_no0 rfl rfl rfl ?_ | refine TL.guard_undef rfl rfl rfl ?_ | refine TL.guard_undef0 rfl rfl ?_ | refine TL.guard rfl rfl rfl ?_
    | refine Br.t rfl ?_ | refine Br.f rfl ?_ | refine Br.ky kpA ?_ | refine Br.kn kpA ?_ | refine Br.nky kpA ?_ | refine Br.nkn kpA ?_
    | refine Br.eq0 (fun _ => ?_) (fun _ => ?_) | refine Br.neq0 (fun _ => ?_) (fun _ => ?_) | refine Br.eq (fun _ => ?_) (fun _ => ?_) | refine Br.neq (fun _ => ?_) (fun _ => ?_) | refine Br.not (fun _ => ?_) (fun _ => ?_) | refine Br.dec (fun _ => ?_) (fun _ => ?_) | refine Br.bool (fun _ => ?_) (fun _ => ?_)
    | ((with_reducible apply TL.alloc_ag); (· rfl); intro _) | ((with_reducible apply TL.alloc_sc); (· rfl); (· rfl); intro _) | ((with_reducible apply TL.box_ag); (· rfl); (· rfl); intro _) | ((with_reducible apply TL.box_sc); (· rfl); (· rfl); (· rfl); intro _))
    · refine TQ.endR2 (L' := L) Tryz.results4 rvA rvA rfl (hg1.trans hgv) ?_ selA
      exact ⟨_, 5, rfl, rfl, rfl, by rw [if_neg h9, hR1]; exact ⟨rfl, rfl⟩⟩
    · refine TQ.endR2 (L' := L) Tryz.results4 rvA rvA rfl (hg1.trans hgv) ?_ selA
      exact ⟨_, 5, rfl, rfl, rfl, by rw [if_neg h9, hR1]; exact ⟨rfl, rfl⟩⟩
    · rename_i h0 _
      refine TQ.endR2 (L' := L) Tryz.results4 rvA rvA rfl (hg1.trans hgv) ?_ selA
      refine ⟨_, 5, rfl, rfl, rfl, ?_⟩
      rw [if_neg h9, hR1, if_neg (by omega)]
      exact ⟨rfl, rfl⟩
    · refine TQ.endR2 (L' := L) Tryz.results4 rvA rvA rfl (hg1.trans hgv) ?_ selA
      refine ⟨_, 0, rfl, rfl, hx1, ?_⟩
      rw [if_neg h9, hR1, if_pos (by assumption)]
      exact ⟨rfl, hjj.out, hsj.out, hle.trans (by assumption)⟩
end Go.Proofs.YtphlggmhgfcmgaaGreatDoor
