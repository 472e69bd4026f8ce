/-
  The law's listed: does a path's last step lead into a list?
-/
import Derived.Test.YtacogbfgegcliaaGreatDoorPGet
import Derived.Test.YtacogbfgegcliaaGreatDoorPathG
namespace Go.Proofs.YtacogbfgegcliaaGreatDoor
open Go.RowKit Go.TL
set_option maxRecDepth 100000

def isL : J → Bool
  | .list _ => true
  | _ => false
def backI : Nat → Int
  | 0 => -1
  | j + 1 => ((j : Nat) : Int)
def ListedR (z : J) (p : List UInt8) (L : List Ent) : Ending → Gh → List Ent → Prop := fun e _ L' => e = .returned (.bool (listedB z p)) ∧ L' = L
theorem last_of {p : List UInt8} {l : List (List UInt8)} (h : stepsL p = some l) : ∃ s : List UInt8, s ≠ [] ∧ (∀ y ∈ s, y ≠ 46) ∧ ((headP p = none ∧ p = s) ∨ ∃ hd, headP p = some hd ∧ p = hd ++ 46 :: s) := by
  obtain ⟨hj, h1, h2, h3, h4⟩ := stepsL_some h
  refine ⟨l.getLast h1, (h4 _ (List.getLast_mem h1)).1, (h4 _ (List.getLast_mem h1)).2.1, ?_⟩
  unfold headP
  rw [h]
  dsimp only
  by_cases h0 : l.dropLast = []
  · left
    rw [if_pos h0]
    refine ⟨rfl, ?_⟩
    have := List.dropLast_concat_getLast h1
    rw [h0] at this
    rw [hj]
    conv => lhs; rw [← this]
    rfl
  · right
    rw [if_neg h0]
    refine ⟨_, rfl, ?_⟩
    rw [hj]
    conv => lhs; rw [← List.dropLast_concat_getLast h1]
    exact joinS_append _ _ h0 (by simp)
theorem isL_iface {g : Gh} {z : J} {v : Value} (h : IsJ g z v) : (isL z = true ∧ ∃ u, v = .iface 83 u) ∨ (isL z = false ∧ NoT v 83) := by
  cases z with
  | list xs => rw [IsJ] at h; obtain ⟨sl, _, rfl, _⟩ := h; exact .inl ⟨rfl, _, rfl⟩
  | obj ns xs => rw [IsJ] at h; obtain ⟨sl, _, rfl, _⟩ := h; exact .inr ⟨rfl, .inr ⟨_, _, rfl, rfl⟩⟩
  | null => rw [IsJ] at h; exact .inr ⟨rfl, .inl h⟩
  | bool b => rw [IsJ] at h; exact .inr ⟨rfl, .inr ⟨_, _, h, rfl⟩⟩
  | num n => rw [IsJ] at h; exact .inr ⟨rfl, .inr ⟨_, _, h.1, rfl⟩⟩
  | text s => rw [IsJ] at h; exact .inr ⟨rfl, .inr ⟨_, _, h, rfl⟩⟩
  | other k => rw [IsJ] at h; exact .inr ⟨rfl, .inr ⟨_, _, h, rfl⟩⟩
theorem listed_none {z : J} {p : List UInt8} (h : headP p = none) : listedB z p = isL z := by unfold listedB; rw [h]; cases z <;> rfl
theorem listed_some {z : J} {p hd : List UInt8} (h : headP p = some hd) : listedB z p = (match getP hd z with | some y => isL y | none => false) := by
  unfold listedB
  rw [h]
  dsimp only
  cases getP hd z with
  | none => rfl
  | some y => cases y <;> rfl
theorem start_of {p : List UInt8} {l : List (List UInt8)} (h : stepsL p = some l) : ∃ b : Nat, b < p.length ∧ (∀ i c, b ≤ i → p[i]? = some c → c ≠ 46) ∧ ((b = 0 ∧ headP p = none) ∨ ∃ hd, headP p = some hd ∧ b = hd.length + 1 ∧ p[hd.length]? = some 46 ∧ p.take hd.length = hd) := by
  obtain ⟨s, hs0, hs, hc⟩ := last_of h
  have hsl := List.length_pos_iff.2 hs0
  rcases hc with ⟨h1, h2⟩ | ⟨hd, h1, h2⟩
  · refine ⟨0, by rw [h2]; exact hsl, fun i c _ hi => hs c (by rw [h2] at hi; exact List.mem_of_getElem? hi), .inl ⟨rfl, h1⟩⟩
  · refine ⟨hd.length + 1, by rw [h2, List.length_append, List.length_cons]; omega, fun i c hbi hi => ?_, .inr ⟨hd, h1, rfl, by rw [h2]; simp, by rw [h2]; simp⟩⟩
    rw [h2, List.getElem?_append_right (by omega)] at hi
    obtain ⟨j, hj⟩ : ∃ j, i - hd.length = j + 1 := ⟨i - hd.length - 1, by omega⟩
    rw [hj, List.getElem?_cons_succ] at hi
    exact hs c (List.mem_of_getElem? hi)
set_option maxHeartbeats 16000000 in
theorem listed_does (p : List UInt8) (l : List (List UInt8)) (z : J) (v : Value) (g : Gh) (L : List Ent) (hst : stepsL p = some l) (hV : IsJ g z v) (hS : smJ z) (hE : GErr g) (hT : GTabs g) (hU : GU8 g) : Does Tryz.prog 46 #[v, str p] g L (ListedR z p L) := by
  refine Does.of2 Tryz.func46 rfl Tryz.ntmps46 rfl ?_
  unfold ListedR
  have hp := (stepsL_some hst).2.2.1
  obtain ⟨b, hb, hno, hcase⟩ := start_of hst
  obtain ⟨n, hn⟩ : ∃ n, p.length = n + 1 := ⟨p.length - 1, by omega⟩
  have hone := hV.one
  have HNO := Hn.mk hno
  have HCA := Hn.mk hcase
  have HV := Hn.mk hV
  clear hno hcase hst hV
  repeat' (first
    | ((with_reducible apply TL.pure (d := 13) (v := .int .i64 ((n : Nat) : Int))); (· exact Y.sub rfl rfl (by rw [IntWalk.i64_in _ (by omega)]; omega)); (· rfl)) | ((with_reducible apply TW.pure (d := 13) (v := .int .i64 ((n : Nat) : Int))); (· exact Y.sub rfl rfl (by rw [IntWalk.i64_in _ (by omega)]; omega)); (· rfl))
    | ((with_reducible apply TL.pure); (· exact yV); (· rfl)) | ((with_reducible apply TW.pure); (· exact yV); (· rfl))
    | ((with_reducible apply TL.pure); (· exact yA); (· rfl))
    | refine TC.seq ?_ | refine TC.region ?_ | refine TL.nil ?_ | refine TQ.then_normal ?_
    | ((with_reducible apply TL.storeE); (· rfl); (· rfl); (· rfl); (· exact pkA); (· infer_instance)) | ((with_reducible apply TL.store_whole); (· rfl); (· rfl); (· exact oneA); (· rfl); (· exact pkA); (· rfl))
    | refine TC.block ?_ | refine TC.ret ?_ | refine TC.skip ?_ | refine TC.exit ?_ | refine TC.cond rfl ?_
    | refine TQ.down ?_ | refine TQ.in_exit' rfl ?_
    | refine TL.guard_yes rfl rfl ?_ | refine TL.guard_no rfl rfl rfl rfl ?_ | refine TL.guard_no0 rfl rfl rfl ?_ | refine TL.guard_undef rfl rfl rfl ?_ | refine TL.guard_undef0 rfl rfl ?_ | refine TL.guard rfl rfl rfl ?_
    | refine Br.t rfl ?_ | refine Br.f rfl ?_ | refine Br.ky kpA ?_ | refine Br.kn kpA ?_ | refine Br.nky kpA ?_ | refine Br.nkn kpA ?_
    | refine Br.eq0 (fun _ => ?_) (fun _ => ?_) | refine Br.neq0 (fun _ => ?_) (fun _ => ?_) | refine Br.eq (fun _ => ?_) (fun _ => ?_) | refine Br.neq (fun _ => ?_) (fun _ => ?_) | refine Br.not (fun _ => ?_) (fun _ => ?_) | refine Br.dec (fun _ => ?_) (fun _ => ?_) | refine Br.bool (fun _ => ?_) (fun _ => ?_)
    | ((with_reducible apply TL.alloc_ag); (· rfl); intro _) | ((with_reducible apply TL.alloc_sc); (· rfl); (· rfl); intro _) | ((with_reducible apply TL.box_ag); (· rfl); (· rfl); intro _) | ((with_reducible apply TL.box_sc); (· rfl); (· rfl); (· rfl); intro _))
  refine TC.loopL (fun i : Nat => b ≤ i ∧ i ≤ n + 1) (fun i => i) (fun i _ => [(5, .int .i64 (backI i)), (1, str p), (0, v)]) (fun _ => L) (n + 1) ⟨by omega, Nat.le_refl _⟩ subA selA ?_
  rintro i ⟨hbi, hin⟩
  try dsimp only at hbi hin ⊢
  cases i with
  | zero =>
    obtain ⟨_, hh⟩ | ⟨hd, _, hbe, _⟩ := HCA.out
    · rw [listed_none hh]
      show TC _ _ _ _ _ [(5, .int .i64 (-1)), (1, str p), (0, v)] _ _
      rcases isL_iface HV.out with ⟨h1, u, rfl⟩ | ⟨h1, hno⟩
      · rw [h1]
        repeat' (first
    | ((with_reducible apply TL.pure); (· exact yV); (· rfl)) | ((with_reducible apply TW.pure); (· exact yV); (· rfl))
    | ((with_reducible apply TL.pure); (· exact yA); (· rfl))
    | refine TC.seq ?_ | refine TC.region ?_ | refine TL.nil ?_ | refine TQ.then_normal ?_
    | ((with_reducible apply TL.storeE); (· rfl); (· rfl); (· rfl); (· exact pkA); (· infer_instance)) | ((with_reducible apply TL.store_whole); (· rfl); (· rfl); (· exact oneA); (· rfl); (· exact pkA); (· rfl))
    | refine TC.block ?_ | refine TC.ret ?_ | refine TC.skip ?_ | refine TC.exit ?_ | refine TC.cond rfl ?_
    | refine TQ.down ?_ | refine TQ.in_exit' rfl ?_
    | refine TL.guard_yes rfl rfl ?_ | refine TL.guard_no rfl rfl rfl rfl ?_ | refine TL.guard_no0 rfl rfl rfl ?_ | refine TL.guard_undef rfl rfl rfl ?_ | refine TL.guard_undef0 rfl rfl ?_ | refine TL.guard rfl rfl rfl ?_
    | refine Br.t rfl ?_ | refine Br.f rfl ?_ | refine Br.ky kpA ?_ | refine Br.kn kpA ?_ | refine Br.nky kpA ?_ | refine Br.nkn kpA ?_
    | refine Br.eq0 (fun _ => ?_) (fun _ => ?_) | refine Br.neq0 (fun _ => ?_) (fun _ => ?_) | refine Br.eq (fun _ => ?_) (fun _ => ?_) | refine Br.neq (fun _ => ?_) (fun _ => ?_) | refine Br.not (fun _ => ?_) (fun _ => ?_) | refine Br.dec (fun _ => ?_) (fun _ => ?_) | refine Br.bool (fun _ => ?_) (fun _ => ?_)
    | ((with_reducible apply TL.alloc_ag); (· rfl); intro _) | ((with_reducible apply TL.alloc_sc); (· rfl); (· rfl); intro _) | ((with_reducible apply TL.box_ag); (· rfl); (· rfl); intro _) | ((with_reducible apply TL.box_sc); (· rfl); (· rfl); (· rfl); intro _))
        refine TQ.endR1 (L' := L) Tryz.results46 rvA rfl (.refl _) ?_ selA
        exact ⟨rfl, rfl⟩
      · rw [h1]
        repeat' (first
    | ((with_reducible apply TL.pure (d := 38) (v := .tuple #[.slice none 0 0, .bool false])); (· exact Y.assert_noT rfl hno); (· rfl)) | ((with_reducible apply TW.pure (d := 38) (v := .tuple #[.slice none 0 0, .bool false])); (· exact Y.assert_noT rfl hno); (· rfl))
    | ((with_reducible apply TL.pure); (· exact yV); (· rfl)) | ((with_reducible apply TW.pure); (· exact yV); (· rfl))
    | ((with_reducible apply TL.pure); (· exact yA); (· rfl))
    | refine TC.seq ?_ | refine TC.region ?_ | refine TL.nil ?_ | refine TQ.then_normal ?_
    | ((with_reducible apply TL.storeE); (· rfl); (· rfl); (· rfl); (· exact pkA); (· infer_instance)) | ((with_reducible apply TL.store_whole); (· rfl); (· rfl); (· exact oneA); (· rfl); (· exact pkA); (· rfl))
    | refine TC.block ?_ | refine TC.ret ?_ | refine TC.skip ?_ | refine TC.exit ?_ | refine TC.cond rfl ?_
    | refine TQ.down ?_ | refine TQ.in_exit' rfl ?_
    | refine TL.guard_yes rfl rfl ?_ | refine TL.guard_no rfl rfl rfl rfl ?_ | refine TL.guard_no0 rfl rfl rfl ?_ | refine TL.guard_undef rfl rfl rfl ?_ | refine TL.guard_undef0 rfl rfl ?_ | refine TL.guard rfl rfl rfl ?_
    | refine Br.t rfl ?_ | refine Br.f rfl ?_ | refine Br.ky kpA ?_ | refine Br.kn kpA ?_ | refine Br.nky kpA ?_ | refine Br.nkn kpA ?_
    | refine Br.eq0 (fun _ => ?_) (fun _ => ?_) | refine Br.neq0 (fun _ => ?_) (fun _ => ?_) | refine Br.eq (fun _ => ?_) (fun _ => ?_) | refine Br.neq (fun _ => ?_) (fun _ => ?_) | refine Br.not (fun _ => ?_) (fun _ => ?_) | refine Br.dec (fun _ => ?_) (fun _ => ?_) | refine Br.bool (fun _ => ?_) (fun _ => ?_)
    | ((with_reducible apply TL.alloc_ag); (· rfl); intro _) | ((with_reducible apply TL.alloc_sc); (· rfl); (· rfl); intro _) | ((with_reducible apply TL.box_ag); (· rfl); (· rfl); intro _) | ((with_reducible apply TL.box_sc); (· rfl); (· rfl); (· rfl); intro _))
        refine TQ.endR1 (L' := L) Tryz.results46 rvA rfl (.refl _) ?_ selA
        exact ⟨rfl, rfl⟩
    · omega
  | succ j =>
    show TC _ _ _ _ _ [(5, .int .i64 ((j : Nat) : Int)), (1, str p), (0, v)] _ _
    obtain ⟨c, hc⟩ : ∃ c, p[j]? = some c := ⟨_, List.getElem?_eq_getElem (by omega)⟩
    by_cases hbj : b ≤ j
    · have n46 : Hn (¬ ((c.toNat : Nat) : Int) = 46) := ⟨fun e => HNO.out j c hbj hc (UInt8.toNat_inj.1 (by show c.toNat = 46; omega))⟩
      repeat' (first
    | ((with_reducible apply TL.pure); (· exact yV); (· rfl)) | ((with_reducible apply TW.pure); (· exact yV); (· rfl))
    | ((with_reducible apply TL.pure); (· exact yM); (· rfl)) | ((with_reducible apply TW.pure); (· exact yM); (· rfl))
    | ((with_reducible apply TL.pure); (· exact yA); (· rfl))
    | ((with_reducible apply TL.byteK); (· rfl); (· rfl); (· exact natA); (· assumption); (· rfl); intro _) | ((with_reducible apply TL.byte); (· rfl); (· rfl); (· exact natA); (· exact omA); (· rfl); intro _ _ _)
    | refine TC.seq ?_ | refine TC.region ?_ | refine TL.nil ?_ | refine TQ.then_normal ?_
    | ((with_reducible apply TL.storeE); (· rfl); (· rfl); (· rfl); (· exact pkA); (· infer_instance)) | ((with_reducible apply TL.store_whole); (· rfl); (· rfl); (· exact oneA); (· rfl); (· exact pkA); (· rfl))
    | refine TC.block ?_ | refine TC.ret ?_ | refine TC.skip ?_ | refine TC.exit ?_ | refine TC.cond rfl ?_
    | refine TQ.down ?_ | refine TQ.in_exit' rfl ?_
    | refine TL.guard_yes rfl rfl ?_ | refine TL.guard_no rfl rfl rfl rfl ?_ | refine TL.guard_no0 rfl rfl rfl ?_ | refine TL.guard_undef rfl rfl rfl ?_ | refine TL.guard_undef0 rfl rfl ?_ | refine TL.guard rfl rfl rfl ?_
    | refine Br.t rfl ?_ | refine Br.f rfl ?_ | refine Br.ky kpA ?_ | refine Br.kn kpA ?_ | refine Br.nky kpA ?_ | refine Br.nkn kpA ?_
    | refine Br.eq0 (fun _ => ?_) (fun _ => ?_) | refine Br.neq0 (fun _ => ?_) (fun _ => ?_) | refine Br.eq (fun _ => ?_) (fun _ => ?_) | refine Br.neq (fun _ => ?_) (fun _ => ?_) | refine Br.not (fun _ => ?_) (fun _ => ?_) | refine Br.dec (fun _ => ?_) (fun _ => ?_) | refine Br.bool (fun _ => ?_) (fun _ => ?_)
    | ((with_reducible apply TL.alloc_ag); (· rfl); intro _) | ((with_reducible apply TL.alloc_sc); (· rfl); (· rfl); intro _) | ((with_reducible apply TL.box_ag); (· rfl); (· rfl); intro _) | ((with_reducible apply TL.box_sc); (· rfl); (· rfl); (· rfl); intro _))
      cases j with
      | zero =>
        refine TQ.round 0 ?_ ?_ rfl subA selA
        · exact ⟨hbj, Nat.zero_le _⟩
        · show 0 < 0 + 1
          omega
      | succ j =>
        refine TQ.slot (t := 5) (u := .int .i64 (backI (j + 1))) rfl (by first | (show Value.int .i64 (((j + 1 : Nat) : Int) - 1) = Value.int .i64 ((j : Nat) : Int); congr 1; omega) | (show Value.int .i64 ((j : Nat) : Int) = Value.int .i64 (((j + 1 : Nat) : Int) - 1); congr 1; omega)) ?_
        refine TQ.round (j + 1) ?_ ?_ rfl subA selA
        · exact ⟨hbj, by omega⟩
        · show j + 1 < j + 1 + 1
          omega
    · obtain ⟨h0, _⟩ | ⟨hd, hh, hbe, h46, htk⟩ := HCA.out
      · omega
      obtain rfl : j = hd.length := by omega
      rw [h46] at hc
      obtain rfl := Option.some.inj hc
      have A := fun L => get_does hd z v g L (by omega) HV.out hS hE hT hU
      unfold GetR at A
      obtain ⟨R, hR⟩ : ∃ R, R = listedB z p := ⟨_, rfl⟩
      rw [← hR]
      rw [listed_some hh] at hR
      cases hg : getP hd z with
      | none =>
        rw [hg] at A hR
        obtain rfl : R = false := hR
        rw [← htk] at A
        clear hh htk hg
        repeat' (first
    | ((with_reducible apply TL.pure); (· exact yV); (· rfl)) | ((with_reducible apply TW.pure); (· exact yV); (· rfl))
    | ((with_reducible apply TL.pure); (· exact yM); (· rfl)) | ((with_reducible apply TW.pure); (· exact yM); (· rfl))
    | (refine TL.call (Enters.plain (by kernel_rfl) (by rfl)) (by rfl) (A _) ?_; (rintro e g4 Ln h4 ⟨v4, e4, k1, k2, o4, r4⟩; have k2 := k2.symm; subst k1; subst k2; (obtain ⟨rfl, rfl⟩ := r4); refine CallK.ret ?_))
    | ((with_reducible apply TL.pure); (· exact yA); (· rfl))
    | ((with_reducible apply TL.byteK); (· rfl); (· rfl); (· exact natA); (· assumption); (· rfl); intro _) | ((with_reducible apply TL.byte); (· rfl); (· rfl); (· exact natA); (· exact omA); (· rfl); intro _ _ _)
    | refine TC.seq ?_ | refine TC.region ?_ | refine TL.nil ?_ | refine TQ.then_normal ?_
    | ((with_reducible apply TL.storeE); (· rfl); (· rfl); (· rfl); (· exact pkA); (· infer_instance)) | ((with_reducible apply TL.store_whole); (· rfl); (· rfl); (· exact oneA); (· rfl); (· exact pkA); (· rfl))
    | refine TC.block ?_ | refine TC.ret ?_ | refine TC.skip ?_ | refine TC.exit ?_ | refine TC.cond rfl ?_
    | refine TQ.down ?_ | refine TQ.in_exit' rfl ?_
    | refine TL.guard_yes rfl rfl ?_ | refine TL.guard_no rfl rfl rfl rfl ?_ | refine TL.guard_no0 rfl rfl rfl ?_ | refine TL.guard_undef rfl rfl rfl ?_ | refine TL.guard_undef0 rfl rfl ?_ | refine TL.guard rfl rfl rfl ?_
    | refine Br.t rfl ?_ | refine Br.f rfl ?_ | refine Br.ky kpA ?_ | refine Br.kn kpA ?_ | refine Br.nky kpA ?_ | refine Br.nkn kpA ?_
    | refine Br.eq0 (fun _ => ?_) (fun _ => ?_) | refine Br.neq0 (fun _ => ?_) (fun _ => ?_) | refine Br.eq (fun _ => ?_) (fun _ => ?_) | refine Br.neq (fun _ => ?_) (fun _ => ?_) | refine Br.not (fun _ => ?_) (fun _ => ?_) | refine Br.dec (fun _ => ?_) (fun _ => ?_) | refine Br.bool (fun _ => ?_) (fun _ => ?_)
    | ((with_reducible apply TL.alloc_ag); (· rfl); intro _) | ((with_reducible apply TL.alloc_sc); (· rfl); (· rfl); intro _) | ((with_reducible apply TL.box_ag); (· rfl); (· rfl); intro _) | ((with_reducible apply TL.box_sc); (· rfl); (· rfl); (· rfl); intro _))
        refine TQ.less h4 ?_
        refine TQ.endR1 (L' := L) Tryz.results46 rvA rfl (.refl _) ?_ selA
        exact ⟨rfl, rfl⟩
      | some y =>
        rw [hg] at A hR
        have hR : R = isL y := hR
        have HR := Hn.mk hR
        rw [← htk] at A
        clear hh htk hg hR
        repeat' (first
    | ((with_reducible apply TL.pure); (· exact yV); (· rfl)) | ((with_reducible apply TW.pure); (· exact yV); (· rfl))
    | ((with_reducible apply TL.pure); (· exact yM); (· rfl)) | ((with_reducible apply TW.pure); (· exact yM); (· rfl))
    | (refine TL.call (Enters.plain (by kernel_rfl) (by rfl)) (by rfl) (A _) ?_; (rintro e g4 Ln h4 ⟨v4, e4, k1, k2, o4, r4⟩; have k2 := k2.symm; subst k1; subst k2; (obtain ⟨rfl, j4⟩ := r4); refine CallK.ret ?_))
    | ((with_reducible apply TL.pure); (· exact yA); (· rfl))
    | ((with_reducible apply TL.byteK); (· rfl); (· rfl); (· exact natA); (· assumption); (· rfl); intro _) | ((with_reducible apply TL.byte); (· rfl); (· rfl); (· exact natA); (· exact omA); (· rfl); intro _ _ _)
    | refine TC.seq ?_ | refine TC.region ?_ | refine TL.nil ?_ | refine TQ.then_normal ?_
    | ((with_reducible apply TL.storeE); (· rfl); (· rfl); (· rfl); (· exact pkA); (· infer_instance)) | ((with_reducible apply TL.store_whole); (· rfl); (· rfl); (· exact oneA); (· rfl); (· exact pkA); (· rfl))
    | refine TC.block ?_ | refine TC.ret ?_ | refine TC.skip ?_ | refine TC.exit ?_ | refine TC.cond rfl ?_
    | refine TQ.down ?_ | refine TQ.in_exit' rfl ?_
    | refine TL.guard_yes rfl rfl ?_ | refine TL.guard_no rfl rfl rfl rfl ?_ | refine TL.guard_no0 rfl rfl rfl ?_ | refine TL.guard_undef rfl rfl rfl ?_ | refine TL.guard_undef0 rfl rfl ?_ | refine TL.guard rfl rfl rfl ?_
    | refine Br.t rfl ?_ | refine Br.f rfl ?_ | refine Br.ky kpA ?_ | refine Br.kn kpA ?_ | refine Br.nky kpA ?_ | refine Br.nkn kpA ?_
    | refine Br.eq0 (fun _ => ?_) (fun _ => ?_) | refine Br.neq0 (fun _ => ?_) (fun _ => ?_) | refine Br.eq (fun _ => ?_) (fun _ => ?_) | refine Br.neq (fun _ => ?_) (fun _ => ?_) | refine Br.not (fun _ => ?_) (fun _ => ?_) | refine Br.dec (fun _ => ?_) (fun _ => ?_) | refine Br.bool (fun _ => ?_) (fun _ => ?_)
    | ((with_reducible apply TL.alloc_ag); (· rfl); intro _) | ((with_reducible apply TL.alloc_sc); (· rfl); (· rfl); intro _) | ((with_reducible apply TL.box_ag); (· rfl); (· rfl); intro _) | ((with_reducible apply TL.box_sc); (· rfl); (· rfl); (· rfl); intro _))
        rcases isL_iface j4 with ⟨h1, u, rfl⟩ | ⟨h1, hno⟩
        · obtain rfl := HR.out.trans h1
          repeat' (first
    | ((with_reducible apply TL.pure); (· exact yV); (· rfl)) | ((with_reducible apply TW.pure); (· exact yV); (· rfl))
    | ((with_reducible apply TL.pure); (· exact yA); (· rfl))
    | refine TC.seq ?_ | refine TC.region ?_ | refine TL.nil ?_ | refine TQ.then_normal ?_
    | ((with_reducible apply TL.storeE); (· rfl); (· rfl); (· rfl); (· exact pkA); (· infer_instance)) | ((with_reducible apply TL.store_whole); (· rfl); (· rfl); (· exact oneA); (· rfl); (· exact pkA); (· rfl))
    | refine TC.block ?_ | refine TC.ret ?_ | refine TC.skip ?_ | refine TC.exit ?_ | refine TC.cond rfl ?_
    | refine TQ.down ?_ | refine TQ.in_exit' rfl ?_
    | refine TL.guard_yes rfl rfl ?_ | refine TL.guard_no rfl rfl rfl rfl ?_ | refine TL.guard_no0 rfl rfl rfl ?_ | refine TL.guard_undef rfl rfl rfl ?_ | refine TL.guard_undef0 rfl rfl ?_ | refine TL.guard rfl rfl rfl ?_
    | refine Br.t rfl ?_ | refine Br.f rfl ?_ | refine Br.ky kpA ?_ | refine Br.kn kpA ?_ | refine Br.nky kpA ?_ | refine Br.nkn kpA ?_
    | refine Br.eq0 (fun _ => ?_) (fun _ => ?_) | refine Br.neq0 (fun _ => ?_) (fun _ => ?_) | refine Br.eq (fun _ => ?_) (fun _ => ?_) | refine Br.neq (fun _ => ?_) (fun _ => ?_) | refine Br.not (fun _ => ?_) (fun _ => ?_) | refine Br.dec (fun _ => ?_) (fun _ => ?_) | refine Br.bool (fun _ => ?_) (fun _ => ?_)
    | ((with_reducible apply TL.alloc_ag); (· rfl); intro _) | ((with_reducible apply TL.alloc_sc); (· rfl); (· rfl); intro _) | ((with_reducible apply TL.box_ag); (· rfl); (· rfl); intro _) | ((with_reducible apply TL.box_sc); (· rfl); (· rfl); (· rfl); intro _))
          refine TQ.less h4 ?_
          refine TQ.endR1 (L' := L) Tryz.results46 rvA rfl (.refl _) ?_ selA
          exact ⟨rfl, rfl⟩
        · obtain rfl := HR.out.trans h1
          repeat' (first
    | ((with_reducible apply TL.pure (d := 38) (v := .tuple #[.slice none 0 0, .bool false])); (· exact Y.assert_noT rfl hno); (· rfl)) | ((with_reducible apply TW.pure (d := 38) (v := .tuple #[.slice none 0 0, .bool false])); (· exact Y.assert_noT rfl hno); (· rfl))
    | ((with_reducible apply TL.pure); (· exact yV); (· rfl)) | ((with_reducible apply TW.pure); (· exact yV); (· rfl))
    | ((with_reducible apply TL.pure); (· exact yA); (· rfl))
    | refine TC.seq ?_ | refine TC.region ?_ | refine TL.nil ?_ | refine TQ.then_normal ?_
    | ((with_reducible apply TL.storeE); (· rfl); (· rfl); (· rfl); (· exact pkA); (· infer_instance)) | ((with_reducible apply TL.store_whole); (· rfl); (· rfl); (· exact oneA); (· rfl); (· exact pkA); (· rfl))
    | refine TC.block ?_ | refine TC.ret ?_ | refine TC.skip ?_ | refine TC.exit ?_ | refine TC.cond rfl ?_
    | refine TQ.down ?_ | refine TQ.in_exit' rfl ?_
    | refine TL.guard_yes rfl rfl ?_ | refine TL.guard_no rfl rfl rfl rfl ?_ | refine TL.guard_no0 rfl rfl rfl ?_ | refine TL.guard_undef rfl rfl rfl ?_ | refine TL.guard_undef0 rfl rfl ?_ | refine TL.guard rfl rfl rfl ?_
    | refine Br.t rfl ?_ | refine Br.f rfl ?_ | refine Br.ky kpA ?_ | refine Br.kn kpA ?_ | refine Br.nky kpA ?_ | refine Br.nkn kpA ?_
    | refine Br.eq0 (fun _ => ?_) (fun _ => ?_) | refine Br.neq0 (fun _ => ?_) (fun _ => ?_) | refine Br.eq (fun _ => ?_) (fun _ => ?_) | refine Br.neq (fun _ => ?_) (fun _ => ?_) | refine Br.not (fun _ => ?_) (fun _ => ?_) | refine Br.dec (fun _ => ?_) (fun _ => ?_) | refine Br.bool (fun _ => ?_) (fun _ => ?_)
    | ((with_reducible apply TL.alloc_ag); (· rfl); intro _) | ((with_reducible apply TL.alloc_sc); (· rfl); (· rfl); intro _) | ((with_reducible apply TL.box_ag); (· rfl); (· rfl); intro _) | ((with_reducible apply TL.box_sc); (· rfl); (· rfl); (· rfl); intro _))
          refine TQ.less h4 ?_
          refine TQ.endR1 (L' := L) Tryz.results46 rvA rfl (.refl _) ?_ selA
          exact ⟨rfl, rfl⟩
end Go.Proofs.YtacogbfgegcliaaGreatDoor
