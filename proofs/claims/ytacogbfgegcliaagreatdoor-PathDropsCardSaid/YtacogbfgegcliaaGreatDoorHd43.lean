/-
  The walks of the document's Put, Drop.
-/
import Derived.Test.YtacogbfgegcliaaGreatDoorHd42
import Derived.Test.YtacogbfgegcliaaGreatDoorHd37
import Derived.Test.YtacogbfgegcliaaGreatDoorHd41
import Derived.Test.YtacogbfgegcliaaGreatDoorHd38
namespace Go.Proofs.YtacogbfgegcliaaGreatDoor
open Go.RowKit Go.TL
set_option maxRecDepth 100000

def zeroD : DV := .mk 0 false 0 [] [] []
theorem IsV.zeroD {g : Gh} : IsV g zeroD [.int .i64 0, .bool false, .int .i64 0, .string ⟨#[]⟩, .slice none 0 0, .slice none 0 0] := by
  unfold Proofs.YtacogbfgegcliaaGreatDoor.zeroD
  rw [IsV]
  exact ⟨_, _, [], rfl, by omega, by omega, by simp, .nil, by simp, by rw [IsVs], .nil, by simp, fun x hx => by cases hx⟩
def PutsDR (m : Nat) (o : Nat × Option J) (L : List Ent) : Ending → Gh → List Ent → Prop := fun r g' L1 => ∃ (cs : List Value) (e : Nat) (z : DV), r = .returned (.tuple #[.agg cs.toArray, .int .i64 (e : Nat)]) ∧ L1 = L ∧ IsV g' z cs ∧ (match o with
  | (_, some j) => e = 0 ∧ toJ z = j ∧ wfN m z
  | (k, none) => e = k ∧ e ≠ 0)
set_option maxHeartbeats 64000000 in
theorem rdrops6_does (m : Nat) (hm2 : m ≤ 9000) (p : List UInt8) (x : DV) (cs : List Value) (g : Gh) (L : List Ent) (hp : p.length ≤ 1000000) (hX : IsV g x cs) (wx : wfN m x) : Does Tryz.prog 37 #[.agg cs.toArray, str p] g L (PutsDR m (dropE (toJ x) p) L) := by
  refine Does.of2 Tryz.func37 rfl Tryz.ntmps37 rfl ?_
  have vx := wf_of_N _ m wx (by omega)
  have R := fun (bb : Nat) (g2 : Gh) (h : g.le g2) (hs : Sl g2 (.slice (some ⟨bb, 0, none⟩) 1 1) 1 6 cs) L => rready6_does p [x] cs (.slice (some ⟨bb, 0, none⟩) 1 1) g2 L hp (by simp) hs (.one (IsV.le h _ _ hX)) (fun z hz => by
    rw [List.mem_singleton.1 hz]; exact vx)
  unfold ReadyR readyE at R
  obtain ⟨xk, xb, xn, xt, xi, xil, xic, xm, xml, xmc, rfl⟩ := hX.form
  obtain ⟨zx, lx⟩ := sz_toJ _ x (Nat.le_refl _) m wx
  unfold PutsDR dropE
  cases hl : stepsL p with
  | none =>
    rw [hl] at R
    dsimp only at R ⊢
    clear hX wx vx
    repeat' (first
    | ((with_reducible apply TL.pure); (· exact yQ); (· rfl))
    | ((with_reducible apply TL.build_one); (· rfl); (· rfl); (· rfl); (· rfl); (· rfl); (· rfl); intro bb; refine TL.freeze_obj bb 6 (k := 1) pkA rfl (by decide) ?_; intro gz hgz hslz; (have R1 := R bb gz hgz hslz; clear R hslz))
    | ((with_reducible apply TL.pure); (· exact yV); (· rfl)) | ((with_reducible apply TW.pure); (· exact yV); (· rfl))
    | (refine TL.call (Enters.plain (by kernel_rfl) (by rfl)) (by rfl) (R1 _) ?_; (rintro e g1 Ln hg1 ⟨vs, es, k1, k2, ho, hr⟩; have k2 := k2.symm; subst k1; subst k2; (obtain ⟨rfl, _, rfl⟩ := hr); refine CallK.ret ?_))
    | ((with_reducible apply TL.pure); (· exact yA); (· rfl))
    | refine TC.seq ?_ | refine TC.region ?_ | refine TL.nil ?_ | refine TQ.then_normal ?_
    | ((with_reducible apply TL.storeE); (· rfl); (· rfl); (· rfl); (· exact pkA); (· infer_instance)) | ((with_reducible apply TL.store_whole); (· rfl); (· rfl); (· exact oneA); (· rfl); (· exact pkA); (· rfl))
    | refine TC.block ?_ | refine TC.ret ?_ | refine TC.skip ?_ | refine TC.exit ?_ | refine TC.cond rfl ?_
    | refine TQ.down ?_ | refine TQ.in_exit' rfl ?_
    | refine TL.guard_yes rfl rfl ?_ | refine TL.guard_no rfl rfl rfl rfl ?_ | refine TL.guard_no0 rfl rfl rfl ?_ | refine TL.guard_undef rfl rfl rfl ?_ | refine TL.guard_undef0 rfl rfl ?_ | refine TL.guard rfl rfl rfl ?_
    | refine Br.t rfl ?_ | refine Br.f rfl ?_ | refine Br.ky kpA ?_ | refine Br.kn kpA ?_ | refine Br.nky kpA ?_ | refine Br.nkn kpA ?_
    | refine Br.eq0 (fun _ => ?_) (fun _ => ?_) | refine Br.neq0 (fun _ => ?_) (fun _ => ?_) | refine Br.eq (fun _ => ?_) (fun _ => ?_) | refine Br.neq (fun _ => ?_) (fun _ => ?_) | refine Br.not (fun _ => ?_) (fun _ => ?_) | refine Br.dec (fun _ => ?_) (fun _ => ?_) | refine Br.bool (fun _ => ?_) (fun _ => ?_)
    | ((with_reducible apply TL.alloc_ag); (· rfl); intro _) | ((with_reducible apply TL.alloc_sc); (· rfl); (· rfl); intro _) | ((with_reducible apply TL.box_ag); (· rfl); (· rfl); intro _) | ((with_reducible apply TL.box_sc); (· rfl); (· rfl); (· rfl); intro _))
    refine TQ.endR2 (L' := L) Tryz.results37 rvA rvA rfl (hgz.trans hg1) ?_ selF
    exact ⟨_, 16, _, rfl, rfl, .zeroD, rfl, by decide⟩
  | some l =>
    rw [hl] at R
    have hla : lookAll ([x].map toJ) = lookJ (toJ x) 0 := by
      simp only [lookAll, List.map_cons, List.map_nil]
      by_cases h1 : lookJ (toJ x) 0 = 0 <;> simp [h1]
    rw [hla] at R
    dsimp only at R ⊢
    by_cases h1 : lookJ (toJ x) 0 = 0
    · rw [if_neg (by omega)]
      rw [if_pos h1] at R
      dsimp only at R
      obtain ⟨hpj, hl0, hp128, _, hgood⟩ := stepsL_some hl
      have hlen : ∀ s ∈ l, s.length ≤ 128 := fun s hs => by have := joinS_len l s hs; rw [← hpj] at this; omega
      have hll : l.length ≤ 900 := by have := joinS_count l (fun s hs => (hgood s hs).1); rw [← hpj] at this; omega
      have hne : ∀ s ∈ l, s ≠ [] := fun s hs => (hgood s hs).1
      have PD := fun (g2 : Gh) (h : g.le g2) (sv : Value) (hs : Sl g2 sv l.length 1 (strs l)) L => rdrop6_does l x _ sv m g2 L hl0 (IsV.le h _ _ hX) wx (by omega) (fun s hs => ⟨hne s hs, Nat.le_trans (hlen s hs) (by decide)⟩) (by omega) hs
      unfold PutDR at PD
      rw [drop_toJ l x]
      cases hz : dropD l x with
      | none =>
        rw [hz] at PD
        dsimp only [Option.map_none] at PD ⊢
        clear hX wx vx hgood hlen hpj
        repeat' (first
    | ((with_reducible apply TL.pure); (· exact yQ); (· rfl))
    | ((with_reducible apply TL.build_one); (· rfl); (· rfl); (· rfl); (· rfl); (· rfl); (· rfl); intro bb; refine TL.freeze_obj bb 6 (k := 1) pkA rfl (by decide) ?_; intro gz hgz hslz; (have R1 := R bb gz hgz hslz; clear R hslz))
    | ((with_reducible apply TL.pure); (· exact yV); (· rfl)) | ((with_reducible apply TW.pure); (· exact yV); (· rfl))
    | (refine TL.call (Enters.plain (by kernel_rfl) (by rfl)) (by rfl) (R1 _) ?_; (rintro e g1 Ln hg1 ⟨vs, es, k1, k2, ho, hr⟩; have k2 := k2.symm; subst k1; subst k2; (obtain ⟨rfl, hsl⟩ := hr; have h13 := hgz.trans hg1; have P1 := PD g1 h13 vs hsl; clear PD R1 hsl); refine CallK.ret ?_))
    | (refine TL.call (Enters.plain (by kernel_rfl) (by rfl)) (by rfl) (P1 _) ?_; (rintro e g3 Ln h3 ⟨cz, bz, zz, k1, k2, hz, hm⟩; have k2 := k2.symm; subst k1; subst k2; (obtain rfl := hm); obtain ⟨qk, qb, qn, qs, qi, qil, qic, qm, qml, qmc, rfl⟩ := hz.form; have HZ := Hn.mk hz; clear hz; refine CallK.ret ?_))
    | ((with_reducible apply TL.pure); (· exact yA); (· rfl))
    | refine TC.seq ?_ | refine TC.region ?_ | refine TL.nil ?_ | refine TQ.then_normal ?_
    | ((with_reducible apply TL.storeE); (· rfl); (· rfl); (· rfl); (· exact pkA); (· infer_instance)) | ((with_reducible apply TL.store_whole); (· rfl); (· rfl); (· exact oneA); (· rfl); (· exact pkA); (· rfl))
    | refine TC.block ?_ | refine TC.ret ?_ | refine TC.skip ?_ | refine TC.exit ?_ | refine TC.cond rfl ?_
    | refine TQ.down ?_ | refine TQ.in_exit' rfl ?_
    | refine TL.guard_yes rfl rfl ?_ | refine TL.guard_no rfl rfl rfl rfl ?_ | refine TL.guard_no0 rfl rfl rfl ?_ | refine TL.guard_undef rfl rfl rfl ?_ | refine TL.guard_undef0 rfl rfl ?_ | refine TL.guard rfl rfl rfl ?_
    | refine Br.t rfl ?_ | refine Br.f rfl ?_ | refine Br.ky kpA ?_ | refine Br.kn kpA ?_ | refine Br.nky kpA ?_ | refine Br.nkn kpA ?_
    | refine Br.eq0 (fun _ => ?_) (fun _ => ?_) | refine Br.neq0 (fun _ => ?_) (fun _ => ?_) | refine Br.eq (fun _ => ?_) (fun _ => ?_) | refine Br.neq (fun _ => ?_) (fun _ => ?_) | refine Br.not (fun _ => ?_) (fun _ => ?_) | refine Br.dec (fun _ => ?_) (fun _ => ?_) | refine Br.bool (fun _ => ?_) (fun _ => ?_)
    | ((with_reducible apply TL.alloc_ag); (· rfl); intro _) | ((with_reducible apply TL.alloc_sc); (· rfl); (· rfl); intro _) | ((with_reducible apply TL.box_ag); (· rfl); (· rfl); intro _) | ((with_reducible apply TL.box_sc); (· rfl); (· rfl); (· rfl); intro _))
        refine TQ.endR2 (L' := L) Tryz.results37 rvA rvA rfl (h13.trans h3) ?_ selF
        exact ⟨_, 7, _, rfl, rfl, .zeroD, rfl, by decide⟩
      | some z =>
        rw [hz] at PD
        dsimp only [Option.map_some] at PD ⊢
        have HW := Hn.mk (wfN_drop l x z m wx hz)
        clear hX wx vx hgood hlen hpj hz
        repeat' (first
    | ((with_reducible apply TL.pure); (· exact yQ); (· rfl))
    | ((with_reducible apply TL.build_one); (· rfl); (· rfl); (· rfl); (· rfl); (· rfl); (· rfl); intro bb; refine TL.freeze_obj bb 6 (k := 1) pkA rfl (by decide) ?_; intro gz hgz hslz; (have R1 := R bb gz hgz hslz; clear R hslz))
    | ((with_reducible apply TL.pure); (· exact yV); (· rfl)) | ((with_reducible apply TW.pure); (· exact yV); (· rfl))
    | (refine TL.call (Enters.plain (by kernel_rfl) (by rfl)) (by rfl) (R1 _) ?_; (rintro e g1 Ln hg1 ⟨vs, es, k1, k2, ho, hr⟩; have k2 := k2.symm; subst k1; subst k2; (obtain ⟨rfl, hsl⟩ := hr; have h13 := hgz.trans hg1; have P1 := PD g1 h13 vs hsl; clear PD R1 hsl); refine CallK.ret ?_))
    | (refine TL.call (Enters.plain (by kernel_rfl) (by rfl)) (by rfl) (P1 _) ?_; (rintro e g3 Ln h3 ⟨cz, bz, zz, k1, k2, hz, hm⟩; have k2 := k2.symm; subst k1; subst k2; (obtain ⟨rfl, rfl⟩ := hm); obtain ⟨qk, qb, qn, qs, qi, qil, qic, qm, qml, qmc, rfl⟩ := hz.form; have HZ := Hn.mk hz; clear hz; refine CallK.ret ?_))
    | ((with_reducible apply TL.pure); (· exact yA); (· rfl))
    | refine TC.seq ?_ | refine TC.region ?_ | refine TL.nil ?_ | refine TQ.then_normal ?_
    | ((with_reducible apply TL.storeE); (· rfl); (· rfl); (· rfl); (· exact pkA); (· infer_instance)) | ((with_reducible apply TL.store_whole); (· rfl); (· rfl); (· exact oneA); (· rfl); (· exact pkA); (· rfl))
    | refine TC.block ?_ | refine TC.ret ?_ | refine TC.skip ?_ | refine TC.exit ?_ | refine TC.cond rfl ?_
    | refine TQ.down ?_ | refine TQ.in_exit' rfl ?_
    | refine TL.guard_yes rfl rfl ?_ | refine TL.guard_no rfl rfl rfl rfl ?_ | refine TL.guard_no0 rfl rfl rfl ?_ | refine TL.guard_undef rfl rfl rfl ?_ | refine TL.guard_undef0 rfl rfl ?_ | refine TL.guard rfl rfl rfl ?_
    | refine Br.t rfl ?_ | refine Br.f rfl ?_ | refine Br.ky kpA ?_ | refine Br.kn kpA ?_ | refine Br.nky kpA ?_ | refine Br.nkn kpA ?_
    | refine Br.eq0 (fun _ => ?_) (fun _ => ?_) | refine Br.neq0 (fun _ => ?_) (fun _ => ?_) | refine Br.eq (fun _ => ?_) (fun _ => ?_) | refine Br.neq (fun _ => ?_) (fun _ => ?_) | refine Br.not (fun _ => ?_) (fun _ => ?_) | refine Br.dec (fun _ => ?_) (fun _ => ?_) | refine Br.bool (fun _ => ?_) (fun _ => ?_)
    | ((with_reducible apply TL.alloc_ag); (· rfl); intro _) | ((with_reducible apply TL.alloc_sc); (· rfl); (· rfl); intro _) | ((with_reducible apply TL.box_ag); (· rfl); (· rfl); intro _) | ((with_reducible apply TL.box_sc); (· rfl); (· rfl); (· rfl); intro _))
        refine TQ.endR2 (L' := L) Tryz.results37 rvA rvA rfl (h13.trans h3) ?_ selF
        exact ⟨_, 0, _, rfl, rfl, HZ.out, rfl, rfl, HW.out⟩
    · rw [if_pos h1]
      rw [if_neg h1] at R
      dsimp only at R
      have H2 : Hn (¬ ((lookJ (toJ x) 0 : Nat) : Int) = 0) := ⟨by omega⟩
      have N2 := Hn.mk h1
      clear hX wx vx h1
      generalize lookJ (toJ x) 0 = q at *
      repeat' (first
    | ((with_reducible apply TL.pure); (· exact yQ); (· rfl))
    | ((with_reducible apply TL.build_one); (· rfl); (· rfl); (· rfl); (· rfl); (· rfl); (· rfl); intro bb; refine TL.freeze_obj bb 6 (k := 1) pkA rfl (by decide) ?_; intro gz hgz hslz; (have R1 := R bb gz hgz hslz; clear R hslz))
    | ((with_reducible apply TL.pure); (· exact yV); (· rfl)) | ((with_reducible apply TW.pure); (· exact yV); (· rfl))
    | (refine TL.call (Enters.plain (by kernel_rfl) (by rfl)) (by rfl) (R1 _) ?_; (rintro e g1 Ln hg1 ⟨vs, es, k1, k2, ho, hr⟩; have k2 := k2.symm; subst k1; subst k2; (obtain ⟨rfl, _, rfl⟩ := hr); refine CallK.ret ?_))
    | ((with_reducible apply TL.pure); (· exact yA); (· rfl))
    | refine TC.seq ?_ | refine TC.region ?_ | refine TL.nil ?_ | refine TQ.then_normal ?_
    | ((with_reducible apply TL.storeE); (· rfl); (· rfl); (· rfl); (· exact pkA); (· infer_instance)) | ((with_reducible apply TL.store_whole); (· rfl); (· rfl); (· exact oneA); (· rfl); (· exact pkA); (· rfl))
    | refine TC.block ?_ | refine TC.ret ?_ | refine TC.skip ?_ | refine TC.exit ?_ | refine TC.cond rfl ?_
    | refine TQ.down ?_ | refine TQ.in_exit' rfl ?_
    | refine TL.guard_yes rfl rfl ?_ | refine TL.guard_no rfl rfl rfl rfl ?_ | refine TL.guard_no0 rfl rfl rfl ?_ | refine TL.guard_undef rfl rfl rfl ?_ | refine TL.guard_undef0 rfl rfl ?_ | refine TL.guard rfl rfl rfl ?_
    | refine Br.t rfl ?_ | refine Br.f rfl ?_ | refine Br.ky kpA ?_ | refine Br.kn kpA ?_ | refine Br.nky kpA ?_ | refine Br.nkn kpA ?_
    | refine Br.eq0 (fun _ => ?_) (fun _ => ?_) | refine Br.neq0 (fun _ => ?_) (fun _ => ?_) | refine Br.eq (fun _ => ?_) (fun _ => ?_) | refine Br.neq (fun _ => ?_) (fun _ => ?_) | refine Br.not (fun _ => ?_) (fun _ => ?_) | refine Br.dec (fun _ => ?_) (fun _ => ?_) | refine Br.bool (fun _ => ?_) (fun _ => ?_)
    | ((with_reducible apply TL.alloc_ag); (· rfl); intro _) | ((with_reducible apply TL.alloc_sc); (· rfl); (· rfl); intro _) | ((with_reducible apply TL.box_ag); (· rfl); (· rfl); intro _) | ((with_reducible apply TL.box_sc); (· rfl); (· rfl); (· rfl); intro _))
      refine TQ.endR2 (L' := L) Tryz.results37 rvA rvA rfl (hgz.trans hg1) ?_ selF
      exact ⟨_, es, _, rfl, rfl, .zeroD, rfl, N2.out⟩
end Go.Proofs.YtacogbfgegcliaaGreatDoor
