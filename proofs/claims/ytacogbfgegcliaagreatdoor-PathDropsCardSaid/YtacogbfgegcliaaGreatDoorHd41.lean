/-
  The walk of the document's ready. The walk of the document's put.
-/
import Derived.Test.YtacogbfgegcliaaGreatDoorHd34
import Derived.Test.YtacogbfgegcliaaGreatDoorHd40
import Derived.Test.YtacogbfgegcliaaGreatDoorHd37
import Derived.Test.YtacogbfgegcliaaGreatDoorHd9
import Derived.Test.YtacogbfgegcliaaGreatDoorHd39
namespace Go.Proofs.YtacogbfgegcliaaGreatDoor
open Go.RowKit Go.TL
set_option maxRecDepth 100000

theorem IsVs.at {g : Gh} {l : List DV} {flat : List Value} {i : Nat} {x : DV} (h : IsVs g l flat) (hx : l[i]? = some x) : ∃ cs, IsV g x cs ∧ cs.length = 6 ∧ ∀ j u, cs[j]? = some u → flat[i * 6 + j]? = some u := IsVs.get h hx
set_option maxHeartbeats 16000000 in
theorem rready6_does (p : List UInt8) (xs : List DV) (flat : List Value) (sv : Value) (g : Gh) (L : List Ent) (hp : p.length ≤ 1000000) (hn : xs.length ≤ 1000) (hS : Sl g sv xs.length 6 flat) (hJ : IsVs g xs flat) (hw : ∀ x ∈ xs, wfV x) : Does Tryz.prog 66 #[str p, sv] g L (ReadyR p (xs.map toJ) L) := by
  refine Does.of2 Tryz.func66 rfl Tryz.ntmps66 rfl ?_
  obtain ⟨ao, cap, rfl⟩ := hS.slice
  have A := fun L => rSteps6_does p g L hp
  unfold RStepsR at A
  unfold ReadyR readyE
  cases hl : stepsL p with
  | none =>
    rw [hl] at A
    clear hS hJ
    repeat' (first
    | ((with_reducible apply TL.pure); (· exact yV); (· rfl)) | ((with_reducible apply TW.pure); (· exact yV); (· rfl))
    | (refine TL.call (Enters.plain (by kernel_rfl) (by rfl)) (by rfl) (A _) ?_; (rintro e g1 Ln hg1 ⟨vs, es, k1, k2, ho, hr⟩; have k2 := k2.symm; subst k1; subst k2; (obtain ⟨rfl, rfl⟩ := hr); refine CallK.ret ?_))
    | ((with_reducible apply TL.pure); (· exact yA); (· rfl))
    | refine TC.seq ?_ | refine TC.region ?_ | refine TL.nil ?_ | refine TQ.then_normal ?_
    | ((with_reducible apply TL.storeE); (· rfl); (· rfl); (· rfl); (· exact pkA); (· infer_instance)) | ((with_reducible apply TL.store_whole); (· rfl); (· rfl); (· exact oneA); (· rfl); (· exact pkA); (· rfl))
    | refine TC.block ?_ | refine TC.ret ?_ | refine TC.skip ?_ | refine TC.exit ?_ | refine TC.cond rfl ?_
    | refine TQ.down ?_ | refine TQ.in_exit' rfl ?_
    | refine TL.guard_yes rfl rfl ?_ | refine TL.guard_no rfl rfl rfl rfl ?_ | refine TL.guard_no0 rfl rfl rfl ?_ | refine TL.guard_undef rfl rfl rfl ?_ | refine TL.guard_undef0 rfl rfl ?_ | refine TL.guard rfl rfl rfl ?_
    | refine Br.t rfl ?_ | refine Br.f rfl ?_ | refine Br.ky kpA ?_ | refine Br.kn kpA ?_ | refine Br.nky kpA ?_ | refine Br.nkn kpA ?_
    | refine Br.eq0 (fun _ => ?_) (fun _ => ?_) | refine Br.neq0 (fun _ => ?_) (fun _ => ?_) | refine Br.eq (fun _ => ?_) (fun _ => ?_) | refine Br.neq (fun _ => ?_) (fun _ => ?_) | refine Br.not (fun _ => ?_) (fun _ => ?_) | refine Br.dec (fun _ => ?_) (fun _ => ?_) | refine Br.bool (fun _ => ?_) (fun _ => ?_)
    | ((with_reducible apply TL.alloc_ag); (· rfl); intro _) | ((with_reducible apply TL.alloc_sc); (· rfl); (· rfl); intro _) | ((with_reducible apply TL.box_ag); (· rfl); (· rfl); intro _) | ((with_reducible apply TL.box_sc); (· rfl); (· rfl); (· rfl); intro _))
    refine TQ.endR2 (L' := L) Tryz.results66 rvA rvA rfl (hg1) ?_ selA
    exact ⟨_, 16, rfl, rfl, rfl, rfl, by decide, rfl⟩
  | some l =>
    rw [hl] at A
    dsimp only at A ⊢
    repeat' (first
    | ((with_reducible apply TL.pure); (· exact yV); (· rfl)) | ((with_reducible apply TW.pure); (· exact yV); (· rfl))
    | (refine TL.call (Enters.plain (by kernel_rfl) (by rfl)) (by rfl) (A _) ?_; (rintro e g1 Ln hg1 ⟨vs, es, k1, k2, ho, hr⟩; have k2 := k2.symm; subst k1; subst k2; (obtain ⟨rfl, hsl⟩ := hr); refine CallK.ret ?_))
    | ((with_reducible apply TL.pure); (· exact yA); (· rfl))
    | refine TC.seq ?_ | refine TC.region ?_ | refine TL.nil ?_ | refine TQ.then_normal ?_
    | ((with_reducible apply TL.storeE); (· rfl); (· rfl); (· rfl); (· exact pkA); (· infer_instance)) | ((with_reducible apply TL.store_whole); (· rfl); (· rfl); (· exact oneA); (· rfl); (· exact pkA); (· rfl))
    | refine TC.block ?_ | refine TC.ret ?_ | refine TC.skip ?_ | refine TC.exit ?_ | refine TC.cond rfl ?_
    | refine TQ.down ?_ | refine TQ.in_exit' rfl ?_
    | refine TL.guard_yes rfl rfl ?_ | refine TL.guard_no rfl rfl rfl rfl ?_ | refine TL.guard_no0 rfl rfl rfl ?_ | refine TL.guard_undef rfl rfl rfl ?_ | refine TL.guard_undef0 rfl rfl ?_ | refine TL.guard rfl rfl rfl ?_
    | refine Br.t rfl ?_ | refine Br.f rfl ?_ | refine Br.ky kpA ?_ | refine Br.kn kpA ?_ | refine Br.nky kpA ?_ | refine Br.nkn kpA ?_
    | refine Br.eq0 (fun _ => ?_) (fun _ => ?_) | refine Br.neq0 (fun _ => ?_) (fun _ => ?_) | refine Br.eq (fun _ => ?_) (fun _ => ?_) | refine Br.neq (fun _ => ?_) (fun _ => ?_) | refine Br.not (fun _ => ?_) (fun _ => ?_) | refine Br.dec (fun _ => ?_) (fun _ => ?_) | refine Br.bool (fun _ => ?_) (fun _ => ?_)
    | ((with_reducible apply TL.alloc_ag); (· rfl); intro _) | ((with_reducible apply TL.alloc_sc); (· rfl); (· rfl); intro _) | ((with_reducible apply TL.box_ag); (· rfl); (· rfl); intro _) | ((with_reducible apply TL.box_sc); (· rfl); (· rfl); (· rfl); intro _))
    clear A
    have hS1 := hS.le hg1
    have hJ1 := IsVs.le hg1 _ _ hJ
    clear hS hJ
    obtain ⟨av, cv, rfl⟩ := hsl.slice
    refine TC.loopL (fun i : Nat => i ≤ xs.length ∧ lookAll ((xs.map toJ).drop i) = lookAll (xs.map toJ)) (fun i => xs.length - i) (fun i _ => [(8, .int .i64 (i : Nat)), (1, .slice ao xs.length cap), (6, .slice av l.length cv)]) (fun _ => L) 0 ⟨Nat.zero_le _, rfl⟩ subA selA ?_
    rintro i ⟨hi, hll⟩
    try dsimp only at hi hll ⊢
    by_cases hlt : i < xs.length
    · obtain ⟨x, hx⟩ : ∃ x, xs[i]? = some x := ⟨_, List.getElem?_eq_getElem (by omega)⟩
      obtain ⟨cs, hV, hcl, hfl⟩ := hJ1.at hx
      obtain ⟨b1, o1, rfl, hg⟩ := hS1.elem hlt (by decide)
      have hld : ∀ j u, cs[j]? = some u → g1.cell b1 (o1 + i * 6 + j) = some u := fun j u hu => hg j u (hfl j u hu)
      have M := fun L => rMay_gives x cs g1 L hV (hw x (List.mem_of_getElem? hx))
      rw [← look_toJ _ x (Nat.le_refl _) 0] at M
      rw [drop_of_get (show (xs.map toJ)[i]? = some (toJ x) by rw [List.getElem?_map, hx]; rfl), lookAll] at hll
      by_cases h0 : lookJ (toJ x) 0 = 0
      · rw [if_pos h0] at hll
        rw [h0] at M
        have HL := Hn.mk hll
        have HS1 := Hn.mk (And.intro hsl hll)
        clear hS1 hg hfl hV hJ1 hll hsl hw
        repeat' (first
    | ((with_reducible apply TL.pure); (· exact yV); (· rfl)) | ((with_reducible apply TW.pure); (· exact yV); (· rfl))
    | ((with_reducible apply TL.pure); (· exact yM); (· rfl)) | ((with_reducible apply TW.pure); (· exact yM); (· rfl))
    | ((with_reducible apply TL.gives_plain); (· kernel_rfl); (· rfl); (· exact M _); (· rfl)) | ((with_reducible apply TW.gives_plain); (· kernel_rfl); (· rfl); (· exact M _); (· rfl))
    | ((with_reducible apply TL.pure); (· exact yA); (· rfl))
    | refine TC.seq ?_ | refine TC.region ?_ | refine TL.nil ?_ | refine TQ.then_normal ?_
    | ((with_reducible apply TL.storeE); (· rfl); (· rfl); (· rfl); (· exact pkA); (· infer_instance)) | ((with_reducible apply TL.store_whole); (· rfl); (· rfl); (· exact oneA); (· rfl); (· exact pkA); (· rfl))
    | refine TC.block ?_ | refine TC.ret ?_ | refine TC.skip ?_ | refine TC.exit ?_ | refine TC.cond rfl ?_
    | refine TQ.down ?_ | refine TQ.in_exit' rfl ?_
    | refine TL.guard_yes rfl rfl ?_ | refine TL.guard_no rfl rfl rfl rfl ?_ | refine TL.guard_no0 rfl rfl rfl ?_ | refine TL.guard_undef rfl rfl rfl ?_ | refine TL.guard_undef0 rfl rfl ?_ | refine TL.guard rfl rfl rfl ?_
    | refine Br.t rfl ?_ | refine Br.f rfl ?_ | refine Br.ky kpA ?_ | refine Br.kn kpA ?_ | refine Br.nky kpA ?_ | refine Br.nkn kpA ?_
    | refine Br.eq0 (fun _ => ?_) (fun _ => ?_) | refine Br.neq0 (fun _ => ?_) (fun _ => ?_) | refine Br.eq (fun _ => ?_) (fun _ => ?_) | refine Br.neq (fun _ => ?_) (fun _ => ?_) | refine Br.not (fun _ => ?_) (fun _ => ?_) | refine Br.dec (fun _ => ?_) (fun _ => ?_) | refine Br.bool (fun _ => ?_) (fun _ => ?_)
    | ((with_reducible apply TL.alloc_ag); (· rfl); intro _) | ((with_reducible apply TL.alloc_sc); (· rfl); (· rfl); intro _) | ((with_reducible apply TL.box_ag); (· rfl); (· rfl); intro _) | ((with_reducible apply TL.box_sc); (· rfl); (· rfl); (· rfl); intro _))
        refine TQ.round (i + 1) ?_ ?_ rfl subA selA
        · exact ⟨by omega, HL.out⟩
        · show xs.length - (i + 1) < xs.length - i
          omega
      · rw [if_neg h0] at hll
        have hk : Hn (¬ ((lookJ (toJ x) 0 : Nat) : Int) = 0) := ⟨by omega⟩
        rw [← hll, if_neg h0]
        have hk2 := Hn.mk h0
        clear hS1 hg hfl hV hJ1 hll hsl h0 hw
        generalize lookJ (toJ x) 0 = e at *
        repeat' (first
    | ((with_reducible apply TL.pure); (· exact yV); (· rfl)) | ((with_reducible apply TW.pure); (· exact yV); (· rfl))
    | ((with_reducible apply TL.pure); (· exact yM); (· rfl)) | ((with_reducible apply TW.pure); (· exact yM); (· rfl))
    | ((with_reducible apply TL.gives_plain); (· kernel_rfl); (· rfl); (· exact M _); (· rfl)) | ((with_reducible apply TW.gives_plain); (· kernel_rfl); (· rfl); (· exact M _); (· rfl))
    | ((with_reducible apply TL.pure); (· exact yA); (· rfl))
    | refine TC.seq ?_ | refine TC.region ?_ | refine TL.nil ?_ | refine TQ.then_normal ?_
    | ((with_reducible apply TL.storeE); (· rfl); (· rfl); (· rfl); (· exact pkA); (· infer_instance)) | ((with_reducible apply TL.store_whole); (· rfl); (· rfl); (· exact oneA); (· rfl); (· exact pkA); (· rfl))
    | refine TC.block ?_ | refine TC.ret ?_ | refine TC.skip ?_ | refine TC.exit ?_ | refine TC.cond rfl ?_
    | refine TQ.down ?_ | refine TQ.in_exit' rfl ?_
    | refine TL.guard_yes rfl rfl ?_ | refine TL.guard_no rfl rfl rfl rfl ?_ | refine TL.guard_no0 rfl rfl rfl ?_ | refine TL.guard_undef rfl rfl rfl ?_ | refine TL.guard_undef0 rfl rfl ?_ | refine TL.guard rfl rfl rfl ?_
    | refine Br.t rfl ?_ | refine Br.f rfl ?_ | refine Br.ky kpA ?_ | refine Br.kn kpA ?_ | refine Br.nky kpA ?_ | refine Br.nkn kpA ?_
    | refine Br.eq0 (fun _ => ?_) (fun _ => ?_) | refine Br.neq0 (fun _ => ?_) (fun _ => ?_) | refine Br.eq (fun _ => ?_) (fun _ => ?_) | refine Br.neq (fun _ => ?_) (fun _ => ?_) | refine Br.not (fun _ => ?_) (fun _ => ?_) | refine Br.dec (fun _ => ?_) (fun _ => ?_) | refine Br.bool (fun _ => ?_) (fun _ => ?_)
    | ((with_reducible apply TL.alloc_ag); (· rfl); intro _) | ((with_reducible apply TL.alloc_sc); (· rfl); (· rfl); intro _) | ((with_reducible apply TL.box_ag); (· rfl); (· rfl); intro _) | ((with_reducible apply TL.box_sc); (· rfl); (· rfl); (· rfl); intro _))
        refine TQ.endR2 (L' := L) Tryz.results66 rvA rvA rfl (hg1) ?_ selA
        exact ⟨_, e, rfl, rfl, rfl, rfl, hk2.out, rfl⟩
    · have h0 : lookAll (xs.map toJ) = 0 := by rw [← hll, List.drop_eq_nil_of_le (by rw [List.length_map]; omega)]; rfl
      rw [if_pos h0]
      have HS1 := Hn.mk hsl
      clear hS1 hJ1 hll hsl h0 hw
      repeat' (first
    | ((with_reducible apply TL.pure); (· exact yV); (· rfl)) | ((with_reducible apply TW.pure); (· exact yV); (· rfl))
    | ((with_reducible apply TL.pure); (· exact yA); (· rfl))
    | refine TC.seq ?_ | refine TC.region ?_ | refine TL.nil ?_ | refine TQ.then_normal ?_
    | ((with_reducible apply TL.storeE); (· rfl); (· rfl); (· rfl); (· exact pkA); (· infer_instance)) | ((with_reducible apply TL.store_whole); (· rfl); (· rfl); (· exact oneA); (· rfl); (· exact pkA); (· rfl))
    | refine TC.block ?_ | refine TC.ret ?_ | refine TC.skip ?_ | refine TC.exit ?_ | refine TC.cond rfl ?_
    | refine TQ.down ?_ | refine TQ.in_exit' rfl ?_
    | refine TL.guard_yes rfl rfl ?_ | refine TL.guard_no rfl rfl rfl rfl ?_ | refine TL.guard_no0 rfl rfl rfl ?_ | refine TL.guard_undef rfl rfl rfl ?_ | refine TL.guard_undef0 rfl rfl ?_ | refine TL.guard rfl rfl rfl ?_
    | refine Br.t rfl ?_ | refine Br.f rfl ?_ | refine Br.ky kpA ?_ | refine Br.kn kpA ?_ | refine Br.nky kpA ?_ | refine Br.nkn kpA ?_
    | refine Br.eq0 (fun _ => ?_) (fun _ => ?_) | refine Br.neq0 (fun _ => ?_) (fun _ => ?_) | refine Br.eq (fun _ => ?_) (fun _ => ?_) | refine Br.neq (fun _ => ?_) (fun _ => ?_) | refine Br.not (fun _ => ?_) (fun _ => ?_) | refine Br.dec (fun _ => ?_) (fun _ => ?_) | refine Br.bool (fun _ => ?_) (fun _ => ?_)
    | ((with_reducible apply TL.alloc_ag); (· rfl); intro _) | ((with_reducible apply TL.alloc_sc); (· rfl); (· rfl); intro _) | ((with_reducible apply TL.box_ag); (· rfl); (· rfl); intro _) | ((with_reducible apply TL.box_sc); (· rfl); (· rfl); (· rfl); intro _))
      refine TQ.endR2 (L' := L) Tryz.results66 rvA rvA rfl (hg1) ?_ selA
      exact ⟨_, 0, rfl, rfl, rfl, rfl, HS1.out⟩
end Go.Proofs.YtacogbfgegcliaaGreatDoor
namespace Go.Proofs.YtacogbfgegcliaaGreatDoor
open Go.RowKit Go.TL
set_option maxRecDepth 100000

theorem IsV.names {g g' : Gh} {k : Int} {b : Bool} {n : Int} {t : List UInt8} {items : List DV} {names names' : List (List UInt8)} {vi vn vn' : Value} (h : IsV g (.mk k b n t items names) [.int .i64 k, .bool b, .int .i64 n, str t, vi, vn]) (hg : g.le g') (hS : Sl g' vn' names'.length 1 (strs names')) (hl : names'.length ≤ 9223372036854775807) (hb : ∀ x ∈ names', x.length ≤ 9223372036854775807) : IsV g' (.mk k b n t items names') [.int .i64 k, .bool b, .int .i64 n, str t, vi, vn'] := by
  have h2 := IsV.le hg _ _ h
  rw [IsV] at h2 ⊢
  obtain ⟨vi0, vn0, flat, e, h3, h4, h5, h6, h7, h8, _⟩ := h2
  simp only [List.cons.injEq, true_and, and_true] at e
  obtain ⟨rfl, rfl⟩ := e
  exact ⟨_, _, flat, rfl, h3, h4, h5, h6, h7, h8, hS, hl, hb⟩
def PutDR (o : Option DV) (L : List Ent) : Ending → Gh → List Ent → Prop := fun e g' L' => ∃ (cs : List Value) (b : Bool) (z : DV), e = .returned (.tuple #[.agg cs.toArray, .bool b]) ∧ L' = L ∧ IsV g' z cs ∧ (match o with
  | some w => b = true ∧ z = w
  | none => b = false)
end Go.Proofs.YtacogbfgegcliaaGreatDoor
