/-
  The walk of path.item.
-/
import Derived.Test.YtacogbfgegcliaaGreatDoorHg13
import Derived.Lib.AtoiErrMem
import Derived.Lib.AppendIntMem
namespace Go.Proofs.YtacogbfgegcliaaGreatDoor
open Go.RowKit Go.TL
set_option maxRecDepth 100000

theorem errUnd : ∃ ms, Tryz.prog.underlying 126 = some (.interface ms) := ⟨_, Tryz.underlying126⟩
instance : Und Tryz.prog 126 (.interface (Classical.choose errUnd)) := ⟨Classical.choose_spec errUnd⟩
def GErr (g : Gh) : Prop := ∀ L w, St g L w → (∃ te pe, w.cell? ⟨4, 0, none⟩ = some (.iface te pe)) ∧ (∃ te pe, w.cell? ⟨5, 0, none⟩ = some (.iface te pe))
theorem GErr.le {g g' : Gh} (h : GErr g) (hg : g.le g') : GErr g' := fun L w hs => h L w (hs.less hg)
def AtoiR (s : List UInt8) (g : Gh) (L : List Ent) : Ending → Gh → List Ent → Prop := fun r g' L1 => ∃ v e, r = .returned (.tuple #[.int .i64 v, e]) ∧ g' = g ∧ L1 = L ∧ (match Lib.atoiAll s with
  | .ok u => e = .nilIface ∧ v = u
  | _ => ∃ T u, e = .iface T u)
theorem atoi_does (s : List UInt8) (g : Gh) (L : List Ent) (hs : s.length ≤ 1000000) (hE : GErr g) : Does Tryz.prog 135 #[str s] g L (AtoiR s g L) := .mk fun w hw => by
  have hd : (ByteArray.mk s.toArray).data.toList = s := by simp
  unfold AtoiR
  obtain ⟨⟨t1, p1, h1⟩, ⟨t2, p2, h2⟩⟩ := hE L w hw
  rcases h : Lib.atoiAll s with v | _ | _
  · refine (Tryz.strconv_Atoi_ok ⟨s.toArray⟩ (by rw [size_mk]; omega) v (by rw [hd]; exact h) w).mono ?_
    rintro e w' ⟨rfl, hw'⟩
    refine ⟨g, L, .refl g, ⟨v, _, rfl, rfl, rfl, rfl, rfl⟩, ?_⟩
    rcases hw' with rfl | ⟨t, rfl⟩
    · exact hw
    · exact hw.ext (Lib.bytesWorld_below _ _ _)
  · refine (Tryz.strconv_Atoi_syntax ⟨s.toArray⟩ (by rw [size_mk]; omega) (by rw [hd]; exact h) _ w h1 (.inr ⟨_, _, rfl⟩)).mono ?_
    rintro e w' ⟨N, rfl, _, _, hb⟩
    exact ⟨g, L, .refl g, ⟨_, _, rfl, rfl, rfl, _, _, rfl⟩, hw.ext hb⟩
  · refine (Tryz.strconv_Atoi_range ⟨s.toArray⟩ (by rw [size_mk]; omega) (by rw [hd]; exact h) _ w h2 (.inr ⟨_, _, rfl⟩)).mono ?_
    rintro e w' ⟨N, rfl, _, _, hb⟩
    exact ⟨g, L, .refl g, ⟨_, _, rfl, rfl, rfl, _, _, rfl⟩, hw.ext hb⟩
theorem itoa_gives (n : Int) (g : Gh) (L : List Ent) (h0 : -9223372036854775808 ≤ n) (h1 : n ≤ 9223372036854775807) (hT : GTabs g) : Gives Tryz.prog 109 #[.int .i64 n] g L (str (Lib.itoa n)) := .mk fun w hw => by
  refine (Tryz.strconv_Itoa n h0 h1 w (hT L w hw w (.refl _ _))).mono ?_
  rintro e w' ⟨rfl, k, os, rfl⟩
  exact ⟨rfl, hw.ext (Lib.below_grow _ _ (Nat.le_refl _) _ _)⟩
set_option maxHeartbeats 8000000 in
theorem pitem_gives (s : List UInt8) (g : Gh) (L : List Ent) (hs : s.length ≤ 1000000) (hE : GErr g) (hT : GTabs g) : Gives Tryz.prog 101 #[str s] g L (.int .i64 (itemV s)) := by
  refine .of (Does.of1 Tryz.func101 rfl Tryz.ntmps101 rfl ?_)
  have A := fun L => atoi_does s g L hs hE
  unfold AtoiR at A
  have hit := item_atoi s
  cases h : Lib.atoiAll s with
  | ok v =>
    rw [h] at A hit
    have hb := Lib.atoiAll_bounds h
    have I := fun L => itoa_gives v g L hb.1 hb.2 hT
    dsimp only at hit
    rw [← hit]
    by_cases he : Lib.itoa v = s
    · rw [he] at I
      by_cases h0 : 0 ≤ v
      · rw [if_pos ⟨he, h0⟩]
        repeat' (first
    | ((with_reducible apply TL.pure); (· exact yV); (· rfl)) | ((with_reducible apply TW.pure); (· exact yV); (· rfl))
    | (refine TL.call (Enters.plain (by kernel_rfl) (by rfl)) (by rfl) (A _) ?_; (rintro e g1 L1 _ ⟨v1, e1, k1, k2, k3, k4, k5⟩; have k2 := k2.symm; have k3 := k3.symm; subst k1; subst k2; subst k3; subst k4; subst k5; refine CallK.ret ?_))
    | ((with_reducible apply TL.gives_plain); (· kernel_rfl); (· rfl); (· exact I _); (· rfl)) | ((with_reducible apply TW.gives_plain); (· kernel_rfl); (· rfl); (· exact I _); (· rfl))
    | ((with_reducible apply TL.pure); (· exact yA); (· rfl))
    | refine TC.seq ?_ | refine TC.region ?_ | refine TL.nil ?_ | refine TQ.then_normal ?_
    | ((with_reducible apply TL.storeE); (· rfl); (· rfl); (· rfl); (· exact pkA); (· infer_instance)) | ((with_reducible apply TL.store_whole); (· rfl); (· rfl); (· exact oneA); (· rfl); (· exact pkA); (· rfl))
    | refine TC.block ?_ | refine TC.ret ?_ | refine TC.skip ?_ | refine TC.exit ?_ | refine TC.cond rfl ?_
    | refine TQ.down ?_ | refine TQ.in_exit' rfl ?_
    | refine TL.guard_yes rfl rfl ?_ | refine TL.guard_no rfl rfl rfl rfl ?_ | refine TL.guard_no0 rfl rfl rfl ?_ | refine TL.guard_undef rfl rfl rfl ?_ | refine TL.guard_undef0 rfl rfl ?_ | refine TL.guard rfl rfl rfl ?_
    | refine Br.t rfl ?_ | refine Br.f rfl ?_ | refine Br.ky kpA ?_ | refine Br.kn kpA ?_ | refine Br.nky kpA ?_ | refine Br.nkn kpA ?_
    | refine Br.eq0 (fun _ => ?_) (fun _ => ?_) | refine Br.neq0 (fun _ => ?_) (fun _ => ?_) | refine Br.eq (fun _ => ?_) (fun _ => ?_) | refine Br.neq (fun _ => ?_) (fun _ => ?_) | refine Br.not (fun _ => ?_) (fun _ => ?_) | refine Br.dec (fun _ => ?_) (fun _ => ?_) | refine Br.bool (fun _ => ?_) (fun _ => ?_)
    | ((with_reducible apply TL.alloc_ag); (· rfl); intro _) | ((with_reducible apply TL.alloc_sc); (· rfl); (· rfl); intro _) | ((with_reducible apply TL.box_ag); (· rfl); (· rfl); intro _) | ((with_reducible apply TL.box_sc); (· rfl); (· rfl); (· rfl); intro _))
        · rename_i hx; exact absurd rfl hx.out
        · refine TQ.endR1 (L' := L) Tryz.results101 rvA rfl (.refl _) ?_ selA
          exact ⟨rfl, rfl, rfl⟩
      · rw [if_neg (fun h => h0 h.2)]
        repeat' (first
    | ((with_reducible apply TL.pure); (· exact yV); (· rfl)) | ((with_reducible apply TW.pure); (· exact yV); (· rfl))
    | (refine TL.call (Enters.plain (by kernel_rfl) (by rfl)) (by rfl) (A _) ?_; (rintro e g1 L1 _ ⟨v1, e1, k1, k2, k3, k4, k5⟩; have k2 := k2.symm; have k3 := k3.symm; subst k1; subst k2; subst k3; subst k4; subst k5; refine CallK.ret ?_))
    | ((with_reducible apply TL.gives_plain); (· kernel_rfl); (· rfl); (· exact I _); (· rfl)) | ((with_reducible apply TW.gives_plain); (· kernel_rfl); (· rfl); (· exact I _); (· rfl))
    | ((with_reducible apply TL.pure); (· exact yA); (· rfl))
    | refine TC.seq ?_ | refine TC.region ?_ | refine TL.nil ?_ | refine TQ.then_normal ?_
    | ((with_reducible apply TL.storeE); (· rfl); (· rfl); (· rfl); (· exact pkA); (· infer_instance)) | ((with_reducible apply TL.store_whole); (· rfl); (· rfl); (· exact oneA); (· rfl); (· exact pkA); (· rfl))
    | refine TC.block ?_ | refine TC.ret ?_ | refine TC.skip ?_ | refine TC.exit ?_ | refine TC.cond rfl ?_
    | refine TQ.down ?_ | refine TQ.in_exit' rfl ?_
    | refine TL.guard_yes rfl rfl ?_ | refine TL.guard_no rfl rfl rfl rfl ?_ | refine TL.guard_no0 rfl rfl rfl ?_ | refine TL.guard_undef rfl rfl rfl ?_ | refine TL.guard_undef0 rfl rfl ?_ | refine TL.guard rfl rfl rfl ?_
    | refine Br.t rfl ?_ | refine Br.f rfl ?_ | refine Br.ky kpA ?_ | refine Br.kn kpA ?_ | refine Br.nky kpA ?_ | refine Br.nkn kpA ?_
    | refine Br.eq0 (fun _ => ?_) (fun _ => ?_) | refine Br.neq0 (fun _ => ?_) (fun _ => ?_) | refine Br.eq (fun _ => ?_) (fun _ => ?_) | refine Br.neq (fun _ => ?_) (fun _ => ?_) | refine Br.not (fun _ => ?_) (fun _ => ?_) | refine Br.dec (fun _ => ?_) (fun _ => ?_) | refine Br.bool (fun _ => ?_) (fun _ => ?_)
    | ((with_reducible apply TL.alloc_ag); (· rfl); intro _) | ((with_reducible apply TL.alloc_sc); (· rfl); (· rfl); intro _) | ((with_reducible apply TL.box_ag); (· rfl); (· rfl); intro _) | ((with_reducible apply TL.box_sc); (· rfl); (· rfl); (· rfl); intro _))
        · rename_i hx; exact absurd rfl hx.out
        · refine TQ.endR1 (L' := L) Tryz.results101 rvA rfl (.refl _) ?_ selA
          exact ⟨rfl, rfl, rfl⟩
    · rw [if_neg (fun h => he h.1)]
      repeat' (first
    | ((with_reducible apply TL.pure); (· exact yV); (· rfl)) | ((with_reducible apply TW.pure); (· exact yV); (· rfl))
    | (refine TL.call (Enters.plain (by kernel_rfl) (by rfl)) (by rfl) (A _) ?_; (rintro e g1 L1 _ ⟨v1, e1, k1, k2, k3, k4, k5⟩; have k2 := k2.symm; have k3 := k3.symm; subst k1; subst k2; subst k3; subst k4; subst k5; refine CallK.ret ?_))
    | ((with_reducible apply TL.gives_plain); (· kernel_rfl); (· rfl); (· exact I _); (· rfl)) | ((with_reducible apply TW.gives_plain); (· kernel_rfl); (· rfl); (· exact I _); (· rfl))
    | ((with_reducible apply TL.pure); (· exact yA); (· rfl))
    | refine TC.seq ?_ | refine TC.region ?_ | refine TL.nil ?_ | refine TQ.then_normal ?_
    | ((with_reducible apply TL.storeE); (· rfl); (· rfl); (· rfl); (· exact pkA); (· infer_instance)) | ((with_reducible apply TL.store_whole); (· rfl); (· rfl); (· exact oneA); (· rfl); (· exact pkA); (· rfl))
    | refine TC.block ?_ | refine TC.ret ?_ | refine TC.skip ?_ | refine TC.exit ?_ | refine TC.cond rfl ?_
    | refine TQ.down ?_ | refine TQ.in_exit' rfl ?_
    | refine TL.guard_yes rfl rfl ?_ | refine TL.guard_no rfl rfl rfl rfl ?_ | refine TL.guard_no0 rfl rfl rfl ?_ | refine TL.guard_undef rfl rfl rfl ?_ | refine TL.guard_undef0 rfl rfl ?_ | refine TL.guard rfl rfl rfl ?_
    | refine Br.t rfl ?_ | refine Br.f rfl ?_ | refine Br.ky kpA ?_ | refine Br.kn kpA ?_ | refine Br.nky kpA ?_ | refine Br.nkn kpA ?_
    | refine Br.eq0 (fun _ => ?_) (fun _ => ?_) | refine Br.neq0 (fun _ => ?_) (fun _ => ?_) | refine Br.eq (fun _ => ?_) (fun _ => ?_) | refine Br.neq (fun _ => ?_) (fun _ => ?_) | refine Br.not (fun _ => ?_) (fun _ => ?_) | refine Br.dec (fun _ => ?_) (fun _ => ?_) | refine Br.bool (fun _ => ?_) (fun _ => ?_)
    | ((with_reducible apply TL.alloc_ag); (· rfl); intro _) | ((with_reducible apply TL.alloc_sc); (· rfl); (· rfl); intro _) | ((with_reducible apply TL.box_ag); (· rfl); (· rfl); intro _) | ((with_reducible apply TL.box_sc); (· rfl); (· rfl); (· rfl); intro _))
      all_goals
        refine TQ.endR1 (L' := L) Tryz.results101 rvA rfl (.refl _) ?_ selA
        exact ⟨rfl, rfl, rfl⟩
  | _ =>
    rw [h] at A hit
    dsimp only at A hit
    rw [← hit]
    repeat' (first
    | ((with_reducible apply TL.pure); (· exact yV); (· rfl)) | ((with_reducible apply TW.pure); (· exact yV); (· rfl))
    | (refine TL.call (Enters.plain (by kernel_rfl) (by rfl)) (by rfl) (A _) ?_; (rintro e g1 L1 _ ⟨v1, e1, k1, k2, k3, T, u, k5⟩; have k2 := k2.symm; have k3 := k3.symm; subst k1; subst k2; subst k3; subst k5; refine CallK.ret ?_))
    | ((with_reducible apply TL.pure); (· exact yA); (· rfl))
    | refine TC.seq ?_ | refine TC.region ?_ | refine TL.nil ?_ | refine TQ.then_normal ?_
    | ((with_reducible apply TL.storeE); (· rfl); (· rfl); (· rfl); (· exact pkA); (· infer_instance)) | ((with_reducible apply TL.store_whole); (· rfl); (· rfl); (· exact oneA); (· rfl); (· exact pkA); (· rfl))
    | refine TC.block ?_ | refine TC.ret ?_ | refine TC.skip ?_ | refine TC.exit ?_ | refine TC.cond rfl ?_
    | refine TQ.down ?_ | refine TQ.in_exit' rfl ?_
    | refine TL.guard_yes rfl rfl ?_ | refine TL.guard_no rfl rfl rfl rfl ?_ | refine TL.guard_no0 rfl rfl rfl ?_ | refine TL.guard_undef rfl rfl rfl ?_ | refine TL.guard_undef0 rfl rfl ?_ | refine TL.guard rfl rfl rfl ?_
    | refine Br.t rfl ?_ | refine Br.f rfl ?_ | refine Br.ky kpA ?_ | refine Br.kn kpA ?_ | refine Br.nky kpA ?_ | refine Br.nkn kpA ?_
    | refine Br.eq0 (fun _ => ?_) (fun _ => ?_) | refine Br.neq0 (fun _ => ?_) (fun _ => ?_) | refine Br.eq (fun _ => ?_) (fun _ => ?_) | refine Br.neq (fun _ => ?_) (fun _ => ?_) | refine Br.not (fun _ => ?_) (fun _ => ?_) | refine Br.dec (fun _ => ?_) (fun _ => ?_) | refine Br.bool (fun _ => ?_) (fun _ => ?_)
    | ((with_reducible apply TL.alloc_ag); (· rfl); intro _) | ((with_reducible apply TL.alloc_sc); (· rfl); (· rfl); intro _) | ((with_reducible apply TL.box_ag); (· rfl); (· rfl); intro _) | ((with_reducible apply TL.box_sc); (· rfl); (· rfl); (· rfl); intro _))
    refine TQ.endR1 (L' := L) Tryz.results101 rvA rfl (.refl _) ?_ selA
    exact ⟨rfl, rfl, rfl⟩
end Go.Proofs.YtacogbfgegcliaaGreatDoor
