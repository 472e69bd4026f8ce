/-
  The walk of layer 9's awake. Three operations of a drawn region that may come up in any order.
-/
import Derived.Test.YtklmfbildebimaaGreatDoorSx2
import Derived.Test.YtklmfbildebimaaGreatDoorSx40
import Derived.Test.YtklmfbildebimaaGreatDoorSx1
namespace Go.Proofs.YtklmfbildebimaaGreatDoor
open Go.RowKit Go.TL
set_option maxRecDepth 100000

abbrev aw9P : Pt := (15000000, -20000000)
abbrev aw9R : Rc := ⟨0, 0, 10, 10⟩
theorem aw9a : readX (tellJ 0 [[aw9P]]) = some (0, [[aw9P]]) := by kernel_rfl
theorem aw9b : readX (.num 1) = none := by kernel_rfl
theorem aw9c : ofOk aw9R = true := by kernel_rfl
theorem aw9d : inX 2 [rectL aw9R] (5, 5) = true := by kernel_rfl
theorem aw9e : inX 2 [rectL aw9R] (11, 5) = false := by kernel_rfl
theorem aw9f : rightB 0 [[aw9P]] = true := by kernel_rfl
set_option maxHeartbeats 32000000 in
theorem awake09_gives {g : Gh} {L : List Ent} (hT : GTabs g) (hU : GU8 g) : Gives Tryz.prog 10 #[] g L (.bool true) := by
  refine .of (Does.of0 Tryz.func10 rfl Tryz.ntmps10 rfl ?_)
  have R1 := fun (g1 : Gh) (h : g.le g1) (v : Value) (hv : IsJ g1 (tellJ 0 [[aw9P]]) v) L => sRead_does _ v g1 L hv (by simp [tellJ, whereJ, kindN, ptJ, headS, smJ, smJs]) (hT.le h) (hU.le h)
  have R2 := fun (g1 : Gh) (h : g.le g1) (v : Value) (hv : IsJ g1 (.num 1) v) L => sRead_does _ v g1 L hv (by rw [smJ]; trivial) (hT.le h) (hU.le h)
  have OF := fun g1 L => sOf_does aw9R g1 L
  rw [aw9a] at R1
  rw [aw9b] at R2
  unfold ReadXR at R1 R2
  unfold OfR at OF
  rw [aw9c] at OF
  dsimp only at R1 R2 OF
  have hO2 : ShOk [rectL aw9R] := ok_one (by decide)
  repeat' (first
    | refine wkQ ?_
    | (refine TL.build_slice (d := 11) (by rfl) (by rfl) (by exact oneA) (by rfl) (by rfl) (by rfl) (fun bb => ?_); refine TL.freeze_obj (k := 2) bb 1 .here rfl (by decide) ?_; rintro g1 h1 s1; have j1 := ptJ_is (p := aw9P) (by decide) s1; clear s1)
    | (refine TL.build_rows (d := 14) (len := 2) (sz := 2) [[str typeB, .iface 9 (str pointB)], [str coordB, .iface 63 (.slice (some ⟨_, 0, none⟩) 2 2)]] (by rfl) (by rfl) (by rfl) (by rfl) (by rfl) (by rfl) (by rfl) (by rfl) (fun bb => ?_); refine TL.freeze_obj (k := 2) bb 2 .here rfl (by decide) ?_; rintro g2 h2 s2; have j2 := tell_is (k := 0) (ps := [[aw9P]]) s2 (j1.le h2 _ _); clear s2 j1; have h02 := h1.trans h2; have Q1 := R1 g2 h02 _ j2; clear R1 j2)
    | refine wkV ?_
    | refine stS ?_ | (refine stB ?_; intro _) | (refine stC ?_; refine And.intro (fun _ => ?_) (fun _ => ?_)))
  repeat' (first
    | refine wkQ ?_
    | (refine TL.call (Enters.plain (by kernel_rfl) (by rfl)) (by rfl) (Q1 _) ?_; (rintro e g3 Ln h3 ⟨vp, k2, k1, k3⟩; subst k1; subst k2; obtain ⟨b, o, cap, q, u, rfl, _, hq, _, _, _, hld, hSu⟩ := first_part aw9f k3; obtain rfl : [aw9P] = q := (by simpa using hq); obtain ⟨au, cu, rfl⟩ := hSu.slice; have HLD := Hn.mk hld; have HSU := Hn.mk hSu; have h03 := h02.trans h3; clear k3 hq hld hSu Q1; refine CallK.ret ?_))
    | (refine TL.call (Enters.plain (by kernel_rfl) (by rfl)) (by rfl) (OF _ _) ?_; (rintro e g4 Ln h4 ⟨vq, k2, k1, k3⟩; subst k1; subst k2; obtain ⟨aq, cq, rfl⟩ : ∃ a c, vq = .slice a [rectL aw9R].length c := (by obtain ⟨_, h, _⟩ := k3; exact h.slice); have KQ := Hn.mk k3; have h04 := h03.trans h4; have Q2 := R2 g4 h04 (.iface 61 (.int .i64 1)) (by rw [IsJ]; exact ⟨rfl, by decide, by decide⟩); clear k3 R2; refine CallK.ret ?_))
    | (refine TL.call (Enters.plain (by kernel_rfl) (by rfl)) (by rfl) (Q2 _) ?_; (rintro e g5 Ln h5 ⟨vz, k2, k1, k3⟩; subst k1; subst k2; subst k3; refine CallK.ret ?_))
    | refine wkV ?_
    | refine stS ?_ | (refine stB ?_; intro _) | (refine stC ?_; refine And.intro (fun _ => ?_) (fun _ => ?_)))
  have h35 := h4.trans h5
  have hld := h35.cell HLD.out
  have hSu := HSU.out.le h35
  obtain ⟨b3, o3, rfl, hg3⟩ := hSu.elem (i := 0) (by decide) (by decide)
  have hldp := pt_cells (p := aw9P) hg3 rfl rfl
  have hll : [Value.int .i64 aw9P.1, .int .i64 aw9P.2].length = 2 := rfl
  have I1 := fun L => sIn_gives 2 [rectL aw9R] (.slice aq [rectL aw9R].length cq) (5, 5) g5 L (KQ.out.le h5) hO2
  have I2 := fun L => sIn_gives 2 [rectL aw9R] (.slice aq [rectL aw9R].length cq) (11, 5) g5 L (KQ.out.le h5) hO2
  rw [aw9d] at I1
  rw [aw9e] at I2
  have h05 := h04.trans h5
  clear hg3 hSu HSU HLD KQ Q2 OF hT hU hO2
  repeat' (first
    | refine wkQ ?_
    | ((with_reducible apply TL.pure (d := 55) (v := .bool true)); (· exact Y.eql_pt (p := aw9P) (q := aw9P) (decide_eq_true rfl) rfl rfl); (· rfl)) | ((with_reducible apply TW.pure (d := 55) (v := .bool true)); (· exact Y.eql_pt (p := aw9P) (q := aw9P) (decide_eq_true rfl) rfl rfl); (· rfl))
    | refine wkV ?_
    | ((with_reducible apply TL.pure); (· exact yM); (· rfl)) | ((with_reducible apply TW.pure); (· exact yM); (· rfl))
    | ((with_reducible apply TL.gives_plain); (· kernel_rfl); (· rfl); (· exact I1 _); (· rfl)) | ((with_reducible apply TW.gives_plain); (· kernel_rfl); (· rfl); (· exact I1 _); (· rfl))
    | ((with_reducible apply TL.gives_plain); (· kernel_rfl); (· rfl); (· exact I2 _); (· rfl)) | ((with_reducible apply TW.gives_plain); (· kernel_rfl); (· rfl); (· exact I2 _); (· rfl))
    | refine stS ?_ | (refine stB ?_; intro _) | (refine stC ?_; refine And.intro (fun _ => ?_) (fun _ => ?_)))
  refine TQ.less h05 ?_
  refine TQ.endR1 (L' := Ln) Tryz.results10 rvA rfl (.refl _) ?_ selF
  exact ⟨rfl, rfl, rfl⟩
end Go.Proofs.YtklmfbildebimaaGreatDoor
namespace Go.TL
open Go Go.RowKit
section
variable {P : Program} {ops : Array Oper} {Q : Exit → Act → World → Prop} {rest : List Oper} {n : Nat} {ds : List Deferred} {S : Slots} {g gS : Gh} {L LS : List Ent} {sk : Nat}
variable {id fuel : Nat} {listed : Array Bool} {o : Oper} {v : Value} {d : Nat} {op : Op} {ty : TypeId} {pos : String} {aft : Array Edge}
theorem TA.three {l : List Oper} (i j m : Nat) {oi oj om : Oper} {ai aj am : Array Bool} (hi0 : nthO l i = some oi) (hj0 : nthO l j = some oj) (hm0 : nthO l m = some om) (hr : Region.ready .any l.toArray listed = [i, j, m]) (hli : listed.setIfInBounds i true = ai) (hlj : listed.setIfInBounds j true = aj) (hlm : listed.setIfInBounds m true = am)
    (hi : TL P l.toArray (AnyQ P l.toArray Q gS LS fuel ai) [oi] n ds S g L) (hj : TL P l.toArray (AnyQ P l.toArray Q gS LS fuel aj) [oj] n ds S g L) (hm : TL P l.toArray (AnyQ P l.toArray Q gS LS fuel am) [om] n ds S g L) : TA P l.toArray Q gS LS (fuel + 1) listed n ds S g L := .mk fun a w hf hs _ => by
  subst hli hlj hlm
  refine wpAnyH_all hr (by simp) fun k hk => ?_
  have key : ∀ k o, nthO l k = some o → TL P l.toArray (AnyQ P l.toArray Q gS LS fuel (listed.setIfInBounds k true)) [o] n ds S g L → wpOp P l.toArray Q k (fun a' w' => St gS LS w' ∧ wpAnyH P .any l.toArray Q (St gS LS) fuel (listed.setIfInBounds k true) a' w') a w := fun k o ho h => by
    have hi := (nthO_eq l k).trans ho
    have h1 := h.h a w hf hs
    unfold wpOp
    simp only [hi]
    unfold wpList at h1
    by_cases hw : Region.wanted o (yielded l.toArray a.tmps) = true
    · rw [if_pos hw] at h1 ⊢
      rcases h1 with h1 | ⟨ha, hlets⟩
      · refine .inl ?_
        unfold Oper.wp at h1 ⊢
        generalize (execOp a.eval o).run P w = r at *
        cases r with
        | ok m w' =>
          cases m <;> simp only [Oper.upon] at h1 ⊢ <;> first | exact h1 | exact h1.mono fun e w'' he => by cases e <;> exact he
        | halt x w' => cases x <;> simp only [Oper.upon] at h1 ⊢ <;> exact h1
      · exact .inr ⟨ha, hlets⟩
    · rw [if_neg hw] at h1 ⊢
      exact h1
  rcases List.mem_cons.1 hk with rfl | hk
  · exact key _ _ hi0 hi
  · rcases List.mem_cons.1 hk with rfl | hk
    · exact key _ _ hj0 hj
    · obtain rfl := List.mem_singleton.1 hk
      exact key _ _ hm0 hm
end
end Go.TL
