/-
  The walk of the law ShapeRects.
-/
import Derived.Test.YtfanccddokckcaaGreatDoorSa3
import Derived.Test.YtfanccddokckcaaGreatDoorSa45
namespace Go.TL
open Go Go.RowKit Go.Proofs.YtfanccddokckcaaGreatDoor
theorem Y.eqb_same {P : Program} {n : Nat} {ds : List Deferred} {S : Slots} {g : Gh} {L : List Ent} {gd : Option (Nat × Bool)} {dst : Option Nat} {x y : Operand} {t t' ty : TypeId} {pos : String} {aft : Array Edge} {b : Bool} (hx : ev S x = some (.bool b)) (hy : ev S y = some (.bool b)) [ht : Und P t .bool] : Yields P n ds S g L ⟨dst, .binOp .eql t x y t', ty, pos, aft, gd⟩ (.bool true) := by
  have := Y.eql_bool (P := P) (n := n) (ds := ds) (g := g) (L := L) (gd := gd) (dst := dst) (t := t) (t' := t') (ty := ty) (pos := pos) (aft := aft) hx hy
  rwa [decide_eq_true rfl] at this
end Go.TL
namespace Go.Proofs.YtfanccddokckcaaGreatDoor
open Go.RowKit Go.TL
set_option maxRecDepth 100000

structure RectsOk (r : Rc) (p : Pt) : Prop where
  box : boxX 2 [rectL r] = r
  isin : inX 2 [rectL r] p = HoldsB r p
  meet : meetX 0 [[p]] 2 [rectL r] = HoldsB r p
  within : withinX 0 [[p]] 2 [rectL r] = HoldsB r p
  self : withinX 2 [rectL r] 2 [rectL r] = true
set_option maxHeartbeats 32000000 in
theorem shapeRects_gives (r : Rc) (p : Pt) (g : Gh) (L : List Ent) (hT : GTabs g) (hU : GU8 g) (F : ofOk r = true → RectsOk r p) : Gives Tryz.prog 6 #[rcV r, pt p] g L (.bool true) := by
  refine .of (Does.of2 Tryz.func6 rfl Tryz.ntmps6 rfl ?_)
  have OF := fun L => sOf_does r g L
  have MR := fun g1 L => MayRect_gives r g1 L
  have AW := fun g1 (h : g.le g1) L => awake09_gives (L := L) (hT.le h) (hU.le h)
  unfold OfR at OF
  cases ho : ofOk r with
  | false =>
    rw [ho] at OF
    dsimp only at OF
    clear F hT hU
    unfold ofOk at ho
    cases h1 : mayR r with
    | false =>
      rw [h1] at MR
      repeat' (first
    | refine wkQ ?_
    | refine wkV ?_
    | (refine TL.call (Enters.plain (by kernel_rfl) (by rfl)) (by rfl) (OF _) ?_; (rintro e g1 Ln h1 ⟨vq, k2, k1, k3⟩; subst k1; have k2 := k2.symm; subst k2; (subst k3; have AW1 := AW g1 h1); refine CallK.ret ?_))
    | ((with_reducible apply TL.gives_plain); (· kernel_rfl); (· rfl); (· exact MR _ _); (· rfl)) | ((with_reducible apply TW.gives_plain); (· kernel_rfl); (· rfl); (· exact MR _ _); (· rfl))
    | ((with_reducible apply TL.gives_plain); (· kernel_rfl); (· rfl); (· exact AW1 _); (· rfl)) | ((with_reducible apply TW.gives_plain); (· kernel_rfl); (· rfl); (· exact AW1 _); (· rfl))
    | refine stS ?_ | (refine stB ?_; intro _) | (refine stC ?_; refine And.intro (fun _ => ?_) (fun _ => ?_)))
      refine TQ.less (by assumption) ?_
      refine TQ.endR1 (L' := L) Tryz.results6 rvA rfl (.refl _) ?_ selF
      exact ⟨rfl, rfl, rfl⟩
    | true =>
      rw [h1] at MR ho
      by_cases hx : r.x0 = r.x1
      · have bx : decide (r.x0 = r.x1) = true := decide_eq_true hx
        repeat' (first
    | refine wkQ ?_
    | ((with_reducible apply TL.pure (d := 18) (v := .bool true)); (· exact Y.eql_b bx rfl rfl); (· rfl)) | ((with_reducible apply TW.pure (d := 18) (v := .bool true)); (· exact Y.eql_b bx rfl rfl); (· rfl))
    | refine wkV ?_
    | (refine TL.call (Enters.plain (by kernel_rfl) (by rfl)) (by rfl) (OF _) ?_; (rintro e g1 Ln h1 ⟨vq, k2, k1, k3⟩; subst k1; have k2 := k2.symm; subst k2; (subst k3; have AW1 := AW g1 h1); refine CallK.ret ?_))
    | ((with_reducible apply TL.gives_plain); (· kernel_rfl); (· rfl); (· exact MR _ _); (· rfl)) | ((with_reducible apply TW.gives_plain); (· kernel_rfl); (· rfl); (· exact MR _ _); (· rfl))
    | ((with_reducible apply TL.gives_plain); (· kernel_rfl); (· rfl); (· exact AW1 _); (· rfl)) | ((with_reducible apply TW.gives_plain); (· kernel_rfl); (· rfl); (· exact AW1 _); (· rfl))
    | refine stS ?_ | (refine stB ?_; intro _) | (refine stC ?_; refine And.intro (fun _ => ?_) (fun _ => ?_)))
        refine TQ.less (by assumption) ?_
        refine TQ.endR1 (L' := L) Tryz.results6 rvA rfl (.refl _) ?_ selF
        exact ⟨rfl, rfl, rfl⟩
      · have bx : decide (r.x0 = r.x1) = false := decide_eq_false hx
        have by1 : decide (r.y0 = r.y1) = true := by
          rw [bx] at ho
          simpa using ho
        repeat' (first
    | refine wkQ ?_
    | ((with_reducible apply TL.pure (d := 18) (v := .bool false)); (· exact Y.eql_b bx rfl rfl); (· rfl)) | ((with_reducible apply TW.pure (d := 18) (v := .bool false)); (· exact Y.eql_b bx rfl rfl); (· rfl))
    | ((with_reducible apply TL.pure (d := 25) (v := .bool true)); (· exact Y.eql_b by1 rfl rfl); (· rfl)) | ((with_reducible apply TW.pure (d := 25) (v := .bool true)); (· exact Y.eql_b by1 rfl rfl); (· rfl))
    | refine wkV ?_
    | (refine TL.call (Enters.plain (by kernel_rfl) (by rfl)) (by rfl) (OF _) ?_; (rintro e g1 Ln h1 ⟨vq, k2, k1, k3⟩; subst k1; have k2 := k2.symm; subst k2; (subst k3; have AW1 := AW g1 h1); refine CallK.ret ?_))
    | ((with_reducible apply TL.gives_plain); (· kernel_rfl); (· rfl); (· exact MR _ _); (· rfl)) | ((with_reducible apply TW.gives_plain); (· kernel_rfl); (· rfl); (· exact MR _ _); (· rfl))
    | ((with_reducible apply TL.gives_plain); (· kernel_rfl); (· rfl); (· exact AW1 _); (· rfl)) | ((with_reducible apply TW.gives_plain); (· kernel_rfl); (· rfl); (· exact AW1 _); (· rfl))
    | refine stS ?_ | (refine stB ?_; intro _) | (refine stC ?_; refine And.intro (fun _ => ?_) (fun _ => ?_)))
        refine TQ.less (by assumption) ?_
        refine TQ.endR1 (L' := L) Tryz.results6 rvA rfl (.refl _) ?_ selF
        exact ⟨rfl, rfl, rfl⟩
  | true =>
    rw [ho] at OF
    dsimp only at OF
    have hF := F ho
    have h123 : mayR r = true ∧ decide (r.x0 = r.x1) = false ∧ decide (r.y0 = r.y1) = false := by
      unfold ofOk at ho
      simp only [Bool.and_eq_true, Bool.not_eq_true'] at ho
      exact ⟨ho.1.1, ho.1.2, ho.2⟩
    obtain ⟨hm, bx, by1⟩ := h123
    rw [hm] at MR
    have HO := fun g1 L => Holds_gives r p g1 L
    have hO2 : ShOk [rectL r] := ok_one (by simp)
    have hO1 : ShOk [[p]] := ok_one (by simp)
    have BX := fun g1 v (h : IsParts g1 v [rectL r]) L => sBox_gives 2 [rectL r] v g1 L h hO2
    have IN := fun g1 v (h : IsParts g1 v [rectL r]) L => sIn_gives 2 [rectL r] v p g1 L h hO2
    have ME := fun g1 u v (hu : IsParts g1 u [[p]]) (h : IsParts g1 v [rectL r]) L => sMeet_gives 0 2 [[p]] [rectL r] u v g1 L hu hO1 h hO2
    have WI := fun g1 u v (hu : IsParts g1 u [[p]]) (h : IsParts g1 v [rectL r]) L => sWithin_gives 0 2 [[p]] [rectL r] u v g1 L hu hO1 h hO2
    have WS := fun g1 v (h : IsParts g1 v [rectL r]) L => sWithin_gives 2 2 [rectL r] [rectL r] v v g1 L h hO2 h hO2
    rw [hF.box] at BX
    rw [hF.isin] at IN
    rw [hF.meet] at ME
    rw [hF.within] at WI
    rw [hF.self] at WS
    generalize HoldsB r p = H at *
    clear F hF hT hU ho hm
    repeat' (first
    | refine wkQ ?_
    | ((with_reducible apply TL.pure (d := 18) (v := .bool false)); (· exact Y.eql_b bx rfl rfl); (· rfl)) | ((with_reducible apply TW.pure (d := 18) (v := .bool false)); (· exact Y.eql_b bx rfl rfl); (· rfl))
    | ((with_reducible apply TL.pure (d := 25) (v := .bool false)); (· exact Y.eql_b by1 rfl rfl); (· rfl)) | ((with_reducible apply TW.pure (d := 25) (v := .bool false)); (· exact Y.eql_b by1 rfl rfl); (· rfl))
    | refine wkV ?_
    | (refine TL.call (Enters.plain (by kernel_rfl) (by rfl)) (by rfl) (OF _) ?_; (rintro e g1 Ln h1 ⟨vq, k2, k1, k3⟩; subst k1; have k2 := k2.symm; subst k2; (obtain ⟨aq, cq, rfl⟩ : ∃ a c, vq = .slice a [rectL r].length c := (by obtain ⟨_, h, _⟩ := k3; exact h.slice); have KQ := Hn.mk k3; clear k3); refine CallK.ret ?_))
    | ((with_reducible apply TL.gives_plain); (· kernel_rfl); (· rfl); (· exact MR _ _); (· rfl)) | ((with_reducible apply TW.gives_plain); (· kernel_rfl); (· rfl); (· exact MR _ _); (· rfl))
    | ((with_reducible apply TL.gives_plain); (· kernel_rfl); (· rfl); (· exact HO _ _); (· rfl)) | ((with_reducible apply TW.gives_plain); (· kernel_rfl); (· rfl); (· exact HO _ _); (· rfl))
    | (refine TL.build_rows (d := 43) (len := 1) (sz := 2) [ptC p] (by rfl) (by rfl) (by rfl) (by rfl) (by rfl) (by rfl) (by rfl) (by rfl) (fun bb => ?_); refine TL.freeze_obj (k := 1) bb 2 .here rfl (by decide) ?_; rintro g2 h2 s2)
    | (refine TL.build_slice (d := 44) (by rfl) (by rfl) (by exact oneA) (by rfl) (by rfl) (by rfl) (fun bb => ?_); refine TL.freeze_obj (k := 1) bb 1 .here rfl (by decide) ?_; rintro g3 h3 s3; have KP := parts_one (l := [p]) rfl s2 h3 s3; have KR := KQ.out.le (h2.trans h3); have h03 := h1.trans (h2.trans h3); have AW1 := AW g3 h03; have BX1 := BX g3 _ KR; have IN1 := IN g3 _ KR; have ME1 := ME g3 _ _ KP KR; have WI1 := WI g3 _ _ KP KR; have WS1 := WS g3 _ KR; clear BX IN ME WI WS KQ KP KR s2 s3)
    | ((with_reducible apply TL.gives_plain); (· kernel_rfl); (· rfl); (· exact BX1 _); (· rfl)) | ((with_reducible apply TW.gives_plain); (· kernel_rfl); (· rfl); (· exact BX1 _); (· rfl))
    | ((with_reducible apply TL.gives_plain); (· kernel_rfl); (· rfl); (· exact IN1 _); (· rfl)) | ((with_reducible apply TW.gives_plain); (· kernel_rfl); (· rfl); (· exact IN1 _); (· rfl))
    | ((with_reducible apply TL.gives_plain); (· kernel_rfl); (· rfl); (· exact ME1 _); (· rfl)) | ((with_reducible apply TW.gives_plain); (· kernel_rfl); (· rfl); (· exact ME1 _); (· rfl))
    | ((with_reducible apply TL.gives_plain); (· kernel_rfl); (· rfl); (· exact WI1 _); (· rfl)) | ((with_reducible apply TW.gives_plain); (· kernel_rfl); (· rfl); (· exact WI1 _); (· rfl))
    | ((with_reducible apply TL.gives_plain); (· kernel_rfl); (· rfl); (· exact WS1 _); (· rfl)) | ((with_reducible apply TW.gives_plain); (· kernel_rfl); (· rfl); (· exact WS1 _); (· rfl))
    | ((with_reducible apply TL.gives_plain); (· kernel_rfl); (· rfl); (· exact AW1 _); (· rfl)) | ((with_reducible apply TW.gives_plain); (· kernel_rfl); (· rfl); (· exact AW1 _); (· rfl))
    | refine stS ?_ | (refine stB ?_; intro _) | (refine stC ?_; refine And.intro (fun _ => ?_) (fun _ => ?_))
    | refine wkN0 ?_
    | refine wkN1 ?_
    | refine wkN2 ?_
    | refine wkN3 ?_
    | ((with_reducible apply TA.takeN 4); (· rfl); (· decide +kernel); (· rfl); (· (first | exact yQ | exact yA | exact yB | exact yM | exact yV)); (· decide +kernel); (· decide +kernel); (· rfl); (· exact fun _ _ _ h => h); (· rfl))
    | ((with_reducible apply TA.takeN 5); (· rfl); (· decide +kernel); (· rfl); (· (first | exact yQ | exact yA | exact yB | exact yM | exact yV)); (· decide +kernel); (· decide +kernel); (· rfl); (· exact fun _ _ _ h => h); (· rfl))
    | ((with_reducible apply TA.takeN 0); (· rfl); (· decide +kernel); (· rfl); (· first | first | exact Y.eql_rc (decide_eq_true rfl) rfl rfl | exact Y.eqb_same rfl rfl | (first | exact yQ | exact yA | exact yB | exact yM | exact yV)); (· decide +kernel); (· decide +kernel); (· rfl); (· exact fun _ _ _ h => h); (· rfl))
    | ((with_reducible apply TA.takeN 1); (· rfl); (· decide +kernel); (· rfl); (· first | first | exact Y.eql_rc (decide_eq_true rfl) rfl rfl | exact Y.eqb_same rfl rfl | (first | exact yQ | exact yA | exact yB | exact yM | exact yV)); (· decide +kernel); (· decide +kernel); (· rfl); (· exact fun _ _ _ h => h); (· rfl))
    | ((with_reducible apply TA.takeN 2); (· rfl); (· decide +kernel); (· rfl); (· first | first | exact Y.eql_rc (decide_eq_true rfl) rfl rfl | exact Y.eqb_same rfl rfl | (first | exact yQ | exact yA | exact yB | exact yM | exact yV)); (· decide +kernel); (· decide +kernel); (· rfl); (· exact fun _ _ _ h => h); (· rfl))
    | ((with_reducible apply TA.takeN 3); (· rfl); (· decide +kernel); (· rfl); (· first | first | exact Y.eql_rc (decide_eq_true rfl) rfl rfl | exact Y.eqb_same rfl rfl | (first | exact yQ | exact yA | exact yB | exact yM | exact yV)); (· decide +kernel); (· decide +kernel); (· rfl); (· exact fun _ _ _ h => h); (· rfl))
    | ((with_reducible apply TA.take_gN 0); (· rfl); (· decide +kernel); (· rfl); (· rfl); (· rfl); (· (first | first | exact Y.eql_rc (decide_eq_true rfl) rfl rfl | exact Y.eqb_same rfl rfl | (first | exact yQ | exact yA | exact yB | exact yM | exact yV))); (· decide +kernel); (· decide +kernel); (· rfl); (· exact fun _ _ _ h => h); (· rfl))
    | ((with_reducible apply TA.take_gN 1); (· rfl); (· decide +kernel); (· rfl); (· rfl); (· rfl); (· (first | first | exact Y.eql_rc (decide_eq_true rfl) rfl rfl | exact Y.eqb_same rfl rfl | (first | exact yQ | exact yA | exact yB | exact yM | exact yV))); (· decide +kernel); (· decide +kernel); (· rfl); (· exact fun _ _ _ h => h); (· rfl))
    | ((with_reducible apply TA.take_gN 2); (· rfl); (· decide +kernel); (· rfl); (· rfl); (· rfl); (· (first | first | exact Y.eql_rc (decide_eq_true rfl) rfl rfl | exact Y.eqb_same rfl rfl | (first | exact yQ | exact yA | exact yB | exact yM | exact yV))); (· decide +kernel); (· decide +kernel); (· rfl); (· exact fun _ _ _ h => h); (· rfl))
    | ((with_reducible apply TA.take_gN 3); (· rfl); (· decide +kernel); (· rfl); (· rfl); (· rfl); (· (first | first | exact Y.eql_rc (decide_eq_true rfl) rfl rfl | exact Y.eqb_same rfl rfl | (first | exact yQ | exact yA | exact yB | exact yM | exact yV))); (· decide +kernel); (· decide +kernel); (· rfl); (· exact fun _ _ _ h => h); (· rfl))
    | refine wkX0 ?_
    | refine wkX1 ?_
    | refine wkX2 ?_
    | refine wkX3 ?_
    | ((with_reducible apply TA.oneN 0); (· rfl); (· rfl); (· decide +kernel); (· rfl))
    | ((with_reducible apply TA.oneN 1); (· rfl); (· rfl); (· decide +kernel); (· rfl))
    | ((with_reducible apply TA.oneN 2); (· rfl); (· rfl); (· decide +kernel); (· rfl))
    | ((with_reducible apply TA.oneN 3); (· rfl); (· rfl); (· decide +kernel); (· rfl))
    | refine TQ.any leF selF ?_
    | refine TC.region_any 34 (_) (by kernel_rfl) rfl selF ?_ | refine TA.done (by decide +kernel) ?_ | refine TQ.any_panic ?_)
    refine TQ.less (by assumption) ?_
    refine TQ.endR1 (L' := L) Tryz.results6 rvA rfl (.refl _) ?_ selF
    exact ⟨rfl, rfl, rfl⟩
end Go.Proofs.YtfanccddokckcaaGreatDoor
