/-
  The walk of the law ShapeBoxes.
-/
import Derived.Test.YtklmfbildebimaaGreatDoorSx2
import Derived.Test.YtklmfbildebimaaGreatDoorSx11
import Derived.Test.YtklmfbildebimaaGreatDoorSx40
import Derived.Test.YtklmfbildebimaaGreatDoorSx39
import Derived.Test.YtklmfbildebimaaGreatDoorSx16
import Derived.Test.YtklmfbildebimaaGreatDoorSx38
import Derived.Test.YtklmfbildebimaaGreatDoorSx44
import Derived.Test.YtklmfbildebimaaGreatDoorSx45
import Derived.Test.YtklmfbildebimaaGreatDoorSx43
import Derived.Test.YtklmfbildebimaaGreatDoorSx42
import Derived.Test.YtklmfbildebimaaGreatDoorSx36
namespace Go.TL
open Go Go.RowKit Go.Proofs.YtklmfbildebimaaGreatDoor
theorem Y.neqb_fl {P : Program} {n : Nat} {ds : List Deferred} {S : Slots} {g : Gh} {L : List Ent} {gd : Option (Nat × Bool)} {dst : Option Nat} {x y : Operand} {t t' ty : TypeId} {pos : String} {aft : Array Edge} {b : Bool} (hx : ev S x = some (.bool b)) (hy : ev S y = some (.bool b)) [ht : Und P t .bool] : Yields P n ds S g L ⟨dst, .binOp .neq t x y t', ty, pos, aft, gd⟩ (.bool false) := by
  have := Y.neq_bool (P := P) (n := n) (ds := ds) (g := g) (L := L) (gd := gd) (dst := dst) (t := t) (t' := t') (ty := ty) (pos := pos) (aft := aft) hx hy
  rwa [decide_eq_true rfl] at this
end Go.TL
namespace Go.Proofs.YtklmfbildebimaaGreatDoor
open Go.RowKit Go.TL
set_option maxRecDepth 100000

structure BxS where
  b7 : Nat
  b8 : Nat
  v7 : Value
  v8 : Value
  g : Gh
structure BxI (ps ts : List (List Pt)) (g : Gh) (x : BxS) : Prop where
  hg : g.le x.g
  s7 : IsParts x.g x.v7 ps
  s8 : IsParts x.g x.v8 ts
theorem parts_slice {g : Gh} {v : Value} {ps : List (List Pt)} (h : IsParts g v ps) : ∃ a c, v = .slice a ps.length c := by
  obtain ⟨_, h, _⟩ := h; exact h.slice
set_option maxHeartbeats 64000000 in
theorem lawShapeBoxes (k : Int) (ps : List (List Pt)) (v : Value) (m : Int) (ts : List (List Pt)) (u : Value) (p : Pt) (g : Gh) (L : List Ent) (hS : IsParts g v ps) (hb : ∀ q ∈ ps, q.length ≤ 8796093022208) (hl : ps.length ≤ 9223372036854775807) (hT : IsParts g u ts) (hb' : ∀ q ∈ ts, q.length ≤ 8796093022208) (hl' : ts.length ≤ 9223372036854775807) (hTb : GTabs g) (hU8 : GU8 g) : Gives Tryz.prog 4 #[shV k v, shV m u, pt p] g L (.bool true) := by
  refine .of (Does.of3 Tryz.func4 rfl Tryz.ntmps4 rfl ?_)
  have LI := fun L => rLight9_gives k ps v 40 g L hS (by decide) hb hl
  have LJ := fun L => rLight9_gives m ts u 40 g L hT (by decide) hb' hl'
  obtain ⟨av, cv, rfl⟩ := parts_slice hS
  obtain ⟨au, cu, rfl⟩ := parts_slice hT
  cases hli : lightD 40 ps with
  | false =>
    rw [hli] at LI
    clear hS hb hT hTb hU8 LJ hb' hl hl'
    repeat' (first
    | refine wkQ ?_
    | refine wkV ?_
    | ((with_reducible apply TL.gives_plain); (· kernel_rfl); (· rfl); (· exact LI _); (· rfl)) | ((with_reducible apply TW.gives_plain); (· kernel_rfl); (· rfl); (· exact LI _); (· rfl))
    | refine stS ?_ | (refine stB ?_; intro _) | (refine stC ?_; refine And.intro (fun _ => ?_) (fun _ => ?_)))
    refine TQ.endR1 (L' := L) Tryz.results4 rvA rfl (.refl _) ?_ selF
    exact ⟨rfl, rfl, rfl⟩
  | true =>
  rw [hli] at LI
  cases hlj : lightD 40 ts with
  | false =>
    rw [hlj] at LJ
    clear hS hb hT hTb hU8 hb' hl hl'
    repeat' (first
    | refine wkQ ?_
    | refine wkV ?_
    | ((with_reducible apply TL.gives_plain); (· kernel_rfl); (· rfl); (· exact LI _); (· rfl)) | ((with_reducible apply TW.gives_plain); (· kernel_rfl); (· rfl); (· exact LI _); (· rfl))
    | ((with_reducible apply TL.gives_plain); (· kernel_rfl); (· rfl); (· exact LJ _); (· rfl)) | ((with_reducible apply TW.gives_plain); (· kernel_rfl); (· rfl); (· exact LJ _); (· rfl))
    | refine stS ?_ | (refine stB ?_; intro _) | (refine stC ?_; refine And.intro (fun _ => ?_) (fun _ => ?_)))
    refine TQ.endR1 (L' := L) Tryz.results4 rvA rfl (.refl _) ?_ selF
    exact ⟨rfl, rfl, rfl⟩
  | true =>
  rw [hlj] at LJ
  have hO := light_few (by decide) hli
  have hU := light_few (by decide) hlj
  have OF := fun g1 (h : g.le g1) L => of09_does k ps _ g1 L (hS.le h) hO.ok
  have OG := fun g1 (h : g.le g1) L => of09_does m ts _ g1 L (hT.le h) hU.ok
  have RI := fun g1 (h : g.le g1) L => rRight9_gives k ps _ g1 L (hS.le h) hO.ok
  have RJ := fun g1 (h : g.le g1) L => rRight9_gives m ts _ g1 L (hT.le h) hU.ok
  have AW := fun g1 (h : g.le g1) L => awake09_gives (L := L) (hTb.le h) (hU8.le h)
  clear hS hb hl hT hb' hl' hTb hU8 hli hlj
  repeat' (first
    | refine wkQ ?_
    | refine wkV ?_
    | ((with_reducible apply TL.gives_plain); (· kernel_rfl); (· rfl); (· exact LI _); (· rfl)) | ((with_reducible apply TW.gives_plain); (· kernel_rfl); (· rfl); (· exact LI _); (· rfl))
    | ((with_reducible apply TL.gives_plain); (· kernel_rfl); (· rfl); (· exact LJ _); (· rfl)) | ((with_reducible apply TW.gives_plain); (· kernel_rfl); (· rfl); (· exact LJ _); (· rfl))
    | refine stS ?_ | (refine stB ?_; intro _) | (refine stC ?_; refine And.intro (fun _ => ?_) (fun _ => ?_)))
  rename_i b3 b4 b5
  refine TC.cutN [] (BxI ps ts g) (fun x => [(8, .pointer (some ⟨x.b8, 0, none⟩)), (7, .pointer (some ⟨x.b7, 0, none⟩)), (5, .pointer (some ⟨b5, 0, none⟩)), (4, .pointer (some ⟨b4, 0, none⟩)), (3, .pointer (some ⟨b3, 0, none⟩))]) (fun x => x.g) (fun x => .obj x.b8 (.cells [.int .i64 m, x.v8].toArray 30 (0, 0)) :: .obj x.b7 (.cells [.int .i64 k, x.v7].toArray 30 (0, 0)) :: .obj b5 (.cells (ptC p).toArray 42 (0, 0)) :: .obj b4 (.cells [.int .i64 m, .slice au ts.length cu].toArray 36 (0, 0)) :: .obj b3 (.cells [.int .i64 k, .slice av ps.length cv].toArray 36 (0, 0)) :: L) ?_ ?_
  · dsimp only [ThenL]
    clear RI RJ AW LI LJ
    have OF0 := fun L => OF g (.refl _) L
    repeat' (first
    | refine wkQ ?_
    | refine wkV ?_
    | (refine TL.call (Enters.plain (by kernel_rfl) (by rfl)) (by rfl) (OF0 _) ?_; (rintro e g1 Ln h1 ⟨vq, k1, k2, k3⟩; have k2 := k2.symm; subst k1; subst k2; (obtain ⟨aq, cq, rfl⟩ := parts_slice k3; have KQ := Hn.mk k3; have OG1 := OG g1 h1; clear k3); refine CallK.ret ?_))
    | (refine TL.call (Enters.plain (by kernel_rfl) (by rfl)) (by rfl) (OG1 _) ?_; (rintro e g2 Ln h2 ⟨vr, k1, k2, k3⟩; have k2 := k2.symm; subst k1; subst k2; (obtain ⟨ar, cr, rfl⟩ := parts_slice k3; have KR := Hn.mk k3; have hg2 := h1.trans h2; clear k3); refine CallK.ret ?_))
    | refine stS ?_ | (refine stB ?_; intro _) | (refine stC ?_; refine And.intro (fun _ => ?_) (fun _ => ?_))
    | ((with_reducible apply TA.three 1 4 5); (· rfl); (· rfl); (· rfl); (· decide +kernel); (· rfl); (· rfl); (· rfl))
    | ((with_reducible apply TA.three 3 4 5); (· rfl); (· rfl); (· rfl); (· decide +kernel); (· rfl); (· rfl); (· rfl))
    | ((with_reducible apply TA.two 1 5); (· rfl); (· rfl); (· decide +kernel); (· rfl); (· rfl))
    | ((with_reducible apply TA.two 1 4); (· rfl); (· rfl); (· decide +kernel); (· rfl); (· rfl))
    | ((with_reducible apply TA.two 4 5); (· rfl); (· rfl); (· decide +kernel); (· rfl); (· rfl))
    | ((with_reducible apply TA.two 3 5); (· rfl); (· rfl); (· decide +kernel); (· rfl); (· rfl))
    | ((with_reducible apply TA.two 3 4); (· rfl); (· rfl); (· decide +kernel); (· rfl); (· rfl))
    | refine wkN0 ?_
    | refine wkN1 ?_
    | refine wkN2 ?_
    | refine wkN3 ?_
    | refine wkG0 ?_
    | refine wkG1 ?_
    | refine wkG2 ?_
    | refine wkG3 ?_
    | refine wkX0 ?_
    | refine wkX1 ?_
    | refine wkX2 ?_
    | refine wkX3 ?_
    | refine wkN0 ?_
    | refine wkN1 ?_
    | refine wkN2 ?_
    | refine wkN3 ?_
    | ((with_reducible apply TA.oneN 0); (· rfl); (· rfl); (· decide +kernel); (· rfl))
    | ((with_reducible apply TA.oneN 1); (· rfl); (· rfl); (· decide +kernel); (· rfl))
    | ((with_reducible apply TA.oneN 2); (· rfl); (· rfl); (· decide +kernel); (· rfl))
    | ((with_reducible apply TA.oneN 3); (· rfl); (· rfl); (· decide +kernel); (· rfl))
    | refine TQ.any leF selF ?_
    | refine TC.region_any 8 (_) (by kernel_rfl) rfl selF ?_ | refine TA.done (by decide +kernel) ?_ | refine TQ.any_panic ?_)
    all_goals
      refine TQ.cut (BxS.mk _ _ (.slice aq ps.length cq) (.slice ar ts.length cr) g2) ?_ rfl subA selF
      exact ⟨hg2, KQ.out.le h2, KR.out⟩
  rintro ⟨b7, b8, v7, v8, g2⟩ ⟨hg2, s7, s8⟩
  dsimp only at hg2 s7 s8 ⊢
  have RI1 := fun L => RI g2 hg2 L
  have RJ1 := fun L => RJ g2 hg2 L
  have AW1 := fun L => AW g2 hg2 L
  obtain ⟨a7, c7, rfl⟩ := parts_slice s7
  obtain ⟨a8, c8, rfl⟩ := parts_slice s8
  clear OF OG RI RJ AW LI LJ
  cases hr : rightB k ps with
  | false =>
    rw [hr] at RI1
    clear RJ1 s7 s8
    repeat' (first
    | refine wkQ ?_
    | refine wkV ?_
    | ((with_reducible apply TL.gives_plain); (· kernel_rfl); (· rfl); (· exact RI1 _); (· rfl)) | ((with_reducible apply TW.gives_plain); (· kernel_rfl); (· rfl); (· exact RI1 _); (· rfl))
    | ((with_reducible apply TL.gives_plain); (· kernel_rfl); (· rfl); (· exact AW1 _); (· rfl)) | ((with_reducible apply TW.gives_plain); (· kernel_rfl); (· rfl); (· exact AW1 _); (· rfl))
    | refine stS ?_ | (refine stB ?_; intro _) | (refine stC ?_; refine And.intro (fun _ => ?_) (fun _ => ?_)))
    refine TQ.less hg2 ?_
    refine TQ.endR1 (L' := L) Tryz.results4 rvA rfl (.refl _) ?_ selF
    exact ⟨rfl, rfl, rfl⟩
  | true =>
  rw [hr] at RI1
  cases hs : rightB m ts with
  | false =>
    rw [hs] at RJ1
    clear s7 s8
    repeat' (first
    | refine wkQ ?_
    | refine wkV ?_
    | ((with_reducible apply TL.gives_plain); (· kernel_rfl); (· rfl); (· exact RI1 _); (· rfl)) | ((with_reducible apply TW.gives_plain); (· kernel_rfl); (· rfl); (· exact RI1 _); (· rfl))
    | ((with_reducible apply TL.gives_plain); (· kernel_rfl); (· rfl); (· exact RJ1 _); (· rfl)) | ((with_reducible apply TW.gives_plain); (· kernel_rfl); (· rfl); (· exact RJ1 _); (· rfl))
    | ((with_reducible apply TL.gives_plain); (· kernel_rfl); (· rfl); (· exact AW1 _); (· rfl)) | ((with_reducible apply TW.gives_plain); (· kernel_rfl); (· rfl); (· exact AW1 _); (· rfl))
    | refine stS ?_ | (refine stB ?_; intro _) | (refine stC ?_; refine And.intro (fun _ => ?_) (fun _ => ?_)))
    refine TQ.less hg2 ?_
    refine TQ.endR1 (L' := L) Tryz.results4 rvA rfl (.refl _) ?_ selF
    exact ⟨rfl, rfl, rfl⟩
  | true =>
  rw [hs] at RJ1
  have BX := fun L => sBox_gives k ps _ g2 L s7 hO.ok
  have BY := fun L => sBox_gives m ts _ g2 L s8 hU.ok
  have IN := fun L => sIn_gives k ps _ p g2 L s7 hO.ok
  have M1 := fun L => sMeet_gives k m ps ts _ _ g2 L s7 hO.ok s8 hU.ok
  have M2 := fun L => sMeet_gives m k ts ps _ _ g2 L s8 hU.ok s7 hO.ok
  have M3 := fun L => sMeet_gives k k ps ps _ _ g2 L s7 hO.ok s7 hO.ok
  have WI := fun L => sWithin_gives k m ps ts _ _ g2 L s7 hO.ok s8 hU.ok
  have HO := fun L => Holds_gives (boxX k ps) p g2 L
  have OV := fun L => Overlap_gives (boxX k ps) (boxX m ts) g2 L
  have JO := fun L => Join_gives (boxX k ps) (boxX m ts) g2 L
  have f1 : inX k ps p = true → HoldsB (boxX k ps) p = true := fun h => by
    unfold inX at h
    rw [Bool.and_eq_true, Bool.and_eq_true] at h
    exact in_box hr h.1.2 h.2
  have f2 : meetX k ps m ts = true → overB (boxX k ps) (boxX m ts) = true := meetX_over
  have f3 : withinX k ps m ts = true → meetX k ps m ts = true ∧ JoinR (boxX k ps) (boxX m ts) = boxX m ts := within_meet hr hs
  rw [meetX_swap m k ts ps] at M2
  rw [meet_self hr] at M3
  clear s7 s8 hr hs hO hU
  generalize inX k ps p = zi at *
  generalize meetX k ps m ts = zm at *
  generalize withinX k ps m ts = zw at *
  generalize HoldsB (boxX k ps) p = zh at *
  generalize overB (boxX k ps) (boxX m ts) = zo at *
  generalize JoinR (boxX k ps) (boxX m ts) = rj at *
  generalize boxX k ps = ra at *
  generalize boxX m ts = rb at *
  repeat' (first
    | refine wkQ ?_
    | refine wkV ?_
    | ((with_reducible apply TL.gives_plain); (· kernel_rfl); (· rfl); (· exact RI1 _); (· rfl)) | ((with_reducible apply TW.gives_plain); (· kernel_rfl); (· rfl); (· exact RI1 _); (· rfl))
    | ((with_reducible apply TL.gives_plain); (· kernel_rfl); (· rfl); (· exact RJ1 _); (· rfl)) | ((with_reducible apply TW.gives_plain); (· kernel_rfl); (· rfl); (· exact RJ1 _); (· rfl))
    | refine stS ?_ | (refine stB ?_; intro _) | (refine stC ?_; refine And.intro (fun _ => ?_) (fun _ => ?_)))
  refine TC.cutN [] (fun _ : Nat × Nat => True) (fun x => [(10, .pointer (some ⟨x.2, 0, none⟩)), (9, .pointer (some ⟨x.1, 0, none⟩)), (8, .pointer (some ⟨b8, 0, none⟩)), (7, .pointer (some ⟨b7, 0, none⟩)), (5, .pointer (some ⟨b5, 0, none⟩))]) (fun _ => g2) (fun x => .obj x.2 (.cells (rcC rb).toArray 47 (0, 0)) :: .obj x.1 (.cells (rcC ra).toArray 47 (0, 0)) :: .obj b8 (.cells [.int .i64 m, .slice a8 ts.length c8].toArray 30 (0, 0)) :: .obj b7 (.cells [.int .i64 k, .slice a7 ps.length c7].toArray 30 (0, 0)) :: .obj b5 (.cells (ptC p).toArray 42 (0, 0)) :: L) ?_ ?_
  · dsimp only [ThenL]
    clear RI1 RJ1 AW1 IN M1 M2 M3 WI HO OV JO f1 f2 f3
    repeat' (first
    | refine wkQ ?_
    | refine wkV ?_
    | ((with_reducible apply TL.gives_plain); (· kernel_rfl); (· rfl); (· exact BX _); (· rfl)) | ((with_reducible apply TW.gives_plain); (· kernel_rfl); (· rfl); (· exact BX _); (· rfl))
    | ((with_reducible apply TL.gives_plain); (· kernel_rfl); (· rfl); (· exact BY _); (· rfl)) | ((with_reducible apply TW.gives_plain); (· kernel_rfl); (· rfl); (· exact BY _); (· rfl))
    | refine stS ?_ | (refine stB ?_; intro _) | (refine stC ?_; refine And.intro (fun _ => ?_) (fun _ => ?_))
    | ((with_reducible apply TA.three 1 4 5); (· rfl); (· rfl); (· rfl); (· decide +kernel); (· rfl); (· rfl); (· rfl))
    | ((with_reducible apply TA.three 3 4 5); (· rfl); (· rfl); (· rfl); (· decide +kernel); (· rfl); (· rfl); (· rfl))
    | ((with_reducible apply TA.two 1 5); (· rfl); (· rfl); (· decide +kernel); (· rfl); (· rfl))
    | ((with_reducible apply TA.two 1 4); (· rfl); (· rfl); (· decide +kernel); (· rfl); (· rfl))
    | ((with_reducible apply TA.two 4 5); (· rfl); (· rfl); (· decide +kernel); (· rfl); (· rfl))
    | ((with_reducible apply TA.two 3 5); (· rfl); (· rfl); (· decide +kernel); (· rfl); (· rfl))
    | ((with_reducible apply TA.two 3 4); (· rfl); (· rfl); (· decide +kernel); (· rfl); (· rfl))
    | refine wkN0 ?_
    | refine wkN1 ?_
    | refine wkN2 ?_
    | refine wkN3 ?_
    | refine wkG0 ?_
    | refine wkG1 ?_
    | refine wkG2 ?_
    | refine wkG3 ?_
    | refine wkX0 ?_
    | refine wkX1 ?_
    | refine wkX2 ?_
    | refine wkX3 ?_
    | refine wkN0 ?_
    | refine wkN1 ?_
    | refine wkN2 ?_
    | refine wkN3 ?_
    | ((with_reducible apply TA.oneN 0); (· rfl); (· rfl); (· decide +kernel); (· rfl))
    | ((with_reducible apply TA.oneN 1); (· rfl); (· rfl); (· decide +kernel); (· rfl))
    | ((with_reducible apply TA.oneN 2); (· rfl); (· rfl); (· decide +kernel); (· rfl))
    | ((with_reducible apply TA.oneN 3); (· rfl); (· rfl); (· decide +kernel); (· rfl))
    | refine TQ.any leF selF ?_
    | refine TC.region_any 8 (_) (by kernel_rfl) rfl selF ?_ | refine TA.done (by decide +kernel) ?_ | refine TQ.any_panic ?_)
    all_goals
      refine TQ.cut (_, _) ?_ rfl subA selF
      trivial
  rintro ⟨b9, b10⟩ _
  dsimp only
  clear RI1 RJ1 BX BY
  have f1' : zi = false ∨ (zi = true ∧ zh = true) := by
    cases zi with
    | false => exact .inl rfl
    | true => exact .inr ⟨rfl, f1 rfl⟩
  have f2' : (zw = false ∧ zm = false) ∨ (zw = false ∧ zm = true ∧ zo = true) ∨ (zw = true ∧ zm = true ∧ zo = true ∧ rj = rb) := by
    cases zw with
    | false =>
      cases zm with
      | false => exact .inl ⟨rfl, rfl⟩
      | true => exact .inr (.inl ⟨rfl, rfl, f2 rfl⟩)
    | true =>
      obtain ⟨h1, h2⟩ := f3 rfl
      exact .inr (.inr ⟨rfl, h1, f2 h1, h2⟩)
  clear f1 f2 f3
  have bj : decide (rb = rb) = true := decide_eq_true rfl
  rcases f1' with rfl | ⟨rfl, rfl⟩ <;> rcases f2' with ⟨rfl, rfl⟩ | ⟨rfl, rfl, rfl⟩ | ⟨rfl, rfl, rfl, rfl⟩
  all_goals
    repeat' (first
    | refine wkQ ?_
    | ((with_reducible apply TL.pure (d := 54) (v := .bool false)); (· exact Y.neqb_fl rfl rfl); (· rfl)) | ((with_reducible apply TW.pure (d := 54) (v := .bool false)); (· exact Y.neqb_fl rfl rfl); (· rfl))
    | refine wkV ?_
    | ((with_reducible apply TL.gives_plain); (· kernel_rfl); (· rfl); (· exact IN _); (· rfl)) | ((with_reducible apply TW.gives_plain); (· kernel_rfl); (· rfl); (· exact IN _); (· rfl))
    | ((with_reducible apply TL.gives_plain); (· kernel_rfl); (· rfl); (· exact HO _); (· rfl)) | ((with_reducible apply TW.gives_plain); (· kernel_rfl); (· rfl); (· exact HO _); (· rfl))
    | ((with_reducible apply TL.gives_plain); (· kernel_rfl); (· rfl); (· exact M1 _); (· rfl)) | ((with_reducible apply TW.gives_plain); (· kernel_rfl); (· rfl); (· exact M1 _); (· rfl))
    | ((with_reducible apply TL.gives_plain); (· kernel_rfl); (· rfl); (· exact M2 _); (· rfl)) | ((with_reducible apply TW.gives_plain); (· kernel_rfl); (· rfl); (· exact M2 _); (· rfl))
    | ((with_reducible apply TL.gives_plain); (· kernel_rfl); (· rfl); (· exact M3 _); (· rfl)) | ((with_reducible apply TW.gives_plain); (· kernel_rfl); (· rfl); (· exact M3 _); (· rfl))
    | ((with_reducible apply TL.gives_plain); (· kernel_rfl); (· rfl); (· exact OV _); (· rfl)) | ((with_reducible apply TW.gives_plain); (· kernel_rfl); (· rfl); (· exact OV _); (· rfl))
    | ((with_reducible apply TL.gives_plain); (· kernel_rfl); (· rfl); (· exact WI _); (· rfl)) | ((with_reducible apply TW.gives_plain); (· kernel_rfl); (· rfl); (· exact WI _); (· rfl))
    | ((with_reducible apply TL.gives_plain); (· kernel_rfl); (· rfl); (· exact JO _); (· rfl)) | ((with_reducible apply TW.gives_plain); (· kernel_rfl); (· rfl); (· exact JO _); (· rfl))
    | ((with_reducible apply TL.gives_plain); (· kernel_rfl); (· rfl); (· exact AW1 _); (· rfl)) | ((with_reducible apply TW.gives_plain); (· kernel_rfl); (· rfl); (· exact AW1 _); (· rfl))
    | refine stS ?_ | (refine stB ?_; intro _) | (refine stC ?_; refine And.intro (fun _ => ?_) (fun _ => ?_))
    | ((with_reducible apply TA.takeN 0); (· rfl); (· decide +kernel); (· rfl); (· first | exact Y.eql_rc bj rfl rfl | (first | exact yQ | exact yA | exact yB | exact yM | exact yV)); (· decide +kernel); (· decide +kernel); (· rfl); (· exact fun _ _ _ h => h); (· rfl))
    | ((with_reducible apply TA.takeN 1); (· rfl); (· decide +kernel); (· rfl); (· first | exact Y.eql_rc bj rfl rfl | (first | exact yQ | exact yA | exact yB | exact yM | exact yV)); (· decide +kernel); (· decide +kernel); (· rfl); (· exact fun _ _ _ h => h); (· rfl))
    | ((with_reducible apply TA.takeN 2); (· rfl); (· decide +kernel); (· rfl); (· first | exact Y.eql_rc bj rfl rfl | (first | exact yQ | exact yA | exact yB | exact yM | exact yV)); (· decide +kernel); (· decide +kernel); (· rfl); (· exact fun _ _ _ h => h); (· rfl))
    | ((with_reducible apply TA.takeN 3); (· rfl); (· decide +kernel); (· rfl); (· first | exact Y.eql_rc bj rfl rfl | (first | exact yQ | exact yA | exact yB | exact yM | exact yV)); (· decide +kernel); (· decide +kernel); (· rfl); (· exact fun _ _ _ h => h); (· rfl))
    | ((with_reducible apply TA.take_gN 0); (· rfl); (· decide +kernel); (· rfl); (· rfl); (· rfl); (· (first | exact Y.eql_rc bj rfl rfl | (first | exact yQ | exact yA | exact yB | exact yM | exact yV))); (· decide +kernel); (· decide +kernel); (· rfl); (· exact fun _ _ _ h => h); (· rfl))
    | ((with_reducible apply TA.take_gN 1); (· rfl); (· decide +kernel); (· rfl); (· rfl); (· rfl); (· (first | exact Y.eql_rc bj rfl rfl | (first | exact yQ | exact yA | exact yB | exact yM | exact yV))); (· decide +kernel); (· decide +kernel); (· rfl); (· exact fun _ _ _ h => h); (· rfl))
    | ((with_reducible apply TA.take_gN 2); (· rfl); (· decide +kernel); (· rfl); (· rfl); (· rfl); (· (first | exact Y.eql_rc bj rfl rfl | (first | exact yQ | exact yA | exact yB | exact yM | exact yV))); (· decide +kernel); (· decide +kernel); (· rfl); (· exact fun _ _ _ h => h); (· rfl))
    | ((with_reducible apply TA.take_gN 3); (· rfl); (· decide +kernel); (· rfl); (· rfl); (· rfl); (· (first | exact Y.eql_rc bj rfl rfl | (first | exact yQ | exact yA | exact yB | exact yM | exact yV))); (· decide +kernel); (· decide +kernel); (· rfl); (· exact fun _ _ _ h => h); (· rfl))
    | refine wkX0 ?_
    | refine wkX1 ?_
    | refine wkX2 ?_
    | refine wkX3 ?_
    | ((with_reducible apply TA.oneN 0); (· rfl); (· rfl); (· decide +kernel); (· rfl))
    | ((with_reducible apply TA.oneN 1); (· rfl); (· rfl); (· decide +kernel); (· rfl))
    | ((with_reducible apply TA.oneN 2); (· rfl); (· rfl); (· decide +kernel); (· rfl))
    | ((with_reducible apply TA.oneN 3); (· rfl); (· rfl); (· decide +kernel); (· rfl))
    | refine TQ.any leF selF ?_
    | refine TC.region_any 16 (_) (by kernel_rfl) rfl selF ?_ | refine TA.done (by decide +kernel) ?_ | refine TQ.any_panic ?_)
    refine TQ.less hg2 ?_
    refine TQ.endR1 (L' := L) Tryz.results4 rvA rfl (.refl _) ?_ selF
    exact ⟨rfl, rfl, rfl⟩
end Go.Proofs.YtklmfbildebimaaGreatDoor
