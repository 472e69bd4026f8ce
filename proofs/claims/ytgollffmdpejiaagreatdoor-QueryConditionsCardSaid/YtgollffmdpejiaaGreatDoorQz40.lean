/-
  Makers of conditions: compared, among, exists, kind. Makers of conditions: kind, spoken. Makers of conditions: shaped.
-/
import Derived.Test.YtgollffmdpejiaaGreatDoorQz3
import Derived.Test.YtgollffmdpejiaaGreatDoorQz39
import Derived.Test.YtgollffmdpejiaaGreatDoorQz19
namespace Go.Proofs.YtgollffmdpejiaaGreatDoor
open Go.RowKit Go.TL
set_option maxRecDepth 100000

theorem comparedOne_does (n : List UInt8) (so : Int → Bool) (sf : Value) (x : J) (v : Value) (b3 : Nat) (g : Gh) (L : List Ent) (hX : IsJ g x v) (sX : smJ x) (hso : SoOk sf so) (h3 : g.cell b3 0 = some sf) (hT : GTabs g) (hU : GU8 g) (n1 : condB n x = true) (n2 : orB n x = false) (n3 : ∀ y, cmpQ so x y = askB n x y) :
    Does Tryz.prog 204 #[v, .pointer (some ⟨b3, 0, none⟩)] g L (MkR n x L) := by
  refine Does.of2 Tryz.func204 rfl Tryz.ntmps204 rfl ?_
  have KX := fun g' (h : g.le g') L => qKind_gives x v g' L (hX.le h) sX (hT.le h) (hU.le h)
  have ov := hX.one
  unfold MkR
  rw [n1, n2]
  repeat' (first
    | refine wkQ ?_
    | ((with_reducible apply TL.box_keep (d := 2)); (· rfl); (· exact cells_one ov); (· rfl); (· exact Nat.le_of_ble_eq_true rfl); intro b1 g1 hg1 hc1; have hl1 := hc1 0 _ rfl)
    | refine wkV ?_
    | refine wkM ?_
    | refine wkD (KX _ (by assumption) _) ?_
    | (refine wkA 8 (v := .func (.func 205) #[] ([Value.pointer (some ⟨b1, 0, none⟩), .pointer (some ⟨_, 0, none⟩), .pointer (some ⟨b3, 0, none⟩)] : List Value).toArray) ?_ ?_; · exact Y.make_func rfl)
    | refine stS ?_ | (refine stB ?_; intro _) | (refine stC ?_; constructor <;> intro _))
  rename_i b2
  refine TQ.keep_obj (vs := [str (kindT x)]) pkA (Nat.le_of_ble_eq_true rfl) fun g2 hg2 hc2 => ?_
  refine TQ.endR2 (L' := L) Tryz.results204 rvA rvA rfl (hg1.trans hg2) ?_ selF
  refine ⟨rfl, _, rfl, AskW.yes ⟨205, [.pointer (some ⟨b1, 0, none⟩), .pointer (some ⟨b2, 0, none⟩), .pointer (some ⟨b3, 0, none⟩)], rfl, by kernel_rfl, fun g3 hg3 y u L hy sy => ?_⟩⟩
  have h13 := hg1.trans (hg2.trans hg3)
  rw [← n3 y]
  exact comparedTwo_gives so sf y x u v b1 b2 b3 g3 L hy (hX.le h13) sy sX hso ((hg2.trans hg3).cell hl1) (hg3.cell (hc2 0 _ rfl)) (h13.cell h3) (hT.le h13) (hU.le h13)
theorem compared_does (n : List UInt8) (so : Int → Bool) (sf : Value) (g : Gh) (L : List Ent) (hso : SoOk sf so) (hT : GTabs g) (hU : GU8 g) (n1 : ∀ x, condB n x = true) (n2 : ∀ x, orB n x = false) (n3 : ∀ x y, cmpQ so x y = askB n x y) :
    Does Tryz.prog 161 #[sf] g L (fun e g' L' => ∃ f, e = .returned f ∧ L' = L ∧ MakeOk g' f n) := by
  refine Does.of1 Tryz.func161 rfl Tryz.ntmps161 rfl ?_
  have ou := hso.one
  repeat' (first
    | refine wkQ ?_
    | ((with_reducible apply TL.box_keep (d := 1)); (· rfl); (· exact cells_one ou); (· rfl); (· exact Nat.le_of_ble_eq_true rfl); intro b g1 h1 hc)
    | (refine wkA 3 (v := .func (.func 204) #[] ([Value.pointer (some ⟨_, 0, none⟩)] : List Value).toArray) ?_ ?_; · exact Y.make_func rfl)
    | refine wkV ?_
    | refine stS ?_ | (refine stB ?_; intro _) | (refine stC ?_; constructor <;> intro _))
  refine TQ.endR1 (L' := L) Tryz.results161 rvA rfl h1 ?_ selF
  exact ⟨_, rfl, rfl, ⟨204, [.pointer (some ⟨b, 0, none⟩)], rfl, by kernel_rfl, fun g2 hg2 x v L hx sx => comparedOne_does n so sf x v b g2 L hx sx hso (hg2.cell (hc 0 _ rfl)) (hT.le (h1.trans hg2)) (hU.le (h1.trans hg2)) (n1 x) (n2 x) (n3 x)⟩⟩
set_option maxHeartbeats 8000000 in
theorem among_does (l : List J) (v : Value) (g : Gh) (L : List Ent) (hX : IsJ g (.list l) v) (_sX : smJ (.list l)) (_hT : GTabs g) (_hU : GU8 g) : Does Tryz.prog 167 #[v] g L (OneR L) := by
  refine Does.of1 Tryz.func167 rfl Tryz.ntmps167 rfl ?_
  rw [IsJ] at hX
  obtain ⟨sl, fl, rfl, hS, hI⟩ := hX
  have LY := fun L => qlist_yes sl g L
  obtain ⟨a, c, rfl⟩ := hS.slice
  repeat' (first
    | refine wkQ ?_
    | refine wkV ?_
    | refine wkD (LY _) ?_
    | (refine wkA 6 (v := .func (.func 206) #[] ([Value.pointer (some ⟨_, 0, none⟩)] : List Value).toArray) ?_ ?_; · exact Y.make_func rfl)
    | refine stS ?_ | (refine stB ?_; intro _) | (refine stC ?_; constructor <;> intro _))
  rename_i b
  refine TQ.keep_obj (vs := [.slice a l.length c]) pkA (Nat.le_of_ble_eq_true rfl) fun g2 hg2 hc2 => ?_
  refine TQ.endR1 (L' := L) Tryz.results167 rvA rfl hg2 ?_ selF
  exact ⟨_, rfl, rfl, rfl⟩
theorem among_no (x : J) (v : Value) (g : Gh) (L : List Ent) (hX : IsJ g x v) (hx : isListJ x = false) : Throws Tryz.prog 167 #[v] g L [stopQ] := by
  refine .of (Does.of1 Tryz.func167 rfl Tryz.ntmps167 rfl ?_)
  have LN := fun L => qlist_no x v g L hX hx
  have ov := hX.one
  clear hX
  repeat' (first
    | refine wkQ ?_
    | refine wkV ?_
    | refine TL.throws (Enters.plain (by kernel_rfl) (by rfl)) (LN _) (by rfl) ?_
    | refine stS ?_ | (refine stB ?_; intro _) | (refine stC ?_; constructor <;> intro _))
  refine TQ.end_panic (L' := L) rfl (.refl _) ?_ selA
  exact ⟨rfl, rfl, rfl⟩
set_option maxHeartbeats 8000000 in
theorem testG_does (x : J) (v : Value) (g : Gh) (L : List Ent) (hX : IsJ g x v) (sX : smJ x) (hT : GTabs g) (hU : GU8 g) : Does Tryz.prog 166 #[v] g L (MkR inN x L) := by
  refine Does.of1 Tryz.func166 rfl Tryz.ntmps166 rfl ?_
  have ov := hX.one
  cases hx : isListJ x with
  | false =>
    have A := fun L => among_no x v g L hX hx
    have hb : condB inN x = false := by cases x <;> first | rfl | cases hx
    unfold MkR
    rw [hb]
    clear hX hx
    repeat' (first
    | refine wkQ ?_
    | refine wkV ?_
    | refine TL.throws (Enters.plain (by kernel_rfl) (by rfl)) (A _) (by rfl) ?_
    | refine stS ?_ | (refine stB ?_; intro _) | (refine stC ?_; constructor <;> intro _))
    refine TQ.end_panic (L' := L) rfl (.refl _) ?_ selA
    exact ⟨rfl, rfl⟩
  | true =>
    obtain ⟨l, rfl⟩ : ∃ l, x = .list l := by cases x <;> first | exact ⟨_, rfl⟩ | cases hx
    have A := fun L => among_does l v g L hX sX hT hU
    clear hX hx
    repeat' (first
    | refine wkQ ?_
    | refine wkV ?_
    | (refine TL.call (Enters.plain (by kernel_rfl) (by rfl)) (by rfl) (A _) ?_; (rintro e g1 Ln hg1 ⟨f, k1, k2, k3⟩; have k2 := k2.symm; subst k1; subst k2; have of := k3; skip; refine CallK.ret ?_))
    | refine stS ?_ | (refine stB ?_; intro _) | (refine stC ?_; constructor <;> intro _))
    refine TQ.endR2 (L' := L) Tryz.results166 rvA rvA rfl (hg1) ?_ selF
    exact ⟨rfl, _, rfl, AskW.no rfl k3⟩
set_option maxHeartbeats 8000000 in
theorem testH_does (x : J) (v : Value) (g : Gh) (L : List Ent) (hX : IsJ g x v) (sX : smJ x) (hT : GTabs g) (hU : GU8 g) : Does Tryz.prog 168 #[v] g L (MkR ninN x L) := by
  refine Does.of1 Tryz.func168 rfl Tryz.ntmps168 rfl ?_
  have ov := hX.one
  cases hx : isListJ x with
  | false =>
    have A := fun L => among_no x v g L hX hx
    have hb : condB ninN x = false := by cases x <;> first | rfl | cases hx
    unfold MkR
    rw [hb]
    clear hX hx
    repeat' (first
    | refine wkQ ?_
    | refine wkV ?_
    | refine TL.throws (Enters.plain (by kernel_rfl) (by rfl)) (A _) (by rfl) ?_
    | refine stS ?_ | (refine stB ?_; intro _) | (refine stC ?_; constructor <;> intro _))
    refine TQ.end_panic (L' := L) rfl (.refl _) ?_ selA
    exact ⟨rfl, rfl⟩
  | true =>
    obtain ⟨l, rfl⟩ : ∃ l, x = .list l := by cases x <;> first | exact ⟨_, rfl⟩ | cases hx
    have A := fun L => among_does l v g L hX sX hT hU
    have B := fun f g L h => turned_does f g L h
    clear hX hx
    repeat' (first
    | refine wkQ ?_
    | refine wkV ?_
    | (refine TL.call (Enters.plain (by kernel_rfl) (by rfl)) (by rfl) (A _) ?_; (rintro e g1 Ln hg1 ⟨f, k1, k2, k3⟩; have k2 := k2.symm; subst k1; subst k2; have of := k3; skip; refine CallK.ret ?_))
    | (refine TL.call (Enters.plain (by kernel_rfl) (by rfl)) (by rfl) (B _ _ _ k3) ?_; (rintro e g2 Ln hg2 ⟨f2, j1, j2, j3⟩; have j2 := j2.symm; subst j1; subst j2; have of2 := j3; refine CallK.ret ?_))
    | refine stS ?_ | (refine stB ?_; intro _) | (refine stC ?_; constructor <;> intro _))
    refine TQ.endR2 (L' := L) Tryz.results168 rvA rvA rfl (hg1.trans hg2) ?_ selF
    exact ⟨rfl, _, rfl, AskW.no rfl j3⟩
set_option maxHeartbeats 16000000 in
theorem exists_does (x : J) (v : Value) (g : Gh) (L : List Ent) (hX : IsJ g x v) : Does Tryz.prog 169 #[v] g L (MkR exN x L) := by
  refine Does.of1 Tryz.func169 rfl Tryz.ntmps169 rfl ?_
  have NY := fun L => qneed_yes g L
  have NO := fun L => qneed_no g L
  cases x with
  | bool q =>
    rw [IsJ] at hX
    subst hX
    repeat' (first
    | refine wkQ ?_
    | ((with_reducible apply TA.takeN 0); (· rfl); (· decide +kernel); (· rfl); (· first | exact Y.make_func (caps := [Value.pointer (some ⟨_, 0, none⟩)]) rfl | exact yW); (· decide +kernel); (· decide +kernel); (· rfl); (· exact fun _ _ _ h => h); (· rfl))
    | ((with_reducible apply TA.takeN 1); (· rfl); (· decide +kernel); (· rfl); (· first | exact Y.make_func (caps := [Value.pointer (some ⟨_, 0, none⟩)]) rfl | exact yW); (· decide +kernel); (· decide +kernel); (· rfl); (· exact fun _ _ _ h => h); (· rfl))
    | ((with_reducible apply TA.takeN 2); (· rfl); (· decide +kernel); (· rfl); (· first | exact Y.make_func (caps := [Value.pointer (some ⟨_, 0, none⟩)]) rfl | exact yW); (· decide +kernel); (· decide +kernel); (· rfl); (· exact fun _ _ _ h => h); (· rfl))
    | ((with_reducible apply TA.takeN 3); (· rfl); (· decide +kernel); (· rfl); (· first | exact Y.make_func (caps := [Value.pointer (some ⟨_, 0, none⟩)]) rfl | exact yW); (· decide +kernel); (· decide +kernel); (· rfl); (· exact fun _ _ _ h => h); (· rfl))
    | ((with_reducible apply TA.take_gN 0); (· rfl); (· decide +kernel); (· rfl); (· rfl); (· rfl); (· (first | exact Y.make_func (caps := [Value.pointer (some ⟨_, 0, none⟩)]) rfl | exact yW)); (· decide +kernel); (· decide +kernel); (· rfl); (· exact fun _ _ _ h => h); (· rfl))
    | ((with_reducible apply TA.take_gN 1); (· rfl); (· decide +kernel); (· rfl); (· rfl); (· rfl); (· (first | exact Y.make_func (caps := [Value.pointer (some ⟨_, 0, none⟩)]) rfl | exact yW)); (· decide +kernel); (· decide +kernel); (· rfl); (· exact fun _ _ _ h => h); (· rfl))
    | ((with_reducible apply TA.take_gN 2); (· rfl); (· decide +kernel); (· rfl); (· rfl); (· rfl); (· (first | exact Y.make_func (caps := [Value.pointer (some ⟨_, 0, none⟩)]) rfl | exact yW)); (· decide +kernel); (· decide +kernel); (· rfl); (· exact fun _ _ _ h => h); (· rfl))
    | ((with_reducible apply TA.take_gN 3); (· rfl); (· decide +kernel); (· rfl); (· rfl); (· rfl); (· (first | exact Y.make_func (caps := [Value.pointer (some ⟨_, 0, none⟩)]) rfl | exact yW)); (· decide +kernel); (· decide +kernel); (· rfl); (· exact fun _ _ _ h => h); (· rfl))
    | refine wkX0 ?_
    | refine wkX1 ?_
    | refine wkX2 ?_
    | refine wkX3 ?_
    | refine wkO0 ?_
    | refine wkO1 ?_
    | refine wkO2 ?_
    | refine wkO3 ?_
    | refine TQ.any leF selF ?_
    | refine TC.region_any 5 (_) (by kernel_rfl) rfl selF ?_ | refine TA.done (by decide +kernel) ?_ | refine TQ.any_panic ?_
    | refine wkV ?_
    | refine wkD (NY _) ?_
    | refine stS ?_ | (refine stB ?_; intro _) | (refine stC ?_; constructor <;> intro _)
    | refine wkW ?_)
    all_goals
      rename_i b
      refine TQ.keep_obj (vs := [.bool q]) pkA (Nat.le_of_ble_eq_true rfl) fun g2 hg2 hc2 => ?_
      refine TQ.endR2 (L' := L) Tryz.results169 rvA rvA rfl (hg2) ?_ selF
      exact ⟨rfl, _, rfl, AskW.no rfl rfl⟩
  | obj ns zs =>
    rw [IsJ] at hX
    obtain ⟨sl, fl, rfl, hS, _⟩ := hX
    obtain ⟨a, c, rfl⟩ := hS.slice
    clear hS
    repeat' (first
    | refine wkQ ?_
    | refine wkV ?_
    | refine TL.throws (Enters.plain (by kernel_rfl) (by rfl)) (NO _) (by rfl) ?_
    | refine stS ?_ | (refine stB ?_; intro _) | (refine stC ?_; constructor <;> intro _))
    refine TQ.end_panic (L' := L) rfl (.refl _) ?_ selA
    exact ⟨rfl, rfl⟩
  | list zs =>
    rw [IsJ] at hX
    obtain ⟨sl, fl, rfl, hS, _⟩ := hX
    obtain ⟨a, c, rfl⟩ := hS.slice
    clear hS
    repeat' (first
    | refine wkQ ?_
    | refine wkV ?_
    | refine TL.throws (Enters.plain (by kernel_rfl) (by rfl)) (NO _) (by rfl) ?_
    | refine stS ?_ | (refine stB ?_; intro _) | (refine stC ?_; constructor <;> intro _))
    refine TQ.end_panic (L' := L) rfl (.refl _) ?_ selA
    exact ⟨rfl, rfl⟩
  | num n =>
    rw [IsJ] at hX
    obtain ⟨rfl, _⟩ := hX
    repeat' (first
    | refine wkQ ?_
    | refine wkV ?_
    | refine TL.throws (Enters.plain (by kernel_rfl) (by rfl)) (NO _) (by rfl) ?_
    | refine stS ?_ | (refine stB ?_; intro _) | (refine stC ?_; constructor <;> intro _))
    refine TQ.end_panic (L' := L) rfl (.refl _) ?_ selA
    exact ⟨rfl, rfl⟩
  | _ =>
    rw [IsJ] at hX
    subst hX
    repeat' (first
    | refine wkQ ?_
    | refine wkV ?_
    | refine TL.throws (Enters.plain (by kernel_rfl) (by rfl)) (NO _) (by rfl) ?_
    | refine stS ?_ | (refine stB ?_; intro _) | (refine stC ?_; constructor <;> intro _))
    refine TQ.end_panic (L' := L) rfl (.refl _) ?_ selA
    exact ⟨rfl, rfl⟩
end Go.Proofs.YtgollffmdpejiaaGreatDoor
namespace Go.Proofs.YtgollffmdpejiaaGreatDoor
open Go.RowKit Go.TL
set_option maxRecDepth 100000

theorem cnStr_gives (ns : List (List UInt8)) (nm : List UInt8) (v : Value) (g : Gh) (L : List Ent) (hS : Sl g v ns.length 1 (strs ns)) (hl : ns.length ≤ 1000000) : Gives Tryz.prog 209 #[v, str nm] g L (.bool (decide (nm ∈ ns))) := by
  refine .of (Does.of2 Tryz.func209 rfl Tryz.ntmps209 rfl ?_)
  have A := fun L => indexS_gives ns nm v g L hS hl
  rw [← idxL_mem nm ns 0]
  obtain ⟨a, c, rfl⟩ := hS.slice
  generalize idxL nm ns 0 = z at *
  clear hS
  repeat' (first
    | refine wkQ ?_
    | (refine wkA 8 (v := .bool (decide (0 ≤ z))) ?_ ?_; · exact Y.geq_b rfl rfl rfl)
    | refine wkV ?_
    | refine wkD (A _) ?_
    | refine stS ?_ | (refine stB ?_; intro _) | (refine stC ?_; constructor <;> intro _))
  refine TQ.endR1 (L' := L) Tryz.results209 rvA rfl (.refl _) ?_ selF
  exact ⟨rfl, rfl, rfl⟩
set_option maxHeartbeats 16000000 in
theorem kind_does (x : J) (v : Value) (g : Gh) (L : List Ent) (hX : IsJ g x v) (_hT : GTabs g) (_hU : GU8 g) : Does Tryz.prog 170 #[v] g L (MkR kindN x L) := by
  refine Does.of1 Tryz.func170 rfl Tryz.ntmps170 rfl ?_
  have NY := fun g L => qneed_yes g L
  have NO := fun g L => qneed_no g L
  cases x with
  | text s =>
    rw [IsJ] at hX
    subst hX
    have C := fun v g' L (h : Sl g' v 6 1 (strs kindsT)) => cnStr_gives kindsT s v g' L h (by decide)
    have hb : condB kindN (.text s) = decide (s ∈ kindsT) := rfl
    unfold MkR
    rw [hb]
    cases hs : decide (s ∈ kindsT) with
    | true =>
      rw [hs] at C
      clear hb
      repeat' (first
    | refine wkQ ?_
    | refine wkV ?_
    | (refine TL.build_slice (d := 13) (by rfl) (by rfl) (by exact oneA) (by rfl) (by rfl) (by rfl) (fun bb => ?_); refine TL.freeze_obj (k := 6) bb 1 .here rfl (by decide) ?_; rintro g2 hg2 hs2; have C1 := fun L => C _ _ L hs2)
    | refine wkD (C1 _) ?_
    | refine wkD (NY _ _) ?_
    | (refine wkA 18 (v := .func (.func 210) #[] ([Value.pointer (some ⟨_, 0, none⟩)] : List Value).toArray) ?_ ?_; · exact Y.make_func rfl)
    | refine stS ?_ | (refine stB ?_; intro _) | (refine stC ?_; constructor <;> intro _))
      rename_i b
      refine TQ.keep_obj (vs := [str s]) pkA (Nat.le_of_ble_eq_true rfl) fun g3 hg3 hc3 => ?_
      refine TQ.endR2 (L' := L) Tryz.results170 rvA rvA rfl (hg2.trans hg3) ?_ selF
      exact ⟨rfl, _, rfl, AskW.no rfl rfl⟩
    | false =>
      rw [hs] at C
      clear hb
      repeat' (first
    | refine wkQ ?_
    | refine wkV ?_
    | (refine TL.build_slice (d := 13) (by rfl) (by rfl) (by exact oneA) (by rfl) (by rfl) (by rfl) (fun bb => ?_); refine TL.freeze_obj (k := 6) bb 1 .here rfl (by decide) ?_; rintro g2 hg2 hs2; have C1 := fun L => C _ _ L hs2)
    | refine wkD (C1 _) ?_
    | refine TL.throws (Enters.plain (by kernel_rfl) (by rfl)) (NO _ _) (by rfl) ?_
    | refine stS ?_ | (refine stB ?_; intro _) | (refine stC ?_; constructor <;> intro _))
      refine TQ.less hg2 ?_
      refine TQ.end_panic (L' := L) rfl (.refl _) ?_ selA
      exact ⟨rfl, rfl⟩
  | obj ns zs =>
    rw [IsJ] at hX
    obtain ⟨sl, fl, rfl, hS, _⟩ := hX
    obtain ⟨a, c, rfl⟩ := hS.slice
    clear hS
    repeat' (first
    | refine wkQ ?_
    | refine wkV ?_
    | ((with_reducible apply TL.build_slice); (· rfl); (· rfl); (· exact oneA); (· rfl); (· rfl); (· rfl); intro _) | refine TL.build_one (by rfl) (by first | rfl | assumption) (by rfl) (by rfl) (by rfl) (by rfl) (fun _ => ?_) | refine TL.build_empty (by rfl) (fun _ => ?_)
    | refine TL.throws (Enters.plain (by kernel_rfl) (by rfl)) (NO _ _) (by rfl) ?_
    | refine stS ?_ | (refine stB ?_; intro _) | (refine stC ?_; constructor <;> intro _))
    refine TQ.end_panic (L' := L) rfl (.refl _) ?_ selA
    exact ⟨rfl, rfl⟩
  | list zs =>
    rw [IsJ] at hX
    obtain ⟨sl, fl, rfl, hS, _⟩ := hX
    obtain ⟨a, c, rfl⟩ := hS.slice
    clear hS
    repeat' (first
    | refine wkQ ?_
    | refine wkV ?_
    | ((with_reducible apply TL.build_slice); (· rfl); (· rfl); (· exact oneA); (· rfl); (· rfl); (· rfl); intro _) | refine TL.build_one (by rfl) (by first | rfl | assumption) (by rfl) (by rfl) (by rfl) (by rfl) (fun _ => ?_) | refine TL.build_empty (by rfl) (fun _ => ?_)
    | refine TL.throws (Enters.plain (by kernel_rfl) (by rfl)) (NO _ _) (by rfl) ?_
    | refine stS ?_ | (refine stB ?_; intro _) | (refine stC ?_; constructor <;> intro _))
    refine TQ.end_panic (L' := L) rfl (.refl _) ?_ selA
    exact ⟨rfl, rfl⟩
  | num n =>
    rw [IsJ] at hX
    obtain ⟨rfl, _⟩ := hX
    repeat' (first
    | refine wkQ ?_
    | refine wkV ?_
    | ((with_reducible apply TL.build_slice); (· rfl); (· rfl); (· exact oneA); (· rfl); (· rfl); (· rfl); intro _) | refine TL.build_one (by rfl) (by first | rfl | assumption) (by rfl) (by rfl) (by rfl) (by rfl) (fun _ => ?_) | refine TL.build_empty (by rfl) (fun _ => ?_)
    | refine TL.throws (Enters.plain (by kernel_rfl) (by rfl)) (NO _ _) (by rfl) ?_
    | refine stS ?_ | (refine stB ?_; intro _) | (refine stC ?_; constructor <;> intro _))
    refine TQ.end_panic (L' := L) rfl (.refl _) ?_ selA
    exact ⟨rfl, rfl⟩
  | _ =>
    rw [IsJ] at hX
    subst hX
    repeat' (first
    | refine wkQ ?_
    | refine wkV ?_
    | ((with_reducible apply TL.build_slice); (· rfl); (· rfl); (· exact oneA); (· rfl); (· rfl); (· rfl); intro _) | refine TL.build_one (by rfl) (by first | rfl | assumption) (by rfl) (by rfl) (by rfl) (by rfl) (fun _ => ?_) | refine TL.build_empty (by rfl) (fun _ => ?_)
    | refine TL.throws (Enters.plain (by kernel_rfl) (by rfl)) (NO _ _) (by rfl) ?_
    | refine stS ?_ | (refine stB ?_; intro _) | (refine stC ?_; constructor <;> intro _))
    refine TQ.end_panic (L' := L) rfl (.refl _) ?_ selA
    exact ⟨rfl, rfl⟩
theorem spokenTwo_gives (l : List (List UInt8)) (w : List UInt8) (lv : Value) (b : Nat) (g : Gh) (L : List Ent) (hS : Sl g lv l.length 1 (strs l)) (hl : l.length ≤ 1000000) (_hb : g.cell b 0 = some lv) : Gives Tryz.prog 232 #[str w, .pointer (some ⟨b, 0, none⟩)] g L (.bool (!decide (w ∈ l))) := by
  refine .of (Does.of2 Tryz.func232 rfl Tryz.ntmps232 rfl ?_)
  have A := fun L => cnStr_gives l w lv g L hS hl
  obtain ⟨a, c, rfl⟩ := hS.slice
  generalize decide (w ∈ l) = d at *
  clear hS
  repeat' (first
    | refine wkQ ?_
    | refine wkV ?_
    | refine wkM ?_
    | refine wkD (A _) ?_
    | refine stS ?_ | (refine stB ?_; intro _) | (refine stC ?_; constructor <;> intro _))
  refine TQ.endR1 (L' := L) Tryz.results232 rvA rfl (.refl _) ?_ selF
  exact ⟨rfl, rfl, rfl⟩
theorem stemsF_len : ∀ (l : List (List UInt8 × Nat × Nat)), (stemsF l).length ≤ l.length
  | [] => Nat.le_refl _
  | e :: r => by
    rw [stemsF, List.length_cons]
    have := stemsF_len r
    split
    · omega
    · rw [List.length_cons]; omega
theorem stemsL_len (s : List UInt8) : 2 * (stemsL s).length ≤ s.length + 1 := by
  have := stemsF_len (wordsL s)
  have := wordsL_count s
  unfold stemsL; omega
theorem all_any (l m : List (List UInt8)) : (!l.any fun w => !decide (w ∈ m)) = l.all fun w => decide (w ∈ m) := by
  induction l with
  | nil => rfl
  | cons a r ih => rw [List.any_cons, List.all_cons, ← ih]; cases decide (a ∈ m) <;> simp
set_option maxHeartbeats 16000000 in
theorem spokenOne_text (l : List (List UInt8)) (t : List UInt8) (lv : Value) (b : Nat) (g : Gh) (L : List Ent) (_ht : t.length ≤ 1000000) (hS : Sl g lv l.length 1 (strs l)) (hl : l.length ≤ 1000000) (hb : g.cell b 0 = some lv) (hP : GSp g) : Gives Tryz.prog 230 #[.iface 9 (str t), .pointer (some ⟨b, 0, none⟩)] g L (.bool (l.all fun w => decide (w ∈ stemsL t))) := by
  refine .of (Does.of2 Tryz.func230 rfl Tryz.ntmps230 rfl ?_)
  have W := fun L => qwords_does t g L (by omega) hP
  have hm := stemsL_len t
  rw [← all_any]
  have CF := fun b6 mv g' (hg : g.le g') (h6 : g'.cell b6 0 = some mv) (hM : Sl g' mv (stemsL t).length 1 (strs (stemsL t))) L => cfStr_gives l (strs l) (fun w => !decide (w ∈ stemsL t)) 232 [.pointer (some ⟨b6, 0, none⟩)] lv g' L hl (hS.le hg) (by kernel_rfl) (fun i w hw => ⟨str w, strs_get hw, fun L => spokenTwo_gives (stemsL t) w mv b6 g' L hM (by omega) h6⟩)
  obtain ⟨a, c, rfl⟩ := hS.slice
  generalize (l.any fun w => !decide (w ∈ stemsL t)) = r at *
  generalize stemsL t = m at *
  repeat' (first
    | refine wkQ ?_
    | refine wkV ?_
    | refine wkM ?_
    | (refine TL.call (Enters.plain (by kernel_rfl) (by rfl)) (by rfl) (W _) ?_; (rintro e g1 Ln hg1 ⟨vw, k1, k2, k3⟩; have k2 := k2.symm; subst k1; subst k2; have K3 := Hn.mk k3; obtain ⟨aw, cw, rfl⟩ := k3.slice; refine CallK.ret ?_))
    | (refine wkA 17 (v := .func (.func 232) #[] ([Value.pointer (some ⟨_, 0, none⟩)] : List Value).toArray) ?_ ?_; · exact Y.make_func rfl)
    | refine stS ?_ | (refine stB ?_; intro _) | (refine stC ?_; constructor <;> intro _))
  rename_i b6
  have hS1 := hS
  refine Go.TL.TL.keep_obj (vs := [.slice aw m.length cw]) pkA (Nat.le_of_ble_eq_true rfl) fun g2 hg2 hc2 => ?_
  have hb2 := (hg1.trans hg2).cell hb
  have C1 := fun L => CF b6 _ g2 (hg1.trans hg2) (hc2 0 _ rfl) (k3.le hg2) L
  clear hS1 hS CF W K3 k3
  repeat' (first
    | refine wkQ ?_
    | (refine wkA 17 (v := .func (.func 232) #[] ([Value.pointer (some ⟨b6, 0, none⟩)] : List Value).toArray) ?_ ?_; · exact Y.make_func rfl)
    | refine wkV ?_
    | refine wkM ?_
    | refine wkD (C1 _) ?_
    | refine stS ?_ | (refine stB ?_; intro _) | (refine stC ?_; constructor <;> intro _))
  refine TQ.less (hg1.trans hg2) ?_
  refine TQ.endR1 (L' := L) Tryz.results230 rvA rfl (.refl _) ?_ selF
  exact ⟨rfl, rfl, rfl⟩
def isTextJ : J → Bool
  | .text _ => true
  | _ => false
set_option maxHeartbeats 16000000 in
theorem spokenOne_no (x : J) (v : Value) (b : Nat) (g : Gh) (L : List Ent) (hX : IsJ g x v) (hx : isTextJ x = false) (hP : GSp g) : Gives Tryz.prog 230 #[v, .pointer (some ⟨b, 0, none⟩)] g L (.bool false) := by
  refine .of (Does.of2 Tryz.func230 rfl Tryz.ntmps230 rfl ?_)
  have W := fun L => qwords_does [] g L (by simp) hP
  have hm := stemsL_len []
  generalize stemsL [] = m at *
  cases x with
  | text s => cases hx
  | obj ns zs =>
    rw [IsJ] at hX
    obtain ⟨sl, fl, rfl, hS, _⟩ := hX
    obtain ⟨a, c, rfl⟩ := hS.slice
    clear hS
    repeat' (first
    | refine wkQ ?_
    | refine wkV ?_
    | (refine TL.call (Enters.plain (by kernel_rfl) (by rfl)) (by rfl) (W _) ?_; (rintro e g1 Ln hg1 ⟨vw, k1, k2, k3⟩; have k2 := k2.symm; subst k1; subst k2; skip; obtain ⟨aw, cw, rfl⟩ := k3.slice; refine CallK.ret ?_))
    | refine stS ?_ | (refine stB ?_; intro _) | (refine stC ?_; constructor <;> intro _))
    refine TQ.less hg1 ?_
    refine TQ.endR1 (L' := L) Tryz.results230 rvA rfl (.refl _) ?_ selF
    exact ⟨rfl, rfl, rfl⟩
  | list zs =>
    rw [IsJ] at hX
    obtain ⟨sl, fl, rfl, hS, _⟩ := hX
    obtain ⟨a, c, rfl⟩ := hS.slice
    clear hS
    repeat' (first
    | refine wkQ ?_
    | refine wkV ?_
    | (refine TL.call (Enters.plain (by kernel_rfl) (by rfl)) (by rfl) (W _) ?_; (rintro e g1 Ln hg1 ⟨vw, k1, k2, k3⟩; have k2 := k2.symm; subst k1; subst k2; skip; obtain ⟨aw, cw, rfl⟩ := k3.slice; refine CallK.ret ?_))
    | refine stS ?_ | (refine stB ?_; intro _) | (refine stC ?_; constructor <;> intro _))
    refine TQ.less hg1 ?_
    refine TQ.endR1 (L' := L) Tryz.results230 rvA rfl (.refl _) ?_ selF
    exact ⟨rfl, rfl, rfl⟩
  | num n =>
    rw [IsJ] at hX
    obtain ⟨rfl, _⟩ := hX
    repeat' (first
    | refine wkQ ?_
    | refine wkV ?_
    | (refine TL.call (Enters.plain (by kernel_rfl) (by rfl)) (by rfl) (W _) ?_; (rintro e g1 Ln hg1 ⟨vw, k1, k2, k3⟩; have k2 := k2.symm; subst k1; subst k2; skip; obtain ⟨aw, cw, rfl⟩ := k3.slice; refine CallK.ret ?_))
    | refine stS ?_ | (refine stB ?_; intro _) | (refine stC ?_; constructor <;> intro _))
    refine TQ.less hg1 ?_
    refine TQ.endR1 (L' := L) Tryz.results230 rvA rfl (.refl _) ?_ selF
    exact ⟨rfl, rfl, rfl⟩
  | _ =>
    rw [IsJ] at hX
    subst hX
    repeat' (first
    | refine wkQ ?_
    | refine wkV ?_
    | (refine TL.call (Enters.plain (by kernel_rfl) (by rfl)) (by rfl) (W _) ?_; (rintro e g1 Ln hg1 ⟨vw, k1, k2, k3⟩; have k2 := k2.symm; subst k1; subst k2; skip; obtain ⟨aw, cw, rfl⟩ := k3.slice; refine CallK.ret ?_))
    | refine stS ?_ | (refine stB ?_; intro _) | (refine stC ?_; constructor <;> intro _))
    refine TQ.less hg1 ?_
    refine TQ.endR1 (L' := L) Tryz.results230 rvA rfl (.refl _) ?_ selF
    exact ⟨rfl, rfl, rfl⟩
set_option maxHeartbeats 16000000 in
theorem spoken_does (x : J) (v : Value) (g : Gh) (L : List Ent) (hX : IsJ g x v) (sX : smJ x) (hP : GSp g) : Does Tryz.prog 176 #[v] g L (MkR wordsN x L) := by
  refine Does.of1 Tryz.func176 rfl Tryz.ntmps176 rfl ?_
  have NY := fun g L => qneed_yes g L
  have NO := fun g L => qneed_no g L
  cases x with
  | text s =>
    rw [IsJ] at hX
    subst hX
    rw [smJ] at sX
    have W := fun L => qwords_does s g L sX hP
    have hm := stemsL_len s
    have hb : condB wordsN (.text s) = decide (stemsL s ≠ []) := rfl
    have hask : ∀ y, askB wordsN (.text s) y = (match y with | .text t => (stemsL s).all fun w => decide (w ∈ stemsL t) | _ => false) := fun y => by cases y <;> rfl
    unfold MkR
    rw [hb]
    clear hb
    have hM : ∀ g' f, AskOk g' f (fun y => match y with | .text t => (stemsL s).all fun w => decide (w ∈ stemsL t) | _ => false) → AskW g' f wordsN (.text s) := fun g' f h => AskW.yes (by rw [funext hask]; exact h)
    clear hask
    generalize stemsL s = m at *
    by_cases h0 : m = []
    · rw [decide_eq_false (fun h => h h0)]
      have h1 : m.length = 0 := by rw [h0]; rfl
      repeat' (first
    | refine wkQ ?_
    | (refine wkA 18 (v := .bool false) ?_ ?_; · exact Y.gtr_b (decide_eq_false (by omega)) rfl rfl)
    | refine wkV ?_
    | (refine TL.call (Enters.plain (by kernel_rfl) (by rfl)) (by rfl) (W _) ?_; (rintro e g1 Ln hg1 ⟨vw, k1, k2, k3⟩; have k2 := k2.symm; subst k1; subst k2; skip; obtain ⟨aw, cw, rfl⟩ := k3.slice; refine CallK.ret ?_))
    | refine wkD (NY _ _) ?_
    | refine TL.throws (Enters.plain (by kernel_rfl) (by rfl)) (NO _ _) (by rfl) ?_
    | refine stS ?_ | (refine stB ?_; intro _) | (refine stC ?_; constructor <;> intro _))
      refine TQ.less hg1 ?_
      refine TQ.end_panic (L' := L) rfl (.refl _) ?_ selA
      exact ⟨rfl, rfl⟩
    · rw [decide_eq_true h0]
      have h1 : 0 < m.length := List.length_pos_iff.2 h0
      repeat' (first
    | refine wkQ ?_
    | (refine wkA 18 (v := .bool true) ?_ ?_; · exact Y.gtr_b (decide_eq_true (by omega)) rfl rfl)
    | refine wkV ?_
    | (refine TL.call (Enters.plain (by kernel_rfl) (by rfl)) (by rfl) (W _) ?_; (rintro e g1 Ln hg1 ⟨vw, k1, k2, k3⟩; have k2 := k2.symm; subst k1; subst k2; skip; obtain ⟨aw, cw, rfl⟩ := k3.slice; refine CallK.ret ?_))
    | refine wkD (NY _ _) ?_
    | (refine wkA 20 (v := .func (.func 230) #[] ([Value.pointer (some ⟨_, 0, none⟩)] : List Value).toArray) ?_ ?_; · exact Y.make_func rfl)
    | refine stS ?_ | (refine stB ?_; intro _) | (refine stC ?_; constructor <;> intro _))
      rename_i b
      refine TQ.keep_obj (vs := [.slice aw m.length cw]) pkA (Nat.le_of_ble_eq_true rfl) fun g2 hg2 hc2 => ?_
      refine TQ.endR2 (L' := L) Tryz.results176 rvA rvA rfl (hg1.trans hg2) ?_ selF
      refine ⟨rfl, _, rfl, hM _ _ ⟨230, [.pointer (some ⟨b, 0, none⟩)], rfl, by kernel_rfl, fun g3 hg3 y u L hy sy => ?_⟩⟩
      have hP3 := hP.le (hg1.trans (hg2.trans hg3))
      have hm3 : m.length ≤ 1000000 := by omega
      have hb3 := hg3.cell (hc2 0 _ rfl)
      cases y with
      | text t =>
        rw [IsJ] at hy
        subst hy
        rw [smJ] at sy
        exact spokenOne_text m t _ b g3 L sy (k3.le (hg2.trans hg3)) hm3 hb3 hP3
      | _ => exact spokenOne_no _ u b g3 L hy rfl hP3
  | obj ns zs =>
    rw [IsJ] at hX
    obtain ⟨sl, fl, rfl, hS, _⟩ := hX
    obtain ⟨a, c, rfl⟩ := hS.slice
    clear hS
    repeat' (first
    | refine wkQ ?_
    | refine wkV ?_
    | refine TL.throws (Enters.plain (by kernel_rfl) (by rfl)) (NO _ _) (by rfl) ?_
    | refine stS ?_ | (refine stB ?_; intro _) | (refine stC ?_; constructor <;> intro _))
    refine TQ.end_panic (L' := L) rfl (.refl _) ?_ selA
    exact ⟨rfl, rfl⟩
  | list zs =>
    rw [IsJ] at hX
    obtain ⟨sl, fl, rfl, hS, _⟩ := hX
    obtain ⟨a, c, rfl⟩ := hS.slice
    clear hS
    repeat' (first
    | refine wkQ ?_
    | refine wkV ?_
    | refine TL.throws (Enters.plain (by kernel_rfl) (by rfl)) (NO _ _) (by rfl) ?_
    | refine stS ?_ | (refine stB ?_; intro _) | (refine stC ?_; constructor <;> intro _))
    refine TQ.end_panic (L' := L) rfl (.refl _) ?_ selA
    exact ⟨rfl, rfl⟩
  | num n =>
    rw [IsJ] at hX
    obtain ⟨rfl, _⟩ := hX
    repeat' (first
    | refine wkQ ?_
    | refine wkV ?_
    | refine TL.throws (Enters.plain (by kernel_rfl) (by rfl)) (NO _ _) (by rfl) ?_
    | refine stS ?_ | (refine stB ?_; intro _) | (refine stC ?_; constructor <;> intro _))
    refine TQ.end_panic (L' := L) rfl (.refl _) ?_ selA
    exact ⟨rfl, rfl⟩
  | _ =>
    rw [IsJ] at hX
    subst hX
    repeat' (first
    | refine wkQ ?_
    | refine wkV ?_
    | refine TL.throws (Enters.plain (by kernel_rfl) (by rfl)) (NO _ _) (by rfl) ?_
    | refine stS ?_ | (refine stB ?_; intro _) | (refine stC ?_; constructor <;> intro _))
    refine TQ.end_panic (L' := L) rfl (.refl _) ?_ selA
    exact ⟨rfl, rfl⟩
end Go.Proofs.YtgollffmdpejiaaGreatDoor
namespace Go.Proofs.YtgollffmdpejiaaGreatDoor
open Go.RowKit Go.TL
set_option maxRecDepth 100000

set_option maxHeartbeats 16000000 in
theorem shapedOne_does (n : List UInt8) (sf : Value) (poly : Bool) (x : J) (v : Value) (b1 b2 : Nat) (g : Gh) (L : List Ent) (hX : IsJ g x v) (sX : smJ x) (h1 : g.cell b1 0 = some (.bool poly)) (_h2 : g.cell b2 0 = some sf) (hT : GTabs g) (hU : GU8 g)
    (n1 : condB n x = (match readX x with | some (k, _) => !poly || decide (k = 2) | none => false)) (n2 : orB n x = false) (na : askable n = false) :
    Does Tryz.prog 211 #[v, .pointer (some ⟨b1, 0, none⟩), .pointer (some ⟨b2, 0, none⟩)] g L (MkR n x L) := by
  refine Does.of3 Tryz.func211 rfl Tryz.ntmps211 rfl ?_
  have NY := fun g L => qneed_yes g L
  have NO := fun g L => qneed_no g L
  have R := fun L => sRead_does x v g L hX sX hT hU
  have ov := hX.one
  unfold MkR
  rw [n1, n2]
  clear hX sX n1 n2
  cases hr : readX x with
  | none =>
    rw [hr] at R
    dsimp only
    repeat' (first
    | refine wkQ ?_
    | refine wkV ?_
    | (refine TL.call (Enters.plain (by kernel_rfl) (by rfl)) (by rfl) (R _) ?_; (rintro e g1 Ln hg1 ⟨vs, k1, k2⟩; have k1 := k1.symm; subst k1; dsimp only at k2; (obtain ⟨k4, k5⟩ := k2; subst k4; subst k5); refine CallK.ret ?_))
    | refine TL.throws (Enters.plain (by kernel_rfl) (by rfl)) (NO _ _) (by rfl) ?_
    | refine stS ?_ | (refine stB ?_; intro _) | (refine stC ?_; constructor <;> intro _))
    refine TQ.less hg1 ?_
    refine TQ.end_panic (L' := L) rfl (.refl _) ?_ selA
    exact ⟨rfl, rfl⟩
  | some q =>
    obtain ⟨m, ts⟩ := q
    rw [hr] at R
    dsimp only
    clear hr
    cases poly with
    | false =>
      rw [show (!false || decide (m = 2)) = true from rfl]
      repeat' (first
    | refine wkQ ?_
    | refine wkV ?_
    | (refine TL.call (Enters.plain (by kernel_rfl) (by rfl)) (by rfl) (R _) ?_; (rintro e g1 Ln hg1 ⟨vs, k1, k2⟩; have k1 := k1.symm; subst k1; dsimp only at k2; (obtain ⟨k4, k5⟩ := k2; subst k4; have h1b := hg1.cell h1; have K5 := k5; obtain ⟨fl, hSl, hpt⟩ := k5; obtain ⟨a5, c5, rfl⟩ := hSl.slice); refine CallK.ret ?_))
    | refine wkM ?_
    | refine wkD (NY _ _) ?_
    | (refine wkA 25 (v := .func (.func 213) #[] ([Value.pointer (some ⟨b2, 0, none⟩), .pointer (some ⟨_, 0, none⟩)] : List Value).toArray) ?_ ?_; · exact Y.make_func rfl)
    | refine stS ?_ | (refine stB ?_; intro _) | (refine stC ?_; constructor <;> intro _))
      rename_i b6
      refine TQ.keep_obj (vs := [.int .i64 m, .slice a5 ts.length c5]) pkA (Nat.le_of_ble_eq_true rfl) fun g2 hg2 hc2 => ?_
      refine TQ.endR2 (L' := L) Tryz.results211 rvA rvA rfl (hg1.trans hg2) ?_ selF
      exact ⟨rfl, _, rfl, AskW.no na rfl⟩
    | true =>
      by_cases hm : m = 2
      · rw [show (!true || decide (m = 2)) = true by rw [decide_eq_true hm]; rfl]
        repeat' (first
    | refine wkQ ?_
    | (refine wkA 21 (v := .bool true) ?_ ?_; · exact Y.eql_b (decide_eq_true hm) rfl rfl)
    | refine wkV ?_
    | (refine TL.call (Enters.plain (by kernel_rfl) (by rfl)) (by rfl) (R _) ?_; (rintro e g1 Ln hg1 ⟨vs, k1, k2⟩; have k1 := k1.symm; subst k1; dsimp only at k2; (obtain ⟨k4, k5⟩ := k2; subst k4; have h1b := hg1.cell h1; have K5 := k5; obtain ⟨fl, hSl, hpt⟩ := k5; obtain ⟨a5, c5, rfl⟩ := hSl.slice); refine CallK.ret ?_))
    | refine wkM ?_
    | refine wkD (NY _ _) ?_
    | (refine wkA 25 (v := .func (.func 213) #[] ([Value.pointer (some ⟨b2, 0, none⟩), .pointer (some ⟨_, 0, none⟩)] : List Value).toArray) ?_ ?_; · exact Y.make_func rfl)
    | refine stS ?_ | (refine stB ?_; intro _) | (refine stC ?_; constructor <;> intro _))
        rename_i b6
        refine TQ.keep_obj (vs := [.int .i64 m, .slice a5 ts.length c5]) pkA (Nat.le_of_ble_eq_true rfl) fun g2 hg2 hc2 => ?_
        refine TQ.endR2 (L' := L) Tryz.results211 rvA rvA rfl (hg1.trans hg2) ?_ selF
        exact ⟨rfl, _, rfl, AskW.no na rfl⟩
      · rw [show (!true || decide (m = 2)) = false by rw [decide_eq_false hm]; rfl]
        repeat' (first
    | refine wkQ ?_
    | (refine wkA 21 (v := .bool false) ?_ ?_; · exact Y.eql_b (decide_eq_false hm) rfl rfl)
    | refine wkV ?_
    | (refine TL.call (Enters.plain (by kernel_rfl) (by rfl)) (by rfl) (R _) ?_; (rintro e g1 Ln hg1 ⟨vs, k1, k2⟩; have k1 := k1.symm; subst k1; dsimp only at k2; (obtain ⟨k4, k5⟩ := k2; subst k4; have h1b := hg1.cell h1; obtain ⟨fl, hSl, hpt⟩ := k5; obtain ⟨a5, c5, rfl⟩ := hSl.slice); refine CallK.ret ?_))
    | refine wkM ?_
    | refine TL.throws (Enters.plain (by kernel_rfl) (by rfl)) (NO _ _) (by rfl) ?_
    | refine stS ?_ | (refine stB ?_; intro _) | (refine stC ?_; constructor <;> intro _))
        refine TQ.less hg1 ?_
        refine TQ.end_panic (L' := L) rfl (.refl _) ?_ selA
        exact ⟨rfl, rfl⟩
theorem shaped_does (n : List UInt8) (sf : Value) (poly : Bool) (g : Gh) (L : List Ent) (ou : sf.one = true) (hT : GTabs g) (hU : GU8 g)
    (n1 : ∀ x, condB n x = (match readX x with | some (k, _) => !poly || decide (k = 2) | none => false)) (n2 : ∀ x, orB n x = false) (na : askable n = false) :
    Does Tryz.prog 171 #[.bool poly, sf] g L (fun e g' L' => ∃ f, e = .returned f ∧ L' = L ∧ MakeOk g' f n) := by
  refine Does.of2 Tryz.func171 rfl Tryz.ntmps171 rfl ?_
  have ob : (Value.bool poly).one = true := rfl
  repeat' (first
    | refine wkQ ?_
    | ((with_reducible apply TL.box_keep (d := 2)); (· rfl); (· exact cells_one ob); (· rfl); (· exact Nat.le_of_ble_eq_true rfl); intro b1 g1 h1 hc1)
    | ((with_reducible apply TL.box_keep (d := 3)); (· rfl); (· exact cells_one ou); (· rfl); (· exact Nat.le_of_ble_eq_true rfl); intro b2 g2 h2 hc2)
    | (refine wkA 5 (v := .func (.func 211) #[] ([Value.pointer (some ⟨_, 0, none⟩), .pointer (some ⟨_, 0, none⟩)] : List Value).toArray) ?_ ?_; · exact Y.make_func rfl)
    | refine wkV ?_
    | refine stS ?_ | (refine stB ?_; intro _) | (refine stC ?_; constructor <;> intro _))
  refine TQ.endR1 (L' := L) Tryz.results171 rvA rfl (h1.trans h2) ?_ selF
  exact ⟨_, rfl, rfl, ⟨211, [.pointer (some ⟨b1, 0, none⟩), .pointer (some ⟨b2, 0, none⟩)], rfl, by kernel_rfl, fun g3 hg3 x v L hx sx => shapedOne_does n sf poly x v b1 b2 g3 L hx sx ((h2.trans hg3).cell (hc1 0 _ rfl)) (hg3.cell (hc2 0 _ rfl)) (hT.le (h1.trans (h2.trans hg3))) (hU.le (h1.trans (h2.trans hg3))) (n1 x) (n2 x) na⟩⟩
end Go.Proofs.YtgollffmdpejiaaGreatDoor
