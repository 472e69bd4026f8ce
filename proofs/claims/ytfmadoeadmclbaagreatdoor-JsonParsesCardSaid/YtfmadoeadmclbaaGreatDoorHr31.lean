/-
  The walk of the JSON reader's object.
-/
import Derived.Test.YtfmadoeadmclbaaGreatDoorHr2
import Derived.Test.YtfmadoeadmclbaaGreatDoorHr30
import Derived.Test.YtfmadoeadmclbaaGreatDoorHr9
import Derived.Test.YtfmadoeadmclbaaGreatDoorHr1
namespace Go.Proofs.YtfmadoeadmclbaaGreatDoor
open Go.RowKit Go.TL
set_option maxRecDepth 100000

theorem IsMs.lies {g : Gh} {ns : List (List UInt8)} {xs : List J} {fl : List Value} (h : IsMs g ns xs fl) : Mem ns xs.length fl := fun i hi => by
  obtain ⟨x, hx⟩ : ∃ x, xs[i]? = some x := ⟨_, List.getElem?_eq_getElem hi⟩
  obtain ⟨s, v, h1, h2, h3, _⟩ := h.get hx
  exact ⟨s, v, h1, h2, h3⟩
structure ObS where
  i : Nat
  ns : List (List UInt8)
  xs : List J
  fl : List Value
  v : Value
  n : Nat
  g : Gh
def obOut (ns : List (List UInt8)) (xs : List J) : Except Nat ((List (List UInt8) × List J) × List UInt8) → Except Nat (J × List UInt8)
  | .error e => .error e
  | .ok ((ms, ys), r) => .ok (.obj (ns ++ ms) (xs ++ ys), r)
theorem mbrW_eq (f : List UInt8 → Except Nat (J × List UInt8)) (s : List UInt8) : mbrW f s = if (blL s).head? = some 125 then .ok (.obj [] [], (blL s).drop 1) else obOut [] [] (mbrP f ((blL s).length + 1) [] (blL s)) := by
  unfold mbrW
  split
  · rfl
  · cases mbrP f ((blL s).length + 1) [] (blL s) <;> rfl
structure ObI (f : List UInt8 → Except Nat (J × List UInt8)) (s : List UInt8) (g0 : Gh) (R : Except Nat (J × List UInt8)) (x : ObS) : Prop where
  le : x.i ≤ s.length
  gl : g0.le x.g
  ms : IsMs x.g x.ns x.xs x.fl
  ln : x.xs.length ≤ x.i ∧ x.fl.length = x.xs.length * 2
  fu : s.length - x.i < x.n
  re : obOut x.ns x.xs (mbrP f x.n x.ns (s.drop x.i)) = R
set_option maxHeartbeats 64000000 in
theorem jobject_does (d b : Nat) (_hd : d ≤ 32) (s : List UInt8) (V : ValOk d b s) (i0 : Nat) (hi0 : i0 ≤ s.length) (hs : s.length ≤ 1000000) (g : Gh) (L : List Ent) (hU : GU8 g) : Does Tryz.prog 46 #[.pointer (some ⟨b, 0, none⟩), .int .i64 ((32 - d : Nat) : Int)] g (RdJ b s i0 :: L) (RdR (mbrW (valT d) (s.drop i0)) b s L) := by
  refine Does.of2 Tryz.func46 rfl Tryz.ntmps46 rfl ?_
  have B0 := fun L => jblanks_turns b s i0 g L hi0 hs
  have hbd := blAt_bd s i0 hi0
  have hbl := blAt_drop s i0
  rw [mbrW_eq, ← hbl]
  by_cases h93 : s[blAt s i0]? = some 125
  · have hh : (s.drop (blAt s i0)).head? = some 125 := by rw [drop_of_get h93]; rfl
    rw [if_pos hh]
    have T0 := fun L => jtake_yes b s (blAt s i0) 125 g L h93 hs
    have hq := (List.getElem?_eq_some_iff.1 h93).1
    have HD := Hn.mk (show s.drop (blAt s i0 + 1) = (s.drop (blAt s i0)).drop 1 from (List.drop_drop ..).symm)
    clear hbl hh
    repeat' (first
    | refine wkQ ?_
    | refine wkV ?_
    | (refine TL.build_empty (by rfl) (fun bb => ?_); refine TL.obj_row (e := 70) (b := bb) (k := 0) (sz := 2) .here rfl (by decide) ?_)
    | apply TL.turns (Enters.plain (by kernel_rfl) (by rfl)) (B0 _) permF (by rfl)
    | apply TL.turns (Enters.plain (by kernel_rfl) (by rfl)) (T0 _) permF (by rfl)
    | refine stS ?_ | (refine stB ?_; intro _) | (refine stC ?_; refine And.intro (fun _ => ?_) (fun _ => ?_)))
    refine TQ.freeze (v := .slice (some ⟨bb, 0, none⟩) 0 0) pkA ?_
    intro g' hg' hsl
    refine TQ.endR1 (L' := (RdJ b s (blAt s i0 + 1) :: L)) Tryz.results46 rvA rfl (hg') ?_ selF
    refine ⟨_, _, rfl, rfl, by omega, HD.out, ?_⟩
    rw [IsJ]
    exact ⟨_, [], rfl, hsl, by rw [IsMs]⟩
  · have hh : ¬ (s.drop (blAt s i0)).head? = some 125 := fun e => by
      cases hq : s.drop (blAt s i0) with
      | nil => rw [hq] at e; cases e
      | cons c t =>
        rw [hq] at e
        obtain rfl := Option.some.inj e
        exact h93 (at_of_drop hq).1
    rw [if_neg hh]
    have T0 := fun L => jtake_no b s (blAt s i0) 125 g L h93 hs
    obtain ⟨R, hR⟩ : ∃ R, R = obOut [] [] (mbrP (valT d) ((s.drop (blAt s i0)).length + 1) [] (s.drop (blAt s i0))) := ⟨_, rfl⟩
    rw [← hR]
    clear hh hbl h93
    repeat' (first
    | refine wkQ ?_
    | refine wkV ?_
    | (refine TL.build_empty (by rfl) (fun bb => ?_); refine TL.obj_row (e := 70) (b := bb) (k := 0) (sz := 2) .here rfl (by decide) ?_)
    | apply TL.turns (Enters.plain (by kernel_rfl) (by rfl)) (B0 _) permF (by rfl)
    | refine TL.gives (Enters.plain (by kernel_rfl) (by rfl)) (Gives.perm (T0 _) permF) (by rfl) ?_
    | refine stS ?_ | (refine stB ?_; intro _) | (refine stC ?_; refine And.intro (fun _ => ?_) (fun _ => ?_)))
    refine TC.loop (ObI (valT d) s g R) (fun x => s.length - x.i) (fun x => [(5, x.v), (0, .pointer (some ⟨b, 0, none⟩)), (1, .int .i64 ((32 - d : Nat) : Int))]) (fun x => x.g) (fun x => RdJ b s x.i :: .row 70 2 x.v x.xs.length x.fl :: L) ⟨blAt s i0, [], [], [], .slice (some ⟨bb, 0, none⟩) 0 0, (s.drop (blAt s i0)).length + 1, g⟩ ⟨hbd.2, .refl _, by rw [IsMs], ⟨Nat.zero_le _, rfl⟩, by rw [List.length_drop]; dsimp only; omega, hR.symm⟩ rfl subA selF ?_
    clear hR hbd T0 B0
    rintro ⟨i, ns, xs, fl, v, n, gx⟩ ⟨hi, hgx, hM, ⟨hln, hfl⟩, hfu, hre⟩
    dsimp only at hi hgx hM hln hfl hfu hre ⊢
    have hUx := hU.le hgx
    have hnx := hM.len
    obtain ⟨m, rfl⟩ : ∃ m, n = m + 1 := ⟨n - 1, by omega⟩
    rw [mbrP] at hre
    refine TC.row_slice (v := v) pkA ?_
    rintro ao cap rfl _
    have B0 := fun L => jblanks_turns b s i gx L hi hs
    have hbd := blAt_bd s i hi
    have hbl := blAt_drop s i
    cases hb0 : blL (s.drop i) with
    | nil =>
      rw [hb0] at hre hbl
      dsimp only [obOut] at hre
      obtain rfl : R = .error 11 := hre.symm
      have W34 := fun L => jwant_no b s (blAt s i) 34 gx L (by rw [at_nil hbl]; exact fun e => nomatch e) hs
      clear hre hM
      repeat' (first
    | refine wkQ ?_
    | refine wkV ?_
    | apply TL.turns (Enters.plain (by kernel_rfl) (by rfl)) (B0 _) permF (by rfl)
    | refine TL.throws (Enters.plain (by kernel_rfl) (by rfl)) (Throws.perm (W34 _) permF) (by rfl) ?_
    | refine stS ?_ | (refine stB ?_; intro _) | (refine stC ?_; refine And.intro (fun _ => ?_) (fun _ => ?_)))
      refine TQ.end_panic (L' := L) rfl (hgx) ?_ selF
      exact ⟨rfl, rfl⟩
    | cons q s1 =>
      rw [hb0] at hre hbl
      dsimp only at hre
      obtain ⟨hq0, hq1, hq2⟩ := at_of_drop hbl
      by_cases h34 : q = 34
      case neg =>
        rw [if_neg h34] at hre
        dsimp only [obOut] at hre
        obtain rfl : R = .error 11 := hre.symm
        have W34 := fun L => jwant_no b s (blAt s i) 34 gx L (by rw [hq0]; exact fun e => h34 (Option.some.inj e)) hs
        clear hre hM
        repeat' (first
    | refine wkQ ?_
    | refine wkV ?_
    | apply TL.turns (Enters.plain (by kernel_rfl) (by rfl)) (B0 _) permF (by rfl)
    | refine TL.throws (Enters.plain (by kernel_rfl) (by rfl)) (Throws.perm (W34 _) permF) (by rfl) ?_
    | refine stS ?_ | (refine stB ?_; intro _) | (refine stC ?_; refine And.intro (fun _ => ?_) (fun _ => ?_)))
        refine TQ.end_panic (L' := L) rfl (hgx) ?_ selF
        exact ⟨rfl, rfl⟩
      subst h34
      rw [if_pos rfl] at hre
      have W34 := fun L => jwant_yes b s (blAt s i) 34 gx L hq0 hs
      have TX := fun L => jtext_does b s (blAt s i + 1) hq2 hs gx L hUx
      rw [hq1] at TX
      have hl1 : s1.length + (blAt s i + 1) = s.length := by rw [← hq1, List.length_drop]; omega
      clear hq1 hbl hb0
      cases ht : textL s1 with
      | none =>
        rw [ht] at hre TX
        unfold TextR at TX
        dsimp only [obOut] at hre TX
        obtain rfl : R = .error 11 := hre.symm
        clear hre hM
        repeat' (first
    | refine wkQ ?_
    | refine wkV ?_
    | apply TL.turns (Enters.plain (by kernel_rfl) (by rfl)) (B0 _) permF (by rfl)
    | apply TL.turns (Enters.plain (by kernel_rfl) (by rfl)) (W34 _) permF (by rfl)
    | (refine TL.call (Enters.plain (by kernel_rfl) (by rfl)) (by rfl) (Does.perm (TX _) permF) ?_; (rintro e gu Lu _ ⟨k1, k2, k3⟩; have k2 := k2.symm; subst k1; subst k2; subst k3; refine CallK.panic ?_))
    | refine stS ?_ | (refine stB ?_; intro _) | (refine stC ?_; refine And.intro (fun _ => ?_) (fun _ => ?_)))
        refine TQ.end_panic (L' := L) rfl (hgx) ?_ selF
        exact ⟨rfl, rfl⟩
      | some p =>
        obtain ⟨nm, s2⟩ := p
        have lt := textL_len ht
        rw [ht] at hre TX
        unfold TextR at TX
        dsimp only at hre TX
        have hMem := hM.lies
        have HAS := fun L => Gives.borrow_row (e := 70) (g := gx) (fun g' _ hsl => has_gives ns nm ao xs.length cap fl g' L hnx (by omega) hsl hMem)
        clear hMem ht
        by_cases hin : nm ∈ ns
        · rw [if_pos hin] at hre
          rw [decide_eq_true hin] at HAS
          dsimp only [obOut] at hre
          obtain rfl : R = .error 13 := hre.symm
          have NO := fun L => need_no (b := false) rfl 13 gx L
          clear hre hM
          repeat' (first
    | refine wkQ ?_
    | refine wkV ?_
    | apply TL.turns (Enters.plain (by kernel_rfl) (by rfl)) (B0 _) permF (by rfl)
    | apply TL.turns (Enters.plain (by kernel_rfl) (by rfl)) (W34 _) permF (by rfl)
    | (refine TL.call (Enters.plain (by kernel_rfl) (by rfl)) (by rfl) (Does.perm (TX _) permF) ?_; (rintro e gu Lu _ ⟨it, k1, k2, k3, hit, hrt, hxt⟩; have k2 := k2.symm; subst k1; subst k2; subst k3; skip; refine CallK.ret ?_))
    | refine TL.gives (Enters.plain (by kernel_rfl) (by rfl)) (Gives.perm (HAS _) permF) (by rfl) ?_
    | refine TL.throws (Enters.plain (by kernel_rfl) (by rfl)) (Throws.perm (NO _) permF) (by rfl) ?_
    | refine stS ?_ | (refine stB ?_; intro _) | (refine stC ?_; refine And.intro (fun _ => ?_) (fun _ => ?_)))
          refine TQ.end_panic (L' := L) rfl (hgx) ?_ selF
          exact ⟨rfl, rfl⟩
        · rw [if_neg hin] at hre
          rw [decide_eq_false hin] at HAS
          have YE := fun L => need_yes (b := true) rfl 13 gx L
          have BB := fun iv (h : iv ≤ s.length) g1 L => jblanks_turns b s iv g1 L h hs
          have lb := blL_len s2
          cases hb2 : blL s2 with
          | nil =>
            rw [hb2] at hre
            dsimp only [obOut] at hre
            obtain rfl : R = .error 11 := hre.symm
            have W58 := fun it (h : s[blAt s it]? = none) L => jwant_no b s (blAt s it) 58 gx L (by rw [h]; exact fun e => nomatch e) hs
            clear hre hM
            repeat' (first
    | refine wkQ ?_
    | refine wkV ?_
    | apply TL.turns (Enters.plain (by kernel_rfl) (by rfl)) (B0 _) permF (by rfl)
    | apply TL.turns (Enters.plain (by kernel_rfl) (by rfl)) (W34 _) permF (by rfl)
    | (refine TL.call (Enters.plain (by kernel_rfl) (by rfl)) (by rfl) (Does.perm (TX _) permF) ?_; (rintro e gu Lu _ ⟨it, k1, k2, k3, hit, hrt, hxt⟩; have k2 := k2.symm; subst k1; subst k2; subst k3; have HN := Hn.mk (at_nil ((blAt_drop s it).trans (hrt ▸ hb2))); refine CallK.ret ?_))
    | refine TL.gives (Enters.plain (by kernel_rfl) (by rfl)) (Gives.perm (HAS _) permF) (by rfl) ?_
    | refine TL.gives (Enters.plain (by kernel_rfl) (by rfl)) (Gives.perm (YE _) permF) (by rfl) ?_
    | apply TL.turns (Enters.plain (by kernel_rfl) (by rfl)) (BB it hit _ _) permF (by rfl)
    | refine TL.throws (Enters.plain (by kernel_rfl) (by rfl)) (Throws.perm (W58 it HN.out _) permF) (by rfl) ?_
    | refine stS ?_ | (refine stB ?_; intro _) | (refine stC ?_; refine And.intro (fun _ => ?_) (fun _ => ?_)))
            refine TQ.end_panic (L' := L) rfl (hgx) ?_ selF
            exact ⟨rfl, rfl⟩
          | cons k s3 =>
            rw [hb2] at hre lb
            dsimp only at hre
            rw [List.length_cons] at lb
            by_cases h58 : k = 58
            case neg =>
              rw [if_neg h58] at hre
              dsimp only [obOut] at hre
              obtain rfl : R = .error 11 := hre.symm
              have W58 := fun it (h : s[blAt s it]? = some k) L => jwant_no b s (blAt s it) 58 gx L (by rw [h]; exact fun e => h58 (Option.some.inj e)) hs
              clear hre hM
              repeat' (first
    | refine wkQ ?_
    | refine wkV ?_
    | apply TL.turns (Enters.plain (by kernel_rfl) (by rfl)) (B0 _) permF (by rfl)
    | apply TL.turns (Enters.plain (by kernel_rfl) (by rfl)) (W34 _) permF (by rfl)
    | (refine TL.call (Enters.plain (by kernel_rfl) (by rfl)) (by rfl) (Does.perm (TX _) permF) ?_; (rintro e gu Lu _ ⟨it, k1, k2, k3, hit, hrt, hxt⟩; have k2 := k2.symm; subst k1; subst k2; subst k3; have HN := Hn.mk (at_of_drop ((blAt_drop s it).trans (hrt ▸ hb2))); refine CallK.ret ?_))
    | refine TL.gives (Enters.plain (by kernel_rfl) (by rfl)) (Gives.perm (HAS _) permF) (by rfl) ?_
    | refine TL.gives (Enters.plain (by kernel_rfl) (by rfl)) (Gives.perm (YE _) permF) (by rfl) ?_
    | apply TL.turns (Enters.plain (by kernel_rfl) (by rfl)) (BB it hit _ _) permF (by rfl)
    | refine TL.throws (Enters.plain (by kernel_rfl) (by rfl)) (Throws.perm (W58 it HN.out.1 _) permF) (by rfl) ?_
    | refine stS ?_ | (refine stB ?_; intro _) | (refine stC ?_; refine And.intro (fun _ => ?_) (fun _ => ?_)))
              refine TQ.end_panic (L' := L) rfl (hgx) ?_ selF
              exact ⟨rfl, rfl⟩
            subst h58
            rw [if_pos rfl] at hre
            have W58 := fun it (h : s[blAt s it]? = some 58) L => jwant_yes b s (blAt s it) 58 gx L h hs
            have VV : ∀ j, j ≤ s.length → s.drop j = s3 → ∀ L, Does Tryz.prog 27 #[.pointer (some ⟨b, 0, none⟩), .int .i64 ((32 - d : Nat) : Int)] gx (RdJ b s j :: L) (RdR (valT d s3) b s L) := fun j h e L => e ▸ V j gx L h hUx
            cases hv : valT d s3 with
            | error e =>
              rw [hv] at VV hre
              unfold RdR at VV
              dsimp only [obOut] at VV hre
              obtain rfl : R = .error e := hre.symm
              clear hre hM
              repeat' (first
    | refine wkQ ?_
    | refine wkV ?_
    | apply TL.turns (Enters.plain (by kernel_rfl) (by rfl)) (B0 _) permF (by rfl)
    | apply TL.turns (Enters.plain (by kernel_rfl) (by rfl)) (W34 _) permF (by rfl)
    | (refine TL.call (Enters.plain (by kernel_rfl) (by rfl)) (by rfl) (Does.perm (TX _) permF) ?_; (rintro e gu Lu _ ⟨it, k1, k2, k3, hit, hrt, hxt⟩; have k2 := k2.symm; subst k1; subst k2; subst k3; have HN := Hn.mk (at_of_drop ((blAt_drop s it).trans (hrt ▸ hb2))); refine CallK.ret ?_))
    | refine TL.gives (Enters.plain (by kernel_rfl) (by rfl)) (Gives.perm (HAS _) permF) (by rfl) ?_
    | refine TL.gives (Enters.plain (by kernel_rfl) (by rfl)) (Gives.perm (YE _) permF) (by rfl) ?_
    | apply TL.turns (Enters.plain (by kernel_rfl) (by rfl)) (BB it hit _ _) permF (by rfl)
    | apply TL.turns (Enters.plain (by kernel_rfl) (by rfl)) (W58 it HN.out.1 _) permF (by rfl)
    | (refine TL.call (Enters.plain (by kernel_rfl) (by rfl)) (by rfl) (Does.perm (VV (blAt s it + 1) HN.out.2.2 HN.out.2.1 _) permF) ?_; (rintro e g1 Ln hg1 ⟨k1, k3⟩; subst k1; subst k3; refine CallK.panic ?_))
    | refine stS ?_ | (refine stB ?_; intro _) | (refine stC ?_; refine And.intro (fun _ => ?_) (fun _ => ?_)))
              refine TQ.end_panic (L' := L) rfl (hgx.trans hg1) ?_ selF
              exact ⟨rfl, rfl⟩
            | ok p =>
              obtain ⟨x, r⟩ := p
              have hlen1 := valT_len d _ _ _ hv
              rw [hv] at VV hre
              unfold RdR at VV
              dsimp only at VV hre
              cases hbr : blL r with
              | nil =>
                rw [hbr] at hre
                dsimp only [obOut] at hre
                obtain rfl : R = .error 11 := hre.symm
                have T93 := fun iv (h : s[blAt s iv]? = none) g1 L => jtake_no b s (blAt s iv) 125 g1 L (by rw [h]; exact fun e => nomatch e) hs
                have W44 := fun iv (h : s[blAt s iv]? = none) g1 L => jwant_no b s (blAt s iv) 44 g1 L (by rw [h]; exact fun e => nomatch e) hs
                clear hre hM
                repeat' (first
    | refine wkQ ?_
    | refine wkV ?_
    | apply TL.turns (Enters.plain (by kernel_rfl) (by rfl)) (B0 _) permF (by rfl)
    | apply TL.turns (Enters.plain (by kernel_rfl) (by rfl)) (W34 _) permF (by rfl)
    | (refine TL.call (Enters.plain (by kernel_rfl) (by rfl)) (by rfl) (Does.perm (TX _) permF) ?_; (rintro e gu Lu _ ⟨it, k1, k2, k3, hit, hrt, hxt⟩; have k2 := k2.symm; subst k1; subst k2; subst k3; have HN := Hn.mk (at_of_drop ((blAt_drop s it).trans (hrt ▸ hb2))); refine CallK.ret ?_))
    | refine TL.gives (Enters.plain (by kernel_rfl) (by rfl)) (Gives.perm (HAS _) permF) (by rfl) ?_
    | refine TL.gives (Enters.plain (by kernel_rfl) (by rfl)) (Gives.perm (YE _) permF) (by rfl) ?_
    | apply TL.turns (Enters.plain (by kernel_rfl) (by rfl)) (BB it hit _ _) permF (by rfl)
    | apply TL.turns (Enters.plain (by kernel_rfl) (by rfl)) (W58 it HN.out.1 _) permF (by rfl)
    | (refine TL.call (Enters.plain (by kernel_rfl) (by rfl)) (by rfl) (Does.perm (VV (blAt s it + 1) HN.out.2.2 HN.out.2.1 _) permF) ?_; (rintro e g1 Ln hg1 ⟨vv, iv, k1, k3, hiv, hrv, hjv⟩; subst k1; subst k3; have hov := hjv.one; have HV := Hn.mk (at_nil ((blAt_drop s iv).trans (hrv ▸ hbr))); refine CallK.ret ?_))
    | ((with_reducible apply TL.build_slice); (· rfl); (· rfl); (· exact oneA); (· rfl); (· rfl); (· rfl); intro _) | refine TL.build_one (by rfl) (by first | rfl | assumption) (by rfl) (by rfl) (by rfl) (by rfl) (fun _ => ?_) | refine TL.build_empty (by rfl) (fun _ => ?_)
    | ((with_reducible apply TL.append); (· rfl); (· rfl); (· rfl); (· rfl); (· exact pkA); (· first | exact Src.obj pkA | exact Src.sl (by assumption) | exact Src.row pkA); (· first | rfl | exact (byteVals_length _).trans (Nat.mul_one _).symm); (· first | exact byteVals_all _ | exact oneA); (· exact ⟨by unfold maxLen; omega, by omega⟩); (· rfl); intro _)
    | apply TL.turns (Enters.plain (by kernel_rfl) (by rfl)) (BB iv hiv _ _) permF (by rfl)
    | refine TL.gives (Enters.plain (by kernel_rfl) (by rfl)) (Gives.perm (T93 iv HV.out _ _) permF) (by rfl) ?_
    | refine TL.throws (Enters.plain (by kernel_rfl) (by rfl)) (Throws.perm (W44 iv HV.out _ _) permF) (by rfl) ?_
    | refine stS ?_ | (refine stB ?_; intro _) | (refine stC ?_; refine And.intro (fun _ => ?_) (fun _ => ?_)))
                refine TQ.end_panic (L' := L) rfl (hgx.trans hg1) ?_ selF
                exact ⟨rfl, rfl⟩
              | cons c t =>
                rw [hbr] at hre
                dsimp only at hre
                by_cases h93 : c = 125
                · subst h93
                  rw [if_pos rfl] at hre
                  obtain rfl : R = .ok (.obj (ns ++ [nm]) (xs ++ [x]), t) := hre.symm
                  have T93 := fun iv (h : s[blAt s iv]? = some 125) g1 L => jtake_yes b s (blAt s iv) 125 g1 L h hs
                  clear hre
                  repeat' (first
    | refine wkQ ?_
    | refine wkV ?_
    | apply TL.turns (Enters.plain (by kernel_rfl) (by rfl)) (B0 _) permF (by rfl)
    | apply TL.turns (Enters.plain (by kernel_rfl) (by rfl)) (W34 _) permF (by rfl)
    | (refine TL.call (Enters.plain (by kernel_rfl) (by rfl)) (by rfl) (Does.perm (TX _) permF) ?_; (rintro e gu Lu _ ⟨it, k1, k2, k3, hit, hrt, hxt⟩; have k2 := k2.symm; subst k1; subst k2; subst k3; have HN := Hn.mk (at_of_drop ((blAt_drop s it).trans (hrt ▸ hb2))); refine CallK.ret ?_))
    | refine TL.gives (Enters.plain (by kernel_rfl) (by rfl)) (Gives.perm (HAS _) permF) (by rfl) ?_
    | refine TL.gives (Enters.plain (by kernel_rfl) (by rfl)) (Gives.perm (YE _) permF) (by rfl) ?_
    | apply TL.turns (Enters.plain (by kernel_rfl) (by rfl)) (BB it hit _ _) permF (by rfl)
    | apply TL.turns (Enters.plain (by kernel_rfl) (by rfl)) (W58 it HN.out.1 _) permF (by rfl)
    | (refine TL.call (Enters.plain (by kernel_rfl) (by rfl)) (by rfl) (Does.perm (VV (blAt s it + 1) HN.out.2.2 HN.out.2.1 _) permF) ?_; (rintro e g1 Ln hg1 ⟨vv, iv, k1, k3, hiv, hrv, hjv⟩; subst k1; subst k3; have hov := hjv.one; have HV := Hn.mk (at_of_drop ((blAt_drop s iv).trans (hrv ▸ hbr))); refine CallK.ret ?_))
    | ((with_reducible apply TL.build_slice); (· rfl); (· rfl); (· exact oneA); (· rfl); (· rfl); (· rfl); intro _) | refine TL.build_one (by rfl) (by first | rfl | assumption) (by rfl) (by rfl) (by rfl) (by rfl) (fun _ => ?_) | refine TL.build_empty (by rfl) (fun _ => ?_)
    | ((with_reducible apply TL.append); (· rfl); (· rfl); (· rfl); (· rfl); (· exact pkA); (· first | exact Src.obj pkA | exact Src.sl (by assumption) | exact Src.row pkA); (· first | rfl | exact (byteVals_length _).trans (Nat.mul_one _).symm); (· first | exact byteVals_all _ | exact oneA); (· exact ⟨by unfold maxLen; omega, by omega⟩); (· rfl); intro _)
    | apply TL.turns (Enters.plain (by kernel_rfl) (by rfl)) (BB iv hiv _ _) permF (by rfl)
    | apply TL.turns (Enters.plain (by kernel_rfl) (by rfl)) (T93 iv HV.out.1 _ _) permF (by rfl)
    | refine stS ?_ | (refine stB ?_; intro _) | (refine stC ?_; refine And.intro (fun _ => ?_) (fun _ => ?_)))
                  rename_i vf
                  refine TQ.freeze (v := vf) pkA ?_
                  intro g' hg' hsl
                  refine TQ.endR1 (L' := (RdJ b s (blAt s iv + 1) :: L)) Tryz.results46 rvA rfl ((hgx.trans hg1).trans hg') ?_ selF
                  have hl := HV.out.2.2
                  refine ⟨_, _, rfl, rfl, by omega, HV.out.2.1, ?_⟩
                  rw [IsJ]
                  refine ⟨_, fl ++ [str nm, vv], rfl, ?_, IsMs.le hg' _ _ _ ((IsMs.le hg1 _ _ _ hM).snoc hjv)⟩
                  rw [List.length_append, List.length_singleton]
                  exact hsl
                · rw [if_neg h93] at hre
                  have T93 := fun iv (h : s[blAt s iv]? = some c) g1 L => jtake_no b s (blAt s iv) 125 g1 L (by rw [h]; exact fun e => h93 (Option.some.inj e)) hs
                  by_cases h44 : c = 44
                  · subst h44
                    rw [if_pos rfl] at hre
                    have hre2 : obOut (ns ++ [nm]) (xs ++ [x]) (mbrP (valT d) m (ns ++ [nm]) t) = R := by
                      rw [← hre]
                      cases mbrP (valT d) m (ns ++ [nm]) t with
                      | error e => rfl
                      | ok p => show Except.ok (J.obj _ _, _) = Except.ok (J.obj _ _, _); rw [List.append_assoc, List.append_assoc]; rfl
                    clear hre
                    have W44 := fun iv (h : s[blAt s iv]? = some 44) g1 L => jwant_yes b s (blAt s iv) 44 g1 L h hs
                    repeat' (first
    | refine wkQ ?_
    | refine wkV ?_
    | apply TL.turns (Enters.plain (by kernel_rfl) (by rfl)) (B0 _) permF (by rfl)
    | apply TL.turns (Enters.plain (by kernel_rfl) (by rfl)) (W34 _) permF (by rfl)
    | (refine TL.call (Enters.plain (by kernel_rfl) (by rfl)) (by rfl) (Does.perm (TX _) permF) ?_; (rintro e gu Lu _ ⟨it, k1, k2, k3, hit, hrt, hxt⟩; have k2 := k2.symm; subst k1; subst k2; subst k3; have HN := Hn.mk (at_of_drop ((blAt_drop s it).trans (hrt ▸ hb2))); refine CallK.ret ?_))
    | refine TL.gives (Enters.plain (by kernel_rfl) (by rfl)) (Gives.perm (HAS _) permF) (by rfl) ?_
    | refine TL.gives (Enters.plain (by kernel_rfl) (by rfl)) (Gives.perm (YE _) permF) (by rfl) ?_
    | apply TL.turns (Enters.plain (by kernel_rfl) (by rfl)) (BB it hit _ _) permF (by rfl)
    | apply TL.turns (Enters.plain (by kernel_rfl) (by rfl)) (W58 it HN.out.1 _) permF (by rfl)
    | (refine TL.call (Enters.plain (by kernel_rfl) (by rfl)) (by rfl) (Does.perm (VV (blAt s it + 1) HN.out.2.2 HN.out.2.1 _) permF) ?_; (rintro e g1 Ln hg1 ⟨vv, iv, k1, k3, hiv, hrv, hjv⟩; subst k1; subst k3; have hov := hjv.one; have HV := Hn.mk (at_of_drop ((blAt_drop s iv).trans (hrv ▸ hbr))); refine CallK.ret ?_))
    | ((with_reducible apply TL.build_slice); (· rfl); (· rfl); (· exact oneA); (· rfl); (· rfl); (· rfl); intro _) | refine TL.build_one (by rfl) (by first | rfl | assumption) (by rfl) (by rfl) (by rfl) (by rfl) (fun _ => ?_) | refine TL.build_empty (by rfl) (fun _ => ?_)
    | ((with_reducible apply TL.append); (· rfl); (· rfl); (· rfl); (· rfl); (· exact pkA); (· first | exact Src.obj pkA | exact Src.sl (by assumption) | exact Src.row pkA); (· first | rfl | exact (byteVals_length _).trans (Nat.mul_one _).symm); (· first | exact byteVals_all _ | exact oneA); (· exact ⟨by unfold maxLen; omega, by omega⟩); (· rfl); intro _)
    | apply TL.turns (Enters.plain (by kernel_rfl) (by rfl)) (BB iv hiv _ _) permF (by rfl)
    | refine TL.gives (Enters.plain (by kernel_rfl) (by rfl)) (Gives.perm (T93 iv HV.out.1 _ _) permF) (by rfl) ?_
    | apply TL.turns (Enters.plain (by kernel_rfl) (by rfl)) (W44 iv HV.out.1 _ _) permF (by rfl)
    | refine stS ?_ | (refine stB ?_; intro _) | (refine stC ?_; refine And.intro (fun _ => ?_) (fun _ => ?_)))
                    rename_i vf
                    have hlen : xs.length + 1 = (xs ++ [x]).length := by rw [List.length_append, List.length_singleton]
                    rw [hlen]
                    have hb := blAt_bd s iv hiv
                    have hl := HV.out.2.2
                    rw [← hrv, List.length_drop] at hlen1
                    refine TQ.round ⟨blAt s iv + 1, ns ++ [nm], xs ++ [x], fl ++ [str nm, vv], vf, m, g1⟩ ?_ ?_ rfl subA selF
                    · refine ⟨by dsimp only; omega, hgx.trans hg1, (IsMs.le hg1 _ _ _ hM).snoc hjv, ⟨?_, ?_⟩, ?_, ?_⟩
                      · dsimp only; rw [← hlen]; omega
                      · dsimp only; rw [← hlen, List.length_append, hfl]; show _ + 2 = _; omega
                      · dsimp only; omega
                      · dsimp only; rw [HV.out.2.1]; exact hre2
                    · dsimp only; omega
                  · rw [if_neg h44] at hre
                    dsimp only [obOut] at hre
                    obtain rfl : R = .error 11 := hre.symm
                    have W44 := fun iv (h : s[blAt s iv]? = some c) g1 L => jwant_no b s (blAt s iv) 44 g1 L (by rw [h]; exact fun e => h44 (Option.some.inj e)) hs
                    clear hre hM
                    repeat' (first
    | refine wkQ ?_
    | refine wkV ?_
    | apply TL.turns (Enters.plain (by kernel_rfl) (by rfl)) (B0 _) permF (by rfl)
    | apply TL.turns (Enters.plain (by kernel_rfl) (by rfl)) (W34 _) permF (by rfl)
    | (refine TL.call (Enters.plain (by kernel_rfl) (by rfl)) (by rfl) (Does.perm (TX _) permF) ?_; (rintro e gu Lu _ ⟨it, k1, k2, k3, hit, hrt, hxt⟩; have k2 := k2.symm; subst k1; subst k2; subst k3; have HN := Hn.mk (at_of_drop ((blAt_drop s it).trans (hrt ▸ hb2))); refine CallK.ret ?_))
    | refine TL.gives (Enters.plain (by kernel_rfl) (by rfl)) (Gives.perm (HAS _) permF) (by rfl) ?_
    | refine TL.gives (Enters.plain (by kernel_rfl) (by rfl)) (Gives.perm (YE _) permF) (by rfl) ?_
    | apply TL.turns (Enters.plain (by kernel_rfl) (by rfl)) (BB it hit _ _) permF (by rfl)
    | apply TL.turns (Enters.plain (by kernel_rfl) (by rfl)) (W58 it HN.out.1 _) permF (by rfl)
    | (refine TL.call (Enters.plain (by kernel_rfl) (by rfl)) (by rfl) (Does.perm (VV (blAt s it + 1) HN.out.2.2 HN.out.2.1 _) permF) ?_; (rintro e g1 Ln hg1 ⟨vv, iv, k1, k3, hiv, hrv, hjv⟩; subst k1; subst k3; have hov := hjv.one; have HV := Hn.mk (at_of_drop ((blAt_drop s iv).trans (hrv ▸ hbr))); refine CallK.ret ?_))
    | ((with_reducible apply TL.build_slice); (· rfl); (· rfl); (· exact oneA); (· rfl); (· rfl); (· rfl); intro _) | refine TL.build_one (by rfl) (by first | rfl | assumption) (by rfl) (by rfl) (by rfl) (by rfl) (fun _ => ?_) | refine TL.build_empty (by rfl) (fun _ => ?_)
    | ((with_reducible apply TL.append); (· rfl); (· rfl); (· rfl); (· rfl); (· exact pkA); (· first | exact Src.obj pkA | exact Src.sl (by assumption) | exact Src.row pkA); (· first | rfl | exact (byteVals_length _).trans (Nat.mul_one _).symm); (· first | exact byteVals_all _ | exact oneA); (· exact ⟨by unfold maxLen; omega, by omega⟩); (· rfl); intro _)
    | apply TL.turns (Enters.plain (by kernel_rfl) (by rfl)) (BB iv hiv _ _) permF (by rfl)
    | refine TL.gives (Enters.plain (by kernel_rfl) (by rfl)) (Gives.perm (T93 iv HV.out.1 _ _) permF) (by rfl) ?_
    | refine TL.throws (Enters.plain (by kernel_rfl) (by rfl)) (Throws.perm (W44 iv HV.out.1 _ _) permF) (by rfl) ?_
    | refine stS ?_ | (refine stB ?_; intro _) | (refine stC ?_; refine And.intro (fun _ => ?_) (fun _ => ?_)))
                    refine TQ.end_panic (L' := L) rfl (hgx.trans hg1) ?_ selF
                    exact ⟨rfl, rfl⟩
end Go.Proofs.YtfmadoeadmclbaaGreatDoor
