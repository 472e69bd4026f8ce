/-
  JSON texts as data: a value's rest is no longer than what it was read from. The walk of the JSON reader's list.
-/
import Derived.Test.YtfmadoeadmclbaaGreatDoorHr11
import Derived.Test.YtfmadoeadmclbaaGreatDoorHr2
import Derived.Test.YtfmadoeadmclbaaGreatDoorHr24
namespace Go.Proofs.YtfmadoeadmclbaaGreatDoor
open Go.RowKit Go.TL
def LenOk (f : List UInt8 → Except Nat (J × List UInt8)) : Prop := ∀ s x r, f s = .ok (x, r) → r.length ≤ s.length
theorem lstP_len {f : List UInt8 → Except Nat (J × List UInt8)} (hf : LenOk f) : ∀ (n : Nat) (s : List UInt8) (xs : List J) (r : List UInt8), lstP f n s = .ok (xs, r) → r.length ≤ s.length
  | 0, s, xs, r, h => by rw [lstP] at h; cases h
  | n + 1, s, xs, r, h => by
    rw [lstP] at h
    cases h1 : f s with
    | error e => rw [h1] at h; cases h
    | ok p =>
      obtain ⟨x, u⟩ := p
      have l1 := hf _ _ _ h1
      have l2 := blL_len u
      rw [h1] at h
      dsimp only at h
      cases h2 : blL u with
      | nil => rw [h2] at h; cases h
      | cons c t =>
        rw [h2] at h l2
        dsimp only at h
        rw [List.length_cons] at l2
        split at h
        · injection h with h; injection h with h3 h4; subst h4; omega
        · split at h
          · cases h5 : lstP f n t with
            | error e => rw [h5] at h; cases h
            | ok p =>
              obtain ⟨ys, w⟩ := p
              have l3 := lstP_len hf n _ _ _ h5
              rw [h5] at h
              injection h with h; injection h with h3 h4; subst h4; omega
          · cases h
theorem mbrP_len {f : List UInt8 → Except Nat (J × List UInt8)} (hf : LenOk f) : ∀ (n : Nat) (seen : List (List UInt8)) (s : List UInt8) (p : List (List UInt8) × List J) (r : List UInt8), mbrP f n seen s = .ok (p, r) → r.length ≤ s.length
  | 0, _, s, xs, r, h => by rw [mbrP] at h; cases h
  | n + 1, seen, s, xs, r, h => by
    rw [mbrP] at h
    have l0 := blL_len s
    cases h0 : blL s with
    | nil => rw [h0] at h; cases h
    | cons q s1 =>
      rw [h0] at h l0
      dsimp only at h
      rw [List.length_cons] at l0
      split at h
      · cases ht : textL s1 with
        | none => rw [ht] at h; cases h
        | some p =>
          obtain ⟨nm, s2⟩ := p
          have lt := textL_len ht
          rw [ht] at h
          dsimp only at h
          split at h
          · cases h
          · have lb := blL_len s2
            cases hb : blL s2 with
            | nil => rw [hb] at h; cases h
            | cons k s3 =>
              rw [hb] at h lb
              dsimp only at h
              rw [List.length_cons] at lb
              split at h
              · cases h1 : f s3 with
                | error e => rw [h1] at h; cases h
                | ok p =>
                  obtain ⟨x, u⟩ := p
                  have l1 := hf _ _ _ h1
                  have l2 := blL_len u
                  rw [h1] at h
                  dsimp only at h
                  cases h2 : blL u with
                  | nil => rw [h2] at h; cases h
                  | cons c t =>
                    rw [h2] at h l2
                    dsimp only at h
                    rw [List.length_cons] at l2
                    split at h
                    · injection h with h; injection h with h3 h4; subst h4; omega
                    · split at h
                      · cases h5 : mbrP f n (seen ++ [nm]) t with
                        | error e => rw [h5] at h; cases h
                        | ok p =>
                          obtain ⟨⟨ns, ys⟩, w⟩ := p
                          have l3 := mbrP_len hf n _ _ _ _ h5
                          rw [h5] at h
                          injection h with h; injection h with h3 h4; subst h4; omega
                      · cases h
              · cases h
      · cases h
theorem wordW_len {w : List UInt8} {j : J} {s : List UInt8} {x : J} {r : List UInt8} (h : wordW w j s = .ok (x, r)) : r.length ≤ s.length := by
  unfold wordW at h
  split at h
  · injection h with h; injection h with h3 h4; subst h4; rw [List.length_drop]; omega
  · cases h
theorem numW_len {s : List UInt8} {x : J} {r : List UInt8} (h : numW s = .ok (x, r)) : r.length ≤ s.length := by
  unfold numW at h
  split at h
  · cases h
  · split at h
    · injection h with h; injection h with h3 h4; subst h4; rw [List.length_drop]; omega
    · cases h
theorem valW_len {l o : List UInt8 → Except Nat (J × List UInt8)} (hl : LenOk l) (ho : LenOk o) : LenOk (valW l o) := by
  intro s x r h
  unfold valW at h
  have l0 := blL_len s
  cases h0 : blL s with
  | nil => rw [h0] at h; cases h
  | cons c t =>
    rw [h0] at h l0
    dsimp only at h
    split at h
    · exact Nat.le_trans (wordW_len h) l0
    · split at h
      · exact Nat.le_trans (wordW_len h) l0
      · split at h
        · exact Nat.le_trans (wordW_len h) l0
        · split at h
          · cases ht : textL t with
            | none => rw [ht] at h; cases h
            | some p =>
              obtain ⟨y, u⟩ := p
              have lt := textL_len ht
              rw [ht] at h
              rw [List.length_cons] at l0
              injection h with h; injection h with h3 h4; subst h4; omega
          · rw [List.length_cons] at l0
            split at h
            · have := hl _ _ _ h; omega
            · split at h
              · have := ho _ _ _ h; omega
              · have := numW_len h; rw [List.length_cons] at this; omega
theorem lstW_len {f : List UInt8 → Except Nat (J × List UInt8)} (hf : LenOk f) : LenOk (lstW f) := by
  intro s x r h
  unfold lstW at h
  have l0 := blL_len s
  split at h
  · injection h with h; injection h with h3 h4; subst h4; rw [List.length_drop]; omega
  · cases h5 : lstP f ((blL s).length + 1) (blL s) with
    | error e => rw [h5] at h; cases h
    | ok p =>
      obtain ⟨ys, w⟩ := p
      have l3 := lstP_len hf _ _ _ _ h5
      rw [h5] at h
      injection h with h; injection h with h3 h4; subst h4; omega
theorem mbrW_len {f : List UInt8 → Except Nat (J × List UInt8)} (hf : LenOk f) : LenOk (mbrW f) := by
  intro s x r h
  unfold mbrW at h
  have l0 := blL_len s
  split at h
  · injection h with h; injection h with h3 h4; subst h4; rw [List.length_drop]; omega
  · cases h5 : mbrP f ((blL s).length + 1) [] (blL s) with
    | error e => rw [h5] at h; cases h
    | ok p =>
      obtain ⟨⟨ns, ys⟩, w⟩ := p
      have l3 := mbrP_len hf _ _ _ _ _ h5
      rw [h5] at h
      injection h with h; injection h with h3 h4; subst h4; omega
theorem valT_len : ∀ d, LenOk (valT d)
  | 0 => fun s x r h => valW_len (l := fun _ => .error 10) (o := fun _ => .error 10) (fun _ _ _ h => by cases h) (fun _ _ _ h => by cases h) s x r (by rw [valT] at h; exact h)
  | d + 1 => fun s x r h => valW_len (lstW_len (valT_len d)) (mbrW_len (valT_len d)) s x r (by rw [valT] at h; exact h)
end Go.Proofs.YtfmadoeadmclbaaGreatDoor
namespace Go.Proofs.YtfmadoeadmclbaaGreatDoor
open Go.RowKit Go.TL
set_option maxRecDepth 100000

theorem at_of_drop {s t : List UInt8} {q : Nat} {c : UInt8} (h : s.drop q = c :: t) : s[q]? = some c ∧ s.drop (q + 1) = t ∧ q < s.length := by
  have hl : q < s.length := by
    by_cases hq : q < s.length
    · exact hq
    · rw [List.drop_eq_nil_of_le (by omega)] at h; cases h
  obtain ⟨d, hd⟩ : ∃ d, s[q]? = some d := ⟨_, List.getElem?_eq_getElem hl⟩
  rw [drop_of_get hd] at h
  obtain ⟨rfl, h2⟩ := List.cons.inj h
  exact ⟨hd, h2, hl⟩
theorem at_nil {s : List UInt8} {q : Nat} (h : s.drop q = []) : s[q]? = none := by
  rw [List.getElem?_eq_none]
  have := congrArg List.length h
  rw [List.length_drop, List.length_nil] at this
  omega
def ValOk (d b : Nat) (s : List UInt8) : Prop := ∀ (i : Nat) (g : Gh) (L : List Ent), i ≤ s.length → GU8 g → Does Tryz.prog 27 #[.pointer (some ⟨b, 0, none⟩), .int .i64 ((32 - d : Nat) : Int)] g (RdJ b s i :: L) (RdR (valT d (s.drop i)) b s L)
structure LsS where
  i : Nat
  xs : List J
  fl : List Value
  v : Value
  n : Nat
  g : Gh
def lsOut (xs : List J) : Except Nat (List J × List UInt8) → Except Nat (J × List UInt8)
  | .error e => .error e
  | .ok (ys, r) => .ok (.list (xs ++ ys), r)
theorem lstW_eq (f : List UInt8 → Except Nat (J × List UInt8)) (s : List UInt8) : lstW f s = if (blL s).head? = some 93 then .ok (.list [], (blL s).drop 1) else lsOut [] (lstP f ((blL s).length + 1) (blL s)) := by
  unfold lstW
  split
  · rfl
  · cases lstP f ((blL s).length + 1) (blL s) <;> rfl
structure LsI (f : List UInt8 → Except Nat (J × List UInt8)) (s : List UInt8) (g0 : Gh) (R : Except Nat (J × List UInt8)) (x : LsS) : Prop where
  le : x.i ≤ s.length
  gl : g0.le x.g
  js : IsJs x.g x.xs x.fl
  ln : x.xs.length ≤ x.i ∧ x.xs.length = x.fl.length
  fu : s.length - x.i < x.n
  re : lsOut x.xs (lstP f x.n (s.drop x.i)) = R
set_option maxHeartbeats 32000000 in
theorem jlist_does (d b : Nat) (_hd : d ≤ 32) (s : List UInt8) (V : ValOk d b s) (i0 : Nat) (hi0 : i0 ≤ s.length) (hs : s.length ≤ 1000000) (g : Gh) (L : List Ent) (hU : GU8 g) : Does Tryz.prog 45 #[.pointer (some ⟨b, 0, none⟩), .int .i64 ((32 - d : Nat) : Int)] g (RdJ b s i0 :: L) (RdR (lstW (valT d) (s.drop i0)) b s L) := by
  refine Does.of2 Tryz.func45 rfl Tryz.ntmps45 rfl ?_
  have B0 := fun L => jblanks_turns b s i0 g L hi0 hs
  have hbd := blAt_bd s i0 hi0
  have hbl := blAt_drop s i0
  rw [lstW_eq, ← hbl]
  by_cases h93 : s[blAt s i0]? = some 93
  · have hh : (s.drop (blAt s i0)).head? = some 93 := by rw [drop_of_get h93]; rfl
    rw [if_pos hh]
    have T0 := fun L => jtake_yes b s (blAt s i0) 93 g L h93 hs
    have hq := (List.getElem?_eq_some_iff.1 h93).1
    have HD := Hn.mk (show s.drop (blAt s i0 + 1) = (s.drop (blAt s i0)).drop 1 from (List.drop_drop ..).symm)
    clear hbl hh
    repeat' (first
    | refine wkQ ?_
    | refine wkV ?_
    | (refine TL.build_empty (by rfl) (fun bb => ?_); refine TL.obj_row (e := 20) (b := bb) (k := 0) (sz := 1) .here rfl (by decide) ?_)
    | apply TL.turns (Enters.plain (by kernel_rfl) (by rfl)) (B0 _) permF (by rfl)
    | apply TL.turns (Enters.plain (by kernel_rfl) (by rfl)) (T0 _) permF (by rfl)
    | refine stS ?_ | (refine stB ?_; intro _) | (refine stC ?_; refine And.intro (fun _ => ?_) (fun _ => ?_)))
    refine TQ.freeze (v := .slice (some ⟨bb, 0, none⟩) 0 0) pkA ?_
    intro g' hg' hsl
    refine TQ.endR1 (L' := (RdJ b s (blAt s i0 + 1) :: L)) Tryz.results45 rvA rfl (hg') ?_ selF
    refine ⟨_, _, rfl, rfl, by omega, HD.out, ?_⟩
    rw [IsJ]
    exact ⟨_, [], rfl, hsl, by rw [IsJs]⟩
  · have hh : ¬ (s.drop (blAt s i0)).head? = some 93 := fun e => by
      cases hq : s.drop (blAt s i0) with
      | nil => rw [hq] at e; cases e
      | cons c t =>
        rw [hq] at e
        obtain rfl := Option.some.inj e
        exact h93 (at_of_drop hq).1
    rw [if_neg hh]
    have T0 := fun L => jtake_no b s (blAt s i0) 93 g L h93 hs
    obtain ⟨R, hR⟩ : ∃ R, R = lsOut [] (lstP (valT d) ((s.drop (blAt s i0)).length + 1) (s.drop (blAt s i0))) := ⟨_, rfl⟩
    rw [← hR]
    clear hh hbl h93
    repeat' (first
    | refine wkQ ?_
    | refine wkV ?_
    | (refine TL.build_empty (by rfl) (fun bb => ?_); refine TL.obj_row (e := 20) (b := bb) (k := 0) (sz := 1) .here rfl (by decide) ?_)
    | apply TL.turns (Enters.plain (by kernel_rfl) (by rfl)) (B0 _) permF (by rfl)
    | refine TL.gives (Enters.plain (by kernel_rfl) (by rfl)) (Gives.perm (T0 _) permF) (by rfl) ?_
    | refine stS ?_ | (refine stB ?_; intro _) | (refine stC ?_; refine And.intro (fun _ => ?_) (fun _ => ?_)))
    refine TC.loop (LsI (valT d) s g R) (fun x => s.length - x.i) (fun x => [(5, x.v), (0, .pointer (some ⟨b, 0, none⟩)), (1, .int .i64 ((32 - d : Nat) : Int))]) (fun x => x.g) (fun x => RdJ b s x.i :: .row 20 1 x.v x.xs.length x.fl :: L) ⟨blAt s i0, [], [], .slice (some ⟨bb, 0, none⟩) 0 0, (s.drop (blAt s i0)).length + 1, g⟩ ⟨hbd.2, .refl _, by rw [IsJs], ⟨Nat.zero_le _, rfl⟩, by rw [List.length_drop]; dsimp only; omega, hR.symm⟩ rfl subA selF ?_
    clear hR hbd T0 B0
    rintro ⟨i, xs, fl, v, n, gx⟩ ⟨hi, hgx, hJ, ⟨hln, hfl⟩, hfu, hre⟩
    dsimp only at hi hgx hJ hln hfl hfu hre ⊢
    have hUx := hU.le hgx
    have VV := fun L => V i gx L hi hUx
    obtain ⟨m, rfl⟩ : ∃ m, n = m + 1 := ⟨n - 1, by omega⟩
    rw [lstP] at hre
    cases hv : valT d (s.drop i) with
    | error k =>
      rw [hv] at VV hre
      unfold RdR at VV
      dsimp only at VV hre
      obtain rfl : R = .error k := hre.symm
      clear hre hJ
      repeat' (first
    | refine wkQ ?_
    | refine wkV ?_
    | (refine TL.call (Enters.plain (by kernel_rfl) (by rfl)) (by rfl) (Does.perm (VV _) permF) ?_; (rintro e g1 Ln hg1 ⟨k1, k3⟩; subst k1; subst k3; refine CallK.panic ?_))
    | refine stS ?_ | (refine stB ?_; intro _) | (refine stC ?_; refine And.intro (fun _ => ?_) (fun _ => ?_)))
      refine TQ.end_panic (L' := L) rfl (hgx.trans hg1) ?_ selF
      exact ⟨rfl, rfl⟩
    | ok p =>
      obtain ⟨x, r⟩ := p
      rw [hv] at VV hre
      unfold RdR at VV
      dsimp only at VV hre
      have hlen1 := valT_len d _ _ _ hv
      rw [List.length_drop] at hlen1
      have BB := fun iv (h : iv ≤ s.length) g1 L => jblanks_turns b s iv g1 L h hs
      cases hbr : blL r with
      | nil =>
        rw [hbr] at hre
        dsimp only [lsOut] at hre
        obtain rfl : R = .error 11 := hre.symm
        have T93 := fun iv (h : s[blAt s iv]? = none) g1 L => jtake_no b s (blAt s iv) 93 g1 L (by rw [h]; exact fun e => nomatch e) hs
        have W44 := fun iv (h : s[blAt s iv]? = none) g1 L => jwant_no b s (blAt s iv) 44 g1 L (by rw [h]; exact fun e => nomatch e) hs
        clear hre hJ
        repeat' (first
    | refine wkQ ?_
    | refine wkV ?_
    | (refine TL.call (Enters.plain (by kernel_rfl) (by rfl)) (by rfl) (Does.perm (VV _) permF) ?_; (rintro e g1 Ln hg1 ⟨vv, iv, k1, k3, hiv, hrv, hjv⟩; subst k1; subst k3; have hov := hjv.one; have HN := Hn.mk (at_nil ((blAt_drop s iv).trans (hrv ▸ hbr))); refine CallK.ret ?_))
    | ((with_reducible apply TL.build_slice); (· rfl); (· rfl); (· exact oneA); (· rfl); (· rfl); (· rfl); intro _) | refine TL.build_one (by rfl) (by first | rfl | assumption) (by rfl) (by rfl) (by rfl) (by rfl) (fun _ => ?_) | refine TL.build_empty (by rfl) (fun _ => ?_)
    | ((with_reducible apply TL.append); (· rfl); (· rfl); (· rfl); (· rfl); (· exact pkA); (· first | exact Src.obj pkA | exact Src.sl (by assumption) | exact Src.row pkA); (· first | rfl | exact (byteVals_length _).trans (Nat.mul_one _).symm); (· first | exact byteVals_all _ | exact oneA); (· exact ⟨by unfold maxLen; omega, by omega⟩); (· rfl); intro _)
    | apply TL.turns (Enters.plain (by kernel_rfl) (by rfl)) (BB iv hiv _ _) permF (by rfl)
    | refine TL.gives (Enters.plain (by kernel_rfl) (by rfl)) (Gives.perm (T93 iv HN.out _ _) permF) (by rfl) ?_
    | refine TL.throws (Enters.plain (by kernel_rfl) (by rfl)) (Throws.perm (W44 iv HN.out _ _) permF) (by rfl) ?_
    | refine stS ?_ | (refine stB ?_; intro _) | (refine stC ?_; refine And.intro (fun _ => ?_) (fun _ => ?_)))
        refine TQ.end_panic (L' := L) rfl (hgx.trans hg1) ?_ selF
        exact ⟨rfl, rfl⟩
      | cons c t =>
        rw [hbr] at hre
        dsimp only at hre
        by_cases h93 : c = 93
        · subst h93
          rw [if_pos rfl] at hre
          obtain rfl : R = .ok (.list (xs ++ [x]), t) := hre.symm
          have T93 := fun iv (h : s[blAt s iv]? = some 93) g1 L => jtake_yes b s (blAt s iv) 93 g1 L h hs
          clear hre
          repeat' (first
    | refine wkQ ?_
    | refine wkV ?_
    | (refine TL.call (Enters.plain (by kernel_rfl) (by rfl)) (by rfl) (Does.perm (VV _) permF) ?_; (rintro e g1 Ln hg1 ⟨vv, iv, k1, k3, hiv, hrv, hjv⟩; subst k1; subst k3; have hov := hjv.one; have HN := Hn.mk (at_of_drop ((blAt_drop s iv).trans (hrv ▸ hbr))); refine CallK.ret ?_))
    | ((with_reducible apply TL.build_slice); (· rfl); (· rfl); (· exact oneA); (· rfl); (· rfl); (· rfl); intro _) | refine TL.build_one (by rfl) (by first | rfl | assumption) (by rfl) (by rfl) (by rfl) (by rfl) (fun _ => ?_) | refine TL.build_empty (by rfl) (fun _ => ?_)
    | ((with_reducible apply TL.append); (· rfl); (· rfl); (· rfl); (· rfl); (· exact pkA); (· first | exact Src.obj pkA | exact Src.sl (by assumption) | exact Src.row pkA); (· first | rfl | exact (byteVals_length _).trans (Nat.mul_one _).symm); (· first | exact byteVals_all _ | exact oneA); (· exact ⟨by unfold maxLen; omega, by omega⟩); (· rfl); intro _)
    | apply TL.turns (Enters.plain (by kernel_rfl) (by rfl)) (BB iv hiv _ _) permF (by rfl)
    | apply TL.turns (Enters.plain (by kernel_rfl) (by rfl)) (T93 iv HN.out.1 _ _) permF (by rfl)
    | refine stS ?_ | (refine stB ?_; intro _) | (refine stC ?_; refine And.intro (fun _ => ?_) (fun _ => ?_)))
          rename_i vf
          refine TQ.freeze (v := vf) pkA ?_
          intro g' hg' hsl
          refine TQ.endR1 (L' := (RdJ b s (blAt s iv + 1) :: L)) Tryz.results45 rvA rfl ((hgx.trans hg1).trans hg') ?_ selF
          have hl := HN.out.2.2
          refine ⟨_, _, rfl, rfl, by omega, HN.out.2.1, ?_⟩
          rw [IsJ]
          refine ⟨_, fl ++ [vv], rfl, ?_, IsJs.le hg' _ _ ((IsJs.le hg1 _ _ hJ).snoc hjv)⟩
          rw [List.length_append, List.length_singleton]
          exact hsl
        · rw [if_neg h93] at hre
          have T93 := fun iv (h : s[blAt s iv]? = some c) g1 L => jtake_no b s (blAt s iv) 93 g1 L (by rw [h]; exact fun e => h93 (Option.some.inj e)) hs
          by_cases h44 : c = 44
          · subst h44
            rw [if_pos rfl] at hre
            have hre2 : lsOut (xs ++ [x]) (lstP (valT d) m t) = R := by
              rw [← hre]
              cases lstP (valT d) m t with
              | error e => rfl
              | ok p => show Except.ok (J.list _, _) = Except.ok (J.list _, _); rw [List.append_assoc]; rfl
            clear hre
            have W44 := fun iv (h : s[blAt s iv]? = some 44) g1 L => jwant_yes b s (blAt s iv) 44 g1 L h hs
            repeat' (first
    | refine wkQ ?_
    | refine wkV ?_
    | (refine TL.call (Enters.plain (by kernel_rfl) (by rfl)) (by rfl) (Does.perm (VV _) permF) ?_; (rintro e g1 Ln hg1 ⟨vv, iv, k1, k3, hiv, hrv, hjv⟩; subst k1; subst k3; have hov := hjv.one; have HN := Hn.mk (at_of_drop ((blAt_drop s iv).trans (hrv ▸ hbr))); refine CallK.ret ?_))
    | ((with_reducible apply TL.build_slice); (· rfl); (· rfl); (· exact oneA); (· rfl); (· rfl); (· rfl); intro _) | refine TL.build_one (by rfl) (by first | rfl | assumption) (by rfl) (by rfl) (by rfl) (by rfl) (fun _ => ?_) | refine TL.build_empty (by rfl) (fun _ => ?_)
    | ((with_reducible apply TL.append); (· rfl); (· rfl); (· rfl); (· rfl); (· exact pkA); (· first | exact Src.obj pkA | exact Src.sl (by assumption) | exact Src.row pkA); (· first | rfl | exact (byteVals_length _).trans (Nat.mul_one _).symm); (· first | exact byteVals_all _ | exact oneA); (· exact ⟨by unfold maxLen; omega, by omega⟩); (· rfl); intro _)
    | apply TL.turns (Enters.plain (by kernel_rfl) (by rfl)) (BB iv hiv _ _) permF (by rfl)
    | refine TL.gives (Enters.plain (by kernel_rfl) (by rfl)) (Gives.perm (T93 iv HN.out.1 _ _) permF) (by rfl) ?_
    | apply TL.turns (Enters.plain (by kernel_rfl) (by rfl)) (W44 iv HN.out.1 _ _) permF (by rfl)
    | refine stS ?_ | (refine stB ?_; intro _) | (refine stC ?_; refine And.intro (fun _ => ?_) (fun _ => ?_)))
            rename_i vf
            have hlen : xs.length + 1 = (xs ++ [x]).length := by rw [List.length_append, List.length_singleton]
            rw [hlen]
            have hb := blAt_bd s iv hiv
            have hl := HN.out.2.2
            rw [← hrv, List.length_drop] at hlen1
            refine TQ.round ⟨blAt s iv + 1, xs ++ [x], fl ++ [vv], vf, m, g1⟩ ?_ ?_ rfl subA selF
            · refine ⟨by dsimp only; omega, hgx.trans hg1, (IsJs.le hg1 _ _ hJ).snoc hjv, ⟨?_, ?_⟩, ?_, ?_⟩
              · dsimp only; rw [← hlen]; omega
              · dsimp only; rw [← hlen, hfl, List.length_append, List.length_singleton]
              · dsimp only; omega
              · dsimp only; rw [HN.out.2.1]; exact hre2
            · dsimp only; omega
          · rw [if_neg h44] at hre
            dsimp only [lsOut] at hre
            obtain rfl : R = .error 11 := hre.symm
            have W44 := fun iv (h : s[blAt s iv]? = some c) g1 L => jwant_no b s (blAt s iv) 44 g1 L (by rw [h]; exact fun e => h44 (Option.some.inj e)) hs
            clear hre hJ
            repeat' (first
    | refine wkQ ?_
    | refine wkV ?_
    | (refine TL.call (Enters.plain (by kernel_rfl) (by rfl)) (by rfl) (Does.perm (VV _) permF) ?_; (rintro e g1 Ln hg1 ⟨vv, iv, k1, k3, hiv, hrv, hjv⟩; subst k1; subst k3; have hov := hjv.one; have HN := Hn.mk (at_of_drop ((blAt_drop s iv).trans (hrv ▸ hbr))); refine CallK.ret ?_))
    | ((with_reducible apply TL.build_slice); (· rfl); (· rfl); (· exact oneA); (· rfl); (· rfl); (· rfl); intro _) | refine TL.build_one (by rfl) (by first | rfl | assumption) (by rfl) (by rfl) (by rfl) (by rfl) (fun _ => ?_) | refine TL.build_empty (by rfl) (fun _ => ?_)
    | ((with_reducible apply TL.append); (· rfl); (· rfl); (· rfl); (· rfl); (· exact pkA); (· first | exact Src.obj pkA | exact Src.sl (by assumption) | exact Src.row pkA); (· first | rfl | exact (byteVals_length _).trans (Nat.mul_one _).symm); (· first | exact byteVals_all _ | exact oneA); (· exact ⟨by unfold maxLen; omega, by omega⟩); (· rfl); intro _)
    | apply TL.turns (Enters.plain (by kernel_rfl) (by rfl)) (BB iv hiv _ _) permF (by rfl)
    | refine TL.gives (Enters.plain (by kernel_rfl) (by rfl)) (Gives.perm (T93 iv HN.out.1 _ _) permF) (by rfl) ?_
    | refine TL.throws (Enters.plain (by kernel_rfl) (by rfl)) (Throws.perm (W44 iv HN.out.1 _ _) permF) (by rfl) ?_
    | refine stS ?_ | (refine stB ?_; intro _) | (refine stC ?_; refine And.intro (fun _ => ?_) (fun _ => ?_)))
            refine TQ.end_panic (L' := L) rfl (hgx.trans hg1) ?_ selF
            exact ⟨rfl, rfl⟩
end Go.Proofs.YtfmadoeadmclbaaGreatDoor
