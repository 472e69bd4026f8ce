/-
  The walk of the document's Parse: the parts of a list.
-/
import Derived.Test.YtfmadoeadmclbaaGreatDoorHr2
import Derived.Test.YtfmadoeadmclbaaGreatDoorHr38
namespace Go.Proofs.YtfmadoeadmclbaaGreatDoor
open Go.RowKit Go.TL
set_option maxRecDepth 100000
def RValOk (d : Nat) (s : List UInt8) : Prop := ∀ (i : Nat) (g : Gh) (L : List Ent), i ≤ s.length → Does Tryz.prog 30 #[str s, .int .i64 (i : Nat), .int .i64 ((32 - d : Nat) : Int)] g L (VR (valT d (s.drop i)) s L)
structure LdI (f : List UInt8 → Except Nat (J × List UInt8)) (s : List UInt8) (g0 : Gh) (R : Except Nat (J × List UInt8)) (x : LsS) : Prop where
  le : x.i ≤ s.length
  gl : g0.le x.g
  js : IsVs x.g (x.xs.map ofJ) x.fl
  ln : x.xs.length ≤ x.i ∧ x.fl.length = x.xs.length * 6
  fu : s.length - x.i < x.n
  re : lsOut x.xs (lstP f x.n (s.drop x.i)) = R
abbrev lcell (v : Value) : List Value := [.int .i64 4, .bool false, .int .i64 0, .string ⟨#[]⟩, v, .slice none 0 0]
structure PartsQ (d : Nat) (s : List UInt8) (g0 : Gh) (L : List Ent) (R : Except Nat (J × List UInt8)) (b8 b11 i : Nat) (Q : Exit → Act → World → Prop) : Prop where
  bad : ∀ (k : Nat) (g1 : Gh), R = .error k → g0.le g1 → TQ Q .ret 138 [] [(8, .pointer (some ⟨b8, 0, none⟩)), (9, .int .i64 0), (10, .int .i64 (k : Nat))] g1 (.obj b8 (.cells zeroV.toArray 29 (0, 0)) :: L)
  ok : ∀ (p : J × List UInt8) (cs : List Value) (j : Nat) (g1 : Gh), R = .ok p → g0.le g1 → j ≤ s.length → s.drop j = p.2 → IsV g1 (ofJ p.1) cs → TQ Q .ret 138 [] [(8, .pointer (some ⟨b8, 0, none⟩)), (9, .int .i64 (j : Nat)), (10, .int .i64 0)] g1 (.obj b8 (.cells cs.toArray 29 (0, 0)) :: L)
  rnd : ∀ (i' : Nat) (xs : List J) (fl : List Value) (v : Value) (n : Nat) (g : Gh), LdI (valT d) s g0 R ⟨i', xs, fl, v, n, g⟩ → s.length - i' < s.length - i → TQ Q .normal 138 [] [(0, str s), (1, .int .i64 (i' : Nat)), (2, .int .i64 ((32 - d : Nat) : Int)), (3, .bool false), (8, .pointer (some ⟨b8, 0, none⟩)), (11, .pointer (some ⟨b11, 0, none⟩)), (12, .int .u8 93)] g (.row 29 6 v xs.length fl :: .obj b11 (.cells (lcell v).toArray 29 (0, 0)) :: .obj b8 (.cells zeroV.toArray 29 (0, 0)) :: L)
set_option maxHeartbeats 64000000 in
theorem rparts_round (d : Nat) (s : List UInt8) (V : RValOk d s) (g0 : Gh) (L : List Ent) (R : Except Nat (J × List UInt8)) (_hs : s.length ≤ 60000) (b8 b11 i : Nat) (xs : List J) (fl : List Value) (v : Value) (n : Nat) (g : Gh) (Q : Exit → Act → World → Prop) (H : PartsQ d s g0 L R b8 b11 i Q)
    (hi : i ≤ s.length) (hgx : g0.le g) (hJ : IsVs g (xs.map ofJ) fl) (_hln : xs.length ≤ i) (hfl : fl.length = xs.length * 6) (_hfu : s.length - i < n) (hre : lsOut xs (lstP (valT d) n (s.drop i)) = R) :
    BodyOk Tryz.prog Tryz.f51 Q 138 [(0, str s), (1, .int .i64 (i : Nat)), (2, .int .i64 ((32 - d : Nat) : Int)), (3, .bool false), (8, .pointer (some ⟨b8, 0, none⟩)), (11, .pointer (some ⟨b11, 0, none⟩)), (12, .int .u8 93)] g (.row 29 6 v xs.length fl :: .obj b11 (.cells (lcell v).toArray 29 (0, 0)) :: .obj b8 (.cells zeroV.toArray 29 (0, 0)) :: L) := by
  refine BodyOk.of rfl ?_
  refine TC.row_slice (v := v) pkA ?_
  rintro ai ci rfl _
  have VV := fun L => V i g L hi
  obtain ⟨m, rfl⟩ : ∃ m, n = m + 1 := ⟨n - 1, by omega⟩
  rw [lstP] at hre
  cases hv : valT d (s.drop i) with
  | error k =>
    rw [hv] at VV hre
    unfold VR at VV
    dsimp only at VV hre
    have hk := valT_err d _ _ hv
    have NK := Hn.mk (show ¬ ((k : Nat) : Int) = 0 by omega)
    have HR := Hn.mk hre.symm
    clear hre hJ hk
    repeat' (first
    | refine wkQ ?_
    | refine wkV ?_
    | (refine TL.call (Enters.plain (by kernel_rfl) (by rfl)) (by rfl) (VV _) ?_; (rintro e g1 L1 hg1 ⟨k3, k1⟩; have k3 := k3.symm; subst k3; subst k1; refine CallK.ret ?_))
    | refine stS ?_ | (refine stB ?_; intro _) | (refine stC ?_; refine And.intro (fun _ => ?_) (fun _ => ?_)))
    exact TQ.weak (H.bad k _ HR.out (hgx.trans hg1)) subA selF
  | ok p =>
    obtain ⟨x, r⟩ := p
    rw [hv] at VV hre
    unfold VR at VV
    dsimp only at VV hre
    have hlen1 := valT_len d _ _ _ hv
    rw [List.length_drop] at hlen1
    have BB := fun j (h : j ≤ s.length) g1 L => rblanks_gives s j g1 L h (by omega)
    have HJ := Hn.mk hJ
    clear hJ hv
    cases hbr : blL r with
    | nil =>
      rw [hbr] at hre
      dsimp only [lsOut] at hre
      have HR := Hn.mk hre.symm
      clear hre
      repeat' (first
    | refine wkQ ?_
    | refine wkV ?_
    | (refine TL.call (Enters.plain (by kernel_rfl) (by rfl)) (by rfl) (VV _) ?_; (rintro e g1 L1 hg1 ⟨k3, cs, j, k1, hj, hdr, hV⟩; have k3 := k3.symm; obtain ⟨vk, vb, vn, vt, aj, lj, cj, an, ln, cn, rfl⟩ := isV_six hV; subst k3; subst k1; (try dsimp only at hdr); (try dsimp only at hV); have HV := Hn.mk hV; clear hV; have HN := List.drop_eq_nil_iff.1 ((blAt_drop s j).trans (hdr ▸ hbr)); refine CallK.ret ?_))
    | ((with_reducible apply TL.build_slice); (· rfl); (· rfl); (· exact oneA); (· rfl); (· rfl); (· rfl); intro _) | refine TL.build_one (by rfl) (by first | rfl | assumption) (by rfl) (by rfl) (by rfl) (by rfl) (fun _ => ?_) | refine TL.build_empty (by rfl) (fun _ => ?_)
    | ((with_reducible apply TL.append (e := 29)); (· rfl); (· rfl); (· rfl); (· rfl); (· exact pkA); (· first | exact Src.obj pkA | exact Src.sl (by assumption) | exact Src.row pkA); (· rfl); (· first | rfl | assumption); (· exact ⟨by unfold maxLen; omega, by omega⟩); (· rfl); intro vf; refine Go.TL.TL.row_slice (v := vf) pkA ?_; rintro a2 c2 rfl _)
    | ((with_reducible apply TL.gives_plain); (· kernel_rfl); (· rfl); (· exact BB j hj _ _); (· rfl)) | ((with_reducible apply TW.gives_plain); (· kernel_rfl); (· rfl); (· exact BB j hj _ _); (· rfl))
    | refine stS ?_ | (refine stB ?_; intro _) | (refine stC ?_; refine And.intro (fun _ => ?_) (fun _ => ?_)))
      exact TQ.weak (H.bad 11 _ HR.out (hgx.trans hg1)) subA selF
    | cons c t =>
      rw [hbr] at hre
      dsimp only at hre
      by_cases h93 : c = 93
      · subst h93
        rw [if_pos rfl] at hre
        have HR := Hn.mk hre.symm
        clear hre
        repeat' (first
    | refine wkQ ?_
    | (refine TL.call (Enters.plain (by kernel_rfl) (by rfl)) (by rfl) (VV _) ?_; (rintro e g1 L1 hg1 ⟨k3, cs, j, k1, hj, hdr, hV⟩; have k3 := k3.symm; obtain ⟨vk, vb, vn, vt, aj, lj, cj, an, ln, cn, rfl⟩ := isV_six hV; subst k3; subst k1; (try dsimp only at hdr); (try dsimp only at hV); have HV := Hn.mk hV; clear hV; obtain ⟨hn1, hn2, hn3⟩ := at_of_drop ((blAt_drop s j).trans (hdr ▸ hbr)); refine CallK.ret ?_))
    | ((with_reducible apply TL.pure (d := 118) (v := .int .u8 93)); (· exact Y.index_at hn1 rfl rfl rfl); (· rfl)) | ((with_reducible apply TW.pure (d := 118) (v := .int .u8 93)); (· exact Y.index_at hn1 rfl rfl rfl); (· rfl))
    | refine wkV ?_
    | ((with_reducible apply TL.build_slice); (· rfl); (· rfl); (· exact oneA); (· rfl); (· rfl); (· rfl); intro _) | refine TL.build_one (by rfl) (by first | rfl | assumption) (by rfl) (by rfl) (by rfl) (by rfl) (fun _ => ?_) | refine TL.build_empty (by rfl) (fun _ => ?_)
    | ((with_reducible apply TL.append (e := 29)); (· rfl); (· rfl); (· rfl); (· rfl); (· exact pkA); (· first | exact Src.obj pkA | exact Src.sl (by assumption) | exact Src.row pkA); (· rfl); (· first | rfl | assumption); (· exact ⟨by unfold maxLen; omega, by omega⟩); (· rfl); intro vf; refine Go.TL.TL.row_slice (v := vf) pkA ?_; rintro a2 c2 rfl _)
    | ((with_reducible apply TL.gives_plain); (· kernel_rfl); (· rfl); (· exact BB j hj _ _); (· rfl)) | ((with_reducible apply TW.gives_plain); (· kernel_rfl); (· rfl); (· exact BB j hj _ _); (· rfl))
    | refine stS ?_ | (refine stB ?_; intro _) | (refine stC ?_; refine And.intro (fun _ => ?_) (fun _ => ?_)))
        refine TQ.freeze (v := .slice a2 (xs.length + 1) c2) pkA ?_
        intro g' hg' hsl
        refine TQ.weak (H.ok (.list (xs ++ [x]), t) (lcell (.slice a2 (xs.length + 1) c2)) (blAt s j + 1) g' HR.out ((hgx.trans hg1).trans hg') (by omega) hn2 ?_) subA selF
        dsimp only
        rw [ofJ_list, IsV]
        refine ⟨_, _, fl ++ [.int .i64 vk, .bool vb, .int .i64 vn, str vt, .slice aj lj cj, .slice an ln cn], rfl, by omega, by omega, by simp, ?_, ?_, ?_, .nil, by simp, fun x hx => by cases hx⟩
        · rw [List.length_map, List.length_append, List.length_singleton]; exact hsl
        · rw [List.length_map, List.length_append, List.length_singleton]; omega
        · rw [List.map_append]; exact IsVs.le hg' _ _ ((IsVs.le hg1 _ _ HJ.out).snoc4 HV.out)
      rw [if_neg h93] at hre
      by_cases h44 : c = 44
      · subst h44
        rw [if_pos rfl] at hre
        have hre2 : lsOut (xs ++ [x]) (lstP (valT d) m t) = R := by
          rw [← hre]
          cases lstP (valT d) m t with
          | error e => rfl
          | ok p => show Except.ok (J.list _, _) = Except.ok (J.list _, _); rw [List.append_assoc]; rfl
        have HR := Hn.mk hre2
        clear hre hre2
        repeat' (first
    | refine wkQ ?_
    | (refine TL.call (Enters.plain (by kernel_rfl) (by rfl)) (by rfl) (VV _) ?_; (rintro e g1 L1 hg1 ⟨k3, cs, j, k1, hj, hdr, hV⟩; have k3 := k3.symm; obtain ⟨vk, vb, vn, vt, aj, lj, cj, an, ln, cn, rfl⟩ := isV_six hV; subst k3; subst k1; (try dsimp only at hdr); (try dsimp only at hV); have HV := Hn.mk hV; clear hV; obtain ⟨hn1, hn2, hn3⟩ := at_of_drop ((blAt_drop s j).trans (hdr ▸ hbr)); refine CallK.ret ?_))
    | ((with_reducible apply TL.pure (d := 118) (v := .int .u8 44)); (· exact Y.index_at hn1 rfl rfl rfl); (· rfl)) | ((with_reducible apply TW.pure (d := 118) (v := .int .u8 44)); (· exact Y.index_at hn1 rfl rfl rfl); (· rfl))
    | ((with_reducible apply TL.pure (d := 132) (v := .int .u8 44)); (· exact Y.index_at hn1 rfl rfl rfl); (· rfl)) | ((with_reducible apply TW.pure (d := 132) (v := .int .u8 44)); (· exact Y.index_at hn1 rfl rfl rfl); (· rfl))
    | refine wkV ?_
    | ((with_reducible apply TL.build_slice); (· rfl); (· rfl); (· exact oneA); (· rfl); (· rfl); (· rfl); intro _) | refine TL.build_one (by rfl) (by first | rfl | assumption) (by rfl) (by rfl) (by rfl) (by rfl) (fun _ => ?_) | refine TL.build_empty (by rfl) (fun _ => ?_)
    | ((with_reducible apply TL.append (e := 29)); (· rfl); (· rfl); (· rfl); (· rfl); (· exact pkA); (· first | exact Src.obj pkA | exact Src.sl (by assumption) | exact Src.row pkA); (· rfl); (· first | rfl | assumption); (· exact ⟨by unfold maxLen; omega, by omega⟩); (· rfl); intro vf; refine Go.TL.TL.row_slice (v := vf) pkA ?_; rintro a2 c2 rfl _)
    | ((with_reducible apply TL.gives_plain); (· kernel_rfl); (· rfl); (· exact BB j hj _ _); (· rfl)) | ((with_reducible apply TW.gives_plain); (· kernel_rfl); (· rfl); (· exact BB j hj _ _); (· rfl))
    | refine stS ?_ | (refine stB ?_; intro _) | (refine stC ?_; refine And.intro (fun _ => ?_) (fun _ => ?_)))
        have hlen : xs.length + 1 = (xs ++ [x]).length := by rw [List.length_append, List.length_singleton]
        rw [hlen]
        have hb := blAt_bd s j hj
        rw [← hdr, List.length_drop] at hlen1
        refine TQ.weak (H.rnd (blAt s j + 1) (xs ++ [x]) (fl ++ [.int .i64 vk, .bool vb, .int .i64 vn, str vt, .slice aj lj cj, .slice an ln cn]) (.slice a2 (xs ++ [x]).length c2) m g1 ⟨by dsimp only; omega, hgx.trans hg1, ?_, ⟨?_, ?_⟩, ?_, ?_⟩ ?_) subA selF
        · dsimp only; rw [List.map_append]; exact (IsVs.le hg1 _ _ HJ.out).snoc4 HV.out
        · dsimp only; rw [← hlen]; omega
        · dsimp only; rw [← hlen, List.length_append, hfl]; simp only [List.length_cons, List.length_nil]; omega
        · dsimp only; omega
        · dsimp only; rw [hn2]; exact HR.out
        · omega
      · rw [if_neg h44] at hre
        dsimp only [lsOut] at hre
        have HR := Hn.mk hre.symm
        have K1 : decide (((c.toNat : Nat) : Int) = 93) = false := (u8_dec c 93 93 rfl).trans (decide_eq_false h93)
        have K2 : decide (((c.toNat : Nat) : Int) = 44) = false := (u8_dec c 44 44 rfl).trans (decide_eq_false h44)
        clear hre
        repeat' (first
    | refine wkQ ?_
    | (refine TL.call (Enters.plain (by kernel_rfl) (by rfl)) (by rfl) (VV _) ?_; (rintro e g1 L1 hg1 ⟨k3, cs, j, k1, hj, hdr, hV⟩; have k3 := k3.symm; obtain ⟨vk, vb, vn, vt, aj, lj, cj, an, ln, cn, rfl⟩ := isV_six hV; subst k3; subst k1; (try dsimp only at hdr); (try dsimp only at hV); have HV := Hn.mk hV; clear hV; obtain ⟨hn1, hn2, hn3⟩ := at_of_drop ((blAt_drop s j).trans (hdr ▸ hbr)); refine CallK.ret ?_))
    | ((with_reducible apply TL.pure (d := 118) (v := .int .u8 (c.toNat : Nat))); (· exact Y.index_at hn1 rfl rfl rfl); (· rfl)) | ((with_reducible apply TW.pure (d := 118) (v := .int .u8 (c.toNat : Nat))); (· exact Y.index_at hn1 rfl rfl rfl); (· rfl))
    | ((with_reducible apply TL.pure (d := 120) (v := .bool false)); (· exact Y.eql_b K1 rfl rfl); (· rfl)) | ((with_reducible apply TW.pure (d := 120) (v := .bool false)); (· exact Y.eql_b K1 rfl rfl); (· rfl))
    | ((with_reducible apply TL.pure (d := 132) (v := .int .u8 (c.toNat : Nat))); (· exact Y.index_at hn1 rfl rfl rfl); (· rfl)) | ((with_reducible apply TW.pure (d := 132) (v := .int .u8 (c.toNat : Nat))); (· exact Y.index_at hn1 rfl rfl rfl); (· rfl))
    | ((with_reducible apply TL.pure (d := 133) (v := .bool true)); (· exact Y.neqB K2 rfl rfl); (· rfl)) | ((with_reducible apply TW.pure (d := 133) (v := .bool true)); (· exact Y.neqB K2 rfl rfl); (· rfl))
    | refine wkV ?_
    | ((with_reducible apply TL.build_slice); (· rfl); (· rfl); (· exact oneA); (· rfl); (· rfl); (· rfl); intro _) | refine TL.build_one (by rfl) (by first | rfl | assumption) (by rfl) (by rfl) (by rfl) (by rfl) (fun _ => ?_) | refine TL.build_empty (by rfl) (fun _ => ?_)
    | ((with_reducible apply TL.append (e := 29)); (· rfl); (· rfl); (· rfl); (· rfl); (· exact pkA); (· first | exact Src.obj pkA | exact Src.sl (by assumption) | exact Src.row pkA); (· rfl); (· first | rfl | assumption); (· exact ⟨by unfold maxLen; omega, by omega⟩); (· rfl); intro vf; refine Go.TL.TL.row_slice (v := vf) pkA ?_; rintro a2 c2 rfl _)
    | ((with_reducible apply TL.gives_plain); (· kernel_rfl); (· rfl); (· exact BB j hj _ _); (· rfl)) | ((with_reducible apply TW.gives_plain); (· kernel_rfl); (· rfl); (· exact BB j hj _ _); (· rfl))
    | refine stS ?_ | (refine stB ?_; intro _) | (refine stC ?_; refine And.intro (fun _ => ?_) (fun _ => ?_)))
        exact TQ.weak (H.bad 11 _ HR.out (hgx.trans hg1)) subA selF
set_option maxHeartbeats 64000000 in
theorem rparts_list (d : Nat) (_hd : d ≤ 32) (s : List UInt8) (V : RValOk d s) (i0 : Nat) (hi0 : i0 ≤ s.length) (hs : s.length ≤ 60000) (g : Gh) (L : List Ent) : Does Tryz.prog 51 #[str s, .int .i64 (i0 : Nat), .int .i64 ((32 - d : Nat) : Int), .bool false] g L (VR (lstW (valT d) (s.drop i0)) s L) := by
  refine Does.of4 Tryz.func51 rfl Tryz.ntmps51 rfl ?_
  have B0 := fun L => rblanks_gives s i0 g L hi0 (by omega)
  have hbd := blAt_bd s i0 hi0
  have hbl := blAt_drop s i0
  rw [lstW_eq, ← hbl]
  generalize blAt s i0 = a at *
  by_cases h93 : s[a]? = some 93
  · have hh : (s.drop a).head? = some 93 := by rw [drop_of_get h93]; rfl
    rw [if_pos hh]
    have hq := (List.getElem?_eq_some_iff.1 h93).1
    have HD := Hn.mk (show s.drop (a + 1) = (s.drop a).drop 1 from (List.drop_drop ..).symm)
    clear hbl hh
    repeat' (first
    | refine wkQ ?_
    | ((with_reducible apply TL.pure (d := 31) (v := .int .u8 93)); (· exact Y.index_at h93 rfl rfl rfl); (· rfl)) | ((with_reducible apply TW.pure (d := 31) (v := .int .u8 93)); (· exact Y.index_at h93 rfl rfl rfl); (· rfl))
    | refine wkV ?_
    | ((with_reducible apply TL.gives_plain); (· kernel_rfl); (· rfl); (· exact B0 _); (· rfl)) | ((with_reducible apply TW.gives_plain); (· kernel_rfl); (· rfl); (· exact B0 _); (· rfl))
    | refine stS ?_ | (refine stB ?_; intro _) | (refine stC ?_; refine And.intro (fun _ => ?_) (fun _ => ?_)))
    refine TQ.endR3 (L' := L) Tryz.results51 rvA rvA rvA rfl (.refl _) ?_ selF
    refine ⟨rfl, _, a + 1, rfl, by omega, HD.out, ?_⟩
    rw [ofJ_list]
    exact isV_flat (by omega) (by omega) (by simp)
  have hh : ¬ (s.drop a).head? = some 93 := fun e => by
    cases hq : s.drop a with
    | nil => rw [hq] at e; cases e
    | cons c t =>
      rw [hq] at e
      obtain rfl := Option.some.inj e
      exact h93 (at_of_drop hq).1
  rw [if_neg hh]
  obtain ⟨R, hR⟩ : ∃ R, R = lsOut [] (lstP (valT d) ((s.drop a).length + 1) (s.drop a)) := ⟨_, rfl⟩
  rw [← hR]
  clear hh hbl
  cases hq : s.drop a with
  | nil =>
    have hla : s.length ≤ a := List.drop_eq_nil_iff.1 hq
    repeat' (first
    | refine wkQ ?_
    | refine wkV ?_
    | ((with_reducible apply TL.gives_plain); (· kernel_rfl); (· rfl); (· exact B0 _); (· rfl)) | ((with_reducible apply TW.gives_plain); (· kernel_rfl); (· rfl); (· exact B0 _); (· rfl))
    | refine stS ?_ | (refine stB ?_; intro _) | (refine stC ?_; refine And.intro (fun _ => ?_) (fun _ => ?_)))
    rename_i b8 b11
    refine TC.row_nil 29 6 ?_
    refine TC.loop (LdI (valT d) s g R) (fun x => s.length - x.i) (fun x => [(0, str s), (1, .int .i64 (x.i : Nat)), (2, .int .i64 ((32 - d : Nat) : Int)), (3, .bool false), (8, .pointer (some ⟨b8, 0, none⟩)), (11, .pointer (some ⟨b11, 0, none⟩)), (12, .int .u8 93)]) (fun x => x.g) (fun x => .row 29 6 x.v x.xs.length x.fl :: .obj b11 (.cells (lcell x.v).toArray 29 (0, 0)) :: .obj b8 (.cells zeroV.toArray 29 (0, 0)) :: L) ⟨a, [], [], .slice none 0 0, (s.drop a).length + 1, g⟩ ⟨hbd.2, .refl _, by rw [List.map_nil, IsVs], ⟨Nat.zero_le _, rfl⟩, by rw [List.length_drop]; dsimp only; omega, hR.symm⟩ rfl subA selF ?_
    clear hR hbd B0 h93
    rintro ⟨i, xs, fl, v, n, gx⟩ ⟨hi, hgx, hJ, ⟨hln, hfl⟩, hfu, hre⟩
    refine rparts_round d s V g L R hs b8 b11 i xs fl v n gx _ ⟨fun k g1 h1 h2 => ?_, fun p cs j g1 h1 h2 h3 h4 h5 => ?_, fun i' xs' fl' v' n' g' h1 h2 => ?_⟩ hi hgx hJ hln hfl hfu hre _ rfl
    · subst h1
      repeat' (first
    | refine wkQ ?_
    | refine stS ?_ | (refine stB ?_; intro _) | (refine stC ?_; refine And.intro (fun _ => ?_) (fun _ => ?_)))
      refine TQ.endR3 (L' := L) Tryz.results51 rvA rvA rvA rfl (h2) ?_ selF
      exact ⟨rfl, rfl⟩
    · subst h1
      obtain ⟨vk, vb, vn, vt, aj, lj, cj, an, ln, cn, rfl⟩ := isV_six h5
      repeat' (first
    | refine wkQ ?_
    | refine stS ?_ | (refine stB ?_; intro _) | (refine stC ?_; refine And.intro (fun _ => ?_) (fun _ => ?_)))
      refine TQ.endR3 (L' := L) Tryz.results51 rvA rvA rvA rfl (h2) ?_ selF
      exact ⟨rfl, _, j, rfl, h3, h4, h5⟩
    · refine TQ.round ⟨i', xs', fl', v', n', g'⟩ ?_ ?_ rfl subA selF
      · exact h1
      · exact h2
  | cons c t =>
    have hc := (at_of_drop hq).1
    have K : decide (((c.toNat : Nat) : Int) = 93) = false := (u8_dec c 93 93 rfl).trans (decide_eq_false (fun e => h93 (e ▸ hc)))
    have hla := (at_of_drop hq).2.2
    repeat' (first
    | refine wkQ ?_
    | ((with_reducible apply TL.pure (d := 31) (v := .int .u8 (c.toNat : Nat))); (· exact Y.index_at hc rfl rfl rfl); (· rfl)) | ((with_reducible apply TW.pure (d := 31) (v := .int .u8 (c.toNat : Nat))); (· exact Y.index_at hc rfl rfl rfl); (· rfl))
    | ((with_reducible apply TL.pure (d := 33) (v := .bool false)); (· exact Y.eql_b K rfl rfl); (· rfl)) | ((with_reducible apply TW.pure (d := 33) (v := .bool false)); (· exact Y.eql_b K rfl rfl); (· rfl))
    | refine wkV ?_
    | ((with_reducible apply TL.gives_plain); (· kernel_rfl); (· rfl); (· exact B0 _); (· rfl)) | ((with_reducible apply TW.gives_plain); (· kernel_rfl); (· rfl); (· exact B0 _); (· rfl))
    | refine stS ?_ | (refine stB ?_; intro _) | (refine stC ?_; refine And.intro (fun _ => ?_) (fun _ => ?_)))
    rename_i b8 b11
    refine TC.row_nil 29 6 ?_
    refine TC.loop (LdI (valT d) s g R) (fun x => s.length - x.i) (fun x => [(0, str s), (1, .int .i64 (x.i : Nat)), (2, .int .i64 ((32 - d : Nat) : Int)), (3, .bool false), (8, .pointer (some ⟨b8, 0, none⟩)), (11, .pointer (some ⟨b11, 0, none⟩)), (12, .int .u8 93)]) (fun x => x.g) (fun x => .row 29 6 x.v x.xs.length x.fl :: .obj b11 (.cells (lcell x.v).toArray 29 (0, 0)) :: .obj b8 (.cells zeroV.toArray 29 (0, 0)) :: L) ⟨a, [], [], .slice none 0 0, (s.drop a).length + 1, g⟩ ⟨hbd.2, .refl _, by rw [List.map_nil, IsVs], ⟨Nat.zero_le _, rfl⟩, by rw [List.length_drop]; dsimp only; omega, hR.symm⟩ rfl subA selF ?_
    clear hR hbd B0 h93
    rintro ⟨i, xs, fl, v, n, gx⟩ ⟨hi, hgx, hJ, ⟨hln, hfl⟩, hfu, hre⟩
    refine rparts_round d s V g L R hs b8 b11 i xs fl v n gx _ ⟨fun k g1 h1 h2 => ?_, fun p cs j g1 h1 h2 h3 h4 h5 => ?_, fun i' xs' fl' v' n' g' h1 h2 => ?_⟩ hi hgx hJ hln hfl hfu hre _ rfl
    · subst h1
      repeat' (first
    | refine wkQ ?_
    | refine stS ?_ | (refine stB ?_; intro _) | (refine stC ?_; refine And.intro (fun _ => ?_) (fun _ => ?_)))
      refine TQ.endR3 (L' := L) Tryz.results51 rvA rvA rvA rfl (h2) ?_ selF
      exact ⟨rfl, rfl⟩
    · subst h1
      obtain ⟨vk, vb, vn, vt, aj, lj, cj, an, ln, cn, rfl⟩ := isV_six h5
      repeat' (first
    | refine wkQ ?_
    | refine stS ?_ | (refine stB ?_; intro _) | (refine stC ?_; refine And.intro (fun _ => ?_) (fun _ => ?_)))
      refine TQ.endR3 (L' := L) Tryz.results51 rvA rvA rvA rfl (h2) ?_ selF
      exact ⟨rfl, _, j, rfl, h3, h4, h5⟩
    · refine TQ.round ⟨i', xs', fl', v', n', g'⟩ ?_ ?_ rfl subA selF
      · exact h1
      · exact h2
end Go.Proofs.YtfmadoeadmclbaaGreatDoor
