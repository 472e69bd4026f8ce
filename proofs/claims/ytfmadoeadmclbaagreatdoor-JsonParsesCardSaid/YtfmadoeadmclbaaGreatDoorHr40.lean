/-
  The walk of the document's Parse: the parts of an object.
-/
import Derived.Test.YtfmadoeadmclbaaGreatDoorHr2
import Derived.Test.YtfmadoeadmclbaaGreatDoorHr39
import Derived.Test.YtfmadoeadmclbaaGreatDoorHr8
namespace Go.Proofs.YtfmadoeadmclbaaGreatDoor
open Go.RowKit Go.TL
set_option maxRecDepth 100000
structure OpS where
  i : Nat
  ns : List (List UInt8)
  xs : List J
  fl : List Value
  v : Value
  vn : Value
  n : Nat
  g : Gh
structure OpI (f : List UInt8 → Except Nat (J × List UInt8)) (s : List UInt8) (g0 : Gh) (R : Except Nat (J × List UInt8)) (x : OpS) : Prop where
  le : x.i ≤ s.length
  gl : g0.le x.g
  js : IsVs x.g (x.xs.map ofJ) x.fl
  nb : ∀ y ∈ x.ns, y.length ≤ 60000
  ln : x.ns.length = x.xs.length ∧ x.xs.length ≤ x.i ∧ x.fl.length = x.xs.length * 6
  fu : s.length - x.i < x.n
  re : obOut x.ns x.xs (mbrP f x.n x.ns (s.drop x.i)) = R
abbrev ocell (v vn : Value) : List Value := [.int .i64 5, .bool false, .int .i64 0, .string ⟨#[]⟩, v, vn]
theorem strs_one8 (l : List (List UInt8)) (x : List UInt8) : strs l ++ [str x] = strs (l ++ [x]) := by simp [strs]
structure OpartsQ (d : Nat) (s : List UInt8) (g0 : Gh) (L : List Ent) (R : Except Nat (J × List UInt8)) (b8 b11 i : Nat) (Q : Exit → Act → World → Prop) : Prop where
  bad : ∀ (k : Nat) (g1 : Gh), R = .error k → g0.le g1 → TQ Q .ret 138 [] [(8, .pointer (some ⟨b8, 0, none⟩)), (9, .int .i64 0), (10, .int .i64 (k : Nat))] g1 (.obj b8 (.cells zeroV.toArray 29 (0, 0)) :: L)
  ok : ∀ (p : J × List UInt8) (cs : List Value) (j : Nat) (g1 : Gh), R = .ok p → g0.le g1 → j ≤ s.length → s.drop j = p.2 → IsV g1 (ofJ p.1) cs → TQ Q .ret 138 [] [(8, .pointer (some ⟨b8, 0, none⟩)), (9, .int .i64 (j : Nat)), (10, .int .i64 0)] g1 (.obj b8 (.cells cs.toArray 29 (0, 0)) :: L)
  rnd : ∀ (i' : Nat) (ns : List (List UInt8)) (xs : List J) (fl : List Value) (v vn : Value) (n : Nat) (g : Gh), OpI (valT d) s g0 R ⟨i', ns, xs, fl, v, vn, n, g⟩ → s.length - i' < s.length - i → TQ Q .normal 138 [] [(0, str s), (1, .int .i64 (i' : Nat)), (2, .int .i64 ((32 - d : Nat) : Int)), (3, .bool true), (8, .pointer (some ⟨b8, 0, none⟩)), (11, .pointer (some ⟨b11, 0, none⟩)), (12, .int .u8 125)] g (.row 29 6 v xs.length fl :: .row 9 1 vn ns.length (strs ns) :: .obj b11 (.cells (ocell v vn).toArray 29 (0, 0)) :: .obj b8 (.cells zeroV.toArray 29 (0, 0)) :: L)
set_option maxHeartbeats 64000000 in
theorem oparts_round (d : Nat) (s : List UInt8) (V : RValOk d s) (g0 : Gh) (L : List Ent) (R : Except Nat (J × List UInt8)) (_hs : s.length ≤ 60000) (b8 b11 i : Nat) (ns : List (List UInt8)) (xs : List J) (fl : List Value) (v vn : Value) (n : Nat) (g : Gh) (Q : Exit → Act → World → Prop) (H : OpartsQ d s g0 L R b8 b11 i Q)
    (hi : i ≤ s.length) (hgx : g0.le g) (hJ : IsVs g (xs.map ofJ) fl) (hnb : ∀ y ∈ ns, y.length ≤ 60000) (hnx : ns.length = xs.length) (_hln : xs.length ≤ i) (hfl : fl.length = xs.length * 6) (_hfu : s.length - i < n) (hre : obOut ns xs (mbrP (valT d) n ns (s.drop i)) = R) :
    BodyOk Tryz.prog Tryz.f51 Q 138 [(0, str s), (1, .int .i64 (i : Nat)), (2, .int .i64 ((32 - d : Nat) : Int)), (3, .bool true), (8, .pointer (some ⟨b8, 0, none⟩)), (11, .pointer (some ⟨b11, 0, none⟩)), (12, .int .u8 125)] g (.row 29 6 v xs.length fl :: .row 9 1 vn ns.length (strs ns) :: .obj b11 (.cells (ocell v vn).toArray 29 (0, 0)) :: .obj b8 (.cells zeroV.toArray 29 (0, 0)) :: L) := by
  refine BodyOk.of rfl ?_
  refine TC.row_slice (v := v) pkA ?_
  rintro ai ci rfl _
  refine TC.row_slice (v := vn) pkA ?_
  rintro an cn rfl _
  obtain ⟨m, rfl⟩ : ∃ m, n = m + 1 := ⟨n - 1, by omega⟩
  rw [mbrP] at hre
  have B0 := fun L => rblanks_gives s i g L hi (by omega)
  have hbd := blAt_bd s i hi
  have hbl := blAt_drop s i
  have HJ := Hn.mk hJ
  have HB := Hn.mk hnb
  clear hJ hnb
  generalize blAt s i = a at *
  cases hb0 : blL (s.drop i) with
  | nil =>
    rw [hb0] at hre hbl
    dsimp only [obOut] at hre
    have HR := Hn.mk hre.symm
    have hla : s.length ≤ a := List.drop_eq_nil_iff.1 hbl
    clear hre
    repeat' (first
    | ((with_reducible apply TL.pure); (· exact yQ); (· rfl))
    | ((with_reducible apply TL.pure); (· exact yV); (· rfl)) | ((with_reducible apply TW.pure); (· exact yV); (· rfl))
    | ((with_reducible apply TL.gives_plain); (· kernel_rfl); (· rfl); (· exact B0 _); (· rfl)) | ((with_reducible apply TW.gives_plain); (· kernel_rfl); (· rfl); (· exact B0 _); (· rfl))
    | ((with_reducible apply TL.pure); (· exact yA); (· rfl))
    | refine TC.seq ?_ | refine TC.region ?_ | refine TL.nil ?_ | refine TQ.then_normal ?_
    | ((with_reducible apply TL.storeE); (· rfl); (· rfl); (· rfl); (· exact pkA); (· infer_instance)) | ((with_reducible apply TL.store_whole); (· rfl); (· rfl); (· exact oneA); (· rfl); (· exact pkA); (· rfl))
    | refine TC.block ?_ | refine TC.ret ?_ | refine TC.skip ?_ | refine TC.exit ?_ | refine TC.cond rfl ?_
    | refine TQ.down ?_ | refine TQ.in_exit' rfl ?_
    | refine TL.guard_yes rfl rfl ?_ | refine TL.guard_no rfl rfl rfl rfl ?_ | refine TL.guard_no0 rfl rfl rfl ?_ | refine TL.guard_undef rfl rfl rfl ?_ | refine TL.guard_undef0 rfl rfl ?_ | refine TL.guard rfl rfl rfl ?_
    | refine Br.t rfl ?_ | refine Br.f rfl ?_ | refine Br.ky kpA ?_ | refine Br.kn kpA ?_ | refine Br.nky kpA ?_ | refine Br.nkn kpA ?_
    | refine Br.eq0 (fun _ => ?_) (fun _ => ?_) | refine Br.neq0 (fun _ => ?_) (fun _ => ?_) | refine Br.eq (fun _ => ?_) (fun _ => ?_) | refine Br.neq (fun _ => ?_) (fun _ => ?_) | refine Br.not (fun _ => ?_) (fun _ => ?_) | refine Br.dec (fun _ => ?_) (fun _ => ?_) | refine Br.bool (fun _ => ?_) (fun _ => ?_)
    | ((with_reducible apply TL.alloc_ag); (· rfl); intro _) | ((with_reducible apply TL.alloc_sc); (· rfl); (· rfl); intro _) | ((with_reducible apply TL.box_ag); (· rfl); (· rfl); intro _) | ((with_reducible apply TL.box_sc); (· rfl); (· rfl); (· rfl); intro _))
    exact TQ.weak (H.bad 11 _ HR.out hgx) subA selF
  | cons q s1 =>
    rw [hb0] at hre hbl
    dsimp only at hre
    obtain ⟨hq0, hq1, hq2⟩ := at_of_drop hbl
    by_cases h34 : q = 34
    case neg =>
      rw [if_neg h34] at hre
      dsimp only [obOut] at hre
      have HR := Hn.mk hre.symm
      have K1 : decide (((q.toNat : Nat) : Int) = 34) = false := (u8_dec q 34 34 rfl).trans (decide_eq_false h34)
      clear hre
      repeat' (first
    | ((with_reducible apply TL.pure); (· exact yQ); (· rfl))
    | ((with_reducible apply TL.pure (d := 49) (v := .int .u8 (q.toNat : Nat))); (· exact Y.index_at hq0 rfl rfl rfl); (· rfl)) | ((with_reducible apply TW.pure (d := 49) (v := .int .u8 (q.toNat : Nat))); (· exact Y.index_at hq0 rfl rfl rfl); (· rfl))
    | ((with_reducible apply TL.pure (d := 50) (v := .bool true)); (· exact Y.neqB K1 rfl rfl); (· rfl)) | ((with_reducible apply TW.pure (d := 50) (v := .bool true)); (· exact Y.neqB K1 rfl rfl); (· rfl))
    | ((with_reducible apply TL.pure); (· exact yV); (· rfl)) | ((with_reducible apply TW.pure); (· exact yV); (· rfl))
    | ((with_reducible apply TL.gives_plain); (· kernel_rfl); (· rfl); (· exact B0 _); (· rfl)) | ((with_reducible apply TW.gives_plain); (· kernel_rfl); (· rfl); (· exact B0 _); (· rfl))
    | ((with_reducible apply TL.pure); (· exact yA); (· rfl))
    | refine TC.seq ?_ | refine TC.region ?_ | refine TL.nil ?_ | refine TQ.then_normal ?_
    | ((with_reducible apply TL.storeE); (· rfl); (· rfl); (· rfl); (· exact pkA); (· infer_instance)) | ((with_reducible apply TL.store_whole); (· rfl); (· rfl); (· exact oneA); (· rfl); (· exact pkA); (· rfl))
    | refine TC.block ?_ | refine TC.ret ?_ | refine TC.skip ?_ | refine TC.exit ?_ | refine TC.cond rfl ?_
    | refine TQ.down ?_ | refine TQ.in_exit' rfl ?_
    | refine TL.guard_yes rfl rfl ?_ | refine TL.guard_no rfl rfl rfl rfl ?_ | refine TL.guard_no0 rfl rfl rfl ?_ | refine TL.guard_undef rfl rfl rfl ?_ | refine TL.guard_undef0 rfl rfl ?_ | refine TL.guard rfl rfl rfl ?_
    | refine Br.t rfl ?_ | refine Br.f rfl ?_ | refine Br.ky kpA ?_ | refine Br.kn kpA ?_ | refine Br.nky kpA ?_ | refine Br.nkn kpA ?_
    | refine Br.eq0 (fun _ => ?_) (fun _ => ?_) | refine Br.neq0 (fun _ => ?_) (fun _ => ?_) | refine Br.eq (fun _ => ?_) (fun _ => ?_) | refine Br.neq (fun _ => ?_) (fun _ => ?_) | refine Br.not (fun _ => ?_) (fun _ => ?_) | refine Br.dec (fun _ => ?_) (fun _ => ?_) | refine Br.bool (fun _ => ?_) (fun _ => ?_)
    | ((with_reducible apply TL.alloc_ag); (· rfl); intro _) | ((with_reducible apply TL.alloc_sc); (· rfl); (· rfl); intro _) | ((with_reducible apply TL.box_ag); (· rfl); (· rfl); intro _) | ((with_reducible apply TL.box_sc); (· rfl); (· rfl); (· rfl); intro _))
      exact TQ.weak (H.bad 11 _ HR.out hgx) subA selF
    subst h34
    rw [if_pos rfl] at hre
    have TX := fun L => rtext_gives s (a + 1) g L hq2 (by omega)
    rw [hq1] at TX
    cases ht : textL s1 with
    | none =>
      rw [ht] at hre TX
      dsimp only [obOut] at hre
      have HR := Hn.mk hre.symm
      replace TX : ∀ L, Gives Tryz.prog 50 #[str s, .int .i64 ((a + 1 : Nat) : Int)] g L (.tuple #[str [], .int .i64 (-1)]) := TX
      clear hre
      repeat' (first
    | ((with_reducible apply TL.pure); (· exact yQ); (· rfl))
    | ((with_reducible apply TL.pure (d := 49) (v := .int .u8 34)); (· exact Y.index_at hq0 rfl rfl rfl); (· rfl)) | ((with_reducible apply TW.pure (d := 49) (v := .int .u8 34)); (· exact Y.index_at hq0 rfl rfl rfl); (· rfl))
    | ((with_reducible apply TL.gives_plain); (· kernel_rfl); (· rfl); (· exact B0 _); (· rfl)) | ((with_reducible apply TW.gives_plain); (· kernel_rfl); (· rfl); (· exact B0 _); (· rfl))
    | ((with_reducible apply TL.gives_plain); (· kernel_rfl); (· rfl); (· exact TX _); (· rfl)) | ((with_reducible apply TW.gives_plain); (· kernel_rfl); (· rfl); (· exact TX _); (· rfl))
    | ((with_reducible apply TL.pure); (· exact yV); (· rfl)) | ((with_reducible apply TW.pure); (· exact yV); (· rfl))
    | ((with_reducible apply TL.pure); (· exact yA); (· rfl))
    | refine TC.seq ?_ | refine TC.region ?_ | refine TL.nil ?_ | refine TQ.then_normal ?_
    | ((with_reducible apply TL.storeE); (· rfl); (· rfl); (· rfl); (· exact pkA); (· infer_instance)) | ((with_reducible apply TL.store_whole); (· rfl); (· rfl); (· exact oneA); (· rfl); (· exact pkA); (· rfl))
    | refine TC.block ?_ | refine TC.ret ?_ | refine TC.skip ?_ | refine TC.exit ?_ | refine TC.cond rfl ?_
    | refine TQ.down ?_ | refine TQ.in_exit' rfl ?_
    | refine TL.guard_yes rfl rfl ?_ | refine TL.guard_no rfl rfl rfl rfl ?_ | refine TL.guard_no0 rfl rfl rfl ?_ | refine TL.guard_undef rfl rfl rfl ?_ | refine TL.guard_undef0 rfl rfl ?_ | refine TL.guard rfl rfl rfl ?_
    | refine Br.t rfl ?_ | refine Br.f rfl ?_ | refine Br.ky kpA ?_ | refine Br.kn kpA ?_ | refine Br.nky kpA ?_ | refine Br.nkn kpA ?_
    | refine Br.eq0 (fun _ => ?_) (fun _ => ?_) | refine Br.neq0 (fun _ => ?_) (fun _ => ?_) | refine Br.eq (fun _ => ?_) (fun _ => ?_) | refine Br.neq (fun _ => ?_) (fun _ => ?_) | refine Br.not (fun _ => ?_) (fun _ => ?_) | refine Br.dec (fun _ => ?_) (fun _ => ?_) | refine Br.bool (fun _ => ?_) (fun _ => ?_)
    | ((with_reducible apply TL.alloc_ag); (· rfl); intro _) | ((with_reducible apply TL.alloc_sc); (· rfl); (· rfl); intro _) | ((with_reducible apply TL.box_ag); (· rfl); (· rfl); intro _) | ((with_reducible apply TL.box_sc); (· rfl); (· rfl); (· rfl); intro _))
      exact TQ.weak (H.bad 11 _ HR.out hgx) subA selF
    | some p =>
    obtain ⟨nm, s2⟩ := p
    have lt := textL_ok ht
    have lt1 := lt.2
    have hl1 : s1.length + (a + 1) = s.length := by rw [← hq1, List.length_drop]; omega
    have hdr : s.drop (s.length - s2.length) = s2 := textL_at (i := a + 1) (by rw [hq1]; exact ht)
    rw [ht] at hre TX
    dsimp only at hre
    replace TX : ∀ L, Gives Tryz.prog 50 #[str s, .int .i64 ((a + 1 : Nat) : Int)] g L (.tuple #[str nm, .int .i64 ((s.length - s2.length : Nat) : Int)]) := TX
    have hml : s.length - s2.length ≤ s.length := Nat.sub_le _ _
    have hma : a + 1 < s.length - s2.length := by omega
    have hnm : nm.length ≤ 60000 := by omega
    generalize s.length - s2.length = e at *
    have HAS : ∀ L, Gives Tryz.prog 64 #[.slice an ns.length cn, str nm] g (.row 9 1 (.slice an ns.length cn) ns.length (strs ns) :: L) (.bool (decide (nm ∈ ns))) := fun L => Gives.borrow_row (e := 9) (g := g) (fun g' _ hsl => among_gives an cn ns nm g' L hsl (by omega))
    clear ht lt lt1 hl1 hbl hb0 hq1
    by_cases hin : nm ∈ ns
    · rw [if_pos hin] at hre
      rw [decide_eq_true hin] at HAS
      dsimp only [obOut] at hre
      have HR := Hn.mk hre.symm
      clear hre
      repeat' (first
    | ((with_reducible apply TL.pure); (· exact yQ); (· rfl))
    | ((with_reducible apply TL.pure (d := 49) (v := .int .u8 34)); (· exact Y.index_at hq0 rfl rfl rfl); (· rfl)) | ((with_reducible apply TW.pure (d := 49) (v := .int .u8 34)); (· exact Y.index_at hq0 rfl rfl rfl); (· rfl))
    | ((with_reducible apply TL.gives_plain); (· kernel_rfl); (· rfl); (· exact B0 _); (· rfl)) | ((with_reducible apply TW.gives_plain); (· kernel_rfl); (· rfl); (· exact B0 _); (· rfl))
    | ((with_reducible apply TL.gives_plain); (· kernel_rfl); (· rfl); (· exact TX _); (· rfl)) | ((with_reducible apply TW.gives_plain); (· kernel_rfl); (· rfl); (· exact TX _); (· rfl))
    | refine TL.gives (Enters.plain (by kernel_rfl) (by rfl)) (Gives.perm (HAS _) permF) (by rfl) ?_
    | ((with_reducible apply TL.pure); (· exact yV); (· rfl)) | ((with_reducible apply TW.pure); (· exact yV); (· rfl))
    | ((with_reducible apply TL.pure); (· exact yA); (· rfl))
    | refine TC.seq ?_ | refine TC.region ?_ | refine TL.nil ?_ | refine TQ.then_normal ?_
    | ((with_reducible apply TL.storeE); (· rfl); (· rfl); (· rfl); (· exact pkA); (· infer_instance)) | ((with_reducible apply TL.store_whole); (· rfl); (· rfl); (· exact oneA); (· rfl); (· exact pkA); (· rfl))
    | refine TC.block ?_ | refine TC.ret ?_ | refine TC.skip ?_ | refine TC.exit ?_ | refine TC.cond rfl ?_
    | refine TQ.down ?_ | refine TQ.in_exit' rfl ?_
    | refine TL.guard_yes rfl rfl ?_ | refine TL.guard_no rfl rfl rfl rfl ?_ | refine TL.guard_no0 rfl rfl rfl ?_ | refine TL.guard_undef rfl rfl rfl ?_ | refine TL.guard_undef0 rfl rfl ?_ | refine TL.guard rfl rfl rfl ?_
    | refine Br.t rfl ?_ | refine Br.f rfl ?_ | refine Br.ky kpA ?_ | refine Br.kn kpA ?_ | refine Br.nky kpA ?_ | refine Br.nkn kpA ?_
    | refine Br.eq0 (fun _ => ?_) (fun _ => ?_) | refine Br.neq0 (fun _ => ?_) (fun _ => ?_) | refine Br.eq (fun _ => ?_) (fun _ => ?_) | refine Br.neq (fun _ => ?_) (fun _ => ?_) | refine Br.not (fun _ => ?_) (fun _ => ?_) | refine Br.dec (fun _ => ?_) (fun _ => ?_) | refine Br.bool (fun _ => ?_) (fun _ => ?_)
    | ((with_reducible apply TL.alloc_ag); (· rfl); intro _) | ((with_reducible apply TL.alloc_sc); (· rfl); (· rfl); intro _) | ((with_reducible apply TL.box_ag); (· rfl); (· rfl); intro _) | ((with_reducible apply TL.box_sc); (· rfl); (· rfl); (· rfl); intro _))
      exact TQ.weak (H.bad 13 _ HR.out hgx) subA selF
    rw [if_neg hin] at hre
    rw [decide_eq_false hin] at HAS
    have B2 := fun L => rblanks_gives s e g L hml (by omega)
    have hbd2 := blAt_bd s e hml
    have hbl2 := blAt_drop s e
    generalize blAt s e = f at *
    rw [hdr] at hbl2
    cases hb2 : blL s2 with
    | nil =>
      rw [hb2] at hre hbl2
      dsimp only [obOut] at hre
      have HR := Hn.mk hre.symm
      have hla2 : s.length ≤ f := List.drop_eq_nil_iff.1 hbl2
      clear hre
      repeat' (first
    | ((with_reducible apply TL.pure); (· exact yQ); (· rfl))
    | ((with_reducible apply TL.pure (d := 49) (v := .int .u8 34)); (· exact Y.index_at hq0 rfl rfl rfl); (· rfl)) | ((with_reducible apply TW.pure (d := 49) (v := .int .u8 34)); (· exact Y.index_at hq0 rfl rfl rfl); (· rfl))
    | ((with_reducible apply TL.gives_plain); (· kernel_rfl); (· rfl); (· exact B0 _); (· rfl)) | ((with_reducible apply TW.gives_plain); (· kernel_rfl); (· rfl); (· exact B0 _); (· rfl))
    | ((with_reducible apply TL.gives_plain); (· kernel_rfl); (· rfl); (· exact TX _); (· rfl)) | ((with_reducible apply TW.gives_plain); (· kernel_rfl); (· rfl); (· exact TX _); (· rfl))
    | refine TL.gives (Enters.plain (by kernel_rfl) (by rfl)) (Gives.perm (HAS _) permF) (by rfl) ?_
    | ((with_reducible apply TL.gives_plain); (· kernel_rfl); (· rfl); (· exact B2 _); (· rfl)) | ((with_reducible apply TW.gives_plain); (· kernel_rfl); (· rfl); (· exact B2 _); (· rfl))
    | ((with_reducible apply TL.pure); (· exact yV); (· rfl)) | ((with_reducible apply TW.pure); (· exact yV); (· rfl))
    | ((with_reducible apply TL.pure); (· exact yA); (· rfl))
    | refine TC.seq ?_ | refine TC.region ?_ | refine TL.nil ?_ | refine TQ.then_normal ?_
    | ((with_reducible apply TL.storeE); (· rfl); (· rfl); (· rfl); (· exact pkA); (· infer_instance)) | ((with_reducible apply TL.store_whole); (· rfl); (· rfl); (· exact oneA); (· rfl); (· exact pkA); (· rfl))
    | refine TC.block ?_ | refine TC.ret ?_ | refine TC.skip ?_ | refine TC.exit ?_ | refine TC.cond rfl ?_
    | refine TQ.down ?_ | refine TQ.in_exit' rfl ?_
    | refine TL.guard_yes rfl rfl ?_ | refine TL.guard_no rfl rfl rfl rfl ?_ | refine TL.guard_no0 rfl rfl rfl ?_ | refine TL.guard_undef rfl rfl rfl ?_ | refine TL.guard_undef0 rfl rfl ?_ | refine TL.guard rfl rfl rfl ?_
    | refine Br.t rfl ?_ | refine Br.f rfl ?_ | refine Br.ky kpA ?_ | refine Br.kn kpA ?_ | refine Br.nky kpA ?_ | refine Br.nkn kpA ?_
    | refine Br.eq0 (fun _ => ?_) (fun _ => ?_) | refine Br.neq0 (fun _ => ?_) (fun _ => ?_) | refine Br.eq (fun _ => ?_) (fun _ => ?_) | refine Br.neq (fun _ => ?_) (fun _ => ?_) | refine Br.not (fun _ => ?_) (fun _ => ?_) | refine Br.dec (fun _ => ?_) (fun _ => ?_) | refine Br.bool (fun _ => ?_) (fun _ => ?_)
    | ((with_reducible apply TL.alloc_ag); (· rfl); intro _) | ((with_reducible apply TL.alloc_sc); (· rfl); (· rfl); intro _) | ((with_reducible apply TL.box_ag); (· rfl); (· rfl); intro _) | ((with_reducible apply TL.box_sc); (· rfl); (· rfl); (· rfl); intro _))
      exact TQ.weak (H.bad 11 _ HR.out hgx) subA selF
    | cons k s3 =>
    rw [hb2] at hre hbl2
    dsimp only at hre
    obtain ⟨hk0, hk1, hk2⟩ := at_of_drop hbl2
    by_cases h58 : k = 58
    case neg =>
      rw [if_neg h58] at hre
      dsimp only [obOut] at hre
      have HR := Hn.mk hre.symm
      have K1 : decide (((k.toNat : Nat) : Int) = 58) = false := (u8_dec k 58 58 rfl).trans (decide_eq_false h58)
      clear hre
      repeat' (first
    | ((with_reducible apply TL.pure); (· exact yQ); (· rfl))
    | ((with_reducible apply TL.pure (d := 49) (v := .int .u8 34)); (· exact Y.index_at hq0 rfl rfl rfl); (· rfl)) | ((with_reducible apply TW.pure (d := 49) (v := .int .u8 34)); (· exact Y.index_at hq0 rfl rfl rfl); (· rfl))
    | ((with_reducible apply TL.gives_plain); (· kernel_rfl); (· rfl); (· exact B0 _); (· rfl)) | ((with_reducible apply TW.gives_plain); (· kernel_rfl); (· rfl); (· exact B0 _); (· rfl))
    | ((with_reducible apply TL.gives_plain); (· kernel_rfl); (· rfl); (· exact TX _); (· rfl)) | ((with_reducible apply TW.gives_plain); (· kernel_rfl); (· rfl); (· exact TX _); (· rfl))
    | refine TL.gives (Enters.plain (by kernel_rfl) (by rfl)) (Gives.perm (HAS _) permF) (by rfl) ?_
    | ((with_reducible apply TL.gives_plain); (· kernel_rfl); (· rfl); (· exact B2 _); (· rfl)) | ((with_reducible apply TW.gives_plain); (· kernel_rfl); (· rfl); (· exact B2 _); (· rfl))
    | ((with_reducible apply TL.pure (d := 78) (v := .int .u8 (k.toNat : Nat))); (· exact Y.index_at hk0 rfl rfl rfl); (· rfl)) | ((with_reducible apply TW.pure (d := 78) (v := .int .u8 (k.toNat : Nat))); (· exact Y.index_at hk0 rfl rfl rfl); (· rfl))
    | ((with_reducible apply TL.pure (d := 79) (v := .bool true)); (· exact Y.neqB K1 rfl rfl); (· rfl)) | ((with_reducible apply TW.pure (d := 79) (v := .bool true)); (· exact Y.neqB K1 rfl rfl); (· rfl))
    | ((with_reducible apply TL.pure); (· exact yV); (· rfl)) | ((with_reducible apply TW.pure); (· exact yV); (· rfl))
    | ((with_reducible apply TL.pure); (· exact yA); (· rfl))
    | refine TC.seq ?_ | refine TC.region ?_ | refine TL.nil ?_ | refine TQ.then_normal ?_
    | ((with_reducible apply TL.storeE); (· rfl); (· rfl); (· rfl); (· exact pkA); (· infer_instance)) | ((with_reducible apply TL.store_whole); (· rfl); (· rfl); (· exact oneA); (· rfl); (· exact pkA); (· rfl))
    | refine TC.block ?_ | refine TC.ret ?_ | refine TC.skip ?_ | refine TC.exit ?_ | refine TC.cond rfl ?_
    | refine TQ.down ?_ | refine TQ.in_exit' rfl ?_
    | refine TL.guard_yes rfl rfl ?_ | refine TL.guard_no rfl rfl rfl rfl ?_ | refine TL.guard_no0 rfl rfl rfl ?_ | refine TL.guard_undef rfl rfl rfl ?_ | refine TL.guard_undef0 rfl rfl ?_ | refine TL.guard rfl rfl rfl ?_
    | refine Br.t rfl ?_ | refine Br.f rfl ?_ | refine Br.ky kpA ?_ | refine Br.kn kpA ?_ | refine Br.nky kpA ?_ | refine Br.nkn kpA ?_
    | refine Br.eq0 (fun _ => ?_) (fun _ => ?_) | refine Br.neq0 (fun _ => ?_) (fun _ => ?_) | refine Br.eq (fun _ => ?_) (fun _ => ?_) | refine Br.neq (fun _ => ?_) (fun _ => ?_) | refine Br.not (fun _ => ?_) (fun _ => ?_) | refine Br.dec (fun _ => ?_) (fun _ => ?_) | refine Br.bool (fun _ => ?_) (fun _ => ?_)
    | ((with_reducible apply TL.alloc_ag); (· rfl); intro _) | ((with_reducible apply TL.alloc_sc); (· rfl); (· rfl); intro _) | ((with_reducible apply TL.box_ag); (· rfl); (· rfl); intro _) | ((with_reducible apply TL.box_sc); (· rfl); (· rfl); (· rfl); intro _))
      exact TQ.weak (H.bad 11 _ HR.out hgx) subA selF
    subst h58
    rw [if_pos rfl] at hre
    have VV := fun L => V (f + 1) g L hk2
    rw [hk1] at VV
    have hl3 : s3.length = s.length - (f + 1) := by rw [← hk1, List.length_drop]
    clear hb2 hbl2 hk1 hdr
    cases hv : valT d s3 with
    | error k =>
      rw [hv] at VV hre
      unfold VR at VV
      dsimp only [obOut] at VV hre
      have hk := valT_err d _ _ hv
      have NK := Hn.mk (show ¬ ((k : Nat) : Int) = 0 by omega)
      have HR := Hn.mk hre.symm
      clear hre hk
      repeat' (first
    | ((with_reducible apply TL.pure); (· exact yQ); (· rfl))
    | ((with_reducible apply TL.pure (d := 49) (v := .int .u8 34)); (· exact Y.index_at hq0 rfl rfl rfl); (· rfl)) | ((with_reducible apply TW.pure (d := 49) (v := .int .u8 34)); (· exact Y.index_at hq0 rfl rfl rfl); (· rfl))
    | ((with_reducible apply TL.gives_plain); (· kernel_rfl); (· rfl); (· exact B0 _); (· rfl)) | ((with_reducible apply TW.gives_plain); (· kernel_rfl); (· rfl); (· exact B0 _); (· rfl))
    | ((with_reducible apply TL.gives_plain); (· kernel_rfl); (· rfl); (· exact TX _); (· rfl)) | ((with_reducible apply TW.gives_plain); (· kernel_rfl); (· rfl); (· exact TX _); (· rfl))
    | ((with_reducible apply TL.pure (d := 78) (v := .int .u8 58)); (· exact Y.index_at hk0 rfl rfl rfl); (· rfl)) | ((with_reducible apply TW.pure (d := 78) (v := .int .u8 58)); (· exact Y.index_at hk0 rfl rfl rfl); (· rfl))
    | refine TL.gives (Enters.plain (by kernel_rfl) (by rfl)) (Gives.perm (HAS _) permF) (by rfl) ?_
    | ((with_reducible apply TL.gives_plain); (· kernel_rfl); (· rfl); (· exact B2 _); (· rfl)) | ((with_reducible apply TW.gives_plain); (· kernel_rfl); (· rfl); (· exact B2 _); (· rfl))
    | ((with_reducible apply TL.build_slice); (· rfl); (· rfl); (· exact oneA); (· rfl); (· rfl); (· rfl); intro _) | refine TL.build_one (by rfl) (by first | rfl | assumption) (by rfl) (by rfl) (by rfl) (by rfl) (fun _ => ?_) | refine TL.build_empty (by rfl) (fun _ => ?_)
    | ((with_reducible apply TL.append (e := 9)); (· rfl); (· rfl); (· rfl); (· rfl); (· exact pkA); (· first | exact Src.obj pkA | exact Src.sl (by assumption) | exact Src.row pkA); (· rfl); (· first | rfl | assumption); (· exact ⟨by unfold maxLen; omega, by omega⟩); (· rfl); intro vf; refine Go.TL.TL.row_slice (v := vf) pkA ?_; rintro a3 c3 rfl _)
    | ((with_reducible apply TL.pure); (· exact yV); (· rfl)) | ((with_reducible apply TW.pure); (· exact yV); (· rfl))
    | (refine TL.call (Enters.plain (by kernel_rfl) (by rfl)) (by rfl) (VV _) ?_; (rintro e g1 L1 hg1 ⟨k3, k1⟩; have k3 := k3.symm; subst k3; subst k1; refine CallK.ret ?_))
    | ((with_reducible apply TL.pure); (· exact yA); (· rfl))
    | refine TC.seq ?_ | refine TC.region ?_ | refine TL.nil ?_ | refine TQ.then_normal ?_
    | ((with_reducible apply TL.storeE); (· rfl); (· rfl); (· rfl); (· exact pkA); (· infer_instance)) | ((with_reducible apply TL.store_whole); (· rfl); (· rfl); (· exact oneA); (· rfl); (· exact pkA); (· rfl))
    | refine TC.block ?_ | refine TC.ret ?_ | refine TC.skip ?_ | refine TC.exit ?_ | refine TC.cond rfl ?_
    | refine TQ.down ?_ | refine TQ.in_exit' rfl ?_
    | refine TL.guard_yes rfl rfl ?_ | refine TL.guard_no rfl rfl rfl rfl ?_ | refine TL.guard_no0 rfl rfl rfl ?_ | refine TL.guard_undef rfl rfl rfl ?_ | refine TL.guard_undef0 rfl rfl ?_ | refine TL.guard rfl rfl rfl ?_
    | refine Br.t rfl ?_ | refine Br.f rfl ?_ | refine Br.ky kpA ?_ | refine Br.kn kpA ?_ | refine Br.nky kpA ?_ | refine Br.nkn kpA ?_
    | refine Br.eq0 (fun _ => ?_) (fun _ => ?_) | refine Br.neq0 (fun _ => ?_) (fun _ => ?_) | refine Br.eq (fun _ => ?_) (fun _ => ?_) | refine Br.neq (fun _ => ?_) (fun _ => ?_) | refine Br.not (fun _ => ?_) (fun _ => ?_) | refine Br.dec (fun _ => ?_) (fun _ => ?_) | refine Br.bool (fun _ => ?_) (fun _ => ?_)
    | ((with_reducible apply TL.alloc_ag); (· rfl); intro _) | ((with_reducible apply TL.alloc_sc); (· rfl); (· rfl); intro _) | ((with_reducible apply TL.box_ag); (· rfl); (· rfl); intro _) | ((with_reducible apply TL.box_sc); (· rfl); (· rfl); (· rfl); intro _))
      exact TQ.weak (H.bad k _ HR.out (hgx.trans hg1)) subA selF
    | ok p =>
    obtain ⟨x, r⟩ := p
    rw [hv] at VV hre
    unfold VR at VV
    dsimp only at VV hre
    have hlen1 := valT_len d _ _ _ hv
    have BB := fun j (h : j ≤ s.length) g1 L => rblanks_gives s j g1 L h (by omega)
    clear hv
    cases hbr : blL r with
    | nil =>
      rw [hbr] at hre
      dsimp only [obOut] at hre
      have HR := Hn.mk hre.symm
      clear hre
      repeat' (first
    | ((with_reducible apply TL.pure); (· exact yQ); (· rfl))
    | ((with_reducible apply TL.pure (d := 49) (v := .int .u8 34)); (· exact Y.index_at hq0 rfl rfl rfl); (· rfl)) | ((with_reducible apply TW.pure (d := 49) (v := .int .u8 34)); (· exact Y.index_at hq0 rfl rfl rfl); (· rfl))
    | ((with_reducible apply TL.gives_plain); (· kernel_rfl); (· rfl); (· exact B0 _); (· rfl)) | ((with_reducible apply TW.gives_plain); (· kernel_rfl); (· rfl); (· exact B0 _); (· rfl))
    | ((with_reducible apply TL.gives_plain); (· kernel_rfl); (· rfl); (· exact TX _); (· rfl)) | ((with_reducible apply TW.gives_plain); (· kernel_rfl); (· rfl); (· exact TX _); (· rfl))
    | ((with_reducible apply TL.pure (d := 78) (v := .int .u8 58)); (· exact Y.index_at hk0 rfl rfl rfl); (· rfl)) | ((with_reducible apply TW.pure (d := 78) (v := .int .u8 58)); (· exact Y.index_at hk0 rfl rfl rfl); (· rfl))
    | refine TL.gives (Enters.plain (by kernel_rfl) (by rfl)) (Gives.perm (HAS _) permF) (by rfl) ?_
    | ((with_reducible apply TL.gives_plain); (· kernel_rfl); (· rfl); (· exact B2 _); (· rfl)) | ((with_reducible apply TW.gives_plain); (· kernel_rfl); (· rfl); (· exact B2 _); (· rfl))
    | ((with_reducible apply TL.build_slice); (· rfl); (· rfl); (· exact oneA); (· rfl); (· rfl); (· rfl); intro _) | refine TL.build_one (by rfl) (by first | rfl | assumption) (by rfl) (by rfl) (by rfl) (by rfl) (fun _ => ?_) | refine TL.build_empty (by rfl) (fun _ => ?_)
    | ((with_reducible apply TL.append (e := 9)); (· rfl); (· rfl); (· rfl); (· rfl); (· exact pkA); (· first | exact Src.obj pkA | exact Src.sl (by assumption) | exact Src.row pkA); (· rfl); (· first | rfl | assumption); (· exact ⟨by unfold maxLen; omega, by omega⟩); (· rfl); intro vf; refine Go.TL.TL.row_slice (v := vf) pkA ?_; rintro a3 c3 rfl _)
    | ((with_reducible apply TL.pure); (· exact yV); (· rfl)) | ((with_reducible apply TW.pure); (· exact yV); (· rfl))
    | (refine TL.call (Enters.plain (by kernel_rfl) (by rfl)) (by rfl) (VV _) ?_; (rintro e g1 L1 hg1 ⟨k3, cs, j, k1, hj, hdr, hV⟩; have k3 := k3.symm; obtain ⟨vk, vb, vm, vt, aj, lj, cj, an', ln, cn', rfl⟩ := isV_six hV; subst k3; subst k1; (try dsimp only at hdr); (try dsimp only at hV); have HV := Hn.mk hV; clear hV; have HN := List.drop_eq_nil_iff.1 ((blAt_drop s j).trans (hdr ▸ hbr)); refine CallK.ret ?_))
    | ((with_reducible apply TL.append (e := 29)); (· rfl); (· rfl); (· rfl); (· rfl); (· exact pkA); (· first | exact Src.obj pkA | exact Src.sl (by assumption) | exact Src.row pkA); (· rfl); (· first | rfl | assumption); (· exact ⟨by unfold maxLen; omega, by omega⟩); (· rfl); intro vf; refine Go.TL.TL.row_slice (v := vf) pkA ?_; rintro a2 c2 rfl _)
    | ((with_reducible apply TL.gives_plain); (· kernel_rfl); (· rfl); (· exact BB j hj _ _); (· rfl)) | ((with_reducible apply TW.gives_plain); (· kernel_rfl); (· rfl); (· exact BB j hj _ _); (· rfl))
    | ((with_reducible apply TL.pure); (· exact yA); (· rfl))
    | refine TC.seq ?_ | refine TC.region ?_ | refine TL.nil ?_ | refine TQ.then_normal ?_
    | ((with_reducible apply TL.storeE); (· rfl); (· rfl); (· rfl); (· exact pkA); (· infer_instance)) | ((with_reducible apply TL.store_whole); (· rfl); (· rfl); (· exact oneA); (· rfl); (· exact pkA); (· rfl))
    | refine TC.block ?_ | refine TC.ret ?_ | refine TC.skip ?_ | refine TC.exit ?_ | refine TC.cond rfl ?_
    | refine TQ.down ?_ | refine TQ.in_exit' rfl ?_
    | refine TL.guard_yes rfl rfl ?_ | refine TL.guard_no rfl rfl rfl rfl ?_ | refine TL.guard_no0 rfl rfl rfl ?_ | refine TL.guard_undef rfl rfl rfl ?_ | refine TL.guard_undef0 rfl rfl ?_ | refine TL.guard rfl rfl rfl ?_
    | refine Br.t rfl ?_ | refine Br.f rfl ?_ | refine Br.ky kpA ?_ | refine Br.kn kpA ?_ | refine Br.nky kpA ?_ | refine Br.nkn kpA ?_
    | refine Br.eq0 (fun _ => ?_) (fun _ => ?_) | refine Br.neq0 (fun _ => ?_) (fun _ => ?_) | refine Br.eq (fun _ => ?_) (fun _ => ?_) | refine Br.neq (fun _ => ?_) (fun _ => ?_) | refine Br.not (fun _ => ?_) (fun _ => ?_) | refine Br.dec (fun _ => ?_) (fun _ => ?_) | refine Br.bool (fun _ => ?_) (fun _ => ?_)
    | ((with_reducible apply TL.alloc_ag); (· rfl); intro _) | ((with_reducible apply TL.alloc_sc); (· rfl); (· rfl); intro _) | ((with_reducible apply TL.box_ag); (· rfl); (· rfl); intro _) | ((with_reducible apply TL.box_sc); (· rfl); (· rfl); (· rfl); intro _))
      exact TQ.weak (H.bad 11 _ HR.out (hgx.trans hg1)) subA selF
    | cons c t =>
    rw [hbr] at hre
    dsimp only at hre
    by_cases h93 : c = 125
    · subst h93
      rw [if_pos rfl] at hre
      have HR := Hn.mk hre.symm
      clear hre
      repeat' (first
    | ((with_reducible apply TL.pure); (· exact yQ); (· rfl))
    | ((with_reducible apply TL.pure (d := 49) (v := .int .u8 34)); (· exact Y.index_at hq0 rfl rfl rfl); (· rfl)) | ((with_reducible apply TW.pure (d := 49) (v := .int .u8 34)); (· exact Y.index_at hq0 rfl rfl rfl); (· rfl))
    | ((with_reducible apply TL.gives_plain); (· kernel_rfl); (· rfl); (· exact B0 _); (· rfl)) | ((with_reducible apply TW.gives_plain); (· kernel_rfl); (· rfl); (· exact B0 _); (· rfl))
    | ((with_reducible apply TL.gives_plain); (· kernel_rfl); (· rfl); (· exact TX _); (· rfl)) | ((with_reducible apply TW.gives_plain); (· kernel_rfl); (· rfl); (· exact TX _); (· rfl))
    | ((with_reducible apply TL.pure (d := 78) (v := .int .u8 58)); (· exact Y.index_at hk0 rfl rfl rfl); (· rfl)) | ((with_reducible apply TW.pure (d := 78) (v := .int .u8 58)); (· exact Y.index_at hk0 rfl rfl rfl); (· rfl))
    | refine TL.gives (Enters.plain (by kernel_rfl) (by rfl)) (Gives.perm (HAS _) permF) (by rfl) ?_
    | ((with_reducible apply TL.gives_plain); (· kernel_rfl); (· rfl); (· exact B2 _); (· rfl)) | ((with_reducible apply TW.gives_plain); (· kernel_rfl); (· rfl); (· exact B2 _); (· rfl))
    | ((with_reducible apply TL.build_slice); (· rfl); (· rfl); (· exact oneA); (· rfl); (· rfl); (· rfl); intro _) | refine TL.build_one (by rfl) (by first | rfl | assumption) (by rfl) (by rfl) (by rfl) (by rfl) (fun _ => ?_) | refine TL.build_empty (by rfl) (fun _ => ?_)
    | ((with_reducible apply TL.append (e := 9)); (· rfl); (· rfl); (· rfl); (· rfl); (· exact pkA); (· first | exact Src.obj pkA | exact Src.sl (by assumption) | exact Src.row pkA); (· rfl); (· first | rfl | assumption); (· exact ⟨by unfold maxLen; omega, by omega⟩); (· rfl); intro vf; refine Go.TL.TL.row_slice (v := vf) pkA ?_; rintro a3 c3 rfl _)
    | (refine TL.call (Enters.plain (by kernel_rfl) (by rfl)) (by rfl) (VV _) ?_; (rintro e g1 L1 hg1 ⟨k3, cs, j, k1, hj, hdr, hV⟩; have k3 := k3.symm; obtain ⟨vk, vb, vm, vt, aj, lj, cj, an', ln, cn', rfl⟩ := isV_six hV; subst k3; subst k1; (try dsimp only at hdr); (try dsimp only at hV); have HV := Hn.mk hV; clear hV; obtain ⟨hn1, hn2, hn3⟩ := at_of_drop ((blAt_drop s j).trans (hdr ▸ hbr)); refine CallK.ret ?_))
    | ((with_reducible apply TL.pure (d := 118) (v := .int .u8 125)); (· exact Y.index_at hn1 rfl rfl rfl); (· rfl)) | ((with_reducible apply TW.pure (d := 118) (v := .int .u8 125)); (· exact Y.index_at hn1 rfl rfl rfl); (· rfl))
    | ((with_reducible apply TL.pure); (· exact yV); (· rfl)) | ((with_reducible apply TW.pure); (· exact yV); (· rfl))
    | ((with_reducible apply TL.append (e := 29)); (· rfl); (· rfl); (· rfl); (· rfl); (· exact pkA); (· first | exact Src.obj pkA | exact Src.sl (by assumption) | exact Src.row pkA); (· rfl); (· first | rfl | assumption); (· exact ⟨by unfold maxLen; omega, by omega⟩); (· rfl); intro vf; refine Go.TL.TL.row_slice (v := vf) pkA ?_; rintro a2 c2 rfl _)
    | ((with_reducible apply TL.gives_plain); (· kernel_rfl); (· rfl); (· exact BB j hj _ _); (· rfl)) | ((with_reducible apply TW.gives_plain); (· kernel_rfl); (· rfl); (· exact BB j hj _ _); (· rfl))
    | ((with_reducible apply TL.pure); (· exact yA); (· rfl))
    | refine TC.seq ?_ | refine TC.region ?_ | refine TL.nil ?_ | refine TQ.then_normal ?_
    | ((with_reducible apply TL.storeE); (· rfl); (· rfl); (· rfl); (· exact pkA); (· infer_instance)) | ((with_reducible apply TL.store_whole); (· rfl); (· rfl); (· exact oneA); (· rfl); (· exact pkA); (· rfl))
    | refine TC.block ?_ | refine TC.ret ?_ | refine TC.skip ?_ | refine TC.exit ?_ | refine TC.cond rfl ?_
    | refine TQ.down ?_ | refine TQ.in_exit' rfl ?_
    | refine TL.guard_yes rfl rfl ?_ | refine TL.guard_no rfl rfl rfl rfl ?_ | refine TL.guard_no0 rfl rfl rfl ?_ | refine TL.guard_undef rfl rfl rfl ?_ | refine TL.guard_undef0 rfl rfl ?_ | refine TL.guard rfl rfl rfl ?_
    | refine Br.t rfl ?_ | refine Br.f rfl ?_ | refine Br.ky kpA ?_ | refine Br.kn kpA ?_ | refine Br.nky kpA ?_ | refine Br.nkn kpA ?_
    | refine Br.eq0 (fun _ => ?_) (fun _ => ?_) | refine Br.neq0 (fun _ => ?_) (fun _ => ?_) | refine Br.eq (fun _ => ?_) (fun _ => ?_) | refine Br.neq (fun _ => ?_) (fun _ => ?_) | refine Br.not (fun _ => ?_) (fun _ => ?_) | refine Br.dec (fun _ => ?_) (fun _ => ?_) | refine Br.bool (fun _ => ?_) (fun _ => ?_)
    | ((with_reducible apply TL.alloc_ag); (· rfl); intro _) | ((with_reducible apply TL.alloc_sc); (· rfl); (· rfl); intro _) | ((with_reducible apply TL.box_ag); (· rfl); (· rfl); intro _) | ((with_reducible apply TL.box_sc); (· rfl); (· rfl); (· rfl); intro _))
      refine TQ.freeze (v := .slice a2 (xs.length + 1) c2) pkA ?_
      intro g' hg' hsl
      refine TQ.freeze (v := .slice a3 (ns.length + 1) c3) pkA ?_
      intro g2 hg2 hsl2
      replace hsl2 : Sl g2 (.slice a3 (ns.length + 1) c3) (ns.length + 1) 1 (strs (ns ++ [nm])) := by rw [← strs_one8]; exact hsl2
      refine TQ.weak (H.ok (.obj (ns ++ [nm]) (xs ++ [x]), t) (ocell (.slice a2 (xs.length + 1) c2) (.slice a3 (ns.length + 1) c3)) (blAt s j + 1) g2 HR.out (((hgx.trans hg1).trans hg').trans hg2) (by omega) hn2 ?_) subA selF
      dsimp only
      rw [ofJ_obj, IsV]
      refine ⟨_, _, fl ++ [.int .i64 vk, .bool vb, .int .i64 vm, str vt, .slice aj lj cj, .slice an' ln cn'], rfl, by omega, by omega, by simp, ?_, ?_, ?_, ?_, ?_, ?_⟩
      · rw [List.length_map, List.length_append, List.length_singleton]; exact hsl.le hg2
      · rw [List.length_map, List.length_append, List.length_singleton]; omega
      · rw [List.map_append]; exact IsVs.le (hg'.trans hg2) _ _ ((IsVs.le hg1 _ _ HJ.out).snoc4 HV.out)
      · rw [List.length_append, List.length_singleton]; exact hsl2
      · rw [List.length_append, List.length_singleton]; omega
      · intro y hy
        rcases List.mem_append.1 hy with hy | hy
        · exact Nat.le_trans (HB.out y hy) (by decide)
        · rw [List.mem_singleton] at hy; subst hy; omega
    rw [if_neg h93] at hre
    by_cases h44 : c = 44
    · subst h44
      rw [if_pos rfl] at hre
      have hre2 : obOut (ns ++ [nm]) (xs ++ [x]) (mbrP (valT d) m (ns ++ [nm]) t) = R := by
        rw [← hre]
        cases mbrP (valT d) m (ns ++ [nm]) t with
        | error e => rfl
        | ok p => show Except.ok (J.obj _ _, _) = Except.ok (J.obj _ _, _); rw [List.append_assoc, List.append_assoc]; rfl
      have HR := Hn.mk hre2
      clear hre hre2
      repeat' (first
    | ((with_reducible apply TL.pure); (· exact yQ); (· rfl))
    | ((with_reducible apply TL.pure (d := 49) (v := .int .u8 34)); (· exact Y.index_at hq0 rfl rfl rfl); (· rfl)) | ((with_reducible apply TW.pure (d := 49) (v := .int .u8 34)); (· exact Y.index_at hq0 rfl rfl rfl); (· rfl))
    | ((with_reducible apply TL.gives_plain); (· kernel_rfl); (· rfl); (· exact B0 _); (· rfl)) | ((with_reducible apply TW.gives_plain); (· kernel_rfl); (· rfl); (· exact B0 _); (· rfl))
    | ((with_reducible apply TL.gives_plain); (· kernel_rfl); (· rfl); (· exact TX _); (· rfl)) | ((with_reducible apply TW.gives_plain); (· kernel_rfl); (· rfl); (· exact TX _); (· rfl))
    | ((with_reducible apply TL.pure (d := 78) (v := .int .u8 58)); (· exact Y.index_at hk0 rfl rfl rfl); (· rfl)) | ((with_reducible apply TW.pure (d := 78) (v := .int .u8 58)); (· exact Y.index_at hk0 rfl rfl rfl); (· rfl))
    | refine TL.gives (Enters.plain (by kernel_rfl) (by rfl)) (Gives.perm (HAS _) permF) (by rfl) ?_
    | ((with_reducible apply TL.gives_plain); (· kernel_rfl); (· rfl); (· exact B2 _); (· rfl)) | ((with_reducible apply TW.gives_plain); (· kernel_rfl); (· rfl); (· exact B2 _); (· rfl))
    | ((with_reducible apply TL.build_slice); (· rfl); (· rfl); (· exact oneA); (· rfl); (· rfl); (· rfl); intro _) | refine TL.build_one (by rfl) (by first | rfl | assumption) (by rfl) (by rfl) (by rfl) (by rfl) (fun _ => ?_) | refine TL.build_empty (by rfl) (fun _ => ?_)
    | ((with_reducible apply TL.append (e := 9)); (· rfl); (· rfl); (· rfl); (· rfl); (· exact pkA); (· first | exact Src.obj pkA | exact Src.sl (by assumption) | exact Src.row pkA); (· rfl); (· first | rfl | assumption); (· exact ⟨by unfold maxLen; omega, by omega⟩); (· rfl); intro vf; refine Go.TL.TL.row_slice (v := vf) pkA ?_; rintro a3 c3 rfl _)
    | (refine TL.call (Enters.plain (by kernel_rfl) (by rfl)) (by rfl) (VV _) ?_; (rintro e g1 L1 hg1 ⟨k3, cs, j, k1, hj, hdr, hV⟩; have k3 := k3.symm; obtain ⟨vk, vb, vm, vt, aj, lj, cj, an', ln, cn', rfl⟩ := isV_six hV; subst k3; subst k1; (try dsimp only at hdr); (try dsimp only at hV); have HV := Hn.mk hV; clear hV; obtain ⟨hn1, hn2, hn3⟩ := at_of_drop ((blAt_drop s j).trans (hdr ▸ hbr)); refine CallK.ret ?_))
    | ((with_reducible apply TL.pure (d := 118) (v := .int .u8 44)); (· exact Y.index_at hn1 rfl rfl rfl); (· rfl)) | ((with_reducible apply TW.pure (d := 118) (v := .int .u8 44)); (· exact Y.index_at hn1 rfl rfl rfl); (· rfl))
    | ((with_reducible apply TL.pure (d := 132) (v := .int .u8 44)); (· exact Y.index_at hn1 rfl rfl rfl); (· rfl)) | ((with_reducible apply TW.pure (d := 132) (v := .int .u8 44)); (· exact Y.index_at hn1 rfl rfl rfl); (· rfl))
    | ((with_reducible apply TL.pure); (· exact yV); (· rfl)) | ((with_reducible apply TW.pure); (· exact yV); (· rfl))
    | ((with_reducible apply TL.append (e := 29)); (· rfl); (· rfl); (· rfl); (· rfl); (· exact pkA); (· first | exact Src.obj pkA | exact Src.sl (by assumption) | exact Src.row pkA); (· rfl); (· first | rfl | assumption); (· exact ⟨by unfold maxLen; omega, by omega⟩); (· rfl); intro vf; refine Go.TL.TL.row_slice (v := vf) pkA ?_; rintro a2 c2 rfl _)
    | ((with_reducible apply TL.gives_plain); (· kernel_rfl); (· rfl); (· exact BB j hj _ _); (· rfl)) | ((with_reducible apply TW.gives_plain); (· kernel_rfl); (· rfl); (· exact BB j hj _ _); (· rfl))
    | ((with_reducible apply TL.pure); (· exact yA); (· rfl))
    | refine TC.seq ?_ | refine TC.region ?_ | refine TL.nil ?_ | refine TQ.then_normal ?_
    | ((with_reducible apply TL.storeE); (· rfl); (· rfl); (· rfl); (· exact pkA); (· infer_instance)) | ((with_reducible apply TL.store_whole); (· rfl); (· rfl); (· exact oneA); (· rfl); (· exact pkA); (· rfl))
    | refine TC.block ?_ | refine TC.ret ?_ | refine TC.skip ?_ | refine TC.exit ?_ | refine TC.cond rfl ?_
    | refine TQ.down ?_ | refine TQ.in_exit' rfl ?_
    | refine TL.guard_yes rfl rfl ?_ | refine TL.guard_no rfl rfl rfl rfl ?_ | refine TL.guard_no0 rfl rfl rfl ?_ | refine TL.guard_undef rfl rfl rfl ?_ | refine TL.guard_undef0 rfl rfl ?_ | refine TL.guard rfl rfl rfl ?_
    | refine Br.t rfl ?_ | refine Br.f rfl ?_ | refine Br.ky kpA ?_ | refine Br.kn kpA ?_ | refine Br.nky kpA ?_ | refine Br.nkn kpA ?_
    | refine Br.eq0 (fun _ => ?_) (fun _ => ?_) | refine Br.neq0 (fun _ => ?_) (fun _ => ?_) | refine Br.eq (fun _ => ?_) (fun _ => ?_) | refine Br.neq (fun _ => ?_) (fun _ => ?_) | refine Br.not (fun _ => ?_) (fun _ => ?_) | refine Br.dec (fun _ => ?_) (fun _ => ?_) | refine Br.bool (fun _ => ?_) (fun _ => ?_)
    | ((with_reducible apply TL.alloc_ag); (· rfl); intro _) | ((with_reducible apply TL.alloc_sc); (· rfl); (· rfl); intro _) | ((with_reducible apply TL.box_ag); (· rfl); (· rfl); intro _) | ((with_reducible apply TL.box_sc); (· rfl); (· rfl); (· rfl); intro _))
      have hlen : xs.length + 1 = (xs ++ [x]).length := by rw [List.length_append, List.length_singleton]
      have hnlen : ns.length + 1 = (ns ++ [nm]).length := by rw [List.length_append, List.length_singleton]
      have hkey : ∀ y, y = str nm → strs ns ++ [y] = strs (ns ++ [nm]) := fun y h => by rw [h]; exact strs_one8 ns nm
      rw [hlen, hnlen, hkey]
      rotate_left
      · rfl
      have hb := blAt_bd s j hj
      rw [← hdr, List.length_drop] at hlen1
      refine TQ.weak (H.rnd (blAt s j + 1) (ns ++ [nm]) (xs ++ [x]) (fl ++ [.int .i64 vk, .bool vb, .int .i64 vm, str vt, .slice aj lj cj, .slice an' ln cn']) (.slice a2 (xs ++ [x]).length c2) (.slice a3 (ns ++ [nm]).length c3) m g1 ⟨by dsimp only; omega, hgx.trans hg1, ?_, ?_, ⟨?_, ?_, ?_⟩, ?_, ?_⟩ ?_) subA selF
      · dsimp only; rw [List.map_append]; exact (IsVs.le hg1 _ _ HJ.out).snoc4 HV.out
      · intro y hy
        rcases List.mem_append.1 hy with hy | hy
        · exact HB.out y hy
        · rw [List.mem_singleton] at hy; subst hy; exact hnm
      · dsimp only; rw [← hlen, ← hnlen, hnx]
      · dsimp only; rw [← hlen]; omega
      · dsimp only; rw [← hlen, List.length_append, hfl]; simp only [List.length_cons, List.length_nil]; omega
      · dsimp only; omega
      · dsimp only; rw [hn2]; exact HR.out
      · omega
    · rw [if_neg h44] at hre
      dsimp only [obOut] at hre
      have HR := Hn.mk hre.symm
      have K1 : decide (((c.toNat : Nat) : Int) = 125) = false := (u8_dec c 125 125 rfl).trans (decide_eq_false h93)
      have K2 : decide (((c.toNat : Nat) : Int) = 44) = false := (u8_dec c 44 44 rfl).trans (decide_eq_false h44)
      clear hre
      repeat' (first
    | ((with_reducible apply TL.pure); (· exact yQ); (· rfl))
    | ((with_reducible apply TL.pure (d := 49) (v := .int .u8 34)); (· exact Y.index_at hq0 rfl rfl rfl); (· rfl)) | ((with_reducible apply TW.pure (d := 49) (v := .int .u8 34)); (· exact Y.index_at hq0 rfl rfl rfl); (· rfl))
    | ((with_reducible apply TL.gives_plain); (· kernel_rfl); (· rfl); (· exact B0 _); (· rfl)) | ((with_reducible apply TW.gives_plain); (· kernel_rfl); (· rfl); (· exact B0 _); (· rfl))
    | ((with_reducible apply TL.gives_plain); (· kernel_rfl); (· rfl); (· exact TX _); (· rfl)) | ((with_reducible apply TW.gives_plain); (· kernel_rfl); (· rfl); (· exact TX _); (· rfl))
    | ((with_reducible apply TL.pure (d := 78) (v := .int .u8 58)); (· exact Y.index_at hk0 rfl rfl rfl); (· rfl)) | ((with_reducible apply TW.pure (d := 78) (v := .int .u8 58)); (· exact Y.index_at hk0 rfl rfl rfl); (· rfl))
    | refine TL.gives (Enters.plain (by kernel_rfl) (by rfl)) (Gives.perm (HAS _) permF) (by rfl) ?_
    | ((with_reducible apply TL.gives_plain); (· kernel_rfl); (· rfl); (· exact B2 _); (· rfl)) | ((with_reducible apply TW.gives_plain); (· kernel_rfl); (· rfl); (· exact B2 _); (· rfl))
    | ((with_reducible apply TL.build_slice); (· rfl); (· rfl); (· exact oneA); (· rfl); (· rfl); (· rfl); intro _) | refine TL.build_one (by rfl) (by first | rfl | assumption) (by rfl) (by rfl) (by rfl) (by rfl) (fun _ => ?_) | refine TL.build_empty (by rfl) (fun _ => ?_)
    | ((with_reducible apply TL.append (e := 9)); (· rfl); (· rfl); (· rfl); (· rfl); (· exact pkA); (· first | exact Src.obj pkA | exact Src.sl (by assumption) | exact Src.row pkA); (· rfl); (· first | rfl | assumption); (· exact ⟨by unfold maxLen; omega, by omega⟩); (· rfl); intro vf; refine Go.TL.TL.row_slice (v := vf) pkA ?_; rintro a3 c3 rfl _)
    | (refine TL.call (Enters.plain (by kernel_rfl) (by rfl)) (by rfl) (VV _) ?_; (rintro e g1 L1 hg1 ⟨k3, cs, j, k1, hj, hdr, hV⟩; have k3 := k3.symm; obtain ⟨vk, vb, vm, vt, aj, lj, cj, an', ln, cn', rfl⟩ := isV_six hV; subst k3; subst k1; (try dsimp only at hdr); (try dsimp only at hV); have HV := Hn.mk hV; clear hV; obtain ⟨hn1, hn2, hn3⟩ := at_of_drop ((blAt_drop s j).trans (hdr ▸ hbr)); refine CallK.ret ?_))
    | ((with_reducible apply TL.pure (d := 118) (v := .int .u8 (c.toNat : Nat))); (· exact Y.index_at hn1 rfl rfl rfl); (· rfl)) | ((with_reducible apply TW.pure (d := 118) (v := .int .u8 (c.toNat : Nat))); (· exact Y.index_at hn1 rfl rfl rfl); (· rfl))
    | ((with_reducible apply TL.pure (d := 120) (v := .bool false)); (· exact Y.eql_b K1 rfl rfl); (· rfl)) | ((with_reducible apply TW.pure (d := 120) (v := .bool false)); (· exact Y.eql_b K1 rfl rfl); (· rfl))
    | ((with_reducible apply TL.pure (d := 132) (v := .int .u8 (c.toNat : Nat))); (· exact Y.index_at hn1 rfl rfl rfl); (· rfl)) | ((with_reducible apply TW.pure (d := 132) (v := .int .u8 (c.toNat : Nat))); (· exact Y.index_at hn1 rfl rfl rfl); (· rfl))
    | ((with_reducible apply TL.pure (d := 133) (v := .bool true)); (· exact Y.neqB K2 rfl rfl); (· rfl)) | ((with_reducible apply TW.pure (d := 133) (v := .bool true)); (· exact Y.neqB K2 rfl rfl); (· rfl))
    | ((with_reducible apply TL.pure); (· exact yV); (· rfl)) | ((with_reducible apply TW.pure); (· exact yV); (· rfl))
    | ((with_reducible apply TL.append (e := 29)); (· rfl); (· rfl); (· rfl); (· rfl); (· exact pkA); (· first | exact Src.obj pkA | exact Src.sl (by assumption) | exact Src.row pkA); (· rfl); (· first | rfl | assumption); (· exact ⟨by unfold maxLen; omega, by omega⟩); (· rfl); intro vf; refine Go.TL.TL.row_slice (v := vf) pkA ?_; rintro a2 c2 rfl _)
    | ((with_reducible apply TL.gives_plain); (· kernel_rfl); (· rfl); (· exact BB j hj _ _); (· rfl)) | ((with_reducible apply TW.gives_plain); (· kernel_rfl); (· rfl); (· exact BB j hj _ _); (· rfl))
    | ((with_reducible apply TL.pure); (· exact yA); (· rfl))
    | refine TC.seq ?_ | refine TC.region ?_ | refine TL.nil ?_ | refine TQ.then_normal ?_
    | ((with_reducible apply TL.storeE); (· rfl); (· rfl); (· rfl); (· exact pkA); (· infer_instance)) | ((with_reducible apply TL.store_whole); (· rfl); (· rfl); (· exact oneA); (· rfl); (· exact pkA); (· rfl))
    | refine TC.block ?_ | refine TC.ret ?_ | refine TC.skip ?_ | refine TC.exit ?_ | refine TC.cond rfl ?_
    | refine TQ.down ?_ | refine TQ.in_exit' rfl ?_
    | refine TL.guard_yes rfl rfl ?_ | refine TL.guard_no rfl rfl rfl rfl ?_ | refine TL.guard_no0 rfl rfl rfl ?_ | refine TL.guard_undef rfl rfl rfl ?_ | refine TL.guard_undef0 rfl rfl ?_ | refine TL.guard rfl rfl rfl ?_
    | refine Br.t rfl ?_ | refine Br.f rfl ?_ | refine Br.ky kpA ?_ | refine Br.kn kpA ?_ | refine Br.nky kpA ?_ | refine Br.nkn kpA ?_
    | refine Br.eq0 (fun _ => ?_) (fun _ => ?_) | refine Br.neq0 (fun _ => ?_) (fun _ => ?_) | refine Br.eq (fun _ => ?_) (fun _ => ?_) | refine Br.neq (fun _ => ?_) (fun _ => ?_) | refine Br.not (fun _ => ?_) (fun _ => ?_) | refine Br.dec (fun _ => ?_) (fun _ => ?_) | refine Br.bool (fun _ => ?_) (fun _ => ?_)
    | ((with_reducible apply TL.alloc_ag); (· rfl); intro _) | ((with_reducible apply TL.alloc_sc); (· rfl); (· rfl); intro _) | ((with_reducible apply TL.box_ag); (· rfl); (· rfl); intro _) | ((with_reducible apply TL.box_sc); (· rfl); (· rfl); (· rfl); intro _))
      exact TQ.weak (H.bad 11 _ HR.out (hgx.trans hg1)) subA selF
set_option maxHeartbeats 64000000 in
theorem rparts_obj (d : Nat) (_hd : d ≤ 32) (s : List UInt8) (V : RValOk d s) (i0 : Nat) (hi0 : i0 ≤ s.length) (hs : s.length ≤ 60000) (g : Gh) (L : List Ent) : Does Tryz.prog 51 #[str s, .int .i64 (i0 : Nat), .int .i64 ((32 - d : Nat) : Int), .bool true] g L (VR (mbrW (valT d) (s.drop i0)) s L) := by
  refine Does.of4 Tryz.func51 rfl Tryz.ntmps51 rfl ?_
  have B0 := fun L => rblanks_gives s i0 g L hi0 (by omega)
  have hbd := blAt_bd s i0 hi0
  have hbl := blAt_drop s i0
  rw [mbrW_eq, ← hbl]
  generalize blAt s i0 = a at *
  by_cases h93 : s[a]? = some 125
  · have hh : (s.drop a).head? = some 125 := by rw [drop_of_get h93]; rfl
    rw [if_pos hh]
    have hq := (List.getElem?_eq_some_iff.1 h93).1
    have HD := Hn.mk (show s.drop (a + 1) = (s.drop a).drop 1 from (List.drop_drop ..).symm)
    clear hbl hh
    repeat' (first
    | ((with_reducible apply TL.pure); (· exact yQ); (· rfl))
    | ((with_reducible apply TL.pure (d := 31) (v := .int .u8 125)); (· exact Y.index_at h93 rfl rfl rfl); (· rfl)) | ((with_reducible apply TW.pure (d := 31) (v := .int .u8 125)); (· exact Y.index_at h93 rfl rfl rfl); (· rfl))
    | ((with_reducible apply TL.pure); (· exact yV); (· rfl)) | ((with_reducible apply TW.pure); (· exact yV); (· rfl))
    | ((with_reducible apply TL.gives_plain); (· kernel_rfl); (· rfl); (· exact B0 _); (· rfl)) | ((with_reducible apply TW.gives_plain); (· kernel_rfl); (· rfl); (· exact B0 _); (· rfl))
    | ((with_reducible apply TL.storeK); (· rfl); (· rfl); (· rfl); (· exact pkA); (· exact Nat.le_of_ble_eq_true rfl))
    | ((with_reducible apply TL.pure); (· exact yA); (· rfl))
    | refine TC.seq ?_ | refine TC.region ?_ | refine TL.nil ?_ | refine TQ.then_normal ?_
    | ((with_reducible apply TL.storeE); (· rfl); (· rfl); (· rfl); (· exact pkA); (· infer_instance)) | ((with_reducible apply TL.store_whole); (· rfl); (· rfl); (· exact oneA); (· rfl); (· exact pkA); (· rfl))
    | refine TC.block ?_ | refine TC.ret ?_ | refine TC.skip ?_ | refine TC.exit ?_ | refine TC.cond rfl ?_
    | refine TQ.down ?_ | refine TQ.in_exit' rfl ?_
    | refine TL.guard_yes rfl rfl ?_ | refine TL.guard_no rfl rfl rfl rfl ?_ | refine TL.guard_no0 rfl rfl rfl ?_ | refine TL.guard_undef rfl rfl rfl ?_ | refine TL.guard_undef0 rfl rfl ?_ | refine TL.guard rfl rfl rfl ?_
    | refine Br.t rfl ?_ | refine Br.f rfl ?_ | refine Br.ky kpA ?_ | refine Br.kn kpA ?_ | refine Br.nky kpA ?_ | refine Br.nkn kpA ?_
    | refine Br.eq0 (fun _ => ?_) (fun _ => ?_) | refine Br.neq0 (fun _ => ?_) (fun _ => ?_) | refine Br.eq (fun _ => ?_) (fun _ => ?_) | refine Br.neq (fun _ => ?_) (fun _ => ?_) | refine Br.not (fun _ => ?_) (fun _ => ?_) | refine Br.dec (fun _ => ?_) (fun _ => ?_) | refine Br.bool (fun _ => ?_) (fun _ => ?_)
    | ((with_reducible apply TL.alloc_ag); (· rfl); intro _) | ((with_reducible apply TL.alloc_sc); (· rfl); (· rfl); intro _) | ((with_reducible apply TL.box_ag); (· rfl); (· rfl); intro _) | ((with_reducible apply TL.box_sc); (· rfl); (· rfl); (· rfl); intro _))
    refine TQ.endR3 (L' := L) Tryz.results51 rvA rvA rvA rfl (.refl _) ?_ selF
    refine ⟨rfl, _, a + 1, rfl, by omega, HD.out, ?_⟩
    rw [ofJ_obj]
    exact isV_flat (by omega) (by omega) (by simp)
  have hh : ¬ (s.drop a).head? = some 125 := fun e => by
    cases hq : s.drop a with
    | nil => rw [hq] at e; cases e
    | cons c t =>
      rw [hq] at e
      obtain rfl := Option.some.inj e
      exact h93 (at_of_drop hq).1
  rw [if_neg hh]
  obtain ⟨R, hR⟩ : ∃ R, R = obOut [] [] (mbrP (valT d) ((s.drop a).length + 1) [] (s.drop a)) := ⟨_, rfl⟩
  rw [← hR]
  clear hh hbl
  cases hq : s.drop a with
  | nil =>
    have hla : s.length ≤ a := List.drop_eq_nil_iff.1 hq
    repeat' (first
    | ((with_reducible apply TL.pure); (· exact yQ); (· rfl))
    | ((with_reducible apply TL.pure); (· exact yV); (· rfl)) | ((with_reducible apply TW.pure); (· exact yV); (· rfl))
    | ((with_reducible apply TL.gives_plain); (· kernel_rfl); (· rfl); (· exact B0 _); (· rfl)) | ((with_reducible apply TW.gives_plain); (· kernel_rfl); (· rfl); (· exact B0 _); (· rfl))
    | ((with_reducible apply TL.storeK); (· rfl); (· rfl); (· rfl); (· exact pkA); (· exact Nat.le_of_ble_eq_true rfl))
    | ((with_reducible apply TL.pure); (· exact yA); (· rfl))
    | refine TC.seq ?_ | refine TC.region ?_ | refine TL.nil ?_ | refine TQ.then_normal ?_
    | ((with_reducible apply TL.storeE); (· rfl); (· rfl); (· rfl); (· exact pkA); (· infer_instance)) | ((with_reducible apply TL.store_whole); (· rfl); (· rfl); (· exact oneA); (· rfl); (· exact pkA); (· rfl))
    | refine TC.block ?_ | refine TC.ret ?_ | refine TC.skip ?_ | refine TC.exit ?_ | refine TC.cond rfl ?_
    | refine TQ.down ?_ | refine TQ.in_exit' rfl ?_
    | refine TL.guard_yes rfl rfl ?_ | refine TL.guard_no rfl rfl rfl rfl ?_ | refine TL.guard_no0 rfl rfl rfl ?_ | refine TL.guard_undef rfl rfl rfl ?_ | refine TL.guard_undef0 rfl rfl ?_ | refine TL.guard rfl rfl rfl ?_
    | refine Br.t rfl ?_ | refine Br.f rfl ?_ | refine Br.ky kpA ?_ | refine Br.kn kpA ?_ | refine Br.nky kpA ?_ | refine Br.nkn kpA ?_
    | refine Br.eq0 (fun _ => ?_) (fun _ => ?_) | refine Br.neq0 (fun _ => ?_) (fun _ => ?_) | refine Br.eq (fun _ => ?_) (fun _ => ?_) | refine Br.neq (fun _ => ?_) (fun _ => ?_) | refine Br.not (fun _ => ?_) (fun _ => ?_) | refine Br.dec (fun _ => ?_) (fun _ => ?_) | refine Br.bool (fun _ => ?_) (fun _ => ?_)
    | ((with_reducible apply TL.alloc_ag); (· rfl); intro _) | ((with_reducible apply TL.alloc_sc); (· rfl); (· rfl); intro _) | ((with_reducible apply TL.box_ag); (· rfl); (· rfl); intro _) | ((with_reducible apply TL.box_sc); (· rfl); (· rfl); (· rfl); intro _))
    rename_i b8 b11
    refine TC.row_nil 9 1 ?_
    refine TC.row_nil 29 6 ?_
    refine TC.loop (OpI (valT d) s g R) (fun x => s.length - x.i) (fun x => [(0, str s), (1, .int .i64 (x.i : Nat)), (2, .int .i64 ((32 - d : Nat) : Int)), (3, .bool true), (8, .pointer (some ⟨b8, 0, none⟩)), (11, .pointer (some ⟨b11, 0, none⟩)), (12, .int .u8 125)]) (fun x => x.g) (fun x => .row 29 6 x.v x.xs.length x.fl :: .row 9 1 x.vn x.ns.length (strs x.ns) :: .obj b11 (.cells (ocell x.v x.vn).toArray 29 (0, 0)) :: .obj b8 (.cells zeroV.toArray 29 (0, 0)) :: L) ⟨a, [], [], [], .slice none 0 0, .slice none 0 0, (s.drop a).length + 1, g⟩ ⟨hbd.2, .refl _, by rw [List.map_nil, IsVs], (fun y hy => by cases hy), ⟨rfl, Nat.zero_le _, rfl⟩, by rw [List.length_drop]; dsimp only; omega, hR.symm⟩ rfl subA selF ?_
    clear hR hbd B0 h93
    rintro ⟨i, ns, xs, fl, v, vn, n, gx⟩ ⟨hi, hgx, hJ, hnb, ⟨hnx, hln, hfl⟩, hfu, hre⟩
    refine oparts_round d s V g L R hs b8 b11 i ns xs fl v vn n gx _ ⟨fun k g1 h1 h2 => ?_, fun p cs j g1 h1 h2 h3 h4 h5 => ?_, fun i' ns' xs' fl' v' vn' n' g' h1 h2 => ?_⟩ hi hgx hJ hnb hnx hln hfl hfu hre _ rfl
    · subst h1
      repeat' (first
    | ((with_reducible apply TL.pure); (· exact yQ); (· rfl))
    | refine stS ?_ | (refine stB ?_; intro _) | (refine stC ?_; refine And.intro (fun _ => ?_) (fun _ => ?_)))
      refine TQ.endR3 (L' := L) Tryz.results51 rvA rvA rvA rfl (h2) ?_ selF
      exact ⟨rfl, rfl⟩
    · subst h1
      obtain ⟨vk, vb, vn, vt, aj, lj, cj, an, ln, cn, rfl⟩ := isV_six h5
      repeat' (first
    | ((with_reducible apply TL.pure); (· exact yQ); (· rfl))
    | refine stS ?_ | (refine stB ?_; intro _) | (refine stC ?_; refine And.intro (fun _ => ?_) (fun _ => ?_)))
      refine TQ.endR3 (L' := L) Tryz.results51 rvA rvA rvA rfl (h2) ?_ selF
      exact ⟨rfl, _, j, rfl, h3, h4, h5⟩
    · refine TQ.round ⟨i', ns', xs', fl', v', vn', n', g'⟩ ?_ ?_ rfl subA selF
      · exact h1
      · exact h2
  | cons c t =>
    have hc := (at_of_drop hq).1
    have K : decide (((c.toNat : Nat) : Int) = 125) = false := (u8_dec c 125 125 rfl).trans (decide_eq_false (fun e => h93 (e ▸ hc)))
    have hla := (at_of_drop hq).2.2
    repeat' (first
    | ((with_reducible apply TL.pure); (· exact yQ); (· rfl))
    | ((with_reducible apply TL.pure (d := 31) (v := .int .u8 (c.toNat : Nat))); (· exact Y.index_at hc rfl rfl rfl); (· rfl)) | ((with_reducible apply TW.pure (d := 31) (v := .int .u8 (c.toNat : Nat))); (· exact Y.index_at hc rfl rfl rfl); (· rfl))
    | ((with_reducible apply TL.pure (d := 33) (v := .bool false)); (· exact Y.eql_b K rfl rfl); (· rfl)) | ((with_reducible apply TW.pure (d := 33) (v := .bool false)); (· exact Y.eql_b K rfl rfl); (· rfl))
    | ((with_reducible apply TL.pure); (· exact yV); (· rfl)) | ((with_reducible apply TW.pure); (· exact yV); (· rfl))
    | ((with_reducible apply TL.gives_plain); (· kernel_rfl); (· rfl); (· exact B0 _); (· rfl)) | ((with_reducible apply TW.gives_plain); (· kernel_rfl); (· rfl); (· exact B0 _); (· rfl))
    | ((with_reducible apply TL.storeK); (· rfl); (· rfl); (· rfl); (· exact pkA); (· exact Nat.le_of_ble_eq_true rfl))
    | ((with_reducible apply TL.pure); (· exact yA); (· rfl))
    | refine TC.seq ?_ | refine TC.region ?_ | refine TL.nil ?_ | refine TQ.then_normal ?_
    | ((with_reducible apply TL.storeE); (· rfl); (· rfl); (· rfl); (· exact pkA); (· infer_instance)) | ((with_reducible apply TL.store_whole); (· rfl); (· rfl); (· exact oneA); (· rfl); (· exact pkA); (· rfl))
    | refine TC.block ?_ | refine TC.ret ?_ | refine TC.skip ?_ | refine TC.exit ?_ | refine TC.cond rfl ?_
    | refine TQ.down ?_ | refine TQ.in_exit' rfl ?_
    | refine TL.guard_yes rfl rfl ?_ | refine TL.guard_no rfl rfl rfl rfl ?_ | refine TL.guard_no0 rfl rfl rfl ?_ | refine TL.guard_undef rfl rfl rfl ?_ | refine TL.guard_undef0 rfl rfl ?_ | refine TL.guard rfl rfl rfl ?_
    | refine Br.t rfl ?_ | refine Br.f rfl ?_ | refine Br.ky kpA ?_ | refine Br.kn kpA ?_ | refine Br.nky kpA ?_ | refine Br.nkn kpA ?_
    | refine Br.eq0 (fun _ => ?_) (fun _ => ?_) | refine Br.neq0 (fun _ => ?_) (fun _ => ?_) | refine Br.eq (fun _ => ?_) (fun _ => ?_) | refine Br.neq (fun _ => ?_) (fun _ => ?_) | refine Br.not (fun _ => ?_) (fun _ => ?_) | refine Br.dec (fun _ => ?_) (fun _ => ?_) | refine Br.bool (fun _ => ?_) (fun _ => ?_)
    | ((with_reducible apply TL.alloc_ag); (· rfl); intro _) | ((with_reducible apply TL.alloc_sc); (· rfl); (· rfl); intro _) | ((with_reducible apply TL.box_ag); (· rfl); (· rfl); intro _) | ((with_reducible apply TL.box_sc); (· rfl); (· rfl); (· rfl); intro _))
    rename_i b8 b11
    refine TC.row_nil 9 1 ?_
    refine TC.row_nil 29 6 ?_
    refine TC.loop (OpI (valT d) s g R) (fun x => s.length - x.i) (fun x => [(0, str s), (1, .int .i64 (x.i : Nat)), (2, .int .i64 ((32 - d : Nat) : Int)), (3, .bool true), (8, .pointer (some ⟨b8, 0, none⟩)), (11, .pointer (some ⟨b11, 0, none⟩)), (12, .int .u8 125)]) (fun x => x.g) (fun x => .row 29 6 x.v x.xs.length x.fl :: .row 9 1 x.vn x.ns.length (strs x.ns) :: .obj b11 (.cells (ocell x.v x.vn).toArray 29 (0, 0)) :: .obj b8 (.cells zeroV.toArray 29 (0, 0)) :: L) ⟨a, [], [], [], .slice none 0 0, .slice none 0 0, (s.drop a).length + 1, g⟩ ⟨hbd.2, .refl _, by rw [List.map_nil, IsVs], (fun y hy => by cases hy), ⟨rfl, Nat.zero_le _, rfl⟩, by rw [List.length_drop]; dsimp only; omega, hR.symm⟩ rfl subA selF ?_
    clear hR hbd B0 h93
    rintro ⟨i, ns, xs, fl, v, vn, n, gx⟩ ⟨hi, hgx, hJ, hnb, ⟨hnx, hln, hfl⟩, hfu, hre⟩
    refine oparts_round d s V g L R hs b8 b11 i ns xs fl v vn n gx _ ⟨fun k g1 h1 h2 => ?_, fun p cs j g1 h1 h2 h3 h4 h5 => ?_, fun i' ns' xs' fl' v' vn' n' g' h1 h2 => ?_⟩ hi hgx hJ hnb hnx hln hfl hfu hre _ rfl
    · subst h1
      repeat' (first
    | ((with_reducible apply TL.pure); (· exact yQ); (· rfl))
    | refine stS ?_ | (refine stB ?_; intro _) | (refine stC ?_; refine And.intro (fun _ => ?_) (fun _ => ?_)))
      refine TQ.endR3 (L' := L) Tryz.results51 rvA rvA rvA rfl (h2) ?_ selF
      exact ⟨rfl, rfl⟩
    · subst h1
      obtain ⟨vk, vb, vn, vt, aj, lj, cj, an, ln, cn, rfl⟩ := isV_six h5
      repeat' (first
    | ((with_reducible apply TL.pure); (· exact yQ); (· rfl))
    | refine stS ?_ | (refine stB ?_; intro _) | (refine stC ?_; refine And.intro (fun _ => ?_) (fun _ => ?_)))
      refine TQ.endR3 (L' := L) Tryz.results51 rvA rvA rvA rfl (h2) ?_ selF
      exact ⟨rfl, _, j, rfl, h3, h4, h5⟩
    · refine TQ.round ⟨i', ns', xs', fl', v', vn', n', g'⟩ ?_ ?_ rfl subA selF
      · exact h1
      · exact h2
end Go.Proofs.YtfmadoeadmclbaaGreatDoor
