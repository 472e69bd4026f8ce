/-
  The walks of order's reader: parts, value; what a key tells.
-/
import Derived.Test.YtphlggmhgfcmgaaGreatDoorORead2
namespace Go.Proofs.YtphlggmhgfcmgaaGreatDoor
open Go.RowKit Go.TL
set_option maxRecDepth 100000

def listP (f : UInt8 → List UInt8 → Option (J × List UInt8)) : Nat → List UInt8 → Option (List J × List UInt8)
  | 0, _ => none
  | _ + 1, [] => none
  | n + 1, c :: t => if c = 0 then some ([], t) else match f c t with
    | none => none
    | some (x, r) => (listP f n r).map fun p => (x :: p.1, p.2)
def objP (f : UInt8 → List UInt8 → Option (J × List UInt8)) : Nat → List UInt8 → Option ((List (List UInt8) × List J) × List UInt8)
  | 0, _ => none
  | _ + 1, [] => none
  | n + 1, c :: t => if c = 0 then some (([], []), t) else if c = 5 then match wordP t with
    | none => none
    | some (a, r) => match r with
      | [] => none
      | d :: u => match f d u with
        | none => none
        | some (x, r2) => (objP f n r2).map fun p => ((a :: p.1.1, x :: p.1.2), p.2)
    else none
def OutV (o : Option (J × List UInt8)) (w w' : Bool) (g' : Gh) (x : Value) (s' : List UInt8) : Prop := if w = true then w' = true else match o with
  | none => w' = true
  | some (j, r) => w' = false ∧ s' = r ∧ IsJ g' j x
/-- What comes of reading a value. -/
def ValR (o : Option (J × List UInt8)) (s : List UInt8) (w : Bool) (br : Nat) (L : List Ent) : Ending → Gh → List Ent → Prop := fun r g' L1 => ∃ v' w' x s', r = .returned x ∧ x.one = true ∧ L1 = RdO br v' w' :: L ∧ Sl g' v' s'.length 1 (byteVals s') ∧ s'.length ≤ s.length ∧ OutV o w w' g' x s'
/-- A list on the way: bytes, wrong, slice, the list's slice, its cells, what stays. -/
structure ListS where
  s : List UInt8
  w : Bool
  v : Value
  lv : Value
  fl : List Value
  gh : Gh
structure ListI (f : UInt8 → List UInt8 → Option (J × List UInt8)) (s0 : List UInt8) (w0 : Bool) (g : Gh) (x : ListS) : Prop where
  sl : Sl x.gh x.v x.s.length 1 (byteVals x.s)
  le : x.s.length + x.fl.length ≤ s0.length
  gl : g.le x.gh
  no : x.w = true → w0 = true ∨ listP f (s0.length + 1) s0 = none
  yes : x.w = false → w0 = false ∧ ∃ js m, IsJs x.gh js x.fl ∧ js.length = x.fl.length ∧ x.s.length < m ∧ listP f (s0.length + 1) s0 = (listP f m x.s).map fun p => (js ++ p.1, p.2)
theorem out_wrong (o : Option (J × List UInt8)) (w : Bool) (g : Gh) (x : Value) (s : List UInt8) (h : w = true ∨ o = none) : OutV o w true g x s := by
  unfold OutV
  rcases h with h | h
  · rw [if_pos h]
  · rw [h]; split <;> rfl
set_option maxHeartbeats 16000000 in
theorem list_does (f : UInt8 → List UInt8 → Option (J × List UInt8)) (within : Nat) (br : Nat) (A : ∀ (c : UInt8) (t : List UInt8) (w : Bool) (v : Value) (g : Gh) (L : List Ent), Sl g v t.length 1 (byteVals t) → t.length ≤ 1000000 → Does Tryz.prog 12 #[.pointer (some ⟨br, 0, none⟩), .int .u8 (c.toNat : Nat), .int .i64 (within : Nat)] g (RdO br v w :: L) (ValR (f c t) t w br L))
    (s0 : List UInt8) (w0 : Bool) (v0 : Value) (g : Gh) (L : List Ent) (hS : Sl g v0 s0.length 1 (byteVals s0)) (hl : s0.length ≤ 1000000) : Does Tryz.prog 22 #[.pointer (some ⟨br, 0, none⟩), .int .u8 6, .int .i64 (within : Nat)] g (RdO br v0 w0 :: L) (ValR ((listP f (s0.length + 1) s0).map fun p => (.list p.1, p.2)) s0 w0 br L) := by
  refine Does.of3 Tryz.func22 rfl Tryz.ntmps22 rfl ?_
  repeat' (first
    | ((with_reducible apply TL.build_slice); (· rfl); (· rfl); (· exact oneA); (· rfl); (· rfl); (· rfl); intro _) | refine TL.build_one (by rfl) (by first | rfl | assumption) (by rfl) (by rfl) (by rfl) (by rfl) (fun _ => ?_) | refine TL.build_empty (by rfl) (fun _ => ?_)
    | ((with_reducible apply TL.pure); (· exact yA); (· rfl))
    | refine TC.seq ?_ | refine TC.region ?_ | refine TL.nil ?_ | refine TQ.then_normal ?_
    | ((with_reducible apply TL.storeE); (· rfl); (· rfl); (· rfl); (· exact pkA); (· infer_instance)) | ((with_reducible apply TL.store_whole); (· rfl); (· rfl); (· exact oneA); (· rfl); (· exact pkA); (· rfl))
    | refine TC.block ?_ | refine TC.ret ?_ | refine TC.skip ?_ | refine TC.exit ?_ | refine TC.cond rfl ?_
    | refine TQ.down ?_ | refine TQ.in_exit' rfl ?_
    | refine TL.guard_yes rfl rfl ?_ | refine TL.guard_no rfl rfl rfl rfl ?_ | refine TL.guard_no0 rfl rfl rfl ?_ | refine TL.guard_undef rfl rfl rfl ?_ | refine TL.guard_undef0 rfl rfl ?_ | refine TL.guard rfl rfl rfl ?_
    | refine Br.t rfl ?_ | refine Br.f rfl ?_ | refine Br.ky kpA ?_ | refine Br.kn kpA ?_ | refine Br.nky kpA ?_ | refine Br.nkn kpA ?_
    | refine Br.eq0 (fun _ => ?_) (fun _ => ?_) | refine Br.neq0 (fun _ => ?_) (fun _ => ?_) | refine Br.eq (fun _ => ?_) (fun _ => ?_) | refine Br.neq (fun _ => ?_) (fun _ => ?_) | refine Br.not (fun _ => ?_) (fun _ => ?_) | refine Br.dec (fun _ => ?_) (fun _ => ?_) | refine Br.bool (fun _ => ?_) (fun _ => ?_)
    | ((with_reducible apply TL.alloc_ag); (· rfl); intro _) | ((with_reducible apply TL.alloc_sc); (· rfl); (· rfl); intro _) | ((with_reducible apply TL.box_ag); (· rfl); (· rfl); intro _) | ((with_reducible apply TL.box_sc); (· rfl); (· rfl); (· rfl); intro _))
  rename_i b1 b2
  refine TC.obj_row (b := b1) (k := 0) (sz := 1) pkA rfl (by decide) ?_
  refine TC.loop (ListI f s0 w0 g) (fun x => 2 * x.s.length + (if x.w = true then 0 else 1)) (fun x => [(7, x.lv), (8, .slice (some ⟨b2, 0, none⟩) 0 0), (0, .pointer (some ⟨br, 0, none⟩)), (1, .int .u8 6), (2, .int .i64 (within : Nat))]) (fun x => x.gh) (fun x => RdO br x.v x.w :: .row 20 1 x.lv x.fl.length x.fl :: L) ⟨s0, w0, v0, .slice (some ⟨b1, 0, none⟩) 0 0, [], g⟩ ?_ rfl subA selA ?_
  · refine ⟨hS, by simp, .refl g, fun h => .inl h, fun h => ⟨h, [], s0.length + 1, by rw [IsJs], rfl, by simp, ?_⟩⟩
    show listP f (s0.length + 1) s0 = _
    cases listP f (s0.length + 1) s0 <;> rfl
  clear hS
  rintro ⟨s, w, v, lv, fl, gh⟩ ⟨hS, hle, hgl, hno, hyes⟩
  dsimp only at hS hle hgl hno hyes ⊢
  cases w with
  | true =>
    repeat' (first
    | ((with_reducible apply TL.pure); (· exact yA); (· rfl))
    | refine TC.seq ?_ | refine TC.region ?_ | refine TL.nil ?_ | refine TQ.then_normal ?_
    | ((with_reducible apply TL.storeE); (· rfl); (· rfl); (· rfl); (· exact pkA); (· infer_instance)) | ((with_reducible apply TL.store_whole); (· rfl); (· rfl); (· exact oneA); (· rfl); (· exact pkA); (· rfl))
    | refine TC.block ?_ | refine TC.ret ?_ | refine TC.skip ?_ | refine TC.exit ?_ | refine TC.cond rfl ?_
    | refine TQ.down ?_ | refine TQ.in_exit' rfl ?_
    | refine TL.guard_yes rfl rfl ?_ | refine TL.guard_no rfl rfl rfl rfl ?_ | refine TL.guard_no0 rfl rfl rfl ?_ | refine TL.guard_undef rfl rfl rfl ?_ | refine TL.guard_undef0 rfl rfl ?_ | refine TL.guard rfl rfl rfl ?_
    | refine Br.t rfl ?_ | refine Br.f rfl ?_ | refine Br.ky kpA ?_ | refine Br.kn kpA ?_ | refine Br.nky kpA ?_ | refine Br.nkn kpA ?_
    | refine Br.eq0 (fun _ => ?_) (fun _ => ?_) | refine Br.neq0 (fun _ => ?_) (fun _ => ?_) | refine Br.eq (fun _ => ?_) (fun _ => ?_) | refine Br.neq (fun _ => ?_) (fun _ => ?_) | refine Br.not (fun _ => ?_) (fun _ => ?_) | refine Br.dec (fun _ => ?_) (fun _ => ?_) | refine Br.bool (fun _ => ?_) (fun _ => ?_)
    | ((with_reducible apply TL.alloc_ag); (· rfl); intro _) | ((with_reducible apply TL.alloc_sc); (· rfl); (· rfl); intro _) | ((with_reducible apply TL.box_ag); (· rfl); (· rfl); intro _) | ((with_reducible apply TL.box_sc); (· rfl); (· rfl); (· rfl); intro _))
    refine TQ.endR1 (L' := (RdO br v true :: L)) Tryz.results22 rvA rfl (hgl) ?_ selA
    refine ⟨v, true, _, s, rfl, rfl, rfl, hS, by omega, out_wrong _ _ _ _ _ ?_⟩
    rcases hno rfl with h | h
    · exact .inl h
    · exact .inr (by rw [h]; rfl)
  | false =>
    obtain ⟨rfl, js, m, hJ, hjl, hm, hy⟩ := hyes rfl
    clear hno hyes
    have hl1 : s.length ≤ 1000000 := by omega
    have N1 := fun L => next_does s false v br gh L hS hl1
    unfold NextR at N1
    cases s with
    | nil =>
      have hno : listP f (s0.length + 1) s0 = none := by
        rw [hy]
        cases m with
        | zero => rfl
        | succ m => rfl
      clear hy hS hl1
      repeat' (first
    | (refine TL.call (Enters.plain (by kernel_rfl) (by rfl)) (by rfl) (Does.perm (N1 _) (by first | exact List.Perm.refl _ | exact Pk.cons pkA (List.Perm.refl _))) ?_; (rintro e g1 Ln _ ⟨v1, k1, k2, k3, s1⟩; have k2 := k2.symm; subst k1; subst k2; subst k3; refine CallK.ret ?_))
    | ((with_reducible apply TL.pure); (· exact yV); (· rfl)) | ((with_reducible apply TW.pure); (· exact yV); (· rfl))
    | ((with_reducible apply TL.pure); (· exact yA); (· rfl))
    | refine TC.seq ?_ | refine TC.region ?_ | refine TL.nil ?_ | refine TQ.then_normal ?_
    | ((with_reducible apply TL.storeE); (· rfl); (· rfl); (· rfl); (· exact pkA); (· infer_instance)) | ((with_reducible apply TL.store_whole); (· rfl); (· rfl); (· exact oneA); (· rfl); (· exact pkA); (· rfl))
    | refine TC.block ?_ | refine TC.ret ?_ | refine TC.skip ?_ | refine TC.exit ?_ | refine TC.cond rfl ?_
    | refine TQ.down ?_ | refine TQ.in_exit' rfl ?_
    | refine TL.guard_yes rfl rfl ?_ | refine TL.guard_no rfl rfl rfl rfl ?_ | refine TL.guard_no0 rfl rfl rfl ?_ | refine TL.guard_undef rfl rfl rfl ?_ | refine TL.guard_undef0 rfl rfl ?_ | refine TL.guard rfl rfl rfl ?_
    | refine Br.t rfl ?_ | refine Br.f rfl ?_ | refine Br.ky kpA ?_ | refine Br.kn kpA ?_ | refine Br.nky kpA ?_ | refine Br.nkn kpA ?_
    | refine Br.eq0 (fun _ => ?_) (fun _ => ?_) | refine Br.neq0 (fun _ => ?_) (fun _ => ?_) | refine Br.eq (fun _ => ?_) (fun _ => ?_) | refine Br.neq (fun _ => ?_) (fun _ => ?_) | refine Br.not (fun _ => ?_) (fun _ => ?_) | refine Br.dec (fun _ => ?_) (fun _ => ?_) | refine Br.bool (fun _ => ?_) (fun _ => ?_)
    | ((with_reducible apply TL.alloc_ag); (· rfl); intro _) | ((with_reducible apply TL.alloc_sc); (· rfl); (· rfl); intro _) | ((with_reducible apply TL.box_ag); (· rfl); (· rfl); intro _) | ((with_reducible apply TL.box_sc); (· rfl); (· rfl); (· rfl); intro _))
      refine TQ.endR1 (L' := (RdO br v1 true :: L)) Tryz.results22 rvA rfl (hgl) ?_ selA
      exact ⟨v1, true, _, [], rfl, rfl, rfl, s1, by simp, out_wrong _ _ _ _ _ (.inr (by rw [hno]; rfl))⟩
    | cons c t =>
      rw [List.length_cons] at hle hl1 hm
      cases m with
      | zero => omega
      | succ m =>
      have hct : (c.toNat : Int) = 0 → c = 0 := fun h => UInt8.toNat_inj.1 (by show c.toNat = 0; omega)
      by_cases hc : c = 0
      · subst hc
        clear hct
        rw [listP, if_pos rfl] at hy
        clear hS
        repeat' (first
    | (refine TL.call (Enters.plain (by kernel_rfl) (by rfl)) (by rfl) (Does.perm (N1 _) (by first | exact List.Perm.refl _ | exact Pk.cons pkA (List.Perm.refl _))) ?_; (rintro e g1 Ln _ ⟨v1, k1, k2, k3, s1⟩; have k2 := k2.symm; subst k1; subst k2; subst k3; refine CallK.ret ?_))
    | ((with_reducible apply TL.pure); (· exact yV); (· rfl)) | ((with_reducible apply TW.pure); (· exact yV); (· rfl))
    | ((with_reducible apply TL.pure); (· exact yA); (· rfl))
    | refine TC.seq ?_ | refine TC.region ?_ | refine TL.nil ?_ | refine TQ.then_normal ?_
    | ((with_reducible apply TL.storeE); (· rfl); (· rfl); (· rfl); (· exact pkA); (· infer_instance)) | ((with_reducible apply TL.store_whole); (· rfl); (· rfl); (· exact oneA); (· rfl); (· exact pkA); (· rfl))
    | refine TC.block ?_ | refine TC.ret ?_ | refine TC.skip ?_ | refine TC.exit ?_ | refine TC.cond rfl ?_
    | refine TQ.down ?_ | refine TQ.in_exit' rfl ?_
    | refine TL.guard_yes rfl rfl ?_ | refine TL.guard_no rfl rfl rfl rfl ?_ | refine TL.guard_no0 rfl rfl rfl ?_ | refine TL.guard_undef rfl rfl rfl ?_ | refine TL.guard_undef0 rfl rfl ?_ | refine TL.guard rfl rfl rfl ?_
    | refine Br.t rfl ?_ | refine Br.f rfl ?_ | refine Br.ky kpA ?_ | refine Br.kn kpA ?_ | refine Br.nky kpA ?_ | refine Br.nkn kpA ?_
    | refine Br.eq0 (fun _ => ?_) (fun _ => ?_) | refine Br.neq0 (fun _ => ?_) (fun _ => ?_) | refine Br.eq (fun _ => ?_) (fun _ => ?_) | refine Br.neq (fun _ => ?_) (fun _ => ?_) | refine Br.not (fun _ => ?_) (fun _ => ?_) | refine Br.dec (fun _ => ?_) (fun _ => ?_) | refine Br.bool (fun _ => ?_) (fun _ => ?_)
    | ((with_reducible apply TL.alloc_ag); (· rfl); intro _) | ((with_reducible apply TL.alloc_sc); (· rfl); (· rfl); intro _) | ((with_reducible apply TL.box_ag); (· rfl); (· rfl); intro _) | ((with_reducible apply TL.box_sc); (· rfl); (· rfl); (· rfl); intro _))
        refine TQ.freeze (v := lv) pkA ?_
        intro gf hgf hsl
        refine TQ.endR1 (L' := (RdO br v1 false :: L)) Tryz.results22 rvA rfl (hgl.trans hgf) ?_ selA
        refine ⟨v1, false, _, t, rfl, rfl, rfl, s1.le hgf, by omega, ?_⟩
        unfold OutV
        rw [hy]
        refine ⟨rfl, rfl, ?_⟩
        rw [IsJ]
        refine ⟨lv, fl, rfl, ?_, ?_⟩
        · show Sl gf lv (js ++ []).length 1 fl
          rw [List.append_nil, hjl]; exact hsl
        · show IsJs gf (js ++ []) fl
          rw [List.append_nil]; exact IsJs.le hgf _ _ hJ
      · have hn0 : Hn (¬ (c.toNat : Int) = 0) := ⟨fun h => hc (hct h)⟩
        rw [listP, if_neg hc] at hy
        have A1 := fun v (h : Sl gh v (nextL (c :: t)).2.length 1 (byteVals (nextL (c :: t)).2)) L => A c t false v gh L h (by omega)
        unfold ValR at A1
        clear hS hct
        have hfl : fl.length ≤ 1000000 := by omega
        repeat' (first
    | (refine TL.call (Enters.plain (by kernel_rfl) (by rfl)) (by rfl) (Does.perm (N1 _) (by first | exact List.Perm.refl _ | exact Pk.cons pkA (List.Perm.refl _))) ?_; (rintro e g1 Ln _ ⟨v1, k1, k2, k3, s1⟩; have k2 := k2.symm; subst k1; subst k2; subst k3; refine CallK.ret ?_))
    | (refine TL.call (Enters.plain (by kernel_rfl) (by rfl)) (by rfl) (Does.perm (A1 _ (by assumption) _) (by first | exact List.Perm.refl _ | exact Pk.cons pkA (List.Perm.refl _))) ?_; (rintro e g1 Ln hg1 ⟨vv, wv, xv, sv, k1, hx1, k3, hsv, hlv, hov⟩; subst k1; subst k3; refine CallK.ret ?_))
    | ((with_reducible apply TL.build_slice); (· rfl); (· rfl); (· exact oneA); (· rfl); (· rfl); (· rfl); intro _) | refine TL.build_one (by rfl) (by first | rfl | assumption) (by rfl) (by rfl) (by rfl) (by rfl) (fun _ => ?_) | refine TL.build_empty (by rfl) (fun _ => ?_)
    | ((with_reducible apply TL.append); (· rfl); (· rfl); (· rfl); (· rfl); (· exact pkA); (· first | exact Src.obj pkA | exact Src.sl (by assumption) | exact Src.row pkA); (· first | rfl | exact (byteVals_length _).trans (Nat.mul_one _).symm); (· first | exact byteVals_all _ | exact oneA); (· exact ⟨by unfold maxLen; omega, by omega⟩); (· rfl); intro _)
    | ((with_reducible apply TL.pure); (· exact yA); (· rfl))
    | refine TC.seq ?_ | refine TC.region ?_ | refine TL.nil ?_ | refine TQ.then_normal ?_
    | ((with_reducible apply TL.storeE); (· rfl); (· rfl); (· rfl); (· exact pkA); (· infer_instance)) | ((with_reducible apply TL.store_whole); (· rfl); (· rfl); (· exact oneA); (· rfl); (· exact pkA); (· rfl))
    | refine TC.block ?_ | refine TC.ret ?_ | refine TC.skip ?_ | refine TC.exit ?_ | refine TC.cond rfl ?_
    | refine TQ.down ?_ | refine TQ.in_exit' rfl ?_
    | refine TL.guard_yes rfl rfl ?_ | refine TL.guard_no rfl rfl rfl rfl ?_ | refine TL.guard_no0 rfl rfl rfl ?_ | refine TL.guard_undef rfl rfl rfl ?_ | refine TL.guard_undef0 rfl rfl ?_ | refine TL.guard rfl rfl rfl ?_
    | refine Br.t rfl ?_ | refine Br.f rfl ?_ | refine Br.ky kpA ?_ | refine Br.kn kpA ?_ | refine Br.nky kpA ?_ | refine Br.nkn kpA ?_
    | refine Br.eq0 (fun _ => ?_) (fun _ => ?_) | refine Br.neq0 (fun _ => ?_) (fun _ => ?_) | refine Br.eq (fun _ => ?_) (fun _ => ?_) | refine Br.neq (fun _ => ?_) (fun _ => ?_) | refine Br.not (fun _ => ?_) (fun _ => ?_) | refine Br.dec (fun _ => ?_) (fun _ => ?_) | refine Br.bool (fun _ => ?_) (fun _ => ?_)
    | ((with_reducible apply TL.alloc_ag); (· rfl); intro _) | ((with_reducible apply TL.alloc_sc); (· rfl); (· rfl); intro _) | ((with_reducible apply TL.box_ag); (· rfl); (· rfl); intro _) | ((with_reducible apply TL.box_sc); (· rfl); (· rfl); (· rfl); intro _))
        rename_i b3 v3
        rw [show fl.length + 1 = (fl ++ [xv]).length by simp]
        refine TQ.round ⟨sv, wv, vv, v3, fl ++ [xv], g1⟩ ?_ ?_ rfl subA selA
        · refine ⟨hsv, by simp; omega, hgl.trans hg1, fun h => .inr ?_, fun h => ⟨rfl, ?_⟩⟩
          · obtain rfl : wv = true := h
            unfold OutV at hov
            rw [if_neg (by decide)] at hov
            cases hf : f c t with
            | none => rw [hf] at hy; rw [hy]; rfl
            | some q => rw [hf] at hov; obtain ⟨j, r⟩ := q; exact absurd (show true = false from hov.1) (by decide)
          · obtain rfl : wv = false := h
            unfold OutV at hov
            rw [if_neg (by decide)] at hov
            cases hf : f c t with
            | none => rw [hf] at hov; exact absurd (show false = true from hov) (by decide)
            | some q =>
              obtain ⟨j, r⟩ := q
              rw [hf] at hov hy
              obtain ⟨_, rfl, hj⟩ := hov
              refine ⟨js ++ [j], m, (IsJs.le hg1 _ _ hJ).snoc hj, by simp [hjl], by dsimp only; omega, ?_⟩
              rw [hy]
              show Option.map _ (Option.map _ _) = _
              rw [Option.map_map]
              congr 1
              funext p
              simp
        · show 2 * sv.length + (if wv = true then 0 else 1) < 2 * (t.length + 1) + 1
          split <;> omega
/-- An object on the way. -/
structure ObjS where
  s : List UInt8
  w : Bool
  v : Value
  ov : Value
  m : Nat
  fl : List Value
  gh : Gh
structure ObjI (f : UInt8 → List UInt8 → Option (J × List UInt8)) (s0 : List UInt8) (w0 : Bool) (g : Gh) (x : ObjS) : Prop where
  sl : Sl x.gh x.v x.s.length 1 (byteVals x.s)
  le : x.s.length + x.m ≤ s0.length
  gl : g.le x.gh
  fll : x.fl.length = x.m * 2
  no : x.w = true → w0 = true ∨ objP f (s0.length + 1) s0 = none
  yes : x.w = false → w0 = false ∧ ∃ ns js k, IsMs x.gh ns js x.fl ∧ js.length = x.m ∧ x.s.length < k ∧ objP f (s0.length + 1) s0 = (objP f k x.s).map fun p => ((ns ++ p.1.1, js ++ p.1.2), p.2)
set_option maxHeartbeats 32000000 in
theorem obj_does (f : UInt8 → List UInt8 → Option (J × List UInt8)) (within : Nat) (br : Nat) (A : ∀ (c : UInt8) (t : List UInt8) (w : Bool) (v : Value) (g : Gh) (L : List Ent), Sl g v t.length 1 (byteVals t) → t.length ≤ 1000000 → Does Tryz.prog 12 #[.pointer (some ⟨br, 0, none⟩), .int .u8 (c.toNat : Nat), .int .i64 (within : Nat)] g (RdO br v w :: L) (ValR (f c t) t w br L))
    (s0 : List UInt8) (w0 : Bool) (v0 : Value) (g : Gh) (L : List Ent) (hS : Sl g v0 s0.length 1 (byteVals s0)) (hl : s0.length ≤ 1000000) : Does Tryz.prog 22 #[.pointer (some ⟨br, 0, none⟩), .int .u8 7, .int .i64 (within : Nat)] g (RdO br v0 w0 :: L) (ValR ((objP f (s0.length + 1) s0).map fun p => (.obj p.1.1 p.1.2, p.2)) s0 w0 br L) := by
  refine Does.of3 Tryz.func22 rfl Tryz.ntmps22 rfl ?_
  repeat' (first
    | ((with_reducible apply TL.build_slice); (· rfl); (· rfl); (· exact oneA); (· rfl); (· rfl); (· rfl); intro _) | refine TL.build_one (by rfl) (by first | rfl | assumption) (by rfl) (by rfl) (by rfl) (by rfl) (fun _ => ?_) | refine TL.build_empty (by rfl) (fun _ => ?_)
    | ((with_reducible apply TL.pure); (· exact yA); (· rfl))
    | refine TC.seq ?_ | refine TC.region ?_ | refine TL.nil ?_ | refine TQ.then_normal ?_
    | ((with_reducible apply TL.storeE); (· rfl); (· rfl); (· rfl); (· exact pkA); (· infer_instance)) | ((with_reducible apply TL.store_whole); (· rfl); (· rfl); (· exact oneA); (· rfl); (· exact pkA); (· rfl))
    | refine TC.block ?_ | refine TC.ret ?_ | refine TC.skip ?_ | refine TC.exit ?_ | refine TC.cond rfl ?_
    | refine TQ.down ?_ | refine TQ.in_exit' rfl ?_
    | refine TL.guard_yes rfl rfl ?_ | refine TL.guard_no rfl rfl rfl rfl ?_ | refine TL.guard_no0 rfl rfl rfl ?_ | refine TL.guard_undef rfl rfl rfl ?_ | refine TL.guard_undef0 rfl rfl ?_ | refine TL.guard rfl rfl rfl ?_
    | refine Br.t rfl ?_ | refine Br.f rfl ?_ | refine Br.ky kpA ?_ | refine Br.kn kpA ?_ | refine Br.nky kpA ?_ | refine Br.nkn kpA ?_
    | refine Br.eq0 (fun _ => ?_) (fun _ => ?_) | refine Br.neq0 (fun _ => ?_) (fun _ => ?_) | refine Br.eq (fun _ => ?_) (fun _ => ?_) | refine Br.neq (fun _ => ?_) (fun _ => ?_) | refine Br.not (fun _ => ?_) (fun _ => ?_) | refine Br.dec (fun _ => ?_) (fun _ => ?_) | refine Br.bool (fun _ => ?_) (fun _ => ?_)
    | ((with_reducible apply TL.alloc_ag); (· rfl); intro _) | ((with_reducible apply TL.alloc_sc); (· rfl); (· rfl); intro _) | ((with_reducible apply TL.box_ag); (· rfl); (· rfl); intro _) | ((with_reducible apply TL.box_sc); (· rfl); (· rfl); (· rfl); intro _))
  rename_i b1 b2
  refine TC.obj_row (b := b2) (k := 0) (sz := 2) pkA rfl (by decide) ?_
  refine TC.loop (ObjI f s0 w0 g) (fun x => 2 * x.s.length + (if x.w = true then 0 else 1)) (fun x => [(7, .slice (some ⟨b1, 0, none⟩) 0 0), (8, x.ov), (0, .pointer (some ⟨br, 0, none⟩)), (1, .int .u8 7), (2, .int .i64 (within : Nat))]) (fun x => x.gh) (fun x => RdO br x.v x.w :: .row 51 2 x.ov x.m x.fl :: L) ⟨s0, w0, v0, .slice (some ⟨b2, 0, none⟩) 0 0, 0, [], g⟩ ?_ rfl subA selA ?_
  · refine ⟨hS, by simp, .refl g, rfl, fun h => .inl h, fun h => ⟨h, [], [], s0.length + 1, by rw [IsMs], rfl, by simp, ?_⟩⟩
    show objP f (s0.length + 1) s0 = _
    cases objP f (s0.length + 1) s0 <;> rfl
  clear hS
  rintro ⟨s, w, v, ov, mm, fl, gh⟩ ⟨hS, hle, hgl, hfl, hno, hyes⟩
  dsimp only at hS hle hgl hfl hno hyes ⊢
  cases w with
  | true =>
    repeat' (first
    | ((with_reducible apply TL.pure); (· exact yA); (· rfl))
    | refine TC.seq ?_ | refine TC.region ?_ | refine TL.nil ?_ | refine TQ.then_normal ?_
    | ((with_reducible apply TL.storeE); (· rfl); (· rfl); (· rfl); (· exact pkA); (· infer_instance)) | ((with_reducible apply TL.store_whole); (· rfl); (· rfl); (· exact oneA); (· rfl); (· exact pkA); (· rfl))
    | refine TC.block ?_ | refine TC.ret ?_ | refine TC.skip ?_ | refine TC.exit ?_ | refine TC.cond rfl ?_
    | refine TQ.down ?_ | refine TQ.in_exit' rfl ?_
    | refine TL.guard_yes rfl rfl ?_ | refine TL.guard_no rfl rfl rfl rfl ?_ | refine TL.guard_no0 rfl rfl rfl ?_ | refine TL.guard_undef rfl rfl rfl ?_ | refine TL.guard_undef0 rfl rfl ?_ | refine TL.guard rfl rfl rfl ?_
    | refine Br.t rfl ?_ | refine Br.f rfl ?_ | refine Br.ky kpA ?_ | refine Br.kn kpA ?_ | refine Br.nky kpA ?_ | refine Br.nkn kpA ?_
    | refine Br.eq0 (fun _ => ?_) (fun _ => ?_) | refine Br.neq0 (fun _ => ?_) (fun _ => ?_) | refine Br.eq (fun _ => ?_) (fun _ => ?_) | refine Br.neq (fun _ => ?_) (fun _ => ?_) | refine Br.not (fun _ => ?_) (fun _ => ?_) | refine Br.dec (fun _ => ?_) (fun _ => ?_) | refine Br.bool (fun _ => ?_) (fun _ => ?_)
    | ((with_reducible apply TL.alloc_ag); (· rfl); intro _) | ((with_reducible apply TL.alloc_sc); (· rfl); (· rfl); intro _) | ((with_reducible apply TL.box_ag); (· rfl); (· rfl); intro _) | ((with_reducible apply TL.box_sc); (· rfl); (· rfl); (· rfl); intro _))
    refine TQ.endR1 (L' := (RdO br v true :: L)) Tryz.results22 rvA rfl (hgl) ?_ selA
    refine ⟨v, true, _, s, rfl, rfl, rfl, hS, by omega, out_wrong _ _ _ _ _ ?_⟩
    rcases hno rfl with h | h
    · exact .inl h
    · exact .inr (by rw [h]; rfl)
  | false =>
    obtain ⟨rfl, ns, js, k, hJ, hjl, hm, hy⟩ := hyes rfl
    clear hno hyes
    have hl1 : s.length ≤ 1000000 := by omega
    have N1 := fun L => next_does s false v br gh L hS hl1
    unfold NextR at N1
    cases s with
    | nil =>
      have hno : objP f (s0.length + 1) s0 = none := by
        rw [hy]
        cases k with
        | zero => rfl
        | succ k => rfl
      clear hy hS hl1
      repeat' (first
    | (refine TL.call (Enters.plain (by kernel_rfl) (by rfl)) (by rfl) (Does.perm (N1 _) (by first | exact List.Perm.refl _ | exact Pk.cons pkA (List.Perm.refl _))) ?_; (rintro e g1 Ln _ ⟨v1, k1, k2, k3, s1⟩; have k2 := k2.symm; subst k1; subst k2; subst k3; refine CallK.ret ?_))
    | ((with_reducible apply TL.pure); (· exact yV); (· rfl)) | ((with_reducible apply TW.pure); (· exact yV); (· rfl))
    | ((with_reducible apply TL.pure); (· exact yA); (· rfl))
    | refine TC.seq ?_ | refine TC.region ?_ | refine TL.nil ?_ | refine TQ.then_normal ?_
    | ((with_reducible apply TL.storeE); (· rfl); (· rfl); (· rfl); (· exact pkA); (· infer_instance)) | ((with_reducible apply TL.store_whole); (· rfl); (· rfl); (· exact oneA); (· rfl); (· exact pkA); (· rfl))
    | refine TC.block ?_ | refine TC.ret ?_ | refine TC.skip ?_ | refine TC.exit ?_ | refine TC.cond rfl ?_
    | refine TQ.down ?_ | refine TQ.in_exit' rfl ?_
    | refine TL.guard_yes rfl rfl ?_ | refine TL.guard_no rfl rfl rfl rfl ?_ | refine TL.guard_no0 rfl rfl rfl ?_ | refine TL.guard_undef rfl rfl rfl ?_ | refine TL.guard_undef0 rfl rfl ?_ | refine TL.guard rfl rfl rfl ?_
    | refine Br.t rfl ?_ | refine Br.f rfl ?_ | refine Br.ky kpA ?_ | refine Br.kn kpA ?_ | refine Br.nky kpA ?_ | refine Br.nkn kpA ?_
    | refine Br.eq0 (fun _ => ?_) (fun _ => ?_) | refine Br.neq0 (fun _ => ?_) (fun _ => ?_) | refine Br.eq (fun _ => ?_) (fun _ => ?_) | refine Br.neq (fun _ => ?_) (fun _ => ?_) | refine Br.not (fun _ => ?_) (fun _ => ?_) | refine Br.dec (fun _ => ?_) (fun _ => ?_) | refine Br.bool (fun _ => ?_) (fun _ => ?_)
    | ((with_reducible apply TL.alloc_ag); (· rfl); intro _) | ((with_reducible apply TL.alloc_sc); (· rfl); (· rfl); intro _) | ((with_reducible apply TL.box_ag); (· rfl); (· rfl); intro _) | ((with_reducible apply TL.box_sc); (· rfl); (· rfl); (· rfl); intro _))
      refine TQ.endR1 (L' := (RdO br v1 true :: L)) Tryz.results22 rvA rfl (hgl) ?_ selA
      exact ⟨v1, true, _, [], rfl, rfl, rfl, s1, by simp, out_wrong _ _ _ _ _ (.inr (by rw [hno]; rfl))⟩
    | cons c t =>
      rw [List.length_cons] at hle hl1 hm
      cases k with
      | zero => omega
      | succ k =>
      have hct : (c.toNat : Int) = 0 → c = 0 := fun h => UInt8.toNat_inj.1 (by show c.toNat = 0; omega)
      have hc5 : (c.toNat : Int) = 5 → c = 5 := fun h => UInt8.toNat_inj.1 (by show c.toNat = 5; omega)
      by_cases hc : c = 0
      · subst hc
        clear hct hc5
        rw [objP, if_pos rfl] at hy
        clear hS
        repeat' (first
    | (refine TL.call (Enters.plain (by kernel_rfl) (by rfl)) (by rfl) (Does.perm (N1 _) (by first | exact List.Perm.refl _ | exact Pk.cons pkA (List.Perm.refl _))) ?_; (rintro e g1 Ln _ ⟨v1, k1, k2, k3, s1⟩; have k2 := k2.symm; subst k1; subst k2; subst k3; refine CallK.ret ?_))
    | ((with_reducible apply TL.pure); (· exact yV); (· rfl)) | ((with_reducible apply TW.pure); (· exact yV); (· rfl))
    | ((with_reducible apply TL.pure); (· exact yA); (· rfl))
    | refine TC.seq ?_ | refine TC.region ?_ | refine TL.nil ?_ | refine TQ.then_normal ?_
    | ((with_reducible apply TL.storeE); (· rfl); (· rfl); (· rfl); (· exact pkA); (· infer_instance)) | ((with_reducible apply TL.store_whole); (· rfl); (· rfl); (· exact oneA); (· rfl); (· exact pkA); (· rfl))
    | refine TC.block ?_ | refine TC.ret ?_ | refine TC.skip ?_ | refine TC.exit ?_ | refine TC.cond rfl ?_
    | refine TQ.down ?_ | refine TQ.in_exit' rfl ?_
    | refine TL.guard_yes rfl rfl ?_ | refine TL.guard_no rfl rfl rfl rfl ?_ | refine TL.guard_no0 rfl rfl rfl ?_ | refine TL.guard_undef rfl rfl rfl ?_ | refine TL.guard_undef0 rfl rfl ?_ | refine TL.guard rfl rfl rfl ?_
    | refine Br.t rfl ?_ | refine Br.f rfl ?_ | refine Br.ky kpA ?_ | refine Br.kn kpA ?_ | refine Br.nky kpA ?_ | refine Br.nkn kpA ?_
    | refine Br.eq0 (fun _ => ?_) (fun _ => ?_) | refine Br.neq0 (fun _ => ?_) (fun _ => ?_) | refine Br.eq (fun _ => ?_) (fun _ => ?_) | refine Br.neq (fun _ => ?_) (fun _ => ?_) | refine Br.not (fun _ => ?_) (fun _ => ?_) | refine Br.dec (fun _ => ?_) (fun _ => ?_) | refine Br.bool (fun _ => ?_) (fun _ => ?_)
    | ((with_reducible apply TL.alloc_ag); (· rfl); intro _) | ((with_reducible apply TL.alloc_sc); (· rfl); (· rfl); intro _) | ((with_reducible apply TL.box_ag); (· rfl); (· rfl); intro _) | ((with_reducible apply TL.box_sc); (· rfl); (· rfl); (· rfl); intro _))
        refine TQ.freeze (v := ov) pkA ?_
        intro gf hgf hsl
        refine TQ.endR1 (L' := (RdO br v1 false :: L)) Tryz.results22 rvA rfl (hgl.trans hgf) ?_ selA
        refine ⟨v1, false, _, t, rfl, rfl, rfl, s1.le hgf, by omega, ?_⟩
        unfold OutV
        rw [hy]
        refine ⟨rfl, rfl, ?_⟩
        rw [IsJ]
        refine ⟨ov, fl, rfl, ?_, ?_⟩
        · show Sl gf ov (js ++ []).length 2 fl
          rw [List.append_nil, hjl]; exact hsl
        · show IsMs gf (ns ++ []) (js ++ []) fl
          rw [List.append_nil, List.append_nil]; exact IsMs.le hgf _ _ _ hJ
      · have hn0 : Hn (¬ (c.toNat : Int) = 0) := ⟨fun h => hc (hct h)⟩
        rw [objP, if_neg hc] at hy
        by_cases h5 : c = 5
        · subst h5
          rw [if_pos rfl] at hy
          have W1 := fun v (h : Sl gh v (nextL (5 :: t)).2.length 1 (byteVals (nextL (5 :: t)).2)) L => word_does t false v br gh L h (by omega)
          unfold WordR at W1
          clear hS hct hc5 hc hn0
          repeat' (first
    | (refine TL.call (Enters.plain (by kernel_rfl) (by rfl)) (by rfl) (Does.perm (N1 _) (by first | exact List.Perm.refl _ | exact Pk.cons pkA (List.Perm.refl _))) ?_; (rintro e g1 Ln _ ⟨v1, k1, k2, k3, s1⟩; have k2 := k2.symm; subst k1; subst k2; subst k3; refine CallK.ret ?_))
    | (refine TL.call (Enters.plain (by kernel_rfl) (by rfl)) (by rfl) (Does.perm (W1 _ (by assumption) _) (by first | exact List.Perm.refl _ | exact Pk.cons pkA (List.Perm.refl _))) ?_; (rintro e gw Ln _ ⟨vw, ww, xw, sw, k1, k2, k3, hsw, hlw, hxw, how⟩; have k2 := k2.symm; subst k1; subst k2; subst k3; refine CallK.ret ?_))
    | ((with_reducible apply TL.pure); (· exact yA); (· rfl))
    | refine TC.seq ?_ | refine TC.region ?_ | refine TL.nil ?_ | refine TQ.then_normal ?_
    | ((with_reducible apply TL.storeE); (· rfl); (· rfl); (· rfl); (· exact pkA); (· infer_instance)) | ((with_reducible apply TL.store_whole); (· rfl); (· rfl); (· exact oneA); (· rfl); (· exact pkA); (· rfl))
    | refine TC.block ?_ | refine TC.ret ?_ | refine TC.skip ?_ | refine TC.exit ?_ | refine TC.cond rfl ?_
    | refine TQ.down ?_ | refine TQ.in_exit' rfl ?_
    | refine TL.guard_yes rfl rfl ?_ | refine TL.guard_no rfl rfl rfl rfl ?_ | refine TL.guard_no0 rfl rfl rfl ?_ | refine TL.guard_undef rfl rfl rfl ?_ | refine TL.guard_undef0 rfl rfl ?_ | refine TL.guard rfl rfl rfl ?_
    | refine Br.t rfl ?_ | refine Br.f rfl ?_ | refine Br.ky kpA ?_ | refine Br.kn kpA ?_ | refine Br.nky kpA ?_ | refine Br.nkn kpA ?_
    | refine Br.eq0 (fun _ => ?_) (fun _ => ?_) | refine Br.neq0 (fun _ => ?_) (fun _ => ?_) | refine Br.eq (fun _ => ?_) (fun _ => ?_) | refine Br.neq (fun _ => ?_) (fun _ => ?_) | refine Br.not (fun _ => ?_) (fun _ => ?_) | refine Br.dec (fun _ => ?_) (fun _ => ?_) | refine Br.bool (fun _ => ?_) (fun _ => ?_)
    | ((with_reducible apply TL.alloc_ag); (· rfl); intro _) | ((with_reducible apply TL.alloc_sc); (· rfl); (· rfl); intro _) | ((with_reducible apply TL.box_ag); (· rfl); (· rfl); intro _) | ((with_reducible apply TL.box_sc); (· rfl); (· rfl); (· rfl); intro _))
          have N2 := fun L => next_does sw ww vw br gh L hsw (by omega)
          unfold NextR at N2
          have hu0 : (nextL sw).2.length ≤ sw.length := by cases sw <;> simp [nextL]
          have A2 := fun v (h : Sl gh v (nextL sw).2.length 1 (byteVals (nextL sw).2)) L => A (nextL sw).1 (nextL sw).2 (ww || sw.isEmpty) v gh L h (by omega)
          unfold ValR at A2
          have hmm : mm ≤ 1000000 := by omega
          obtain ⟨d, hd⟩ : ∃ d, d = (nextL sw).1 := ⟨_, rfl⟩
          obtain ⟨u, hu⟩ : ∃ u, u = (nextL sw).2 := ⟨_, rfl⟩
          obtain ⟨w2, hw2⟩ : ∃ w2, w2 = (ww || sw.isEmpty) := ⟨_, rfl⟩
          rw [← hd, ← hu, ← hw2] at A2
          rw [← hd, ← hu, ← hw2] at N2
          rw [← hu] at hu0
          have HD := Hn.mk hd
          have HU := Hn.mk hu
          have HW := Hn.mk hw2
          clear hd hu hw2 N1 W1 s1 hsw
          repeat' (first
    | (refine TL.call (Enters.plain (by kernel_rfl) (by rfl)) (by rfl) (Does.perm (N2 _) (by first | exact List.Perm.refl _ | exact Pk.cons pkA (List.Perm.refl _))) ?_; (rintro e g1 Ln _ ⟨v1, k1, k2, k3, s1⟩; have k2 := k2.symm; subst k1; subst k2; subst k3; refine CallK.ret ?_))
    | (refine TL.call (Enters.plain (by kernel_rfl) (by rfl)) (by rfl) (Does.perm (A2 _ (by assumption) _) (by first | exact List.Perm.refl _ | exact Pk.cons pkA (List.Perm.refl _))) ?_; (rintro e g1 Ln hg1 ⟨vv, wv, xv, sv, k1, hx1, k3, hsv, hlv, hov⟩; subst k1; subst k3; refine CallK.ret ?_))
    | ((with_reducible apply TL.pure); (· exact yV); (· rfl)) | ((with_reducible apply TW.pure); (· exact yV); (· rfl))
    | ((with_reducible apply TL.build_slice); (· rfl); (· rfl); (· exact oneA); (· rfl); (· rfl); (· rfl); intro _) | refine TL.build_one (by rfl) (by first | rfl | assumption) (by rfl) (by rfl) (by rfl) (by rfl) (fun _ => ?_) | refine TL.build_empty (by rfl) (fun _ => ?_)
    | ((with_reducible apply TL.append); (· rfl); (· rfl); (· rfl); (· rfl); (· exact pkA); (· first | exact Src.obj pkA | exact Src.sl (by assumption) | exact Src.row pkA); (· first | rfl | exact (byteVals_length _).trans (Nat.mul_one _).symm); (· first | exact byteVals_all _ | exact oneA); (· exact ⟨by unfold maxLen; omega, by omega⟩); (· rfl); intro _)
    | ((with_reducible apply TL.pure); (· exact yA); (· rfl))
    | refine TC.seq ?_ | refine TC.region ?_ | refine TL.nil ?_ | refine TQ.then_normal ?_
    | ((with_reducible apply TL.storeE); (· rfl); (· rfl); (· rfl); (· exact pkA); (· infer_instance)) | ((with_reducible apply TL.store_whole); (· rfl); (· rfl); (· exact oneA); (· rfl); (· exact pkA); (· rfl))
    | refine TC.block ?_ | refine TC.ret ?_ | refine TC.skip ?_ | refine TC.exit ?_ | refine TC.cond rfl ?_
    | refine TQ.down ?_ | refine TQ.in_exit' rfl ?_
    | refine TL.guard_yes rfl rfl ?_ | refine TL.guard_no rfl rfl rfl rfl ?_ | refine TL.guard_no0 rfl rfl rfl ?_ | refine TL.guard_undef rfl rfl rfl ?_ | refine TL.guard_undef0 rfl rfl ?_ | refine TL.guard rfl rfl rfl ?_
    | refine Br.t rfl ?_ | refine Br.f rfl ?_ | refine Br.ky kpA ?_ | refine Br.kn kpA ?_ | refine Br.nky kpA ?_ | refine Br.nkn kpA ?_
    | refine Br.eq0 (fun _ => ?_) (fun _ => ?_) | refine Br.neq0 (fun _ => ?_) (fun _ => ?_) | refine Br.eq (fun _ => ?_) (fun _ => ?_) | refine Br.neq (fun _ => ?_) (fun _ => ?_) | refine Br.not (fun _ => ?_) (fun _ => ?_) | refine Br.dec (fun _ => ?_) (fun _ => ?_) | refine Br.bool (fun _ => ?_) (fun _ => ?_)
    | ((with_reducible apply TL.alloc_ag); (· rfl); intro _) | ((with_reducible apply TL.alloc_sc); (· rfl); (· rfl); intro _) | ((with_reducible apply TL.box_ag); (· rfl); (· rfl); intro _) | ((with_reducible apply TL.box_sc); (· rfl); (· rfl); (· rfl); intro _))
          rename_i b3 v3
          have hd := HD.out
          have hu := HU.out
          have hw2 := HW.out
          clear HD HU HW N2 A2
          unfold OutW at how
          rw [if_neg (by decide)] at how
          unfold OutV at hov
          refine TQ.round ⟨sv, wv, vv, v3, mm + 1, fl ++ [str xw, xv], g1⟩ ?_ ?_ rfl subA selA
          · refine ⟨hsv, by dsimp only; omega, hgl.trans hg1, by simp [hfl]; omega, fun h => .inr ?_, fun h => ⟨rfl, ?_⟩⟩
            · obtain rfl : wv = true := h
              cases hp : wordP t with
              | none => rw [hp] at hy; rw [hy]; rfl
              | some q =>
                obtain ⟨a, r⟩ := q
                rw [hp] at how hy
                obtain ⟨rfl, rfl, rfl⟩ := how
                cases sw with
                | nil => rw [hy]; rfl
                | cons d' u' =>
                  obtain rfl : d = d' := hd
                  obtain rfl : u = u' := hu
                  obtain rfl : w2 = false := hw2
                  rw [if_neg (by decide)] at hov
                  cases hf : f d u with
                  | none => rw [hy]; simp only [hf]; rfl
                  | some q =>
                    obtain ⟨j, r⟩ := q
                    rw [hf] at hov
                    exact absurd (show true = false from hov.1) (by decide)
            · obtain rfl : wv = false := h
              by_cases h2 : w2 = true
              · rw [if_pos h2] at hov; cases hov
              rw [if_neg h2] at hov
              cases hp : wordP t with
              | none => rw [hp] at how; rw [hw2, show ww = true from how] at h2; exact absurd rfl h2
              | some q =>
                obtain ⟨a, r⟩ := q
                rw [hp] at how hy
                obtain ⟨rfl, rfl, rfl⟩ := how
                cases sw with
                | nil => rw [hw2] at h2; exact absurd rfl h2
                | cons d' u' =>
                  obtain rfl : d = d' := hd
                  obtain rfl : u = u' := hu
                  cases hf : f d u with
                  | none => rw [hf] at hov; exact absurd (show false = true from hov) (by decide)
                  | some q =>
                    obtain ⟨j, r⟩ := q
                    rw [hf] at hov
                    obtain ⟨_, rfl, hj⟩ := hov
                    refine ⟨ns ++ [xw], js ++ [j], k, (IsMs.le hg1 _ _ _ hJ).snoc hj, by simp [hjl], by simp only [List.length_cons] at hlw hu0; dsimp only; omega, ?_⟩
                    rw [hy]
                    simp only [hf]
                    show Option.map _ (Option.map _ _) = _
                    rw [Option.map_map]
                    congr 1
                    funext p
                    simp
          · show 2 * sv.length + (if wv = true then 0 else 1) < 2 * (t.length + 1) + 1
            split <;> omega
        · have hn5 : Hn (¬ (c.toNat : Int) = 5) := ⟨fun h => h5 (hc5 h)⟩
          rw [if_neg h5] at hy
          clear hS hct hc5 hc h5
          repeat' (first
    | (refine TL.call (Enters.plain (by kernel_rfl) (by rfl)) (by rfl) (Does.perm (N1 _) (by first | exact List.Perm.refl _ | exact Pk.cons pkA (List.Perm.refl _))) ?_; (rintro e g1 Ln _ ⟨v1, k1, k2, k3, s1⟩; have k2 := k2.symm; subst k1; subst k2; subst k3; refine CallK.ret ?_))
    | ((with_reducible apply TL.pure); (· exact yA); (· rfl))
    | refine TC.seq ?_ | refine TC.region ?_ | refine TL.nil ?_ | refine TQ.then_normal ?_
    | ((with_reducible apply TL.storeE); (· rfl); (· rfl); (· rfl); (· exact pkA); (· infer_instance)) | ((with_reducible apply TL.store_whole); (· rfl); (· rfl); (· exact oneA); (· rfl); (· exact pkA); (· rfl))
    | refine TC.block ?_ | refine TC.ret ?_ | refine TC.skip ?_ | refine TC.exit ?_ | refine TC.cond rfl ?_
    | refine TQ.down ?_ | refine TQ.in_exit' rfl ?_
    | refine TL.guard_yes rfl rfl ?_ | refine TL.guard_no rfl rfl rfl rfl ?_ | refine TL.guard_no0 rfl rfl rfl ?_ | refine TL.guard_undef rfl rfl rfl ?_ | refine TL.guard_undef0 rfl rfl ?_ | refine TL.guard rfl rfl rfl ?_
    | refine Br.t rfl ?_ | refine Br.f rfl ?_ | refine Br.ky kpA ?_ | refine Br.kn kpA ?_ | refine Br.nky kpA ?_ | refine Br.nkn kpA ?_
    | refine Br.eq0 (fun _ => ?_) (fun _ => ?_) | refine Br.neq0 (fun _ => ?_) (fun _ => ?_) | refine Br.eq (fun _ => ?_) (fun _ => ?_) | refine Br.neq (fun _ => ?_) (fun _ => ?_) | refine Br.not (fun _ => ?_) (fun _ => ?_) | refine Br.dec (fun _ => ?_) (fun _ => ?_) | refine Br.bool (fun _ => ?_) (fun _ => ?_)
    | ((with_reducible apply TL.alloc_ag); (· rfl); intro _) | ((with_reducible apply TL.alloc_sc); (· rfl); (· rfl); intro _) | ((with_reducible apply TL.box_ag); (· rfl); (· rfl); intro _) | ((with_reducible apply TL.box_sc); (· rfl); (· rfl); (· rfl); intro _))
          refine TQ.round ⟨t, true, v1, ov, mm, fl, gh⟩ ?_ ?_ rfl subA selA
          · exact ⟨s1, by dsimp only; omega, hgl, hfl, fun _ => .inr hy, fun h => (by cases h)⟩
          · show 2 * t.length + 0 < 2 * (t.length + 1) + 1
            omega
end Go.Proofs.YtphlggmhgfcmgaaGreatDoor
