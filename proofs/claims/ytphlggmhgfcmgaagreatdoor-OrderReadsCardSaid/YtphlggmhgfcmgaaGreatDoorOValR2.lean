/-
  The walks of the document's value of a key: lists, objects; Unkey.
-/
import Derived.Test.YtphlggmhgfcmgaaGreatDoorOValR
import Derived.Test.YtphlggmhgfcmgaaGreatDoorTLslice
import Derived.Test.YtphlggmhgfcmgaaGreatDoorRMay
import Derived.Test.YtphlggmhgfcmgaaGreatDoorOUnkey
namespace Go.Proofs.YtphlggmhgfcmgaaGreatDoor
open Go.RowKit Go.TL
set_option maxRecDepth 100000

theorem six_one (a : Int) (b : Bool) (c : Int) (d : List UInt8) {vi vn : Value} (h1 : vi.one = true) (h2 : vn.one = true) : (sixV a b c d vi vn).all Go.Value.one = true := by
  simp only [sixV, List.all_cons, h1, h2]; rfl
theorem _root_.Go.TL.TQ.onlyU {Q : Exit → Act → World → Prop} {c : Exit} {n : Nat} {ds : List Deferred} {S : Slots} {g : Gh} {L : List Ent} (L' : List Ent) (hL : Sel L' L) (h : TQ Q c n ds S g L') : TQ Q c n ds S g L := .mk fun a w hf hs => h.h a w hf (hs.sel hL)
theorem one_of_slice {v : Value} {ao : Option Addr} {n c : Nat} (h : v = .slice ao n c) : v.one = true := by rw [h]; rfl
theorem _root_.Go.TL.Sl.one {g : Gh} {v : Value} {n sz : Nat} {xs : List Value} (h : Sl g v n sz xs) : v.one = true := by obtain ⟨ao, cap, rfl⟩ := h.slice; rfl
set_option maxHeartbeats 32000000 in
theorem rlist5_does (f : UInt8 → List UInt8 → Option (J × List UInt8)) (hSm : SmF f) (s : List UInt8) (v : Value) (within : Nat) (hw : within < 32) (hs : s.length ≤ 100000)
    (A : ∀ (k : Nat) (g : Gh) (L : List Ent), k ≤ s.length → Sl g v s.length 1 (byteVals s) → Does Tryz.prog 15 #[v, .int .i64 (k : Nat), .int .i64 (within + 1 : Nat)] g L (VR s (atL f (s.drop k)) L))
    (k0 : Nat) (g : Gh) (L : List Ent) (hk : s[k0]? = some 6) (hS : Sl g v s.length 1 (byteVals s)) : Does Tryz.prog 15 #[v, .int .i64 (k0 : Nat), .int .i64 (within : Nat)] g L (VR s ((listP f ((s.drop (k0 + 1)).length + 1) (s.drop (k0 + 1))).map fun p => (.list p.1, p.2)) L) := by
  refine Does.of3 Tryz.func15 rfl Tryz.ntmps15 rfl ?_
  obtain ⟨ao, cap, rfl⟩ := hS.slice
  have hlt := (List.getElem?_eq_some_iff.1 hk).1
  obtain ⟨b, off, rfl, hg⟩ := hS.elem hlt (by decide)
  have hld : g.cell b (off + k0 * 1) = some (.int .u8 6) := hg 0 _ (by rw [Nat.mul_one]; exact byteVals_get hk)
  have HS := Hn.mk hS
  clear hg hk hS
  repeat' (first
    | ((with_reducible apply TL.pure); (· exact yQ); (· rfl))
    | ((with_reducible apply TL.pure); (· exact yV); (· rfl)) | ((with_reducible apply TW.pure); (· exact yV); (· rfl))
    | ((with_reducible apply TL.pure); (· exact yM); (· rfl)) | ((with_reducible apply TW.pure); (· exact yM); (· rfl))
    | ((with_reducible apply TL.pure); (· exact yA); (· rfl))
    | refine TC.seq ?_ | refine TC.region ?_ | refine TL.nil ?_ | refine TQ.then_normal ?_
    | ((with_reducible apply TL.storeE); (· rfl); (· rfl); (· rfl); (· exact pkA); (· infer_instance)) | ((with_reducible apply TL.store_whole); (· rfl); (· rfl); (· exact oneA); (· rfl); (· exact pkA); (· rfl))
    | refine TC.block ?_ | refine TC.ret ?_ | refine TC.skip ?_ | refine TC.exit ?_ | refine TC.cond rfl ?_
    | refine TQ.down ?_ | refine TQ.in_exit' rfl ?_
    | refine TL.guard_yes rfl rfl ?_ | refine TL.guard_no rfl rfl rfl rfl ?_ | refine TL.guard_no0 rfl rfl rfl ?_ | refine TL.guard_undef rfl rfl rfl ?_ | refine TL.guard_undef0 rfl rfl ?_ | refine TL.guard rfl rfl rfl ?_
    | refine Br.t rfl ?_ | refine Br.f rfl ?_ | refine Br.ky kpA ?_ | refine Br.kn kpA ?_ | refine Br.nky kpA ?_ | refine Br.nkn kpA ?_
    | refine Br.eq0 (fun _ => ?_) (fun _ => ?_) | refine Br.neq0 (fun _ => ?_) (fun _ => ?_) | refine Br.eq (fun _ => ?_) (fun _ => ?_) | refine Br.neq (fun _ => ?_) (fun _ => ?_) | refine Br.not (fun _ => ?_) (fun _ => ?_) | refine Br.dec (fun _ => ?_) (fun _ => ?_) | refine Br.bool (fun _ => ?_) (fun _ => ?_)
    | ((with_reducible apply TL.alloc_ag); (· rfl); intro _) | ((with_reducible apply TL.alloc_sc); (· rfl); (· rfl); intro _) | ((with_reducible apply TL.box_ag); (· rfl); (· rfl); intro _) | ((with_reducible apply TL.box_sc); (· rfl); (· rfl); (· rfl); intro _))
  rename_i b6 b13
  refine TC.row_nil 29 6 ?_
  refine TC.loop (LrI f s (k0 + 1) g) (fun x => s.length - x.i) (fun x => [(1, .int .i64 (x.i : Nat)), (0, .slice (some ⟨b, off, none⟩) s.length cap), (2, .int .i64 (within : Nat)), (8, .int .i64 6), (13, .pointer (some ⟨b13, 0, none⟩)), (6, .pointer (some ⟨b6, 0, none⟩))]) (fun x => x.gh)
    (fun x => .obj b13 (.cells [.int .i64 4, .bool false, .int .i64 0, str [], x.lv, .slice none 0 0].toArray 29 (0, 0)) :: .row 29 6 x.lv x.m x.fl :: .obj b6 (.cells [.int .i64 0, .bool false, .int .i64 0, str [], .slice none 0 0, .slice none 0 0].toArray 29 (0, 0)) :: L)
    ⟨k0 + 1, 0, .slice none 0 0, [], g⟩ ?_ rfl subA selA ?_
  · refine ⟨by dsimp only; omega, .refl g, by simp, rfl, [], (s.drop (k0 + 1)).length + 1, by rw [IsVs], by rw [wfVs]; trivial, rfl, by simp, ?_⟩
    dsimp only
    cases listP f ((s.drop (k0 + 1)).length + 1) (s.drop (k0 + 1)) <;> rfl
  rintro ⟨i, m, lv, fl, gh⟩ ⟨hi, hgl, hml, hfl, ds, kk, hI, hwf, hdl, hkk, hex⟩
  dsimp only at hi hgl hml hfl hI hdl hkk hex ⊢
  unfold VR
  have HS1 := HS.out.le hgl
  by_cases hlt2 : i < s.length
  · have hd : s.drop i = s[i] :: s.drop (i + 1) := List.drop_eq_getElem_cons hlt2
    have hc : s[i]? = some s[i] := List.getElem?_eq_getElem hlt2
    have hld2 : gh.cell b (off + i * 1) = some (.int .u8 ((s[i]).toNat : Nat)) := by
      obtain ⟨b', off', e, hg'⟩ := HS1.elem hlt2 (by decide)
      obtain ⟨rfl, rfl⟩ : b = b' ∧ off = off' := by simpa using e
      exact hg' 0 _ (by rw [Nat.mul_one]; exact byteVals_get hc)
    generalize s[i] = c at *
    rw [hd] at hkk hex
    rw [List.length_cons] at hkk
    cases kk with
    | zero => omega
    | succ kk =>
    by_cases hc0 : c = 0
    · subst hc0
      have hld2 : gh.cell b (off + i * 1) = some (.int .u8 0) := hld2
      rw [listP, if_pos rfl] at hex
      rw [hex]
      have HX := And.intro hI (And.intro hwf hdl)
      have HX := Hn.mk HX
      clear hI hwf hdl hex HS1 hd hc
      refine TC.row_slice (v := lv) pkA ?_
      rintro al cl rfl _
      repeat' (first
    | ((with_reducible apply TL.pure); (· exact yQ); (· rfl))
    | ((with_reducible apply TL.pure); (· exact yV); (· rfl)) | ((with_reducible apply TW.pure); (· exact yV); (· rfl))
    | ((with_reducible apply TL.pure); (· exact yM); (· rfl)) | ((with_reducible apply TW.pure); (· exact yM); (· rfl))
    | ((with_reducible apply TL.pure); (· exact yA); (· rfl))
    | refine TC.seq ?_ | refine TC.region ?_ | refine TL.nil ?_ | refine TQ.then_normal ?_
    | ((with_reducible apply TL.storeE); (· rfl); (· rfl); (· rfl); (· exact pkA); (· infer_instance)) | ((with_reducible apply TL.store_whole); (· rfl); (· rfl); (· exact oneA); (· rfl); (· exact pkA); (· rfl))
    | refine TC.block ?_ | refine TC.ret ?_ | refine TC.skip ?_ | refine TC.exit ?_ | refine TC.cond rfl ?_
    | refine TQ.down ?_ | refine TQ.in_exit' rfl ?_
    | refine TL.guard_yes rfl rfl ?_ | refine TL.guard_no rfl rfl rfl rfl ?_ | refine TL.guard_no0 rfl rfl rfl ?_ | refine TL.guard_undef rfl rfl rfl ?_ | refine TL.guard_undef0 rfl rfl ?_ | refine TL.guard rfl rfl rfl ?_
    | refine Br.t rfl ?_ | refine Br.f rfl ?_ | refine Br.ky kpA ?_ | refine Br.kn kpA ?_ | refine Br.nky kpA ?_ | refine Br.nkn kpA ?_
    | refine Br.eq0 (fun _ => ?_) (fun _ => ?_) | refine Br.neq0 (fun _ => ?_) (fun _ => ?_) | refine Br.eq (fun _ => ?_) (fun _ => ?_) | refine Br.neq (fun _ => ?_) (fun _ => ?_) | refine Br.not (fun _ => ?_) (fun _ => ?_) | refine Br.dec (fun _ => ?_) (fun _ => ?_) | refine Br.bool (fun _ => ?_) (fun _ => ?_)
    | ((with_reducible apply TL.alloc_ag); (· rfl); intro _) | ((with_reducible apply TL.alloc_sc); (· rfl); (· rfl); intro _) | ((with_reducible apply TL.box_ag); (· rfl); (· rfl); intro _) | ((with_reducible apply TL.box_sc); (· rfl); (· rfl); (· rfl); intro _))
      refine TQ.freeze (v := .slice al m cl) pkA ?_
      intro gf hgf hsl
      refine TQ.endR2 (L' := L) Tryz.results15 rvA rvA rfl (hgl.trans hgf) ?_ selA
      obtain ⟨hI, hwf, hdl⟩ := HX.out
      refine ⟨4, false, 0, [], _, _, _, rfl, rfl, rfl, rfl, i + 1, rfl, by omega, rfl, .mk 4 false 0 [] ds [], ?_, ?_, ?_⟩
      · rw [IsV]
        refine ⟨_, _, fl, rfl, by decide, by decide, by simp, ?_, by omega, IsVs.le hgf _ _ hI, Sl.nil, Nat.zero_le _, by simp⟩
        rw [hdl]; exact hsl
      · rw [toJ_eq]; simp
      · rw [wfV]
        exact ⟨by simp, by omega, fun h => absurd h (by decide), fun _ => hwf⟩
    · have n0 : Hn (¬ ((c.toNat : Nat) : Int) = 0) := ⟨fun e => hc0 (UInt8.toNat_inj.1 (by show c.toNat = 0; omega))⟩
      rw [listP, if_neg hc0] at hex
      have A1 := fun L => A i gh L (by omega) HS1
      rw [hd] at A1
      unfold VR atL at A1
      dsimp only at A1
      refine TC.row_slice (v := lv) pkA ?_
      rintro al cl rfl _
      cases hf : f c (s.drop (i + 1)) with
      | none =>
        rw [hf] at hex A1
        have hno : listP f ((s.drop (k0 + 1)).length + 1) (s.drop (k0 + 1)) = none := by rw [hex]; rfl
        rw [hno]
        clear hI hwf hdl hex HS1 hd hc hno
        repeat' (first
    | ((with_reducible apply TL.pure); (· exact yQ); (· rfl))
    | ((with_reducible apply TL.pure); (· exact yV); (· rfl)) | ((with_reducible apply TW.pure); (· exact yV); (· rfl))
    | ((with_reducible apply TL.pure); (· exact yM); (· rfl)) | ((with_reducible apply TW.pure); (· exact yM); (· rfl))
    | (refine TL.call (Enters.plain (by kernel_rfl) (by rfl)) (by rfl) (A1 _) ?_; (rintro e g1 Ln hg1 ⟨xa, xb, xc, xd, vi, vn, ee, k1, o1, o2, k3, hov⟩; subst k1; subst k3; dsimp only at hov; have hall := six_one xa xb xc xd o1 o2; (subst hov); refine CallK.ret ?_))
    | ((with_reducible apply TL.store_whole (us := sixV xa xb xc xd vi vn)); (· rfl); (· rfl); (· exact hall); (· rfl); (· exact pkA); (· rfl))
    | ((with_reducible apply TL.pure); (· exact yA); (· rfl))
    | refine TC.seq ?_ | refine TC.region ?_ | refine TL.nil ?_ | refine TQ.then_normal ?_
    | ((with_reducible apply TL.storeE); (· rfl); (· rfl); (· rfl); (· exact pkA); (· infer_instance)) | ((with_reducible apply TL.store_whole); (· rfl); (· rfl); (· exact oneA); (· rfl); (· exact pkA); (· rfl))
    | refine TC.block ?_ | refine TC.ret ?_ | refine TC.skip ?_ | refine TC.exit ?_ | refine TC.cond rfl ?_
    | refine TQ.down ?_ | refine TQ.in_exit' rfl ?_
    | refine TL.guard_yes rfl rfl ?_ | refine TL.guard_no rfl rfl rfl rfl ?_ | refine TL.guard_no0 rfl rfl rfl ?_ | refine TL.guard_undef rfl rfl rfl ?_ | refine TL.guard_undef0 rfl rfl ?_ | refine TL.guard rfl rfl rfl ?_
    | refine Br.t rfl ?_ | refine Br.f rfl ?_ | refine Br.ky kpA ?_ | refine Br.kn kpA ?_ | refine Br.nky kpA ?_ | refine Br.nkn kpA ?_
    | refine Br.eq0 (fun _ => ?_) (fun _ => ?_) | refine Br.neq0 (fun _ => ?_) (fun _ => ?_) | refine Br.eq (fun _ => ?_) (fun _ => ?_) | refine Br.neq (fun _ => ?_) (fun _ => ?_) | refine Br.not (fun _ => ?_) (fun _ => ?_) | refine Br.dec (fun _ => ?_) (fun _ => ?_) | refine Br.bool (fun _ => ?_) (fun _ => ?_)
    | ((with_reducible apply TL.alloc_ag); (· rfl); intro _) | ((with_reducible apply TL.alloc_sc); (· rfl); (· rfl); intro _) | ((with_reducible apply TL.box_ag); (· rfl); (· rfl); intro _) | ((with_reducible apply TL.box_sc); (· rfl); (· rfl); (· rfl); intro _))
        refine TQ.endR2 (L' := L) Tryz.results15 rvA rvA rfl (hgl.trans hg1) ?_ selA
        exact ⟨4, false, 0, [], _, _, _, rfl, rfl, rfl, rfl, rfl⟩
      | some q =>
        obtain ⟨j, r⟩ := q
        rw [hf] at hex A1
        dsimp only at hex
        have HX := And.intro hI (And.intro hwf (And.intro hdl hex))
        have HX := Hn.mk HX
        have hm1 : m ≤ 100000 := by omega
        clear hI hwf hdl hex HS1 hd hc
        repeat' (first
    | ((with_reducible apply TL.pure); (· exact yQ); (· rfl))
    | ((with_reducible apply TL.pure); (· exact yV); (· rfl)) | ((with_reducible apply TW.pure); (· exact yV); (· rfl))
    | ((with_reducible apply TL.pure); (· exact yM); (· rfl)) | ((with_reducible apply TW.pure); (· exact yM); (· rfl))
    | (refine TL.call (Enters.plain (by kernel_rfl) (by rfl)) (by rfl) (A1 _) ?_; (rintro e g1 Ln hg1 ⟨xa, xb, xc, xd, vi, vn, ee, k1, o1, o2, k3, hov⟩; subst k1; subst k3; dsimp only at hov; have hall := six_one xa xb xc xd o1 o2; (obtain ⟨p, rfl, hp, hrp, xx, hxv, hxj, hxw⟩ := hov; have HP := Hn.mk (And.intro hrp (And.intro hxv (And.intro hxj hxw))); clear hrp hxv hxj hxw); refine CallK.ret ?_))
    | ((with_reducible apply TL.store_whole (us := sixV xa xb xc xd vi vn)); (· rfl); (· rfl); (· exact hall); (· rfl); (· exact pkA); (· rfl))
    | ((with_reducible apply TL.build_slice); (· rfl); (· rfl); (· exact oneA); (· rfl); (· rfl); (· rfl); intro _) | refine TL.build_one (by rfl) (by first | rfl | assumption) (by rfl) (by rfl) (by rfl) (by rfl) (fun _ => ?_) | refine TL.build_empty (by rfl) (fun _ => ?_)
    | ((with_reducible apply TL.append (e := 29)); (· rfl); (· rfl); (· rfl); (· rfl); (· exact pkA); (· exact Src.obj pkA); (· rfl); (· exact hall); (· exact ⟨by unfold maxLen; omega, by omega⟩); (· rfl); intro vf; refine Go.TL.TL.row_slice (v := vf) pkA ?_; rintro av cv rfl _)
    | ((with_reducible apply TL.pure); (· exact yA); (· rfl))
    | refine TC.seq ?_ | refine TC.region ?_ | refine TL.nil ?_ | refine TQ.then_normal ?_
    | ((with_reducible apply TL.storeE); (· rfl); (· rfl); (· rfl); (· exact pkA); (· infer_instance)) | ((with_reducible apply TL.store_whole); (· rfl); (· rfl); (· exact oneA); (· rfl); (· exact pkA); (· rfl))
    | refine TC.block ?_ | refine TC.ret ?_ | refine TC.skip ?_ | refine TC.exit ?_ | refine TC.cond rfl ?_
    | refine TQ.down ?_ | refine TQ.in_exit' rfl ?_
    | refine TL.guard_yes rfl rfl ?_ | refine TL.guard_no rfl rfl rfl rfl ?_ | refine TL.guard_no0 rfl rfl rfl ?_ | refine TL.guard_undef rfl rfl rfl ?_ | refine TL.guard_undef0 rfl rfl ?_ | refine TL.guard rfl rfl rfl ?_
    | refine Br.t rfl ?_ | refine Br.f rfl ?_ | refine Br.ky kpA ?_ | refine Br.kn kpA ?_ | refine Br.nky kpA ?_ | refine Br.nkn kpA ?_
    | refine Br.eq0 (fun _ => ?_) (fun _ => ?_) | refine Br.neq0 (fun _ => ?_) (fun _ => ?_) | refine Br.eq (fun _ => ?_) (fun _ => ?_) | refine Br.neq (fun _ => ?_) (fun _ => ?_) | refine Br.not (fun _ => ?_) (fun _ => ?_) | refine Br.dec (fun _ => ?_) (fun _ => ?_) | refine Br.bool (fun _ => ?_) (fun _ => ?_)
    | ((with_reducible apply TL.alloc_ag); (· rfl); intro _) | ((with_reducible apply TL.alloc_sc); (· rfl); (· rfl); intro _) | ((with_reducible apply TL.box_ag); (· rfl); (· rfl); intro _) | ((with_reducible apply TL.box_sc); (· rfl); (· rfl); (· rfl); intro _))
        obtain ⟨hI, hwf, hdl, hex⟩ := HX.out
        obtain ⟨hrp, hxv, hxj, hxw⟩ := HP.out
        have hrl := (hSm _ _ _ _ hf (by rw [List.length_drop]; omega)).2
        rw [hrp, List.length_drop, List.length_drop] at hrl
        refine TQ.round ⟨p, m + 1, .slice av (m + 1) cv, fl ++ sixV xa xb xc xd vi vn, g1⟩ ?_ ?_ rfl subA selA
        · refine ⟨hp, hgl.trans hg1, by dsimp only; omega, by simp [hfl]; omega, ds ++ [xx], kk, (IsVs.le hg1 _ _ hI).snoc2 hxv, hwf.snoc hxw, by simp [hdl], ?_, ?_⟩
          · dsimp only
            rw [List.length_drop] at hkk ⊢; omega
          · dsimp only
            rw [hex, hrp, Option.map_map]
            congr 1
            funext q
            simp [hxj]
        · show s.length - p < s.length - i
          omega
  · have hno : listP f ((s.drop (k0 + 1)).length + 1) (s.drop (k0 + 1)) = none := by
      rw [hex, List.drop_eq_nil_of_le (by omega)]
      cases kk <;> rfl
    rw [hno]
    clear hI hwf hdl hex HS1 hno
    refine TC.row_slice (v := lv) pkA ?_
    rintro al cl rfl _
    repeat' (first
    | ((with_reducible apply TL.pure); (· exact yQ); (· rfl))
    | ((with_reducible apply TL.pure); (· exact yV); (· rfl)) | ((with_reducible apply TW.pure); (· exact yV); (· rfl))
    | ((with_reducible apply TL.pure); (· exact yM); (· rfl)) | ((with_reducible apply TW.pure); (· exact yM); (· rfl))
    | ((with_reducible apply TL.pure); (· exact yA); (· rfl))
    | refine TC.seq ?_ | refine TC.region ?_ | refine TL.nil ?_ | refine TQ.then_normal ?_
    | ((with_reducible apply TL.storeE); (· rfl); (· rfl); (· rfl); (· exact pkA); (· infer_instance)) | ((with_reducible apply TL.store_whole); (· rfl); (· rfl); (· exact oneA); (· rfl); (· exact pkA); (· rfl))
    | refine TC.block ?_ | refine TC.ret ?_ | refine TC.skip ?_ | refine TC.exit ?_ | refine TC.cond rfl ?_
    | refine TQ.down ?_ | refine TQ.in_exit' rfl ?_
    | refine TL.guard_yes rfl rfl ?_ | refine TL.guard_no rfl rfl rfl rfl ?_ | refine TL.guard_no0 rfl rfl rfl ?_ | refine TL.guard_undef rfl rfl rfl ?_ | refine TL.guard_undef0 rfl rfl ?_ | refine TL.guard rfl rfl rfl ?_
    | refine Br.t rfl ?_ | refine Br.f rfl ?_ | refine Br.ky kpA ?_ | refine Br.kn kpA ?_ | refine Br.nky kpA ?_ | refine Br.nkn kpA ?_
    | refine Br.eq0 (fun _ => ?_) (fun _ => ?_) | refine Br.neq0 (fun _ => ?_) (fun _ => ?_) | refine Br.eq (fun _ => ?_) (fun _ => ?_) | refine Br.neq (fun _ => ?_) (fun _ => ?_) | refine Br.not (fun _ => ?_) (fun _ => ?_) | refine Br.dec (fun _ => ?_) (fun _ => ?_) | refine Br.bool (fun _ => ?_) (fun _ => ?_)
    | ((with_reducible apply TL.alloc_ag); (· rfl); intro _) | ((with_reducible apply TL.alloc_sc); (· rfl); (· rfl); intro _) | ((with_reducible apply TL.box_ag); (· rfl); (· rfl); intro _) | ((with_reducible apply TL.box_sc); (· rfl); (· rfl); (· rfl); intro _))
    refine TQ.endR2 (L' := L) Tryz.results15 rvA rvA rfl (hgl) ?_ selA
    exact ⟨4, false, 0, [], _, _, _, rfl, rfl, rfl, rfl, rfl⟩
/-- An object on the way: where, how many, the items' slice and cells, the names' slice, the names, what stays. -/
structure OrS where
  i : Nat
  m : Nat
  lv : Value
  fl : List Value
  nv : Value
  ns : List (List UInt8)
  gh : Gh
structure OrI (f : UInt8 → List UInt8 → Option (J × List UInt8)) (s : List UInt8) (k0 : Nat) (g : Gh) (x : OrS) : Prop where
  le : x.i ≤ s.length
  gl : g.le x.gh
  ml : x.m + k0 ≤ x.i
  fll : x.fl.length = x.m * 6
  nl : x.ns.length = x.m
  nb : ∀ n ∈ x.ns, n.length ≤ 100000
  ex : ∃ ds k, IsVs x.gh ds x.fl ∧ wfVs ds ∧ ds.length = x.m ∧ (s.drop x.i).length < k ∧ objP f ((s.drop k0).length + 1) (s.drop k0) = (objP f k (s.drop x.i)).map fun p => ((x.ns ++ p.1.1, ds.map toJ ++ p.1.2), p.2)
set_option maxHeartbeats 64000000 in
theorem robj5_does (f : UInt8 → List UInt8 → Option (J × List UInt8)) (hSm : SmF f) (s : List UInt8) (v : Value) (within : Nat) (hw : within < 32) (hs : s.length ≤ 100000)
    (A : ∀ (k : Nat) (g : Gh) (L : List Ent), k ≤ s.length → Sl g v s.length 1 (byteVals s) → Does Tryz.prog 15 #[v, .int .i64 (k : Nat), .int .i64 (within + 1 : Nat)] g L (VR s (atL f (s.drop k)) L))
    (k0 : Nat) (g : Gh) (L : List Ent) (hk : s[k0]? = some 7) (hS : Sl g v s.length 1 (byteVals s)) : Does Tryz.prog 15 #[v, .int .i64 (k0 : Nat), .int .i64 (within : Nat)] g L (VR s ((objP f ((s.drop (k0 + 1)).length + 1) (s.drop (k0 + 1))).map fun p => (.obj p.1.1 p.1.2, p.2)) L) := by
  refine Does.of3 Tryz.func15 rfl Tryz.ntmps15 rfl ?_
  obtain ⟨ao, cap, rfl⟩ := hS.slice
  have hlt := (List.getElem?_eq_some_iff.1 hk).1
  obtain ⟨b, off, rfl, hg⟩ := hS.elem hlt (by decide)
  have hld : g.cell b (off + k0 * 1) = some (.int .u8 7) := hg 0 _ (by rw [Nat.mul_one]; exact byteVals_get hk)
  have HS := Hn.mk hS
  clear hg hk hS
  repeat' (first
    | ((with_reducible apply TL.pure); (· exact yQ); (· rfl))
    | ((with_reducible apply TL.pure); (· exact yV); (· rfl)) | ((with_reducible apply TW.pure); (· exact yV); (· rfl))
    | ((with_reducible apply TL.pure); (· exact yM); (· rfl)) | ((with_reducible apply TW.pure); (· exact yM); (· rfl))
    | ((with_reducible apply TL.pure); (· exact yA); (· rfl))
    | refine TC.seq ?_ | refine TC.region ?_ | refine TL.nil ?_ | refine TQ.then_normal ?_
    | ((with_reducible apply TL.storeE); (· rfl); (· rfl); (· rfl); (· exact pkA); (· infer_instance)) | ((with_reducible apply TL.store_whole); (· rfl); (· rfl); (· exact oneA); (· rfl); (· exact pkA); (· rfl))
    | refine TC.block ?_ | refine TC.ret ?_ | refine TC.skip ?_ | refine TC.exit ?_ | refine TC.cond rfl ?_
    | refine TQ.down ?_ | refine TQ.in_exit' rfl ?_
    | refine TL.guard_yes rfl rfl ?_ | refine TL.guard_no rfl rfl rfl rfl ?_ | refine TL.guard_no0 rfl rfl rfl ?_ | refine TL.guard_undef rfl rfl rfl ?_ | refine TL.guard_undef0 rfl rfl ?_ | refine TL.guard rfl rfl rfl ?_
    | refine Br.t rfl ?_ | refine Br.f rfl ?_ | refine Br.ky kpA ?_ | refine Br.kn kpA ?_ | refine Br.nky kpA ?_ | refine Br.nkn kpA ?_
    | refine Br.eq0 (fun _ => ?_) (fun _ => ?_) | refine Br.neq0 (fun _ => ?_) (fun _ => ?_) | refine Br.eq (fun _ => ?_) (fun _ => ?_) | refine Br.neq (fun _ => ?_) (fun _ => ?_) | refine Br.not (fun _ => ?_) (fun _ => ?_) | refine Br.dec (fun _ => ?_) (fun _ => ?_) | refine Br.bool (fun _ => ?_) (fun _ => ?_)
    | ((with_reducible apply TL.alloc_ag); (· rfl); intro _) | ((with_reducible apply TL.alloc_sc); (· rfl); (· rfl); intro _) | ((with_reducible apply TL.box_ag); (· rfl); (· rfl); intro _) | ((with_reducible apply TL.box_sc); (· rfl); (· rfl); (· rfl); intro _))
  rename_i b6 b13
  refine TC.row_nil 29 6 ?_
  refine TC.row_nil 9 1 ?_
  refine TC.loop (OrI f s (k0 + 1) g) (fun x => s.length - x.i) (fun x => [(1, .int .i64 (x.i : Nat)), (0, .slice (some ⟨b, off, none⟩) s.length cap), (2, .int .i64 (within : Nat)), (8, .int .i64 7), (13, .pointer (some ⟨b13, 0, none⟩)), (6, .pointer (some ⟨b6, 0, none⟩))]) (fun x => x.gh)
    (fun x => .obj b13 (.cells [.int .i64 5, .bool false, .int .i64 0, str [], x.lv, x.nv].toArray 29 (0, 0)) :: .row 29 6 x.lv x.m x.fl :: .row 9 1 x.nv x.ns.length (strs x.ns) :: .obj b6 (.cells [.int .i64 0, .bool false, .int .i64 0, str [], .slice none 0 0, .slice none 0 0].toArray 29 (0, 0)) :: L)
    ⟨k0 + 1, 0, .slice none 0 0, [], .slice none 0 0, [], g⟩ ?_ rfl subA selA ?_
  · refine ⟨by dsimp only; omega, .refl g, by simp, rfl, rfl, by simp, [], (s.drop (k0 + 1)).length + 1, by rw [IsVs], by rw [wfVs]; trivial, rfl, by simp, ?_⟩
    dsimp only
    cases objP f ((s.drop (k0 + 1)).length + 1) (s.drop (k0 + 1)) <;> rfl
  rintro ⟨i, m, lv, fl, nv, ns, gh⟩ ⟨hi, hgl, hml, hfl, hnl, hnb, ds, kk, hI, hwf, hdl, hkk, hex⟩
  dsimp only at hi hgl hml hfl hnl hnb hI hdl hkk hex ⊢
  unfold VR
  have HS1 := HS.out.le hgl
  refine TC.row_slice (v := lv) pkA ?_
  rintro al cl rfl _
  refine TC.row_slice (v := nv) pkA ?_
  rintro an cn rfl _
  by_cases hlt2 : i < s.length
  · have hd : s.drop i = s[i] :: s.drop (i + 1) := List.drop_eq_getElem_cons hlt2
    have hc : s[i]? = some s[i] := List.getElem?_eq_getElem hlt2
    have hld2 : gh.cell b (off + i * 1) = some (.int .u8 ((s[i]).toNat : Nat)) := by
      obtain ⟨b', off', e, hg'⟩ := HS1.elem hlt2 (by decide)
      obtain ⟨rfl, rfl⟩ : b = b' ∧ off = off' := by simpa using e
      exact hg' 0 _ (by rw [Nat.mul_one]; exact byteVals_get hc)
    generalize s[i] = c at *
    rw [hd] at hkk hex
    rw [List.length_cons] at hkk
    cases kk with
    | zero => omega
    | succ kk =>
    by_cases hc0 : c = 0
    · subst hc0
      have hld2 : gh.cell b (off + i * 1) = some (.int .u8 0) := hld2
      rw [objP, if_pos rfl] at hex
      rw [hex]
      have HX := Hn.mk (And.intro hI (And.intro hwf (And.intro hdl (And.intro hnl hnb))))
      clear hI hwf hdl hex HS1 hd hc
      repeat' (first
    | ((with_reducible apply TL.pure); (· exact yQ); (· rfl))
    | ((with_reducible apply TL.pure); (· exact yV); (· rfl)) | ((with_reducible apply TW.pure); (· exact yV); (· rfl))
    | ((with_reducible apply TL.pure); (· exact yM); (· rfl)) | ((with_reducible apply TW.pure); (· exact yM); (· rfl))
    | ((with_reducible apply TL.pure); (· exact yA); (· rfl))
    | refine TC.seq ?_ | refine TC.region ?_ | refine TL.nil ?_ | refine TQ.then_normal ?_
    | ((with_reducible apply TL.storeE); (· rfl); (· rfl); (· rfl); (· exact pkA); (· infer_instance)) | ((with_reducible apply TL.store_whole); (· rfl); (· rfl); (· exact oneA); (· rfl); (· exact pkA); (· rfl))
    | refine TC.block ?_ | refine TC.ret ?_ | refine TC.skip ?_ | refine TC.exit ?_ | refine TC.cond rfl ?_
    | refine TQ.down ?_ | refine TQ.in_exit' rfl ?_
    | refine TL.guard_yes rfl rfl ?_ | refine TL.guard_no rfl rfl rfl rfl ?_ | refine TL.guard_no0 rfl rfl rfl ?_ | refine TL.guard_undef rfl rfl rfl ?_ | refine TL.guard_undef0 rfl rfl ?_ | refine TL.guard rfl rfl rfl ?_
    | refine Br.t rfl ?_ | refine Br.f rfl ?_ | refine Br.ky kpA ?_ | refine Br.kn kpA ?_ | refine Br.nky kpA ?_ | refine Br.nkn kpA ?_
    | refine Br.eq0 (fun _ => ?_) (fun _ => ?_) | refine Br.neq0 (fun _ => ?_) (fun _ => ?_) | refine Br.eq (fun _ => ?_) (fun _ => ?_) | refine Br.neq (fun _ => ?_) (fun _ => ?_) | refine Br.not (fun _ => ?_) (fun _ => ?_) | refine Br.dec (fun _ => ?_) (fun _ => ?_) | refine Br.bool (fun _ => ?_) (fun _ => ?_)
    | ((with_reducible apply TL.alloc_ag); (· rfl); intro _) | ((with_reducible apply TL.alloc_sc); (· rfl); (· rfl); intro _) | ((with_reducible apply TL.box_ag); (· rfl); (· rfl); intro _) | ((with_reducible apply TL.box_sc); (· rfl); (· rfl); (· rfl); intro _))
      refine TQ.freeze (v := .slice al m cl) pkA ?_
      intro gf hgf hsl
      refine TQ.freeze (v := .slice an ns.length cn) pkA ?_
      intro gn hgn hsn
      refine TQ.endR2 (L' := L) Tryz.results15 rvA rvA rfl (hgl.trans (hgf.trans hgn)) ?_ selA
      obtain ⟨hI, hwf, hdl, hnl, hnb⟩ := HX.out
      refine ⟨5, false, 0, [], _, _, _, rfl, rfl, rfl, rfl, i + 1, rfl, by omega, rfl, .mk 5 false 0 [] ds ns, ?_, ?_, ?_⟩
      · rw [IsV]
        refine ⟨_, _, fl, rfl, by decide, by decide, by simp, ?_, by omega, IsVs.le (hgf.trans hgn) _ _ hI, hsn, by omega, fun x hx => by have := hnb x hx; omega⟩
        rw [hdl]; exact hsl.le hgn
      · rw [toJ_eq]; simp
      · rw [wfV]
        exact ⟨by simp, by omega, fun _ => ⟨by omega, hnb⟩, fun _ => hwf⟩
    · have n0 : Hn (¬ ((c.toNat : Nat) : Int) = 0) := ⟨fun e => hc0 (UInt8.toNat_inj.1 (by show c.toNat = 0; omega))⟩
      rw [objP, if_neg hc0] at hex
      by_cases hc5 : c = 5
      · subst hc5
        have hld2 : gh.cell b (off + i * 1) = some (.int .u8 5) := hld2
        clear n0
        rw [if_pos rfl] at hex
        have RD := fun L => rread5_gives s (i + 1) _ gh L HS1 (by omega) (by omega)
        cases hwp : wordP (s.drop (i + 1)) with
        | none =>
          rw [hwp] at hex RD
          unfold readV at RD
          have hno : objP f ((s.drop (k0 + 1)).length + 1) (s.drop (k0 + 1)) = none := by rw [hex]; rfl
          rw [hno]
          clear hI hwf hdl hex HS1 hd hc hno hnl hnb
          repeat' (first
    | ((with_reducible apply TL.pure); (· exact yQ); (· rfl))
    | ((with_reducible apply TL.pure); (· exact yV); (· rfl)) | ((with_reducible apply TW.pure); (· exact yV); (· rfl))
    | ((with_reducible apply TL.pure); (· exact yM); (· rfl)) | ((with_reducible apply TW.pure); (· exact yM); (· rfl))
    | ((with_reducible apply TL.gives_plain); (· kernel_rfl); (· rfl); (· exact RD _); (· rfl)) | ((with_reducible apply TW.gives_plain); (· kernel_rfl); (· rfl); (· exact RD _); (· rfl))
    | ((with_reducible apply TL.pure); (· exact yA); (· rfl))
    | refine TC.seq ?_ | refine TC.region ?_ | refine TL.nil ?_ | refine TQ.then_normal ?_
    | ((with_reducible apply TL.storeE); (· rfl); (· rfl); (· rfl); (· exact pkA); (· infer_instance)) | ((with_reducible apply TL.store_whole); (· rfl); (· rfl); (· exact oneA); (· rfl); (· exact pkA); (· rfl))
    | refine TC.block ?_ | refine TC.ret ?_ | refine TC.skip ?_ | refine TC.exit ?_ | refine TC.cond rfl ?_
    | refine TQ.down ?_ | refine TQ.in_exit' rfl ?_
    | refine TL.guard_yes rfl rfl ?_ | refine TL.guard_no rfl rfl rfl rfl ?_ | refine TL.guard_no0 rfl rfl rfl ?_ | refine TL.guard_undef rfl rfl rfl ?_ | refine TL.guard_undef0 rfl rfl ?_ | refine TL.guard rfl rfl rfl ?_
    | refine Br.t rfl ?_ | refine Br.f rfl ?_ | refine Br.ky kpA ?_ | refine Br.kn kpA ?_ | refine Br.nky kpA ?_ | refine Br.nkn kpA ?_
    | refine Br.eq0 (fun _ => ?_) (fun _ => ?_) | refine Br.neq0 (fun _ => ?_) (fun _ => ?_) | refine Br.eq (fun _ => ?_) (fun _ => ?_) | refine Br.neq (fun _ => ?_) (fun _ => ?_) | refine Br.not (fun _ => ?_) (fun _ => ?_) | refine Br.dec (fun _ => ?_) (fun _ => ?_) | refine Br.bool (fun _ => ?_) (fun _ => ?_)
    | ((with_reducible apply TL.alloc_ag); (· rfl); intro _) | ((with_reducible apply TL.alloc_sc); (· rfl); (· rfl); intro _) | ((with_reducible apply TL.box_ag); (· rfl); (· rfl); intro _) | ((with_reducible apply TL.box_sc); (· rfl); (· rfl); (· rfl); intro _))
          refine TQ.endR2 (L' := L) Tryz.results15 rvA rvA rfl (hgl) ?_ selA
          exact ⟨5, false, 0, [], _, _, _, rfl, rfl, rfl, rfl, rfl⟩
        | some q =>
          obtain ⟨a, r1⟩ := q
          rw [hwp] at hex RD
          unfold readV at RD
          dsimp only at RD hex
          obtain ⟨w1, w2, w3⟩ := wordP_at hwp
          have hwl := wordP_len _ _ (Nat.le_refl _) hwp
          rw [List.length_drop] at hwl
          obtain ⟨p1, hp1⟩ : ∃ p1, p1 = s.length - r1.length := ⟨_, rfl⟩
          rw [← hp1] at w1 RD
          have A1 := fun L => A p1 gh L (by omega) HS1
          rw [← w1] at A1
          unfold VR atL at A1
          cases r1 with
          | nil =>
            have hno : objP f ((s.drop (k0 + 1)).length + 1) (s.drop (k0 + 1)) = none := by rw [hex]; rfl
            rw [hno]
            clear hI hwf hdl hex HS1 hd hc hno hnb
            repeat' (first
    | ((with_reducible apply TL.pure); (· exact yQ); (· rfl))
    | ((with_reducible apply TL.pure); (· exact yV); (· rfl)) | ((with_reducible apply TW.pure); (· exact yV); (· rfl))
    | ((with_reducible apply TL.pure); (· exact yM); (· rfl)) | ((with_reducible apply TW.pure); (· exact yM); (· rfl))
    | ((with_reducible apply TL.gives_plain); (· kernel_rfl); (· rfl); (· exact RD _); (· rfl)) | ((with_reducible apply TW.gives_plain); (· kernel_rfl); (· rfl); (· exact RD _); (· rfl))
    | ((with_reducible apply TL.build_slice); (· rfl); (· rfl); (· exact oneA); (· rfl); (· rfl); (· rfl); intro _) | refine TL.build_one (by rfl) (by first | rfl | assumption) (by rfl) (by rfl) (by rfl) (by rfl) (fun _ => ?_) | refine TL.build_empty (by rfl) (fun _ => ?_)
    | ((with_reducible apply TL.append (e := 9)); (· rfl); (· rfl); (· rfl); (· rfl); (· exact pkA); (· first | exact Src.obj pkA | exact Src.sl (by assumption) | exact Src.row pkA); (· first | rfl | exact (byteVals_length _).trans (Nat.mul_one _).symm); (· first | exact byteVals_all _ | exact oneA); (· exact ⟨by unfold maxLen; omega, by omega⟩); (· rfl); intro vf; refine Go.TL.TL.row_slice (v := vf) pkA ?_; rintro aw cw rfl _)
    | ((with_reducible apply TL.append (e := 29)); (· rfl); (· rfl); (· rfl); (· rfl); (· exact pkA); (· exact Src.obj pkA); (· rfl); (· exact hall); (· exact ⟨by unfold maxLen; omega, by omega⟩); (· rfl); intro vf; refine Go.TL.TL.row_slice (v := vf) pkA ?_; rintro av cv rfl _)
    | (refine TL.call (Enters.plain (by kernel_rfl) (by rfl)) (by rfl) (A1 _) ?_; (rintro e g1 Ln hg1 ⟨xa, xb, xc, xd, vi, vn, ee, k1, o1, o2, k3, hov⟩; subst k1; subst k3; dsimp only at hov; have hall := six_one xa xb xc xd o1 o2; (subst hov); refine CallK.ret ?_))
    | ((with_reducible apply TL.store_whole (us := sixV xa xb xc xd vi vn)); (· rfl); (· rfl); (· exact hall); (· rfl); (· exact pkA); (· rfl))
    | ((with_reducible apply TL.pure); (· exact yA); (· rfl))
    | refine TC.seq ?_ | refine TC.region ?_ | refine TL.nil ?_ | refine TQ.then_normal ?_
    | ((with_reducible apply TL.storeE); (· rfl); (· rfl); (· rfl); (· exact pkA); (· infer_instance)) | ((with_reducible apply TL.store_whole); (· rfl); (· rfl); (· exact oneA); (· rfl); (· exact pkA); (· rfl))
    | refine TC.block ?_ | refine TC.ret ?_ | refine TC.skip ?_ | refine TC.exit ?_ | refine TC.cond rfl ?_
    | refine TQ.down ?_ | refine TQ.in_exit' rfl ?_
    | refine TL.guard_yes rfl rfl ?_ | refine TL.guard_no rfl rfl rfl rfl ?_ | refine TL.guard_no0 rfl rfl rfl ?_ | refine TL.guard_undef rfl rfl rfl ?_ | refine TL.guard_undef0 rfl rfl ?_ | refine TL.guard rfl rfl rfl ?_
    | refine Br.t rfl ?_ | refine Br.f rfl ?_ | refine Br.ky kpA ?_ | refine Br.kn kpA ?_ | refine Br.nky kpA ?_ | refine Br.nkn kpA ?_
    | refine Br.eq0 (fun _ => ?_) (fun _ => ?_) | refine Br.neq0 (fun _ => ?_) (fun _ => ?_) | refine Br.eq (fun _ => ?_) (fun _ => ?_) | refine Br.neq (fun _ => ?_) (fun _ => ?_) | refine Br.not (fun _ => ?_) (fun _ => ?_) | refine Br.dec (fun _ => ?_) (fun _ => ?_) | refine Br.bool (fun _ => ?_) (fun _ => ?_)
    | ((with_reducible apply TL.alloc_ag); (· rfl); intro _) | ((with_reducible apply TL.alloc_sc); (· rfl); (· rfl); intro _) | ((with_reducible apply TL.box_ag); (· rfl); (· rfl); intro _) | ((with_reducible apply TL.box_sc); (· rfl); (· rfl); (· rfl); intro _))
            refine TQ.endR2 (L' := L) Tryz.results15 rvA rvA rfl (hgl.trans hg1) ?_ selA
            exact ⟨5, false, 0, [], _, _, _, rfl, rfl, rfl, rfl, rfl⟩
          | cons d u =>
          dsimp only at hex A1
          cases hf : f d u with
          | none =>
            rw [hf] at hex A1
            have hno : objP f ((s.drop (k0 + 1)).length + 1) (s.drop (k0 + 1)) = none := by rw [hex]; rfl
            rw [hno]
            clear hI hwf hdl hex HS1 hd hc hno hnb
            repeat' (first
    | ((with_reducible apply TL.pure); (· exact yQ); (· rfl))
    | ((with_reducible apply TL.pure); (· exact yV); (· rfl)) | ((with_reducible apply TW.pure); (· exact yV); (· rfl))
    | ((with_reducible apply TL.pure); (· exact yM); (· rfl)) | ((with_reducible apply TW.pure); (· exact yM); (· rfl))
    | ((with_reducible apply TL.gives_plain); (· kernel_rfl); (· rfl); (· exact RD _); (· rfl)) | ((with_reducible apply TW.gives_plain); (· kernel_rfl); (· rfl); (· exact RD _); (· rfl))
    | ((with_reducible apply TL.build_slice); (· rfl); (· rfl); (· exact oneA); (· rfl); (· rfl); (· rfl); intro _) | refine TL.build_one (by rfl) (by first | rfl | assumption) (by rfl) (by rfl) (by rfl) (by rfl) (fun _ => ?_) | refine TL.build_empty (by rfl) (fun _ => ?_)
    | ((with_reducible apply TL.append (e := 9)); (· rfl); (· rfl); (· rfl); (· rfl); (· exact pkA); (· first | exact Src.obj pkA | exact Src.sl (by assumption) | exact Src.row pkA); (· first | rfl | exact (byteVals_length _).trans (Nat.mul_one _).symm); (· first | exact byteVals_all _ | exact oneA); (· exact ⟨by unfold maxLen; omega, by omega⟩); (· rfl); intro vf; refine Go.TL.TL.row_slice (v := vf) pkA ?_; rintro aw cw rfl _)
    | ((with_reducible apply TL.append (e := 29)); (· rfl); (· rfl); (· rfl); (· rfl); (· exact pkA); (· exact Src.obj pkA); (· rfl); (· exact hall); (· exact ⟨by unfold maxLen; omega, by omega⟩); (· rfl); intro vf; refine Go.TL.TL.row_slice (v := vf) pkA ?_; rintro av cv rfl _)
    | (refine TL.call (Enters.plain (by kernel_rfl) (by rfl)) (by rfl) (A1 _) ?_; (rintro e g1 Ln hg1 ⟨xa, xb, xc, xd, vi, vn, ee, k1, o1, o2, k3, hov⟩; subst k1; subst k3; dsimp only at hov; have hall := six_one xa xb xc xd o1 o2; (subst hov); refine CallK.ret ?_))
    | ((with_reducible apply TL.store_whole (us := sixV xa xb xc xd vi vn)); (· rfl); (· rfl); (· exact hall); (· rfl); (· exact pkA); (· rfl))
    | ((with_reducible apply TL.pure); (· exact yA); (· rfl))
    | refine TC.seq ?_ | refine TC.region ?_ | refine TL.nil ?_ | refine TQ.then_normal ?_
    | ((with_reducible apply TL.storeE); (· rfl); (· rfl); (· rfl); (· exact pkA); (· infer_instance)) | ((with_reducible apply TL.store_whole); (· rfl); (· rfl); (· exact oneA); (· rfl); (· exact pkA); (· rfl))
    | refine TC.block ?_ | refine TC.ret ?_ | refine TC.skip ?_ | refine TC.exit ?_ | refine TC.cond rfl ?_
    | refine TQ.down ?_ | refine TQ.in_exit' rfl ?_
    | refine TL.guard_yes rfl rfl ?_ | refine TL.guard_no rfl rfl rfl rfl ?_ | refine TL.guard_no0 rfl rfl rfl ?_ | refine TL.guard_undef rfl rfl rfl ?_ | refine TL.guard_undef0 rfl rfl ?_ | refine TL.guard rfl rfl rfl ?_
    | refine Br.t rfl ?_ | refine Br.f rfl ?_ | refine Br.ky kpA ?_ | refine Br.kn kpA ?_ | refine Br.nky kpA ?_ | refine Br.nkn kpA ?_
    | refine Br.eq0 (fun _ => ?_) (fun _ => ?_) | refine Br.neq0 (fun _ => ?_) (fun _ => ?_) | refine Br.eq (fun _ => ?_) (fun _ => ?_) | refine Br.neq (fun _ => ?_) (fun _ => ?_) | refine Br.not (fun _ => ?_) (fun _ => ?_) | refine Br.dec (fun _ => ?_) (fun _ => ?_) | refine Br.bool (fun _ => ?_) (fun _ => ?_)
    | ((with_reducible apply TL.alloc_ag); (· rfl); intro _) | ((with_reducible apply TL.alloc_sc); (· rfl); (· rfl); intro _) | ((with_reducible apply TL.box_ag); (· rfl); (· rfl); intro _) | ((with_reducible apply TL.box_sc); (· rfl); (· rfl); (· rfl); intro _))
            refine TQ.endR2 (L' := L) Tryz.results15 rvA rvA rfl (hgl.trans hg1) ?_ selA
            exact ⟨5, false, 0, [], _, _, _, rfl, rfl, rfl, rfl, rfl⟩
          | some q =>
            obtain ⟨j, r⟩ := q
            rw [hf] at hex A1
            dsimp only at hex
            have HX := Hn.mk (And.intro hI (And.intro hwf (And.intro hdl (And.intro hex hnb))))
            have hm1 : m ≤ 100000 := by omega
            have HD := Hn.mk (And.intro hd hwp)
            rw [List.length_cons] at hwl hp1
            clear hI hwf hdl hex HS1 hd hc hnb
            repeat' (first
    | ((with_reducible apply TL.pure); (· exact yQ); (· rfl))
    | ((with_reducible apply TL.pure); (· exact yV); (· rfl)) | ((with_reducible apply TW.pure); (· exact yV); (· rfl))
    | ((with_reducible apply TL.pure); (· exact yM); (· rfl)) | ((with_reducible apply TW.pure); (· exact yM); (· rfl))
    | ((with_reducible apply TL.gives_plain); (· kernel_rfl); (· rfl); (· exact RD _); (· rfl)) | ((with_reducible apply TW.gives_plain); (· kernel_rfl); (· rfl); (· exact RD _); (· rfl))
    | ((with_reducible apply TL.build_slice); (· rfl); (· rfl); (· exact oneA); (· rfl); (· rfl); (· rfl); intro _) | refine TL.build_one (by rfl) (by first | rfl | assumption) (by rfl) (by rfl) (by rfl) (by rfl) (fun _ => ?_) | refine TL.build_empty (by rfl) (fun _ => ?_)
    | ((with_reducible apply TL.append (e := 9)); (· rfl); (· rfl); (· rfl); (· rfl); (· exact pkA); (· first | exact Src.obj pkA | exact Src.sl (by assumption) | exact Src.row pkA); (· first | rfl | exact (byteVals_length _).trans (Nat.mul_one _).symm); (· first | exact byteVals_all _ | exact oneA); (· exact ⟨by unfold maxLen; omega, by omega⟩); (· rfl); intro vf; refine Go.TL.TL.row_slice (v := vf) pkA ?_; rintro aw cw rfl _)
    | ((with_reducible apply TL.append (e := 29)); (· rfl); (· rfl); (· rfl); (· rfl); (· exact pkA); (· exact Src.obj pkA); (· rfl); (· exact hall); (· exact ⟨by unfold maxLen; omega, by omega⟩); (· rfl); intro vf; refine Go.TL.TL.row_slice (v := vf) pkA ?_; rintro av cv rfl _)
    | (refine TL.call (Enters.plain (by kernel_rfl) (by rfl)) (by rfl) (A1 _) ?_; (rintro e g1 Ln hg1 ⟨xa, xb, xc, xd, vi, vn, ee, k1, o1, o2, k3, hov⟩; subst k1; subst k3; dsimp only at hov; have hall := six_one xa xb xc xd o1 o2; (obtain ⟨p, rfl, hp, hrp, xx, hxv, hxj, hxw⟩ := hov; have HP := Hn.mk (And.intro hrp (And.intro hxv (And.intro hxj hxw))); clear hrp hxv hxj hxw); refine CallK.ret ?_))
    | ((with_reducible apply TL.store_whole (us := sixV xa xb xc xd vi vn)); (· rfl); (· rfl); (· exact hall); (· rfl); (· exact pkA); (· rfl))
    | ((with_reducible apply TL.pure); (· exact yA); (· rfl))
    | refine TC.seq ?_ | refine TC.region ?_ | refine TL.nil ?_ | refine TQ.then_normal ?_
    | ((with_reducible apply TL.storeE); (· rfl); (· rfl); (· rfl); (· exact pkA); (· infer_instance)) | ((with_reducible apply TL.store_whole); (· rfl); (· rfl); (· exact oneA); (· rfl); (· exact pkA); (· rfl))
    | refine TC.block ?_ | refine TC.ret ?_ | refine TC.skip ?_ | refine TC.exit ?_ | refine TC.cond rfl ?_
    | refine TQ.down ?_ | refine TQ.in_exit' rfl ?_
    | refine TL.guard_yes rfl rfl ?_ | refine TL.guard_no rfl rfl rfl rfl ?_ | refine TL.guard_no0 rfl rfl rfl ?_ | refine TL.guard_undef rfl rfl rfl ?_ | refine TL.guard_undef0 rfl rfl ?_ | refine TL.guard rfl rfl rfl ?_
    | refine Br.t rfl ?_ | refine Br.f rfl ?_ | refine Br.ky kpA ?_ | refine Br.kn kpA ?_ | refine Br.nky kpA ?_ | refine Br.nkn kpA ?_
    | refine Br.eq0 (fun _ => ?_) (fun _ => ?_) | refine Br.neq0 (fun _ => ?_) (fun _ => ?_) | refine Br.eq (fun _ => ?_) (fun _ => ?_) | refine Br.neq (fun _ => ?_) (fun _ => ?_) | refine Br.not (fun _ => ?_) (fun _ => ?_) | refine Br.dec (fun _ => ?_) (fun _ => ?_) | refine Br.bool (fun _ => ?_) (fun _ => ?_)
    | ((with_reducible apply TL.alloc_ag); (· rfl); intro _) | ((with_reducible apply TL.alloc_sc); (· rfl); (· rfl); intro _) | ((with_reducible apply TL.box_ag); (· rfl); (· rfl); intro _) | ((with_reducible apply TL.box_sc); (· rfl); (· rfl); (· rfl); intro _))
            obtain ⟨hI, hwf, hdl, hex, hnb⟩ := HX.out
            obtain ⟨hrp, hxv, hxj, hxw⟩ := HP.out
            have hrl := (hSm _ _ _ _ hf (by omega)).2
            rw [hrp, List.length_drop] at hrl
            refine TQ.onlyU (.obj b13 (.cells [.int .i64 5, .bool false, .int .i64 0, str [], .slice av (m + 1) cv, .slice aw (ns.length + 1) cw].toArray 29 (0, 0)) :: .row 29 6 (.slice av (m + 1) cv) (m + 1) (fl ++ sixV xa xb xc xd vi vn) :: .row 9 1 (.slice aw (ns.length + 1) cw) (ns.length + 1) (strs ns ++ [str a]) :: .obj b6 (.cells [.int .i64 0, .bool false, .int .i64 0, str [], .slice none 0 0, .slice none 0 0].toArray 29 (0, 0)) :: L) selA ?_
            rw [show ns.length + 1 = (ns ++ [a]).length by simp, show strs ns ++ [str a] = strs (ns ++ [a]) by simp [strs]]
            refine TQ.round ⟨p, m + 1, .slice av (m + 1) cv, fl ++ sixV xa xb xc xd vi vn, .slice aw (ns ++ [a]).length cw, ns ++ [a], g1⟩ ?_ ?_ rfl subA selA
            · refine ⟨hp, hgl.trans hg1, by dsimp only; omega, by simp [hfl]; omega, by simp [hnl], fun x hx => ?_, ds ++ [xx], kk, (IsVs.le hg1 _ _ hI).snoc2 hxv, hwf.snoc hxw, by simp [hdl], ?_, ?_⟩
              · rcases List.mem_append.1 hx with hx | hx
                · exact hnb x hx
                · obtain rfl : x = a := by simpa using hx
                  omega
              · dsimp only
                rw [List.length_drop] at hkk ⊢; omega
              · dsimp only
                rw [hex, hrp, Option.map_map]
                congr 1
                funext q
                simp [hxj]
            · show s.length - p < s.length - i
              omega
      · have n5 : Hn (¬ ((c.toNat : Nat) : Int) = 5) := ⟨fun e => hc5 (UInt8.toNat_inj.1 (by show c.toNat = 5; omega))⟩
        rw [if_neg hc5] at hex
        have hno : objP f ((s.drop (k0 + 1)).length + 1) (s.drop (k0 + 1)) = none := by rw [hex]; rfl
        rw [hno]
        clear hI hwf hdl hex HS1 hd hc hno hnl hnb
        repeat' (first
    | ((with_reducible apply TL.pure); (· exact yQ); (· rfl))
    | ((with_reducible apply TL.pure); (· exact yV); (· rfl)) | ((with_reducible apply TW.pure); (· exact yV); (· rfl))
    | ((with_reducible apply TL.pure); (· exact yM); (· rfl)) | ((with_reducible apply TW.pure); (· exact yM); (· rfl))
    | ((with_reducible apply TL.pure); (· exact yA); (· rfl))
    | refine TC.seq ?_ | refine TC.region ?_ | refine TL.nil ?_ | refine TQ.then_normal ?_
    | ((with_reducible apply TL.storeE); (· rfl); (· rfl); (· rfl); (· exact pkA); (· infer_instance)) | ((with_reducible apply TL.store_whole); (· rfl); (· rfl); (· exact oneA); (· rfl); (· exact pkA); (· rfl))
    | refine TC.block ?_ | refine TC.ret ?_ | refine TC.skip ?_ | refine TC.exit ?_ | refine TC.cond rfl ?_
    | refine TQ.down ?_ | refine TQ.in_exit' rfl ?_
    | refine TL.guard_yes rfl rfl ?_ | refine TL.guard_no rfl rfl rfl rfl ?_ | refine TL.guard_no0 rfl rfl rfl ?_ | refine TL.guard_undef rfl rfl rfl ?_ | refine TL.guard_undef0 rfl rfl ?_ | refine TL.guard rfl rfl rfl ?_
    | refine Br.t rfl ?_ | refine Br.f rfl ?_ | refine Br.ky kpA ?_ | refine Br.kn kpA ?_ | refine Br.nky kpA ?_ | refine Br.nkn kpA ?_
    | refine Br.eq0 (fun _ => ?_) (fun _ => ?_) | refine Br.neq0 (fun _ => ?_) (fun _ => ?_) | refine Br.eq (fun _ => ?_) (fun _ => ?_) | refine Br.neq (fun _ => ?_) (fun _ => ?_) | refine Br.not (fun _ => ?_) (fun _ => ?_) | refine Br.dec (fun _ => ?_) (fun _ => ?_) | refine Br.bool (fun _ => ?_) (fun _ => ?_)
    | ((with_reducible apply TL.alloc_ag); (· rfl); intro _) | ((with_reducible apply TL.alloc_sc); (· rfl); (· rfl); intro _) | ((with_reducible apply TL.box_ag); (· rfl); (· rfl); intro _) | ((with_reducible apply TL.box_sc); (· rfl); (· rfl); (· rfl); intro _))
        refine TQ.endR2 (L' := L) Tryz.results15 rvA rvA rfl (hgl) ?_ selA
        exact ⟨5, false, 0, [], _, _, _, rfl, rfl, rfl, rfl, rfl⟩
  · have hno : objP f ((s.drop (k0 + 1)).length + 1) (s.drop (k0 + 1)) = none := by
      rw [hex, List.drop_eq_nil_of_le (by omega)]
      cases kk <;> rfl
    rw [hno]
    clear hI hwf hdl hex HS1 hno hnl hnb
    repeat' (first
    | ((with_reducible apply TL.pure); (· exact yQ); (· rfl))
    | ((with_reducible apply TL.pure); (· exact yV); (· rfl)) | ((with_reducible apply TW.pure); (· exact yV); (· rfl))
    | ((with_reducible apply TL.pure); (· exact yM); (· rfl)) | ((with_reducible apply TW.pure); (· exact yM); (· rfl))
    | ((with_reducible apply TL.pure); (· exact yA); (· rfl))
    | refine TC.seq ?_ | refine TC.region ?_ | refine TL.nil ?_ | refine TQ.then_normal ?_
    | ((with_reducible apply TL.storeE); (· rfl); (· rfl); (· rfl); (· exact pkA); (· infer_instance)) | ((with_reducible apply TL.store_whole); (· rfl); (· rfl); (· exact oneA); (· rfl); (· exact pkA); (· rfl))
    | refine TC.block ?_ | refine TC.ret ?_ | refine TC.skip ?_ | refine TC.exit ?_ | refine TC.cond rfl ?_
    | refine TQ.down ?_ | refine TQ.in_exit' rfl ?_
    | refine TL.guard_yes rfl rfl ?_ | refine TL.guard_no rfl rfl rfl rfl ?_ | refine TL.guard_no0 rfl rfl rfl ?_ | refine TL.guard_undef rfl rfl rfl ?_ | refine TL.guard_undef0 rfl rfl ?_ | refine TL.guard rfl rfl rfl ?_
    | refine Br.t rfl ?_ | refine Br.f rfl ?_ | refine Br.ky kpA ?_ | refine Br.kn kpA ?_ | refine Br.nky kpA ?_ | refine Br.nkn kpA ?_
    | refine Br.eq0 (fun _ => ?_) (fun _ => ?_) | refine Br.neq0 (fun _ => ?_) (fun _ => ?_) | refine Br.eq (fun _ => ?_) (fun _ => ?_) | refine Br.neq (fun _ => ?_) (fun _ => ?_) | refine Br.not (fun _ => ?_) (fun _ => ?_) | refine Br.dec (fun _ => ?_) (fun _ => ?_) | refine Br.bool (fun _ => ?_) (fun _ => ?_)
    | ((with_reducible apply TL.alloc_ag); (· rfl); intro _) | ((with_reducible apply TL.alloc_sc); (· rfl); (· rfl); intro _) | ((with_reducible apply TL.box_ag); (· rfl); (· rfl); intro _) | ((with_reducible apply TL.box_sc); (· rfl); (· rfl); (· rfl); intro _))
    refine TQ.endR2 (L' := L) Tryz.results15 rvA rvA rfl (hgl) ?_ selA
    exact ⟨5, false, 0, [], _, _, _, rfl, rfl, rfl, rfl, rfl⟩
set_option maxHeartbeats 8000000 in
theorem rvalue5_does : ∀ (d within : Nat), within + d = 32 → ∀ (s : List UInt8) (v : Value) (k : Nat) (g : Gh) (L : List Ent), k ≤ s.length → s.length ≤ 100000 → Sl g v s.length 1 (byteVals s) → Does Tryz.prog 15 #[v, .int .i64 (k : Nat), .int .i64 (within : Nat)] g L (VR s (atL (valP d) (s.drop k)) L) := by
  intro d
  induction d with
  | zero =>
    intro within hw s v k g L hk hs hS
    by_cases hlt : k < s.length
    · rw [List.drop_eq_getElem_cons hlt]
      exact rflat5_does s v within k s[k] g L (List.getElem?_eq_getElem hlt) hS hs (by omega) (.inr (by omega))
    · rw [List.drop_eq_nil_of_le (by omega)]
      refine Does.of3 Tryz.func15 rfl Tryz.ntmps15 rfl ?_
      obtain ⟨ao, cap, rfl⟩ := hS.slice
      unfold VR atL
      clear hS
      repeat' (first
    | ((with_reducible apply TL.pure); (· exact yQ); (· rfl))
    | ((with_reducible apply TL.pure); (· exact yV); (· rfl)) | ((with_reducible apply TW.pure); (· exact yV); (· rfl))
    | ((with_reducible apply TL.pure); (· exact yA); (· rfl))
    | refine TC.seq ?_ | refine TC.region ?_ | refine TL.nil ?_ | refine TQ.then_normal ?_
    | ((with_reducible apply TL.storeE); (· rfl); (· rfl); (· rfl); (· exact pkA); (· infer_instance)) | ((with_reducible apply TL.store_whole); (· rfl); (· rfl); (· exact oneA); (· rfl); (· exact pkA); (· rfl))
    | refine TC.block ?_ | refine TC.ret ?_ | refine TC.skip ?_ | refine TC.exit ?_ | refine TC.cond rfl ?_
    | refine TQ.down ?_ | refine TQ.in_exit' rfl ?_
    | refine TL.guard_yes rfl rfl ?_ | refine TL.guard_no rfl rfl rfl rfl ?_ | refine TL.guard_no0 rfl rfl rfl ?_ | refine TL.guard_undef rfl rfl rfl ?_ | refine TL.guard_undef0 rfl rfl ?_ | refine TL.guard rfl rfl rfl ?_
    | refine Br.t rfl ?_ | refine Br.f rfl ?_ | refine Br.ky kpA ?_ | refine Br.kn kpA ?_ | refine Br.nky kpA ?_ | refine Br.nkn kpA ?_
    | refine Br.eq0 (fun _ => ?_) (fun _ => ?_) | refine Br.neq0 (fun _ => ?_) (fun _ => ?_) | refine Br.eq (fun _ => ?_) (fun _ => ?_) | refine Br.neq (fun _ => ?_) (fun _ => ?_) | refine Br.not (fun _ => ?_) (fun _ => ?_) | refine Br.dec (fun _ => ?_) (fun _ => ?_) | refine Br.bool (fun _ => ?_) (fun _ => ?_)
    | ((with_reducible apply TL.alloc_ag); (· rfl); intro _) | ((with_reducible apply TL.alloc_sc); (· rfl); (· rfl); intro _) | ((with_reducible apply TL.box_ag); (· rfl); (· rfl); intro _) | ((with_reducible apply TL.box_sc); (· rfl); (· rfl); (· rfl); intro _))
      refine TQ.endR2 (L' := L) Tryz.results15 rvA rvA rfl (.refl _) ?_ selA
      exact ⟨0, false, 0, [], _, _, _, rfl, rfl, rfl, rfl, rfl⟩
  | succ d ih =>
    intro within hw s v k g L hk hs hS
    by_cases hlt : k < s.length
    · have hc : s[k]? = some s[k] := List.getElem?_eq_getElem hlt
      rw [List.drop_eq_getElem_cons hlt]
      generalize s[k] = c at *
      show Does Tryz.prog _ _ g L (VR s (valP (d + 1) c (s.drop (k + 1))) L)
      by_cases h6 : c = 6
      · subst h6
        exact rlist5_does (valP d) (val_sm d) s v within (by omega) hs (fun k' g' L' hk' hS' => ih (within + 1) (by omega) s v k' g' L' hk' hs hS') k g L hc hS
      · by_cases h7 : c = 7
        · subst h7
          exact robj5_does (valP d) (val_sm d) s v within (by omega) hs (fun k' g' L' hk' hS' => ih (within + 1) (by omega) s v k' g' L' hk' hs hS') k g L hc hS
        · have e : valP (d + 1) c (s.drop (k + 1)) = valK (fun _ => none) (fun _ => none) c (s.drop (k + 1)) := by
            rw [valP]; unfold valK; rw [if_neg h6, if_neg h7, if_neg h6, if_neg h7]
          rw [e]
          exact rflat5_does s v within k c g L hc hS hs (by omega) (.inl ⟨h6, h7⟩)
    · rw [List.drop_eq_nil_of_le (by omega)]
      refine Does.of3 Tryz.func15 rfl Tryz.ntmps15 rfl ?_
      obtain ⟨ao, cap, rfl⟩ := hS.slice
      unfold VR atL
      clear hS ih
      repeat' (first
    | ((with_reducible apply TL.pure); (· exact yQ); (· rfl))
    | ((with_reducible apply TL.pure); (· exact yV); (· rfl)) | ((with_reducible apply TW.pure); (· exact yV); (· rfl))
    | ((with_reducible apply TL.pure); (· exact yA); (· rfl))
    | refine TC.seq ?_ | refine TC.region ?_ | refine TL.nil ?_ | refine TQ.then_normal ?_
    | ((with_reducible apply TL.storeE); (· rfl); (· rfl); (· rfl); (· exact pkA); (· infer_instance)) | ((with_reducible apply TL.store_whole); (· rfl); (· rfl); (· exact oneA); (· rfl); (· exact pkA); (· rfl))
    | refine TC.block ?_ | refine TC.ret ?_ | refine TC.skip ?_ | refine TC.exit ?_ | refine TC.cond rfl ?_
    | refine TQ.down ?_ | refine TQ.in_exit' rfl ?_
    | refine TL.guard_yes rfl rfl ?_ | refine TL.guard_no rfl rfl rfl rfl ?_ | refine TL.guard_no0 rfl rfl rfl ?_ | refine TL.guard_undef rfl rfl rfl ?_ | refine TL.guard_undef0 rfl rfl ?_ | refine TL.guard rfl rfl rfl ?_
    | refine Br.t rfl ?_ | refine Br.f rfl ?_ | refine Br.ky kpA ?_ | refine Br.kn kpA ?_ | refine Br.nky kpA ?_ | refine Br.nkn kpA ?_
    | refine Br.eq0 (fun _ => ?_) (fun _ => ?_) | refine Br.neq0 (fun _ => ?_) (fun _ => ?_) | refine Br.eq (fun _ => ?_) (fun _ => ?_) | refine Br.neq (fun _ => ?_) (fun _ => ?_) | refine Br.not (fun _ => ?_) (fun _ => ?_) | refine Br.dec (fun _ => ?_) (fun _ => ?_) | refine Br.bool (fun _ => ?_) (fun _ => ?_)
    | ((with_reducible apply TL.alloc_ag); (· rfl); intro _) | ((with_reducible apply TL.alloc_sc); (· rfl); (· rfl); intro _) | ((with_reducible apply TL.box_ag); (· rfl); (· rfl); intro _) | ((with_reducible apply TL.box_sc); (· rfl); (· rfl); (· rfl); intro _))
      refine TQ.endR2 (L' := L) Tryz.results15 rvA rvA rfl (.refl _) ?_ selA
      exact ⟨0, false, 0, [], _, _, _, rfl, rfl, rfl, rfl, rfl⟩
/-- What the document's Unkey tells. -/
def RUnkR (s : List UInt8) (L : List Ent) : Ending → Gh → List Ent → Prop := fun r g' L1 => ∃ a b c d vi vn e, r = .returned (.tuple #[.agg (sixV a b c d vi vn).toArray, .int .i64 e]) ∧ vi.one = true ∧ vn.one = true ∧ L1 = L ∧ (match unkP s with
  | none => e = 5
  | some j => e = 0 ∧ ∃ x, IsV g' x (sixV a b c d vi vn) ∧ toJ x = j ∧ wfV x)
set_option maxHeartbeats 16000000 in
theorem rUnkey5_does (s : List UInt8) (v : Value) (g : Gh) (L : List Ent) (hS : Sl g v s.length 1 (byteVals s)) (hs : s.length ≤ 100000) : Does Tryz.prog 5 #[v] g L (RUnkR s L) := by
  refine Does.of1 Tryz.func5 rfl Tryz.ntmps5 rfl ?_
  have A := fun L => rvalue5_does 32 0 (by decide) s v 0 g L (Nat.zero_le _) hs hS
  obtain ⟨ao, cap, rfl⟩ := hS.slice
  clear hS
  unfold RUnkR
  rw [List.drop_zero] at A
  have hat : atL (valP 32) s = if s = [] then none else valP 32 (nextL s).1 (nextL s).2 := by cases s <;> rfl
  by_cases h0 : s = []
  · rw [hat, if_pos h0] at A
    have hu : unkP s = none := by
      unfold unkP
      split
      · rw [if_neg (fun h => h.2 h0)]
      · rfl
    rw [hu]
    unfold VR at A
    clear hat hu
    repeat' (first
    | ((with_reducible apply TL.pure); (· exact yQ); (· rfl))
    | ((with_reducible apply TL.pure); (· exact yV); (· rfl)) | ((with_reducible apply TW.pure); (· exact yV); (· rfl))
    | (refine TL.call (Enters.plain (by kernel_rfl) (by rfl)) (by rfl) (A _) ?_; (rintro e g1 Ln hg1 ⟨xa, xb, xc, xd, vi, vn, ee, k1, o1, o2, k3, hov⟩; subst k1; subst k3; dsimp only at hov; have hall := six_one xa xb xc xd o1 o2; (subst hov); refine CallK.ret ?_))
    | ((with_reducible apply TL.store_whole (us := sixV xa xb xc xd vi vn)); (· rfl); (· rfl); (· exact hall); (· rfl); (· exact pkA); (· rfl))
    | ((with_reducible apply TL.pure); (· exact yA); (· rfl))
    | refine TC.seq ?_ | refine TC.region ?_ | refine TL.nil ?_ | refine TQ.then_normal ?_
    | ((with_reducible apply TL.storeE); (· rfl); (· rfl); (· rfl); (· exact pkA); (· infer_instance)) | ((with_reducible apply TL.store_whole); (· rfl); (· rfl); (· exact oneA); (· rfl); (· exact pkA); (· rfl))
    | refine TC.block ?_ | refine TC.ret ?_ | refine TC.skip ?_ | refine TC.exit ?_ | refine TC.cond rfl ?_
    | refine TQ.down ?_ | refine TQ.in_exit' rfl ?_
    | refine TL.guard_yes rfl rfl ?_ | refine TL.guard_no rfl rfl rfl rfl ?_ | refine TL.guard_no0 rfl rfl rfl ?_ | refine TL.guard_undef rfl rfl rfl ?_ | refine TL.guard_undef0 rfl rfl ?_ | refine TL.guard rfl rfl rfl ?_
    | refine Br.t rfl ?_ | refine Br.f rfl ?_ | refine Br.ky kpA ?_ | refine Br.kn kpA ?_ | refine Br.nky kpA ?_ | refine Br.nkn kpA ?_
    | refine Br.eq0 (fun _ => ?_) (fun _ => ?_) | refine Br.neq0 (fun _ => ?_) (fun _ => ?_) | refine Br.eq (fun _ => ?_) (fun _ => ?_) | refine Br.neq (fun _ => ?_) (fun _ => ?_) | refine Br.not (fun _ => ?_) (fun _ => ?_) | refine Br.dec (fun _ => ?_) (fun _ => ?_) | refine Br.bool (fun _ => ?_) (fun _ => ?_)
    | ((with_reducible apply TL.alloc_ag); (· rfl); intro _) | ((with_reducible apply TL.alloc_sc); (· rfl); (· rfl); intro _) | ((with_reducible apply TL.box_ag); (· rfl); (· rfl); intro _) | ((with_reducible apply TL.box_sc); (· rfl); (· rfl); (· rfl); intro _))
    refine TQ.endR2 (L' := L) Tryz.results5 rvA rvA rfl (hg1) ?_ selA
    exact ⟨_, _, _, _, _, _, _, rfl, rfl, rfl, rfl, rfl⟩
  · rw [hat, if_neg h0] at A
    clear hat
    unfold VR at A
    cases hv : valP 32 (nextL s).1 (nextL s).2 with
    | none =>
      rw [hv] at A
      have hu : unkP s = none := by unfold unkP; rw [hv]
      rw [hu]
      clear hv hu
      repeat' (first
    | ((with_reducible apply TL.pure); (· exact yQ); (· rfl))
    | ((with_reducible apply TL.pure); (· exact yV); (· rfl)) | ((with_reducible apply TW.pure); (· exact yV); (· rfl))
    | (refine TL.call (Enters.plain (by kernel_rfl) (by rfl)) (by rfl) (A _) ?_; (rintro e g1 Ln hg1 ⟨xa, xb, xc, xd, vi, vn, ee, k1, o1, o2, k3, hov⟩; subst k1; subst k3; dsimp only at hov; have hall := six_one xa xb xc xd o1 o2; (subst hov); refine CallK.ret ?_))
    | ((with_reducible apply TL.store_whole (us := sixV xa xb xc xd vi vn)); (· rfl); (· rfl); (· exact hall); (· rfl); (· exact pkA); (· rfl))
    | ((with_reducible apply TL.pure); (· exact yA); (· rfl))
    | refine TC.seq ?_ | refine TC.region ?_ | refine TL.nil ?_ | refine TQ.then_normal ?_
    | ((with_reducible apply TL.storeE); (· rfl); (· rfl); (· rfl); (· exact pkA); (· infer_instance)) | ((with_reducible apply TL.store_whole); (· rfl); (· rfl); (· exact oneA); (· rfl); (· exact pkA); (· rfl))
    | refine TC.block ?_ | refine TC.ret ?_ | refine TC.skip ?_ | refine TC.exit ?_ | refine TC.cond rfl ?_
    | refine TQ.down ?_ | refine TQ.in_exit' rfl ?_
    | refine TL.guard_yes rfl rfl ?_ | refine TL.guard_no rfl rfl rfl rfl ?_ | refine TL.guard_no0 rfl rfl rfl ?_ | refine TL.guard_undef rfl rfl rfl ?_ | refine TL.guard_undef0 rfl rfl ?_ | refine TL.guard rfl rfl rfl ?_
    | refine Br.t rfl ?_ | refine Br.f rfl ?_ | refine Br.ky kpA ?_ | refine Br.kn kpA ?_ | refine Br.nky kpA ?_ | refine Br.nkn kpA ?_
    | refine Br.eq0 (fun _ => ?_) (fun _ => ?_) | refine Br.neq0 (fun _ => ?_) (fun _ => ?_) | refine Br.eq (fun _ => ?_) (fun _ => ?_) | refine Br.neq (fun _ => ?_) (fun _ => ?_) | refine Br.not (fun _ => ?_) (fun _ => ?_) | refine Br.dec (fun _ => ?_) (fun _ => ?_) | refine Br.bool (fun _ => ?_) (fun _ => ?_)
    | ((with_reducible apply TL.alloc_ag); (· rfl); intro _) | ((with_reducible apply TL.alloc_sc); (· rfl); (· rfl); intro _) | ((with_reducible apply TL.box_ag); (· rfl); (· rfl); intro _) | ((with_reducible apply TL.box_sc); (· rfl); (· rfl); (· rfl); intro _))
      refine TQ.endR2 (L' := L) Tryz.results5 rvA rvA rfl (hg1) ?_ selA
      exact ⟨_, _, _, _, _, _, _, rfl, rfl, rfl, rfl, rfl⟩
    | some q =>
      obtain ⟨j, r⟩ := q
      rw [hv] at A
      cases r with
      | cons c t =>
        have hu : unkP s = none := by unfold unkP; rw [hv]
        rw [hu]
        clear hv hu
        repeat' (first
    | ((with_reducible apply TL.pure); (· exact yQ); (· rfl))
    | ((with_reducible apply TL.pure); (· exact yV); (· rfl)) | ((with_reducible apply TW.pure); (· exact yV); (· rfl))
    | (refine TL.call (Enters.plain (by kernel_rfl) (by rfl)) (by rfl) (A _) ?_; (rintro e g1 Ln hg1 ⟨xa, xb, xc, xd, vi, vn, ee, k1, o1, o2, k3, hov⟩; subst k1; subst k3; dsimp only at hov; have hall := six_one xa xb xc xd o1 o2; (obtain ⟨p, rfl, hp, hrp, xx, hxv, hxj, hxw⟩ := hov; have hne : Hn (¬ ((p : Nat) : Int) = (s.length : Nat)) := ⟨fun e => by have := congrArg List.length hrp; rw [List.length_cons, List.length_drop] at this; omega⟩; clear hrp hxv hxj hxw); refine CallK.ret ?_))
    | ((with_reducible apply TL.store_whole (us := sixV xa xb xc xd vi vn)); (· rfl); (· rfl); (· exact hall); (· rfl); (· exact pkA); (· rfl))
    | ((with_reducible apply TL.pure); (· exact yA); (· rfl))
    | refine TC.seq ?_ | refine TC.region ?_ | refine TL.nil ?_ | refine TQ.then_normal ?_
    | ((with_reducible apply TL.storeE); (· rfl); (· rfl); (· rfl); (· exact pkA); (· infer_instance)) | ((with_reducible apply TL.store_whole); (· rfl); (· rfl); (· exact oneA); (· rfl); (· exact pkA); (· rfl))
    | refine TC.block ?_ | refine TC.ret ?_ | refine TC.skip ?_ | refine TC.exit ?_ | refine TC.cond rfl ?_
    | refine TQ.down ?_ | refine TQ.in_exit' rfl ?_
    | refine TL.guard_yes rfl rfl ?_ | refine TL.guard_no rfl rfl rfl rfl ?_ | refine TL.guard_no0 rfl rfl rfl ?_ | refine TL.guard_undef rfl rfl rfl ?_ | refine TL.guard_undef0 rfl rfl ?_ | refine TL.guard rfl rfl rfl ?_
    | refine Br.t rfl ?_ | refine Br.f rfl ?_ | refine Br.ky kpA ?_ | refine Br.kn kpA ?_ | refine Br.nky kpA ?_ | refine Br.nkn kpA ?_
    | refine Br.eq0 (fun _ => ?_) (fun _ => ?_) | refine Br.neq0 (fun _ => ?_) (fun _ => ?_) | refine Br.eq (fun _ => ?_) (fun _ => ?_) | refine Br.neq (fun _ => ?_) (fun _ => ?_) | refine Br.not (fun _ => ?_) (fun _ => ?_) | refine Br.dec (fun _ => ?_) (fun _ => ?_) | refine Br.bool (fun _ => ?_) (fun _ => ?_)
    | ((with_reducible apply TL.alloc_ag); (· rfl); intro _) | ((with_reducible apply TL.alloc_sc); (· rfl); (· rfl); intro _) | ((with_reducible apply TL.box_ag); (· rfl); (· rfl); intro _) | ((with_reducible apply TL.box_sc); (· rfl); (· rfl); (· rfl); intro _))
        refine TQ.endR2 (L' := L) Tryz.results5 rvA rvA rfl (hg1) ?_ selA
        exact ⟨_, _, _, _, _, _, _, rfl, rfl, rfl, rfl, rfl⟩
      | nil =>
        by_cases hl : lookJ j 0 = 0
        · have hu : unkP s = some j := by unfold unkP; rw [hv]; dsimp only; rw [if_pos ⟨hl, h0⟩]
          rw [hu]
          clear hv hu
          repeat' (first
    | ((with_reducible apply TL.pure); (· exact yQ); (· rfl))
    | ((with_reducible apply TL.pure); (· exact yV); (· rfl)) | ((with_reducible apply TW.pure); (· exact yV); (· rfl))
    | (refine TL.call (Enters.plain (by kernel_rfl) (by rfl)) (by rfl) (A _) ?_; (rintro e g1 Ln hg1 ⟨xa, xb, xc, xd, vi, vn, ee, k1, o1, o2, k3, hov⟩; subst k1; subst k3; dsimp only at hov; have hall := six_one xa xb xc xd o1 o2; (obtain ⟨p, rfl, hp, hrp, xx, hxv, hxj, hxw⟩ := hov; obtain rfl : p = s.length := (by have := congrArg List.length hrp; rw [List.length_nil, List.length_drop] at this; omega); have M := fun L => rMay_gives xx _ g1 L hxv hxw; rw [← look_toJ _ xx (Nat.le_refl _), hxj, hl] at M; have HP := Hn.mk (And.intro hxv (And.intro hxj hxw)); clear hrp hxv hxj hxw); refine CallK.ret ?_))
    | ((with_reducible apply TL.store_whole (us := sixV xa xb xc xd vi vn)); (· rfl); (· rfl); (· exact hall); (· rfl); (· exact pkA); (· rfl))
    | ((with_reducible apply TL.gives_plain); (· kernel_rfl); (· rfl); (· exact M _); (· rfl)) | ((with_reducible apply TW.gives_plain); (· kernel_rfl); (· rfl); (· exact M _); (· rfl))
    | ((with_reducible apply TL.pure); (· exact yA); (· rfl))
    | refine TC.seq ?_ | refine TC.region ?_ | refine TL.nil ?_ | refine TQ.then_normal ?_
    | ((with_reducible apply TL.storeE); (· rfl); (· rfl); (· rfl); (· exact pkA); (· infer_instance)) | ((with_reducible apply TL.store_whole); (· rfl); (· rfl); (· exact oneA); (· rfl); (· exact pkA); (· rfl))
    | refine TC.block ?_ | refine TC.ret ?_ | refine TC.skip ?_ | refine TC.exit ?_ | refine TC.cond rfl ?_
    | refine TQ.down ?_ | refine TQ.in_exit' rfl ?_
    | refine TL.guard_yes rfl rfl ?_ | refine TL.guard_no rfl rfl rfl rfl ?_ | refine TL.guard_no0 rfl rfl rfl ?_ | refine TL.guard_undef rfl rfl rfl ?_ | refine TL.guard_undef0 rfl rfl ?_ | refine TL.guard rfl rfl rfl ?_
    | refine Br.t rfl ?_ | refine Br.f rfl ?_ | refine Br.ky kpA ?_ | refine Br.kn kpA ?_ | refine Br.nky kpA ?_ | refine Br.nkn kpA ?_
    | refine Br.eq0 (fun _ => ?_) (fun _ => ?_) | refine Br.neq0 (fun _ => ?_) (fun _ => ?_) | refine Br.eq (fun _ => ?_) (fun _ => ?_) | refine Br.neq (fun _ => ?_) (fun _ => ?_) | refine Br.not (fun _ => ?_) (fun _ => ?_) | refine Br.dec (fun _ => ?_) (fun _ => ?_) | refine Br.bool (fun _ => ?_) (fun _ => ?_)
    | ((with_reducible apply TL.alloc_ag); (· rfl); intro _) | ((with_reducible apply TL.alloc_sc); (· rfl); (· rfl); intro _) | ((with_reducible apply TL.box_ag); (· rfl); (· rfl); intro _) | ((with_reducible apply TL.box_sc); (· rfl); (· rfl); (· rfl); intro _))
          refine TQ.endR2 (L' := L) Tryz.results5 rvA rvA rfl (hg1) ?_ selA
          obtain ⟨h1, h2, h3⟩ := HP.out
          exact ⟨_, _, _, _, _, _, 0, rfl, o1, o2, rfl, rfl, xx, h1, h2, h3⟩
        · have hu : unkP s = none := by unfold unkP; rw [hv]; dsimp only; rw [if_neg (fun h => hl h.1)]
          rw [hu]
          clear hv hu
          have hm : Hn (¬ ((lookJ j 0 : Nat) : Int) = 0) := ⟨by omega⟩
          repeat' (first
    | ((with_reducible apply TL.pure); (· exact yQ); (· rfl))
    | ((with_reducible apply TL.pure); (· exact yV); (· rfl)) | ((with_reducible apply TW.pure); (· exact yV); (· rfl))
    | (refine TL.call (Enters.plain (by kernel_rfl) (by rfl)) (by rfl) (A _) ?_; (rintro e g1 Ln hg1 ⟨xa, xb, xc, xd, vi, vn, ee, k1, o1, o2, k3, hov⟩; subst k1; subst k3; dsimp only at hov; have hall := six_one xa xb xc xd o1 o2; (obtain ⟨p, rfl, hp, hrp, xx, hxv, hxj, hxw⟩ := hov; obtain rfl : p = s.length := (by have := congrArg List.length hrp; rw [List.length_nil, List.length_drop] at this; omega); have M := fun L => rMay_gives xx _ g1 L hxv hxw; rw [← look_toJ _ xx (Nat.le_refl _), hxj] at M; generalize lookJ j 0 = le at *; clear hrp hxv hxj hxw); refine CallK.ret ?_))
    | ((with_reducible apply TL.store_whole (us := sixV xa xb xc xd vi vn)); (· rfl); (· rfl); (· exact hall); (· rfl); (· exact pkA); (· rfl))
    | ((with_reducible apply TL.gives_plain); (· kernel_rfl); (· rfl); (· exact M _); (· rfl)) | ((with_reducible apply TW.gives_plain); (· kernel_rfl); (· rfl); (· exact M _); (· rfl))
    | ((with_reducible apply TL.pure); (· exact yA); (· rfl))
    | refine TC.seq ?_ | refine TC.region ?_ | refine TL.nil ?_ | refine TQ.then_normal ?_
    | ((with_reducible apply TL.storeE); (· rfl); (· rfl); (· rfl); (· exact pkA); (· infer_instance)) | ((with_reducible apply TL.store_whole); (· rfl); (· rfl); (· exact oneA); (· rfl); (· exact pkA); (· rfl))
    | refine TC.block ?_ | refine TC.ret ?_ | refine TC.skip ?_ | refine TC.exit ?_ | refine TC.cond rfl ?_
    | refine TQ.down ?_ | refine TQ.in_exit' rfl ?_
    | refine TL.guard_yes rfl rfl ?_ | refine TL.guard_no rfl rfl rfl rfl ?_ | refine TL.guard_no0 rfl rfl rfl ?_ | refine TL.guard_undef rfl rfl rfl ?_ | refine TL.guard_undef0 rfl rfl ?_ | refine TL.guard rfl rfl rfl ?_
    | refine Br.t rfl ?_ | refine Br.f rfl ?_ | refine Br.ky kpA ?_ | refine Br.kn kpA ?_ | refine Br.nky kpA ?_ | refine Br.nkn kpA ?_
    | refine Br.eq0 (fun _ => ?_) (fun _ => ?_) | refine Br.neq0 (fun _ => ?_) (fun _ => ?_) | refine Br.eq (fun _ => ?_) (fun _ => ?_) | refine Br.neq (fun _ => ?_) (fun _ => ?_) | refine Br.not (fun _ => ?_) (fun _ => ?_) | refine Br.dec (fun _ => ?_) (fun _ => ?_) | refine Br.bool (fun _ => ?_) (fun _ => ?_)
    | ((with_reducible apply TL.alloc_ag); (· rfl); intro _) | ((with_reducible apply TL.alloc_sc); (· rfl); (· rfl); intro _) | ((with_reducible apply TL.box_ag); (· rfl); (· rfl); intro _) | ((with_reducible apply TL.box_sc); (· rfl); (· rfl); (· rfl); intro _))
          refine TQ.endR2 (L' := L) Tryz.results5 rvA rvA rfl (hg1) ?_ selA
          exact ⟨_, _, _, _, _, _, _, rfl, rfl, rfl, rfl, rfl⟩
end Go.Proofs.YtphlggmhgfcmgaaGreatDoor
