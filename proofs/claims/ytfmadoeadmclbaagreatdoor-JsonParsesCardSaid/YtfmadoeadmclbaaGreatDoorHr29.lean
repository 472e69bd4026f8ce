/-
  The walk of layer 4's of: the document's value of a program's.
-/
import Derived.Test.YtfmadoeadmclbaaGreatDoorHr2
import Derived.Test.YtfmadoeadmclbaaGreatDoorHr28
import Derived.Test.YtfmadoeadmclbaaGreatDoorHr11
namespace Go.Proofs.YtfmadoeadmclbaaGreatDoor
open Go.RowKit Go.TL
set_option maxRecDepth 100000

def ofJ : J → DV
  | .null => .mk 0 false 0 [] [] []
  | .bool b => .mk 1 b 0 [] [] []
  | .num n => .mk 2 false n [] [] []
  | .text s => .mk 3 false 0 s [] []
  | .list xs => .mk 4 false 0 [] (xs.attach.map fun ⟨x, _⟩ => ofJ x) []
  | .obj ns xs => .mk 5 false 0 [] (xs.attach.map fun ⟨x, _⟩ => ofJ x) ns
  | .other _ => .mk (-1) false 0 [] [] []
theorem ofJ_list (xs : List J) : ofJ (.list xs) = .mk 4 false 0 [] (xs.map ofJ) [] := by rw [ofJ]; simp
theorem ofJ_obj (ns : List (List UInt8)) (xs : List J) : ofJ (.obj ns xs) = .mk 5 false 0 [] (xs.map ofJ) ns := by rw [ofJ]; simp
def OfP (x : J) (v : Value) (g : Gh) : Prop := ∃ cs, v = .agg cs.toArray ∧ IsV g (ofJ x) cs
theorem isV_flat {g : Gh} {k : Int} {b : Bool} {n : Int} {s : List UInt8} (hk : -9223372036854775808 ≤ k ∧ k ≤ 9223372036854775807) (hn : -9223372036854775808 ≤ n ∧ n ≤ 9223372036854775807) (hs : s.length ≤ 9223372036854775807) : IsV g (.mk k b n s [] []) [.int .i64 k, .bool b, .int .i64 n, str s, .slice none 0 0, .slice none 0 0] := by
  rw [IsV]
  exact ⟨_, _, [], rfl, hk, hn, hs, .nil, by simp, by rw [IsVs], .nil, by simp, fun x hx => by cases hx⟩
theorem IsVs.snoc4 {g : Gh} {l : List DV} {flat : List Value} {x : DV} {cs : List Value} (h : IsVs g l flat) (hx : IsV g x cs) : IsVs g (l ++ [x]) (flat ++ cs) := IsVs.append (IsVs.one hx) h
set_option maxHeartbeats 32000000 in
theorem of04_makes : ∀ (N : Nat) (x : J), jsz x ≤ N → ∀ (v : Value) (g : Gh) (L : List Ent), IsJ g x v → smJ x → Makes Tryz.prog 11 #[v] g L (fun u g' => OfP x u g')
  | 0, x, h, _, _, _, _, _ => by cases x <;> (rw [jsz] at h; omega)
  | N + 1, .null, hN, v, g, L, hV, hS => by
    rw [IsJ] at hV
    subst hV
    refine .of (Does.of1 Tryz.func11 rfl Tryz.ntmps11 rfl ?_)
    repeat' (first
    | refine wkQ ?_
    | refine wkV ?_
    | refine stS ?_ | (refine stB ?_; intro _) | (refine stC ?_; refine And.intro (fun _ => ?_) (fun _ => ?_)))
    refine TQ.endR1 (L' := L) Tryz.results11 rvA rfl (.refl _) ?_ selF
    exact ⟨_, rfl, ⟨_, rfl, by rw [ofJ]; exact isV_flat (by omega) (by omega) (by simp)⟩, rfl⟩
  | N + 1, .bool b, hN, v, g, L, hV, hS => by
    rw [IsJ] at hV
    subst hV
    refine .of (Does.of1 Tryz.func11 rfl Tryz.ntmps11 rfl ?_)
    repeat' (first
    | refine wkQ ?_
    | refine wkV ?_
    | refine wkP ?_
    | refine TC.seq ?_ | refine TC.region ?_ | refine TL.nil ?_ | refine TQ.then_normal ?_
    | ((with_reducible apply TL.storeE); (· rfl); (· rfl); (· rfl); (· exact pkA); (· infer_instance)) | ((with_reducible apply TL.store_whole); (· rfl); (· rfl); (· exact oneA); (· rfl); (· exact pkA); (· rfl))
    | refine TC.block ?_ | refine TC.ret ?_ | refine TC.skip ?_ | refine TC.exit ?_ | refine TC.cond rfl ?_
    | refine TQ.down ?_ | refine TQ.in_exit' rfl ?_
    | refine TL.guard_yes rfl rfl ?_ | refine TL.guard_no rfl rfl rfl rfl ?_ | refine TL.guard_no0 rfl rfl rfl ?_ | refine TL.guard_undef rfl rfl rfl ?_ | refine TL.guard_undef0 rfl rfl ?_ | refine TL.guard rfl rfl rfl ?_
    | refine Br.t rfl ?_ | refine Br.f rfl ?_ | refine Br.ky kpA ?_ | refine Br.kn kpA ?_ | refine Br.nky kpA ?_ | refine Br.nkn kpA ?_
    | refine Br.eq0 (fun _ => ?_) (fun _ => ?_) | refine Br.neq0 (fun _ => ?_) (fun _ => ?_) | refine Br.eq (fun _ => ?_) (fun _ => ?_) | refine Br.neq (fun _ => ?_) (fun _ => ?_) | refine Br.not (fun _ => ?_) (fun _ => ?_) | refine Br.dec (fun _ => ?_) (fun _ => ?_) | refine Br.bool (fun _ => ?_) (fun _ => ?_)
    | ((with_reducible apply TL.alloc_ag); (· rfl); intro _) | ((with_reducible apply TL.alloc_sc); (· rfl); (· rfl); intro _) | ((with_reducible apply TL.box_ag); (· rfl); (· rfl); intro _) | ((with_reducible apply TL.box_sc); (· rfl); (· rfl); (· rfl); intro _))
    refine TQ.endR1 (L' := L) Tryz.results11 rvA rfl (.refl _) ?_ selF
    exact ⟨_, rfl, ⟨_, rfl, by rw [ofJ]; exact isV_flat (by omega) (by omega) (by simp)⟩, rfl⟩
  | N + 1, .num n, hN, v, g, L, hV, hS => by
    rw [IsJ] at hV
    obtain ⟨rfl, hb⟩ := hV
    refine .of (Does.of1 Tryz.func11 rfl Tryz.ntmps11 rfl ?_)
    repeat' (first
    | refine wkQ ?_
    | refine wkV ?_
    | refine wkP ?_
    | refine TC.seq ?_ | refine TC.region ?_ | refine TL.nil ?_ | refine TQ.then_normal ?_
    | ((with_reducible apply TL.storeE); (· rfl); (· rfl); (· rfl); (· exact pkA); (· infer_instance)) | ((with_reducible apply TL.store_whole); (· rfl); (· rfl); (· exact oneA); (· rfl); (· exact pkA); (· rfl))
    | refine TC.block ?_ | refine TC.ret ?_ | refine TC.skip ?_ | refine TC.exit ?_ | refine TC.cond rfl ?_
    | refine TQ.down ?_ | refine TQ.in_exit' rfl ?_
    | refine TL.guard_yes rfl rfl ?_ | refine TL.guard_no rfl rfl rfl rfl ?_ | refine TL.guard_no0 rfl rfl rfl ?_ | refine TL.guard_undef rfl rfl rfl ?_ | refine TL.guard_undef0 rfl rfl ?_ | refine TL.guard rfl rfl rfl ?_
    | refine Br.t rfl ?_ | refine Br.f rfl ?_ | refine Br.ky kpA ?_ | refine Br.kn kpA ?_ | refine Br.nky kpA ?_ | refine Br.nkn kpA ?_
    | refine Br.eq0 (fun _ => ?_) (fun _ => ?_) | refine Br.neq0 (fun _ => ?_) (fun _ => ?_) | refine Br.eq (fun _ => ?_) (fun _ => ?_) | refine Br.neq (fun _ => ?_) (fun _ => ?_) | refine Br.not (fun _ => ?_) (fun _ => ?_) | refine Br.dec (fun _ => ?_) (fun _ => ?_) | refine Br.bool (fun _ => ?_) (fun _ => ?_)
    | ((with_reducible apply TL.alloc_ag); (· rfl); intro _) | ((with_reducible apply TL.alloc_sc); (· rfl); (· rfl); intro _) | ((with_reducible apply TL.box_ag); (· rfl); (· rfl); intro _) | ((with_reducible apply TL.box_sc); (· rfl); (· rfl); (· rfl); intro _))
    refine TQ.endR1 (L' := L) Tryz.results11 rvA rfl (.refl _) ?_ selF
    exact ⟨_, rfl, ⟨_, rfl, by rw [ofJ]; exact isV_flat (by omega) hb (by simp)⟩, rfl⟩
  | N + 1, .text s, hN, v, g, L, hV, hS => by
    rw [IsJ] at hV
    subst hV
    rw [smJ] at hS
    refine .of (Does.of1 Tryz.func11 rfl Tryz.ntmps11 rfl ?_)
    repeat' (first
    | refine wkQ ?_
    | refine wkV ?_
    | refine wkP ?_
    | refine TC.seq ?_ | refine TC.region ?_ | refine TL.nil ?_ | refine TQ.then_normal ?_
    | ((with_reducible apply TL.storeE); (· rfl); (· rfl); (· rfl); (· exact pkA); (· infer_instance)) | ((with_reducible apply TL.store_whole); (· rfl); (· rfl); (· exact oneA); (· rfl); (· exact pkA); (· rfl))
    | refine TC.block ?_ | refine TC.ret ?_ | refine TC.skip ?_ | refine TC.exit ?_ | refine TC.cond rfl ?_
    | refine TQ.down ?_ | refine TQ.in_exit' rfl ?_
    | refine TL.guard_yes rfl rfl ?_ | refine TL.guard_no rfl rfl rfl rfl ?_ | refine TL.guard_no0 rfl rfl rfl ?_ | refine TL.guard_undef rfl rfl rfl ?_ | refine TL.guard_undef0 rfl rfl ?_ | refine TL.guard rfl rfl rfl ?_
    | refine Br.t rfl ?_ | refine Br.f rfl ?_ | refine Br.ky kpA ?_ | refine Br.kn kpA ?_ | refine Br.nky kpA ?_ | refine Br.nkn kpA ?_
    | refine Br.eq0 (fun _ => ?_) (fun _ => ?_) | refine Br.neq0 (fun _ => ?_) (fun _ => ?_) | refine Br.eq (fun _ => ?_) (fun _ => ?_) | refine Br.neq (fun _ => ?_) (fun _ => ?_) | refine Br.not (fun _ => ?_) (fun _ => ?_) | refine Br.dec (fun _ => ?_) (fun _ => ?_) | refine Br.bool (fun _ => ?_) (fun _ => ?_)
    | ((with_reducible apply TL.alloc_ag); (· rfl); intro _) | ((with_reducible apply TL.alloc_sc); (· rfl); (· rfl); intro _) | ((with_reducible apply TL.box_ag); (· rfl); (· rfl); intro _) | ((with_reducible apply TL.box_sc); (· rfl); (· rfl); (· rfl); intro _))
    refine TQ.endR1 (L' := L) Tryz.results11 rvA rfl (.refl _) ?_ selF
    exact ⟨_, rfl, ⟨_, rfl, by rw [ofJ]; exact isV_flat (by omega) (by omega) (by omega)⟩, rfl⟩
  | N + 1, .other k, hN, v, g, L, hV, hS => by
    rw [IsJ] at hV
    subst hV
    refine .of (Does.of1 Tryz.func11 rfl Tryz.ntmps11 rfl ?_)
    repeat' (first
    | refine wkQ ?_
    | refine wkV ?_
    | refine wkP ?_
    | refine TC.seq ?_ | refine TC.region ?_ | refine TL.nil ?_ | refine TQ.then_normal ?_
    | ((with_reducible apply TL.storeE); (· rfl); (· rfl); (· rfl); (· exact pkA); (· infer_instance)) | ((with_reducible apply TL.store_whole); (· rfl); (· rfl); (· exact oneA); (· rfl); (· exact pkA); (· rfl))
    | refine TC.block ?_ | refine TC.ret ?_ | refine TC.skip ?_ | refine TC.exit ?_ | refine TC.cond rfl ?_
    | refine TQ.down ?_ | refine TQ.in_exit' rfl ?_
    | refine TL.guard_yes rfl rfl ?_ | refine TL.guard_no rfl rfl rfl rfl ?_ | refine TL.guard_no0 rfl rfl rfl ?_ | refine TL.guard_undef rfl rfl rfl ?_ | refine TL.guard_undef0 rfl rfl ?_ | refine TL.guard rfl rfl rfl ?_
    | refine Br.t rfl ?_ | refine Br.f rfl ?_ | refine Br.ky kpA ?_ | refine Br.kn kpA ?_ | refine Br.nky kpA ?_ | refine Br.nkn kpA ?_
    | refine Br.eq0 (fun _ => ?_) (fun _ => ?_) | refine Br.neq0 (fun _ => ?_) (fun _ => ?_) | refine Br.eq (fun _ => ?_) (fun _ => ?_) | refine Br.neq (fun _ => ?_) (fun _ => ?_) | refine Br.not (fun _ => ?_) (fun _ => ?_) | refine Br.dec (fun _ => ?_) (fun _ => ?_) | refine Br.bool (fun _ => ?_) (fun _ => ?_)
    | ((with_reducible apply TL.alloc_ag); (· rfl); intro _) | ((with_reducible apply TL.alloc_sc); (· rfl); (· rfl); intro _) | ((with_reducible apply TL.box_ag); (· rfl); (· rfl); intro _) | ((with_reducible apply TL.box_sc); (· rfl); (· rfl); (· rfl); intro _))
    refine TQ.endR1 (L' := L) Tryz.results11 rvA rfl (.refl _) ?_ selF
    exact ⟨_, rfl, ⟨_, rfl, by rw [ofJ]; exact isV_flat (by omega) (by omega) (by simp)⟩, rfl⟩
  | N + 1, .list xs, hN, v, g, L, hV, hS => by
    have IH := of04_makes N
    rw [jsz] at hN
    rw [IsJ] at hV
    obtain ⟨sl, flat, rfl, hSl, hJs⟩ := hV
    obtain ⟨ao, cap, rfl⟩ := hSl.slice
    rw [smJ] at hS
    obtain ⟨hl, hS⟩ := hS
    refine .of (Does.of1 Tryz.func11 rfl Tryz.ntmps11 rfl ?_)
    repeat' (first
    | refine wkQ ?_
    | refine wkV ?_
    | refine wkP ?_
    | refine TC.seq ?_ | refine TC.region ?_ | refine TL.nil ?_ | refine TQ.then_normal ?_
    | ((with_reducible apply TL.storeE); (· rfl); (· rfl); (· rfl); (· exact pkA); (· infer_instance)) | ((with_reducible apply TL.store_whole); (· rfl); (· rfl); (· exact oneA); (· rfl); (· exact pkA); (· rfl))
    | refine TC.block ?_ | refine TC.ret ?_ | refine TC.skip ?_ | refine TC.exit ?_ | refine TC.cond rfl ?_
    | refine TQ.down ?_ | refine TQ.in_exit' rfl ?_
    | refine TL.guard_yes rfl rfl ?_ | refine TL.guard_no rfl rfl rfl rfl ?_ | refine TL.guard_no0 rfl rfl rfl ?_ | refine TL.guard_undef rfl rfl rfl ?_ | refine TL.guard_undef0 rfl rfl ?_ | refine TL.guard rfl rfl rfl ?_
    | refine Br.t rfl ?_ | refine Br.f rfl ?_ | refine Br.ky kpA ?_ | refine Br.kn kpA ?_ | refine Br.nky kpA ?_ | refine Br.nkn kpA ?_
    | refine Br.eq0 (fun _ => ?_) (fun _ => ?_) | refine Br.neq0 (fun _ => ?_) (fun _ => ?_) | refine Br.eq (fun _ => ?_) (fun _ => ?_) | refine Br.neq (fun _ => ?_) (fun _ => ?_) | refine Br.not (fun _ => ?_) (fun _ => ?_) | refine Br.dec (fun _ => ?_) (fun _ => ?_) | refine Br.bool (fun _ => ?_) (fun _ => ?_)
    | ((with_reducible apply TL.alloc_ag); (· rfl); intro _) | ((with_reducible apply TL.alloc_sc); (· rfl); (· rfl); intro _) | ((with_reducible apply TL.box_ag); (· rfl); (· rfl); intro _) | ((with_reducible apply TL.box_sc); (· rfl); (· rfl); (· rfl); intro _))
    rename_i b2 b8
    refine TC.row_nil 29 6 ?_
    refine TC.loop (α := Nat × Value × List Value × Gh) (fun x => x.1 ≤ xs.length ∧ g.le x.2.2.2 ∧ IsVs x.2.2.2 ((xs.take x.1).map ofJ) x.2.2.1 ∧ x.2.2.1.length = x.1 * 6) (fun x => xs.length - x.1) (fun x => [(9, .int .i64 (x.1 : Nat)), (8, .pointer (some ⟨b8, 0, none⟩)), (7, .slice ao xs.length cap), (2, .pointer (some ⟨b2, 0, none⟩))]) (fun x => x.2.2.2)
      (fun x => .row 29 6 x.2.1 x.1 x.2.2.1 :: .obj b8 (.cells [.int .i64 4, .bool false, .int .i64 0, .string ⟨#[]⟩, x.2.1, .slice none 0 0].toArray 29 (0, 0)) :: .obj b2 (.cells [.int .i64 0, .bool false, .int .i64 0, .string ⟨#[]⟩, .slice none 0 0, .slice none 0 0].toArray 29 (0, 0)) :: L) (0, .slice none 0 0, [], g) ⟨Nat.zero_le _, .refl g, by rw [List.take_zero, List.map_nil, IsVs], rfl⟩ rfl subA selF ?_
    rintro ⟨i, iv, fl, gh⟩ ⟨hi1, hle, hJ, hlen⟩
    dsimp only at hi1 hle hJ hlen ⊢
    refine TC.row_slice (v := iv) pkA ?_
    rintro ai ci rfl _
    by_cases hlt : i < xs.length
    · obtain ⟨x, hx⟩ : ∃ x, xs[i]? = some x := ⟨_, List.getElem?_eq_getElem hlt⟩
      obtain ⟨vx, hv, hJx⟩ := hJs.get hx
      obtain ⟨b1, o1, rfl, hg⟩ := hSl.elem hlt (by decide)
      have hld : gh.cell b1 (o1 + i * 1) = some vx := hle.cell (hg 0 vx (by rw [Nat.mul_one]; exact hv))
      have hsz := jsz_get hx
      have hone := hJx.one
      have A := fun L => IH x (by omega) vx gh L (IsJ.le hle _ _ hJx) (smJs_get hS hx)
      have HJ := Hn.mk hJ
      have HLAST := Hn.mk (show (xs.take (i + 1)).map ofJ = (xs.take i).map ofJ ++ [ofJ x] by rw [List.take_add_one, hx]; simp)
      clear hJs hSl hg hS hv hJx IH hJ
      repeat' (first
    | refine wkQ ?_
    | refine wkV ?_
    | ((with_reducible apply TL.pure); (· exact yM); (· rfl)) | ((with_reducible apply TW.pure); (· exact yM); (· rfl))
    | refine TC.region_sink 10 11 ((.obj b8 (.cells [.int .i64 4, .bool false, .int .i64 0, .string ⟨#[]⟩, .slice ai i ci, .slice none 0 0].toArray 29 (0, 0)) :: L)) (by kernel_rfl) (by decide +kernel) rfl selF ?_ | refine TQ.anyT_panic ?_
    | ((with_reducible apply TB.takeF 0); (· rfl); (· decide +kernel); (· rfl); (· first | (first | exact yQ | exact yA | exact yB | exact yM | exact yV) | fail); (· decide +kernel); (· decide +kernel); (· rfl); (· exact fun _ _ _ h => h); (· rfl))
    | ((with_reducible apply TB.takeF 1); (· rfl); (· decide +kernel); (· rfl); (· first | (first | exact yQ | exact yA | exact yB | exact yM | exact yV) | fail); (· decide +kernel); (· decide +kernel); (· rfl); (· exact fun _ _ _ h => h); (· rfl))
    | ((with_reducible apply TB.takeF 2); (· rfl); (· decide +kernel); (· rfl); (· first | (first | exact yQ | exact yA | exact yB | exact yM | exact yV) | fail); (· decide +kernel); (· decide +kernel); (· rfl); (· exact fun _ _ _ h => h); (· rfl))
    | ((with_reducible apply TB.takeF 3); (· rfl); (· decide +kernel); (· rfl); (· first | (first | exact yQ | exact yA | exact yB | exact yM | exact yV) | fail); (· decide +kernel); (· decide +kernel); (· rfl); (· exact fun _ _ _ h => h); (· rfl))
    | ((with_reducible apply TB.takeF 4); (· rfl); (· decide +kernel); (· rfl); (· first | (first | exact yQ | exact yA | exact yB | exact yM | exact yV) | fail); (· decide +kernel); (· decide +kernel); (· rfl); (· exact fun _ _ _ h => h); (· rfl))
    | ((with_reducible apply TB.takeF 5); (· rfl); (· decide +kernel); (· rfl); (· first | (first | exact yQ | exact yA | exact yB | exact yM | exact yV) | fail); (· decide +kernel); (· decide +kernel); (· rfl); (· exact fun _ _ _ h => h); (· rfl))
    | ((with_reducible apply TB.takeF 6); (· rfl); (· decide +kernel); (· rfl); (· first | (first | exact yQ | exact yA | exact yB | exact yM | exact yV) | fail); (· decide +kernel); (· decide +kernel); (· rfl); (· exact fun _ _ _ h => h); (· rfl))
    | ((with_reducible apply TB.takeF 7); (· rfl); (· decide +kernel); (· rfl); (· first | (first | exact yQ | exact yA | exact yB | exact yM | exact yV) | fail); (· decide +kernel); (· decide +kernel); (· rfl); (· exact fun _ _ _ h => h); (· rfl))
    | ((with_reducible apply TB.takeF 8); (· rfl); (· decide +kernel); (· rfl); (· first | (first | exact yQ | exact yA | exact yB | exact yM | exact yV) | fail); (· decide +kernel); (· decide +kernel); (· rfl); (· exact fun _ _ _ h => h); (· rfl))
    | ((with_reducible apply TB.takeF 9); (· rfl); (· decide +kernel); (· rfl); (· first | (first | exact yQ | exact yA | exact yB | exact yM | exact yV) | fail); (· decide +kernel); (· decide +kernel); (· rfl); (· exact fun _ _ _ h => h); (· rfl))
    | ((with_reducible apply TB.takeF 10); (· rfl); (· decide +kernel); (· rfl); (· first | (first | exact yQ | exact yA | exact yB | exact yM | exact yV) | fail); (· decide +kernel); (· decide +kernel); (· rfl); (· exact fun _ _ _ h => h); (· rfl))
    | (refine TL.makes (Enters.plain (by kernel_rfl) (by rfl)) (A _) (by rfl) ?_; rintro vj gj hgj ⟨cz, hvz, hz⟩; subst hvz; obtain ⟨zk, zb, zn, zs, zi, zil, zic, zm, zml, zmc, rfl⟩ := hz.form; have HZ := Hn.mk hz; clear hz)
    | ((with_reducible apply TB.oneF 0); (· rfl); (· rfl); (· decide +kernel); (· rfl); intro hsk)
    | ((with_reducible apply TB.oneF 1); (· rfl); (· rfl); (· decide +kernel); (· rfl); intro hsk)
    | ((with_reducible apply TB.oneF 2); (· rfl); (· rfl); (· decide +kernel); (· rfl); intro hsk)
    | ((with_reducible apply TB.oneF 3); (· rfl); (· rfl); (· decide +kernel); (· rfl); intro hsk)
    | ((with_reducible apply TB.oneF 4); (· rfl); (· rfl); (· decide +kernel); (· rfl); intro hsk)
    | ((with_reducible apply TB.oneF 5); (· rfl); (· rfl); (· decide +kernel); (· rfl); intro hsk)
    | ((with_reducible apply TB.oneF 6); (· rfl); (· rfl); (· decide +kernel); (· rfl); intro hsk)
    | ((with_reducible apply TB.oneF 7); (· rfl); (· rfl); (· decide +kernel); (· rfl); intro hsk)
    | ((with_reducible apply TB.oneF 8); (· rfl); (· rfl); (· decide +kernel); (· rfl); intro hsk)
    | ((with_reducible apply TB.oneF 9); (· rfl); (· rfl); (· decide +kernel); (· rfl); intro hsk)
    | ((with_reducible apply TB.oneF 10); (· rfl); (· rfl); (· decide +kernel); (· rfl); intro hsk)
    | refine TQ.lastT (by decide +kernel) ?_ | refine TQ.anyT (by assumption) leF selF ?_
    | ((with_reducible apply TL.build_slice); (· rfl); (· rfl); (· exact oneA); (· rfl); (· rfl); (· rfl); intro _) | refine TL.build_one (by rfl) (by first | rfl | assumption) (by rfl) (by rfl) (by rfl) (by rfl) (fun _ => ?_) | refine TL.build_empty (by rfl) (fun _ => ?_)
    | ((with_reducible apply TL.append (e := 29)); (· rfl); (· rfl); (· rfl); (· rfl); (· exact pkA); (· first | exact Src.obj pkA | exact Src.sl (by assumption) | exact Src.row pkA); (· rfl); (· first | rfl | assumption); (· exact ⟨by unfold maxLen; omega, by omega⟩); (· rfl); intro vf; refine Go.TL.TL.row_slice (v := vf) pkA ?_; rintro a2 c2 rfl _)
    | refine stS ?_ | (refine stB ?_; intro _) | (refine stC ?_; refine And.intro (fun _ => ?_) (fun _ => ?_))
    | apply TC.region_draw (by kernel_rfl) (by kernel_rfl) | refine TW.nil ?_ | ((with_reducible apply TW.pure); (· exact yA); (· rfl)))
      refine TQ.round (i + 1, Value.slice a2 (i + 1) c2, fl ++ [.int .i64 zk, .bool zb, .int .i64 zn, str zs, .slice zi zil zic, .slice zm zml zmc], gj) ?_ ?_ rfl subA selF
      · refine ⟨by dsimp only; omega, hle.trans hgj, ?_, by simp [hlen]; omega⟩
        show IsVs gj ((xs.take (i + 1)).map ofJ) _
        rw [HLAST.out]
        exact (IsVs.le hgj _ _ HJ.out).snoc4 HZ.out
      · show xs.length - (i + 1) < xs.length - i
        omega
    · obtain rfl : i = xs.length := by omega
      rw [List.take_length] at hJ
      clear hJs hSl hS IH
      repeat' (first
    | refine wkQ ?_
    | refine wkV ?_
    | ((with_reducible apply TL.pure); (· exact yM); (· rfl)) | ((with_reducible apply TW.pure); (· exact yM); (· rfl))
    | refine wkP ?_
    | refine TC.seq ?_ | refine TC.region ?_ | refine TL.nil ?_ | refine TQ.then_normal ?_
    | ((with_reducible apply TL.storeE); (· rfl); (· rfl); (· rfl); (· exact pkA); (· infer_instance)) | ((with_reducible apply TL.store_whole); (· rfl); (· rfl); (· exact oneA); (· rfl); (· exact pkA); (· rfl))
    | refine TC.block ?_ | refine TC.ret ?_ | refine TC.skip ?_ | refine TC.exit ?_ | refine TC.cond rfl ?_
    | refine TQ.down ?_ | refine TQ.in_exit' rfl ?_
    | refine TL.guard_yes rfl rfl ?_ | refine TL.guard_no rfl rfl rfl rfl ?_ | refine TL.guard_no0 rfl rfl rfl ?_ | refine TL.guard_undef rfl rfl rfl ?_ | refine TL.guard_undef0 rfl rfl ?_ | refine TL.guard rfl rfl rfl ?_
    | refine Br.t rfl ?_ | refine Br.f rfl ?_ | refine Br.ky kpA ?_ | refine Br.kn kpA ?_ | refine Br.nky kpA ?_ | refine Br.nkn kpA ?_
    | refine Br.eq0 (fun _ => ?_) (fun _ => ?_) | refine Br.neq0 (fun _ => ?_) (fun _ => ?_) | refine Br.eq (fun _ => ?_) (fun _ => ?_) | refine Br.neq (fun _ => ?_) (fun _ => ?_) | refine Br.not (fun _ => ?_) (fun _ => ?_) | refine Br.dec (fun _ => ?_) (fun _ => ?_) | refine Br.bool (fun _ => ?_) (fun _ => ?_)
    | ((with_reducible apply TL.alloc_ag); (· rfl); intro _) | ((with_reducible apply TL.alloc_sc); (· rfl); (· rfl); intro _) | ((with_reducible apply TL.box_ag); (· rfl); (· rfl); intro _) | ((with_reducible apply TL.box_sc); (· rfl); (· rfl); (· rfl); intro _))
      refine TQ.freeze (v := .slice ai xs.length ci) pkA ?_
      intro gf hgf hsl
      refine TQ.endR1 (L' := L) Tryz.results11 rvA rfl (hle.trans hgf) ?_ selF
      refine ⟨_, rfl, ⟨_, rfl, ?_⟩, rfl⟩
      rw [ofJ_list, IsV]
      exact ⟨_, _, fl, rfl, by omega, by omega, by simp, by rw [List.length_map]; exact hsl, by rw [List.length_map]; omega, IsVs.le hgf _ _ hJ, .nil, by simp, fun x hx => by cases hx⟩
  | N + 1, .obj ns xs, hN, v, g, L, hV, hS => by
    have IH := of04_makes N
    rw [jsz] at hN
    rw [IsJ] at hV
    obtain ⟨sl, flat, rfl, hSl, hMs⟩ := hV
    obtain ⟨ao, cap, rfl⟩ := hSl.slice
    rw [smJ] at hS
    obtain ⟨hl, hnl, hS⟩ := hS
    have hnx := hMs.len
    refine .of (Does.of1 Tryz.func11 rfl Tryz.ntmps11 rfl ?_)
    repeat' (first
    | refine wkQ ?_
    | refine wkV ?_
    | refine wkP ?_
    | refine TC.seq ?_ | refine TC.region ?_ | refine TL.nil ?_ | refine TQ.then_normal ?_
    | ((with_reducible apply TL.storeE); (· rfl); (· rfl); (· rfl); (· exact pkA); (· infer_instance)) | ((with_reducible apply TL.store_whole); (· rfl); (· rfl); (· exact oneA); (· rfl); (· exact pkA); (· rfl))
    | refine TC.block ?_ | refine TC.ret ?_ | refine TC.skip ?_ | refine TC.exit ?_ | refine TC.cond rfl ?_
    | refine TQ.down ?_ | refine TQ.in_exit' rfl ?_
    | refine TL.guard_yes rfl rfl ?_ | refine TL.guard_no rfl rfl rfl rfl ?_ | refine TL.guard_no0 rfl rfl rfl ?_ | refine TL.guard_undef rfl rfl rfl ?_ | refine TL.guard_undef0 rfl rfl ?_ | refine TL.guard rfl rfl rfl ?_
    | refine Br.t rfl ?_ | refine Br.f rfl ?_ | refine Br.ky kpA ?_ | refine Br.kn kpA ?_ | refine Br.nky kpA ?_ | refine Br.nkn kpA ?_
    | refine Br.eq0 (fun _ => ?_) (fun _ => ?_) | refine Br.neq0 (fun _ => ?_) (fun _ => ?_) | refine Br.eq (fun _ => ?_) (fun _ => ?_) | refine Br.neq (fun _ => ?_) (fun _ => ?_) | refine Br.not (fun _ => ?_) (fun _ => ?_) | refine Br.dec (fun _ => ?_) (fun _ => ?_) | refine Br.bool (fun _ => ?_) (fun _ => ?_)
    | ((with_reducible apply TL.alloc_ag); (· rfl); intro _) | ((with_reducible apply TL.alloc_sc); (· rfl); (· rfl); intro _) | ((with_reducible apply TL.box_ag); (· rfl); (· rfl); intro _) | ((with_reducible apply TL.box_sc); (· rfl); (· rfl); (· rfl); intro _))
    rename_i b2 b8
    refine TC.row_nil 29 6 ?_
    refine TC.row_nil 9 1 ?_
    refine TC.loop (α := Nat × Value × Value × List Value × Gh) (fun x => x.1 ≤ xs.length ∧ g.le x.2.2.2.2 ∧ IsVs x.2.2.2.2 ((xs.take x.1).map ofJ) x.2.2.2.1 ∧ x.2.2.2.1.length = x.1 * 6) (fun x => xs.length - x.1) (fun x => [(12, .int .i64 (x.1 : Nat)), (11, .pointer (some ⟨b8, 0, none⟩)), (10, .slice ao xs.length cap), (2, .pointer (some ⟨b2, 0, none⟩))]) (fun x => x.2.2.2.2)
      (fun x => .row 29 6 x.2.1 x.1 x.2.2.2.1 :: .row 9 1 x.2.2.1 x.1 (strs (ns.take x.1)) :: .obj b8 (.cells [.int .i64 5, .bool false, .int .i64 0, .string ⟨#[]⟩, x.2.1, x.2.2.1].toArray 29 (0, 0)) :: .obj b2 (.cells [.int .i64 0, .bool false, .int .i64 0, .string ⟨#[]⟩, .slice none 0 0, .slice none 0 0].toArray 29 (0, 0)) :: L) (0, .slice none 0 0, .slice none 0 0, [], g) ⟨Nat.zero_le _, .refl g, by rw [List.take_zero, List.map_nil, IsVs], rfl⟩ rfl subA selF ?_
    rintro ⟨i, iv, nv, fl, gh⟩ ⟨hi1, hle, hJ, hlen⟩
    dsimp only at hi1 hle hJ hlen ⊢
    refine TC.row_slice (v := iv) pkA ?_
    rintro ai ci rfl _
    refine TC.row_slice (v := nv) pkA ?_
    rintro an cn rfl _
    by_cases hlt : i < xs.length
    · obtain ⟨x, hx⟩ : ∃ x, xs[i]? = some x := ⟨_, List.getElem?_eq_getElem hlt⟩
      obtain ⟨nm, vx, hns, hv0, hv1, hJx⟩ := hMs.get hx
      obtain ⟨b1, o1, rfl, hg⟩ := hSl.elem (i := i) (by omega) (by decide)
      have hld0 : gh.cell b1 (o1 + i * 2) = some (str nm) := hle.cell (by have := hg 0 _ hv0; simpa using this)
      have hld1 : gh.cell b1 (o1 + i * 2 + 1) = some vx := hle.cell (hg 1 _ hv1)
      have hsz := jsz_get hx
      have hone := hJx.one
      have A := fun L => IH x (by omega) vx gh L (IsJ.le hle _ _ hJx) (smJs_get hS hx)
      have HJ := Hn.mk hJ
      have HLAST := Hn.mk (show (xs.take (i + 1)).map ofJ = (xs.take i).map ofJ ++ [ofJ x] by rw [List.take_add_one, hx]; simp)
      have hstr : strs (ns.take (i + 1)) = strs (ns.take i) ++ [str nm] := by rw [List.take_add_one, hns]; unfold strs; simp
      clear hMs hSl hg hS hv0 hv1 hJx IH hJ hnl
      repeat' (first
    | refine wkQ ?_
    | refine wkV ?_
    | ((with_reducible apply TL.pure); (· exact yM); (· rfl)) | ((with_reducible apply TW.pure); (· exact yM); (· rfl))
    | refine TC.region_sink 10 11 ((.obj b8 (.cells [.int .i64 5, .bool false, .int .i64 0, .string ⟨#[]⟩, .slice ai i ci, .slice an i cn].toArray 29 (0, 0)) :: L)) (by kernel_rfl) (by decide +kernel) rfl selF ?_ | refine TQ.anyT_panic ?_
    | refine TC.region_sink 11 12 ((.obj b8 (.cells [.int .i64 5, .bool false, .int .i64 0, .string ⟨#[]⟩, .slice ai i ci, .slice a3 (i + 1) c3].toArray 29 (0, 0)) :: L)) (by kernel_rfl) (by decide +kernel) rfl selF ?_ | refine TQ.anyT_panic ?_
    | ((with_reducible apply TB.takeF 0); (· rfl); (· decide +kernel); (· rfl); (· first | (first | exact yQ | exact yA | exact yB | exact yM | exact yV) | fail); (· decide +kernel); (· decide +kernel); (· rfl); (· exact fun _ _ _ h => h); (· rfl))
    | ((with_reducible apply TB.takeF 1); (· rfl); (· decide +kernel); (· rfl); (· first | (first | exact yQ | exact yA | exact yB | exact yM | exact yV) | fail); (· decide +kernel); (· decide +kernel); (· rfl); (· exact fun _ _ _ h => h); (· rfl))
    | ((with_reducible apply TB.takeF 2); (· rfl); (· decide +kernel); (· rfl); (· first | (first | exact yQ | exact yA | exact yB | exact yM | exact yV) | fail); (· decide +kernel); (· decide +kernel); (· rfl); (· exact fun _ _ _ h => h); (· rfl))
    | ((with_reducible apply TB.takeF 3); (· rfl); (· decide +kernel); (· rfl); (· first | (first | exact yQ | exact yA | exact yB | exact yM | exact yV) | fail); (· decide +kernel); (· decide +kernel); (· rfl); (· exact fun _ _ _ h => h); (· rfl))
    | ((with_reducible apply TB.takeF 4); (· rfl); (· decide +kernel); (· rfl); (· first | (first | exact yQ | exact yA | exact yB | exact yM | exact yV) | fail); (· decide +kernel); (· decide +kernel); (· rfl); (· exact fun _ _ _ h => h); (· rfl))
    | ((with_reducible apply TB.takeF 5); (· rfl); (· decide +kernel); (· rfl); (· first | (first | exact yQ | exact yA | exact yB | exact yM | exact yV) | fail); (· decide +kernel); (· decide +kernel); (· rfl); (· exact fun _ _ _ h => h); (· rfl))
    | ((with_reducible apply TB.takeF 6); (· rfl); (· decide +kernel); (· rfl); (· first | (first | exact yQ | exact yA | exact yB | exact yM | exact yV) | fail); (· decide +kernel); (· decide +kernel); (· rfl); (· exact fun _ _ _ h => h); (· rfl))
    | ((with_reducible apply TB.takeF 7); (· rfl); (· decide +kernel); (· rfl); (· first | (first | exact yQ | exact yA | exact yB | exact yM | exact yV) | fail); (· decide +kernel); (· decide +kernel); (· rfl); (· exact fun _ _ _ h => h); (· rfl))
    | ((with_reducible apply TB.takeF 8); (· rfl); (· decide +kernel); (· rfl); (· first | (first | exact yQ | exact yA | exact yB | exact yM | exact yV) | fail); (· decide +kernel); (· decide +kernel); (· rfl); (· exact fun _ _ _ h => h); (· rfl))
    | ((with_reducible apply TB.takeF 9); (· rfl); (· decide +kernel); (· rfl); (· first | (first | exact yQ | exact yA | exact yB | exact yM | exact yV) | fail); (· decide +kernel); (· decide +kernel); (· rfl); (· exact fun _ _ _ h => h); (· rfl))
    | ((with_reducible apply TB.takeF 10); (· rfl); (· decide +kernel); (· rfl); (· first | (first | exact yQ | exact yA | exact yB | exact yM | exact yV) | fail); (· decide +kernel); (· decide +kernel); (· rfl); (· exact fun _ _ _ h => h); (· rfl))
    | ((with_reducible apply TB.takeF 11); (· rfl); (· decide +kernel); (· rfl); (· first | (first | exact yQ | exact yA | exact yB | exact yM | exact yV) | fail); (· decide +kernel); (· decide +kernel); (· rfl); (· exact fun _ _ _ h => h); (· rfl))
    | (refine TL.makes (Enters.plain (by kernel_rfl) (by rfl)) (A _) (by rfl) ?_; rintro vj gj hgj ⟨cz, hvz, hz⟩; subst hvz; obtain ⟨zk, zb, zn, zs, zi, zil, zic, zm, zml, zmc, rfl⟩ := hz.form; have HZ := Hn.mk hz; clear hz)
    | ((with_reducible apply TB.oneF 0); (· rfl); (· rfl); (· decide +kernel); (· rfl); intro hsk)
    | ((with_reducible apply TB.oneF 1); (· rfl); (· rfl); (· decide +kernel); (· rfl); intro hsk)
    | ((with_reducible apply TB.oneF 2); (· rfl); (· rfl); (· decide +kernel); (· rfl); intro hsk)
    | ((with_reducible apply TB.oneF 3); (· rfl); (· rfl); (· decide +kernel); (· rfl); intro hsk)
    | ((with_reducible apply TB.oneF 4); (· rfl); (· rfl); (· decide +kernel); (· rfl); intro hsk)
    | ((with_reducible apply TB.oneF 5); (· rfl); (· rfl); (· decide +kernel); (· rfl); intro hsk)
    | ((with_reducible apply TB.oneF 6); (· rfl); (· rfl); (· decide +kernel); (· rfl); intro hsk)
    | ((with_reducible apply TB.oneF 7); (· rfl); (· rfl); (· decide +kernel); (· rfl); intro hsk)
    | ((with_reducible apply TB.oneF 8); (· rfl); (· rfl); (· decide +kernel); (· rfl); intro hsk)
    | ((with_reducible apply TB.oneF 9); (· rfl); (· rfl); (· decide +kernel); (· rfl); intro hsk)
    | ((with_reducible apply TB.oneF 10); (· rfl); (· rfl); (· decide +kernel); (· rfl); intro hsk)
    | ((with_reducible apply TB.oneF 11); (· rfl); (· rfl); (· decide +kernel); (· rfl); intro hsk)
    | refine TQ.lastT (by decide +kernel) ?_ | refine TQ.anyT (by assumption) leF selF ?_
    | ((with_reducible apply TL.build_slice); (· rfl); (· rfl); (· exact oneA); (· rfl); (· rfl); (· rfl); intro _) | refine TL.build_one (by rfl) (by first | rfl | assumption) (by rfl) (by rfl) (by rfl) (by rfl) (fun _ => ?_) | refine TL.build_empty (by rfl) (fun _ => ?_)
    | ((with_reducible apply TL.append (e := 29)); (· rfl); (· rfl); (· rfl); (· rfl); (· exact pkA); (· first | exact Src.obj pkA | exact Src.sl (by assumption) | exact Src.row pkA); (· rfl); (· first | rfl | assumption); (· exact ⟨by unfold maxLen; omega, by omega⟩); (· rfl); intro vf; refine Go.TL.TL.row_slice (v := vf) pkA ?_; rintro a2 c2 rfl _)
    | ((with_reducible apply TL.append (e := 9)); (· rfl); (· rfl); (· rfl); (· rfl); (· exact pkA); (· first | exact Src.obj pkA | exact Src.sl (by assumption) | exact Src.row pkA); (· rfl); (· rfl); (· exact ⟨by unfold maxLen; omega, by omega⟩); (· rfl); intro vf; refine Go.TL.TL.row_slice (v := vf) pkA ?_; rintro a3 c3 rfl _)
    | refine stS ?_ | (refine stB ?_; intro _) | (refine stC ?_; refine And.intro (fun _ => ?_) (fun _ => ?_))
    | apply TC.region_draw (by kernel_rfl) (by kernel_rfl) | refine TW.nil ?_ | ((with_reducible apply TW.pure); (· exact yA); (· rfl)))
      refine TQ.round (i + 1, Value.slice a2 (i + 1) c2, Value.slice a3 (i + 1) c3, fl ++ [.int .i64 zk, .bool zb, .int .i64 zn, str zs, .slice zi zil zic, .slice zm zml zmc], gj) ?_ ?_ rfl subA (by dsimp only; rw [hstr]; exact selF)
      · refine ⟨by dsimp only; omega, hle.trans hgj, ?_, by simp [hlen]; omega⟩
        show IsVs gj ((xs.take (i + 1)).map ofJ) _
        rw [HLAST.out]
        exact (IsVs.le hgj _ _ HJ.out).snoc4 HZ.out
      · show xs.length - (i + 1) < xs.length - i
        omega
    · obtain rfl : i = xs.length := by omega
      rw [List.take_length] at hJ
      have htn : ns.take xs.length = ns := by rw [← hnx, List.take_length]
      rw [htn]
      clear hMs hSl hS IH htn
      repeat' (first
    | refine wkQ ?_
    | refine wkV ?_
    | ((with_reducible apply TL.pure); (· exact yM); (· rfl)) | ((with_reducible apply TW.pure); (· exact yM); (· rfl))
    | refine wkP ?_
    | refine TC.seq ?_ | refine TC.region ?_ | refine TL.nil ?_ | refine TQ.then_normal ?_
    | ((with_reducible apply TL.storeE); (· rfl); (· rfl); (· rfl); (· exact pkA); (· infer_instance)) | ((with_reducible apply TL.store_whole); (· rfl); (· rfl); (· exact oneA); (· rfl); (· exact pkA); (· rfl))
    | refine TC.block ?_ | refine TC.ret ?_ | refine TC.skip ?_ | refine TC.exit ?_ | refine TC.cond rfl ?_
    | refine TQ.down ?_ | refine TQ.in_exit' rfl ?_
    | refine TL.guard_yes rfl rfl ?_ | refine TL.guard_no rfl rfl rfl rfl ?_ | refine TL.guard_no0 rfl rfl rfl ?_ | refine TL.guard_undef rfl rfl rfl ?_ | refine TL.guard_undef0 rfl rfl ?_ | refine TL.guard rfl rfl rfl ?_
    | refine Br.t rfl ?_ | refine Br.f rfl ?_ | refine Br.ky kpA ?_ | refine Br.kn kpA ?_ | refine Br.nky kpA ?_ | refine Br.nkn kpA ?_
    | refine Br.eq0 (fun _ => ?_) (fun _ => ?_) | refine Br.neq0 (fun _ => ?_) (fun _ => ?_) | refine Br.eq (fun _ => ?_) (fun _ => ?_) | refine Br.neq (fun _ => ?_) (fun _ => ?_) | refine Br.not (fun _ => ?_) (fun _ => ?_) | refine Br.dec (fun _ => ?_) (fun _ => ?_) | refine Br.bool (fun _ => ?_) (fun _ => ?_)
    | ((with_reducible apply TL.alloc_ag); (· rfl); intro _) | ((with_reducible apply TL.alloc_sc); (· rfl); (· rfl); intro _) | ((with_reducible apply TL.box_ag); (· rfl); (· rfl); intro _) | ((with_reducible apply TL.box_sc); (· rfl); (· rfl); (· rfl); intro _))
      refine TQ.freeze (v := .slice ai xs.length ci) pkA ?_
      intro gf hgf hsl
      refine TQ.freeze (v := .slice an xs.length cn) pkA ?_
      intro gf2 hgf2 hsl2
      refine TQ.endR1 (L' := L) Tryz.results11 rvA rfl ((hle.trans hgf).trans hgf2) ?_ selF
      refine ⟨_, rfl, ⟨_, rfl, ?_⟩, rfl⟩
      rw [ofJ_obj, IsV]
      refine ⟨_, _, fl, rfl, by omega, by omega, by simp, by rw [List.length_map]; exact hsl.le hgf2, by rw [List.length_map]; omega, IsVs.le (hgf.trans hgf2) _ _ hJ, by rw [hnx]; exact hsl2, by omega, fun s hs => by have := hnl s hs; omega⟩
end Go.Proofs.YtfmadoeadmclbaaGreatDoor
