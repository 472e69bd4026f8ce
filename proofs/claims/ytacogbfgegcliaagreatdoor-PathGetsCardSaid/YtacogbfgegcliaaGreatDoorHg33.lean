/-
  The walk of layer 6's awake. The paths that are told: one part behind the other; how many they are.
-/
import Derived.Test.YtacogbfgegcliaaGreatDoorHg32
import Derived.Test.YtacogbfgegcliaaGreatDoorHg22
import Derived.Test.YtacogbfgegcliaaGreatDoorHg5
namespace Go.Proofs.YtacogbfgegcliaaGreatDoor
open Go.RowKit Go.TL
set_option maxRecDepth 100000

theorem aw1 : putE (.obj [] []) [97, 46, 98] (.num 1) = (0, some (.obj [[97]] [.obj [[98]] [.num 1]])) := by rfl
theorem aw2 : getP [97, 46, 98] (.obj [[97]] [.obj [[98]] [.num 1]]) = some (.num 1) := by rfl
theorem i49 : itemL [49] = some 1 := by
  have h := item_dec 1
  rw [show Lib.decDigits 1 = [49] from Lib.decDigits_one (by decide)] at h
  exact h
theorem aw3 : putE (.list []) [49] (.num 1) = (14, none) := by
  have h : putJ [[49]] (.list []) (.num 1) = none := by rw [putJ, i49]; rfl
  unfold putE
  rw [show stepsL [49] = some [[49]] from rfl]
  dsimp only
  rw [h, if_neg (by decide), if_neg (by decide)]
theorem aw4 : dropE (.list [.num 1, .num 2, .num 3]) [49] = (0, some (.list [.num 1, .num 3])) := by
  have h : dropJ [[49]] (.list [.num 1, .num 2, .num 3]) = some (.list [.num 1, .num 3]) := by rw [dropJ, i49]; rfl
  unfold dropE
  rw [show stepsL [49] = some [[49]] from rfl]
  dsimp only
  rw [h, if_neg (by decide)]
set_option maxHeartbeats 32000000 in
theorem awake06_gives {g : Gh} {L : List Ent} (hE : GErr g) (hT : GTabs g) (hU : GU8 g) : Gives Tryz.prog 35 #[] g L (.bool true) := by
  refine .of (Does.of0 Tryz.func35 rfl Tryz.ntmps35 rfl ?_)
  have P1 := fun b L => puts_does 128 (by decide) (by decide) [97, 46, 98] (.obj [] []) (.num 1) (.iface 85 (.slice (some ⟨b, 0, none⟩) 0 0)) (.iface 81 (.int .i64 1)) g L (by decide) (by rw [IsJ]; exact ⟨_, [], rfl, Sl.nil, by rw [IsMs]⟩) (by rw [IsJ]; exact ⟨rfl, by decide⟩) (by rw [szJ, szJs]; simp) (by rw [szJ]; trivial) hE hT hU
  unfold PutsR at P1
  rw [aw1] at P1
  have P3 := fun (g2 : Gh) (h : g.le g2) b L => puts_does 128 (by decide) (by decide) [49] (.list []) (.num 1) (.iface 83 (.slice (some ⟨b, 0, none⟩) 0 0)) (.iface 81 (.int .i64 1)) g2 L (by decide) (by rw [IsJ]; exact ⟨_, [], rfl, Sl.nil, by rw [IsJs]⟩) (by rw [IsJ]; exact ⟨rfl, by decide⟩) (by rw [szJ, szJs]; simp) (by rw [szJ]; trivial) (hE.le h) (hT.le h) (hU.le h)
  unfold PutsR at P3
  rw [aw3] at P3
  have GG := fun (g2 : Gh) (h : g.le g2) (v : Value) (hj : IsJ g2 (.obj [[97]] [.obj [[98]] [.num 1]]) v) L => get_does [97, 46, 98] _ v g2 L (by decide) hj (by simp [smJ, smJs]) (hE.le h) (hT.le h) (hU.le h)
  unfold GetR at GG
  rw [aw2] at GG
  have DD := fun (g2 : Gh) (h : g.le g2) (b : Nat) (hs : Sl g2 (.slice (some ⟨b, 0, none⟩) 3 3) 3 1 [.iface 81 (.int .i64 1), .iface 81 (.int .i64 2), .iface 81 (.int .i64 3)]) L => drops_does 128 (by decide) [49] (.list [.num 1, .num 2, .num 3]) (.iface 83 (.slice (some ⟨b, 0, none⟩) 3 3)) g2 L (by decide) (by rw [IsJ]; exact ⟨_, _, rfl, hs, by simp [IsJs, IsJ]⟩) (by simp [szJ, szJs]) (hE.le h) (hT.le h) (hU.le h)
  unfold PutsR at DD
  rw [aw4] at DD
  have S1 := fun (g2 : Gh) (h : g.le g2) L => Same_gives (.num 1) (.num 1) (.iface 81 (.int .i64 1)) (.iface 81 (.int .i64 1)) g2 L (by rw [IsJ]; exact ⟨rfl, by decide⟩) (by rw [IsJ]; exact ⟨rfl, by decide⟩) (by rw [smJ]; trivial) (by rw [smJ]; trivial) (hT.le h) (hU.le h)
  rw [show SameJ (.num 1) (.num 1) = true from rfl] at S1
  have S2 := fun (g2 : Gh) (h : g.le g2) (v : Value) (hj : IsJ g2 (.list [.num 1, .num 3]) v) (b : Nat) (hs : Sl g2 (.slice (some ⟨b, 0, none⟩) 2 2) 2 1 [.iface 81 (.int .i64 1), .iface 81 (.int .i64 3)]) L => Same_gives (.list [.num 1, .num 3]) (.list [.num 1, .num 3]) v (.iface 83 (.slice (some ⟨b, 0, none⟩) 2 2)) g2 L hj (by rw [IsJ]; exact ⟨_, _, rfl, hs, by simp [IsJs, IsJ]⟩) (by simp [smJ, smJs]) (by simp [smJ, smJs]) (hT.le h) (hU.le h)
  rw [show SameJ (.list [.num 1, .num 3]) (.list [.num 1, .num 3]) = true from rfl] at S2
  repeat' (first
    | ((with_reducible apply TL.build_slice (len := 3)); (· rfl); (· rfl); (· exact oneA); (· rfl); (· rfl); (· rfl); intro bb; refine TL.freeze_obj bb 1 (k := 3) pkA rfl (by decide) ?_; intro g4 h4 s4; (have h04 := h03.trans h4; have D1 := DD g4 h04 bb s4; clear DD s4))
    | ((with_reducible apply TL.build_slice (len := 2)); (· rfl); (· rfl); (· exact oneA); (· rfl); (· rfl); (· rfl); intro bb; refine TL.freeze_obj bb 1 (k := 2) pkA rfl (by decide) ?_; intro g6 h6 s6; (have h06 := h05.trans h6; have S2a := S2 g6 h06 v5 (IsJ.le h6 _ _ j5) bb s6; clear S2 s6 j5))
    | ((with_reducible apply TL.build_slice); (· rfl); (· rfl); (· exact oneA); (· rfl); (· rfl); (· rfl); intro _) | refine TL.build_one (by rfl) (by first | rfl | assumption) (by rfl) (by rfl) (by rfl) (by rfl) (fun _ => ?_) | refine TL.build_empty (by rfl) (fun _ => ?_)
    | ((with_reducible apply TL.pure); (· exact yV); (· rfl)) | ((with_reducible apply TW.pure); (· exact yV); (· rfl))
    | (refine TL.call (Enters.plain (by kernel_rfl) (by rfl)) (by rfl) (P1 _ _) ?_; (rintro e g1 Ln h1 ⟨v1, e1, k1, k2, o1, r1⟩; have k2 := k2.symm; subst k1; subst k2; (obtain ⟨rfl, j1, _⟩ := r1; have G1 := GG g1 h1 v1 j1; clear P1 GG j1); refine CallK.ret ?_))
    | (refine TL.call (Enters.plain (by kernel_rfl) (by rfl)) (by rfl) (G1 _) ?_; (rintro e g2 Ln h2 ⟨v2, e2, k1, k2, o2, r2⟩; have k2 := k2.symm; subst k1; subst k2; (obtain ⟨rfl, j2⟩ := r2; have h02 := h1.trans h2; rw [IsJ] at j2; obtain ⟨rfl, _⟩ := j2; have P3a := P3 g2 h02; clear P3 G1); refine CallK.ret ?_))
    | (refine TL.call (Enters.plain (by kernel_rfl) (by rfl)) (by rfl) (P3a _ _) ?_; (rintro e g3 Ln h3 ⟨v3, e3, k1, k2, o3, r3⟩; have k2 := k2.symm; subst k1; subst k2; (obtain ⟨rfl, _, rfl⟩ := r3; have h03 := h02.trans h3; clear P3a); refine CallK.ret ?_))
    | (refine TL.call (Enters.plain (by kernel_rfl) (by rfl)) (by rfl) (D1 _) ?_; (rintro e g5 Ln h5 ⟨v5, e5, k1, k2, o5, r5⟩; have k2 := k2.symm; subst k1; subst k2; (obtain ⟨rfl, j5, _⟩ := r5; have h05 := h04.trans h5; have S1a := S1 g5 h05; clear D1 S1); refine CallK.ret ?_))
    | ((with_reducible apply TL.gives_plain); (· kernel_rfl); (· rfl); (· exact S1a _); (· rfl)) | ((with_reducible apply TW.gives_plain); (· kernel_rfl); (· rfl); (· exact S1a _); (· rfl))
    | ((with_reducible apply TL.gives_plain); (· kernel_rfl); (· rfl); (· exact S2a _); (· rfl)) | ((with_reducible apply TW.gives_plain); (· kernel_rfl); (· rfl); (· exact S2a _); (· rfl))
    | ((with_reducible apply TL.pure); (· exact yA); (· rfl))
    | refine TC.seq ?_ | refine TC.region ?_ | refine TL.nil ?_ | refine TQ.then_normal ?_
    | ((with_reducible apply TL.storeE); (· rfl); (· rfl); (· rfl); (· exact pkA); (· infer_instance)) | ((with_reducible apply TL.store_whole); (· rfl); (· rfl); (· exact oneA); (· rfl); (· exact pkA); (· rfl))
    | refine TC.block ?_ | refine TC.ret ?_ | refine TC.skip ?_ | refine TC.exit ?_ | refine TC.cond rfl ?_
    | refine TQ.down ?_ | refine TQ.in_exit' rfl ?_
    | refine TL.guard_yes rfl rfl ?_ | refine TL.guard_no rfl rfl rfl rfl ?_ | refine TL.guard_no0 rfl rfl rfl ?_ | refine TL.guard_undef rfl rfl rfl ?_ | refine TL.guard_undef0 rfl rfl ?_ | refine TL.guard rfl rfl rfl ?_
    | refine Br.t rfl ?_ | refine Br.f rfl ?_ | refine Br.ky kpA ?_ | refine Br.kn kpA ?_ | refine Br.nky kpA ?_ | refine Br.nkn kpA ?_
    | refine Br.eq0 (fun _ => ?_) (fun _ => ?_) | refine Br.neq0 (fun _ => ?_) (fun _ => ?_) | refine Br.eq (fun _ => ?_) (fun _ => ?_) | refine Br.neq (fun _ => ?_) (fun _ => ?_) | refine Br.not (fun _ => ?_) (fun _ => ?_) | refine Br.dec (fun _ => ?_) (fun _ => ?_) | refine Br.bool (fun _ => ?_) (fun _ => ?_)
    | ((with_reducible apply TL.alloc_ag); (· rfl); intro _) | ((with_reducible apply TL.alloc_sc); (· rfl); (· rfl); intro _) | ((with_reducible apply TL.box_ag); (· rfl); (· rfl); intro _) | ((with_reducible apply TL.box_sc); (· rfl); (· rfl); (· rfl); intro _))
  refine TQ.less h06 ?_
  refine TQ.endR1 (L' := L) Tryz.results35 rvA rfl (.refl _) ?_ selA
  exact ⟨rfl, rfl, rfl⟩
end Go.Proofs.YtacogbfgegcliaaGreatDoor
namespace Go.Proofs.YtacogbfgegcliaaGreatDoor
open Go.RowKit Go.TL
set_option maxRecDepth 100000

def partA (ahead s : List UInt8) (x : J) : List (List UInt8) := if toldB (ahead ++ s) s = true then (ahead ++ s) :: allJ (ahead ++ s ++ [46]) x else []
theorem alls_at {ahead : List UInt8} {xs : List J} {i : Nat} {x : J} (h : xs[i]? = some x) : allJs ahead i (xs.drop i) = partA ahead (Lib.decDigits i) x ++ allJs ahead (i + 1) (xs.drop (i + 1)) := by
  obtain ⟨h1, h2⟩ := List.getElem?_eq_some_iff.1 h
  rw [List.drop_eq_getElem_cons h1, h2, allJs]; rfl
theorem allm_at {ahead : List UInt8} {ns : List (List UInt8)} {xs : List J} {i : Nat} {s : List UInt8} {x : J} (h : xs[i]? = some x) (hn : ns[i]? = some s) : allMs ahead (ns.drop i) (xs.drop i) = partA ahead s x ++ allMs ahead (ns.drop (i + 1)) (xs.drop (i + 1)) := by
  obtain ⟨h1, h2⟩ := List.getElem?_eq_some_iff.1 h
  obtain ⟨h3, h4⟩ := List.getElem?_eq_some_iff.1 hn
  rw [List.drop_eq_getElem_cons h1, h2, List.drop_eq_getElem_cons h3, h4, allMs, List.headD_cons, List.tail_cons]; rfl
mutual
theorem all_len : ∀ (x : J) (ahead : List UInt8), (allJ ahead x).length + 1 ≤ jsz x
  | .list xs, ahead => by rw [allJ, jsz]; have := alls_len xs ahead 0; omega
  | .obj ns xs, ahead => by rw [allJ, jsz]; have := allm_len xs ns ahead; omega
  | .null, _ => by rw [allJ, jsz]; simp
  | .bool _, _ => by rw [allJ, jsz]; simp
  | .num _, _ => by rw [allJ, jsz]; simp
  | .text _, _ => by rw [allJ, jsz]; simp
  | .other _, _ => by rw [allJ, jsz]; simp
theorem alls_len : ∀ (l : List J) (ahead : List UInt8) (i : Nat), (allJs ahead i l).length ≤ jszs l
  | [], _, _ => by rw [allJs]; simp
  | x :: r, ahead, i => by
    rw [allJs, jszs, List.length_append]
    have h1 := all_len x (ahead ++ Lib.decDigits i ++ [46])
    have h2 := alls_len r ahead (i + 1)
    split
    · rw [List.length_cons]; omega
    · rw [List.length_nil]; omega
theorem allm_len : ∀ (l : List J) (ns : List (List UInt8)) (ahead : List UInt8), (allMs ahead ns l).length ≤ jszs l
  | [], _, _ => by rw [allMs]; simp
  | x :: r, ns, ahead => by
    rw [allMs, jszs, List.length_append]
    have h1 := all_len x (ahead ++ ns.headD [] ++ [46])
    have h2 := allm_len r ns.tail ahead
    split
    · rw [List.length_cons]; omega
    · rw [List.length_nil]; omega
end
theorem part_len (ahead s : List UInt8) (x : J) : (partA ahead s x).length ≤ jsz x := by
  unfold partA
  have := all_len x (ahead ++ s ++ [46])
  split
  · rw [List.length_cons]; omega
  · rw [List.length_nil]; omega
theorem jszs_at {xs : List J} {i : Nat} {x : J} (h : xs[i]? = some x) : jszs (xs.drop i) = jsz x + jszs (xs.drop (i + 1)) := by
  obtain ⟨h1, h2⟩ := List.getElem?_eq_some_iff.1 h
  rw [List.drop_eq_getElem_cons h1, h2, jszs]
theorem itoa_nat (i : Nat) : Lib.itoa ((i : Nat) : Int) = Lib.decDigits i := by
  unfold Lib.itoa
  rw [if_neg (by omega), Int.toNat_natCast]
theorem strs_snoc (l : List (List UInt8)) (s : List UInt8) : strs (l ++ [s]) = strs l ++ [str s] := by unfold strs; rw [List.map_append]; rfl
theorem len_snoc (l : List (List UInt8)) (s : List UInt8) : (l ++ [s]).length = l.length + 1 := by simp
theorem szJs_at {m : Nat} : ∀ {l : List J} {i : Nat} {x : J}, szJs m l → l[i]? = some x → szJ m x
  | [], _, _, _, h => by simp at h
  | x :: r, 0, y, hs, h => by
    rw [szJs] at hs
    obtain rfl : x = y := by simpa using h
    exact hs.1
  | x :: r, i + 1, y, hs, h => by
    rw [szJs] at hs
    exact szJs_at (i := i) hs.2 (by simpa using h)
theorem part_no {ahead s : List UInt8} {x : J} (h : toldB (ahead ++ s) s = false) : partA ahead s x = [] := by unfold partA; rw [if_neg (by rw [h]; decide)]
theorem part_yes {ahead s : List UInt8} {x : J} (h : toldB (ahead ++ s) s = true) : partA ahead s x = (ahead ++ s) :: allJ (ahead ++ s ++ [46]) x := by unfold partA; rw [if_pos h]
theorem told_of {q s t : List UInt8} {l : List (List UInt8)} {k : Nat} (h : stepsL q = some l) (hk : l.length = k + 1) (ht : l[k]? = some t) : toldB q s = decide (t = s) := by
  unfold toldB
  rw [h]
  show (l.getLast? == some s) = decide (t = s)
  rw [List.getLast?_eq_getElem?, hk, Nat.add_sub_cancel, ht]
  rw [Bool.eq_iff_iff]; simp
mutual
theorem jsz_cnt : ∀ (x : DV) (l : Int), 0 ≤ cnt x l → (jsz (toJ x) : Int) + cnt x l ≤ l
  | .mk k b n s items names, l, h => by
    rw [cnt] at h ⊢
    split at h
    · omega
    rename_i hc
    rw [if_neg hc]
    split at h
    · rename_i hk
      rw [if_pos hk]
      have := jszs_cnts (decide (k = 5)) names items (l - 1) h
      have e : jsz (toJ (.mk k b n s items names)) = 1 + jszs (items.map toJ) := by
        rw [toJ_eq]
        rcases hk with rfl | rfl
        · rw [if_neg (by decide), if_neg (by decide), if_neg (by decide), if_neg (by decide), if_pos rfl, jsz]
        · rw [if_neg (by decide), if_neg (by decide), if_neg (by decide), if_neg (by decide), if_neg (by decide), if_pos rfl, jsz]
      rw [e]
      omega
    · rename_i hk
      rw [if_neg hk]
      have e : jsz (toJ (.mk k b n s items names)) = 1 := by
        rw [toJ_eq, if_neg (c := k = 4) (fun h => hk (.inl h)), if_neg (c := k = 5) (fun h => hk (.inr h))]
        repeat' split
        all_goals rw [jsz]
      rw [e]
      omega
theorem jszs_cnts (o : Bool) : ∀ (ns : List (List UInt8)) (l : List DV) (m : Int), 0 ≤ cnts o ns l m → (jszs (l.map toJ) : Int) + cnts o ns l m ≤ m
  | ns, [], m, h => by
    rw [cnts] at h ⊢
    rw [List.map_nil, jszs]; omega
  | ns, x :: r, m, h => by
    rw [cnts] at h ⊢
    split at h
    · omega
    rename_i hc
    rw [if_neg hc]
    split at h
    · omega
    rename_i hc2
    rw [if_neg hc2]
    have h1 := jsz_cnt x m (by omega)
    have h2 := jszs_cnts o ns.tail r (cnt x m) h
    rw [List.map_cons, jszs]
    omega
end
theorem jsz_light {x : DV} (h : lightB x = true) : jsz (toJ x) ≤ 300 := by
  have h0 : 0 ≤ cnt x 300 := of_decide_eq_true h
  have := jsz_cnt x 300 h0
  omega
end Go.Proofs.YtacogbfgegcliaaGreatDoor
