/-
  The walks of the document's Figures and Print of numbers.
-/
import Derived.Test.YtfmadoeadmclbaaGreatDoorHb2
import Derived.Test.YtfmadoeadmclbaaGreatDoorHb24
import Derived.Test.YtfmadoeadmclbaaGreatDoorHb43
import Derived.Test.YtfmadoeadmclbaaGreatDoorHb8
namespace Go.Proofs.YtfmadoeadmclbaaGreatDoor
open Go.RowKit Go.TL
set_option maxRecDepth 100000

instance (u : Nat) : IsNat (0 - -(u : Int)) u := ⟨by omega⟩
theorem fig_lit3 {d : Nat} (h : d < 10) : (([48, 49, 50, 51, 52, 53, 54, 55, 56, 57] : List UInt8).drop d).take 1 = [UInt8.ofNat (48 + d)] := by
  have : ∀ d : Fin 10, (([48, 49, 50, 51, 52, 53, 54, 55, 56, 57] : List UInt8).drop d).take 1 = [UInt8.ofNat (48 + d)] := by decide
  exact this ⟨d, h⟩
theorem dec_small3 {u : Nat} (h : u < 10) : Lib.decDigits u = [UInt8.ofNat (48 + u)] := by rw [Lib.decDigits, dif_pos h]
theorem dec_big3 {u : Nat} (h : ¬ u < 10) : Lib.decDigits u = Lib.decDigits (u / 10) ++ [UInt8.ofNat (48 + u % 10)] := by rw [Lib.decDigits, dif_neg h]
set_option maxHeartbeats 8000000 in
theorem rFigures_gives (u : Nat) (g : Gh) (L : List Ent) (hu : u ≤ 9223372036854775807) : Gives Tryz.prog 65 #[.int .i64 (u : Nat)] g L (str (Lib.decDigits u)) := by
  refine .of (Does.of1 Tryz.func65 rfl Tryz.ntmps65 rfl ?_)
  have hlen : (Lib.decDigits u).length ≤ 19 := dec_len (by omega) (by omega)
  repeat' (first
    | ((with_reducible apply TL.pure); (· exact yA); (· rfl))
    | ((with_reducible apply TL.byteK); (· rfl); (· rfl); (· exact natA); (· assumption); (· rfl); intro _) | ((with_reducible apply TL.byte); (· rfl); (· rfl); (· exact natA); (· exact omA); (· rfl); intro _ _ _)
    | refine TC.seq ?_ | refine TC.region ?_ | refine TL.nil ?_ | refine TQ.then_normal ?_
    | ((with_reducible apply TL.storeE); (· rfl); (· rfl); (· rfl); (· exact pkA); (· infer_instance)) | ((with_reducible apply TL.store_whole); (· rfl); (· rfl); (· first | rfl | exact oneA); (· rfl); (· exact pkA); (· rfl))
    | refine TC.block ?_ | refine TC.ret ?_ | refine TC.skip ?_ | refine TC.exit ?_
    | (refine TC.cond_not rfl (fun _ => ?_) (fun _ => ?_) <;> (try (exfalso; omega))) | (refine TC.cond_dec rfl (fun _ => ?_) (fun _ => ?_) <;> (try (exfalso; omega))) | ((with_reducible apply TC.cond_true); (· rfl)) | ((with_reducible apply TC.cond_false); (· rfl)) | refine TC.cond_bool rfl (fun _ => ?_) (fun _ => ?_)
    | refine TQ.then_ret ?_ | refine TQ.then_exit ?_ | refine TQ.then_panic ?_ | refine TQ.in_normal ?_ | refine TQ.in_ret ?_ | refine TQ.in_exit ?_ | refine TQ.in_exit' rfl ?_ | refine TQ.in_panic ?_
    | refine TQ.round_ret ?_ | refine TQ.round_exit ?_ | refine TQ.round_panic ?_ | refine TQ.cut_ret ?_ | refine TQ.cut_exit ?_ | refine TQ.cut_panic ?_
    | (refine TL.guard_ndec rfl rfl rfl (fun _ => ?_) (fun _ => ?_) <;> (try (exfalso; omega))) | (refine TL.guard_dec rfl rfl rfl (fun _ => ?_) (fun _ => ?_) <;> (try (exfalso; omega)))
    | ((with_reducible apply TL.guard_yes); (· rfl); (· rfl)) | ((with_reducible apply TL.guard_no); (· rfl); (· rfl); (· rfl); (· rfl)) | ((with_reducible apply TL.guard_no0); (· rfl); (· rfl); (· rfl)) | ((with_reducible apply TL.guard_undef); (· rfl); (· rfl); (· rfl)) | ((with_reducible apply TL.guard_undef0); (· rfl); (· rfl))
    | refine TL.guard_split rfl rfl rfl (fun _ => ?_) (fun _ => ?_)
    | ((with_reducible apply TL.alloc_ag); (· rfl); intro _) | ((with_reducible apply TL.alloc_sc); (· rfl); (· rfl); intro _) | ((with_reducible apply TL.box_ag); (· rfl); (· rfl); intro _) | ((with_reducible apply TL.box_sc); (· rfl); (· rfl); (· rfl); intro _)
    | ((with_reducible apply TL.range_str); (· rfl); (· rfl); intro _) | ((with_reducible apply TL.next_str); (· rfl); (· exact pkA); (· rfl); all_goals (intro _; (try (exfalso; omega))))
    | apply TC.region_draw (by kernel_rfl) (by kernel_rfl) | refine TW.nil ?_
    | ((with_reducible apply TW.pure); (· exact yA); (· rfl)) | ((with_reducible apply TW.byteK); (· rfl); (· rfl); (· exact natA); (· assumption); (· rfl); intro _) | ((with_reducible apply TW.byte); (· rfl); (· rfl); (· exact natA); (· exact omA); (· rfl); intro _ _ _)
    | (refine TW.guard_ndec rfl rfl rfl (fun _ => ?_) (fun _ => ?_) <;> (try (exfalso; omega))) | (refine TW.guard_dec rfl rfl rfl (fun _ => ?_) (fun _ => ?_) <;> (try (exfalso; omega)))
    | ((with_reducible apply TW.guard_yes); (· rfl); (· rfl)) | ((with_reducible apply TW.guard_no); (· rfl); (· rfl); (· rfl); (· rfl)) | ((with_reducible apply TW.guard_undef); (· rfl); (· rfl); (· rfl))
    | refine TW.guard_split rfl rfl rfl (fun _ => ?_) (fun _ => ?_))
  refine TC.loopK (fun x : Nat × List UInt8 => x.1 ≤ u ∧ Lib.decDigits u = Lib.decDigits x.1 ++ x.2) (fun x => x.1) (fun x S => (0, .int .i64 (x.1 : Nat)) :: (3, str x.2) :: S) [] (by repeat (first | apply Drop.nil | apply Drop.cons (by (repeat (first | apply Pick.here | apply Pick.there))))) (fun _ L => L) (u, []) ⟨Nat.le_refl _, by simp⟩ subA selA ?_
  rintro ⟨m, out⟩ ⟨hm, he⟩
  dsimp only at hm he ⊢
  have hl2 : (Lib.decDigits u).length = (Lib.decDigits m).length + out.length := by rw [he, List.length_append]
  have hm0 : 0 < (Lib.decDigits m).length := List.length_pos_iff.2 (dec_ne3 m)
  repeat' (first
    | ((with_reducible apply TL.pure); (· exact yA); (· rfl))
    | ((with_reducible apply TL.byteK); (· rfl); (· rfl); (· exact natA); (· assumption); (· rfl); intro _) | ((with_reducible apply TL.byte); (· rfl); (· rfl); (· exact natA); (· exact omA); (· rfl); intro _ _ _)
    | refine TC.seq ?_ | refine TC.region ?_ | refine TL.nil ?_ | refine TQ.then_normal ?_
    | ((with_reducible apply TL.storeE); (· rfl); (· rfl); (· rfl); (· exact pkA); (· infer_instance)) | ((with_reducible apply TL.store_whole); (· rfl); (· rfl); (· first | rfl | exact oneA); (· rfl); (· exact pkA); (· rfl))
    | refine TC.block ?_ | refine TC.ret ?_ | refine TC.skip ?_ | refine TC.exit ?_
    | (refine TC.cond_not rfl (fun _ => ?_) (fun _ => ?_) <;> (try (exfalso; omega))) | (refine TC.cond_dec rfl (fun _ => ?_) (fun _ => ?_) <;> (try (exfalso; omega))) | ((with_reducible apply TC.cond_true); (· rfl)) | ((with_reducible apply TC.cond_false); (· rfl)) | refine TC.cond_bool rfl (fun _ => ?_) (fun _ => ?_)
    | refine TQ.then_ret ?_ | refine TQ.then_exit ?_ | refine TQ.then_panic ?_ | refine TQ.in_normal ?_ | refine TQ.in_ret ?_ | refine TQ.in_exit ?_ | refine TQ.in_exit' rfl ?_ | refine TQ.in_panic ?_
    | refine TQ.round_ret ?_ | refine TQ.round_exit ?_ | refine TQ.round_panic ?_ | refine TQ.cut_ret ?_ | refine TQ.cut_exit ?_ | refine TQ.cut_panic ?_
    | (refine TL.guard_ndec rfl rfl rfl (fun _ => ?_) (fun _ => ?_) <;> (try (exfalso; omega))) | (refine TL.guard_dec rfl rfl rfl (fun _ => ?_) (fun _ => ?_) <;> (try (exfalso; omega)))
    | ((with_reducible apply TL.guard_yes); (· rfl); (· rfl)) | ((with_reducible apply TL.guard_no); (· rfl); (· rfl); (· rfl); (· rfl)) | ((with_reducible apply TL.guard_no0); (· rfl); (· rfl); (· rfl)) | ((with_reducible apply TL.guard_undef); (· rfl); (· rfl); (· rfl)) | ((with_reducible apply TL.guard_undef0); (· rfl); (· rfl))
    | refine TL.guard_split rfl rfl rfl (fun _ => ?_) (fun _ => ?_)
    | ((with_reducible apply TL.alloc_ag); (· rfl); intro _) | ((with_reducible apply TL.alloc_sc); (· rfl); (· rfl); intro _) | ((with_reducible apply TL.box_ag); (· rfl); (· rfl); intro _) | ((with_reducible apply TL.box_sc); (· rfl); (· rfl); (· rfl); intro _)
    | ((with_reducible apply TL.range_str); (· rfl); (· rfl); intro _) | ((with_reducible apply TL.next_str); (· rfl); (· exact pkA); (· rfl); all_goals (intro _; (try (exfalso; omega))))
    | apply TC.region_draw (by kernel_rfl) (by kernel_rfl) | refine TW.nil ?_
    | ((with_reducible apply TW.pure); (· exact yA); (· rfl)) | ((with_reducible apply TW.byteK); (· rfl); (· rfl); (· exact natA); (· assumption); (· rfl); intro _) | ((with_reducible apply TW.byte); (· rfl); (· rfl); (· exact natA); (· exact omA); (· rfl); intro _ _ _)
    | (refine TW.guard_ndec rfl rfl rfl (fun _ => ?_) (fun _ => ?_) <;> (try (exfalso; omega))) | (refine TW.guard_dec rfl rfl rfl (fun _ => ?_) (fun _ => ?_) <;> (try (exfalso; omega)))
    | ((with_reducible apply TW.guard_yes); (· rfl); (· rfl)) | ((with_reducible apply TW.guard_no); (· rfl); (· rfl); (· rfl); (· rfl)) | ((with_reducible apply TW.guard_undef); (· rfl); (· rfl); (· rfl))
    | refine TW.guard_split rfl rfl rfl (fun _ => ?_) (fun _ => ?_))
  · refine TQ.round (m / 10, (([48, 49, 50, 51, 52, 53, 54, 55, 56, 57] : List UInt8).drop (m % 10)).take 1 ++ out) ?_ ?_ rfl subA selA
    · refine ⟨by omega, ?_⟩
      rw [fig_lit3 (by omega), he, dec_big3 (by omega), List.append_assoc]
    · show m / 10 < m
      omega
  · refine TQ.endR1 (L' := L) Tryz.results65 rvA rfl (.refl _) ?_ selA
    refine ⟨?_, rfl, rfl⟩
    rw [fig_lit3 (by omega), he, dec_small3 (by omega)]
theorem dec_pad3 : ∀ (k r : Nat), 1 ≤ k → r < 10 ^ k → Lib.decDigits (10 ^ k + r) = 49 :: (List.replicate (k - (Lib.decDigits r).length) 48 ++ Lib.decDigits r)
  | 0, _, h, _ => by omega
  | 1, r, _, h => by
    have h : r < 10 := by simpa using h
    rw [dec_big3 (by omega), dec_small3 h, show (10 ^ 1 + r) / 10 = 1 by omega, show (10 ^ 1 + r) % 10 = r by omega, dec_small3 (by omega)]
    rfl
  | k + 2, r, _, h => by
    have h2 : r / 10 < 10 ^ (k + 1) := by rw [Nat.pow_succ] at h; omega
    have ih := dec_pad3 (k + 1) (r / 10) (by omega) h2
    have hp : 0 < 10 ^ (k + 1) := Nat.pow_pos (by omega)
    rw [dec_big3 (by rw [Nat.pow_succ]; omega), show (10 ^ (k + 2) + r) / 10 = 10 ^ (k + 1) + r / 10 by rw [Nat.pow_succ]; omega, show (10 ^ (k + 2) + r) % 10 = r % 10 by rw [Nat.pow_succ]; omega, ih]
    by_cases hr : r < 10
    · rw [dec_small3 (u := r) hr, show r / 10 = 0 by omega, dec_small3 (by omega), show r % 10 = r by omega]
      show 49 :: (List.replicate k 48 ++ [48] ++ [UInt8.ofNat (48 + r)]) = 49 :: (List.replicate (k + 1) 48 ++ [UInt8.ofNat (48 + r)])
      rw [List.replicate_succ']
    · rw [dec_big3 (u := r) hr, List.length_append, List.length_singleton, List.cons_append, List.append_assoc, show k + 2 - ((Lib.decDigits (r / 10)).length + 1) = k + 1 - (Lib.decDigits (r / 10)).length by omega]
theorem rest_drop3 {r : Nat} (h : r < 10000000) : trimR ((Lib.decDigits (r + 10000000)).drop 1) = restL r ∧ (Lib.decDigits (r + 10000000)).length = 8 := by
  have h1 := dec_pad3 7 r (by omega) (by omega)
  rw [show 10 ^ 7 + r = r + 10000000 by omega] at h1
  have h2 := dec_len (u := r) (k := 7) (by omega) (by omega)
  rw [h1]
  refine ⟨rfl, ?_⟩
  rw [List.length_cons, List.length_append, List.length_replicate]; omega
set_option maxHeartbeats 8000000 in
theorem rPrint_gives (n : Int) (g : Gh) (L : List Ent) (h0 : -9223372036854775808 ≤ n) (h1 : n ≤ 9223372036854775807) : Gives Tryz.prog 37 #[.int .i64 n] g L (.tuple #[str (printL n).1, .int .i64 (printL n).2]) := by
  refine .of (Does.of1 Tryz.func37 rfl Tryz.ntmps37 rfl ?_)
  have hheld := rHeld_gives n g L h0 h1
  cases hh : heldB n with
  | false =>
    rw [hh] at hheld
    repeat' (first
    | ((with_reducible apply TL.gives_plain); (· kernel_rfl); (· rfl); (· exact hheld); (· rfl)) | ((with_reducible apply TW.gives_plain); (· kernel_rfl); (· rfl); (· exact hheld); (· rfl))
    | ((with_reducible apply TL.pure); (· exact yA); (· rfl))
    | ((with_reducible apply TL.byteK); (· rfl); (· rfl); (· exact natA); (· assumption); (· rfl); intro _) | ((with_reducible apply TL.byte); (· rfl); (· rfl); (· exact natA); (· exact omA); (· rfl); intro _ _ _)
    | refine TC.seq ?_ | refine TC.region ?_ | refine TL.nil ?_ | refine TQ.then_normal ?_
    | ((with_reducible apply TL.storeE); (· rfl); (· rfl); (· rfl); (· exact pkA); (· infer_instance)) | ((with_reducible apply TL.store_whole); (· rfl); (· rfl); (· first | rfl | exact oneA); (· rfl); (· exact pkA); (· rfl))
    | refine TC.block ?_ | refine TC.ret ?_ | refine TC.skip ?_ | refine TC.exit ?_
    | (refine TC.cond_not rfl (fun _ => ?_) (fun _ => ?_) <;> (try (exfalso; omega))) | (refine TC.cond_dec rfl (fun _ => ?_) (fun _ => ?_) <;> (try (exfalso; omega))) | ((with_reducible apply TC.cond_true); (· rfl)) | ((with_reducible apply TC.cond_false); (· rfl)) | refine TC.cond_bool rfl (fun _ => ?_) (fun _ => ?_)
    | refine TQ.then_ret ?_ | refine TQ.then_exit ?_ | refine TQ.then_panic ?_ | refine TQ.in_normal ?_ | refine TQ.in_ret ?_ | refine TQ.in_exit ?_ | refine TQ.in_exit' rfl ?_ | refine TQ.in_panic ?_
    | refine TQ.round_ret ?_ | refine TQ.round_exit ?_ | refine TQ.round_panic ?_ | refine TQ.cut_ret ?_ | refine TQ.cut_exit ?_ | refine TQ.cut_panic ?_
    | (refine TL.guard_ndec rfl rfl rfl (fun _ => ?_) (fun _ => ?_) <;> (try (exfalso; omega))) | (refine TL.guard_dec rfl rfl rfl (fun _ => ?_) (fun _ => ?_) <;> (try (exfalso; omega)))
    | ((with_reducible apply TL.guard_yes); (· rfl); (· rfl)) | ((with_reducible apply TL.guard_no); (· rfl); (· rfl); (· rfl); (· rfl)) | ((with_reducible apply TL.guard_no0); (· rfl); (· rfl); (· rfl)) | ((with_reducible apply TL.guard_undef); (· rfl); (· rfl); (· rfl)) | ((with_reducible apply TL.guard_undef0); (· rfl); (· rfl))
    | refine TL.guard_split rfl rfl rfl (fun _ => ?_) (fun _ => ?_)
    | ((with_reducible apply TL.alloc_ag); (· rfl); intro _) | ((with_reducible apply TL.alloc_sc); (· rfl); (· rfl); intro _) | ((with_reducible apply TL.box_ag); (· rfl); (· rfl); intro _) | ((with_reducible apply TL.box_sc); (· rfl); (· rfl); (· rfl); intro _)
    | ((with_reducible apply TL.range_str); (· rfl); (· rfl); intro _) | ((with_reducible apply TL.next_str); (· rfl); (· exact pkA); (· rfl); all_goals (intro _; (try (exfalso; omega))))
    | apply TC.region_draw (by kernel_rfl) (by kernel_rfl) | refine TW.nil ?_
    | ((with_reducible apply TW.pure); (· exact yA); (· rfl)) | ((with_reducible apply TW.byteK); (· rfl); (· rfl); (· exact natA); (· assumption); (· rfl); intro _) | ((with_reducible apply TW.byte); (· rfl); (· rfl); (· exact natA); (· exact omA); (· rfl); intro _ _ _)
    | (refine TW.guard_ndec rfl rfl rfl (fun _ => ?_) (fun _ => ?_) <;> (try (exfalso; omega))) | (refine TW.guard_dec rfl rfl rfl (fun _ => ?_) (fun _ => ?_) <;> (try (exfalso; omega)))
    | ((with_reducible apply TW.guard_yes); (· rfl); (· rfl)) | ((with_reducible apply TW.guard_no); (· rfl); (· rfl); (· rfl); (· rfl)) | ((with_reducible apply TW.guard_undef); (· rfl); (· rfl); (· rfl))
    | refine TW.guard_split rfl rfl rfl (fun _ => ?_) (fun _ => ?_))
    refine TQ.endR2 (L' := L) Tryz.results37 rvA rvA rfl (.refl _) ?_ selA
    refine ⟨?_, rfl, rfl⟩
    rw [printL, if_pos]
    have := heldB_iff (n := n); rw [hh] at this; simp at this; omega
  | true =>
    rw [hh] at hheld
    obtain ⟨k0, k1⟩ := heldB_iff.1 hh
    have hp : printL n = ((if n < 0 then [45] else []) ++ (Lib.decDigits (n.natAbs / 10000000) ++ (if n.natAbs % 10000000 = 0 then [] else [46] ++ restL (n.natAbs % 10000000))), 0) := by rw [printL, if_neg (by omega)]
    repeat' (first
    | ((with_reducible apply TL.pure); (· exact yA); (· rfl))
    | ((with_reducible apply TL.byteK); (· rfl); (· rfl); (· exact natA); (· assumption); (· rfl); intro _) | ((with_reducible apply TL.byte); (· rfl); (· rfl); (· exact natA); (· exact omA); (· rfl); intro _ _ _)
    | refine TC.seq_region ?_ | refine TC.region ?_ | refine TL.nil ?_ | refine TQ.then_normal ?_
    | ((with_reducible apply TL.storeE); (· rfl); (· rfl); (· rfl); (· exact pkA); (· infer_instance)) | ((with_reducible apply TL.store_whole); (· rfl); (· rfl); (· first | rfl | exact oneA); (· rfl); (· exact pkA); (· rfl))
    | refine TC.block ?_ | refine TC.ret ?_ | refine TC.skip ?_ | refine TC.exit ?_
    | (refine TC.cond_not rfl (fun _ => ?_) (fun _ => ?_) <;> (try (exfalso; omega))) | (refine TC.cond_dec rfl (fun _ => ?_) (fun _ => ?_) <;> (try (exfalso; omega))) | ((with_reducible apply TC.cond_true); (· rfl)) | ((with_reducible apply TC.cond_false); (· rfl)) | refine TC.cond_bool rfl (fun _ => ?_) (fun _ => ?_)
    | refine TQ.then_ret ?_ | refine TQ.then_exit ?_ | refine TQ.then_panic ?_ | refine TQ.in_normal ?_ | refine TQ.in_ret ?_ | refine TQ.in_exit ?_ | refine TQ.in_exit' rfl ?_ | refine TQ.in_panic ?_
    | refine TQ.round_ret ?_ | refine TQ.round_exit ?_ | refine TQ.round_panic ?_ | refine TQ.cut_ret ?_ | refine TQ.cut_exit ?_ | refine TQ.cut_panic ?_
    | (refine TL.guard_ndec rfl rfl rfl (fun _ => ?_) (fun _ => ?_) <;> (try (exfalso; omega))) | (refine TL.guard_dec rfl rfl rfl (fun _ => ?_) (fun _ => ?_) <;> (try (exfalso; omega)))
    | ((with_reducible apply TL.guard_yes); (· rfl); (· rfl)) | ((with_reducible apply TL.guard_no); (· rfl); (· rfl); (· rfl); (· rfl)) | ((with_reducible apply TL.guard_no0); (· rfl); (· rfl); (· rfl)) | ((with_reducible apply TL.guard_undef); (· rfl); (· rfl); (· rfl)) | ((with_reducible apply TL.guard_undef0); (· rfl); (· rfl))
    | refine TL.guard_split rfl rfl rfl (fun _ => ?_) (fun _ => ?_)
    | ((with_reducible apply TL.alloc_ag); (· rfl); intro _) | ((with_reducible apply TL.alloc_sc); (· rfl); (· rfl); intro _) | ((with_reducible apply TL.box_ag); (· rfl); (· rfl); intro _) | ((with_reducible apply TL.box_sc); (· rfl); (· rfl); (· rfl); intro _)
    | ((with_reducible apply TL.range_str); (· rfl); (· rfl); intro _) | ((with_reducible apply TL.next_str); (· rfl); (· exact pkA); (· rfl); all_goals (intro _; (try (exfalso; omega))))
    | apply TC.region_draw (by kernel_rfl) (by kernel_rfl) | refine TW.nil ?_
    | ((with_reducible apply TW.pure); (· exact yA); (· rfl)) | ((with_reducible apply TW.byteK); (· rfl); (· rfl); (· exact natA); (· assumption); (· rfl); intro _) | ((with_reducible apply TW.byte); (· rfl); (· rfl); (· exact natA); (· exact omA); (· rfl); intro _ _ _)
    | (refine TW.guard_ndec rfl rfl rfl (fun _ => ?_) (fun _ => ?_) <;> (try (exfalso; omega))) | (refine TW.guard_dec rfl rfl rfl (fun _ => ?_) (fun _ => ?_) <;> (try (exfalso; omega)))
    | ((with_reducible apply TW.guard_yes); (· rfl); (· rfl)) | ((with_reducible apply TW.guard_no); (· rfl); (· rfl); (· rfl); (· rfl)) | ((with_reducible apply TW.guard_undef); (· rfl); (· rfl); (· rfl))
    | refine TW.guard_split rfl rfl rfl (fun _ => ?_) (fun _ => ?_))
    refine TC.seq ?_
    repeat' (first
    | ((with_reducible apply TL.gives_plain); (· kernel_rfl); (· rfl); (· exact hheld); (· rfl)) | ((with_reducible apply TW.gives_plain); (· kernel_rfl); (· rfl); (· exact hheld); (· rfl))
    | ((with_reducible apply TL.pure); (· exact yA); (· rfl))
    | ((with_reducible apply TL.byteK); (· rfl); (· rfl); (· exact natA); (· assumption); (· rfl); intro _) | ((with_reducible apply TL.byte); (· rfl); (· rfl); (· exact natA); (· exact omA); (· rfl); intro _ _ _)
    | refine TC.seq_region ?_ | refine TC.region ?_ | refine TL.nil ?_ | refine TQ.then_normal ?_
    | ((with_reducible apply TL.storeE); (· rfl); (· rfl); (· rfl); (· exact pkA); (· infer_instance)) | ((with_reducible apply TL.store_whole); (· rfl); (· rfl); (· first | rfl | exact oneA); (· rfl); (· exact pkA); (· rfl))
    | refine TC.block ?_ | refine TC.ret ?_ | refine TC.skip ?_ | refine TC.exit ?_
    | (refine TC.cond_not rfl (fun _ => ?_) (fun _ => ?_) <;> (try (exfalso; omega))) | (refine TC.cond_dec rfl (fun _ => ?_) (fun _ => ?_) <;> (try (exfalso; omega))) | ((with_reducible apply TC.cond_true); (· rfl)) | ((with_reducible apply TC.cond_false); (· rfl)) | refine TC.cond_bool rfl (fun _ => ?_) (fun _ => ?_)
    | refine TQ.then_ret ?_ | refine TQ.then_exit ?_ | refine TQ.then_panic ?_ | refine TQ.in_normal ?_ | refine TQ.in_ret ?_ | refine TQ.in_exit ?_ | refine TQ.in_exit' rfl ?_ | refine TQ.in_panic ?_
    | refine TQ.round_ret ?_ | refine TQ.round_exit ?_ | refine TQ.round_panic ?_ | refine TQ.cut_ret ?_ | refine TQ.cut_exit ?_ | refine TQ.cut_panic ?_
    | (refine TL.guard_ndec rfl rfl rfl (fun _ => ?_) (fun _ => ?_) <;> (try (exfalso; omega))) | (refine TL.guard_dec rfl rfl rfl (fun _ => ?_) (fun _ => ?_) <;> (try (exfalso; omega)))
    | ((with_reducible apply TL.guard_yes); (· rfl); (· rfl)) | ((with_reducible apply TL.guard_no); (· rfl); (· rfl); (· rfl); (· rfl)) | ((with_reducible apply TL.guard_no0); (· rfl); (· rfl); (· rfl)) | ((with_reducible apply TL.guard_undef); (· rfl); (· rfl); (· rfl)) | ((with_reducible apply TL.guard_undef0); (· rfl); (· rfl))
    | refine TL.guard_split rfl rfl rfl (fun _ => ?_) (fun _ => ?_)
    | ((with_reducible apply TL.alloc_ag); (· rfl); intro _) | ((with_reducible apply TL.alloc_sc); (· rfl); (· rfl); intro _) | ((with_reducible apply TL.box_ag); (· rfl); (· rfl); intro _) | ((with_reducible apply TL.box_sc); (· rfl); (· rfl); (· rfl); intro _)
    | ((with_reducible apply TL.range_str); (· rfl); (· rfl); intro _) | ((with_reducible apply TL.next_str); (· rfl); (· exact pkA); (· rfl); all_goals (intro _; (try (exfalso; omega))))
    | apply TC.region_draw (by kernel_rfl) (by kernel_rfl) | refine TW.nil ?_
    | ((with_reducible apply TW.pure); (· exact yA); (· rfl)) | ((with_reducible apply TW.byteK); (· rfl); (· rfl); (· exact natA); (· assumption); (· rfl); intro _) | ((with_reducible apply TW.byte); (· rfl); (· rfl); (· exact natA); (· exact omA); (· rfl); intro _ _ _)
    | (refine TW.guard_ndec rfl rfl rfl (fun _ => ?_) (fun _ => ?_) <;> (try (exfalso; omega))) | (refine TW.guard_dec rfl rfl rfl (fun _ => ?_) (fun _ => ?_) <;> (try (exfalso; omega)))
    | ((with_reducible apply TW.guard_yes); (· rfl); (· rfl)) | ((with_reducible apply TW.guard_no); (· rfl); (· rfl); (· rfl); (· rfl)) | ((with_reducible apply TW.guard_undef); (· rfl); (· rfl); (· rfl))
    | refine TW.guard_split rfl rfl rfl (fun _ => ?_) (fun _ => ?_))
    refine TC.cutK (fun x : List UInt8 × Int => x.1 = (if n < 0 then [45] else []) ∧ x.2 = (n.natAbs : Int)) (fun x _ => [(0, .int .i64 x.2), (4, str x.1)]) [] (by repeat (first | apply Drop.nil | apply Drop.cons (by (repeat (first | apply Pick.here | apply Pick.there))))) (fun _ L => L) ?_ (fun x hx => ?_)
    · repeat' (first
    | ((with_reducible apply TL.pure); (· exact yA); (· rfl))
    | ((with_reducible apply TL.byteK); (· rfl); (· rfl); (· exact natA); (· assumption); (· rfl); intro _) | ((with_reducible apply TL.byte); (· rfl); (· rfl); (· exact natA); (· exact omA); (· rfl); intro _ _ _)
    | refine TC.seq_region ?_ | refine TC.region ?_ | refine TL.nil ?_ | refine TQ.then_normal ?_
    | ((with_reducible apply TL.storeE); (· rfl); (· rfl); (· rfl); (· exact pkA); (· infer_instance)) | ((with_reducible apply TL.store_whole); (· rfl); (· rfl); (· first | rfl | exact oneA); (· rfl); (· exact pkA); (· rfl))
    | refine TC.block ?_ | refine TC.ret ?_ | refine TC.skip ?_ | refine TC.exit ?_
    | (refine TC.cond_not rfl (fun _ => ?_) (fun _ => ?_) <;> (try (exfalso; omega))) | (refine TC.cond_dec rfl (fun _ => ?_) (fun _ => ?_) <;> (try (exfalso; omega))) | ((with_reducible apply TC.cond_true); (· rfl)) | ((with_reducible apply TC.cond_false); (· rfl)) | refine TC.cond_bool rfl (fun _ => ?_) (fun _ => ?_)
    | refine TQ.then_ret ?_ | refine TQ.then_exit ?_ | refine TQ.then_panic ?_ | refine TQ.in_normal ?_ | refine TQ.in_ret ?_ | refine TQ.in_exit ?_ | refine TQ.in_exit' rfl ?_ | refine TQ.in_panic ?_
    | refine TQ.round_ret ?_ | refine TQ.round_exit ?_ | refine TQ.round_panic ?_ | refine TQ.cut_ret ?_ | refine TQ.cut_exit ?_ | refine TQ.cut_panic ?_
    | (refine TL.guard_ndec rfl rfl rfl (fun _ => ?_) (fun _ => ?_) <;> (try (exfalso; omega))) | (refine TL.guard_dec rfl rfl rfl (fun _ => ?_) (fun _ => ?_) <;> (try (exfalso; omega)))
    | ((with_reducible apply TL.guard_yes); (· rfl); (· rfl)) | ((with_reducible apply TL.guard_no); (· rfl); (· rfl); (· rfl); (· rfl)) | ((with_reducible apply TL.guard_no0); (· rfl); (· rfl); (· rfl)) | ((with_reducible apply TL.guard_undef); (· rfl); (· rfl); (· rfl)) | ((with_reducible apply TL.guard_undef0); (· rfl); (· rfl))
    | refine TL.guard_split rfl rfl rfl (fun _ => ?_) (fun _ => ?_)
    | ((with_reducible apply TL.alloc_ag); (· rfl); intro _) | ((with_reducible apply TL.alloc_sc); (· rfl); (· rfl); intro _) | ((with_reducible apply TL.box_ag); (· rfl); (· rfl); intro _) | ((with_reducible apply TL.box_sc); (· rfl); (· rfl); (· rfl); intro _)
    | ((with_reducible apply TL.range_str); (· rfl); (· rfl); intro _) | ((with_reducible apply TL.next_str); (· rfl); (· exact pkA); (· rfl); all_goals (intro _; (try (exfalso; omega))))
    | apply TC.region_draw (by kernel_rfl) (by kernel_rfl) | refine TW.nil ?_
    | ((with_reducible apply TW.pure); (· exact yA); (· rfl)) | ((with_reducible apply TW.byteK); (· rfl); (· rfl); (· exact natA); (· assumption); (· rfl); intro _) | ((with_reducible apply TW.byte); (· rfl); (· rfl); (· exact natA); (· exact omA); (· rfl); intro _ _ _)
    | (refine TW.guard_ndec rfl rfl rfl (fun _ => ?_) (fun _ => ?_) <;> (try (exfalso; omega))) | (refine TW.guard_dec rfl rfl rfl (fun _ => ?_) (fun _ => ?_) <;> (try (exfalso; omega)))
    | ((with_reducible apply TW.guard_yes); (· rfl); (· rfl)) | ((with_reducible apply TW.guard_no); (· rfl); (· rfl); (· rfl); (· rfl)) | ((with_reducible apply TW.guard_undef); (· rfl); (· rfl); (· rfl))
    | refine TW.guard_split rfl rfl rfl (fun _ => ?_) (fun _ => ?_))
      · rename_i hn
        refine TQ.cut ([45], 0 - n) ?_ rfl subA selA
        exact ⟨by rw [if_pos hn], by show 0 - n = _; omega⟩
      · rename_i hn
        refine TQ.cut ([], n) ?_ rfl subA selA
        exact ⟨by rw [if_neg hn], by show n = _; omega⟩
    obtain ⟨sg, m⟩ := x
    obtain ⟨e1, e2⟩ := hx
    dsimp only at e1 e2 ⊢
    subst e2
    have hsg : sg.length ≤ 1 := by rw [e1]; split <;> simp
    rw [← e1] at hp
    obtain ⟨u, hu⟩ : ∃ u, n.natAbs = u := ⟨_, rfl⟩
    rw [hu] at hp ⊢
    have hu1 : u ≤ 9000000000000000000 := by omega
    have hl1 : (Lib.decDigits (u / 10000000)).length ≤ 19 := dec_len (by omega) (by omega)
    clear hu e1 hh k0 k1
    have hr := rest_drop3 (r := u % 10000000) (by omega)
    have hrl := hr.2
    repeat' (first
    | ((with_reducible apply TL.gives_plain); (· kernel_rfl); (· rfl); (· exact rFigures_gives (u / 10000000) _ _ (by omega)); (· rfl)) | ((with_reducible apply TW.gives_plain); (· kernel_rfl); (· rfl); (· exact rFigures_gives (u / 10000000) _ _ (by omega)); (· rfl))
    | ((with_reducible apply TL.pure); (· exact yA); (· rfl))
    | ((with_reducible apply TL.byteK); (· rfl); (· rfl); (· exact natA); (· assumption); (· rfl); intro _) | ((with_reducible apply TL.byte); (· rfl); (· rfl); (· exact natA); (· exact omA); (· rfl); intro _ _ _)
    | refine TC.seq_region ?_ | refine TC.region ?_ | refine TL.nil ?_ | refine TQ.then_normal ?_
    | ((with_reducible apply TL.storeE); (· rfl); (· rfl); (· rfl); (· exact pkA); (· infer_instance)) | ((with_reducible apply TL.store_whole); (· rfl); (· rfl); (· first | rfl | exact oneA); (· rfl); (· exact pkA); (· rfl))
    | refine TC.block ?_ | refine TC.ret ?_ | refine TC.skip ?_ | refine TC.exit ?_
    | (refine TC.cond_not rfl (fun _ => ?_) (fun _ => ?_) <;> (try (exfalso; omega))) | (refine TC.cond_dec rfl (fun _ => ?_) (fun _ => ?_) <;> (try (exfalso; omega))) | ((with_reducible apply TC.cond_true); (· rfl)) | ((with_reducible apply TC.cond_false); (· rfl)) | refine TC.cond_bool rfl (fun _ => ?_) (fun _ => ?_)
    | refine TQ.then_ret ?_ | refine TQ.then_exit ?_ | refine TQ.then_panic ?_ | refine TQ.in_normal ?_ | refine TQ.in_ret ?_ | refine TQ.in_exit ?_ | refine TQ.in_exit' rfl ?_ | refine TQ.in_panic ?_
    | refine TQ.round_ret ?_ | refine TQ.round_exit ?_ | refine TQ.round_panic ?_ | refine TQ.cut_ret ?_ | refine TQ.cut_exit ?_ | refine TQ.cut_panic ?_
    | (refine TL.guard_ndec rfl rfl rfl (fun _ => ?_) (fun _ => ?_) <;> (try (exfalso; omega))) | (refine TL.guard_dec rfl rfl rfl (fun _ => ?_) (fun _ => ?_) <;> (try (exfalso; omega)))
    | ((with_reducible apply TL.guard_yes); (· rfl); (· rfl)) | ((with_reducible apply TL.guard_no); (· rfl); (· rfl); (· rfl); (· rfl)) | ((with_reducible apply TL.guard_no0); (· rfl); (· rfl); (· rfl)) | ((with_reducible apply TL.guard_undef); (· rfl); (· rfl); (· rfl)) | ((with_reducible apply TL.guard_undef0); (· rfl); (· rfl))
    | refine TL.guard_split rfl rfl rfl (fun _ => ?_) (fun _ => ?_)
    | ((with_reducible apply TL.alloc_ag); (· rfl); intro _) | ((with_reducible apply TL.alloc_sc); (· rfl); (· rfl); intro _) | ((with_reducible apply TL.box_ag); (· rfl); (· rfl); intro _) | ((with_reducible apply TL.box_sc); (· rfl); (· rfl); (· rfl); intro _)
    | ((with_reducible apply TL.range_str); (· rfl); (· rfl); intro _) | ((with_reducible apply TL.next_str); (· rfl); (· exact pkA); (· rfl); all_goals (intro _; (try (exfalso; omega))))
    | apply TC.region_draw (by kernel_rfl) (by kernel_rfl) | refine TW.nil ?_
    | ((with_reducible apply TW.pure); (· exact yA); (· rfl)) | ((with_reducible apply TW.byteK); (· rfl); (· rfl); (· exact natA); (· assumption); (· rfl); intro _) | ((with_reducible apply TW.byte); (· rfl); (· rfl); (· exact natA); (· exact omA); (· rfl); intro _ _ _)
    | (refine TW.guard_ndec rfl rfl rfl (fun _ => ?_) (fun _ => ?_) <;> (try (exfalso; omega))) | (refine TW.guard_dec rfl rfl rfl (fun _ => ?_) (fun _ => ?_) <;> (try (exfalso; omega)))
    | ((with_reducible apply TW.guard_yes); (· rfl); (· rfl)) | ((with_reducible apply TW.guard_no); (· rfl); (· rfl); (· rfl); (· rfl)) | ((with_reducible apply TW.guard_undef); (· rfl); (· rfl); (· rfl))
    | refine TW.guard_split rfl rfl rfl (fun _ => ?_) (fun _ => ?_))
    refine TC.seq ?_
    repeat' (first
    | ((with_reducible apply TL.pure); (· exact yA); (· rfl))
    | ((with_reducible apply TL.byteK); (· rfl); (· rfl); (· exact natA); (· assumption); (· rfl); intro _) | ((with_reducible apply TL.byte); (· rfl); (· rfl); (· exact natA); (· exact omA); (· rfl); intro _ _ _)
    | refine TC.seq_region ?_ | refine TC.region ?_ | refine TL.nil ?_ | refine TQ.then_normal ?_
    | ((with_reducible apply TL.storeE); (· rfl); (· rfl); (· rfl); (· exact pkA); (· infer_instance)) | ((with_reducible apply TL.store_whole); (· rfl); (· rfl); (· first | rfl | exact oneA); (· rfl); (· exact pkA); (· rfl))
    | refine TC.block ?_ | refine TC.ret ?_ | refine TC.skip ?_ | refine TC.exit ?_
    | (refine TC.cond_not rfl (fun _ => ?_) (fun _ => ?_) <;> (try (exfalso; omega))) | (refine TC.cond_dec rfl (fun _ => ?_) (fun _ => ?_) <;> (try (exfalso; omega))) | ((with_reducible apply TC.cond_true); (· rfl)) | ((with_reducible apply TC.cond_false); (· rfl)) | refine TC.cond_bool rfl (fun _ => ?_) (fun _ => ?_)
    | refine TQ.then_ret ?_ | refine TQ.then_exit ?_ | refine TQ.then_panic ?_ | refine TQ.in_normal ?_ | refine TQ.in_ret ?_ | refine TQ.in_exit ?_ | refine TQ.in_exit' rfl ?_ | refine TQ.in_panic ?_
    | refine TQ.round_ret ?_ | refine TQ.round_exit ?_ | refine TQ.round_panic ?_ | refine TQ.cut_ret ?_ | refine TQ.cut_exit ?_ | refine TQ.cut_panic ?_
    | (refine TL.guard_ndec rfl rfl rfl (fun _ => ?_) (fun _ => ?_) <;> (try (exfalso; omega))) | (refine TL.guard_dec rfl rfl rfl (fun _ => ?_) (fun _ => ?_) <;> (try (exfalso; omega)))
    | ((with_reducible apply TL.guard_yes); (· rfl); (· rfl)) | ((with_reducible apply TL.guard_no); (· rfl); (· rfl); (· rfl); (· rfl)) | ((with_reducible apply TL.guard_no0); (· rfl); (· rfl); (· rfl)) | ((with_reducible apply TL.guard_undef); (· rfl); (· rfl); (· rfl)) | ((with_reducible apply TL.guard_undef0); (· rfl); (· rfl))
    | refine TL.guard_split rfl rfl rfl (fun _ => ?_) (fun _ => ?_)
    | ((with_reducible apply TL.alloc_ag); (· rfl); intro _) | ((with_reducible apply TL.alloc_sc); (· rfl); (· rfl); intro _) | ((with_reducible apply TL.box_ag); (· rfl); (· rfl); intro _) | ((with_reducible apply TL.box_sc); (· rfl); (· rfl); (· rfl); intro _)
    | ((with_reducible apply TL.range_str); (· rfl); (· rfl); intro _) | ((with_reducible apply TL.next_str); (· rfl); (· exact pkA); (· rfl); all_goals (intro _; (try (exfalso; omega))))
    | apply TC.region_draw (by kernel_rfl) (by kernel_rfl) | refine TW.nil ?_
    | ((with_reducible apply TW.pure); (· exact yA); (· rfl)) | ((with_reducible apply TW.byteK); (· rfl); (· rfl); (· exact natA); (· assumption); (· rfl); intro _) | ((with_reducible apply TW.byte); (· rfl); (· rfl); (· exact natA); (· exact omA); (· rfl); intro _ _ _)
    | (refine TW.guard_ndec rfl rfl rfl (fun _ => ?_) (fun _ => ?_) <;> (try (exfalso; omega))) | (refine TW.guard_dec rfl rfl rfl (fun _ => ?_) (fun _ => ?_) <;> (try (exfalso; omega)))
    | ((with_reducible apply TW.guard_yes); (· rfl); (· rfl)) | ((with_reducible apply TW.guard_no); (· rfl); (· rfl); (· rfl); (· rfl)) | ((with_reducible apply TW.guard_undef); (· rfl); (· rfl); (· rfl))
    | refine TW.guard_split rfl rfl rfl (fun _ => ?_) (fun _ => ?_))
    · rename_i hz
      refine TQ.endR2 (L' := L) Tryz.results37 rvA rvA rfl (.refl _) ?_ selA
      refine ⟨?_, rfl, rfl⟩
      rw [hp, if_pos (by omega), List.append_nil]
    rename_i hz
    have hne := rest_ne (r := u % 10000000) (by omega) (by omega)
    rw [if_neg (by omega)] at hp
    repeat' (first
    | ((with_reducible apply TL.gives_plain); (· kernel_rfl); (· rfl); (· exact rFigures_gives (u % 10000000 + 10000000) _ _ (by omega)); (· rfl)) | ((with_reducible apply TW.gives_plain); (· kernel_rfl); (· rfl); (· exact rFigures_gives (u % 10000000 + 10000000) _ _ (by omega)); (· rfl))
    | ((with_reducible apply TL.pure); (· exact yA); (· rfl))
    | ((with_reducible apply TL.byteK); (· rfl); (· rfl); (· exact natA); (· assumption); (· rfl); intro _) | ((with_reducible apply TL.byte); (· rfl); (· rfl); (· exact natA); (· exact omA); (· rfl); intro _ _ _)
    | refine TC.seq_region ?_ | refine TC.region ?_ | refine TL.nil ?_ | refine TQ.then_normal ?_
    | ((with_reducible apply TL.storeE); (· rfl); (· rfl); (· rfl); (· exact pkA); (· infer_instance)) | ((with_reducible apply TL.store_whole); (· rfl); (· rfl); (· first | rfl | exact oneA); (· rfl); (· exact pkA); (· rfl))
    | refine TC.block ?_ | refine TC.ret ?_ | refine TC.skip ?_ | refine TC.exit ?_
    | (refine TC.cond_not rfl (fun _ => ?_) (fun _ => ?_) <;> (try (exfalso; omega))) | (refine TC.cond_dec rfl (fun _ => ?_) (fun _ => ?_) <;> (try (exfalso; omega))) | ((with_reducible apply TC.cond_true); (· rfl)) | ((with_reducible apply TC.cond_false); (· rfl)) | refine TC.cond_bool rfl (fun _ => ?_) (fun _ => ?_)
    | refine TQ.then_ret ?_ | refine TQ.then_exit ?_ | refine TQ.then_panic ?_ | refine TQ.in_normal ?_ | refine TQ.in_ret ?_ | refine TQ.in_exit ?_ | refine TQ.in_exit' rfl ?_ | refine TQ.in_panic ?_
    | refine TQ.round_ret ?_ | refine TQ.round_exit ?_ | refine TQ.round_panic ?_ | refine TQ.cut_ret ?_ | refine TQ.cut_exit ?_ | refine TQ.cut_panic ?_
    | (refine TL.guard_ndec rfl rfl rfl (fun _ => ?_) (fun _ => ?_) <;> (try (exfalso; omega))) | (refine TL.guard_dec rfl rfl rfl (fun _ => ?_) (fun _ => ?_) <;> (try (exfalso; omega)))
    | ((with_reducible apply TL.guard_yes); (· rfl); (· rfl)) | ((with_reducible apply TL.guard_no); (· rfl); (· rfl); (· rfl); (· rfl)) | ((with_reducible apply TL.guard_no0); (· rfl); (· rfl); (· rfl)) | ((with_reducible apply TL.guard_undef); (· rfl); (· rfl); (· rfl)) | ((with_reducible apply TL.guard_undef0); (· rfl); (· rfl))
    | refine TL.guard_split rfl rfl rfl (fun _ => ?_) (fun _ => ?_)
    | ((with_reducible apply TL.alloc_ag); (· rfl); intro _) | ((with_reducible apply TL.alloc_sc); (· rfl); (· rfl); intro _) | ((with_reducible apply TL.box_ag); (· rfl); (· rfl); intro _) | ((with_reducible apply TL.box_sc); (· rfl); (· rfl); (· rfl); intro _)
    | ((with_reducible apply TL.range_str); (· rfl); (· rfl); intro _) | ((with_reducible apply TL.next_str); (· rfl); (· exact pkA); (· rfl); all_goals (intro _; (try (exfalso; omega))))
    | apply TC.region_draw (by kernel_rfl) (by kernel_rfl) | refine TW.nil ?_
    | ((with_reducible apply TW.pure); (· exact yA); (· rfl)) | ((with_reducible apply TW.byteK); (· rfl); (· rfl); (· exact natA); (· assumption); (· rfl); intro _) | ((with_reducible apply TW.byte); (· rfl); (· rfl); (· exact natA); (· exact omA); (· rfl); intro _ _ _)
    | (refine TW.guard_ndec rfl rfl rfl (fun _ => ?_) (fun _ => ?_) <;> (try (exfalso; omega))) | (refine TW.guard_dec rfl rfl rfl (fun _ => ?_) (fun _ => ?_) <;> (try (exfalso; omega)))
    | ((with_reducible apply TW.guard_yes); (· rfl); (· rfl)) | ((with_reducible apply TW.guard_no); (· rfl); (· rfl); (· rfl); (· rfl)) | ((with_reducible apply TW.guard_undef); (· rfl); (· rfl); (· rfl))
    | refine TW.guard_split rfl rfl rfl (fun _ => ?_) (fun _ => ?_))
    refine TC.seq ?_
    repeat' (first
    | ((with_reducible apply TL.pure); (· exact yA); (· rfl))
    | ((with_reducible apply TL.byteK); (· rfl); (· rfl); (· exact natA); (· assumption); (· rfl); intro _) | ((with_reducible apply TL.byte); (· rfl); (· rfl); (· exact natA); (· exact omA); (· rfl); intro _ _ _)
    | refine TC.seq_region ?_ | refine TC.region ?_ | refine TL.nil ?_ | refine TQ.then_normal ?_
    | ((with_reducible apply TL.storeE); (· rfl); (· rfl); (· rfl); (· exact pkA); (· infer_instance)) | ((with_reducible apply TL.store_whole); (· rfl); (· rfl); (· first | rfl | exact oneA); (· rfl); (· exact pkA); (· rfl))
    | refine TC.block ?_ | refine TC.ret ?_ | refine TC.skip ?_ | refine TC.exit ?_
    | (refine TC.cond_not rfl (fun _ => ?_) (fun _ => ?_) <;> (try (exfalso; omega))) | (refine TC.cond_dec rfl (fun _ => ?_) (fun _ => ?_) <;> (try (exfalso; omega))) | ((with_reducible apply TC.cond_true); (· rfl)) | ((with_reducible apply TC.cond_false); (· rfl)) | refine TC.cond_bool rfl (fun _ => ?_) (fun _ => ?_)
    | refine TQ.then_ret ?_ | refine TQ.then_exit ?_ | refine TQ.then_panic ?_ | refine TQ.in_normal ?_ | refine TQ.in_ret ?_ | refine TQ.in_exit ?_ | refine TQ.in_exit' rfl ?_ | refine TQ.in_panic ?_
    | refine TQ.round_ret ?_ | refine TQ.round_exit ?_ | refine TQ.round_panic ?_ | refine TQ.cut_ret ?_ | refine TQ.cut_exit ?_ | refine TQ.cut_panic ?_
    | (refine TL.guard_ndec rfl rfl rfl (fun _ => ?_) (fun _ => ?_) <;> (try (exfalso; omega))) | (refine TL.guard_dec rfl rfl rfl (fun _ => ?_) (fun _ => ?_) <;> (try (exfalso; omega)))
    | ((with_reducible apply TL.guard_yes); (· rfl); (· rfl)) | ((with_reducible apply TL.guard_no); (· rfl); (· rfl); (· rfl); (· rfl)) | ((with_reducible apply TL.guard_no0); (· rfl); (· rfl); (· rfl)) | ((with_reducible apply TL.guard_undef); (· rfl); (· rfl); (· rfl)) | ((with_reducible apply TL.guard_undef0); (· rfl); (· rfl))
    | refine TL.guard_split rfl rfl rfl (fun _ => ?_) (fun _ => ?_)
    | ((with_reducible apply TL.alloc_ag); (· rfl); intro _) | ((with_reducible apply TL.alloc_sc); (· rfl); (· rfl); intro _) | ((with_reducible apply TL.box_ag); (· rfl); (· rfl); intro _) | ((with_reducible apply TL.box_sc); (· rfl); (· rfl); (· rfl); intro _)
    | ((with_reducible apply TL.range_str); (· rfl); (· rfl); intro _) | ((with_reducible apply TL.next_str); (· rfl); (· exact pkA); (· rfl); all_goals (intro _; (try (exfalso; omega))))
    | apply TC.region_draw (by kernel_rfl) (by kernel_rfl) | refine TW.nil ?_
    | ((with_reducible apply TW.pure); (· exact yA); (· rfl)) | ((with_reducible apply TW.byteK); (· rfl); (· rfl); (· exact natA); (· assumption); (· rfl); intro _) | ((with_reducible apply TW.byte); (· rfl); (· rfl); (· exact natA); (· exact omA); (· rfl); intro _ _ _)
    | (refine TW.guard_ndec rfl rfl rfl (fun _ => ?_) (fun _ => ?_) <;> (try (exfalso; omega))) | (refine TW.guard_dec rfl rfl rfl (fun _ => ?_) (fun _ => ?_) <;> (try (exfalso; omega)))
    | ((with_reducible apply TW.guard_yes); (· rfl); (· rfl)) | ((with_reducible apply TW.guard_no); (· rfl); (· rfl); (· rfl); (· rfl)) | ((with_reducible apply TW.guard_undef); (· rfl); (· rfl); (· rfl))
    | refine TW.guard_split rfl rfl rfl (fun _ => ?_) (fun _ => ?_))
    refine TC.loopK (fun x : List UInt8 => trimR x = restL (u % 10000000) ∧ x.length ≤ 7) (fun x => x.length) (fun x _ => [(7, str x), (5, str (sg ++ Lib.decDigits (u / 10000000)))]) [] (by repeat (first | apply Drop.nil | apply Drop.cons (by (repeat (first | apply Pick.here | apply Pick.there))))) (fun _ L => L) _ ⟨hr.1, by rw [List.length_drop]; omega⟩ subA selA ?_
    rintro x ⟨hx, hx7⟩
    have hx0 : 0 < x.length := List.length_pos_iff.2 (fun e => by rw [e] at hx; exact hne hx.symm)
    repeat' (first
    | ((with_reducible apply TL.pure); (· exact yA); (· rfl))
    | ((with_reducible apply TL.byteK); (· rfl); (· rfl); (· exact natA); (· assumption); (· rfl); intro _) | ((with_reducible apply TL.byte); (· rfl); (· rfl); (· exact natA); (· exact omA); (· rfl); intro _ _ _)
    | refine TC.seq ?_ | refine TC.region ?_ | refine TL.nil ?_ | refine TQ.then_normal ?_
    | ((with_reducible apply TL.storeE); (· rfl); (· rfl); (· rfl); (· exact pkA); (· infer_instance)) | ((with_reducible apply TL.store_whole); (· rfl); (· rfl); (· first | rfl | exact oneA); (· rfl); (· exact pkA); (· rfl))
    | refine TC.block ?_ | refine TC.ret ?_ | refine TC.skip ?_ | refine TC.exit ?_
    | (refine TC.cond_not rfl (fun _ => ?_) (fun _ => ?_) <;> (try (exfalso; omega))) | (refine TC.cond_dec rfl (fun _ => ?_) (fun _ => ?_) <;> (try (exfalso; omega))) | ((with_reducible apply TC.cond_true); (· rfl)) | ((with_reducible apply TC.cond_false); (· rfl)) | refine TC.cond_bool rfl (fun _ => ?_) (fun _ => ?_)
    | refine TQ.then_ret ?_ | refine TQ.then_exit ?_ | refine TQ.then_panic ?_ | refine TQ.in_normal ?_ | refine TQ.in_ret ?_ | refine TQ.in_exit ?_ | refine TQ.in_exit' rfl ?_ | refine TQ.in_panic ?_
    | refine TQ.round_ret ?_ | refine TQ.round_exit ?_ | refine TQ.round_panic ?_ | refine TQ.cut_ret ?_ | refine TQ.cut_exit ?_ | refine TQ.cut_panic ?_
    | (refine TL.guard_ndec rfl rfl rfl (fun _ => ?_) (fun _ => ?_) <;> (try (exfalso; omega))) | (refine TL.guard_dec rfl rfl rfl (fun _ => ?_) (fun _ => ?_) <;> (try (exfalso; omega)))
    | ((with_reducible apply TL.guard_yes); (· rfl); (· rfl)) | ((with_reducible apply TL.guard_no); (· rfl); (· rfl); (· rfl); (· rfl)) | ((with_reducible apply TL.guard_no0); (· rfl); (· rfl); (· rfl)) | ((with_reducible apply TL.guard_undef); (· rfl); (· rfl); (· rfl)) | ((with_reducible apply TL.guard_undef0); (· rfl); (· rfl))
    | refine TL.guard_split rfl rfl rfl (fun _ => ?_) (fun _ => ?_)
    | ((with_reducible apply TL.alloc_ag); (· rfl); intro _) | ((with_reducible apply TL.alloc_sc); (· rfl); (· rfl); intro _) | ((with_reducible apply TL.box_ag); (· rfl); (· rfl); intro _) | ((with_reducible apply TL.box_sc); (· rfl); (· rfl); (· rfl); intro _)
    | ((with_reducible apply TL.range_str); (· rfl); (· rfl); intro _) | ((with_reducible apply TL.next_str); (· rfl); (· exact pkA); (· rfl); all_goals (intro _; (try (exfalso; omega))))
    | apply TC.region_draw (by kernel_rfl) (by kernel_rfl) | refine TW.nil ?_
    | ((with_reducible apply TW.pure); (· exact yA); (· rfl)) | ((with_reducible apply TW.byteK); (· rfl); (· rfl); (· exact natA); (· assumption); (· rfl); intro _) | ((with_reducible apply TW.byte); (· rfl); (· rfl); (· exact natA); (· exact omA); (· rfl); intro _ _ _)
    | (refine TW.guard_ndec rfl rfl rfl (fun _ => ?_) (fun _ => ?_) <;> (try (exfalso; omega))) | (refine TW.guard_dec rfl rfl rfl (fun _ => ?_) (fun _ => ?_) <;> (try (exfalso; omega)))
    | ((with_reducible apply TW.guard_yes); (· rfl); (· rfl)) | ((with_reducible apply TW.guard_no); (· rfl); (· rfl); (· rfl); (· rfl)) | ((with_reducible apply TW.guard_undef); (· rfl); (· rfl); (· rfl))
    | refine TW.guard_split rfl rfl rfl (fun _ => ?_) (fun _ => ?_))
    · rename_i c hc _ h48
      obtain ⟨h1, _⟩ := trimR_last (c := c) (s := x) (by rw [show x.length - 1 = ((x.length : Int) - 1).toNat by omega]; exact hc)
      refine TQ.round (x.take ((x.length : Int) - 1).toNat) ?_ ?_ rfl subA selA
      · rw [show ((x.length : Int) - 1).toNat = x.length - 1 by omega, h1 (UInt8.toNat_inj.1 (by show c.toNat = 48; omega))]
        exact ⟨hx, by rw [List.length_take]; omega⟩
      · show (x.take _).length < x.length
        rw [List.length_take]; omega
    · rename_i c hc _ h48
      obtain ⟨_, h1⟩ := trimR_last (c := c) (s := x) (by rw [show x.length - 1 = ((x.length : Int) - 1).toNat by omega]; exact hc)
      refine TQ.endR2 (L' := L) Tryz.results37 rvA rvA rfl (.refl _) ?_ selA
      refine ⟨?_, rfl, rfl⟩
      rw [h1 (fun e => h48 (by rw [e]; rfl))] at hx
      rw [hp, hx, List.append_assoc, List.append_assoc]
end Go.Proofs.YtfmadoeadmclbaaGreatDoor
