/-
  The law's same: are two rows of texts alike?
-/
import Derived.Test.YtacogbfgegcliaaGreatDoorHg38
namespace Go.Proofs.YtacogbfgegcliaaGreatDoor
open Go.RowKit Go.TL
set_option maxRecDepth 100000

theorem Y.neq_is {P : Program} {n : Nat} {ds : List Deferred} {S : Slots} {g : Gh} {L : List Ent} {gd : Option (Nat × Bool)} {dst : Option Nat} {x y : Operand} {t t' ty : TypeId} {pos : String} {aft : Array Edge} [Und P t .string] {s r : List UInt8} {b : Bool} (h : (!decide (s = r)) = b) (hx : ev S x = some (str s)) (hy : ev S y = some (str r)) : Go.TL.Yields P n ds S g L ⟨dst, .binOp .neq t x y t', ty, pos, aft, gd⟩ (.bool b) := by
  subst h; exact Y.neq_str hx hy
set_option maxHeartbeats 8000000 in
theorem same06_gives (a b : List (List UInt8)) (va vb : Value) (g : Gh) (L : List Ent) (hA : Sl g va a.length 1 (strs a)) (hB : Sl g vb b.length 1 (strs b)) (ha : a.length ≤ 1000000) (_hb : b.length ≤ 1000000) : Gives Tryz.prog 41 #[va, vb] g L (.bool (decide (a = b))) := by
  refine .of (Does.of2 Tryz.func41 rfl Tryz.ntmps41 rfl ?_)
  obtain ⟨aa, ca, rfl⟩ := hA.slice
  obtain ⟨ab, cb, rfl⟩ := hB.slice
  by_cases hl : a.length = b.length
  · have hlI : Hn (((a.length : Nat) : Int) = (b.length : Nat)) := ⟨by omega⟩
    obtain ⟨R, hR⟩ : ∃ R, R = decide (a = b) := ⟨_, rfl⟩
    rw [← hR]
    have HR := Hn.mk hR
    clear hR
    repeat' (first
    | ((with_reducible apply TL.pure); (· exact yV); (· rfl)) | ((with_reducible apply TW.pure); (· exact yV); (· rfl))
    | ((with_reducible apply TL.pure); (· exact yA); (· rfl))
    | refine TC.seq ?_ | refine TC.region ?_ | refine TL.nil ?_ | refine TQ.then_normal ?_
    | ((with_reducible apply TL.storeE); (· rfl); (· rfl); (· rfl); (· exact pkA); (· infer_instance)) | ((with_reducible apply TL.store_whole); (· rfl); (· rfl); (· exact oneA); (· rfl); (· exact pkA); (· rfl))
    | refine TC.block ?_ | refine TC.ret ?_ | refine TC.skip ?_ | refine TC.exit ?_ | refine TC.cond rfl ?_
    | refine TQ.down ?_ | refine TQ.in_exit' rfl ?_
    | refine TL.guard_yes rfl rfl ?_ | refine TL.guard_no rfl rfl rfl rfl ?_ | refine TL.guard_no0 rfl rfl rfl ?_ | refine TL.guard_undef rfl rfl rfl ?_ | refine TL.guard_undef0 rfl rfl ?_ | refine TL.guard rfl rfl rfl ?_
    | refine Br.t rfl ?_ | refine Br.f rfl ?_ | refine Br.ky kpA ?_ | refine Br.kn kpA ?_ | refine Br.nky kpA ?_ | refine Br.nkn kpA ?_
    | refine Br.eq0 (fun _ => ?_) (fun _ => ?_) | refine Br.neq0 (fun _ => ?_) (fun _ => ?_) | refine Br.eq (fun _ => ?_) (fun _ => ?_) | refine Br.neq (fun _ => ?_) (fun _ => ?_) | refine Br.not (fun _ => ?_) (fun _ => ?_) | refine Br.dec (fun _ => ?_) (fun _ => ?_) | refine Br.bool (fun _ => ?_) (fun _ => ?_)
    | ((with_reducible apply TL.alloc_ag); (· rfl); intro _) | ((with_reducible apply TL.alloc_sc); (· rfl); (· rfl); intro _) | ((with_reducible apply TL.box_ag); (· rfl); (· rfl); intro _) | ((with_reducible apply TL.box_sc); (· rfl); (· rfl); (· rfl); intro _))
    refine TC.loopL (fun i : Nat => i ≤ a.length ∧ a.take i = b.take i) (fun i => a.length - i) (fun i _ => [(5, .int .i64 (i : Nat)), (0, .slice aa a.length ca), (1, .slice ab b.length cb)]) (fun _ => L) 0 ⟨Nat.zero_le _, by simp⟩ subA selA ?_
    rintro i ⟨hi, ht⟩
    try dsimp only at hi ht ⊢
    by_cases hlt : i < a.length
    · have hlt2 : i < b.length := by omega
      obtain ⟨s, hs⟩ : ∃ s, a[i]? = some s := ⟨_, List.getElem?_eq_getElem hlt⟩
      obtain ⟨t, htt⟩ : ∃ t, b[i]? = some t := ⟨_, List.getElem?_eq_getElem hlt2⟩
      obtain ⟨b1, o1, rfl, hg1⟩ := hA.elem hlt (by decide)
      obtain ⟨b2, o2, rfl, hg2⟩ := hB.elem hlt2 (by decide)
      have hld1 : g.cell b1 (o1 + i * 1) = some (str s) := hg1 0 _ (by rw [Nat.mul_one]; exact strs_get hs)
      have hld2 : g.cell b2 (o2 + i * 1) = some (str t) := hg2 0 _ (by rw [Nat.mul_one]; exact strs_get htt)
      by_cases he : s = t
      · have HT := Hn.mk (show a.take (i + 1) = b.take (i + 1) by rw [List.take_add_one, List.take_add_one, ht, hs, htt, he])
        clear hA hB hg1 hg2 ht
        repeat' (first
    | ((with_reducible apply TL.pure); (· exact yV); (· rfl)) | ((with_reducible apply TW.pure); (· exact yV); (· rfl))
    | ((with_reducible apply TL.pure); (· exact yM); (· rfl)) | ((with_reducible apply TW.pure); (· exact yM); (· rfl))
    | ((with_reducible apply TA.take 0); (· decide +kernel); (· rfl); (· first | (first | exact yA | exact yB | exact yM | exact yV) | exact Y.neq_is (by rw [decide_eq_true he]; rfl) rfl rfl); (· decide +kernel); (· decide +kernel); (· rfl); (· exact fun _ _ _ h => h); (· rfl))
    | ((with_reducible apply TA.take 1); (· decide +kernel); (· rfl); (· first | (first | exact yA | exact yB | exact yM | exact yV) | exact Y.neq_is (by rw [decide_eq_true he]; rfl) rfl rfl); (· decide +kernel); (· decide +kernel); (· rfl); (· exact fun _ _ _ h => h); (· rfl))
    | ((with_reducible apply TA.take 2); (· decide +kernel); (· rfl); (· first | (first | exact yA | exact yB | exact yM | exact yV) | exact Y.neq_is (by rw [decide_eq_true he]; rfl) rfl rfl); (· decide +kernel); (· decide +kernel); (· rfl); (· exact fun _ _ _ h => h); (· rfl))
    | ((with_reducible apply TA.take 3); (· decide +kernel); (· rfl); (· first | (first | exact yA | exact yB | exact yM | exact yV) | exact Y.neq_is (by rw [decide_eq_true he]; rfl) rfl rfl); (· decide +kernel); (· decide +kernel); (· rfl); (· exact fun _ _ _ h => h); (· rfl))
    | ((with_reducible apply TA.take 4); (· decide +kernel); (· rfl); (· first | (first | exact yA | exact yB | exact yM | exact yV) | exact Y.neq_is (by rw [decide_eq_true he]; rfl) rfl rfl); (· decide +kernel); (· decide +kernel); (· rfl); (· exact fun _ _ _ h => h); (· rfl))
    | ((with_reducible apply TA.take 5); (· decide +kernel); (· rfl); (· first | (first | exact yA | exact yB | exact yM | exact yV) | exact Y.neq_is (by rw [decide_eq_true he]; rfl) rfl rfl); (· decide +kernel); (· decide +kernel); (· rfl); (· exact fun _ _ _ h => h); (· rfl))
    | ((with_reducible apply TA.take 6); (· decide +kernel); (· rfl); (· first | (first | exact yA | exact yB | exact yM | exact yV) | exact Y.neq_is (by rw [decide_eq_true he]; rfl) rfl rfl); (· decide +kernel); (· decide +kernel); (· rfl); (· exact fun _ _ _ h => h); (· rfl))
    | ((with_reducible apply TA.take 7); (· decide +kernel); (· rfl); (· first | (first | exact yA | exact yB | exact yM | exact yV) | exact Y.neq_is (by rw [decide_eq_true he]; rfl) rfl rfl); (· decide +kernel); (· decide +kernel); (· rfl); (· exact fun _ _ _ h => h); (· rfl))
    | ((with_reducible apply TA.take 8); (· decide +kernel); (· rfl); (· first | (first | exact yA | exact yB | exact yM | exact yV) | exact Y.neq_is (by rw [decide_eq_true he]; rfl) rfl rfl); (· decide +kernel); (· decide +kernel); (· rfl); (· exact fun _ _ _ h => h); (· rfl))
    | ((with_reducible apply TA.one 0); (· rfl); (· decide +kernel); (· rfl))
    | ((with_reducible apply TA.one 1); (· rfl); (· decide +kernel); (· rfl))
    | ((with_reducible apply TA.one 2); (· rfl); (· decide +kernel); (· rfl))
    | ((with_reducible apply TA.one 3); (· rfl); (· decide +kernel); (· rfl))
    | ((with_reducible apply TA.one 4); (· rfl); (· decide +kernel); (· rfl))
    | ((with_reducible apply TA.one 5); (· rfl); (· decide +kernel); (· rfl))
    | ((with_reducible apply TA.one 6); (· rfl); (· decide +kernel); (· rfl))
    | ((with_reducible apply TA.one 7); (· rfl); (· decide +kernel); (· rfl))
    | ((with_reducible apply TA.one 8); (· rfl); (· decide +kernel); (· rfl))
    | refine TQ.any leA selA ?_
    | refine TC.region_any 9 (L) (by kernel_rfl) rfl selA ?_ | refine TA.done (by decide +kernel) ?_ | refine TQ.any_panic ?_
    | ((with_reducible apply TL.pure); (· exact yA); (· rfl))
    | refine TC.seq ?_ | refine TC.region ?_ | refine TL.nil ?_ | refine TQ.then_normal ?_
    | ((with_reducible apply TL.storeE); (· rfl); (· rfl); (· rfl); (· exact pkA); (· infer_instance)) | ((with_reducible apply TL.store_whole); (· rfl); (· rfl); (· exact oneA); (· rfl); (· exact pkA); (· rfl))
    | refine TC.block ?_ | refine TC.ret ?_ | refine TC.skip ?_ | refine TC.exit ?_ | refine TC.cond rfl ?_
    | refine TQ.down ?_ | refine TQ.in_exit' rfl ?_
    | refine TL.guard_yes rfl rfl ?_ | refine TL.guard_no rfl rfl rfl rfl ?_ | refine TL.guard_no0 rfl rfl rfl ?_ | refine TL.guard_undef rfl rfl rfl ?_ | refine TL.guard_undef0 rfl rfl ?_ | refine TL.guard rfl rfl rfl ?_
    | refine Br.t rfl ?_ | refine Br.f rfl ?_ | refine Br.ky kpA ?_ | refine Br.kn kpA ?_ | refine Br.nky kpA ?_ | refine Br.nkn kpA ?_
    | refine Br.eq0 (fun _ => ?_) (fun _ => ?_) | refine Br.neq0 (fun _ => ?_) (fun _ => ?_) | refine Br.eq (fun _ => ?_) (fun _ => ?_) | refine Br.neq (fun _ => ?_) (fun _ => ?_) | refine Br.not (fun _ => ?_) (fun _ => ?_) | refine Br.dec (fun _ => ?_) (fun _ => ?_) | refine Br.bool (fun _ => ?_) (fun _ => ?_)
    | ((with_reducible apply TL.alloc_ag); (· rfl); intro _) | ((with_reducible apply TL.alloc_sc); (· rfl); (· rfl); intro _) | ((with_reducible apply TL.box_ag); (· rfl); (· rfl); intro _) | ((with_reducible apply TL.box_sc); (· rfl); (· rfl); (· rfl); intro _))
        refine TQ.round (i + 1) ?_ ?_ rfl subA selA
        · exact ⟨by omega, HT.out⟩
        · show a.length - (i + 1) < a.length - i
          omega
      · have hne : a ≠ b := fun e => he (by rw [e, htt] at hs; exact (Option.some.inj hs).symm)
        obtain rfl : R = false := by rw [HR.out, decide_eq_false hne]
        clear hA hB hg1 hg2 ht HR
        repeat' (first
    | ((with_reducible apply TL.pure); (· exact yV); (· rfl)) | ((with_reducible apply TW.pure); (· exact yV); (· rfl))
    | ((with_reducible apply TL.pure); (· exact yM); (· rfl)) | ((with_reducible apply TW.pure); (· exact yM); (· rfl))
    | ((with_reducible apply TA.take 0); (· decide +kernel); (· rfl); (· first | (first | exact yA | exact yB | exact yM | exact yV) | exact Y.neq_is (by rw [decide_eq_false he]; rfl) rfl rfl); (· decide +kernel); (· decide +kernel); (· rfl); (· exact fun _ _ _ h => h); (· rfl))
    | ((with_reducible apply TA.take 1); (· decide +kernel); (· rfl); (· first | (first | exact yA | exact yB | exact yM | exact yV) | exact Y.neq_is (by rw [decide_eq_false he]; rfl) rfl rfl); (· decide +kernel); (· decide +kernel); (· rfl); (· exact fun _ _ _ h => h); (· rfl))
    | ((with_reducible apply TA.take 2); (· decide +kernel); (· rfl); (· first | (first | exact yA | exact yB | exact yM | exact yV) | exact Y.neq_is (by rw [decide_eq_false he]; rfl) rfl rfl); (· decide +kernel); (· decide +kernel); (· rfl); (· exact fun _ _ _ h => h); (· rfl))
    | ((with_reducible apply TA.take 3); (· decide +kernel); (· rfl); (· first | (first | exact yA | exact yB | exact yM | exact yV) | exact Y.neq_is (by rw [decide_eq_false he]; rfl) rfl rfl); (· decide +kernel); (· decide +kernel); (· rfl); (· exact fun _ _ _ h => h); (· rfl))
    | ((with_reducible apply TA.take 4); (· decide +kernel); (· rfl); (· first | (first | exact yA | exact yB | exact yM | exact yV) | exact Y.neq_is (by rw [decide_eq_false he]; rfl) rfl rfl); (· decide +kernel); (· decide +kernel); (· rfl); (· exact fun _ _ _ h => h); (· rfl))
    | ((with_reducible apply TA.take 5); (· decide +kernel); (· rfl); (· first | (first | exact yA | exact yB | exact yM | exact yV) | exact Y.neq_is (by rw [decide_eq_false he]; rfl) rfl rfl); (· decide +kernel); (· decide +kernel); (· rfl); (· exact fun _ _ _ h => h); (· rfl))
    | ((with_reducible apply TA.take 6); (· decide +kernel); (· rfl); (· first | (first | exact yA | exact yB | exact yM | exact yV) | exact Y.neq_is (by rw [decide_eq_false he]; rfl) rfl rfl); (· decide +kernel); (· decide +kernel); (· rfl); (· exact fun _ _ _ h => h); (· rfl))
    | ((with_reducible apply TA.take 7); (· decide +kernel); (· rfl); (· first | (first | exact yA | exact yB | exact yM | exact yV) | exact Y.neq_is (by rw [decide_eq_false he]; rfl) rfl rfl); (· decide +kernel); (· decide +kernel); (· rfl); (· exact fun _ _ _ h => h); (· rfl))
    | ((with_reducible apply TA.take 8); (· decide +kernel); (· rfl); (· first | (first | exact yA | exact yB | exact yM | exact yV) | exact Y.neq_is (by rw [decide_eq_false he]; rfl) rfl rfl); (· decide +kernel); (· decide +kernel); (· rfl); (· exact fun _ _ _ h => h); (· rfl))
    | ((with_reducible apply TA.one 0); (· rfl); (· decide +kernel); (· rfl))
    | ((with_reducible apply TA.one 1); (· rfl); (· decide +kernel); (· rfl))
    | ((with_reducible apply TA.one 2); (· rfl); (· decide +kernel); (· rfl))
    | ((with_reducible apply TA.one 3); (· rfl); (· decide +kernel); (· rfl))
    | ((with_reducible apply TA.one 4); (· rfl); (· decide +kernel); (· rfl))
    | ((with_reducible apply TA.one 5); (· rfl); (· decide +kernel); (· rfl))
    | ((with_reducible apply TA.one 6); (· rfl); (· decide +kernel); (· rfl))
    | ((with_reducible apply TA.one 7); (· rfl); (· decide +kernel); (· rfl))
    | ((with_reducible apply TA.one 8); (· rfl); (· decide +kernel); (· rfl))
    | refine TQ.any leA selA ?_
    | refine TC.region_any 9 (L) (by kernel_rfl) rfl selA ?_ | refine TA.done (by decide +kernel) ?_ | refine TQ.any_panic ?_
    | ((with_reducible apply TL.pure); (· exact yA); (· rfl))
    | refine TC.seq ?_ | refine TC.region ?_ | refine TL.nil ?_ | refine TQ.then_normal ?_
    | ((with_reducible apply TL.storeE); (· rfl); (· rfl); (· rfl); (· exact pkA); (· infer_instance)) | ((with_reducible apply TL.store_whole); (· rfl); (· rfl); (· exact oneA); (· rfl); (· exact pkA); (· rfl))
    | refine TC.block ?_ | refine TC.ret ?_ | refine TC.skip ?_ | refine TC.exit ?_ | refine TC.cond rfl ?_
    | refine TQ.down ?_ | refine TQ.in_exit' rfl ?_
    | refine TL.guard_yes rfl rfl ?_ | refine TL.guard_no rfl rfl rfl rfl ?_ | refine TL.guard_no0 rfl rfl rfl ?_ | refine TL.guard_undef rfl rfl rfl ?_ | refine TL.guard_undef0 rfl rfl ?_ | refine TL.guard rfl rfl rfl ?_
    | refine Br.t rfl ?_ | refine Br.f rfl ?_ | refine Br.ky kpA ?_ | refine Br.kn kpA ?_ | refine Br.nky kpA ?_ | refine Br.nkn kpA ?_
    | refine Br.eq0 (fun _ => ?_) (fun _ => ?_) | refine Br.neq0 (fun _ => ?_) (fun _ => ?_) | refine Br.eq (fun _ => ?_) (fun _ => ?_) | refine Br.neq (fun _ => ?_) (fun _ => ?_) | refine Br.not (fun _ => ?_) (fun _ => ?_) | refine Br.dec (fun _ => ?_) (fun _ => ?_) | refine Br.bool (fun _ => ?_) (fun _ => ?_)
    | ((with_reducible apply TL.alloc_ag); (· rfl); intro _) | ((with_reducible apply TL.alloc_sc); (· rfl); (· rfl); intro _) | ((with_reducible apply TL.box_ag); (· rfl); (· rfl); intro _) | ((with_reducible apply TL.box_sc); (· rfl); (· rfl); (· rfl); intro _))
        refine TQ.endR1 (L' := L) Tryz.results41 rvA rfl (.refl _) ?_ selA
        exact ⟨rfl, rfl, rfl⟩
    · have he : a = b := by rw [List.take_of_length_le (by omega), List.take_of_length_le (by omega)] at ht; exact ht
      obtain rfl : R = true := by rw [HR.out, decide_eq_true he]
      clear hA hB ht HR
      repeat' (first
    | ((with_reducible apply TL.pure); (· exact yV); (· rfl)) | ((with_reducible apply TW.pure); (· exact yV); (· rfl))
    | ((with_reducible apply TL.pure); (· exact yA); (· rfl))
    | refine TC.seq ?_ | refine TC.region ?_ | refine TL.nil ?_ | refine TQ.then_normal ?_
    | ((with_reducible apply TL.storeE); (· rfl); (· rfl); (· rfl); (· exact pkA); (· infer_instance)) | ((with_reducible apply TL.store_whole); (· rfl); (· rfl); (· exact oneA); (· rfl); (· exact pkA); (· rfl))
    | refine TC.block ?_ | refine TC.ret ?_ | refine TC.skip ?_ | refine TC.exit ?_ | refine TC.cond rfl ?_
    | refine TQ.down ?_ | refine TQ.in_exit' rfl ?_
    | refine TL.guard_yes rfl rfl ?_ | refine TL.guard_no rfl rfl rfl rfl ?_ | refine TL.guard_no0 rfl rfl rfl ?_ | refine TL.guard_undef rfl rfl rfl ?_ | refine TL.guard_undef0 rfl rfl ?_ | refine TL.guard rfl rfl rfl ?_
    | refine Br.t rfl ?_ | refine Br.f rfl ?_ | refine Br.ky kpA ?_ | refine Br.kn kpA ?_ | refine Br.nky kpA ?_ | refine Br.nkn kpA ?_
    | refine Br.eq0 (fun _ => ?_) (fun _ => ?_) | refine Br.neq0 (fun _ => ?_) (fun _ => ?_) | refine Br.eq (fun _ => ?_) (fun _ => ?_) | refine Br.neq (fun _ => ?_) (fun _ => ?_) | refine Br.not (fun _ => ?_) (fun _ => ?_) | refine Br.dec (fun _ => ?_) (fun _ => ?_) | refine Br.bool (fun _ => ?_) (fun _ => ?_)
    | ((with_reducible apply TL.alloc_ag); (· rfl); intro _) | ((with_reducible apply TL.alloc_sc); (· rfl); (· rfl); intro _) | ((with_reducible apply TL.box_ag); (· rfl); (· rfl); intro _) | ((with_reducible apply TL.box_sc); (· rfl); (· rfl); (· rfl); intro _))
      refine TQ.endR1 (L' := L) Tryz.results41 rvA rfl (.refl _) ?_ selA
      exact ⟨rfl, rfl, rfl⟩
  · have hlI : Hn (¬ (((a.length : Nat) : Int) = (b.length : Nat))) := ⟨by omega⟩
    have hne : a ≠ b := fun e => hl (by rw [e])
    rw [decide_eq_false hne]
    clear hA hB
    repeat' (first
    | ((with_reducible apply TL.pure); (· exact yV); (· rfl)) | ((with_reducible apply TW.pure); (· exact yV); (· rfl))
    | ((with_reducible apply TL.pure); (· exact yA); (· rfl))
    | refine TC.seq ?_ | refine TC.region ?_ | refine TL.nil ?_ | refine TQ.then_normal ?_
    | ((with_reducible apply TL.storeE); (· rfl); (· rfl); (· rfl); (· exact pkA); (· infer_instance)) | ((with_reducible apply TL.store_whole); (· rfl); (· rfl); (· exact oneA); (· rfl); (· exact pkA); (· rfl))
    | refine TC.block ?_ | refine TC.ret ?_ | refine TC.skip ?_ | refine TC.exit ?_ | refine TC.cond rfl ?_
    | refine TQ.down ?_ | refine TQ.in_exit' rfl ?_
    | refine TL.guard_yes rfl rfl ?_ | refine TL.guard_no rfl rfl rfl rfl ?_ | refine TL.guard_no0 rfl rfl rfl ?_ | refine TL.guard_undef rfl rfl rfl ?_ | refine TL.guard_undef0 rfl rfl ?_ | refine TL.guard rfl rfl rfl ?_
    | refine Br.t rfl ?_ | refine Br.f rfl ?_ | refine Br.ky kpA ?_ | refine Br.kn kpA ?_ | refine Br.nky kpA ?_ | refine Br.nkn kpA ?_
    | refine Br.eq0 (fun _ => ?_) (fun _ => ?_) | refine Br.neq0 (fun _ => ?_) (fun _ => ?_) | refine Br.eq (fun _ => ?_) (fun _ => ?_) | refine Br.neq (fun _ => ?_) (fun _ => ?_) | refine Br.not (fun _ => ?_) (fun _ => ?_) | refine Br.dec (fun _ => ?_) (fun _ => ?_) | refine Br.bool (fun _ => ?_) (fun _ => ?_)
    | ((with_reducible apply TL.alloc_ag); (· rfl); intro _) | ((with_reducible apply TL.alloc_sc); (· rfl); (· rfl); intro _) | ((with_reducible apply TL.box_ag); (· rfl); (· rfl); intro _) | ((with_reducible apply TL.box_sc); (· rfl); (· rfl); (· rfl); intro _))
    refine TQ.endR1 (L' := L) Tryz.results41 rvA rfl (.refl _) ?_ selA
    exact ⟨rfl, rfl, rfl⟩
end Go.Proofs.YtacogbfgegcliaaGreatDoor
