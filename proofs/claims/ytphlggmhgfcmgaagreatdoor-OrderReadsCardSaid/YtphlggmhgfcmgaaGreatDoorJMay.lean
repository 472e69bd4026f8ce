/-
  The walks of json.caught, May.
-/
import Derived.Test.YtphlggmhgfcmgaaGreatDoorJLook
namespace Go.Proofs.YtphlggmhgfcmgaaGreatDoor
open Go.RowKit Go.TL
set_option maxRecDepth 100000

def stopR (k : Nat) : PanicEntry := { v := .iface 84 (.agg #[.int .i64 (k : Nat)]), recovered := true }
set_option maxHeartbeats 1000000 in
theorem catch_stop (b k : Nat) (x : Value) (w : World) (h2 : w.cell? ⟨b, 0, none⟩ = some x) (z2 : w.frozen? ⟨b, 0, none⟩ = false) (l2 : b < w.heap.size) :
    CallsD Tryz.prog 23 #[.pointer (some ⟨b, 0, none⟩)] (.panicking [stopV k]) w fun e u' w' =>
      e = .returned (.tuple #[]) ∧ u' = .panicking [stopR k] ∧ w' = (w.setCell ⟨b, 0, none⟩ (.int .i64 (k : Nat))).alloc (.cells #[.int .i64 (k : Nat)] 84) := by
  refine callsD_of_wpS Tryz.func23 rfl fun c₀ cs hu => ?_
  apply wpS_seq
  apply wpS_region
  simp [wpOpsS, go_sem, recoverD, hu, Tryz.ntmps23, Exit.thenS, stopV]
  refine wpS_of_wp ?_
  simp only [Array.replicate_succ, Array.replicate_zero, List.push_toArray, List.append_toArray, List.nil_append, List.cons_append, List.setIfInBounds_toArray, List.set_cons_succ, List.set_cons_zero]
  have hta : ∀ w, (Instr.typeAssert (.iface 84 (.agg #[.int .i64 (k : Nat)])) 20 84 true).run Tryz.prog w = .ok (.tuple #[.agg #[.int .i64 (k : Nat)], .bool true]) w := fun _ => by kernel_rfl
  have c2 : ∀ o, (w.alloc o).cell? ⟨b, 0, none⟩ = some x := fun o => (World.cell?_alloc_lt _ _ _ l2).trans h2
  have d2 : ∀ o, (w.alloc o).frozen? ⟨b, 0, none⟩ = false := fun o => (World.frozen?_alloc_old _ _ _ (by show b ≠ _; omega)).trans z2
  clear h2 z2
  go_wp2_with fail
  simp [bodyPostS, results, Tryz.results23, stopR]
theorem catch_idle (b : Nat) (w : World) :
    CallsD Tryz.prog 23 #[.pointer (some ⟨b, 0, none⟩)] .returning w fun e u' w' => e = .returned (.tuple #[]) ∧ u' = .returning ∧ w' = w := by
  refine callsD_of_wpS Tryz.func23 rfl fun c₀ cs hu => ?_
  apply wpS_seq
  apply wpS_region
  simp [wpOpsS, go_sem, recoverD, hu, Tryz.ntmps23, Exit.thenS]
  refine wpS_of_wp ?_
  simp only [Array.replicate_succ, Array.replicate_zero, List.push_toArray, List.append_toArray, List.nil_append, List.cons_append, List.setIfInBounds_toArray, List.set_cons_succ, List.set_cons_zero]
  go_wp2
  cases c₀
  simp_all [bodyPostS, results, Tryz.results23]
theorem late_stop (b k : Nat) (x : Value) (g : Gh) (L : List Ent) : Late Tryz.prog 23 #[.pointer (some ⟨b, 0, none⟩)] (.panicking [stopV k]) (.panicking [stopR k]) g (.obj b (.cells [x].toArray 23 (0, 0)) :: L) (.obj b (.cells [.int .i64 (k : Nat)].toArray 23 (0, 0)) :: L) :=
  ⟨fun w hs => by
    have h := hs.st _ List.mem_cons_self
    have hl : b < w.heap.size := hs.lt b (by simp [fps, Ent.fp])
    refine (catch_stop b k x w (obj_cell h 0) (obj_frozen h 0) hl).mono ?_
    rintro e u w' ⟨rfl, rfl, rfl⟩
    exact ⟨⟨_, rfl⟩, rfl, ((hs.set _ 0).alloc _).tail⟩⟩
theorem late_idle (b : Nat) (g : Gh) (L : List Ent) : Late Tryz.prog 23 #[.pointer (some ⟨b, 0, none⟩)] .returning .returning g L L :=
  ⟨fun w hs => by
    refine (catch_idle b w).mono ?_
    rintro e u w' ⟨rfl, rfl, rfl⟩
    exact ⟨⟨_, rfl⟩, rfl, hs⟩⟩
theorem may_gives (x : J) (v : Value) (g : Gh) (L : List Ent) (hV : IsJ g x v) (hS : smJ x) (hT : GTabs g) (hU : GU8 g) : Gives Tryz.prog 14 #[v] g L (.int .i64 (lookJ x 0 : Nat)) := by
  refine .of (Does.ofD1 Tryz.func14 rfl Tryz.ntmps14 rfl ?_)
  have A := fun L => look_does _ x (Nat.le_refl _) v g L 0 hV hS (by decide) hT hU
  generalize lookJ x 0 = r at *
  clear hV hS hT hU
  repeat' (first
    | refine TL.looks (Enters.plain (by kernel_rfl) (by rfl)) (A _) (by rfl) (fun _ => ?_) (fun _ => ?_)
    | refine TL.defer (by rfl) ?_
    | ((with_reducible apply TL.pure); (· exact yA); (· rfl))
    | refine TC.seq ?_ | refine TC.region ?_ | refine TL.nil ?_ | refine TQ.then_normal ?_
    | ((with_reducible apply TL.storeE); (· rfl); (· rfl); (· rfl); (· exact pkA); (· infer_instance)) | ((with_reducible apply TL.store_whole); (· rfl); (· rfl); (· exact oneA); (· rfl); (· exact pkA); (· rfl))
    | refine TC.block ?_ | refine TC.ret ?_ | refine TC.skip ?_ | refine TC.exit ?_ | refine TC.cond rfl ?_
    | refine TQ.down ?_ | refine TQ.in_exit' rfl ?_
    | refine TL.guard_yes rfl rfl ?_ | refine TL.guard_no rfl rfl rfl rfl ?_ | refine TL.guard_no0 rfl rfl rfl ?_ | refine TL.guard_undef rfl rfl rfl ?_ | refine TL.guard_undef0 rfl rfl ?_ | refine TL.guard rfl rfl rfl ?_
    | refine Br.t rfl ?_ | refine Br.f rfl ?_ | refine Br.ky kpA ?_ | refine Br.kn kpA ?_ | refine Br.nky kpA ?_ | refine Br.nkn kpA ?_
    | refine Br.eq0 (fun _ => ?_) (fun _ => ?_) | refine Br.neq0 (fun _ => ?_) (fun _ => ?_) | refine Br.eq (fun _ => ?_) (fun _ => ?_) | refine Br.neq (fun _ => ?_) (fun _ => ?_) | refine Br.not (fun _ => ?_) (fun _ => ?_) | refine Br.dec (fun _ => ?_) (fun _ => ?_) | refine Br.bool (fun _ => ?_) (fun _ => ?_)
    | ((with_reducible apply TL.alloc_ag); (· rfl); intro _) | ((with_reducible apply TL.alloc_sc); (· rfl); (· rfl); intro _) | ((with_reducible apply TL.box_ag); (· rfl); (· rfl); intro _) | ((with_reducible apply TL.box_sc); (· rfl); (· rfl); (· rfl); intro _))
  · rename_i b h0
    have hr := h0.out
    subst hr
    refine TQ.endD_ret1 (L' := L) (vs := [.pointer (some ⟨b, 0, none⟩)]) (caps := []) (late_idle b g _) rfl (by kernel_rfl) Tryz.results14 rvA (.refl _) ?_ (.refl _) selA
    exact ⟨rfl, rfl, rfl⟩
  · rename_i b h0
    refine TQ.endD_panic1 (L' := L) (vs := [.pointer (some ⟨b, 0, none⟩)]) (caps := []) (late_stop b r _ g L) rfl rfl (by kernel_rfl) Tryz.results14 rvA (.refl _) ?_ (.refl _) selA
    exact ⟨rfl, rfl, rfl⟩
/-- What the program is told of a value may be just if the value may be. -/
theorem look_toJ : ∀ (N : Nat) (x : DV), dsz x ≤ N → ∀ w, lookJ (toJ x) w = mayV x w
  | 0, .mk .., h, _ => by rw [dsz] at h; omega
  | N + 1, .mk k b n s items names, h, w => by
    have IH := look_toJ N
    rw [dsz] at h
    rw [toJ_eq, mayV]
    have H1 : ∀ l : List DV, dszs l ≤ N → looks (l.map toJ) w = mays l w := by
      intro l
      induction l with
      | nil => intro _; rfl
      | cons x r ih =>
        intro hl
        rw [dszs] at hl
        rw [List.map_cons, looks, mays, IH x (by omega), ih (by omega)]
    have H2 : ∀ (l : List DV) (seen ns : List (List UInt8)), dszs l ≤ N → looko seen ns (l.map toJ) w = mayo seen ns l w := by
      intro l
      induction l with
      | nil => intro _ _ _; rfl
      | cons x r ih =>
        intro seen ns hl
        rw [dszs] at hl
        rw [List.map_cons, looko, mayo, IH x (by omega), ih _ _ (by omega)]
    by_cases k0 : k = 0
    · rw [if_pos k0, if_pos (.inl k0)]; rfl
    rw [if_neg k0]
    by_cases k1 : k = 1
    · rw [if_pos k1, if_pos (.inr k1)]; rfl
    rw [if_neg k1, if_neg (show ¬ (k = 0 ∨ k = 1) by omega)]
    by_cases k2 : k = 2
    · rw [if_pos k2, if_pos k2, lookJ]
    rw [if_neg k2, if_neg k2]
    by_cases k3 : k = 3
    · rw [if_pos k3, if_pos k3, lookJ]
    rw [if_neg k3, if_neg k3]
    by_cases k4 : k = 4
    · rw [if_pos k4, if_pos k4, lookJ, H1 items (by omega)]
    rw [if_neg k4, if_neg k4]
    by_cases k5 : k = 5
    · rw [if_pos k5, if_pos k5, lookJ, H2 items [] names (by omega)]
    rw [if_neg k5, if_neg k5, lookJ]
/-- A light value is not great. -/
theorem sm_toJ : ∀ (N : Nat) (x : DV), dsz x ≤ N → ∀ l, 0 ≤ cnt x l → smJ (toJ x)
  | 0, .mk .., h, _, _ => by rw [dsz] at h; omega
  | N + 1, .mk k b n s items names, h, l, hc => by
    have IH := sm_toJ N
    rw [dsz] at h
    rw [cnt] at hc
    split at hc
    · omega
    rename_i hno
    rw [toJ_eq]
    have H1 : ∀ (o : Bool) (ns : List (List UInt8)) (r : List DV) (m : Int), dszs r ≤ N → 0 ≤ cnts o ns r m → smJs (r.map toJ) ∧ (o = true → ∀ n ∈ ns.take r.length, n.length ≤ 300) := by
      intro o ns r
      induction r generalizing ns with
      | nil => intro m _ _; exact ⟨by rw [List.map_nil, smJs]; trivial, by simp⟩
      | cons x r ih =>
        intro m hl hm
        rw [dszs] at hl
        rw [cnts] at hm
        split at hm
        · omega
        · rename_i h1
          split at hm
          · omega
          · rename_i h2
            have h3 := ih ns.tail _ (by omega) hm
            refine ⟨by rw [List.map_cons, smJs]; exact ⟨IH x (by omega) m (by omega), h3.1⟩, fun ho nm hn => ?_⟩
            cases ns with
            | nil => simp at hn
            | cons a t =>
              rw [List.length_cons, List.take_succ_cons, List.mem_cons] at hn
              rcases hn with rfl | hn
              · have : ¬ (o = true ∧ 300 < nm.length) := h1
                have : ¬ 300 < nm.length := fun e => this ⟨ho, e⟩
                omega
              · exact h3.2 ho nm hn
    by_cases k0 : k = 0
    · rw [if_pos k0, smJ]; trivial
    rw [if_neg k0]
    by_cases k1 : k = 1
    · rw [if_pos k1, smJ]; trivial
    rw [if_neg k1]
    by_cases k2 : k = 2
    · rw [if_pos k2, smJ]; trivial
    rw [if_neg k2]
    by_cases k3 : k = 3
    · rw [if_pos k3, smJ]; omega
    rw [if_neg k3]
    by_cases k4 : k = 4
    · rw [if_pos (.inl k4)] at hc
      rw [if_pos k4, smJ, List.length_map]
      exact ⟨by omega, (H1 _ _ _ _ (by omega) hc).1⟩
    rw [if_neg k4]
    by_cases k5 : k = 5
    · rw [if_pos (.inr k5)] at hc
      rw [if_pos k5, smJ, List.length_map]
      have h3 := H1 _ _ _ _ (by omega) hc
      have hl : names.length = items.length := by omega
      refine ⟨by omega, fun nm hn => ?_, h3.1⟩
      have := h3.2 (by simp [k5]) nm (by rw [← hl, List.take_length]; exact hn)
      omega
    rw [if_neg k5, smJ]; trivial
end Go.Proofs.YtphlggmhgfcmgaaGreatDoor
