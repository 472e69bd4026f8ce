/-
  Two deferred calls, one of them of a function's value. What Parse leaves to be done last. Bodies with deferred calls: a slot that no result reads does not matter. JSON texts as data: an error's number is not zero.
-/
import Derived.Test.YtfmadoeadmclbaaGreatDoorHb8
import Derived.Test.YtfmadoeadmclbaaGreatDoorHb36
import Derived.Test.YtfmadoeadmclbaaGreatDoorHb33
import Derived.Test.YtfmadoeadmclbaaGreatDoorHb27
namespace Go.TL
open Go Go.RowKit Go.Proofs.YtfmadoeadmclbaaGreatDoor
section
variable {P : Program} {ops : Array Oper} {Q : Exit → Act → World → Prop} {rest : List Oper} {n : Nat} {ds : List Deferred} {S : Slots} {g g0 : Gh} {L L' L1 L2 L3 : List Ent} {f : FuncId} {fn : Func} {R : Ending → Gh → List Ent → Prop}
variable {ty : TypeId} {pos : String} {aft : Array Edge} {y : Operand} {r1 r2 : ResultVar} {v v1 v2 : Value} {c : List PanicEntry}
theorem TQ.only {c : Exit} (L' : List Ent) (hL : Sel L' L) (h : TQ Q c n ds S g L') : TQ Q c n ds S g L := .mk fun a w hf hs => h.h a w hf (hs.sel hL)
theorem TL.defer_v {xs : List Operand} {vs caps : List Value} {ats : Array TypeId} (hy : ev S y = some (.func (.func f) #[] caps.toArray)) (hx : evs S xs = some vs) (k : TL P ops Q rest n (⟨.fn (.func f) caps.toArray, vs.toArray⟩ :: ds) S g L) : TL P ops Q (⟨none, .defer { callee := .value y, args := xs.toArray, argTypes := ats }, ty, pos, aft, none⟩ :: rest) n ds S g L := .mk fun a w hf hs =>
  wpList_plain rfl fun K hK => by
    unfold Oper.wp
    have h1 := hf.evs hx
    have h2 : a.eval y = .func (.func f) #[] caps.toArray := hf.ev hy
    have : (execOp a.eval ⟨none, .defer { callee := .value y, args := xs.toArray, argTypes := ats }, ty, pos, aft, none⟩).run P w = .ok (.defer ⟨.fn (.func f) caps.toArray, vs.toArray⟩) w := by
      simp [execOp, resolve, h2, Deferred.ofValue, h1]
    rw [this]
    exact hK _ _ (k.h _ w ⟨hf.size, by show _ :: a.defers = _; rw [hf.defers], hf.sl⟩ hs)
theorem endD_leaves_two {u u' : FrameMode} {h k : FuncId} {vs caps vs' caps' : List Value} {a : Act} {w : World} (hds : ds = [⟨.fn (.func h) caps.toArray, vs.toArray⟩, ⟨.fn (.func k) caps'.toArray, vs'.toArray⟩]) (hu : u ≠ .run) (hc : callable P h = true) (hk : callable P k = true) (hC : Late P h (vs ++ caps).toArray u u' g L1 L2) (hset : settle u' = .returning) (hK : Late P k (vs' ++ caps').toArray .returning .returning g L2 L3)
    (hv : ∀ w, St g L3 w → (results fn a.tmps).run P w = .ok v w) (hg : g0.le g) (hR : R (.returned v) g L') (hL1 : L1.Perm L) (hL : Sel L' L3) (hf : Fr n ds S a) (hs : St g L w) :
    Leaves P fn a.tmps (fun e w' => ∃ g' L', g0.le g' ∧ R e g' L' ∧ St g' L' w') a.defers u w := by
  rw [hf.defers, hds]
  refine leaves_cons (f := h) (args := (vs ++ caps).toArray) hu (by simp [invoke, callFunc_run hc]) ?_
  refine (hC.h w (hs.perm hL1)).mono ?_
  rintro e u1 w' ⟨⟨v0, rfl⟩, rfl, hs'⟩
  dsimp only
  rw [hset]
  refine leaves_cons (f := k) (args := (vs' ++ caps').toArray) (by simp) (by simp [invoke, callFunc_run hk]) ?_
  refine (hK.h w' hs').mono ?_
  rintro e u2 w2 ⟨⟨v0, rfl⟩, rfl, hs2⟩
  show Leaves P fn a.tmps _ [] (settle .returning) w2
  exact ⟨v, hv w2 hs2, g, L', hg, hR, hs2.sel hL⟩
theorem TQ.endD_ret_none (hds : ds = []) (hr : fn.results = #[r1, r2]) (h1 : RVal P n ds S g L r1 v1) (h2 : RVal P n ds S g L r2 v2) (hg : g0.le g) (hR : R (.returned (.tuple #[v1, v2])) g L') (hL : Sel L' L) : TQ (EndD P fn R g0) .ret n ds S g L := .mk fun a w hf hs => by
  show Leaves P fn a.tmps _ a.defers .returning w
  rw [hf.defers, hds]
  exact ⟨_, by rw [results_eq, hr]; simp [h1.h a w hf hs, h2.h a w hf hs], g, L', hg, hR, hs.sel hL⟩
variable {h k : FuncId} {vs caps vs' caps' : List Value} {u' : FrameMode}
theorem TQ.endD_ret_two (hC : Late P h (vs ++ caps).toArray .returning .returning g L1 L2) (hK : Late P k (vs' ++ caps').toArray .returning .returning g L2 L3) (hds : ds = [⟨.fn (.func h) caps.toArray, vs.toArray⟩, ⟨.fn (.func k) caps'.toArray, vs'.toArray⟩]) (hc : callable P h = true) (hk : callable P k = true) (hr : fn.results = #[r1, r2]) (h1 : RVal P n ds S g L3 r1 v1) (h2 : RVal P n ds S g L3 r2 v2) (hg : g0.le g) (hR : R (.returned (.tuple #[v1, v2])) g L') (hL1 : L1.Perm L) (hL : Sel L' L3) : TQ (EndD P fn R g0) .ret n ds S g L := .mk fun a w hf hs =>
  endD_leaves_two hds (by simp) hc hk hC rfl hK (fun w' hs' => by rw [results_eq, hr]; simp [h1.h a w' hf hs', h2.h a w' hf hs']) hg hR hL1 hL hf hs
theorem TQ.endD_panic_two (hC : Late P h (vs ++ caps).toArray (.panicking c) u' g L1 L2) (hset : settle u' = .returning) (hK : Late P k (vs' ++ caps').toArray .returning .returning g L2 L3) (hds : ds = [⟨.fn (.func h) caps.toArray, vs.toArray⟩, ⟨.fn (.func k) caps'.toArray, vs'.toArray⟩]) (hc : callable P h = true) (hk : callable P k = true) (hr : fn.results = #[r1, r2]) (h1 : RVal P n ds S g L3 r1 v1) (h2 : RVal P n ds S g L3 r2 v2) (hg : g0.le g) (hR : R (.returned (.tuple #[v1, v2])) g L') (hL1 : L1.Perm L) (hL : Sel L' L3) : TQ (EndD P fn R g0) (.panic c) n ds S g L := .mk fun a w hf hs =>
  endD_leaves_two hds (by simp) hc hk hC hset hK (fun w' hs' => by rw [results_eq, hr]; simp [h1.h a w' hf hs', h2.h a w' hf hs']) hg hR hL1 hL hf hs
end
end Go.TL
namespace Go.Proofs.YtfmadoeadmclbaaGreatDoor
open Go.RowKit Go.TL
set_option maxRecDepth 100000

set_option maxHeartbeats 1000000 in
theorem tail_zero (b c : Nat) (w : World) (h2 : w.cell? ⟨b, 0, none⟩ = some (.int .i64 0)) (_l2 : b < w.heap.size) :
    CallsD Tryz.prog 25 #[.pointer (some ⟨b, 0, none⟩), .pointer (some ⟨c, 0, none⟩)] .returning w fun e u' w' => e = .returned (.tuple #[]) ∧ u' = .returning ∧ w' = w := by
  refine callsD_of_wpS Tryz.func25 rfl fun c₀ cs hu => ?_
  refine wpS_of_wp ?_
  simp [Tryz.ntmps25]
  go_wp2
  cases c₀
  simp_all [bodyPostS, results, Tryz.results25]
set_option maxHeartbeats 1000000 in
theorem tail_stop (b c k : Nat) (hk : k ≠ 0) (x : Value) (w : World) (h2 : w.cell? ⟨b, 0, none⟩ = some (.int .i64 (k : Nat))) (_l2 : b < w.heap.size) (h3 : w.cell? ⟨c, 0, none⟩ = some x) (z3 : w.frozen? ⟨c, 0, none⟩ = false) (_l3 : c < w.heap.size) :
    CallsD Tryz.prog 25 #[.pointer (some ⟨b, 0, none⟩), .pointer (some ⟨c, 0, none⟩)] .returning w fun e u' w' => e = .returned (.tuple #[]) ∧ u' = .returning ∧ w' = w.setCell ⟨c, 0, none⟩ .nilIface := by
  refine callsD_of_wpS Tryz.func25 rfl fun c₀ cs hu => ?_
  refine wpS_of_wp ?_
  simp [Tryz.ntmps25]
  go_wp2
  cases c₀
  simp_all [bodyPostS, results, Tryz.results25]
theorem late_zero (b c : Nat) (g : Gh) (L : List Ent) : Late Tryz.prog 25 #[.pointer (some ⟨b, 0, none⟩), .pointer (some ⟨c, 0, none⟩)] .returning .returning g (.obj b (.cells [.int .i64 0].toArray 23 (0, 0)) :: L) (.obj b (.cells [.int .i64 0].toArray 23 (0, 0)) :: L) :=
  ⟨fun w hs => by
    have h := hs.st _ List.mem_cons_self
    have hl : b < w.heap.size := hs.lt b (by simp [fps, Ent.fp])
    refine (tail_zero b c w (obj_cell h 0) hl).mono ?_
    rintro e u w' ⟨rfl, rfl, rfl⟩
    exact ⟨⟨_, rfl⟩, rfl, hs⟩⟩
theorem late_tail (b c k : Nat) (hk : k ≠ 0) (x : Value) (g : Gh) (L : List Ent) : Late Tryz.prog 25 #[.pointer (some ⟨b, 0, none⟩), .pointer (some ⟨c, 0, none⟩)] .returning .returning g (.obj c (.cells [x].toArray 20 (0, 0)) :: .obj b (.cells [.int .i64 (k : Nat)].toArray 23 (0, 0)) :: L) (.obj c (.cells [.nilIface].toArray 20 (0, 0)) :: .obj b (.cells [.int .i64 (k : Nat)].toArray 23 (0, 0)) :: L) :=
  ⟨fun w hs => by
    have h := hs.st _ (List.mem_cons_of_mem _ List.mem_cons_self)
    have h' := hs.st _ List.mem_cons_self
    have hl : b < w.heap.size := hs.lt b (by simp [fps, Ent.fp])
    have hl' : c < w.heap.size := hs.lt c (by simp [fps, Ent.fp])
    refine (tail_stop b c k hk x w (obj_cell h 0) hl (obj_cell h' 0) (obj_frozen h' 0) hl').mono ?_
    rintro e u w' ⟨rfl, rfl, rfl⟩
    exact ⟨⟨_, rfl⟩, rfl, hs.set _ 0⟩⟩
end Go.Proofs.YtfmadoeadmclbaaGreatDoor
namespace Go.TL
open Go Go.RowKit Go.Proofs.YtfmadoeadmclbaaGreatDoor
section
variable {P : Program} {fn : Func} {t1 t2 : Array Value} {R : Ending → World → Prop}
theorem leaves_tmps (h : results fn t1 = results fn t2) : ∀ (ds : List Deferred) (u : FrameMode) (w : World), Leaves P fn t1 R ds u w → Leaves P fn t2 R ds u w
  | [], .returning, w, H => by unfold Leaves at H ⊢; rw [← h]; exact H
  | [], .panicking _, _, H => H
  | [], .run, _, H => H
  | d :: ds, u, w, H => by
    unfold Leaves at H ⊢
    obtain ⟨h1, fv, cap, f, args, h2, h3, H⟩ := H
    refine ⟨h1, fv, cap, f, args, h2, h3, H.mono ?_⟩
    intro e u' w' hh
    cases e with
    | returned v => exact leaves_tmps h ds _ _ hh
    | panicked c => exact leaves_tmps h ds _ _ hh
    | outgrown => exact hh
theorem getD_set_ne {t : Array Value} {d i : Nat} {v u : Value} (h : d ≠ i) : (t.setIfInBounds d v).getD i u = t.getD i u := by
  simp [Array.getD_eq_getD_getElem?, h]
theorem endD_put {R : Ending → Gh → List Ent → Prop} {g : Gh} {d p p' : Nat} {q q' : TypeId} {v : Value} (hr : fn.results = #[.cell p q, .cell p' q']) (h1 : d ≠ p) (h2 : d ≠ p') {c : List PanicEntry} {a : Act} {w : World} (h : EndD P fn R g (.panic c) (a.put (some d) v) w) : EndD P fn R g (.panic c) a w :=
  leaves_tmps (t1 := (a.put (some d) v).tmps) (by
    rw [results_eq, results_eq, hr]
    simp [rvS, Act.put, getD_set_ne h1, getD_set_ne h2]) _ _ _ h
end
end Go.TL
namespace Go.Proofs.YtfmadoeadmclbaaGreatDoor
open Go.RowKit Go.TL
def ErrOk (f : List UInt8 → Except Nat (J × List UInt8)) : Prop := ∀ s k, f s = .error k → k ≠ 0
theorem lstP_err {f : List UInt8 → Except Nat (J × List UInt8)} (hf : ErrOk f) : ∀ (n : Nat) (s : List UInt8) (k : Nat), lstP f n s = .error k → k ≠ 0
  | 0, s, k, h => by rw [lstP] at h; injection h with h; omega
  | n + 1, s, k, h => by
    rw [lstP] at h
    cases h1 : f s with
    | error e => rw [h1] at h; injection h with h; subst h; exact hf _ _ h1
    | ok p =>
      obtain ⟨x, u⟩ := p
      rw [h1] at h
      dsimp only at h
      cases h2 : blL u with
      | nil => rw [h2] at h; injection h with h; omega
      | cons c t =>
        rw [h2] at h
        dsimp only at h
        split at h
        · cases h
        · split at h
          · cases h5 : lstP f n t with
            | error e => rw [h5] at h; injection h with h; subst h; exact lstP_err hf n _ _ h5
            | ok p => rw [h5] at h; cases h
          · injection h with h; omega
theorem mbrP_err {f : List UInt8 → Except Nat (J × List UInt8)} (hf : ErrOk f) : ∀ (n : Nat) (seen : List (List UInt8)) (s : List UInt8) (k : Nat), mbrP f n seen s = .error k → k ≠ 0
  | 0, _, s, k, h => by rw [mbrP] at h; injection h with h; omega
  | n + 1, seen, s, k, h => by
    rw [mbrP] at h
    cases h0 : blL s with
    | nil => rw [h0] at h; injection h with h; omega
    | cons q s1 =>
      rw [h0] at h
      dsimp only at h
      split at h
      · cases ht : textL s1 with
        | none => rw [ht] at h; injection h with h; omega
        | some p =>
          obtain ⟨nm, s2⟩ := p
          rw [ht] at h
          dsimp only at h
          split at h
          · injection h with h; omega
          · cases hb : blL s2 with
            | nil => rw [hb] at h; injection h with h; omega
            | cons k3 s3 =>
              rw [hb] at h
              dsimp only at h
              split at h
              · cases h1 : f s3 with
                | error e => rw [h1] at h; injection h with h; subst h; exact hf _ _ h1
                | ok p =>
                  obtain ⟨x, u⟩ := p
                  rw [h1] at h
                  dsimp only at h
                  cases h2 : blL u with
                  | nil => rw [h2] at h; injection h with h; omega
                  | cons c t =>
                    rw [h2] at h
                    dsimp only at h
                    split at h
                    · cases h
                    · split at h
                      · cases h5 : mbrP f n (seen ++ [nm]) t with
                        | error e => rw [h5] at h; injection h with h; subst h; exact mbrP_err hf n _ _ _ h5
                        | ok p => rw [h5] at h; cases h
                      · injection h with h; omega
              · injection h with h; omega
      · injection h with h; omega
theorem wordW_err {w : List UInt8} {j : J} {s : List UInt8} {k : Nat} (h : wordW w j s = .error k) : k ≠ 0 := by
  unfold wordW at h
  split at h
  · cases h
  · injection h with h; omega
theorem numW_err {s : List UInt8} {k : Nat} (h : numW s = .error k) : k ≠ 0 := by
  unfold numW at h
  split at h
  · injection h with h; omega
  · split at h
    · cases h
    · rename_i hz
      have hb := parseL_bd6 (s.take (scanL s))
      injection h with h
      omega
theorem valW_err {l o : List UInt8 → Except Nat (J × List UInt8)} (hl : ErrOk l) (ho : ErrOk o) : ErrOk (valW l o) := by
  intro s k h
  unfold valW at h
  cases h0 : blL s with
  | nil => rw [h0] at h; injection h with h; omega
  | cons c t =>
    rw [h0] at h
    dsimp only at h
    split at h
    · exact wordW_err h
    · split at h
      · exact wordW_err h
      · split at h
        · exact wordW_err h
        · split at h
          · cases ht : textL t with
            | none => rw [ht] at h; injection h with h; omega
            | some p => rw [ht] at h; cases h
          · split at h
            · exact hl _ _ h
            · split at h
              · exact ho _ _ h
              · exact numW_err h
theorem lstW_err {f : List UInt8 → Except Nat (J × List UInt8)} (hf : ErrOk f) : ErrOk (lstW f) := by
  intro s k h
  unfold lstW at h
  split at h
  · cases h
  · cases h5 : lstP f ((blL s).length + 1) (blL s) with
    | error e => rw [h5] at h; injection h with h; subst h; exact lstP_err hf _ _ _ h5
    | ok p => rw [h5] at h; cases h
theorem mbrW_err {f : List UInt8 → Except Nat (J × List UInt8)} (hf : ErrOk f) : ErrOk (mbrW f) := by
  intro s k h
  unfold mbrW at h
  split at h
  · cases h
  · cases h5 : mbrP f ((blL s).length + 1) [] (blL s) with
    | error e => rw [h5] at h; injection h with h; subst h; exact mbrP_err hf _ _ _ _ h5
    | ok p => rw [h5] at h; cases h
theorem valT_err : ∀ d, ErrOk (valT d)
  | 0 => fun s k h => valW_err (l := fun _ => .error 10) (o := fun _ => .error 10) (fun _ _ h => by injection h with h; omega) (fun _ _ h => by injection h with h; omega) s k (by rw [valT] at h; exact h)
  | d + 1 => fun s k h => valW_err (lstW_err (valT_err d)) (mbrW_err (valT_err d)) s k (by rw [valT] at h; exact h)
end Go.Proofs.YtfmadoeadmclbaaGreatDoor
