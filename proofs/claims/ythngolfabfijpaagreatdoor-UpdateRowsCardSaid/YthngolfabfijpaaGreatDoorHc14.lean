/-
  Values whose memory is owned. The walk of json's copied.
-/
import Derived.Test.YthngolfabfijpaaGreatDoorHc0
import Derived.Test.YthngolfabfijpaaGreatDoorHc5
import Derived.Test.YthngolfabfijpaaGreatDoorHc1
import Derived.Test.YthngolfabfijpaaGreatDoorHc2
import Derived.Test.YthngolfabfijpaaGreatDoorHc10
namespace Go.Proofs.YthngolfabfijpaaGreatDoor
open Go.RowKit Go.TL
set_option maxRecDepth 100000

mutual
def TrJ : J → Value → List Ent → Prop
  | .null, v, M => v = .nilIface ∧ M = []
  | .bool b, v, M => v = .iface 4 (.bool b) ∧ M = []
  | .num n, v, M => v = .iface 50 (.int .i64 n) ∧ (-9223372036854775808 ≤ n ∧ n ≤ 9223372036854775807) ∧ M = []
  | .text s, v, M => v = .iface 9 (str s) ∧ M = []
  | .list xs, v, M => ∃ ao cap flat Ms, v = .iface 54 (.slice ao xs.length cap) ∧ M = .row 20 1 (.slice ao xs.length cap) xs.length flat :: Ms ∧ TrJs xs flat Ms
  | .obj ns xs, v, M => ∃ ao cap flat Ms, v = .iface 43 (.slice ao xs.length cap) ∧ M = .row 47 2 (.slice ao xs.length cap) xs.length flat :: Ms ∧ TrMs ns xs flat Ms
  | .other k, v, M => v = .iface 3 (.int .i64 k) ∧ M = []
def TrJs : List J → List Value → List Ent → Prop
  | [], flat, M => flat = [] ∧ M = []
  | x :: r, flat, M => ∃ v fl M1 M2, flat = v :: fl ∧ M = M1 ++ M2 ∧ TrJ x v M1 ∧ TrJs r fl M2
def TrMs : List (List UInt8) → List J → List Value → List Ent → Prop
  | [], [], flat, M => flat = [] ∧ M = []
  | n :: ns, x :: r, flat, M => ∃ v fl M1 M2, flat = str n :: v :: fl ∧ M = M1 ++ M2 ∧ TrJ x v M1 ∧ TrMs ns r fl M2
  | [], _ :: _, _, _ => False
  | _ :: _, [], _, _ => False
end
theorem TrJ.one {j : J} {v : Value} {M : List Ent} (h : TrJ j v M) : v.one = true := by
  cases j <;> rw [TrJ] at h <;> first | (obtain ⟨rfl, _⟩ := h; rfl) | (obtain ⟨_, _, _, _, rfl, _⟩ := h; rfl)
mutual
theorem TrJ.fr : ∀ (j : J) (v : Value) (M : List Ent), TrJ j v M → ∀ {g : Gh} {L : List Ent} {w : World}, St g (M ++ L) w → ∃ g', g.le g' ∧ IsJ g' j v ∧ St g' L w
  | .null, v, M, h, g, L, w, hs => by rw [TrJ] at h; obtain ⟨rfl, rfl⟩ := h; exact ⟨g, .refl g, by rw [IsJ], hs⟩
  | .bool b, v, M, h, g, L, w, hs => by rw [TrJ] at h; obtain ⟨rfl, rfl⟩ := h; exact ⟨g, .refl g, by rw [IsJ], hs⟩
  | .num n, v, M, h, g, L, w, hs => by rw [TrJ] at h; obtain ⟨rfl, hb, rfl⟩ := h; exact ⟨g, .refl g, by rw [IsJ]; exact ⟨rfl, hb⟩, hs⟩
  | .text s, v, M, h, g, L, w, hs => by rw [TrJ] at h; obtain ⟨rfl, rfl⟩ := h; exact ⟨g, .refl g, by rw [IsJ], hs⟩
  | .other k, v, M, h, g, L, w, hs => by rw [TrJ] at h; obtain ⟨rfl, rfl⟩ := h; exact ⟨g, .refl g, by rw [IsJ], hs⟩
  | .list xs, v, M, h, g, L, w, hs => by
    rw [TrJ] at h
    obtain ⟨ao, cap, flat, Ms, rfl, rfl, h⟩ := h
    rw [List.cons_append] at hs
    obtain ⟨g2, hg2, hj, hs2⟩ := TrJs.fr xs flat Ms h hs.freeze.2
    exact ⟨g2, hs.freeze.1.trans hg2, by rw [IsJ]; exact ⟨_, flat, rfl, (sl_of_row hs).le hg2, hj⟩, hs2⟩
  | .obj ns xs, v, M, h, g, L, w, hs => by
    rw [TrJ] at h
    obtain ⟨ao, cap, flat, Ms, rfl, rfl, h⟩ := h
    rw [List.cons_append] at hs
    obtain ⟨g2, hg2, hj, hs2⟩ := TrMs.fr ns xs flat Ms h hs.freeze.2
    exact ⟨g2, hs.freeze.1.trans hg2, by rw [IsJ]; exact ⟨_, flat, rfl, (sl_of_row hs).le hg2, hj⟩, hs2⟩
theorem TrJs.fr : ∀ (l : List J) (flat : List Value) (M : List Ent), TrJs l flat M → ∀ {g : Gh} {L : List Ent} {w : World}, St g (M ++ L) w → ∃ g', g.le g' ∧ IsJs g' l flat ∧ St g' L w
  | [], flat, M, h, g, L, w, hs => by rw [TrJs] at h; obtain ⟨rfl, rfl⟩ := h; exact ⟨g, .refl g, by rw [IsJs], hs⟩
  | x :: r, flat, M, h, g, L, w, hs => by
    rw [TrJs] at h
    obtain ⟨v, fl, M1, M2, rfl, rfl, h1, h2⟩ := h
    rw [List.append_assoc] at hs
    obtain ⟨g1, hg1, hj1, hs1⟩ := TrJ.fr x v M1 h1 hs
    obtain ⟨g2, hg2, hj2, hs2⟩ := TrJs.fr r fl M2 h2 hs1
    exact ⟨g2, hg1.trans hg2, by rw [IsJs]; exact ⟨v, fl, rfl, IsJ.le hg2 _ _ hj1, hj2⟩, hs2⟩
theorem TrMs.fr : ∀ (ns : List (List UInt8)) (l : List J) (flat : List Value) (M : List Ent), TrMs ns l flat M → ∀ {g : Gh} {L : List Ent} {w : World}, St g (M ++ L) w → ∃ g', g.le g' ∧ IsMs g' ns l flat ∧ St g' L w
  | [], [], flat, M, h, g, L, w, hs => by rw [TrMs] at h; obtain ⟨rfl, rfl⟩ := h; exact ⟨g, .refl g, by rw [IsMs], hs⟩
  | n :: ns, x :: r, flat, M, h, g, L, w, hs => by
    rw [TrMs] at h
    obtain ⟨v, fl, M1, M2, rfl, rfl, h1, h2⟩ := h
    rw [List.append_assoc] at hs
    obtain ⟨g1, hg1, hj1, hs1⟩ := TrJ.fr x v M1 h1 hs
    obtain ⟨g2, hg2, hj2, hs2⟩ := TrMs.fr ns r fl M2 h2 hs1
    exact ⟨g2, hg1.trans hg2, by rw [IsMs]; exact ⟨v, fl, rfl, IsJ.le hg2 _ _ hj1, hj2⟩, hs2⟩
  | [], _ :: _, _, _, h, _, _, _, _ => by rw [TrMs] at h; exact h.elim
  | _ :: _, [], _, _, h, _, _, _, _ => by rw [TrMs] at h; exact h.elim
end
mutual
theorem TrJ.with : ∀ (j : J) (v : Value) (M : List Ent), TrJ j v M → ∀ (g : Gh) (w : World) (bs : List Nat), (∀ e ∈ M, e.st w) → (∀ b ∈ fps M, b ∈ bs) → IsJ (g.with bs w) j v
  | .null, v, M, h, g, w, bs, _, _ => by rw [TrJ] at h; rw [IsJ]; exact h.1
  | .bool b, v, M, h, g, w, bs, _, _ => by rw [TrJ] at h; rw [IsJ]; exact h.1
  | .num n, v, M, h, g, w, bs, _, _ => by rw [TrJ] at h; rw [IsJ]; exact ⟨h.1, h.2.1⟩
  | .text s, v, M, h, g, w, bs, _, _ => by rw [TrJ] at h; rw [IsJ]; exact h.1
  | .other k, v, M, h, g, w, bs, _, _ => by rw [TrJ] at h; rw [IsJ]; exact h.1
  | .list xs, v, M, h, g, w, bs, hs, hb => by
    rw [TrJ] at h
    obtain ⟨ao, cap, flat, Ms, rfl, rfl, h⟩ := h
    rw [IsJ]
    refine ⟨_, flat, rfl, sl_with (e := 20) (hs _ List.mem_cons_self) (fun b h2 => hb b (by simp [Ent.fp, h2])), TrJs.with xs flat Ms h g w bs (fun e he => hs e (List.mem_cons_of_mem _ he)) (fun b h2 => hb b (by rw [fps_cons]; exact List.mem_append_right _ h2))⟩
  | .obj ns xs, v, M, h, g, w, bs, hs, hb => by
    rw [TrJ] at h
    obtain ⟨ao, cap, flat, Ms, rfl, rfl, h⟩ := h
    rw [IsJ]
    refine ⟨_, flat, rfl, sl_with (e := 47) (hs _ List.mem_cons_self) (fun b h2 => hb b (by simp [Ent.fp, h2])), TrMs.with ns xs flat Ms h g w bs (fun e he => hs e (List.mem_cons_of_mem _ he)) (fun b h2 => hb b (by rw [fps_cons]; exact List.mem_append_right _ h2))⟩
theorem TrJs.with : ∀ (l : List J) (flat : List Value) (M : List Ent), TrJs l flat M → ∀ (g : Gh) (w : World) (bs : List Nat), (∀ e ∈ M, e.st w) → (∀ b ∈ fps M, b ∈ bs) → IsJs (g.with bs w) l flat
  | [], flat, M, h, g, w, bs, _, _ => by rw [TrJs] at h; rw [IsJs]; exact h.1
  | x :: r, flat, M, h, g, w, bs, hs, hb => by
    rw [TrJs] at h
    obtain ⟨v, fl, M1, M2, rfl, rfl, h1, h2⟩ := h
    rw [IsJs]
    exact ⟨v, fl, rfl, TrJ.with x v M1 h1 g w bs (fun e he => hs e (List.mem_append_left _ he)) (fun b h2 => hb b (by rw [fps_append]; exact List.mem_append_left _ h2)), TrJs.with r fl M2 h2 g w bs (fun e he => hs e (List.mem_append_right _ he)) (fun b h2 => hb b (by rw [fps_append]; exact List.mem_append_right _ h2))⟩
theorem TrMs.with : ∀ (ns : List (List UInt8)) (l : List J) (flat : List Value) (M : List Ent), TrMs ns l flat M → ∀ (g : Gh) (w : World) (bs : List Nat), (∀ e ∈ M, e.st w) → (∀ b ∈ fps M, b ∈ bs) → IsMs (g.with bs w) ns l flat
  | [], [], flat, M, h, g, w, bs, _, _ => by rw [TrMs] at h; rw [IsMs]; exact h.1
  | n :: ns, x :: r, flat, M, h, g, w, bs, hs, hb => by
    rw [TrMs] at h
    obtain ⟨v, fl, M1, M2, rfl, rfl, h1, h2⟩ := h
    rw [IsMs]
    exact ⟨v, fl, rfl, TrJ.with x v M1 h1 g w bs (fun e he => hs e (List.mem_append_left _ he)) (fun b h2 => hb b (by rw [fps_append]; exact List.mem_append_left _ h2)), TrMs.with ns r fl M2 h2 g w bs (fun e he => hs e (List.mem_append_right _ he)) (fun b h2 => hb b (by rw [fps_append]; exact List.mem_append_right _ h2))⟩
  | [], _ :: _, _, _, h, _, _, _, _, _ => by rw [TrMs] at h; exact h.elim
  | _ :: _, [], _, _, h, _, _, _, _, _ => by rw [TrMs] at h; exact h.elim
end
theorem TrJs.snoc : ∀ {l : List J} {flat : List Value} {M : List Ent} {x : J} {v : Value} {M' : List Ent}, TrJs l flat M → TrJ x v M' → TrJs (l ++ [x]) (flat ++ [v]) (M ++ M')
  | [], flat, M, x, v, M', h, hx => by
    rw [TrJs] at h; obtain ⟨rfl, rfl⟩ := h
    rw [List.nil_append, List.nil_append, List.nil_append, TrJs]
    exact ⟨v, [], M', [], rfl, by simp, hx, by rw [TrJs]; exact ⟨rfl, rfl⟩⟩
  | y :: r, flat, M, x, v, M', h, hx => by
    rw [TrJs] at h
    obtain ⟨u, fl, M1, M2, rfl, rfl, h1, h2⟩ := h
    rw [List.cons_append, List.cons_append, TrJs]
    exact ⟨u, fl ++ [v], M1, M2 ++ M', rfl, by rw [List.append_assoc], h1, h2.snoc hx⟩
theorem TrMs.snoc : ∀ {ns : List (List UInt8)} {l : List J} {flat : List Value} {M : List Ent} {s : List UInt8} {x : J} {v : Value} {M' : List Ent}, TrMs ns l flat M → TrJ x v M' → TrMs (ns ++ [s]) (l ++ [x]) (flat ++ [str s, v]) (M ++ M')
  | [], [], flat, M, s, x, v, M', h, hx => by
    rw [TrMs] at h; obtain ⟨rfl, rfl⟩ := h
    rw [List.nil_append, List.nil_append, List.nil_append, List.nil_append, TrMs]
    exact ⟨v, [], M', [], rfl, by simp, hx, by rw [TrMs]; exact ⟨rfl, rfl⟩⟩
  | n :: ns, y :: r, flat, M, s, x, v, M', h, hx => by
    rw [TrMs] at h
    obtain ⟨u, fl, M1, M2, rfl, rfl, h1, h2⟩ := h
    rw [List.cons_append, List.cons_append, List.cons_append, List.cons_append, TrMs]
    exact ⟨u, fl ++ [str s, v], M1, M2 ++ M', rfl, by rw [List.append_assoc], h1, h2.snoc hx⟩
  | [], _ :: _, _, _, _, _, _, _, h, _ => by rw [TrMs] at h; exact h.elim
  | _ :: _, [], _, _, _, _, _, _, h, _ => by rw [TrMs] at h; exact h.elim
theorem TrMs.len : ∀ {ns : List (List UInt8)} {l : List J} {flat : List Value} {M : List Ent}, TrMs ns l flat M → ns.length = l.length
  | [], [], _, _, _ => rfl
  | n :: ns, x :: r, _, _, h => by
    rw [TrMs] at h
    obtain ⟨_, _, _, _, _, _, _, h2⟩ := h
    simp [h2.len]
  | [], _ :: _, _, _, h => by rw [TrMs] at h; exact h.elim
  | _ :: _, [], _, _, h => by rw [TrMs] at h; exact h.elim
theorem TrJs.at : ∀ {l : List J} {flat : List Value} {M : List Ent} {i : Nat} {x : J}, TrJs l flat M → l[i]? = some x → ∃ v M1 M2 M3, flat[i]? = some v ∧ M = M1 ++ (M2 ++ M3) ∧ TrJ x v M2 ∧
    (∀ x' v' M', TrJ x' v' M' → TrJs (l.set i x') (flat.set i v') (M1 ++ (M' ++ M3)))
  | [], _, _, _, _, _, h => by simp at h
  | y :: r, flat, M, 0, x, h, hx => by
    rw [TrJs] at h
    obtain ⟨u, fl, M1, M2, rfl, rfl, h1, h2⟩ := h
    obtain rfl : y = x := by simpa using hx
    refine ⟨u, [], M1, M2, rfl, rfl, h1, fun x' v' M' h' => ?_⟩
    rw [List.set_cons_zero, List.set_cons_zero, TrJs]
    exact ⟨v', fl, M', M2, rfl, rfl, h', h2⟩
  | y :: r, flat, M, i + 1, x, h, hx => by
    rw [TrJs] at h
    obtain ⟨u, fl, M1, M2, rfl, rfl, h1, h2⟩ := h
    obtain ⟨v, A, B, C, e1, rfl, e3, e4⟩ := h2.at (i := i) (by simpa using hx)
    refine ⟨v, M1 ++ A, B, C, by simpa using e1, by rw [List.append_assoc], e3, fun x' v' M' h' => ?_⟩
    rw [List.set_cons_succ, List.set_cons_succ, TrJs]
    exact ⟨u, _, M1, _, rfl, by rw [List.append_assoc], h1, e4 x' v' M' h'⟩
theorem TrMs.at : ∀ {ns : List (List UInt8)} {l : List J} {flat : List Value} {M : List Ent} {i : Nat} {x : J}, TrMs ns l flat M → l[i]? = some x → ∃ s v M1 M2 M3, ns[i]? = some s ∧ flat[i * 2]? = some (str s) ∧ flat[i * 2 + 1]? = some v ∧ M = M1 ++ (M2 ++ M3) ∧ TrJ x v M2 ∧
    (∀ x' v' M', TrJ x' v' M' → TrMs ns (l.set i x') (flat.set (i * 2 + 1) v') (M1 ++ (M' ++ M3)))
  | [], [], _, _, _, _, _, h => by simp at h
  | n :: ns, y :: r, flat, M, 0, x, h, hx => by
    rw [TrMs] at h
    obtain ⟨u, fl, M1, M2, rfl, rfl, h1, h2⟩ := h
    obtain rfl : y = x := by simpa using hx
    refine ⟨n, u, [], M1, M2, rfl, rfl, rfl, rfl, h1, fun x' v' M' h' => ?_⟩
    rw [List.set_cons_zero, Nat.zero_mul, List.set_cons_succ, List.set_cons_zero, TrMs]
    exact ⟨v', fl, M', M2, rfl, rfl, h', h2⟩
  | n :: ns, y :: r, flat, M, i + 1, x, h, hx => by
    rw [TrMs] at h
    obtain ⟨u, fl, M1, M2, rfl, rfl, h1, h2⟩ := h
    obtain ⟨s, v, A, B, C, e0, e1, e2, rfl, e3, e4⟩ := h2.at (i := i) (by simpa using hx)
    refine ⟨s, v, M1 ++ A, B, C, by simpa using e0, by rw [show (i + 1) * 2 = i * 2 + 2 by omega]; simpa using e1, by rw [show (i + 1) * 2 + 1 = i * 2 + 1 + 2 by omega]; simpa using e2, by rw [List.append_assoc], e3, fun x' v' M' h' => ?_⟩
    rw [show (i + 1) * 2 + 1 = i * 2 + 1 + 1 + 1 by omega, List.set_cons_succ, List.set_cons_succ, List.set_cons_succ, TrMs]
    exact ⟨u, _, M1, _, rfl, by rw [List.append_assoc], h1, e4 x' v' M' h'⟩
  | [], _ :: _, _, _, _, _, h, _ => by rw [TrMs] at h; exact h.elim
  | _ :: _, [], _, _, _, _, h, _ => by rw [TrMs] at h; exact h.elim
end Go.Proofs.YthngolfabfijpaaGreatDoor
namespace Go.TL
open Go Go.RowKit Go.Proofs.YthngolfabfijpaaGreatDoor
section
variable {P : Program} {ops : Array Oper} {Q : Exit → Act → World → Prop} {l : List Oper} {n : Nat} {ds : List Deferred} {S : Slots} {g : Gh} {L L' M : List Ent} {j : J} {v : Value}
theorem TL.freeze_tree (hm : Pick (Go.TL.grp M) L L') (ht : TrJ j v M) (kk : ∀ g', g.le g' → IsJ g' j v → TL P ops Q l n ds S g' L') : TL P ops Q l n ds S g L := .mk fun a w hf hs => by
  obtain ⟨g', hg, hj, hs'⟩ := TrJ.fr j v M ht (hs.perm hm.perm).ungrp
  exact (kk g' hg hj).h a w hf hs'
theorem TC.freeze_tree {c : Code} (hm : Pick (Go.TL.grp M) L L') (ht : TrJ j v M) (kk : ∀ g', g.le g' → IsJ g' j v → TC P Q c n ds S g' L') : TC P Q c n ds S g L := .mk fun a w hf hs => by
  obtain ⟨g', hg, hj, hs'⟩ := TrJ.fr j v M ht (hs.perm hm.perm).ungrp
  exact (kk g' hg hj).h a w hf hs'
theorem TQ.freeze_tree {c : Exit} (hm : Pick (Go.TL.grp M) L L') (ht : TrJ j v M) (kk : ∀ g', g.le g' → IsJ g' j v → TQ Q c n ds S g' L') : TQ Q c n ds S g L := .mk fun a w hf hs => by
  obtain ⟨g', hg, hj, hs'⟩ := TrJ.fr j v M ht (hs.perm hm.perm).ungrp
  exact (kk g' hg hj).h a w hf hs'
end
end Go.TL
namespace Go.Proofs.YthngolfabfijpaaGreatDoor
open Go.RowKit Go.TL
set_option maxRecDepth 100000

def CopyR (x : J) (g : Gh) (L : List Ent) : Ending → Gh → List Ent → Prop := fun r g' L1 => ∃ v M, r = .returned v ∧ g' = g ∧ L1 = grp M :: L ∧ TrJ x v M
set_option maxHeartbeats 16000000 in
theorem copied_does : ∀ (N : Nat) (x : J), jsz x ≤ N → ∀ (v : Value) (g : Gh) (L : List Ent), IsJ g x v → smJ x → Does Tryz.prog 55 #[v] g L (CopyR x g L)
  | 0, x, h, _, _, _, _, _ => by cases x <;> (rw [jsz] at h; omega)
  | N + 1, .null, hN, v, g, L, hV, hS => by
    rw [IsJ] at hV
    subst hV
    refine Does.of1 Tryz.func55 rfl Tryz.ntmps55 rfl ?_
    repeat' (first
    | refine wkV ?_
    | refine stS ?_ | (refine stB ?_; intro _) | (refine stC ?_; refine And.intro (fun _ => ?_) (fun _ => ?_)))
    refine TQ.grp_nil ?_
    refine TQ.endR1 (L' := (grp [] :: L)) Tryz.results55 rvA rfl (.refl _) ?_ selA
    exact ⟨_, [], rfl, rfl, rfl, by rw [TrJ]; exact ⟨rfl, rfl⟩⟩
  | N + 1, .bool b, hN, v, g, L, hV, hS => by
    rw [IsJ] at hV
    subst hV
    refine Does.of1 Tryz.func55 rfl Tryz.ntmps55 rfl ?_
    repeat' (first
    | refine wkV ?_
    | refine stS ?_ | (refine stB ?_; intro _) | (refine stC ?_; refine And.intro (fun _ => ?_) (fun _ => ?_)))
    refine TQ.grp_nil ?_
    refine TQ.endR1 (L' := (grp [] :: L)) Tryz.results55 rvA rfl (.refl _) ?_ selA
    exact ⟨_, [], rfl, rfl, rfl, by rw [TrJ]; exact ⟨rfl, rfl⟩⟩
  | N + 1, .num n, hN, v, g, L, hV, hS => by
    rw [IsJ] at hV
    obtain ⟨rfl, hb⟩ := hV
    refine Does.of1 Tryz.func55 rfl Tryz.ntmps55 rfl ?_
    repeat' (first
    | refine wkV ?_
    | refine stS ?_ | (refine stB ?_; intro _) | (refine stC ?_; refine And.intro (fun _ => ?_) (fun _ => ?_)))
    refine TQ.grp_nil ?_
    refine TQ.endR1 (L' := (grp [] :: L)) Tryz.results55 rvA rfl (.refl _) ?_ selA
    exact ⟨_, [], rfl, rfl, rfl, by rw [TrJ]; exact ⟨rfl, hb, rfl⟩⟩
  | N + 1, .text s, hN, v, g, L, hV, hS => by
    rw [IsJ] at hV
    subst hV
    refine Does.of1 Tryz.func55 rfl Tryz.ntmps55 rfl ?_
    repeat' (first
    | refine wkV ?_
    | refine stS ?_ | (refine stB ?_; intro _) | (refine stC ?_; refine And.intro (fun _ => ?_) (fun _ => ?_)))
    refine TQ.grp_nil ?_
    refine TQ.endR1 (L' := (grp [] :: L)) Tryz.results55 rvA rfl (.refl _) ?_ selA
    exact ⟨_, [], rfl, rfl, rfl, by rw [TrJ]; exact ⟨rfl, rfl⟩⟩
  | N + 1, .other k, hN, v, g, L, hV, hS => by
    rw [IsJ] at hV
    subst hV
    refine Does.of1 Tryz.func55 rfl Tryz.ntmps55 rfl ?_
    repeat' (first
    | refine wkV ?_
    | refine stS ?_ | (refine stB ?_; intro _) | (refine stC ?_; refine And.intro (fun _ => ?_) (fun _ => ?_)))
    refine TQ.grp_nil ?_
    refine TQ.endR1 (L' := (grp [] :: L)) Tryz.results55 rvA rfl (.refl _) ?_ selA
    exact ⟨_, [], rfl, rfl, rfl, by rw [TrJ]; exact ⟨rfl, rfl⟩⟩
  | N + 1, .list xs, hN, v, g, L, hV, hS => by
    have IH := copied_does N
    rw [jsz] at hN
    rw [IsJ] at hV
    obtain ⟨sl, flat, rfl, hSl, hJs⟩ := hV
    obtain ⟨ao, cap, rfl⟩ := hSl.slice
    rw [smJ] at hS
    obtain ⟨hl, hS⟩ := hS
    refine Does.of1 Tryz.func55 rfl Tryz.ntmps55 rfl ?_
    repeat' (first
    | refine wkV ?_
    | ((with_reducible apply TL.make_room); (· rfl); (· rfl); (· rfl); (· omega); (· unfold maxLen; omega); (· rfl); intro _)
    | refine stS ?_ | (refine stB ?_; intro _) | (refine stC ?_; refine And.intro (fun _ => ?_) (fun _ => ?_)))
    rename_i b0
    refine TC.grp_nil ?_
    refine TC.loopL (α := Nat × Value × List Value × List Ent) (fun x => x.1 ≤ xs.length ∧ x.2.2.1.length = x.1 ∧ TrJs (xs.take x.1) x.2.2.1 x.2.2.2) (fun x => xs.length - x.1) (fun x _ => [(20, .int .i64 (x.1 : Nat)), (19, .int .i64 (xs.length : Nat)), (18, .slice ao xs.length cap), (4, x.2.1)]) (fun x => grp x.2.2.2 :: .row 20 1 x.2.1 x.1 x.2.2.1 :: L) (0, .slice (some ⟨b0, 0, none⟩) 0 xs.length, [], []) ⟨Nat.zero_le _, rfl, by rw [List.take_zero, TrJs]; exact ⟨rfl, rfl⟩⟩ subA selA ?_
    rintro ⟨i, ov, fl, M⟩ ⟨hi, hfl, hT⟩
    dsimp only at hi hfl hT ⊢
    by_cases hlt : i < xs.length
    · obtain ⟨x, hx⟩ : ∃ x, xs[i]? = some x := ⟨_, List.getElem?_eq_getElem hlt⟩
      obtain ⟨v, hv, hJ⟩ := hJs.get hx
      obtain ⟨b1, o1, rfl, hg⟩ := hSl.elem hlt (by decide)
      have hld : g.cell b1 (o1 + i * 1) = some v := hg 0 v (by rw [Nat.mul_one]; exact hv)
      have hsz := jsz_get hx
      have A := fun L => IH x (by omega) v g L hJ (smJs_get hS hx)
      unfold CopyR at A
      have hlast : xs.take (i + 1) = xs.take i ++ [x] := by rw [List.take_add_one, hx]; rfl
      clear hJs hSl hg hS hv hJ IH
      repeat' (first
    | refine wkV ?_
    | (refine TL.call (Enters.plain (by kernel_rfl) (by rfl)) (by rfl) (A _) ?_; (rintro e g1 Ln hg1 ⟨vj, Mj, k1, k2, k3, htj⟩; have k2 := k2.symm; subst k1; subst k2; subst k3; have ho := TrJ.one htj; refine CallK.ret ?_))
    | ((with_reducible apply TL.build_slice); (· rfl); (· rfl); (· exact oneA); (· rfl); (· rfl); (· rfl); intro _) | refine TL.build_one (by rfl) (by first | rfl | assumption) (by rfl) (by rfl) (by rfl) (by rfl) (fun _ => ?_) | refine TL.build_empty (by rfl) (fun _ => ?_)
    | ((with_reducible apply TL.append); (· rfl); (· rfl); (· rfl); (· rfl); (· exact pkA); (· first | exact Src.obj pkA | exact Src.sl (by assumption) | exact Src.row pkA); (· first | rfl | exact (byteVals_length _).trans (Nat.mul_one _).symm); (· first | exact byteVals_all _ | exact oneA); (· exact ⟨by unfold maxLen; omega, by omega⟩); (· rfl); intro _)
    | refine stS ?_ | (refine stB ?_; intro _) | (refine stC ?_; refine And.intro (fun _ => ?_) (fun _ => ?_)))
      rename_i b2 v'
      refine TQ.join (M1 := Mj) (M2 := M) pkA pkA ?_
      refine TQ.round (i + 1, v', fl ++ [vj], M ++ Mj) ?_ ?_ rfl subA selA
      · refine ⟨by dsimp only; omega, by simp [hfl], ?_⟩
        show TrJs (xs.take (i + 1)) (fl ++ [vj]) (M ++ Mj)
        rw [hlast]
        exact hT.snoc htj
      · show xs.length - (i + 1) < xs.length - i
        omega
    · obtain rfl : i = xs.length := by omega
      rw [List.take_length] at hT
      clear hJs hSl hS IH
      refine TC.row_slice (v := ov) pkA ?_
      rintro a2 c2 rfl _
      repeat' (first
    | refine wkV ?_
    | refine stS ?_ | (refine stB ?_; intro _) | (refine stC ?_; refine And.intro (fun _ => ?_) (fun _ => ?_)))
      refine TQ.gcons (e := .row 20 1 (.slice a2 xs.length c2) xs.length fl) (M := M) pkA pkA ?_
      refine TQ.endR1 (L' := (grp (.row 20 1 (.slice a2 xs.length c2) xs.length fl :: M) :: L)) Tryz.results55 rvA rfl (.refl _) ?_ selA
      exact ⟨_, _, rfl, rfl, rfl, by rw [TrJ]; exact ⟨a2, c2, fl, M, rfl, rfl, hT⟩⟩
  | N + 1, .obj ns xs, hN, v, g, L, hV, hS => by
    have IH := copied_does N
    rw [jsz] at hN
    rw [IsJ] at hV
    obtain ⟨sl, flat, rfl, hSl, hMs⟩ := hV
    obtain ⟨ao, cap, rfl⟩ := hSl.slice
    rw [smJ] at hS
    obtain ⟨hl, hnl, hS⟩ := hS
    have hnx := hMs.len
    refine Does.of1 Tryz.func55 rfl Tryz.ntmps55 rfl ?_
    repeat' (first
    | refine wkV ?_
    | ((with_reducible apply TL.make_room); (· rfl); (· rfl); (· rfl); (· omega); (· unfold maxLen; omega); (· rfl); intro _)
    | refine stS ?_ | (refine stB ?_; intro _) | (refine stC ?_; refine And.intro (fun _ => ?_) (fun _ => ?_)))
    rename_i b0
    refine TC.grp_nil ?_
    refine TC.loopL (α := Nat × Value × List Value × List Ent) (fun x => x.1 ≤ xs.length ∧ x.2.2.1.length = x.1 * 2 ∧ TrMs (ns.take x.1) (xs.take x.1) x.2.2.1 x.2.2.2) (fun x => xs.length - x.1) (fun x _ => [(40, .int .i64 (x.1 : Nat)), (39, .int .i64 (xs.length : Nat)), (38, .slice ao xs.length cap), (8, x.2.1)]) (fun x => grp x.2.2.2 :: .row 47 2 x.2.1 x.1 x.2.2.1 :: L) (0, .slice (some ⟨b0, 0, none⟩) 0 xs.length, [], []) ⟨Nat.zero_le _, rfl, by rw [List.take_zero, List.take_zero, TrMs]; exact ⟨rfl, rfl⟩⟩ subA selA ?_
    rintro ⟨i, ov, fl, M⟩ ⟨hi, hfl, hT⟩
    dsimp only at hi hfl hT ⊢
    by_cases hlt : i < xs.length
    · obtain ⟨x, hx⟩ : ∃ x, xs[i]? = some x := ⟨_, List.getElem?_eq_getElem hlt⟩
      obtain ⟨nm, v, hnm, hv0, hv1, hJ⟩ := hMs.get hx
      obtain ⟨b1, o1, rfl, hg⟩ := hSl.elem hlt (by decide)
      have hld : ∀ j u, [str nm, v][j]? = some u → g.cell b1 (o1 + i * 2 + j) = some u := fun j u hu => by
        match j, hu with
        | 0, hu => simp at hu; subst hu; exact hg 0 _ hv0
        | 1, hu => simp at hu; subst hu; exact hg 1 _ hv1
        | j + 2, hu => simp at hu
      have hll : [str nm, v].length = 2 := rfl
      have hone := hJ.one
      have hsz := jsz_get hx
      have A := fun L => IH x (by omega) v g L hJ (smJs_get hS hx)
      unfold CopyR at A
      have hlast : xs.take (i + 1) = xs.take i ++ [x] := by rw [List.take_add_one, hx]; rfl
      have hlast2 : ns.take (i + 1) = ns.take i ++ [nm] := by rw [List.take_add_one, hnm]; rfl
      clear hMs hSl hg hS hv0 hv1 hJ IH hnl
      repeat' (first
    | refine wkV ?_
    | refine stS ?_ | (refine stB ?_; intro _) | (refine stC ?_; refine And.intro (fun _ => ?_) (fun _ => ?_)))
      rename_i b2
      repeat' (first
    | refine wkV ?_
    | ((with_reducible apply TA.take 0); (· decide +kernel); (· rfl); (· (first | exact yA | exact yB | exact yM | exact yV)); (· decide +kernel); (· decide +kernel); (· rfl); (· exact fun _ _ _ h => h); (· rfl))
    | ((with_reducible apply TA.take 1); (· decide +kernel); (· rfl); (· (first | exact yA | exact yB | exact yM | exact yV)); (· decide +kernel); (· decide +kernel); (· rfl); (· exact fun _ _ _ h => h); (· rfl))
    | ((with_reducible apply TA.take 2); (· decide +kernel); (· rfl); (· (first | exact yA | exact yB | exact yM | exact yV)); (· decide +kernel); (· decide +kernel); (· rfl); (· exact fun _ _ _ h => h); (· rfl))
    | ((with_reducible apply TA.take 3); (· decide +kernel); (· rfl); (· (first | exact yA | exact yB | exact yM | exact yV)); (· decide +kernel); (· decide +kernel); (· rfl); (· exact fun _ _ _ h => h); (· rfl))
    | ((with_reducible apply TA.take 4); (· decide +kernel); (· rfl); (· (first | exact yA | exact yB | exact yM | exact yV)); (· decide +kernel); (· decide +kernel); (· rfl); (· exact fun _ _ _ h => h); (· rfl))
    | ((with_reducible apply TA.take 5); (· decide +kernel); (· rfl); (· (first | exact yA | exact yB | exact yM | exact yV)); (· decide +kernel); (· decide +kernel); (· rfl); (· exact fun _ _ _ h => h); (· rfl))
    | ((with_reducible apply TA.take 6); (· decide +kernel); (· rfl); (· (first | exact yA | exact yB | exact yM | exact yV)); (· decide +kernel); (· decide +kernel); (· rfl); (· exact fun _ _ _ h => h); (· rfl))
    | ((with_reducible apply TA.take 7); (· decide +kernel); (· rfl); (· (first | exact yA | exact yB | exact yM | exact yV)); (· decide +kernel); (· decide +kernel); (· rfl); (· exact fun _ _ _ h => h); (· rfl))
    | ((with_reducible apply TA.take 8); (· decide +kernel); (· rfl); (· (first | exact yA | exact yB | exact yM | exact yV)); (· decide +kernel); (· decide +kernel); (· rfl); (· exact fun _ _ _ h => h); (· rfl))
    | ((with_reducible apply TA.take 9); (· decide +kernel); (· rfl); (· (first | exact yA | exact yB | exact yM | exact yV)); (· decide +kernel); (· decide +kernel); (· rfl); (· exact fun _ _ _ h => h); (· rfl))
    | ((with_reducible apply TA.one 0); (· rfl); (· decide +kernel); (· rfl))
    | ((with_reducible apply TA.one 1); (· rfl); (· decide +kernel); (· rfl))
    | ((with_reducible apply TA.one 2); (· rfl); (· decide +kernel); (· rfl))
    | ((with_reducible apply TA.one 3); (· rfl); (· decide +kernel); (· rfl))
    | ((with_reducible apply TA.one 4); (· rfl); (· decide +kernel); (· rfl))
    | ((with_reducible apply TA.one 5); (· rfl); (· decide +kernel); (· rfl))
    | ((with_reducible apply TA.one 6); (· rfl); (· decide +kernel); (· rfl))
    | ((with_reducible apply TA.one 7); (· rfl); (· decide +kernel); (· rfl))
    | ((with_reducible apply TA.one 8); (· rfl); (· decide +kernel); (· rfl))
    | ((with_reducible apply TA.one 9); (· rfl); (· decide +kernel); (· rfl))
    | refine TQ.any leA selA ?_
    | refine TC.region_any 10 (.obj b2 (.cells [str nm, v].toArray 47 (0, 0)) :: L) (by kernel_rfl) rfl selA ?_ | refine TA.done (by decide +kernel) ?_ | refine TQ.any_panic ?_
    | (refine TL.call (Enters.plain (by kernel_rfl) (by rfl)) (by rfl) (A _) ?_; (rintro e g1 Ln hg1 ⟨vj, Mj, k1, k2, k3, htj⟩; have k2 := k2.symm; subst k1; subst k2; subst k3; have ho := TrJ.one htj; refine CallK.ret ?_))
    | ((with_reducible apply TL.build_slice); (· rfl); (· rfl); (· exact oneA); (· rfl); (· rfl); (· rfl); intro _) | refine TL.build_one (by rfl) (by first | rfl | assumption) (by rfl) (by rfl) (by rfl) (by rfl) (fun _ => ?_) | refine TL.build_empty (by rfl) (fun _ => ?_)
    | ((with_reducible apply TL.append); (· rfl); (· rfl); (· rfl); (· rfl); (· exact pkA); (· first | exact Src.obj pkA | exact Src.sl (by assumption) | exact Src.row pkA); (· first | rfl | exact (byteVals_length _).trans (Nat.mul_one _).symm); (· first | exact byteVals_all _ | exact oneA); (· exact ⟨by unfold maxLen; omega, by omega⟩); (· rfl); intro _)
    | refine wkP ?_
    | refine TC.seq ?_ | refine TC.region ?_ | refine TL.nil ?_ | refine TQ.then_normal ?_
    | ((with_reducible apply TL.storeE); (· rfl); (· rfl); (· rfl); (· exact pkA); (· infer_instance)) | ((with_reducible apply TL.store_whole); (· rfl); (· rfl); (· exact oneA); (· rfl); (· exact pkA); (· rfl))
    | refine TC.block ?_ | refine TC.ret ?_ | refine TC.skip ?_ | refine TC.exit ?_ | refine TC.cond rfl ?_
    | refine TQ.down ?_ | refine TQ.in_exit' rfl ?_
    | refine TL.guard_yes rfl rfl ?_ | refine TL.guard_no rfl rfl rfl rfl ?_ | refine TL.guard_no0 rfl rfl rfl ?_ | refine TL.guard_undef rfl rfl rfl ?_ | refine TL.guard_undef0 rfl rfl ?_ | refine TL.guard rfl rfl rfl ?_
    | refine Br.t rfl ?_ | refine Br.f rfl ?_ | refine Br.ky kpA ?_ | refine Br.kn kpA ?_ | refine Br.nky kpA ?_ | refine Br.nkn kpA ?_
    | refine Br.eq0 (fun _ => ?_) (fun _ => ?_) | refine Br.neq0 (fun _ => ?_) (fun _ => ?_) | refine Br.eq (fun _ => ?_) (fun _ => ?_) | refine Br.neq (fun _ => ?_) (fun _ => ?_) | refine Br.not (fun _ => ?_) (fun _ => ?_) | refine Br.dec (fun _ => ?_) (fun _ => ?_) | refine Br.bool (fun _ => ?_) (fun _ => ?_)
    | ((with_reducible apply TL.alloc_ag); (· rfl); intro _) | ((with_reducible apply TL.alloc_sc); (· rfl); (· rfl); intro _) | ((with_reducible apply TL.box_ag); (· rfl); (· rfl); intro _) | ((with_reducible apply TL.box_sc); (· rfl); (· rfl); (· rfl); intro _))
      rename_i b3 v'
      refine TQ.join (M1 := Mj) (M2 := M) pkA pkA ?_
      refine TQ.round (i + 1, v', fl ++ [str nm, vj], M ++ Mj) ?_ ?_ rfl subA selA
      · refine ⟨by dsimp only; omega, by simp [hfl]; omega, ?_⟩
        show TrMs (ns.take (i + 1)) (xs.take (i + 1)) (fl ++ [str nm, vj]) (M ++ Mj)
        rw [hlast, hlast2]
        exact hT.snoc htj
      · show xs.length - (i + 1) < xs.length - i
        omega
    · obtain rfl : i = xs.length := by omega
      rw [List.take_length, List.take_of_length_le (by omega)] at hT
      clear hMs hSl hS IH hnl
      refine TC.row_slice (v := ov) pkA ?_
      rintro a2 c2 rfl _
      repeat' (first
    | refine wkV ?_
    | refine stS ?_ | (refine stB ?_; intro _) | (refine stC ?_; refine And.intro (fun _ => ?_) (fun _ => ?_)))
      refine TQ.gcons (e := .row 47 2 (.slice a2 xs.length c2) xs.length fl) (M := M) pkA pkA ?_
      refine TQ.endR1 (L' := (grp (.row 47 2 (.slice a2 xs.length c2) xs.length fl :: M) :: L)) Tryz.results55 rvA rfl (.refl _) ?_ selA
      exact ⟨_, _, rfl, rfl, rfl, by rw [TrJ]; exact ⟨a2, c2, fl, M, rfl, rfl, hT⟩⟩
theorem jCopy_does (x : J) (v : Value) (g : Gh) (L : List Ent) (hV : IsJ g x v) (hS : smJ x) (h0 : lookJ x 0 = 0) (hT : GTabs g) (hU : GU8 g) : Does Tryz.prog 34 #[v] g L (CopyR x g L) := by
  refine Does.of1 Tryz.func34 rfl Tryz.ntmps34 rfl ?_
  have M := fun L => may_gives x v g L hV hS hT hU
  rw [h0] at M
  have C := fun L => copied_does _ x (Nat.le_refl _) v g L hV hS
  unfold CopyR at C
  have ho := hV.one
  clear hV
  repeat' (first
    | refine wkV ?_
    | ((with_reducible apply TL.gives_plain); (· kernel_rfl); (· rfl); (· exact M _); (· rfl)) | ((with_reducible apply TW.gives_plain); (· kernel_rfl); (· rfl); (· exact M _); (· rfl))
    | (refine TL.call (Enters.plain (by kernel_rfl) (by rfl)) (by rfl) (C _) ?_; (rintro e g1 Ln hg1 ⟨vj, Mj, k1, k2, k3, htj⟩; have k2 := k2.symm; subst k1; subst k2; subst k3; have ho := TrJ.one htj; refine CallK.ret ?_))
    | refine stS ?_ | (refine stB ?_; intro _) | (refine stC ?_; refine And.intro (fun _ => ?_) (fun _ => ?_)))
  refine TQ.endR1 (L' := (grp Mj :: L)) Tryz.results34 rvA rfl (.refl _) ?_ selA
  exact ⟨_, Mj, rfl, rfl, rfl, htj⟩
end Go.Proofs.YthngolfabfijpaaGreatDoor
