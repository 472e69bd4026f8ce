/-
  Values whose memory is owned.
-/
import Derived.Test.YtfmadoeadmclbaaGreatDoorHp0
import Derived.Test.YtfmadoeadmclbaaGreatDoorHp5
import Derived.Test.YtfmadoeadmclbaaGreatDoorHp13
namespace Go.Proofs.YtfmadoeadmclbaaGreatDoor
open Go.RowKit Go.TL
set_option maxRecDepth 100000

mutual
def TrJ : J → Value → List Ent → Prop
  | .null, v, M => v = .nilIface ∧ M = []
  | .bool b, v, M => v = .iface 4 (.bool b) ∧ M = []
  | .num n, v, M => v = .iface 64 (.int .i64 n) ∧ (-9223372036854775808 ≤ n ∧ n ≤ 9223372036854775807) ∧ M = []
  | .text s, v, M => v = .iface 9 (str s) ∧ M = []
  | .list xs, v, M => ∃ ao cap flat Ms, v = .iface 66 (.slice ao xs.length cap) ∧ M = .row 20 1 (.slice ao xs.length cap) xs.length flat :: Ms ∧ TrJs xs flat Ms
  | .obj ns xs, v, M => ∃ ao cap flat Ms, v = .iface 68 (.slice ao xs.length cap) ∧ M = .row 70 2 (.slice ao xs.length cap) xs.length flat :: Ms ∧ TrMs ns xs flat Ms
  | .other k, v, M => v = .iface 3 (.int .i64 k) ∧ M = []
def TrJs : List J → List Value → List Ent → Prop
  | [], flat, M => flat = [] ∧ M = []
  | x :: r, flat, M => ∃ v fl M1 M2, flat = v :: fl ∧ M = M1 ++ M2 ∧ TrJ x v M1 ∧ TrJs r fl M2
def TrMs : List (List UInt8) → List J → List Value → List Ent → Prop
  | [], [], flat, M => flat = [] ∧ M = []
  | n :: ns, x :: r, flat, M => ∃ v fl M1 M2, flat = str n :: v :: fl ∧ M = M1 ++ M2 ∧ TrJ x v M1 ∧ TrMs ns r fl M2
  | [], _ :: _, _, _ => False
  | _ :: _, [], _, _ => False
end
theorem TrJ.one {j : J} {v : Value} {M : List Ent} (h : TrJ j v M) : v.one = true := by
  cases j <;> rw [TrJ] at h <;> first | (obtain ⟨rfl, _⟩ := h; rfl) | (obtain ⟨_, _, _, _, rfl, _⟩ := h; rfl)
mutual
theorem TrJ.fr : ∀ (j : J) (v : Value) (M : List Ent), TrJ j v M → ∀ {g : Gh} {L : List Ent} {w : World}, St g (M ++ L) w → ∃ g', g.le g' ∧ IsJ g' j v ∧ St g' L w
  | .null, v, M, h, g, L, w, hs => by rw [TrJ] at h; obtain ⟨rfl, rfl⟩ := h; exact ⟨g, .refl g, by rw [IsJ], hs⟩
  | .bool b, v, M, h, g, L, w, hs => by rw [TrJ] at h; obtain ⟨rfl, rfl⟩ := h; exact ⟨g, .refl g, by rw [IsJ], hs⟩
  | .num n, v, M, h, g, L, w, hs => by rw [TrJ] at h; obtain ⟨rfl, hb, rfl⟩ := h; exact ⟨g, .refl g, by rw [IsJ]; exact ⟨rfl, hb⟩, hs⟩
  | .text s, v, M, h, g, L, w, hs => by rw [TrJ] at h; obtain ⟨rfl, rfl⟩ := h; exact ⟨g, .refl g, by rw [IsJ], hs⟩
  | .other k, v, M, h, g, L, w, hs => by rw [TrJ] at h; obtain ⟨rfl, rfl⟩ := h; exact ⟨g, .refl g, by rw [IsJ], hs⟩
  | .list xs, v, M, h, g, L, w, hs => by
    rw [TrJ] at h
    obtain ⟨ao, cap, flat, Ms, rfl, rfl, h⟩ := h
    rw [List.cons_append] at hs
    obtain ⟨g2, hg2, hj, hs2⟩ := TrJs.fr xs flat Ms h hs.freeze.2
    exact ⟨g2, hs.freeze.1.trans hg2, by rw [IsJ]; exact ⟨_, flat, rfl, (sl_of_row hs).le hg2, hj⟩, hs2⟩
  | .obj ns xs, v, M, h, g, L, w, hs => by
    rw [TrJ] at h
    obtain ⟨ao, cap, flat, Ms, rfl, rfl, h⟩ := h
    rw [List.cons_append] at hs
    obtain ⟨g2, hg2, hj, hs2⟩ := TrMs.fr ns xs flat Ms h hs.freeze.2
    exact ⟨g2, hs.freeze.1.trans hg2, by rw [IsJ]; exact ⟨_, flat, rfl, (sl_of_row hs).le hg2, hj⟩, hs2⟩
theorem TrJs.fr : ∀ (l : List J) (flat : List Value) (M : List Ent), TrJs l flat M → ∀ {g : Gh} {L : List Ent} {w : World}, St g (M ++ L) w → ∃ g', g.le g' ∧ IsJs g' l flat ∧ St g' L w
  | [], flat, M, h, g, L, w, hs => by rw [TrJs] at h; obtain ⟨rfl, rfl⟩ := h; exact ⟨g, .refl g, by rw [IsJs], hs⟩
  | x :: r, flat, M, h, g, L, w, hs => by
    rw [TrJs] at h
    obtain ⟨v, fl, M1, M2, rfl, rfl, h1, h2⟩ := h
    rw [List.append_assoc] at hs
    obtain ⟨g1, hg1, hj1, hs1⟩ := TrJ.fr x v M1 h1 hs
    obtain ⟨g2, hg2, hj2, hs2⟩ := TrJs.fr r fl M2 h2 hs1
    exact ⟨g2, hg1.trans hg2, by rw [IsJs]; exact ⟨v, fl, rfl, IsJ.le hg2 _ _ hj1, hj2⟩, hs2⟩
theorem TrMs.fr : ∀ (ns : List (List UInt8)) (l : List J) (flat : List Value) (M : List Ent), TrMs ns l flat M → ∀ {g : Gh} {L : List Ent} {w : World}, St g (M ++ L) w → ∃ g', g.le g' ∧ IsMs g' ns l flat ∧ St g' L w
  | [], [], flat, M, h, g, L, w, hs => by rw [TrMs] at h; obtain ⟨rfl, rfl⟩ := h; exact ⟨g, .refl g, by rw [IsMs], hs⟩
  | n :: ns, x :: r, flat, M, h, g, L, w, hs => by
    rw [TrMs] at h
    obtain ⟨v, fl, M1, M2, rfl, rfl, h1, h2⟩ := h
    rw [List.append_assoc] at hs
    obtain ⟨g1, hg1, hj1, hs1⟩ := TrJ.fr x v M1 h1 hs
    obtain ⟨g2, hg2, hj2, hs2⟩ := TrMs.fr ns r fl M2 h2 hs1
    exact ⟨g2, hg1.trans hg2, by rw [IsMs]; exact ⟨v, fl, rfl, IsJ.le hg2 _ _ hj1, hj2⟩, hs2⟩
  | [], _ :: _, _, _, h, _, _, _, _ => by rw [TrMs] at h; exact h.elim
  | _ :: _, [], _, _, h, _, _, _, _ => by rw [TrMs] at h; exact h.elim
end
mutual
theorem TrJ.with : ∀ (j : J) (v : Value) (M : List Ent), TrJ j v M → ∀ (g : Gh) (w : World) (bs : List Nat), (∀ e ∈ M, e.st w) → (∀ b ∈ fps M, b ∈ bs) → IsJ (g.with bs w) j v
  | .null, v, M, h, g, w, bs, _, _ => by rw [TrJ] at h; rw [IsJ]; exact h.1
  | .bool b, v, M, h, g, w, bs, _, _ => by rw [TrJ] at h; rw [IsJ]; exact h.1
  | .num n, v, M, h, g, w, bs, _, _ => by rw [TrJ] at h; rw [IsJ]; exact ⟨h.1, h.2.1⟩
  | .text s, v, M, h, g, w, bs, _, _ => by rw [TrJ] at h; rw [IsJ]; exact h.1
  | .other k, v, M, h, g, w, bs, _, _ => by rw [TrJ] at h; rw [IsJ]; exact h.1
  | .list xs, v, M, h, g, w, bs, hs, hb => by
    rw [TrJ] at h
    obtain ⟨ao, cap, flat, Ms, rfl, rfl, h⟩ := h
    rw [IsJ]
    refine ⟨_, flat, rfl, sl_with (e := 20) (hs _ List.mem_cons_self) (fun b h2 => hb b (by simp [Ent.fp, h2])), TrJs.with xs flat Ms h g w bs (fun e he => hs e (List.mem_cons_of_mem _ he)) (fun b h2 => hb b (by rw [fps_cons]; exact List.mem_append_right _ h2))⟩
  | .obj ns xs, v, M, h, g, w, bs, hs, hb => by
    rw [TrJ] at h
    obtain ⟨ao, cap, flat, Ms, rfl, rfl, h⟩ := h
    rw [IsJ]
    refine ⟨_, flat, rfl, sl_with (e := 70) (hs _ List.mem_cons_self) (fun b h2 => hb b (by simp [Ent.fp, h2])), TrMs.with ns xs flat Ms h g w bs (fun e he => hs e (List.mem_cons_of_mem _ he)) (fun b h2 => hb b (by rw [fps_cons]; exact List.mem_append_right _ h2))⟩
theorem TrJs.with : ∀ (l : List J) (flat : List Value) (M : List Ent), TrJs l flat M → ∀ (g : Gh) (w : World) (bs : List Nat), (∀ e ∈ M, e.st w) → (∀ b ∈ fps M, b ∈ bs) → IsJs (g.with bs w) l flat
  | [], flat, M, h, g, w, bs, _, _ => by rw [TrJs] at h; rw [IsJs]; exact h.1
  | x :: r, flat, M, h, g, w, bs, hs, hb => by
    rw [TrJs] at h
    obtain ⟨v, fl, M1, M2, rfl, rfl, h1, h2⟩ := h
    rw [IsJs]
    exact ⟨v, fl, rfl, TrJ.with x v M1 h1 g w bs (fun e he => hs e (List.mem_append_left _ he)) (fun b h2 => hb b (by rw [fps_append]; exact List.mem_append_left _ h2)), TrJs.with r fl M2 h2 g w bs (fun e he => hs e (List.mem_append_right _ he)) (fun b h2 => hb b (by rw [fps_append]; exact List.mem_append_right _ h2))⟩
theorem TrMs.with : ∀ (ns : List (List UInt8)) (l : List J) (flat : List Value) (M : List Ent), TrMs ns l flat M → ∀ (g : Gh) (w : World) (bs : List Nat), (∀ e ∈ M, e.st w) → (∀ b ∈ fps M, b ∈ bs) → IsMs (g.with bs w) ns l flat
  | [], [], flat, M, h, g, w, bs, _, _ => by rw [TrMs] at h; rw [IsMs]; exact h.1
  | n :: ns, x :: r, flat, M, h, g, w, bs, hs, hb => by
    rw [TrMs] at h
    obtain ⟨v, fl, M1, M2, rfl, rfl, h1, h2⟩ := h
    rw [IsMs]
    exact ⟨v, fl, rfl, TrJ.with x v M1 h1 g w bs (fun e he => hs e (List.mem_append_left _ he)) (fun b h2 => hb b (by rw [fps_append]; exact List.mem_append_left _ h2)), TrMs.with ns r fl M2 h2 g w bs (fun e he => hs e (List.mem_append_right _ he)) (fun b h2 => hb b (by rw [fps_append]; exact List.mem_append_right _ h2))⟩
  | [], _ :: _, _, _, h, _, _, _, _, _ => by rw [TrMs] at h; exact h.elim
  | _ :: _, [], _, _, h, _, _, _, _, _ => by rw [TrMs] at h; exact h.elim
end
theorem TrJs.snoc : ∀ {l : List J} {flat : List Value} {M : List Ent} {x : J} {v : Value} {M' : List Ent}, TrJs l flat M → TrJ x v M' → TrJs (l ++ [x]) (flat ++ [v]) (M ++ M')
  | [], flat, M, x, v, M', h, hx => by
    rw [TrJs] at h; obtain ⟨rfl, rfl⟩ := h
    rw [List.nil_append, List.nil_append, List.nil_append, TrJs]
    exact ⟨v, [], M', [], rfl, by simp, hx, by rw [TrJs]; exact ⟨rfl, rfl⟩⟩
  | y :: r, flat, M, x, v, M', h, hx => by
    rw [TrJs] at h
    obtain ⟨u, fl, M1, M2, rfl, rfl, h1, h2⟩ := h
    rw [List.cons_append, List.cons_append, TrJs]
    exact ⟨u, fl ++ [v], M1, M2 ++ M', rfl, by rw [List.append_assoc], h1, h2.snoc hx⟩
theorem TrMs.snoc : ∀ {ns : List (List UInt8)} {l : List J} {flat : List Value} {M : List Ent} {s : List UInt8} {x : J} {v : Value} {M' : List Ent}, TrMs ns l flat M → TrJ x v M' → TrMs (ns ++ [s]) (l ++ [x]) (flat ++ [str s, v]) (M ++ M')
  | [], [], flat, M, s, x, v, M', h, hx => by
    rw [TrMs] at h; obtain ⟨rfl, rfl⟩ := h
    rw [List.nil_append, List.nil_append, List.nil_append, List.nil_append, TrMs]
    exact ⟨v, [], M', [], rfl, by simp, hx, by rw [TrMs]; exact ⟨rfl, rfl⟩⟩
  | n :: ns, y :: r, flat, M, s, x, v, M', h, hx => by
    rw [TrMs] at h
    obtain ⟨u, fl, M1, M2, rfl, rfl, h1, h2⟩ := h
    rw [List.cons_append, List.cons_append, List.cons_append, List.cons_append, TrMs]
    exact ⟨u, fl ++ [str s, v], M1, M2 ++ M', rfl, by rw [List.append_assoc], h1, h2.snoc hx⟩
  | [], _ :: _, _, _, _, _, _, _, h, _ => by rw [TrMs] at h; exact h.elim
  | _ :: _, [], _, _, _, _, _, _, h, _ => by rw [TrMs] at h; exact h.elim
theorem TrMs.len : ∀ {ns : List (List UInt8)} {l : List J} {flat : List Value} {M : List Ent}, TrMs ns l flat M → ns.length = l.length
  | [], [], _, _, _ => rfl
  | n :: ns, x :: r, _, _, h => by
    rw [TrMs] at h
    obtain ⟨_, _, _, _, _, _, _, h2⟩ := h
    simp [h2.len]
  | [], _ :: _, _, _, h => by rw [TrMs] at h; exact h.elim
  | _ :: _, [], _, _, h => by rw [TrMs] at h; exact h.elim
theorem TrJs.at : ∀ {l : List J} {flat : List Value} {M : List Ent} {i : Nat} {x : J}, TrJs l flat M → l[i]? = some x → ∃ v M1 M2 M3, flat[i]? = some v ∧ M = M1 ++ (M2 ++ M3) ∧ TrJ x v M2 ∧
    (∀ x' v' M', TrJ x' v' M' → TrJs (l.set i x') (flat.set i v') (M1 ++ (M' ++ M3)))
  | [], _, _, _, _, _, h => by simp at h
  | y :: r, flat, M, 0, x, h, hx => by
    rw [TrJs] at h
    obtain ⟨u, fl, M1, M2, rfl, rfl, h1, h2⟩ := h
    obtain rfl : y = x := by simpa using hx
    refine ⟨u, [], M1, M2, rfl, rfl, h1, fun x' v' M' h' => ?_⟩
    rw [List.set_cons_zero, List.set_cons_zero, TrJs]
    exact ⟨v', fl, M', M2, rfl, rfl, h', h2⟩
  | y :: r, flat, M, i + 1, x, h, hx => by
    rw [TrJs] at h
    obtain ⟨u, fl, M1, M2, rfl, rfl, h1, h2⟩ := h
    obtain ⟨v, A, B, C, e1, rfl, e3, e4⟩ := h2.at (i := i) (by simpa using hx)
    refine ⟨v, M1 ++ A, B, C, by simpa using e1, by rw [List.append_assoc], e3, fun x' v' M' h' => ?_⟩
    rw [List.set_cons_succ, List.set_cons_succ, TrJs]
    exact ⟨u, _, M1, _, rfl, by rw [List.append_assoc], h1, e4 x' v' M' h'⟩
theorem TrMs.at : ∀ {ns : List (List UInt8)} {l : List J} {flat : List Value} {M : List Ent} {i : Nat} {x : J}, TrMs ns l flat M → l[i]? = some x → ∃ s v M1 M2 M3, ns[i]? = some s ∧ flat[i * 2]? = some (str s) ∧ flat[i * 2 + 1]? = some v ∧ M = M1 ++ (M2 ++ M3) ∧ TrJ x v M2 ∧
    (∀ x' v' M', TrJ x' v' M' → TrMs ns (l.set i x') (flat.set (i * 2 + 1) v') (M1 ++ (M' ++ M3)))
  | [], [], _, _, _, _, _, h => by simp at h
  | n :: ns, y :: r, flat, M, 0, x, h, hx => by
    rw [TrMs] at h
    obtain ⟨u, fl, M1, M2, rfl, rfl, h1, h2⟩ := h
    obtain rfl : y = x := by simpa using hx
    refine ⟨n, u, [], M1, M2, rfl, rfl, rfl, rfl, h1, fun x' v' M' h' => ?_⟩
    rw [List.set_cons_zero, Nat.zero_mul, List.set_cons_succ, List.set_cons_zero, TrMs]
    exact ⟨v', fl, M', M2, rfl, rfl, h', h2⟩
  | n :: ns, y :: r, flat, M, i + 1, x, h, hx => by
    rw [TrMs] at h
    obtain ⟨u, fl, M1, M2, rfl, rfl, h1, h2⟩ := h
    obtain ⟨s, v, A, B, C, e0, e1, e2, rfl, e3, e4⟩ := h2.at (i := i) (by simpa using hx)
    refine ⟨s, v, M1 ++ A, B, C, by simpa using e0, by rw [show (i + 1) * 2 = i * 2 + 2 by omega]; simpa using e1, by rw [show (i + 1) * 2 + 1 = i * 2 + 1 + 2 by omega]; simpa using e2, by rw [List.append_assoc], e3, fun x' v' M' h' => ?_⟩
    rw [show (i + 1) * 2 + 1 = i * 2 + 1 + 1 + 1 by omega, List.set_cons_succ, List.set_cons_succ, List.set_cons_succ, TrMs]
    exact ⟨u, _, M1, _, rfl, by rw [List.append_assoc], h1, e4 x' v' M' h'⟩
  | [], _ :: _, _, _, _, _, h, _ => by rw [TrMs] at h; exact h.elim
  | _ :: _, [], _, _, _, _, h, _ => by rw [TrMs] at h; exact h.elim
end Go.Proofs.YtfmadoeadmclbaaGreatDoor
namespace Go.TL
open Go Go.RowKit Go.Proofs.YtfmadoeadmclbaaGreatDoor
section
variable {P : Program} {ops : Array Oper} {Q : Exit → Act → World → Prop} {l : List Oper} {n : Nat} {ds : List Deferred} {S : Slots} {g : Gh} {L L' M : List Ent} {j : J} {v : Value}
end
end Go.TL
