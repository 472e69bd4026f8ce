/-
  What drop does; trees without a part.
-/
import Derived.Test.YtacogbfgegcliaaGreatDoorHd29
namespace Go.Proofs.YtacogbfgegcliaaGreatDoor
open Go.RowKit Go.TL
set_option maxRecDepth 100000

def DropOk (l : List (List UInt8)) : Prop := (∀ s ∈ l, s.length ≤ 1000000) → l.length ≤ 1000 → ∀ (x : J) (v sv : Value) (M : List Ent) (g : Gh) (L : List Ent), TrJ x v M → Sl g sv l.length 1 (strs l) → smJ x → GErr g → GTabs g → Does Tryz.prog 68 #[v, sv] g (grp M :: L) (PutR (dropJ l x) g L)
theorem TrJs.ones : ∀ {l : List J} {flat : List Value} {M : List Ent}, TrJs l flat M → ∀ u ∈ flat, u.one = true
  | [], flat, M, h, u, hu => by rw [TrJs] at h; obtain ⟨rfl, _⟩ := h; cases hu
  | x :: r, flat, M, h, u, hu => by
    rw [TrJs] at h
    obtain ⟨v, fl, M1, M2, rfl, rfl, h1, h2⟩ := h
    rcases List.mem_cons.1 hu with rfl | hu
    · exact h1.one
    · exact h2.ones u hu
theorem TrMs.ones : ∀ {ns : List (List UInt8)} {l : List J} {flat : List Value} {M : List Ent}, TrMs ns l flat M → ∀ u ∈ flat, u.one = true
  | [], [], flat, M, h, u, hu => by rw [TrMs] at h; obtain ⟨rfl, _⟩ := h; cases hu
  | n :: ns, x :: r, flat, M, h, u, hu => by
    rw [TrMs] at h
    obtain ⟨v, fl, M1, M2, rfl, rfl, h1, h2⟩ := h
    rcases List.mem_cons.1 hu with rfl | hu
    · rfl
    rcases List.mem_cons.1 hu with rfl | hu
    · exact h1.one
    · exact h2.ones u hu
  | [], _ :: _, _, _, h, _, _ => by rw [TrMs] at h; exact h.elim
  | _ :: _, [], _, _, h, _, _ => by rw [TrMs] at h; exact h.elim
theorem TrJs.delE : ∀ {l : List J} {flat : List Value} {M : List Ent} {i : Nat} {x : J}, TrJs l flat M → l[i]? = some x → ∃ v A B C, M = A ++ (B ++ C) ∧ TrJ x v B ∧ flat[i]? = some v ∧ TrJs (l.eraseIdx i) (flat.take i ++ flat.drop (i + 1)) (A ++ C) ∧ (∀ x' v' M', TrJ x' v' M' → TrJs (l.set i x') (flat.set i v') (A ++ (M' ++ C)))
  | [], _, _, _, _, _, h => by simp at h
  | y :: r, flat, M, 0, x, h, hx => by
    rw [TrJs] at h
    obtain ⟨u, fl, M1, M2, rfl, rfl, h1, h2⟩ := h
    obtain rfl : y = x := by simpa using hx
    refine ⟨u, [], M1, M2, rfl, h1, rfl, by simpa using h2, fun x' v' M' h' => ?_⟩
    rw [List.set_cons_zero, List.set_cons_zero, TrJs]
    exact ⟨v', fl, M', M2, rfl, rfl, h', h2⟩
  | y :: r, flat, M, i + 1, x, h, hx => by
    rw [TrJs] at h
    obtain ⟨u, fl, M1, M2, rfl, rfl, h1, h2⟩ := h
    obtain ⟨v, A, B, C, rfl, e3, e4, e5, e6⟩ := h2.delE (i := i) (by simpa using hx)
    refine ⟨v, M1 ++ A, B, C, by rw [List.append_assoc], e3, by simpa using e4, ?_, fun x' v' M' h' => ?_⟩
    · rw [List.eraseIdx_cons_succ, List.take_succ_cons, List.drop_succ_cons, List.cons_append, TrJs]
      exact ⟨u, _, M1, _, rfl, by rw [List.append_assoc], h1, e5⟩
    · rw [List.set_cons_succ, List.set_cons_succ, TrJs]
      exact ⟨u, _, M1, _, rfl, by rw [List.append_assoc], h1, e6 x' v' M' h'⟩
theorem TrMs.delE : ∀ {ns : List (List UInt8)} {l : List J} {flat : List Value} {M : List Ent} {i : Nat} {x : J}, TrMs ns l flat M → l[i]? = some x → ∃ v A B C, M = A ++ (B ++ C) ∧ TrJ x v B ∧ flat[i * 2 + 1]? = some v ∧ TrMs (ns.eraseIdx i) (l.eraseIdx i) (flat.take (i * 2) ++ flat.drop ((i + 1) * 2)) (A ++ C) ∧ (∀ x' v' M', TrJ x' v' M' → TrMs ns (l.set i x') (flat.set (i * 2 + 1) v') (A ++ (M' ++ C)))
  | [], [], _, _, _, _, _, h => by simp at h
  | n :: ns, y :: r, flat, M, 0, x, h, hx => by
    rw [TrMs] at h
    obtain ⟨u, fl, M1, M2, rfl, rfl, h1, h2⟩ := h
    obtain rfl : y = x := by simpa using hx
    refine ⟨u, [], M1, M2, rfl, h1, rfl, by simpa using h2, fun x' v' M' h' => ?_⟩
    show TrMs (n :: ns) (x' :: r) (str n :: v' :: fl) (M' ++ M2)
    rw [TrMs]
    exact ⟨v', fl, M', M2, rfl, rfl, h', h2⟩
  | n :: ns, y :: r, flat, M, i + 1, x, h, hx => by
    rw [TrMs] at h
    obtain ⟨u, fl, M1, M2, rfl, rfl, h1, h2⟩ := h
    obtain ⟨v, A, B, C, rfl, e3, e4, e5, e6⟩ := h2.delE (i := i) (by simpa using hx)
    refine ⟨v, M1 ++ A, B, C, by rw [List.append_assoc], e3, ?_, ?_, fun x' v' M' h' => ?_⟩
    · rw [show (i + 1) * 2 + 1 = i * 2 + 1 + 1 + 1 by omega]; simpa using e4
    · rw [show (i + 1) * 2 = i * 2 + 1 + 1 by omega, show (i + 1 + 1) * 2 = (i + 1) * 2 + 1 + 1 by omega, List.eraseIdx_cons_succ, List.eraseIdx_cons_succ, List.take_succ_cons, List.take_succ_cons, List.drop_succ_cons, List.drop_succ_cons, List.cons_append, List.cons_append, TrMs]
      exact ⟨u, _, M1, _, rfl, by rw [List.append_assoc], h1, e5⟩
    · rw [show (i + 1) * 2 + 1 = i * 2 + 1 + 1 + 1 by omega, List.set_cons_succ, List.set_cons_succ, List.set_cons_succ, TrMs]
      exact ⟨u, _, M1, _, rfl, by rw [List.append_assoc], h1, e6 x' v' M' h'⟩
  | [], _ :: _, _, _, _, _, h, _ => by rw [TrMs] at h; exact h.elim
  | _ :: _, [], _, _, _, _, h, _ => by rw [TrMs] at h; exact h.elim
end Go.Proofs.YtacogbfgegcliaaGreatDoor
