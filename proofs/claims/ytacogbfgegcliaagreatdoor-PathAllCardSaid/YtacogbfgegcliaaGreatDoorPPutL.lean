/-
  The walk of path.put.
-/
import Derived.Test.YtacogbfgegcliaaGreatDoorPGet
import Derived.Test.YtacogbfgegcliaaGreatDoorPathG
namespace Go.Proofs.YtacogbfgegcliaaGreatDoor
open Go.RowKit Go.TL
set_option maxRecDepth 100000

theorem Sl.from1 {g : Gh} {ao : Option Addr} {n cap : Nat} {s : List UInt8} {r : List (List UInt8)} (h : Sl g (.slice ao (n + 1) cap) (n + 1) 1 (strs (s :: r))) (hr : r.length = n) : ∃ b off off', ao = some ⟨b, off, none⟩ ∧ n + 1 ≤ cap ∧ (off' = if cap = 1 then off else off + 1 * 1) ∧ g.cell b (off + 0 * 1) = some (str s) ∧ Sl g (.slice (some ⟨b, off', none⟩) n (cap - 1)) r.length 1 (strs r) := by
  have hcap := h.cap
  obtain ⟨b, off, rfl, hg⟩ := h.elem (i := 0) (by omega) (by decide)
  refine ⟨b, off, _, rfl, hcap, rfl, hg 0 _ rfl, ?_⟩
  subst hr
  cases r with
  | nil => exact Sl.nil
  | cons d u =>
    rw [List.length_cons] at hcap
    refine ⟨by simp [strs], _, _, rfl, by rw [List.length_cons]; omega, fun i x hx => ⟨b, _, rfl, ?_⟩⟩
    have := hg (i + 1) x (by rw [Nat.zero_mul, Nat.zero_add]; exact hx)
    rw [if_neg (by omega), show off + 1 * 1 + i = off + 0 * 1 + (i + 1) by omega]
    exact this
theorem TrMs.mem {ns : List (List UInt8)} {xs : List J} {flat : List Value} {M : List Ent} (h : TrMs ns xs flat M) : Mem ns xs.length flat := fun i hi => by
  obtain ⟨x, hx⟩ : ∃ x, xs[i]? = some x := ⟨_, List.getElem?_eq_getElem hi⟩
  obtain ⟨s, v, _, _, _, h1, h2, h3, _⟩ := h.at hx
  exact ⟨s, v, h1, h2, h3⟩
theorem TQ.rowE {Q : Exit → Act → World → Prop} {c : Exit} {n : Nat} {ds : List Deferred} {S : Slots} {g : Gh} {L L' : List Ent} {E : TypeId} {sz k : Nat} {v : Value} {xs ys : List Value} (hm : Pick (.row E sz v k xs) L L') (e : xs = ys) (h : TQ Q c n ds S g (.row E sz v k ys :: L')) : TQ Q c n ds S g L := by
  subst e
  exact .mk fun a w hf hs => h.h a w hf (hs.perm hm.perm)
def PutR (o : Option J) (g : Gh) (L : List Ent) : Ending → Gh → List Ent → Prop := fun r g' L1 => ∃ v b, r = .returned (.tuple #[v, .bool b]) ∧ g' = g ∧ v.one = true ∧ (match o with
  | some z => b = true ∧ ∃ M, L1 = grp M :: L ∧ TrJ z v M
  | none => b = false ∧ L1 = L)
def PutOk (l : List (List UInt8)) : Prop := (∀ s ∈ l, s.length ≤ 1000000) → l.length ≤ 1000 → ∀ (x y : J) (v u sv : Value) (M N : List Ent) (g : Gh) (L : List Ent), TrJ x v M → TrJ y u N → Sl g sv l.length 1 (strs l) → smJ x → GErr g → GTabs g → Does Tryz.prog 65 #[v, sv, u] g (grp M :: grp N :: L) (PutR (putJ l x y) g L)
end Go.Proofs.YtacogbfgegcliaaGreatDoor
