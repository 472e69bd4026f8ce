/-
  The walk of shape's read: what is no polygon.
-/
import Derived.Test.YtgollffmdpejiaaGreatDoorQz3
import Derived.Test.YtgollffmdpejiaaGreatDoorQz19
import Derived.Test.YtgollffmdpejiaaGreatDoorQz23
namespace Go.Proofs.YtgollffmdpejiaaGreatDoor
open Go.RowKit Go.TL
set_option maxRecDepth 100000

abbrev typeB : List UInt8 := [116, 121, 112, 101]
abbrev coordB : List UInt8 := [99, 111, 111, 114, 100, 105, 110, 97, 116, 101, 115]
def mapR : List J → Option (List (List Pt))
  | [] => some []
  | x :: r => match ringJ x with
    | some p => (mapR r).map (p :: ·)
    | none => none
def ringsJ : J → Option (List (List Pt))
  | .list xs => mapR xs
  | _ => none
def shapeJ (k : Int) (w : J) : Option (List (List Pt)) :=
  if k = 0 then (placeJ w).map fun p => [[p]] else if k = 1 then (placesJ w).map fun l => [l] else if k = 2 then ringsJ w else none
def okS (k : Int) : Option (List (List Pt)) → Option (Int × List (List Pt))
  | some ps => if rightB k ps = true then some (k, ps) else none
  | none => none
def kindS : Option J → Int
  | some (.text t) => idxL t kindsB 0
  | _ => -1
def readO (n : Nat) (a b : Option J) : Option (Int × List (List Pt)) :=
  if n = 2 then match b with
    | some w => okS (kindS a) (shapeJ (kindS a) w)
    | none => none
  else none
def readJ (x : J) : Option (Int × List (List Pt)) := match x with
  | .obj _ xs => readO xs.length (fieldJ x typeB) (fieldJ x coordB)
  | _ => none
theorem readJ_len {ns : List (List UInt8)} {xs : List J} (h : xs.length ≠ 2) : readJ (.obj ns xs) = none := by
  show readO _ _ _ = none
  unfold readO
  rw [if_neg h]
theorem readJ_none {ns : List (List UInt8)} {xs : List J} (h : fieldJ (.obj ns xs) coordB = none ∨ kindS (fieldJ (.obj ns xs) typeB) = -1) : readJ (.obj ns xs) = none := by
  show readO _ _ _ = none
  unfold readO
  split
  · rcases h with h | h
    · rw [h]
    · rw [h]
      cases fieldJ (.obj ns xs) coordB with
      | none => rfl
      | some w => rfl
  · rfl
theorem readJ_some {ns : List (List UInt8)} {xs : List J} {w : J} (h : xs.length = 2) (hc : fieldJ (.obj ns xs) coordB = some w) : readJ (.obj ns xs) = okS (kindS (fieldJ (.obj ns xs) typeB)) (shapeJ (kindS (fieldJ (.obj ns xs) typeB)) w) := by
  show readO _ _ _ = _
  unfold readO
  rw [if_pos h, hc]
def ReadR (o : Option (Int × List (List Pt))) (L : List Ent) : Ending → Gh → List Ent → Prop := fun e g' L1 => match o with
  | some (k, ps) => ∃ v, e = .returned (shV k v) ∧ L1 = L ∧ IsParts g' v ps
  | none => e = .panicked [stopS] ∧ L1 = L
theorem idxK (t : List UInt8) : idxL t kindsB 0 = 0 ∨ idxL t kindsB 0 = 1 ∨ idxL t kindsB 0 = 2 ∨ idxL t kindsB 0 = -1 := by
  unfold kindsB idxL idxL idxL idxL
  split
  · exact .inl rfl
  · split
    · exact .inr (.inl rfl)
    · split
      · exact .inr (.inr (.inl rfl))
      · exact .inr (.inr (.inr rfl))
theorem fieldJ_mem {x w : J} {s : List UInt8} (h : fieldJ x s = some w) (hs : smJ x) : smJ w := by
  unfold fieldJ at h
  cases x with
  | obj ns xs =>
    dsimp only at h
    cases hk : idxN ns s with
    | none => rw [hk] at h; cases h
    | some i =>
      rw [hk] at h
      rw [smJ] at hs
      exact smJs_get hs.2.2 h
  | _ => cases h
theorem parts_one {g2 g3 : Gh} {u v : Value} {l : List Pt} {n : Nat} (hn : n = l.length) (h2 : Sl g2 u n 2 (flatP l)) (hg : g2.le g3) (h3 : Sl g3 v 1 1 [u]) : IsParts g3 v [l] := by
  subst hn
  refine ⟨[u], h3, fun i p hp => ?_⟩
  match i, hp with
  | 0, hp => obtain rfl : l = p := by simpa using hp
             exact ⟨u, rfl, h2.le hg⟩
  | i + 1, hp => simp at hp
theorem ok_one {l : List Pt} (h : l.length ≤ 1000000) : ShOk [l] := ⟨by simp, fun p hp => by rw [List.mem_singleton.1 hp]; exact h⟩
set_option maxHeartbeats 32000000 in
theorem sread_not (x : J) (v : Value) (g : Gh) (L : List Ent) (hv : IsJ g x v) (hx : ∀ ns xs, x ≠ .obj ns xs) : Does Tryz.prog 253 #[v] g L (ReadR (readJ x) L) := by
  refine Does.of1 Tryz.func253 rfl Tryz.ntmps253 rfl ?_
  have NO := fun g L => sneed_no g L
  cases x with
  | obj ns xs => exact absurd rfl (hx ns xs)
  | list xs =>
    rw [IsJ] at hv
    obtain ⟨sl, fl, rfl, hS, _⟩ := hv
    obtain ⟨a, c, rfl⟩ := hS.slice
    clear hS
    repeat' (first
    | refine wkQ ?_
    | refine wkV ?_
    | refine TL.throws (Enters.plain (by kernel_rfl) (by rfl)) (NO _ _) (by rfl) ?_
    | refine stS ?_ | (refine stB ?_; intro _) | (refine stC ?_; constructor <;> intro _))
    refine TQ.end_panic (L' := L) rfl (.refl _) ?_ selA
    exact ⟨rfl, rfl⟩
  | num n =>
    rw [IsJ] at hv
    obtain ⟨rfl, _⟩ := hv
    repeat' (first
    | refine wkQ ?_
    | refine wkV ?_
    | refine TL.throws (Enters.plain (by kernel_rfl) (by rfl)) (NO _ _) (by rfl) ?_
    | refine stS ?_ | (refine stB ?_; intro _) | (refine stC ?_; constructor <;> intro _))
    refine TQ.end_panic (L' := L) rfl (.refl _) ?_ selA
    exact ⟨rfl, rfl⟩
  | _ =>
    rw [IsJ] at hv
    subst hv
    repeat' (first
    | refine wkQ ?_
    | refine wkV ?_
    | refine TL.throws (Enters.plain (by kernel_rfl) (by rfl)) (NO _ _) (by rfl) ?_
    | refine stS ?_ | (refine stB ?_; intro _) | (refine stC ?_; constructor <;> intro _))
    refine TQ.end_panic (L' := L) rfl (.refl _) ?_ selA
    exact ⟨rfl, rfl⟩
set_option maxHeartbeats 32000000 in
theorem sread_len (ns : List (List UInt8)) (xs : List J) (v : Value) (g : Gh) (L : List Ent) (hv : IsJ g (.obj ns xs) v) (hx : xs.length ≠ 2) : Does Tryz.prog 253 #[v] g L (ReadR (readJ (.obj ns xs)) L) := by
  refine Does.of1 Tryz.func253 rfl Tryz.ntmps253 rfl ?_
  have NO := fun g L => sneed_no g L
  rw [IsJ] at hv
  obtain ⟨sl, fl, rfl, hS, _⟩ := hv
  obtain ⟨a, c, rfl⟩ := hS.slice
  have b2 : decide (((xs.length : Nat) : Int) = 2) = false := decide_eq_false (by omega)
  rw [readJ_len hx]
  clear hS
  repeat' (first
    | refine wkQ ?_
    | (refine wkA 23 (v := .bool false) ?_ ?_; · exact Y.eql_b b2 rfl rfl)
    | refine wkV ?_
    | refine TL.throws (Enters.plain (by kernel_rfl) (by rfl)) (NO _ _) (by rfl) ?_
    | refine stS ?_ | (refine stB ?_; intro _) | (refine stC ?_; constructor <;> intro _))
  refine TQ.end_panic (L' := L) rfl (.refl _) ?_ selA
  exact ⟨rfl, rfl⟩
set_option maxHeartbeats 32000000 in
theorem sread_none (ns : List (List UInt8)) (xs : List J) (v : Value) (g : Gh) (L : List Ent) (hv : IsJ g (.obj ns xs) v) (hs : smJ (.obj ns xs)) (_hx : xs.length = 2) (hf : fieldJ (.obj ns xs) coordB = none ∨ kindS (fieldJ (.obj ns xs) typeB) = -1) : Does Tryz.prog 253 #[v] g L (ReadR (readJ (.obj ns xs)) L) := by
  refine Does.of1 Tryz.func253 rfl Tryz.ntmps253 rfl ?_
  have NO := fun g L => sneed_no g L
  have NY := fun g L => sneed_yes g L
  have NA := fun g L => snames_gives g L
  obtain ⟨v1, b1, F1, o1, m1⟩ := field_gives (.obj ns xs) v g typeB hv hs
  obtain ⟨v2, b2, F2, o2, m2⟩ := field_gives (.obj ns xs) v g coordB hv hs
  rw [IsJ] at hv
  obtain ⟨sl, fl, rfl, hS, _⟩ := hv
  obtain ⟨a, c, rfl⟩ := hS.slice
  have bl : decide (((xs.length : Nat) : Int) = 2) = true := decide_eq_true (by omega)
  rw [readJ_none hf]
  clear hS hs
  cases hc : fieldJ (.obj ns xs) coordB with
  | none =>
    rw [hc] at m2
    obtain ⟨rfl, rfl⟩ := m2
    clear hf m1
    repeat' (first
    | refine wkQ ?_
    | (refine wkA 23 (v := .bool true) ?_ ?_; · exact Y.eql_b bl rfl rfl)
    | refine wkV ?_
    | refine wkD (F1 _) ?_
    | refine wkD (F2 _) ?_
    | refine wkD (NY _ _) ?_
    | refine TL.throws (Enters.plain (by kernel_rfl) (by rfl)) (NO _ _) (by rfl) ?_
    | refine stS ?_ | (refine stB ?_; intro _) | (refine stC ?_; constructor <;> intro _))
    refine TQ.end_panic (L' := L) rfl (.refl _) ?_ selA
    exact ⟨rfl, rfl⟩
  | some w =>
    rw [hc] at m2 hf
    obtain ⟨rfl, hw⟩ := m2
    have hf : kindS (fieldJ (.obj ns xs) typeB) = -1 := hf.resolve_left (fun h => by cases h)
    clear hc hw
    generalize fieldJ (.obj ns xs) typeB = ft at *
    have IX0 : ∀ g1 v, Sl g1 v 3 1 (strs kindsB) → ∀ L, Gives Tryz.prog 251 #[v, str []] g1 L (.int .i64 (-1)) := fun g1 v h L => indexS_gives kindsB [] v g1 L h (by decide)
    cases ft with
    | none =>
      obtain ⟨rfl, rfl⟩ := m1
      repeat' (first
    | refine wkQ ?_
    | (refine wkA 23 (v := .bool true) ?_ ?_; · exact Y.eql_b bl rfl rfl)
    | refine wkV ?_
    | ((with_reducible apply TL.slice_keep); (· rfl); (· exact pkA); (· rfl); (· decide); (· rfl); intro g1 hg1 SN)
    | refine wkD (F1 _) ?_
    | refine wkD (F2 _) ?_
    | refine wkD (NA _ _) ?_
    | refine wkD (IX0 _ _ SN _) ?_
    | refine wkD (NY _ _) ?_
    | refine TL.throws (Enters.plain (by kernel_rfl) (by rfl)) (NO _ _) (by rfl) ?_
    | refine stS ?_ | (refine stB ?_; intro _) | (refine stC ?_; constructor <;> intro _))
      refine TQ.end_panic (L' := L) rfl ((by assumption)) ?_ selF
      exact ⟨rfl, rfl⟩
    | some y =>
      obtain ⟨rfl, hy⟩ := m1
      cases y with
      | text t =>
        rw [IsJ] at hy
        subst hy
        have IX : ∀ g1 v, Sl g1 v 3 1 (strs kindsB) → ∀ L, Gives Tryz.prog 251 #[v, str t] g1 L (.int .i64 (-1)) := fun g1 v h L => by
          have := indexS_gives kindsB t v g1 L h (by decide)
          rw [show idxL t kindsB 0 = -1 from hf] at this; exact this
        repeat' (first
    | refine wkQ ?_
    | (refine wkA 23 (v := .bool true) ?_ ?_; · exact Y.eql_b bl rfl rfl)
    | refine wkV ?_
    | ((with_reducible apply TL.slice_keep); (· rfl); (· exact pkA); (· rfl); (· decide); (· rfl); intro g1 hg1 SN)
    | refine wkD (F1 _) ?_
    | refine wkD (F2 _) ?_
    | refine wkD (NA _ _) ?_
    | refine wkD (IX _ _ SN _) ?_
    | refine wkD (NY _ _) ?_
    | refine TL.throws (Enters.plain (by kernel_rfl) (by rfl)) (NO _ _) (by rfl) ?_
    | refine stS ?_ | (refine stB ?_; intro _) | (refine stC ?_; constructor <;> intro _))
        refine TQ.end_panic (L' := L) rfl ((by assumption)) ?_ selF
        exact ⟨rfl, rfl⟩
      | list xs =>
        rw [IsJ] at hy
        obtain ⟨sl, fl, rfl, hS, _⟩ := hy
        obtain ⟨a, c, rfl⟩ := hS.slice
        clear hS
        repeat' (first
    | refine wkQ ?_
    | (refine wkA 23 (v := .bool true) ?_ ?_; · exact Y.eql_b bl rfl rfl)
    | refine wkV ?_
    | ((with_reducible apply TL.slice_keep); (· rfl); (· exact pkA); (· rfl); (· decide); (· rfl); intro g1 hg1 SN)
    | refine wkD (F1 _) ?_
    | refine wkD (F2 _) ?_
    | refine wkD (NA _ _) ?_
    | refine wkD (IX0 _ _ SN _) ?_
    | refine wkD (NY _ _) ?_
    | refine TL.throws (Enters.plain (by kernel_rfl) (by rfl)) (NO _ _) (by rfl) ?_
    | refine stS ?_ | (refine stB ?_; intro _) | (refine stC ?_; constructor <;> intro _))
        refine TQ.end_panic (L' := L) rfl ((by assumption)) ?_ selF
        exact ⟨rfl, rfl⟩
      | obj ns xs =>
        rw [IsJ] at hy
        obtain ⟨sl, fl, rfl, hS, _⟩ := hy
        obtain ⟨a, c, rfl⟩ := hS.slice
        clear hS
        repeat' (first
    | refine wkQ ?_
    | (refine wkA 23 (v := .bool true) ?_ ?_; · exact Y.eql_b bl rfl rfl)
    | refine wkV ?_
    | ((with_reducible apply TL.slice_keep); (· rfl); (· exact pkA); (· rfl); (· decide); (· rfl); intro g1 hg1 SN)
    | refine wkD (F1 _) ?_
    | refine wkD (F2 _) ?_
    | refine wkD (NA _ _) ?_
    | refine wkD (IX0 _ _ SN _) ?_
    | refine wkD (NY _ _) ?_
    | refine TL.throws (Enters.plain (by kernel_rfl) (by rfl)) (NO _ _) (by rfl) ?_
    | refine stS ?_ | (refine stB ?_; intro _) | (refine stC ?_; constructor <;> intro _))
        refine TQ.end_panic (L' := L) rfl ((by assumption)) ?_ selF
        exact ⟨rfl, rfl⟩
      | num n =>
        rw [IsJ] at hy
        obtain ⟨rfl, _⟩ := hy
        repeat' (first
    | refine wkQ ?_
    | (refine wkA 23 (v := .bool true) ?_ ?_; · exact Y.eql_b bl rfl rfl)
    | refine wkV ?_
    | ((with_reducible apply TL.slice_keep); (· rfl); (· exact pkA); (· rfl); (· decide); (· rfl); intro g1 hg1 SN)
    | refine wkD (F1 _) ?_
    | refine wkD (F2 _) ?_
    | refine wkD (NA _ _) ?_
    | refine wkD (IX0 _ _ SN _) ?_
    | refine wkD (NY _ _) ?_
    | refine TL.throws (Enters.plain (by kernel_rfl) (by rfl)) (NO _ _) (by rfl) ?_
    | refine stS ?_ | (refine stB ?_; intro _) | (refine stC ?_; constructor <;> intro _))
        refine TQ.end_panic (L' := L) rfl ((by assumption)) ?_ selF
        exact ⟨rfl, rfl⟩
      | _ =>
        rw [IsJ] at hy
        subst hy
        repeat' (first
    | refine wkQ ?_
    | (refine wkA 23 (v := .bool true) ?_ ?_; · exact Y.eql_b bl rfl rfl)
    | refine wkV ?_
    | ((with_reducible apply TL.slice_keep); (· rfl); (· exact pkA); (· rfl); (· decide); (· rfl); intro g1 hg1 SN)
    | refine wkD (F1 _) ?_
    | refine wkD (F2 _) ?_
    | refine wkD (NA _ _) ?_
    | refine wkD (IX0 _ _ SN _) ?_
    | refine wkD (NY _ _) ?_
    | refine TL.throws (Enters.plain (by kernel_rfl) (by rfl)) (NO _ _) (by rfl) ?_
    | refine stS ?_ | (refine stB ?_; intro _) | (refine stC ?_; constructor <;> intro _))
        refine TQ.end_panic (L' := L) rfl ((by assumption)) ?_ selF
        exact ⟨rfl, rfl⟩
end Go.Proofs.YtgollffmdpejiaaGreatDoor
