/-
  What paths do to values: the plain law. The walks of path.member, item, next. The walk of path.item.
-/
import Derived.Test.YthngolfabfijpaaGreatDoorHc9
import Derived.Test.YthngolfabfijpaaGreatDoorHc11
import Derived.Test.YthngolfabfijpaaGreatDoorHc2
import Derived.Test.YthngolfabfijpaaGreatDoorHc8
import Derived.Test.YthngolfabfijpaaGreatDoorHc0
import Derived.Lib.AtoiErrMem
import Derived.Lib.AppendIntMem
namespace Go.Proofs.YthngolfabfijpaaGreatDoor
open Go.RowKit

def idxN : List (List UInt8) → List UInt8 → Option Nat
  | [], _ => none
  | n :: r, s => if n = s then some 0 else (idxN r s).map (· + 1)
theorem idxN_some : ∀ {ns : List (List UInt8)} {s : List UInt8} {k : Nat}, idxN ns s = some k → ns[k]? = some s ∧ ∀ i, i < k → ns[i]? ≠ some s
  | [], _, _, h => by cases h
  | n :: r, s, k, h => by
    rw [idxN] at h
    by_cases e : n = s
    · rw [if_pos e] at h
      obtain rfl := Option.some.inj h
      exact ⟨by simp [e], fun i hi => by omega⟩
    · rw [if_neg e] at h
      obtain ⟨j, hj, rfl⟩ := Option.map_eq_some_iff.1 h
      obtain ⟨h1, h2⟩ := idxN_some hj
      refine ⟨by simpa using h1, fun i hi => ?_⟩
      cases i with
      | zero => simpa using e
      | succ i => simpa using h2 i (by omega)
theorem idxN_none : ∀ {ns : List (List UInt8)} {s : List UInt8}, idxN ns s = none → ∀ n ∈ ns, n ≠ s
  | [], _, _, _, h => by cases h
  | n :: r, s, h, m, hm => by
    rw [idxN] at h
    by_cases e : n = s
    · rw [if_pos e] at h; cases h
    · rw [if_neg e] at h
      rcases List.mem_cons.1 hm with rfl | hm
      · exact e
      · exact idxN_none (Option.map_eq_none_iff.1 h) m hm
theorem idxN_lt {ns : List (List UInt8)} {s : List UInt8} {k : Nat} (h : idxN ns s = some k) : k < ns.length := (List.getElem?_eq_some_iff.1 (idxN_some h).1).1
def nextJ (j : J) (s : List UInt8) : Option J := match j with
  | .obj ns xs => (idxN ns s).bind (xs[·]?)
  | .list xs => (itemL s).bind (xs[·]?)
  | _ => none
def getJ : List (List UInt8) → J → Option J
  | [], j => some j
  | s :: r, j => (nextJ j s).bind (getJ r)
def putJ : List (List UInt8) → J → J → Option J
  | [], _, x => some x
  | s :: r, .obj ns xs, x => match idxN ns s with
    | some i => match xs[i]? with
      | some y => (putJ r y x).map fun z => .obj ns (xs.set i z)
      | none => none
    | none => (putJ r (.obj [] []) x).map fun z => .obj (ns ++ [s]) (xs ++ [z])
  | s :: r, .list xs, x => match itemL s with
    | none => none
    | some i => match xs[i]? with
      | some y => (putJ r y x).map fun z => .list (xs.set i z)
      | none => if i = xs.length then (putJ r (.obj [] []) x).map fun z => .list (xs ++ [z]) else none
  | _ :: _, _, _ => none
def dropJ : List (List UInt8) → J → Option J
  | [], _ => none
  | s :: r, .obj ns xs => match idxN ns s with
    | some i => match xs[i]? with
      | some y => if r = [] then some (.obj (ns.eraseIdx i) (xs.eraseIdx i)) else (dropJ r y).map fun z => .obj ns (xs.set i z)
      | none => none
    | none => none
  | s :: r, .list xs => match itemL s with
    | none => none
    | some i => match xs[i]? with
      | some y => if r = [] then some (.list (xs.eraseIdx i)) else (dropJ r y).map fun z => .list (xs.set i z)
      | none => none
  | _ :: _, _ => none
mutual
def depJ : J → Nat
  | .list xs => depJs xs + 1
  | .obj _ xs => depJs xs + 1
  | .null => 0
  | .bool _ => 0
  | .num _ => 0
  | .text _ => 0
  | .other _ => 0
def depJs : List J → Nat
  | [] => 0
  | x :: r => max (depJ x) (depJs r)
end
mutual
def okJ : J → Prop
  | .null => True
  | .bool _ => True
  | .num n => heldB n = true
  | .text s => utfL s = true
  | .list xs => okJs xs
  | .obj ns xs => ns.length = xs.length ∧ ns.Nodup ∧ (∀ n ∈ ns, utfL n = true) ∧ okJs xs
  | .other _ => False
def okJs : List J → Prop
  | [] => True
  | x :: r => okJ x ∧ okJs r
end
theorem looks_get : ∀ {l : List J} {i : Nat} {x : J} {w : Nat}, looks l w = 0 → l[i]? = some x → lookJ x (w + 1) = 0
  | [], _, _, _, _, h => by simp at h
  | y :: r, 0, x, w, h, hx => by
    obtain rfl : y = x := by simpa using hx
    rw [looks] at h
    split at h
    · assumption
    · exact h
  | y :: r, i + 1, x, w, h, hx => by
    rw [looks] at h
    split at h
    · exact looks_get h (i := i) (by simpa using hx)
    · exact absurd h (by assumption)
theorem looko_get : ∀ {l : List J} {seen ns : List (List UInt8)} {i : Nat} {x : J} {w : Nat}, looko seen ns l w = 0 → l[i]? = some x → lookJ x (w + 1) = 0
  | [], _, _, _, _, _, _, h => by simp at h
  | y :: r, seen, ns, 0, x, w, h, hx => by
    obtain rfl : y = x := by simpa using hx
    rw [looko] at h
    split at h
    · cases h
    split at h
    · cases h
    split at h
    · assumption
    · exact h
  | y :: r, seen, ns, i + 1, x, w, h, hx => by
    rw [looko] at h
    split at h
    · cases h
    split at h
    · cases h
    split at h
    · exact looko_get h (i := i) (by simpa using hx)
    · exact absurd h (by assumption)
mutual
theorem look_mono : ∀ (x : J) (w : Nat), lookJ x (w + 1) = 0 → lookJ x w = 0
  | .null, _, h => by rw [lookJ] at h ⊢
  | .bool _, _, h => by rw [lookJ] at h ⊢
  | .num _, _, h => by rw [lookJ] at h ⊢; exact h
  | .text _, _, h => by rw [lookJ] at h ⊢; exact h
  | .other _, _, h => by rw [lookJ] at h ⊢; exact h
  | .list xs, w, h => by
    rw [lookJ] at h ⊢
    split at h
    · cases h
    · rw [if_neg (by omega)]; exact looks_mono xs w h
  | .obj ns xs, w, h => by
    rw [lookJ] at h ⊢
    split at h
    · cases h
    · rw [if_neg (by omega)]; exact looko_mono [] ns xs w h
theorem looks_mono : ∀ (l : List J) (w : Nat), looks l (w + 1) = 0 → looks l w = 0
  | [], _, _ => by rw [looks]
  | x :: r, w, h => by
    rw [looks] at h ⊢
    split at h
    · rename_i h1
      rw [if_pos (look_mono x (w + 1) h1)]; exact looks_mono r w h
    · exact absurd h (by assumption)
theorem looko_mono : ∀ (seen ns : List (List UInt8)) (l : List J) (w : Nat), looko seen ns l (w + 1) = 0 → looko seen ns l w = 0
  | _, _, [], _, _ => by rw [looko]
  | seen, ns, x :: r, w, h => by
    rw [looko] at h ⊢
    split at h
    · cases h
    rename_i h1
    split at h
    · cases h
    rename_i h2
    split at h
    · rename_i h3
      rw [if_neg h1, if_neg h2, if_pos (look_mono x (w + 1) h3)]; exact looko_mono _ _ r w h
    · exact absurd h (by assumption)
end
theorem look_down (x : J) : ∀ (k w : Nat), lookJ x (w + k) = 0 → lookJ x w = 0
  | 0, _, h => h
  | k + 1, w, h => look_down x k w (look_mono x (w + k) h)
theorem look_next {j x : J} {s : List UInt8} {w : Nat} (h : lookJ j w = 0) (hx : nextJ j s = some x) : lookJ x (w + 1) = 0 := by
  unfold nextJ at hx
  cases j with
  | list xs =>
    obtain ⟨i, _, hi⟩ := Option.bind_eq_some_iff.1 hx
    rw [lookJ] at h
    split at h
    · cases h
    · exact looks_get h hi
  | obj ns xs =>
    obtain ⟨i, _, hi⟩ := Option.bind_eq_some_iff.1 hx
    rw [lookJ] at h
    split at h
    · cases h
    · exact looko_get h hi
  | _ => cases hx
theorem sm_next {j x : J} {s : List UInt8} (h : smJ j) (hx : nextJ j s = some x) : smJ x := by
  unfold nextJ at hx
  cases j with
  | list xs =>
    obtain ⟨i, _, hi⟩ := Option.bind_eq_some_iff.1 hx
    rw [smJ] at h
    exact smJs_get h.2 hi
  | obj ns xs =>
    obtain ⟨i, _, hi⟩ := Option.bind_eq_some_iff.1 hx
    rw [smJ] at h
    exact smJs_get h.2.2 hi
  | _ => cases hx
theorem look_get : ∀ (l : List (List UInt8)) (j x : J), lookJ j 0 = 0 → getJ l j = some x → lookJ x 0 = 0
  | [], j, x, h, hx => by
    rw [getJ] at hx
    obtain rfl := Option.some.inj hx; exact h
  | s :: r, j, x, h, hx => by
    rw [getJ] at hx
    obtain ⟨y, hy, hx⟩ := Option.bind_eq_some_iff.1 hx
    exact look_get r y x (look_mono y 0 (look_next h hy)) hx
def getP (p : List UInt8) (j : J) : Option J := if lookJ j 0 = 0 then (stepsL p).bind fun l => getJ l j else none
end Go.Proofs.YthngolfabfijpaaGreatDoor
namespace Go.Proofs.YthngolfabfijpaaGreatDoor
open Go.RowKit Go.TL
set_option maxRecDepth 100000

theorem pmember1_gives (s nm : List UInt8) (v : Value) (b : Nat) (g : Gh) (L : List Ent) : Gives Tryz.prog 178 #[.agg #[str s, v], .pointer (some ⟨b, 0, none⟩)] g (.obj b (.cells [str nm].toArray 9 (0, 0)) :: L) (.bool (decide (s = nm))) := by
  refine .of (Does.of2 Tryz.func178 rfl Tryz.ntmps178 rfl ?_)
  repeat' (first
    | refine wkV ?_
    | refine stS ?_ | (refine stB ?_; intro _) | (refine stC ?_; refine And.intro (fun _ => ?_) (fun _ => ?_)))
  refine TQ.endR1 (L' := (.obj b (.cells [str nm].toArray 9 (0, 0)) :: L)) Tryz.results178 rvA rfl (.refl _) ?_ selA
  exact ⟨rfl, rfl, rfl⟩
set_option maxHeartbeats 8000000 in
theorem indexMp_gives (ns : List (List UInt8)) (nm : List UInt8) (ao : Option Addr) (n cap b : Nat) (flat : List Value) (g : Gh) (L : List Ent) (hl : ns.length = n) (_hn : n ≤ 1000000000) (hS : Sl g (.slice ao n cap) n 2 flat) (hM : Mem ns n flat) :
    Gives Tryz.prog 154 #[.slice ao n cap, .func (.func 178) #[] #[.pointer (some ⟨b, 0, none⟩)]] g (.obj b (.cells [str nm].toArray 9 (0, 0)) :: L) (.int .i64 (idxL nm ns 0)) := by
  refine .of (Does.of2 Tryz.func154 rfl Tryz.ntmps154 rfl ?_)
  obtain ⟨R, hR⟩ : ∃ R, R = idxL nm ns 0 := ⟨_, rfl⟩
  rw [← hR]
  repeat' (first
    | refine stS ?_ | (refine stB ?_; intro _) | (refine stC ?_; refine And.intro (fun _ => ?_) (fun _ => ?_)))
  refine TC.loopK (fun i : Nat => i ≤ n ∧ idxL nm (ns.drop i) i = R) (fun i => n - i) (fun i _ => [(8, .int .i64 (i : Nat)), (7, .int .i64 (n : Nat)), (0, .slice ao n cap), (1, .func (.func 178) #[] #[.pointer (some ⟨b, 0, none⟩)])]) [] (by repeat (first | apply Drop.nil | apply Drop.cons (by (repeat (first | apply Pick.here | apply Pick.there))))) (fun _ L => L) 0 ⟨Nat.zero_le _, hR.symm⟩ subA selA ?_
  clear hR
  rintro i ⟨hi, hR⟩
  try dsimp only at hi hR ⊢
  by_cases hlt : i < n
  · obtain ⟨s, v, hns, h0, h1⟩ := hM i hlt
    obtain ⟨b1, o1, rfl, hg⟩ := hS.elem hlt (by decide)
    have hld : ∀ j u, [str s, v][j]? = some u → g.cell b1 (o1 + i * 2 + j) = some u := fun j u hu => by
      match j, hu with
      | 0, hu => simp at hu; subst hu; exact hg 0 _ h0
      | 1, hu => simp at hu; subst hu; exact hg 1 _ h1
      | j + 2, hu => simp at hu
    have hll : [str s, v].length = 2 := rfl
    rw [idxL_at hns] at hR
    clear hM hS hg h0 h1
    by_cases he : s = nm
    · have A : Gives Tryz.prog 178 #[.agg #[str s, v], .pointer (some ⟨b, 0, none⟩)] g (.obj b (.cells [str nm].toArray 9 (0, 0)) :: L) (.bool true) := by
        have := pmember1_gives s nm v b g L
        rw [decide_eq_true he] at this; exact this
      rw [if_pos he] at hR
      subst hR
      clear he
      repeat' (first
    | refine wkV ?_
    | refine TL.gives (Enters.func (by rfl) (by kernel_rfl) (by rfl)) (A) (by rfl) ?_ | refine TW.gives (Enters.func (by rfl) (by kernel_rfl) (by rfl)) (A) (by rfl) ?_
    | refine stS ?_ | (refine stB ?_; intro _) | (refine stC ?_; refine And.intro (fun _ => ?_) (fun _ => ?_)))
      refine TQ.endR1 (L' := (.obj b (.cells [str nm].toArray 9 (0, 0)) :: L)) Tryz.results154 rvA rfl (.refl _) ?_ selA
      exact ⟨rfl, rfl, rfl⟩
    · have A : Gives Tryz.prog 178 #[.agg #[str s, v], .pointer (some ⟨b, 0, none⟩)] g (.obj b (.cells [str nm].toArray 9 (0, 0)) :: L) (.bool false) := by
        have := pmember1_gives s nm v b g L
        rw [decide_eq_false he] at this; exact this
      rw [if_neg he] at hR
      have HR : Hn _ := ⟨hR⟩
      clear he hR
      repeat' (first
    | refine wkV ?_
    | refine TL.gives (Enters.func (by rfl) (by kernel_rfl) (by rfl)) (A) (by rfl) ?_ | refine TW.gives (Enters.func (by rfl) (by kernel_rfl) (by rfl)) (A) (by rfl) ?_
    | refine stS ?_ | (refine stB ?_; intro _) | (refine stC ?_; refine And.intro (fun _ => ?_) (fun _ => ?_)))
      refine TQ.round (i + 1) ?_ ?_ rfl subA selA
      · exact ⟨by omega, HR.out⟩
      · show n - (i + 1) < n - i
        omega
  · obtain rfl : i = n := by omega
    rw [← hl, List.drop_length, idxL] at hR
    subst hR
    clear hM hS
    repeat' (first
    | refine stS ?_ | (refine stB ?_; intro _) | (refine stC ?_; refine And.intro (fun _ => ?_) (fun _ => ?_)))
    refine TQ.endR1 (L' := (.obj b (.cells [str nm].toArray 9 (0, 0)) :: L)) Tryz.results154 rvA rfl (.refl _) ?_ selA
    exact ⟨rfl, rfl, rfl⟩
theorem idxL_idxN (nm : List UInt8) : ∀ (ns : List (List UInt8)) (i : Nat), idxL nm ns i = match idxN ns nm with | some k => ((i + k : Nat) : Int) | none => -1
  | [], i => rfl
  | n :: r, i => by
    rw [idxL, idxN]
    by_cases h : n = nm
    · rw [if_pos h, if_pos h]; rfl
    · rw [if_neg h, if_neg h, idxL_idxN nm r (i + 1)]
      cases idxN r nm with
      | none => rfl
      | some k => show ((i + 1 + k : Nat) : Int) = ((i + (k + 1) : Nat) : Int); omega
def idxV (ns : List (List UInt8)) (nm : List UInt8) : Int := match idxN ns nm with | some k => (k : Int) | none => -1
theorem pmember_gives (ns : List (List UInt8)) (nm : List UInt8) (ao : Option Addr) (n cap : Nat) (flat : List Value) (g : Gh) (L : List Ent) (hl : ns.length = n) (hn : n ≤ 1000000000) (hS : Sl g (.slice ao n cap) n 2 flat) (hM : Mem ns n flat) :
    Gives Tryz.prog 158 #[.slice ao n cap, str nm] g L (.int .i64 (idxV ns nm)) := by
  refine .of (Does.of2 Tryz.func158 rfl Tryz.ntmps158 rfl ?_)
  have A := fun b L => indexMp_gives ns nm ao n cap b flat g L hl hn hS hM
  rw [idxL_idxN] at A
  simp only [Nat.zero_add] at A
  clear hS hM
  repeat' (first
    | ((with_reducible apply TL.gives_plain); (· kernel_rfl); (· rfl); (· exact A _ _); (· rfl)) | ((with_reducible apply TW.gives_plain); (· kernel_rfl); (· rfl); (· exact A _ _); (· rfl))
    | refine stS ?_ | (refine stB ?_; intro _) | (refine stC ?_; refine And.intro (fun _ => ?_) (fun _ => ?_)))
  refine TQ.endR1 (L' := L) Tryz.results158 rvA rfl (.refl _) ?_ selA
  exact ⟨rfl, rfl, rfl⟩
end Go.Proofs.YthngolfabfijpaaGreatDoor
namespace Go.Proofs.YthngolfabfijpaaGreatDoor
open Go.RowKit Go.TL
set_option maxRecDepth 100000

theorem errUnd : ∃ ms, Tryz.prog.underlying 131 = some (.interface ms) := ⟨_, Tryz.underlying131⟩
instance : Und Tryz.prog 131 (.interface (Classical.choose errUnd)) := ⟨Classical.choose_spec errUnd⟩
def GErr (g : Gh) : Prop := ∀ L w, St g L w → (∃ te pe, w.cell? ⟨5, 0, none⟩ = some (.iface te pe)) ∧ (∃ te pe, w.cell? ⟨6, 0, none⟩ = some (.iface te pe))
theorem GErr.le {g g' : Gh} (h : GErr g) (hg : g.le g') : GErr g' := fun L w hs => h L w (hs.less hg)
def AtoiR (s : List UInt8) (g : Gh) (L : List Ent) : Ending → Gh → List Ent → Prop := fun r g' L1 => ∃ v e, r = .returned (.tuple #[.int .i64 v, e]) ∧ g' = g ∧ L1 = L ∧ (match Lib.atoiAll s with
  | .ok u => e = .nilIface ∧ v = u
  | _ => ∃ T u, e = .iface T u)
theorem atoi_does (s : List UInt8) (g : Gh) (L : List Ent) (_hs : s.length ≤ 1000000) (hE : GErr g) : Does Tryz.prog 116 #[str s] g L (AtoiR s g L) := .mk fun w hw => by
  have hd : (ByteArray.mk s.toArray).data.toList = s := by simp
  unfold AtoiR
  obtain ⟨⟨t1, p1, h1⟩, ⟨t2, p2, h2⟩⟩ := hE L w hw
  rcases h : Lib.atoiAll s with v | _ | _
  · refine (Tryz.strconv_Atoi_ok ⟨s.toArray⟩ (by rw [size_mk]; omega) v (by rw [hd]; exact h) w).mono ?_
    rintro e w' ⟨rfl, hw'⟩
    refine ⟨g, L, .refl g, ⟨v, _, rfl, rfl, rfl, rfl, rfl⟩, ?_⟩
    rcases hw' with rfl | ⟨t, rfl⟩
    · exact hw
    · exact hw.ext (Lib.bytesWorld_below _ _ _)
  · refine (Tryz.strconv_Atoi_syntax ⟨s.toArray⟩ (by rw [size_mk]; omega) (by rw [hd]; exact h) _ w h1 (.inr ⟨_, _, rfl⟩)).mono ?_
    rintro e w' ⟨N, rfl, _, _, hb⟩
    exact ⟨g, L, .refl g, ⟨_, _, rfl, rfl, rfl, _, _, rfl⟩, hw.ext hb⟩
  · refine (Tryz.strconv_Atoi_range ⟨s.toArray⟩ (by rw [size_mk]; omega) (by rw [hd]; exact h) _ w h2 (.inr ⟨_, _, rfl⟩)).mono ?_
    rintro e w' ⟨N, rfl, _, _, hb⟩
    exact ⟨g, L, .refl g, ⟨_, _, rfl, rfl, rfl, _, _, rfl⟩, hw.ext hb⟩
theorem itoa_gives (n : Int) (g : Gh) (L : List Ent) (h0 : -9223372036854775808 ≤ n) (h1 : n ≤ 9223372036854775807) (hT : GTabs g) : Gives Tryz.prog 117 #[.int .i64 n] g L (str (Lib.itoa n)) := .mk fun w hw => by
  refine (Tryz.strconv_Itoa n h0 h1 w (hT L w hw w (.refl _ _))).mono ?_
  rintro e w' ⟨rfl, k, os, rfl⟩
  exact ⟨rfl, hw.ext (Lib.below_grow _ _ (Nat.le_refl _) _ _)⟩
set_option maxHeartbeats 8000000 in
theorem pitem_gives (s : List UInt8) (g : Gh) (L : List Ent) (hs : s.length ≤ 1000000) (hE : GErr g) (hT : GTabs g) : Gives Tryz.prog 78 #[str s] g L (.int .i64 (itemV s)) := by
  refine .of (Does.of1 Tryz.func78 rfl Tryz.ntmps78 rfl ?_)
  have A := fun L => atoi_does s g L hs hE
  unfold AtoiR at A
  have hit := item_atoi s
  cases h : Lib.atoiAll s with
  | ok v =>
    rw [h] at A hit
    have hb := Lib.atoiAll_bounds h
    have I := fun L => itoa_gives v g L hb.1 hb.2 hT
    dsimp only at hit
    rw [← hit]
    by_cases he : Lib.itoa v = s
    · rw [he] at I
      by_cases h0 : 0 ≤ v
      · rw [if_pos ⟨he, h0⟩]
        repeat' (first
    | refine wkV ?_
    | (refine TL.call (Enters.plain (by kernel_rfl) (by rfl)) (by rfl) (A _) ?_; (rintro e g1 L1 _ ⟨v1, e1, k1, k2, k3, k4, k5⟩; have k2 := k2.symm; have k3 := k3.symm; subst k1; subst k2; subst k3; subst k4; subst k5; refine CallK.ret ?_))
    | ((with_reducible apply TL.gives_plain); (· kernel_rfl); (· rfl); (· exact I _); (· rfl)) | ((with_reducible apply TW.gives_plain); (· kernel_rfl); (· rfl); (· exact I _); (· rfl))
    | refine stS ?_ | (refine stB ?_; intro _) | (refine stC ?_; refine And.intro (fun _ => ?_) (fun _ => ?_)))
        · rename_i hx; exact absurd rfl hx.out
        · refine TQ.endR1 (L' := L) Tryz.results78 rvA rfl (.refl _) ?_ selA
          exact ⟨rfl, rfl, rfl⟩
      · rw [if_neg (fun h => h0 h.2)]
        repeat' (first
    | refine wkV ?_
    | (refine TL.call (Enters.plain (by kernel_rfl) (by rfl)) (by rfl) (A _) ?_; (rintro e g1 L1 _ ⟨v1, e1, k1, k2, k3, k4, k5⟩; have k2 := k2.symm; have k3 := k3.symm; subst k1; subst k2; subst k3; subst k4; subst k5; refine CallK.ret ?_))
    | ((with_reducible apply TL.gives_plain); (· kernel_rfl); (· rfl); (· exact I _); (· rfl)) | ((with_reducible apply TW.gives_plain); (· kernel_rfl); (· rfl); (· exact I _); (· rfl))
    | refine stS ?_ | (refine stB ?_; intro _) | (refine stC ?_; refine And.intro (fun _ => ?_) (fun _ => ?_)))
        · rename_i hx; exact absurd rfl hx.out
        · refine TQ.endR1 (L' := L) Tryz.results78 rvA rfl (.refl _) ?_ selA
          exact ⟨rfl, rfl, rfl⟩
    · rw [if_neg (fun h => he h.1)]
      repeat' (first
    | refine wkV ?_
    | (refine TL.call (Enters.plain (by kernel_rfl) (by rfl)) (by rfl) (A _) ?_; (rintro e g1 L1 _ ⟨v1, e1, k1, k2, k3, k4, k5⟩; have k2 := k2.symm; have k3 := k3.symm; subst k1; subst k2; subst k3; subst k4; subst k5; refine CallK.ret ?_))
    | ((with_reducible apply TL.gives_plain); (· kernel_rfl); (· rfl); (· exact I _); (· rfl)) | ((with_reducible apply TW.gives_plain); (· kernel_rfl); (· rfl); (· exact I _); (· rfl))
    | refine stS ?_ | (refine stB ?_; intro _) | (refine stC ?_; refine And.intro (fun _ => ?_) (fun _ => ?_)))
      all_goals
        refine TQ.endR1 (L' := L) Tryz.results78 rvA rfl (.refl _) ?_ selA
        exact ⟨rfl, rfl, rfl⟩
  | _ =>
    rw [h] at A hit
    dsimp only at A hit
    rw [← hit]
    repeat' (first
    | refine wkV ?_
    | (refine TL.call (Enters.plain (by kernel_rfl) (by rfl)) (by rfl) (A _) ?_; (rintro e g1 L1 _ ⟨v1, e1, k1, k2, k3, T, u, k5⟩; have k2 := k2.symm; have k3 := k3.symm; subst k1; subst k2; subst k3; subst k5; refine CallK.ret ?_))
    | refine stS ?_ | (refine stB ?_; intro _) | (refine stC ?_; refine And.intro (fun _ => ?_) (fun _ => ?_)))
    refine TQ.endR1 (L' := L) Tryz.results78 rvA rfl (.refl _) ?_ selA
    exact ⟨rfl, rfl, rfl⟩
end Go.Proofs.YthngolfabfijpaaGreatDoor
