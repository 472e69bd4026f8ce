/-
  Values as data, the document's and the program's. The walks of geom: what may be, rects, spans.
-/
import Derived.Test.YtfanccddokckcaaGreatDoorSt4
import Derived.Test.YtfanccddokckcaaGreatDoorSt0
import Derived.Test.YtfanccddokckcaaGreatDoorSt2
import Derived.Test.YtfanccddokckcaaGreatDoorSt1
namespace Go.Proofs.YtfanccddokckcaaGreatDoor
open Go.RowKit Go.TL

inductive DV where
  | mk (kind : Int) (b : Bool) (n : Int) (s : List UInt8) (items : List DV) (names : List (List UInt8))
def DV.kind : DV → Int | .mk k _ _ _ _ _ => k
def DV.b : DV → Bool | .mk _ b _ _ _ _ => b
def DV.n : DV → Int | .mk _ _ n _ _ _ => n
def DV.s : DV → List UInt8 | .mk _ _ _ s _ _ => s
def DV.items : DV → List DV | .mk _ _ _ _ i _ => i
def DV.names : DV → List (List UInt8) | .mk _ _ _ _ _ n => n
inductive J where
  | null
  | bool (b : Bool)
  | num (n : Int)
  | text (s : List UInt8)
  | list (xs : List J)
  | obj (ns : List (List UInt8)) (xs : List J)
  | other (k : Int)
def strs (l : List (List UInt8)) : List Value := l.map str
def toJ : DV → J
  | .mk k b n s items names =>
    if k = 0 then .null else if k = 1 then .bool b else if k = 2 then .num n else if k = 3 then .text s
    else if k = 4 then .list (items.attach.map fun ⟨x, _⟩ => toJ x) else if k = 5 then .obj names (items.attach.map fun ⟨x, _⟩ => toJ x) else .other k
theorem toJ_eq (k : Int) (b : Bool) (n : Int) (s : List UInt8) (items : List DV) (names : List (List UInt8)) : toJ (.mk k b n s items names) =
    if k = 0 then .null else if k = 1 then .bool b else if k = 2 then .num n else if k = 3 then .text s else if k = 4 then .list (items.map toJ) else if k = 5 then .obj names (items.map toJ) else .other k := by
  rw [toJ]; simp
mutual
def dsz : DV → Nat
  | .mk _ _ _ _ items _ => 1 + dszs items
def dszs : List DV → Nat
  | [] => 0
  | x :: r => dsz x + dszs r
end
mutual
def jsz : J → Nat
  | .list xs => 1 + jszs xs
  | .obj _ xs => 1 + jszs xs
  | .null => 1
  | .bool _ => 1
  | .num _ => 1
  | .text _ => 1
  | .other _ => 1
def jszs : List J → Nat
  | [] => 0
  | x :: r => jsz x + jszs r
end
mutual
def IsV (g : Gh) : DV → List Value → Prop
  | .mk k b n s items names, cs => ∃ vi vn flat, cs = [.int .i64 k, .bool b, .int .i64 n, str s, vi, vn] ∧ (-9223372036854775808 ≤ k ∧ k ≤ 9223372036854775807) ∧ (-9223372036854775808 ≤ n ∧ n ≤ 9223372036854775807) ∧ s.length ≤ 9223372036854775807 ∧
    Sl g vi items.length 6 flat ∧ items.length ≤ 9223372036854775807 ∧ IsVs g items flat ∧ Sl g vn names.length 1 (strs names) ∧ names.length ≤ 9223372036854775807 ∧ (∀ x ∈ names, x.length ≤ 9223372036854775807)
def IsVs (g : Gh) : List DV → List Value → Prop
  | [], flat => flat = []
  | x :: r, flat => ∃ cs fl, flat = cs ++ fl ∧ IsV g x cs ∧ IsVs g r fl
end
mutual
def IsJ (g : Gh) : J → Value → Prop
  | .null, v => v = .nilIface
  | .bool b, v => v = .iface 4 (.bool b)
  | .num n, v => v = .iface 70 (.int .i64 n) ∧ -9223372036854775808 ≤ n ∧ n ≤ 9223372036854775807
  | .text s, v => v = .iface 9 (str s)
  | .list xs, v => ∃ sl flat, v = .iface 72 sl ∧ Sl g sl xs.length 1 flat ∧ IsJs g xs flat
  | .obj ns xs, v => ∃ sl flat, v = .iface 74 sl ∧ Sl g sl xs.length 2 flat ∧ IsMs g ns xs flat
  | .other k, v => v = .iface 3 (.int .i64 k)
def IsJs (g : Gh) : List J → List Value → Prop
  | [], flat => flat = []
  | x :: r, flat => ∃ v fl, flat = v :: fl ∧ IsJ g x v ∧ IsJs g r fl
def IsMs (g : Gh) : List (List UInt8) → List J → List Value → Prop
  | [], [], flat => flat = []
  | n :: ns, x :: r, flat => ∃ v fl, flat = str n :: v :: fl ∧ IsJ g x v ∧ IsMs g ns r fl
  | [], _ :: _, _ => False
  | _ :: _, [], _ => False
end
end Go.Proofs.YtfanccddokckcaaGreatDoor
namespace Go.Proofs.YtfanccddokckcaaGreatDoor
open Go.RowKit Go.TL

mutual
theorem IsV.le {g g' : Gh} (hg : g.le g') : ∀ (x : DV) (cs : List Value), IsV g x cs → IsV g' x cs
  | .mk k b n s items names, cs, h => by
    rw [IsV] at h ⊢
    obtain ⟨vi, vn, flat, h1, h2, h3, h4, h5, h6, h7, h8, h9⟩ := h
    exact ⟨vi, vn, flat, h1, h2, h3, h4, h5.le hg, h6, IsVs.le hg items flat h7, h8.le hg, h9⟩
theorem IsVs.le {g g' : Gh} (hg : g.le g') : ∀ (l : List DV) (flat : List Value), IsVs g l flat → IsVs g' l flat
  | [], flat, h => by rw [IsVs] at h ⊢; exact h
  | x :: r, flat, h => by
    rw [IsVs] at h ⊢
    obtain ⟨cs, fl, h1, h2, h3⟩ := h
    exact ⟨cs, fl, h1, IsV.le hg x cs h2, IsVs.le hg r fl h3⟩
end
mutual
theorem IsJ.le {g g' : Gh} (hg : g.le g') : ∀ (x : J) (v : Value), IsJ g x v → IsJ g' x v
  | .null, v, h => by rw [IsJ] at h ⊢; exact h
  | .bool _, v, h => by rw [IsJ] at h ⊢; exact h
  | .num _, v, h => by rw [IsJ] at h ⊢; exact h
  | .text _, v, h => by rw [IsJ] at h ⊢; exact h
  | .other _, v, h => by rw [IsJ] at h ⊢; exact h
  | .list xs, v, h => by
    rw [IsJ] at h ⊢
    obtain ⟨sl, flat, h1, h2, h3⟩ := h
    exact ⟨sl, flat, h1, h2.le hg, IsJs.le hg xs flat h3⟩
  | .obj ns xs, v, h => by
    rw [IsJ] at h ⊢
    obtain ⟨sl, flat, h1, h2, h3⟩ := h
    exact ⟨sl, flat, h1, h2.le hg, IsMs.le hg ns xs flat h3⟩
theorem IsJs.le {g g' : Gh} (hg : g.le g') : ∀ (l : List J) (flat : List Value), IsJs g l flat → IsJs g' l flat
  | [], flat, h => by rw [IsJs] at h ⊢; exact h
  | x :: r, flat, h => by
    rw [IsJs] at h ⊢
    obtain ⟨v, fl, h1, h2, h3⟩ := h
    exact ⟨v, fl, h1, IsJ.le hg x v h2, IsJs.le hg r fl h3⟩
theorem IsMs.le {g g' : Gh} (hg : g.le g') : ∀ (ns : List (List UInt8)) (l : List J) (flat : List Value), IsMs g ns l flat → IsMs g' ns l flat
  | [], [], flat, h => by rw [IsMs] at h ⊢; exact h
  | n :: ns, x :: r, flat, h => by
    rw [IsMs] at h ⊢
    obtain ⟨v, fl, h1, h2, h3⟩ := h
    exact ⟨v, fl, h1, IsJ.le hg x v h2, IsMs.le hg ns r fl h3⟩
  | [], _ :: _, flat, h => by rw [IsMs] at h; exact h.elim
  | _ :: _, [], flat, h => by rw [IsMs] at h; exact h.elim
end
theorem IsV.len {g : Gh} : ∀ {x : DV} {cs : List Value}, IsV g x cs → cs.length = 6
  | .mk .., cs, h => by rw [IsV] at h; obtain ⟨vi, vn, flat, rfl, _⟩ := h; rfl
theorem IsVs.get {g : Gh} : ∀ {l : List DV} {flat : List Value} {i : Nat} {x : DV}, IsVs g l flat → l[i]? = some x → ∃ cs, IsV g x cs ∧ cs.length = 6 ∧ ∀ j u, cs[j]? = some u → flat[i * 6 + j]? = some u
  | [], _, _, _, _, h => by simp at h
  | y :: r, flat, 0, x, h, hx => by
    rw [IsVs] at h
    obtain ⟨cs, fl, rfl, h2, _⟩ := h
    obtain rfl : y = x := by simpa using hx
    refine ⟨cs, h2, h2.len, fun j u hu => ?_⟩
    rw [Nat.zero_mul, Nat.zero_add, List.getElem?_append_left (List.getElem?_eq_some_iff.1 hu).1]; exact hu
  | y :: r, flat, i + 1, x, h, hx => by
    rw [IsVs] at h
    obtain ⟨cs, fl, rfl, h2, h3⟩ := h
    obtain ⟨cs', h4, h5, h6⟩ := h3.get (i := i) (x := x) (by simpa using hx)
    refine ⟨cs', h4, h5, fun j u hu => ?_⟩
    rw [List.getElem?_append_right (by rw [h2.len]; omega), h2.len, show (i + 1) * 6 + j - 6 = i * 6 + j by omega]
    exact h6 j u hu
theorem IsJs.get {g : Gh} : ∀ {l : List J} {flat : List Value} {i : Nat} {x : J}, IsJs g l flat → l[i]? = some x → ∃ v, flat[i]? = some v ∧ IsJ g x v
  | [], _, _, _, _, h => by simp at h
  | y :: r, flat, 0, x, h, hx => by
    rw [IsJs] at h
    obtain ⟨v, fl, rfl, h2, _⟩ := h
    obtain rfl : y = x := by simpa using hx
    exact ⟨v, rfl, h2⟩
  | y :: r, flat, i + 1, x, h, hx => by
    rw [IsJs] at h
    obtain ⟨v, fl, rfl, h2, h3⟩ := h
    obtain ⟨u, h4, h5⟩ := h3.get (i := i) (x := x) (by simpa using hx)
    exact ⟨u, by simpa using h4, h5⟩
theorem IsMs.get {g : Gh} : ∀ {ns : List (List UInt8)} {l : List J} {flat : List Value} {i : Nat} {x : J}, IsMs g ns l flat → l[i]? = some x → ∃ s v, ns[i]? = some s ∧ flat[i * 2]? = some (str s) ∧ flat[i * 2 + 1]? = some v ∧ IsJ g x v
  | _, [], _, _, _, _, h => by simp at h
  | [], _ :: _, _, _, _, h, _ => by rw [IsMs] at h; exact h.elim
  | n :: ns, y :: r, flat, 0, x, h, hx => by
    rw [IsMs] at h
    obtain ⟨v, fl, rfl, h2, _⟩ := h
    obtain rfl : y = x := by simpa using hx
    exact ⟨n, v, rfl, rfl, rfl, h2⟩
  | n :: ns, y :: r, flat, i + 1, x, h, hx => by
    rw [IsMs] at h
    obtain ⟨v, fl, rfl, h2, h3⟩ := h
    obtain ⟨s, u, h4, h5, h6, h7⟩ := h3.get (i := i) (x := x) (by simpa using hx)
    refine ⟨s, u, by simpa using h4, ?_, ?_, h7⟩
    · rw [show (i + 1) * 2 = i * 2 + 2 by omega]; exact h5
    · rw [show (i + 1) * 2 + 1 = (i * 2 + 1) + 2 by omega]; exact h6
theorem IsMs.len {g : Gh} : ∀ {ns : List (List UInt8)} {l : List J} {flat : List Value}, IsMs g ns l flat → ns.length = l.length
  | [], [], _, _ => rfl
  | _ :: ns, _ :: r, flat, h => by
    rw [IsMs] at h
    obtain ⟨v, fl, _, _, h3⟩ := h
    rw [List.length_cons, List.length_cons, h3.len]
  | [], _ :: _, _, h => by rw [IsMs] at h; exact h.elim
  | _ :: _, [], _, h => by rw [IsMs] at h; exact h.elim
theorem IsJs.snoc {g : Gh} : ∀ {l : List J} {flat : List Value} {x : J} {v : Value}, IsJs g l flat → IsJ g x v → IsJs g (l ++ [x]) (flat ++ [v])
  | [], flat, x, v, h, hx => by
    rw [IsJs] at h
    subst h
    simp only [List.nil_append]
    rw [IsJs]
    exact ⟨v, [], rfl, hx, by rw [IsJs]⟩
  | y :: r, flat, x, v, h, hx => by
    rw [IsJs] at h
    obtain ⟨u, fl, rfl, h2, h3⟩ := h
    rw [List.cons_append, List.cons_append, IsJs]
    exact ⟨u, _, rfl, h2, h3.snoc hx⟩
theorem IsMs.snoc {g : Gh} : ∀ {ns : List (List UInt8)} {l : List J} {flat : List Value} {s : List UInt8} {x : J} {v : Value}, IsMs g ns l flat → IsJ g x v → IsMs g (ns ++ [s]) (l ++ [x]) (flat ++ [str s, v])
  | [], [], flat, s, x, v, h, hx => by
    rw [IsMs] at h
    subst h
    simp only [List.nil_append]
    rw [IsMs]
    exact ⟨v, [], rfl, hx, by rw [IsMs]⟩
  | n :: ns, y :: r, flat, s, x, v, h, hx => by
    rw [IsMs] at h
    obtain ⟨u, fl, rfl, h2, h3⟩ := h
    rw [List.cons_append, List.cons_append, IsMs]
    exact ⟨u, _, rfl, h2, h3.snoc hx⟩
  | [], _ :: _, _, _, _, _, h, _ => by rw [IsMs] at h; exact h.elim
  | _ :: _, [], _, _, _, _, h, _ => by rw [IsMs] at h; exact h.elim
theorem _root_.Go.TL.Sl.elem {g : Gh} {ao : Option Addr} {n sz cap : Nat} {xs : List Value} (h : Sl g (.slice ao n cap) n sz xs) {i : Nat} (hi : i < n) (h0 : 0 < sz) : ∃ b off, ao = some ⟨b, off, none⟩ ∧ ∀ j u, xs[i * sz + j]? = some u → g.cell b (off + i * sz + j) = some u := by
  obtain ⟨hl, ao', cap', hv, _, hc⟩ := h
  obtain ⟨rfl, rfl⟩ : ao = ao' ∧ cap = cap' := by simpa using hv
  have hlt : i * sz < xs.length := by rw [hl]; exact (Nat.mul_lt_mul_right h0).2 hi
  obtain ⟨b, off, e, _⟩ := hc (i * sz) xs[i * sz] (List.getElem?_eq_getElem hlt)
  refine ⟨b, off, e, fun j u hu => ?_⟩
  obtain ⟨b', off', e', hb⟩ := hc (i * sz + j) u hu
  obtain ⟨rfl, rfl⟩ : b = b' ∧ off = off' := by rw [e] at e'; simpa using e'
  rw [Nat.add_assoc]; exact hb
theorem strs_get {l : List (List UInt8)} {i : Nat} {s : List UInt8} (h : l[i]? = some s) : (strs l)[i]? = some (str s) := by simp [strs, h]
theorem _root_.Go.TL.Sl.slice {g : Gh} {v : Value} {n sz : Nat} {xs : List Value} (h : Sl g v n sz xs) : ∃ ao cap, v = .slice ao n cap := by
  obtain ⟨_, ao, cap, hv, _⟩ := h
  exact ⟨ao, cap, hv⟩
theorem _root_.Go.TL.Sl.cap {g : Gh} {ao : Option Addr} {n sz cap : Nat} {xs : List Value} (h : Sl g (.slice ao n cap) n sz xs) : n ≤ cap := by
  obtain ⟨_, ao', cap', hv, hc, _⟩ := h
  obtain ⟨rfl, rfl⟩ : ao = ao' ∧ cap = cap' := by simpa using hv
  exact hc
theorem _root_.Go.TL.Sl.take {g : Gh} {ao : Option Addr} {n sz cap : Nat} {xs : List Value} (h : Sl g (.slice ao n cap) n sz xs) {i : Nat} (hi : i ≤ n) : Sl g (.slice ao i cap) i sz (xs.take (i * sz)) := by
  have hcap := h.cap
  obtain ⟨hl, ao', cap', hv, _, hc⟩ := h
  obtain ⟨rfl, rfl⟩ : ao = ao' ∧ cap = cap' := by simpa using hv
  refine ⟨?_, ao, cap, rfl, by omega, fun j u hu => ?_⟩
  · rw [List.length_take, hl]; exact Nat.min_eq_left (Nat.mul_le_mul_right _ hi)
  · rw [List.getElem?_take] at hu
    split at hu
    · exact hc j u hu
    · cases hu
theorem dsz_get : ∀ {l : List DV} {i : Nat} {x : DV}, l[i]? = some x → dsz x ≤ dszs l
  | [], _, _, h => by simp at h
  | y :: r, 0, x, h => by
    obtain rfl : y = x := by simpa using h
    rw [dszs]; omega
  | y :: r, i + 1, x, h => by
    have := dsz_get (l := r) (i := i) (x := x) (by simpa using h)
    rw [dszs]; omega
theorem jsz_get : ∀ {l : List J} {i : Nat} {x : J}, l[i]? = some x → jsz x ≤ jszs l
  | [], _, _, h => by simp at h
  | y :: r, 0, x, h => by
    obtain rfl : y = x := by simpa using h
    rw [jszs]; omega
  | y :: r, i + 1, x, h => by
    have := jsz_get (l := r) (i := i) (x := x) (by simpa using h)
    rw [jszs]; omega
end Go.Proofs.YtfanccddokckcaaGreatDoor
namespace Go.Proofs.YtfanccddokckcaaGreatDoor
open Go.RowKit Go.TL
set_option maxRecDepth 100000

end Go.Proofs.YtfanccddokckcaaGreatDoor
namespace Go.Proofs.YtfanccddokckcaaGreatDoor
open Go.RowKit Go.TL
set_option maxRecDepth 100000

mutual
def wfV : DV → Prop
  | .mk k _ _ s items names => s.length ≤ 100000 ∧ items.length ≤ 100000 ∧ (k = 5 → names.length = items.length ∧ ∀ x ∈ names, x.length ≤ 100000) ∧ (k = 4 ∨ k = 5 → wfVs items)
def wfVs : List DV → Prop
  | [] => True
  | x :: r => wfV x ∧ wfVs r
end
theorem wfVs.get : ∀ {l : List DV} {i : Nat} {x : DV}, wfVs l → l[i]? = some x → wfV x
  | [], _, _, _, h => by simp at h
  | y :: r, 0, x, h, hx => by
    rw [wfVs] at h
    obtain rfl : y = x := by simpa using hx
    exact h.1
  | y :: r, i + 1, x, h, hx => by
    rw [wfVs] at h
    exact wfVs.get h.2 (i := i) (by simpa using hx)
theorem IsJ.one {g : Gh} {j : J} {v : Value} (h : IsJ g j v) : v.one = true := by
  cases j <;> rw [IsJ] at h <;> first | (subst h; rfl) | (obtain ⟨rfl, _⟩ := h; rfl) | (obtain ⟨_, _, rfl, _⟩ := h; rfl)
end Go.Proofs.YtfanccddokckcaaGreatDoor
namespace Go.Proofs.YtfanccddokckcaaGreatDoor
open Go.RowKit Go.TL
set_option maxRecDepth 100000

abbrev Pt := Int × Int
abbrev pt (p : Pt) : Value := .agg #[.int .i64 p.1, .int .i64 p.2]
structure Rc where
  x0 : Int
  y0 : Int
  x1 : Int
  y1 : Int
  deriving DecidableEq
abbrev rcV (r : Rc) : Value := .agg #[.int .i64 r.x0, .int .i64 r.y0, .int .i64 r.x1, .int .i64 r.y1]
def inB (n lo hi : Int) : Bool := decide (lo ≤ n) && decide (n ≤ hi)
def mayB (p : Pt) : Bool := inB p.1 (-1800000000) 1800000000 && inB p.2 (-900000000) 900000000
def holdsB (r : Rc) (p : Pt) : Bool := inB p.1 r.x0 r.x1 && inB p.2 r.y0 r.y1
def spanR (a b : Pt) : Rc := ⟨if b.1 < a.1 then b.1 else a.1, if b.2 < a.2 then b.2 else a.2, if a.1 < b.1 then b.1 else a.1, if a.2 < b.2 then b.2 else a.2⟩
def joinR (r s : Rc) : Rc := ⟨if s.x0 < r.x0 then s.x0 else r.x0, if s.y0 < r.y0 then s.y0 else r.y0, if r.x1 < s.x1 then s.x1 else r.x1, if r.y1 < s.y1 then s.y1 else r.y1⟩
section
variable (g : Gh) (L : List Ent)
theorem within_gives (n lo hi : Int) : Gives Tryz.prog 98 #[.int .i64 n, .int .i64 lo, .int .i64 hi] g L (.bool (inB n lo hi)) := by
  refine .of (Does.of3 Tryz.func98 rfl Tryz.ntmps98 rfl ?_)
  unfold inB
  cases h1 : decide (lo ≤ n) with
  | false =>
    repeat' (first
    | refine wkQ ?_
    | ((with_reducible apply TL.pure (d := 9) (v := .bool false)); (· exact Y.geq_b h1 rfl rfl); (· rfl)) | ((with_reducible apply TW.pure (d := 9) (v := .bool false)); (· exact Y.geq_b h1 rfl rfl); (· rfl))
    | refine wkV ?_
    | refine stS ?_ | (refine stB ?_; intro _) | (refine stC ?_; refine And.intro (fun _ => ?_) (fun _ => ?_)))
    refine TQ.endR1 (L' := L) Tryz.results98 rvA rfl (.refl _) ?_ selF
    exact ⟨rfl, rfl, rfl⟩
  | true =>
    repeat' (first
    | refine wkQ ?_
    | ((with_reducible apply TL.pure (d := 9) (v := .bool true)); (· exact Y.geq_b h1 rfl rfl); (· rfl)) | ((with_reducible apply TW.pure (d := 9) (v := .bool true)); (· exact Y.geq_b h1 rfl rfl); (· rfl))
    | refine wkV ?_
    | refine stS ?_ | (refine stB ?_; intro _) | (refine stC ?_; refine And.intro (fun _ => ?_) (fun _ => ?_)))
    refine TQ.endR1 (L' := L) Tryz.results98 rvA rfl (.refl _) ?_ selF
    exact ⟨rfl, rfl, rfl⟩
theorem May_gives (p : Pt) : Gives Tryz.prog 62 #[pt p] g L (.bool (mayB p)) := by
  refine .of (Does.of1 Tryz.func62 rfl Tryz.ntmps62 rfl ?_)
  have W1 := fun L => within_gives g L p.1 (-1800000000) 1800000000
  have W2 := fun L => within_gives g L p.2 (-900000000) 900000000
  unfold mayB
  cases h1 : inB p.1 (-1800000000) 1800000000 with
  | false =>
    rw [h1] at W1
    repeat' (first
    | refine wkQ ?_
    | refine wkV ?_
    | ((with_reducible apply TL.gives_plain); (· kernel_rfl); (· rfl); (· exact W1 _); (· rfl)) | ((with_reducible apply TW.gives_plain); (· kernel_rfl); (· rfl); (· exact W1 _); (· rfl))
    | refine stS ?_ | (refine stB ?_; intro _) | (refine stC ?_; refine And.intro (fun _ => ?_) (fun _ => ?_)))
    refine TQ.endR1 (L' := L) Tryz.results62 rvA rfl (.refl _) ?_ selF
    exact ⟨rfl, rfl, rfl⟩
  | true =>
    rw [h1] at W1
    repeat' (first
    | refine wkQ ?_
    | refine wkV ?_
    | ((with_reducible apply TL.gives_plain); (· kernel_rfl); (· rfl); (· exact W1 _); (· rfl)) | ((with_reducible apply TW.gives_plain); (· kernel_rfl); (· rfl); (· exact W1 _); (· rfl))
    | ((with_reducible apply TL.gives_plain); (· kernel_rfl); (· rfl); (· exact W2 _); (· rfl)) | ((with_reducible apply TW.gives_plain); (· kernel_rfl); (· rfl); (· exact W2 _); (· rfl))
    | refine stS ?_ | (refine stB ?_; intro _) | (refine stC ?_; refine And.intro (fun _ => ?_) (fun _ => ?_)))
    refine TQ.endR1 (L' := L) Tryz.results62 rvA rfl (.refl _) ?_ selF
    exact ⟨rfl, rfl, rfl⟩
theorem low_gives (r : Rc) : Gives Tryz.prog 60 #[rcV r] g L (pt (r.x0, r.y0)) := by
  refine .of (Does.of1 Tryz.func60 rfl Tryz.ntmps60 rfl ?_)
  repeat' (first
    | refine wkQ ?_
    | refine wkV ?_
    | refine stS ?_ | (refine stB ?_; intro _) | (refine stC ?_; refine And.intro (fun _ => ?_) (fun _ => ?_)))
  refine TQ.endR1 (L' := L) Tryz.results60 rvA rfl (.refl _) ?_ selF
  exact ⟨rfl, rfl, rfl⟩
theorem high_gives (r : Rc) : Gives Tryz.prog 61 #[rcV r] g L (pt (r.x1, r.y1)) := by
  refine .of (Does.of1 Tryz.func61 rfl Tryz.ntmps61 rfl ?_)
  repeat' (first
    | refine wkQ ?_
    | refine wkV ?_
    | refine stS ?_ | (refine stB ?_; intro _) | (refine stC ?_; refine And.intro (fun _ => ?_) (fun _ => ?_)))
  refine TQ.endR1 (L' := L) Tryz.results61 rvA rfl (.refl _) ?_ selF
  exact ⟨rfl, rfl, rfl⟩
theorem holds_gives (r : Rc) (p : Pt) : Gives Tryz.prog 63 #[rcV r, pt p] g L (.bool (holdsB r p)) := by
  refine .of (Does.of2 Tryz.func63 rfl Tryz.ntmps63 rfl ?_)
  have W1 := fun L => within_gives g L p.1 r.x0 r.x1
  have W2 := fun L => within_gives g L p.2 r.y0 r.y1
  unfold holdsB
  cases h1 : inB p.1 r.x0 r.x1 with
  | false =>
    rw [h1] at W1
    repeat' (first
    | refine wkQ ?_
    | refine wkV ?_
    | ((with_reducible apply TL.gives_plain); (· kernel_rfl); (· rfl); (· exact W1 _); (· rfl)) | ((with_reducible apply TW.gives_plain); (· kernel_rfl); (· rfl); (· exact W1 _); (· rfl))
    | refine stS ?_ | (refine stB ?_; intro _) | (refine stC ?_; refine And.intro (fun _ => ?_) (fun _ => ?_)))
    refine TQ.endR1 (L' := L) Tryz.results63 rvA rfl (.refl _) ?_ selF
    exact ⟨rfl, rfl, rfl⟩
  | true =>
    rw [h1] at W1
    repeat' (first
    | refine wkQ ?_
    | refine wkV ?_
    | ((with_reducible apply TL.gives_plain); (· kernel_rfl); (· rfl); (· exact W1 _); (· rfl)) | ((with_reducible apply TW.gives_plain); (· kernel_rfl); (· rfl); (· exact W1 _); (· rfl))
    | ((with_reducible apply TL.gives_plain); (· kernel_rfl); (· rfl); (· exact W2 _); (· rfl)) | ((with_reducible apply TW.gives_plain); (· kernel_rfl); (· rfl); (· exact W2 _); (· rfl))
    | refine stS ?_ | (refine stB ?_; intro _) | (refine stC ?_; refine And.intro (fun _ => ?_) (fun _ => ?_)))
    refine TQ.endR1 (L' := L) Tryz.results63 rvA rfl (.refl _) ?_ selF
    exact ⟨rfl, rfl, rfl⟩
theorem span_gives (a b : Pt) : Gives Tryz.prog 99 #[pt a, pt b] g L (rcV (spanR a b)) := by
  refine .of (Does.of2 Tryz.func99 rfl Tryz.ntmps99 rfl ?_)
  repeat' (first
    | refine wkQ ?_
    | ((with_reducible apply TL.pure (d := 9) (v := .int .i64 (spanR a b).x0)); (· exact Y.min_int rfl rfl rfl); (· rfl)) | ((with_reducible apply TW.pure (d := 9) (v := .int .i64 (spanR a b).x0)); (· exact Y.min_int rfl rfl rfl); (· rfl))
    | ((with_reducible apply TL.pure (d := 14) (v := .int .i64 (spanR a b).y0)); (· exact Y.min_int rfl rfl rfl); (· rfl)) | ((with_reducible apply TW.pure (d := 14) (v := .int .i64 (spanR a b).y0)); (· exact Y.min_int rfl rfl rfl); (· rfl))
    | ((with_reducible apply TL.pure (d := 19) (v := .int .i64 (spanR a b).x1)); (· exact Y.max_int rfl rfl rfl); (· rfl)) | ((with_reducible apply TW.pure (d := 19) (v := .int .i64 (spanR a b).x1)); (· exact Y.max_int rfl rfl rfl); (· rfl))
    | ((with_reducible apply TL.pure (d := 24) (v := .int .i64 (spanR a b).y1)); (· exact Y.max_int rfl rfl rfl); (· rfl)) | ((with_reducible apply TW.pure (d := 24) (v := .int .i64 (spanR a b).y1)); (· exact Y.max_int rfl rfl rfl); (· rfl))
    | refine wkV ?_
    | refine stS ?_ | (refine stB ?_; intro _) | (refine stC ?_; refine And.intro (fun _ => ?_) (fun _ => ?_)))
  refine TQ.endR1 (L' := L) Tryz.results99 rvA rfl (.refl _) ?_ selF
  exact ⟨rfl, rfl, rfl⟩
theorem join_gives (r s : Rc) : Gives Tryz.prog 66 #[rcV r, rcV s] g L (rcV (joinR r s)) := by
  refine .of (Does.of2 Tryz.func66 rfl Tryz.ntmps66 rfl ?_)
  repeat' (first
    | refine wkQ ?_
    | ((with_reducible apply TL.pure (d := 9) (v := .int .i64 (joinR r s).x0)); (· exact Y.min_int rfl rfl rfl); (· rfl)) | ((with_reducible apply TW.pure (d := 9) (v := .int .i64 (joinR r s).x0)); (· exact Y.min_int rfl rfl rfl); (· rfl))
    | ((with_reducible apply TL.pure (d := 14) (v := .int .i64 (joinR r s).y0)); (· exact Y.min_int rfl rfl rfl); (· rfl)) | ((with_reducible apply TW.pure (d := 14) (v := .int .i64 (joinR r s).y0)); (· exact Y.min_int rfl rfl rfl); (· rfl))
    | ((with_reducible apply TL.pure (d := 19) (v := .int .i64 (joinR r s).x1)); (· exact Y.max_int rfl rfl rfl); (· rfl)) | ((with_reducible apply TW.pure (d := 19) (v := .int .i64 (joinR r s).x1)); (· exact Y.max_int rfl rfl rfl); (· rfl))
    | ((with_reducible apply TL.pure (d := 24) (v := .int .i64 (joinR r s).y1)); (· exact Y.max_int rfl rfl rfl); (· rfl)) | ((with_reducible apply TW.pure (d := 24) (v := .int .i64 (joinR r s).y1)); (· exact Y.max_int rfl rfl rfl); (· rfl))
    | refine wkV ?_
    | refine stS ?_ | (refine stB ?_; intro _) | (refine stC ?_; refine And.intro (fun _ => ?_) (fun _ => ?_)))
  refine TQ.endR1 (L' := L) Tryz.results66 rvA rfl (.refl _) ?_ selF
  exact ⟨rfl, rfl, rfl⟩
end
def flatP (l : List Pt) : List Value := l.flatMap fun p => [.int .i64 p.1, .int .i64 p.2]
theorem flatP_len (l : List Pt) : (flatP l).length = l.length * 2 := by
  induction l with
  | nil => rfl
  | cons p l ih => simp only [flatP, List.flatMap_cons, List.length_append, List.length_cons, List.length_nil] at ih ⊢; omega
theorem flatP_get {l : List Pt} {i : Nat} {p : Pt} (h : l[i]? = some p) : (flatP l)[i * 2]? = some (.int .i64 p.1) ∧ (flatP l)[i * 2 + 1]? = some (.int .i64 p.2) := by
  induction l generalizing i with
  | nil => simp at h
  | cons q l ih =>
    cases i with
    | zero => obtain rfl : q = p := by simpa using h
              exact ⟨rfl, rfl⟩
    | succ i =>
      have h2 := ih (i := i) (by simpa using h)
      rw [Nat.succ_mul]
      exact h2
theorem all_gives (l : List Pt) (v : Value) (g : Gh) (L : List Ent) (hS : Sl g v l.length 2 (flatP l)) (_hl : l.length ≤ 1000000) : Gives Tryz.prog 59 #[v] g L (.bool (l.all mayB)) := by
  refine .of (Does.of1 Tryz.func59 rfl Tryz.ntmps59 rfl ?_)
  obtain ⟨ao, cap, rfl⟩ := hS.slice
  obtain ⟨R, hR⟩ : ∃ R, R = (l.drop 0).all mayB := ⟨_, rfl⟩
  rw [show l.all mayB = R from hR.symm]
  repeat' (first
    | refine wkQ ?_
    | refine wkV ?_
    | refine stS ?_ | (refine stB ?_; intro _) | (refine stC ?_; refine And.intro (fun _ => ?_) (fun _ => ?_)))
  refine TC.loopK (fun i : Nat => i ≤ l.length ∧ (l.drop i).all mayB = R) (fun i => l.length - i) (fun i _ => [(7, .int .i64 (i : Nat)), (6, .int .i64 (l.length : Nat)), (5, .slice ao l.length cap)]) [] .nil (fun _ L => L) 0 ⟨Nat.zero_le _, hR.symm⟩ subA selA ?_
  clear hR
  rintro i ⟨hi, hR⟩
  try dsimp only at hi hR ⊢
  by_cases hlt : i < l.length
  · obtain ⟨p, hp⟩ : ∃ p, l[i]? = some p := ⟨_, List.getElem?_eq_getElem hlt⟩
    obtain ⟨b1, o1, rfl, hg⟩ := hS.elem hlt (by decide)
    obtain ⟨h0, h1⟩ := flatP_get hp
    have hld : ∀ j u, [Value.int .i64 p.1, .int .i64 p.2][j]? = some u → g.cell b1 (o1 + i * 2 + j) = some u := fun j u hu => by
      match j, hu with
      | 0, hu => simp at hu; subst hu; exact hg 0 _ h0
      | 1, hu => simp at hu; subst hu; exact hg 1 _ h1
      | j + 2, hu => simp at hu
    have hll : [Value.int .i64 p.1, .int .i64 p.2].length = 2 := rfl
    have M := fun L => May_gives g L p
    rw [drop_of_get hp, List.all_cons] at hR
    clear hS hg h0 h1
    cases hm : mayB p with
    | false =>
      rw [hm] at M hR
      repeat' (first
    | refine wkQ ?_
    | refine wkV ?_
    | ((with_reducible apply TL.gives_plain); (· kernel_rfl); (· rfl); (· exact M _); (· rfl)) | ((with_reducible apply TW.gives_plain); (· kernel_rfl); (· rfl); (· exact M _); (· rfl))
    | refine stS ?_ | (refine stB ?_; intro _) | (refine stC ?_; refine And.intro (fun _ => ?_) (fun _ => ?_)))
      refine TQ.endR1 (L' := L) Tryz.results59 rvA rfl (.refl _) ?_ selF
      exact ⟨by rw [← hR]; rfl, rfl, rfl⟩
    | true =>
      rw [hm] at M hR
      repeat' (first
    | refine wkQ ?_
    | refine wkV ?_
    | ((with_reducible apply TL.gives_plain); (· kernel_rfl); (· rfl); (· exact M _); (· rfl)) | ((with_reducible apply TW.gives_plain); (· kernel_rfl); (· rfl); (· exact M _); (· rfl))
    | refine stS ?_ | (refine stB ?_; intro _) | (refine stC ?_; refine And.intro (fun _ => ?_) (fun _ => ?_)))
      refine TQ.round (i + 1) ?_ ?_ rfl subA selF
      · exact ⟨by omega, hR⟩
      · show l.length - (i + 1) < l.length - i
        omega
  · obtain rfl : i = l.length := by omega
    rw [List.drop_length] at hR
    repeat' (first
    | refine wkQ ?_
    | refine wkV ?_
    | refine stS ?_ | (refine stB ?_; intro _) | (refine stC ?_; refine And.intro (fun _ => ?_) (fun _ => ?_)))
    refine TQ.endR1 (L' := L) Tryz.results59 rvA rfl (.refl _) ?_ selF
    exact ⟨by rw [← hR]; rfl, rfl, rfl⟩
end Go.Proofs.YtfanccddokckcaaGreatDoor
