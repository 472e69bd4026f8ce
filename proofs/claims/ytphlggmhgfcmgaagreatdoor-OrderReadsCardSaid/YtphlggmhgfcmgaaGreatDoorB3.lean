/-
  Values as data, the document's and the program's.
-/
import Derived.Test.YtphlggmhgfcmgaaGreatDoorTypes2
import Derived.Test.YtphlggmhgfcmgaaGreatDoorB1
namespace Go.Proofs.YtphlggmhgfcmgaaGreatDoor
open Go.RowKit Go.TL

/-- The document's value: kind, truth, number, text, items, names. -/
inductive DV where
  | mk (kind : Int) (b : Bool) (n : Int) (s : List UInt8) (items : List DV) (names : List (List UInt8))
def DV.kind : DV → Int | .mk k _ _ _ _ _ => k
def DV.b : DV → Bool | .mk _ b _ _ _ _ => b
def DV.n : DV → Int | .mk _ _ n _ _ _ => n
def DV.s : DV → List UInt8 | .mk _ _ _ s _ _ => s
def DV.items : DV → List DV | .mk _ _ _ _ i _ => i
def DV.names : DV → List (List UInt8) | .mk _ _ _ _ _ n => n
/-- The program's value. -/
inductive J where
  | null
  | bool (b : Bool)
  | num (n : Int)
  | text (s : List UInt8)
  | list (xs : List J)
  | obj (ns : List (List UInt8)) (xs : List J)
  | other (k : Int)
def strs (l : List (List UInt8)) : List Value := l.map str
/-- What the program is told of a value. -/
def toJ : DV → J
  | .mk k b n s items names =>
    if k = 0 then .null else if k = 1 then .bool b else if k = 2 then .num n else if k = 3 then .text s
    else if k = 4 then .list (items.attach.map fun ⟨x, _⟩ => toJ x) else if k = 5 then .obj names (items.attach.map fun ⟨x, _⟩ => toJ x) else .other k
theorem toJ_eq (k : Int) (b : Bool) (n : Int) (s : List UInt8) (items : List DV) (names : List (List UInt8)) : toJ (.mk k b n s items names) =
    if k = 0 then .null else if k = 1 then .bool b else if k = 2 then .num n else if k = 3 then .text s else if k = 4 then .list (items.map toJ) else if k = 5 then .obj names (items.map toJ) else .other k := by
  rw [toJ]; simp
mutual
/-- How great a value is. -/
def dsz : DV → Nat
  | .mk _ _ _ _ items _ => 1 + dszs items
def dszs : List DV → Nat
  | [] => 0
  | x :: r => dsz x + dszs r
end
mutual
def jsz : J → Nat
  | .list xs => 1 + jszs xs
  | .obj _ xs => 1 + jszs xs
  | .null => 1
  | .bool _ => 1
  | .num _ => 1
  | .text _ => 1
  | .other _ => 1
def jszs : List J → Nat
  | [] => 0
  | x :: r => jsz x + jszs r
end
mutual
/-- The six cells of a document's value. -/
def IsV (g : Gh) : DV → List Value → Prop
  | .mk k b n s items names, cs => ∃ vi vn flat, cs = [.int .i64 k, .bool b, .int .i64 n, str s, vi, vn] ∧ (-9223372036854775808 ≤ k ∧ k ≤ 9223372036854775807) ∧ (-9223372036854775808 ≤ n ∧ n ≤ 9223372036854775807) ∧ s.length ≤ 9223372036854775807 ∧
    Sl g vi items.length 6 flat ∧ items.length ≤ 9223372036854775807 ∧ IsVs g items flat ∧ Sl g vn names.length 1 (strs names) ∧ names.length ≤ 9223372036854775807 ∧ (∀ x ∈ names, x.length ≤ 9223372036854775807)
def IsVs (g : Gh) : List DV → List Value → Prop
  | [], flat => flat = []
  | x :: r, flat => ∃ cs fl, flat = cs ++ fl ∧ IsV g x cs ∧ IsVs g r fl
end
mutual
/-- A program's value, all of whose memory stays. -/
def IsJ (g : Gh) : J → Value → Prop
  | .null, v => v = .nilIface
  | .bool b, v => v = .iface 4 (.bool b)
  | .num n, v => v = .iface 45 (.int .i64 n) ∧ -9223372036854775808 ≤ n ∧ n ≤ 9223372036854775807
  | .text s, v => v = .iface 9 (str s)
  | .list xs, v => ∃ sl flat, v = .iface 47 sl ∧ Sl g sl xs.length 1 flat ∧ IsJs g xs flat
  | .obj ns xs, v => ∃ sl flat, v = .iface 49 sl ∧ Sl g sl xs.length 2 flat ∧ IsMs g ns xs flat
  | .other k, v => v = .iface 3 (.int .i64 k)
def IsJs (g : Gh) : List J → List Value → Prop
  | [], flat => flat = []
  | x :: r, flat => ∃ v fl, flat = v :: fl ∧ IsJ g x v ∧ IsJs g r fl
/-- Members: a name and a value each. -/
def IsMs (g : Gh) : List (List UInt8) → List J → List Value → Prop
  | [], [], flat => flat = []
  | n :: ns, x :: r, flat => ∃ v fl, flat = str n :: v :: fl ∧ IsJ g x v ∧ IsMs g ns r fl
  | [], _ :: _, _ => False
  | _ :: _, [], _ => False
end
end Go.Proofs.YtphlggmhgfcmgaaGreatDoor
namespace Go.Proofs.YtphlggmhgfcmgaaGreatDoor
open Go.RowKit Go.TL

mutual
theorem IsV.le {g g' : Gh} (hg : g.le g') : ∀ (x : DV) (cs : List Value), IsV g x cs → IsV g' x cs
  | .mk k b n s items names, cs, h => by
    rw [IsV] at h ⊢
    obtain ⟨vi, vn, flat, h1, h2, h3, h4, h5, h6, h7, h8, h9⟩ := h
    exact ⟨vi, vn, flat, h1, h2, h3, h4, h5.le hg, h6, IsVs.le hg items flat h7, h8.le hg, h9⟩
theorem IsVs.le {g g' : Gh} (hg : g.le g') : ∀ (l : List DV) (flat : List Value), IsVs g l flat → IsVs g' l flat
  | [], flat, h => by rw [IsVs] at h ⊢; exact h
  | x :: r, flat, h => by
    rw [IsVs] at h ⊢
    obtain ⟨cs, fl, h1, h2, h3⟩ := h
    exact ⟨cs, fl, h1, IsV.le hg x cs h2, IsVs.le hg r fl h3⟩
end
mutual
theorem IsJ.le {g g' : Gh} (hg : g.le g') : ∀ (x : J) (v : Value), IsJ g x v → IsJ g' x v
  | .null, v, h => by rw [IsJ] at h ⊢; exact h
  | .bool _, v, h => by rw [IsJ] at h ⊢; exact h
  | .num _, v, h => by rw [IsJ] at h ⊢; exact h
  | .text _, v, h => by rw [IsJ] at h ⊢; exact h
  | .other _, v, h => by rw [IsJ] at h ⊢; exact h
  | .list xs, v, h => by
    rw [IsJ] at h ⊢
    obtain ⟨sl, flat, h1, h2, h3⟩ := h
    exact ⟨sl, flat, h1, h2.le hg, IsJs.le hg xs flat h3⟩
  | .obj ns xs, v, h => by
    rw [IsJ] at h ⊢
    obtain ⟨sl, flat, h1, h2, h3⟩ := h
    exact ⟨sl, flat, h1, h2.le hg, IsMs.le hg ns xs flat h3⟩
theorem IsJs.le {g g' : Gh} (hg : g.le g') : ∀ (l : List J) (flat : List Value), IsJs g l flat → IsJs g' l flat
  | [], flat, h => by rw [IsJs] at h ⊢; exact h
  | x :: r, flat, h => by
    rw [IsJs] at h ⊢
    obtain ⟨v, fl, h1, h2, h3⟩ := h
    exact ⟨v, fl, h1, IsJ.le hg x v h2, IsJs.le hg r fl h3⟩
theorem IsMs.le {g g' : Gh} (hg : g.le g') : ∀ (ns : List (List UInt8)) (l : List J) (flat : List Value), IsMs g ns l flat → IsMs g' ns l flat
  | [], [], flat, h => by rw [IsMs] at h ⊢; exact h
  | n :: ns, x :: r, flat, h => by
    rw [IsMs] at h ⊢
    obtain ⟨v, fl, h1, h2, h3⟩ := h
    exact ⟨v, fl, h1, IsJ.le hg x v h2, IsMs.le hg ns r fl h3⟩
  | [], _ :: _, flat, h => by rw [IsMs] at h; exact h.elim
  | _ :: _, [], flat, h => by rw [IsMs] at h; exact h.elim
end
theorem IsV.len {g : Gh} : ∀ {x : DV} {cs : List Value}, IsV g x cs → cs.length = 6
  | .mk .., cs, h => by rw [IsV] at h; obtain ⟨vi, vn, flat, rfl, _⟩ := h; rfl
theorem IsVs.get {g : Gh} : ∀ {l : List DV} {flat : List Value} {i : Nat} {x : DV}, IsVs g l flat → l[i]? = some x → ∃ cs, IsV g x cs ∧ cs.length = 6 ∧ ∀ j u, cs[j]? = some u → flat[i * 6 + j]? = some u
  | [], _, _, _, _, h => by simp at h
  | y :: r, flat, 0, x, h, hx => by
    rw [IsVs] at h
    obtain ⟨cs, fl, rfl, h2, _⟩ := h
    obtain rfl : y = x := by simpa using hx
    refine ⟨cs, h2, h2.len, fun j u hu => ?_⟩
    rw [Nat.zero_mul, Nat.zero_add, List.getElem?_append_left (List.getElem?_eq_some_iff.1 hu).1]; exact hu
  | y :: r, flat, i + 1, x, h, hx => by
    rw [IsVs] at h
    obtain ⟨cs, fl, rfl, h2, h3⟩ := h
    obtain ⟨cs', h4, h5, h6⟩ := h3.get (i := i) (x := x) (by simpa using hx)
    refine ⟨cs', h4, h5, fun j u hu => ?_⟩
    rw [List.getElem?_append_right (by rw [h2.len]; omega), h2.len, show (i + 1) * 6 + j - 6 = i * 6 + j by omega]
    exact h6 j u hu
theorem IsJs.get {g : Gh} : ∀ {l : List J} {flat : List Value} {i : Nat} {x : J}, IsJs g l flat → l[i]? = some x → ∃ v, flat[i]? = some v ∧ IsJ g x v
  | [], _, _, _, _, h => by simp at h
  | y :: r, flat, 0, x, h, hx => by
    rw [IsJs] at h
    obtain ⟨v, fl, rfl, h2, _⟩ := h
    obtain rfl : y = x := by simpa using hx
    exact ⟨v, rfl, h2⟩
  | y :: r, flat, i + 1, x, h, hx => by
    rw [IsJs] at h
    obtain ⟨v, fl, rfl, h2, h3⟩ := h
    obtain ⟨u, h4, h5⟩ := h3.get (i := i) (x := x) (by simpa using hx)
    exact ⟨u, by simpa using h4, h5⟩
theorem IsMs.get {g : Gh} : ∀ {ns : List (List UInt8)} {l : List J} {flat : List Value} {i : Nat} {x : J}, IsMs g ns l flat → l[i]? = some x → ∃ s v, ns[i]? = some s ∧ flat[i * 2]? = some (str s) ∧ flat[i * 2 + 1]? = some v ∧ IsJ g x v
  | _, [], _, _, _, _, h => by simp at h
  | [], _ :: _, _, _, _, h, _ => by rw [IsMs] at h; exact h.elim
  | n :: ns, y :: r, flat, 0, x, h, hx => by
    rw [IsMs] at h
    obtain ⟨v, fl, rfl, h2, _⟩ := h
    obtain rfl : y = x := by simpa using hx
    exact ⟨n, v, rfl, rfl, rfl, h2⟩
  | n :: ns, y :: r, flat, i + 1, x, h, hx => by
    rw [IsMs] at h
    obtain ⟨v, fl, rfl, h2, h3⟩ := h
    obtain ⟨s, u, h4, h5, h6, h7⟩ := h3.get (i := i) (x := x) (by simpa using hx)
    refine ⟨s, u, by simpa using h4, ?_, ?_, h7⟩
    · rw [show (i + 1) * 2 = i * 2 + 2 by omega]; exact h5
    · rw [show (i + 1) * 2 + 1 = (i * 2 + 1) + 2 by omega]; exact h6
theorem IsMs.len {g : Gh} : ∀ {ns : List (List UInt8)} {l : List J} {flat : List Value}, IsMs g ns l flat → ns.length = l.length
  | [], [], _, _ => rfl
  | _ :: ns, _ :: r, flat, h => by
    rw [IsMs] at h
    obtain ⟨v, fl, _, _, h3⟩ := h
    rw [List.length_cons, List.length_cons, h3.len]
  | [], _ :: _, _, h => by rw [IsMs] at h; exact h.elim
  | _ :: _, [], _, h => by rw [IsMs] at h; exact h.elim
theorem IsJs.snoc {g : Gh} : ∀ {l : List J} {flat : List Value} {x : J} {v : Value}, IsJs g l flat → IsJ g x v → IsJs g (l ++ [x]) (flat ++ [v])
  | [], flat, x, v, h, hx => by
    rw [IsJs] at h
    subst h
    simp only [List.nil_append]
    rw [IsJs]
    exact ⟨v, [], rfl, hx, by rw [IsJs]⟩
  | y :: r, flat, x, v, h, hx => by
    rw [IsJs] at h
    obtain ⟨u, fl, rfl, h2, h3⟩ := h
    rw [List.cons_append, List.cons_append, IsJs]
    exact ⟨u, _, rfl, h2, h3.snoc hx⟩
theorem IsMs.snoc {g : Gh} : ∀ {ns : List (List UInt8)} {l : List J} {flat : List Value} {s : List UInt8} {x : J} {v : Value}, IsMs g ns l flat → IsJ g x v → IsMs g (ns ++ [s]) (l ++ [x]) (flat ++ [str s, v])
  | [], [], flat, s, x, v, h, hx => by
    rw [IsMs] at h
    subst h
    simp only [List.nil_append]
    rw [IsMs]
    exact ⟨v, [], rfl, hx, by rw [IsMs]⟩
  | n :: ns, y :: r, flat, s, x, v, h, hx => by
    rw [IsMs] at h
    obtain ⟨u, fl, rfl, h2, h3⟩ := h
    rw [List.cons_append, List.cons_append, IsMs]
    exact ⟨u, _, rfl, h2, h3.snoc hx⟩
  | [], _ :: _, _, _, _, _, h, _ => by rw [IsMs] at h; exact h.elim
  | _ :: _, [], _, _, _, _, h, _ => by rw [IsMs] at h; exact h.elim
/-- An element of a row that stays. -/
theorem _root_.Go.TL.Sl.elem {g : Gh} {ao : Option Addr} {n sz cap : Nat} {xs : List Value} (h : Sl g (.slice ao n cap) n sz xs) {i : Nat} (hi : i < n) (h0 : 0 < sz) : ∃ b off, ao = some ⟨b, off, none⟩ ∧ ∀ j u, xs[i * sz + j]? = some u → g.cell b (off + i * sz + j) = some u := by
  obtain ⟨hl, ao', cap', hv, _, hc⟩ := h
  obtain ⟨rfl, rfl⟩ : ao = ao' ∧ cap = cap' := by simpa using hv
  have hlt : i * sz < xs.length := by rw [hl]; exact (Nat.mul_lt_mul_right h0).2 hi
  obtain ⟨b, off, e, _⟩ := hc (i * sz) xs[i * sz] (List.getElem?_eq_getElem hlt)
  refine ⟨b, off, e, fun j u hu => ?_⟩
  obtain ⟨b', off', e', hb⟩ := hc (i * sz + j) u hu
  obtain ⟨rfl, rfl⟩ : b = b' ∧ off = off' := by rw [e] at e'; simpa using e'
  rw [Nat.add_assoc]; exact hb
theorem strs_get {l : List (List UInt8)} {i : Nat} {s : List UInt8} (h : l[i]? = some s) : (strs l)[i]? = some (str s) := by simp [strs, h]
/-- A slice's address and room. -/
theorem _root_.Go.TL.Sl.slice {g : Gh} {v : Value} {n sz : Nat} {xs : List Value} (h : Sl g v n sz xs) : ∃ ao cap, v = .slice ao n cap := by
  obtain ⟨_, ao, cap, hv, _⟩ := h
  exact ⟨ao, cap, hv⟩
theorem _root_.Go.TL.Sl.cap {g : Gh} {ao : Option Addr} {n sz cap : Nat} {xs : List Value} (h : Sl g (.slice ao n cap) n sz xs) : n ≤ cap := by
  obtain ⟨_, ao', cap', hv, hc, _⟩ := h
  obtain ⟨rfl, rfl⟩ : ao = ao' ∧ cap = cap' := by simpa using hv
  exact hc
theorem _root_.Go.TL.Sl.take {g : Gh} {ao : Option Addr} {n sz cap : Nat} {xs : List Value} (h : Sl g (.slice ao n cap) n sz xs) {i : Nat} (hi : i ≤ n) : Sl g (.slice ao i cap) i sz (xs.take (i * sz)) := by
  have hcap := h.cap
  obtain ⟨hl, ao', cap', hv, _, hc⟩ := h
  obtain ⟨rfl, rfl⟩ : ao = ao' ∧ cap = cap' := by simpa using hv
  refine ⟨?_, ao, cap, rfl, by omega, fun j u hu => ?_⟩
  · rw [List.length_take, hl]; exact Nat.min_eq_left (Nat.mul_le_mul_right _ hi)
  · rw [List.getElem?_take] at hu
    split at hu
    · exact hc j u hu
    · cases hu
theorem dsz_get : ∀ {l : List DV} {i : Nat} {x : DV}, l[i]? = some x → dsz x ≤ dszs l
  | [], _, _, h => by simp at h
  | y :: r, 0, x, h => by
    obtain rfl : y = x := by simpa using h
    rw [dszs]; omega
  | y :: r, i + 1, x, h => by
    have := dsz_get (l := r) (i := i) (x := x) (by simpa using h)
    rw [dszs]; omega
theorem jsz_get : ∀ {l : List J} {i : Nat} {x : J}, l[i]? = some x → jsz x ≤ jszs l
  | [], _, _, h => by simp at h
  | y :: r, 0, x, h => by
    obtain rfl : y = x := by simpa using h
    rw [jszs]; omega
  | y :: r, i + 1, x, h => by
    have := jsz_get (l := r) (i := i) (x := x) (by simpa using h)
    rw [jszs]; omega
end Go.Proofs.YtphlggmhgfcmgaaGreatDoor
namespace Go.Proofs.YtphlggmhgfcmgaaGreatDoor
open Go.RowKit Go.TL
set_option maxRecDepth 100000

mutual
/-- How many parts are left of so many; -1: there are too many. -/
def cnt : DV → Int → Int
  | .mk k _ _ s items names, left =>
    if left - 1 < 0 ∨ 300 < s.length ∨ 300 < items.length ∨ (k = 5 ∧ names.length ≠ items.length) then -1
    else if k = 4 ∨ k = 5 then cnts (decide (k = 5)) names items (left - 1) else left - 1
def cnts (o : Bool) : List (List UInt8) → List DV → Int → Int
  | _, [], l => l
  | ns, x :: r, l => if o = true ∧ 300 < (ns.headD []).length then -1 else if cnt x l < 0 then -1 else cnts o ns.tail r (cnt x l)
end
mutual
theorem cnt_bd : ∀ (x : DV) (l : Int), 0 ≤ l → l ≤ 1000 → -1 ≤ cnt x l ∧ cnt x l ≤ 1000
  | .mk k _ _ s items names, left, h0, h1 => by
    rw [cnt]
    split
    · omega
    · split
      · exact cnts_bd _ names items (left - 1) (by omega) (by omega)
      · omega
theorem cnts_bd (o : Bool) : ∀ (ns : List (List UInt8)) (l : List DV) (m : Int), 0 ≤ m → m ≤ 1000 → -1 ≤ cnts o ns l m ∧ cnts o ns l m ≤ 1000
  | _, [], m, h0, h1 => by rw [cnts]; omega
  | ns, x :: r, m, h0, h1 => by
    have := cnt_bd x m h0 h1
    rw [cnts]
    split
    · omega
    · split
      · omega
      · exact cnts_bd o ns.tail r _ (by omega) (by omega)
end
theorem cnts_at {o : Bool} {ns : List (List UInt8)} {l : List DV} {i : Nat} {x : DV} (h : l[i]? = some x) (m : Int) :
    cnts o (ns.drop i) (l.drop i) m = if o = true ∧ 300 < ((ns.drop i).headD []).length then -1 else if cnt x m < 0 then -1 else cnts o (ns.drop (i + 1)) (l.drop (i + 1)) (cnt x m) := by
  obtain ⟨hi, he⟩ := List.getElem?_eq_some_iff.1 h
  rw [List.drop_eq_getElem_cons hi, he, cnts, List.tail_drop]
/-- Few parts. -/
def lightB (x : DV) : Bool := decide (0 ≤ cnt x 300)
end Go.Proofs.YtphlggmhgfcmgaaGreatDoor
namespace Go.Proofs.YtphlggmhgfcmgaaGreatDoor
open Go.RowKit Go.TL
set_option maxRecDepth 100000

mutual
/-- What a light value meets. -/
def wfV : DV → Prop
  | .mk k _ _ s items names => s.length ≤ 100000 ∧ items.length ≤ 100000 ∧ (k = 5 → names.length = items.length ∧ ∀ x ∈ names, x.length ≤ 100000) ∧ (k = 4 ∨ k = 5 → wfVs items)
def wfVs : List DV → Prop
  | [] => True
  | x :: r => wfV x ∧ wfVs r
end
mutual
theorem wf_of_cnt : ∀ (x : DV) (l : Int), l ≤ 1000 → 0 ≤ cnt x l → wfV x
  | .mk k b n s items names, l, hl, h => by
    rw [cnt] at h
    split at h
    · omega
    rename_i hc
    rw [wfV]
    split at h
    · rename_i hk
      have := wf_of_cnts (decide (k = 5)) names items (l - 1) (by omega) (by omega) h
      refine ⟨by omega, by omega, fun hk5 => ?_, fun _ => this.1⟩
      have hlen : names.length = items.length := by
        by_cases e : names.length = items.length
        · exact e
        · exact absurd (.inr (.inr (.inr ⟨hk5, e⟩))) hc
      exact ⟨hlen, fun x hx => Nat.le_trans (this.2 (by simp [hk5]) hlen x hx) (by decide)⟩
    · rename_i hk
      exact ⟨by omega, by omega, fun h5 => absurd (.inr h5) hk, fun h5 => absurd h5 hk⟩
theorem wf_of_cnts (o : Bool) : ∀ (ns : List (List UInt8)) (l : List DV) (m : Int), 0 ≤ m → m ≤ 1000 → 0 ≤ cnts o ns l m → wfVs l ∧ (o = true → ns.length = l.length → ∀ x ∈ ns, x.length ≤ 300)
  | ns, [], m, h0, hm, h => by
    rw [wfVs]
    refine ⟨trivial, fun _ hl x hx => ?_⟩
    rw [List.eq_nil_of_length_eq_zero hl] at hx
    cases hx
  | ns, x :: r, m, h0, hm, h => by
    rw [cnts] at h
    split at h
    · omega
    rename_i hc
    split at h
    · omega
    rename_i hc2
    have hb := cnt_bd x m h0 hm
    have h1 := wf_of_cnt x m hm (by omega)
    have h2 := wf_of_cnts o ns.tail r (cnt x m) (by omega) (by omega) h
    rw [wfVs]
    refine ⟨⟨h1, h2.1⟩, fun ho hl y hy => ?_⟩
    cases ns with
    | nil => cases hy
    | cons a t =>
      rcases List.mem_cons.1 hy with rfl | hy
      · simp only [List.headD_cons] at hc
        by_cases e : 300 < y.length
        · exact absurd ⟨ho, e⟩ hc
        · omega
      · exact h2.2 ho (by simpa using hl) y hy
end
theorem wf_of_light {x : DV} (h : lightB x = true) : wfV x := wf_of_cnt x 300 (by decide) (of_decide_eq_true h)
theorem wfVs.get : ∀ {l : List DV} {i : Nat} {x : DV}, wfVs l → l[i]? = some x → wfV x
  | [], _, _, _, h => by simp at h
  | y :: r, 0, x, h, hx => by
    rw [wfVs] at h
    obtain rfl : y = x := by simpa using hx
    exact h.1
  | y :: r, i + 1, x, h, hx => by
    rw [wfVs] at h
    exact wfVs.get h.2 (i := i) (by simpa using hx)
theorem IsJ.one {g : Gh} {j : J} {v : Value} (h : IsJ g j v) : v.one = true := by
  cases j <;> rw [IsJ] at h <;> first | (subst h; rfl) | (obtain ⟨rfl, _⟩ := h; rfl) | (obtain ⟨_, _, rfl, _⟩ := h; rfl)
end Go.Proofs.YtphlggmhgfcmgaaGreatDoor
