/-
  A walk by lemmas: bytes as a string; blocks that stay; less that stays.
-/
import Derived.Test.YthifckfpjmhmjaaDoorTLpanic
import Derived.Test.YthifckfpjmhmjaaDoorKit
import Derived.Shelf.Bytes.SlSmallAll
namespace Go.TL
open Go Go.RowKit Go.Proofs.YthifckfpjmhmjaaDoor
section
variable {P : Program} {ops : Array Oper} {Q : Exit → Act → World → Prop} {l : List Oper} {n : Nat} {ds : List Deferred} {S : Slots} {g g0 : Gh} {L L' : List Ent}
variable {dst : Option Nat} {ty : TypeId} {pos : String} {aft : Array Edge} {gd : Option (Nat × Bool)} {x : Operand} {v : Value} {t t' e E : TypeId} {ao : Option Addr} {k cap sz b : Nat} {bs : List UInt8} {cs : List Value}
theorem Y.bytes_src [ht : Und P t (.slice e)] [he : Und P e (.int .u8)] [hd : Und P t' .string] (hx : ev S x = some (.slice ao k cap)) (hc : Src g L ao (byteVals bs)) (hl : bs.length = k) : Yields P n ds S g L ⟨dst, .convert t t' x, ty, pos, aft, gd⟩ (.string ⟨bs.toArray⟩) := .mk fun a w hf hs => by
  subst hl
  have hcs := hc w hs
  have : (convert t t' (.slice ao bs.length cap)).run P w = .ok (.string ⟨bs.toArray⟩) w := by
    cases ao with
    | none =>
      have h0 : bs = [] := by
        cases bs with
        | nil => rfl
        | cons c r =>
          obtain ⟨b, off, h, _⟩ := hcs 0 (.int .u8 (c.toNat : Nat)) (by simp [byteVals])
          cases h
      subst h0
      exact Go.Proofs.run_convert_bytes_zero w t e ht.eq he.eq none cap t' hd.eq
    | some ad =>
      refine run_convert_bytes_back w t t' e ad cap bs ht.eq he.eq hd.eq fun j hj => ?_
      obtain ⟨b, off, h, _, h2⟩ := hcs j (.int .u8 (bs[j].toNat : Nat)) (by simp [byteVals, hj])
      obtain rfl : ad = ⟨b, off, none⟩ := by simpa using h
      rw [add_eq]; exact h2
  simp [execOp, hf.ev hx, this]
theorem Y.bytes_row [ht : Und P t (.slice e)] [he : Und P e (.int .u8)] [hd : Und P t' .string] (hx : ev S x = some v) (hm : Pick (.row E 1 v k (byteVals bs)) L L') : Yields P n ds S g L ⟨dst, .convert t t' x, ty, pos, aft, gd⟩ (.string ⟨bs.toArray⟩) := .mk fun a w hf hs => by
  have hr : w.ownsRow 0 E 1 v k (byteVals bs) := (hs.perm hm.perm).st _ List.mem_cons_self
  have hk : bs.length = k := by have := hr.1; rw [byteVals_length] at this; omega
  obtain ⟨ao, cap, rfl, hc, _⟩ := owns_form hr
  exact (Y.bytes_src (P := P) (n := n) (ds := ds) (g := .of w) (L := []) (e := e) hx (fun w' hs' i u hu => by
    obtain ⟨b, off, h1, h2, h3⟩ := hc i u hu
    have hb := hs'.below
    exact ⟨b, off, h1, Nat.lt_of_lt_of_le h2 hb.size, (Below.cell hb (p := ⟨b, off + i, none⟩) h2).trans h3⟩) hk).h a w hf (St.start w)
/-- An owned block stays from here on. -/
theorem TL.freeze_obj (b : Nat) (sz : Nat) (hm : Pick (.obj b (.cells cs.toArray e (0, 0))) L L') (hl : cs.length = k * sz) (hk : k ≤ maxLen) (kk : ∀ g', g.le g' → Sl g' (.slice (some ⟨b, 0, none⟩) k k) k sz cs → TL P ops Q l n ds S g' L') : TL P ops Q l n ds S g L :=
  .obj_row hm hl hk (.freeze .here kk)
theorem TQ.less {c : Exit} (hg : g0.le g) (h : TQ Q c n ds S g0 L) : TQ Q c n ds S g L := .mk fun a w hf hs => h.h a w hf (hs.less hg)
theorem TC.less {c : Code} (hg : g0.le g) (h : TC P Q c n ds S g0 L) : TC P Q c n ds S g L := .mk fun a w hf hs => h.h a w hf (hs.less hg)
end
section
variable {P : Program} {ops : Array Oper} {Q : Exit → Act → World → Prop} {rest : List Oper} {n : Nat} {ds : List Deferred} {S : Slots} {g gS : Gh} {L L' LS : List Ent}
variable {fuel : Nat} {listed : Array Bool} {v : Value} {d : Nat} {op : Op} {ty : TypeId} {pos : String} {aft : Array Edge} {e : TypeId} {sz k : Nat} {xs : List Value}
/-- An operation whose guard holds is taken first. -/
theorem TA.take_g {l : List Oper} (i : Nat) {j t : Nat} {want : Bool} {ap : Array Bool} (hr : (Region.ready .any l.toArray listed).contains i = true) (hi : nthO l i = some ⟨some d, op, ty, pos, aft, some (j, want)⟩) (hg : gslot l.toArray j = some t) (hb : look t S = some (.bool want)) (hy : Yields P n ds S gS LS ⟨some d, op, ty, pos, aft, some (j, want)⟩ v) (hf : Region.free .any l.toArray listed i = true) (hn : Region.noSelect l.toArray = true)
    (hd : Nat.blt d n = true) (hQ : ∀ c a w, Q (.panic c) (a.put (some d) v) w → Q (.panic c) a w) (hl : listed.setIfInBounds i true = ap) (k : TA P l.toArray Q gS LS fuel ap n ds ((d, v) :: S) g L) : TA P l.toArray Q gS LS (fuel + 1) listed n ds S g L := .mk fun a w hfr hs hS => by
  subst hl
  exact wpAnyH_take ((nthO_eq l i).trans hi) hn hf hr hQ (.inl ⟨by rw [wanted_of hg hb hfr]; simp, fun w' hw' => hy.h a w' hfr hw'⟩) hS (k.h _ w (hfr.put hd v) hs hS)
theorem TL.row_slice {l : List Oper} (hm : Pick (.row e sz v k xs) L L') (h : ∀ ao cap, v = .slice ao k cap → xs.length = k * sz → TL P ops Q l n ds S g L) : TL P ops Q l n ds S g L := .mk fun a w hf hs => by
  have hr : w.ownsRow 0 e sz v k xs := (hs.perm hm.perm).st _ List.mem_cons_self
  obtain ⟨ao, cap, hv⟩ := Go.TL.row_slice hr
  exact (h ao cap hv hr.1).h a w hf hs
theorem Y.lss_is {gd : Option (Nat × Bool)} {dst : Option Nat} {x y : Operand} {t t' : TypeId} {s r : List UInt8} {b : Bool} (h : Op.bytesLess s r = b) (hx : ev S x = some (str s)) (hy : ev S y = some (str r)) : Yields P n ds S g L ⟨dst, .binOp .lss t x y t', ty, pos, aft, gd⟩ (.bool b) := by
  subst h; exact Y.lss_str hx hy
theorem Y.eql_is {gd : Option (Nat × Bool)} {dst : Option Nat} {x y : Operand} {t t' : TypeId} {s r : List UInt8} {b : Bool} (h : decide (s = r) = b) (hx : ev S x = some (str s)) (hy : ev S y = some (str r)) : Yields P n ds S g L ⟨dst, .binOp .eql t x y t', ty, pos, aft, gd⟩ (.bool b) := by
  subst h; exact Y.eql_str hx hy
theorem TL.weak {l : List Oper} {S' : Slots} (h : TL P ops Q l n ds S' g L') (hS : Sub S' S) (hL : Sel L' L) : TL P ops Q l n ds S g L := .mk fun a w hf hs => h.h a w (hf.sub hS) (hs.sel hL)
end
end Go.TL
