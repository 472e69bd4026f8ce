/-
  The frame of all laws' proofs: a law that answers true and turns nothing that was there meets its row. The laws' arguments opened: a document's value, bytes. What the rows of layer 9 list: the tables of powers and of UTF-8, in the world in which the law is called. The laws' arguments opened: a point, a rect. The laws' arguments opened: a shape.
-/
import Derived.Test.YtfanccddokckcaaGreatDoorSt0
import Derived.ProofKit
import Derived.OpenShut
import Derived.Lib.SmallJoins
import Derived.Test.YtfanccddokckcaaGreatDoorSt5
import Derived.Deep.Slices
import Derived.Deep.Fields
import Derived.ChangeSame
import Derived.ChangeSlices
import Derived.ChangeMaps5
import Derived.Test.YtfanccddokckcaaGreatDoorSt21
import Derived.Lib.LaidTab
import Derived.LaidMore
import Derived.Lay
import Derived.SevenTiedAt
import Derived.Stop.Joined
import Derived.Test.YtfanccddokckcaaGreatDoorSt15
import Derived.SizedLaws
namespace Go.Proofs.YtfanccddokckcaaGreatDoor
open Go.ChangeShapes Go.WideShapes Go.ChangeAt Go.RowKit

theorem own : ownKnob Tryz.prog.godebug = none := by kernel_rfl
theorem laidOut : laidOutB Tryz.prog = true := by kernel_rfl

theorem below_trodAll {H : Type} {enc : TypeId × Value → H} {P : Program} (hl : laidOutB P = true) {W W' : World} (hb : Below W.heap.size W W') :
    ∀ (ts : List TypeId) (vs : List Value) (ds : List (DataW H)) (ps : List MemPlace), (∀ t ∈ ts, P.readableRec t = true ∧ t < P.types.size) → DataW.TrodAll enc P W 0 (fun _ => true) true ts vs ds ps → (∀ x ∈ ps, x.block < W.heap.size) →
      DataW.TrodAll enc P W' 0 (fun b => decide (b < W.heap.size)) true ts vs ds ps
  | [], [], [], _, _, h, _ => h
  | t :: ts, v :: vs, d :: ds, ps, hr, h, hlt => by
    obtain ⟨p, q, h1, h2, rfl⟩ := h
    exact ⟨p, q, Below.trod hl (hr t List.mem_cons_self).1 (hr t List.mem_cons_self).2 h1 hb (fun x hx => hlt x (List.mem_append_left _ hx)),
      below_trodAll hl hb ts vs ds q (fun t ht => hr t (List.mem_cons_of_mem _ ht)) h2 (fun x hx => hlt x (List.mem_append_right _ hx)), rfl⟩
  | [], _ :: _, _, _, _, h, _ => h.elim
  | [], [], _ :: _, _, _, h, _ => h.elim
  | _ :: _, [], _, _, _, h, _ => h.elim
  | _ :: _, _ :: _, [], _, _, h, _ => h.elim

theorem law_post {H : Type} {enc : TypeId × Value → H} {P : Program} {f : Func} {s : ChangeSpec} {apart : Bool} {W W' : World} {args : Array Value} {ds gs : List (DataW H)} {before : List MemPlace} {tb : TypeId}
    (hl : laidOutB P = true) (hr : ∀ t ∈ f.params.toList, P.readableRec t = true ∧ t < P.types.size) (hvars : s.vars = []) (hspec : s.fn H ds = { results := [.lit (.bool true)], args := ds }) (hres : f.resultTypes = #[tb]) (htb : P.underlying tb = some .bool)
    (hW : DataW.Whole enc P f.params.toList s.vars apart W args.toList ds gs before) (hb : Below W.heap.size W W') : s.post enc P f apart true false false W args (.bool true) W' := by
  have hW0 := hW
  have hlt := hW.lt
  obtain ⟨p, q, hA, hV, rfl, _, _⟩ := hW
  rw [hvars] at hV
  obtain ⟨rfl, rfl⟩ := trodVars_none hV
  refine ⟨ds, [], p ++ [], [], p, [], hW0, ?_, ?_, ?_, hb.frame _, fun h => by cases h⟩
  · rw [List.append_nil, hspec, hres]
    exact trodAll_mk1 (shut_bool htb true)
  · rw [List.append_nil, hspec]
    exact below_trodAll hl hb _ _ _ _ hr hA (fun x hx => hlt x (by simpa using hx))
  · rw [hvars, List.append_nil, hspec]
    rfl
end Go.Proofs.YtfanccddokckcaaGreatDoor
namespace Go.Proofs.YtfanccddokckcaaGreatDoor
open Go.ChangeShapes Go.WideShapes Go.ChangeAt Go.RowKit Go.Joins Go.Deep Go.TL
set_option maxRecDepth 100000

theorem of_cell {w : World} {b off : Nat} {v : Value} (h : w.cell? ⟨b, off, none⟩ = some v) : (Gh.of w).cell b off = some v := by
  unfold Gh.cell Gh.of
  simp only [World.cell?] at h
  split at h <;> simp_all
theorem spot_none {w : World} {a : Addr} {v : Value} (h : w.cell? a = some v) : a.spot = none := by
  cases hsp : a.spot with
  | none => rfl
  | some t => simp only [World.cell?] at h; split at h <;> simp [hsp] at h
section
variable {H : Type} {enc : TypeId × Value → H} {w : World} {base : Nat} {spare : Nat → Bool} {held : Bool} {P : Program}
end
section
variable {H : Type} {enc : TypeId × Value → H} {w : World} {base : Nat} {spare : Nat → Bool} {held : Bool}
theorem add_none {a : Addr} (hs : a.spot = none) (i : Nat) : a.add i = ⟨a.block, a.off + i, none⟩ := by
  obtain ⟨b, off, sp⟩ := a
  simp only at hs
  subst hs
  unfold Addr.add; split <;> simp_all
theorem IsVs.snoc {g : Gh} : ∀ {l : List DV} {flat : List Value} {x : DV} {cs : List Value}, IsVs g l flat → IsV g x cs → IsVs g (l ++ [x]) (flat ++ cs)
  | [], flat, x, cs, h, hx => by
    rw [IsVs] at h
    subst h
    simp only [List.nil_append]
    rw [IsVs]
    exact ⟨cs, [], by simp, hx, by rw [IsVs]⟩
  | y :: r, flat, x, cs, h, hx => by
    rw [IsVs] at h
    obtain ⟨u, fl, rfl, h2, h3⟩ := h
    rw [List.cons_append, List.append_assoc, IsVs]
    exact ⟨u, _, rfl, h2, h3.snoc hx⟩
end
end Go.Proofs.YtfanccddokckcaaGreatDoor
namespace Go.Proofs.YtfanccddokckcaaGreatDoor
open Go.ChangeShapes Go.WideShapes Go.ChangeAt Go.RowKit Go.TL
set_option maxRecDepth 100000

theorem gPow : Tryz.prog.globalNamed "internal/strconv.uint64pow10" = some 2 := by kernel_rfl
theorem gPowType : (Tryz.prog.globals[2]?).map (·.type) = some 224 := by kernel_rfl
theorem cellsA20 : Tryz.prog.cellsOf 224 = 20 := by kernel_rfl
theorem cellsU64 : Tryz.prog.cellsOf 159 = 1 := by kernel_rfl
theorem tabs_of {W : World} (h : laidMetH Tryz.prog Rows.shapeRectsRow.laid W) : Tabs W := by
  rw [MakeChecks.laidMetH_plain _ _ _ (by kernel_rfl)] at h
  obtain ⟨g', t', cs, fuel, p, hg', ht', hvar, hd⟩ := Lib.laidMet.reads h (.tail _ (.tail _ (.head _)))
  obtain rfl := Option.some.inj (gPow.symm.trans hg')
  obtain rfl := Option.some.inj (gPowType.symm.trans ht')
  have hT : Lib.TabIs Tryz.prog W "internal/strconv.uint64pow10" .u64 Lib.pow10Tab := by
    unfold Lib.TabIs
    have hd2 : DataW.trod (fun _ => ()) Tryz.prog W 0 (fun _ => true) false fuel 224 cs.toList = some (Lib.tabData .u64 Lib.pow10Tab, p) := hd
    rw [hvar, ← Lib.cells_of_tab Tryz.underlying224 Tryz.underlying159 cellsU64 cellsA20 hd2]
  intro w' hb
  exact Lib.tabBelow_of_tabIs hT w' hb
theorem u8_of {W : World} (h : laidMetH Tryz.prog Rows.shapeRectsRow.laid W) : GU8 (.of W) := by
  rw [MakeChecks.laidMetH_plain _ _ _ (by kernel_rfl)] at h
  have hT : Lib.Utf8Tabs (Tryz.laysValid_ren.g 3) (Tryz.laysValid_ren.g 4) W :=
    utf8Tabs_of_readsT (U8Types.of196 Tryz.laysValid) ⟨by kernel_rfl, by kernel_rfl, by kernel_rfl, by kernel_rfl, by kernel_rfl, by kernel_rfl, by kernel_rfl⟩ (Lib.laidMet.reads h (.tail _ (.tail _ (.tail _ (.tail _ (.head _)))))) (Lib.laidMet.reads h (.tail _ (.tail _ (.tail _ (.head _)))))
  intro L w hs
  exact Utf8Tabs_below hT (hs.forget (L' := []) (List.nil_sublist L)).below
end Go.Proofs.YtfanccddokckcaaGreatDoor
namespace Go.Proofs.YtfanccddokckcaaGreatDoor
open Go.ChangeShapes Go.WideShapes Go.ChangeAt Go.RowKit Go.Deep Go.TL
set_option maxRecDepth 100000

section
variable {H : Type} {enc : TypeId × Value → H} {w : World} {base : Nat} {spare : Nat → Bool} {held : Bool}
theorem cellsPt9 : Tryz.prog.cellsOf 50 = 2 := by kernel_rfl
theorem open_arg_pt {v : Value} {d : DataW H} {p : List MemPlace} (h : DataW.Trod enc Tryz.prog w base spare held 50 v d p) : ∃ x : Pt, v = pt x := by
  obtain ⟨fuel, hf0⟩ := h
  obtain ⟨ys, n, _, _, hcl, hyl, hf⟩ := DataW.trod_struct Tryz.underlying50 hf0
  rw [cellsPt9] at hcl
  obtain ⟨c0, c1, hc⟩ : ∃ c0 c1, v.cells.toList = [c0, c1] := by
    match v.cells.toList, hcl with
    | [c0, c1], _ => exact ⟨_, _, rfl⟩
  have hyl2 : ys.length = 2 := hyl
  have get : ∀ i, i < 2 → ∃ u, ys[i]? = some u := fun i hi => ⟨_, List.getElem?_eq_getElem (by omega)⟩
  obtain ⟨u0, e0⟩ := get 0 (by omega)
  obtain ⟨u1, e1⟩ := get 1 (by omega)
  rw [hc] at hf
  have t0 : DataW.trod enc Tryz.prog w base spare held n 2 [c0] = some u0 := (hf 0 _ rfl).trans e0
  have t1 : DataW.trod enc Tryz.prog w base spare held n 2 [c1] = some u1 := (hf 1 _ rfl).trans e1
  obtain ⟨a, ha, _, _⟩ := DataW.trod_int Tryz.underlying2 t0
  obtain ⟨b, hb, _, _⟩ := DataW.trod_int Tryz.underlying2 t1
  obtain rfl : c0 = .int .i64 a := by simpa using ha
  obtain rfl : c1 = .int .i64 b := by simpa using hb
  cases v with
  | agg cs => exact ⟨(a, b), by rw [show cs = cs.toList.toArray by simp, show cs.toList = _ from hc]⟩
  | _ => simp [Value.cells] at hc
end
end Go.Proofs.YtfanccddokckcaaGreatDoor
namespace Go.Proofs.YtfanccddokckcaaGreatDoor
open Go.ChangeShapes Go.WideShapes Go.ChangeAt Go.RowKit Go.Joins Go.Deep Go.TL
set_option maxRecDepth 100000

theorem weights_all {H : Type} {P : Program} {e : TypeId} : ∀ {l : List (DataW H)} {d : DataW H} {m : Nat}, d ∈ l → m ∈ d.weights P e → m ∈ DataW.weightsAll P e l
  | x :: r, d, m, hd, hm => by
    simp only [DataW.weightsAll, List.mem_append]
    rcases List.mem_cons.1 hd with rfl | hd
    · exact .inl hm
    · exact .inr (weights_all hd hm)
section
variable {H : Type} {enc : TypeId × Value → H} {w : World} {base : Nat} {spare : Nat → Bool} {held : Bool} {P : Program}
theorem slice_elems2 {t e : TypeId} {fuel : Nat} {v : Value} {x : DataW H × List MemPlace} (ht : P.underlying t = some (.slice e)) (h : DataW.trod enc P w base spare held fuel t [v] = some x) (hw : ∀ m ∈ x.1.weights P t, m ≤ reachBytes) :
    v = .slice none 0 0 ∨ ∃ (a : Addr) (len cap n : Nat), fuel = n + 1 ∧ v = .slice (some a) len cap ∧ len ≤ cap ∧ cap ≤ maxLen ∧ len * P.bytesOf e ≤ reachBytes ∧
      ∀ i, i < len → ∃ cs y, cs.length = P.cellsOf e ∧ (∀ j, j < P.cellsOf e → w.cell? ((a.add (i * P.cellsOf e)).add j) = cs[j]?) ∧ DataW.trod enc P w base spare held n e cs = some y ∧ ∀ m ∈ y.1.weights P e, m ≤ reachBytes := by
  rcases DataW.trod_slice ht h with ⟨h0, _⟩ | ⟨a, len, cap, elems, rest, n, hn, hcs, hx, _, hl, hm, hlen, hel, _⟩
  · exact .inl (by simpa using h0)
  · have hw' : ∀ m, m = (elems.length + rest.length) * P.bytesOf e ∨ m ∈ DataW.weightsAll P e (elems.map (·.1)) → m ≤ reachBytes := fun m hm => by
      refine hw m ?_
      rw [hx]
      simp only [DataW.weights, ht, List.mem_cons, List.mem_append, List.length_map]
      rcases hm with hm | hm
      · exact .inl hm
      · exact .inr (.inl hm)
    refine .inr ⟨a, len, cap, n, hn, by simpa using hcs, hl, hm, ?_, fun i hi => ?_⟩
    · have := hw' _ (.inl rfl)
      rw [hlen, Nat.add_mul] at this
      omega
    · have h1 := hel i (by omega)
      rw [List.getElem?_eq_getElem (by omega)] at h1
      obtain ⟨cs, hc, ht'⟩ := Option.bind_eq_some_iff.1 h1
      obtain ⟨_, hcl, hat⟩ := World.cells?_some hc
      exact ⟨cs, _, hcl, hat, ht', fun m hm => hw' m (.inr (weights_all (List.mem_map.2 ⟨_, List.getElem_mem _, rfl⟩) hm))⟩
end
section
variable {H : Type} {enc : TypeId × Value → H} {w : World} {base : Nat} {spare : Nat → Bool} {held : Bool}
theorem bytesPt9 : Tryz.prog.bytesOf 50 = 16 := by kernel_rfl
theorem cellsPts9 : Tryz.prog.cellsOf 54 = 1 := by kernel_rfl
theorem cellsSh9 : Tryz.prog.cellsOf 36 = 2 := by kernel_rfl
theorem open_pt_trod {fuel : Nat} {cs : List Value} {y : DataW H × List MemPlace} (h : DataW.trod enc Tryz.prog w base spare held fuel 50 cs = some y) : ∃ p : Pt, cs = [.int .i64 p.1, .int .i64 p.2] := by
  obtain ⟨ys, n, _, _, hcl, hyl, hf⟩ := DataW.trod_struct Tryz.underlying50 h
  rw [cellsPt9] at hcl
  obtain ⟨c0, c1, rfl⟩ : ∃ c0 c1, cs = [c0, c1] := by
    match cs, hcl with
    | [c0, c1], _ => exact ⟨_, _, rfl⟩
  have hyl2 : ys.length = 2 := hyl
  have get : ∀ i, i < 2 → ∃ u, ys[i]? = some u := fun i hi => ⟨_, List.getElem?_eq_getElem (by omega)⟩
  obtain ⟨u0, e0⟩ := get 0 (by omega)
  obtain ⟨u1, e1⟩ := get 1 (by omega)
  have t0 : DataW.trod enc Tryz.prog w base spare held n 2 [c0] = some u0 := (hf 0 _ rfl).trans e0
  have t1 : DataW.trod enc Tryz.prog w base spare held n 2 [c1] = some u1 := (hf 1 _ rfl).trans e1
  obtain ⟨a, ha, _, _⟩ := DataW.trod_int Tryz.underlying2 t0
  obtain ⟨b, hb, _, _⟩ := DataW.trod_int Tryz.underlying2 t1
  obtain rfl : c0 = .int .i64 a := by simpa using ha
  obtain rfl : c1 = .int .i64 b := by simpa using hb
  exact ⟨(a, b), rfl⟩
theorem flatP_snoc2 (l : List Pt) (p : Pt) : flatP (l ++ [p]) = flatP l ++ [.int .i64 p.1, .int .i64 p.2] := by simp [flatP]
theorem open_sl_pts {v : Value} {fuel : Nat} {y : DataW H × List MemPlace} (h : DataW.trod enc Tryz.prog w base spare held fuel 54 [v] = some y) (hw : ∀ m ∈ y.1.weights Tryz.prog 54, m ≤ reachBytes) : ∃ l : List Pt, Sl (.of w) v l.length 2 (flatP l) ∧ l.length ≤ 8796093022208 := by
  rcases slice_elems2 Tryz.underlying54 h hw with rfl | ⟨a, len, cap, n', _, rfl, hl, hm, hwt, he⟩
  · exact ⟨[], Sl.nil, by simp⟩
  · rw [cellsPt9] at he
    rw [bytesPt9] at hwt
    have hsp : 0 < len → a.spot = none := fun h0 => by
      obtain ⟨cs, y, hcl, hat, _⟩ := he 0 h0
      have h1 := hat 0 (by omega)
      have e0 : (a.add (0 * 2)).add 0 = a := by simp [Addr.add]
      rw [e0] at h1
      exact spot_none (h1.trans (List.getElem?_eq_getElem (by omega)))
    have key : ∀ n, n ≤ len → ∃ l : List Pt, l.length = n ∧ ∀ i u, (flatP l)[i]? = some u → w.cell? ⟨a.block, a.off + i, none⟩ = some u := by
      intro n
      induction n with
      | zero => intro _; exact ⟨[], rfl, fun i u hu => by simp [flatP] at hu⟩
      | succ n ih2 =>
        intro hn
        obtain ⟨l, h1, h4⟩ := ih2 (by omega)
        obtain ⟨cs, y, hcl, hat, ht, _⟩ := he n (by omega)
        obtain ⟨p, rfl⟩ := open_pt_trod ht
        have hsp := hsp (by omega)
        refine ⟨l ++ [p], by simp [h1], fun i u hu => ?_⟩
        rw [flatP_snoc2] at hu
        have hfl := flatP_len l
        by_cases hlt : i < (flatP l).length
        · rw [List.getElem?_append_left hlt] at hu; exact h4 i u hu
        · rw [List.getElem?_append_right (by omega)] at hu
          have hi := (List.getElem?_eq_some_iff.1 hu).1
          have h5 := hat (i - (flatP l).length) (by simpa using hi)
          rw [hu, add_none hsp] at h5
          have e : (⟨a.block, a.off + n * 2, none⟩ : Addr).add (i - (flatP l).length) = ⟨a.block, a.off + i, none⟩ := by
            rw [add_eq, show a.off + n * 2 + (i - (flatP l).length) = a.off + i by omega]
          rw [e] at h5
          exact h5
    obtain ⟨l, h1, h4⟩ := key len (Nat.le_refl _)
    refine ⟨l, ⟨by rw [flatP_len], some a, cap, by rw [h1], by omega, fun i u hu => ?_⟩, by unfold reachBytes at hwt; omega⟩
    have hpos : 0 < len := by
      have h5 := (List.getElem?_eq_some_iff.1 hu).1
      rw [flatP_len] at h5
      omega
    have hsp := hsp hpos
    exact ⟨a.block, a.off, by obtain ⟨b, off, sp⟩ := a; simp only at hsp; subst hsp; rfl, of_cell (h4 i u hu)⟩
theorem open_sl_parts {v : Value} {fuel : Nat} {y : DataW H × List MemPlace} (h : DataW.trod enc Tryz.prog w base spare held fuel 28 [v] = some y) (hw : ∀ m ∈ y.1.weights Tryz.prog 28, m ≤ reachBytes) : ∃ ps : List (List Pt), IsParts (.of w) v ps ∧ (∀ q ∈ ps, q.length ≤ 8796093022208) ∧ ps.length ≤ 9223372036854775807 := by
  rcases slice_elems2 Tryz.underlying28 h hw with rfl | ⟨a, len, cap, n', _, rfl, hl, hm, hwt, he⟩
  · exact ⟨[], ⟨[], Sl.nil, fun i p h => (by simp at h)⟩, fun q hq => (by cases hq), by simp⟩
  · rw [cellsPts9] at he
    have hsp : 0 < len → a.spot = none := fun h0 => by
      obtain ⟨cs, y, hcl, hat, _⟩ := he 0 h0
      have h1 := hat 0 (by omega)
      have e0 : (a.add (0 * 1)).add 0 = a := by simp [Addr.add]
      rw [e0] at h1
      exact spot_none (h1.trans (List.getElem?_eq_getElem (by omega)))
    have key : ∀ n, n ≤ len → ∃ (ps : List (List Pt)) (fl : List Value), ps.length = n ∧ fl.length = n ∧ (∀ q ∈ ps, q.length ≤ 8796093022208) ∧ (∀ (i : Nat) (p : List Pt), ps[i]? = some p → ∃ u, fl[i]? = some u ∧ Sl (.of w) u p.length 2 (flatP p)) ∧ ∀ (i : Nat) (u : Value), fl[i]? = some u → w.cell? ⟨a.block, a.off + i, none⟩ = some u := by
      intro n
      induction n with
      | zero => intro _; exact ⟨[], [], rfl, rfl, fun q hq => (by cases hq), fun i p h => (by simp at h), fun i u hu => (by simp at hu)⟩
      | succ n ih2 =>
        intro hn
        obtain ⟨ps, fl, h1, h2, h3, h4, h5⟩ := ih2 (by omega)
        obtain ⟨cs, y, hcl, hat, ht, hwy⟩ := he n (by omega)
        obtain ⟨c, rfl⟩ : ∃ c, cs = [c] := by
          match cs, hcl with
          | [c], _ => exact ⟨_, rfl⟩
        obtain ⟨q, hq, hql⟩ := open_sl_pts ht hwy
        have hsp := hsp (by omega)
        refine ⟨ps ++ [q], fl ++ [c], by simp [h1], by simp [h2], fun x hx => ?_, fun i p hp => ?_, fun i u hu => ?_⟩
        · rcases List.mem_append.1 hx with hx | hx
          · exact h3 x hx
          · rw [List.mem_singleton.1 hx]; exact hql
        · by_cases hlt : i < ps.length
          · rw [List.getElem?_append_left hlt] at hp
            obtain ⟨u, k1, k2⟩ := h4 i p hp
            exact ⟨u, by rw [List.getElem?_append_left (by omega)]; exact k1, k2⟩
          · rw [List.getElem?_append_right (by omega)] at hp
            have hi := (List.getElem?_eq_some_iff.1 hp).1
            have e0 : i - ps.length = 0 := by simp at hi; omega
            rw [e0] at hp
            obtain rfl : q = p := by simpa using hp
            exact ⟨c, by rw [List.getElem?_append_right (by omega), show i - fl.length = 0 by omega]; rfl, hq⟩
        · by_cases hlt : i < fl.length
          · rw [List.getElem?_append_left hlt] at hu; exact h5 i u hu
          · rw [List.getElem?_append_right (by omega)] at hu
            have hi := (List.getElem?_eq_some_iff.1 hu).1
            have e0 : i - fl.length = 0 := by simp at hi; omega
            have h6 := hat 0 (by omega)
            rw [e0] at hu
            rw [add_none hsp] at h6
            have e : (⟨a.block, a.off + n * 1, none⟩ : Addr).add 0 = ⟨a.block, a.off + i, none⟩ := by
              rw [add_eq, show a.off + n * 1 + 0 = a.off + i by omega]
            rw [e] at h6
            rw [h6]; exact hu
    obtain ⟨ps, fl, h1, h2, h3, h4, h5⟩ := key len (Nat.le_refl _)
    refine ⟨ps, ⟨fl, ⟨by rw [h2, h1, Nat.mul_one], some a, cap, by rw [h1], by omega, fun i u hu => ?_⟩, h4⟩, h3, by unfold maxLen at hm; omega⟩
    have hpos : 0 < len := by
      have := (List.getElem?_eq_some_iff.1 hu).1
      omega
    have hsp := hsp hpos
    exact ⟨a.block, a.off, by obtain ⟨b, off, sp⟩ := a; simp only at hsp; subst hsp; rfl, of_cell (h5 i u hu)⟩
theorem open_arg_sh {v : Value} {d : DataW H} {p : List MemPlace} (h : DataW.Trod enc Tryz.prog w base spare held 36 v d p) (hw : ∀ m ∈ d.weights Tryz.prog 36, m ≤ reachBytes) : ∃ (k : Int) (ps : List (List Pt)) (u : Value), v = shV k u ∧ IsParts (.of w) u ps ∧ (∀ q ∈ ps, q.length ≤ 8796093022208) ∧ ps.length ≤ 9223372036854775807 := by
  obtain ⟨fuel, hf0⟩ := h
  obtain ⟨ys, n, _, hd, hcl, hyl, hf⟩ := DataW.trod_struct Tryz.underlying36 hf0
  rw [cellsSh9] at hcl
  obtain ⟨c0, c1, hc⟩ : ∃ c0 c1, v.cells.toList = [c0, c1] := by
    match v.cells.toList, hcl with
    | [c0, c1], _ => exact ⟨_, _, rfl⟩
  have hyl2 : ys.length = 2 := hyl
  obtain ⟨u0, u1, rfl⟩ : ∃ u0 u1, ys = [u0, u1] := by
    match ys, hyl2 with
    | [a, b], _ => exact ⟨_, _, rfl⟩
  rw [hc] at hf
  have t0 : DataW.trod enc Tryz.prog w base spare held n 3 [c0] = some u0 := hf 0 _ rfl
  have t1 : DataW.trod enc Tryz.prog w base spare held n 28 [c1] = some u1 := hf 1 _ rfl
  obtain ⟨k, ha, _, _⟩ := DataW.trod_int Tryz.underlying3 t0
  obtain rfl : c0 = .int .i64 k := by simpa using ha
  have hd2 : d = .agg [u0.1, u1.1] := by
    have := congrArg Prod.fst hd
    simpa using this
  have hw1 : ∀ m ∈ u1.1.weights Tryz.prog 28, m ≤ reachBytes := fun m hm => by
    refine hw m ?_
    rw [hd2]
    simp only [DataW.weights, Tryz.underlying36]
    refine DataW.weights_mem_each (j := 1) rfl rfl m hm
  obtain ⟨ps, hps, hb, hl⟩ := open_sl_parts t1 hw1
  cases v with
  | agg cs => exact ⟨k, ps, c1, by rw [show cs = cs.toList.toArray by simp, show cs.toList = _ from hc], hps, hb, hl⟩
  | _ => simp [Value.cells] at hc
end
end Go.Proofs.YtfanccddokckcaaGreatDoor
