/-
  A rect's polygon is within itself; the plain law of ShapeRects. The frame of all laws' proofs: a law that answers true and turns nothing that was there meets its row. What the rows of layer 9 list: the tables of powers and of UTF-8, in the world in which the law is called. The laws' arguments opened: a point, a rect.
-/
import Derived.Test.YtfanccddokckcaaGreatDoorSa45
import Derived.Test.YtfanccddokckcaaGreatDoorSa46
import Derived.Test.YtfanccddokckcaaGreatDoorSa0
import Derived.ProofKit
import Derived.OpenShut
import Derived.Lib.SmallJoins
import Derived.Test.YtfanccddokckcaaGreatDoorSa30
import Derived.Test.YtfanccddokckcaaGreatDoorSa6
import Derived.Deep.Slices
import Derived.Deep.Fields
import Derived.ChangeSame
import Derived.ChangeSlices
import Derived.ChangeMaps5
import Derived.Lib.LaidTab
import Derived.LaidMore
import Derived.Lay
import Derived.SevenTiedAt
import Derived.Stop.Joined
import Derived.Test.YtfanccddokckcaaGreatDoorSa7
namespace Go.Proofs.YtfanccddokckcaaGreatDoor
open Go.RowKit Go.TL

theorem cmp_ge {a b : Int} (_h : b ≤ a) : 0 ≤ cmpI a b := by unfold cmpI; rw [if_neg (by omega)]; split <;> omega
theorem rect_mem {r : Rc} {e : Pt × Pt} (he : e ∈ allE 2 [rectL r]) : e = ((r.x0, r.y0), (r.x1, r.y0)) ∨ e = ((r.x1, r.y0), (r.x1, r.y1)) ∨ e = ((r.x1, r.y1), (r.x0, r.y1)) ∨ e = ((r.x0, r.y1), (r.x0, r.y0)) := by
  rw [rect_edges] at he
  simpa using he
theorem rect_side {r : Rc} (h : RcOk r) {e : Pt × Pt} (he : e ∈ allE 2 [rectL r]) {c : Pt} (hc : holdsB r c = true) : 0 ≤ tn e.1 e.2 c := by
  have hc := (holds_iff r c).1 hc
  rcases rect_mem he with rfl | rfl | rfl | rfl
  · rw [tn_right _ h.hx]; exact cmp_ge hc.2.1
  · rw [tn_up _ h.hy]; exact cmp_ge hc.1.2
  · rw [tn_left _ h.hx]; exact cmp_ge hc.2.2
  · rw [tn_down _ h.hy]; exact cmp_ge hc.1.1
theorem rect_ends {r : Rc} (h : RcOk r) {e : Pt × Pt} (he : e ∈ allE 2 [rectL r]) : holdsB r e.1 = true ∧ holdsB r e.2 = true := by
  have hx := h.hx
  have hy := h.hy
  rw [holds_iff, holds_iff]
  rcases rect_mem he with rfl | rfl | rfl | rfl <;> dsimp only <;> omega
theorem rect_holds_may {r : Rc} (h : RcOk r) {p : Pt} (hp : holdsB r p = true) : mayB p = true := by
  have hp := (holds_iff r p).1 hp
  have h0 := mayB_bd h.m0
  have h2 := mayB_bd h.m2
  unfold mayB inB
  simp only [Bool.and_eq_true, decide_eq_true_eq]
  dsimp only at h0 h2
  omega
theorem half_between {a b : Int} (_h : (a + b).tmod 2 = 0) : 2 * (a + b).tdiv 2 = a + b := by
  have := Int.mul_tdiv_add_tmod (a + b) 2
  omega
theorem rect_self {r : Rc} (h : RcOk r) : withinX 2 [rectL r] 2 [rectL r] = true := by
  have hin : ∀ p, holdsB r p = true → inSh 2 [rectL r] p = true := fun p hp => by rw [rect_in h (rect_holds_may h hp), hp]
  have hx := h.hx
  have hy := h.hy
  have ho : outP 2 [rectL r] [rectL r] = false := by
    have h0 := hin (r.x0, r.y0) ((holds_iff _ _).2 (by dsimp only; omega))
    have h1 := hin (r.x1, r.y0) ((holds_iff _ _).2 (by dsimp only; omega))
    have h2 := hin (r.x1, r.y1) ((holds_iff _ _).2 (by dsimp only; omega))
    have h3 := hin (r.x0, r.y1) ((holds_iff _ _).2 (by dsimp only; omega))
    unfold outP
    simp [h0, h1, h2, h3]
  have hh : outH 2 [rectL r] (allE 2 [rectL r]) = false := by
    unfold outH
    rw [List.any_eq_false]
    intro e he
    cases hb : halfB e with
    | false => simp
    | true =>
      have hp : holdsB r (halfP e) = true := by
        have ⟨q1, q2⟩ := rect_ends h he
        rw [holds_iff] at q1 q2 ⊢
        unfold halfB at hb
        rw [Bool.and_eq_true, decide_eq_true_eq, decide_eq_true_eq] at hb
        have g1 := half_between hb.1
        have g2 := half_between hb.2
        unfold halfP
        dsimp only
        omega
      rw [hin _ hp]
      simp
  have hc : anyE CrossF (allE 2 [rectL r]) (allE 2 [rectL r]) = false := by
    unfold anyE
    rw [List.any_eq_false]
    intro e he
    rw [Bool.not_eq_true, List.any_eq_false]
    intro f hf
    have ⟨q1, q2⟩ := rect_ends h hf
    have s1 := rect_side h he q1
    have s2 := rect_side h he q2
    have s3 := Int.mul_nonneg s1 s2
    unfold CrossF crossB
    rw [decide_eq_false (by omega)]
    simp
  unfold withinX
  rw [rect_right h, ho, hh, hc]
  rfl
theorem rects_ok {r : Rc} (p : Pt) (h : ofOk r = true) : RectsOk r p := by
  have hm : mayR r = true := by
    unfold ofOk at h
    rw [Bool.and_eq_true, Bool.and_eq_true] at h
    exact h.1.1
  have hr := RcOk.of h
  exact ⟨rect_box hr, rect_isin hr hm p, rect_meet hr hm p, rect_within hr hm p, rect_self hr⟩
theorem lawShapeRects (r : Rc) (p : Pt) (g : Gh) (L : List Ent) (hT : GTabs g) (hU : GU8 g) : Gives Tryz.prog 6 #[rcV r, pt p] g L (.bool true) :=
  shapeRects_gives r p g L hT hU fun h => rects_ok p h
end Go.Proofs.YtfanccddokckcaaGreatDoor
namespace Go.Proofs.YtfanccddokckcaaGreatDoor
open Go.ChangeShapes Go.WideShapes Go.ChangeAt Go.RowKit

theorem own : ownKnob Tryz.prog.godebug = none := by kernel_rfl
theorem laidOut : laidOutB Tryz.prog = true := by kernel_rfl

theorem below_trodAll {H : Type} {enc : TypeId × Value → H} {P : Program} (hl : laidOutB P = true) {W W' : World} (hb : Below W.heap.size W W') :
    ∀ (ts : List TypeId) (vs : List Value) (ds : List (DataW H)) (ps : List MemPlace), (∀ t ∈ ts, P.readableRec t = true ∧ t < P.types.size) → DataW.TrodAll enc P W 0 (fun _ => true) true ts vs ds ps → (∀ x ∈ ps, x.block < W.heap.size) →
      DataW.TrodAll enc P W' 0 (fun b => decide (b < W.heap.size)) true ts vs ds ps
  | [], [], [], _, _, h, _ => h
  | t :: ts, v :: vs, d :: ds, ps, hr, h, hlt => by
    obtain ⟨p, q, h1, h2, rfl⟩ := h
    exact ⟨p, q, Below.trod hl (hr t List.mem_cons_self).1 (hr t List.mem_cons_self).2 h1 hb (fun x hx => hlt x (List.mem_append_left _ hx)),
      below_trodAll hl hb ts vs ds q (fun t ht => hr t (List.mem_cons_of_mem _ ht)) h2 (fun x hx => hlt x (List.mem_append_right _ hx)), rfl⟩
  | [], _ :: _, _, _, _, h, _ => h.elim
  | [], [], _ :: _, _, _, h, _ => h.elim
  | _ :: _, [], _, _, _, h, _ => h.elim
  | _ :: _, _ :: _, [], _, _, h, _ => h.elim

theorem law_post {H : Type} {enc : TypeId × Value → H} {P : Program} {f : Func} {s : ChangeSpec} {apart : Bool} {W W' : World} {args : Array Value} {ds gs : List (DataW H)} {before : List MemPlace} {tb : TypeId}
    (hl : laidOutB P = true) (hr : ∀ t ∈ f.params.toList, P.readableRec t = true ∧ t < P.types.size) (hvars : s.vars = []) (hspec : s.fn H ds = { results := [.lit (.bool true)], args := ds }) (hres : f.resultTypes = #[tb]) (htb : P.underlying tb = some .bool)
    (hW : DataW.Whole enc P f.params.toList s.vars apart W args.toList ds gs before) (hb : Below W.heap.size W W') : s.post enc P f apart true false false W args (.bool true) W' := by
  have hW0 := hW
  have hlt := hW.lt
  obtain ⟨p, q, hA, hV, rfl, _, _⟩ := hW
  rw [hvars] at hV
  obtain ⟨rfl, rfl⟩ := trodVars_none hV
  refine ⟨ds, [], p ++ [], [], p, [], hW0, ?_, ?_, ?_, hb.frame _, fun h => by cases h⟩
  · rw [List.append_nil, hspec, hres]
    exact trodAll_mk1 (shut_bool htb true)
  · rw [List.append_nil, hspec]
    exact below_trodAll hl hb _ _ _ _ hr hA (fun x hx => hlt x (by simpa using hx))
  · rw [hvars, List.append_nil, hspec]
    rfl
end Go.Proofs.YtfanccddokckcaaGreatDoor
namespace Go.Proofs.YtfanccddokckcaaGreatDoor
open Go.ChangeShapes Go.WideShapes Go.ChangeAt Go.RowKit Go.TL
set_option maxRecDepth 100000

theorem gPow : Tryz.prog.globalNamed "internal/strconv.uint64pow10" = some 2 := by kernel_rfl
theorem gPowType : (Tryz.prog.globals[2]?).map (·.type) = some 224 := by kernel_rfl
theorem cellsA20 : Tryz.prog.cellsOf 224 = 20 := by kernel_rfl
theorem cellsU64 : Tryz.prog.cellsOf 159 = 1 := by kernel_rfl
theorem tabs_of {W : World} (h : laidMetH Tryz.prog Rows.shapeRectsRow.laid W) : Tabs W := by
  rw [MakeChecks.laidMetH_plain _ _ _ (by kernel_rfl)] at h
  obtain ⟨g', t', cs, fuel, p, hg', ht', hvar, hd⟩ := Lib.laidMet.reads h (.tail _ (.tail _ (.head _)))
  obtain rfl := Option.some.inj (gPow.symm.trans hg')
  obtain rfl := Option.some.inj (gPowType.symm.trans ht')
  have hT : Lib.TabIs Tryz.prog W "internal/strconv.uint64pow10" .u64 Lib.pow10Tab := by
    unfold Lib.TabIs
    have hd2 : DataW.trod (fun _ => ()) Tryz.prog W 0 (fun _ => true) false fuel 224 cs.toList = some (Lib.tabData .u64 Lib.pow10Tab, p) := hd
    rw [hvar, ← Lib.cells_of_tab Tryz.underlying224 Tryz.underlying159 cellsU64 cellsA20 hd2]
  intro w' hb
  exact Lib.tabBelow_of_tabIs hT w' hb
theorem u8_of {W : World} (h : laidMetH Tryz.prog Rows.shapeRectsRow.laid W) : GU8 (.of W) := by
  rw [MakeChecks.laidMetH_plain _ _ _ (by kernel_rfl)] at h
  have hT : Lib.Utf8Tabs (Tryz.laysValid_ren.g 3) (Tryz.laysValid_ren.g 4) W :=
    utf8Tabs_of_readsT (U8Types.of196 Tryz.laysValid) ⟨by kernel_rfl, by kernel_rfl, by kernel_rfl, by kernel_rfl, by kernel_rfl, by kernel_rfl, by kernel_rfl⟩ (Lib.laidMet.reads h (.tail _ (.tail _ (.tail _ (.tail _ (.head _)))))) (Lib.laidMet.reads h (.tail _ (.tail _ (.tail _ (.head _)))))
  intro L w hs
  exact Utf8Tabs_below hT (hs.forget (L' := []) (List.nil_sublist L)).below
end Go.Proofs.YtfanccddokckcaaGreatDoor
namespace Go.Proofs.YtfanccddokckcaaGreatDoor
open Go.ChangeShapes Go.WideShapes Go.ChangeAt Go.RowKit Go.Deep Go.TL
set_option maxRecDepth 100000

section
variable {H : Type} {enc : TypeId × Value → H} {w : World} {base : Nat} {spare : Nat → Bool} {held : Bool}
theorem cellsPt9 : Tryz.prog.cellsOf 50 = 2 := by kernel_rfl
theorem cellsRc9 : Tryz.prog.cellsOf 48 = 4 := by kernel_rfl
theorem open_arg_pt {v : Value} {d : DataW H} {p : List MemPlace} (h : DataW.Trod enc Tryz.prog w base spare held 50 v d p) : ∃ x : Pt, v = pt x := by
  obtain ⟨fuel, hf0⟩ := h
  obtain ⟨ys, n, _, _, hcl, hyl, hf⟩ := DataW.trod_struct Tryz.underlying50 hf0
  rw [cellsPt9] at hcl
  obtain ⟨c0, c1, hc⟩ : ∃ c0 c1, v.cells.toList = [c0, c1] := by
    match v.cells.toList, hcl with
    | [c0, c1], _ => exact ⟨_, _, rfl⟩
  have hyl2 : ys.length = 2 := hyl
  have get : ∀ i, i < 2 → ∃ u, ys[i]? = some u := fun i hi => ⟨_, List.getElem?_eq_getElem (by omega)⟩
  obtain ⟨u0, e0⟩ := get 0 (by omega)
  obtain ⟨u1, e1⟩ := get 1 (by omega)
  rw [hc] at hf
  have t0 : DataW.trod enc Tryz.prog w base spare held n 2 [c0] = some u0 := (hf 0 _ rfl).trans e0
  have t1 : DataW.trod enc Tryz.prog w base spare held n 2 [c1] = some u1 := (hf 1 _ rfl).trans e1
  obtain ⟨a, ha, _, _⟩ := DataW.trod_int Tryz.underlying2 t0
  obtain ⟨b, hb, _, _⟩ := DataW.trod_int Tryz.underlying2 t1
  obtain rfl : c0 = .int .i64 a := by simpa using ha
  obtain rfl : c1 = .int .i64 b := by simpa using hb
  cases v with
  | agg cs => exact ⟨(a, b), by rw [show cs = cs.toList.toArray by simp, show cs.toList = _ from hc]⟩
  | _ => simp [Value.cells] at hc
theorem open_arg_rc {v : Value} {d : DataW H} {p : List MemPlace} (h : DataW.Trod enc Tryz.prog w base spare held 48 v d p) : ∃ x : Rc, v = rcV x := by
  obtain ⟨fuel, hf0⟩ := h
  obtain ⟨ys, n, _, _, hcl, hyl, hf⟩ := DataW.trod_struct Tryz.underlying48 hf0
  rw [cellsRc9] at hcl
  obtain ⟨c0, c1, c2, c3, hc⟩ : ∃ c0 c1 c2 c3, v.cells.toList = [c0, c1, c2, c3] := by
    match v.cells.toList, hcl with
    | [c0, c1, c2, c3], _ => exact ⟨_, _, _, _, rfl⟩
  have hyl2 : ys.length = 4 := hyl
  have get : ∀ i, i < 4 → ∃ u, ys[i]? = some u := fun i hi => ⟨_, List.getElem?_eq_getElem (by omega)⟩
  obtain ⟨u0, e0⟩ := get 0 (by omega)
  obtain ⟨u1, e1⟩ := get 1 (by omega)
  obtain ⟨u2, e2⟩ := get 2 (by omega)
  obtain ⟨u3, e3⟩ := get 3 (by omega)
  rw [hc] at hf
  have t0 : DataW.trod enc Tryz.prog w base spare held n 2 [c0] = some u0 := (hf 0 _ rfl).trans e0
  have t1 : DataW.trod enc Tryz.prog w base spare held n 2 [c1] = some u1 := (hf 1 _ rfl).trans e1
  have t2 : DataW.trod enc Tryz.prog w base spare held n 2 [c2] = some u2 := (hf 2 _ rfl).trans e2
  have t3 : DataW.trod enc Tryz.prog w base spare held n 2 [c3] = some u3 := (hf 3 _ rfl).trans e3
  obtain ⟨a, ha, _, _⟩ := DataW.trod_int Tryz.underlying2 t0
  obtain ⟨b, hb, _, _⟩ := DataW.trod_int Tryz.underlying2 t1
  obtain ⟨c, hcc, _, _⟩ := DataW.trod_int Tryz.underlying2 t2
  obtain ⟨e, he, _, _⟩ := DataW.trod_int Tryz.underlying2 t3
  obtain rfl : c0 = .int .i64 a := by simpa using ha
  obtain rfl : c1 = .int .i64 b := by simpa using hb
  obtain rfl : c2 = .int .i64 c := by simpa using hcc
  obtain rfl : c3 = .int .i64 e := by simpa using he
  cases v with
  | agg cs => exact ⟨⟨a, b, c, e⟩, by rw [show cs = cs.toList.toArray by simp, show cs.toList = _ from hc]⟩
  | _ => simp [Value.cells] at hc
end
end Go.Proofs.YtfanccddokckcaaGreatDoor
