/-
  The walks of layer 18's Unpack: its deferred closure.
-/
import Derived.Test.YtdlijjmjfepklaaPosting
import Derived.Test.YtdlijjmjfepklaaTop
import Derived.Defers
import Derived.Recover
namespace Go.Proofs.Ytdlijjmjfepklaa
open Go.RowKit

def wrongR : PanicEntry := { v := .iface 60 (.agg #[]), recovered := true }

set_option maxHeartbeats 1000000 in
theorem catch_wrong (b2 b3 : Nat) (x y : Value) (w : World) (h2 : w.cell? ⟨b2, 0, none⟩ = some x) (h3 : w.cell? ⟨b3, 0, none⟩ = some y) (z2 : w.frozen? ⟨b2, 0, none⟩ = false) (z3 : w.frozen? ⟨b3, 0, none⟩ = false) (hne : b2 ≠ b3) (l2 : b2 < w.heap.size) (l3 : b3 < w.heap.size) :
    CallsD Try.prog 30 #[.pointer (some ⟨b2, 0, none⟩), .pointer (some ⟨b3, 0, none⟩)] (.panicking [wrongV]) w fun e u' w' =>
      e = .returned (.tuple #[]) ∧ u' = .panicking [wrongR] ∧ w' = ((w.alloc (.cells #[] 60)).setCell ⟨b2, 0, none⟩ (.slice none 0 0)).setCell ⟨b3, 0, none⟩ (.int .i64 5) := by
  refine callsD_of_wpS Try.func30 rfl fun c₀ cs hu => ?_
  apply wpS_seq
  apply wpS_region
  simp [wpOpsS, go_sem, recoverD, hu, Try.ntmps30, Exit.thenS, wrongV]
  refine wpS_of_wp ?_
  simp only [Array.replicate_succ, Array.replicate_zero, List.push_toArray, List.append_toArray, List.nil_append, List.cons_append, List.setIfInBounds_toArray, List.set_cons_succ, List.set_cons_zero]
  have hta : ∀ w, (Instr.typeAssert (.iface 60 (.agg #[])) 20 60 true).run Try.prog w = .ok (.tuple #[.agg #[], .bool true]) w := fun _ => by kernel_rfl
  have c2 : (w.alloc (.cells #[] 60)).cell? ⟨b2, 0, none⟩ = some x := (World.cell?_alloc_lt _ _ _ l2).trans h2
  have c3 : (w.alloc (.cells #[] 60)).cell? ⟨b3, 0, none⟩ = some y := (World.cell?_alloc_lt _ _ _ l3).trans h3
  have d2 : (w.alloc (.cells #[] 60)).frozen? ⟨b2, 0, none⟩ = false := (World.frozen?_alloc_old _ _ _ (by show b2 ≠ _; omega)).trans z2
  have d3 : (w.alloc (.cells #[] 60)).frozen? ⟨b3, 0, none⟩ = false := (World.frozen?_alloc_old _ _ _ (by show b3 ≠ _; omega)).trans z3
  have hn2 : ¬ b3 = b2 := fun e => hne e.symm
  clear h2 h3 z2 z3 l2 l3
  go_wp2_with fail
  simp [bodyPostS, results, Try.results30, wrongR]
theorem catch_idle (b2 b3 : Nat) (w : World) :
    CallsD Try.prog 30 #[.pointer (some ⟨b2, 0, none⟩), .pointer (some ⟨b3, 0, none⟩)] .returning w fun e u' w' => e = .returned (.tuple #[]) ∧ u' = .returning ∧ w' = w := by
  refine callsD_of_wpS Try.func30 rfl fun c₀ cs hu => ?_
  apply wpS_seq
  apply wpS_region
  simp [wpOpsS, go_sem, recoverD, hu, Try.ntmps30, Exit.thenS]
  refine wpS_of_wp ?_
  simp only [Array.replicate_succ, Array.replicate_zero, List.push_toArray, List.append_toArray, List.nil_append, List.cons_append, List.setIfInBounds_toArray, List.set_cons_succ, List.set_cons_zero]
  go_wp2
  cases c₀
  simp_all [bodyPostS, results, Try.results30]

/-- While a list is read: the result's blocks, the reader's, the list so far. -/
structure US (w0 : World) (wr : World) (o : Value) (qs : List PV) (t : List UInt8) : Prop where
  ext : Ext w0 wr
  ord : w0.heap.size + 3 ≤ wr.heap.size
  h2 : wr.heap[w0.heap.size]? = some (.cells #[o] 40 (0, 0))
  h3 : wr.heap[w0.heap.size + 1]? = some (.cells #[.int .i64 0] 37 (0, 0))
  own : wr.ownsRow (w0.heap.size + 3) 27 3 o qs.length (flat3 qs)
  inner : Inner wr o qs
  low : ∀ p ∈ qs, ∀ b off, p.ao = some ⟨b, off, none⟩ → w0.heap.size + 3 ≤ b
  reads : Reads wr (w0.heap.size + 2) (w0.heap.size + 3) t

def postOf (x : Int × Int × List Int) : PV := ⟨x.1, x.2.1, none, 0, x.2.2⟩
/-- So many postings. -/
def rdAll : Nat → Int → List UInt8 → Option (List PV × List UInt8)
  | 0, _, s => some ([], s)
  | f + 1, last, s => match rdPost last s with
    | none => none
    | some (p, t) => (rdAll f p.1 t).map fun q => (postOf p :: q.1, q.2)
/-- The list of bytes, if there is one. -/
def rdList (s : List UInt8) : Option (List PV) := match rdNum 64 s with
  | none => none
  | some (k, t) => match rdAll k (-1) t with
    | none => none
    | some (l, u) => if u = [] ∧ rightB l = true then some l else none

theorem rdAts_length (len : Int) : ∀ (f : Nat) (a : Int) (s : List UInt8) (l : List Int) (t : List UInt8), rdAts len f a s = some (l, t) → l.length = f := by
  intro f
  induction f with
  | zero => intro a s l t h; simp [rdAts] at h; simp [h.1.symm]
  | succ f ih =>
    intro a s l t h
    rw [rdAts] at h
    split at h
    · simp at h
    · split at h
      · simp only [Option.map_eq_some_iff, Prod.mk.injEq] at h
        obtain ⟨q, hq, rfl, _⟩ := h
        simp [ih _ _ _ _ hq]
      · simp at h
theorem rdPost_fact {last : Int} {s t : List UInt8} {row len : Int} {ats : List Int} (h : rdPost last s = some ((row, len, ats), t)) : last < row ∧ row ≤ last + 9007199254740993 ∧ ats.length ≤ 1048577 ∧ 0 < ats.length := by
  unfold rdPost at h
  split at h
  · simp at h
  · rename_i h1
    split at h
    · simp at h
    · split at h
      · simp at h
      · rename_i h3
        simp only [Option.map_eq_some_iff, Prod.mk.injEq] at h
        obtain ⟨q, hq, ⟨rfl, rfl, rfl⟩, _⟩ := h
        have e1 := (rdGo_le _ _ _ _ _ _ h1).1
        have e3 := (rdGo_le _ _ _ _ _ _ h3).1
        have := rdAts_length _ _ _ _ _ _ hq
        omega

theorem Inner.grown {w w' : World} {row : Option Nat} {v : Value} {ps : List PV} (h : Inner w v ps) (x : w.grownBy w' row) (hne : ∀ p ∈ ps, ∀ b off, p.ao = some ⟨b, off, none⟩ → some b ≠ row) : Inner w' v ps := fun p hp =>
  ⟨(h p hp).1.grown x (fun b off e => hne p hp b off e), fun b off e => ⟨((h p hp).2 b off e).1, Nat.lt_of_lt_of_le ((h p hp).2 b off e).2 x.size⟩⟩
theorem US.num {w0 wr w1 : World} {o : Value} {qs : List PV} {t t' : List UInt8} (h : US w0 wr o qs t) (hT : Turned wr w1 (w0.heap.size + 2)) (hr : Reads w1 (w0.heap.size + 2) (w0.heap.size + 3) t') : US w0 w1 o qs t' :=
  ⟨h.ext.trans ⟨hT.os, hT.tape, hT.output, hT.size, fun k hk => hT.block k (by have := h.ord; omega) (fun e => by simp only [Option.some.injEq] at e; omega)⟩, Nat.le_trans h.ord hT.size, hT.row h.h2 (by omega), hT.row h.h3 (by omega),
    owns_grown h.own hT (fun k hk e => by have := owns_low h.own k hk; simp only [Option.some.injEq] at e; omega), h.inner.grown hT (fun p hp b off e e2 => by have := h.low p hp b off e; simp only [Option.some.injEq] at e2; omega), h.low, hr⟩
theorem US.push {w0 w1 w3 : World} {o v3 : Value} {qs : List PV} {t : List UInt8} {o1 o2 : Obj} {p : PV} (h : US w0 w1 o qs t) (hp : CellsAt w1 p.ao (ints p.ats)) (hb : ∀ b off, p.ao = some ⟨b, off, none⟩ → w0.heap.size + 3 ≤ b ∧ b < w1.heap.size ∧ o.ownBlock ≠ some b)
    (o3 : Owns ((w1.alloc o1).alloc o2) w3 o v3) (hown : w3.ownsRow (w0.heap.size + 3) 27 3 v3 (qs.length + 1) (flat3 qs ++ flat3 [p])) :
    US w0 (w3.setCell ⟨w0.heap.size, 0, none⟩ v3) v3 (qs ++ [p]) t := by
  have hE : Ext w1 ((w1.alloc o1).alloc o2) := ((Below.refl _ _).alloc (Nat.le_refl _) _).alloc (by simp) _
  have ho := h.ord
  have hB : Below (w0.heap.size + 3) w1 w3 := (hE.mono ho).trans (o3.below (Nat.le_trans ho hE.size) (fun k hk => owns_low h.own k hk))
  have hI : Inner w3 v3 (qs ++ [p]) := by
    have : Inner w1 o (qs ++ [p]) := fun q hq => by
      rcases List.mem_append.1 hq with h1 | h1
      · exact h.inner q h1
      · simp only [List.mem_singleton] at h1; subst h1
        exact ⟨hp, fun b off e => ⟨(hb b off e).2.2, (hb b off e).2.1⟩⟩
    exact (this.ext hE).owns o3
  have hlow : ∀ q ∈ qs ++ [p], ∀ b off, q.ao = some ⟨b, off, none⟩ → w0.heap.size + 3 ≤ b := fun q hq b off e => by
    rcases List.mem_append.1 hq with h1 | h1
    · exact h.low q h1 b off e
    · simp only [List.mem_singleton] at h1; subst h1; exact (hb b off e).1
  refine ⟨(h.ext.trans (hB.mono (by omega))).setCell (p := ⟨w0.heap.size, 0, none⟩) (Nat.le_refl _) _, Nat.le_trans ho (Nat.le_trans hB.size (by simp [World.setCell])), ?_, ?_, ?_, ?_, hlow, ?_⟩
  · have h2 := (hB.block w0.heap.size (by omega)).trans h.h2
    simp [World.setCell, Array.getElem?_modify, h2]
  · exact (Below.heap_setCell _ _ _ _ (by show w0.heap.size + 1 ≠ w0.heap.size; omega)).trans ((hB.block _ (by omega)).trans h.h3)
  · have := ownsRow_setCell_below hown (a := ⟨w0.heap.size, 0, none⟩) (by show w0.heap.size < _; omega) v3
    have e : flat3 (qs ++ [p]) = flat3 qs ++ flat3 [p] := by simp [flat3]
    rw [e, List.length_append]; exact this
  · intro q hq
    refine ⟨(hI q hq).1.setCell _ _ (fun b off e => by have := hlow q hq b off e; show b ≠ w0.heap.size; omega), fun b off e => ⟨((hI q hq).2 b off e).1, Nat.lt_of_lt_of_le ((hI q hq).2 b off e).2 (by simp [World.setCell])⟩⟩
  · obtain ⟨hlt, a, c, h1, h2, h3, h4, h5⟩ := h.reads.below hB
    refine ⟨hlt, a, c, (Below.heap_setCell _ _ _ _ (by show w0.heap.size + 2 ≠ w0.heap.size; omega)).trans h1, h2, h3, h4.setCell _ _ (fun b off e => by have := h5 b off e; show b ≠ w0.heap.size; omega), h5⟩

theorem US.start (w : World) (ao : Option Addr) (n cap : Nat) (s : List UInt8) (hs : s.length = n) (hn : n ≤ cap) (hcap : cap ≤ maxLen) (hc : CellsAt w ao (byteVals s)) (hlow : ∀ b off, ao = some ⟨b, off, none⟩ → b < w.heap.size) :
    US w (((w.alloc (.cells #[.slice none 0 0] 40)).alloc (.cells #[.int .i64 0] 37)).alloc (.cells #[.slice ao n cap] 64)) (.slice none 0 0) [] s := by
  have hE : Ext w (((w.alloc (.cells #[.slice none 0 0] 40)).alloc (.cells #[.int .i64 0] 37)).alloc (.cells #[.slice ao n cap] 64)) := ((((Below.refl _ _).alloc (Nat.le_refl _) _).alloc (by simp) _).alloc (by simp; omega) _)
  refine ⟨hE, by simp, ?_, ?_, World.ownsRow_nil _ _ _ _, (fun p hp => by cases hp), (fun p hp => by cases hp), ⟨by omega, ao, cap, ?_, by omega, hcap, hc.ext hE, fun b off e => by have := hlow b off e; omega⟩⟩
  · rw [heap_alloc_old _ _ (by simp; omega), heap_alloc_old _ _ (by simp)]; exact heap_alloc_new _ _
  · rw [heap_alloc_old _ _ (by simp)]
    have := heap_alloc_new (w.alloc (.cells #[.slice none 0 0] 40)) (.cells #[.int .i64 0] 37)
    simpa using this
  · have := heap_alloc_new ((w.alloc (.cells #[.slice none 0 0] 40)).alloc (.cells #[.int .i64 0] 37)) (.cells #[.slice ao n cap] 64)
    simpa [hs] using this

theorem door_wrong (w w1 : World) (o : Value) (R : Ending → World → Prop) (tmps : Array Value) (t2 : tmps[2]?.getD undef = .pointer (some ⟨w.heap.size, 0, none⟩)) (t3 : tmps[3]?.getD undef = .pointer (some ⟨w.heap.size + 1, 0, none⟩))
    (hE : Ext w w1) (ho : w.heap.size + 3 ≤ w1.heap.size) (h2 : w1.heap[w.heap.size]? = some (.cells #[o] 40 (0, 0))) (h3 : w1.heap[w.heap.size + 1]? = some (.cells #[.int .i64 0] 37 (0, 0)))
    (hR : ∀ w', Ext w w' → R (.returned (.tuple #[.slice none 0 0, .int .i64 5])) w') :
    bodyPostD Try.prog Try.f22 R (Exit.panic [wrongV]) { tmps := tmps, defers := [{ target := .fn (.func 30) #[.pointer (some ⟨w.heap.size, 0, none⟩), .pointer (some ⟨w.heap.size + 1, 0, none⟩)], args := #[] }] } w1 := by
  refine leaves_cons (f := 30) (args := #[.pointer (some ⟨w.heap.size, 0, none⟩), .pointer (some ⟨w.heap.size + 1, 0, none⟩)]) (by simp) (by simp [go_sem]) ?_
  refine (catch_wrong w.heap.size (w.heap.size + 1) o (.int .i64 0) w1 (cell_of_row w1 _ 0 _ _ _ h2) (cell_of_row w1 _ 0 _ _ _ h3) (frozen_of_row w1 _ 0 _ _ h2) (frozen_of_row w1 _ 0 _ _ h3) (by omega) (by omega) (by omega)).mono ?_
  rintro e u' w'' ⟨rfl, rfl, rfl⟩
  have hX : Ext w (((w1.alloc (.cells #[] 60)).setCell ⟨w.heap.size, 0, none⟩ (.slice none 0 0)).setCell ⟨w.heap.size + 1, 0, none⟩ (.int .i64 5)) :=
    ((hE.alloc (by omega) _).setCell (p := ⟨w.heap.size, 0, none⟩) (Nat.le_refl _) _).setCell (p := ⟨w.heap.size + 1, 0, none⟩) (Nat.le_succ _) _
  have g2 : (((w1.alloc (.cells #[] 60)).setCell ⟨w.heap.size, 0, none⟩ (.slice none 0 0)).setCell ⟨w.heap.size + 1, 0, none⟩ (.int .i64 5)).heap[w.heap.size]? = some (.cells #[.slice none 0 0] 40 (0, 0)) := by
    rw [Below.heap_setCell _ _ _ _ (by show w.heap.size ≠ w.heap.size + 1; omega)]
    have := (heap_alloc_old w1 (.cells #[] 60) (r := w.heap.size) (by omega)).trans h2
    simp [World.setCell, Array.getElem?_modify, this]
  have g3 : (((w1.alloc (.cells #[] 60)).setCell ⟨w.heap.size, 0, none⟩ (.slice none 0 0)).setCell ⟨w.heap.size + 1, 0, none⟩ (.int .i64 5)).heap[w.heap.size + 1]? = some (.cells #[.int .i64 5] 37 (0, 0)) := by
    have := (Below.heap_setCell (w1.alloc (.cells #[] 60)) ⟨w.heap.size, 0, none⟩ (.slice none 0 0) (w.heap.size + 1) (by show w.heap.size + 1 ≠ w.heap.size; omega)).trans ((heap_alloc_old w1 (.cells #[] 60) (r := w.heap.size + 1) (by omega)).trans h3)
    simp [World.setCell, Array.getElem?_modify] at this ⊢
    simp [this]
  have c2 := cell_of_row _ _ 0 _ _ _ g2
  have c3 := cell_of_row _ _ 0 _ _ _ g3
  have HR := hR _ hX
  generalize hW : (((w1.alloc (.cells #[] 60)).setCell ⟨w.heap.size, 0, none⟩ (.slice none 0 0)).setCell ⟨w.heap.size + 1, 0, none⟩ (.int .i64 5)) = W at *
  simp at c2 c3
  simp [Leaves, settle, results, Try.results22, go_sem, wrongR, t2, t3, c2, c3]
  exact HR

theorem door_ok (w W : World) (R : Ending → World → Prop) (tmps : Array Value) (v2 v3 : Value) (t2 : tmps[2]?.getD undef = .pointer (some ⟨w.heap.size, 0, none⟩)) (t3 : tmps[3]?.getD undef = .pointer (some ⟨w.heap.size + 1, 0, none⟩))
    (c2 : W.cell? ⟨w.heap.size, 0, none⟩ = some v2) (c3 : W.cell? ⟨w.heap.size + 1, 0, none⟩ = some v3) (hR : R (.returned (.tuple #[v2, v3])) W) :
    bodyPostD Try.prog Try.f22 R Exit.ret { tmps := tmps, defers := [{ target := .fn (.func 30) #[.pointer (some ⟨w.heap.size, 0, none⟩), .pointer (some ⟨w.heap.size + 1, 0, none⟩)], args := #[] }] } W := by
  refine leaves_cons (f := 30) (args := #[.pointer (some ⟨w.heap.size, 0, none⟩), .pointer (some ⟨w.heap.size + 1, 0, none⟩)]) (by simp) (by simp [go_sem]) ?_
  refine (catch_idle w.heap.size (w.heap.size + 1) W).mono ?_
  rintro e u' w'' ⟨rfl, rfl, rfl⟩
  simp [Leaves, settle, results, Try.results22, go_sem, t2, t3, c2, c3]
  exact hR

set_option maxRecDepth 100000 in
set_option maxHeartbeats 2000000 in
theorem unpack_any (ao : Option Addr) (n cap : Nat) (s : List UInt8) (w : World) (hs : s.length = n) (hn : n ≤ cap) (hcap : cap ≤ maxLen) (hc : CellsAt w ao (byteVals s)) (hlow : ∀ b off, ao = some ⟨b, off, none⟩ → b < w.heap.size) :
    Calls Try.prog 22 #[.slice ao n cap] w fun e w' => Ext w w' ∧ ((∃ l qs a c, rdList s = some l ∧ e = .returned (.tuple #[.slice a qs.length c, .int .i64 0]) ∧ PostsAt w' a qs ∧ qs.map PV.norm = l) ∨ (rdList s = none ∧ e = .returned (.tuple #[.slice none 0 0, .int .i64 5]))) := by
  have hmf : ∀ (fn : Fn) (first cap : Array Value) (w : World), (Instr.makeFunc fn first cap).run Try.prog w = .ok (.func fn first cap) w := fun _ _ _ _ => rfl
  have U0 := Lib.hid (US.start w ao n cap s hs hn hcap hc hlow)
  clear hc hlow
  go_enter_defers Try.func22, Try.ntmps22
  go_wp2_with fail
  refine (rdnumber_any (w.heap.size + 2) (w.heap.size + 3) s 64 _ U0.out.reads (by omega)).mono ?_
  rintro e w1 ⟨hT, ⟨n1, s1, e1, rfl, hr1⟩ | ⟨e1, rfl⟩⟩
  rotate_left
  · have hU := U0.out
    have hT2 : Ext w w1 := hU.ext.trans ⟨hT.os, hT.tape, hT.output, hT.size, fun k hk => hT.block k (by have := hU.ord; omega) (fun e => by simp only [Option.some.injEq] at e; omega)⟩
    have hh2 := hT.row hU.h2 (by omega)
    have hh3 := hT.row hU.h3 (by omega)
    have hh4 := Nat.le_trans hU.ord hT.size
    clear hU hT U0
    go_wp2_with fail
    exact door_wrong w w1 (.slice none 0 0) _ _ rfl rfl hT2 hh4 hh2 hh3 fun w' h => ⟨h, .inr ⟨by rw [rdList, e1], rfl⟩⟩
  have hn1 := (rdGo_le _ _ _ _ _ _ e1).1
  have U1 := Lib.hid (U0.out.num hT hr1)
  have HL : Hid (rdList s = match rdAll n1 (-1) s1 with | none => none | some (l, u) => if u = [] ∧ rightB l = true then some l else none) := by
    show _ = _
    rw [rdList, e1]
  clear hT hr1 e1 U0
  go_wp2_with fail
  go_loopw [5, 13] (fun last i wr => ∃ (k : Nat) (l : Int) (qs : List PV) (ao : Option Addr) (cap : Nat) (t : List UInt8), k ≤ n1 ∧ i = .int .i64 k ∧ last = .int .i64 l ∧ -1 ≤ l ∧ l ≤ (k : Int) * 9007199254740993 ∧ Hid (qs.length = k) ∧ US w wr (.slice ao qs.length cap) qs t ∧ Hid (rdAll n1 (-1) s1 = (rdAll (n1 - k) l t).map fun q => (qs.map PV.norm ++ q.1, q.2)) ∧ Hid (∀ p ∈ qs, p.ats.length ≤ 1048577)) (fun _ i _ => n1 - (intOf i).toNat)
  case atStart => exact ⟨0, -1, [], none, 0, s1, by omega, rfl, rfl, by omega, by omega, rfl, U1.out, by simp [Hid], by simp [Hid]⟩
  case round =>
    obtain ⟨k, l, qs, ao2, cap2, t, hk, rfl, rfl, hl1, hl2, hql, hU, hg, hats⟩ := hrel
    by_cases hlt : k < n1
    · have HU := Lib.hid hU
      have hsz := hU.ord
      clear hU
      obtain ⟨f, hf⟩ : ∃ f, n1 - k = f + 1 := ⟨n1 - k - 1, by omega⟩
      have hg2 := hg.out
      rw [hf, rdAll] at hg2
      have Hf := Lib.hid hf
      clear hf hg
      go_wp2_with fail
      refine (rdposting_any (w.heap.size + 2) (w.heap.size + 3) t l _ HU.out.reads HU.out.ord hl1 (by omega)).mono ?_
      rintro e w2 ⟨hT, ⟨row, len, ats, t2, a, c, e2, rfl, hca, hab, hr2⟩ | ⟨e2, rfl⟩⟩
      rotate_left
      · have hU := HU.out
        have hT2 : Ext w w2 := hU.ext.trans ⟨hT.os, hT.tape, hT.output, hT.size, fun k hk => hT.block k (by have := hU.ord; omega) (fun e => by simp only [Option.some.injEq] at e; omega)⟩
        have hh2 := hT.row hU.h2 (by omega)
        have hh3 := hT.row hU.h3 (by omega)
        have hh4 := Nat.le_trans hU.ord hT.size
        rw [e2] at hg2
        clear hU hT HU
        go_wp2_with fail
        exact door_wrong w w2 _ _ _ rfl rfl hT2 hh4 hh2 hh3 fun w' h => ⟨h, .inr ⟨by rw [HL.out, hg2]; rfl, rfl⟩⟩
      rw [e2] at hg2
      simp only [] at hg2
      have F := rdPost_fact e2
      have Hg := Lib.hid hg2
      have U2 := HU.out.num hT hr2
      have c2 := cell_of_row w2 w.heap.size 0 _ _ _ U2.h2
      have f2 := frozen_of_row w2 w.heap.size 0 _ _ U2.h2
      have hP := Lib.hid (show qs.length + 1 ≤ maxLen ∧ (qs.length + 1) * 40 ≤ 140737488355328 by have := hql.out; unfold maxLen; omega)
      have hr1 := (U2.own.alloc (.cells #[.int .i64 row, .int .i64 len, .slice a ats.length c] 27)).alloc (.cells #[.int .i64 row, .int .i64 len, .slice a ats.length c] 27)
      have hcn : CellsAt ((w2.alloc (.cells #[.int .i64 row, .int .i64 len, .slice a ats.length c] 27)).alloc (.cells #[.int .i64 row, .int .i64 len, .slice a ats.length c] 27)) (some ⟨w2.heap.size + 1, 0, none⟩) (flat3 [⟨row, len, a, c, ats⟩]) := cells_new3 (heap_alloc2_new _ _ _)
      have hsz2 := U2.ord
      have hb3 : w.heap.size + 3 ≤ ((w2.alloc (.cells #[.int .i64 row, .int .i64 len, .slice a ats.length c] 27)).alloc (.cells #[.int .i64 row, .int .i64 len, .slice a ats.length c] 27)).heap.size := by simp; omega
      have hK : Hid (∀ (w3 : World) (v3 : Value), Owns ((w2.alloc (.cells #[.int .i64 row, .int .i64 len, .slice a ats.length c] 27)).alloc (.cells #[.int .i64 row, .int .i64 len, .slice a ats.length c] 27)) w3 (.slice ao2 qs.length cap2) v3 →
          w3.cell? ⟨w2.heap.size, 0, none⟩ = some (.int .i64 row) ∧ w3.cell? ⟨w.heap.size, 0, none⟩ = some (.slice ao2 qs.length cap2) ∧ w3.frozen? ⟨w.heap.size, 0, none⟩ = false) := fun w3 v3 o3 => by
        have hlow := owns_low U2.own
        have hlt2 : ∀ k, (Value.slice ao2 qs.length cap2).ownBlock = some k → k < w2.heap.size := fun k hk => (U2.own.lt k hk).2
        have hx : w3.heap[w2.heap.size]? = some (.cells #[.int .i64 row, .int .i64 len, .slice a ats.length c] 27 (0, 0)) := by
          rw [o3.grown.block w2.heap.size (by simp; omega) (fun e => by have := hlt2 _ e.symm; omega), heap_alloc_old _ _ (by simp)]
          exact heap_alloc_new _ _
        have hy : w3.heap[w.heap.size]? = some (.cells #[.slice ao2 qs.length cap2] 40 (0, 0)) := by
          rw [o3.grown.block w.heap.size (by simp; omega) (fun e => by have := hlow _ e.symm; omega), heap_alloc_old _ _ (by simp; omega), heap_alloc_old _ _ (by omega)]
          exact U2.h2
        exact ⟨cell_of_row w3 _ 0 _ _ _ hx, cell_of_row w3 _ 0 _ _ _ hy, frozen_of_row w3 _ 0 _ _ hy⟩
      have hne : w2.heap.size ≠ w.heap.size := by omega
      simp at c2
      have c2' : (w2.alloc (.cells #[.int .i64 row, .int .i64 len, .slice a ats.length c] 27)).cell? ⟨w.heap.size, 0, none⟩ = some (.slice ao2 qs.length cap2) := (World.cell?_alloc_lt _ _ _ (by show w.heap.size < _; omega)).trans c2
      have hOL : Hid (∀ b, (Value.slice ao2 qs.length cap2).ownBlock = some b → b < wr.heap.size) := fun b e => (HU.out.own.lt b e).2
      have HU2 := Lib.hid U2
      have Hca := Lib.hid hca
      have Hab := Lib.hid hab
      have F1 := F.1
      have F2 := F.2.1
      have HF := Lib.hid F
      clear hca hab F HU hT hr2 e2 hg2 U2
      go_wp2_with (at_builtin; refine wpList_append_cells rfl (.tmp 18) (.tmp 20) rfl Try.underlying40 infoBP rfl (by omega) rfl hr1 (some ⟨w2.heap.size + 1, 0, none⟩) 1 1 (flat3 [⟨row, len, a, c, ats⟩]) rfl rfl hcn (flat3_one _) hP.out.1 hP.out.2 hb3 ?_; intro v3 w3 hown3 o3; obtain ⟨d0, d1, d2⟩ := hK.out w3 v3 o3; obtain ⟨ao5, cap5, rfl, _, _⟩ := owns_form hown3)
      go_roundw
      case rel =>
        refine ⟨k + 1, row, qs ++ [⟨row, len, a, c, ats⟩], ao5, cap5, t2, by omega, by rfl, by rfl, by omega, by push_cast; omega, by show _ = _; simp [hql.out], ?_, ?_, ?_⟩
        · have := HU2.out.push (p := ⟨row, len, a, c, ats⟩) Hca.out (fun b off e => ⟨by have := (Hab.out b off e).1; omega, (Hab.out b off e).2, fun e2 => by have h1 := hOL.out b e2; have h2 := (Hab.out b off e).1; omega⟩) o3 hown3
          simpa using this
        · show _ = _
          rw [Hg.out, show n1 - (k + 1) = f by have := Hf.out; omega, Option.map_map]
          congr 1
          funext q; simp [PV.norm, postOf]
        · intro p hp
          rcases List.mem_append.1 hp with h | h
          · exact hats.out p h
          · simp only [List.mem_singleton] at h; subst h; exact HF.out.2.2.1
      case measure => simp [intOf]; omega
    · obtain rfl : k = n1 := by omega
      have hg2 := hg.out
      rw [Nat.sub_self, rdAll] at hg2
      have Hg := Lib.hid hg2
      have HU := Lib.hid hU
      obtain ⟨a9, c9, hrd, hrc, hrm, hrcell, hrne⟩ := hU.reads.2
      have c2 := cell_of_row wr w.heap.size 0 _ _ _ hU.h2
      have f2 := frozen_of_row wr w.heap.size 0 _ _ hU.h2
      have c3 := cell_of_row wr (w.heap.size + 1) 0 _ _ _ hU.h3
      have f3 := frozen_of_row wr (w.heap.size + 1) 0 _ _ hU.h3
      have c4 := cell_of_row wr (w.heap.size + 2) 0 _ _ _ hrd
      have f4 := frozen_of_row wr (w.heap.size + 2) 0 _ _ hrd
      simp at c2 c3 c4
      obtain ⟨a7, c7, e7, hc7, hb7⟩ := owns_form hU.own
      simp only [Value.slice.injEq, true_and] at e7
      obtain ⟨rfl, rfl⟩ := e7
      have hposts := posts_of_cells hc7 (fun p hp => (hU.inner p hp).1)
      have hrm2 : c9 ≤ 9223372036854775807 := by unfold maxLen at hrm; omega
      have HRT := Lib.hid (rightList_any ao2 qs.length cap2 qs wr rfl (by have := hql.out; omega) hposts (fun p hp => by have := hats.out p hp; omega))
      clear hg hg2 hU hrcell hposts hc7 hb7 hrd hrm
      have hE := HU.out.ext
      have ho := HU.out.ord
      have hh2 := HU.out.h2
      have hh3 := HU.out.h3
      by_cases ht0 : t.length = 0
      · obtain rfl : t = [] := List.eq_nil_of_length_eq_zero ht0
        clear ht0
        have HEnd : Hid (rdList s = if rightB qs = true then some (qs.map PV.norm) else none) := by
          show _ = _
          rw [HL.out, Hg.out]
          simp [rightB_norm]
        have Hh2 := Lib.hid hh2
        have Hh3 := Lib.hid hh3
        clear hh2 hh3
        go_wp2_with fail
        refine HRT.out.mono ?_
        rintro e w5 ⟨rfl, hE5⟩
        by_cases hgood : rightB qs = true
        · rw [hgood]
          have d2 := keeps hE5 c2
          have d3 := keeps hE5 c3
          have g2 := (Below.frozen hE5 (p := ⟨w.heap.size, 0, none⟩) (by show w.heap.size < _; omega)).trans f2
          have g3 := (Below.frozen hE5 (p := ⟨w.heap.size + 1, 0, none⟩) (by show w.heap.size + 1 < _; omega)).trans f3
          go_wp2_with fail
          refine (need_true _).mono ?_
          rintro e w6 ⟨rfl, rfl⟩
          go_wp2_with fail
          have hX : Ext w ((w5.setCell ⟨w.heap.size, 0, none⟩ (.slice ao2 qs.length cap2)).setCell ⟨w.heap.size + 1, 0, none⟩ (.int .i64 0)) :=
            ((Ext.trans' hE hE5).setCell (p := ⟨w.heap.size, 0, none⟩) (Nat.le_refl _) _).setCell (p := ⟨w.heap.size + 1, 0, none⟩) (Nat.le_succ _) _
          refine door_ok w _ _ _ (.slice ao2 qs.length cap2) (.int .i64 0) rfl rfl ?_ ?_ ⟨hX, .inl ⟨qs.map PV.norm, qs, ao2, cap2, ?_, rfl, ?_, rfl⟩⟩
          · go_simp
          · go_simp
          · rw [HEnd.out, if_pos hgood]
          · have ho1 := ownsRow_setCell_below (ownsRow_setCell_below (owns_ext HU.out.own hE5) (a := ⟨w.heap.size, 0, none⟩) (by show w.heap.size < _; omega) (.slice ao2 qs.length cap2)) (a := ⟨w.heap.size + 1, 0, none⟩) (by show w.heap.size + 1 < _; omega) (.int .i64 0)
            obtain ⟨a7, c7, e7, hc7, hb7⟩ := owns_form ho1
            simp only [Value.slice.injEq, true_and] at e7
            obtain ⟨rfl, rfl⟩ := e7
            refine posts_of_cells hc7 (fun p hp => ?_)
            have h1 := ((HU.out.inner p hp).1.ext hE5)
            exact (h1.setCell _ _ (fun b off e => by have := HU.out.low p hp b off e; show b ≠ w.heap.size; omega)).setCell _ _ (fun b off e => by have := HU.out.low p hp b off e; show b ≠ w.heap.size + 1; omega)
        · have hb : rightB qs = false := by simpa using hgood
          rw [hb]
          go_wp2_with fail
          refine (need_false _).mono ?_
          rintro e w6 ⟨rfl, rfl⟩
          go_wp2_with fail
          exact door_wrong w w5 _ _ _ rfl rfl (Ext.trans' hE hE5) (Nat.le_trans ho hE5.size) ((hE5.block _ (by omega)).trans Hh2.out) ((hE5.block _ (by omega)).trans Hh3.out) fun w' h => ⟨h, .inr ⟨by rw [HEnd.out, if_neg hgood], rfl⟩⟩
      · have htd : ((t.length : Int) == 0) = false := by rw [beq_eq_false_iff_ne]; omega
        have HEnd : Hid (rdList s = none) := by
          show _ = _
          rw [HL.out, Hg.out]
          cases t with
          | nil => simp at ht0
          | cons x t => simp
        clear ht0
        have Hh2 := Lib.hid hh2
        have Hh3 := Lib.hid hh3
        clear hh2 hh3
        go_wp2_with fail
        refine (need_false _).mono ?_
        rintro e w6 ⟨rfl, rfl⟩
        go_wp2_with fail
        exact door_wrong w wr _ _ _ rfl rfl hE ho Hh2.out Hh3.out fun w' h => ⟨h, .inr ⟨HEnd.out, rfl⟩⟩
end Go.Proofs.Ytdlijjmjfepklaa
