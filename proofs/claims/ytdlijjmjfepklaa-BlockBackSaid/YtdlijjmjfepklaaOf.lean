/-
  The walks of layer 18: a document's list as the program's; what is greatest in a list.
-/
import Derived.Test.YtdlijjmjfepklaaPack
import Derived.Test.YtdlijjmjfepklaaBlockB
namespace Go.Proofs.Ytdlijjmjfepklaa
open Go.RowKit

theorem infoBP : (Try.prog.info? 27).map (fun i => (i.zero, i.size, i.bytes)) = some (some (.agg #[.int .i64 0, .int .i64 0, .slice none 0 0]), 3, 40) := by kernel_rfl

/-- A posting without where it lies. -/
def PV.norm (p : PV) : PV := ⟨p.row, p.len, none, 0, p.ats⟩
def PV.cells3 (p : PV) : List Value := [.int .i64 p.row, .int .i64 p.len, .slice p.ao p.ats.length p.cap]
def flat3 (ps : List PV) : List Value := ps.flatMap PV.cells3
theorem flat3_length (ps : List PV) : (flat3 ps).length = ps.length * 3 := by
  induction ps with
  | nil => rfl
  | cons p r ih => unfold flat3 at *; rw [List.flatMap_cons, List.length_append, ih, List.length_cons]; simp [PV.cells3]; omega
theorem flat3_get {ps : List PV} {k : Nat} {p : PV} (h : ps[k]? = some p) (j : Nat) (hj : j < 3) : (flat3 ps)[k * 3 + j]? = p.cells3[j]? := by
  induction ps generalizing k with
  | nil => simp at h
  | cons q r ih =>
    unfold flat3 at *
    rw [List.flatMap_cons]
    cases k with
    | zero =>
      simp at h; subst h
      rw [List.getElem?_append_left (by simp [PV.cells3]; omega)]; simp
    | succ k =>
      simp at h
      rw [List.getElem?_append_right (by simp [PV.cells3]; omega), ← ih h]
      congr 1; simp [PV.cells3]; omega
theorem flat3_one (ps : List PV) : ∀ u ∈ flat3 ps, u.oneCell' = true := by
  intro u hu
  simp only [flat3, List.mem_flatMap, PV.cells3] at hu
  obtain ⟨p, _, h⟩ := hu
  simp at h
  rcases h with rfl | rfl | rfl <;> rfl

theorem posts_of_cells {w : World} {ao : Option Addr} {ps : List PV} (h : CellsAt w ao (flat3 ps)) (hin : ∀ p ∈ ps, CellsAt w p.ao (ints p.ats)) : PostsAt w ao ps :=
  ⟨fun k p hp => by
    obtain ⟨b, off, h1, h2, h3⟩ := h (k * 3 + 0) (.int .i64 p.row) (by rw [flat3_get hp 0 (by omega)]; rfl)
    obtain ⟨b', off', h1', _, h4⟩ := h (k * 3 + 1) (.int .i64 p.len) (by rw [flat3_get hp 1 (by omega)]; rfl)
    obtain ⟨b'', off'', h1'', _, h5⟩ := h (k * 3 + 2) (.slice p.ao p.ats.length p.cap) (by rw [flat3_get hp 2 (by omega)]; rfl)
    rw [h1] at h1' h1''
    simp only [Option.some.injEq, Addr.mk.injEq] at h1' h1''
    obtain ⟨rfl, rfl, _⟩ := h1'
    obtain ⟨rfl, rfl, _⟩ := h1''
    exact ⟨b, off, h1, h2, h3, by rw [Nat.add_assoc]; exact h4, by rw [Nat.add_assoc]; exact h5⟩, hin⟩

theorem cells_new3 {w : World} {b : Nat} {x y z : Value} {e : TypeId} {fr : Nat × Nat} (h : w.heap[b]? = some (.cells #[x, y, z] e fr)) : CellsAt w (some ⟨b, 0, none⟩) [x, y, z] := fun i u hu => by
  refine ⟨b, 0, rfl, (Array.getElem?_eq_some_iff.1 h).1, ?_⟩
  rw [Nat.zero_add, cell_of_row w b i #[x, y, z] e fr h]
  simpa using hu

/-- The postings that were made so far: each one's places lie apart from the list's own row. -/
def Inner (w : World) (v : Value) (ps : List PV) : Prop := ∀ p ∈ ps, CellsAt w p.ao (ints p.ats) ∧ ∀ b off, p.ao = some ⟨b, off, none⟩ → v.ownBlock ≠ some b ∧ b < w.heap.size
theorem Inner.ext {w w' : World} {v : Value} {ps : List PV} (h : Inner w v ps) (x : Ext w w') : Inner w' v ps := fun p hp =>
  ⟨(h p hp).1.ext x, fun b off e => ⟨((h p hp).2 b off e).1, Nat.lt_of_lt_of_le ((h p hp).2 b off e).2 x.size⟩⟩
theorem Inner.owns {w w' : World} {v v' : Value} {ps : List PV} (h : Inner w v ps) (o : Owns w w' v v') : Inner w' v' ps := fun p hp =>
  ⟨(h p hp).1.grown o.grown (fun b off e => fun e2 => ((h p hp).2 b off e).1 e2.symm), fun b off e => ⟨fun e2 => by
    rcases o.row _ e2 with h1 | h1
    · exact ((h p hp).2 b off e).1 h1
    · have := ((h p hp).2 b off e).2; omega, Nat.lt_of_lt_of_le ((h p hp).2 b off e).2 o.grown.size⟩⟩

set_option maxRecDepth 100000 in
set_option maxHeartbeats 2000000 in
theorem of18_any (ao : Option Addr) (n cap : Nat) (ps : List PV) (w : World) (hx : ps.length = n) (hn : n ≤ 1000000) (hc : PostsAt w ao ps) (hs : ∀ p ∈ ps, p.ats.length ≤ 1000000) :
    Calls Try.prog 17 #[.slice ao n cap] w fun e w' => ∃ ao' cap' ps', e = .returned (.slice ao' n cap') ∧ PostsAt w' ao' ps' ∧ ps'.map PV.norm = ps.map PV.norm ∧ Ext w w' := by
  have Hx := Lib.hid hx
  clear hx
  go_enter Try.func17, Try.ntmps17
  go_wp2_with fail
  go_loopw [3, 4] (fun o i wr => ∃ (k : Nat) (qs : List PV), k ≤ n ∧ i = .int .i64 k ∧ wr.ownsRow w.heap.size 27 3 o k (flat3 qs) ∧ Inner wr o qs ∧ Ext w wr ∧ Hid (qs.map PV.norm = (ps.take k).map PV.norm)) (fun _ i _ => n - (intOf i).toNat)
  case atStart => exact ⟨0, [], Nat.zero_le _, rfl, World.ownsRow_nil _ _ _ _, (fun p hp => (by cases hp)), Below.refl _ _, rfl⟩
  case round =>
    obtain ⟨k, qs, hk, rfl, hr, hi, he, hq⟩ := hrel
    by_cases hlt : k < n
    · obtain ⟨p, hp⟩ := get_of_lt Hx.out hlt
      obtain ⟨b, off, rfl, hb, c1, c2, c3⟩ := (hc.ext he).cells k p hp
      have hin := (hc.ext he).inner p (List.mem_of_getElem? hp)
      have hlen := hs p (List.mem_of_getElem? hp)
      have C := Lib.hid (one18_full p.row p.len p.ao p.ats.length p.cap p.ats wr rfl hlen hin)
      have HT := Lib.hid (take_of_get hp)
      have hB := Lib.hid (show k + 1 ≤ maxLen ∧ (k + 1) * 40 ≤ 140737488355328 by unfold maxLen; omega)
      obtain ⟨ao3, cap3, rfl, _, _⟩ := owns_form hr
      clear hp hin
      go_wp2_with fail
      ((with_reducible refine C.out.mono ?_); rintro e w1 ⟨a1, c1', rfl, k1, E1, hi1⟩)
      have hr1 := (owns_ext hr E1).alloc (.cells #[.int .i64 p.row, .int .i64 p.len, .slice a1 p.ats.length c1'] 27)
      have he1 : Ext w (w1.alloc (.cells #[.int .i64 p.row, .int .i64 p.len, .slice a1 p.ats.length c1'] 27)) := Ext.trans' he (Ext.trans' E1 ((Below.refl _ w1).alloc (Nat.le_refl _) _))
      have hb3 := he1.size
      have hcn : CellsAt (w1.alloc (.cells #[.int .i64 p.row, .int .i64 p.len, .slice a1 p.ats.length c1'] 27)) (some ⟨w1.heap.size, 0, none⟩) (flat3 [⟨p.row, p.len, a1, c1', p.ats⟩]) := cells_new3 (heap_alloc_new _ _)
      have hI : Inner (w1.alloc (.cells #[.int .i64 p.row, .int .i64 p.len, .slice a1 p.ats.length c1'] 27)) (.slice ao3 k cap3) (qs ++ [⟨p.row, p.len, a1, c1', p.ats⟩]) := fun q hq' => by
        rcases List.mem_append.1 hq' with h | h
        · exact (hi.ext (Ext.trans' E1 ((Below.refl _ w1).alloc (Nat.le_refl _) _))) q h
        · simp only [List.mem_singleton] at h
          subst h
          refine ⟨k1.alloc _, fun b' off' e' => ⟨fun e2 => ?_, ?_⟩⟩
          · have h1 := hi1 b' off' e'
            have h2 := (hr.lt _ e2).2
            omega
          · have h1 := hi1 b' off' e'
            simp; omega
      have HI := Lib.hid hI
      clear hI k1 hi1
      go_wp2_with (at_builtin; refine wpList_append_cells rfl (.tmp 11) (.tmp 17) rfl Try.underlying40 infoBP rfl (by omega) rfl hr1 (some ⟨w1.heap.size, 0, none⟩) 1 1 (flat3 [⟨p.row, p.len, a1, c1', p.ats⟩]) rfl rfl hcn (flat3_one _) hB.out.1 hB.out.2 hb3 ?_; intro v3 w3 hown3 o3)
      go_roundw
      case rel =>
        refine ⟨k + 1, qs ++ [⟨p.row, p.len, a1, c1', p.ats⟩], by omega, by go_num, ?_, HI.out.owns o3, he1.trans (o3.below hb3 fun q hq' => (hr1.lt q hq').1), by rw [Hid, HT.out, List.map_append, List.map_append, hq.out]; rfl⟩
        have : flat3 (qs ++ [⟨p.row, p.len, a1, c1', p.ats⟩]) = flat3 qs ++ flat3 [⟨p.row, p.len, a1, c1', p.ats⟩] := by simp [flat3]
        rw [this]; exact hown3
      case measure => simp [intOf]; omega
    · obtain rfl : k = n := by omega
      have ht : ps.take k = ps := List.take_of_length_le (by have := Hx.out; omega)
      have HT := Lib.hid ht
      obtain ⟨ao3, cap3, rfl, hc3, _⟩ := owns_form hr
      clear ht
      go_wp2
      go_ret
      exact ⟨ao3, cap3, qs, rfl, posts_of_cells hc3 (fun p hp => (hi p hp).1), by rw [hq.out, HT.out], he⟩

theorem listB_norm (ps : List PV) : ∀ l, listB l (ps.map PV.norm) = listB l ps := by
  induction ps with
  | nil => intro l; rfl
  | cons p r ih => intro l; simp only [List.map_cons, listB, PV.norm]; rw [← ih]
theorem rightB_norm (ps : List PV) : rightB (ps.map PV.norm) = rightB ps := by simp [rightB, listB_norm]
theorem packL_norm (ps : List PV) : ∀ l, packL l (ps.map PV.norm) = packL l ps := by
  induction ps with
  | nil => intro l; rfl
  | cons p r ih => intro l; simp only [List.map_cons, packL, PV.norm]; rw [← ih]
theorem packB_norm (ps : List PV) : packB (ps.map PV.norm) = packB ps := by simp [packB, packL_norm]
end Go.Proofs.Ytdlijjmjfepklaa
