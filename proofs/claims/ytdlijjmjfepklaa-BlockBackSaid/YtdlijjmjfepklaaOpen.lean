/-
  The laws' arguments opened: a posting, a row of integers, as they can be read.
-/
import Derived.Test.YtdlijjmjfepklaaFrame
import Derived.Test.YtdlijjmjfepklaaPosts
import Derived.Deep.Slices
import Derived.Deep.Fields
import Derived.ChangeSame
namespace Go.Proofs.Ytdlijjmjfepklaa
open Go.ChangeShapes Go.WideShapes Go.ChangeAt Go.RowKit Go.Joins Go.Deep

theorem cellsRP : Try.prog.cellsOf 24 = 3 := by kernel_rfl
theorem cellsInt : Try.prog.cellsOf 3 = 1 := by kernel_rfl

/-- A slice of integers that can be read, as its cells. -/
theorem open_row {H : Type} {enc : TypeId × Value → H} {w : World} {base n : Nat} {v : Value} {y : DataW H × List MemPlace} (h : DataW.trod enc Try.prog w base (fun _ => true) true n 22 [v] = some y) :
    ∃ ao len cap xs, v = .slice ao len cap ∧ xs.length = len ∧ len ≤ 9223372036854775807 ∧ CellsAt w ao (ints xs) := by
  rcases open_ints Try.underlying22 Try.underlying3 cellsInt h with ⟨hcs, _⟩ | ⟨a, len, cap, zs, hcs, _, hl, hm, hz, _, hc, _⟩
  · obtain rfl : v = .slice none 0 0 := by simpa using hcs
    exact ⟨none, 0, 0, [], rfl, rfl, by omega, CellsAt.nil⟩
  · obtain rfl : v = .slice (some a) len cap := by simpa using hcs
    rw [if_pos rfl] at hz
    refine ⟨some a, len, cap, zs.take len, rfl, by simp; omega, by unfold maxLen at hm; omega, fun i u hu => ?_⟩
    have hi : i < len ∧ i < zs.length := by
      have := (List.getElem?_eq_some_iff.1 hu).1
      simp [ints] at this; omega
    have hs : a.spot = none := by
      have h0 := hc 0 (by omega)
      have : a.add 0 = a := by simp [Addr.add]
      rw [this] at h0
      cases hsp : a.spot with
      | none => rfl
      | some t => simp only [World.cell?] at h0; split at h0 <;> simp [hsp] at h0
    obtain ⟨b, off, sp⟩ := a
    simp only at hs
    subst hs
    have ha : (⟨b, off, none⟩ : Addr).add i = ⟨b, off + i, none⟩ := by unfold Addr.add; split <;> simp_all
    have h1 := hc i hi.2
    rw [ha] at h1
    refine ⟨b, off, rfl, World.block_lt_of_cell? w _ h1, ?_⟩
    rw [h1]
    simp only [ints, List.getElem?_map, List.getElem?_take, if_pos hi.1] at hu
    rw [List.getElem?_eq_getElem hi.2] at hu
    simp only [Option.map_some, Option.some.injEq] at hu
    rw [← hu, List.getD_eq_getElem?_getD, List.getElem?_eq_getElem hi.2]
    rfl

theorem open_post {H : Type} {enc : TypeId × Value → H} {w : World} {r : Reach} {b0 base : Nat} {v : Value} {d : DataW H} {p : List MemPlace} (hv : Value.okWide Try.prog w r b0 24 v) (h : DataW.Trod enc Try.prog w base (fun _ => true) true 24 v d p) :
    ∃ row len ao n cap xs, v = .agg #[.int .i64 row, .int .i64 len, .slice ao n cap] ∧ xs.length = n ∧ n ≤ 9223372036854775807 ∧ CellsAt w ao (ints xs) := by
  obtain ⟨v0, v1, v2, y0, y1, y2, m, rfl, _, _, h0, h1, h2⟩ := open_agg3 Try.underlying24 (by kernel_rfl) cellsRP hv h
  obtain ⟨row, e0, _, _⟩ := DataW.trod_int Try.underlying3 h0
  obtain ⟨len, e1, _, _⟩ := DataW.trod_int Try.underlying3 h1
  obtain ⟨ao, n, cap, xs, rfl, hx, hn, hc⟩ := open_row h2
  simp at e0 e1
  subst e0 e1
  exact ⟨row, len, ao, n, cap, xs, rfl, hx, hn, hc⟩

section
variable {H : Type} {enc : TypeId × Value → H} {P : Program} {w : World} {base : Nat} {spare : Nat → Bool} {held : Bool}
theorem slice_fields {t e : TypeId} {fs : Array Field} {fuel : Nat} {cs : List Value} {x : DataW H × List MemPlace} (ht : P.underlying t = some (.slice e)) (he : P.underlying e = some (.struct fs))
    (hone : oneCellFields P fs = true) (hC : P.cellsOf e = fs.size) (h : DataW.trod enc P w base spare held fuel t cs = some x) :
    (cs = [.slice none 0 0] ∧ x = (.nil, [])) ∨
    ∃ (a : Addr) (len cap m : Nat) (D : Nat → DataW H) (Pl : Nat → List MemPlace), cs = [.slice (some a) len cap] ∧ base ≤ a.block ∧ len ≤ cap ∧ cap ≤ maxLen ∧ m = (if spare a.block then cap else len) ∧
      x = (.slice ((List.range len).map D) ((List.range (m - len)).map fun j => D (len + j)), MemPlace.row a (m * fs.size) ++ (List.range m).flatMap Pl) ∧
      ∀ i, i < m → ∃ (ys : List (DataW H × List MemPlace)) (n : Nat), D i = .agg (ys.map (·.1)) ∧ Pl i = ys.flatMap (·.2) ∧ ys.length = fs.size ∧
        ∀ (j : Nat) (f : Field), fs[j]? = some f → ∃ (v : Value) (y : DataW H × List MemPlace), w.cell? (a.add (i * fs.size + j)) = some v ∧ ys[j]? = some y ∧ DataW.trod enc P w base spare held n f.type [v] = some y := by
  rcases open_slice ht h with h0 | ⟨a, len, cap, m, n, D, Pl, hcs, hb, hl, hm, hmm, hx, hi⟩
  · exact .inl h0
  · refine .inr ⟨a, len, cap, m, D, Pl, hcs, hb, hl, hm, hmm, by rw [hC] at hx; exact hx, fun i him => ?_⟩
    obtain ⟨cs', hc, ht'⟩ := hi i him
    rw [hC] at hc
    obtain ⟨ys, n', hn', hy, hlen, hyl, hf⟩ := DataW.trod_struct he ht'
    obtain ⟨_, hcl, hat⟩ := World.cells?_some hc
    simp only [Prod.mk.injEq] at hy
    refine ⟨ys, n', hy.1, hy.2, hyl, fun j f hj => ?_⟩
    obtain ⟨ho, hk⟩ := hone_of hone j f hj
    have hjl : j < fs.size := (Array.getElem?_eq_some_iff.1 hj).1
    have hcell := hat j hjl
    have hv : cs'[j]? = some (cs'[j]'(by omega)) := List.getElem?_eq_getElem (by omega)
    have h1 := hf j f hj
    rw [ho, hk] at h1
    have hone' : (cs'.drop j).take 1 = [cs'[j]'(by omega)] := by
      rw [List.drop_eq_getElem_cons (by omega)]
      rfl
    rw [hone'] at h1
    have hys : ys[j]? = some (ys[j]'(by omega)) := List.getElem?_eq_getElem (by omega)
    refine ⟨_, _, ?_, hys, h1.trans hys⟩
    rw [← Go.Deep.add_add, hcell, hv]
end

theorem choose_list {α : Type} {Q : Nat → α → Prop} : ∀ n, (∀ i, i < n → ∃ p, Q i p) → ∃ ps : List α, ps.length = n ∧ ∀ i p, ps[i]? = some p → Q i p
  | 0, _ => ⟨[], rfl, fun i p h => by simp at h⟩
  | n + 1, h => by
    obtain ⟨ps, hl, hq⟩ := choose_list n (fun i hi => h i (by omega))
    obtain ⟨p, hp⟩ := h n (by omega)
    refine ⟨ps ++ [p], by simp [hl], fun i q hi => ?_⟩
    by_cases hlt : i < ps.length
    · rw [List.getElem?_append_left hlt] at hi
      exact hq i q hi
    · rw [List.getElem?_append_right (by omega)] at hi
      have h0 : i - ps.length = 0 := by
        have := (List.getElem?_eq_some_iff.1 hi).1
        simp at this; omega
      rw [h0] at hi
      simp at hi
      subst hi
      have : i = n := by omega
      rw [this]; exact hp

theorem open_posts {H : Type} {enc : TypeId × Value → H} {w : World} {base n : Nat} {v : Value} {y : DataW H × List MemPlace} (h : DataW.trod enc Try.prog w base (fun _ => true) true n 34 [v] = some y) :
    ∃ ao len cap ps, v = .slice ao len cap ∧ ps.length = len ∧ len ≤ 9223372036854775807 ∧ PostsAt w ao ps ∧ ∀ p ∈ ps, p.ats.length ≤ 9223372036854775807 := by
  rcases slice_fields Try.underlying34 Try.underlying24 (by kernel_rfl) cellsRP h with ⟨hcs, _⟩ | ⟨a, len, cap, m, D, Pl, hcs, _, hl, hm, hmm, _, hc⟩
  · obtain rfl : v = .slice none 0 0 := by simpa using hcs
    exact ⟨none, 0, 0, [], rfl, rfl, by omega, ⟨fun k p hp => by simp at hp, fun p hp => by cases hp⟩, fun p hp => by cases hp⟩
  · obtain rfl : v = .slice (some a) len cap := by simpa using hcs
    rw [if_pos rfl] at hmm
    subst hmm
    have hs : 0 < len → a.spot = none := fun h0 => by
      obtain ⟨ys, n', _, _, _, hf⟩ := hc 0 (by omega)
      obtain ⟨u, _, h0, _⟩ := hf 0 _ rfl
      have : a.add (0 * 3 + 0) = a := by simp [Addr.add]
      have h0 : w.cell? (a.add (0 * 3 + 0)) = some u := h0
      rw [this] at h0
      cases hsp : a.spot with
      | none => rfl
      | some t => simp only [World.cell?] at h0; split at h0 <;> simp [hsp] at h0
    obtain ⟨ps, hpl, hps⟩ := choose_list (Q := fun k (p : PV) => ((∃ b off, some a = some (⟨b, off, none⟩ : Addr) ∧ b < w.heap.size ∧ w.cell? ⟨b, off + k * 3, none⟩ = some (.int .i64 p.row) ∧ w.cell? ⟨b, off + k * 3 + 1, none⟩ = some (.int .i64 p.len) ∧ w.cell? ⟨b, off + k * 3 + 2, none⟩ = some (.slice p.ao p.ats.length p.cap)) ∧ CellsAt w p.ao (ints p.ats)) ∧ p.ats.length ≤ 9223372036854775807) len (fun i hi => by
      obtain ⟨ys, n', _, _, _, hf⟩ := hc i (by omega)
      obtain ⟨u0, y0, k0, _, t0⟩ := hf 0 _ rfl
      obtain ⟨u1, y1, k1, _, t1⟩ := hf 1 _ rfl
      obtain ⟨u2, y2, k2, _, t2⟩ := hf 2 _ rfl
      obtain ⟨row, e0, _, _⟩ := DataW.trod_int Try.underlying3 t0
      obtain ⟨ln, e1, _, _⟩ := DataW.trod_int Try.underlying3 t1
      obtain ⟨ao, n2, cap2, xs, rfl, hx, hn, hcells⟩ := open_row t2
      simp at e0 e1
      subst e0 e1
      have hs := hs (by omega)
      obtain ⟨b, off, sp⟩ := a
      simp only at hs
      subst hs
      have ha : ∀ t, (⟨b, off, none⟩ : Addr).add t = ⟨b, off + t, none⟩ := fun t => by unfold Addr.add; split <;> simp_all
      have k0 : w.cell? ((⟨b, off, none⟩ : Addr).add (i * 3 + 0)) = some (.int .i64 row) := k0
      have k1 : w.cell? ((⟨b, off, none⟩ : Addr).add (i * 3 + 1)) = some (.int .i64 ln) := k1
      have k2 : w.cell? ((⟨b, off, none⟩ : Addr).add (i * 3 + 2)) = some (.slice ao n2 cap2) := k2
      rw [ha] at k0 k1 k2
      subst hx
      exact ⟨⟨row, ln, ao, cap2, xs⟩, ⟨⟨b, off, rfl, World.block_lt_of_cell? w _ k0, k0, k1, k2⟩, hcells⟩, hn⟩)
    refine ⟨some a, len, _, ps, rfl, hpl, by unfold maxLen at hm; omega, ⟨fun k p hp => (hps k p hp).1.1, fun p hp => ?_⟩, fun p hp => ?_⟩
    · obtain ⟨i, hi⟩ := List.getElem?_of_mem hp
      exact (hps i p hi).1.2
    · obtain ⟨i, hi⟩ := List.getElem?_of_mem hp
      exact (hps i p hi).2
end Go.Proofs.Ytdlijjmjfepklaa
