/-
  The walks of layer 18: a document's posting as the program's.
-/
import Derived.Test.YtdlijjmjfepklaaKit
namespace Go.Proofs.Ytdlijjmjfepklaa
open Go.RowKit

theorem infoInt : (Try.prog.info? 3).map (fun i => (i.zero, i.size, i.bytes)) = some (some (.int .i64 0), 1, 8) := by kernel_rfl

/-- A slice that lies in new memory. -/
def HighAt (base top : Nat) (ao : Option Addr) : Prop := ∀ b off, ao = some ⟨b, off, none⟩ → base ≤ b ∧ b < top

/-- A posting's value: its cells. -/
def postCells (row len : Int) (ao : Option Addr) (n cap : Nat) : List Value := [.int .i64 row, .int .i64 len, .slice ao n cap]

set_option maxHeartbeats 400000 in
theorem one18_full (row len : Int) (ao : Option Addr) (n cap : Nat) (xs : List Int) (w : World) (hx : xs.length = n) (hn : n ≤ 1000000) (hc : CellsAt w ao (ints xs)) :
    Calls Try.prog 11 #[.agg #[.int .i64 row, .int .i64 len, .slice ao n cap]] w fun e w' => ∃ ao' cap', e = .returned (.agg #[.int .i64 row, .int .i64 len, .slice ao' n cap']) ∧ CellsAt w' ao' (ints xs) ∧ Ext w w' ∧ HighAt w.heap.size w'.heap.size ao' := by
  obtain ⟨W1, hW1⟩ : ∃ W1, W1 = (w.alloc (.cells #[.int .i64 row, .int .i64 len, .slice ao n cap] 24)).alloc (.cells #[.int .i64 0, .int .i64 0, .slice none 0 0] 27) := ⟨_, rfl⟩
  have hE : Ext w W1 := by rw [hW1]; exact (by repeat (first | (with_reducible exact Below.refl _ _) | (with_reducible assumption) | (with_reducible refine bdrewN ?_ _) | (with_reducible refine Below.drew ?_) | (with_reducible refine Below.alloc ?_ (by simp) _) | (with_reducible refine Below.setCell ?_ (by simp) _)))
  have hs : W1.heap.size = w.heap.size + 2 := by rw [hW1]; simp
  have hc1 := hc.ext hE
  have c0 : W1.cell? ⟨w.heap.size, 0, none⟩ = some (.int .i64 row) := by rw [hW1]; go_simp
  have c1 : W1.cell? ⟨w.heap.size, 1, none⟩ = some (.int .i64 len) := by rw [hW1]; go_simp
  have c2 : W1.cell? ⟨w.heap.size, 2, none⟩ = some (.slice ao n cap) := by rw [hW1]; go_simp
  have d0 : W1.cell? ⟨w.heap.size + 1, 0, none⟩ = some (.int .i64 0) := by rw [hW1]; go_simp
  have d1 : W1.cell? ⟨w.heap.size + 1, 1, none⟩ = some (.int .i64 0) := by rw [hW1]; go_simp
  have d2 : W1.cell? ⟨w.heap.size + 1, 2, none⟩ = some (.slice none 0 0) := by rw [hW1]; go_simp
  have f0 : ∀ o, W1.frozen? ⟨w.heap.size + 1, o, none⟩ = false := fun o => by rw [hW1]; go_simp
  have F : ∀ W3, ((W1.alloc (.cells #[] 3)).drew).grownBy W3 (some (w.heap.size + 2)) →
      (W3.cell? ⟨w.heap.size, 0, none⟩ = some (.int .i64 row) ∧ W3.cell? ⟨w.heap.size, 1, none⟩ = some (.int .i64 len) ∧ W3.cell? ⟨w.heap.size, 2, none⟩ = some (.slice ao n cap)) ∧
      W3.cell? ⟨w.heap.size + 1, 0, none⟩ = some (.int .i64 0) ∧ W3.cell? ⟨w.heap.size + 1, 1, none⟩ = some (.int .i64 0) ∧ W3.cell? ⟨w.heap.size + 1, 2, none⟩ = some (.slice none 0 0) ∧
      (∀ o, W3.frozen? ⟨w.heap.size + 1, o, none⟩ = false) ∧ Ext w W3 := fun W3 hg => by
    have A : ∀ b o, b < w.heap.size + 2 → W3.cell? ⟨b, o, none⟩ = W1.cell? ⟨b, o, none⟩ := fun b o hb => by
      rw [World.cell?_of_block (hg.block b (by simp; omega) (by simp; omega))]
      exact World.cell?_alloc_lt _ _ _ (by show b < _; omega)
    refine ⟨⟨(A _ _ (by omega)).trans c0, (A _ _ (by omega)).trans c1, (A _ _ (by omega)).trans c2⟩, (A _ _ (by omega)).trans d0, (A _ _ (by omega)).trans d1, (A _ _ (by omega)).trans d2, fun o => ?_, ?_⟩
    · rw [World.frozen?_of_block (hg.block (w.heap.size + 1) (by simp; omega) (by simp))]
      exact (World.frozen?_alloc_old _ _ _ (by simp; omega)).trans (f0 o)
    · exact ((hE.alloc (by omega) _).drew).grown hg (by simp; omega) (by simp)
  have hOwn : ((W1.alloc (.cells #[] 3)).drew).ownsRow (w.heap.size + 2) 3 1 (.slice (some ⟨w.heap.size + 2, 0, none⟩) 0 0) 0 [] := by
    have := (World.ownsRow_made (base := w.heap.size + 2) (e := 3) (size := 1) W1 #[] 0 (by omega) (by simp [maxLen]) rfl).drew
    rwa [hs] at this
  have hSrc := (hc1.alloc (.cells #[] 3)).drew
  have hLen : (ints xs).length = n * 1 := by simp [ints, hx]
  have hOne : ∀ u ∈ ints xs, u.oneCell' = true := by intro u hu; simp [ints] at hu; obtain ⟨a, _, rfl⟩ := hu; rfl
  have hB1 : 0 + n ≤ maxLen := by unfold maxLen; omega
  have hB2 : (0 + n) * 8 ≤ 140737488355328 := by omega
  have hB3 : w.heap.size + 2 ≤ ((W1.alloc (.cells #[] 3)).drew).heap.size := by simp; omega
  have HL := Lib.hid hLen
  have HF := Lib.hid F
  clear c0 c1 c2 d0 d1 d2 f0 hLen F hc hx hs
  subst hW1
  go_enter Try.func11, Try.ntmps11
  go_wp2_with fail
  go_region_held3 (fun w' => w'.cell? ⟨w.heap.size, 0, none⟩ = some (.int .i64 row) ∧ w'.cell? ⟨w.heap.size, 1, none⟩ = some (.int .i64 len) ∧ w'.cell? ⟨w.heap.size, 2, none⟩ = some (.slice ao n cap)) (first | go_keep | exact (HF.out _ (Owns.grown (by assumption))).1) (first | (refine step_append_cells rfl (.tmp 7) (.tmp 9) rfl Try.underlying22 infoInt rfl Nat.one_pos rfl hOwn ao n cap (ints xs) rfl HL.out hSrc hOne hB1 hB2 hB3 ?_; intro v' W3 hown hgr; obtain ⟨_, j0, j1, j2, j3, j4⟩ := HF.out _ hgr.grown; simp only [Nat.zero_add, List.nil_append] at hown; obtain ⟨ao', cap', rfl, hcell, hbase⟩ := owns_form hown) | fail)
  go_wp2
  refine bodyPost_ret (v := .agg #[.int .i64 row, .int .i64 len, .slice ao' n cap']) ?_ rfl ⟨ao', cap', rfl, ?_, ?_, fun b off h => by have := hbase b off h; simp [World.setCell]; omega⟩
  · simp [results, Try.results11, go_sem, j0, j1, j2]
  · exact ((hcell.setCell _ _ (fun b off h => by have := (hbase b off h).1; simp; omega)).setCell _ _ (fun b off h => by have := (hbase b off h).1; simp; omega)).setCell _ _ (fun b off h => by have := (hbase b off h).1; simp; omega)
  · exact (by repeat (first | (with_reducible exact Below.refl _ _) | (with_reducible assumption) | (with_reducible refine bdrewN ?_ _) | (with_reducible refine Below.drew ?_) | (with_reducible refine Below.alloc ?_ (by simp) _) | (with_reducible refine Below.setCell ?_ (by simp) _)))

theorem one18_any (row len : Int) (ao : Option Addr) (n cap : Nat) (xs : List Int) (w : World) (hx : xs.length = n) (hn : n ≤ 1000000) (hc : CellsAt w ao (ints xs)) :
    Calls Try.prog 11 #[.agg #[.int .i64 row, .int .i64 len, .slice ao n cap]] w fun e w' => ∃ ao' cap', e = .returned (.agg #[.int .i64 row, .int .i64 len, .slice ao' n cap']) ∧ CellsAt w' ao' (ints xs) ∧ Ext w w' :=
  (one18_full row len ao n cap xs w hx hn hc).mono fun _ _ ⟨a, c, h1, h2, h3, _⟩ => ⟨a, c, h1, h2, h3⟩
end Go.Proofs.Ytdlijjmjfepklaa
