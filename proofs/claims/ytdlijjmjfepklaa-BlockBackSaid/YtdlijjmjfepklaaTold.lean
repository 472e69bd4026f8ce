/-
  The walk of layer 18's told: a program's list as the document's.
-/
import Derived.Test.YtdlijjmjfepklaaBackLaw2
namespace Go.Proofs.Ytdlijjmjfepklaa
open Go.RowKit

theorem infoRP : (Try.prog.info? 24).map (fun i => (i.zero, i.size, i.bytes)) = some (some (.agg #[.int .i64 0, .int .i64 0, .slice none 0 0]), 3, 40) := by kernel_rfl

set_option maxRecDepth 100000 in
set_option maxHeartbeats 2000000 in
theorem told_any (ao : Option Addr) (n cap : Nat) (ps : List PV) (w : World) (hx : ps.length = n) (hn : n ≤ 1000000) (hc : PostsAt w ao ps) :
    Calls Try.prog 25 #[.slice ao n cap] w fun e w' => ∃ ao' cap', e = .returned (.slice ao' n cap') ∧ PostsAt w' ao' ps ∧ Ext w w' := by
  have Hx := Lib.hid hx
  clear hx
  go_enter Try.func25, Try.ntmps25
  go_wp2_with fail
  go_loopw [3, 4] (fun o i wr => ∃ (k : Nat), k ≤ n ∧ i = .int .i64 k ∧ wr.ownsRow w.heap.size 24 3 o k (flat3 (ps.take k)) ∧ Ext w wr) (fun _ i _ => n - (intOf i).toNat)
  case atStart => exact ⟨0, Nat.zero_le _, rfl, World.ownsRow_nil _ _ _ _, Below.refl _ _⟩
  case round =>
    obtain ⟨k, hk, rfl, hr, he⟩ := hrel
    by_cases hlt : k < n
    · obtain ⟨p, hp⟩ := get_of_lt Hx.out hlt
      obtain ⟨b, off, rfl, hb, c1', c2', c3'⟩ := hc.cells k p hp
      have c1 := keeps he c1'
      have c2 := keeps he c2'
      have c3 := keeps he c3'
      have hbw : b < wr.heap.size := Nat.lt_of_lt_of_le hb he.size
      have HT := Lib.hid (take_of_get hp)
      have hB := Lib.hid (show k + 1 ≤ maxLen ∧ (k + 1) * 40 ≤ 140737488355328 by unfold maxLen; omega)
      obtain ⟨ao3, cap3, rfl, _, _⟩ := owns_form hr
      have hr1 := (hr.alloc (.cells #[.int .i64 p.row, .int .i64 p.len, .slice p.ao p.ats.length p.cap] 24)).drew
      have hcn : CellsAt (wr.alloc (.cells #[.int .i64 p.row, .int .i64 p.len, .slice p.ao p.ats.length p.cap] 24)).drew (some ⟨wr.heap.size, 0, none⟩) (flat3 [p]) := (cells_new3 (heap_alloc_new _ _)).drew
      have hb3 : w.heap.size ≤ ((wr.alloc (.cells #[.int .i64 p.row, .int .i64 p.len, .slice p.ao p.ats.length p.cap] 24)).drew).heap.size := by have := he.size; simp; omega
      have HK : Hid (∀ (w3 : World) (v3 : Value), Owns ((wr.alloc (.cells #[.int .i64 p.row, .int .i64 p.len, .slice p.ao p.ats.length p.cap] 24)).drew) w3 (.slice ao3 k cap3) v3 → w3.cell? ⟨b, off + k * 3, none⟩ = some (.int .i64 p.row) ∧ w3.cell? ⟨b, off + k * 3 + 1, none⟩ = some (.int .i64 p.len) ∧ w3.cell? ⟨b, off + k * 3 + 2, none⟩ = some (.slice p.ao p.ats.length p.cap)) := fun w3 v3 o3 => by
        have hne : (Value.slice ao3 k cap3).ownBlock ≠ some b := fun e => by have := owns_low hr b e; omega
        have A : ∀ o u, wr.cell? ⟨b, o, none⟩ = some u → w3.cell? ⟨b, o, none⟩ = some u := fun o u h => o3.cell ((World.cell?_alloc_lt _ _ _ hbw).trans h) hne
        exact ⟨A _ _ c1, A _ _ c2, A _ _ c3⟩
      have Hr := Lib.hid hr
      have heE : Hid (Ext w ((wr.alloc (.cells #[.int .i64 p.row, .int .i64 p.len, .slice p.ao p.ats.length p.cap] 24)).drew)) := (Ext.trans' he ((Below.refl _ wr).alloc (Nat.le_refl _) _)).drew
      clear hp c1' c2' c3' hr
      go_wp2_with fail
      go_region_held3 (fun w' => w'.cell? ⟨b, off + k * 3, none⟩ = some (.int .i64 p.row) ∧ w'.cell? ⟨b, off + k * 3 + 1, none⟩ = some (.int .i64 p.len) ∧ w'.cell? ⟨b, off + k * 3 + 2, none⟩ = some (.slice p.ao p.ats.length p.cap)) (first | go_keep | exact HK.out _ _ (by assumption)) (first | (refine step_append_cells rfl (.tmp 11) (.tmp 28) rfl Try.underlying34 infoRP rfl (by omega) rfl hr1 (some ⟨wr.heap.size, 0, none⟩) 1 1 (flat3 [p]) rfl rfl hcn (flat3_one _) hB.out.1 hB.out.2 hb3 ?_; intro v3 w3 hown3 o3) | fail)
      go_wp2_with fail
      go_roundw
      case rel =>
        refine ⟨k + 1, by omega, by go_num, ?_, heE.out.trans (o3.below hb3 fun q hq' => (hr1.lt q hq').1)⟩
        have : flat3 (ps.take (k + 1)) = flat3 (ps.take k) ++ flat3 [p] := by rw [HT.out]; simp [flat3]
        rw [this]; exact hown3
      case measure => simp [intOf]; omega
    · obtain rfl : k = n := by omega
      have ht : ps.take k = ps := List.take_of_length_le (by have := Hx.out; omega)
      rw [ht] at hr
      obtain ⟨ao3, cap3, rfl, hc3, _⟩ := owns_form hr
      have Hc := Lib.hid hc3
      clear ht hc3
      go_wp2_with fail
      go_ret
      exact ⟨ao3, cap3, rfl, posts_of_cells Hc.out (fun p hp => (hc.ext he).inner p hp), he⟩
end Go.Proofs.Ytdlijjmjfepklaa
