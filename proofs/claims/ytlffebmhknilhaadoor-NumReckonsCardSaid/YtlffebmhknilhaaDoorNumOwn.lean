/-
  What the rows of layer 3 list: the table of powers, in the world in which the law is called.
-/
import Derived.Test.YtlffebmhknilhaaDoorPrint
import Derived.Test.YtlffebmhknilhaaDoorFrame
import Derived.Lib.LaidTab
import Derived.LaidMore
import Derived.Lay
import Derived.SevenTiedAt
import Derived.Stop.Joined
namespace Go.Proofs.YtlffebmhknilhaaDoor
open Go.ChangeShapes Go.WideShapes Go.ChangeAt Go.RowKit

theorem gPow : Tryd.prog.globalNamed "internal/strconv.uint64pow10" = some 2 := by kernel_rfl
theorem gPowType : (Tryd.prog.globals[2]?).map (·.type) = some 94 := by kernel_rfl
theorem cellsA20 : Tryd.prog.cellsOf 94 = 20 := by kernel_rfl
theorem cellsU64 : Tryd.prog.cellsOf 44 = 1 := by kernel_rfl

/-- What the list gives: the table's cells hold the powers of ten, and go on to. -/
theorem tabs_of {W : World} (h : laidMetH Tryd.prog Rows.numShiftsRow.laid W) : Tabs W := by
  rw [MakeChecks.laidMetH_plain _ _ _ (by kernel_rfl)] at h
  obtain ⟨ps, ⟨_, _, _, _, _, _, _, _, _, _, ⟨_, _, _, _, _, _, _, _, _, _, ⟨g', t', cs, fuel, p, q, hg', ht', hvar, hd, _, _⟩, _⟩, _⟩, _⟩ := h
  obtain rfl := Option.some.inj (gPow.symm.trans hg')
  obtain rfl := Option.some.inj (gPowType.symm.trans ht')
  have hT : Lib.TabIs Tryd.prog W "internal/strconv.uint64pow10" .u64 Lib.pow10Tab := by
    unfold Lib.TabIs
    have hd2 : DataW.trod (fun _ => ()) Tryd.prog W 0 (fun _ => true) false fuel 94 cs.toList = some (Lib.tabData .u64 Lib.pow10Tab, p) := hd
    rw [hvar, ← Lib.cells_of_tab Tryd.underlying94 Tryd.underlying44 cellsU64 cellsA20 hd2]
  intro w' hb
  exact Lib.tabBelow_of_tabIs hT w' hb
end Go.Proofs.YtlffebmhknilhaaDoor
