/-
  What the rows of layer 5 list: the tables of powers and of UTF-8, in the world in which the law is called.
-/
import Derived.Test.YtphlggmhgfcmgaaGreatDoorFrame
import Derived.Test.YtphlggmhgfcmgaaGreatDoorB5
import Derived.Lib.LaidTab
import Derived.LaidMore
import Derived.Lay
import Derived.SevenTiedAt
import Derived.Stop.Joined
namespace Go.Proofs.YtphlggmhgfcmgaaGreatDoor
open Go.ChangeShapes Go.WideShapes Go.ChangeAt Go.RowKit Go.TL
set_option maxRecDepth 100000

theorem gPow : Tryz.prog.globalNamed "internal/strconv.uint64pow10" = some 3 := by kernel_rfl
theorem gPowType : (Tryz.prog.globals[3]?).map (·.type) = some 153 := by kernel_rfl
theorem cellsA20 : Tryz.prog.cellsOf 153 = 20 := by kernel_rfl
theorem cellsU64 : Tryz.prog.cellsOf 75 = 1 := by kernel_rfl
theorem tabs_of {W : World} (h : laidMetH Tryz.prog Rows.orderReadsRow.laid W) : Tabs W := by
  rw [MakeChecks.laidMetH_plain _ _ _ (by kernel_rfl)] at h
  obtain ⟨g', t', cs, fuel, p, hg', ht', hvar, hd⟩ := Lib.laidMet.reads h (.tail _ (.tail _ (.head _)))
  obtain rfl := Option.some.inj (gPow.symm.trans hg')
  obtain rfl := Option.some.inj (gPowType.symm.trans ht')
  have hT : Lib.TabIs Tryz.prog W "internal/strconv.uint64pow10" .u64 Lib.pow10Tab := by
    unfold Lib.TabIs
    have hd2 : DataW.trod (fun _ => ()) Tryz.prog W 0 (fun _ => true) false fuel 153 cs.toList = some (Lib.tabData .u64 Lib.pow10Tab, p) := hd
    rw [hvar, ← Lib.cells_of_tab Tryz.underlying153 Tryz.underlying75 cellsU64 cellsA20 hd2]
  intro w' hb
  exact Lib.tabBelow_of_tabIs hT w' hb
theorem u8_of {W : World} (h : laidMetH Tryz.prog Rows.orderReadsRow.laid W) : GU8 (.of W) := by
  rw [MakeChecks.laidMetH_plain _ _ _ (by kernel_rfl)] at h
  have hT : Lib.Utf8Tabs (Tryz.laysValid_ren.g 3) (Tryz.laysValid_ren.g 4) W :=
    utf8Tabs_of_readsT (U8Types.of196 Tryz.laysValid) ⟨by kernel_rfl, by kernel_rfl, by kernel_rfl, by kernel_rfl, by kernel_rfl, by kernel_rfl, by kernel_rfl⟩ (Lib.laidMet.reads h (.tail _ (.tail _ (.tail _ (.tail _ (.head _)))))) (Lib.laidMet.reads h (.tail _ (.tail _ (.tail _ (.head _)))))
  intro L w hs
  exact Utf8Tabs_below hT (hs.forget (L' := []) (List.nil_sublist L)).below
end Go.Proofs.YtphlggmhgfcmgaaGreatDoor
