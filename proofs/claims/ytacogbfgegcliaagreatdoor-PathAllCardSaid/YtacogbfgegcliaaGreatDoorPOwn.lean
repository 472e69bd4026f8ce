/-
  What the rows of layer 6 list: the tables of powers and of UTF-8, the two errors of numbers, in the world in which the law is called.
-/
import Derived.Test.YtacogbfgegcliaaGreatDoorFrame
import Derived.Test.YtacogbfgegcliaaGreatDoorPItem
import Derived.Stop.LaidErr
import Derived.Test.YtacogbfgegcliaaGreatDoorOOpen
import Derived.Lib.LaidTab
import Derived.LaidMore
import Derived.Lay
import Derived.SevenTiedAt
import Derived.Stop.Joined
namespace Go.Proofs.YtacogbfgegcliaaGreatDoor
open Go.ChangeShapes Go.WideShapes Go.ChangeAt Go.RowKit Go.TL
set_option maxRecDepth 100000

theorem gPow : Tryz.prog.globalNamed "internal/strconv.uint64pow10" = some 3 := by kernel_rfl
theorem gPowType : (Tryz.prog.globals[3]?).map (·.type) = some 212 := by kernel_rfl
theorem cellsA20 : Tryz.prog.cellsOf 212 = 20 := by kernel_rfl
theorem cellsU64 : Tryz.prog.cellsOf 44 = 1 := by kernel_rfl
theorem tabs_of {W : World} (h : laidMetH Tryz.prog Rows.pathStepsRow.laid W) : Tabs W := by
  rw [MakeChecks.laidMetH_plain _ _ _ (by kernel_rfl)] at h
  obtain ⟨g', t', cs, fuel, p, hg', ht', hvar, hd⟩ := Lib.laidMet.reads h (.tail _ (.tail _ (.head _)))
  obtain rfl := Option.some.inj (gPow.symm.trans hg')
  obtain rfl := Option.some.inj (gPowType.symm.trans ht')
  have hT : Lib.TabIs Tryz.prog W "internal/strconv.uint64pow10" .u64 Lib.pow10Tab := by
    unfold Lib.TabIs
    have hd2 : DataW.trod (fun _ => ()) Tryz.prog W 0 (fun _ => true) false fuel 212 cs.toList = some (Lib.tabData .u64 Lib.pow10Tab, p) := hd
    rw [hvar, ← Lib.cells_of_tab Tryz.underlying212 Tryz.underlying44 cellsU64 cellsA20 hd2]
  intro w' hb
  exact Lib.tabBelow_of_tabIs hT w' hb
theorem u8_of {W : World} (h : laidMetH Tryz.prog Rows.pathStepsRow.laid W) : GU8 (.of W) := by
  rw [MakeChecks.laidMetH_plain _ _ _ (by kernel_rfl)] at h
  have hT : Lib.Utf8Tabs (Tryz.laysValid_ren.g 3) (Tryz.laysValid_ren.g 4) W :=
    utf8Tabs_of_readsT (U8Types.of196 Tryz.laysValid) ⟨by kernel_rfl, by kernel_rfl, by kernel_rfl, by kernel_rfl, by kernel_rfl, by kernel_rfl, by kernel_rfl⟩ (Lib.laidMet.reads h (.tail _ (.tail _ (.tail _ (.tail _ (.tail _ (.tail _ (.head _)))))))) (Lib.laidMet.reads h (.tail _ (.tail _ (.tail _ (.head _)))))
  intro L w hs
  exact Utf8Tabs_below hT (hs.forget (L' := []) (List.nil_sublist L)).below
theorem gES : Tryz.prog.globalNamed "strconv.ErrSyntax" = some 4 := by kernel_rfl
theorem gESType : (Tryz.prog.globals[4]?).map (·.type) = some 126 := by kernel_rfl
theorem gER : Tryz.prog.globalNamed "strconv.ErrRange" = some 5 := by kernel_rfl
theorem gERType : (Tryz.prog.globals[5]?).map (·.type) = some 126 := by kernel_rfl
theorem cellsEs : Tryz.prog.cellsOf 229 = 1 := by kernel_rfl
theorem rowEp (u : TypeId) (h : Tryz.prog.typeName? 3 u = some "*errors.errorString") : u = 227 :=
  typeName_ptr_named (nm := "errors.errorString") (by rw [show "*" ++ "errors.errorString" = "*errors.errorString" by decide]; kernel_rfl) (by kernel_rfl) (by decide) u (by rw [show "*" ++ "errors.errorString" = "*errors.errorString" by decide]; exact h)
theorem err_of {W : World} (h : laidMetH Tryz.prog Rows.pathStepsRow.laid W) : GErr (.of W) := by
  rw [MakeChecks.laidMetH_plain _ _ _ (by kernel_rfl)] at h
  obtain ⟨a1, s1, hv1, -, -, -⟩ := laid_sentinel h.tail.tail.tail.tail gER gERType Tryz.underlying126 rowEp Tryz.underlying227 Tryz.underlying229 rfl rfl Tryz.underlying9 cellsEs cellsStr5
  obtain ⟨a0, s0, hv0, -, -, -⟩ := laid_sentinel h.tail.tail.tail.tail.tail gES gESType Tryz.underlying126 rowEp Tryz.underlying227 Tryz.underlying229 rfl rfl Tryz.underlying9 cellsEs cellsStr5
  have c0 : (Gh.of W).cell 4 0 = some (.iface 227 (.pointer (some a0))) := of_cell (by have h0 := World.var?_cell gES hv0 0; simpa using h0)
  have c1 : (Gh.of W).cell 5 0 = some (.iface 227 (.pointer (some a1))) := of_cell (by have h0 := World.var?_cell gER hv1 0; simpa using h0)
  exact fun L w hs => ⟨⟨_, _, hs.cell c0⟩, ⟨_, _, hs.cell c1⟩⟩
end Go.Proofs.YtacogbfgegcliaaGreatDoor
