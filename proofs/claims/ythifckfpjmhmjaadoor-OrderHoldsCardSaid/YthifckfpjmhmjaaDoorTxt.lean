/-
  Texts as lists of bytes.
-/
import Derived.Test.YthifckfpjmhmjaaDoorNumForm
import Derived.Test.YthifckfpjmhmjaaDoorKit
import Derived.Test.YthifckfpjmhmjaaDoorShelf
namespace Go.Proofs.YthifckfpjmhmjaaDoor
open Go.RowKit

/-- A text's bytes. -/
abbrev txt (l : List UInt8) : ByteArray := ⟨l.toArray⟩
theorem txt_size (l : List UInt8) : (txt l).size = l.length := by simp [txt, ByteArray.size]
theorem txt_get (l : List UInt8) (i : Nat) (h : i < (txt l).size) : (txt l)[i]'h = l[i]'(by rw [← txt_size]; exact h) := by
  simp [txt, ByteArray.getElem_eq_getElem_data]
theorem trimR_lib (s : List UInt8) : Lib.trimRightB s 48 = trimR s := by
  unfold Lib.trimRightB trimR
  rfl
end Go.Proofs.YthifckfpjmhmjaaDoor
