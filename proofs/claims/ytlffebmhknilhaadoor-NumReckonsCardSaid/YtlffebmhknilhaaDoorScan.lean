/-
  The walk of num.Scan.
-/
import Derived.Test.YtlffebmhknilhaaDoorCut
namespace Go.Proofs.YtlffebmhknilhaaDoor
open Go.RowKit

set_option maxRecDepth 100000 in
set_option maxHeartbeats 4000000 in
theorem scan_any (S : ByteArray) (l : List UInt8) (w : World) (hl : S.data.toList = l) (hS : S.size ≤ 4611686018427387904) :
    Calls Tryd.prog 11 #[.string S] w fun e w' => e = .returned (.int .i64 (scanL l : Nat)) ∧ Ext w w' := by
  have HCUT := Lib.hid (cut_any S l w hl hS)
  clear hl
  go_enter Tryd.func11, Tryd.ntmps11
  go_wp2_with fail
  refine HCUT.out.mono ?_
  rintro e w1 ⟨E1, h⟩
  rcases h with ⟨p, c1, c2, c3, h1, _, _, _, rfl⟩ | ⟨h1, M, rfl⟩
  · have Hv : Hid (scanL l = p.size) := by show scanL l = p.size; rw [scanL, h1]
    clear h1
    go_wp2_with fail
    go_ret
    exact ⟨by rw [Hv.out] <;> rfl, E1.trans ((Below.refl _ _).alloc E1.size _)⟩
  · have Hv : Hid (scanL l = 0) := by show scanL l = 0; rw [scanL, h1]
    clear h1
    go_wp2_with fail
    go_ret
    exact ⟨by rw [Hv.out] <;> rfl, E1.trans ((Below.refl _ _).alloc E1.size _)⟩
end Go.Proofs.YtlffebmhknilhaaDoor
