/-
  num.Print, as the walk by lemmas takes it.
-/
import Derived.Test.YthifckfpjmhmjaaDoorPrint
import Derived.Test.YthifckfpjmhmjaaDoorTLmem
namespace Go.Proofs.YthifckfpjmhmjaaDoor
open Go.RowKit Go.TL
set_option maxRecDepth 100000

theorem _root_.Go.TL.Gives.on {P : Program} {f : FuncId} {args : Array Value} {g : Gh} {L : List Ent} {v : Value} (h : ∀ w, St g L w → Calls P f args w fun e w' => e = .returned v ∧ Below w.heap.size w w') : Gives P f args g L v :=
  .mk fun w hs => (h w hs).mono fun _ _ ⟨he, hw⟩ => ⟨he, hs.ext hw⟩
/-- The table is laid wherever this stays. -/
def GTabs (g : Gh) : Prop := ∀ L w, St g L w → Tabs w
theorem gtabs_of {W : World} (h : Tabs W) : GTabs (.of W) := fun L _ hs => h.on (hs.forget (L' := []) (List.nil_sublist L)).below
theorem nPrint_gives (n : Int) {g : Gh} {L : List Ent} (hg : GTabs g) (h0 : -9223372036854775808 ≤ n) (h1 : n ≤ 9223372036854775807) : Gives Tryd.prog 55 #[.int .i64 n] g L (.tuple #[str (printL n).1, .int .i64 (printL n).2]) :=
  .on fun w hs => print_any n w h0 h1 (hg L w hs)
end Go.Proofs.YthifckfpjmhmjaaDoor
