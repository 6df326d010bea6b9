/-
  What the cards of the slate's laws lean on: the walks, the laid table.
-/
import Derived.Test.YtngahgfppbjebaaDoorSlRuns
import Derived.Test.YtngahgfppbjebaaDoorSlLaid
namespace Go.Proofs.YtngahgfppbjebaaDoor
open Go.RowKit
set_option linter.unusedVariables false
set_option linter.unusedSimpArgs false
theorem slate_runs_w (W : World) (h : Pow10 W) : Calls Tryd.prog 3 #[] W fun e W' => e = .returned (.bool true) ∧ Below W.heap.size W W' :=
  (slate_runs W h).mono fun _ _ ⟨h1, h2⟩ => ⟨h1, h2.new⟩
end Go.Proofs.YtngahgfppbjebaaDoor
