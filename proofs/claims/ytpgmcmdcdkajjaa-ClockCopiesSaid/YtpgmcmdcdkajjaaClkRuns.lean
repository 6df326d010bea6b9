/-
  Chapter 4's closed run: the Go text answers true.
-/
import Derived.Test.YtpgmcmdcdkajjaaClk
namespace Go.Proofs.Ytpgmcmdcdkajjaa
open Go.RowKit

theorem clk_runs (w : World) : Calls Try.prog 3 #[] w fun e w' => e = .returned (.bool true) ∧ Below w.heap.size w w' := by
  go_enter Try.func3, Try.ntmps3
  go_wp2
  go_ret
  refine ⟨rfl, ?_⟩
  exact ((Below.refl _ _).alloc (Nat.le_refl _) _).alloc (by simp) _
end Go.Proofs.Ytpgmcmdcdkajjaa
