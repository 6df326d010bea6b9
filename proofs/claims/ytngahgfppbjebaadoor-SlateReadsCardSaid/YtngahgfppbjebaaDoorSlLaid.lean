/-
  The listed table of powers, as the rows give it.
-/
import Derived.Test.YtngahgfppbjebaaDoorSlFmt
import Derived.Test.YtngahgfppbjebaaDoorRows
import Derived.Stop.LaidErr
import Derived.Stop.Joined
import Derived.Lib.LaidTab
import Derived.MakeChecks
namespace Go.Proofs.YtngahgfppbjebaaDoor
open Go.RowKit
set_option linter.unusedVariables false
set_option linter.unusedSimpArgs false

theorem pow10Type : (Tryd.prog.globals[4]?).map (·.type) = some 203 := by kernel_rfl
theorem cellsPow : Tryd.prog.cellsOf 203 = 20 := by kernel_rfl
theorem cellsU64 : Tryd.prog.cellsOf 25 = 1 := by kernel_rfl
theorem pow10_data : (Rows.laid_internal_strconv_uint64pow10 : DataW Unit) = Lib.tabData .u64 Lib.pow10Tab := by kernel_rfl
theorem pow10_at {W : World} {a b : String × DataW Unit} {rest : List (String × DataW Unit)} (h : laidMet Tryd.prog (a :: b :: ("internal/strconv.uint64pow10", Rows.laid_internal_strconv_uint64pow10) :: rest) W) : Pow10 W := by
  have h2 := laidMet.tail (laidMet.tail h)
  rw [pow10_data] at h2
  exact Lib.tabIs_of_head pow10_named pow10Type Tryd.underlying203 Tryd.underlying25 cellsU64 cellsPow h2
theorem pow10_atH {W : World} (h : laidMetH Tryd.prog Rows.slateRunsRow.laid W) : Pow10 W := by
  rw [MakeChecks.laidMetH_plain _ _ _ (by kernel_rfl)] at h
  exact pow10_at h
end Go.Proofs.YtngahgfppbjebaaDoor
