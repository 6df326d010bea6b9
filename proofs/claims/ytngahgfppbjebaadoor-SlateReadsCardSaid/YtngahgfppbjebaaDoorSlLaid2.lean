/-
  The listed table of powers, as each law's row gives it.
-/
import Derived.Test.YtngahgfppbjebaaDoorSlLaid
namespace Go.Proofs.YtngahgfppbjebaaDoor
open Go.RowKit
set_option linter.unusedVariables false
set_option linter.unusedSimpArgs false

theorem pow10_slateReads {W : World} (h : laidMetH Tryd.prog Rows.slateReadsRow.laid W) : Pow10 W := by
  rw [MakeChecks.laidMetH_plain _ _ _ (by kernel_rfl)] at h
  exact pow10_at h
theorem pow10_slatePlays {W : World} (h : laidMetH Tryd.prog Rows.slatePlaysRow.laid W) : Pow10 W := by
  rw [MakeChecks.laidMetH_plain _ _ _ (by kernel_rfl)] at h
  exact pow10_at h
theorem pow10_slateBack {W : World} (h : laidMetH Tryd.prog Rows.slateBackRow.laid W) : Pow10 W := by
  rw [MakeChecks.laidMetH_plain _ _ _ (by kernel_rfl)] at h
  exact pow10_at h
theorem pow10_slateCopies {W : World} (h : laidMetH Tryd.prog Rows.slateCopiesRow.laid W) : Pow10 W := by
  rw [MakeChecks.laidMetH_plain _ _ _ (by kernel_rfl)] at h
  exact pow10_at h
end Go.Proofs.YtngahgfppbjebaaDoor
