/-
  The listed variable of names, as the row gives it.
-/
import Derived.Test.YtpdjhkidalafpaaDoorTells
import Derived.Test.YtpdjhkidalafpaaDoorStrTab
import Derived.Stop.Joined
namespace Go.Proofs.YtpdjhkidalafpaaDoor
open Go.RowKit
set_option linter.unusedVariables false
set_option linter.unusedSimpArgs false

theorem gNames : Tryd.prog.globalNamed "quietus/quietusref13.names" = some 0 := by kernel_rfl
theorem gNamesType : (Tryd.prog.globals[0]?).map (·.type) = some 38 := by kernel_rfl
theorem cellsNames : Tryd.prog.cellsOf 38 = 12 := by kernel_rfl
theorem cellsString : Tryd.prog.cellsOf 9 = 1 := by kernel_rfl
theorem tab_at {W : World} {rest : List (String × DataW Unit)} (h : laidMet Tryd.prog (("quietus/quietusref13.names", strData callList.tail) :: rest) W) : TabAt W := by
  intro k hk
  have := strs_of_head gNames gNamesType Tryd.underlying38 Tryd.underlying9 cellsString cellsNames h k hk
  rw [this]
  rfl
theorem tab_atH {W : World} (h : laidMetH Tryd.prog [("quietus/quietusref13.names", Rows.laid_quietus_quietusref13_names)] W) : TabAt W := by
  rw [MakeChecks.laidMetH_plain _ _ _ (by kernel_rfl)] at h
  exact tab_at (rest := []) h
end Go.Proofs.YtpdjhkidalafpaaDoor
