/-
  The listed tables, as the rows of the laws that read the reference's names give them.
-/
import Derived.Test.YtngahgfppbjebaaDoorTxLaid
import Derived.Test.YtngahgfppbjebaaDoorTxRefA
import Derived.Test.YtngahgfppbjebaaDoorStrTab
namespace Go.Proofs.YtngahgfppbjebaaDoor
open Go.RowKit Go.Lib
set_option linter.unusedVariables false
set_option linter.unusedSimpArgs false

theorem gNames : Tryd.prog.globalNamed "quietus/quietusref13.names" = some 0 := by kernel_rfl
theorem gNamesType : (Tryd.prog.globals[0]?).map (·.type) = some 188 := by kernel_rfl
theorem cellsNames : Tryd.prog.cellsOf 188 = 12 := by kernel_rfl
theorem cellsString : Tryd.prog.cellsOf 9 = 1 := by kernel_rfl
theorem names_data : (Rows.laid_quietus_quietusref13_names : DataW Unit) = strData callList.tail := by kernel_rfl
theorem tab_at {W : World} {a b c : String × DataW Unit} {rest : List (String × DataW Unit)} (h : laidMet Tryd.prog (a :: b :: c :: ("quietus/quietusref13.names", Rows.laid_quietus_quietusref13_names) :: rest) W) : TabAt W := by
  have h2 := laidMet.tail (laidMet.tail (laidMet.tail h))
  rw [names_data] at h2
  intro k hk
  have := strs_of_head gNames gNamesType Tryd.underlying188 Tryd.underlying9 cellsString cellsNames h2 k hk
  rw [this]
  rfl
theorem tabs_textPrints {W : World} (h : laidMetH Tryd.prog Rows.textPrintsRow.laid W) : Tabs W ∧ TabAt W := by
  rw [MakeChecks.laidMetH_plain _ _ _ (by kernel_rfl)] at h
  exact ⟨tabs_at h (by simp) (by simp), tab_at h⟩
theorem tabs_textTells {W : World} (h : laidMetH Tryd.prog Rows.textTellsRow.laid W) : Tabs W ∧ TabAt W := by
  rw [MakeChecks.laidMetH_plain _ _ _ (by kernel_rfl)] at h
  exact ⟨tabs_at h (by simp) (by simp), tab_at h⟩
theorem tabs_textNear {W : World} (h : laidMetH Tryd.prog Rows.textNearRow.laid W) : Tabs W ∧ TabAt W := by
  rw [MakeChecks.laidMetH_plain _ _ _ (by kernel_rfl)] at h
  exact ⟨tabs_at h (by simp) (by simp), tab_at h⟩
end Go.Proofs.YtngahgfppbjebaaDoor
