/-
  The listed tables, as each law's row gives them.
-/
import Derived.Test.YtngahgfppbjebaaDoorTxRuns
import Derived.Test.YtngahgfppbjebaaDoorRows
import Derived.Stop.LaidErr
import Derived.Stop.Joined
import Derived.Lib.LaidTab
import Derived.Lib.LaidU8
import Derived.PinnedBridge
import Derived.MakeChecks
namespace Go.Proofs.YtngahgfppbjebaaDoor
open Go.RowKit Go.Lib
set_option linter.unusedVariables false
set_option linter.unusedSimpArgs false

theorem pow10Type : (Tryd.prog.globals[4]?).map (·.type) = some 203 := by kernel_rfl
theorem cellsPow : Tryd.prog.cellsOf 203 = 20 := by kernel_rfl
theorem cellsU64 : Tryd.prog.cellsOf 25 = 1 := by kernel_rfl
theorem pow10_data : (Rows.laid_internal_strconv_uint64pow10 : DataW Unit) = Lib.tabData .u64 Lib.pow10Tab := by kernel_rfl
theorem accept_data : (Rows.laid_unicode_utf8_acceptRanges : DataW Unit) = acceptData := by kernel_rfl
theorem first_data : Rows.laid_unicode_utf8_first = firstData := Pinned.utf8First_eq
theorem u8Extra : U8Extra Tryd.prog Tryd.lays260_ren := by
  refine ⟨?_, ?_, ?_, ?_, ?_, ?_, ?_⟩ <;> kernel_rfl
theorem tabs_at {W : World} {a b : String × DataW Unit} {rest : List (String × DataW Unit)} (h : laidMet Tryd.prog (a :: b :: ("internal/strconv.uint64pow10", Rows.laid_internal_strconv_uint64pow10) :: rest) W)
    (ha : ("unicode/utf8.acceptRanges", Rows.laid_unicode_utf8_acceptRanges) ∈ rest) (hf : ("unicode/utf8.first", Rows.laid_unicode_utf8_first) ∈ rest) : Tabs W := by
  have h2 := laidMet.tail (laidMet.tail h)
  have h3 := laidMet.reads h2 (List.mem_cons_of_mem _ hf)
  have h4 := laidMet.reads h2 (List.mem_cons_of_mem _ ha)
  rw [first_data] at h3
  rw [accept_data] at h4
  rw [pow10_data] at h2
  exact ⟨Lib.tabIs_of_head pow10_named pow10Type Tryd.underlying203 Tryd.underlying25 cellsU64 cellsPow h2, utf8Tabs_of_reads Tryd.lays260 u8Extra h3 h4⟩
theorem tabs_textRuns {W : World} (h : laidMetH Tryd.prog Rows.textRunsRow.laid W) : Tabs W := by
  rw [MakeChecks.laidMetH_plain _ _ _ (by kernel_rfl)] at h
  exact tabs_at h (by simp) (by simp)
theorem tabs_textBack {W : World} (h : laidMetH Tryd.prog Rows.textBackRow.laid W) : Tabs W := by
  rw [MakeChecks.laidMetH_plain _ _ _ (by kernel_rfl)] at h
  exact tabs_at h (by simp) (by simp)
theorem tabs_textLoose {W : World} (h : laidMetH Tryd.prog Rows.textLooseRow.laid W) : Tabs W := by
  rw [MakeChecks.laidMetH_plain _ _ _ (by kernel_rfl)] at h
  exact tabs_at h (by simp) (by simp)
theorem tabs_textPlaces {W : World} (h : laidMetH Tryd.prog Rows.textPlacesRow.laid W) : Tabs W := by
  rw [MakeChecks.laidMetH_plain _ _ _ (by kernel_rfl)] at h
  exact tabs_at h (by simp) (by simp)
theorem text_runs_w (W : World) (h : Tabs W) : Calls Tryd.prog 8 #[] W fun e w' => e = .returned (.bool true) ∧ Below W.heap.size W w' :=
  (text_runs W h).mono fun e w' ⟨h1, h2⟩ => ⟨h1, h2.new⟩
end Go.Proofs.YtngahgfppbjebaaDoor
