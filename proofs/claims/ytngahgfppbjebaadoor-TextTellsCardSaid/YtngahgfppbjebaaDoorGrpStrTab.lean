/-
  The listed tables, as each law's row gives them.
  A listed variable that is an array of strings: its cells.
  The listed tables, as the rows of the laws that read the reference's names give them.
-/
import Derived.Test.YtngahgfppbjebaaDoorGrpTxRuns
import Derived.Test.YtngahgfppbjebaaDoorRows
import Derived.Stop.LaidErr
import Derived.Stop.Joined
import Derived.Lib.LaidTab
import Derived.Lib.LaidU8
import Derived.PinnedBridge
import Derived.MakeChecks
import Derived.Test.YtngahgfppbjebaaDoorBase
import Derived.LaidMore
import Derived.Deep.DeepHandedRow
import Derived.Test.YtngahgfppbjebaaDoorTxRefA
namespace Go.Proofs.YtngahgfppbjebaaDoor
open Go.RowKit Go.Lib
set_option linter.unusedVariables false
set_option linter.unusedSimpArgs false

theorem pow10Type : (Tryd.prog.globals[4]?).map (·.type) = some 203 := by kernel_rfl
theorem cellsPow : Tryd.prog.cellsOf 203 = 20 := by kernel_rfl
theorem cellsU64 : Tryd.prog.cellsOf 25 = 1 := by kernel_rfl
theorem pow10_data : (Rows.laid_internal_strconv_uint64pow10 : DataW Unit) = Lib.tabData .u64 Lib.pow10Tab := by kernel_rfl
theorem accept_data : (Rows.laid_unicode_utf8_acceptRanges : DataW Unit) = acceptData := by kernel_rfl
theorem first_data : Rows.laid_unicode_utf8_first = firstData := Pinned.utf8First_eq
theorem u8Extra : U8Extra Tryd.prog Tryd.lays260_ren := by
  refine ⟨?_, ?_, ?_, ?_, ?_, ?_, ?_⟩ <;> kernel_rfl
theorem tabs_at {W : World} {a b : String × DataW Unit} {rest : List (String × DataW Unit)} (h : laidMet Tryd.prog (a :: b :: ("internal/strconv.uint64pow10", Rows.laid_internal_strconv_uint64pow10) :: rest) W)
    (ha : ("unicode/utf8.acceptRanges", Rows.laid_unicode_utf8_acceptRanges) ∈ rest) (hf : ("unicode/utf8.first", Rows.laid_unicode_utf8_first) ∈ rest) : Tabs W := by
  have h2 := laidMet.tail (laidMet.tail h)
  have h3 := laidMet.reads h2 (List.mem_cons_of_mem _ hf)
  have h4 := laidMet.reads h2 (List.mem_cons_of_mem _ ha)
  rw [first_data] at h3
  rw [accept_data] at h4
  rw [pow10_data] at h2
  exact ⟨Lib.tabIs_of_head pow10_named pow10Type Tryd.underlying203 Tryd.underlying25 cellsU64 cellsPow h2, utf8Tabs_of_reads Tryd.lays260 u8Extra h3 h4⟩
theorem tabs_textRuns {W : World} (h : laidMetH Tryd.prog Rows.textRunsRow.laid W) : Tabs W := by
  rw [MakeChecks.laidMetH_plain _ _ _ (by kernel_rfl)] at h
  exact tabs_at h (by simp) (by simp)
theorem tabs_textBack {W : World} (h : laidMetH Tryd.prog Rows.textBackRow.laid W) : Tabs W := by
  rw [MakeChecks.laidMetH_plain _ _ _ (by kernel_rfl)] at h
  exact tabs_at h (by simp) (by simp)
theorem tabs_textLoose {W : World} (h : laidMetH Tryd.prog Rows.textLooseRow.laid W) : Tabs W := by
  rw [MakeChecks.laidMetH_plain _ _ _ (by kernel_rfl)] at h
  exact tabs_at h (by simp) (by simp)
theorem tabs_textPlaces {W : World} (h : laidMetH Tryd.prog Rows.textPlacesRow.laid W) : Tabs W := by
  rw [MakeChecks.laidMetH_plain _ _ _ (by kernel_rfl)] at h
  exact tabs_at h (by simp) (by simp)
theorem text_runs_w (W : World) (h : Tabs W) : Calls Tryd.prog 8 #[] W fun e w' => e = .returned (.bool true) ∧ Below W.heap.size W w' :=
  (text_runs W h).mono fun e w' ⟨h1, h2⟩ => ⟨h1, h2.new⟩
end Go.Proofs.YtngahgfppbjebaaDoor
namespace Go.Proofs.YtngahgfppbjebaaDoor
open Go.ChangeShapes Go.WideShapes Go.ChangeAt Go.RowKit
set_option linter.unusedVariables false
set_option linter.unusedSimpArgs false

/-- The datum of an array of texts. -/
def strData {H : Type} (l : List ByteArray) : DataW H := .agg (l.map fun s => .lit (.string s.data.toList))
theorem cells_of_strs {H : Type} {enc : TypeId × Value → H} {P : Program} {w : World} {base : Nat} {sp : Nat → Bool} {held : Bool} {fuel n : Nat} {t e : TypeId} {cs : List Value} {l : List ByteArray} {p : List MemPlace}
    (ht : P.underlying t = some (.array n e)) (he : P.underlying e = some .string) (hce : P.cellsOf e = 1) (hct : P.cellsOf t = n) (h : DataW.trod enc P w base sp held fuel t cs = some (strData l, p)) :
    ∀ k, k < l.length → cs[k]? = some (.string (l.getD k ⟨#[]⟩)) := by
  obtain ⟨xs, m, _, hx, hlen, hxl, hel⟩ := DataW.trod_array ht h
  simp only [Prod.mk.injEq] at hx
  have hl : xs.map (·.1) = l.map fun s => (DataW.lit (.string s.data.toList) : DataW H) := by
    have := hx.1
    simp [strData] at this
    exact this.symm
  have hll : xs.length = l.length := by
    have := congrArg List.length hl
    simpa using this
  intro k hk
  have hkn : k < n := by omega
  have h1 := hel k hkn
  rw [hce, Nat.mul_one] at h1
  have hxk : xs[k]? = some (xs[k]'(by omega)) := List.getElem?_eq_getElem (by omega)
  rw [hxk] at h1
  obtain ⟨s, hs, hd, _⟩ := DataW.trod_string he h1
  have hlk : (xs.map (·.1))[k]? = some (xs[k]'(by omega)).1 := by rw [List.getElem?_map, hxk]; rfl
  rw [hl, List.getElem?_map, List.getElem?_eq_getElem hk] at hlk
  simp at hlk
  rw [hd] at hlk
  simp at hlk
  have hse : l[k] = s := WideShapes.bytes_inj (by rw [hlk])
  have hck : k < cs.length := by rw [hlen, hct]; exact hkn
  have hc : (cs.drop k).take 1 = [cs[k]] := by
    rw [List.drop_eq_getElem_cons hck]
    rfl
  rw [hc] at hs
  simp at hs
  rw [List.getElem?_eq_getElem hck, hs, ← hse, List.getD_eq_getElem?_getD, List.getElem?_eq_getElem hk]
  rfl
/-- The head of a list: an array of texts. -/
theorem strs_of_head {P : Program} {W : World} {name : String} {l : List ByteArray} {rest : List (String × DataW Unit)} {g n : Nat} {t e : TypeId} (hg : P.globalNamed name = some g) (ht : (P.globals[g]?).map (·.type) = some t)
    (hu : P.underlying t = some (.array n e)) (he : P.underlying e = some .string) (hce : P.cellsOf e = 1) (hct : P.cellsOf t = n) (h : laidMet P ((name, strData l) :: rest) W) :
    ∀ k, k < l.length → W.cell? ⟨g, k, none⟩ = some (.string (l.getD k ⟨#[]⟩)) := by
  obtain ⟨ps, ⟨g0, t0, cs0, f0, p0, q0, hg0, ht0, hv0, hd0, _, _⟩, _⟩ := h
  obtain rfl := Option.some.inj (hg.symm.trans hg0)
  obtain rfl := Option.some.inj (ht.symm.trans ht0)
  intro k hk
  rw [World.var?_cell hg0 hv0 k]
  have := cells_of_strs hu he hce hct hd0 k hk
  rw [← this]
  simp
end Go.Proofs.YtngahgfppbjebaaDoor
namespace Go.Proofs.YtngahgfppbjebaaDoor
open Go.RowKit Go.Lib
set_option linter.unusedVariables false
set_option linter.unusedSimpArgs false

theorem gNames : Tryd.prog.globalNamed "quietus/quietusref13.names" = some 0 := by kernel_rfl
theorem gNamesType : (Tryd.prog.globals[0]?).map (·.type) = some 188 := by kernel_rfl
theorem cellsNames : Tryd.prog.cellsOf 188 = 12 := by kernel_rfl
theorem cellsString : Tryd.prog.cellsOf 9 = 1 := by kernel_rfl
theorem names_data : (Rows.laid_quietus_quietusref13_names : DataW Unit) = strData callList.tail := by kernel_rfl
theorem tab_at {W : World} {a b c : String × DataW Unit} {rest : List (String × DataW Unit)} (h : laidMet Tryd.prog (a :: b :: c :: ("quietus/quietusref13.names", Rows.laid_quietus_quietusref13_names) :: rest) W) : TabAt W := by
  have h2 := laidMet.tail (laidMet.tail (laidMet.tail h))
  rw [names_data] at h2
  intro k hk
  have := strs_of_head gNames gNamesType Tryd.underlying188 Tryd.underlying9 cellsString cellsNames h2 k hk
  rw [this]
  rfl
theorem tabs_textPrints {W : World} (h : laidMetH Tryd.prog Rows.textPrintsRow.laid W) : Tabs W ∧ TabAt W := by
  rw [MakeChecks.laidMetH_plain _ _ _ (by kernel_rfl)] at h
  exact ⟨tabs_at h (by simp) (by simp), tab_at h⟩
theorem tabs_textTells {W : World} (h : laidMetH Tryd.prog Rows.textTellsRow.laid W) : Tabs W ∧ TabAt W := by
  rw [MakeChecks.laidMetH_plain _ _ _ (by kernel_rfl)] at h
  exact ⟨tabs_at h (by simp) (by simp), tab_at h⟩
theorem tabs_textNear {W : World} (h : laidMetH Tryd.prog Rows.textNearRow.laid W) : Tabs W ∧ TabAt W := by
  rw [MakeChecks.laidMetH_plain _ _ _ (by kernel_rfl)] at h
  exact ⟨tabs_at h (by simp) (by simp), tab_at h⟩
end Go.Proofs.YtngahgfppbjebaaDoor
