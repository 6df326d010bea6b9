/-
  A listed variable that is an array of strings: its cells.
-/
import Derived.Test.YtngahgfppbjebaaDoorBase
import Derived.LaidMore
import Derived.Deep.DeepHandedRow
import Derived.Lib.LaidTab
namespace Go.Proofs.YtngahgfppbjebaaDoor
open Go.ChangeShapes Go.WideShapes Go.ChangeAt Go.RowKit
set_option linter.unusedVariables false
set_option linter.unusedSimpArgs false

/-- The datum of an array of texts. -/
def strData {H : Type} (l : List ByteArray) : DataW H := .agg (l.map fun s => .lit (.string s.data.toList))
theorem cells_of_strs {H : Type} {enc : TypeId × Value → H} {P : Program} {w : World} {base : Nat} {sp : Nat → Bool} {held : Bool} {fuel n : Nat} {t e : TypeId} {cs : List Value} {l : List ByteArray} {p : List MemPlace}
    (ht : P.underlying t = some (.array n e)) (he : P.underlying e = some .string) (hce : P.cellsOf e = 1) (hct : P.cellsOf t = n) (h : DataW.trod enc P w base sp held fuel t cs = some (strData l, p)) :
    ∀ k, k < l.length → cs[k]? = some (.string (l.getD k ⟨#[]⟩)) := by
  obtain ⟨xs, m, _, hx, hlen, hxl, hel⟩ := DataW.trod_array ht h
  simp only [Prod.mk.injEq] at hx
  have hl : xs.map (·.1) = l.map fun s => (DataW.lit (.string s.data.toList) : DataW H) := by
    have := hx.1
    simp [strData] at this
    exact this.symm
  have hll : xs.length = l.length := by
    have := congrArg List.length hl
    simpa using this
  intro k hk
  have hkn : k < n := by omega
  have h1 := hel k hkn
  rw [hce, Nat.mul_one] at h1
  have hxk : xs[k]? = some (xs[k]'(by omega)) := List.getElem?_eq_getElem (by omega)
  rw [hxk] at h1
  obtain ⟨s, hs, hd, _⟩ := DataW.trod_string he h1
  have hlk : (xs.map (·.1))[k]? = some (xs[k]'(by omega)).1 := by rw [List.getElem?_map, hxk]; rfl
  rw [hl, List.getElem?_map, List.getElem?_eq_getElem hk] at hlk
  simp at hlk
  rw [hd] at hlk
  simp at hlk
  have hse : l[k] = s := WideShapes.bytes_inj (by rw [hlk])
  have hck : k < cs.length := by rw [hlen, hct]; exact hkn
  have hc : (cs.drop k).take 1 = [cs[k]] := by
    rw [List.drop_eq_getElem_cons hck]
    rfl
  rw [hc] at hs
  simp at hs
  rw [List.getElem?_eq_getElem hck, hs, ← hse, List.getD_eq_getElem?_getD, List.getElem?_eq_getElem hk]
  rfl
/-- The head of a list: an array of texts. -/
theorem strs_of_head {P : Program} {W : World} {name : String} {l : List ByteArray} {rest : List (String × DataW Unit)} {g n : Nat} {t e : TypeId} (hg : P.globalNamed name = some g) (ht : (P.globals[g]?).map (·.type) = some t)
    (hu : P.underlying t = some (.array n e)) (he : P.underlying e = some .string) (hce : P.cellsOf e = 1) (hct : P.cellsOf t = n) (h : laidMet P ((name, strData l) :: rest) W) :
    ∀ k, k < l.length → W.cell? ⟨g, k, none⟩ = some (.string (l.getD k ⟨#[]⟩)) := by
  obtain ⟨ps, ⟨g0, t0, cs0, f0, p0, q0, hg0, ht0, hv0, hd0, _, _⟩, _⟩ := h
  obtain rfl := Option.some.inj (hg.symm.trans hg0)
  obtain rfl := Option.some.inj (ht.symm.trans ht0)
  intro k hk
  rw [World.var?_cell hg0 hv0 k]
  have := cells_of_strs hu he hce hct hd0 k hk
  rw [← this]
  simp
end Go.Proofs.YtngahgfppbjebaaDoor
