/-
  How a slice of bytes that came in reads.
-/
import Derived.Test.YtngahgfppbjebaaDoorBase
namespace Go.Proofs.YtngahgfppbjebaaDoor
open Go.ChangeShapes Go.WideShapes Go.ChangeAt Go.RowKit Go.Deep
set_option linter.unusedVariables false
set_option linter.unusedSimpArgs false

theorem lt_cell {w : World} {a : Addr} {v : Value} (h : w.cell? a = some v) : a.block < w.heap.size := by
  rcases Nat.lt_or_ge a.block w.heap.size with hlt | hge
  · exact hlt
  · exfalso
    simp [World.cell?, Array.getElem?_eq_none hge] at h
/-- A slice of bytes that came in. -/
def BytesArg (w : World) (A : Option Addr) (len : Nat) : Prop :=
  ∃ zs : List Int, zs.length = len ∧ len ≤ maxLen ∧ (∀ z ∈ zs, 0 ≤ z ∧ z ≤ 255) ∧ (0 < len → ∃ b o, A = some ⟨b, o, none⟩ ∧ b < w.heap.size ∧ ∀ i z, zs[i]? = some z → w.cell? ⟨b, o + i, none⟩ = some (.int .u8 z))

set_option maxRecDepth 100000 in
theorem open_bytes {H : Type} {enc : TypeId × Value → H} {w : World} {v : Value} {d : DataW H} {ps : List MemPlace} {b0 : Nat} (hv : Value.okWide Tryd.prog w .any b0 39 v)
    (h : DataW.Trod enc Tryd.prog w 0 (fun _ => true) true 39 v d ps) : ∃ A len cap, v = .slice A len cap ∧ BytesArg w A len := by
  obtain ⟨A, len, cap, rfl⟩ := okWide_slice Tryd.underlying39 hv
  obtain ⟨fuel, hf⟩ := h
  refine ⟨A, len, cap, rfl, ?_⟩
  rcases open_ints Tryd.underlying39 Tryd.underlying5 (by kernel_rfl) hf with ⟨hcs, _⟩ | ⟨a, l, c, zs, hcs, _, hl, hm, hz, _, hcell, hwz⟩
  · simp [Value.cells] at hcs
    obtain ⟨rfl, rfl, rfl⟩ := hcs
    exact ⟨[], rfl, by simp, fun z hz => by simp at hz, fun h => by omega⟩
  · simp [Value.cells] at hcs
    obtain ⟨rfl, rfl, rfl⟩ := hcs
    have hzl : zs.length = cap := by rw [hz]; simp
    refine ⟨zs.take len, by simp; omega, by omega, fun z hz => ?_, fun hlen => ?_⟩
    · have := bounds_u8 (hwz z (List.mem_of_mem_take hz))
      omega
    · obtain ⟨b, o, s⟩ := a
      have hs : s = none := by
        have c0 := hcell 0 (by omega)
        simpa [Addr.add] using World.cell?_spot c0
      subst hs
      refine ⟨b, o, rfl, ?_, fun i z hi => ?_⟩
      · have c0 := hcell 0 (by omega)
        simpa [Addr.add] using lt_cell c0
      · have hil : i < (zs.take len).length := (List.getElem?_eq_some_iff.1 hi).1
        have hil2 : i < zs.length := by simp at hil; omega
        have ci := hcell i hil2
        have hiv : zs.getD i 0 = z := by
          rw [List.getElem?_take, if_pos (by simp at hil; omega)] at hi
          rw [List.getD_eq_getElem?_getD, hi]
          rfl
        rw [hiv] at ci
        by_cases hz0 : i = 0
        · subst hz0
          simpa [Addr.add] using ci
        · simpa [Addr.add, hz0] using ci
end Go.Proofs.YtngahgfppbjebaaDoor
