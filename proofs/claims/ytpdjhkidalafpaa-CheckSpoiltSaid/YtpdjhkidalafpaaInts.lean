/-
  Blocks of ints, and how they turn.
-/
import Derived.Test.YtpdjhkidalafpaaWrong
import Derived.Deep.OwnRows
namespace Go.Proofs.Ytpdjhkidalafpaa
open Go.RowKit
set_option linter.unusedVariables false
set_option linter.unusedSimpArgs false

/-- The regions that are known ahead of the k-th instruction. -/
def regs (l : List PIns) (k : Nat) : List Int := (List.range l.length).map fun i => if i < k then regAt l i else 0
theorem regs_zero (l : List PIns) : regs l 0 = List.replicate l.length 0 := by
  apply List.ext_getElem?
  intro i
  simp [regs, List.getElem?_replicate]
  by_cases h : i < l.length
  · simp [h, List.getElem?_range]
  · simp [h]
theorem regs_step (l : List PIns) (k : Nat) : (regs l k).set k (regAt l k) = regs l (k + 1) := by
  apply List.ext_getElem?
  intro i
  simp only [regs, List.getElem?_set, List.length_map, List.length_range, List.getElem?_map]
  by_cases h : i < l.length
  · simp only [List.getElem?_range h, Option.map_some]
    by_cases hk : k = i
    · subst hk; simp [h]
    · rw [if_neg hk]
      congr 1
      by_cases h2 : i < k
      · rw [if_pos h2, if_pos (by omega)]
      · rw [if_neg h2, if_neg (by omega)]
  · have : (List.range l.length)[i]? = none := by simp; omega
    rw [this]
    by_cases hk : k = i
    · subst hk; simp [h]
    · rw [if_neg hk]; rfl
theorem regs_full (l : List PIns) : regs l l.length = regionsP l := by
  unfold regs regionsP
  apply List.map_congr_left
  intro i hi
  rw [if_pos (by simpa using hi)]
theorem regs_len (l : List PIns) (k : Nat) : (regs l k).length = l.length := by simp [regs]
theorem regionsP_len (l : List PIns) : (regionsP l).length = l.length := by simp [regionsP]
theorem regionsP_at {l : List PIns} {k : Nat} (h : k < l.length) : (regionsP l)[k]? = some (regAt l k) := by
  simp [regionsP, h, List.getElem?_range]
end Go.Proofs.Ytpdjhkidalafpaa
