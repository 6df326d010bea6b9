/-
  Plain: the last place at which a text stands in a list of names, counted one by one. No program in sight.
-/
import Derived.Test.YtngahgfppbjebaaDoorNameFacts
namespace Go.Proofs.YtngahgfppbjebaaDoor
set_option linter.unusedVariables false
set_option linter.unusedSimpArgs false

/-- The last place, of 1 to k, at which s stands; 0: none. -/
def lastOf (l : List ByteArray) (s : ByteArray) : Nat → Int
  | 0 => 0
  | k + 1 => if l.getD (k + 1) ⟨#[]⟩ = s then ((k + 1 : Nat) : Int) else lastOf l s k
def someOf (l : List ByteArray) (s : ByteArray) : Nat → Bool
  | 0 => false
  | k + 1 => if l.getD (k + 1) ⟨#[]⟩ = s then true else someOf l s k
theorem lastOf_range (l : List ByteArray) (s : ByteArray) (k : Nat) : 0 ≤ lastOf l s k ∧ lastOf l s k ≤ k := by
  induction k with
  | zero => exact ⟨Int.le_refl _, Int.le_refl _⟩
  | succ k ih =>
    unfold lastOf
    split
    · omega
    · omega
theorem idx_spec (s : ByteArray) (l : List ByteArray) (k : Nat) : (idx s l k = -1 ∧ ∀ x ∈ l, s ≠ x) ∨ ∃ j, j < l.length ∧ idx s l k = ((k + j : Nat) : Int) ∧ l.getD j ⟨#[]⟩ = s := by
  induction l generalizing k with
  | nil => exact .inl ⟨rfl, fun x h => by simp at h⟩
  | cons x r ih =>
    unfold idx
    by_cases h : s = x
    · rw [if_pos h]
      exact .inr ⟨0, by simp, rfl, by simp [h]⟩
    · rw [if_neg h]
      rcases ih (k + 1) with ⟨h1, h2⟩ | ⟨j, h1, h2, h3⟩
      · refine .inl ⟨h1, fun y hy => ?_⟩
        rcases List.mem_cons.1 hy with rfl | hy
        · exact h
        · exact h2 y hy
      · exact .inr ⟨j + 1, by simp; omega, by rw [h2]; congr 1; omega, by simpa using h3⟩
theorem fold_is {l : List ByteArray} {m : Nat} (hok : namesOk l = true) (hl : l.length = m + 1) (s : ByteArray) (k : Nat) (hk : k ≤ m) :
    (lastOf l s k = 0 ∧ someOf l s k = false ∧ ∀ j, 1 ≤ j → j ≤ k → l.getD j ⟨#[]⟩ ≠ s) ∨ (∃ j : Nat, 1 ≤ j ∧ j ≤ k ∧ l.getD j ⟨#[]⟩ = s ∧ lastOf l s k = (j : Int) ∧ someOf l s k = true) := by
  induction k with
  | zero => exact .inl ⟨rfl, rfl, fun j h1 h2 => by omega⟩
  | succ k ih =>
    by_cases h : l.getD (k + 1) ⟨#[]⟩ = s
    · exact .inr ⟨k + 1, by omega, by omega, h, if_pos h, if_pos h⟩
    · have e1 : lastOf l s (k + 1) = lastOf l s k := if_neg h
      have e2 : someOf l s (k + 1) = someOf l s k := if_neg h
      rw [e1, e2]
      rcases ih (by omega) with ⟨h1, h2, h3⟩ | ⟨j, h1, h2, h3, h4, h5⟩
      · refine .inl ⟨h1, h2, fun j h4 h5 => ?_⟩
        by_cases hj : j = k + 1
        · subst hj; exact h
        · exact h3 j h4 (by omega)
      · exact .inr ⟨j, h1, by omega, h3, h4, h5⟩
theorem fold_num {l : List ByteArray} {m : Nat} (hok : namesOk l = true) (hl : l.length = m + 1) (h0 : l.getD 0 ⟨#[]⟩ = ⟨#[]⟩) (s : ByteArray) : lastOf l s m = numOf l s ∧ someOf l s m = isOf l s := by
  rcases fold_is hok hl s m (Nat.le_refl _) with ⟨h1, h2, h3⟩ | ⟨j, h1, h2, h3, h4, h5⟩
  · rw [h1, h2]
    have : idx s l 0 < 1 := by
      rcases idx_spec s l 0 with ⟨hx, _⟩ | ⟨j, hj, hx, hs⟩
      · rw [hx]; decide
      · rw [hx]
        rcases Nat.eq_zero_or_pos j with hz | hz
        · subst hz; decide
        · exact absurd hs (h3 j hz (by omega))
    exact ⟨by simp [numOf, this], by simp [isOf]; omega⟩
  · have := (names_at hok h1 (by omega)).1
    rw [h3] at this
    rw [h4, h5]
    exact ⟨by simp [numOf, this]; omega, by simp [isOf, this]; omega⟩
end Go.Proofs.YtngahgfppbjebaaDoor
