/-
  Contracts of package check: which instructions begin and end parts; the stack of what is open.
-/
import Derived.Test.YtpdjhkidalafpaaRows0
import Derived.WalkSmall
import Derived.Outline
namespace Go.Proofs.Ytpdjhkidalafpaa
open Go.RowKit
set_option linter.unusedVariables false
set_option linter.unusedSimpArgs false

theorem begins_any (n : Int) (w : World) : Calls Try.prog 46 #[.int .i64 n] w fun e w' => e = .returned (.bool (beginsB n)) ∧ w = w' := by
  rcases (by omega : n = 14 ∨ n ≠ 14) with h | h
  · subst h
    go_enter Try.func46, Try.ntmps46
    go_wp2
    go_ret
    exact ⟨rfl, rfl⟩
  · have d : (n == 14) = false := by simpa using h
    rcases (by omega : n = 17 ∨ n ≠ 17) with h2 | h2
    · subst h2
      go_enter Try.func46, Try.ntmps46
      go_wp2
      go_ret
      exact ⟨rfl, rfl⟩
    · have d2 : (n == 17) = false := by simpa using h2
      rw [show beginsB n = false by simp [beginsB, h, h2]]
      go_enter Try.func46, Try.ntmps46
      go_wp2
      go_ret
      exact ⟨rfl, rfl⟩

theorem ends_any (n : Int) (w : World) : Calls Try.prog 39 #[.int .i64 n] w fun e w' => e = .returned (.int .i64 (endsI n)) ∧ w = w' := by
  rcases (by omega : n = 15 ∨ n = 18 ∨ n = 19 ∨ (n ≠ 15 ∧ n ≠ 18 ∧ n ≠ 19)) with rfl | rfl | rfl | ⟨h1, h2, h3⟩
  · rw [show endsI 15 = 14 by decide]
    go_enter Try.func39, Try.ntmps39
    go_wp2
    go_ret
    exact ⟨rfl, rfl⟩
  · rw [show endsI 18 = 17 by decide]
    go_enter Try.func39, Try.ntmps39
    go_wp2
    go_ret
    exact ⟨rfl, rfl⟩
  · rw [show endsI 19 = 18 by decide]
    go_enter Try.func39, Try.ntmps39
    go_wp2
    go_ret
    exact ⟨rfl, rfl⟩
  · rw [show endsI n = 0 by simp [endsI, h1, h2, h3]]
    have d1 : (n == 15) = false := by simpa using h1
    have d2 : (n == 18) = false := by simpa using h2
    have d3 : (n == 19) = false := by simpa using h3
    go_enter Try.func39, Try.ntmps39
    go_wp2
    go_ret
    exact ⟨rfl, rfl⟩

theorem inmost_any (base : Nat) (v : Value) (st : List Int) (w : World) (h : Stack w base v st) (hl : st.length ≤ 1000) :
    Calls Try.prog 36 #[v] w fun e w' => e = .returned (.int .i64 (topP st)) ∧ w = w' := by
  cases st with
  | nil =>
    rw [show topP [] = -1 from rfl]
    rcases h.form with ⟨_, rfl⟩ | ⟨g, cap, hv, _, _, _, hc⟩
    · go_enter Try.func36, Try.ntmps36
      go_wp2
      go_ret
      exact ⟨rfl, rfl⟩
    · rw [hv]
      clear h hv
      simp only [List.length_nil]
      go_enter Try.func36, Try.ntmps36
      go_wp2
      go_ret
      exact ⟨rfl, rfl⟩
  | cons x r =>
    rw [show topP (x :: r) = x from rfl]
    rcases h.form with ⟨h0, _⟩ | ⟨g, cap, hv, _, _, _, hc⟩
    · cases h0
    · subst hv
      have hc := h.top rfl
      simp only [List.length_cons] at hl ⊢
      clear h
      generalize r.length = m at *
      have hd : ((m : Int) + 1 == 0) = false := by simp; omega
      go_enter Try.func36, Try.ntmps36
      go_wp2
      go_ret
      exact ⟨rfl, rfl⟩
end Go.Proofs.Ytpdjhkidalafpaa
