/-
  Contracts of the lock's functions, and of the reference's.
-/
import Derived.Test.YtpgmcmdcdkajjaaFrames
import Derived.Test.YtpgmcmdcdkajjaaProg
import Derived.WalkSpells
import Derived.WalkLawsBesides
namespace Go.Proofs.Ytpgmcmdcdkajjaa
open Go.RowKit

/-- May a thread have that number? -/
def ownsB (o : Int) : Bool := decide (0 ≤ o ∧ o < 4)
/-- May a lock be? -/
def isB (v : Int) (h : Bool) (o : Int) : Bool := decide (v < 4611686018427387904) && (if h then ownsB o else decide (o = 0))
/-- A lock's cells. -/
def lk (v : Int) (h : Bool) (o : Int) : Array Value := #[.int .u64 v, .bool h, .int .i64 o]

theorem owns_any (o : Int) (w : World) : Calls Try.prog 36 #[.int .i64 o] w fun e w' => e = .returned (.bool (ownsB o)) ∧ w = w' := by
  by_cases h0 : 0 ≤ o
  · by_cases h4 : o < 4
    · rw [show ownsB o = true by simp [ownsB, h0, h4]]
      go_enter Try.func36, Try.ntmps36
      go_wp2
      go_ret
      exact ⟨rfl, rfl⟩
    · rw [show ownsB o = false by simp [ownsB]; omega]
      go_enter Try.func36, Try.ntmps36
      go_wp2
      go_ret
      exact ⟨rfl, rfl⟩
  · rw [show ownsB o = false by simp [ownsB]; omega]
    go_enter Try.func36, Try.ntmps36
    go_wp2
    go_ret
    exact ⟨rfl, rfl⟩

theorem is_any (v : Int) (h : Bool) (o : Int) (w : World) :
    Calls Try.prog 25 #[.agg #[.int .u64 v, .bool h, .int .i64 o]] w fun e w' => e = .returned (.bool (isB v h o)) ∧ w' = w.alloc (.cells #[.int .u64 v, .bool h, .int .i64 o] 49) := by
  by_cases hv : v < 4611686018427387904
  · cases h
    · by_cases ho : o = 0
      · subst ho
        rw [show isB v false 0 = true by simp [isB, hv]]
        go_enter Try.func25, Try.ntmps25
        go_wp2
        go_ret
        exact ⟨rfl, rfl⟩
      · rw [show isB v false o = false by simp [isB, ho]]
        have hq : (o == 0) = false := by simpa using ho
        go_enter Try.func25, Try.ntmps25
        go_wp2
        go_ret
        exact ⟨rfl, rfl⟩
    · rw [show isB v true o = ownsB o by simp [isB, hv]]
      go_enter Try.func25, Try.ntmps25
      go_wp2_with (go_at_call 36; refine (owns_any _ _).mono ?_; rintro e w1 ⟨rfl, rfl⟩)
      go_ret
      exact ⟨rfl, rfl⟩
  · have hr : isB v h o = false := by simp [isB]; omega
    rw [hr]
    clear hr
    cases h
    all_goals
      go_enter Try.func25, Try.ntmps25
      go_wp2
      go_ret
      exact ⟨rfl, rfl⟩

theorem ref_is_any (v : Int) (h : Bool) (o : Int) (w : World) :
    Calls Try.prog 31 #[.agg #[.int .u64 v, .bool h, .int .i64 o]] w fun e w' => e = .returned (.bool (isB v h o)) ∧ w' = w.alloc (.cells #[.int .u64 v, .bool h, .int .i64 o] 49) := by
  by_cases hv : v < 4611686018427387904
  · cases h
    · by_cases ho : o = 0
      · subst ho
        rw [show isB v false 0 = true by simp [isB, hv]]
        go_enter Try.func31, Try.ntmps31
        go_wp2
        go_ret
        exact ⟨rfl, rfl⟩
      · rw [show isB v false o = false by simp [isB, ho]]
        have hq : (o == 0) = false := by simpa using ho
        go_enter Try.func31, Try.ntmps31
        go_wp2
        go_ret
        exact ⟨rfl, rfl⟩
    · by_cases h0 : 0 ≤ o
      · by_cases h4 : o < 4
        · rw [show isB v true o = true by simp [isB, hv, ownsB, h0, h4]]
          go_enter Try.func31, Try.ntmps31
          go_wp2
          go_ret
          exact ⟨rfl, rfl⟩
        · rw [show isB v true o = false by simp [isB, ownsB]; omega]
          go_enter Try.func31, Try.ntmps31
          go_wp2
          go_ret
          exact ⟨rfl, rfl⟩
      · rw [show isB v true o = false by simp [isB, ownsB]; omega]
        go_enter Try.func31, Try.ntmps31
        go_wp2
        go_ret
        exact ⟨rfl, rfl⟩
  · have hr : isB v h o = false := by simp [isB]; omega
    rw [hr]
    clear hr
    cases h
    all_goals
      go_enter Try.func31, Try.ntmps31
      go_wp2
      go_ret
      exact ⟨rfl, rfl⟩
end Go.Proofs.Ytpgmcmdcdkajjaa
