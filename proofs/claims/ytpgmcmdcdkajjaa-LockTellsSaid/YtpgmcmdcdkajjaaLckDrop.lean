/-
  Contracts of Drop and Fits, the program's and the reference's.
-/
import Derived.Test.YtpgmcmdcdkajjaaLckRead
namespace Go.Proofs.Ytpgmcmdcdkajjaa
open Go.RowKit

def dropB (v : Int) (h : Bool) (o n : Int) : Bool := dropC v h o n && freeB n
def dropV (v : Int) (h : Bool) (o n : Int) : Int := if dropC v h o n then freeV n else 0

/-- The world behind a Drop that comes to Free; behind one that does not, and behind the reference's. -/
def dropW4 (w : World) (v : Int) (h : Bool) (o n : Int) : World :=
  (((w.alloc (.cells #[.int .u64 v, .bool h, .int .i64 o] 49)).alloc (.cells #[.int .u64 (dropV v h o n), .bool false, .int .i64 0] 49)).alloc (.cells #[.int .u64 v, .bool h, .int .i64 o] 49)).alloc (.cells #[.int .u64 (dropV v h o n), .bool false, .int .i64 0] 49)
def dropW3 (w : World) (v : Int) (h : Bool) (o n : Int) : World :=
  ((w.alloc (.cells #[.int .u64 v, .bool h, .int .i64 o] 49)).alloc (.cells #[.int .u64 (dropV v h o n), .bool false, .int .i64 0] 49)).alloc (.cells #[.int .u64 v, .bool h, .int .i64 o] 49)

theorem dropC_yes {v o n : Int} {h : Bool} (hc : dropC v h o n = true) : isB v h o = true ∧ h = true ∧ v ≤ n := by
  cases h
  · simp [dropC] at hc
  · simpa [dropC] using hc

theorem drop_yes (v o n : Int) (h : Bool) (w : World) (hc : dropC v h o n = true) :
    Calls Try.prog 22 #[.agg #[.int .u64 v, .bool h, .int .i64 o], .int .u64 n] w fun e w' =>
      e = .returned (.tuple #[.agg #[.int .u64 (dropV v h o n), .bool false, .int .i64 0], .bool (dropB v h o n)]) ∧ w' = dropW4 w v h o n := by
  unfold dropW4
  rw [show dropB v h o n = freeB n by simp [dropB, hc], show dropV v h o n = freeV n by simp [dropV, hc]]
  obtain ⟨hi, rfl, hv⟩ := dropC_yes hc
  clear hc
  go_enter Try.func22, Try.ntmps22
  go_wp2_with (first | (go_at_call 25; refine (is_any _ _ _ _).mono ?_; rintro e w1 ⟨rfl, rfl⟩) | (go_at_call 20; refine (free_any _ _).mono ?_; rintro e w1 ⟨rfl, rfl⟩))
  exact bodyPost_ret (by simp [results, Try.results22, go_sem]; try rfl) rfl ⟨rfl, rfl⟩

theorem drop_no (v o n : Int) (h : Bool) (w : World) (hc : dropC v h o n = false) :
    Calls Try.prog 22 #[.agg #[.int .u64 v, .bool h, .int .i64 o], .int .u64 n] w fun e w' =>
      e = .returned (.tuple #[.agg #[.int .u64 (dropV v h o n), .bool false, .int .i64 0], .bool (dropB v h o n)]) ∧ w' = dropW3 w v h o n := by
  unfold dropW3
  rw [show dropB v h o n = false by simp [dropB, hc], show dropV v h o n = 0 by simp [dropV, hc]]
  rcases (by cases isB v h o <;> simp : isB v h o = true ∨ isB v h o = false) with hi | hi
  · cases h
    · clear hc
      go_enter Try.func22, Try.ntmps22
      go_wp2_with (go_at_call 25; refine (is_any _ _ _ _).mono ?_; rintro e w1 ⟨rfl, rfl⟩)
      exact bodyPost_ret (by simp [results, Try.results22, go_sem]; try rfl) rfl ⟨rfl, rfl⟩
    · have hlt : n < v := by
        have : ¬ v ≤ n := fun h9 => by simp [dropC, hi, h9] at hc
        omega
      clear hc
      go_enter Try.func22, Try.ntmps22
      go_wp2_with (go_at_call 25; refine (is_any _ _ _ _).mono ?_; rintro e w1 ⟨rfl, rfl⟩)
      exact bodyPost_ret (by simp [results, Try.results22, go_sem]; try rfl) rfl ⟨rfl, rfl⟩
  · clear hc
    go_enter Try.func22, Try.ntmps22
    go_wp2_with (go_at_call 25; refine (is_any _ _ _ _).mono ?_; rintro e w1 ⟨rfl, rfl⟩)
    exact bodyPost_ret (by simp [results, Try.results22, go_sem]; try rfl) rfl ⟨rfl, rfl⟩

theorem ref_drop_no (v o n : Int) (h : Bool) (w : World) (hc : dropC v h o n = false) :
    Calls Try.prog 28 #[.agg #[.int .u64 v, .bool h, .int .i64 o], .int .u64 n] w fun e w' =>
      e = .returned (.tuple #[.agg #[.int .u64 (dropV v h o n), .bool false, .int .i64 0], .bool (dropB v h o n)]) ∧ w' = dropW3 w v h o n := by
  unfold dropW3
  rw [show dropB v h o n = false by simp [dropB, hc], show dropV v h o n = 0 by simp [dropV, hc]]
  rcases (by cases isB v h o <;> simp : isB v h o = true ∨ isB v h o = false) with hi | hi
  · cases h
    · clear hc
      go_enter Try.func28, Try.ntmps28
      go_wp2_with (go_at_call 31; refine (ref_is_any _ _ _ _).mono ?_; rintro e w1 ⟨rfl, rfl⟩)
      exact bodyPost_ret (by simp [results, Try.results28, go_sem]; try rfl) rfl ⟨rfl, rfl⟩
    · have hlt : n < v := by
        have : ¬ v ≤ n := fun h9 => by simp [dropC, hi, h9] at hc
        omega
      clear hc
      go_enter Try.func28, Try.ntmps28
      go_wp2_with (go_at_call 31; refine (ref_is_any _ _ _ _).mono ?_; rintro e w1 ⟨rfl, rfl⟩)
      exact bodyPost_ret (by simp [results, Try.results28, go_sem]; try rfl) rfl ⟨rfl, rfl⟩
  · clear hc
    go_enter Try.func28, Try.ntmps28
    go_wp2_with (go_at_call 31; refine (ref_is_any _ _ _ _).mono ?_; rintro e w1 ⟨rfl, rfl⟩)
    exact bodyPost_ret (by simp [results, Try.results28, go_sem]; try rfl) rfl ⟨rfl, rfl⟩

theorem ref_drop_any (v o n : Int) (h : Bool) (w : World) :
    Calls Try.prog 28 #[.agg #[.int .u64 v, .bool h, .int .i64 o], .int .u64 n] w fun e w' =>
      e = .returned (.tuple #[.agg #[.int .u64 (dropV v h o n), .bool false, .int .i64 0], .bool (dropB v h o n)]) ∧ w' = dropW3 w v h o n := by
  rcases (by cases dropC v h o n <;> simp : dropC v h o n = true ∨ dropC v h o n = false) with hc | hc
  · unfold dropW3
    rw [show dropB v h o n = freeB n by simp [dropB, hc], show dropV v h o n = freeV n by simp [dropV, hc]]
    obtain ⟨hi, rfl, hv⟩ := dropC_yes hc
    clear hc
    by_cases hn : n < 4611686018427387904
    · rw [show freeV n = n by simp [freeV, hn], show freeB n = true by simp [freeB, hn]]
      go_enter Try.func28, Try.ntmps28
      go_wp2_with (go_at_call 31; refine (ref_is_any _ _ _ _).mono ?_; rintro e w1 ⟨rfl, rfl⟩)
      exact bodyPost_ret (by simp [results, Try.results28, go_sem]; try rfl) rfl ⟨rfl, rfl⟩
    · rw [show freeV n = 0 by simp [freeV]; omega, show freeB n = false by simp [freeB]; omega]
      go_enter Try.func28, Try.ntmps28
      go_wp2_with (go_at_call 31; refine (ref_is_any _ _ _ _).mono ?_; rintro e w1 ⟨rfl, rfl⟩)
      exact bodyPost_ret (by simp [results, Try.results28, go_sem]; try rfl) rfl ⟨rfl, rfl⟩
  · exact ref_drop_no v o n h w hc

theorem fits_any (v o n : Int) (h : Bool) (w : World) :
    Calls Try.prog 24 #[.agg #[.int .u64 v, .bool h, .int .i64 o], .int .u64 n] w fun e w' =>
      e = .returned (.bool (fitsB v h o n)) ∧ w' = (w.alloc (.cells #[.int .u64 v, .bool h, .int .i64 o] 49)).alloc (.cells #[.int .u64 v, .bool h, .int .i64 o] 49) := by
  rcases (by cases isB v h o <;> simp : isB v h o = true ∨ isB v h o = false) with hi | hi
  · cases h
    · by_cases hv : v ≤ n
      · rw [show fitsB v false o n = true by simp [fitsB, hi, hv]]
        have hd : decide (v ≤ n) = true := by simpa using hv
        go_enter Try.func24, Try.ntmps24
        go_wp2_with (go_at_call 25; refine (is_any _ _ _ _).mono ?_; rintro e w1 ⟨rfl, rfl⟩)
        go_ret
        exact ⟨rfl, rfl⟩
      · rw [show fitsB v false o n = false by simp [fitsB]; omega]
        have hd : decide (v ≤ n) = false := by simpa using hv
        go_enter Try.func24, Try.ntmps24
        go_wp2_with (go_at_call 25; refine (is_any _ _ _ _).mono ?_; rintro e w1 ⟨rfl, rfl⟩)
        go_ret
        exact ⟨rfl, rfl⟩
    · rw [show fitsB v true o n = false by simp [fitsB]]
      go_enter Try.func24, Try.ntmps24
      go_wp2_with (go_at_call 25; refine (is_any _ _ _ _).mono ?_; rintro e w1 ⟨rfl, rfl⟩)
      go_ret
      exact ⟨rfl, rfl⟩
  · rw [show fitsB v h o n = false by simp [fitsB, hi]]
    go_enter Try.func24, Try.ntmps24
    go_wp2_with (go_at_call 25; refine (is_any _ _ _ _).mono ?_; rintro e w1 ⟨rfl, rfl⟩)
    go_ret
    exact ⟨rfl, rfl⟩

theorem ref_fits_any (v o n : Int) (h : Bool) (w : World) :
    Calls Try.prog 32 #[.agg #[.int .u64 v, .bool h, .int .i64 o], .int .u64 n] w fun e w' =>
      e = .returned (.bool (fitsB v h o n)) ∧ w' = (w.alloc (.cells #[.int .u64 v, .bool h, .int .i64 o] 49)).alloc (.cells #[.int .u64 v, .bool h, .int .i64 o] 49) := by
  rcases (by cases isB v h o <;> simp : isB v h o = true ∨ isB v h o = false) with hi | hi
  · cases h
    · by_cases hv : v ≤ n
      · rw [show fitsB v false o n = true by simp [fitsB, hi, hv]]
        have hd : decide (v ≤ n) = true := by simpa using hv
        go_enter Try.func32, Try.ntmps32
        go_wp2_with (go_at_call 31; refine (ref_is_any _ _ _ _).mono ?_; rintro e w1 ⟨rfl, rfl⟩)
        go_ret
        exact ⟨rfl, rfl⟩
      · rw [show fitsB v false o n = false by simp [fitsB]; omega]
        have hd : decide (v ≤ n) = false := by simpa using hv
        go_enter Try.func32, Try.ntmps32
        go_wp2_with (go_at_call 31; refine (ref_is_any _ _ _ _).mono ?_; rintro e w1 ⟨rfl, rfl⟩)
        go_ret
        exact ⟨rfl, rfl⟩
    · rw [show fitsB v true o n = false by simp [fitsB]]
      go_enter Try.func32, Try.ntmps32
      go_wp2_with (go_at_call 31; refine (ref_is_any _ _ _ _).mono ?_; rintro e w1 ⟨rfl, rfl⟩)
      go_ret
      exact ⟨rfl, rfl⟩
  · rw [show fitsB v h o n = false by simp [fitsB, hi]]
    go_enter Try.func32, Try.ntmps32
    go_wp2_with (go_at_call 31; refine (ref_is_any _ _ _ _).mono ?_; rintro e w1 ⟨rfl, rfl⟩)
    go_ret
    exact ⟨rfl, rfl⟩

end Go.Proofs.Ytpgmcmdcdkajjaa

