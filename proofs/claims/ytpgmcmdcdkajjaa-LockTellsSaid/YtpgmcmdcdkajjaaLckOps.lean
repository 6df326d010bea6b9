/-
  Contracts of Free, Take, Drop and Fits, the program's and the reference's.
-/
import Derived.Test.YtpgmcmdcdkajjaaLckBytes
import Derived.BigQuiet
namespace Go.Proofs.Ytpgmcmdcdkajjaa
open Go.RowKit

def freeB (n : Int) : Bool := decide (n < 4611686018427387904)
def freeV (n : Int) : Int := if n < 4611686018427387904 then n else 0
def takeB (v : Int) (h : Bool) (o a : Int) : Bool := isB v h o && !h && ownsB a
def takeV (v : Int) (h : Bool) (o a : Int) : Int := if takeB v h o a then v else 0
def takeO (v : Int) (h : Bool) (o a : Int) : Int := if takeB v h o a then a else 0
def dropC (v : Int) (h : Bool) (o n : Int) : Bool := isB v h o && h && decide (v ≤ n)
def fitsB (v : Int) (h : Bool) (o n : Int) : Bool := isB v h o && !h && decide (v ≤ n)

theorem free_any (n : Int) (w : World) :
    Calls Try.prog 20 #[.int .u64 n] w fun e w' => e = .returned (.tuple #[.agg #[.int .u64 (freeV n), .bool false, .int .i64 0], .bool (freeB n)]) ∧ w' = w.alloc (.cells #[.int .u64 (freeV n), .bool false, .int .i64 0] 49) := by
  by_cases h : n < 4611686018427387904
  · rw [show freeV n = n by simp [freeV, h], show freeB n = true by simp [freeB, h]]
    go_enter Try.func20, Try.ntmps20
    go_wp2
    exact bodyPost_ret (by simp [results, Try.results20, go_sem]; try rfl) rfl ⟨rfl, rfl⟩
  · rw [show freeV n = 0 by simp [freeV]; omega, show freeB n = false by simp [freeB]; omega]
    go_enter Try.func20, Try.ntmps20
    go_wp2
    exact bodyPost_ret (by simp [results, Try.results20, go_sem]; try rfl) rfl ⟨rfl, rfl⟩

theorem ref_free_any (n : Int) (w : World) :
    Calls Try.prog 26 #[.int .u64 n] w fun e w' => e = .returned (.tuple #[.agg #[.int .u64 (freeV n), .bool false, .int .i64 0], .bool (freeB n)]) ∧ w' = w.alloc (.cells #[.int .u64 (freeV n), .bool false, .int .i64 0] 49) := by
  by_cases h : n < 4611686018427387904
  · rw [show freeV n = n by simp [freeV, h], show freeB n = true by simp [freeB, h]]
    go_enter Try.func26, Try.ntmps26
    go_wp2
    exact bodyPost_ret (by simp [results, Try.results26, go_sem]; try rfl) rfl ⟨rfl, rfl⟩
  · rw [show freeV n = 0 by simp [freeV]; omega, show freeB n = false by simp [freeB]; omega]
    go_enter Try.func26, Try.ntmps26
    go_wp2
    exact bodyPost_ret (by simp [results, Try.results26, go_sem]; try rfl) rfl ⟨rfl, rfl⟩

/-- The world behind a Take. -/
def takeW (w : World) (v : Int) (h : Bool) (o a : Int) : World :=
  ((w.alloc (.cells #[.int .u64 v, .bool h, .int .i64 o] 49)).alloc (.cells #[.int .u64 (takeV v h o a), .bool (takeB v h o a), .int .i64 (takeO v h o a)] 49)).alloc (.cells #[.int .u64 v, .bool h, .int .i64 o] 49)

theorem take_any (v o a : Int) (h : Bool) (w : World) :
    Calls Try.prog 21 #[.agg #[.int .u64 v, .bool h, .int .i64 o], .int .i64 a] w fun e w' =>
      e = .returned (.tuple #[.agg #[.int .u64 (takeV v h o a), .bool (takeB v h o a), .int .i64 (takeO v h o a)], .bool (takeB v h o a)]) ∧ w' = takeW w v h o a := by
  unfold takeW
  by_cases hi : isB v h o = true
  · cases h
    · by_cases ha : ownsB a = true
      · have hb : takeB v false o a = true := by simp [takeB, hi, ha]
        rw [show takeV v false o a = v by simp [takeV, hb], show takeO v false o a = a by simp [takeO, hb], hb]
        clear hb
        go_enter Try.func21, Try.ntmps21
        go_wp2_with (first | (go_at_call 25; refine (is_any _ _ _ _).mono ?_; rintro e w1 ⟨rfl, rfl⟩) | (go_at_call 36; refine (owns_any _ _).mono ?_; rintro e w1 ⟨rfl, rfl⟩))
        exact bodyPost_ret (by simp [results, Try.results21, go_sem]; try rfl) rfl ⟨rfl, rfl⟩
      · have ha' : ownsB a = false := by simpa using ha
        have hb : takeB v false o a = false := by simp [takeB, ha']
        rw [show takeV v false o a = 0 by simp [takeV, hb], show takeO v false o a = 0 by simp [takeO, hb], hb]
        clear hb ha
        go_enter Try.func21, Try.ntmps21
        go_wp2_with (first | (go_at_call 25; refine (is_any _ _ _ _).mono ?_; rintro e w1 ⟨rfl, rfl⟩) | (go_at_call 36; refine (owns_any _ _).mono ?_; rintro e w1 ⟨rfl, rfl⟩))
        exact bodyPost_ret (by simp [results, Try.results21, go_sem]; try rfl) rfl ⟨rfl, rfl⟩
    · have hb : takeB v true o a = false := by simp [takeB]
      rw [show takeV v true o a = 0 by simp [takeV, hb], show takeO v true o a = 0 by simp [takeO, hb], hb]
      clear hb
      go_enter Try.func21, Try.ntmps21
      go_wp2_with (first | (go_at_call 25; refine (is_any _ _ _ _).mono ?_; rintro e w1 ⟨rfl, rfl⟩) | (go_at_call 36; refine (owns_any _ _).mono ?_; rintro e w1 ⟨rfl, rfl⟩))
      exact bodyPost_ret (by simp [results, Try.results21, go_sem]; try rfl) rfl ⟨rfl, rfl⟩
  · have hi' : isB v h o = false := by simpa using hi
    have hb : takeB v h o a = false := by simp [takeB, hi']
    rw [show takeV v h o a = 0 by simp [takeV, hb], show takeO v h o a = 0 by simp [takeO, hb], hb]
    clear hb hi
    go_enter Try.func21, Try.ntmps21
    go_wp2_with (first | (go_at_call 25; refine (is_any _ _ _ _).mono ?_; rintro e w1 ⟨rfl, rfl⟩) | (go_at_call 36; refine (owns_any _ _).mono ?_; rintro e w1 ⟨rfl, rfl⟩))
    exact bodyPost_ret (by simp [results, Try.results21, go_sem]; try rfl) rfl ⟨rfl, rfl⟩

theorem ref_take_any (v o a : Int) (h : Bool) (w : World) :
    Calls Try.prog 27 #[.agg #[.int .u64 v, .bool h, .int .i64 o], .int .i64 a] w fun e w' =>
      e = .returned (.tuple #[.agg #[.int .u64 (takeV v h o a), .bool (takeB v h o a), .int .i64 (takeO v h o a)], .bool (takeB v h o a)]) ∧ w' = takeW w v h o a := by
  unfold takeW
  by_cases hi : isB v h o = true
  · cases h
    · by_cases ha : ownsB a = true
      · have hb : takeB v false o a = true := by simp [takeB, hi, ha]
        rw [show takeV v false o a = v by simp [takeV, hb], show takeO v false o a = a by simp [takeO, hb], hb]
        clear hb
        obtain ⟨a0, a1⟩ : 0 ≤ a ∧ a < 4 := by simpa [ownsB] using ha
        go_enter Try.func27, Try.ntmps27
        go_wp2_with (go_at_call 31; refine (ref_is_any _ _ _ _).mono ?_; rintro e w1 ⟨rfl, rfl⟩)
        exact bodyPost_ret (by simp [results, Try.results27, go_sem]; try rfl) rfl ⟨rfl, rfl⟩
      · have ha' : ownsB a = false := by simpa using ha
        have hb : takeB v false o a = false := by simp [takeB, ha']
        rw [show takeV v false o a = 0 by simp [takeV, hb], show takeO v false o a = 0 by simp [takeO, hb], hb]
        clear hb ha
        have ha2 : ¬ (0 ≤ a ∧ a < 4) := by simpa [ownsB] using ha'
        rcases (by omega : a < 0 ∨ 0 ≤ a ∧ 4 ≤ a) with hlo | ⟨hlo, hhi⟩
        all_goals
          clear ha2
          go_enter Try.func27, Try.ntmps27
          go_wp2_with (go_at_call 31; refine (ref_is_any _ _ _ _).mono ?_; rintro e w1 ⟨rfl, rfl⟩)
          exact bodyPost_ret (by simp [results, Try.results27, go_sem]; try rfl) rfl ⟨rfl, rfl⟩
    · have hb : takeB v true o a = false := by simp [takeB]
      rw [show takeV v true o a = 0 by simp [takeV, hb], show takeO v true o a = 0 by simp [takeO, hb], hb]
      clear hb
      go_enter Try.func27, Try.ntmps27
      go_wp2_with (go_at_call 31; refine (ref_is_any _ _ _ _).mono ?_; rintro e w1 ⟨rfl, rfl⟩)
      exact bodyPost_ret (by simp [results, Try.results27, go_sem]; try rfl) rfl ⟨rfl, rfl⟩
  · have hi' : isB v h o = false := by simpa using hi
    have hb : takeB v h o a = false := by simp [takeB, hi']
    rw [show takeV v h o a = 0 by simp [takeV, hb], show takeO v h o a = 0 by simp [takeO, hb], hb]
    clear hb hi
    go_enter Try.func27, Try.ntmps27
    go_wp2_with (go_at_call 31; refine (ref_is_any _ _ _ _).mono ?_; rintro e w1 ⟨rfl, rfl⟩)
    exact bodyPost_ret (by simp [results, Try.results27, go_sem]; try rfl) rfl ⟨rfl, rfl⟩
end Go.Proofs.Ytpgmcmdcdkajjaa
