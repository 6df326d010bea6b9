/-
  Contracts of the book: a number brought within bounds.
-/
import Derived.Test.YtngahgfppbjebaaDoorRefMay
import Derived.RowKit
namespace Go.Proofs.YtngahgfppbjebaaDoor
open Go.RowKit
set_option linter.unusedVariables false
set_option linter.unusedSimpArgs false

theorem emod_fix {n d : Int} (hd : 0 < d) : n % d = if n.tmod d < 0 then n.tmod d + d else n.tmod d := by
  have e := Int.emod_eq_tmod (a := n) (b := d)
  have hna : (d.natAbs : Int) = d := Int.natAbs_of_nonneg (by omega)
  by_cases h0 : 0 ≤ n
  · have hp := Int.tmod_nonneg d h0
    rw [if_pos (Or.inl h0)] at e
    rw [if_neg (by omega)]
    omega
  · by_cases hdv : d ∣ n
    · have hz := Int.tmod_eq_zero_of_dvd hdv
      rw [if_pos (Or.inr hdv)] at e
      rw [hz] at e ⊢
      rw [if_neg (by omega)]
      omega
    · rw [if_neg (by simp [h0, hdv]), hna] at e
      have hlt : n.tmod d ≤ 0 := by
        have : 0 ≤ (-n).tmod d := Int.tmod_nonneg d (by omega)
        rw [Int.neg_tmod] at this
        omega
      have hne : n.tmod d ≠ 0 := fun hz => hdv (Int.dvd_of_tmod_eq_zero hz)
      rw [if_pos (by omega)]
      omega

set_option maxHeartbeats 1000000 in
theorem within_in (n lo hi : Int) (w : World) (h : lo ≤ hi) (h1 : -10000 ≤ lo) (h2 : hi ≤ 10000) :
    Calls Tryd.prog 62 #[.int .i64 n, .int .i64 lo, .int .i64 hi] w fun e w' => e = .returned (.int .i64 (winB n lo hi)) ∧ w = w' := by
  have hb1 := Int.lt_tmod_of_pos n (by omega : 0 < hi - lo + 1)
  have hb2 := Int.tmod_lt_of_pos n (by omega : 0 < hi - lo + 1)
  have hf := emod_fix (n := n) (by omega : 0 < hi - lo + 1)
  have hz : (hi - lo + 1 == 0) = false := by simp; omega
  have hz3 : ¬ (hi - lo + 1 = 0) := by omega
  have w1 : wrap64 (hi - lo) = hi - lo := (by unfold wrap64; omega)
  have w2 : wrap64 (hi - lo + 1) = hi - lo + 1 := (by unfold wrap64; omega)
  generalize hm : n.tmod (hi - lo + 1) = m at *
  have Hm : Hid (n.tmod (hi - lo + 1) = m) := hm
  by_cases h0 : m < 0
  · have d : decide (m < 0) = true := by simpa using h0
    have HM : Hid (winB n lo hi = lo + (m + hi - lo + 1)) := by unfold Hid winB; rw [hf, if_pos h0]; omega
    have w3 : wrap64 (m + hi) = m + hi := (by unfold wrap64; omega)
    have w4 : wrap64 (m + hi - lo) = m + hi - lo := (by unfold wrap64; omega)
    have w5 : wrap64 (m + hi - lo + 1) = m + hi - lo + 1 := (by unfold wrap64; omega)
    have w6 : wrap64 (lo + (m + hi - lo + 1)) = lo + (m + hi - lo + 1) := (by unfold wrap64; omega)
    clear hf
    go_enter Tryd.func62, Tryd.ntmps62
    go_wp2
    go_ret
    exact ⟨by rw [HM.out]; rfl, rfl⟩
  · have d : decide (m < 0) = false := by simpa using h0
    have HM : Hid (winB n lo hi = lo + m) := by unfold Hid winB; rw [hf, if_neg h0]
    have w6 : wrap64 (lo + m) = lo + m := (by unfold wrap64; omega)
    clear hf
    go_enter Tryd.func62, Tryd.ntmps62
    go_wp2
    go_ret
    exact ⟨by rw [HM.out]; rfl, rfl⟩
end Go.Proofs.YtngahgfppbjebaaDoor
