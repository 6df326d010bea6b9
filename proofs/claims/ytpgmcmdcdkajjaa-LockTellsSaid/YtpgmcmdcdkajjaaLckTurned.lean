/-
  The law LockTurned, walked.
-/
import Derived.Test.YtpgmcmdcdkajjaaLckRuns
import Derived.Test.YtpgmcmdcdkajjaaLckPlain
namespace Go.Proofs.Ytpgmcmdcdkajjaa
open Go.RowKit

theorem rd_no {s : ByteArray} (h : rdB s = false) : rdV s = 0 ∧ rdHH s = false ∧ rdOO s = 0 := by simp [rdV, rdHH, rdOO, h]
theorem rd_yes {s : ByteArray} (h : rdB s = true) : isB (rdV s) (rdHH s) (rdOO s) = true ∧ 0 ≤ rdV s := by
  have e : rdB s = isB (ver s 8) (rdH s) (rdO s) := rfl
  constructor
  · simp only [rdV, rdHH, rdOO, h, if_true, Bool.true_and]
    rw [← e, h]
  · simp only [rdV, h, if_true]
    omega

set_option maxHeartbeats 1000000 in
theorem turned_short (s : ByteArray) (w : World) (hs : s.size ≠ 9) (hm : s.size ≤ maxLen) :
    Calls Try.prog 12 #[.string s] w fun e w' => e = .returned (.bool true) ∧ Below w.heap.size w w' := by
  have hs' := hide hs
  have hm' := hide hm
  clear hs hm
  go_enter Try.func12, Try.ntmps12
  go_wp2_with (first
    | (go_at_call 8; refine (lck_runs _).mono ?_; rintro e w0 ⟨rfl, hb⟩)
    | (go_at_call 29; refine (read_short s _ hs'.out hm'.out).mono ?_; rintro e w1 ⟨rfl, rfl⟩))
  go_ret
  refine ⟨rfl, hb.trans (Below.mono (Only.new ?_) hb.size)⟩
  repeat' (first | (with_reducible refine Only.setCell ?_ ?_ _) | (with_reducible refine Only.alloc ?_ _) | (with_reducible refine Only.drewN ?_ _) | (with_reducible refine Only.drew ?_) | (with_reducible exact Only.refl _ _) | (right; simp; done) | (right; simp; omega))

set_option maxHeartbeats 1000000 in
theorem turned_no (s : ByteArray) (w : World) (hs : s.size = 9) (hB : rdB s = false) :
    Calls Try.prog 12 #[.string s] w fun e w' => e = .returned (.bool true) ∧ Below w.heap.size w w' := by
  obtain ⟨r1, r2, r3⟩ := rd_no hB
  have hs' := hide hs
  clear hs
  go_enter Try.func12, Try.ntmps12
  go_wp2_with (first
    | (go_at_call 8; refine (lck_runs _).mono ?_; rintro e w0 ⟨rfl, hb⟩)
    | (go_at_call 29; refine (read_nine s _ hs'.out).mono ?_; rintro e w1 ⟨j, rfl, rfl⟩))
  go_ret
  refine ⟨rfl, hb.trans (Below.mono (Only.new ?_) hb.size)⟩
  repeat' (first | (with_reducible refine Only.setCell ?_ ?_ _) | (with_reducible refine Only.alloc ?_ _) | (with_reducible refine Only.drewN ?_ _) | (with_reducible refine Only.drew ?_) | (with_reducible exact Only.refl _ _) | (right; simp; done) | (right; simp; omega))

set_option maxHeartbeats 1000000 in
theorem turned_yes (s : ByteArray) (w : World) (hs : s.size = 9) (hB : rdB s = true) :
    Calls Try.prog 12 #[.string s] w fun e w' => e = .returned (.bool true) ∧ Below w.heap.size w w' := by
  obtain ⟨hi, h0⟩ := rd_yes hB
  have hst := read_turned s hs hB
  have hs' := hide hs
  go_enter Try.func12, Try.ntmps12
  go_wp2_with (first
    | (go_at_call 8; refine (lck_runs _).mono ?_; rintro e w0 ⟨rfl, hb⟩)
    | (go_at_call 29; refine (read_nine s _ hs'.out).mono ?_; rintro e w1 ⟨j, rfl, rfl⟩)
    | (go_at_call 25; refine (is_any _ _ _ _).mono ?_; rintro e w1 ⟨rfl, rfl⟩)
    | (go_at_call 23; refine (bytes_yes _ _ _ _ hi h0).mono ?_; rintro e w1 ⟨rfl, rfl⟩))
  go_ret
  refine ⟨rfl, hb.trans (Below.mono (Only.new ?_) hb.size)⟩
  repeat' (first | (with_reducible refine Only.setCell ?_ ?_ _) | (with_reducible refine Only.alloc ?_ _) | (with_reducible refine Only.drewN ?_ _) | (with_reducible refine Only.drew ?_) | (with_reducible exact Only.refl _ _) | (right; simp; done) | (right; simp; omega))

theorem lck_turned_w (s : ByteArray) (hm : s.size ≤ maxLen) (w : World) :
    Calls Try.prog 12 #[.string s] w fun e w' => e = .returned (.bool true) ∧ Below w.heap.size w w' := by
  by_cases hs : s.size = 9
  · rcases (by cases rdB s <;> simp : rdB s = true ∨ rdB s = false) with hB | hB
    · exact turned_yes s w hs hB
    · exact turned_no s w hs hB
  · exact turned_short s w hs hm
end Go.Proofs.Ytpgmcmdcdkajjaa

