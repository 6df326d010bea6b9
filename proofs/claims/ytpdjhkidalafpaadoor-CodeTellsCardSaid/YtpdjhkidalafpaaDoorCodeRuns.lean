/-
  Chapter 14's closed run, walked.
-/
import Derived.Test.YtpdjhkidalafpaaDoorCodeMay
namespace Go.Proofs.YtpdjhkidalafpaaDoor
open Go.RowKit
set_option linter.unusedVariables false
set_option linter.unusedSimpArgs false

set_option maxHeartbeats 1000000 in
theorem code_runs (w : World) : Calls Tryd.prog 4 #[] w fun e w' => e = .returned (.bool true) ∧ Below w.heap.size w w' := by
  have e1 : numOf nameList ⟨#[122, 101, 114, 111]⟩ = 13 := by decide
  have e2 : isOf nameList ⟨#[122, 101, 114, 111]⟩ = true := by decide
  have e3 : numOf callList ⟨#[113, 117, 101, 117, 101, 46, 116, 97, 107, 101]⟩ = 8 := by decide
  have e4 : isOf callList ⟨#[113, 117, 101, 117, 101, 46, 116, 97, 107, 101]⟩ = true := by decide
  have e5 : atList nameList 13 = ⟨#[122, 101, 114, 111]⟩ := rfl
  have e6 : atList callList 8 = ⟨#[113, 117, 101, 117, 101, 46, 116, 97, 107, 101]⟩ := rfl
  have e7 : mayB 1 0 0 1 0 = false := by decide
  have e8 : mayB 1 0 0 0 5 = true := by decide
  have e9 : jumpsB 12 = true := by decide
  have e10 : jumpsB 1 = false := by decide
  have tok1 : True := trivial
  go_enter Tryd.func4, Tryd.ntmps4
  go_wp2_with (first
    | (go_at_call 7; refine (op_any _ _).mono ?_; rintro e w1 ⟨rfl, rfl⟩)
    | (go_at_call 8; refine (which_any _ _).mono ?_; rintro e w1 ⟨rfl, rfl⟩)
    | (go_at_call 11; refine (name_any _ _).mono ?_; rintro e w1 ⟨rfl, rfl⟩)
    | (go_at_call 12; refine (call_any _ _).mono ?_; rintro e w1 ⟨rfl, rfl⟩)
    | (go_at_call 13; refine (jumps_any _ _).mono ?_; rintro e w1 ⟨rfl, rfl⟩)
    | (go_at_call 9; have _t := tok1; refine (may_any _ _ _ _ _ _).mono ?_; rintro e wA ⟨rfl, hoA⟩; clear tok1)
    | (go_at_call 9; refine (may_any _ _ _ _ _ _).mono ?_; rintro e wB ⟨rfl, hoB⟩))
  go_ret
  refine ⟨rfl, Only.new ?_⟩
  repeat' (first | (with_reducible exact Only.refl _ _) | (with_reducible refine Only.trans ?_ hoB) | (with_reducible refine Only.trans ?_ hoA) | (with_reducible refine Only.alloc ?_ _) | (with_reducible refine Only.drewN ?_ _) | (with_reducible refine Only.drew ?_))
end Go.Proofs.YtpdjhkidalafpaaDoor
