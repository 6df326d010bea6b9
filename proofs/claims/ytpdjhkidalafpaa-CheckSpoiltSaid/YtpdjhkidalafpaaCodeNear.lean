/-
  The law CodeNear, walked.
-/
import Derived.Test.YtpdjhkidalafpaaBook
import Derived.Test.YtpdjhkidalafpaaCodeRuns
import Derived.Deep.RegionWith
import Derived.OpenShut
namespace Go.Proofs.Ytpdjhkidalafpaa
open Go.RowKit
set_option linter.unusedVariables false
set_option linter.unusedSimpArgs false

theorem rmay_may_any (op a b c N : Int) (w : World) :
    Calls Try.prog 19 #[.agg #[.int .i64 op, .int .i64 a, .int .i64 b, .int .i64 c, .int .u64 N]] w fun e w' => e = .returned (.bool (mayB op a b c N)) ∧ Only Nob w w' := by
  have h := rmay_any op a b c N w
  rw [rmay_may] at h
  exact h

set_option maxHeartbeats 1000000 in
theorem code_near (op : Int) (_ : (Lit.int .i64 op).wf = true) (a : Int) (_ : (Lit.int .i64 a).wf = true) (b : Int) (_ : (Lit.int .i64 b).wf = true) (c : Int) (_ : (Lit.int .i64 c).wf = true) (N : Int) (wN : (Lit.int .u64 N).wf = true) (w : World) :
    Calls Try.prog 4 #[.int .i64 op, .int .i64 a, .int .i64 b, .int .i64 c, .int .u64 N] w fun e w' => e = .returned (.bool true) ∧ Below w.heap.size w w' := by
  have hN := bounds_u64 wN
  have tok1 : True := trivial
  go_enter Try.func4, Try.ntmps4
  go_wp2_with (first
    | (go_at_call 3; refine (code_runs _).mono ?_; rintro e w1 ⟨rfl, hbel⟩)
    | (go_at_call 18; refine (within_in _ _ _ _ (by decide) (by decide) (by decide)).mono ?_; rintro e w2 ⟨rfl, rfl⟩))
  generalize winB op (-1) 25 = op' at *
  generalize winB a (-1) 14 = a' at *
  generalize winB b (-1) 9 = b' at *
  generalize winB c (-1) 42 = c' at *
  generalize N.tmod 3 = N' at *
  go_region_with (first
    | (go_at_call 15; refine (may_any _ _ _ _ _ _).mono ?_; rintro e wA ⟨rfl, hoA⟩; obtain ⟨cA, zA⟩ := hoA.rules0; have sA := hoA.size)
    | (go_at_call 19; refine (rmay_may_any _ _ _ _ _ _).mono ?_; rintro e wB ⟨rfl, hoB⟩; obtain ⟨cB, zB⟩ := hoB.rules0; have sB := hoB.size))
  all_goals
    go_wp2
    go_ret
    refine ⟨rfl, Only.new ?_⟩
    repeat' (first | (with_reducible exact Only.refl _ _) | (with_reducible refine Only.trans ?_ hoB) | (with_reducible refine Only.trans ?_ hoA) | (with_reducible refine Only.trans ?_ (Only.of_new hbel)) | (with_reducible refine Only.alloc ?_ _) | (with_reducible refine Only.drewN ?_ _) | (with_reducible refine Only.drew ?_))
end Go.Proofs.Ytpdjhkidalafpaa
