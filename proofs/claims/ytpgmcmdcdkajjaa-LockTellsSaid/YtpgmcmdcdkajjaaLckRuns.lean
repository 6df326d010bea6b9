/-
  Chapter 1's closed run, walked: the Go text answers true.
-/
import Derived.Test.YtpgmcmdcdkajjaaLckDrop
namespace Go.Proofs.Ytpgmcmdcdkajjaa
open Go.RowKit

theorem takeW_out (w : World) (v : Int) (h : Bool) (o a : Int) : takeW w v h o a = ((w.alloc (.cells #[.int .u64 v, .bool h, .int .i64 o] 49)).alloc (.cells #[.int .u64 (takeV v h o a), .bool (takeB v h o a), .int .i64 (takeO v h o a)] 49)).alloc (.cells #[.int .u64 v, .bool h, .int .i64 o] 49) := rfl
theorem dropW4_out (w : World) (v : Int) (h : Bool) (o n : Int) : dropW4 w v h o n = (((w.alloc (.cells #[.int .u64 v, .bool h, .int .i64 o] 49)).alloc (.cells #[.int .u64 (dropV v h o n), .bool false, .int .i64 0] 49)).alloc (.cells #[.int .u64 v, .bool h, .int .i64 o] 49)).alloc (.cells #[.int .u64 (dropV v h o n), .bool false, .int .i64 0] 49) := rfl
theorem dropW3_out (w : World) (v : Int) (h : Bool) (o n : Int) : dropW3 w v h o n = ((w.alloc (.cells #[.int .u64 v, .bool h, .int .i64 o] 49)).alloc (.cells #[.int .u64 (dropV v h o n), .bool false, .int .i64 0] 49)).alloc (.cells #[.int .u64 v, .bool h, .int .i64 o] 49) := rfl

set_option maxHeartbeats 1000000 in
theorem lck_runs (w : World) : Calls Try.prog 8 #[] w fun e w' => e = .returned (.bool true) ∧ Below w.heap.size w w' := by
  have f1 : freeV 5 = 5 := by decide
  have f2 : freeB 5 = true := by decide
  have t1 : takeV 5 false 0 2 = 5 := by decide
  have t2 : takeB 5 false 0 2 = true := by decide
  have t3 : takeO 5 false 0 2 = 2 := by decide
  have d1 : dropV 5 true 2 7 = 7 := by decide
  have d2 : dropB 5 true 2 7 = true := by decide
  have d3 : dropC 5 true 2 7 = true := by decide
  have i1 : isB 5 true 2 = true := by decide
  have p1 : fitsB 7 false 0 7 = true := by decide
  have p2 : fitsB 7 false 0 6 = false := by decide
  have s1 : lockStr 5 (tagOf true 2) = ⟨#[0, 0, 0, 0, 0, 0, 0, 5, 3]⟩ := rfl
  have w1 := takeW_out
  have w2 := dropW4_out
  go_enter Try.func8, Try.ntmps8
  go_wp2_with (first
    | (go_at_call 20; refine (free_any _ _).mono ?_; rintro e w1 ⟨rfl, rfl⟩)
    | (go_at_call 21; refine (take_any _ _ _ _ _).mono ?_; rintro e w1 ⟨rfl, rfl⟩)
    | (go_at_call 22; refine (drop_yes _ _ _ _ _ d3).mono ?_; rintro e w1 ⟨rfl, rfl⟩)
    | (go_at_call 23; refine (bytes_yes _ _ _ _ i1 (by omega)).mono ?_; rintro e w1 ⟨rfl, rfl⟩)
    | (go_at_call 24; refine (fits_any _ _ _ _ _).mono ?_; rintro e w1 ⟨rfl, rfl⟩)
    | (go_at_call 25; refine (is_any _ _ _ _).mono ?_; rintro e w1 ⟨rfl, rfl⟩))
  go_ret
  refine ⟨rfl, ?_⟩
  refine Only.new ?_
  repeat' (first | (with_reducible refine Only.setCell ?_ ?_ _) | (with_reducible refine Only.alloc ?_ _) | (with_reducible refine Only.drewN ?_ _) | (with_reducible refine Only.drew ?_) | (with_reducible exact Only.refl _ _) | (right; simp; done) | (right; simp; omega))
end Go.Proofs.Ytpgmcmdcdkajjaa
