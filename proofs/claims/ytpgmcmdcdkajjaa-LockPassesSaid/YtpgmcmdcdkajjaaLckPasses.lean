/-
  The law LockPasses, walked.
-/
import Derived.Test.YtpgmcmdcdkajjaaLckRuns
import Derived.OpenShut
import Derived.Deep.RegionWith
namespace Go.Proofs.Ytpgmcmdcdkajjaa
open Go.RowKit

set_option maxRecDepth 100000 in
set_option maxHeartbeats 2000000 in
theorem passes_big (v x a b : Int) (w : World) (hv : 4611686018427387904 ≤ v) :
    Calls Try.prog 9 #[.int .u64 v, .int .u64 x, .int .i64 a, .int .i64 b] w fun e w' => e = .returned (.bool true) ∧ Below w.heap.size w w' := by
  have f1 : freeV v = 0 := by simp [freeV]; omega
  have f2 : freeB v = false := by simp [freeB]; omega
  have w1 := takeW_out
  have w2 := dropW4_out
  have w3 := dropW3_out
  go_enter Try.func9, Try.ntmps9
  go_wp2_with (first
    | (go_at_call 8; refine (lck_runs _).mono ?_; rintro e w0 ⟨rfl, hb⟩)
    | (go_at_call 20; refine (free_any _ _).mono ?_; rintro e w1 ⟨rfl, rfl⟩)
    | (go_at_call 21; refine (take_any _ _ _ _ _).mono ?_; rintro e w1 ⟨rfl, rfl⟩)
    | (go_at_call 22; refine (drop_yes _ _ _ _ _ (by assumption)).mono ?_; rintro e w1 ⟨rfl, rfl⟩)
    | (go_at_call 22; refine (drop_no _ _ _ _ _ (by assumption)).mono ?_; rintro e w1 ⟨rfl, rfl⟩)
    | (go_at_call 24; refine (fits_any _ _ _ _ _).mono ?_; rintro e w1 ⟨rfl, rfl⟩))
  go_ret
  refine ⟨rfl, hb.trans (Below.mono (Only.new ?_) hb.size)⟩
  repeat' (first | (with_reducible refine Only.setCell ?_ ?_ _) | (with_reducible refine Only.alloc ?_ _) | (with_reducible refine Only.drewN ?_ _) | (with_reducible refine Only.drew ?_) | (with_reducible exact Only.refl _ _) | (right; simp; done) | (right; simp; omega))

set_option maxRecDepth 100000 in
set_option maxHeartbeats 2000000 in
theorem passes_none (v x a b : Int) (w : World) (hv : v < 4611686018427387904) (ha : ownsB a = false) :
    Calls Try.prog 9 #[.int .u64 v, .int .u64 x, .int .i64 a, .int .i64 b] w fun e w' => e = .returned (.bool true) ∧ Below w.heap.size w w' := by
  have f1 : freeV v = v := by simp [freeV]; omega
  have f2 : freeB v = true := by simp [freeB]; omega
  have t2 : takeB v false 0 a = false := by simp [takeB, ha]
  have t1 : takeV v false 0 a = 0 := by simp [takeV, t2]
  have t3 : takeO v false 0 a = 0 := by simp [takeO, t2]
  have hn : ¬ (0 ≤ a ∧ a < 4) := by simpa [ownsB] using ha
  rcases (by omega : a < 0 ∨ 0 ≤ a ∧ 4 ≤ a) with hlo | ⟨hlo, hhi⟩
  all_goals
    clear hn ha
    have w1 := takeW_out
    have w2 := dropW4_out
    have w3 := dropW3_out
    go_enter Try.func9, Try.ntmps9
    go_wp2_with (first
      | (go_at_call 8; refine (lck_runs _).mono ?_; rintro e w0 ⟨rfl, hb⟩)
      | (go_at_call 20; refine (free_any _ _).mono ?_; rintro e w1 ⟨rfl, rfl⟩)
      | (go_at_call 21; refine (take_any _ _ _ _ _).mono ?_; rintro e w1 ⟨rfl, rfl⟩)
      | (go_at_call 22; refine (drop_yes _ _ _ _ _ (by assumption)).mono ?_; rintro e w1 ⟨rfl, rfl⟩)
      | (go_at_call 22; refine (drop_no _ _ _ _ _ (by assumption)).mono ?_; rintro e w1 ⟨rfl, rfl⟩)
      | (go_at_call 24; refine (fits_any _ _ _ _ _).mono ?_; rintro e w1 ⟨rfl, rfl⟩))
    go_ret
    refine ⟨rfl, hb.trans (Below.mono (Only.new ?_) hb.size)⟩
    repeat' (first | (with_reducible refine Only.setCell ?_ ?_ _) | (with_reducible refine Only.alloc ?_ _) | (with_reducible refine Only.drewN ?_ _) | (with_reducible refine Only.drew ?_) | (with_reducible exact Only.refl _ _) | (right; simp; done) | (right; simp; omega))

set_option maxRecDepth 100000 in
set_option maxHeartbeats 2000000 in
theorem passes_less (v x a b : Int) (w : World) (hv : v < 4611686018427387904) (ha0 : 0 ≤ a) (ha4 : a < 4) (hx : x < v) :
    Calls Try.prog 9 #[.int .u64 v, .int .u64 x, .int .i64 a, .int .i64 b] w fun e w' => e = .returned (.bool true) ∧ Below w.heap.size w w' := by
  have ho : ownsB a = true := by simp [ownsB]; omega
  have hi : isB v true a = true := by simp [isB, ho]; omega
  have f1 : freeV v = v := by simp [freeV]; omega
  have f2 : freeB v = true := by simp [freeB]; omega
  have i0 : isB v false 0 = true := by simp [isB]; omega
  have t2 : takeB v false 0 a = true := by simp [takeB, i0, ho]
  have t1 : takeV v false 0 a = v := by simp [takeV, t2]
  have t3 : takeO v false 0 a = a := by simp [takeO, t2]
  have u2 : takeB v true a b = false := by simp [takeB]
  have u1 : takeV v true a b = 0 := by simp [takeV, u2]
  have u3 : takeO v true a b = 0 := by simp [takeO, u2]
  have g1 : fitsB v true a 4611686018427387904 = false := by simp [fitsB]
  have dc : dropC v true a x = false := by simp [dropC, hi]; omega
  have d1 : dropV v true a x = 0 := by simp [dropV, dc]
  have d2 : dropB v true a x = false := by simp [dropB, dc]
  have w1 := takeW_out
  have w2 := dropW4_out
  have w3 := dropW3_out
  go_enter Try.func9, Try.ntmps9
  go_wp2_with (first
    | (go_at_call 8; refine (lck_runs _).mono ?_; rintro e w0 ⟨rfl, hb⟩)
    | (go_at_call 20; refine (free_any _ _).mono ?_; rintro e w1 ⟨rfl, rfl⟩)
    | (go_at_call 21; refine (take_any _ _ _ _ _).mono ?_; rintro e w1 ⟨rfl, rfl⟩)
    | (go_at_call 22; refine (drop_no _ _ _ _ _ dc).mono ?_; rintro e w1 ⟨rfl, rfl⟩)
    | (go_at_call 24; refine (fits_any _ _ _ _ _).mono ?_; rintro e w1 ⟨rfl, rfl⟩))
  go_ret
  refine ⟨rfl, hb.trans (Below.mono (Only.new ?_) hb.size)⟩
  repeat' (first | (with_reducible refine Only.setCell ?_ ?_ _) | (with_reducible refine Only.alloc ?_ _) | (with_reducible refine Only.drewN ?_ _) | (with_reducible refine Only.drew ?_) | (with_reducible exact Only.refl _ _) | (right; simp; done) | (right; simp; omega))

set_option maxRecDepth 100000 in
set_option maxHeartbeats 2000000 in
theorem passes_end (v x a b : Int) (w : World) (hv : v < 4611686018427387904) (ha0 : 0 ≤ a) (ha4 : a < 4) (hx : v ≤ x) (hx4 : 4611686018427387904 ≤ x) :
    Calls Try.prog 9 #[.int .u64 v, .int .u64 x, .int .i64 a, .int .i64 b] w fun e w' => e = .returned (.bool true) ∧ Below w.heap.size w w' := by
  have ho : ownsB a = true := by simp [ownsB]; omega
  have hi : isB v true a = true := by simp [isB, ho]; omega
  have f1 : freeV v = v := by simp [freeV]; omega
  have f2 : freeB v = true := by simp [freeB]; omega
  have i0 : isB v false 0 = true := by simp [isB]; omega
  have t2 : takeB v false 0 a = true := by simp [takeB, i0, ho]
  have t1 : takeV v false 0 a = v := by simp [takeV, t2]
  have t3 : takeO v false 0 a = a := by simp [takeO, t2]
  have u2 : takeB v true a b = false := by simp [takeB]
  have u1 : takeV v true a b = 0 := by simp [takeV, u2]
  have u3 : takeO v true a b = 0 := by simp [takeO, u2]
  have g1 : fitsB v true a 4611686018427387904 = false := by simp [fitsB]
  have dc : dropC v true a x = true := by simp [dropC, hi]; omega
  have k1 : freeV x = 0 := by simp [freeV]; omega
  have k2 : freeB x = false := by simp [freeB]; omega
  have d1 : dropV v true a x = 0 := by simp [dropV, dc, k1]
  have d2 : dropB v true a x = false := by simp [dropB, k2]
  have w1 := takeW_out
  have w2 := dropW4_out
  have w3 := dropW3_out
  go_enter Try.func9, Try.ntmps9
  go_wp2_with (first
    | (go_at_call 8; refine (lck_runs _).mono ?_; rintro e w0 ⟨rfl, hb⟩)
    | (go_at_call 20; refine (free_any _ _).mono ?_; rintro e w1 ⟨rfl, rfl⟩)
    | (go_at_call 21; refine (take_any _ _ _ _ _).mono ?_; rintro e w1 ⟨rfl, rfl⟩)
    | (go_at_call 22; refine (drop_yes v a x true _ dc).mono ?_; rintro e w1 ⟨rfl, rfl⟩)
    | (go_at_call 24; refine (fits_any _ _ _ _ _).mono ?_; rintro e w1 ⟨rfl, rfl⟩))
  go_ret
  refine ⟨rfl, hb.trans (Below.mono (Only.new ?_) hb.size)⟩
  repeat' (first | (with_reducible refine Only.setCell ?_ ?_ _) | (with_reducible refine Only.alloc ?_ _) | (with_reducible refine Only.drewN ?_ _) | (with_reducible refine Only.drew ?_) | (with_reducible exact Only.refl _ _) | (right; simp; done) | (right; simp; omega))


set_option maxRecDepth 100000 in
set_option maxHeartbeats 2000000 in
theorem passes_zero (v x a b : Int) (w : World) (hv0 : 0 ≤ v) (hv : v < 4611686018427387904) (ha0 : 0 ≤ a) (ha4 : a < 4) (hx : v ≤ x) (hx4 : x < 4611686018427387904) (x0 : x = 0) :
    Calls Try.prog 9 #[.int .u64 v, .int .u64 x, .int .i64 a, .int .i64 b] w fun e w' => e = .returned (.bool true) ∧ Below w.heap.size w w' := by
  have ho : ownsB a = true := by simp [ownsB]; omega
  have hi : isB v true a = true := by simp [isB, ho]; omega
  have f1 : freeV v = v := by simp [freeV]; omega
  have f2 : freeB v = true := by simp [freeB]; omega
  have i0 : isB v false 0 = true := by simp [isB]; omega
  have t2 : takeB v false 0 a = true := by simp [takeB, i0, ho]
  have t1 : takeV v false 0 a = v := by simp [takeV, t2]
  have t3 : takeO v false 0 a = a := by simp [takeO, t2]
  have u2 : takeB v true a b = false := by simp [takeB]
  have u1 : takeV v true a b = 0 := by simp [takeV, u2]
  have u3 : takeO v true a b = 0 := by simp [takeO, u2]
  have g1 : fitsB v true a 4611686018427387904 = false := by simp [fitsB]
  have dc : dropC v true a x = true := by simp [dropC, hi]; omega
  have k1 : freeV x = x := by simp [freeV]; omega
  have k2 : freeB x = true := by simp [freeB]; omega
  have d1 : dropV v true a x = x := by simp [dropV, dc, k1]
  have d2 : dropB v true a x = true := by simp [dropB, dc, k2]
  have ec : dropC x false 0 x = false := by simp [dropC]
  have e1 : dropV x false 0 x = 0 := by simp [dropV, ec]
  have e2 : dropB x false 0 x = false := by simp [dropB, ec]
  have p0 : isB x false 0 = true := by simp [isB]; omega
  have p1 : fitsB x false 0 x = true := by simp [fitsB, p0]
  have z1 : (x == 0) = true := by simpa using x0
  clear x0
  have w1 := takeW_out
  have w2 := dropW4_out
  have w3 := dropW3_out
  go_enter Try.func9, Try.ntmps9
  go_wp2_with (first
    | (go_at_call 8; refine (lck_runs _).mono ?_; rintro e w0 ⟨rfl, hb⟩)
    | (go_at_call 20; refine (free_any _ _).mono ?_; rintro e w1 ⟨rfl, rfl⟩)
    | (go_at_call 21; refine (take_any _ _ _ _ _).mono ?_; rintro e w1 ⟨rfl, rfl⟩)
    | (go_at_call 22; go_at_call_of 22 (Value.bool true); refine (drop_yes v a x true _ dc).mono ?_; rintro e w1 ⟨rfl, rfl⟩)
    | (go_at_call 22; refine (drop_no x 0 x false _ ec).mono ?_; rintro e w1 ⟨rfl, rfl⟩)
    | (go_at_call 24; refine (fits_any _ _ _ _ _).mono ?_; rintro e w1 ⟨rfl, rfl⟩))
  go_ret
  refine ⟨rfl, hb.trans (Below.mono (Only.new ?_) hb.size)⟩
  repeat' (first | (with_reducible refine Only.setCell ?_ ?_ _) | (with_reducible refine Only.alloc ?_ _) | (with_reducible refine Only.drewN ?_ _) | (with_reducible refine Only.drew ?_) | (with_reducible exact Only.refl _ _) | (right; simp; done) | (right; simp; omega))


set_option maxRecDepth 100000 in
set_option maxHeartbeats 2000000 in
theorem passes_pos (v x a b : Int) (w : World) (hv0 : 0 ≤ v) (hv : v < 4611686018427387904) (ha0 : 0 ≤ a) (ha4 : a < 4) (hx : v ≤ x) (hx4 : x < 4611686018427387904) (x0 : 0 < x) :
    Calls Try.prog 9 #[.int .u64 v, .int .u64 x, .int .i64 a, .int .i64 b] w fun e w' => e = .returned (.bool true) ∧ Below w.heap.size w w' := by
  have ho : ownsB a = true := by simp [ownsB]; omega
  have hi : isB v true a = true := by simp [isB, ho]; omega
  have f1 : freeV v = v := by simp [freeV]; omega
  have f2 : freeB v = true := by simp [freeB]; omega
  have i0 : isB v false 0 = true := by simp [isB]; omega
  have t2 : takeB v false 0 a = true := by simp [takeB, i0, ho]
  have t1 : takeV v false 0 a = v := by simp [takeV, t2]
  have t3 : takeO v false 0 a = a := by simp [takeO, t2]
  have u2 : takeB v true a b = false := by simp [takeB]
  have u1 : takeV v true a b = 0 := by simp [takeV, u2]
  have u3 : takeO v true a b = 0 := by simp [takeO, u2]
  have g1 : fitsB v true a 4611686018427387904 = false := by simp [fitsB]
  have dc : dropC v true a x = true := by simp [dropC, hi]; omega
  have k1 : freeV x = x := by simp [freeV]; omega
  have k2 : freeB x = true := by simp [freeB]; omega
  have d1 : dropV v true a x = x := by simp [dropV, dc, k1]
  have d2 : dropB v true a x = true := by simp [dropB, dc, k2]
  have ec : dropC x false 0 x = false := by simp [dropC]
  have e1 : dropV x false 0 x = 0 := by simp [dropV, ec]
  have e2 : dropB x false 0 x = false := by simp [dropB, ec]
  have p0 : isB x false 0 = true := by simp [isB]; omega
  have p1 : fitsB x false 0 x = true := by simp [fitsB, p0]
  have z1 : (x == 0) = false := by simp; omega
  have p3 : fitsB x false 0 (x - 1) = false := by simp [fitsB]; omega
  have w1 := takeW_out
  have w2 := dropW4_out
  have w3 := dropW3_out
  go_enter Try.func9, Try.ntmps9
  go_wp2_with (first
    | (go_at_call 8; refine (lck_runs _).mono ?_; rintro e w0 ⟨rfl, hb⟩)
    | (go_at_call 20; refine (free_any _ _).mono ?_; rintro e w1 ⟨rfl, rfl⟩)
    | (go_at_call 21; refine (take_any _ _ _ _ _).mono ?_; rintro e w1 ⟨rfl, rfl⟩)
    | (go_at_call 22; go_at_call_of 22 (Value.bool true); refine (drop_yes v a x true _ dc).mono ?_; rintro e w1 ⟨rfl, rfl⟩)
    | (go_at_call 22; refine (drop_no x 0 x false _ ec).mono ?_; rintro e w1 ⟨rfl, rfl⟩)
    | (go_at_call 24; refine (fits_any _ _ _ _ _).mono ?_; rintro e w1 ⟨rfl, rfl⟩))
  go_ret
  refine ⟨rfl, hb.trans (Below.mono (Only.new ?_) hb.size)⟩
  repeat' (first | (with_reducible refine Only.setCell ?_ ?_ _) | (with_reducible refine Only.alloc ?_ _) | (with_reducible refine Only.drewN ?_ _) | (with_reducible refine Only.drew ?_) | (with_reducible exact Only.refl _ _) | (right; simp; done) | (right; simp; omega))


theorem lck_passes_w (v : Int) (wv : (Lit.int .u64 v).wf = true) (x : Int) (wx : (Lit.int .u64 x).wf = true) (a : Int) (wa : (Lit.int .i64 a).wf = true) (b : Int) (wb : (Lit.int .i64 b).wf = true) (w : World) :
    Calls Try.prog 9 #[.int .u64 v, .int .u64 x, .int .i64 a, .int .i64 b] w fun e w' => e = .returned (.bool true) ∧ Below w.heap.size w w' := by
  have h1 := bounds_u64 wv
  have h2 := bounds_u64 wx
  rcases (by omega : v < 4611686018427387904 ∨ 4611686018427387904 ≤ v) with hv | hv
  · rcases (by cases ownsB a <;> simp : ownsB a = true ∨ ownsB a = false) with ha | ha
    · obtain ⟨a0, a4⟩ : 0 ≤ a ∧ a < 4 := by simpa [ownsB] using ha
      rcases (by omega : x < v ∨ v ≤ x) with hx | hx
      · exact passes_less v x a b w hv a0 a4 hx
      · rcases (by omega : x < 4611686018427387904 ∨ 4611686018427387904 ≤ x) with h4 | h4
        · rcases (by omega : x = 0 ∨ 0 < x) with h0 | h0
          · exact passes_zero v x a b w (by omega) hv a0 a4 hx h4 h0
          · exact passes_pos v x a b w (by omega) hv a0 a4 hx h4 h0
        · exact passes_end v x a b w hv a0 a4 hx h4
    · exact passes_none v x a b w hv ha
  · exact passes_big v x a b w hv
end Go.Proofs.Ytpgmcmdcdkajjaa

