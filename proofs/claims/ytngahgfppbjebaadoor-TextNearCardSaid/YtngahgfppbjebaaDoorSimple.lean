/-
  Contracts of what the statements draw: one register, one simple instruction.
-/
import Derived.Test.YtngahgfppbjebaaDoorGrpPlain
import Derived.Test.YtngahgfppbjebaaDoorGrpOpenProg
namespace Go.Proofs.YtngahgfppbjebaaDoor
open Go.RowKit
set_option linter.unusedVariables false
set_option linter.unusedSimpArgs false

theorem reg_any (n : Int) (w : World) : Calls Tryd.prog 64 #[.int .i64 n] w fun e w' => e = .returned (.int .i64 (winB n 0 6)) ∧ w = w' := by
  go_enter Tryd.func64, Tryd.ntmps64
  go_wp2_with (go_at_call 62; refine (within_in _ _ _ _ (by decide) (by decide) (by decide)).mono ?_; rintro e w2 ⟨rfl, rfl⟩)
  go_ret
  exact ⟨rfl, rfl⟩

/-- The simple instruction of a draw, by its sort. -/
def simpleAt (s a b c at_ d n : Int) : PIns :=
  if s = 0 then ⟨1, a, 0, 0, n⟩ else if s = 1 then ⟨1, a, 0, 0, n⟩ else if s = 2 then ⟨1, a, 0, 0, n % 20⟩ else if s = 3 then ⟨2, a, b, 0, 0⟩
  else if s = 4 then ⟨3 + winB (n % 64) 0 4, a, b, c, 0⟩ else if s = 5 then ⟨8, a, 7, at_, 0⟩ else if s = 6 then ⟨8, a, 7, at_, 0⟩ else if s = 7 then ⟨8, a, 7, at_, 0⟩
  else if s = 8 then ⟨9, 7, b, at_, 0⟩ else if s = 9 then ⟨9, 7, b, at_, 0⟩ else if s = 10 then ⟨9, 7, b, at_, 0⟩ else if s = 11 then ⟨8, a, b, d, 0⟩ else if s = 12 then ⟨9, a, b, d, 0⟩
  else if s = 13 then ⟨10, a, b, 0, 0⟩ else if s = 14 then ⟨10, a, b, 0, 0⟩ else if s = 15 then ⟨11, a, 0, 0, 0⟩ else if s = 16 then ⟨8, a, 7, at_, 0⟩ else ⟨21, a, 0, 0, 0⟩
def simpleP (x : PIns) : PIns := simpleAt (winB x.op 0 19) (winB x.a 0 6) (winB x.b 0 6) (winB x.c 0 6) (winB x.c 6 15) (winB x.c 0 3) x.n

def insV (x : PIns) : Value := .agg #[.int .i64 x.op, .int .i64 x.a, .int .i64 x.b, .int .i64 x.c, .int .u64 x.n]
def SimplePost (w : World) (y : PIns) (e : Ending) (w' : World) : Prop := e = .returned (insV y) ∧ Only Nob w w'

set_option maxHeartbeats 1000000 in
theorem simple_0 (op a b c n : Int) (w : World) (hn : 0 ≤ n ∧ n ≤ 18446744073709551615) (hs : winB op 0 19 = 0) :
    Calls Tryd.prog 65 #[.agg #[.int .i64 op, .int .i64 a, .int .i64 b, .int .i64 c, .int .u64 n]] w (SimplePost w ⟨1, winB a 0 6, 0, 0, n⟩) := by
  have HP : Hid (∀ e w', e = .returned (insV ⟨1, winB a 0 6, 0, 0, n⟩) → Only Nob w w' → SimplePost w ⟨1, winB a 0 6, 0, 0, n⟩ e w') := fun e w' h1 h2 => ⟨h1, h2⟩
  obtain ⟨n0, n1⟩ := hn
  have hm := Int.emod_lt_of_pos n (by decide : (0 : Int) < 64)
  have hm0 := Int.emod_nonneg n (by decide : (64 : Int) ≠ 0)
  go_enter Tryd.func65, Tryd.ntmps65
  go_wp2_with fail
  go_quiet ((go_at_call 64; exact quiet_left (reg_any _ _)))
  go_wp2_with (go_at_call 62; refine (within_in _ _ _ _ (by decide) (by decide) (by decide)).mono ?_; rintro e w2 ⟨rfl, rfl⟩)
  exact bodyPost_ret (by simp [results, Tryd.results65, go_sem]; try rfl) rfl (HP.out _ _ rfl (by
    repeat' (first | (with_reducible refine Only.setCell ?_ ?_ _) | (with_reducible refine Only.alloc ?_ _) | (with_reducible refine Only.drewN ?_ _) | (with_reducible refine Only.drew ?_) | (with_reducible exact Only.refl _ _) | (right; simp; done) | (right; simp; omega))))

set_option maxHeartbeats 1000000 in
theorem simple_1 (op a b c n : Int) (w : World) (hn : 0 ≤ n ∧ n ≤ 18446744073709551615) (hs : winB op 0 19 = 1) :
    Calls Tryd.prog 65 #[.agg #[.int .i64 op, .int .i64 a, .int .i64 b, .int .i64 c, .int .u64 n]] w (SimplePost w ⟨1, winB a 0 6, 0, 0, n⟩) := by
  have HP : Hid (∀ e w', e = .returned (insV ⟨1, winB a 0 6, 0, 0, n⟩) → Only Nob w w' → SimplePost w ⟨1, winB a 0 6, 0, 0, n⟩ e w') := fun e w' h1 h2 => ⟨h1, h2⟩
  obtain ⟨n0, n1⟩ := hn
  have hm := Int.emod_lt_of_pos n (by decide : (0 : Int) < 64)
  have hm0 := Int.emod_nonneg n (by decide : (64 : Int) ≠ 0)
  go_enter Tryd.func65, Tryd.ntmps65
  go_wp2_with fail
  go_quiet ((go_at_call 64; exact quiet_left (reg_any _ _)))
  go_wp2_with (go_at_call 62; refine (within_in _ _ _ _ (by decide) (by decide) (by decide)).mono ?_; rintro e w2 ⟨rfl, rfl⟩)
  exact bodyPost_ret (by simp [results, Tryd.results65, go_sem]; try rfl) rfl (HP.out _ _ rfl (by
    repeat' (first | (with_reducible refine Only.setCell ?_ ?_ _) | (with_reducible refine Only.alloc ?_ _) | (with_reducible refine Only.drewN ?_ _) | (with_reducible refine Only.drew ?_) | (with_reducible exact Only.refl _ _) | (right; simp; done) | (right; simp; omega))))

set_option maxHeartbeats 1000000 in
theorem simple_2 (op a b c n : Int) (w : World) (hn : 0 ≤ n ∧ n ≤ 18446744073709551615) (hs : winB op 0 19 = 2) :
    Calls Tryd.prog 65 #[.agg #[.int .i64 op, .int .i64 a, .int .i64 b, .int .i64 c, .int .u64 n]] w (SimplePost w ⟨1, winB a 0 6, 0, 0, n % 20⟩) := by
  have HP : Hid (∀ e w', e = .returned (insV ⟨1, winB a 0 6, 0, 0, n % 20⟩) → Only Nob w w' → SimplePost w ⟨1, winB a 0 6, 0, 0, n % 20⟩ e w') := fun e w' h1 h2 => ⟨h1, h2⟩
  obtain ⟨n0, n1⟩ := hn
  have hm := Int.emod_lt_of_pos n (by decide : (0 : Int) < 64)
  have hm0 := Int.emod_nonneg n (by decide : (64 : Int) ≠ 0)
  go_enter Tryd.func65, Tryd.ntmps65
  go_wp2_with fail
  go_quiet ((go_at_call 64; exact quiet_left (reg_any _ _)))
  go_wp2_with (go_at_call 62; refine (within_in _ _ _ _ (by decide) (by decide) (by decide)).mono ?_; rintro e w2 ⟨rfl, rfl⟩)
  exact bodyPost_ret (by simp [results, Tryd.results65, go_sem]; try rfl) rfl (HP.out _ _ rfl (by
    repeat' (first | (with_reducible refine Only.setCell ?_ ?_ _) | (with_reducible refine Only.alloc ?_ _) | (with_reducible refine Only.drewN ?_ _) | (with_reducible refine Only.drew ?_) | (with_reducible exact Only.refl _ _) | (right; simp; done) | (right; simp; omega))))

set_option maxHeartbeats 1000000 in
theorem simple_3 (op a b c n : Int) (w : World) (hn : 0 ≤ n ∧ n ≤ 18446744073709551615) (hs : winB op 0 19 = 3) :
    Calls Tryd.prog 65 #[.agg #[.int .i64 op, .int .i64 a, .int .i64 b, .int .i64 c, .int .u64 n]] w (SimplePost w ⟨2, winB a 0 6, winB b 0 6, 0, 0⟩) := by
  have HP : Hid (∀ e w', e = .returned (insV ⟨2, winB a 0 6, winB b 0 6, 0, 0⟩) → Only Nob w w' → SimplePost w ⟨2, winB a 0 6, winB b 0 6, 0, 0⟩ e w') := fun e w' h1 h2 => ⟨h1, h2⟩
  obtain ⟨n0, n1⟩ := hn
  have hm := Int.emod_lt_of_pos n (by decide : (0 : Int) < 64)
  have hm0 := Int.emod_nonneg n (by decide : (64 : Int) ≠ 0)
  go_enter Tryd.func65, Tryd.ntmps65
  go_wp2_with fail
  go_quiet ((go_at_call 64; exact quiet_left (reg_any _ _)))
  go_wp2_with (go_at_call 62; refine (within_in _ _ _ _ (by decide) (by decide) (by decide)).mono ?_; rintro e w2 ⟨rfl, rfl⟩)
  exact bodyPost_ret (by simp [results, Tryd.results65, go_sem]; try rfl) rfl (HP.out _ _ rfl (by
    repeat' (first | (with_reducible refine Only.setCell ?_ ?_ _) | (with_reducible refine Only.alloc ?_ _) | (with_reducible refine Only.drewN ?_ _) | (with_reducible refine Only.drew ?_) | (with_reducible exact Only.refl _ _) | (right; simp; done) | (right; simp; omega))))

set_option maxHeartbeats 1000000 in
theorem simple_4 (op a b c n : Int) (w : World) (hn : 0 ≤ n ∧ n ≤ 18446744073709551615) (hs : winB op 0 19 = 4) :
    Calls Tryd.prog 65 #[.agg #[.int .i64 op, .int .i64 a, .int .i64 b, .int .i64 c, .int .u64 n]] w (SimplePost w ⟨3 + winB (n % 64) 0 4, winB a 0 6, winB b 0 6, winB c 0 6, 0⟩) := by
  have HP : Hid (∀ e w', e = .returned (insV ⟨3 + winB (n % 64) 0 4, winB a 0 6, winB b 0 6, winB c 0 6, 0⟩) → Only Nob w w' → SimplePost w ⟨3 + winB (n % 64) 0 4, winB a 0 6, winB b 0 6, winB c 0 6, 0⟩ e w') := fun e w' h1 h2 => ⟨h1, h2⟩
  obtain ⟨n0, n1⟩ := hn
  have hm := Int.emod_lt_of_pos n (by decide : (0 : Int) < 64)
  have hm0 := Int.emod_nonneg n (by decide : (64 : Int) ≠ 0)
  have hw4 := winB_in (n := n % 64) (lo := 0) (hi := 4) (by decide)
  go_enter Tryd.func65, Tryd.ntmps65
  go_wp2_with fail
  go_quiet ((go_at_call 64; exact quiet_left (reg_any _ _)))
  go_wp2_with (go_at_call 62; refine (within_in _ _ _ _ (by decide) (by decide) (by decide)).mono ?_; rintro e w2 ⟨rfl, rfl⟩)
  exact bodyPost_ret (by simp [results, Tryd.results65, go_sem]; try rfl) rfl (HP.out _ _ rfl (by
    repeat' (first | (with_reducible refine Only.setCell ?_ ?_ _) | (with_reducible refine Only.alloc ?_ _) | (with_reducible refine Only.drewN ?_ _) | (with_reducible refine Only.drew ?_) | (with_reducible exact Only.refl _ _) | (right; simp; done) | (right; simp; omega))))

set_option maxHeartbeats 1000000 in
theorem simple_5 (op a b c n : Int) (w : World) (hn : 0 ≤ n ∧ n ≤ 18446744073709551615) (hs : winB op 0 19 = 5) :
    Calls Tryd.prog 65 #[.agg #[.int .i64 op, .int .i64 a, .int .i64 b, .int .i64 c, .int .u64 n]] w (SimplePost w ⟨8, winB a 0 6, 7, winB c 6 15, 0⟩) := by
  have HP : Hid (∀ e w', e = .returned (insV ⟨8, winB a 0 6, 7, winB c 6 15, 0⟩) → Only Nob w w' → SimplePost w ⟨8, winB a 0 6, 7, winB c 6 15, 0⟩ e w') := fun e w' h1 h2 => ⟨h1, h2⟩
  obtain ⟨n0, n1⟩ := hn
  have hm := Int.emod_lt_of_pos n (by decide : (0 : Int) < 64)
  have hm0 := Int.emod_nonneg n (by decide : (64 : Int) ≠ 0)
  go_enter Tryd.func65, Tryd.ntmps65
  go_wp2_with fail
  go_quiet ((go_at_call 64; exact quiet_left (reg_any _ _)))
  go_wp2_with (go_at_call 62; refine (within_in _ _ _ _ (by decide) (by decide) (by decide)).mono ?_; rintro e w2 ⟨rfl, rfl⟩)
  exact bodyPost_ret (by simp [results, Tryd.results65, go_sem]; try rfl) rfl (HP.out _ _ rfl (by
    repeat' (first | (with_reducible refine Only.setCell ?_ ?_ _) | (with_reducible refine Only.alloc ?_ _) | (with_reducible refine Only.drewN ?_ _) | (with_reducible refine Only.drew ?_) | (with_reducible exact Only.refl _ _) | (right; simp; done) | (right; simp; omega))))

set_option maxHeartbeats 1000000 in
theorem simple_6 (op a b c n : Int) (w : World) (hn : 0 ≤ n ∧ n ≤ 18446744073709551615) (hs : winB op 0 19 = 6) :
    Calls Tryd.prog 65 #[.agg #[.int .i64 op, .int .i64 a, .int .i64 b, .int .i64 c, .int .u64 n]] w (SimplePost w ⟨8, winB a 0 6, 7, winB c 6 15, 0⟩) := by
  have HP : Hid (∀ e w', e = .returned (insV ⟨8, winB a 0 6, 7, winB c 6 15, 0⟩) → Only Nob w w' → SimplePost w ⟨8, winB a 0 6, 7, winB c 6 15, 0⟩ e w') := fun e w' h1 h2 => ⟨h1, h2⟩
  obtain ⟨n0, n1⟩ := hn
  have hm := Int.emod_lt_of_pos n (by decide : (0 : Int) < 64)
  have hm0 := Int.emod_nonneg n (by decide : (64 : Int) ≠ 0)
  go_enter Tryd.func65, Tryd.ntmps65
  go_wp2_with fail
  go_quiet ((go_at_call 64; exact quiet_left (reg_any _ _)))
  go_wp2_with (go_at_call 62; refine (within_in _ _ _ _ (by decide) (by decide) (by decide)).mono ?_; rintro e w2 ⟨rfl, rfl⟩)
  exact bodyPost_ret (by simp [results, Tryd.results65, go_sem]; try rfl) rfl (HP.out _ _ rfl (by
    repeat' (first | (with_reducible refine Only.setCell ?_ ?_ _) | (with_reducible refine Only.alloc ?_ _) | (with_reducible refine Only.drewN ?_ _) | (with_reducible refine Only.drew ?_) | (with_reducible exact Only.refl _ _) | (right; simp; done) | (right; simp; omega))))

set_option maxHeartbeats 1000000 in
theorem simple_7 (op a b c n : Int) (w : World) (hn : 0 ≤ n ∧ n ≤ 18446744073709551615) (hs : winB op 0 19 = 7) :
    Calls Tryd.prog 65 #[.agg #[.int .i64 op, .int .i64 a, .int .i64 b, .int .i64 c, .int .u64 n]] w (SimplePost w ⟨8, winB a 0 6, 7, winB c 6 15, 0⟩) := by
  have HP : Hid (∀ e w', e = .returned (insV ⟨8, winB a 0 6, 7, winB c 6 15, 0⟩) → Only Nob w w' → SimplePost w ⟨8, winB a 0 6, 7, winB c 6 15, 0⟩ e w') := fun e w' h1 h2 => ⟨h1, h2⟩
  obtain ⟨n0, n1⟩ := hn
  have hm := Int.emod_lt_of_pos n (by decide : (0 : Int) < 64)
  have hm0 := Int.emod_nonneg n (by decide : (64 : Int) ≠ 0)
  go_enter Tryd.func65, Tryd.ntmps65
  go_wp2_with fail
  go_quiet ((go_at_call 64; exact quiet_left (reg_any _ _)))
  go_wp2_with (go_at_call 62; refine (within_in _ _ _ _ (by decide) (by decide) (by decide)).mono ?_; rintro e w2 ⟨rfl, rfl⟩)
  exact bodyPost_ret (by simp [results, Tryd.results65, go_sem]; try rfl) rfl (HP.out _ _ rfl (by
    repeat' (first | (with_reducible refine Only.setCell ?_ ?_ _) | (with_reducible refine Only.alloc ?_ _) | (with_reducible refine Only.drewN ?_ _) | (with_reducible refine Only.drew ?_) | (with_reducible exact Only.refl _ _) | (right; simp; done) | (right; simp; omega))))

set_option maxHeartbeats 1000000 in
theorem simple_8 (op a b c n : Int) (w : World) (hn : 0 ≤ n ∧ n ≤ 18446744073709551615) (hs : winB op 0 19 = 8) :
    Calls Tryd.prog 65 #[.agg #[.int .i64 op, .int .i64 a, .int .i64 b, .int .i64 c, .int .u64 n]] w (SimplePost w ⟨9, 7, winB b 0 6, winB c 6 15, 0⟩) := by
  have HP : Hid (∀ e w', e = .returned (insV ⟨9, 7, winB b 0 6, winB c 6 15, 0⟩) → Only Nob w w' → SimplePost w ⟨9, 7, winB b 0 6, winB c 6 15, 0⟩ e w') := fun e w' h1 h2 => ⟨h1, h2⟩
  obtain ⟨n0, n1⟩ := hn
  have hm := Int.emod_lt_of_pos n (by decide : (0 : Int) < 64)
  have hm0 := Int.emod_nonneg n (by decide : (64 : Int) ≠ 0)
  go_enter Tryd.func65, Tryd.ntmps65
  go_wp2_with fail
  go_quiet ((go_at_call 64; exact quiet_left (reg_any _ _)))
  go_wp2_with (go_at_call 62; refine (within_in _ _ _ _ (by decide) (by decide) (by decide)).mono ?_; rintro e w2 ⟨rfl, rfl⟩)
  exact bodyPost_ret (by simp [results, Tryd.results65, go_sem]; try rfl) rfl (HP.out _ _ rfl (by
    repeat' (first | (with_reducible refine Only.setCell ?_ ?_ _) | (with_reducible refine Only.alloc ?_ _) | (with_reducible refine Only.drewN ?_ _) | (with_reducible refine Only.drew ?_) | (with_reducible exact Only.refl _ _) | (right; simp; done) | (right; simp; omega))))

set_option maxHeartbeats 1000000 in
theorem simple_9 (op a b c n : Int) (w : World) (hn : 0 ≤ n ∧ n ≤ 18446744073709551615) (hs : winB op 0 19 = 9) :
    Calls Tryd.prog 65 #[.agg #[.int .i64 op, .int .i64 a, .int .i64 b, .int .i64 c, .int .u64 n]] w (SimplePost w ⟨9, 7, winB b 0 6, winB c 6 15, 0⟩) := by
  have HP : Hid (∀ e w', e = .returned (insV ⟨9, 7, winB b 0 6, winB c 6 15, 0⟩) → Only Nob w w' → SimplePost w ⟨9, 7, winB b 0 6, winB c 6 15, 0⟩ e w') := fun e w' h1 h2 => ⟨h1, h2⟩
  obtain ⟨n0, n1⟩ := hn
  have hm := Int.emod_lt_of_pos n (by decide : (0 : Int) < 64)
  have hm0 := Int.emod_nonneg n (by decide : (64 : Int) ≠ 0)
  go_enter Tryd.func65, Tryd.ntmps65
  go_wp2_with fail
  go_quiet ((go_at_call 64; exact quiet_left (reg_any _ _)))
  go_wp2_with (go_at_call 62; refine (within_in _ _ _ _ (by decide) (by decide) (by decide)).mono ?_; rintro e w2 ⟨rfl, rfl⟩)
  exact bodyPost_ret (by simp [results, Tryd.results65, go_sem]; try rfl) rfl (HP.out _ _ rfl (by
    repeat' (first | (with_reducible refine Only.setCell ?_ ?_ _) | (with_reducible refine Only.alloc ?_ _) | (with_reducible refine Only.drewN ?_ _) | (with_reducible refine Only.drew ?_) | (with_reducible exact Only.refl _ _) | (right; simp; done) | (right; simp; omega))))

set_option maxHeartbeats 1000000 in
theorem simple_10 (op a b c n : Int) (w : World) (hn : 0 ≤ n ∧ n ≤ 18446744073709551615) (hs : winB op 0 19 = 10) :
    Calls Tryd.prog 65 #[.agg #[.int .i64 op, .int .i64 a, .int .i64 b, .int .i64 c, .int .u64 n]] w (SimplePost w ⟨9, 7, winB b 0 6, winB c 6 15, 0⟩) := by
  have HP : Hid (∀ e w', e = .returned (insV ⟨9, 7, winB b 0 6, winB c 6 15, 0⟩) → Only Nob w w' → SimplePost w ⟨9, 7, winB b 0 6, winB c 6 15, 0⟩ e w') := fun e w' h1 h2 => ⟨h1, h2⟩
  obtain ⟨n0, n1⟩ := hn
  have hm := Int.emod_lt_of_pos n (by decide : (0 : Int) < 64)
  have hm0 := Int.emod_nonneg n (by decide : (64 : Int) ≠ 0)
  go_enter Tryd.func65, Tryd.ntmps65
  go_wp2_with fail
  go_quiet ((go_at_call 64; exact quiet_left (reg_any _ _)))
  go_wp2_with (go_at_call 62; refine (within_in _ _ _ _ (by decide) (by decide) (by decide)).mono ?_; rintro e w2 ⟨rfl, rfl⟩)
  exact bodyPost_ret (by simp [results, Tryd.results65, go_sem]; try rfl) rfl (HP.out _ _ rfl (by
    repeat' (first | (with_reducible refine Only.setCell ?_ ?_ _) | (with_reducible refine Only.alloc ?_ _) | (with_reducible refine Only.drewN ?_ _) | (with_reducible refine Only.drew ?_) | (with_reducible exact Only.refl _ _) | (right; simp; done) | (right; simp; omega))))

set_option maxHeartbeats 1000000 in
theorem simple_11 (op a b c n : Int) (w : World) (hn : 0 ≤ n ∧ n ≤ 18446744073709551615) (hs : winB op 0 19 = 11) :
    Calls Tryd.prog 65 #[.agg #[.int .i64 op, .int .i64 a, .int .i64 b, .int .i64 c, .int .u64 n]] w (SimplePost w ⟨8, winB a 0 6, winB b 0 6, winB c 0 3, 0⟩) := by
  have HP : Hid (∀ e w', e = .returned (insV ⟨8, winB a 0 6, winB b 0 6, winB c 0 3, 0⟩) → Only Nob w w' → SimplePost w ⟨8, winB a 0 6, winB b 0 6, winB c 0 3, 0⟩ e w') := fun e w' h1 h2 => ⟨h1, h2⟩
  obtain ⟨n0, n1⟩ := hn
  have hm := Int.emod_lt_of_pos n (by decide : (0 : Int) < 64)
  have hm0 := Int.emod_nonneg n (by decide : (64 : Int) ≠ 0)
  go_enter Tryd.func65, Tryd.ntmps65
  go_wp2_with fail
  go_quiet ((go_at_call 64; exact quiet_left (reg_any _ _)))
  go_wp2_with (go_at_call 62; refine (within_in _ _ _ _ (by decide) (by decide) (by decide)).mono ?_; rintro e w2 ⟨rfl, rfl⟩)
  exact bodyPost_ret (by simp [results, Tryd.results65, go_sem]; try rfl) rfl (HP.out _ _ rfl (by
    repeat' (first | (with_reducible refine Only.setCell ?_ ?_ _) | (with_reducible refine Only.alloc ?_ _) | (with_reducible refine Only.drewN ?_ _) | (with_reducible refine Only.drew ?_) | (with_reducible exact Only.refl _ _) | (right; simp; done) | (right; simp; omega))))

set_option maxHeartbeats 1000000 in
theorem simple_12 (op a b c n : Int) (w : World) (hn : 0 ≤ n ∧ n ≤ 18446744073709551615) (hs : winB op 0 19 = 12) :
    Calls Tryd.prog 65 #[.agg #[.int .i64 op, .int .i64 a, .int .i64 b, .int .i64 c, .int .u64 n]] w (SimplePost w ⟨9, winB a 0 6, winB b 0 6, winB c 0 3, 0⟩) := by
  have HP : Hid (∀ e w', e = .returned (insV ⟨9, winB a 0 6, winB b 0 6, winB c 0 3, 0⟩) → Only Nob w w' → SimplePost w ⟨9, winB a 0 6, winB b 0 6, winB c 0 3, 0⟩ e w') := fun e w' h1 h2 => ⟨h1, h2⟩
  obtain ⟨n0, n1⟩ := hn
  have hm := Int.emod_lt_of_pos n (by decide : (0 : Int) < 64)
  have hm0 := Int.emod_nonneg n (by decide : (64 : Int) ≠ 0)
  go_enter Tryd.func65, Tryd.ntmps65
  go_wp2_with fail
  go_quiet ((go_at_call 64; exact quiet_left (reg_any _ _)))
  go_wp2_with (go_at_call 62; refine (within_in _ _ _ _ (by decide) (by decide) (by decide)).mono ?_; rintro e w2 ⟨rfl, rfl⟩)
  exact bodyPost_ret (by simp [results, Tryd.results65, go_sem]; try rfl) rfl (HP.out _ _ rfl (by
    repeat' (first | (with_reducible refine Only.setCell ?_ ?_ _) | (with_reducible refine Only.alloc ?_ _) | (with_reducible refine Only.drewN ?_ _) | (with_reducible refine Only.drew ?_) | (with_reducible exact Only.refl _ _) | (right; simp; done) | (right; simp; omega))))

set_option maxHeartbeats 1000000 in
theorem simple_13 (op a b c n : Int) (w : World) (hn : 0 ≤ n ∧ n ≤ 18446744073709551615) (hs : winB op 0 19 = 13) :
    Calls Tryd.prog 65 #[.agg #[.int .i64 op, .int .i64 a, .int .i64 b, .int .i64 c, .int .u64 n]] w (SimplePost w ⟨10, winB a 0 6, winB b 0 6, 0, 0⟩) := by
  have HP : Hid (∀ e w', e = .returned (insV ⟨10, winB a 0 6, winB b 0 6, 0, 0⟩) → Only Nob w w' → SimplePost w ⟨10, winB a 0 6, winB b 0 6, 0, 0⟩ e w') := fun e w' h1 h2 => ⟨h1, h2⟩
  obtain ⟨n0, n1⟩ := hn
  have hm := Int.emod_lt_of_pos n (by decide : (0 : Int) < 64)
  have hm0 := Int.emod_nonneg n (by decide : (64 : Int) ≠ 0)
  go_enter Tryd.func65, Tryd.ntmps65
  go_wp2_with fail
  go_quiet ((go_at_call 64; exact quiet_left (reg_any _ _)))
  go_wp2_with (go_at_call 62; refine (within_in _ _ _ _ (by decide) (by decide) (by decide)).mono ?_; rintro e w2 ⟨rfl, rfl⟩)
  exact bodyPost_ret (by simp [results, Tryd.results65, go_sem]; try rfl) rfl (HP.out _ _ rfl (by
    repeat' (first | (with_reducible refine Only.setCell ?_ ?_ _) | (with_reducible refine Only.alloc ?_ _) | (with_reducible refine Only.drewN ?_ _) | (with_reducible refine Only.drew ?_) | (with_reducible exact Only.refl _ _) | (right; simp; done) | (right; simp; omega))))

set_option maxHeartbeats 1000000 in
theorem simple_14 (op a b c n : Int) (w : World) (hn : 0 ≤ n ∧ n ≤ 18446744073709551615) (hs : winB op 0 19 = 14) :
    Calls Tryd.prog 65 #[.agg #[.int .i64 op, .int .i64 a, .int .i64 b, .int .i64 c, .int .u64 n]] w (SimplePost w ⟨10, winB a 0 6, winB b 0 6, 0, 0⟩) := by
  have HP : Hid (∀ e w', e = .returned (insV ⟨10, winB a 0 6, winB b 0 6, 0, 0⟩) → Only Nob w w' → SimplePost w ⟨10, winB a 0 6, winB b 0 6, 0, 0⟩ e w') := fun e w' h1 h2 => ⟨h1, h2⟩
  obtain ⟨n0, n1⟩ := hn
  have hm := Int.emod_lt_of_pos n (by decide : (0 : Int) < 64)
  have hm0 := Int.emod_nonneg n (by decide : (64 : Int) ≠ 0)
  go_enter Tryd.func65, Tryd.ntmps65
  go_wp2_with fail
  go_quiet ((go_at_call 64; exact quiet_left (reg_any _ _)))
  go_wp2_with (go_at_call 62; refine (within_in _ _ _ _ (by decide) (by decide) (by decide)).mono ?_; rintro e w2 ⟨rfl, rfl⟩)
  exact bodyPost_ret (by simp [results, Tryd.results65, go_sem]; try rfl) rfl (HP.out _ _ rfl (by
    repeat' (first | (with_reducible refine Only.setCell ?_ ?_ _) | (with_reducible refine Only.alloc ?_ _) | (with_reducible refine Only.drewN ?_ _) | (with_reducible refine Only.drew ?_) | (with_reducible exact Only.refl _ _) | (right; simp; done) | (right; simp; omega))))

set_option maxHeartbeats 1000000 in
theorem simple_15 (op a b c n : Int) (w : World) (hn : 0 ≤ n ∧ n ≤ 18446744073709551615) (hs : winB op 0 19 = 15) :
    Calls Tryd.prog 65 #[.agg #[.int .i64 op, .int .i64 a, .int .i64 b, .int .i64 c, .int .u64 n]] w (SimplePost w ⟨11, winB a 0 6, 0, 0, 0⟩) := by
  have HP : Hid (∀ e w', e = .returned (insV ⟨11, winB a 0 6, 0, 0, 0⟩) → Only Nob w w' → SimplePost w ⟨11, winB a 0 6, 0, 0, 0⟩ e w') := fun e w' h1 h2 => ⟨h1, h2⟩
  obtain ⟨n0, n1⟩ := hn
  have hm := Int.emod_lt_of_pos n (by decide : (0 : Int) < 64)
  have hm0 := Int.emod_nonneg n (by decide : (64 : Int) ≠ 0)
  go_enter Tryd.func65, Tryd.ntmps65
  go_wp2_with fail
  go_quiet ((go_at_call 64; exact quiet_left (reg_any _ _)))
  go_wp2_with (go_at_call 62; refine (within_in _ _ _ _ (by decide) (by decide) (by decide)).mono ?_; rintro e w2 ⟨rfl, rfl⟩)
  exact bodyPost_ret (by simp [results, Tryd.results65, go_sem]; try rfl) rfl (HP.out _ _ rfl (by
    repeat' (first | (with_reducible refine Only.setCell ?_ ?_ _) | (with_reducible refine Only.alloc ?_ _) | (with_reducible refine Only.drewN ?_ _) | (with_reducible refine Only.drew ?_) | (with_reducible exact Only.refl _ _) | (right; simp; done) | (right; simp; omega))))

set_option maxHeartbeats 1000000 in
theorem simple_16 (op a b c n : Int) (w : World) (hn : 0 ≤ n ∧ n ≤ 18446744073709551615) (hs : winB op 0 19 = 16) :
    Calls Tryd.prog 65 #[.agg #[.int .i64 op, .int .i64 a, .int .i64 b, .int .i64 c, .int .u64 n]] w (SimplePost w ⟨8, winB a 0 6, 7, winB c 6 15, 0⟩) := by
  have HP : Hid (∀ e w', e = .returned (insV ⟨8, winB a 0 6, 7, winB c 6 15, 0⟩) → Only Nob w w' → SimplePost w ⟨8, winB a 0 6, 7, winB c 6 15, 0⟩ e w') := fun e w' h1 h2 => ⟨h1, h2⟩
  obtain ⟨n0, n1⟩ := hn
  have hm := Int.emod_lt_of_pos n (by decide : (0 : Int) < 64)
  have hm0 := Int.emod_nonneg n (by decide : (64 : Int) ≠ 0)
  go_enter Tryd.func65, Tryd.ntmps65
  go_wp2_with fail
  go_quiet ((go_at_call 64; exact quiet_left (reg_any _ _)))
  go_wp2_with (go_at_call 62; refine (within_in _ _ _ _ (by decide) (by decide) (by decide)).mono ?_; rintro e w2 ⟨rfl, rfl⟩)
  exact bodyPost_ret (by simp [results, Tryd.results65, go_sem]; try rfl) rfl (HP.out _ _ rfl (by
    repeat' (first | (with_reducible refine Only.setCell ?_ ?_ _) | (with_reducible refine Only.alloc ?_ _) | (with_reducible refine Only.drewN ?_ _) | (with_reducible refine Only.drew ?_) | (with_reducible exact Only.refl _ _) | (right; simp; done) | (right; simp; omega))))

set_option maxHeartbeats 1000000 in
theorem simple_17 (op a b c n : Int) (w : World) (hn : 0 ≤ n ∧ n ≤ 18446744073709551615) (hs : winB op 0 19 = 17) :
    Calls Tryd.prog 65 #[.agg #[.int .i64 op, .int .i64 a, .int .i64 b, .int .i64 c, .int .u64 n]] w (SimplePost w ⟨21, winB a 0 6, 0, 0, 0⟩) := by
  have HP : Hid (∀ e w', e = .returned (insV ⟨21, winB a 0 6, 0, 0, 0⟩) → Only Nob w w' → SimplePost w ⟨21, winB a 0 6, 0, 0, 0⟩ e w') := fun e w' h1 h2 => ⟨h1, h2⟩
  obtain ⟨n0, n1⟩ := hn
  have hm := Int.emod_lt_of_pos n (by decide : (0 : Int) < 64)
  have hm0 := Int.emod_nonneg n (by decide : (64 : Int) ≠ 0)
  go_enter Tryd.func65, Tryd.ntmps65
  go_wp2_with fail
  go_quiet ((go_at_call 64; exact quiet_left (reg_any _ _)))
  go_wp2_with (go_at_call 62; refine (within_in _ _ _ _ (by decide) (by decide) (by decide)).mono ?_; rintro e w2 ⟨rfl, rfl⟩)
  exact bodyPost_ret (by simp [results, Tryd.results65, go_sem]; try rfl) rfl (HP.out _ _ rfl (by
    repeat' (first | (with_reducible refine Only.setCell ?_ ?_ _) | (with_reducible refine Only.alloc ?_ _) | (with_reducible refine Only.drewN ?_ _) | (with_reducible refine Only.drew ?_) | (with_reducible exact Only.refl _ _) | (right; simp; done) | (right; simp; omega))))

set_option maxHeartbeats 1000000 in
theorem simple_18 (op a b c n : Int) (w : World) (hn : 0 ≤ n ∧ n ≤ 18446744073709551615) (hs : winB op 0 19 = 18) :
    Calls Tryd.prog 65 #[.agg #[.int .i64 op, .int .i64 a, .int .i64 b, .int .i64 c, .int .u64 n]] w (SimplePost w ⟨21, winB a 0 6, 0, 0, 0⟩) := by
  have HP : Hid (∀ e w', e = .returned (insV ⟨21, winB a 0 6, 0, 0, 0⟩) → Only Nob w w' → SimplePost w ⟨21, winB a 0 6, 0, 0, 0⟩ e w') := fun e w' h1 h2 => ⟨h1, h2⟩
  obtain ⟨n0, n1⟩ := hn
  have hm := Int.emod_lt_of_pos n (by decide : (0 : Int) < 64)
  have hm0 := Int.emod_nonneg n (by decide : (64 : Int) ≠ 0)
  go_enter Tryd.func65, Tryd.ntmps65
  go_wp2_with fail
  go_quiet ((go_at_call 64; exact quiet_left (reg_any _ _)))
  go_wp2_with (go_at_call 62; refine (within_in _ _ _ _ (by decide) (by decide) (by decide)).mono ?_; rintro e w2 ⟨rfl, rfl⟩)
  exact bodyPost_ret (by simp [results, Tryd.results65, go_sem]; try rfl) rfl (HP.out _ _ rfl (by
    repeat' (first | (with_reducible refine Only.setCell ?_ ?_ _) | (with_reducible refine Only.alloc ?_ _) | (with_reducible refine Only.drewN ?_ _) | (with_reducible refine Only.drew ?_) | (with_reducible exact Only.refl _ _) | (right; simp; done) | (right; simp; omega))))

set_option maxHeartbeats 1000000 in
theorem simple_19 (op a b c n : Int) (w : World) (hn : 0 ≤ n ∧ n ≤ 18446744073709551615) (hs : winB op 0 19 = 19) :
    Calls Tryd.prog 65 #[.agg #[.int .i64 op, .int .i64 a, .int .i64 b, .int .i64 c, .int .u64 n]] w (SimplePost w ⟨21, winB a 0 6, 0, 0, 0⟩) := by
  have HP : Hid (∀ e w', e = .returned (insV ⟨21, winB a 0 6, 0, 0, 0⟩) → Only Nob w w' → SimplePost w ⟨21, winB a 0 6, 0, 0, 0⟩ e w') := fun e w' h1 h2 => ⟨h1, h2⟩
  obtain ⟨n0, n1⟩ := hn
  have hm := Int.emod_lt_of_pos n (by decide : (0 : Int) < 64)
  have hm0 := Int.emod_nonneg n (by decide : (64 : Int) ≠ 0)
  go_enter Tryd.func65, Tryd.ntmps65
  go_wp2_with fail
  go_quiet ((go_at_call 64; exact quiet_left (reg_any _ _)))
  go_wp2_with (go_at_call 62; refine (within_in _ _ _ _ (by decide) (by decide) (by decide)).mono ?_; rintro e w2 ⟨rfl, rfl⟩)
  exact bodyPost_ret (by simp [results, Tryd.results65, go_sem]; try rfl) rfl (HP.out _ _ rfl (by
    repeat' (first | (with_reducible refine Only.setCell ?_ ?_ _) | (with_reducible refine Only.alloc ?_ _) | (with_reducible refine Only.drewN ?_ _) | (with_reducible refine Only.drew ?_) | (with_reducible exact Only.refl _ _) | (right; simp; done) | (right; simp; omega))))

theorem simple_any (x : PIns) (w : World) (hn : 0 ≤ x.n ∧ x.n ≤ 18446744073709551615) :
    Calls Tryd.prog 65 #[insV x] w (SimplePost w (simpleP x)) := by
  obtain ⟨op, a, b, c, n⟩ := x
  have h := winB_in (n := op) (lo := 0) (hi := 19) (by decide)
  unfold simpleP
  dsimp only at hn ⊢
  rcases (by omega : winB op 0 19 = 0 ∨ winB op 0 19 = 1 ∨ winB op 0 19 = 2 ∨ winB op 0 19 = 3 ∨ winB op 0 19 = 4 ∨ winB op 0 19 = 5 ∨ winB op 0 19 = 6 ∨ winB op 0 19 = 7 ∨ winB op 0 19 = 8 ∨ winB op 0 19 = 9 ∨ winB op 0 19 = 10 ∨ winB op 0 19 = 11 ∨ winB op 0 19 = 12 ∨ winB op 0 19 = 13 ∨ winB op 0 19 = 14 ∨ winB op 0 19 = 15 ∨ winB op 0 19 = 16 ∨ winB op 0 19 = 17 ∨ winB op 0 19 = 18 ∨ winB op 0 19 = 19) with hs | hs | hs | hs | hs | hs | hs | hs | hs | hs | hs | hs | hs | hs | hs | hs | hs | hs | hs | hs
  · rw [hs]; exact simple_0 op a b c n w hn hs
  · rw [hs]; exact simple_1 op a b c n w hn hs
  · rw [hs]; exact simple_2 op a b c n w hn hs
  · rw [hs]; exact simple_3 op a b c n w hn hs
  · rw [hs]; exact simple_4 op a b c n w hn hs
  · rw [hs]; exact simple_5 op a b c n w hn hs
  · rw [hs]; exact simple_6 op a b c n w hn hs
  · rw [hs]; exact simple_7 op a b c n w hn hs
  · rw [hs]; exact simple_8 op a b c n w hn hs
  · rw [hs]; exact simple_9 op a b c n w hn hs
  · rw [hs]; exact simple_10 op a b c n w hn hs
  · rw [hs]; exact simple_11 op a b c n w hn hs
  · rw [hs]; exact simple_12 op a b c n w hn hs
  · rw [hs]; exact simple_13 op a b c n w hn hs
  · rw [hs]; exact simple_14 op a b c n w hn hs
  · rw [hs]; exact simple_15 op a b c n w hn hs
  · rw [hs]; exact simple_16 op a b c n w hn hs
  · rw [hs]; exact simple_17 op a b c n w hn hs
  · rw [hs]; exact simple_18 op a b c n w hn hs
  · rw [hs]; exact simple_19 op a b c n w hn hs
end Go.Proofs.YtngahgfppbjebaaDoor
