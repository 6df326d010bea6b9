/-
  The contract of the reference's May.
-/
import Derived.Test.YtngahgfppbjebaaDoorRefRow
namespace Go.Proofs.YtngahgfppbjebaaDoor
open Go.RowKit
set_option linter.unusedVariables false
set_option linter.unusedSimpArgs false

def rmayB (op a b c N : Int) : Bool := opB op && (rN op || N == 0) && withinB a (rA op) && withinB b (rB op) && withinB c (rC op) && (op != 23 || decide (1 ≤ a))

set_option maxHeartbeats 1000000 in
theorem rmay_op (op a b c N : Int) (w : World) (h : opB op = false) :
    Calls Tryd.prog 66 #[.agg #[.int .i64 op, .int .i64 a, .int .i64 b, .int .i64 c, .int .u64 N]] w fun e w' => e = .returned (.bool (rmayB op a b c N)) ∧ Only Nob w w' := by
  have HM : Hid (rmayB op a b c N = false) := by
    unfold Hid
    simp [rmayB, h]
  go_enter Tryd.func66, Tryd.ntmps66
  go_wp2_with (first
    | (go_at_call 93; refine (rowOf_any _ _).mono ?_; rintro e w1 ⟨rfl, rfl⟩)
    | (go_at_call 94; refine (within_any _ _ _).mono ?_; rintro e w1 ⟨rfl, rfl⟩))
  go_ret
  refine ⟨by rw [HM.out]; rfl, ?_⟩
  repeat' (first | (with_reducible refine Only.setCell ?_ ?_ _) | (with_reducible refine Only.alloc ?_ _) | (with_reducible refine Only.drewN ?_ _) | (with_reducible refine Only.drew ?_) | (with_reducible exact Only.refl _ _) | (right; simp; done) | (right; simp; omega))

set_option maxHeartbeats 1000000 in
theorem rmay_n (op a b c N : Int) (w : World) (h : opB op = true) (hr : rN op = false) (hn : (N != 0) = true) :
    Calls Tryd.prog 66 #[.agg #[.int .i64 op, .int .i64 a, .int .i64 b, .int .i64 c, .int .u64 N]] w fun e w' => e = .returned (.bool (rmayB op a b c N)) ∧ Only Nob w w' := by
  have HM : Hid (rmayB op a b c N = false) := by
    unfold Hid
    rw [bne_iff_ne] at hn; simp [rmayB, hr, hn]
  go_enter Tryd.func66, Tryd.ntmps66
  go_wp2_with (first
    | (go_at_call 93; refine (rowOf_any _ _).mono ?_; rintro e w1 ⟨rfl, rfl⟩)
    | (go_at_call 94; refine (within_any _ _ _).mono ?_; rintro e w1 ⟨rfl, rfl⟩))
  go_ret
  refine ⟨by rw [HM.out]; rfl, ?_⟩
  repeat' (first | (with_reducible refine Only.setCell ?_ ?_ _) | (with_reducible refine Only.alloc ?_ _) | (with_reducible refine Only.drewN ?_ _) | (with_reducible refine Only.drew ?_) | (with_reducible exact Only.refl _ _) | (right; simp; done) | (right; simp; omega))

set_option maxHeartbeats 1000000 in
theorem rmay_ax (op a b c N : Int) (w : World) (h : opB op = true) (hr : rN op = true) (ha : withinB a (rA op) = false) :
    Calls Tryd.prog 66 #[.agg #[.int .i64 op, .int .i64 a, .int .i64 b, .int .i64 c, .int .u64 N]] w fun e w' => e = .returned (.bool (rmayB op a b c N)) ∧ Only Nob w w' := by
  have HM : Hid (rmayB op a b c N = false) := by
    unfold Hid
    simp [rmayB, ha]
  go_enter Tryd.func66, Tryd.ntmps66
  go_wp2_with (first
    | (go_at_call 93; refine (rowOf_any _ _).mono ?_; rintro e w1 ⟨rfl, rfl⟩)
    | (go_at_call 94; refine (within_any _ _ _).mono ?_; rintro e w1 ⟨rfl, rfl⟩))
  go_ret
  refine ⟨by rw [HM.out]; rfl, ?_⟩
  repeat' (first | (with_reducible refine Only.setCell ?_ ?_ _) | (with_reducible refine Only.alloc ?_ _) | (with_reducible refine Only.drewN ?_ _) | (with_reducible refine Only.drew ?_) | (with_reducible exact Only.refl _ _) | (right; simp; done) | (right; simp; omega))

set_option maxHeartbeats 1000000 in
theorem rmay_bx (op a b c N : Int) (w : World) (h : opB op = true) (hr : rN op = true) (ha : withinB a (rA op) = true) (hb : withinB b (rB op) = false) :
    Calls Tryd.prog 66 #[.agg #[.int .i64 op, .int .i64 a, .int .i64 b, .int .i64 c, .int .u64 N]] w fun e w' => e = .returned (.bool (rmayB op a b c N)) ∧ Only Nob w w' := by
  have HM : Hid (rmayB op a b c N = false) := by
    unfold Hid
    simp [rmayB, hb]
  go_enter Tryd.func66, Tryd.ntmps66
  go_wp2_with (first
    | (go_at_call 93; refine (rowOf_any _ _).mono ?_; rintro e w1 ⟨rfl, rfl⟩)
    | (go_at_call 94; refine (within_any _ _ _).mono ?_; rintro e w1 ⟨rfl, rfl⟩))
  go_ret
  refine ⟨by rw [HM.out]; rfl, ?_⟩
  repeat' (first | (with_reducible refine Only.setCell ?_ ?_ _) | (with_reducible refine Only.alloc ?_ _) | (with_reducible refine Only.drewN ?_ _) | (with_reducible refine Only.drew ?_) | (with_reducible exact Only.refl _ _) | (right; simp; done) | (right; simp; omega))

set_option maxHeartbeats 1000000 in
theorem rmay_cx (op a b c N : Int) (w : World) (h : opB op = true) (hr : rN op = true) (ha : withinB a (rA op) = true) (hb : withinB b (rB op) = true) (hc : withinB c (rC op) = false) :
    Calls Tryd.prog 66 #[.agg #[.int .i64 op, .int .i64 a, .int .i64 b, .int .i64 c, .int .u64 N]] w fun e w' => e = .returned (.bool (rmayB op a b c N)) ∧ Only Nob w w' := by
  have HM : Hid (rmayB op a b c N = false) := by
    unfold Hid
    simp [rmayB, hc]
  go_enter Tryd.func66, Tryd.ntmps66
  go_wp2_with (first
    | (go_at_call 93; refine (rowOf_any _ _).mono ?_; rintro e w1 ⟨rfl, rfl⟩)
    | (go_at_call 94; refine (within_any _ _ _).mono ?_; rintro e w1 ⟨rfl, rfl⟩))
  go_ret
  refine ⟨by rw [HM.out]; rfl, ?_⟩
  repeat' (first | (with_reducible refine Only.setCell ?_ ?_ _) | (with_reducible refine Only.alloc ?_ _) | (with_reducible refine Only.drewN ?_ _) | (with_reducible refine Only.drew ?_) | (with_reducible exact Only.refl _ _) | (right; simp; done) | (right; simp; omega))

set_option maxHeartbeats 1000000 in
theorem rmay_dx (op a b c N : Int) (w : World) (h : opB op = true) (hr : rN op = true) (ha : withinB a (rA op) = true) (hb : withinB b (rB op) = true) (hc : withinB c (rC op) = true) (hd : (op != 23) = true) :
    Calls Tryd.prog 66 #[.agg #[.int .i64 op, .int .i64 a, .int .i64 b, .int .i64 c, .int .u64 N]] w fun e w' => e = .returned (.bool (rmayB op a b c N)) ∧ Only Nob w w' := by
  have HM : Hid (rmayB op a b c N = true) := by
    unfold Hid
    have hn2 : (rN op || N == 0) = true := by first | (simp [hr]; done) | (rw [bne_eq_false_iff_eq] at hn; simp [hn])
    simp only [rmayB, h, hn2, ha, hb, hc, hd]; rfl
  go_enter Tryd.func66, Tryd.ntmps66
  go_wp2_with (first
    | (go_at_call 93; refine (rowOf_any _ _).mono ?_; rintro e w1 ⟨rfl, rfl⟩)
    | (go_at_call 94; refine (within_any _ _ _).mono ?_; rintro e w1 ⟨rfl, rfl⟩))
  go_ret
  refine ⟨by rw [HM.out]; rfl, ?_⟩
  repeat' (first | (with_reducible refine Only.setCell ?_ ?_ _) | (with_reducible refine Only.alloc ?_ _) | (with_reducible refine Only.drewN ?_ _) | (with_reducible refine Only.drew ?_) | (with_reducible exact Only.refl _ _) | (right; simp; done) | (right; simp; omega))

set_option maxHeartbeats 1000000 in
theorem rmay_ex (op a b c N : Int) (w : World) (h : opB op = true) (hr : rN op = true) (ha : withinB a (rA op) = true) (hb : withinB b (rB op) = true) (hc : withinB c (rC op) = true) (hd : (op != 23) = false) :
    Calls Tryd.prog 66 #[.agg #[.int .i64 op, .int .i64 a, .int .i64 b, .int .i64 c, .int .u64 N]] w fun e w' => e = .returned (.bool (rmayB op a b c N)) ∧ Only Nob w w' := by
  have HM : Hid (rmayB op a b c N = decide (1 ≤ a)) := by
    unfold Hid
    have hn2 : (rN op || N == 0) = true := by first | (simp [hr]; done) | (rw [bne_eq_false_iff_eq] at hn; simp [hn])
    simp only [rmayB, h, hn2, ha, hb, hc, hd]; rfl
  go_enter Tryd.func66, Tryd.ntmps66
  go_wp2_with (first
    | (go_at_call 93; refine (rowOf_any _ _).mono ?_; rintro e w1 ⟨rfl, rfl⟩)
    | (go_at_call 94; refine (within_any _ _ _).mono ?_; rintro e w1 ⟨rfl, rfl⟩))
  go_ret
  refine ⟨by rw [HM.out]; rfl, ?_⟩
  repeat' (first | (with_reducible refine Only.setCell ?_ ?_ _) | (with_reducible refine Only.alloc ?_ _) | (with_reducible refine Only.drewN ?_ _) | (with_reducible refine Only.drew ?_) | (with_reducible exact Only.refl _ _) | (right; simp; done) | (right; simp; omega))

set_option maxHeartbeats 1000000 in
theorem rmay_ay (op a b c N : Int) (w : World) (h : opB op = true) (hr : rN op = false) (hn : (N != 0) = false) (ha : withinB a (rA op) = false) :
    Calls Tryd.prog 66 #[.agg #[.int .i64 op, .int .i64 a, .int .i64 b, .int .i64 c, .int .u64 N]] w fun e w' => e = .returned (.bool (rmayB op a b c N)) ∧ Only Nob w w' := by
  have HM : Hid (rmayB op a b c N = false) := by
    unfold Hid
    simp [rmayB, ha]
  go_enter Tryd.func66, Tryd.ntmps66
  go_wp2_with (first
    | (go_at_call 93; refine (rowOf_any _ _).mono ?_; rintro e w1 ⟨rfl, rfl⟩)
    | (go_at_call 94; refine (within_any _ _ _).mono ?_; rintro e w1 ⟨rfl, rfl⟩))
  go_ret
  refine ⟨by rw [HM.out]; rfl, ?_⟩
  repeat' (first | (with_reducible refine Only.setCell ?_ ?_ _) | (with_reducible refine Only.alloc ?_ _) | (with_reducible refine Only.drewN ?_ _) | (with_reducible refine Only.drew ?_) | (with_reducible exact Only.refl _ _) | (right; simp; done) | (right; simp; omega))

set_option maxHeartbeats 1000000 in
theorem rmay_by (op a b c N : Int) (w : World) (h : opB op = true) (hr : rN op = false) (hn : (N != 0) = false) (ha : withinB a (rA op) = true) (hb : withinB b (rB op) = false) :
    Calls Tryd.prog 66 #[.agg #[.int .i64 op, .int .i64 a, .int .i64 b, .int .i64 c, .int .u64 N]] w fun e w' => e = .returned (.bool (rmayB op a b c N)) ∧ Only Nob w w' := by
  have HM : Hid (rmayB op a b c N = false) := by
    unfold Hid
    simp [rmayB, hb]
  go_enter Tryd.func66, Tryd.ntmps66
  go_wp2_with (first
    | (go_at_call 93; refine (rowOf_any _ _).mono ?_; rintro e w1 ⟨rfl, rfl⟩)
    | (go_at_call 94; refine (within_any _ _ _).mono ?_; rintro e w1 ⟨rfl, rfl⟩))
  go_ret
  refine ⟨by rw [HM.out]; rfl, ?_⟩
  repeat' (first | (with_reducible refine Only.setCell ?_ ?_ _) | (with_reducible refine Only.alloc ?_ _) | (with_reducible refine Only.drewN ?_ _) | (with_reducible refine Only.drew ?_) | (with_reducible exact Only.refl _ _) | (right; simp; done) | (right; simp; omega))

set_option maxHeartbeats 1000000 in
theorem rmay_cy (op a b c N : Int) (w : World) (h : opB op = true) (hr : rN op = false) (hn : (N != 0) = false) (ha : withinB a (rA op) = true) (hb : withinB b (rB op) = true) (hc : withinB c (rC op) = false) :
    Calls Tryd.prog 66 #[.agg #[.int .i64 op, .int .i64 a, .int .i64 b, .int .i64 c, .int .u64 N]] w fun e w' => e = .returned (.bool (rmayB op a b c N)) ∧ Only Nob w w' := by
  have HM : Hid (rmayB op a b c N = false) := by
    unfold Hid
    simp [rmayB, hc]
  go_enter Tryd.func66, Tryd.ntmps66
  go_wp2_with (first
    | (go_at_call 93; refine (rowOf_any _ _).mono ?_; rintro e w1 ⟨rfl, rfl⟩)
    | (go_at_call 94; refine (within_any _ _ _).mono ?_; rintro e w1 ⟨rfl, rfl⟩))
  go_ret
  refine ⟨by rw [HM.out]; rfl, ?_⟩
  repeat' (first | (with_reducible refine Only.setCell ?_ ?_ _) | (with_reducible refine Only.alloc ?_ _) | (with_reducible refine Only.drewN ?_ _) | (with_reducible refine Only.drew ?_) | (with_reducible exact Only.refl _ _) | (right; simp; done) | (right; simp; omega))

set_option maxHeartbeats 1000000 in
theorem rmay_dy (op a b c N : Int) (w : World) (h : opB op = true) (hr : rN op = false) (hn : (N != 0) = false) (ha : withinB a (rA op) = true) (hb : withinB b (rB op) = true) (hc : withinB c (rC op) = true) (hd : (op != 23) = true) :
    Calls Tryd.prog 66 #[.agg #[.int .i64 op, .int .i64 a, .int .i64 b, .int .i64 c, .int .u64 N]] w fun e w' => e = .returned (.bool (rmayB op a b c N)) ∧ Only Nob w w' := by
  have HM : Hid (rmayB op a b c N = true) := by
    unfold Hid
    have hn2 : (rN op || N == 0) = true := by first | (simp [hr]; done) | (rw [bne_eq_false_iff_eq] at hn; simp [hn])
    simp only [rmayB, h, hn2, ha, hb, hc, hd]; rfl
  go_enter Tryd.func66, Tryd.ntmps66
  go_wp2_with (first
    | (go_at_call 93; refine (rowOf_any _ _).mono ?_; rintro e w1 ⟨rfl, rfl⟩)
    | (go_at_call 94; refine (within_any _ _ _).mono ?_; rintro e w1 ⟨rfl, rfl⟩))
  go_ret
  refine ⟨by rw [HM.out]; rfl, ?_⟩
  repeat' (first | (with_reducible refine Only.setCell ?_ ?_ _) | (with_reducible refine Only.alloc ?_ _) | (with_reducible refine Only.drewN ?_ _) | (with_reducible refine Only.drew ?_) | (with_reducible exact Only.refl _ _) | (right; simp; done) | (right; simp; omega))

set_option maxHeartbeats 1000000 in
theorem rmay_ey (op a b c N : Int) (w : World) (h : opB op = true) (hr : rN op = false) (hn : (N != 0) = false) (ha : withinB a (rA op) = true) (hb : withinB b (rB op) = true) (hc : withinB c (rC op) = true) (hd : (op != 23) = false) :
    Calls Tryd.prog 66 #[.agg #[.int .i64 op, .int .i64 a, .int .i64 b, .int .i64 c, .int .u64 N]] w fun e w' => e = .returned (.bool (rmayB op a b c N)) ∧ Only Nob w w' := by
  have HM : Hid (rmayB op a b c N = decide (1 ≤ a)) := by
    unfold Hid
    have hn2 : (rN op || N == 0) = true := by first | (simp [hr]; done) | (rw [bne_eq_false_iff_eq] at hn; simp [hn])
    simp only [rmayB, h, hn2, ha, hb, hc, hd]; rfl
  go_enter Tryd.func66, Tryd.ntmps66
  go_wp2_with (first
    | (go_at_call 93; refine (rowOf_any _ _).mono ?_; rintro e w1 ⟨rfl, rfl⟩)
    | (go_at_call 94; refine (within_any _ _ _).mono ?_; rintro e w1 ⟨rfl, rfl⟩))
  go_ret
  refine ⟨by rw [HM.out]; rfl, ?_⟩
  repeat' (first | (with_reducible refine Only.setCell ?_ ?_ _) | (with_reducible refine Only.alloc ?_ _) | (with_reducible refine Only.drewN ?_ _) | (with_reducible refine Only.drew ?_) | (with_reducible exact Only.refl _ _) | (right; simp; done) | (right; simp; omega))

theorem rmay_any (op a b c N : Int) (w : World) :
    Calls Tryd.prog 66 #[.agg #[.int .i64 op, .int .i64 a, .int .i64 b, .int .i64 c, .int .u64 N]] w fun e w' => e = .returned (.bool (rmayB op a b c N)) ∧ Only Nob w w' := by
  cases h : opB op
  · exact rmay_op op a b c N w h
  · cases hr : rN op
    · cases hn : (N != 0)
      · cases ha : withinB a (rA op)
        · exact rmay_ay op a b c N w h hr hn ha
        · cases hb : withinB b (rB op)
          · exact rmay_by op a b c N w h hr hn ha hb
          · cases hc : withinB c (rC op)
            · exact rmay_cy op a b c N w h hr hn ha hb hc
            · cases hd : (op != 23)
              · exact rmay_ey op a b c N w h hr hn ha hb hc hd
              · exact rmay_dy op a b c N w h hr hn ha hb hc hd
      · exact rmay_n op a b c N w h hr hn
    · cases ha : withinB a (rA op)
      · exact rmay_ax op a b c N w h hr ha
      · cases hb : withinB b (rB op)
        · exact rmay_bx op a b c N w h hr ha hb
        · cases hc : withinB c (rC op)
          · exact rmay_cx op a b c N w h hr ha hb hc
          · cases hd : (op != 23)
            · exact rmay_ex op a b c N w h hr ha hb hc hd
            · exact rmay_dx op a b c N w h hr ha hb hc hd

theorem rmay_may (op a b c N : Int) : rmayB op a b c N = mayB op a b c N := by
  cases h : opB op
  · simp [rmayB, mayB, h]
  · have h2 : 1 ≤ op ∧ op ≤ 23 := by simpa [opB] using h
    rw [Bool.eq_iff_iff]
    simp only [rmayB, mayB, h, withinB, fitsB, rN, Bool.and_eq_true, Bool.or_eq_true, decide_eq_true_eq, beq_iff_eq, bne_iff_ne]
    rcases (by omega : op = 1 ∨ op = 2 ∨ op = 3 ∨ op = 4 ∨ op = 5 ∨ op = 6 ∨ op = 7 ∨ op = 8 ∨ op = 9 ∨ op = 10 ∨ op = 11 ∨ op = 12 ∨ op = 13 ∨ op = 14 ∨ op = 15 ∨ op = 16 ∨ op = 17 ∨ op = 18 ∨ op = 19 ∨ op = 20 ∨ op = 21 ∨ op = 22 ∨ op = 23) with rfl | rfl | rfl | rfl | rfl | rfl | rfl | rfl | rfl | rfl | rfl | rfl | rfl | rfl | rfl | rfl | rfl | rfl | rfl | rfl | rfl | rfl | rfl <;>
      (simp only [rA, rB, rC, fAl, fAh, fBh, fCh]; simp; omega)

/-- The number that 'Within' brings. -/
def winB (n lo hi : Int) : Int := lo + n % (hi - lo + 1)
theorem winB_in {n lo hi : Int} (h : lo ≤ hi) : lo ≤ winB n lo hi ∧ winB n lo hi ≤ hi := by
  have h1 := Int.emod_nonneg n (by omega : hi - lo + 1 ≠ 0)
  have h2 := Int.emod_lt_of_pos n (by omega : 0 < hi - lo + 1)
  unfold winB
  omega
end Go.Proofs.YtngahgfppbjebaaDoor
