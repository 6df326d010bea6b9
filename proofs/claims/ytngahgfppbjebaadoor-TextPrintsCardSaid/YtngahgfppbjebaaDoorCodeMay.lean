/-
  The contract of code.May.
-/
import Derived.Test.YtngahgfppbjebaaDoorCodeFields
namespace Go.Proofs.YtngahgfppbjebaaDoor
open Go.RowKit
set_option linter.unusedVariables false
set_option linter.unusedSimpArgs false

def opB (op : Int) : Bool := decide (1 ≤ op ∧ op ≤ 23)
def mayB (op a b c N : Int) : Bool := opB op && fitsB (fAl op) (fAh op) a && fitsB 0 (fBh op) b && fitsB 0 (fCh op) c && (decide (N = 0) || decide (op = 1))

theorem name_ok {op : Int} (h : opB op = true) : (atList nameList op).toList.isEmpty = false := by
  have h2 : 1 ≤ op ∧ op ≤ 23 := by simpa [opB] using h
  rcases (by omega : op = 1 ∨ op = 2 ∨ op = 3 ∨ op = 4 ∨ op = 5 ∨ op = 6 ∨ op = 7 ∨ op = 8 ∨ op = 9 ∨ op = 10 ∨ op = 11 ∨ op = 12 ∨ op = 13 ∨ op = 14 ∨ op = 15 ∨ op = 16 ∨ op = 17 ∨ op = 18 ∨ op = 19 ∨ op = 20 ∨ op = 21 ∨ op = 22 ∨ op = 23) with rfl | rfl | rfl | rfl | rfl | rfl | rfl | rfl | rfl | rfl | rfl | rfl | rfl | rfl | rfl | rfl | rfl | rfl | rfl | rfl | rfl | rfl | rfl <;> (rw [ByteArray.toList_eq]; rfl)
theorem name_no {op : Int} (h : opB op = false) : atList nameList op = ⟨#[]⟩ := by
  have h2 : ¬ (1 ≤ op ∧ op ≤ 23) := by simpa [opB] using h
  unfold atList
  by_cases h0 : 0 ≤ op
  · obtain ⟨k, rfl⟩ := Int.eq_ofNat_of_zero_le h0
    rcases (by omega : k = 0 ∨ 24 ≤ k) with rfl | hk
    · rfl
    · rw [if_pos (by omega)]
      have hl : nameList.length ≤ (Int.toNat (k : Int)) := by
        have : nameList.length = 24 := rfl
        omega
      rw [List.getD_eq_getElem?_getD, List.getElem?_eq_none hl]
      rfl
  · rw [if_neg h0]

set_option maxHeartbeats 1000000 in
theorem may_op (op a b c N : Int) (w : World) (h : opB op = false) :
    Calls Tryd.prog 53 #[.agg #[.int .i64 op, .int .i64 a, .int .i64 b, .int .i64 c, .int .u64 N]] w fun e w' => e = .returned (.bool (mayB op a b c N)) ∧ Only Nob w w' := by
  have hn := name_no h
  have HM : Hid (mayB op a b c N = false) := by unfold Hid; simp [mayB, h]
  go_enter Tryd.func53, Tryd.ntmps53
  go_wp2_with (first
    | (go_at_call 83; refine (fields_any _ _).mono ?_; rintro e w1 ⟨j, rfl, rfl⟩)
    | (go_at_call 40; refine (name_any _ _).mono ?_; rintro e w1 ⟨rfl, rfl⟩)
    | (go_at_call 84; refine (fits_any _ _ _ _).mono ?_; rintro e w1 ⟨rfl, rfl⟩))
  go_ret
  refine ⟨by rw [HM.out]; rfl, ?_⟩
  repeat' (first | (with_reducible refine Only.setCell ?_ ?_ _) | (with_reducible refine Only.alloc ?_ _) | (with_reducible refine Only.drewN ?_ _) | (with_reducible refine Only.drew ?_) | (with_reducible exact Only.refl _ _) | (right; simp; done) | (right; simp; omega))

set_option maxHeartbeats 1000000 in
theorem may_a (op a b c N : Int) (w : World) (h : opB op = true) (ha : fitsB (fAl op) (fAh op) a = false) :
    Calls Tryd.prog 53 #[.agg #[.int .i64 op, .int .i64 a, .int .i64 b, .int .i64 c, .int .u64 N]] w fun e w' => e = .returned (.bool (mayB op a b c N)) ∧ Only Nob w w' := by
  have hn := name_ok h
  have HM : Hid (mayB op a b c N = false) := by unfold Hid; simp [mayB, ha]
  go_enter Tryd.func53, Tryd.ntmps53
  go_wp2_with (first
    | (go_at_call 83; refine (fields_any _ _).mono ?_; rintro e w1 ⟨j, rfl, rfl⟩)
    | (go_at_call 40; refine (name_any _ _).mono ?_; rintro e w1 ⟨rfl, rfl⟩)
    | (go_at_call 84; refine (fits_any _ _ _ _).mono ?_; rintro e w1 ⟨rfl, rfl⟩))
  go_ret
  refine ⟨by rw [HM.out]; rfl, ?_⟩
  repeat' (first | (with_reducible refine Only.setCell ?_ ?_ _) | (with_reducible refine Only.alloc ?_ _) | (with_reducible refine Only.drewN ?_ _) | (with_reducible refine Only.drew ?_) | (with_reducible exact Only.refl _ _) | (right; simp; done) | (right; simp; omega))

set_option maxHeartbeats 1000000 in
theorem may_b (op a b c N : Int) (w : World) (h : opB op = true) (ha : fitsB (fAl op) (fAh op) a = true) (hb : fitsB 0 (fBh op) b = false) :
    Calls Tryd.prog 53 #[.agg #[.int .i64 op, .int .i64 a, .int .i64 b, .int .i64 c, .int .u64 N]] w fun e w' => e = .returned (.bool (mayB op a b c N)) ∧ Only Nob w w' := by
  have hn := name_ok h
  have HM : Hid (mayB op a b c N = false) := by unfold Hid; simp [mayB, hb]
  go_enter Tryd.func53, Tryd.ntmps53
  go_wp2_with (first
    | (go_at_call 83; refine (fields_any _ _).mono ?_; rintro e w1 ⟨j, rfl, rfl⟩)
    | (go_at_call 40; refine (name_any _ _).mono ?_; rintro e w1 ⟨rfl, rfl⟩)
    | (go_at_call 84; refine (fits_any _ _ _ _).mono ?_; rintro e w1 ⟨rfl, rfl⟩))
  go_ret
  refine ⟨by rw [HM.out]; rfl, ?_⟩
  repeat' (first | (with_reducible refine Only.setCell ?_ ?_ _) | (with_reducible refine Only.alloc ?_ _) | (with_reducible refine Only.drewN ?_ _) | (with_reducible refine Only.drew ?_) | (with_reducible exact Only.refl _ _) | (right; simp; done) | (right; simp; omega))

set_option maxHeartbeats 1000000 in
theorem may_c (op a b c N : Int) (w : World) (h : opB op = true) (ha : fitsB (fAl op) (fAh op) a = true) (hb : fitsB 0 (fBh op) b = true) (hc : fitsB 0 (fCh op) c = false) :
    Calls Tryd.prog 53 #[.agg #[.int .i64 op, .int .i64 a, .int .i64 b, .int .i64 c, .int .u64 N]] w fun e w' => e = .returned (.bool (mayB op a b c N)) ∧ Only Nob w w' := by
  have hn := name_ok h
  have HM : Hid (mayB op a b c N = false) := by unfold Hid; simp [mayB, hc]
  go_enter Tryd.func53, Tryd.ntmps53
  go_wp2_with (first
    | (go_at_call 83; refine (fields_any _ _).mono ?_; rintro e w1 ⟨j, rfl, rfl⟩)
    | (go_at_call 40; refine (name_any _ _).mono ?_; rintro e w1 ⟨rfl, rfl⟩)
    | (go_at_call 84; refine (fits_any _ _ _ _).mono ?_; rintro e w1 ⟨rfl, rfl⟩))
  go_ret
  refine ⟨by rw [HM.out]; rfl, ?_⟩
  repeat' (first | (with_reducible refine Only.setCell ?_ ?_ _) | (with_reducible refine Only.alloc ?_ _) | (with_reducible refine Only.drewN ?_ _) | (with_reducible refine Only.drew ?_) | (with_reducible exact Only.refl _ _) | (right; simp; done) | (right; simp; omega))

set_option maxHeartbeats 1000000 in
theorem may_all (op a b c N : Int) (w : World) (h : opB op = true) (ha : fitsB (fAl op) (fAh op) a = true) (hb : fitsB 0 (fBh op) b = true) (hc : fitsB 0 (fCh op) c = true) :
    Calls Tryd.prog 53 #[.agg #[.int .i64 op, .int .i64 a, .int .i64 b, .int .i64 c, .int .u64 N]] w fun e w' => e = .returned (.bool (mayB op a b c N)) ∧ Only Nob w w' := by
  have hn := name_ok h
  have HM : Hid (mayB op a b c N = (N == 0 || op == 1)) := by
    unfold Hid
    simp only [mayB, h, ha, hb, hc, Bool.true_and]
    rfl
  go_enter Tryd.func53, Tryd.ntmps53
  go_wp2_with (first
    | (go_at_call 83; refine (fields_any _ _).mono ?_; rintro e w1 ⟨j, rfl, rfl⟩)
    | (go_at_call 40; refine (name_any _ _).mono ?_; rintro e w1 ⟨rfl, rfl⟩)
    | (go_at_call 84; refine (fits_any _ _ _ _).mono ?_; rintro e w1 ⟨rfl, rfl⟩))
  all_goals
    go_ret
    refine ⟨by rw [HM.out]; first | rfl | (have h9 : N = 0 := by assumption
                                           rw [h9]; rfl), ?_⟩
    repeat' (first | (with_reducible refine Only.setCell ?_ ?_ _) | (with_reducible refine Only.alloc ?_ _) | (with_reducible refine Only.drewN ?_ _) | (with_reducible refine Only.drew ?_) | (with_reducible exact Only.refl _ _) | (right; simp; done) | (right; simp; omega))

theorem may_any (op a b c N : Int) (w : World) :
    Calls Tryd.prog 53 #[.agg #[.int .i64 op, .int .i64 a, .int .i64 b, .int .i64 c, .int .u64 N]] w fun e w' => e = .returned (.bool (mayB op a b c N)) ∧ Only Nob w w' := by
  rcases (by cases opB op <;> simp : opB op = true ∨ opB op = false) with h | h
  · rcases (by cases fitsB (fAl op) (fAh op) a <;> simp : fitsB (fAl op) (fAh op) a = true ∨ fitsB (fAl op) (fAh op) a = false) with ha | ha
    · rcases (by cases fitsB 0 (fBh op) b <;> simp : fitsB 0 (fBh op) b = true ∨ fitsB 0 (fBh op) b = false) with hb | hb
      · rcases (by cases fitsB 0 (fCh op) c <;> simp : fitsB 0 (fCh op) c = true ∨ fitsB 0 (fCh op) c = false) with hc | hc
        · exact may_all op a b c N w h ha hb hc
        · exact may_c op a b c N w h ha hb hc
      · exact may_b op a b c N w h ha hb
    · exact may_a op a b c N w h ha
  · exact may_op op a b c N w h
end Go.Proofs.YtngahgfppbjebaaDoor
