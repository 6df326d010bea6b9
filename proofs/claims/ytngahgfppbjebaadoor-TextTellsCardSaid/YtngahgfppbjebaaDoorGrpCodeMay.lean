/-
  Contracts of package code: the fields of an instruction.
  The contract of code.May.
-/
import Derived.Test.YtngahgfppbjebaaDoorGrpCodeNum
import Derived.Test.YtngahgfppbjebaaDoorGrpWords
namespace Go.Proofs.YtngahgfppbjebaaDoor
open Go.RowKit
set_option linter.unusedVariables false
set_option linter.unusedSimpArgs false

def fAl (n : Int) : Int := if n = 23 then 1 else 0
def fAh (n : Int) : Int := if n = 23 then 12 else if 1 ≤ n ∧ n ≤ 11 ∨ n = 13 ∨ n = 21 then 7 else 0
def fBh (n : Int) : Int := if 2 ≤ n ∧ n ≤ 10 ∨ n = 23 then 7 else 0
def fCh (n : Int) : Int := if 3 ≤ n ∧ n ≤ 7 then 7 else if n = 8 ∨ n = 9 then 15 else if n = 12 ∨ n = 13 then 40 else if n = 23 then 6 else 0

/-- What 'fields' leaves. -/
def FieldsPost (w : World) (n : Int) (e : Ending) (w' : World) : Prop :=
  ∃ j, e = .returned (.tuple #[.agg #[.int .i64 (fAl n), .int .i64 (fAh n)], .agg #[.int .i64 0, .int .i64 (fBh n)], .agg #[.int .i64 0, .int .i64 (fCh n)]]) ∧
    w' = ((((w.alloc (.cells #[.int .i64 (fAl n), .int .i64 (fAh n)] 149)).alloc (.cells #[.int .i64 0, .int .i64 (fBh n)] 149)).alloc (.cells #[.int .i64 0, .int .i64 (fCh n)] 149)).alloc (.cells #[.int .i64 0, .int .i64 7] 149)).drewN j

theorem fields_1 (w : World) : Calls Tryd.prog 83 #[.int .i64 1] w (FieldsPost w 1) := by
  have HP : Hid (∀ e w', e = .returned (.tuple #[.agg #[.int .i64 0, .int .i64 7], .agg #[.int .i64 0, .int .i64 0], .agg #[.int .i64 0, .int .i64 0]]) →
      w' = ((((w.alloc (.cells #[.int .i64 0, .int .i64 7] 149)).alloc (.cells #[.int .i64 0, .int .i64 0] 149)).alloc (.cells #[.int .i64 0, .int .i64 0] 149)).alloc (.cells #[.int .i64 0, .int .i64 7] 149)).drewN 1 → FieldsPost w 1 e w') :=
    fun e w' h1 h2 => ⟨1, h1, h2⟩
  go_enter Tryd.func83, Tryd.ntmps83
  go_wp2
  go_region
  go_wp2
  exact bodyPost_ret (by simp [results, Tryd.results83, go_sem]; try rfl) rfl (HP.out _ _ rfl rfl)

theorem fields_2 (w : World) : Calls Tryd.prog 83 #[.int .i64 2] w (FieldsPost w 2) := by
  have HP : Hid (∀ e w', e = .returned (.tuple #[.agg #[.int .i64 0, .int .i64 7], .agg #[.int .i64 0, .int .i64 7], .agg #[.int .i64 0, .int .i64 0]]) →
      w' = ((((w.alloc (.cells #[.int .i64 0, .int .i64 7] 149)).alloc (.cells #[.int .i64 0, .int .i64 7] 149)).alloc (.cells #[.int .i64 0, .int .i64 0] 149)).alloc (.cells #[.int .i64 0, .int .i64 7] 149)).drewN 2 → FieldsPost w 2 e w') :=
    fun e w' h1 h2 => ⟨2, h1, h2⟩
  go_enter Tryd.func83, Tryd.ntmps83
  go_wp2
  go_region
  go_wp2
  go_region
  go_wp2
  exact bodyPost_ret (by simp [results, Tryd.results83, go_sem]; try rfl) rfl (HP.out _ _ rfl rfl)

theorem fields_3 (w : World) : Calls Tryd.prog 83 #[.int .i64 3] w (FieldsPost w 3) := by
  have HP : Hid (∀ e w', e = .returned (.tuple #[.agg #[.int .i64 0, .int .i64 7], .agg #[.int .i64 0, .int .i64 7], .agg #[.int .i64 0, .int .i64 7]]) →
      w' = ((((w.alloc (.cells #[.int .i64 0, .int .i64 7] 149)).alloc (.cells #[.int .i64 0, .int .i64 7] 149)).alloc (.cells #[.int .i64 0, .int .i64 7] 149)).alloc (.cells #[.int .i64 0, .int .i64 7] 149)).drewN 2 → FieldsPost w 3 e w') :=
    fun e w' h1 h2 => ⟨2, h1, h2⟩
  go_enter Tryd.func83, Tryd.ntmps83
  go_wp2
  go_region
  go_wp2
  go_region
  go_wp2
  exact bodyPost_ret (by simp [results, Tryd.results83, go_sem]; try rfl) rfl (HP.out _ _ rfl rfl)

theorem fields_4 (w : World) : Calls Tryd.prog 83 #[.int .i64 4] w (FieldsPost w 4) := by
  have HP : Hid (∀ e w', e = .returned (.tuple #[.agg #[.int .i64 0, .int .i64 7], .agg #[.int .i64 0, .int .i64 7], .agg #[.int .i64 0, .int .i64 7]]) →
      w' = ((((w.alloc (.cells #[.int .i64 0, .int .i64 7] 149)).alloc (.cells #[.int .i64 0, .int .i64 7] 149)).alloc (.cells #[.int .i64 0, .int .i64 7] 149)).alloc (.cells #[.int .i64 0, .int .i64 7] 149)).drewN 2 → FieldsPost w 4 e w') :=
    fun e w' h1 h2 => ⟨2, h1, h2⟩
  go_enter Tryd.func83, Tryd.ntmps83
  go_wp2
  go_region
  go_wp2
  go_region
  go_wp2
  exact bodyPost_ret (by simp [results, Tryd.results83, go_sem]; try rfl) rfl (HP.out _ _ rfl rfl)

theorem fields_5 (w : World) : Calls Tryd.prog 83 #[.int .i64 5] w (FieldsPost w 5) := by
  have HP : Hid (∀ e w', e = .returned (.tuple #[.agg #[.int .i64 0, .int .i64 7], .agg #[.int .i64 0, .int .i64 7], .agg #[.int .i64 0, .int .i64 7]]) →
      w' = ((((w.alloc (.cells #[.int .i64 0, .int .i64 7] 149)).alloc (.cells #[.int .i64 0, .int .i64 7] 149)).alloc (.cells #[.int .i64 0, .int .i64 7] 149)).alloc (.cells #[.int .i64 0, .int .i64 7] 149)).drewN 2 → FieldsPost w 5 e w') :=
    fun e w' h1 h2 => ⟨2, h1, h2⟩
  go_enter Tryd.func83, Tryd.ntmps83
  go_wp2
  go_region
  go_wp2
  go_region
  go_wp2
  exact bodyPost_ret (by simp [results, Tryd.results83, go_sem]; try rfl) rfl (HP.out _ _ rfl rfl)

theorem fields_6 (w : World) : Calls Tryd.prog 83 #[.int .i64 6] w (FieldsPost w 6) := by
  have HP : Hid (∀ e w', e = .returned (.tuple #[.agg #[.int .i64 0, .int .i64 7], .agg #[.int .i64 0, .int .i64 7], .agg #[.int .i64 0, .int .i64 7]]) →
      w' = ((((w.alloc (.cells #[.int .i64 0, .int .i64 7] 149)).alloc (.cells #[.int .i64 0, .int .i64 7] 149)).alloc (.cells #[.int .i64 0, .int .i64 7] 149)).alloc (.cells #[.int .i64 0, .int .i64 7] 149)).drewN 2 → FieldsPost w 6 e w') :=
    fun e w' h1 h2 => ⟨2, h1, h2⟩
  go_enter Tryd.func83, Tryd.ntmps83
  go_wp2
  go_region
  go_wp2
  go_region
  go_wp2
  exact bodyPost_ret (by simp [results, Tryd.results83, go_sem]; try rfl) rfl (HP.out _ _ rfl rfl)

theorem fields_7 (w : World) : Calls Tryd.prog 83 #[.int .i64 7] w (FieldsPost w 7) := by
  have HP : Hid (∀ e w', e = .returned (.tuple #[.agg #[.int .i64 0, .int .i64 7], .agg #[.int .i64 0, .int .i64 7], .agg #[.int .i64 0, .int .i64 7]]) →
      w' = ((((w.alloc (.cells #[.int .i64 0, .int .i64 7] 149)).alloc (.cells #[.int .i64 0, .int .i64 7] 149)).alloc (.cells #[.int .i64 0, .int .i64 7] 149)).alloc (.cells #[.int .i64 0, .int .i64 7] 149)).drewN 2 → FieldsPost w 7 e w') :=
    fun e w' h1 h2 => ⟨2, h1, h2⟩
  go_enter Tryd.func83, Tryd.ntmps83
  go_wp2
  go_region
  go_wp2
  go_region
  go_wp2
  exact bodyPost_ret (by simp [results, Tryd.results83, go_sem]; try rfl) rfl (HP.out _ _ rfl rfl)

theorem fields_8 (w : World) : Calls Tryd.prog 83 #[.int .i64 8] w (FieldsPost w 8) := by
  have HP : Hid (∀ e w', e = .returned (.tuple #[.agg #[.int .i64 0, .int .i64 7], .agg #[.int .i64 0, .int .i64 7], .agg #[.int .i64 0, .int .i64 15]]) →
      w' = ((((w.alloc (.cells #[.int .i64 0, .int .i64 7] 149)).alloc (.cells #[.int .i64 0, .int .i64 7] 149)).alloc (.cells #[.int .i64 0, .int .i64 15] 149)).alloc (.cells #[.int .i64 0, .int .i64 7] 149)).drewN 2 → FieldsPost w 8 e w') :=
    fun e w' h1 h2 => ⟨2, h1, h2⟩
  go_enter Tryd.func83, Tryd.ntmps83
  go_wp2
  go_region
  go_wp2
  go_region
  go_wp2
  exact bodyPost_ret (by simp [results, Tryd.results83, go_sem]; try rfl) rfl (HP.out _ _ rfl rfl)

theorem fields_9 (w : World) : Calls Tryd.prog 83 #[.int .i64 9] w (FieldsPost w 9) := by
  have HP : Hid (∀ e w', e = .returned (.tuple #[.agg #[.int .i64 0, .int .i64 7], .agg #[.int .i64 0, .int .i64 7], .agg #[.int .i64 0, .int .i64 15]]) →
      w' = ((((w.alloc (.cells #[.int .i64 0, .int .i64 7] 149)).alloc (.cells #[.int .i64 0, .int .i64 7] 149)).alloc (.cells #[.int .i64 0, .int .i64 15] 149)).alloc (.cells #[.int .i64 0, .int .i64 7] 149)).drewN 2 → FieldsPost w 9 e w') :=
    fun e w' h1 h2 => ⟨2, h1, h2⟩
  go_enter Tryd.func83, Tryd.ntmps83
  go_wp2
  go_region
  go_wp2
  go_region
  go_wp2
  exact bodyPost_ret (by simp [results, Tryd.results83, go_sem]; try rfl) rfl (HP.out _ _ rfl rfl)

theorem fields_10 (w : World) : Calls Tryd.prog 83 #[.int .i64 10] w (FieldsPost w 10) := by
  have HP : Hid (∀ e w', e = .returned (.tuple #[.agg #[.int .i64 0, .int .i64 7], .agg #[.int .i64 0, .int .i64 7], .agg #[.int .i64 0, .int .i64 0]]) →
      w' = ((((w.alloc (.cells #[.int .i64 0, .int .i64 7] 149)).alloc (.cells #[.int .i64 0, .int .i64 7] 149)).alloc (.cells #[.int .i64 0, .int .i64 0] 149)).alloc (.cells #[.int .i64 0, .int .i64 7] 149)).drewN 2 → FieldsPost w 10 e w') :=
    fun e w' h1 h2 => ⟨2, h1, h2⟩
  go_enter Tryd.func83, Tryd.ntmps83
  go_wp2
  go_region
  go_wp2
  go_region
  go_wp2
  exact bodyPost_ret (by simp [results, Tryd.results83, go_sem]; try rfl) rfl (HP.out _ _ rfl rfl)

theorem fields_11 (w : World) : Calls Tryd.prog 83 #[.int .i64 11] w (FieldsPost w 11) := by
  have HP : Hid (∀ e w', e = .returned (.tuple #[.agg #[.int .i64 0, .int .i64 7], .agg #[.int .i64 0, .int .i64 0], .agg #[.int .i64 0, .int .i64 0]]) →
      w' = ((((w.alloc (.cells #[.int .i64 0, .int .i64 7] 149)).alloc (.cells #[.int .i64 0, .int .i64 0] 149)).alloc (.cells #[.int .i64 0, .int .i64 0] 149)).alloc (.cells #[.int .i64 0, .int .i64 7] 149)).drewN 1 → FieldsPost w 11 e w') :=
    fun e w' h1 h2 => ⟨1, h1, h2⟩
  go_enter Tryd.func83, Tryd.ntmps83
  go_wp2
  go_region
  go_wp2
  exact bodyPost_ret (by simp [results, Tryd.results83, go_sem]; try rfl) rfl (HP.out _ _ rfl rfl)

theorem fields_12 (w : World) : Calls Tryd.prog 83 #[.int .i64 12] w (FieldsPost w 12) := by
  have HP : Hid (∀ e w', e = .returned (.tuple #[.agg #[.int .i64 0, .int .i64 0], .agg #[.int .i64 0, .int .i64 0], .agg #[.int .i64 0, .int .i64 40]]) →
      w' = ((((w.alloc (.cells #[.int .i64 0, .int .i64 0] 149)).alloc (.cells #[.int .i64 0, .int .i64 0] 149)).alloc (.cells #[.int .i64 0, .int .i64 40] 149)).alloc (.cells #[.int .i64 0, .int .i64 7] 149)).drewN 1 → FieldsPost w 12 e w') :=
    fun e w' h1 h2 => ⟨1, h1, h2⟩
  go_enter Tryd.func83, Tryd.ntmps83
  go_wp2
  go_region
  go_wp2
  exact bodyPost_ret (by simp [results, Tryd.results83, go_sem]; try rfl) rfl (HP.out _ _ rfl rfl)

theorem fields_13 (w : World) : Calls Tryd.prog 83 #[.int .i64 13] w (FieldsPost w 13) := by
  have HP : Hid (∀ e w', e = .returned (.tuple #[.agg #[.int .i64 0, .int .i64 7], .agg #[.int .i64 0, .int .i64 0], .agg #[.int .i64 0, .int .i64 40]]) →
      w' = ((((w.alloc (.cells #[.int .i64 0, .int .i64 7] 149)).alloc (.cells #[.int .i64 0, .int .i64 0] 149)).alloc (.cells #[.int .i64 0, .int .i64 40] 149)).alloc (.cells #[.int .i64 0, .int .i64 7] 149)).drewN 1 → FieldsPost w 13 e w') :=
    fun e w' h1 h2 => ⟨1, h1, h2⟩
  go_enter Tryd.func83, Tryd.ntmps83
  go_wp2
  go_region
  go_wp2
  exact bodyPost_ret (by simp [results, Tryd.results83, go_sem]; try rfl) rfl (HP.out _ _ rfl rfl)

theorem fields_21 (w : World) : Calls Tryd.prog 83 #[.int .i64 21] w (FieldsPost w 21) := by
  have HP : Hid (∀ e w', e = .returned (.tuple #[.agg #[.int .i64 0, .int .i64 7], .agg #[.int .i64 0, .int .i64 0], .agg #[.int .i64 0, .int .i64 0]]) →
      w' = ((((w.alloc (.cells #[.int .i64 0, .int .i64 7] 149)).alloc (.cells #[.int .i64 0, .int .i64 0] 149)).alloc (.cells #[.int .i64 0, .int .i64 0] 149)).alloc (.cells #[.int .i64 0, .int .i64 7] 149)).drewN 1 → FieldsPost w 21 e w') :=
    fun e w' h1 h2 => ⟨1, h1, h2⟩
  go_enter Tryd.func83, Tryd.ntmps83
  go_wp2
  go_region
  go_wp2
  exact bodyPost_ret (by simp [results, Tryd.results83, go_sem]; try rfl) rfl (HP.out _ _ rfl rfl)

theorem fields_23 (w : World) : Calls Tryd.prog 83 #[.int .i64 23] w (FieldsPost w 23) := by
  have HP : Hid (∀ e w', e = .returned (.tuple #[.agg #[.int .i64 1, .int .i64 12], .agg #[.int .i64 0, .int .i64 7], .agg #[.int .i64 0, .int .i64 6]]) →
      w' = ((((w.alloc (.cells #[.int .i64 1, .int .i64 12] 149)).alloc (.cells #[.int .i64 0, .int .i64 7] 149)).alloc (.cells #[.int .i64 0, .int .i64 6] 149)).alloc (.cells #[.int .i64 0, .int .i64 7] 149)).drewN 1 → FieldsPost w 23 e w') :=
    fun e w' h1 h2 => ⟨1, h1, h2⟩
  go_enter Tryd.func83, Tryd.ntmps83
  go_wp2
  go_region
  go_wp2
  exact bodyPost_ret (by simp [results, Tryd.results83, go_sem]; try rfl) rfl (HP.out _ _ rfl rfl)

theorem fields_other (n : Int) (w : World) (hn : n ≠ 1 ∧ n ≠ 2 ∧ n ≠ 3 ∧ n ≠ 4 ∧ n ≠ 5 ∧ n ≠ 6 ∧ n ≠ 7 ∧ n ≠ 8 ∧ n ≠ 9 ∧ n ≠ 10 ∧ n ≠ 11 ∧ n ≠ 12 ∧ n ≠ 13 ∧ n ≠ 21 ∧ n ≠ 23) : Calls Tryd.prog 83 #[.int .i64 n] w (FieldsPost w n) := by
  have a1 : fAl n = 0 := by simp only [fAl]; rw [if_neg (by omega)]
  have a2 : fAh n = 0 := by simp only [fAh]; rw [if_neg (by omega), if_neg (by omega)]
  have a3 : fBh n = 0 := by simp only [fBh]; rw [if_neg (by omega)]
  have a4 : fCh n = 0 := by simp only [fCh]; rw [if_neg (by omega), if_neg (by omega), if_neg (by omega), if_neg (by omega)]
  have HP : Hid (∀ e w', e = .returned (.tuple #[.agg #[.int .i64 0, .int .i64 0], .agg #[.int .i64 0, .int .i64 0], .agg #[.int .i64 0, .int .i64 0]]) →
      w' = ((((w.alloc (.cells #[.int .i64 0, .int .i64 0] 149)).alloc (.cells #[.int .i64 0, .int .i64 0] 149)).alloc (.cells #[.int .i64 0, .int .i64 0] 149)).alloc (.cells #[.int .i64 0, .int .i64 7] 149)).drewN 1 → FieldsPost w n e w') := by
    intro e w' h1 h2
    refine ⟨1, ?_, ?_⟩
    · rw [h1, a1, a2, a3, a4]
    · rw [h2, a1, a2, a3, a4]
  clear a1 a2 a3 a4
  have e1 : (n == 1) = false := by simp; omega
  have e2 : (n == 2) = false := by simp; omega
  have e3 : (n == 3) = false := by simp; omega
  have e4 : (n == 4) = false := by simp; omega
  have e5 : (n == 5) = false := by simp; omega
  have e6 : (n == 6) = false := by simp; omega
  have e7 : (n == 7) = false := by simp; omega
  have e8 : (n == 8) = false := by simp; omega
  have e9 : (n == 9) = false := by simp; omega
  have e10 : (n == 10) = false := by simp; omega
  have e11 : (n == 11) = false := by simp; omega
  have e12 : (n == 12) = false := by simp; omega
  have e13 : (n == 13) = false := by simp; omega
  have e21 : (n == 21) = false := by simp; omega
  have e23 : (n == 23) = false := by simp; omega
  clear hn
  go_enter Tryd.func83, Tryd.ntmps83
  go_wp2
  go_region
  go_wp2
  exact bodyPost_ret (by simp [results, Tryd.results83, go_sem]; try rfl) rfl (HP.out _ _ rfl rfl)

theorem fields_any (n : Int) (w : World) : Calls Tryd.prog 83 #[.int .i64 n] w (FieldsPost w n) := by
  by_cases hn : n ≠ 1 ∧ n ≠ 2 ∧ n ≠ 3 ∧ n ≠ 4 ∧ n ≠ 5 ∧ n ≠ 6 ∧ n ≠ 7 ∧ n ≠ 8 ∧ n ≠ 9 ∧ n ≠ 10 ∧ n ≠ 11 ∧ n ≠ 12 ∧ n ≠ 13 ∧ n ≠ 21 ∧ n ≠ 23
  · exact fields_other n w hn
  · rcases (by omega : n = 1 ∨ n = 2 ∨ n = 3 ∨ n = 4 ∨ n = 5 ∨ n = 6 ∨ n = 7 ∨ n = 8 ∨ n = 9 ∨ n = 10 ∨ n = 11 ∨ n = 12 ∨ n = 13 ∨ n = 21 ∨ n = 23) with rfl | rfl | rfl | rfl | rfl | rfl | rfl | rfl | rfl | rfl | rfl | rfl | rfl | rfl | rfl
    · exact fields_1 w
    · exact fields_2 w
    · exact fields_3 w
    · exact fields_4 w
    · exact fields_5 w
    · exact fields_6 w
    · exact fields_7 w
    · exact fields_8 w
    · exact fields_9 w
    · exact fields_10 w
    · exact fields_11 w
    · exact fields_12 w
    · exact fields_13 w
    · exact fields_21 w
    · exact fields_23 w

def fitsB (l h n : Int) : Bool := decide (l ≤ n ∧ n ≤ h)
theorem fits_any (l h n : Int) (w : World) : Calls Tryd.prog 84 #[.agg #[.int .i64 l, .int .i64 h], .int .i64 n] w fun e w' =>
    e = .returned (.bool (fitsB l h n)) ∧ w' = w.alloc (.cells #[.int .i64 l, .int .i64 h] 149) := by
  by_cases h1 : l ≤ n
  · by_cases h2 : n ≤ h
    · rw [show fitsB l h n = true by simp [fitsB, h1, h2]]
      have d : decide (n ≤ h) = true := by simpa using h2
      go_enter Tryd.func84, Tryd.ntmps84
      go_wp2
      go_ret
      exact ⟨rfl, rfl⟩
    · rw [show fitsB l h n = false by simp [fitsB, h2]]
      have d : decide (n ≤ h) = false := by simpa using h2
      go_enter Tryd.func84, Tryd.ntmps84
      go_wp2
      go_ret
      exact ⟨rfl, rfl⟩
  · rw [show fitsB l h n = false by simp [fitsB, h1]]
    have d : decide (l ≤ n) = false := by simpa using h1
    go_enter Tryd.func84, Tryd.ntmps84
    go_wp2
    go_ret
    exact ⟨rfl, rfl⟩
end Go.Proofs.YtngahgfppbjebaaDoor
namespace Go.Proofs.YtngahgfppbjebaaDoor
open Go.RowKit
set_option linter.unusedVariables false
set_option linter.unusedSimpArgs false

def opB (op : Int) : Bool := decide (1 ≤ op ∧ op ≤ 23)
def mayB (op a b c N : Int) : Bool := opB op && fitsB (fAl op) (fAh op) a && fitsB 0 (fBh op) b && fitsB 0 (fCh op) c && (decide (N = 0) || decide (op = 1))

theorem name_ok {op : Int} (h : opB op = true) : (atList nameList op).toList.isEmpty = false := by
  have h2 : 1 ≤ op ∧ op ≤ 23 := by simpa [opB] using h
  rcases (by omega : op = 1 ∨ op = 2 ∨ op = 3 ∨ op = 4 ∨ op = 5 ∨ op = 6 ∨ op = 7 ∨ op = 8 ∨ op = 9 ∨ op = 10 ∨ op = 11 ∨ op = 12 ∨ op = 13 ∨ op = 14 ∨ op = 15 ∨ op = 16 ∨ op = 17 ∨ op = 18 ∨ op = 19 ∨ op = 20 ∨ op = 21 ∨ op = 22 ∨ op = 23) with rfl | rfl | rfl | rfl | rfl | rfl | rfl | rfl | rfl | rfl | rfl | rfl | rfl | rfl | rfl | rfl | rfl | rfl | rfl | rfl | rfl | rfl | rfl <;> (rw [ByteArray.toList_eq]; rfl)
theorem name_no {op : Int} (h : opB op = false) : atList nameList op = ⟨#[]⟩ := by
  have h2 : ¬ (1 ≤ op ∧ op ≤ 23) := by simpa [opB] using h
  unfold atList
  by_cases h0 : 0 ≤ op
  · obtain ⟨k, rfl⟩ := Int.eq_ofNat_of_zero_le h0
    rcases (by omega : k = 0 ∨ 24 ≤ k) with rfl | hk
    · rfl
    · rw [if_pos (by omega)]
      have hl : nameList.length ≤ (Int.toNat (k : Int)) := by
        have : nameList.length = 24 := rfl
        omega
      rw [List.getD_eq_getElem?_getD, List.getElem?_eq_none hl]
      rfl
  · rw [if_neg h0]

set_option maxHeartbeats 1000000 in
theorem may_op (op a b c N : Int) (w : World) (h : opB op = false) :
    Calls Tryd.prog 53 #[.agg #[.int .i64 op, .int .i64 a, .int .i64 b, .int .i64 c, .int .u64 N]] w fun e w' => e = .returned (.bool (mayB op a b c N)) ∧ Only Nob w w' := by
  have hn := name_no h
  have HM : Hid (mayB op a b c N = false) := by unfold Hid; simp [mayB, h]
  go_enter Tryd.func53, Tryd.ntmps53
  go_wp2_with (first
    | (go_at_call 83; refine (fields_any _ _).mono ?_; rintro e w1 ⟨j, rfl, rfl⟩)
    | (go_at_call 40; refine (name_any _ _).mono ?_; rintro e w1 ⟨rfl, rfl⟩)
    | (go_at_call 84; refine (fits_any _ _ _ _).mono ?_; rintro e w1 ⟨rfl, rfl⟩))
  go_ret
  refine ⟨by rw [HM.out]; rfl, ?_⟩
  repeat' (first | (with_reducible refine Only.setCell ?_ ?_ _) | (with_reducible refine Only.alloc ?_ _) | (with_reducible refine Only.drewN ?_ _) | (with_reducible refine Only.drew ?_) | (with_reducible exact Only.refl _ _) | (right; simp; done) | (right; simp; omega))

set_option maxHeartbeats 1000000 in
theorem may_a (op a b c N : Int) (w : World) (h : opB op = true) (ha : fitsB (fAl op) (fAh op) a = false) :
    Calls Tryd.prog 53 #[.agg #[.int .i64 op, .int .i64 a, .int .i64 b, .int .i64 c, .int .u64 N]] w fun e w' => e = .returned (.bool (mayB op a b c N)) ∧ Only Nob w w' := by
  have hn := name_ok h
  have HM : Hid (mayB op a b c N = false) := by unfold Hid; simp [mayB, ha]
  go_enter Tryd.func53, Tryd.ntmps53
  go_wp2_with (first
    | (go_at_call 83; refine (fields_any _ _).mono ?_; rintro e w1 ⟨j, rfl, rfl⟩)
    | (go_at_call 40; refine (name_any _ _).mono ?_; rintro e w1 ⟨rfl, rfl⟩)
    | (go_at_call 84; refine (fits_any _ _ _ _).mono ?_; rintro e w1 ⟨rfl, rfl⟩))
  go_ret
  refine ⟨by rw [HM.out]; rfl, ?_⟩
  repeat' (first | (with_reducible refine Only.setCell ?_ ?_ _) | (with_reducible refine Only.alloc ?_ _) | (with_reducible refine Only.drewN ?_ _) | (with_reducible refine Only.drew ?_) | (with_reducible exact Only.refl _ _) | (right; simp; done) | (right; simp; omega))

set_option maxHeartbeats 1000000 in
theorem may_b (op a b c N : Int) (w : World) (h : opB op = true) (ha : fitsB (fAl op) (fAh op) a = true) (hb : fitsB 0 (fBh op) b = false) :
    Calls Tryd.prog 53 #[.agg #[.int .i64 op, .int .i64 a, .int .i64 b, .int .i64 c, .int .u64 N]] w fun e w' => e = .returned (.bool (mayB op a b c N)) ∧ Only Nob w w' := by
  have hn := name_ok h
  have HM : Hid (mayB op a b c N = false) := by unfold Hid; simp [mayB, hb]
  go_enter Tryd.func53, Tryd.ntmps53
  go_wp2_with (first
    | (go_at_call 83; refine (fields_any _ _).mono ?_; rintro e w1 ⟨j, rfl, rfl⟩)
    | (go_at_call 40; refine (name_any _ _).mono ?_; rintro e w1 ⟨rfl, rfl⟩)
    | (go_at_call 84; refine (fits_any _ _ _ _).mono ?_; rintro e w1 ⟨rfl, rfl⟩))
  go_ret
  refine ⟨by rw [HM.out]; rfl, ?_⟩
  repeat' (first | (with_reducible refine Only.setCell ?_ ?_ _) | (with_reducible refine Only.alloc ?_ _) | (with_reducible refine Only.drewN ?_ _) | (with_reducible refine Only.drew ?_) | (with_reducible exact Only.refl _ _) | (right; simp; done) | (right; simp; omega))

set_option maxHeartbeats 1000000 in
theorem may_c (op a b c N : Int) (w : World) (h : opB op = true) (ha : fitsB (fAl op) (fAh op) a = true) (hb : fitsB 0 (fBh op) b = true) (hc : fitsB 0 (fCh op) c = false) :
    Calls Tryd.prog 53 #[.agg #[.int .i64 op, .int .i64 a, .int .i64 b, .int .i64 c, .int .u64 N]] w fun e w' => e = .returned (.bool (mayB op a b c N)) ∧ Only Nob w w' := by
  have hn := name_ok h
  have HM : Hid (mayB op a b c N = false) := by unfold Hid; simp [mayB, hc]
  go_enter Tryd.func53, Tryd.ntmps53
  go_wp2_with (first
    | (go_at_call 83; refine (fields_any _ _).mono ?_; rintro e w1 ⟨j, rfl, rfl⟩)
    | (go_at_call 40; refine (name_any _ _).mono ?_; rintro e w1 ⟨rfl, rfl⟩)
    | (go_at_call 84; refine (fits_any _ _ _ _).mono ?_; rintro e w1 ⟨rfl, rfl⟩))
  go_ret
  refine ⟨by rw [HM.out]; rfl, ?_⟩
  repeat' (first | (with_reducible refine Only.setCell ?_ ?_ _) | (with_reducible refine Only.alloc ?_ _) | (with_reducible refine Only.drewN ?_ _) | (with_reducible refine Only.drew ?_) | (with_reducible exact Only.refl _ _) | (right; simp; done) | (right; simp; omega))

set_option maxHeartbeats 1000000 in
theorem may_all (op a b c N : Int) (w : World) (h : opB op = true) (ha : fitsB (fAl op) (fAh op) a = true) (hb : fitsB 0 (fBh op) b = true) (hc : fitsB 0 (fCh op) c = true) :
    Calls Tryd.prog 53 #[.agg #[.int .i64 op, .int .i64 a, .int .i64 b, .int .i64 c, .int .u64 N]] w fun e w' => e = .returned (.bool (mayB op a b c N)) ∧ Only Nob w w' := by
  have hn := name_ok h
  have HM : Hid (mayB op a b c N = (N == 0 || op == 1)) := by
    unfold Hid
    simp only [mayB, h, ha, hb, hc, Bool.true_and]
    rfl
  go_enter Tryd.func53, Tryd.ntmps53
  go_wp2_with (first
    | (go_at_call 83; refine (fields_any _ _).mono ?_; rintro e w1 ⟨j, rfl, rfl⟩)
    | (go_at_call 40; refine (name_any _ _).mono ?_; rintro e w1 ⟨rfl, rfl⟩)
    | (go_at_call 84; refine (fits_any _ _ _ _).mono ?_; rintro e w1 ⟨rfl, rfl⟩))
  all_goals
    go_ret
    refine ⟨by rw [HM.out]; first | rfl | (have h9 : N = 0 := by assumption
                                           rw [h9]; rfl), ?_⟩
    repeat' (first | (with_reducible refine Only.setCell ?_ ?_ _) | (with_reducible refine Only.alloc ?_ _) | (with_reducible refine Only.drewN ?_ _) | (with_reducible refine Only.drew ?_) | (with_reducible exact Only.refl _ _) | (right; simp; done) | (right; simp; omega))

theorem may_any (op a b c N : Int) (w : World) :
    Calls Tryd.prog 53 #[.agg #[.int .i64 op, .int .i64 a, .int .i64 b, .int .i64 c, .int .u64 N]] w fun e w' => e = .returned (.bool (mayB op a b c N)) ∧ Only Nob w w' := by
  rcases (by cases opB op <;> simp : opB op = true ∨ opB op = false) with h | h
  · rcases (by cases fitsB (fAl op) (fAh op) a <;> simp : fitsB (fAl op) (fAh op) a = true ∨ fitsB (fAl op) (fAh op) a = false) with ha | ha
    · rcases (by cases fitsB 0 (fBh op) b <;> simp : fitsB 0 (fBh op) b = true ∨ fitsB 0 (fBh op) b = false) with hb | hb
      · rcases (by cases fitsB 0 (fCh op) c <;> simp : fitsB 0 (fCh op) c = true ∨ fitsB 0 (fCh op) c = false) with hc | hc
        · exact may_all op a b c N w h ha hb hc
        · exact may_c op a b c N w h ha hb hc
      · exact may_b op a b c N w h ha hb
    · exact may_a op a b c N w h ha
  · exact may_op op a b c N w h
end Go.Proofs.YtngahgfppbjebaaDoor
