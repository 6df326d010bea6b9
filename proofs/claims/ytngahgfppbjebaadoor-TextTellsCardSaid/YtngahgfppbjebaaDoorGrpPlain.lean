/-
  Contracts of the reference: rows of instructions, whether an instruction may be.
  The contract of the reference's May.
  Plain: programs, their open parts, what 'check' tells of them. No program in sight.
  Contracts of the book: a number brought within bounds.
-/
import Derived.Test.YtngahgfppbjebaaDoorGrpCodeMay
import Derived.RowKit
namespace Go.Proofs.YtngahgfppbjebaaDoor
open Go.RowKit
set_option linter.unusedVariables false
set_option linter.unusedSimpArgs false

def rA (n : Int) : Int := if n = 23 then 12 else if 1 ≤ n ∧ n ≤ 11 ∨ n = 13 ∨ n = 21 then 7 else if 1 ≤ n ∧ n ≤ 23 then -1 else 0
def rB (n : Int) : Int := if 2 ≤ n ∧ n ≤ 10 ∨ n = 23 then 7 else if 1 ≤ n ∧ n ≤ 23 then -1 else 0
def rC (n : Int) : Int := if 3 ≤ n ∧ n ≤ 7 then 7 else if n = 8 ∨ n = 9 then 15 else if n = 12 ∨ n = 13 then 40 else if n = 23 then 6 else if 1 ≤ n ∧ n ≤ 23 then -1 else 0
def rN (n : Int) : Bool := decide (n = 1)

/-- What 'RowOf' leaves. -/
def RowPost (w : World) (n : Int) (e : Ending) (w' : World) : Prop :=
  e = .returned (.tuple #[.agg #[.string (atList nameList n), .int .i64 (rA n), .int .i64 (rB n), .int .i64 (rC n), .bool (rN n)], .bool (opB n)]) ∧
    w' = w.alloc (.cells #[.string (atList nameList n), .int .i64 (rA n), .int .i64 (rB n), .int .i64 (rC n), .bool (rN n)] 169)

theorem rowOf_1 (w : World) : Calls Tryd.prog 93 #[.int .i64 1] w (RowPost w 1) := by
  have HP : Hid (∀ e w', e = .returned (.tuple #[.agg #[.string ⟨#[115, 101, 116]⟩, .int .i64 7, .int .i64 (-1), .int .i64 (-1), .bool true], .bool true]) →
      w' = w.alloc (.cells #[.string ⟨#[115, 101, 116]⟩, .int .i64 7, .int .i64 (-1), .int .i64 (-1), .bool true] 169) → RowPost w 1 e w') :=
    fun e w' h1 h2 => ⟨h1, h2⟩
  go_enter Tryd.func93, Tryd.ntmps93
  go_wp2
  exact bodyPost_ret (by simp [results, Tryd.results93, go_sem]; try rfl) rfl (HP.out _ _ rfl rfl)

theorem rowOf_2 (w : World) : Calls Tryd.prog 93 #[.int .i64 2] w (RowPost w 2) := by
  have HP : Hid (∀ e w', e = .returned (.tuple #[.agg #[.string ⟨#[109, 111, 118, 101]⟩, .int .i64 7, .int .i64 7, .int .i64 (-1), .bool false], .bool true]) →
      w' = w.alloc (.cells #[.string ⟨#[109, 111, 118, 101]⟩, .int .i64 7, .int .i64 7, .int .i64 (-1), .bool false] 169) → RowPost w 2 e w') :=
    fun e w' h1 h2 => ⟨h1, h2⟩
  go_enter Tryd.func93, Tryd.ntmps93
  go_wp2
  exact bodyPost_ret (by simp [results, Tryd.results93, go_sem]; try rfl) rfl (HP.out _ _ rfl rfl)

theorem rowOf_3 (w : World) : Calls Tryd.prog 93 #[.int .i64 3] w (RowPost w 3) := by
  have HP : Hid (∀ e w', e = .returned (.tuple #[.agg #[.string ⟨#[97, 100, 100]⟩, .int .i64 7, .int .i64 7, .int .i64 7, .bool false], .bool true]) →
      w' = w.alloc (.cells #[.string ⟨#[97, 100, 100]⟩, .int .i64 7, .int .i64 7, .int .i64 7, .bool false] 169) → RowPost w 3 e w') :=
    fun e w' h1 h2 => ⟨h1, h2⟩
  have i0 : ∀ w, (Instr.index 186 (.agg #[.string ⟨#[97, 100, 100]⟩, .string ⟨#[115, 117, 98]⟩, .string ⟨#[109, 117, 108]⟩, .string ⟨#[108, 101, 115, 115]⟩, .string ⟨#[101, 113, 117, 97, 108]⟩]) (.int .i64 0)).run Tryd.prog w = .ok (.string ⟨#[97, 100, 100]⟩) w := fun _ => by kernel_rfl
  go_enter Tryd.func93, Tryd.ntmps93
  go_wp2
  exact bodyPost_ret (by simp [results, Tryd.results93, go_sem]; try rfl) rfl (HP.out _ _ rfl rfl)

theorem rowOf_4 (w : World) : Calls Tryd.prog 93 #[.int .i64 4] w (RowPost w 4) := by
  have HP : Hid (∀ e w', e = .returned (.tuple #[.agg #[.string ⟨#[115, 117, 98]⟩, .int .i64 7, .int .i64 7, .int .i64 7, .bool false], .bool true]) →
      w' = w.alloc (.cells #[.string ⟨#[115, 117, 98]⟩, .int .i64 7, .int .i64 7, .int .i64 7, .bool false] 169) → RowPost w 4 e w') :=
    fun e w' h1 h2 => ⟨h1, h2⟩
  have i0 : ∀ w, (Instr.index 186 (.agg #[.string ⟨#[97, 100, 100]⟩, .string ⟨#[115, 117, 98]⟩, .string ⟨#[109, 117, 108]⟩, .string ⟨#[108, 101, 115, 115]⟩, .string ⟨#[101, 113, 117, 97, 108]⟩]) (.int .i64 1)).run Tryd.prog w = .ok (.string ⟨#[115, 117, 98]⟩) w := fun _ => by kernel_rfl
  go_enter Tryd.func93, Tryd.ntmps93
  go_wp2
  exact bodyPost_ret (by simp [results, Tryd.results93, go_sem]; try rfl) rfl (HP.out _ _ rfl rfl)

theorem rowOf_5 (w : World) : Calls Tryd.prog 93 #[.int .i64 5] w (RowPost w 5) := by
  have HP : Hid (∀ e w', e = .returned (.tuple #[.agg #[.string ⟨#[109, 117, 108]⟩, .int .i64 7, .int .i64 7, .int .i64 7, .bool false], .bool true]) →
      w' = w.alloc (.cells #[.string ⟨#[109, 117, 108]⟩, .int .i64 7, .int .i64 7, .int .i64 7, .bool false] 169) → RowPost w 5 e w') :=
    fun e w' h1 h2 => ⟨h1, h2⟩
  have i0 : ∀ w, (Instr.index 186 (.agg #[.string ⟨#[97, 100, 100]⟩, .string ⟨#[115, 117, 98]⟩, .string ⟨#[109, 117, 108]⟩, .string ⟨#[108, 101, 115, 115]⟩, .string ⟨#[101, 113, 117, 97, 108]⟩]) (.int .i64 2)).run Tryd.prog w = .ok (.string ⟨#[109, 117, 108]⟩) w := fun _ => by kernel_rfl
  go_enter Tryd.func93, Tryd.ntmps93
  go_wp2
  exact bodyPost_ret (by simp [results, Tryd.results93, go_sem]; try rfl) rfl (HP.out _ _ rfl rfl)

theorem rowOf_6 (w : World) : Calls Tryd.prog 93 #[.int .i64 6] w (RowPost w 6) := by
  have HP : Hid (∀ e w', e = .returned (.tuple #[.agg #[.string ⟨#[108, 101, 115, 115]⟩, .int .i64 7, .int .i64 7, .int .i64 7, .bool false], .bool true]) →
      w' = w.alloc (.cells #[.string ⟨#[108, 101, 115, 115]⟩, .int .i64 7, .int .i64 7, .int .i64 7, .bool false] 169) → RowPost w 6 e w') :=
    fun e w' h1 h2 => ⟨h1, h2⟩
  have i0 : ∀ w, (Instr.index 186 (.agg #[.string ⟨#[97, 100, 100]⟩, .string ⟨#[115, 117, 98]⟩, .string ⟨#[109, 117, 108]⟩, .string ⟨#[108, 101, 115, 115]⟩, .string ⟨#[101, 113, 117, 97, 108]⟩]) (.int .i64 3)).run Tryd.prog w = .ok (.string ⟨#[108, 101, 115, 115]⟩) w := fun _ => by kernel_rfl
  go_enter Tryd.func93, Tryd.ntmps93
  go_wp2
  exact bodyPost_ret (by simp [results, Tryd.results93, go_sem]; try rfl) rfl (HP.out _ _ rfl rfl)

theorem rowOf_7 (w : World) : Calls Tryd.prog 93 #[.int .i64 7] w (RowPost w 7) := by
  have HP : Hid (∀ e w', e = .returned (.tuple #[.agg #[.string ⟨#[101, 113, 117, 97, 108]⟩, .int .i64 7, .int .i64 7, .int .i64 7, .bool false], .bool true]) →
      w' = w.alloc (.cells #[.string ⟨#[101, 113, 117, 97, 108]⟩, .int .i64 7, .int .i64 7, .int .i64 7, .bool false] 169) → RowPost w 7 e w') :=
    fun e w' h1 h2 => ⟨h1, h2⟩
  have i0 : ∀ w, (Instr.index 186 (.agg #[.string ⟨#[97, 100, 100]⟩, .string ⟨#[115, 117, 98]⟩, .string ⟨#[109, 117, 108]⟩, .string ⟨#[108, 101, 115, 115]⟩, .string ⟨#[101, 113, 117, 97, 108]⟩]) (.int .i64 4)).run Tryd.prog w = .ok (.string ⟨#[101, 113, 117, 97, 108]⟩) w := fun _ => by kernel_rfl
  go_enter Tryd.func93, Tryd.ntmps93
  go_wp2
  exact bodyPost_ret (by simp [results, Tryd.results93, go_sem]; try rfl) rfl (HP.out _ _ rfl rfl)

theorem rowOf_8 (w : World) : Calls Tryd.prog 93 #[.int .i64 8] w (RowPost w 8) := by
  have HP : Hid (∀ e w', e = .returned (.tuple #[.agg #[.string ⟨#[108, 111, 97, 100]⟩, .int .i64 7, .int .i64 7, .int .i64 15, .bool false], .bool true]) →
      w' = w.alloc (.cells #[.string ⟨#[108, 111, 97, 100]⟩, .int .i64 7, .int .i64 7, .int .i64 15, .bool false] 169) → RowPost w 8 e w') :=
    fun e w' h1 h2 => ⟨h1, h2⟩
  go_enter Tryd.func93, Tryd.ntmps93
  go_wp2
  exact bodyPost_ret (by simp [results, Tryd.results93, go_sem]; try rfl) rfl (HP.out _ _ rfl rfl)

theorem rowOf_9 (w : World) : Calls Tryd.prog 93 #[.int .i64 9] w (RowPost w 9) := by
  have HP : Hid (∀ e w', e = .returned (.tuple #[.agg #[.string ⟨#[115, 116, 111, 114, 101]⟩, .int .i64 7, .int .i64 7, .int .i64 15, .bool false], .bool true]) →
      w' = w.alloc (.cells #[.string ⟨#[115, 116, 111, 114, 101]⟩, .int .i64 7, .int .i64 7, .int .i64 15, .bool false] 169) → RowPost w 9 e w') :=
    fun e w' h1 h2 => ⟨h1, h2⟩
  go_enter Tryd.func93, Tryd.ntmps93
  go_wp2
  exact bodyPost_ret (by simp [results, Tryd.results93, go_sem]; try rfl) rfl (HP.out _ _ rfl rfl)

theorem rowOf_10 (w : World) : Calls Tryd.prog 93 #[.int .i64 10] w (RowPost w 10) := by
  have HP : Hid (∀ e w', e = .returned (.tuple #[.agg #[.string ⟨#[97, 108, 108, 111, 99]⟩, .int .i64 7, .int .i64 7, .int .i64 (-1), .bool false], .bool true]) →
      w' = w.alloc (.cells #[.string ⟨#[97, 108, 108, 111, 99]⟩, .int .i64 7, .int .i64 7, .int .i64 (-1), .bool false] 169) → RowPost w 10 e w') :=
    fun e w' h1 h2 => ⟨h1, h2⟩
  go_enter Tryd.func93, Tryd.ntmps93
  go_wp2
  exact bodyPost_ret (by simp [results, Tryd.results93, go_sem]; try rfl) rfl (HP.out _ _ rfl rfl)

theorem rowOf_11 (w : World) : Calls Tryd.prog 93 #[.int .i64 11] w (RowPost w 11) := by
  have HP : Hid (∀ e w', e = .returned (.tuple #[.agg #[.string ⟨#[102, 114, 101, 101]⟩, .int .i64 7, .int .i64 (-1), .int .i64 (-1), .bool false], .bool true]) →
      w' = w.alloc (.cells #[.string ⟨#[102, 114, 101, 101]⟩, .int .i64 7, .int .i64 (-1), .int .i64 (-1), .bool false] 169) → RowPost w 11 e w') :=
    fun e w' h1 h2 => ⟨h1, h2⟩
  go_enter Tryd.func93, Tryd.ntmps93
  go_wp2
  exact bodyPost_ret (by simp [results, Tryd.results93, go_sem]; try rfl) rfl (HP.out _ _ rfl rfl)

theorem rowOf_12 (w : World) : Calls Tryd.prog 93 #[.int .i64 12] w (RowPost w 12) := by
  have HP : Hid (∀ e w', e = .returned (.tuple #[.agg #[.string ⟨#[106, 117, 109, 112]⟩, .int .i64 (-1), .int .i64 (-1), .int .i64 40, .bool false], .bool true]) →
      w' = w.alloc (.cells #[.string ⟨#[106, 117, 109, 112]⟩, .int .i64 (-1), .int .i64 (-1), .int .i64 40, .bool false] 169) → RowPost w 12 e w') :=
    fun e w' h1 h2 => ⟨h1, h2⟩
  go_enter Tryd.func93, Tryd.ntmps93
  go_wp2
  exact bodyPost_ret (by simp [results, Tryd.results93, go_sem]; try rfl) rfl (HP.out _ _ rfl rfl)

theorem rowOf_13 (w : World) : Calls Tryd.prog 93 #[.int .i64 13] w (RowPost w 13) := by
  have HP : Hid (∀ e w', e = .returned (.tuple #[.agg #[.string ⟨#[122, 101, 114, 111]⟩, .int .i64 7, .int .i64 (-1), .int .i64 40, .bool false], .bool true]) →
      w' = w.alloc (.cells #[.string ⟨#[122, 101, 114, 111]⟩, .int .i64 7, .int .i64 (-1), .int .i64 40, .bool false] 169) → RowPost w 13 e w') :=
    fun e w' h1 h2 => ⟨h1, h2⟩
  go_enter Tryd.func93, Tryd.ntmps93
  go_wp2
  exact bodyPost_ret (by simp [results, Tryd.results93, go_sem]; try rfl) rfl (HP.out _ _ rfl rfl)

theorem rowOf_14 (w : World) : Calls Tryd.prog 93 #[.int .i64 14] w (RowPost w 14) := by
  have HP : Hid (∀ e w', e = .returned (.tuple #[.agg #[.string ⟨#[111, 112, 101, 110]⟩, .int .i64 (-1), .int .i64 (-1), .int .i64 (-1), .bool false], .bool true]) →
      w' = w.alloc (.cells #[.string ⟨#[111, 112, 101, 110]⟩, .int .i64 (-1), .int .i64 (-1), .int .i64 (-1), .bool false] 169) → RowPost w 14 e w') :=
    fun e w' h1 h2 => ⟨h1, h2⟩
  have i0 : ∀ w, (Instr.index 187 (.agg #[.string ⟨#[111, 112, 101, 110]⟩, .string ⟨#[99, 108, 111, 115, 101]⟩, .string ⟨#[117, 110, 100, 111]⟩, .string ⟨#[101, 105, 116, 104, 101, 114]⟩, .string ⟨#[111, 114]⟩, .string ⟨#[100, 111, 110, 101]⟩, .string ⟨#[114, 101, 116, 114, 121]⟩]) (.int .i64 0)).run Tryd.prog w = .ok (.string ⟨#[111, 112, 101, 110]⟩) w := fun _ => by kernel_rfl
  go_enter Tryd.func93, Tryd.ntmps93
  go_wp2
  exact bodyPost_ret (by simp [results, Tryd.results93, go_sem]; try rfl) rfl (HP.out _ _ rfl rfl)

theorem rowOf_15 (w : World) : Calls Tryd.prog 93 #[.int .i64 15] w (RowPost w 15) := by
  have HP : Hid (∀ e w', e = .returned (.tuple #[.agg #[.string ⟨#[99, 108, 111, 115, 101]⟩, .int .i64 (-1), .int .i64 (-1), .int .i64 (-1), .bool false], .bool true]) →
      w' = w.alloc (.cells #[.string ⟨#[99, 108, 111, 115, 101]⟩, .int .i64 (-1), .int .i64 (-1), .int .i64 (-1), .bool false] 169) → RowPost w 15 e w') :=
    fun e w' h1 h2 => ⟨h1, h2⟩
  have i0 : ∀ w, (Instr.index 187 (.agg #[.string ⟨#[111, 112, 101, 110]⟩, .string ⟨#[99, 108, 111, 115, 101]⟩, .string ⟨#[117, 110, 100, 111]⟩, .string ⟨#[101, 105, 116, 104, 101, 114]⟩, .string ⟨#[111, 114]⟩, .string ⟨#[100, 111, 110, 101]⟩, .string ⟨#[114, 101, 116, 114, 121]⟩]) (.int .i64 1)).run Tryd.prog w = .ok (.string ⟨#[99, 108, 111, 115, 101]⟩) w := fun _ => by kernel_rfl
  go_enter Tryd.func93, Tryd.ntmps93
  go_wp2
  exact bodyPost_ret (by simp [results, Tryd.results93, go_sem]; try rfl) rfl (HP.out _ _ rfl rfl)

theorem rowOf_16 (w : World) : Calls Tryd.prog 93 #[.int .i64 16] w (RowPost w 16) := by
  have HP : Hid (∀ e w', e = .returned (.tuple #[.agg #[.string ⟨#[117, 110, 100, 111]⟩, .int .i64 (-1), .int .i64 (-1), .int .i64 (-1), .bool false], .bool true]) →
      w' = w.alloc (.cells #[.string ⟨#[117, 110, 100, 111]⟩, .int .i64 (-1), .int .i64 (-1), .int .i64 (-1), .bool false] 169) → RowPost w 16 e w') :=
    fun e w' h1 h2 => ⟨h1, h2⟩
  have i0 : ∀ w, (Instr.index 187 (.agg #[.string ⟨#[111, 112, 101, 110]⟩, .string ⟨#[99, 108, 111, 115, 101]⟩, .string ⟨#[117, 110, 100, 111]⟩, .string ⟨#[101, 105, 116, 104, 101, 114]⟩, .string ⟨#[111, 114]⟩, .string ⟨#[100, 111, 110, 101]⟩, .string ⟨#[114, 101, 116, 114, 121]⟩]) (.int .i64 2)).run Tryd.prog w = .ok (.string ⟨#[117, 110, 100, 111]⟩) w := fun _ => by kernel_rfl
  go_enter Tryd.func93, Tryd.ntmps93
  go_wp2
  exact bodyPost_ret (by simp [results, Tryd.results93, go_sem]; try rfl) rfl (HP.out _ _ rfl rfl)

theorem rowOf_17 (w : World) : Calls Tryd.prog 93 #[.int .i64 17] w (RowPost w 17) := by
  have HP : Hid (∀ e w', e = .returned (.tuple #[.agg #[.string ⟨#[101, 105, 116, 104, 101, 114]⟩, .int .i64 (-1), .int .i64 (-1), .int .i64 (-1), .bool false], .bool true]) →
      w' = w.alloc (.cells #[.string ⟨#[101, 105, 116, 104, 101, 114]⟩, .int .i64 (-1), .int .i64 (-1), .int .i64 (-1), .bool false] 169) → RowPost w 17 e w') :=
    fun e w' h1 h2 => ⟨h1, h2⟩
  have i0 : ∀ w, (Instr.index 187 (.agg #[.string ⟨#[111, 112, 101, 110]⟩, .string ⟨#[99, 108, 111, 115, 101]⟩, .string ⟨#[117, 110, 100, 111]⟩, .string ⟨#[101, 105, 116, 104, 101, 114]⟩, .string ⟨#[111, 114]⟩, .string ⟨#[100, 111, 110, 101]⟩, .string ⟨#[114, 101, 116, 114, 121]⟩]) (.int .i64 3)).run Tryd.prog w = .ok (.string ⟨#[101, 105, 116, 104, 101, 114]⟩) w := fun _ => by kernel_rfl
  go_enter Tryd.func93, Tryd.ntmps93
  go_wp2
  exact bodyPost_ret (by simp [results, Tryd.results93, go_sem]; try rfl) rfl (HP.out _ _ rfl rfl)

theorem rowOf_18 (w : World) : Calls Tryd.prog 93 #[.int .i64 18] w (RowPost w 18) := by
  have HP : Hid (∀ e w', e = .returned (.tuple #[.agg #[.string ⟨#[111, 114]⟩, .int .i64 (-1), .int .i64 (-1), .int .i64 (-1), .bool false], .bool true]) →
      w' = w.alloc (.cells #[.string ⟨#[111, 114]⟩, .int .i64 (-1), .int .i64 (-1), .int .i64 (-1), .bool false] 169) → RowPost w 18 e w') :=
    fun e w' h1 h2 => ⟨h1, h2⟩
  have i0 : ∀ w, (Instr.index 187 (.agg #[.string ⟨#[111, 112, 101, 110]⟩, .string ⟨#[99, 108, 111, 115, 101]⟩, .string ⟨#[117, 110, 100, 111]⟩, .string ⟨#[101, 105, 116, 104, 101, 114]⟩, .string ⟨#[111, 114]⟩, .string ⟨#[100, 111, 110, 101]⟩, .string ⟨#[114, 101, 116, 114, 121]⟩]) (.int .i64 4)).run Tryd.prog w = .ok (.string ⟨#[111, 114]⟩) w := fun _ => by kernel_rfl
  go_enter Tryd.func93, Tryd.ntmps93
  go_wp2
  exact bodyPost_ret (by simp [results, Tryd.results93, go_sem]; try rfl) rfl (HP.out _ _ rfl rfl)

theorem rowOf_19 (w : World) : Calls Tryd.prog 93 #[.int .i64 19] w (RowPost w 19) := by
  have HP : Hid (∀ e w', e = .returned (.tuple #[.agg #[.string ⟨#[100, 111, 110, 101]⟩, .int .i64 (-1), .int .i64 (-1), .int .i64 (-1), .bool false], .bool true]) →
      w' = w.alloc (.cells #[.string ⟨#[100, 111, 110, 101]⟩, .int .i64 (-1), .int .i64 (-1), .int .i64 (-1), .bool false] 169) → RowPost w 19 e w') :=
    fun e w' h1 h2 => ⟨h1, h2⟩
  have i0 : ∀ w, (Instr.index 187 (.agg #[.string ⟨#[111, 112, 101, 110]⟩, .string ⟨#[99, 108, 111, 115, 101]⟩, .string ⟨#[117, 110, 100, 111]⟩, .string ⟨#[101, 105, 116, 104, 101, 114]⟩, .string ⟨#[111, 114]⟩, .string ⟨#[100, 111, 110, 101]⟩, .string ⟨#[114, 101, 116, 114, 121]⟩]) (.int .i64 5)).run Tryd.prog w = .ok (.string ⟨#[100, 111, 110, 101]⟩) w := fun _ => by kernel_rfl
  go_enter Tryd.func93, Tryd.ntmps93
  go_wp2
  exact bodyPost_ret (by simp [results, Tryd.results93, go_sem]; try rfl) rfl (HP.out _ _ rfl rfl)

theorem rowOf_20 (w : World) : Calls Tryd.prog 93 #[.int .i64 20] w (RowPost w 20) := by
  have HP : Hid (∀ e w', e = .returned (.tuple #[.agg #[.string ⟨#[114, 101, 116, 114, 121]⟩, .int .i64 (-1), .int .i64 (-1), .int .i64 (-1), .bool false], .bool true]) →
      w' = w.alloc (.cells #[.string ⟨#[114, 101, 116, 114, 121]⟩, .int .i64 (-1), .int .i64 (-1), .int .i64 (-1), .bool false] 169) → RowPost w 20 e w') :=
    fun e w' h1 h2 => ⟨h1, h2⟩
  have i0 : ∀ w, (Instr.index 187 (.agg #[.string ⟨#[111, 112, 101, 110]⟩, .string ⟨#[99, 108, 111, 115, 101]⟩, .string ⟨#[117, 110, 100, 111]⟩, .string ⟨#[101, 105, 116, 104, 101, 114]⟩, .string ⟨#[111, 114]⟩, .string ⟨#[100, 111, 110, 101]⟩, .string ⟨#[114, 101, 116, 114, 121]⟩]) (.int .i64 6)).run Tryd.prog w = .ok (.string ⟨#[114, 101, 116, 114, 121]⟩) w := fun _ => by kernel_rfl
  go_enter Tryd.func93, Tryd.ntmps93
  go_wp2
  exact bodyPost_ret (by simp [results, Tryd.results93, go_sem]; try rfl) rfl (HP.out _ _ rfl rfl)

theorem rowOf_21 (w : World) : Calls Tryd.prog 93 #[.int .i64 21] w (RowPost w 21) := by
  have HP : Hid (∀ e w', e = .returned (.tuple #[.agg #[.string ⟨#[101, 109, 105, 116]⟩, .int .i64 7, .int .i64 (-1), .int .i64 (-1), .bool false], .bool true]) →
      w' = w.alloc (.cells #[.string ⟨#[101, 109, 105, 116]⟩, .int .i64 7, .int .i64 (-1), .int .i64 (-1), .bool false] 169) → RowPost w 21 e w') :=
    fun e w' h1 h2 => ⟨h1, h2⟩
  go_enter Tryd.func93, Tryd.ntmps93
  go_wp2
  exact bodyPost_ret (by simp [results, Tryd.results93, go_sem]; try rfl) rfl (HP.out _ _ rfl rfl)

theorem rowOf_22 (w : World) : Calls Tryd.prog 93 #[.int .i64 22] w (RowPost w 22) := by
  have HP : Hid (∀ e w', e = .returned (.tuple #[.agg #[.string ⟨#[102, 97, 105, 108]⟩, .int .i64 (-1), .int .i64 (-1), .int .i64 (-1), .bool false], .bool true]) →
      w' = w.alloc (.cells #[.string ⟨#[102, 97, 105, 108]⟩, .int .i64 (-1), .int .i64 (-1), .int .i64 (-1), .bool false] 169) → RowPost w 22 e w') :=
    fun e w' h1 h2 => ⟨h1, h2⟩
  go_enter Tryd.func93, Tryd.ntmps93
  go_wp2
  exact bodyPost_ret (by simp [results, Tryd.results93, go_sem]; try rfl) rfl (HP.out _ _ rfl rfl)

theorem rowOf_23 (w : World) : Calls Tryd.prog 93 #[.int .i64 23] w (RowPost w 23) := by
  have HP : Hid (∀ e w', e = .returned (.tuple #[.agg #[.string ⟨#[99, 97, 108, 108]⟩, .int .i64 12, .int .i64 7, .int .i64 6, .bool false], .bool true]) →
      w' = w.alloc (.cells #[.string ⟨#[99, 97, 108, 108]⟩, .int .i64 12, .int .i64 7, .int .i64 6, .bool false] 169) → RowPost w 23 e w') :=
    fun e w' h1 h2 => ⟨h1, h2⟩
  go_enter Tryd.func93, Tryd.ntmps93
  go_wp2
  exact bodyPost_ret (by simp [results, Tryd.results93, go_sem]; try rfl) rfl (HP.out _ _ rfl rfl)

theorem rowOf_other (n : Int) (w : World) (h : opB n = false) : Calls Tryd.prog 93 #[.int .i64 n] w (RowPost w n) := by
  have HP : Hid (∀ e w', e = .returned (.tuple #[.agg #[.string ⟨#[]⟩, .int .i64 0, .int .i64 0, .int .i64 0, .bool false], .bool false]) →
      w' = w.alloc (.cells #[.string ⟨#[]⟩, .int .i64 0, .int .i64 0, .int .i64 0, .bool false] 169) → RowPost w n e w') := by
    have h2 : ¬ (1 ≤ n ∧ n ≤ 23) := by simpa [opB] using h
    have a0 : rA n = 0 := by unfold rA; rw [if_neg (by omega), if_neg (by omega), if_neg (by omega)]
    have b0 : rB n = 0 := by unfold rB; rw [if_neg (by omega), if_neg (by omega)]
    have c0 : rC n = 0 := by unfold rC; rw [if_neg (by omega), if_neg (by omega), if_neg (by omega), if_neg (by omega), if_neg (by omega)]
    have n0 : rN n = false := by simp [rN]; omega
    intro e w' h1 h3
    unfold RowPost
    rw [name_no h, a0, b0, c0, n0, h]
    exact ⟨h1, h3⟩
  have h2 : ¬ (1 ≤ n ∧ n ≤ 23) := by simpa [opB] using h
  have e1 : (n == 1) = false := by simp; omega
  have e2 : (n == 2) = false := by simp; omega
  have e3 : (n == 3) = false := by simp; omega
  have e4 : (n == 4) = false := by simp; omega
  have e5 : (n == 5) = false := by simp; omega
  have e6 : (n == 6) = false := by simp; omega
  have e7 : (n == 7) = false := by simp; omega
  have e8 : (n == 8) = false := by simp; omega
  have e9 : (n == 9) = false := by simp; omega
  have e10 : (n == 10) = false := by simp; omega
  have e11 : (n == 11) = false := by simp; omega
  have e12 : (n == 12) = false := by simp; omega
  have e13 : (n == 13) = false := by simp; omega
  have e14 : (n == 14) = false := by simp; omega
  have e15 : (n == 15) = false := by simp; omega
  have e16 : (n == 16) = false := by simp; omega
  have e17 : (n == 17) = false := by simp; omega
  have e18 : (n == 18) = false := by simp; omega
  have e19 : (n == 19) = false := by simp; omega
  have e20 : (n == 20) = false := by simp; omega
  have e21 : (n == 21) = false := by simp; omega
  have e22 : (n == 22) = false := by simp; omega
  have e23 : (n == 23) = false := by simp; omega
  clear h h2
  go_enter Tryd.func93, Tryd.ntmps93
  go_wp2
  exact bodyPost_ret (by simp [results, Tryd.results93, go_sem]; try rfl) rfl (HP.out _ _ rfl rfl)

theorem rowOf_any (n : Int) (w : World) : Calls Tryd.prog 93 #[.int .i64 n] w (RowPost w n) := by
  cases h : opB n
  · exact rowOf_other n w h
  · have h2 : 1 ≤ n ∧ n ≤ 23 := by simpa [opB] using h
    rcases (by omega : n = 1 ∨ n = 2 ∨ n = 3 ∨ n = 4 ∨ n = 5 ∨ n = 6 ∨ n = 7 ∨ n = 8 ∨ n = 9 ∨ n = 10 ∨ n = 11 ∨ n = 12 ∨ n = 13 ∨ n = 14 ∨ n = 15 ∨ n = 16 ∨ n = 17 ∨ n = 18 ∨ n = 19 ∨ n = 20 ∨ n = 21 ∨ n = 22 ∨ n = 23) with rfl | rfl | rfl | rfl | rfl | rfl | rfl | rfl | rfl | rfl | rfl | rfl | rfl | rfl | rfl | rfl | rfl | rfl | rfl | rfl | rfl | rfl | rfl
    · exact rowOf_1 w
    · exact rowOf_2 w
    · exact rowOf_3 w
    · exact rowOf_4 w
    · exact rowOf_5 w
    · exact rowOf_6 w
    · exact rowOf_7 w
    · exact rowOf_8 w
    · exact rowOf_9 w
    · exact rowOf_10 w
    · exact rowOf_11 w
    · exact rowOf_12 w
    · exact rowOf_13 w
    · exact rowOf_14 w
    · exact rowOf_15 w
    · exact rowOf_16 w
    · exact rowOf_17 w
    · exact rowOf_18 w
    · exact rowOf_19 w
    · exact rowOf_20 w
    · exact rowOf_21 w
    · exact rowOf_22 w
    · exact rowOf_23 w

def withinB (n m : Int) : Bool := decide (n = 0 ∧ m < 0 ∨ 0 ≤ n ∧ n ≤ m)
theorem within_any (n m : Int) (w : World) : Calls Tryd.prog 94 #[.int .i64 n, .int .i64 m] w fun e w' => e = .returned (.bool (withinB n m)) ∧ w = w' := by
  rcases (by omega : n = 0 ∨ n < 0 ∨ 0 < n) with h | h | h
  · subst h
    by_cases h2 : m < 0
    · rw [show withinB 0 m = true by simp [withinB, h2]]
      have d : decide (m < 0) = true := by simpa using h2
      go_enter Tryd.func94, Tryd.ntmps94
      go_wp2
      go_ret
      exact ⟨rfl, rfl⟩
    · rw [show withinB 0 m = true by simp [withinB]; omega]
      have d : decide (m < 0) = false := by simpa using h2
      have d2 : decide (0 ≤ m) = true := by simp; omega
      go_enter Tryd.func94, Tryd.ntmps94
      go_wp2
      go_ret
      exact ⟨rfl, rfl⟩
  · rw [show withinB n m = false by simp [withinB]; omega]
    have d : (n == 0) = false := by simp; omega
    have d2 : decide (0 ≤ n) = false := by simp; omega
    go_enter Tryd.func94, Tryd.ntmps94
    go_wp2
    go_ret
    exact ⟨rfl, rfl⟩
  · have d : (n == 0) = false := by simp; omega
    have d2 : decide (0 ≤ n) = true := by simp; omega
    by_cases h2 : n ≤ m
    · rw [show withinB n m = true by simp [withinB]; omega]
      have d3 : decide (n ≤ m) = true := by simpa using h2
      go_enter Tryd.func94, Tryd.ntmps94
      go_wp2
      go_ret
      exact ⟨rfl, rfl⟩
    · rw [show withinB n m = false by simp [withinB]; omega]
      have d3 : decide (n ≤ m) = false := by simpa using h2
      go_enter Tryd.func94, Tryd.ntmps94
      go_wp2
      go_ret
      exact ⟨rfl, rfl⟩
end Go.Proofs.YtngahgfppbjebaaDoor
namespace Go.Proofs.YtngahgfppbjebaaDoor
open Go.RowKit
set_option linter.unusedVariables false
set_option linter.unusedSimpArgs false

def rmayB (op a b c N : Int) : Bool := opB op && (rN op || N == 0) && withinB a (rA op) && withinB b (rB op) && withinB c (rC op) && (op != 23 || decide (1 ≤ a))

set_option maxHeartbeats 1000000 in
theorem rmay_op (op a b c N : Int) (w : World) (h : opB op = false) :
    Calls Tryd.prog 66 #[.agg #[.int .i64 op, .int .i64 a, .int .i64 b, .int .i64 c, .int .u64 N]] w fun e w' => e = .returned (.bool (rmayB op a b c N)) ∧ Only Nob w w' := by
  have HM : Hid (rmayB op a b c N = false) := by
    unfold Hid
    simp [rmayB, h]
  go_enter Tryd.func66, Tryd.ntmps66
  go_wp2_with (first
    | (go_at_call 93; refine (rowOf_any _ _).mono ?_; rintro e w1 ⟨rfl, rfl⟩)
    | (go_at_call 94; refine (within_any _ _ _).mono ?_; rintro e w1 ⟨rfl, rfl⟩))
  go_ret
  refine ⟨by rw [HM.out]; rfl, ?_⟩
  repeat' (first | (with_reducible refine Only.setCell ?_ ?_ _) | (with_reducible refine Only.alloc ?_ _) | (with_reducible refine Only.drewN ?_ _) | (with_reducible refine Only.drew ?_) | (with_reducible exact Only.refl _ _) | (right; simp; done) | (right; simp; omega))

set_option maxHeartbeats 1000000 in
theorem rmay_n (op a b c N : Int) (w : World) (h : opB op = true) (hr : rN op = false) (hn : (N != 0) = true) :
    Calls Tryd.prog 66 #[.agg #[.int .i64 op, .int .i64 a, .int .i64 b, .int .i64 c, .int .u64 N]] w fun e w' => e = .returned (.bool (rmayB op a b c N)) ∧ Only Nob w w' := by
  have HM : Hid (rmayB op a b c N = false) := by
    unfold Hid
    rw [bne_iff_ne] at hn; simp [rmayB, hr, hn]
  go_enter Tryd.func66, Tryd.ntmps66
  go_wp2_with (first
    | (go_at_call 93; refine (rowOf_any _ _).mono ?_; rintro e w1 ⟨rfl, rfl⟩)
    | (go_at_call 94; refine (within_any _ _ _).mono ?_; rintro e w1 ⟨rfl, rfl⟩))
  go_ret
  refine ⟨by rw [HM.out]; rfl, ?_⟩
  repeat' (first | (with_reducible refine Only.setCell ?_ ?_ _) | (with_reducible refine Only.alloc ?_ _) | (with_reducible refine Only.drewN ?_ _) | (with_reducible refine Only.drew ?_) | (with_reducible exact Only.refl _ _) | (right; simp; done) | (right; simp; omega))

set_option maxHeartbeats 1000000 in
theorem rmay_ax (op a b c N : Int) (w : World) (h : opB op = true) (hr : rN op = true) (ha : withinB a (rA op) = false) :
    Calls Tryd.prog 66 #[.agg #[.int .i64 op, .int .i64 a, .int .i64 b, .int .i64 c, .int .u64 N]] w fun e w' => e = .returned (.bool (rmayB op a b c N)) ∧ Only Nob w w' := by
  have HM : Hid (rmayB op a b c N = false) := by
    unfold Hid
    simp [rmayB, ha]
  go_enter Tryd.func66, Tryd.ntmps66
  go_wp2_with (first
    | (go_at_call 93; refine (rowOf_any _ _).mono ?_; rintro e w1 ⟨rfl, rfl⟩)
    | (go_at_call 94; refine (within_any _ _ _).mono ?_; rintro e w1 ⟨rfl, rfl⟩))
  go_ret
  refine ⟨by rw [HM.out]; rfl, ?_⟩
  repeat' (first | (with_reducible refine Only.setCell ?_ ?_ _) | (with_reducible refine Only.alloc ?_ _) | (with_reducible refine Only.drewN ?_ _) | (with_reducible refine Only.drew ?_) | (with_reducible exact Only.refl _ _) | (right; simp; done) | (right; simp; omega))

set_option maxHeartbeats 1000000 in
theorem rmay_bx (op a b c N : Int) (w : World) (h : opB op = true) (hr : rN op = true) (ha : withinB a (rA op) = true) (hb : withinB b (rB op) = false) :
    Calls Tryd.prog 66 #[.agg #[.int .i64 op, .int .i64 a, .int .i64 b, .int .i64 c, .int .u64 N]] w fun e w' => e = .returned (.bool (rmayB op a b c N)) ∧ Only Nob w w' := by
  have HM : Hid (rmayB op a b c N = false) := by
    unfold Hid
    simp [rmayB, hb]
  go_enter Tryd.func66, Tryd.ntmps66
  go_wp2_with (first
    | (go_at_call 93; refine (rowOf_any _ _).mono ?_; rintro e w1 ⟨rfl, rfl⟩)
    | (go_at_call 94; refine (within_any _ _ _).mono ?_; rintro e w1 ⟨rfl, rfl⟩))
  go_ret
  refine ⟨by rw [HM.out]; rfl, ?_⟩
  repeat' (first | (with_reducible refine Only.setCell ?_ ?_ _) | (with_reducible refine Only.alloc ?_ _) | (with_reducible refine Only.drewN ?_ _) | (with_reducible refine Only.drew ?_) | (with_reducible exact Only.refl _ _) | (right; simp; done) | (right; simp; omega))

set_option maxHeartbeats 1000000 in
theorem rmay_cx (op a b c N : Int) (w : World) (h : opB op = true) (hr : rN op = true) (ha : withinB a (rA op) = true) (hb : withinB b (rB op) = true) (hc : withinB c (rC op) = false) :
    Calls Tryd.prog 66 #[.agg #[.int .i64 op, .int .i64 a, .int .i64 b, .int .i64 c, .int .u64 N]] w fun e w' => e = .returned (.bool (rmayB op a b c N)) ∧ Only Nob w w' := by
  have HM : Hid (rmayB op a b c N = false) := by
    unfold Hid
    simp [rmayB, hc]
  go_enter Tryd.func66, Tryd.ntmps66
  go_wp2_with (first
    | (go_at_call 93; refine (rowOf_any _ _).mono ?_; rintro e w1 ⟨rfl, rfl⟩)
    | (go_at_call 94; refine (within_any _ _ _).mono ?_; rintro e w1 ⟨rfl, rfl⟩))
  go_ret
  refine ⟨by rw [HM.out]; rfl, ?_⟩
  repeat' (first | (with_reducible refine Only.setCell ?_ ?_ _) | (with_reducible refine Only.alloc ?_ _) | (with_reducible refine Only.drewN ?_ _) | (with_reducible refine Only.drew ?_) | (with_reducible exact Only.refl _ _) | (right; simp; done) | (right; simp; omega))

set_option maxHeartbeats 1000000 in
theorem rmay_dx (op a b c N : Int) (w : World) (h : opB op = true) (hr : rN op = true) (ha : withinB a (rA op) = true) (hb : withinB b (rB op) = true) (hc : withinB c (rC op) = true) (hd : (op != 23) = true) :
    Calls Tryd.prog 66 #[.agg #[.int .i64 op, .int .i64 a, .int .i64 b, .int .i64 c, .int .u64 N]] w fun e w' => e = .returned (.bool (rmayB op a b c N)) ∧ Only Nob w w' := by
  have HM : Hid (rmayB op a b c N = true) := by
    unfold Hid
    have hn2 : (rN op || N == 0) = true := by first | (simp [hr]; done) | (rw [bne_eq_false_iff_eq] at hn; simp [hn])
    simp only [rmayB, h, hn2, ha, hb, hc, hd]; rfl
  go_enter Tryd.func66, Tryd.ntmps66
  go_wp2_with (first
    | (go_at_call 93; refine (rowOf_any _ _).mono ?_; rintro e w1 ⟨rfl, rfl⟩)
    | (go_at_call 94; refine (within_any _ _ _).mono ?_; rintro e w1 ⟨rfl, rfl⟩))
  go_ret
  refine ⟨by rw [HM.out]; rfl, ?_⟩
  repeat' (first | (with_reducible refine Only.setCell ?_ ?_ _) | (with_reducible refine Only.alloc ?_ _) | (with_reducible refine Only.drewN ?_ _) | (with_reducible refine Only.drew ?_) | (with_reducible exact Only.refl _ _) | (right; simp; done) | (right; simp; omega))

set_option maxHeartbeats 1000000 in
theorem rmay_ex (op a b c N : Int) (w : World) (h : opB op = true) (hr : rN op = true) (ha : withinB a (rA op) = true) (hb : withinB b (rB op) = true) (hc : withinB c (rC op) = true) (hd : (op != 23) = false) :
    Calls Tryd.prog 66 #[.agg #[.int .i64 op, .int .i64 a, .int .i64 b, .int .i64 c, .int .u64 N]] w fun e w' => e = .returned (.bool (rmayB op a b c N)) ∧ Only Nob w w' := by
  have HM : Hid (rmayB op a b c N = decide (1 ≤ a)) := by
    unfold Hid
    have hn2 : (rN op || N == 0) = true := by first | (simp [hr]; done) | (rw [bne_eq_false_iff_eq] at hn; simp [hn])
    simp only [rmayB, h, hn2, ha, hb, hc, hd]; rfl
  go_enter Tryd.func66, Tryd.ntmps66
  go_wp2_with (first
    | (go_at_call 93; refine (rowOf_any _ _).mono ?_; rintro e w1 ⟨rfl, rfl⟩)
    | (go_at_call 94; refine (within_any _ _ _).mono ?_; rintro e w1 ⟨rfl, rfl⟩))
  go_ret
  refine ⟨by rw [HM.out]; rfl, ?_⟩
  repeat' (first | (with_reducible refine Only.setCell ?_ ?_ _) | (with_reducible refine Only.alloc ?_ _) | (with_reducible refine Only.drewN ?_ _) | (with_reducible refine Only.drew ?_) | (with_reducible exact Only.refl _ _) | (right; simp; done) | (right; simp; omega))

set_option maxHeartbeats 1000000 in
theorem rmay_ay (op a b c N : Int) (w : World) (h : opB op = true) (hr : rN op = false) (hn : (N != 0) = false) (ha : withinB a (rA op) = false) :
    Calls Tryd.prog 66 #[.agg #[.int .i64 op, .int .i64 a, .int .i64 b, .int .i64 c, .int .u64 N]] w fun e w' => e = .returned (.bool (rmayB op a b c N)) ∧ Only Nob w w' := by
  have HM : Hid (rmayB op a b c N = false) := by
    unfold Hid
    simp [rmayB, ha]
  go_enter Tryd.func66, Tryd.ntmps66
  go_wp2_with (first
    | (go_at_call 93; refine (rowOf_any _ _).mono ?_; rintro e w1 ⟨rfl, rfl⟩)
    | (go_at_call 94; refine (within_any _ _ _).mono ?_; rintro e w1 ⟨rfl, rfl⟩))
  go_ret
  refine ⟨by rw [HM.out]; rfl, ?_⟩
  repeat' (first | (with_reducible refine Only.setCell ?_ ?_ _) | (with_reducible refine Only.alloc ?_ _) | (with_reducible refine Only.drewN ?_ _) | (with_reducible refine Only.drew ?_) | (with_reducible exact Only.refl _ _) | (right; simp; done) | (right; simp; omega))

set_option maxHeartbeats 1000000 in
theorem rmay_by (op a b c N : Int) (w : World) (h : opB op = true) (hr : rN op = false) (hn : (N != 0) = false) (ha : withinB a (rA op) = true) (hb : withinB b (rB op) = false) :
    Calls Tryd.prog 66 #[.agg #[.int .i64 op, .int .i64 a, .int .i64 b, .int .i64 c, .int .u64 N]] w fun e w' => e = .returned (.bool (rmayB op a b c N)) ∧ Only Nob w w' := by
  have HM : Hid (rmayB op a b c N = false) := by
    unfold Hid
    simp [rmayB, hb]
  go_enter Tryd.func66, Tryd.ntmps66
  go_wp2_with (first
    | (go_at_call 93; refine (rowOf_any _ _).mono ?_; rintro e w1 ⟨rfl, rfl⟩)
    | (go_at_call 94; refine (within_any _ _ _).mono ?_; rintro e w1 ⟨rfl, rfl⟩))
  go_ret
  refine ⟨by rw [HM.out]; rfl, ?_⟩
  repeat' (first | (with_reducible refine Only.setCell ?_ ?_ _) | (with_reducible refine Only.alloc ?_ _) | (with_reducible refine Only.drewN ?_ _) | (with_reducible refine Only.drew ?_) | (with_reducible exact Only.refl _ _) | (right; simp; done) | (right; simp; omega))

set_option maxHeartbeats 1000000 in
theorem rmay_cy (op a b c N : Int) (w : World) (h : opB op = true) (hr : rN op = false) (hn : (N != 0) = false) (ha : withinB a (rA op) = true) (hb : withinB b (rB op) = true) (hc : withinB c (rC op) = false) :
    Calls Tryd.prog 66 #[.agg #[.int .i64 op, .int .i64 a, .int .i64 b, .int .i64 c, .int .u64 N]] w fun e w' => e = .returned (.bool (rmayB op a b c N)) ∧ Only Nob w w' := by
  have HM : Hid (rmayB op a b c N = false) := by
    unfold Hid
    simp [rmayB, hc]
  go_enter Tryd.func66, Tryd.ntmps66
  go_wp2_with (first
    | (go_at_call 93; refine (rowOf_any _ _).mono ?_; rintro e w1 ⟨rfl, rfl⟩)
    | (go_at_call 94; refine (within_any _ _ _).mono ?_; rintro e w1 ⟨rfl, rfl⟩))
  go_ret
  refine ⟨by rw [HM.out]; rfl, ?_⟩
  repeat' (first | (with_reducible refine Only.setCell ?_ ?_ _) | (with_reducible refine Only.alloc ?_ _) | (with_reducible refine Only.drewN ?_ _) | (with_reducible refine Only.drew ?_) | (with_reducible exact Only.refl _ _) | (right; simp; done) | (right; simp; omega))

set_option maxHeartbeats 1000000 in
theorem rmay_dy (op a b c N : Int) (w : World) (h : opB op = true) (hr : rN op = false) (hn : (N != 0) = false) (ha : withinB a (rA op) = true) (hb : withinB b (rB op) = true) (hc : withinB c (rC op) = true) (hd : (op != 23) = true) :
    Calls Tryd.prog 66 #[.agg #[.int .i64 op, .int .i64 a, .int .i64 b, .int .i64 c, .int .u64 N]] w fun e w' => e = .returned (.bool (rmayB op a b c N)) ∧ Only Nob w w' := by
  have HM : Hid (rmayB op a b c N = true) := by
    unfold Hid
    have hn2 : (rN op || N == 0) = true := by first | (simp [hr]; done) | (rw [bne_eq_false_iff_eq] at hn; simp [hn])
    simp only [rmayB, h, hn2, ha, hb, hc, hd]; rfl
  go_enter Tryd.func66, Tryd.ntmps66
  go_wp2_with (first
    | (go_at_call 93; refine (rowOf_any _ _).mono ?_; rintro e w1 ⟨rfl, rfl⟩)
    | (go_at_call 94; refine (within_any _ _ _).mono ?_; rintro e w1 ⟨rfl, rfl⟩))
  go_ret
  refine ⟨by rw [HM.out]; rfl, ?_⟩
  repeat' (first | (with_reducible refine Only.setCell ?_ ?_ _) | (with_reducible refine Only.alloc ?_ _) | (with_reducible refine Only.drewN ?_ _) | (with_reducible refine Only.drew ?_) | (with_reducible exact Only.refl _ _) | (right; simp; done) | (right; simp; omega))

set_option maxHeartbeats 1000000 in
theorem rmay_ey (op a b c N : Int) (w : World) (h : opB op = true) (hr : rN op = false) (hn : (N != 0) = false) (ha : withinB a (rA op) = true) (hb : withinB b (rB op) = true) (hc : withinB c (rC op) = true) (hd : (op != 23) = false) :
    Calls Tryd.prog 66 #[.agg #[.int .i64 op, .int .i64 a, .int .i64 b, .int .i64 c, .int .u64 N]] w fun e w' => e = .returned (.bool (rmayB op a b c N)) ∧ Only Nob w w' := by
  have HM : Hid (rmayB op a b c N = decide (1 ≤ a)) := by
    unfold Hid
    have hn2 : (rN op || N == 0) = true := by first | (simp [hr]; done) | (rw [bne_eq_false_iff_eq] at hn; simp [hn])
    simp only [rmayB, h, hn2, ha, hb, hc, hd]; rfl
  go_enter Tryd.func66, Tryd.ntmps66
  go_wp2_with (first
    | (go_at_call 93; refine (rowOf_any _ _).mono ?_; rintro e w1 ⟨rfl, rfl⟩)
    | (go_at_call 94; refine (within_any _ _ _).mono ?_; rintro e w1 ⟨rfl, rfl⟩))
  go_ret
  refine ⟨by rw [HM.out]; rfl, ?_⟩
  repeat' (first | (with_reducible refine Only.setCell ?_ ?_ _) | (with_reducible refine Only.alloc ?_ _) | (with_reducible refine Only.drewN ?_ _) | (with_reducible refine Only.drew ?_) | (with_reducible exact Only.refl _ _) | (right; simp; done) | (right; simp; omega))

theorem rmay_any (op a b c N : Int) (w : World) :
    Calls Tryd.prog 66 #[.agg #[.int .i64 op, .int .i64 a, .int .i64 b, .int .i64 c, .int .u64 N]] w fun e w' => e = .returned (.bool (rmayB op a b c N)) ∧ Only Nob w w' := by
  cases h : opB op
  · exact rmay_op op a b c N w h
  · cases hr : rN op
    · cases hn : (N != 0)
      · cases ha : withinB a (rA op)
        · exact rmay_ay op a b c N w h hr hn ha
        · cases hb : withinB b (rB op)
          · exact rmay_by op a b c N w h hr hn ha hb
          · cases hc : withinB c (rC op)
            · exact rmay_cy op a b c N w h hr hn ha hb hc
            · cases hd : (op != 23)
              · exact rmay_ey op a b c N w h hr hn ha hb hc hd
              · exact rmay_dy op a b c N w h hr hn ha hb hc hd
      · exact rmay_n op a b c N w h hr hn
    · cases ha : withinB a (rA op)
      · exact rmay_ax op a b c N w h hr ha
      · cases hb : withinB b (rB op)
        · exact rmay_bx op a b c N w h hr ha hb
        · cases hc : withinB c (rC op)
          · exact rmay_cx op a b c N w h hr ha hb hc
          · cases hd : (op != 23)
            · exact rmay_ex op a b c N w h hr ha hb hc hd
            · exact rmay_dx op a b c N w h hr ha hb hc hd

theorem rmay_may (op a b c N : Int) : rmayB op a b c N = mayB op a b c N := by
  cases h : opB op
  · simp [rmayB, mayB, h]
  · have h2 : 1 ≤ op ∧ op ≤ 23 := by simpa [opB] using h
    rw [Bool.eq_iff_iff]
    simp only [rmayB, mayB, h, withinB, fitsB, rN, Bool.and_eq_true, Bool.or_eq_true, decide_eq_true_eq, beq_iff_eq, bne_iff_ne]
    rcases (by omega : op = 1 ∨ op = 2 ∨ op = 3 ∨ op = 4 ∨ op = 5 ∨ op = 6 ∨ op = 7 ∨ op = 8 ∨ op = 9 ∨ op = 10 ∨ op = 11 ∨ op = 12 ∨ op = 13 ∨ op = 14 ∨ op = 15 ∨ op = 16 ∨ op = 17 ∨ op = 18 ∨ op = 19 ∨ op = 20 ∨ op = 21 ∨ op = 22 ∨ op = 23) with rfl | rfl | rfl | rfl | rfl | rfl | rfl | rfl | rfl | rfl | rfl | rfl | rfl | rfl | rfl | rfl | rfl | rfl | rfl | rfl | rfl | rfl | rfl <;>
      (simp only [rA, rB, rC, fAl, fAh, fBh, fCh]; simp; omega)

/-- The number that 'Within' brings. -/
def winB (n lo hi : Int) : Int := lo + n % (hi - lo + 1)
theorem winB_in {n lo hi : Int} (h : lo ≤ hi) : lo ≤ winB n lo hi ∧ winB n lo hi ≤ hi := by
  have h1 := Int.emod_nonneg n (by omega : hi - lo + 1 ≠ 0)
  have h2 := Int.emod_lt_of_pos n (by omega : 0 < hi - lo + 1)
  unfold winB
  omega
end Go.Proofs.YtngahgfppbjebaaDoor
namespace Go.Proofs.YtngahgfppbjebaaDoor
set_option linter.unusedVariables false
set_option linter.unusedSimpArgs false

/-- An instruction. -/
structure PIns where
  op : Int
  a : Int
  b : Int
  c : Int
  n : Int

def PIns.none : PIns := ⟨0, 0, 0, 0, 0⟩
def mayP (x : PIns) : Bool := mayB x.op x.a x.b x.c x.n
def opOf (l : List PIns) (k : Nat) : Int := (l.getD k PIns.none).op

def endsI (op : Int) : Int := if op = 15 then 14 else if op = 18 then 17 else if op = 19 then 18 else 0
def beginsB (op : Int) : Bool := op == 14 || op == 17
def topP (st : List Int) : Int := st.head?.getD (-1)
def opAt (l : List PIns) : List Int → Int
  | [] => 0
  | t :: _ => opOf l t.toNat
def tailP (st : List Int) (op : Int) : List Int := if 0 < endsI op then st.tail else st
def behindP (st : List Int) (i op : Int) : List Int := if beginsB op || op == 18 then i :: tailP st op else tailP st op
def wrongP (l : List PIns) (st : List Int) (x : PIns) : Int :=
  if mayP x = false then 8
  else if 0 < endsI x.op ∧ opAt l st ≠ endsI x.op then 12
  else if x.op = 16 ∧ opAt l st ≠ 14 then 12
  else if beginsB x.op = true ∧ 5 ≤ st.length then 9
  else 0

/-- What is open ahead of the k-th instruction, the inmost first. -/
def stk (l : List PIns) : Nat → List Int
  | 0 => []
  | k + 1 => behindP (stk l k) k (opOf l k)
def regAt (l : List PIns) (k : Nat) : Int := topP (stk l k)
def regionsP (l : List PIns) : List Int := (List.range l.length).map (regAt l)
def errAt (l : List PIns) (k : Nat) : Int := wrongP l (stk l k) (l.getD k PIns.none)
def jumpBad (l : List PIns) (k : Nat) : Bool :=
  jumpsB (opOf l k) && (decide ((l.length : Int) < (l.getD k PIns.none).c) || (decide ((l.getD k PIns.none).c = l.length) && (regAt l k != -1)) ||
    (decide ((l.getD k PIns.none).c < l.length) && (regAt l (l.getD k PIns.none).c.toNat != regAt l k)))

/-- The first place from k on, among so many, at which f is true. -/
def firstBad (f : Nat → Bool) : Nat → Nat → Option Nat
  | 0, _ => none
  | n + 1, k => if f k then some k else firstBad f n (k + 1)
theorem firstBad_step {f : Nat → Bool} {n k : Nat} (h : k < n) : firstBad f (n - k) k = if f k then some k else firstBad f (n - (k + 1)) (k + 1) := by
  obtain ⟨m, hm⟩ : ∃ m, n - k = m + 1 := ⟨n - k - 1, by omega⟩
  rw [hm, show n - (k + 1) = m by omega]
  rfl
theorem firstBad_some {f : Nat → Bool} {n k j : Nat} (h : firstBad f n k = some j) : k ≤ j ∧ j < k + n ∧ f j = true ∧ ∀ i, k ≤ i → i < j → f i = false := by
  induction n generalizing k with
  | zero => cases h
  | succ n ih =>
    unfold firstBad at h
    by_cases hf : f k = true
    · rw [if_pos hf] at h
      injection h with h
      subst h
      exact ⟨Nat.le_refl _, by omega, hf, fun i h1 h2 => by omega⟩
    · rw [if_neg hf] at h
      obtain ⟨h1, h2, h3, h4⟩ := ih h
      refine ⟨by omega, by omega, h3, fun i h5 h6 => ?_⟩
      rcases Nat.lt_or_ge k i with h7 | h7
      · exact h4 i h7 h6
      · obtain rfl : i = k := by omega
        simpa using hf
theorem firstBad_none {f : Nat → Bool} {n k : Nat} (h : firstBad f n k = none) : ∀ i, k ≤ i → i < k + n → f i = false := by
  induction n generalizing k with
  | zero => intro i h1 h2; omega
  | succ n ih =>
    unfold firstBad at h
    by_cases hf : f k = true
    · rw [if_pos hf] at h
      cases h
    · rw [if_neg hf] at h
      intro i h1 h2
      rcases Nat.lt_or_ge k i with h7 | h7
      · exact ih h i h7 (by omega)
      · obtain rfl : i = k := by omega
        simpa using hf
theorem firstBad_congr {f g : Nat → Bool} {n k : Nat} (h : ∀ i, k ≤ i → i < k + n → (∀ j, k ≤ j → j < i → f j = false) → f i = g i) : firstBad f n k = firstBad g n k := by
  induction n generalizing k with
  | zero => rfl
  | succ n ih =>
    have h0 := h k (Nat.le_refl _) (by omega) (fun j h1 h2 => by omega)
    unfold firstBad
    rw [← h0]
    cases hf : f k
    · simp only [Bool.false_eq_true, if_false]
      refine ih fun i h1 h2 h3 => h i (by omega) (by omega) fun j h4 h5 => ?_
      rcases Nat.lt_or_ge k j with h7 | h7
      · exact h3 j h7 h5
      · obtain rfl : j = k := by omega
        exact hf
    · rfl

def badB (l : List PIns) (k : Nat) : Bool := errAt l k != 0
def sizeBad (l : List PIns) : Bool := l.length == 0 || decide (40 < l.length)
/-- May a program run? -/
def jumpsP (l : List PIns) : Int × Int :=
  match firstBad (jumpBad l) l.length 0 with
  | some k => ((k : Int), 2)
  | none => (0, 0)
def runP (l : List PIns) : Int × Int :=
  if sizeBad l then (0, 4)
  else match firstBad (badB l) l.length 0 with
    | some k => ((k : Int), errAt l k)
    | none => match stk l l.length with
      | t :: _ => (t, 12)
      | [] => jumpsP l
def okP (l : List PIns) : Bool := (runP l).2 == 0
def regionP (l : List PIns) : List Int := if okP l then regionsP l else []

/-- Where parts end, behind the first k instructions. -/
def endA (l : List PIns) : Nat → List Int
  | 0 => List.replicate l.length (-1)
  | k + 1 => if 0 < endsI (opOf l k) then (endA l k).set (regAt l k).toNat k else endA l k
def endB (l : List PIns) : Nat → List Int
  | 0 => endA l l.length
  | k + 1 => if opOf l k = 16 then (endB l k).set k ((endB l k).getD (regAt l k).toNat 0) else endB l k
def matchP (l : List PIns) : List Int := if okP l then endB l l.length else []
theorem endA_len (l : List PIns) (k : Nat) : (endA l k).length = l.length := by
  induction k with
  | zero => simp [endA]
  | succ k ih => unfold endA; split <;> simp [ih]
theorem endB_len (l : List PIns) (k : Nat) : (endB l k).length = l.length := by
  induction k with
  | zero => simp [endB, endA_len]
  | succ k ih => unfold endB; split <;> simp [ih]

/-- Everything that is open lies ahead. -/
theorem stk_lt (l : List PIns) (k : Nat) : ∀ t ∈ stk l k, 0 ≤ t ∧ t < (k : Int) := by
  induction k with
  | zero => intro t h; simp [stk] at h
  | succ k ih =>
    intro t h
    have ht : ∀ t ∈ tailP (stk l k) (opOf l k), 0 ≤ t ∧ t < (k : Int) := by
      intro t h
      unfold tailP at h
      split at h
      · exact ih t (List.mem_of_mem_tail h)
      · exact ih t h
    unfold stk behindP at h
    split at h
    · rcases List.mem_cons.1 h with rfl | h
      · omega
      · have := ht t h
        omega
    · have := ht t h
      omega
theorem regAt_lt (l : List PIns) (k : Nat) : -1 ≤ regAt l k ∧ regAt l k < (k : Int) ∧ (stk l k ≠ [] → 0 ≤ regAt l k) := by
  unfold regAt topP
  cases h : stk l k with
  | nil => exact ⟨by decide, by simp; omega, fun h => absurd rfl h⟩
  | cons t r =>
    have := stk_lt l k t (by rw [h]; simp)
    simp
    omega

/-- No error ahead of k. -/
def fine (l : List PIns) (k : Nat) : Prop := ∀ j, j < k → errAt l j = 0

theorem err_zero {l : List PIns} {st : List Int} {x : PIns} (h : wrongP l st x = 0) :
    mayP x = true ∧ (0 < endsI x.op → opAt l st = endsI x.op) ∧ (x.op = 16 → opAt l st = 14) ∧ (beginsB x.op = true → st.length < 5) := by
  unfold wrongP at h
  split at h
  · cases h
  · rename_i h1
    split at h
    · cases h
    · rename_i h2
      split at h
      · cases h
      · rename_i h3
        split at h
        · cases h
        · rename_i h4
          refine ⟨by simpa using h1, fun h5 => ?_, fun h5 => ?_, fun h5 => ?_⟩
          · exact Classical.byContradiction fun h6 => h2 ⟨h5, h6⟩
          · exact Classical.byContradiction fun h6 => h3 ⟨h5, h6⟩
          · exact Nat.lt_of_not_le fun h6 => h4 ⟨h5, h6⟩
theorem opAt_pos {l : List PIns} {st : List Int} (h : opAt l st ≠ 0) : st ≠ [] := by
  intro e
  subst e
  exact h rfl
theorem err_open {l : List PIns} {st : List Int} {x : PIns} (h : wrongP l st x = 0) (hx : 0 < endsI x.op ∨ x.op = 16) : st ≠ [] := by
  obtain ⟨_, h2, h3, _⟩ := err_zero h
  apply opAt_pos (l := l)
  rcases hx with hx | hx
  · rw [h2 hx]; omega
  · rw [h3 hx]; decide
theorem reg_ok {l : List PIns} {k : Nat} (h : errAt l k = 0) (hx : 0 < endsI (opOf l k) ∨ opOf l k = 16) : 0 ≤ regAt l k ∧ regAt l k < (k : Int) :=
  ⟨(regAt_lt l k).2.2 (err_open h hx), (regAt_lt l k).2.1⟩
theorem stk_len {l : List PIns} {k : Nat} (h : fine l k) : (stk l k).length ≤ 5 := by
  induction k with
  | zero => simp [stk]
  | succ k ih =>
    have h1 := ih (fun j hj => h j (by omega))
    have h2 := h k (by omega)
    obtain ⟨_, _, _, h5⟩ := err_zero h2
    have hne := fun hx => err_open (l := l) (st := stk l k) (x := l.getD k PIns.none) h2 hx
    unfold stk behindP tailP opOf
    generalize hop : (l.getD k PIns.none).op = op at *
    by_cases hb : beginsB op = true
    · have h6 := h5 hb
      have h7 : endsI op = 0 := by
        unfold beginsB at hb
        simp at hb
        rcases hb with rfl | rfl <;> decide
      simp [hb, h7]
      omega
    · by_cases h8 : op = 18
      · subst h8
        have h9 := hne (Or.inl (by decide))
        have h10 : 0 < (stk l k).length := List.length_pos_iff.2 h9
        rw [if_pos (by simp), if_pos (by decide)]
        simp
        omega
      · rw [if_neg (by simp [hb, h8])]
        split
        · rw [List.length_tail]; omega
        · exact h1
theorem runP_ok {l : List PIns} (h : okP l = true) : sizeBad l = false ∧ fine l l.length ∧ stk l l.length = [] ∧ (∀ k, k < l.length → jumpBad l k = false) ∧ runP l = (0, 0) := by
  unfold okP at h
  have h' : (runP l).2 = 0 := by simpa using h
  unfold runP at h' ⊢
  cases hs : sizeBad l
  · rw [hs] at h'
    simp only [Bool.false_eq_true, if_false] at h' ⊢
    cases hb : firstBad (badB l) l.length 0 with
    | some k =>
      rw [hb] at h'
      obtain ⟨_, _, h3, _⟩ := firstBad_some hb
      simp [badB] at h3
      exact absurd h' h3
    | none =>
      rw [hb] at h'
      simp only at h' ⊢
      have hn := firstBad_none hb
      cases hk : stk l l.length with
      | cons t r => rw [hk] at h'; simp at h'
      | nil =>
        rw [hk] at h'
        simp only at h' ⊢
        unfold jumpsP at h' ⊢
        cases hj : firstBad (jumpBad l) l.length 0 with
        | some k => rw [hj] at h'; simp at h'
        | none =>
          refine ⟨trivial, fun j hj' => ?_, trivial, fun k hk' => firstBad_none hj k (by omega) (by omega), rfl⟩
          have := hn j (by omega) (by omega)
          simpa [badB] using this
  · rw [hs] at h'
    simp at h'
end Go.Proofs.YtngahgfppbjebaaDoor
namespace Go.Proofs.YtngahgfppbjebaaDoor
open Go.RowKit
set_option linter.unusedVariables false
set_option linter.unusedSimpArgs false

theorem emod_fix {n d : Int} (hd : 0 < d) : n % d = if n.tmod d < 0 then n.tmod d + d else n.tmod d := by
  have e := Int.emod_eq_tmod (a := n) (b := d)
  have hna : (d.natAbs : Int) = d := Int.natAbs_of_nonneg (by omega)
  by_cases h0 : 0 ≤ n
  · have hp := Int.tmod_nonneg d h0
    rw [if_pos (Or.inl h0)] at e
    rw [if_neg (by omega)]
    omega
  · by_cases hdv : d ∣ n
    · have hz := Int.tmod_eq_zero_of_dvd hdv
      rw [if_pos (Or.inr hdv)] at e
      rw [hz] at e ⊢
      rw [if_neg (by omega)]
      omega
    · rw [if_neg (by simp [h0, hdv]), hna] at e
      have hlt : n.tmod d ≤ 0 := by
        have : 0 ≤ (-n).tmod d := Int.tmod_nonneg d (by omega)
        rw [Int.neg_tmod] at this
        omega
      have hne : n.tmod d ≠ 0 := fun hz => hdv (Int.dvd_of_tmod_eq_zero hz)
      rw [if_pos (by omega)]
      omega

set_option maxHeartbeats 1000000 in
theorem within_in (n lo hi : Int) (w : World) (h : lo ≤ hi) (h1 : -10000 ≤ lo) (h2 : hi ≤ 10000) :
    Calls Tryd.prog 62 #[.int .i64 n, .int .i64 lo, .int .i64 hi] w fun e w' => e = .returned (.int .i64 (winB n lo hi)) ∧ w = w' := by
  have hb1 := Int.lt_tmod_of_pos n (by omega : 0 < hi - lo + 1)
  have hb2 := Int.tmod_lt_of_pos n (by omega : 0 < hi - lo + 1)
  have hf := emod_fix (n := n) (by omega : 0 < hi - lo + 1)
  have hz : (hi - lo + 1 == 0) = false := by simp; omega
  have hz3 : ¬ (hi - lo + 1 = 0) := by omega
  have w1 : wrap64 (hi - lo) = hi - lo := (by unfold wrap64; omega)
  have w2 : wrap64 (hi - lo + 1) = hi - lo + 1 := (by unfold wrap64; omega)
  generalize hm : n.tmod (hi - lo + 1) = m at *
  have Hm : Hid (n.tmod (hi - lo + 1) = m) := hm
  by_cases h0 : m < 0
  · have d : decide (m < 0) = true := by simpa using h0
    have HM : Hid (winB n lo hi = lo + (m + hi - lo + 1)) := by unfold Hid winB; rw [hf, if_pos h0]; omega
    have w3 : wrap64 (m + hi) = m + hi := (by unfold wrap64; omega)
    have w4 : wrap64 (m + hi - lo) = m + hi - lo := (by unfold wrap64; omega)
    have w5 : wrap64 (m + hi - lo + 1) = m + hi - lo + 1 := (by unfold wrap64; omega)
    have w6 : wrap64 (lo + (m + hi - lo + 1)) = lo + (m + hi - lo + 1) := (by unfold wrap64; omega)
    clear hf
    go_enter Tryd.func62, Tryd.ntmps62
    go_wp2
    go_ret
    exact ⟨by rw [HM.out]; rfl, rfl⟩
  · have d : decide (m < 0) = false := by simpa using h0
    have HM : Hid (winB n lo hi = lo + m) := by unfold Hid winB; rw [hf, if_neg h0]
    have w6 : wrap64 (lo + m) = lo + m := (by unfold wrap64; omega)
    clear hf
    go_enter Tryd.func62, Tryd.ntmps62
    go_wp2
    go_ret
    exact ⟨by rw [HM.out]; rfl, rfl⟩
end Go.Proofs.YtngahgfppbjebaaDoor
