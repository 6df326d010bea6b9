/-
  Contracts of the reference: rows of instructions, whether an instruction may be.
-/
import Derived.Test.YtngahgfppbjebaaDoorCodeMay
namespace Go.Proofs.YtngahgfppbjebaaDoor
open Go.RowKit
set_option linter.unusedVariables false
set_option linter.unusedSimpArgs false

def rA (n : Int) : Int := if n = 23 then 12 else if 1 ≤ n ∧ n ≤ 11 ∨ n = 13 ∨ n = 21 then 7 else if 1 ≤ n ∧ n ≤ 23 then -1 else 0
def rB (n : Int) : Int := if 2 ≤ n ∧ n ≤ 10 ∨ n = 23 then 7 else if 1 ≤ n ∧ n ≤ 23 then -1 else 0
def rC (n : Int) : Int := if 3 ≤ n ∧ n ≤ 7 then 7 else if n = 8 ∨ n = 9 then 15 else if n = 12 ∨ n = 13 then 40 else if n = 23 then 6 else if 1 ≤ n ∧ n ≤ 23 then -1 else 0
def rN (n : Int) : Bool := decide (n = 1)

/-- What 'RowOf' leaves. -/
def RowPost (w : World) (n : Int) (e : Ending) (w' : World) : Prop :=
  e = .returned (.tuple #[.agg #[.string (atList nameList n), .int .i64 (rA n), .int .i64 (rB n), .int .i64 (rC n), .bool (rN n)], .bool (opB n)]) ∧
    w' = w.alloc (.cells #[.string (atList nameList n), .int .i64 (rA n), .int .i64 (rB n), .int .i64 (rC n), .bool (rN n)] 169)

theorem rowOf_1 (w : World) : Calls Tryd.prog 93 #[.int .i64 1] w (RowPost w 1) := by
  have HP : Hid (∀ e w', e = .returned (.tuple #[.agg #[.string ⟨#[115, 101, 116]⟩, .int .i64 7, .int .i64 (-1), .int .i64 (-1), .bool true], .bool true]) →
      w' = w.alloc (.cells #[.string ⟨#[115, 101, 116]⟩, .int .i64 7, .int .i64 (-1), .int .i64 (-1), .bool true] 169) → RowPost w 1 e w') :=
    fun e w' h1 h2 => ⟨h1, h2⟩
  go_enter Tryd.func93, Tryd.ntmps93
  go_wp2
  exact bodyPost_ret (by simp [results, Tryd.results93, go_sem]; try rfl) rfl (HP.out _ _ rfl rfl)

theorem rowOf_2 (w : World) : Calls Tryd.prog 93 #[.int .i64 2] w (RowPost w 2) := by
  have HP : Hid (∀ e w', e = .returned (.tuple #[.agg #[.string ⟨#[109, 111, 118, 101]⟩, .int .i64 7, .int .i64 7, .int .i64 (-1), .bool false], .bool true]) →
      w' = w.alloc (.cells #[.string ⟨#[109, 111, 118, 101]⟩, .int .i64 7, .int .i64 7, .int .i64 (-1), .bool false] 169) → RowPost w 2 e w') :=
    fun e w' h1 h2 => ⟨h1, h2⟩
  go_enter Tryd.func93, Tryd.ntmps93
  go_wp2
  exact bodyPost_ret (by simp [results, Tryd.results93, go_sem]; try rfl) rfl (HP.out _ _ rfl rfl)

theorem rowOf_3 (w : World) : Calls Tryd.prog 93 #[.int .i64 3] w (RowPost w 3) := by
  have HP : Hid (∀ e w', e = .returned (.tuple #[.agg #[.string ⟨#[97, 100, 100]⟩, .int .i64 7, .int .i64 7, .int .i64 7, .bool false], .bool true]) →
      w' = w.alloc (.cells #[.string ⟨#[97, 100, 100]⟩, .int .i64 7, .int .i64 7, .int .i64 7, .bool false] 169) → RowPost w 3 e w') :=
    fun e w' h1 h2 => ⟨h1, h2⟩
  have i0 : ∀ w, (Instr.index 186 (.agg #[.string ⟨#[97, 100, 100]⟩, .string ⟨#[115, 117, 98]⟩, .string ⟨#[109, 117, 108]⟩, .string ⟨#[108, 101, 115, 115]⟩, .string ⟨#[101, 113, 117, 97, 108]⟩]) (.int .i64 0)).run Tryd.prog w = .ok (.string ⟨#[97, 100, 100]⟩) w := fun _ => by kernel_rfl
  go_enter Tryd.func93, Tryd.ntmps93
  go_wp2
  exact bodyPost_ret (by simp [results, Tryd.results93, go_sem]; try rfl) rfl (HP.out _ _ rfl rfl)

theorem rowOf_4 (w : World) : Calls Tryd.prog 93 #[.int .i64 4] w (RowPost w 4) := by
  have HP : Hid (∀ e w', e = .returned (.tuple #[.agg #[.string ⟨#[115, 117, 98]⟩, .int .i64 7, .int .i64 7, .int .i64 7, .bool false], .bool true]) →
      w' = w.alloc (.cells #[.string ⟨#[115, 117, 98]⟩, .int .i64 7, .int .i64 7, .int .i64 7, .bool false] 169) → RowPost w 4 e w') :=
    fun e w' h1 h2 => ⟨h1, h2⟩
  have i0 : ∀ w, (Instr.index 186 (.agg #[.string ⟨#[97, 100, 100]⟩, .string ⟨#[115, 117, 98]⟩, .string ⟨#[109, 117, 108]⟩, .string ⟨#[108, 101, 115, 115]⟩, .string ⟨#[101, 113, 117, 97, 108]⟩]) (.int .i64 1)).run Tryd.prog w = .ok (.string ⟨#[115, 117, 98]⟩) w := fun _ => by kernel_rfl
  go_enter Tryd.func93, Tryd.ntmps93
  go_wp2
  exact bodyPost_ret (by simp [results, Tryd.results93, go_sem]; try rfl) rfl (HP.out _ _ rfl rfl)

theorem rowOf_5 (w : World) : Calls Tryd.prog 93 #[.int .i64 5] w (RowPost w 5) := by
  have HP : Hid (∀ e w', e = .returned (.tuple #[.agg #[.string ⟨#[109, 117, 108]⟩, .int .i64 7, .int .i64 7, .int .i64 7, .bool false], .bool true]) →
      w' = w.alloc (.cells #[.string ⟨#[109, 117, 108]⟩, .int .i64 7, .int .i64 7, .int .i64 7, .bool false] 169) → RowPost w 5 e w') :=
    fun e w' h1 h2 => ⟨h1, h2⟩
  have i0 : ∀ w, (Instr.index 186 (.agg #[.string ⟨#[97, 100, 100]⟩, .string ⟨#[115, 117, 98]⟩, .string ⟨#[109, 117, 108]⟩, .string ⟨#[108, 101, 115, 115]⟩, .string ⟨#[101, 113, 117, 97, 108]⟩]) (.int .i64 2)).run Tryd.prog w = .ok (.string ⟨#[109, 117, 108]⟩) w := fun _ => by kernel_rfl
  go_enter Tryd.func93, Tryd.ntmps93
  go_wp2
  exact bodyPost_ret (by simp [results, Tryd.results93, go_sem]; try rfl) rfl (HP.out _ _ rfl rfl)

theorem rowOf_6 (w : World) : Calls Tryd.prog 93 #[.int .i64 6] w (RowPost w 6) := by
  have HP : Hid (∀ e w', e = .returned (.tuple #[.agg #[.string ⟨#[108, 101, 115, 115]⟩, .int .i64 7, .int .i64 7, .int .i64 7, .bool false], .bool true]) →
      w' = w.alloc (.cells #[.string ⟨#[108, 101, 115, 115]⟩, .int .i64 7, .int .i64 7, .int .i64 7, .bool false] 169) → RowPost w 6 e w') :=
    fun e w' h1 h2 => ⟨h1, h2⟩
  have i0 : ∀ w, (Instr.index 186 (.agg #[.string ⟨#[97, 100, 100]⟩, .string ⟨#[115, 117, 98]⟩, .string ⟨#[109, 117, 108]⟩, .string ⟨#[108, 101, 115, 115]⟩, .string ⟨#[101, 113, 117, 97, 108]⟩]) (.int .i64 3)).run Tryd.prog w = .ok (.string ⟨#[108, 101, 115, 115]⟩) w := fun _ => by kernel_rfl
  go_enter Tryd.func93, Tryd.ntmps93
  go_wp2
  exact bodyPost_ret (by simp [results, Tryd.results93, go_sem]; try rfl) rfl (HP.out _ _ rfl rfl)

theorem rowOf_7 (w : World) : Calls Tryd.prog 93 #[.int .i64 7] w (RowPost w 7) := by
  have HP : Hid (∀ e w', e = .returned (.tuple #[.agg #[.string ⟨#[101, 113, 117, 97, 108]⟩, .int .i64 7, .int .i64 7, .int .i64 7, .bool false], .bool true]) →
      w' = w.alloc (.cells #[.string ⟨#[101, 113, 117, 97, 108]⟩, .int .i64 7, .int .i64 7, .int .i64 7, .bool false] 169) → RowPost w 7 e w') :=
    fun e w' h1 h2 => ⟨h1, h2⟩
  have i0 : ∀ w, (Instr.index 186 (.agg #[.string ⟨#[97, 100, 100]⟩, .string ⟨#[115, 117, 98]⟩, .string ⟨#[109, 117, 108]⟩, .string ⟨#[108, 101, 115, 115]⟩, .string ⟨#[101, 113, 117, 97, 108]⟩]) (.int .i64 4)).run Tryd.prog w = .ok (.string ⟨#[101, 113, 117, 97, 108]⟩) w := fun _ => by kernel_rfl
  go_enter Tryd.func93, Tryd.ntmps93
  go_wp2
  exact bodyPost_ret (by simp [results, Tryd.results93, go_sem]; try rfl) rfl (HP.out _ _ rfl rfl)

theorem rowOf_8 (w : World) : Calls Tryd.prog 93 #[.int .i64 8] w (RowPost w 8) := by
  have HP : Hid (∀ e w', e = .returned (.tuple #[.agg #[.string ⟨#[108, 111, 97, 100]⟩, .int .i64 7, .int .i64 7, .int .i64 15, .bool false], .bool true]) →
      w' = w.alloc (.cells #[.string ⟨#[108, 111, 97, 100]⟩, .int .i64 7, .int .i64 7, .int .i64 15, .bool false] 169) → RowPost w 8 e w') :=
    fun e w' h1 h2 => ⟨h1, h2⟩
  go_enter Tryd.func93, Tryd.ntmps93
  go_wp2
  exact bodyPost_ret (by simp [results, Tryd.results93, go_sem]; try rfl) rfl (HP.out _ _ rfl rfl)

theorem rowOf_9 (w : World) : Calls Tryd.prog 93 #[.int .i64 9] w (RowPost w 9) := by
  have HP : Hid (∀ e w', e = .returned (.tuple #[.agg #[.string ⟨#[115, 116, 111, 114, 101]⟩, .int .i64 7, .int .i64 7, .int .i64 15, .bool false], .bool true]) →
      w' = w.alloc (.cells #[.string ⟨#[115, 116, 111, 114, 101]⟩, .int .i64 7, .int .i64 7, .int .i64 15, .bool false] 169) → RowPost w 9 e w') :=
    fun e w' h1 h2 => ⟨h1, h2⟩
  go_enter Tryd.func93, Tryd.ntmps93
  go_wp2
  exact bodyPost_ret (by simp [results, Tryd.results93, go_sem]; try rfl) rfl (HP.out _ _ rfl rfl)

theorem rowOf_10 (w : World) : Calls Tryd.prog 93 #[.int .i64 10] w (RowPost w 10) := by
  have HP : Hid (∀ e w', e = .returned (.tuple #[.agg #[.string ⟨#[97, 108, 108, 111, 99]⟩, .int .i64 7, .int .i64 7, .int .i64 (-1), .bool false], .bool true]) →
      w' = w.alloc (.cells #[.string ⟨#[97, 108, 108, 111, 99]⟩, .int .i64 7, .int .i64 7, .int .i64 (-1), .bool false] 169) → RowPost w 10 e w') :=
    fun e w' h1 h2 => ⟨h1, h2⟩
  go_enter Tryd.func93, Tryd.ntmps93
  go_wp2
  exact bodyPost_ret (by simp [results, Tryd.results93, go_sem]; try rfl) rfl (HP.out _ _ rfl rfl)

theorem rowOf_11 (w : World) : Calls Tryd.prog 93 #[.int .i64 11] w (RowPost w 11) := by
  have HP : Hid (∀ e w', e = .returned (.tuple #[.agg #[.string ⟨#[102, 114, 101, 101]⟩, .int .i64 7, .int .i64 (-1), .int .i64 (-1), .bool false], .bool true]) →
      w' = w.alloc (.cells #[.string ⟨#[102, 114, 101, 101]⟩, .int .i64 7, .int .i64 (-1), .int .i64 (-1), .bool false] 169) → RowPost w 11 e w') :=
    fun e w' h1 h2 => ⟨h1, h2⟩
  go_enter Tryd.func93, Tryd.ntmps93
  go_wp2
  exact bodyPost_ret (by simp [results, Tryd.results93, go_sem]; try rfl) rfl (HP.out _ _ rfl rfl)

theorem rowOf_12 (w : World) : Calls Tryd.prog 93 #[.int .i64 12] w (RowPost w 12) := by
  have HP : Hid (∀ e w', e = .returned (.tuple #[.agg #[.string ⟨#[106, 117, 109, 112]⟩, .int .i64 (-1), .int .i64 (-1), .int .i64 40, .bool false], .bool true]) →
      w' = w.alloc (.cells #[.string ⟨#[106, 117, 109, 112]⟩, .int .i64 (-1), .int .i64 (-1), .int .i64 40, .bool false] 169) → RowPost w 12 e w') :=
    fun e w' h1 h2 => ⟨h1, h2⟩
  go_enter Tryd.func93, Tryd.ntmps93
  go_wp2
  exact bodyPost_ret (by simp [results, Tryd.results93, go_sem]; try rfl) rfl (HP.out _ _ rfl rfl)

theorem rowOf_13 (w : World) : Calls Tryd.prog 93 #[.int .i64 13] w (RowPost w 13) := by
  have HP : Hid (∀ e w', e = .returned (.tuple #[.agg #[.string ⟨#[122, 101, 114, 111]⟩, .int .i64 7, .int .i64 (-1), .int .i64 40, .bool false], .bool true]) →
      w' = w.alloc (.cells #[.string ⟨#[122, 101, 114, 111]⟩, .int .i64 7, .int .i64 (-1), .int .i64 40, .bool false] 169) → RowPost w 13 e w') :=
    fun e w' h1 h2 => ⟨h1, h2⟩
  go_enter Tryd.func93, Tryd.ntmps93
  go_wp2
  exact bodyPost_ret (by simp [results, Tryd.results93, go_sem]; try rfl) rfl (HP.out _ _ rfl rfl)

theorem rowOf_14 (w : World) : Calls Tryd.prog 93 #[.int .i64 14] w (RowPost w 14) := by
  have HP : Hid (∀ e w', e = .returned (.tuple #[.agg #[.string ⟨#[111, 112, 101, 110]⟩, .int .i64 (-1), .int .i64 (-1), .int .i64 (-1), .bool false], .bool true]) →
      w' = w.alloc (.cells #[.string ⟨#[111, 112, 101, 110]⟩, .int .i64 (-1), .int .i64 (-1), .int .i64 (-1), .bool false] 169) → RowPost w 14 e w') :=
    fun e w' h1 h2 => ⟨h1, h2⟩
  have i0 : ∀ w, (Instr.index 187 (.agg #[.string ⟨#[111, 112, 101, 110]⟩, .string ⟨#[99, 108, 111, 115, 101]⟩, .string ⟨#[117, 110, 100, 111]⟩, .string ⟨#[101, 105, 116, 104, 101, 114]⟩, .string ⟨#[111, 114]⟩, .string ⟨#[100, 111, 110, 101]⟩, .string ⟨#[114, 101, 116, 114, 121]⟩]) (.int .i64 0)).run Tryd.prog w = .ok (.string ⟨#[111, 112, 101, 110]⟩) w := fun _ => by kernel_rfl
  go_enter Tryd.func93, Tryd.ntmps93
  go_wp2
  exact bodyPost_ret (by simp [results, Tryd.results93, go_sem]; try rfl) rfl (HP.out _ _ rfl rfl)

theorem rowOf_15 (w : World) : Calls Tryd.prog 93 #[.int .i64 15] w (RowPost w 15) := by
  have HP : Hid (∀ e w', e = .returned (.tuple #[.agg #[.string ⟨#[99, 108, 111, 115, 101]⟩, .int .i64 (-1), .int .i64 (-1), .int .i64 (-1), .bool false], .bool true]) →
      w' = w.alloc (.cells #[.string ⟨#[99, 108, 111, 115, 101]⟩, .int .i64 (-1), .int .i64 (-1), .int .i64 (-1), .bool false] 169) → RowPost w 15 e w') :=
    fun e w' h1 h2 => ⟨h1, h2⟩
  have i0 : ∀ w, (Instr.index 187 (.agg #[.string ⟨#[111, 112, 101, 110]⟩, .string ⟨#[99, 108, 111, 115, 101]⟩, .string ⟨#[117, 110, 100, 111]⟩, .string ⟨#[101, 105, 116, 104, 101, 114]⟩, .string ⟨#[111, 114]⟩, .string ⟨#[100, 111, 110, 101]⟩, .string ⟨#[114, 101, 116, 114, 121]⟩]) (.int .i64 1)).run Tryd.prog w = .ok (.string ⟨#[99, 108, 111, 115, 101]⟩) w := fun _ => by kernel_rfl
  go_enter Tryd.func93, Tryd.ntmps93
  go_wp2
  exact bodyPost_ret (by simp [results, Tryd.results93, go_sem]; try rfl) rfl (HP.out _ _ rfl rfl)

theorem rowOf_16 (w : World) : Calls Tryd.prog 93 #[.int .i64 16] w (RowPost w 16) := by
  have HP : Hid (∀ e w', e = .returned (.tuple #[.agg #[.string ⟨#[117, 110, 100, 111]⟩, .int .i64 (-1), .int .i64 (-1), .int .i64 (-1), .bool false], .bool true]) →
      w' = w.alloc (.cells #[.string ⟨#[117, 110, 100, 111]⟩, .int .i64 (-1), .int .i64 (-1), .int .i64 (-1), .bool false] 169) → RowPost w 16 e w') :=
    fun e w' h1 h2 => ⟨h1, h2⟩
  have i0 : ∀ w, (Instr.index 187 (.agg #[.string ⟨#[111, 112, 101, 110]⟩, .string ⟨#[99, 108, 111, 115, 101]⟩, .string ⟨#[117, 110, 100, 111]⟩, .string ⟨#[101, 105, 116, 104, 101, 114]⟩, .string ⟨#[111, 114]⟩, .string ⟨#[100, 111, 110, 101]⟩, .string ⟨#[114, 101, 116, 114, 121]⟩]) (.int .i64 2)).run Tryd.prog w = .ok (.string ⟨#[117, 110, 100, 111]⟩) w := fun _ => by kernel_rfl
  go_enter Tryd.func93, Tryd.ntmps93
  go_wp2
  exact bodyPost_ret (by simp [results, Tryd.results93, go_sem]; try rfl) rfl (HP.out _ _ rfl rfl)

theorem rowOf_17 (w : World) : Calls Tryd.prog 93 #[.int .i64 17] w (RowPost w 17) := by
  have HP : Hid (∀ e w', e = .returned (.tuple #[.agg #[.string ⟨#[101, 105, 116, 104, 101, 114]⟩, .int .i64 (-1), .int .i64 (-1), .int .i64 (-1), .bool false], .bool true]) →
      w' = w.alloc (.cells #[.string ⟨#[101, 105, 116, 104, 101, 114]⟩, .int .i64 (-1), .int .i64 (-1), .int .i64 (-1), .bool false] 169) → RowPost w 17 e w') :=
    fun e w' h1 h2 => ⟨h1, h2⟩
  have i0 : ∀ w, (Instr.index 187 (.agg #[.string ⟨#[111, 112, 101, 110]⟩, .string ⟨#[99, 108, 111, 115, 101]⟩, .string ⟨#[117, 110, 100, 111]⟩, .string ⟨#[101, 105, 116, 104, 101, 114]⟩, .string ⟨#[111, 114]⟩, .string ⟨#[100, 111, 110, 101]⟩, .string ⟨#[114, 101, 116, 114, 121]⟩]) (.int .i64 3)).run Tryd.prog w = .ok (.string ⟨#[101, 105, 116, 104, 101, 114]⟩) w := fun _ => by kernel_rfl
  go_enter Tryd.func93, Tryd.ntmps93
  go_wp2
  exact bodyPost_ret (by simp [results, Tryd.results93, go_sem]; try rfl) rfl (HP.out _ _ rfl rfl)

theorem rowOf_18 (w : World) : Calls Tryd.prog 93 #[.int .i64 18] w (RowPost w 18) := by
  have HP : Hid (∀ e w', e = .returned (.tuple #[.agg #[.string ⟨#[111, 114]⟩, .int .i64 (-1), .int .i64 (-1), .int .i64 (-1), .bool false], .bool true]) →
      w' = w.alloc (.cells #[.string ⟨#[111, 114]⟩, .int .i64 (-1), .int .i64 (-1), .int .i64 (-1), .bool false] 169) → RowPost w 18 e w') :=
    fun e w' h1 h2 => ⟨h1, h2⟩
  have i0 : ∀ w, (Instr.index 187 (.agg #[.string ⟨#[111, 112, 101, 110]⟩, .string ⟨#[99, 108, 111, 115, 101]⟩, .string ⟨#[117, 110, 100, 111]⟩, .string ⟨#[101, 105, 116, 104, 101, 114]⟩, .string ⟨#[111, 114]⟩, .string ⟨#[100, 111, 110, 101]⟩, .string ⟨#[114, 101, 116, 114, 121]⟩]) (.int .i64 4)).run Tryd.prog w = .ok (.string ⟨#[111, 114]⟩) w := fun _ => by kernel_rfl
  go_enter Tryd.func93, Tryd.ntmps93
  go_wp2
  exact bodyPost_ret (by simp [results, Tryd.results93, go_sem]; try rfl) rfl (HP.out _ _ rfl rfl)

theorem rowOf_19 (w : World) : Calls Tryd.prog 93 #[.int .i64 19] w (RowPost w 19) := by
  have HP : Hid (∀ e w', e = .returned (.tuple #[.agg #[.string ⟨#[100, 111, 110, 101]⟩, .int .i64 (-1), .int .i64 (-1), .int .i64 (-1), .bool false], .bool true]) →
      w' = w.alloc (.cells #[.string ⟨#[100, 111, 110, 101]⟩, .int .i64 (-1), .int .i64 (-1), .int .i64 (-1), .bool false] 169) → RowPost w 19 e w') :=
    fun e w' h1 h2 => ⟨h1, h2⟩
  have i0 : ∀ w, (Instr.index 187 (.agg #[.string ⟨#[111, 112, 101, 110]⟩, .string ⟨#[99, 108, 111, 115, 101]⟩, .string ⟨#[117, 110, 100, 111]⟩, .string ⟨#[101, 105, 116, 104, 101, 114]⟩, .string ⟨#[111, 114]⟩, .string ⟨#[100, 111, 110, 101]⟩, .string ⟨#[114, 101, 116, 114, 121]⟩]) (.int .i64 5)).run Tryd.prog w = .ok (.string ⟨#[100, 111, 110, 101]⟩) w := fun _ => by kernel_rfl
  go_enter Tryd.func93, Tryd.ntmps93
  go_wp2
  exact bodyPost_ret (by simp [results, Tryd.results93, go_sem]; try rfl) rfl (HP.out _ _ rfl rfl)

theorem rowOf_20 (w : World) : Calls Tryd.prog 93 #[.int .i64 20] w (RowPost w 20) := by
  have HP : Hid (∀ e w', e = .returned (.tuple #[.agg #[.string ⟨#[114, 101, 116, 114, 121]⟩, .int .i64 (-1), .int .i64 (-1), .int .i64 (-1), .bool false], .bool true]) →
      w' = w.alloc (.cells #[.string ⟨#[114, 101, 116, 114, 121]⟩, .int .i64 (-1), .int .i64 (-1), .int .i64 (-1), .bool false] 169) → RowPost w 20 e w') :=
    fun e w' h1 h2 => ⟨h1, h2⟩
  have i0 : ∀ w, (Instr.index 187 (.agg #[.string ⟨#[111, 112, 101, 110]⟩, .string ⟨#[99, 108, 111, 115, 101]⟩, .string ⟨#[117, 110, 100, 111]⟩, .string ⟨#[101, 105, 116, 104, 101, 114]⟩, .string ⟨#[111, 114]⟩, .string ⟨#[100, 111, 110, 101]⟩, .string ⟨#[114, 101, 116, 114, 121]⟩]) (.int .i64 6)).run Tryd.prog w = .ok (.string ⟨#[114, 101, 116, 114, 121]⟩) w := fun _ => by kernel_rfl
  go_enter Tryd.func93, Tryd.ntmps93
  go_wp2
  exact bodyPost_ret (by simp [results, Tryd.results93, go_sem]; try rfl) rfl (HP.out _ _ rfl rfl)

theorem rowOf_21 (w : World) : Calls Tryd.prog 93 #[.int .i64 21] w (RowPost w 21) := by
  have HP : Hid (∀ e w', e = .returned (.tuple #[.agg #[.string ⟨#[101, 109, 105, 116]⟩, .int .i64 7, .int .i64 (-1), .int .i64 (-1), .bool false], .bool true]) →
      w' = w.alloc (.cells #[.string ⟨#[101, 109, 105, 116]⟩, .int .i64 7, .int .i64 (-1), .int .i64 (-1), .bool false] 169) → RowPost w 21 e w') :=
    fun e w' h1 h2 => ⟨h1, h2⟩
  go_enter Tryd.func93, Tryd.ntmps93
  go_wp2
  exact bodyPost_ret (by simp [results, Tryd.results93, go_sem]; try rfl) rfl (HP.out _ _ rfl rfl)

theorem rowOf_22 (w : World) : Calls Tryd.prog 93 #[.int .i64 22] w (RowPost w 22) := by
  have HP : Hid (∀ e w', e = .returned (.tuple #[.agg #[.string ⟨#[102, 97, 105, 108]⟩, .int .i64 (-1), .int .i64 (-1), .int .i64 (-1), .bool false], .bool true]) →
      w' = w.alloc (.cells #[.string ⟨#[102, 97, 105, 108]⟩, .int .i64 (-1), .int .i64 (-1), .int .i64 (-1), .bool false] 169) → RowPost w 22 e w') :=
    fun e w' h1 h2 => ⟨h1, h2⟩
  go_enter Tryd.func93, Tryd.ntmps93
  go_wp2
  exact bodyPost_ret (by simp [results, Tryd.results93, go_sem]; try rfl) rfl (HP.out _ _ rfl rfl)

theorem rowOf_23 (w : World) : Calls Tryd.prog 93 #[.int .i64 23] w (RowPost w 23) := by
  have HP : Hid (∀ e w', e = .returned (.tuple #[.agg #[.string ⟨#[99, 97, 108, 108]⟩, .int .i64 12, .int .i64 7, .int .i64 6, .bool false], .bool true]) →
      w' = w.alloc (.cells #[.string ⟨#[99, 97, 108, 108]⟩, .int .i64 12, .int .i64 7, .int .i64 6, .bool false] 169) → RowPost w 23 e w') :=
    fun e w' h1 h2 => ⟨h1, h2⟩
  go_enter Tryd.func93, Tryd.ntmps93
  go_wp2
  exact bodyPost_ret (by simp [results, Tryd.results93, go_sem]; try rfl) rfl (HP.out _ _ rfl rfl)

theorem rowOf_other (n : Int) (w : World) (h : opB n = false) : Calls Tryd.prog 93 #[.int .i64 n] w (RowPost w n) := by
  have HP : Hid (∀ e w', e = .returned (.tuple #[.agg #[.string ⟨#[]⟩, .int .i64 0, .int .i64 0, .int .i64 0, .bool false], .bool false]) →
      w' = w.alloc (.cells #[.string ⟨#[]⟩, .int .i64 0, .int .i64 0, .int .i64 0, .bool false] 169) → RowPost w n e w') := by
    have h2 : ¬ (1 ≤ n ∧ n ≤ 23) := by simpa [opB] using h
    have a0 : rA n = 0 := by unfold rA; rw [if_neg (by omega), if_neg (by omega), if_neg (by omega)]
    have b0 : rB n = 0 := by unfold rB; rw [if_neg (by omega), if_neg (by omega)]
    have c0 : rC n = 0 := by unfold rC; rw [if_neg (by omega), if_neg (by omega), if_neg (by omega), if_neg (by omega), if_neg (by omega)]
    have n0 : rN n = false := by simp [rN]; omega
    intro e w' h1 h3
    unfold RowPost
    rw [name_no h, a0, b0, c0, n0, h]
    exact ⟨h1, h3⟩
  have h2 : ¬ (1 ≤ n ∧ n ≤ 23) := by simpa [opB] using h
  have e1 : (n == 1) = false := by simp; omega
  have e2 : (n == 2) = false := by simp; omega
  have e3 : (n == 3) = false := by simp; omega
  have e4 : (n == 4) = false := by simp; omega
  have e5 : (n == 5) = false := by simp; omega
  have e6 : (n == 6) = false := by simp; omega
  have e7 : (n == 7) = false := by simp; omega
  have e8 : (n == 8) = false := by simp; omega
  have e9 : (n == 9) = false := by simp; omega
  have e10 : (n == 10) = false := by simp; omega
  have e11 : (n == 11) = false := by simp; omega
  have e12 : (n == 12) = false := by simp; omega
  have e13 : (n == 13) = false := by simp; omega
  have e14 : (n == 14) = false := by simp; omega
  have e15 : (n == 15) = false := by simp; omega
  have e16 : (n == 16) = false := by simp; omega
  have e17 : (n == 17) = false := by simp; omega
  have e18 : (n == 18) = false := by simp; omega
  have e19 : (n == 19) = false := by simp; omega
  have e20 : (n == 20) = false := by simp; omega
  have e21 : (n == 21) = false := by simp; omega
  have e22 : (n == 22) = false := by simp; omega
  have e23 : (n == 23) = false := by simp; omega
  clear h h2
  go_enter Tryd.func93, Tryd.ntmps93
  go_wp2
  exact bodyPost_ret (by simp [results, Tryd.results93, go_sem]; try rfl) rfl (HP.out _ _ rfl rfl)

theorem rowOf_any (n : Int) (w : World) : Calls Tryd.prog 93 #[.int .i64 n] w (RowPost w n) := by
  cases h : opB n
  · exact rowOf_other n w h
  · have h2 : 1 ≤ n ∧ n ≤ 23 := by simpa [opB] using h
    rcases (by omega : n = 1 ∨ n = 2 ∨ n = 3 ∨ n = 4 ∨ n = 5 ∨ n = 6 ∨ n = 7 ∨ n = 8 ∨ n = 9 ∨ n = 10 ∨ n = 11 ∨ n = 12 ∨ n = 13 ∨ n = 14 ∨ n = 15 ∨ n = 16 ∨ n = 17 ∨ n = 18 ∨ n = 19 ∨ n = 20 ∨ n = 21 ∨ n = 22 ∨ n = 23) with rfl | rfl | rfl | rfl | rfl | rfl | rfl | rfl | rfl | rfl | rfl | rfl | rfl | rfl | rfl | rfl | rfl | rfl | rfl | rfl | rfl | rfl | rfl
    · exact rowOf_1 w
    · exact rowOf_2 w
    · exact rowOf_3 w
    · exact rowOf_4 w
    · exact rowOf_5 w
    · exact rowOf_6 w
    · exact rowOf_7 w
    · exact rowOf_8 w
    · exact rowOf_9 w
    · exact rowOf_10 w
    · exact rowOf_11 w
    · exact rowOf_12 w
    · exact rowOf_13 w
    · exact rowOf_14 w
    · exact rowOf_15 w
    · exact rowOf_16 w
    · exact rowOf_17 w
    · exact rowOf_18 w
    · exact rowOf_19 w
    · exact rowOf_20 w
    · exact rowOf_21 w
    · exact rowOf_22 w
    · exact rowOf_23 w

def withinB (n m : Int) : Bool := decide (n = 0 ∧ m < 0 ∨ 0 ≤ n ∧ n ≤ m)
theorem within_any (n m : Int) (w : World) : Calls Tryd.prog 94 #[.int .i64 n, .int .i64 m] w fun e w' => e = .returned (.bool (withinB n m)) ∧ w = w' := by
  rcases (by omega : n = 0 ∨ n < 0 ∨ 0 < n) with h | h | h
  · subst h
    by_cases h2 : m < 0
    · rw [show withinB 0 m = true by simp [withinB, h2]]
      have d : decide (m < 0) = true := by simpa using h2
      go_enter Tryd.func94, Tryd.ntmps94
      go_wp2
      go_ret
      exact ⟨rfl, rfl⟩
    · rw [show withinB 0 m = true by simp [withinB]; omega]
      have d : decide (m < 0) = false := by simpa using h2
      have d2 : decide (0 ≤ m) = true := by simp; omega
      go_enter Tryd.func94, Tryd.ntmps94
      go_wp2
      go_ret
      exact ⟨rfl, rfl⟩
  · rw [show withinB n m = false by simp [withinB]; omega]
    have d : (n == 0) = false := by simp; omega
    have d2 : decide (0 ≤ n) = false := by simp; omega
    go_enter Tryd.func94, Tryd.ntmps94
    go_wp2
    go_ret
    exact ⟨rfl, rfl⟩
  · have d : (n == 0) = false := by simp; omega
    have d2 : decide (0 ≤ n) = true := by simp; omega
    by_cases h2 : n ≤ m
    · rw [show withinB n m = true by simp [withinB]; omega]
      have d3 : decide (n ≤ m) = true := by simpa using h2
      go_enter Tryd.func94, Tryd.ntmps94
      go_wp2
      go_ret
      exact ⟨rfl, rfl⟩
    · rw [show withinB n m = false by simp [withinB]; omega]
      have d3 : decide (n ≤ m) = false := by simpa using h2
      go_enter Tryd.func94, Tryd.ntmps94
      go_wp2
      go_ret
      exact ⟨rfl, rfl⟩
end Go.Proofs.YtngahgfppbjebaaDoor
