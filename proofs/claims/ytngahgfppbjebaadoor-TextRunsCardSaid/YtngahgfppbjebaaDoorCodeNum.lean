/-
  Contracts of package code: what has a name.
-/
import Derived.Test.YtngahgfppbjebaaDoorCode
namespace Go.Proofs.YtngahgfppbjebaaDoor
open Go.RowKit
set_option linter.unusedVariables false
set_option linter.unusedSimpArgs false

/-- The place of a text in a list, counted from k; -1: none. -/
def idx (s : ByteArray) : List ByteArray → Nat → Int
  | [], _ => -1
  | x :: r, k => if s = x then (k : Int) else idx s r (k + 1)

theorem str_eq_true {a b : ByteArray} (h : a = b) : (a.toList == b.toList) = true := by subst h; simp
theorem str_eq_false {a b : ByteArray} (h : a ≠ b) : (a.toList == b.toList) = false := by
  rw [beq_eq_false_iff_ne]
  intro e
  rw [ByteArray.toList_eq, ByteArray.toList_eq] at e
  exact h (WideShapes.bytes_inj e)

theorem idx_drop (s : ByteArray) (l : List ByteArray) (k : Nat) (hk : k < l.length) : idx s (l.drop k) k = if s = l.getD k ⟨#[]⟩ then (k : Int) else idx s (l.drop (k + 1)) (k + 1) := by
  rw [List.drop_eq_getElem_cons hk]
  simp [idx, List.getD, hk]

set_option maxHeartbeats 1000000 in
theorem index_any (l : List ByteArray) (b cap : Nat) (s : ByteArray) (w : World) (hm : l.length ≤ 1000) (hcell : ∀ k, k < l.length → w.cell? ⟨b, k, none⟩ = some (.string (l.getD k ⟨#[]⟩))) :
    Calls Tryd.prog 124 #[.slice (some ⟨b, 0, none⟩) l.length cap, .string s] w fun e w' => e = .returned (.int .i64 (idx s l 0)) ∧ w = w' := by
  have HC : Hid (∀ k, k < l.length → w.cell? ⟨b, k, none⟩ = some (.string (l.getD k ⟨#[]⟩))) := hcell
  clear hcell
  generalize hn : l.length = len at *
  have Hn : Hid (l.length = len) := hn
  clear hn
  go_enter Tryd.func124, Tryd.ntmps124
  go_wp2
  go_loop [8] (fun c => ∃ k : Nat, k ≤ len ∧ c = .int .i64 k ∧ Hid (idx s (l.drop k) k = idx s l 0)) (fun c => len - (intOf c).toNat)
  case atStart => exact ⟨0, by omega, rfl, rfl⟩
  case round =>
    obtain ⟨k, hk, rfl, hi⟩ := hrel
    by_cases hlt : k < len
    · have hc := HC.out k hlt
      have hd := idx_drop s l k (by rw [Hn.out]; exact hlt)
      have HD : Hid (idx s (l.drop k) k = if s = l.getD k ⟨#[]⟩ then (k : Int) else idx s (l.drop (k + 1)) (k + 1)) := hd
      clear hd
      by_cases he : s = l.getD k ⟨#[]⟩
      · have hb := str_eq_true he
        have h1 : idx s l 0 = (k : Int) := by rw [← hi.out, HD.out, if_pos he]
        have H1 : Hid (idx s l 0 = (k : Int)) := h1
        clear he h1 HD hi
        generalize l.getD k ⟨#[]⟩ = x at *
        go_wp2
        go_ret
        exact ⟨by rw [H1.out]; rfl, rfl⟩
      · have hb := str_eq_false he
        have h1 : Hid (idx s (l.drop (k + 1)) (k + 1) = idx s l 0) := by
          have := hi.out
          rw [HD.out, if_neg he] at this
          exact this
        clear he HD hi
        generalize l.getD k ⟨#[]⟩ = x at *
        go_wp2
        go_round
        case rel => exact ⟨k + 1, by omega, by go_num, h1⟩
        case measure => simp [intOf]; omega
    · obtain rfl : k = len := by omega
      have h1 : idx s l 0 = -1 := by rw [← hi.out, List.drop_of_length_le (by rw [Hn.out]; omega)]; rfl
      have H1 : Hid (idx s l 0 = -1) := h1
      clear h1 hi
      go_wp2
      go_ret
      exact ⟨by rw [H1.out]; rfl, rfl⟩

/-- The number of a name; is there one? -/
def numOf (l : List ByteArray) (s : ByteArray) : Int := if idx s l 0 < 1 then 0 else idx s l 0
def isOf (l : List ByteArray) (s : ByteArray) : Bool := decide (1 ≤ idx s l 0)

theorem numbered_list (l : List ByteArray) (t : TypeId) (s : ByteArray) (w : World) (hm : l.length ≤ 1000) :
    Calls Tryd.prog 105 #[.slice (some ⟨w.heap.size, 0, none⟩) l.length l.length, .string s] (w.alloc (.cells (l.map Value.string).toArray t)) fun e w' =>
      e = .returned (.tuple #[.int .i64 (numOf l s), .bool (isOf l s)]) ∧ w.alloc (.cells (l.map Value.string).toArray t) = w' := by
  have hx := index_any l w.heap.size l.length s (w.alloc (.cells (l.map Value.string).toArray t)) hm (fun k hk => cell_list w l t k hk)
  have HX : Hid (Calls Tryd.prog 124 #[.slice (some ⟨w.heap.size, 0, none⟩) l.length l.length, .string s] (w.alloc (.cells (l.map Value.string).toArray t)) fun e w' => e = .returned (.int .i64 (idx s l 0)) ∧ w.alloc (.cells (l.map Value.string).toArray t) = w') := hx
  clear hx
  generalize w.alloc (.cells (l.map Value.string).toArray t) = W at *
  by_cases h : idx s l 0 < 1
  · rw [show numOf l s = 0 by simp [numOf, h], show isOf l s = false by simp [isOf]; omega]
    go_enter Tryd.func105, Tryd.ntmps105
    go_wp2_with fail
    refine HX.out.mono ?_
    rintro e w1 ⟨rfl, rfl⟩
    go_wp2_with fail
    go_ret2
    exact ⟨rfl, rfl⟩
  · rw [show numOf l s = idx s l 0 by simp [numOf, h], show isOf l s = true by simp [isOf]; omega]
    go_enter Tryd.func105, Tryd.ntmps105
    go_wp2_with fail
    refine HX.out.mono ?_
    rintro e w1 ⟨rfl, rfl⟩
    go_wp2_with fail
    go_ret2
    exact ⟨rfl, rfl⟩

theorem op_any (s : ByteArray) (w : World) : Calls Tryd.prog 81 #[.string s] w fun e w' =>
    e = .returned (.tuple #[.int .i64 (numOf nameList s), .bool (isOf nameList s)]) ∧ w' = w.alloc (.cells (nameList.map Value.string).toArray 9) := by
  go_enter Tryd.func81, Tryd.ntmps81
  go_wp2_with fail
  refine (names_any _).mono ?_
  rintro e w1 ⟨rfl, rfl⟩
  go_wp2_with fail
  refine (numbered_list nameList 9 s w (by decide)).mono ?_
  rintro e w1 ⟨rfl, rfl⟩
  go_wp2_with fail
  go_ret2
  exact ⟨rfl, rfl⟩

theorem which_any (s : ByteArray) (w : World) : Calls Tryd.prog 109 #[.string s] w fun e w' =>
    e = .returned (.tuple #[.int .i64 (numOf callList s), .bool (isOf callList s)]) ∧ w' = w.alloc (.cells (callList.map Value.string).toArray 9) := by
  go_enter Tryd.func109, Tryd.ntmps109
  go_wp2_with fail
  refine (calls_any _).mono ?_
  rintro e w1 ⟨rfl, rfl⟩
  go_wp2_with fail
  refine (numbered_list callList 9 s w (by decide)).mono ?_
  rintro e w1 ⟨rfl, rfl⟩
  go_wp2_with fail
  go_ret2
  exact ⟨rfl, rfl⟩

def jumpsB (n : Int) : Bool := decide (n = 12 ∨ n = 13)
theorem jumps_any (n : Int) (w : World) : Calls Tryd.prog 54 #[.int .i64 n] w fun e w' => e = .returned (.bool (jumpsB n)) ∧ w = w' := by
  by_cases h : n = 12
  · subst h
    rw [show jumpsB 12 = true by decide]
    go_enter Tryd.func54, Tryd.ntmps54
    go_wp2
    go_ret
    exact ⟨rfl, rfl⟩
  · by_cases h2 : n = 13
    · subst h2
      rw [show jumpsB 13 = true by decide]
      go_enter Tryd.func54, Tryd.ntmps54
      go_wp2
      go_ret
      exact ⟨rfl, rfl⟩
    · rw [show jumpsB n = false by simp [jumpsB, h, h2]]
      have e1 : (n == 12) = false := by simpa using h
      have e2 : (n == 13) = false := by simpa using h2
      go_enter Tryd.func54, Tryd.ntmps54
      go_wp2
      go_ret
      exact ⟨rfl, rfl⟩
end Go.Proofs.YtngahgfppbjebaaDoor
