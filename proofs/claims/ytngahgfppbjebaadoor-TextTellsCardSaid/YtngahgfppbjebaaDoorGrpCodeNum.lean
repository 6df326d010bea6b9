/-
  Contracts of package code: the names, the calls, their numbers.
  Contracts of package code: what has a name.
-/
import Derived.Test.YtngahgfppbjebaaDoorRows
import Derived.WalkKit
import Derived.ProofKit
import Derived.WalkSpells
import Derived.WalkLawsBesides
namespace Go.Proofs.YtngahgfppbjebaaDoor
open Go.RowKit
set_option linter.unusedVariables false
set_option linter.unusedSimpArgs false

def nameList : List ByteArray := [⟨#[]⟩, ⟨#[115, 101, 116]⟩, ⟨#[109, 111, 118, 101]⟩, ⟨#[97, 100, 100]⟩, ⟨#[115, 117, 98]⟩, ⟨#[109, 117, 108]⟩, ⟨#[108, 101, 115, 115]⟩, ⟨#[101, 113, 117, 97, 108]⟩, ⟨#[108, 111, 97, 100]⟩, ⟨#[115, 116, 111, 114, 101]⟩, ⟨#[97, 108, 108, 111, 99]⟩, ⟨#[102, 114, 101, 101]⟩, ⟨#[106, 117, 109, 112]⟩, ⟨#[122, 101, 114, 111]⟩, ⟨#[111, 112, 101, 110]⟩, ⟨#[99, 108, 111, 115, 101]⟩, ⟨#[117, 110, 100, 111]⟩, ⟨#[101, 105, 116, 104, 101, 114]⟩, ⟨#[111, 114]⟩, ⟨#[100, 111, 110, 101]⟩, ⟨#[114, 101, 116, 114, 121]⟩, ⟨#[101, 109, 105, 116]⟩, ⟨#[102, 97, 105, 108]⟩, ⟨#[99, 97, 108, 108]⟩]
def callList : List ByteArray := [⟨#[]⟩, ⟨#[108, 105, 115, 116, 46, 97, 100, 100]⟩, ⟨#[108, 105, 115, 116, 46, 99, 117, 116]⟩, ⟨#[108, 105, 115, 116, 46, 104, 97, 115]⟩, ⟨#[116, 97, 98, 108, 101, 46, 112, 117, 116]⟩, ⟨#[116, 97, 98, 108, 101, 46, 103, 101, 116]⟩, ⟨#[116, 97, 98, 108, 101, 46, 100, 101, 108]⟩, ⟨#[113, 117, 101, 117, 101, 46, 112, 117, 115, 104]⟩, ⟨#[113, 117, 101, 117, 101, 46, 116, 97, 107, 101]⟩, ⟨#[116, 114, 101, 101, 46, 115, 101, 116]⟩, ⟨#[116, 114, 101, 101, 46, 102, 105, 110, 100]⟩, ⟨#[116, 114, 101, 101, 46, 101, 114, 97, 115, 101]⟩, ⟨#[116, 114, 101, 101, 46, 99, 111, 117, 110, 116]⟩]
/-- The name at a number. -/
def atList (l : List ByteArray) (n : Int) : ByteArray := if 0 ≤ n then l.getD n.toNat ⟨#[]⟩ else ⟨#[]⟩

theorem names_any (w : World) : Calls Tryd.prog 69 #[] w fun e w' => e = .returned (.slice (some ⟨w.heap.size, 0, none⟩) 24 24) ∧ w' = w.alloc (.cells (nameList.map Value.string).toArray 9) := by
  go_enter Tryd.func69, Tryd.ntmps69
  go_wp2
  go_ret
  exact ⟨rfl, rfl⟩

theorem calls_any (w : World) : Calls Tryd.prog 112 #[] w fun e w' => e = .returned (.slice (some ⟨w.heap.size, 0, none⟩) 13 13) ∧ w' = w.alloc (.cells (callList.map Value.string).toArray 9) := by
  go_enter Tryd.func112, Tryd.ntmps112
  go_wp2
  go_ret
  exact ⟨rfl, rfl⟩

theorem named_low (A : Option Addr) (len cap : Nat) (n : Int) (w : World) (h : n < 0) :
    Calls Tryd.prog 68 #[.slice A len cap, .int .i64 n] w fun e w' => e = .returned (.string ⟨#[]⟩) ∧ w = w' := by
  go_enter Tryd.func68, Tryd.ntmps68
  go_wp2
  go_ret
  exact ⟨rfl, rfl⟩

theorem named_high (A : Option Addr) (len cap : Nat) (n : Int) (w : World) (h0 : 0 ≤ n) (h : (len : Int) ≤ n) :
    Calls Tryd.prog 68 #[.slice A len cap, .int .i64 n] w fun e w' => e = .returned (.string ⟨#[]⟩) ∧ w = w' := by
  go_enter Tryd.func68, Tryd.ntmps68
  go_wp2
  go_ret
  exact ⟨rfl, rfl⟩

theorem named_in (b len cap k : Nat) (s : ByteArray) (w : World) (h : k < len) (hm : len ≤ maxLen) (hc : w.cell? ⟨b, k, none⟩ = some (.string s)) :
    Calls Tryd.prog 68 #[.slice (some ⟨b, 0, none⟩) len cap, .int .i64 k] w fun e w' => e = .returned (.string s) ∧ w = w' := by
  unfold maxLen at hm
  go_enter Tryd.func68, Tryd.ntmps68
  go_wp2
  go_ret
  exact ⟨rfl, rfl⟩

/-- A list of texts in a block of its own. -/
theorem cell_list (w : World) (l : List ByteArray) (t : TypeId) (k : Nat) (hk : k < l.length) :
    (w.alloc (.cells (l.map Value.string).toArray t)).cell? ⟨w.heap.size, k, none⟩ = some (.string (l.getD k ⟨#[]⟩)) := by
  have h : (w.alloc (.cells (l.map Value.string).toArray t)).heap[w.heap.size]? = some (.cells (l.map Value.string).toArray t (0, 0)) := heap_alloc_new w _
  rw [cell_of_row _ _ _ _ t (0, 0) h]
  simp [List.getD, hk]

theorem named_list (l : List ByteArray) (t : TypeId) (n : Int) (w : World) (hm : l.length ≤ maxLen) :
    Calls Tryd.prog 68 #[.slice (some ⟨w.heap.size, 0, none⟩) l.length l.length, .int .i64 n] (w.alloc (.cells (l.map Value.string).toArray t)) fun e w' =>
      e = .returned (.string (atList l n)) ∧ w.alloc (.cells (l.map Value.string).toArray t) = w' := by
  by_cases h0 : 0 ≤ n
  · obtain ⟨k, rfl⟩ := Int.eq_ofNat_of_zero_le h0
    by_cases hk : k < l.length
    · rw [show atList l (k : Int) = l.getD k ⟨#[]⟩ by simp [atList]]
      exact named_in _ _ _ k _ _ hk hm (cell_list w l t k hk)
    · rw [show atList l (k : Int) = ⟨#[]⟩ by simp [atList, List.getD, List.getElem?_eq_none (Nat.le_of_not_lt hk)]]
      exact named_high _ _ _ _ _ h0 (by omega)
  · rw [show atList l n = ⟨#[]⟩ by simp [atList, h0]]
    exact named_low _ _ _ _ _ (by omega)

theorem name_any (n : Int) (w : World) : Calls Tryd.prog 40 #[.int .i64 n] w fun e w' => e = .returned (.string (atList nameList n)) ∧ w' = w.alloc (.cells (nameList.map Value.string).toArray 9) := by
  go_enter Tryd.func40, Tryd.ntmps40
  go_wp2_with fail
  refine (names_any _).mono ?_
  rintro e w1 ⟨rfl, rfl⟩
  go_wp2_with fail
  refine (named_list nameList 9 n w (by decide)).mono ?_
  rintro e w1 ⟨rfl, rfl⟩
  go_wp2_with fail
  go_ret
  exact ⟨rfl, rfl⟩

theorem call_any (n : Int) (w : World) : Calls Tryd.prog 87 #[.int .i64 n] w fun e w' => e = .returned (.string (atList callList n)) ∧ w' = w.alloc (.cells (callList.map Value.string).toArray 9) := by
  go_enter Tryd.func87, Tryd.ntmps87
  go_wp2_with fail
  refine (calls_any _).mono ?_
  rintro e w1 ⟨rfl, rfl⟩
  go_wp2_with fail
  refine (named_list callList 9 n w (by decide)).mono ?_
  rintro e w1 ⟨rfl, rfl⟩
  go_wp2_with fail
  go_ret
  exact ⟨rfl, rfl⟩
end Go.Proofs.YtngahgfppbjebaaDoor
namespace Go.Proofs.YtngahgfppbjebaaDoor
open Go.RowKit
set_option linter.unusedVariables false
set_option linter.unusedSimpArgs false

/-- The place of a text in a list, counted from k; -1: none. -/
def idx (s : ByteArray) : List ByteArray → Nat → Int
  | [], _ => -1
  | x :: r, k => if s = x then (k : Int) else idx s r (k + 1)

theorem str_eq_true {a b : ByteArray} (h : a = b) : (a.toList == b.toList) = true := by subst h; simp
theorem str_eq_false {a b : ByteArray} (h : a ≠ b) : (a.toList == b.toList) = false := by
  rw [beq_eq_false_iff_ne]
  intro e
  rw [ByteArray.toList_eq, ByteArray.toList_eq] at e
  exact h (WideShapes.bytes_inj e)

theorem idx_drop (s : ByteArray) (l : List ByteArray) (k : Nat) (hk : k < l.length) : idx s (l.drop k) k = if s = l.getD k ⟨#[]⟩ then (k : Int) else idx s (l.drop (k + 1)) (k + 1) := by
  rw [List.drop_eq_getElem_cons hk]
  simp [idx, List.getD, hk]

set_option maxHeartbeats 1000000 in
theorem index_any (l : List ByteArray) (b cap : Nat) (s : ByteArray) (w : World) (hm : l.length ≤ 1000) (hcell : ∀ k, k < l.length → w.cell? ⟨b, k, none⟩ = some (.string (l.getD k ⟨#[]⟩))) :
    Calls Tryd.prog 124 #[.slice (some ⟨b, 0, none⟩) l.length cap, .string s] w fun e w' => e = .returned (.int .i64 (idx s l 0)) ∧ w = w' := by
  have HC : Hid (∀ k, k < l.length → w.cell? ⟨b, k, none⟩ = some (.string (l.getD k ⟨#[]⟩))) := hcell
  clear hcell
  generalize hn : l.length = len at *
  have Hn : Hid (l.length = len) := hn
  clear hn
  go_enter Tryd.func124, Tryd.ntmps124
  go_wp2
  go_loop [8] (fun c => ∃ k : Nat, k ≤ len ∧ c = .int .i64 k ∧ Hid (idx s (l.drop k) k = idx s l 0)) (fun c => len - (intOf c).toNat)
  case atStart => exact ⟨0, by omega, rfl, rfl⟩
  case round =>
    obtain ⟨k, hk, rfl, hi⟩ := hrel
    by_cases hlt : k < len
    · have hc := HC.out k hlt
      have hd := idx_drop s l k (by rw [Hn.out]; exact hlt)
      have HD : Hid (idx s (l.drop k) k = if s = l.getD k ⟨#[]⟩ then (k : Int) else idx s (l.drop (k + 1)) (k + 1)) := hd
      clear hd
      by_cases he : s = l.getD k ⟨#[]⟩
      · have hb := str_eq_true he
        have h1 : idx s l 0 = (k : Int) := by rw [← hi.out, HD.out, if_pos he]
        have H1 : Hid (idx s l 0 = (k : Int)) := h1
        clear he h1 HD hi
        generalize l.getD k ⟨#[]⟩ = x at *
        go_wp2
        go_ret
        exact ⟨by rw [H1.out]; rfl, rfl⟩
      · have hb := str_eq_false he
        have h1 : Hid (idx s (l.drop (k + 1)) (k + 1) = idx s l 0) := by
          have := hi.out
          rw [HD.out, if_neg he] at this
          exact this
        clear he HD hi
        generalize l.getD k ⟨#[]⟩ = x at *
        go_wp2
        go_round
        case rel => exact ⟨k + 1, by omega, by go_num, h1⟩
        case measure => simp [intOf]; omega
    · obtain rfl : k = len := by omega
      have h1 : idx s l 0 = -1 := by rw [← hi.out, List.drop_of_length_le (by rw [Hn.out]; omega)]; rfl
      have H1 : Hid (idx s l 0 = -1) := h1
      clear h1 hi
      go_wp2
      go_ret
      exact ⟨by rw [H1.out]; rfl, rfl⟩

/-- The number of a name; is there one? -/
def numOf (l : List ByteArray) (s : ByteArray) : Int := if idx s l 0 < 1 then 0 else idx s l 0
def isOf (l : List ByteArray) (s : ByteArray) : Bool := decide (1 ≤ idx s l 0)

theorem numbered_list (l : List ByteArray) (t : TypeId) (s : ByteArray) (w : World) (hm : l.length ≤ 1000) :
    Calls Tryd.prog 105 #[.slice (some ⟨w.heap.size, 0, none⟩) l.length l.length, .string s] (w.alloc (.cells (l.map Value.string).toArray t)) fun e w' =>
      e = .returned (.tuple #[.int .i64 (numOf l s), .bool (isOf l s)]) ∧ w.alloc (.cells (l.map Value.string).toArray t) = w' := by
  have hx := index_any l w.heap.size l.length s (w.alloc (.cells (l.map Value.string).toArray t)) hm (fun k hk => cell_list w l t k hk)
  have HX : Hid (Calls Tryd.prog 124 #[.slice (some ⟨w.heap.size, 0, none⟩) l.length l.length, .string s] (w.alloc (.cells (l.map Value.string).toArray t)) fun e w' => e = .returned (.int .i64 (idx s l 0)) ∧ w.alloc (.cells (l.map Value.string).toArray t) = w') := hx
  clear hx
  generalize w.alloc (.cells (l.map Value.string).toArray t) = W at *
  by_cases h : idx s l 0 < 1
  · rw [show numOf l s = 0 by simp [numOf, h], show isOf l s = false by simp [isOf]; omega]
    go_enter Tryd.func105, Tryd.ntmps105
    go_wp2_with fail
    refine HX.out.mono ?_
    rintro e w1 ⟨rfl, rfl⟩
    go_wp2_with fail
    go_ret2
    exact ⟨rfl, rfl⟩
  · rw [show numOf l s = idx s l 0 by simp [numOf, h], show isOf l s = true by simp [isOf]; omega]
    go_enter Tryd.func105, Tryd.ntmps105
    go_wp2_with fail
    refine HX.out.mono ?_
    rintro e w1 ⟨rfl, rfl⟩
    go_wp2_with fail
    go_ret2
    exact ⟨rfl, rfl⟩

theorem op_any (s : ByteArray) (w : World) : Calls Tryd.prog 81 #[.string s] w fun e w' =>
    e = .returned (.tuple #[.int .i64 (numOf nameList s), .bool (isOf nameList s)]) ∧ w' = w.alloc (.cells (nameList.map Value.string).toArray 9) := by
  go_enter Tryd.func81, Tryd.ntmps81
  go_wp2_with fail
  refine (names_any _).mono ?_
  rintro e w1 ⟨rfl, rfl⟩
  go_wp2_with fail
  refine (numbered_list nameList 9 s w (by decide)).mono ?_
  rintro e w1 ⟨rfl, rfl⟩
  go_wp2_with fail
  go_ret2
  exact ⟨rfl, rfl⟩

theorem which_any (s : ByteArray) (w : World) : Calls Tryd.prog 109 #[.string s] w fun e w' =>
    e = .returned (.tuple #[.int .i64 (numOf callList s), .bool (isOf callList s)]) ∧ w' = w.alloc (.cells (callList.map Value.string).toArray 9) := by
  go_enter Tryd.func109, Tryd.ntmps109
  go_wp2_with fail
  refine (calls_any _).mono ?_
  rintro e w1 ⟨rfl, rfl⟩
  go_wp2_with fail
  refine (numbered_list callList 9 s w (by decide)).mono ?_
  rintro e w1 ⟨rfl, rfl⟩
  go_wp2_with fail
  go_ret2
  exact ⟨rfl, rfl⟩

def jumpsB (n : Int) : Bool := decide (n = 12 ∨ n = 13)
theorem jumps_any (n : Int) (w : World) : Calls Tryd.prog 54 #[.int .i64 n] w fun e w' => e = .returned (.bool (jumpsB n)) ∧ w = w' := by
  by_cases h : n = 12
  · subst h
    rw [show jumpsB 12 = true by decide]
    go_enter Tryd.func54, Tryd.ntmps54
    go_wp2
    go_ret
    exact ⟨rfl, rfl⟩
  · by_cases h2 : n = 13
    · subst h2
      rw [show jumpsB 13 = true by decide]
      go_enter Tryd.func54, Tryd.ntmps54
      go_wp2
      go_ret
      exact ⟨rfl, rfl⟩
    · rw [show jumpsB n = false by simp [jumpsB, h, h2]]
      have e1 : (n == 12) = false := by simpa using h
      have e2 : (n == 13) = false := by simpa using h2
      go_enter Tryd.func54, Tryd.ntmps54
      go_wp2
      go_ret
      exact ⟨rfl, rfl⟩
end Go.Proofs.YtngahgfppbjebaaDoor
