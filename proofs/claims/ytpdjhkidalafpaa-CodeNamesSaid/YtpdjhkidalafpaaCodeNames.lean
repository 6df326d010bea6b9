/-
  CodeNames, walked: each name is one instruction's, or one call's, and goes back and forth.
-/
import Derived.Test.YtpdjhkidalafpaaCodeRuns
namespace Go.Proofs.Ytpdjhkidalafpaa
open Go.RowKit

def callB (n : Int) : Bool := decide (1 ≤ n ∧ n ≤ 12)

theorem empty_is : (ByteArray.mk #[]).toList.isEmpty = true := by rw [ByteArray.toList_eq]; rfl

theorem list_out {l : List ByteArray} {m : Nat} (h0 : l.getD 0 ⟨#[]⟩ = ⟨#[]⟩) (hl : l.length = m + 1) {n : Int} (h : ¬ (1 ≤ n ∧ n ≤ m)) : atList l n = ⟨#[]⟩ := by
  unfold atList
  by_cases hn : 0 ≤ n
  · obtain ⟨k, rfl⟩ := Int.eq_ofNat_of_zero_le hn
    rw [if_pos hn, Int.toNat_natCast]
    rcases (by omega : k = 0 ∨ m + 1 ≤ k) with rfl | hk
    · exact h0
    · rw [List.getD_eq_getElem?_getD, List.getElem?_eq_none (by omega)]
      rfl
  · rw [if_neg hn]

/-- What the laws ask of a list of names: none is empty but the first, no two are the same. -/
def namesOk (l : List ByteArray) : Bool :=
  (List.range l.length).all fun i => decide (i = 0 ∨ idx (l.getD i ⟨#[]⟩) l 0 = (i : Int)) && decide (i = 0 ∨ (l.getD i ⟨#[]⟩).data.size ≠ 0)

theorem names_at {l : List ByteArray} (hok : namesOk l = true) {k : Nat} (h1 : 1 ≤ k) (h2 : k < l.length) : idx (l.getD k ⟨#[]⟩) l 0 = (k : Int) ∧ l.getD k ⟨#[]⟩ ≠ ⟨#[]⟩ := by
  have := (List.all_eq_true.1 hok) k (by simpa using h2)
  simp only [Bool.and_eq_true, decide_eq_true_eq] at this
  obtain ⟨a, b⟩ := this
  refine ⟨a.resolve_left (by omega), fun e => ?_⟩
  have := b.resolve_left (by omega)
  rw [e] at this
  exact this rfl

structure NameFacts (l : List ByteArray) (n : Int) : Prop where
  emp : (atList l n).toList.isEmpty = false
  num : numOf l (atList l n) = n
  is : isOf l (atList l n) = true

theorem name_facts {l : List ByteArray} {m : Nat} (hok : namesOk l = true) (hl : l.length = m + 1) {n : Int} (h : 1 ≤ n ∧ n ≤ m) : NameFacts l n := by
  obtain ⟨k, rfl⟩ := Int.eq_ofNat_of_zero_le (by omega : 0 ≤ n)
  have e : atList l (k : Int) = l.getD k ⟨#[]⟩ := by simp [atList]
  obtain ⟨a, b⟩ := names_at hok (k := k) (by omega) (by omega)
  refine ⟨?_, ?_, ?_⟩
  · rw [e]
    cases hx : (l.getD k ⟨#[]⟩).toList with
    | nil =>
      exfalso
      apply b
      rw [ByteArray.toList_eq] at hx
      apply WideShapes.bytes_inj
      rw [hx]
    | cons _ _ => rfl
  · rw [e, numOf, a, if_neg (by omega)]
  · rw [e, isOf, a]
    simp
    omega

theorem name_apart {l : List ByteArray} {m : Nat} (hok : namesOk l = true) (hl : l.length = m + 1) (h0 : l.getD 0 ⟨#[]⟩ = ⟨#[]⟩) {a b : Int} (h : 1 ≤ a ∧ a ≤ m) (hab : a ≠ b) :
    ((atList l a).toList == (atList l b).toList) = false := by
  apply str_eq_false
  intro e
  have fa := name_facts hok hl h
  by_cases hb : 1 ≤ b ∧ b ≤ m
  · have fb := name_facts hok hl hb
    apply hab
    rw [← fa.num, ← fb.num, e]
  · rw [list_out h0 hl hb] at e
    have := fa.emp
    rw [e, empty_is] at this
    cases this

theorem nameList_ok : namesOk nameList = true := by decide +kernel
theorem callList_ok : namesOk callList = true := by decide +kernel
theorem nameList_len : nameList.length = 23 + 1 := rfl
theorem callList_len : callList.length = 12 + 1 := rfl

def crossOk : Bool := callList.all fun s => decide (idx s nameList 0 < 1)
theorem cross : crossOk = true := by decide +kernel
theorem call_no_op (n : Int) : numOf nameList (atList callList n) = 0 ∧ isOf nameList (atList callList n) = false := by
  have h : idx (atList callList n) nameList 0 < 1 := by
    by_cases hn : 1 ≤ n ∧ n ≤ 12
    · obtain ⟨k, rfl⟩ := Int.eq_ofNat_of_zero_le (by omega : 0 ≤ n)
      have e : atList callList (k : Int) = callList.getD k ⟨#[]⟩ := by simp [atList]
      have hk : k < callList.length := by rw [callList_len]; omega
      have hm : callList.getD k ⟨#[]⟩ ∈ callList := by
        rw [List.getD_eq_getElem?_getD, List.getElem?_eq_getElem hk]
        exact List.getElem_mem hk
      rw [e]
      simpa using (List.all_eq_true.1 cross) _ hm
    · rw [list_out rfl callList_len hn]
      decide
  exact ⟨by simp [numOf, h], by simp [isOf]; omega⟩

structure Pair_ (l : List ByteArray) (m : Nat) (a b : Int) (s t : ByteArray) : Prop where
  inn : (1 ≤ a ∧ a ≤ m) → s.toList.isEmpty = false ∧ numOf l s = a ∧ isOf l s = true ∧ (a ≠ b → (s.toList == t.toList) = false) ∧ (a = b → (s.toList == t.toList) = true)
  out : ¬ (1 ≤ a ∧ a ≤ m) → s = ⟨#[]⟩

theorem pair_of {l : List ByteArray} {m : Nat} (hok : namesOk l = true) (hl : l.length = m + 1) (h0 : l.getD 0 ⟨#[]⟩ = ⟨#[]⟩) (a b : Int) : Pair_ l m a b (atList l a) (atList l b) :=
  ⟨fun h => ⟨(name_facts hok hl h).emp, (name_facts hok hl h).num, (name_facts hok hl h).is, fun e => name_apart hok hl h0 h e, fun e => by subst e; exact str_eq_true rfl⟩, fun h => list_out h0 hl h⟩

set_option maxHeartbeats 1000000 in
theorem names_low (a b : Int) (w : World) (p : Pair_ nameList 23 a b (atList nameList a) (atList nameList b)) (q : Pair_ callList 12 a b (atList callList a) (atList callList b)) (z : numOf nameList (atList callList a) = 0 ∧ isOf nameList (atList callList a) = false) (h : a < 1) :
    Calls Try.prog 5 #[.int .i64 a, .int .i64 b] w fun e w' => e = .returned (.bool true) ∧ Below w.heap.size w w' := by
  have s1 : (atList nameList a).toList.isEmpty = true := by rw [p.out (by omega)]; exact empty_is
  have u1 : (atList callList a).toList.isEmpty = true := by rw [q.out (by omega)]; exact empty_is
  obtain ⟨z1, z2⟩ := z
  clear p q
  have e1 : decide (1 ≤ a) = false := by simp; omega
  go_enter Try.func5, Try.ntmps5
  go_wp2_with (first
    | (go_at_call 3; refine (code_runs _).mono ?_; rintro e w1 ⟨rfl, hbel⟩)
    | (go_at_call 12; refine (op_any _ _).mono ?_; rintro e w1 ⟨rfl, rfl⟩)
    | (go_at_call 13; refine (which_any _ _).mono ?_; rintro e w1 ⟨rfl, rfl⟩)
    | (go_at_call 14; refine (name_any _ _).mono ?_; rintro e w1 ⟨rfl, rfl⟩)
    | (go_at_call 16; refine (call_any _ _).mono ?_; rintro e w1 ⟨rfl, rfl⟩))
  go_ret
  refine ⟨rfl, Only.new ?_⟩
  repeat' (first | (with_reducible exact Only.of_new hbel) | (with_reducible refine Only.alloc ?_ _) | (with_reducible refine Only.drewN ?_ _) | (with_reducible refine Only.drew ?_))

set_option maxHeartbeats 1000000 in
theorem names_high (a b : Int) (w : World) (p : Pair_ nameList 23 a b (atList nameList a) (atList nameList b)) (q : Pair_ callList 12 a b (atList callList a) (atList callList b)) (z : numOf nameList (atList callList a) = 0 ∧ isOf nameList (atList callList a) = false) (h : 23 < a) :
    Calls Try.prog 5 #[.int .i64 a, .int .i64 b] w fun e w' => e = .returned (.bool true) ∧ Below w.heap.size w w' := by
  have s1 : (atList nameList a).toList.isEmpty = true := by rw [p.out (by omega)]; exact empty_is
  have u1 : (atList callList a).toList.isEmpty = true := by rw [q.out (by omega)]; exact empty_is
  obtain ⟨z1, z2⟩ := z
  clear p q
  have e1 : decide (1 ≤ a) = true := by simp; omega
  have e2 : decide (a ≤ 23) = false := by simp; omega
  have e3 : decide (a ≤ 12) = false := by simp; omega
  go_enter Try.func5, Try.ntmps5
  go_wp2_with (first
    | (go_at_call 3; refine (code_runs _).mono ?_; rintro e w1 ⟨rfl, hbel⟩)
    | (go_at_call 12; refine (op_any _ _).mono ?_; rintro e w1 ⟨rfl, rfl⟩)
    | (go_at_call 13; refine (which_any _ _).mono ?_; rintro e w1 ⟨rfl, rfl⟩)
    | (go_at_call 14; refine (name_any _ _).mono ?_; rintro e w1 ⟨rfl, rfl⟩)
    | (go_at_call 16; refine (call_any _ _).mono ?_; rintro e w1 ⟨rfl, rfl⟩))
  go_ret
  refine ⟨rfl, Only.new ?_⟩
  repeat' (first | (with_reducible exact Only.of_new hbel) | (with_reducible refine Only.alloc ?_ _) | (with_reducible refine Only.drewN ?_ _) | (with_reducible refine Only.drew ?_))

set_option maxHeartbeats 1000000 in
theorem names_mid_eq (a b : Int) (w : World) (p : Pair_ nameList 23 a b (atList nameList a) (atList nameList b)) (q : Pair_ callList 12 a b (atList callList a) (atList callList b)) (z : numOf nameList (atList callList a) = 0 ∧ isOf nameList (atList callList a) = false) (h : 13 ≤ a ∧ a ≤ 23) (hab : a = b) :
    Calls Try.prog 5 #[.int .i64 a, .int .i64 b] w fun e w' => e = .returned (.bool true) ∧ Below w.heap.size w w' := by
  obtain ⟨s1, s2, s3, s4, s5⟩ := p.inn (by omega)
  have u1 : (atList callList a).toList.isEmpty = true := by rw [q.out (by omega)]; exact empty_is
  have e0 : (a == b) = true := by simpa using hab
  replace s5 := s5 hab
  clear s4
  clear hab
  obtain ⟨z1, z2⟩ := z
  clear p q
  obtain ⟨_, _⟩ := h
  have e1 : decide (1 ≤ a) = true := by simp; omega
  have e2 : decide (a ≤ 23) = true := by simp; omega
  have e3 : decide (a ≤ 12) = false := by simp; omega
  go_enter Try.func5, Try.ntmps5
  go_wp2_with (first
    | (go_at_call 3; refine (code_runs _).mono ?_; rintro e w1 ⟨rfl, hbel⟩)
    | (go_at_call 12; refine (op_any _ _).mono ?_; rintro e w1 ⟨rfl, rfl⟩)
    | (go_at_call 13; refine (which_any _ _).mono ?_; rintro e w1 ⟨rfl, rfl⟩)
    | (go_at_call 14; refine (name_any _ _).mono ?_; rintro e w1 ⟨rfl, rfl⟩)
    | (go_at_call 16; refine (call_any _ _).mono ?_; rintro e w1 ⟨rfl, rfl⟩))
  go_ret
  refine ⟨rfl, Only.new ?_⟩
  repeat' (first | (with_reducible exact Only.of_new hbel) | (with_reducible refine Only.alloc ?_ _) | (with_reducible refine Only.drewN ?_ _) | (with_reducible refine Only.drew ?_))

set_option maxHeartbeats 1000000 in
theorem names_in_eq (a b : Int) (w : World) (p : Pair_ nameList 23 a b (atList nameList a) (atList nameList b)) (q : Pair_ callList 12 a b (atList callList a) (atList callList b)) (z : numOf nameList (atList callList a) = 0 ∧ isOf nameList (atList callList a) = false) (h : 1 ≤ a ∧ a ≤ 12) (hab : a = b) :
    Calls Try.prog 5 #[.int .i64 a, .int .i64 b] w fun e w' => e = .returned (.bool true) ∧ Below w.heap.size w w' := by
  obtain ⟨s1, s2, s3, s4, s5⟩ := p.inn (by omega)
  obtain ⟨u1, u2, u3, u4, u5⟩ := q.inn (by omega)
  have e0 : (a == b) = true := by simpa using hab
  replace s5 := s5 hab
  replace u5 := u5 hab
  clear s4
  clear u4
  clear hab
  obtain ⟨z1, z2⟩ := z
  clear p q
  obtain ⟨_, _⟩ := h
  have e1 : decide (1 ≤ a) = true := by simp; omega
  have e2 : decide (a ≤ 23) = true := by simp; omega
  have e3 : decide (a ≤ 12) = true := by simp; omega
  go_enter Try.func5, Try.ntmps5
  go_wp2_with (first
    | (go_at_call 3; refine (code_runs _).mono ?_; rintro e w1 ⟨rfl, hbel⟩)
    | (go_at_call 12; refine (op_any _ _).mono ?_; rintro e w1 ⟨rfl, rfl⟩)
    | (go_at_call 13; refine (which_any _ _).mono ?_; rintro e w1 ⟨rfl, rfl⟩)
    | (go_at_call 14; refine (name_any _ _).mono ?_; rintro e w1 ⟨rfl, rfl⟩)
    | (go_at_call 16; refine (call_any _ _).mono ?_; rintro e w1 ⟨rfl, rfl⟩))
  go_ret
  refine ⟨rfl, Only.new ?_⟩
  repeat' (first | (with_reducible exact Only.of_new hbel) | (with_reducible refine Only.alloc ?_ _) | (with_reducible refine Only.drewN ?_ _) | (with_reducible refine Only.drew ?_))

set_option maxHeartbeats 1000000 in
theorem names_mid_ne (a b : Int) (w : World) (p : Pair_ nameList 23 a b (atList nameList a) (atList nameList b)) (q : Pair_ callList 12 a b (atList callList a) (atList callList b)) (z : numOf nameList (atList callList a) = 0 ∧ isOf nameList (atList callList a) = false) (h : 13 ≤ a ∧ a ≤ 23) (hab : a ≠ b) :
    Calls Try.prog 5 #[.int .i64 a, .int .i64 b] w fun e w' => e = .returned (.bool true) ∧ Below w.heap.size w w' := by
  obtain ⟨s1, s2, s3, s4, s5⟩ := p.inn (by omega)
  have u1 : (atList callList a).toList.isEmpty = true := by rw [q.out (by omega)]; exact empty_is
  have e0 : (a == b) = false := by simpa using hab
  replace s4 := s4 hab
  clear s5
  clear hab
  obtain ⟨z1, z2⟩ := z
  clear p q
  obtain ⟨_, _⟩ := h
  have e1 : decide (1 ≤ a) = true := by simp; omega
  have e2 : decide (a ≤ 23) = true := by simp; omega
  have e3 : decide (a ≤ 12) = false := by simp; omega
  go_enter Try.func5, Try.ntmps5
  go_wp2_with (first
    | (go_at_call 3; refine (code_runs _).mono ?_; rintro e w1 ⟨rfl, hbel⟩)
    | (go_at_call 12; refine (op_any _ _).mono ?_; rintro e w1 ⟨rfl, rfl⟩)
    | (go_at_call 13; refine (which_any _ _).mono ?_; rintro e w1 ⟨rfl, rfl⟩)
    | (go_at_call 14; refine (name_any _ _).mono ?_; rintro e w1 ⟨rfl, rfl⟩)
    | (go_at_call 16; refine (call_any _ _).mono ?_; rintro e w1 ⟨rfl, rfl⟩))
  go_ret
  refine ⟨rfl, Only.new ?_⟩
  repeat' (first | (with_reducible exact Only.of_new hbel) | (with_reducible refine Only.alloc ?_ _) | (with_reducible refine Only.drewN ?_ _) | (with_reducible refine Only.drew ?_))

set_option maxHeartbeats 1000000 in
theorem names_in_ne (a b : Int) (w : World) (p : Pair_ nameList 23 a b (atList nameList a) (atList nameList b)) (q : Pair_ callList 12 a b (atList callList a) (atList callList b)) (z : numOf nameList (atList callList a) = 0 ∧ isOf nameList (atList callList a) = false) (h : 1 ≤ a ∧ a ≤ 12) (hab : a ≠ b) :
    Calls Try.prog 5 #[.int .i64 a, .int .i64 b] w fun e w' => e = .returned (.bool true) ∧ Below w.heap.size w w' := by
  obtain ⟨s1, s2, s3, s4, s5⟩ := p.inn (by omega)
  obtain ⟨u1, u2, u3, u4, u5⟩ := q.inn (by omega)
  have e0 : (a == b) = false := by simpa using hab
  replace s4 := s4 hab
  replace u4 := u4 hab
  clear s5
  clear u5
  clear hab
  obtain ⟨z1, z2⟩ := z
  clear p q
  obtain ⟨_, _⟩ := h
  have e1 : decide (1 ≤ a) = true := by simp; omega
  have e2 : decide (a ≤ 23) = true := by simp; omega
  have e3 : decide (a ≤ 12) = true := by simp; omega
  go_enter Try.func5, Try.ntmps5
  go_wp2_with (first
    | (go_at_call 3; refine (code_runs _).mono ?_; rintro e w1 ⟨rfl, hbel⟩)
    | (go_at_call 12; refine (op_any _ _).mono ?_; rintro e w1 ⟨rfl, rfl⟩)
    | (go_at_call 13; refine (which_any _ _).mono ?_; rintro e w1 ⟨rfl, rfl⟩)
    | (go_at_call 14; refine (name_any _ _).mono ?_; rintro e w1 ⟨rfl, rfl⟩)
    | (go_at_call 16; refine (call_any _ _).mono ?_; rintro e w1 ⟨rfl, rfl⟩))
  go_ret
  refine ⟨rfl, Only.new ?_⟩
  repeat' (first | (with_reducible exact Only.of_new hbel) | (with_reducible refine Only.alloc ?_ _) | (with_reducible refine Only.drewN ?_ _) | (with_reducible refine Only.drew ?_))

theorem code_names (a : Int) (_ : (Lit.int .i64 a).wf = true) (b : Int) (_ : (Lit.int .i64 b).wf = true) (w : World) :
    Calls Try.prog 5 #[.int .i64 a, .int .i64 b] w fun e w' => e = .returned (.bool true) ∧ Below w.heap.size w w' := by
  have p := pair_of nameList_ok nameList_len rfl a b
  have q := pair_of callList_ok callList_len rfl a b
  have z := call_no_op a
  by_cases h1 : a < 1
  · exact names_low a b w p q z h1
  · by_cases h2 : 23 < a
    · exact names_high a b w p q z h2
    · by_cases h3 : 13 ≤ a
      · by_cases hab : a = b
        · exact names_mid_eq a b w p q z (by omega) hab
        · exact names_mid_ne a b w p q z (by omega) hab
      · by_cases hab : a = b
        · exact names_in_eq a b w p q z (by omega) hab
        · exact names_in_ne a b w p q z (by omega) hab
end Go.Proofs.Ytpdjhkidalafpaa
