/-
  Plain: lists of names: each has one place. No walk in sight.
  Plain: the last place at which a text stands in a list of names, counted one by one. No program in sight.
-/
import Derived.Test.YtngahgfppbjebaaDoorGrpCodeMay
namespace Go.Proofs.YtngahgfppbjebaaDoor
open Go.RowKit
set_option linter.unusedVariables false
set_option linter.unusedSimpArgs false

def callB (n : Int) : Bool := decide (1 ≤ n ∧ n ≤ 12)

theorem empty_is : (ByteArray.mk #[]).toList.isEmpty = true := by rw [ByteArray.toList_eq]; rfl

theorem list_out {l : List ByteArray} {m : Nat} (h0 : l.getD 0 ⟨#[]⟩ = ⟨#[]⟩) (hl : l.length = m + 1) {n : Int} (h : ¬ (1 ≤ n ∧ n ≤ m)) : atList l n = ⟨#[]⟩ := by
  unfold atList
  by_cases hn : 0 ≤ n
  · obtain ⟨k, rfl⟩ := Int.eq_ofNat_of_zero_le hn
    rw [if_pos hn, Int.toNat_natCast]
    rcases (by omega : k = 0 ∨ m + 1 ≤ k) with rfl | hk
    · exact h0
    · rw [List.getD_eq_getElem?_getD, List.getElem?_eq_none (by omega)]
      rfl
  · rw [if_neg hn]

/-- What the laws ask of a list of names: none is empty but the first, no two are the same. -/
def namesOk (l : List ByteArray) : Bool :=
  (List.range l.length).all fun i => decide (i = 0 ∨ idx (l.getD i ⟨#[]⟩) l 0 = (i : Int)) && decide (i = 0 ∨ (l.getD i ⟨#[]⟩).data.size ≠ 0)

theorem names_at {l : List ByteArray} (hok : namesOk l = true) {k : Nat} (h1 : 1 ≤ k) (h2 : k < l.length) : idx (l.getD k ⟨#[]⟩) l 0 = (k : Int) ∧ l.getD k ⟨#[]⟩ ≠ ⟨#[]⟩ := by
  have := (List.all_eq_true.1 hok) k (by simpa using h2)
  simp only [Bool.and_eq_true, decide_eq_true_eq] at this
  obtain ⟨a, b⟩ := this
  refine ⟨a.resolve_left (by omega), fun e => ?_⟩
  have := b.resolve_left (by omega)
  rw [e] at this
  exact this rfl

structure NameFacts (l : List ByteArray) (n : Int) : Prop where
  emp : (atList l n).toList.isEmpty = false
  num : numOf l (atList l n) = n
  is : isOf l (atList l n) = true

theorem name_facts {l : List ByteArray} {m : Nat} (hok : namesOk l = true) (hl : l.length = m + 1) {n : Int} (h : 1 ≤ n ∧ n ≤ m) : NameFacts l n := by
  obtain ⟨k, rfl⟩ := Int.eq_ofNat_of_zero_le (by omega : 0 ≤ n)
  have e : atList l (k : Int) = l.getD k ⟨#[]⟩ := by simp [atList]
  obtain ⟨a, b⟩ := names_at hok (k := k) (by omega) (by omega)
  refine ⟨?_, ?_, ?_⟩
  · rw [e]
    cases hx : (l.getD k ⟨#[]⟩).toList with
    | nil =>
      exfalso
      apply b
      rw [ByteArray.toList_eq] at hx
      apply WideShapes.bytes_inj
      rw [hx]
    | cons _ _ => rfl
  · rw [e, numOf, a, if_neg (by omega)]
  · rw [e, isOf, a]
    simp
    omega

theorem name_apart {l : List ByteArray} {m : Nat} (hok : namesOk l = true) (hl : l.length = m + 1) (h0 : l.getD 0 ⟨#[]⟩ = ⟨#[]⟩) {a b : Int} (h : 1 ≤ a ∧ a ≤ m) (hab : a ≠ b) :
    ((atList l a).toList == (atList l b).toList) = false := by
  apply str_eq_false
  intro e
  have fa := name_facts hok hl h
  by_cases hb : 1 ≤ b ∧ b ≤ m
  · have fb := name_facts hok hl hb
    apply hab
    rw [← fa.num, ← fb.num, e]
  · rw [list_out h0 hl hb] at e
    have := fa.emp
    rw [e, empty_is] at this
    cases this

theorem nameList_ok : namesOk nameList = true := by decide +kernel
theorem callList_ok : namesOk callList = true := by decide +kernel
theorem nameList_len : nameList.length = 23 + 1 := rfl
theorem callList_len : callList.length = 12 + 1 := rfl

def crossOk : Bool := callList.all fun s => decide (idx s nameList 0 < 1)
theorem cross : crossOk = true := by decide +kernel
theorem call_no_op (n : Int) : numOf nameList (atList callList n) = 0 ∧ isOf nameList (atList callList n) = false := by
  have h : idx (atList callList n) nameList 0 < 1 := by
    by_cases hn : 1 ≤ n ∧ n ≤ 12
    · obtain ⟨k, rfl⟩ := Int.eq_ofNat_of_zero_le (by omega : 0 ≤ n)
      have e : atList callList (k : Int) = callList.getD k ⟨#[]⟩ := by simp [atList]
      have hk : k < callList.length := by rw [callList_len]; omega
      have hm : callList.getD k ⟨#[]⟩ ∈ callList := by
        rw [List.getD_eq_getElem?_getD, List.getElem?_eq_getElem hk]
        exact List.getElem_mem hk
      rw [e]
      simpa using (List.all_eq_true.1 cross) _ hm
    · rw [list_out rfl callList_len hn]
      decide
  exact ⟨by simp [numOf, h], by simp [isOf]; omega⟩

structure Pair_ (l : List ByteArray) (m : Nat) (a b : Int) (s t : ByteArray) : Prop where
  inn : (1 ≤ a ∧ a ≤ m) → s.toList.isEmpty = false ∧ numOf l s = a ∧ isOf l s = true ∧ (a ≠ b → (s.toList == t.toList) = false) ∧ (a = b → (s.toList == t.toList) = true)
  out : ¬ (1 ≤ a ∧ a ≤ m) → s = ⟨#[]⟩

theorem pair_of {l : List ByteArray} {m : Nat} (hok : namesOk l = true) (hl : l.length = m + 1) (h0 : l.getD 0 ⟨#[]⟩ = ⟨#[]⟩) (a b : Int) : Pair_ l m a b (atList l a) (atList l b) :=
  ⟨fun h => ⟨(name_facts hok hl h).emp, (name_facts hok hl h).num, (name_facts hok hl h).is, fun e => name_apart hok hl h0 h e, fun e => by subst e; exact str_eq_true rfl⟩, fun h => list_out h0 hl h⟩
end Go.Proofs.YtngahgfppbjebaaDoor
namespace Go.Proofs.YtngahgfppbjebaaDoor
set_option linter.unusedVariables false
set_option linter.unusedSimpArgs false

/-- The last place, of 1 to k, at which s stands; 0: none. -/
def lastOf (l : List ByteArray) (s : ByteArray) : Nat → Int
  | 0 => 0
  | k + 1 => if l.getD (k + 1) ⟨#[]⟩ = s then ((k + 1 : Nat) : Int) else lastOf l s k
def someOf (l : List ByteArray) (s : ByteArray) : Nat → Bool
  | 0 => false
  | k + 1 => if l.getD (k + 1) ⟨#[]⟩ = s then true else someOf l s k
theorem lastOf_range (l : List ByteArray) (s : ByteArray) (k : Nat) : 0 ≤ lastOf l s k ∧ lastOf l s k ≤ k := by
  induction k with
  | zero => exact ⟨Int.le_refl _, Int.le_refl _⟩
  | succ k ih =>
    unfold lastOf
    split
    · omega
    · omega
theorem idx_spec (s : ByteArray) (l : List ByteArray) (k : Nat) : (idx s l k = -1 ∧ ∀ x ∈ l, s ≠ x) ∨ ∃ j, j < l.length ∧ idx s l k = ((k + j : Nat) : Int) ∧ l.getD j ⟨#[]⟩ = s := by
  induction l generalizing k with
  | nil => exact .inl ⟨rfl, fun x h => by simp at h⟩
  | cons x r ih =>
    unfold idx
    by_cases h : s = x
    · rw [if_pos h]
      exact .inr ⟨0, by simp, rfl, by simp [h]⟩
    · rw [if_neg h]
      rcases ih (k + 1) with ⟨h1, h2⟩ | ⟨j, h1, h2, h3⟩
      · refine .inl ⟨h1, fun y hy => ?_⟩
        rcases List.mem_cons.1 hy with rfl | hy
        · exact h
        · exact h2 y hy
      · exact .inr ⟨j + 1, by simp; omega, by rw [h2]; congr 1; omega, by simpa using h3⟩
theorem fold_is {l : List ByteArray} {m : Nat} (hok : namesOk l = true) (hl : l.length = m + 1) (s : ByteArray) (k : Nat) (hk : k ≤ m) :
    (lastOf l s k = 0 ∧ someOf l s k = false ∧ ∀ j, 1 ≤ j → j ≤ k → l.getD j ⟨#[]⟩ ≠ s) ∨ (∃ j : Nat, 1 ≤ j ∧ j ≤ k ∧ l.getD j ⟨#[]⟩ = s ∧ lastOf l s k = (j : Int) ∧ someOf l s k = true) := by
  induction k with
  | zero => exact .inl ⟨rfl, rfl, fun j h1 h2 => by omega⟩
  | succ k ih =>
    by_cases h : l.getD (k + 1) ⟨#[]⟩ = s
    · exact .inr ⟨k + 1, by omega, by omega, h, if_pos h, if_pos h⟩
    · have e1 : lastOf l s (k + 1) = lastOf l s k := if_neg h
      have e2 : someOf l s (k + 1) = someOf l s k := if_neg h
      rw [e1, e2]
      rcases ih (by omega) with ⟨h1, h2, h3⟩ | ⟨j, h1, h2, h3, h4, h5⟩
      · refine .inl ⟨h1, h2, fun j h4 h5 => ?_⟩
        by_cases hj : j = k + 1
        · subst hj; exact h
        · exact h3 j h4 (by omega)
      · exact .inr ⟨j, h1, by omega, h3, h4, h5⟩
theorem fold_num {l : List ByteArray} {m : Nat} (hok : namesOk l = true) (hl : l.length = m + 1) (h0 : l.getD 0 ⟨#[]⟩ = ⟨#[]⟩) (s : ByteArray) : lastOf l s m = numOf l s ∧ someOf l s m = isOf l s := by
  rcases fold_is hok hl s m (Nat.le_refl _) with ⟨h1, h2, h3⟩ | ⟨j, h1, h2, h3, h4, h5⟩
  · rw [h1, h2]
    have : idx s l 0 < 1 := by
      rcases idx_spec s l 0 with ⟨hx, _⟩ | ⟨j, hj, hx, hs⟩
      · rw [hx]; decide
      · rw [hx]
        rcases Nat.eq_zero_or_pos j with hz | hz
        · subst hz; decide
        · exact absurd hs (h3 j hz (by omega))
    exact ⟨by simp [numOf, this], by simp [isOf]; omega⟩
  · have := (names_at hok h1 (by omega)).1
    rw [h3] at this
    rw [h4, h5]
    exact ⟨by simp [numOf, this]; omega, by simp [isOf, this]; omega⟩
end Go.Proofs.YtngahgfppbjebaaDoor
