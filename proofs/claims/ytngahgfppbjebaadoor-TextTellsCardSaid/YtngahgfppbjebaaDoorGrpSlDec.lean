/-
  Plain: results, their words, the text of a row of results, what is read of a text; decimals. No program in sight.
  The contract of the document's 'Decimal'.
-/
import Derived.Lib.ItoaNum
import Derived.Lib.Join
import Derived.Test.YtngahgfppbjebaaDoorBase
import Derived.Test.YtngahgfppbjebaaDoorGrpWords
import Derived.Laws.OwnMore
import Derived.LoopTactic
import Derived.Outline
import Derived.Deep.DeepMust
namespace Go.Proofs.YtngahgfppbjebaaDoor
set_option linter.unusedVariables false
set_option linter.unusedSimpArgs false

/-! ### Decimals -/
def digB (b : UInt8) : Bool := decide (48 ≤ b.toNat) && decide (b.toNat ≤ 57)
def dv (b : UInt8) : Nat := b.toNat - 48
def vstep (n : Nat) (b : UInt8) : Nat := 10 * n + dv b
def valD (n : Nat) (l : List UInt8) : Nat := l.foldl vstep n
theorem valD_cons (n : Nat) (b : UInt8) (l : List UInt8) : valD n (b :: l) = valD (10 * n + dv b) l := by
  unfold valD
  rw [List.foldl_cons]
  unfold vstep
  exact Eq.refl _
theorem valD_zero (b : UInt8) (l : List UInt8) : valD 0 (b :: l) = valD (dv b) l := by
  have h : 10 * 0 + dv b = dv b := by rw [Nat.mul_zero, Nat.zero_add]
  exact (valD_cons 0 b l).trans (congrArg (fun k => valD k l) h)
/-- A number of decimal digits, without noughts ahead. -/
def decOf (l : List UInt8) : Option Nat :=
  if l ≠ [] ∧ l.all digB = true ∧ ¬ (l.head? = some 48 ∧ 1 < l.length) then some (valD 0 l) else none
/-- .. of at most so much. -/
def decMost (most : Nat) (l : List UInt8) : Option Nat := (decOf l).filter fun n => decide (n ≤ most)

theorem valD_ge : ∀ (l : List UInt8) (n : Nat), n * 10 ^ l.length ≤ valD n l
  | [], n => by unfold valD; simp
  | b :: l, n => by
    have h := valD_ge l (10 * n + (b.toNat - 48))
    have e : valD n (b :: l) = valD (10 * n + dv b) l := rfl
    rw [e, List.length_cons, Nat.pow_succ, Nat.mul_comm (10 ^ l.length) 10, ← Nat.mul_assoc]
    generalize 10 ^ l.length = p at h ⊢
    have h2 : n * 10 * p ≤ (10 * n + dv b) * p := Nat.mul_le_mul_right p (by omega)
    exact Nat.le_trans h2 h
theorem valD_le_self (l : List UInt8) (n : Nat) : n ≤ valD n l := by
  have h := valD_ge l n
  have : 1 ≤ 10 ^ l.length := Nat.one_le_pow _ _ (by decide)
  exact Nat.le_trans (Nat.le_mul_of_pos_right n this) h
theorem valD_snoc (l : List UInt8) (b : UInt8) : ∀ n, valD n (l ++ [b]) = 10 * valD n l + dv b := by
  induction l with
  | nil => intro n; exact valD_cons n b []
  | cons c l ih => intro n; rw [List.cons_append, valD_cons, valD_cons]; exact ih _
theorem valD_app (l m : List UInt8) : ∀ n, valD n (l ++ m) = valD (valD n l) m := by
  induction l with
  | nil => intro n; unfold valD; simp
  | cons c l ih => intro n; rw [List.cons_append, valD_cons, valD_cons]; exact ih _
theorem dig_of (d : Nat) (h : d < 10) : digB (UInt8.ofNat (48 + d)) = true ∧ (UInt8.ofNat (48 + d)).toNat = 48 + d := by
  have e : (UInt8.ofNat (48 + d)).toNat = 48 + d := by
    rw [UInt8.toNat_ofNat']; omega
  exact ⟨by simp [digB, e]; omega, e⟩
theorem decDigits_small {u : Nat} (h : u < 10) : Go.Lib.decDigits u = [UInt8.ofNat (48 + u)] := by rw [Go.Lib.decDigits, dif_pos h]
theorem decDigits_big {u : Nat} (h : ¬ u < 10) : Go.Lib.decDigits u = Go.Lib.decDigits (u / 10) ++ [UInt8.ofNat (48 + u % 10)] := by
  conv => lhs; rw [Go.Lib.decDigits]
  rw [dif_neg h]
theorem decDigits_ne (u : Nat) : Go.Lib.decDigits u ≠ [] := by
  by_cases h : u < 10
  · rw [decDigits_small h]; simp
  · rw [decDigits_big h]; simp
theorem decDigits_all (u : Nat) : (Go.Lib.decDigits u).all digB = true := by
  induction u using Nat.strongRecOn with
  | _ u ih =>
    by_cases h : u < 10
    · rw [decDigits_small h]; simp only [List.all_cons, List.all_nil, Bool.and_true, (dig_of u h).1]
    · rw [decDigits_big h]; simp only [List.all_append, List.all_cons, List.all_nil, Bool.and_true, ih (u / 10) (by omega), (dig_of (u % 10) (by omega)).1]
theorem decDigits_val (u : Nat) : valD 0 (Go.Lib.decDigits u) = u := by
  induction u using Nat.strongRecOn with
  | _ u ih =>
    by_cases h : u < 10
    · have e := (dig_of u h).2
      rw [decDigits_small h]
      generalize UInt8.ofNat (48 + u) = b at e
      have e3 : dv b = u := by unfold dv; rw [e]; omega
      have e2 : valD 0 [b] = dv b := valD_zero b []
      rw [e2, e3]
    · have e := (dig_of (u % 10) (by omega)).2
      rw [decDigits_big h, valD_snoc, ih (u / 10) (by omega)]
      generalize UInt8.ofNat (48 + u % 10) = b at e
      have e3 : dv b = u % 10 := by unfold dv; rw [e]; omega
      rw [e3]
      omega
theorem decDigits_head (u : Nat) (hu : 0 < u) : (Go.Lib.decDigits u).head? ≠ some 48 := by
  induction u using Nat.strongRecOn with
  | _ u ih =>
    by_cases h : u < 10
    · rw [decDigits_small h]
      intro e
      have e' : UInt8.ofNat (48 + u) = 48 := Option.some.inj e
      have := (dig_of u h).2
      rw [e'] at this
      have h48 : (48 : UInt8).toNat = 48 := rfl
      omega
    · rw [decDigits_big h, List.head?_append]
      have hne := decDigits_ne (u / 10)
      have h2 := ih (u / 10) (by omega) (by omega)
      cases hd : Go.Lib.decDigits (u / 10) with
      | nil => exact absurd hd hne
      | cons b l => rw [hd] at h2; simpa using h2
theorem decOf_digits (u : Nat) : decOf (Go.Lib.decDigits u) = some u := by
  have h : ¬ ((Go.Lib.decDigits u).head? = some 48 ∧ 1 < (Go.Lib.decDigits u).length) := by
    rintro ⟨h1, h2⟩
    by_cases hu : 0 < u
    · exact absurd h1 (decDigits_head u hu)
    · have : u = 0 := by omega
      subst this
      rw [decDigits_small (by decide)] at h2
      simp at h2
  unfold decOf
  rw [if_pos ⟨decDigits_ne u, decDigits_all u, h⟩, decDigits_val]
theorem decMost_digits {most u : Nat} (h : u ≤ most) : decMost most (Go.Lib.decDigits u) = some u := by
  simp [decMost, decOf_digits, Option.filter, h]
/-- Digits without noughts ahead are the numeral of what they say. -/
theorem digits_of_val : ∀ (k : Nat) (l : List UInt8), l.length = k → l ≠ [] → l.all digB = true → ¬ (l.head? = some 48 ∧ 1 < l.length) → Go.Lib.decDigits (valD 0 l) = l := by
  intro k
  induction k with
  | zero => intro l h1 h2; exact absurd (List.eq_nil_of_length_eq_zero h1) h2
  | succ k ih =>
    intro l h1 h2 h3 h4
    obtain ⟨m, b, rfl⟩ : ∃ m b, l = m ++ [b] := ⟨l.dropLast, l.getLast h2, (List.dropLast_concat_getLast h2).symm⟩
    simp at h1
    rw [List.all_append] at h3
    simp only [Bool.and_eq_true, List.all_cons, List.all_nil, Bool.and_true] at h3
    obtain ⟨hm, hb⟩ := h3
    have hb' : 48 ≤ b.toNat ∧ b.toNat ≤ 57 := by simpa [digB] using hb
    have hdv : dv b < 10 ∧ 48 + dv b = b.toNat := by unfold dv; omega
    have eb : UInt8.ofNat (48 + dv b) = b := by
      rw [hdv.2]; exact UInt8.ofNat_toNat
    replace hdv := hdv.1
    clear hb'
    rw [valD_snoc]
    generalize dv b = B at hdv eb ⊢
    cases m with
    | nil =>
      have e2 : valD 0 [] = 0 := rfl
      rw [e2, Nat.mul_zero, Nat.zero_add, decDigits_small hdv, eb, List.nil_append]
    | cons c m =>
      have hm0 : ¬ ((c :: m).head? = some 48 ∧ 1 < (c :: m).length) := by
        rintro ⟨e, _⟩
        exact h4 ⟨by simpa using e, by simp⟩
      have e := ih (c :: m) h1 (by simp) hm hm0
      have hc : c ≠ 48 := fun e => h4 ⟨by simp [e], by simp⟩
      have hcd : 48 ≤ c.toNat ∧ c.toNat ≤ 57 := by
        have := hm
        simp only [List.all_cons, Bool.and_eq_true] at this
        simpa [digB] using this.1
      have hpos : 0 < valD 0 (c :: m) := by
        have : 0 < dv c := by
          have : c.toNat ≠ 48 := fun e => hc (UInt8.toNat_inj.1 (by simpa using e))
          unfold dv
          omega
        rw [valD_zero]
        exact Nat.lt_of_lt_of_le this (valD_le_self m _)
      clear hcd hc hm0 h4 h1 ih hm hb
      generalize valD 0 (c :: m) = V at hpos e ⊢
      have q1 : ¬ (10 * V + B) < 10 := by clear e eb; omega
      have q2 : (10 * V + B) / 10 = V := by clear e eb; omega
      have q3 : (10 * V + B) % 10 = B := by clear e eb; omega
      rw [decDigits_big q1, q2, q3, e, eb]
theorem decOf_some {l : List UInt8} {n : Nat} (h : decOf l = some n) : l = Go.Lib.decDigits n := by
  unfold decOf at h
  split at h
  · rename_i hc
    injection h with h
    rw [← h]
    exact (digits_of_val _ l rfl hc.1 hc.2.1 hc.2.2).symm
  · cases h
theorem decOf_iff {l : List UInt8} {n : Nat} : decOf l = some n ↔ l = Go.Lib.decDigits n := ⟨decOf_some, fun h => h ▸ decOf_digits n⟩
theorem decOf_long {l : List UInt8} {n : Nat} (h : decOf l = some n) (h2 : n < 10 ^ 20) : l.length ≤ 20 := by
  have hl := decOf_some h
  unfold decOf at h
  split at h
  · rename_i hc
    injection h with h
    rcases l with _ | ⟨c, m⟩
    · simp
    · by_cases h1 : 1 < (c :: m).length
      · have hc48 : c ≠ 48 := fun e => hc.2.2 ⟨by simp [e], h1⟩
        have hcd : 48 ≤ c.toNat ∧ c.toNat ≤ 57 := by
          have := hc.2.1
          simp only [List.all_cons, Bool.and_eq_true] at this
          simpa [digB] using this.1
        have hc1 : 1 ≤ dv c := by
          have : c.toNat ≠ 48 := fun e => hc48 (UInt8.toNat_inj.1 (by simpa using e))
          unfold dv
          omega
        have hge := valD_ge m (dv c)
        have e : valD 0 (c :: m) = valD (dv c) m := valD_zero c m
        rw [← e, h] at hge
        have : 10 ^ m.length ≤ n := Nat.le_trans (Nat.le_mul_of_pos_left _ hc1) hge
        have h3 : 10 ^ m.length < 10 ^ 20 := by omega
        have := (Nat.pow_lt_pow_iff_right (by decide : 1 < 10)).1 h3
        simp; omega
      · omega
  · cases h

/-! ### Results -/
/-- A result. -/
inductive Itm where
  | num (n : Nat)
  | truth (b : Bool)
  | nothing
  deriving DecidableEq
def Itm.ok : Itm → Prop
  | .num n => n ≤ 18446744073709551615
  | _ => True
def bYes : List UInt8 := [121, 101, 115]
def bNo : List UInt8 := [110, 111]
def bNone : List UInt8 := [110, 111, 110, 101]
def itmW : Itm → List UInt8
  | .num n => Go.Lib.decDigits n
  | .truth true => bYes
  | .truth false => bNo
  | .nothing => bNone
def readW (w : List UInt8) : Option Itm :=
  if w = bYes then some (.truth true) else if w = bNo then some (.truth false) else if w = bNone then some .nothing else (decMost 18446744073709551615 w).map .num
/-- Words at single blanks. -/
def wordsB : List UInt8 → List (List UInt8)
  | [] => [[]]
  | b :: l => if b = 32 then [] :: wordsB l else match wordsB l with
    | [] => [[b]]
    | w :: r => (b :: w) :: r
def wordsOf (s : List UInt8) : List (List UInt8) := if s = [] then [] else wordsB s
def textI (l : List Itm) : List UInt8 := Go.Lib.join (l.map itmW) [32]
def readAll : List (List UInt8) → Option (List Itm)
  | [] => some []
  | w :: r => (readW w).bind fun x => (readAll r).map fun l => x :: l
def readS (s : List UInt8) : Option (List Itm) := if (wordsOf s).length ≤ 16 then readAll (wordsOf s) else none

theorem wordsB_hit (l : List UInt8) : wordsB (32 :: l) = [] :: wordsB l := if_pos rfl
theorem wordsB_miss {b : UInt8} {l w : List UInt8} {r : List (List UInt8)} (hb : b ≠ 32) (h : wordsB l = w :: r) : wordsB (b :: l) = (b :: w) :: r := by
  conv => lhs; unfold wordsB
  rw [if_neg hb, h]
theorem wordsB_ne (s : List UInt8) : wordsB s ≠ [] := by
  induction s with
  | nil => simp [wordsB]
  | cons b l ih =>
    unfold wordsB
    split
    · simp
    · cases h : wordsB l with
      | nil => exact absurd h ih
      | cons w r => simp
theorem wordsB_plain (w : List UInt8) (h : ∀ b ∈ w, b ≠ 32) : wordsB w = [w] := by
  induction w with
  | nil => rfl
  | cons b l ih =>
    exact wordsB_miss (h b (by simp)) (ih (fun c hc => h c (by simp [hc])))
theorem wordsB_blank (w s : List UInt8) (h : ∀ b ∈ w, b ≠ 32) : wordsB (w ++ 32 :: s) = w :: wordsB s := by
  induction w with
  | nil => exact wordsB_hit s
  | cons b l ih =>
    rw [List.cons_append]
    exact wordsB_miss (h b (by simp)) (ih (fun c hc => h c (by simp [hc])))
theorem wordsB_join : ∀ (ws : List (List UInt8)), ws ≠ [] → (∀ w ∈ ws, ∀ b ∈ w, b ≠ 32) → wordsB (Go.Lib.join ws [32]) = ws := by
  intro ws
  induction ws with
  | nil => intro h; exact absurd rfl h
  | cons w r ih =>
    intro _ hb
    cases r with
    | nil => rw [Go.Lib.join_one]; exact wordsB_plain w (hb w (by simp))
    | cons x r =>
      have e : Go.Lib.join (w :: x :: r) [32] = w ++ 32 :: Go.Lib.join (x :: r) [32] := by
        rw [Go.Lib.join_cons, Go.Lib.join_cons]; simp [Go.Lib.joinTail]
      rw [e, wordsB_blank w _ (hb w (by simp)), ih (by simp) (fun w hw => hb w (by simp [hw]))]
theorem itmW_blank (x : Itm) : ∀ b ∈ itmW x, b ≠ 32 := by
  rcases x with n | b | _
  · intro b hb e
    have := List.all_eq_true.1 (decDigits_all n) b hb
    rw [e] at this
    exact absurd this (by decide)
  · cases b <;> simp [itmW, bYes, bNo]
  · simp [itmW, bNone]
theorem itmW_ne (x : Itm) : itmW x ≠ [] := by
  rcases x with n | b | _
  · exact decDigits_ne n
  · cases b <;> simp [itmW, bYes, bNo]
  · simp [itmW, bNone]
theorem not_dig {w : List UInt8} (n : Nat) (h : w.all digB = false) : Go.Lib.decDigits n ≠ w := fun e => by
  have := decDigits_all n
  rw [e, h] at this
  cases this
theorem readW_itmW (x : Itm) (h : x.ok) : readW (itmW x) = some x := by
  rcases x with n | b | _
  · unfold readW itmW
    rw [if_neg (not_dig n (by decide)), if_neg (not_dig n (by decide)), if_neg (not_dig n (by decide)), decMost_digits h]
    rfl
  · cases b <;> rfl
  · rfl
theorem readW_ok {w : List UInt8} {x : Itm} (h : readW w = some x) : x.ok ∧ itmW x = w := by
  unfold readW at h
  split at h
  · injection h with h; subst h; rename_i hw; exact ⟨trivial, hw.symm⟩
  · split at h
    · injection h with h; subst h; rename_i hw; exact ⟨trivial, hw.symm⟩
    · split at h
      · injection h with h; subst h; rename_i hw; exact ⟨trivial, hw.symm⟩
      · unfold decMost at h
        cases hd : decOf w with
        | none => rw [hd] at h; cases h
        | some n =>
          rw [hd] at h
          by_cases hn : n ≤ 18446744073709551615
          · simp [Option.filter, hn] at h
            subst h
            exact ⟨hn, (decOf_some hd).symm⟩
          · simp [Option.filter, hn] at h
theorem readAll_map (l : List Itm) (h : ∀ x ∈ l, x.ok) : readAll (l.map itmW) = some l := by
  induction l with
  | nil => rfl
  | cons x l ih =>
    simp only [List.map_cons, readAll, readW_itmW x (h x (by simp)), Option.bind_some, ih (fun y hy => h y (by simp [hy])), Option.map_some]
theorem wordsOf_text (l : List Itm) : wordsOf (textI l) = l.map itmW := by
  cases l with
  | nil => simp [wordsOf, textI, Go.Lib.join_nil]
  | cons x l =>
    have hne : textI (x :: l) ≠ [] := by
      unfold textI
      rw [List.map_cons, Go.Lib.join_cons]
      intro e
      exact itmW_ne x (List.append_eq_nil_iff.1 e).1
    unfold wordsOf
    rw [if_neg hne]
    exact wordsB_join _ (by simp) (by
      intro w hw
      obtain ⟨y, _, rfl⟩ := List.mem_map.1 hw
      exact itmW_blank y)
theorem readS_text (l : List Itm) (h : ∀ x ∈ l, x.ok) (hl : l.length ≤ 16) : readS (textI l) = some l := by
  unfold readS
  rw [wordsOf_text, if_pos (by simpa using hl), readAll_map l h]
theorem textI_inj {l m : List Itm} (hl : ∀ x ∈ l, x.ok) (hm : ∀ x ∈ m, x.ok) (h : textI l = textI m) : l = m := by
  have h1 := readAll_map l hl
  rw [← wordsOf_text, h, wordsOf_text, readAll_map m hm] at h1
  exact (Option.some.inj h1).symm
theorem itmW_len (x : Itm) (h : x.ok) : (itmW x).length ≤ 20 := by
  rcases x with n | b | _
  · exact decOf_long (decOf_digits n) (by have : n ≤ 18446744073709551615 := h; omega)
  · cases b <;> decide
  · decide
theorem joinTail_len (r : List (List UInt8)) (k : Nat) (h : ∀ w ∈ r, w.length ≤ k) : (Go.Lib.joinTail [32] r).length ≤ r.length * (k + 1) := by
  induction r with
  | nil => simp [Go.Lib.joinTail]
  | cons w r ih =>
    have := ih (fun w hw => h w (by simp [hw]))
    have hw := h w (by simp)
    simp [Go.Lib.joinTail] at this ⊢
    rw [Nat.add_mul]
    omega
theorem textI_len (l : List Itm) (h : ∀ x ∈ l, x.ok) : (textI l).length ≤ l.length * 21 := by
  cases l with
  | nil => simp [textI, Go.Lib.join_nil]
  | cons x l =>
    unfold textI
    rw [List.map_cons, Go.Lib.join_cons, List.length_append]
    have h1 := itmW_len x (h x (by simp))
    have h2 := joinTail_len (l.map itmW) 20 (by
      intro w hw
      obtain ⟨y, hy, rfl⟩ := List.mem_map.1 hw
      exact itmW_len y (h y (by simp [hy])))
    simp at h2 ⊢
    omega
theorem readAll_ok : ∀ (ws : List (List UInt8)) (l : List Itm), readAll ws = some l → (∀ x ∈ l, x.ok) ∧ l.length = ws.length
  | [], l, h => by simp [readAll] at h; subst h; simp
  | w :: r, l, h => by
    simp only [readAll] at h
    cases hw : readW w with
    | none => rw [hw] at h; cases h
    | some x =>
      rw [hw] at h
      simp only [Option.bind_some] at h
      cases hr : readAll r with
      | none => rw [hr] at h; cases h
      | some m =>
        rw [hr] at h
        simp at h
        subst h
        obtain ⟨h1, h2⟩ := readAll_ok r m hr
        refine ⟨fun y hy => ?_, by simp [h2]⟩
        rcases List.mem_cons.1 hy with rfl | hy
        · exact (readW_ok hw).1
        · exact h1 y hy
theorem readAll_snoc (ws : List (List UInt8)) (w : List UInt8) : readAll (ws ++ [w]) = (readAll ws).bind fun l => (readW w).map fun x => l ++ [x] := by
  induction ws with
  | nil => simp only [readAll, List.nil_append, Option.bind_some]; cases readW w <;> rfl
  | cons v r ih =>
    simp only [List.cons_append, readAll, ih]
    cases readW v with
    | none => rfl
    | some x => simp only [Option.bind_some]; cases readAll r with
      | none => rfl
      | some m => simp only [Option.bind_some, Option.map_some]; cases readW w <;> rfl
end Go.Proofs.YtngahgfppbjebaaDoor
namespace Go.Proofs.YtngahgfppbjebaaDoor
open Go.RowKit
set_option linter.unusedVariables false
set_option linter.unusedSimpArgs false

def byteV (b : UInt8) : Value := .int .u8 (b.toNat : Int)
def digU (m : Nat) : UInt8 := UInt8.ofNat (48 + m % 10)
def digV (m : Nat) : Value := .int .u8 (48 + (m : Int) % 10)
theorem byte_dig (m : Nat) : byteV (digU m) = digV m := by
  unfold byteV digV digU
  rw [(dig_of (m % 10) (by omega)).2]
  congr 1
/-- What a round stands on: the digits so far, ahead of them those of what is left. -/
structure DecInv (w wr : World) (n m : Nat) (v : Value) (bs : List UInt8) : Prop where
  row : wr.ownsRow w.heap.size 5 1 v bs.length (bs.map byteV)
  only : Only Nob w wr
  digits : ∃ tl, bs = digU m :: tl ∧ Go.Lib.decDigits n = Go.Lib.decDigits m ++ tl
  small : m ≤ 18446744073709551615
  len : bs.length ≤ 20
theorem infoByte : (Tryd.prog.info? 5).map (fun i => (i.zero, i.size, i.bytes)) = some (some (.int .u8 0), 1, 1) := by kernel_rfl
theorem byte_one (bs : List UInt8) : ∀ u ∈ bs.map byteV, u.oneCell' = true := by
  intro u hu
  obtain ⟨b, _, rfl⟩ := List.mem_map.1 hu
  rfl
theorem DecInv.form {w wr : World} {n m : Nat} {v : Value} {bs : List UInt8} (h : DecInv w wr n m v bs) : ∃ g cap, v = .slice (some ⟨g, 0, none⟩) bs.length cap ∧ w.heap.size ≤ g ∧ g < wr.heap.size ∧ bs.length ≤ cap := by
  obtain ⟨tl, e, _⟩ := h.digits
  have hpos : 0 < bs.length := by rw [e]; simp
  rcases h.row.2 with ⟨h1, h2⟩ | ⟨g, cap, cur, hv, hb, hc, hcap, _⟩
  · omega
  · refine ⟨g, cap, hv, hb, ?_, hcap⟩
    rcases Nat.lt_or_ge g wr.heap.size with h | h
    · exact h
    · rw [Array.getElem?_eq_none h] at hc; cases hc

theorem wpList_addDigit {w wr : World} {n m k : Nat} {bs : List UInt8} {ops : Array Oper} {rest : List Oper} {o : Oper} {a : Act} {Q : Exit → Act → World → Prop} (hgd : o.guard = none) (s x : Operand)
    (ho : o.op = .call { callee := .builtin .append, args := #[s, x], argTypes := #[39, 39] })
    {g cap : Nat} (h : DecInv w wr n m (.slice (some ⟨g, 0, none⟩) k cap) bs) (hk : bs.length = k) (h10 : 10 ≤ m) (hn20 : n < 10 ^ 20)
    (hs : a.eval s = .slice (some ⟨wr.heap.size, 0, none⟩) 1 1) (hx : a.eval x = .slice (some ⟨g, 0, none⟩) k cap) {dv : Value} (hdv : dv = digV (m / 10))
    (kk : ∀ g' cap' w2, DecInv w w2 n (m / 10) (.slice (some ⟨g', 0, none⟩) (k + 1) cap') (digU (m / 10) :: bs) → wpList Tryd.prog ops Q rest (a.put o.dst (.slice (some ⟨g', 0, none⟩) (k + 1) cap')) w2) :
    wpList Tryd.prog ops Q (o :: rest) a (wr.alloc (.cells #[dv] 5)) := by
  subst hk hdv
  obtain ⟨i0, hi, hz0, hz1, hz2⟩ := info_parts infoByte
  have hle := h.only.size
  have hlen := h.len
  obtain ⟨tl, etl, edig⟩ := h.digits
  have hdd : Go.Lib.decDigits m = Go.Lib.decDigits (m / 10) ++ [digU m] := decDigits_big (by omega)
  have hl20 : bs.length + 1 ≤ 20 := by
    have e2 : Go.Lib.decDigits n = Go.Lib.decDigits (m / 10) ++ bs := by rw [edig, hdd, etl]; simp
    have h3 := congrArg List.length e2
    rw [List.length_append] at h3
    have h4 := decOf_long (decOf_digits n) (by have := h.small; exact hn20)
    have h5 : 0 < (Go.Lib.decDigits (m / 10)).length := List.length_pos_iff.2 (decDigits_ne _)
    omega
  have hrow : (wr.alloc (.cells #[digV (m / 10)] 5)).ownsRow w.heap.size 5 1 (.slice (some ⟨wr.heap.size, 0, none⟩) 1 1) 1 ([digU (m / 10)].map byteV) := by
    have := World.ownsRow_lit (base := w.heap.size) (e := 5) (size := 1) wr #[digV (m / 10)] 1 hle (by decide) rfl
    simpa [byte_dig] using this
  refine wpList_append_any _ hgd s x 39 ho w.heap.size 5 i0 (.int .u8 0) 1 1 Tryd.underlying39 hi hz0 hz1 hz2 rfl (by decide) (.slice (some ⟨wr.heap.size, 0, none⟩) 1 1) 1 _ hs hrow _ (some ⟨g, 0, none⟩) bs.length cap _ hx
    (Reads.of_own (h.row.alloc _)) (byte_one bs) (by unfold maxLen; omega) (by omega) (by simp; omega) ?_
  intro v' w2 hown hgrow hblk
  have hr2 : w2.ownsRow w.heap.size 5 1 v' (bs.length + 1) ((digU (m / 10) :: bs).map byteV) := by
    have := hown
    rw [Nat.add_comm 1] at this
    simpa using this
  have hv : ∃ g' cap', v' = .slice (some ⟨g', 0, none⟩) (bs.length + 1) cap' := by
    rcases hr2.2 with ⟨h1, h2⟩ | ⟨g', cap', cur, hv, _⟩
    · omega
    · exact ⟨g', cap', hv⟩
  obtain ⟨g', cap', rfl⟩ := hv
  refine kk g' cap' w2 ⟨by simpa using hr2, ?_, ⟨bs, rfl, by rw [edig, hdd, etl]; simp⟩, by have := h.small; omega, by simpa using hl20⟩
  refine Only.after (h.only.alloc _) (Only.of_grown (S := fun k => k = wr.heap.size) hgrow (fun k hk _ => by simpa [Value.ownBlock] using hk.symm)) (fun i hi => .inr (by omega))

theorem decimal_any (n : Nat) (hn : n ≤ 18446744073709551615) (w : World) :
    Calls Tryd.prog 27 #[.int .u64 (n : Int)] w fun e w' => e = .returned (.string ⟨(Go.Lib.decDigits n).toArray⟩) ∧ Only Nob w w' := by
  have hn20 : n < 10 ^ 20 := by omega
  go_enter Tryd.func27, Tryd.ntmps27
  go_wp2
  go_loopw [0, 3] (fun m0 v wr => ∃ (m : Nat) (bs : List UInt8), m0 = .int .u64 (m : Int) ∧ DecInv w wr n m v bs) (fun m0 _ _ => (intOf m0).toNat)
  case atStart =>
    refine ⟨n, [digU n], rfl, ?_, (Only.refl _ _).alloc _, ⟨[], rfl, by simp⟩, hn, by simp⟩
    have := World.ownsRow_lit (base := w.heap.size) (e := 5) (size := 1) w #[digV n] 1 (Nat.le_refl _) (by decide) rfl
    rw [List.map_cons, List.map_nil, byte_dig]
    exact this
  case round =>
    obtain ⟨m, bs, rfl, h⟩ := hrel
    obtain ⟨g, cap, rfl, hg1, hg2, hcap⟩ := h.form
    have hm := h.small
    obtain ⟨k, hk⟩ : ∃ k, bs.length = k := ⟨_, rfl⟩
    rw [hk] at hcap h ⊢
    have H := hide h
    have HK := hide hk
    clear hk h
    by_cases h10 : 10 ≤ m
    · have d1 : decide ((10 : Int) ≤ (m : Int)) = true := by simp; omega
      have DV : Hid (Value.int .u8 (48 + (m : Int) / 10 % 10) = digV (m / 10)) := hide (by unfold digV; congr 2)
      go_wp2_with (at_builtin; go_must (refine wpList_addDigit rfl _ _ rfl H.out HK.out h10 hn20 rfl rfl DV.out ?_); intro g9 c9 w2 hI; have HI := hide hI; clear hI)
      go_roundw
      case rel => exact ⟨m / 10, _, rfl, HI.out⟩
      case measure =>
        show ((m : Int) / 10).toNat < (m : Int).toNat
        omega
    · have d1 : decide ((10 : Int) ≤ (m : Int)) = false := by simp; omega
      obtain ⟨tl, etl, edig⟩ := H.out.digits
      have hfin : Go.Lib.decDigits n = bs := by
        rw [edig, etl, decDigits_small (by omega)]
        unfold digU
        rw [Nat.mod_eq_of_lt (by omega)]
        rfl
      have hcv : (convert 39 9 (.slice (some ⟨g, 0, none⟩) k cap)).run Tryd.prog wr = .ok (.string ⟨(Go.Lib.decDigits n).toArray⟩) wr := by
        rw [hfin, ← HK.out]
        refine run_convert_bytes_back (P := Tryd.prog) wr 39 9 5 ⟨g, 0, none⟩ cap bs Tryd.underlying39 Tryd.underlying5 Tryd.underlying9 ?_
        intro j hj
        have hc := H.out.row.cells (g := g) rfl j (byteV bs[j]) (by rw [List.getElem?_map, List.getElem?_eq_getElem hj]; rfl)
        exact hc
      clear hfin edig etl
      go_wp2
      go_ret
      exact ⟨rfl, H.out.only⟩
end Go.Proofs.YtngahgfppbjebaaDoor
