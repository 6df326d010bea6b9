/-
  Plain: the lines of a text that have words; blanks, empty lines and remarks more change none of them. No program in sight.
-/
import Derived.Test.YtngahgfppbjebaaDoorTxLines
namespace Go.Proofs.YtngahgfppbjebaaDoor
open Go.Lib
set_option linter.unusedVariables false
set_option linter.unusedSimpArgs false

/-- A word without its place. -/
abbrev EW := List UInt8 × Bool
def ewd (w : Wd) : EW := (w.s, w.bad)
def growE (cur : Option EW) (x : Rn) : EW := match cur with
  | none => (encB x.1, x.2)
  | some c => (c.1 ++ encB x.1, c.2 || x.2)
def wordsE (cur : Option EW) : List Rn → List EW
  | [] => cur.toList
  | x :: r => if blankR x then cur.toList ++ wordsE none r else wordsE (some (growE cur x)) r
theorem wordsE_eq : ∀ (l : List Rn) (cur : Option Wd) (col : Nat), (wordsG cur col l).map ewd = wordsE (cur.map ewd) l
  | [], cur, col => by cases cur <;> rfl
  | x :: r, cur, col => by
    rw [wordsG, wordsE]
    by_cases hb : blankR x = true
    · rw [if_pos hb, if_pos hb, List.map_append, wordsE_eq r none]
      cases cur <;> rfl
    · rw [if_neg hb, if_neg hb, wordsE_eq r]
      cases cur <;> simp [growW, growE, ewd]
/-- A line's words, without their places. -/
def lineW (l : List Rn) : List EW := wordsE none (bodyR l)
theorem lineW_eq (l : List Rn) : (wordsR l).map ewd = lineW l := wordsE_eq _ none 1
def flat (rem : Bool) (cur : Option EW) (acc : List EW) : List Rn → List (List EW)
  | [] => [acc ++ cur.toList]
  | x :: r =>
    if x.1 = 10 then (acc ++ cur.toList) :: flat false none [] r
    else if rem then flat true cur acc r
    else if x.1 = 59 then flat true cur acc r
    else if blankR x then flat false none (acc ++ cur.toList) r
    else flat false (some (growE cur x)) acc r
def someW (l : List EW) : Bool := !l.isEmpty
theorem flat_lines : ∀ (l : List Rn) (rem : Bool) (cur : Option EW) (acc : List EW), (flat rem cur acc l).filter someW =
    ((acc ++ (if rem then cur.toList else wordsE cur (bodyR ((linesR l).headD [])))) :: (linesR l).tail.map lineW).filter someW
  | [], rem, cur, acc => by
    cases rem <;> rfl
  | x :: r, rem, cur, acc => by
    by_cases h10 : x.1 = 10
    · have e : linesR (x :: r) = [] :: linesR r := by rw [linesR, if_pos h10]
      rw [flat, if_pos h10, e, List.headD_cons, List.tail_cons]
      have h1 := flat_lines r false none []
      have h2 : (if rem = true then cur.toList else wordsE cur (bodyR [])) = cur.toList := by cases rem <;> rfl
      rw [h2, List.filter_cons, List.filter_cons, h1]
      have h3 : List.filter someW (([] ++ if false = true then (none : Option EW).toList else wordsE none (bodyR ((linesR r).headD []))) :: List.map lineW (linesR r).tail) = List.filter someW (List.map lineW (linesR r)) := by
        cases linesR r with
        | nil => rfl
        | cons a t => rfl
      rw [h3]
    · have e : linesR (x :: r) = (x :: (linesR r).headD []) :: (linesR r).tail := by
        rw [linesR, if_neg h10]
        cases linesR r <;> rfl
      rw [flat, if_neg h10, e, List.headD_cons, List.tail_cons]
      cases rem with
      | true =>
        rw [if_pos rfl, flat_lines r true cur acc, if_pos rfl]
        rfl
      | false =>
        simp only [Bool.false_eq_true, if_false]
        by_cases h59 : x.1 = 59
        · rw [if_pos h59, flat_lines r true cur acc, if_pos rfl]
          have : bodyR (x :: (linesR r).headD []) = [] := by simp [bodyR, h59]
          rw [this]
          rfl
        · have hbd : bodyR (x :: (linesR r).headD []) = x :: bodyR ((linesR r).headD []) := by simp [bodyR, h59]
          rw [if_neg h59, hbd, wordsE]
          by_cases hb : blankR x = true
          · rw [if_pos hb, if_pos hb, flat_lines r false none _, List.append_assoc]
            rfl
          · rw [if_neg hb, if_neg hb, flat_lines r false _ acc]
            rfl
/-- A text's lines that have words. -/
def flatL (s : List UInt8) : List (List EW) := (flat false none [] (runesL s)).filter someW
theorem flatL_eq (s : List UInt8) : ((linesR (runesL s)).map lineW).filter someW = flatL s := by
  unfold flatL
  rw [flat_lines]
  cases linesR (runesL s) <;> rfl
/-- Behind a remark's beginning nothing counts, up to the line's end. -/
theorem flat_rem : ∀ (a : List Rn) (q : Bool) (cur : Option EW) (acc : List EW) (r : List Rn), (∀ x ∈ a, x.1 ≠ 10) → flat true cur acc (a ++ (10, q) :: r) = (acc ++ cur.toList) :: flat false none [] r
  | [], q, cur, acc, r, _ => by rw [List.nil_append, flat, if_pos rfl]
  | x :: a, q, cur, acc, r, h => by
    rw [List.cons_append, flat, if_neg (h x (by simp)), if_pos rfl]
    exact flat_rem a q cur acc r (fun y hy => h y (List.mem_cons_of_mem _ hy))
theorem flat_blank (b : UInt8) (q : Bool) (h : b = 32 ∨ b = 9) (cur : Option EW) (acc : List EW) (r : List Rn) : flat false cur acc ((b.toNat, q) :: r) = flat false none (acc ++ cur.toList) r := by
  rcases h with rfl | rfl
  · rfl
  · rfl
theorem flat_nl (q : Bool) (rem : Bool) (cur : Option EW) (acc : List EW) (r : List Rn) : flat rem cur acc ((10, q) :: r) = (acc ++ cur.toList) :: flat false none [] r := by rw [flat, if_pos rfl]
theorem flat_semi (q : Bool) (cur : Option EW) (acc : List EW) (r : List Rn) : flat false cur acc ((59, q) :: r) = flat true cur acc r := rfl

def spGaps : List (List UInt8) := [[32], [9], [32, 32], [32, 9, 32]]
def remark1 : List UInt8 := [32, 115, 111, 32, 114, 57, 32, 195, 169, 32, 255]
def remark2 : List UInt8 := [120, 58]
def nlGaps : List (List UInt8) := [[10], [32, 10], 32 :: 59 :: (remark1 ++ [10]), 10 :: 32 :: 10 :: 59 :: (remark2 ++ [10, 9])]
/-- A text with more blanks, empty lines and remarks. -/
inductive Loose : List UInt8 → List UInt8 → Prop
  | nil : Loose [] []
  | sp {g s t : List UInt8} : g ∈ spGaps → Loose s t → Loose (32 :: s) (g ++ t)
  | nl {g s t : List UInt8} : g ∈ nlGaps → Loose s t → Loose (10 :: s) (g ++ t)
  | other {c : UInt8} {s t : List UInt8} : c ≠ 32 → c ≠ 10 → c ≠ 59 → c.toNat < 128 → Loose s t → Loose (c :: s) (c :: t)
theorem Loose.app {a b s t : List UInt8} (h : Loose a b) (h2 : Loose s t) : Loose (a ++ s) (b ++ t) := by
  induction h with
  | nil => exact h2
  | sp hg _ ih => rw [List.append_assoc]; exact .sp hg ih
  | nl hg _ ih => rw [List.append_assoc]; exact .nl hg ih
  | other h1 h3 h4 h5 _ ih => exact .other h1 h3 h4 h5 ih
theorem Loose.len {a b : List UInt8} (h : Loose a b) : a.length ≤ b.length ∧ b.length ≤ 30 * a.length := by
  induction h with
  | nil => exact ⟨Nat.le_refl _, Nat.le_refl _⟩
  | @sp g s t hg _ ih =>
    have : 1 ≤ g.length ∧ g.length ≤ 30 := by
      have := (List.all_eq_true (l := spGaps) (p := fun g => decide (1 ≤ g.length ∧ g.length ≤ 30))).1 (by decide) g hg
      exact of_decide_eq_true this
    simp only [List.length_append, List.length_cons]
    omega
  | @nl g s t hg _ ih =>
    have : 1 ≤ g.length ∧ g.length ≤ 30 := by
      have := (List.all_eq_true (l := nlGaps) (p := fun g => decide (1 ≤ g.length ∧ g.length ≤ 30))).1 (by decide) g hg
      exact of_decide_eq_true this
    simp only [List.length_append, List.length_cons]
    omega
  | other h1 h3 h4 h5 _ ih =>
    simp only [List.length_cons]
    omega
theorem runes_rem {a : List UInt8} (h : ∀ b ∈ a, b ≠ 10) (t : List UInt8) (cur : Option EW) (acc : List EW) : flat true cur acc (runesL (a ++ 10 :: t)) = (acc ++ cur.toList) :: flat false none [] (runesL t) := by
  rw [runesL_nl _ a t (Nat.le_refl _)]
  exact flat_rem _ _ _ _ _ (rune_nl _ a (Nat.le_refl _) h)
theorem flat_asc (b : UInt8) (h : b.toNat < 128) (rem : Bool) (cur : Option EW) (acc : List EW) (t : List UInt8) : flat rem cur acc (runesL (b :: t)) = flat rem cur acc ((b.toNat, false) :: runesL t) := by rw [runesL_ascii b t h]
theorem flat_sp (b : UInt8) (h : b = 32 ∨ b = 9) (cur : Option EW) (acc : List EW) (t : List UInt8) : flat false cur acc (runesL (b :: t)) = flat false none (acc ++ cur.toList) (runesL t) := by
  rw [flat_asc b (by rcases h with rfl | rfl <;> decide), flat_blank b _ h]
theorem flat_10 (rem : Bool) (cur : Option EW) (acc : List EW) (t : List UInt8) : flat rem cur acc (runesL (10 :: t)) = (acc ++ cur.toList) :: flat false none [] (runesL t) := by
  rw [flat_asc 10 (by decide)]
  exact flat_nl _ _ _ _ _
theorem flat_59 (cur : Option EW) (acc : List EW) (t : List UInt8) : flat false cur acc (runesL (59 :: t)) = flat true cur acc (runesL t) := by
  rw [flat_asc 59 (by decide)]
  exact flat_semi _ _ _ _
theorem loose_flat {s t : List UInt8} (h : Loose s t) : ∀ (cur : Option EW) (acc : List EW), (flat false cur acc (runesL t)).filter someW = (flat false cur acc (runesL s)).filter someW := by
  induction h with
  | nil => intro cur acc; rfl
  | @sp g s t hg hst ih =>
    intro cur acc
    rw [flat_sp 32 (.inl rfl), ← ih none (acc ++ cur.toList)]
    simp only [spGaps, List.mem_cons, List.not_mem_nil, or_false] at hg
    rcases hg with rfl | rfl | rfl | rfl
    · rw [List.cons_append, List.nil_append, flat_sp 32 (.inl rfl)]
    · rw [List.cons_append, List.nil_append, flat_sp 9 (.inr rfl)]
    · rw [List.cons_append, List.cons_append, List.nil_append, flat_sp 32 (.inl rfl), flat_sp 32 (.inl rfl)]
      simp
    · rw [List.cons_append, List.cons_append, List.cons_append, List.nil_append, flat_sp 32 (.inl rfl), flat_sp 9 (.inr rfl), flat_sp 32 (.inl rfl)]
      simp
  | @nl g s t hg hst ih =>
    intro cur acc
    have h0 := ih none []
    rw [flat_10, List.filter_cons, ← h0]
    simp only [nlGaps, List.mem_cons, List.not_mem_nil, or_false] at hg
    rcases hg with rfl | rfl | rfl | rfl
    · rw [List.cons_append, List.nil_append, flat_10, List.filter_cons]
    · rw [List.cons_append, List.cons_append, List.nil_append, flat_sp 32 (.inl rfl), flat_10, List.filter_cons]
      simp
    · have e : (32 :: 59 :: (remark1 ++ [10]) : List UInt8) ++ t = 32 :: 59 :: (remark1 ++ 10 :: t) := by simp
      rw [e, flat_sp 32 (.inl rfl), flat_59, runes_rem (by decide), List.filter_cons]
      simp
    · have e : (10 :: 32 :: 10 :: 59 :: (remark2 ++ [10, 9]) : List UInt8) ++ t = 10 :: 32 :: 10 :: 59 :: (remark2 ++ 10 :: 9 :: t) := by simp
      rw [e, flat_10, flat_sp 32 (.inl rfl), flat_10, flat_59, runes_rem (by decide), flat_sp 9 (.inr rfl), List.filter_cons, List.filter_cons, List.filter_cons]
      simp [someW]
  | @other c s t h1 h3 h4 h5 hst ih =>
    intro cur acc
    rw [flat_asc c h5, flat_asc c h5]
    have e1 : ¬ c.toNat = 10 := fun e => h3 (UInt8.toNat_inj.1 e)
    have e2 : ¬ c.toNat = 59 := fun e => h4 (UInt8.toNat_inj.1 e)
    have step : ∀ (r : List Rn), flat false cur acc ((c.toNat, false) :: r) = if blankR (c.toNat, false) then flat false none (acc ++ cur.toList) r else flat false (some (growE cur (c.toNat, false))) acc r := by
      intro r
      rw [flat, if_neg e1, if_neg (by simp), if_neg e2]
    rw [step, step]
    split
    · exact ih _ _
    · exact ih _ _
/-- More blanks, tabs, empty lines and remarks: the lines with words are the same. -/
theorem loose_flatL {s t : List UInt8} (h : Loose s t) : flatL t = flatL s := loose_flat h none []
end Go.Proofs.YtngahgfppbjebaaDoor
