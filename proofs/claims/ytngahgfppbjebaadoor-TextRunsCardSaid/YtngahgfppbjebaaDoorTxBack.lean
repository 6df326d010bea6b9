/-
  Plain: a program comes back out of its text; two have one text just if they are the same. No program in sight.
-/
import Derived.Test.YtngahgfppbjebaaDoorTxErase
import Derived.Test.YtngahgfppbjebaaDoorTxPrP
import Derived.Test.YtngahgfppbjebaaDoorNameFacts
namespace Go.Proofs.YtngahgfppbjebaaDoor
open Go.Lib
set_option linter.unusedVariables false
set_option linter.unusedSimpArgs false

theorem encB_asc (b : UInt8) (h : b.toNat < 128) : encB b.toNat = [b] := by
  have := (List.all_eq_true (l := List.range 128) (p := fun n => encB n == [UInt8.ofNat n])).1 (by decide +kernel) b.toNat (by simpa using h)
  rw [beq_iff_eq] at this
  rw [this]
  simp
/-- A byte of a word. -/
def wordB (b : UInt8) : Bool := decide (33 ≤ b.toNat) && decide (b.toNat < 128) && decide (b.toNat ≠ 59)
def putE (cur : Option EW) (w : List UInt8) : EW := match cur with
  | none => (w, false)
  | some c => (c.1 ++ w, c.2)
theorem put_cons (cur : Option EW) (b : UInt8) (w : List UInt8) : putE (some (putE cur [b])) w = putE cur (b :: w) := by
  cases cur <;> simp [putE]
theorem grow_asc (cur : Option EW) (b : UInt8) (h : b.toNat < 128) : growE cur (b.toNat, false) = putE cur [b] := by
  cases cur with
  | none => simp [growE, putE, encB_asc b h]
  | some c => simp [growE, putE, encB_asc b h]
theorem flat_byte (b : UInt8) (h : wordB b = true) (cur : Option EW) (acc : List EW) (t : List UInt8) : flat false cur acc (runesL (b :: t)) = flat false (some (putE cur [b])) acc (runesL t) := by
  simp only [wordB, Bool.and_eq_true, decide_eq_true_eq] at h
  obtain ⟨⟨h1, h2⟩, h3⟩ := h
  rw [flat_asc b h2, flat, if_neg (by simp only; omega), if_neg (by simp), if_neg (by simp only; omega), if_neg (by simp [blankR]; omega), grow_asc cur b h2]
theorem flat_word : ∀ (w : List UInt8), w ≠ [] → w.all wordB = true → ∀ (cur : Option EW) (acc : List EW) (t : List UInt8), flat false cur acc (runesL (w ++ t)) = flat false (some (putE cur w)) acc (runesL t)
  | [], h, _, _, _, _ => absurd rfl h
  | [b], _, ha, cur, acc, t => flat_byte b (by simpa using ha) cur acc t
  | b :: c :: w, _, ha, cur, acc, t => by
    rw [List.all_cons, Bool.and_eq_true] at ha
    rw [List.cons_append, flat_byte b ha.1, flat_word (c :: w) (by simp) ha.2, put_cons]
theorem flat_tail : ∀ (ks : List UInt8) (f : UInt8 → List UInt8), (∀ k ∈ ks, f k ≠ [] ∧ (f k).all wordB = true) → ∀ (c : EW) (acc : List EW) (t : List UInt8),
    flat false (some c) acc (runesL ((ks.flatMap fun k => 32 :: f k) ++ 10 :: t)) = (acc ++ c :: ks.map fun k => (f k, false)) :: flat false none [] (runesL t)
  | [], f, _, c, acc, t => by
    rw [List.flatMap_nil, List.nil_append, flat_10]
    rfl
  | k :: ks, f, h, c, acc, t => by
    obtain ⟨h1, h2⟩ := h k (by simp)
    have e : ((k :: ks).flatMap fun k => 32 :: f k) ++ 10 :: t = 32 :: (f k ++ ((ks.flatMap fun k => 32 :: f k) ++ 10 :: t)) := by simp
    rw [e, flat_sp 32 (.inl rfl), flat_word (f k) h1 h2, flat_tail ks f (fun q hq => h q (List.mem_cons_of_mem _ hq))]
    simp [putE]
theorem dig_word (u : Nat) : (decDigits u).all wordB = true := by
  have := decDigits_all u
  rw [List.all_eq_true] at *
  intro b hb
  have := this b hb
  simp only [digB, Bool.and_eq_true, decide_eq_true_eq] at this
  simp only [wordB, Bool.and_eq_true, decide_eq_true_eq]
  omega
def wordOk (l : List ByteArray) : Bool := (List.range l.length).all fun i => decide (i = 0) || (decide ((l.getD i ⟨#[]⟩).data.toList ≠ []) && ((l.getD i ⟨#[]⟩).data.toList.all wordB && decide ((l.getD i ⟨#[]⟩).data.toList.length ≤ 12)) && decide ((l.getD i ⟨#[]⟩).data.toList.getLast? ≠ some 58))
structure WordFact (s : List UInt8) : Prop where
  ne : s ≠ []
  all : s.all wordB = true
  len : s.length ≤ 12
  last : s.getLast? ≠ some 58
theorem word_fact {l : List ByteArray} {m : Nat} (hok : wordOk l = true) (hl : l.length = m + 1) {n : Int} (h : 1 ≤ n ∧ n ≤ m) : WordFact (atList l n).data.toList := by
  obtain ⟨k, rfl⟩ := Int.eq_ofNat_of_zero_le (by omega : 0 ≤ n)
  have e : atList l (k : Int) = l.getD k ⟨#[]⟩ := by simp [atList]
  rw [e]
  have := (List.all_eq_true.1 hok) k (by simp; omega)
  have hk : ¬ k = 0 := by omega
  simp only [Bool.or_eq_true, Bool.and_eq_true, decide_eq_true_eq, hk, false_or] at this
  exact ⟨this.1.1, this.1.2.1, this.1.2.2, this.2⟩
theorem names_word : wordOk nameList = true := by decide +kernel
theorem calls_word : wordOk callList = true := by decide +kernel
theorem told_word (x : PIns) (k : UInt8) (hc : k = 119 → 1 ≤ x.a ∧ x.a ≤ 12) : toldP x k ≠ [] ∧ (toldP x k).all wordB = true := by
  unfold toldP
  by_cases h9 : k = 119
  · subst h9
    have := word_fact (m := 12) calls_word callList_len (hc rfl)
    exact ⟨this.ne, this.all⟩
  · have h114 : ∀ (b : UInt8) (u : Nat), wordB b = true → (b :: decDigits u) ≠ [] ∧ (b :: decDigits u).all wordB = true := fun b u hb => ⟨by simp, by rw [List.all_cons, hb, dig_word]; rfl⟩
    have hd : ∀ u : Nat, decDigits u ≠ [] ∧ (decDigits u).all wordB = true := fun u => ⟨decDigits_ne u, dig_word u⟩
    rw [if_neg h9]
    repeat' (first | exact h114 _ _ (by decide) | exact hd _ | split)
/-- The name of a label. -/
def lname (k : Nat) : List UInt8 := 108 :: decDigits k
theorem lname_inj {a b : Nat} (h : lname a = lname b) : a = b := by
  unfold lname at h
  injection h with _ h
  rw [← decDigits_val a, ← decDigits_val b, h]
def markW (l : List PIns) (k : Nat) : List EW := if marked l k then [(lname k ++ [58], false)] else []
def insW (x : PIns) : List EW := ((atList nameList x.op).data.toList, false) :: (kindsP x.op).map fun k => (toldP x k, false)
def progW (l : List PIns) : Nat → List PIns → List (List EW)
  | i, [] => if marked l i then [[(lname i ++ [58], false)]] else []
  | i, x :: r => (markW l i ++ insW x) :: progW l (i + 1) r
theorem kind_w (op : Int) (h : 119 ∈ kindsP op) : op = 23 := by
  unfold kindsP at h
  repeat' (first | contradiction | (split at h) | assumption | (revert h; decide))
theorem flat_ins (x : PIns) (hm : mayP x = true) (acc : List EW) (t : List UInt8) : flat false none acc (runesL (insP x ++ t)) = (acc ++ insW x) :: flat false none [] (runesL t) := by
  have hop : 1 ≤ x.op ∧ x.op ≤ 23 := by
    unfold mayP mayB at hm
    simp only [Bool.and_eq_true] at hm
    simpa [opB] using hm.1.1.1.1
  have hcall : ∀ k ∈ kindsP x.op, toldP x k ≠ [] ∧ (toldP x k).all wordB = true := by
    intro k hk
    refine told_word x k ?_
    rintro rfl
    have h23 := kind_w _ hk
    unfold mayP mayB at hm
    simp only [Bool.and_eq_true] at hm
    have ha := hm.1.1.1.2
    rw [h23] at ha
    simpa [fitsB, fAl, fAh] using ha
  have hw := word_fact (m := 23) names_word nameList_len hop
  have e : insP x ++ t = (atList nameList x.op).data.toList ++ (insWords x ++ 10 :: t) := by simp [insP]
  rw [e, flat_word _ hw.ne hw.all]
  unfold insWords
  rw [flat_tail _ _ hcall]
  rfl
theorem lname_word (k : Nat) : lname k ++ [58] ≠ [] ∧ (lname k ++ [58]).all wordB = true := by
  refine ⟨by simp, ?_⟩
  unfold lname
  rw [List.all_append, List.all_cons, dig_word]
  rfl
theorem flat_mark (l : List PIns) (k : Nat) (t : List UInt8) : flat false none [] (runesL (labelP l k 32 ++ t)) = flat false none (markW l k) (runesL t) := by
  unfold labelP markW
  by_cases h : marked l k = true
  · rw [if_pos h, if_pos h]
    have e : (108 :: decDigits k ++ [58, 32]) ++ t = (lname k ++ [58]) ++ 32 :: t := by simp [lname]
    rw [e, flat_word _ (lname_word k).1 (lname_word k).2, flat_sp 32 (.inl rfl)]
    rfl
  · rw [if_neg h, if_neg h]
    rfl
theorem flat_prog (l : List PIns) : ∀ (r : List PIns) (i : Nat), (∀ x ∈ r, mayP x = true) → (flat false none [] (runesL (linesOfP l i r))).filter someW = progW l i r
  | [], i, _ => by
    rw [linesOfP, progW]
    unfold labelP
    by_cases h : marked l i = true
    · rw [if_pos h, if_pos h]
      have e : (108 :: decDigits i ++ [58, 10]) = (lname i ++ [58]) ++ 10 :: [] := by simp [lname]
      rw [e, flat_word _ (lname_word i).1 (lname_word i).2, flat_10, runesL_nil]
      rfl
    · rw [if_neg h, if_neg h, runesL_nil]
      rfl
  | x :: r, i, h => by
    rw [linesOfP, progW, List.append_assoc, flat_mark, flat_ins x (h x (by simp)), List.filter_cons, if_pos (by simp [someW, insW]), flat_prog l r (i + 1) (fun y hy => h y (List.mem_cons_of_mem _ hy))]
end Go.Proofs.YtngahgfppbjebaaDoor
