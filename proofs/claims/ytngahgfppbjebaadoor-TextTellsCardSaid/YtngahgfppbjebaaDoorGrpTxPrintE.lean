/-
  A program's text (plain).
  Plain: a program comes back out of its text; two have one text just if they are the same. No program in sight.
  Plain: a program's lines, read. No program in sight.
  What Print's loops stand on.
  Plain: a program comes back out of its text; two have one text just if they are the same. No program in sight.
  What the printer's round stands on.
-/
import Derived.Test.YtngahgfppbjebaaDoorGrpTxBuild
import Derived.Test.YtngahgfppbjebaaDoorGrpCodeMay
import Derived.Test.YtngahgfppbjebaaDoorGrpTxErase
import Derived.Test.YtngahgfppbjebaaDoorGrpNameFold
import Derived.Test.YtngahgfppbjebaaDoorGrpTxTake
import Derived.Lib.OthersKept
namespace Go.Proofs.YtngahgfppbjebaaDoor
open Go.RowKit Go.Lib
set_option linter.unusedVariables false

def insWords (x : PIns) : List UInt8 := (kindsP x.op).flatMap fun k => 32 :: toldP x k
def insP (x : PIns) : List UInt8 := (atList nameList x.op).data.toList ++ insWords x ++ [10]
def marked (l : List PIns) (k : Nat) : Bool := l.any fun x => jumpsB x.op && decide (x.c = (k : Int))
def labelP (l : List PIns) (k : Nat) (c : UInt8) : List UInt8 := if marked l k then 108 :: decDigits k ++ [58, c] else []
def linesOfP (l : List PIns) : Nat → List PIns → List UInt8
  | i, [] => labelP l i 10
  | i, x :: r => labelP l i 32 ++ insP x ++ linesOfP l (i + 1) r
def illP (n : Nat) (x : PIns) : Bool := !mayP x || (jumpsB x.op && decide ((n : Int) < x.c))
def printP (l : List PIns) : List UInt8 := if 40 < l.length then [] else if l.any (illP l.length) then [] else linesOfP l 0 l
theorem small_of_may {x : PIns} (h : mayP x = true) (hn : 0 ≤ x.n ∧ x.n < 18446744073709551616) : Small x ∧ 1 ≤ x.op ∧ x.op ≤ 23 := by
  unfold mayP mayB at h
  simp only [Bool.and_eq_true] at h
  obtain ⟨⟨⟨⟨h1, h2⟩, h3⟩, h4⟩, h5⟩ := h
  have ho : 1 ≤ x.op ∧ x.op ≤ 23 := by simpa [opB] using h1
  obtain ⟨a1, a2⟩ : fAl x.op ≤ x.a ∧ x.a ≤ fAh x.op := by simpa [fitsB] using h2
  obtain ⟨b1, b2⟩ : 0 ≤ x.b ∧ x.b ≤ fBh x.op := by simpa [fitsB] using h3
  obtain ⟨c1, c2⟩ : 0 ≤ x.c ∧ x.c ≤ fCh x.op := by simpa [fitsB] using h4
  have a3 : 0 ≤ fAl x.op := by unfold fAl; split <;> omega
  have a4 : fAh x.op ≤ 12 := by unfold fAh; (repeat' split) <;> omega
  have b4 : fBh x.op ≤ 7 := by unfold fBh; (repeat' split) <;> omega
  have c4 : fCh x.op ≤ 40 := by unfold fCh; (repeat' split) <;> omega
  exact ⟨⟨⟨by omega, by omega⟩, ⟨b1, by omega⟩, ⟨c1, by omega⟩, hn⟩, ho⟩
end Go.Proofs.YtngahgfppbjebaaDoor
namespace Go.Proofs.YtngahgfppbjebaaDoor
open Go.Lib
set_option linter.unusedVariables false
set_option linter.unusedSimpArgs false

theorem encB_asc (b : UInt8) (h : b.toNat < 128) : encB b.toNat = [b] := by
  have := (List.all_eq_true (l := List.range 128) (p := fun n => encB n == [UInt8.ofNat n])).1 (by decide +kernel) b.toNat (by simpa using h)
  rw [beq_iff_eq] at this
  rw [this]
  simp
/-- A byte of a word. -/
def wordB (b : UInt8) : Bool := decide (33 ≤ b.toNat) && decide (b.toNat < 128) && decide (b.toNat ≠ 59)
def putE (cur : Option EW) (w : List UInt8) : EW := match cur with
  | none => (w, false)
  | some c => (c.1 ++ w, c.2)
theorem put_cons (cur : Option EW) (b : UInt8) (w : List UInt8) : putE (some (putE cur [b])) w = putE cur (b :: w) := by
  cases cur <;> simp [putE]
theorem grow_asc (cur : Option EW) (b : UInt8) (h : b.toNat < 128) : growE cur (b.toNat, false) = putE cur [b] := by
  cases cur with
  | none => simp [growE, putE, encB_asc b h]
  | some c => simp [growE, putE, encB_asc b h]
theorem flat_byte (b : UInt8) (h : wordB b = true) (cur : Option EW) (acc : List EW) (t : List UInt8) : flat false cur acc (runesL (b :: t)) = flat false (some (putE cur [b])) acc (runesL t) := by
  simp only [wordB, Bool.and_eq_true, decide_eq_true_eq] at h
  obtain ⟨⟨h1, h2⟩, h3⟩ := h
  rw [flat_asc b h2, flat, if_neg (by simp only; omega), if_neg (by simp), if_neg (by simp only; omega), if_neg (by simp [blankR]; omega), grow_asc cur b h2]
theorem flat_word : ∀ (w : List UInt8), w ≠ [] → w.all wordB = true → ∀ (cur : Option EW) (acc : List EW) (t : List UInt8), flat false cur acc (runesL (w ++ t)) = flat false (some (putE cur w)) acc (runesL t)
  | [], h, _, _, _, _ => absurd rfl h
  | [b], _, ha, cur, acc, t => flat_byte b (by simpa using ha) cur acc t
  | b :: c :: w, _, ha, cur, acc, t => by
    rw [List.all_cons, Bool.and_eq_true] at ha
    rw [List.cons_append, flat_byte b ha.1, flat_word (c :: w) (by simp) ha.2, put_cons]
theorem flat_tail : ∀ (ks : List UInt8) (f : UInt8 → List UInt8), (∀ k ∈ ks, f k ≠ [] ∧ (f k).all wordB = true) → ∀ (c : EW) (acc : List EW) (t : List UInt8),
    flat false (some c) acc (runesL ((ks.flatMap fun k => 32 :: f k) ++ 10 :: t)) = (acc ++ c :: ks.map fun k => (f k, false)) :: flat false none [] (runesL t)
  | [], f, _, c, acc, t => by
    rw [List.flatMap_nil, List.nil_append, flat_10]
    rfl
  | k :: ks, f, h, c, acc, t => by
    obtain ⟨h1, h2⟩ := h k (by simp)
    have e : ((k :: ks).flatMap fun k => 32 :: f k) ++ 10 :: t = 32 :: (f k ++ ((ks.flatMap fun k => 32 :: f k) ++ 10 :: t)) := by simp
    rw [e, flat_sp 32 (.inl rfl), flat_word (f k) h1 h2, flat_tail ks f (fun q hq => h q (List.mem_cons_of_mem _ hq))]
    simp [putE]
theorem dig_word (u : Nat) : (decDigits u).all wordB = true := by
  have := decDigits_all u
  rw [List.all_eq_true] at *
  intro b hb
  have := this b hb
  simp only [digB, Bool.and_eq_true, decide_eq_true_eq] at this
  simp only [wordB, Bool.and_eq_true, decide_eq_true_eq]
  omega
def wordOk (l : List ByteArray) : Bool := (List.range l.length).all fun i => decide (i = 0) || (decide ((l.getD i ⟨#[]⟩).data.toList ≠ []) && ((l.getD i ⟨#[]⟩).data.toList.all wordB && decide ((l.getD i ⟨#[]⟩).data.toList.length ≤ 12)) && decide ((l.getD i ⟨#[]⟩).data.toList.getLast? ≠ some 58))
structure WordFact (s : List UInt8) : Prop where
  ne : s ≠ []
  all : s.all wordB = true
  len : s.length ≤ 12
  last : s.getLast? ≠ some 58
theorem word_fact {l : List ByteArray} {m : Nat} (hok : wordOk l = true) (hl : l.length = m + 1) {n : Int} (h : 1 ≤ n ∧ n ≤ m) : WordFact (atList l n).data.toList := by
  obtain ⟨k, rfl⟩ := Int.eq_ofNat_of_zero_le (by omega : 0 ≤ n)
  have e : atList l (k : Int) = l.getD k ⟨#[]⟩ := by simp [atList]
  rw [e]
  have := (List.all_eq_true.1 hok) k (by simp; omega)
  have hk : ¬ k = 0 := by omega
  simp only [Bool.or_eq_true, Bool.and_eq_true, decide_eq_true_eq, hk, false_or] at this
  exact ⟨this.1.1, this.1.2.1, this.1.2.2, this.2⟩
theorem names_word : wordOk nameList = true := by decide +kernel
theorem calls_word : wordOk callList = true := by decide +kernel
theorem told_word (x : PIns) (k : UInt8) (hc : k = 119 → 1 ≤ x.a ∧ x.a ≤ 12) : toldP x k ≠ [] ∧ (toldP x k).all wordB = true := by
  unfold toldP
  by_cases h9 : k = 119
  · subst h9
    have := word_fact (m := 12) calls_word callList_len (hc rfl)
    exact ⟨this.ne, this.all⟩
  · have h114 : ∀ (b : UInt8) (u : Nat), wordB b = true → (b :: decDigits u) ≠ [] ∧ (b :: decDigits u).all wordB = true := fun b u hb => ⟨by simp, by rw [List.all_cons, hb, dig_word]; rfl⟩
    have hd : ∀ u : Nat, decDigits u ≠ [] ∧ (decDigits u).all wordB = true := fun u => ⟨decDigits_ne u, dig_word u⟩
    rw [if_neg h9]
    repeat' (first | exact h114 _ _ (by decide) | exact hd _ | split)
/-- The name of a label. -/
def lname (k : Nat) : List UInt8 := 108 :: decDigits k
theorem lname_inj {a b : Nat} (h : lname a = lname b) : a = b := by
  unfold lname at h
  injection h with _ h
  rw [← decDigits_val a, ← decDigits_val b, h]
def markW (l : List PIns) (k : Nat) : List EW := if marked l k then [(lname k ++ [58], false)] else []
def insW (x : PIns) : List EW := ((atList nameList x.op).data.toList, false) :: (kindsP x.op).map fun k => (toldP x k, false)
def progW (l : List PIns) : Nat → List PIns → List (List EW)
  | i, [] => if marked l i then [[(lname i ++ [58], false)]] else []
  | i, x :: r => (markW l i ++ insW x) :: progW l (i + 1) r
theorem kind_w (op : Int) (h : 119 ∈ kindsP op) : op = 23 := by
  unfold kindsP at h
  repeat' (first | contradiction | (split at h) | assumption | (revert h; decide))
theorem flat_ins (x : PIns) (hm : mayP x = true) (acc : List EW) (t : List UInt8) : flat false none acc (runesL (insP x ++ t)) = (acc ++ insW x) :: flat false none [] (runesL t) := by
  have hop : 1 ≤ x.op ∧ x.op ≤ 23 := by
    unfold mayP mayB at hm
    simp only [Bool.and_eq_true] at hm
    simpa [opB] using hm.1.1.1.1
  have hcall : ∀ k ∈ kindsP x.op, toldP x k ≠ [] ∧ (toldP x k).all wordB = true := by
    intro k hk
    refine told_word x k ?_
    rintro rfl
    have h23 := kind_w _ hk
    unfold mayP mayB at hm
    simp only [Bool.and_eq_true] at hm
    have ha := hm.1.1.1.2
    rw [h23] at ha
    simpa [fitsB, fAl, fAh] using ha
  have hw := word_fact (m := 23) names_word nameList_len hop
  have e : insP x ++ t = (atList nameList x.op).data.toList ++ (insWords x ++ 10 :: t) := by simp [insP]
  rw [e, flat_word _ hw.ne hw.all]
  unfold insWords
  rw [flat_tail _ _ hcall]
  rfl
theorem lname_word (k : Nat) : lname k ++ [58] ≠ [] ∧ (lname k ++ [58]).all wordB = true := by
  refine ⟨by simp, ?_⟩
  unfold lname
  rw [List.all_append, List.all_cons, dig_word]
  rfl
theorem flat_mark (l : List PIns) (k : Nat) (t : List UInt8) : flat false none [] (runesL (labelP l k 32 ++ t)) = flat false none (markW l k) (runesL t) := by
  unfold labelP markW
  by_cases h : marked l k = true
  · rw [if_pos h, if_pos h]
    have e : (108 :: decDigits k ++ [58, 32]) ++ t = (lname k ++ [58]) ++ 32 :: t := by simp [lname]
    rw [e, flat_word _ (lname_word k).1 (lname_word k).2, flat_sp 32 (.inl rfl)]
    rfl
  · rw [if_neg h, if_neg h]
    rfl
theorem flat_prog (l : List PIns) : ∀ (r : List PIns) (i : Nat), (∀ x ∈ r, mayP x = true) → (flat false none [] (runesL (linesOfP l i r))).filter someW = progW l i r
  | [], i, _ => by
    rw [linesOfP, progW]
    unfold labelP
    by_cases h : marked l i = true
    · rw [if_pos h, if_pos h]
      have e : (108 :: decDigits i ++ [58, 10]) = (lname i ++ [58]) ++ 10 :: [] := by simp [lname]
      rw [e, flat_word _ (lname_word i).1 (lname_word i).2, flat_10, runesL_nil]
      rfl
    · rw [if_neg h, if_neg h, runesL_nil]
      rfl
  | x :: r, i, h => by
    rw [linesOfP, progW, List.append_assoc, flat_mark, flat_ins x (h x (by simp)), List.filter_cons, if_pos (by simp [someW, insW]), flat_prog l r (i + 1) (fun y hy => h y (List.mem_cons_of_mem _ hy))]
end Go.Proofs.YtngahgfppbjebaaDoor
namespace Go.Proofs.YtngahgfppbjebaaDoor
open Go.Lib
set_option linter.unusedVariables false
set_option linter.unusedSimpArgs false

def zeroC (x : PIns) : PIns := if jumpsB x.op then { x with c := 0 } else x
theorem reg_dig {a last : Nat} (h : a < 10) (h2 : a ≤ last) : regP (114 :: decDigits a) last = some a := by
  have e := decDigits_small h
  rw [e]
  show decMost last [_] = _
  rw [← e]
  exact decMost_digits h2
theorem nat_of {a : Int} {m : Nat} (h : 0 ≤ a ∧ a ≤ m) : ∃ k : Nat, a = (k : Int) ∧ k ≤ m := ⟨a.toNat, by omega, by omega⟩
section
variable (x y : PIns)
theorem fp97 (s : List UInt8) : fieldP 97 s y = (regP s 7).map fun n => { y with a := (n : Int) } := by
  simp [fieldP]
  cases regP s 7 <;> rfl
theorem tp97 : toldP x 97 = 114 :: decDigits x.a.toNat := by simp [toldP]
theorem rt97 (h : 0 ≤ x.a ∧ x.a ≤ 7) : fieldP 97 (toldP x 97) y = some { y with a := x.a } := by
  obtain ⟨k, hk, h7⟩ := nat_of (m := 7) h
  rw [fp97, tp97, hk, Int.toNat_natCast, reg_dig (by omega) h7]
  rfl
theorem fp98 (s : List UInt8) : fieldP 98 s y = (regP s 7).map fun n => { y with b := (n : Int) } := by
  simp [fieldP]
  cases regP s 7 <;> rfl
theorem tp98 : toldP x 98 = 114 :: decDigits x.b.toNat := by simp [toldP]
theorem rt98 (h : 0 ≤ x.b ∧ x.b ≤ 7) : fieldP 98 (toldP x 98) y = some { y with b := x.b } := by
  obtain ⟨k, hk, h7⟩ := nat_of (m := 7) h
  rw [fp98, tp98, hk, Int.toNat_natCast, reg_dig (by omega) h7]
  rfl
theorem fp99 (s : List UInt8) : fieldP 99 s y = (regP s 7).map fun n => { y with c := (n : Int) } := by
  simp [fieldP]
  cases regP s 7 <;> rfl
theorem tp99 : toldP x 99 = 114 :: decDigits x.c.toNat := by simp [toldP]
theorem rt99 (h : 0 ≤ x.c ∧ x.c ≤ 7) : fieldP 99 (toldP x 99) y = some { y with c := x.c } := by
  obtain ⟨k, hk, h7⟩ := nat_of (m := 7) h
  rw [fp99, tp99, hk, Int.toNat_natCast, reg_dig (by omega) h7]
  rfl
theorem fp112 (s : List UInt8) : fieldP 112 s y = (regP s 6).map fun n => { y with c := (n : Int) } := by
  simp [fieldP]
  cases regP s 6 <;> rfl
theorem tp112 : toldP x 112 = 114 :: decDigits x.c.toNat := by simp [toldP]
theorem rt112 (h : 0 ≤ x.c ∧ x.c ≤ 6) : fieldP 112 (toldP x 112) y = some { y with c := x.c } := by
  obtain ⟨k, hk, h7⟩ := nat_of (m := 6) h
  rw [fp112, tp112, hk, Int.toNat_natCast, reg_dig (by omega) h7]
  rfl
theorem fp111 (s : List UInt8) : fieldP 111 s y = (decMost 15 s).map fun n => { y with c := (n : Int) } := by
  simp [fieldP]
  cases decMost 15 s <;> rfl
theorem tp111 : toldP x 111 = decDigits x.c.toNat := by simp [toldP]
theorem rt111 (h : 0 ≤ x.c ∧ x.c ≤ 15) : fieldP 111 (toldP x 111) y = some { y with c := x.c } := by
  obtain ⟨k, hk, h7⟩ := nat_of (m := 15) h
  rw [fp111, tp111, hk, Int.toNat_natCast, decMost_digits h7]
  rfl
theorem fp116 (s : List UInt8) : fieldP 116 s y = (decMost 7 s).map fun n => { y with b := (n : Int) } := by
  simp [fieldP]
  cases decMost 7 s <;> rfl
theorem tp116 : toldP x 116 = decDigits x.b.toNat := by simp [toldP]
theorem rt116 (h : 0 ≤ x.b ∧ x.b ≤ 7) : fieldP 116 (toldP x 116) y = some { y with b := x.b } := by
  obtain ⟨k, hk, h7⟩ := nat_of (m := 7) h
  rw [fp116, tp116, hk, Int.toNat_natCast, decMost_digits h7]
  rfl
theorem fp110 (s : List UInt8) : fieldP 110 s y = (decMost 18446744073709551615 s).map fun n => { y with n := (n : Int) } := by
  simp [fieldP]
  cases decMost 18446744073709551615 s <;> rfl
theorem tp110 : toldP x 110 = decDigits x.n.toNat := by simp [toldP]
theorem rt110 (h : 0 ≤ x.n ∧ x.n ≤ (18446744073709551615 : Nat)) : fieldP 110 (toldP x 110) y = some { y with n := x.n } := by
  obtain ⟨k, hk, h7⟩ := nat_of (m := 18446744073709551615) h
  rw [fp110, tp110, hk, Int.toNat_natCast, decMost_digits h7]
  rfl
theorem rt119 (h : 1 ≤ x.a ∧ x.a ≤ 12) : fieldP 119 (toldP x 119) y = some { y with a := x.a } := by
  have hf := name_facts (m := 12) callList_ok callList_len h
  show (if isOf callList ⟨(atList callList x.a).data.toList.toArray⟩ = true then some { y with a := numOf callList ⟨(atList callList x.a).data.toList.toArray⟩ } else none) = _
  have e : (⟨(atList callList x.a).data.toList.toArray⟩ : ByteArray) = atList callList x.a := rfl
  rw [e, hf.is, hf.num, if_pos rfl]
end
def nameAll : Bool := (List.range 41).all fun k => nameP (lname k)
theorem name_all : nameAll = true := by
  unfold nameAll nameP
  have h : ∀ k, runesL (lname k) = (lname k).map fun b => (b.toNat, false) := by
    intro k
    have hall : ∀ (l : List UInt8), (∀ b ∈ l, b.toNat < 128) → runesL l = l.map fun b => (b.toNat, false) := by
      intro l
      induction l with
      | nil => intro _; exact runesL_nil
      | cons b t ih =>
        intro hb
        rw [runesL_ascii b t (hb b (by simp)), ih (fun c hc => hb c (List.mem_cons_of_mem _ hc))]
        rfl
    apply hall
    intro b hb
    rcases List.mem_cons.1 hb with rfl | hb
    · decide
    · have := (List.all_eq_true.1 (dig_word k)) b hb
      simp only [wordB, Bool.and_eq_true, decide_eq_true_eq] at this
      omega
  rw [List.all_eq_true]
  intro k hk
  rw [h k]
  have hd : ∀ k : Nat, k < 41 → lname k = if k < 10 then [108, UInt8.ofNat (48 + k)] else [108, UInt8.ofNat (48 + k / 10), UInt8.ofNat (48 + k % 10)] := by
    intro k h41
    unfold lname
    by_cases h10 : k < 10
    · rw [decDigits_small h10, if_pos h10]
    · rw [if_neg h10, decDigits_two h10 (by omega)]
  rw [hd k (by simpa using hk)]
  have hc := (List.all_eq_true (l := List.range 41) (p := fun k => nameL ((if k < 10 then [108, UInt8.ofNat (48 + k)] else [108, UInt8.ofNat (48 + k / 10), UInt8.ofNat (48 + k % 10)]).map fun b : UInt8 => (b.toNat, false)))).1 (by decide +kernel) k hk
  exact hc
theorem name_l {k : Nat} (h : k ≤ 40) : nameP (lname k) = true := (List.all_eq_true.1 name_all) k (by simp; omega)
theorem rt106 (x y : PIns) (h : 0 ≤ x.c ∧ x.c ≤ 40) : fieldP 106 (toldP x 106) y = some y := by
  obtain ⟨k, hk, h7⟩ := nat_of (m := 40) h
  show (if nameP (lname x.c.toNat) = true then some y else none) = _
  rw [hk, Int.toNat_natCast, name_l h7, if_pos rfl]
def jumpE (n : Nat) (x : PIns) : List EJ := if jumpsB x.op then [(n, lname x.c.toNat)] else []
structure MayF (x : PIns) : Prop where
  op : 1 ≤ x.op ∧ x.op ≤ 23
  a : fAl x.op ≤ x.a ∧ x.a ≤ fAh x.op
  b : 0 ≤ x.b ∧ x.b ≤ fBh x.op
  c : 0 ≤ x.c ∧ x.c ≤ fCh x.op
  n : x.n = 0 ∨ x.op = 1
theorem may_f {x : PIns} (h : mayP x = true) : MayF x := by
  unfold mayP mayB at h
  simp only [Bool.and_eq_true] at h
  obtain ⟨⟨⟨⟨h1, h2⟩, h3⟩, h4⟩, h5⟩ := h
  exact ⟨by simpa [opB] using h1, by simpa [fitsB] using h2, by simpa [fitsB] using h3, by simpa [fitsB] using h4, by simpa using h5⟩
theorem fieldsE_cons (st : ES) (k : UInt8) (ks : List UInt8) (s : List UInt8) (ws : List EW) (x x' : PIns) (js : List EJ) (h : fieldP k s x = some x') (hk : k ≠ 106) : fieldsE st (k :: ks) ((s, false) :: ws) x js = fieldsE st ks ws x' js := by
  rw [fieldsE, if_neg (by simp)]
  simp only [h]
  rw [if_neg hk]
theorem fieldsE_j (st : ES) (ks : List UInt8) (s : List UInt8) (ws : List EW) (x x' : PIns) (js : List EJ) (h : fieldP 106 s x = some x') : fieldsE st (106 :: ks) ((s, false) :: ws) x js = fieldsE st ks ws x' (js ++ [(st.l.length, s)]) := by
  rw [fieldsE, if_neg (by simp)]
  simp only [h]
  simp
theorem fieldsE_nil (st : ES) (x : PIns) (js : List EJ) : fieldsE st [] [] x js = some ⟨st.l ++ [x], st.labels, js⟩ := rfl
theorem fields_ins (st : ES) (x : PIns) (hf : MayF x) (hn : 0 ≤ x.n ∧ x.n < 18446744073709551616) : fieldsE st (kindsP x.op) ((kindsP x.op).map fun k => (toldP x k, false)) ⟨x.op, 0, 0, 0, 0⟩ st.jumps = some ⟨st.l ++ [zeroC x], st.labels, st.jumps ++ jumpE st.l.length x⟩ := by
  obtain ⟨ho, ha, hb, hc, hnn⟩ := hf
  have hn2 : 0 ≤ x.n ∧ x.n ≤ (18446744073709551615 : Nat) := by omega
  have t97 := fun y h => rt97 x y h
  have t98 := fun y h => rt98 x y h
  have t99 := fun y h => rt99 x y h
  have t112 := fun y h => rt112 x y h
  have t111 := fun y h => rt111 x y h
  have t116 := fun y h => rt116 x y h
  have t110 := fun y => rt110 x y hn2
  have t119 := fun y h => rt119 x y h
  have t106 := fun y h => rt106 x y h
  have t106w : toldP x 106 = lname x.c.toNat := by simp [toldP, lname]
  have hj : ∀ b, jumpsB x.op = b → jumpE st.l.length x = (if b = true then [(st.l.length, lname x.c.toNat)] else []) ∧ zeroC x = (if b = true then { x with c := 0 } else x) := by
    intro b hb
    unfold jumpE zeroC
    rw [hb]
    exact ⟨rfl, rfl⟩
  generalize jumpE st.l.length x = J at hj ⊢
  generalize zeroC x = Z at hj ⊢
  obtain ⟨op, a, b, c, n⟩ := x
  simp only at *
  rcases (by omega : op = 1 ∨ op = 2 ∨ op = 3 ∨ op = 4 ∨ op = 5 ∨ op = 6 ∨ op = 7 ∨ op = 8 ∨ op = 9 ∨ op = 10 ∨ op = 11 ∨ op = 12 ∨ op = 13 ∨ op = 14 ∨ op = 15 ∨ op = 16 ∨ op = 17 ∨ op = 18 ∨ op = 19 ∨ op = 20 ∨ op = 21 ∨ op = 22 ∨ op = 23) with rfl | rfl | rfl | rfl | rfl | rfl | rfl | rfl | rfl | rfl | rfl | rfl | rfl | rfl | rfl | rfl | rfl | rfl | rfl | rfl | rfl | rfl | rfl
  all_goals
    simp [fAl, fAh] at ha
    simp [fBh] at hb
    simp [fCh] at hc
    obtain ⟨rfl, rfl⟩ := hj _ rfl
    simp only [kindsP, List.map_cons, List.map_nil]
    simp (config := { decide := true }) only [if_pos, if_neg, List.map_cons, List.map_nil]
    repeat' (first
      | (rw [fieldsE_cons _ _ _ _ _ _ _ _ (t97 _ (by omega)) (by decide)])
      | (rw [fieldsE_cons _ _ _ _ _ _ _ _ (t98 _ (by omega)) (by decide)])
      | (rw [fieldsE_cons _ _ _ _ _ _ _ _ (t99 _ (by omega)) (by decide)])
      | (rw [fieldsE_cons _ _ _ _ _ _ _ _ (t112 _ (by omega)) (by decide)])
      | (rw [fieldsE_cons _ _ _ _ _ _ _ _ (t111 _ (by omega)) (by decide)])
      | (rw [fieldsE_cons _ _ _ _ _ _ _ _ (t116 _ (by omega)) (by decide)])
      | (rw [fieldsE_cons _ _ _ _ _ _ _ _ (t110 _) (by decide)])
      | (rw [fieldsE_cons _ _ _ _ _ _ _ _ (t119 _ (by omega)) (by decide)])
      | (rw [fieldsE_j _ _ _ _ _ _ _ (t106 _ (by omega))])
      | (rw [fieldsE_nil]))
    simp [jumpsB, t106w]
    try omega
theorem instr_ins (st : ES) (x : PIns) (hm : mayP x = true) (hn : 0 ≤ x.n ∧ x.n < 18446744073709551616) (h40 : st.l.length < 40) : instrE st (insW x) = some ⟨st.l ++ [zeroC x], st.labels, st.jumps ++ jumpE st.l.length x⟩ := by
  have hf := may_f hm
  have hw := name_facts (m := 23) nameList_ok nameList_len hf.op
  have e : (⟨(atList nameList x.op).data.toList.toArray⟩ : ByteArray) = atList nameList x.op := rfl
  unfold insW
  rw [instrE]
  simp only [Bool.false_or]
  rw [e, hw.is, hw.num, if_neg (by simp), if_neg (by omega)]
  exact fields_ins st x hf hn
end Go.Proofs.YtngahgfppbjebaaDoor
namespace Go.Proofs.YtngahgfppbjebaaDoor
open Go.RowKit Go.Lib
set_option linter.unusedVariables false
set_option linter.unusedSimpArgs false

/-- The marks behind k rounds. -/
def marksV (l : List PIns) (k : Nat) : Array Value := ((List.range 41).map fun i => Value.bool (marked (l.take k) i)).toArray
theorem marks_at (l : List PIns) (k : Nat) {c : Nat} (h : c < 41) : (marksV l k)[c]? = some (.bool (marked (l.take k) c)) := by
  unfold marksV
  simp [h]
theorem marksV_zero (l : List PIns) : marksV l 0 = Array.replicate 41 (.bool false) := by
  unfold marksV marked
  simp
  rfl
/-- Between two rounds of the first loop. -/
structure PM (w wr : World) (l : List PIns) (A : Option Addr) (cap k : Nat) : Prop where
  marks : Blk wr (w.heap.size + 1) 109 (marksV l k)
  well : ∀ x ∈ l.take k, illP l.length x = false
  only : Only Nob w wr
  box : Blk wr w.heap.size 55 #[.slice A l.length cap]
theorem ill_out {l : List PIns} {k : Nat} (hk : k < l.length) (h : illP l.length (l.getD k PIns.none) = true) : printP l = [] := by
  unfold printP
  split
  · rfl
  · rw [if_pos]
    rw [List.any_eq_true]
    refine ⟨l.getD k PIns.none, ?_, h⟩
    rw [List.getD_eq_getElem?_getD, List.getElem?_eq_getElem hk]
    exact List.getElem_mem _
theorem take_next {l : List PIns} {k : Nat} (hk : k < l.length) : l.take (k + 1) = l.take k ++ [l.getD k PIns.none] := by
  rw [List.take_succ_eq_append_getElem hk, List.getD_eq_getElem?_getD, List.getElem?_eq_getElem hk]
  rfl
theorem marks_no {l : List PIns} {k : Nat} (hk : k < l.length) (h : jumpsB (l.getD k PIns.none).op = false) : marksV l (k + 1) = marksV l k := by
  unfold marksV marked
  rw [take_next hk]
  simp only [List.any_append, List.any_cons, h, Bool.false_and, List.any_nil, Bool.or_false]
theorem marks_yes {l : List PIns} {k c : Nat} (hk : k < l.length) (h : jumpsB (l.getD k PIns.none).op = true) (hc : (l.getD k PIns.none).c = (c : Int)) (h40 : c ≤ 40) : marksV l (k + 1) = (marksV l k).set! c (.bool true) := by
  unfold marksV marked
  rw [take_next hk]
  simp only [List.any_append, List.any_cons, h, hc, Bool.true_and, List.any_nil, Bool.or_false]
  apply Array.ext
  · simp
  · intro i h1 h2
    simp at h1
    simp [List.getElem_set]
    by_cases e : c = i
    · subst e; simp
    · have e2 : ¬ ((c : Int) = (i : Int)) := by omega
      simp [e, e2]
theorem PM.start (w : World) (l : List PIns) (A : Option Addr) (cap : Nat) : PM w ((w.alloc (.cells #[.slice A l.length cap] 55)).alloc (.cells (Array.replicate 41 (.bool false)) 109)) l A cap 0 :=
  ⟨by rw [marksV_zero]; exact Blk.new' (by simp), by simp, ((Only.refl _ w).alloc _).alloc _, (Blk.new w _ _).alloc _⟩
theorem PM.nob {w wr W : World} {l : List PIns} {A : Option Addr} {cap k : Nat} (h : PM w wr l A cap k) (ho : Only Nob wr W) : PM w W l A cap k := ⟨h.marks.only ho (fun h => h), h.well, h.only.trans ho, h.box.only ho (fun h => h)⟩

theorem may_c40 {op a b c n : Int} (h : mayB op a b c n = true) : 0 ≤ c ∧ c ≤ 40 := by
  unfold mayB at h
  simp only [Bool.and_eq_true] at h
  obtain ⟨⟨⟨⟨h1, h2⟩, h3⟩, h4⟩, h5⟩ := h
  obtain ⟨c1, c2⟩ : 0 ≤ c ∧ c ≤ fCh op := by simpa [fitsB] using h4
  have c4 : fCh op ≤ 40 := by unfold fCh; (repeat' split) <;> omega
  exact ⟨c1, by omega⟩
theorem PM.next {w wr W : World} {l : List PIns} {A : Option Addr} {cap k : Nat} {x : PIns} (h : PM w wr l A cap k) (hb : Blk W (w.heap.size + 1) 109 (marksV l (k + 1))) (ho : Only (fun i => i = w.heap.size + 1) wr W) (ht : l.take (k + 1) = l.take k ++ [x]) (hx : illP l.length x = false) : PM w W l A cap (k + 1) := by
  refine ⟨hb, ?_, Only.after h.only ho (fun i hi => .inr (by omega)), h.box.only ho (by omega)⟩
  intro y hy
  rw [ht] at hy
  rcases List.mem_append.1 hy with h1 | h1
  · exact h.well y h1
  · simp at h1
    subst h1
    exact hx
theorem print_well {l : List PIns} (h40 : ¬ 40 < l.length) (h : ∀ x ∈ l, illP l.length x = false) : printP l = linesOfP l 0 l := by
  unfold printP
  rw [if_neg h40, if_neg]
  intro e
  rw [List.any_eq_true] at e
  obtain ⟨x, hx, hi⟩ := e
  rw [h x hx] at hi
  cases hi
/-- Between two rounds of the second loop: the builder at bb holds t. -/
structure PQ (w : World) (bb : Nat) (wq : World) (l : List PIns) (A : Option Addr) (cap k : Nat) (t : List UInt8) : Prop where
  built : BuiltAt wq bb t
  marks : Blk wq (w.heap.size + 1) 109 (marksV l l.length)
  box : Blk wq w.heap.size 55 #[.slice A l.length cap]
  only : Only Nob w wq
  eq : printP l = t ++ linesOfP l k (l.drop k)
  short : t.length ≤ 200 * k
  far : w.heap.size + 1 < bb
  lt : bb < wq.heap.size
theorem PQ.start {w wr : World} {l : List PIns} {A : Option Addr} {cap : Nat} (h : PM w wr l A cap l.length) (h40 : ¬ 40 < l.length) : PQ w wr.heap.size (wr.alloc (.cells #[.pointer none, .slice none 0 0] 113)) l A cap 0 [] := by
  have hw := h.well
  rw [List.take_length] at hw
  exact ⟨BuiltAt.new wr, h.marks.alloc _, h.box.alloc _, h.only.alloc _, by rw [print_well h40 hw]; rfl, Nat.zero_le _, h.marks.lt, by simp⟩
theorem BuiltAt.lt {w : World} {b : Nat} {l : List UInt8} (h : BuiltAt w b l) : b < w.heap.size := by
  rcases h with h | h
  · exact h.lt
  · exact h.lt
/-- A writer's frame, on what Print stands on. -/
theorem Wrote.only {w wq W : World} {bb : Nat} (h : Wrote wq W bb) (ho : Only Nob w wq) (hb : w.heap.size ≤ bb) : Only Nob w W :=
  Only.after ho (Only.of_below (S := fun i => bb ≤ i) h.1 (fun k _ hk => hk)) (fun i hi => .inr (Nat.le_trans hb hi))
theorem Wrote.only2 {w wq W : World} {bb : Nat} (h : Below bb wq W) (ho : Only Nob w wq) (hb : w.heap.size ≤ bb) : Only Nob w W :=
  Only.after ho (Only.of_below (S := fun i => bb ≤ i) h (fun k _ hk => hk)) (fun i hi => .inr (Nat.le_trans hb hi))
theorem Wrote.blk {wq W : World} {bb g : Nat} {t : TypeId} {cs : Array Value} (h : Wrote wq W bb) (hk : Blk wq g t cs) (hg : g ≠ bb) (ht : t ≠ 5) : Blk W g t cs :=
  h.2 g _ hk (fun e => hg (by injection e)) (fun c fz e => by injection e with _ e2; exact ht e2)
end Go.Proofs.YtngahgfppbjebaaDoor
namespace Go.Proofs.YtngahgfppbjebaaDoor
open Go.Lib
set_option linter.unusedVariables false
set_option linter.unusedSimpArgs false

def labsOf (l : List PIns) (i : Nat) : List (List UInt8 × Nat) := ((List.range i).filter (marked l)).map fun k => (lname k, k)
theorem labs_next (l : List PIns) (i : Nat) : labsOf l (i + 1) = labsOf l i ++ if marked l i then [(lname i, i)] else [] := by
  unfold labsOf
  rw [List.range_succ, List.filter_append, List.map_append]
  congr 1
  by_cases h : marked l i = true
  · rw [if_pos h, List.filter_cons, if_pos h]
    rfl
  · rw [if_neg h, List.filter_cons, if_neg h]
    rfl
theorem look_app (a b : List (List UInt8 × Nat)) (s : List UInt8) : lookP (a ++ b) s = (lookP a s).or (lookP b s) := by
  unfold lookP
  rw [List.find?_append]
  cases List.find? (fun e => e.1 == s) a <;> rfl
theorem look_labs (l : List PIns) (c : Nat) : ∀ i, lookP (labsOf l i) (lname c) = if c < i ∧ marked l c = true then some c else none
  | 0 => by
    rw [if_neg (by omega)]
    rfl
  | i + 1 => by
    rw [labs_next, look_app, look_labs l c i]
    by_cases h : marked l i = true
    · rw [if_pos h]
      by_cases hc : c = i
      · subst hc
        rw [if_neg (by omega), if_pos ⟨by omega, h⟩]
        simp [lookP]
      · have hne : (lname i == lname c) = false := by
          rw [beq_eq_false_iff_ne]
          exact fun e => hc (lname_inj e).symm
        have h2 : lookP [(lname i, i)] (lname c) = none := by simp [lookP, hne]
        rw [h2]
        by_cases hm : c < i ∧ marked l c = true
        · rw [if_pos hm, if_pos ⟨by omega, hm.2⟩]
          rfl
        · rw [if_neg hm, if_neg (fun e => hm ⟨by omega, e.2⟩)]
          rfl
    · rw [if_neg h]
      have h2 : lookP [] (lname c) = none := rfl
      rw [h2]
      by_cases hm : c < i ∧ marked l c = true
      · rw [if_pos hm, if_pos ⟨by omega, hm.2⟩]
        rfl
      · rw [if_neg hm, if_neg (fun e => hm ⟨by
          have : c ≠ i := fun e2 => h (e2 ▸ e.2)
          omega, e.2⟩)]
        rfl
def jumpsE : Nat → List PIns → List EJ
  | _, [] => []
  | i, x :: r => jumpE i x ++ jumpsE (i + 1) r
theorem isl_name (k : Nat) : isLabelE (lname k ++ [58], false) = true := by simp [isLabelE]
theorem drop_name (k : Nat) : (lname k ++ [58]).dropLast = lname k := by simp
theorem isl_ins (x : PIns) (hm : mayP x = true) : isLabelE ((atList nameList x.op).data.toList, false) = false := by
  have h := (word_fact (m := 23) names_word nameList_len (may_f hm).op).last
  unfold isLabelE
  simp only [Bool.not_false, Bool.true_and]
  rw [beq_eq_false_iff_ne]
  exact h
theorem lineE_ins (l : List PIns) (st : ES) (x : PIns) (i : Nat) (hl : st.labels = labsOf l i) (hi : st.l.length = i) (h40 : i < 40) (hm : mayP x = true) (hn : 0 ≤ x.n ∧ x.n < 18446744073709551616) :
    lineE st (markW l i ++ insW x) = some ⟨st.l ++ [zeroC x], labsOf l (i + 1), st.jumps ++ jumpE i x⟩ := by
  rw [labs_next]
  unfold markW
  by_cases h : marked l i = true
  · rw [if_pos h, if_pos h]
    rw [List.cons_append, List.nil_append, lineE, if_pos (isl_name i)]
    simp only [drop_name]
    have hlk : lookP (labsOf l i) (lname i) = none := by rw [look_labs, if_neg (by omega)]
    rw [hl, hlk, name_l (by omega)]
    rw [if_neg (by simp), instr_ins _ x hm hn (by simp; omega), hi]
  · rw [if_neg h, if_neg h, List.nil_append, List.append_nil]
    have e : lineE st (insW x) = instrE st (insW x) := by
      unfold insW
      rw [lineE, isl_ins x hm]
      rfl
    rw [e, instr_ins _ x hm hn (by omega), hl, hi]
theorem lines_prog (l : List PIns) : ∀ (r pre : List PIns) (js : List EJ), (∀ x ∈ r, mayP x = true ∧ 0 ≤ x.n ∧ x.n < 18446744073709551616) → pre.length + r.length ≤ 40 →
    linesE ⟨pre, labsOf l pre.length, js⟩ (progW l pre.length r) = some ⟨pre ++ r.map zeroC, labsOf l (pre.length + r.length + 1), js ++ jumpsE pre.length r⟩
  | [], pre, js, _, h40 => by
    rw [progW, List.map_nil, List.append_nil, jumpsE, List.append_nil, List.length_nil, Nat.add_zero, labs_next]
    by_cases h : marked l pre.length = true
    · rw [if_pos h, if_pos h, linesE, lineE, if_pos (isl_name _)]
      simp only [drop_name]
      have hlk : lookP (labsOf l pre.length) (lname pre.length) = none := by rw [look_labs, if_neg (by omega)]
      rw [hlk, name_l (by simp at h40; omega)]
      rfl
    · rw [if_neg h, if_neg h, List.append_nil]
      rfl
  | x :: r, pre, js, hx, h40 => by
    rw [List.length_cons] at h40
    obtain ⟨h1, h2⟩ := hx x (by simp)
    rw [progW, linesE, lineE_ins l _ x pre.length rfl rfl (by omega) h1 h2]
    have ih := lines_prog l r (pre ++ [zeroC x]) (js ++ jumpE pre.length x) (fun y hy => hx y (List.mem_cons_of_mem _ hy)) (by rw [List.length_append]; simp; omega)
    rw [List.length_append, List.length_singleton] at ih
    show linesE ⟨pre ++ [zeroC x], labsOf l (pre.length + 1), js ++ jumpE pre.length x⟩ (progW l (pre.length + 1) r) = _
    have e3 : pre.length + 1 + r.length + 1 = pre.length + (r.length + 1) + 1 := by omega
    rw [ih, List.map_cons, jumpsE, List.length_cons, e3]
    simp
theorem setC_mid (pre : List PIns) (x : PIns) (r : List PIns) (c : Nat) (hx : x.c = (c : Int)) (hj : jumpsB x.op = true) : setC (pre ++ zeroC x :: r) pre.length c = pre ++ x :: r := by
  unfold setC
  rw [List.getD_eq_getElem?_getD, List.getElem?_append_right (Nat.le_refl _), Nat.sub_self, List.getElem?_cons_zero, Option.getD_some, List.set_append_right _ _ (Nat.le_refl _), Nat.sub_self, List.set_cons_zero]
  unfold zeroC
  rw [if_pos hj]
  obtain ⟨op, a, b, c', n⟩ := x
  simp only at *
  rw [hx]
theorem res_prog (l : List PIns) : ∀ (r pre : List PIns), (∀ x ∈ r, mayP x = true ∧ (jumpsB x.op = true → x.c ≤ (l.length : Int) ∧ marked l x.c.toNat = true)) →
    resE (labsOf l (l.length + 1)) (jumpsE pre.length r) (pre ++ r.map zeroC) = some (pre ++ r)
  | [], pre, _ => by simp [jumpsE, resE]
  | x :: r, pre, hx => by
    obtain ⟨h1, h2⟩ := hx x (by simp)
    have ih := res_prog l r (pre ++ [x]) (fun y hy => hx y (List.mem_cons_of_mem _ hy))
    rw [List.length_append, List.length_singleton] at ih
    have e : pre ++ [x] ++ r.map zeroC = pre ++ x :: r.map zeroC := by simp
    have e2 : pre ++ [x] ++ r = pre ++ x :: r := by simp
    rw [e, e2] at ih
    rw [jumpsE, jumpE, List.map_cons]
    by_cases hj : jumpsB x.op = true
    · obtain ⟨h3, h4⟩ := h2 hj
      obtain ⟨hc0, _⟩ := (may_f h1).c
      rw [if_pos hj, List.cons_append, List.nil_append, resE]
      simp only
      rw [look_labs, if_pos ⟨by omega, h4⟩]
      simp only
      rw [setC_mid pre x _ x.c.toNat (by omega) hj]
      exact ih
    · rw [if_neg hj, List.nil_append]
      have : zeroC x = x := by unfold zeroC; rw [if_neg hj]
      rw [this]
      exact ih
/-- A program whose text there is. -/
structure Prints (l : List PIns) : Prop where
  len : l.length ≤ 40
  ill : ∀ x ∈ l, illP l.length x = false
  n : ∀ x ∈ l, 0 ≤ x.n ∧ x.n < 18446744073709551616
theorem ill_may {n : Nat} {x : PIns} (h : illP n x = false) : mayP x = true ∧ (jumpsB x.op = true → x.c ≤ (n : Int)) := by
  unfold illP at h
  rw [Bool.or_eq_false_iff] at h
  obtain ⟨h1, h2⟩ := h
  refine ⟨by simpa using h1, fun hj => ?_⟩
  rw [hj] at h2
  simpa using h2
theorem Prints.eq {l : List PIns} (h : Prints l) : printP l = linesOfP l 0 l := print_well (by have := h.len; omega) h.ill
theorem Prints.parse {l : List PIns} (h : Prints l) : parseE (flatL (printP l)) = some l := by
  have hm : ∀ x ∈ l, mayP x = true := fun x hx => (ill_may (h.ill x hx)).1
  rw [h.eq]
  unfold flatL
  rw [flat_prog l l 0 hm]
  have h1 := lines_prog l l [] [] (fun x hx => ⟨hm x hx, h.n x hx⟩) (by simpa using h.len)
  unfold parseE
  have e : PS.start.er = ⟨[], labsOf l 0, []⟩ := rfl
  rw [e]
  rw [List.length_nil] at h1
  rw [h1]
  simp only [Option.bind_some, List.nil_append, Nat.zero_add]
  have h2 := res_prog l l [] (fun x hx => ⟨hm x hx, fun hj => ⟨(ill_may (h.ill x hx)).2 hj, ?_⟩⟩)
  · simpa using h2
  · unfold marked
    rw [List.any_eq_true]
    refine ⟨x, hx, ?_⟩
    have := (may_f (hm x hx)).c.1
    rw [hj]
    simp
    omega
theorem told_len {x : PIns} (hm : mayP x = true) (hn : 0 ≤ x.n ∧ x.n < 18446744073709551616) {k : UInt8} (hk : k ∈ kindsP x.op) : (toldP x k).all wordB = true ∧ (toldP x k).length ≤ 21 := by
  have hf := may_f hm
  have hs : Small x := (small_of_may hm hn).1
  have h119 : k = 119 → 1 ≤ x.a ∧ x.a ≤ 12 := by
    rintro rfl
    have h23 := kind_w _ hk
    have ha := hf.a
    rw [h23] at ha
    simpa [fAl, fAh] using ha
  refine ⟨(told_word x k h119).2, ?_⟩
  have hd : ∀ u : Nat, u < 18446744073709551616 → (decDigits u).length ≤ 20 := fun u hu => dec_len u hu
  unfold toldP
  by_cases h9 : k = 119
  · subst h9
    have := (word_fact (m := 12) calls_word callList_len (h119 rfl)).len
    simp
    have e : (atList callList x.a).data.toList.length = (atList callList x.a).size := by simp
    omega
  · rw [if_neg h9]
    have h1 := hd x.a.toNat (by have := hs.a; omega)
    have h2 := hd x.b.toNat (by have := hs.b; omega)
    have h3 := hd x.c.toNat (by have := hs.c; omega)
    have h4 := hd x.n.toNat (by have := hs.n; omega)
    repeat' split
    all_goals (try rw [List.length_cons]); omega
/-- What a text is made of. -/
theorem ins_bytes (x : PIns) (hm : mayP x = true) (hn : 0 ≤ x.n ∧ x.n < 18446744073709551616) : (∀ b ∈ insP x, b = 32 ∨ b = 10 ∨ wordB b = true) ∧ (insP x).length ≤ 79 ∧ insP x ≠ [] := by
  have hf := may_f hm
  have hw := word_fact (m := 23) names_word nameList_len hf.op
  have hs : Small x := (small_of_may hm hn).1
  have hk := kinds3 x.op
  have hc : ∀ k ∈ kindsP x.op, (toldP x k).all wordB = true ∧ (toldP x k).length ≤ 21 := fun k hk => told_len hm hn hk
  refine ⟨?_, ?_, by simp [insP]⟩
  · intro b hb
    unfold insP insWords at hb
    rw [List.mem_append, List.mem_append, List.mem_flatMap] at hb
    rcases hb with (hb | ⟨k, hk, hb⟩) | hb
    · exact .inr (.inr ((List.all_eq_true.1 hw.all) b hb))
    · rcases List.mem_cons.1 hb with rfl | hb
      · exact .inl rfl
      · exact .inr (.inr ((List.all_eq_true.1 (hc k hk).1) b hb))
    · simp at hb
      exact .inr (.inl hb)
  · unfold insP insWords
    have hl : ∀ (ks : List UInt8), (∀ k ∈ ks, (toldP x k).length ≤ 21) → (ks.flatMap fun k => 32 :: toldP x k).length ≤ 22 * ks.length := by
      intro ks
      induction ks with
      | nil => intro _; simp
      | cons k ks ih =>
        intro h
        rw [List.flatMap_cons, List.length_append, List.length_cons, List.length_cons]
        have := ih (fun q hq => h q (List.mem_cons_of_mem _ hq))
        have := h k (by simp)
        omega
    have := hl _ (fun k hk => (hc k hk).2)
    have := hw.len
    rw [List.length_append, List.length_append, List.length_singleton]
    omega
theorem lab_bytes (l : List PIns) (k : Nat) (c : UInt8) (hc : c = 32 ∨ c = 10) (hk : k ≤ 40) : (∀ b ∈ labelP l k c, b = 32 ∨ b = 10 ∨ wordB b = true) ∧ (labelP l k c).length ≤ 5 := by
  unfold labelP
  split
  · constructor
    · intro b hb
      rw [List.mem_append] at hb
      rcases hb with hb | hb
      · rcases List.mem_cons.1 hb with rfl | hb
        · exact .inr (.inr (by decide))
        · exact .inr (.inr ((List.all_eq_true.1 (dig_word k)) b hb))
      · simp at hb
        rcases hb with rfl | rfl
        · exact .inr (.inr (by decide))
        · rcases hc with rfl | rfl
          · exact .inl rfl
          · exact .inr (.inl rfl)
    · have : (decDigits k).length ≤ 2 := by
        by_cases h : k < 10
        · rw [decDigits_small h]; simp
        · rw [decDigits_two h (by omega)]; simp
      rw [List.length_append, List.length_cons]
      simp
      omega
  · exact ⟨fun b hb => by simp at hb, by simp⟩
theorem lines_bytes (l : List PIns) : ∀ (r : List PIns) (i : Nat), (∀ x ∈ r, mayP x = true ∧ 0 ≤ x.n ∧ x.n < 18446744073709551616) → i + r.length ≤ 40 → (∀ b ∈ linesOfP l i r, b = 32 ∨ b = 10 ∨ wordB b = true) ∧ (linesOfP l i r).length ≤ 84 * r.length + 5
  | [], i, _, h => by
    rw [linesOfP]
    have := lab_bytes l i 10 (.inr rfl) (by simpa using h)
    exact ⟨this.1, by simpa using this.2⟩
  | x :: r, i, hx, h => by
    rw [List.length_cons] at h
    obtain ⟨h1, h2⟩ := lines_bytes l r (i + 1) (fun y hy => hx y (List.mem_cons_of_mem _ hy)) (by omega)
    obtain ⟨h3, h4⟩ := lab_bytes l i 32 (.inl rfl) (by omega)
    obtain ⟨h5, h6, _⟩ := ins_bytes x (hx x (by simp)).1 (hx x (by simp)).2
    rw [linesOfP]
    constructor
    · intro b hb
      rw [List.mem_append, List.mem_append] at hb
      rcases hb with (hb | hb) | hb
      · exact h3 b hb
      · exact h5 b hb
      · exact h1 b hb
    · rw [List.length_append, List.length_append, List.length_cons]
      omega
theorem Prints.bytes {l : List PIns} (h : Prints l) : (∀ b ∈ printP l, b = 32 ∨ b = 10 ∨ wordB b = true) ∧ (printP l).length ≤ 3365 ∧ (l ≠ [] → printP l ≠ []) := by
  have hm : ∀ x ∈ l, mayP x = true ∧ 0 ≤ x.n ∧ x.n < 18446744073709551616 := fun x hx => ⟨(ill_may (h.ill x hx)).1, h.n x hx⟩
  have hl := h.len
  obtain ⟨h1, h2⟩ := lines_bytes l l 0 hm (by omega)
  rw [h.eq]
  refine ⟨h1, by omega, fun hne => ?_⟩
  obtain ⟨x, r, rfl⟩ := List.exists_cons_of_ne_nil hne
  rw [linesOfP]
  have := (ins_bytes x (hm x (by simp)).1 (hm x (by simp)).2).2.2
  simp [this]
/-- A program comes back out of its text. -/
theorem parse_print {l : List PIns} (h : Prints l) : parseP (printP l) = (l, 0, 0, 0) := parse_of (by have := h.bytes.2.1; omega) h.parse
/-- Two programs have one text just if they are the same. -/
theorem print_inj {l m : List PIns} (hl : Prints l) (hm : Prints m) (h : printP l = printP m) : l = m := by
  have h1 := parse_print hl
  have h2 := parse_print hm
  rw [h, h2] at h1
  injection h1 with h1
  exact h1.symm
/-- Blanks, tabs, empty lines and remarks more change nothing. -/
theorem parse_loose {l : List PIns} (h : Prints l) {t : List UInt8} (ht : Loose (printP l) t) (h4 : t.length ≤ 4000) : parseP t = (l, 0, 0, 0) := parse_of h4 (by rw [loose_flatL ht]; exact h.parse)
end Go.Proofs.YtngahgfppbjebaaDoor
namespace Go.Proofs.YtngahgfppbjebaaDoor
open Go.RowKit Go.Lib
set_option linter.unusedVariables false
set_option linter.unusedSimpArgs false

theorem BuilderAtF.nob {w w' : World} {T e : TypeId} {B b : Nat} {p : Value} {bs : List Value} (h : Lib.BuilderAtF T e B b p bs w) (ho : Only Nob w w') : Lib.BuilderAtF T e B b p bs w' := by
  have hlt := h.lt
  obtain ⟨hB, v, hb, hown, hne⟩ := h
  refine ⟨hB, v, (ho.block b hlt (fun h => h)).trans hb, ⟨hown.1, ?_⟩, hne⟩
  rcases hown.2 with h | ⟨g, cap, cur, fz, hv, hbg, hg, r⟩
  · exact .inl h
  · have hgl : g < w.heap.size := (Array.getElem?_eq_some_iff.1 hg).1
    exact .inr ⟨g, cap, cur, fz, hv, hbg, (ho.block g hgl (fun h => h)).trans hg, r⟩
theorem BuiltAt.nob {w w' : World} {b : Nat} {l : List UInt8} (h : BuiltAt w b l) (ho : Only Nob w w') : BuiltAt w' b l := by
  rcases h with h | h
  · exact .inl (BuilderAtF.nob h ho)
  · exact .inr (BuilderAtF.nob h ho)
/-- Within a round: the instruction at n8, the builder at bb holds t. -/
structure PR (w : World) (bb n8 : Nat) (wx : World) (l : List PIns) (A : Option Addr) (cap : Nat) (x : PIns) (t : List UInt8) : Prop where
  built : BuiltAt wx bb t
  marks : Blk wx (w.heap.size + 1) 109 (marksV l l.length)
  box : Blk wx w.heap.size 55 #[.slice A l.length cap]
  ins : Blk wx n8 60 #[.int .i64 x.op, .int .i64 x.a, .int .i64 x.b, .int .i64 x.c, .int .u64 x.n]
  only : Only Nob w wx
  far : w.heap.size + 1 < bb
  lt : bb < n8
section
variable {w wx W : World} {bb n8 : Nat} {l : List PIns} {A : Option Addr} {cap : Nat} {x : PIns} {t t' : List UInt8}
theorem PR.nob (h : PR w bb n8 wx l A cap x t) (ho : Only Nob wx W) : PR w bb n8 W l A cap x t :=
  ⟨h.built.nob ho, h.marks.only ho (fun h => h), h.box.only ho (fun h => h), h.ins.only ho (fun h => h), h.only.trans ho, h.far, h.lt⟩
theorem PR.wrote (h : PR w bb n8 wx l A cap x t) (hw : Wrote wx W bb) (hb : BuiltAt W bb t') : PR w bb n8 W l A cap x t' := by
  have hlt := h.lt
  have hfar := h.far
  have hbl := h.built.lt
  exact ⟨hb, h.marks.below hw.1 hfar, h.box.below hw.1 (by omega), hw.blk h.ins (by omega) (by decide), hw.only h.only (by omega), hfar, hlt⟩
theorem PR.start {k : Nat} (h : PQ w bb wx l A cap k t) (x : PIns) : PR w bb wx.heap.size (wx.alloc (.cells #[.int .i64 x.op, .int .i64 x.a, .int .i64 x.b, .int .i64 x.c, .int .u64 x.n] 60)) l A cap x t := by
  have ho : Only Nob wx (wx.alloc (.cells #[.int .i64 x.op, .int .i64 x.a, .int .i64 x.b, .int .i64 x.c, .int .u64 x.n] 60)) := (Only.refl _ wx).alloc _
  exact ⟨h.built.nob ho, h.marks.only ho (fun h => h), h.box.only ho (fun h => h), Blk.new _ _ _, h.only.trans ho, h.far, h.lt⟩
/-- Between two fields of an instruction. -/
structure PF (w : World) (bb n8 gi : Nat) (wx : World) (l : List PIns) (A : Option Addr) (cap : Nat) (x : PIns) (t : List UInt8) (ks : List UInt8) (k : Nat) : Prop where
  pr : PR w bb n8 wx l A cap x (t ++ (ks.take k).flatMap fun q => 32 :: toldP x q)
  iter : wx.heap[gi]? = some (.stringIter ⟨ks.toArray⟩ k)
  le : k ≤ ks.length
  gi : n8 < gi
theorem PF.start (h : PR w bb n8 wx l A cap x t) (ks : List UInt8) : PF w bb n8 wx.heap.size (wx.iter ⟨ks.toArray⟩ 0) l A cap x t ks 0 := by
  have hn := h.ins.lt
  refine ⟨?_, World.iter_heap _ _ _, Nat.zero_le _, hn⟩
  have := h.nob (W := wx.iter ⟨ks.toArray⟩ 0) ((Only.refl _ _).alloc _)
  simpa using this
theorem PF.pos {gi k : Nat} {ks : List UInt8} (h : PF w bb n8 gi wx l A cap x t ks k) : wx.iterPos gi = k := by
  unfold World.iterPos
  rw [h.iter]
/-- Behind the rune. -/
theorem PF.moved {gi k : Nat} {ks : List UInt8} (h : PF w bb n8 gi wx l A cap x t ks k) (p : Nat) : PR w bb n8 (wx.iterAt gi ⟨ks.toArray⟩ p) l A cap x (t ++ (ks.take k).flatMap fun q => 32 :: toldP x q) ∧ (wx.iterAt gi ⟨ks.toArray⟩ p).heap[gi]? = some (.stringIter ⟨ks.toArray⟩ p) := by
  have ho := only_iter1 wx gi ⟨ks.toArray⟩ p
  obtain ⟨⟨h1, h2, h3, h4, h5, h6, h7⟩, hit, hle, hgi⟩ := h
  refine ⟨⟨?_, h2.only ho (by omega), h3.only ho (by omega), h4.only ho (by omega), ?_, h6, h7⟩, iterAt_heap _ _ _ _ _ hit⟩
  · rcases h1 with h1 | h1
    · exact .inl (h1.iterAt hit p)
    · exact .inr (h1.iterAt hit p)
  · exact Only.after h5 ho (fun i (hi : i = gi) => .inr (by have := h2.lt; omega))
/-- A field was written. -/
theorem PF.next {gi k : Nat} {ks : List UInt8} {W2 : World} (h : PF w bb n8 gi wx l A cap x t ks k) (hk : k < ks.length) (ho : Only Nob (wx.iterAt gi ⟨ks.toArray⟩ (k + 1)) W2) (hw : Wrote W2 W bb) (hb : BuiltAt W bb (t ++ ((ks.take k).flatMap fun q => 32 :: toldP x q) ++ (32 :: toldP x ks[k]))) :
    PF w bb n8 gi W l A cap x t ks (k + 1) := by
  obtain ⟨m1, m2⟩ := h.moved (k + 1)
  have hgl : gi < (wx.iterAt gi ⟨ks.toArray⟩ (k + 1)).heap.size := (Array.getElem?_eq_some_iff.1 m2).1
  have hgi := h.gi
  have hlt := h.pr.lt
  refine ⟨?_, ?_, hk, hgi⟩
  · have := (m1.nob ho).wrote hw hb
    have e : t ++ ((ks.take k).flatMap fun q => 32 :: toldP x q) ++ (32 :: toldP x ks[k]) = t ++ ((ks.take (k + 1)).flatMap fun q => 32 :: toldP x q) := by
      rw [List.take_succ_eq_append_getElem hk, List.flatMap_append, List.append_assoc]
      simp
    rw [e] at this
    exact this
  · have h9 := (ho.block gi hgl (fun h => h)).trans m2
    exact hw.2 gi _ h9 (fun e => by injection e with e; omega) (fun c fz e => by cases e)
/-- The round is over. -/
theorem PQ.next {k : Nat} (h : PQ w bb wx l A cap k t) (hk : k < l.length) (hx : l.getD k PIns.none = x) (hm : mayP x = true) (hn : 0 ≤ x.n ∧ x.n < 18446744073709551616) (h40 : l.length ≤ 40) {n9 : Nat} (hr : PR w bb n9 W l A cap x (t ++ labelP l k 32 ++ insP x)) : PQ w bb W l A cap (k + 1) (t ++ labelP l k 32 ++ insP x) := by
  obtain ⟨a1, a2, a3, a4, a5, a6, a7⟩ := hr
  have e : l.drop k = x :: l.drop (k + 1) := by
    rw [List.drop_eq_getElem_cons hk, ← hx, List.getD_eq_getElem?_getD, List.getElem?_eq_getElem hk]
    rfl
  refine ⟨a1, a2, a3, a5, ?_, ?_, a6, a1.lt⟩
  · rw [h.eq, e, linesOfP]
    simp
  · have h1 := (lab_bytes l k 32 (.inl rfl) (by omega)).2
    have h2 := (ins_bytes x hm hn).2.1
    have h3 := h.short
    rw [List.length_append, List.length_append]
    omega
/-- The loop's relation, told by the round's fact. -/
def PFof (_ : Hid (PR w bb n8 wx l A cap x t)) (ks : List UInt8) (wq : World) : Prop := ∃ j, PF w bb n8 wx.heap.size wq l A cap x t ks j
def PFleft (_ : Hid (PR w bb n8 wx l A cap x t)) (ks : List UInt8) (wq : World) : Nat := ks.length - wq.iterPos wx.heap.size
theorem PFof.start (h : Hid (PR w bb n8 wx l A cap x t)) (ks : List UInt8) : PFof h ks (wx.iter ⟨ks.toArray⟩ 0) := ⟨0, PF.start h.out ks⟩
theorem PF.left {j : Nat} {ks : List UInt8} {wq : World} {h : Hid (PR w bb n8 wx l A cap x t)} (hF : PF w bb n8 wx.heap.size wq l A cap x t ks j) : PFleft h ks wq = ks.length - j := by
  unfold PFleft
  rw [hF.pos]
/-- What of an instruction the printer needs. -/
structure XF (x : PIns) (ks : List UInt8) : Prop where
  kinds : kindsP x.op = ks
  may : mayP x = true
  n : 0 ≤ x.n ∧ x.n < 18446744073709551616
  small : Small x
  kind : ∀ y ∈ ks, y ∈ kindSet
  len : ∀ y ∈ ks, (toldP x y).length ≤ 21
  few : ks.length ≤ 3
  name : (atList nameList x.op).size ≤ 12
theorem xf_of (hm : mayP x = true) (hn : 0 ≤ x.n ∧ x.n < 18446744073709551616) : XF x (kindsP x.op) := by
  refine ⟨rfl, hm, hn, (small_of_may hm hn).1, kinds_in x.op, fun y hy => (told_len hm hn hy).2, kinds_len x.op, ?_⟩
  have := (word_fact (m := 23) names_word nameList_len (may_f hm).op).len
  simpa using this
theorem XF.tail {ks : List UInt8} (h : XF x ks) (j : Nat) : ((ks.take j).flatMap fun q => 32 :: toldP x q).length ≤ 66 := by
  have hl : ∀ (ks : List UInt8), (∀ k ∈ ks, (toldP x k).length ≤ 21) → (ks.flatMap fun k => 32 :: toldP x k).length ≤ 22 * ks.length := by
    intro ks
    induction ks with
    | nil => intro _; simp
    | cons k ks ih =>
      intro h
      rw [List.flatMap_cons, List.length_append, List.length_cons, List.length_cons]
      have := ih (fun q hq => h q (List.mem_cons_of_mem _ hq))
      have := h k (by simp)
      omega
  have h1 := hl (ks.take j) (fun k hk => h.len k (List.mem_of_mem_take hk))
  have h2 := h.few
  rw [List.length_take] at h1
  omega
theorem label_is {l : List PIns} {k : Nat} (h : marked l k = true) : labelP l k 32 = 108 :: decDigits k ++ [58, 32] := by unfold labelP; rw [if_pos h]
theorem label_no {l : List PIns} {k : Nat} (h : marked l k = false) : labelP l k 32 = [] := by unfold labelP; rw [if_neg (by simp [h])]
theorem ins_end {ks : List UInt8} (hx : XF x ks) (t lab : List UInt8) : t ++ lab ++ (atList nameList x.op).data.toList ++ ((ks.take ks.length).flatMap fun q => 32 :: toldP x q) ++ [10] = t ++ lab ++ insP x := by
  rw [List.take_length]
  unfold insP insWords
  rw [hx.kinds]
  simp
end
end Go.Proofs.YtngahgfppbjebaaDoor
