/-
  Plain: a program comes back out of its text; two have one text just if they are the same. No program in sight.
-/
import Derived.Test.YtngahgfppbjebaaDoorTxBack2
import Derived.Test.YtngahgfppbjebaaDoorTxPrintD
namespace Go.Proofs.YtngahgfppbjebaaDoor
open Go.Lib
set_option linter.unusedVariables false
set_option linter.unusedSimpArgs false

def labsOf (l : List PIns) (i : Nat) : List (List UInt8 × Nat) := ((List.range i).filter (marked l)).map fun k => (lname k, k)
theorem labs_next (l : List PIns) (i : Nat) : labsOf l (i + 1) = labsOf l i ++ if marked l i then [(lname i, i)] else [] := by
  unfold labsOf
  rw [List.range_succ, List.filter_append, List.map_append]
  congr 1
  by_cases h : marked l i = true
  · rw [if_pos h, List.filter_cons, if_pos h]
    rfl
  · rw [if_neg h, List.filter_cons, if_neg h]
    rfl
theorem look_app (a b : List (List UInt8 × Nat)) (s : List UInt8) : lookP (a ++ b) s = (lookP a s).or (lookP b s) := by
  unfold lookP
  rw [List.find?_append]
  cases List.find? (fun e => e.1 == s) a <;> rfl
theorem look_labs (l : List PIns) (c : Nat) : ∀ i, lookP (labsOf l i) (lname c) = if c < i ∧ marked l c = true then some c else none
  | 0 => by
    rw [if_neg (by omega)]
    rfl
  | i + 1 => by
    rw [labs_next, look_app, look_labs l c i]
    by_cases h : marked l i = true
    · rw [if_pos h]
      by_cases hc : c = i
      · subst hc
        rw [if_neg (by omega), if_pos ⟨by omega, h⟩]
        simp [lookP]
      · have hne : (lname i == lname c) = false := by
          rw [beq_eq_false_iff_ne]
          exact fun e => hc (lname_inj e).symm
        have h2 : lookP [(lname i, i)] (lname c) = none := by simp [lookP, hne]
        rw [h2]
        by_cases hm : c < i ∧ marked l c = true
        · rw [if_pos hm, if_pos ⟨by omega, hm.2⟩]
          rfl
        · rw [if_neg hm, if_neg (fun e => hm ⟨by omega, e.2⟩)]
          rfl
    · rw [if_neg h]
      have h2 : lookP [] (lname c) = none := rfl
      rw [h2]
      by_cases hm : c < i ∧ marked l c = true
      · rw [if_pos hm, if_pos ⟨by omega, hm.2⟩]
        rfl
      · rw [if_neg hm, if_neg (fun e => hm ⟨by
          have : c ≠ i := fun e2 => h (e2 ▸ e.2)
          omega, e.2⟩)]
        rfl
def jumpsE : Nat → List PIns → List EJ
  | _, [] => []
  | i, x :: r => jumpE i x ++ jumpsE (i + 1) r
theorem isl_name (k : Nat) : isLabelE (lname k ++ [58], false) = true := by simp [isLabelE]
theorem drop_name (k : Nat) : (lname k ++ [58]).dropLast = lname k := by simp
theorem isl_ins (x : PIns) (hm : mayP x = true) : isLabelE ((atList nameList x.op).data.toList, false) = false := by
  have h := (word_fact (m := 23) names_word nameList_len (may_f hm).op).last
  unfold isLabelE
  simp only [Bool.not_false, Bool.true_and]
  rw [beq_eq_false_iff_ne]
  exact h
theorem lineE_ins (l : List PIns) (st : ES) (x : PIns) (i : Nat) (hl : st.labels = labsOf l i) (hi : st.l.length = i) (h40 : i < 40) (hm : mayP x = true) (hn : 0 ≤ x.n ∧ x.n < 18446744073709551616) :
    lineE st (markW l i ++ insW x) = some ⟨st.l ++ [zeroC x], labsOf l (i + 1), st.jumps ++ jumpE i x⟩ := by
  rw [labs_next]
  unfold markW
  by_cases h : marked l i = true
  · rw [if_pos h, if_pos h]
    rw [List.cons_append, List.nil_append, lineE, if_pos (isl_name i)]
    simp only [drop_name]
    have hlk : lookP (labsOf l i) (lname i) = none := by rw [look_labs, if_neg (by omega)]
    rw [hl, hlk, name_l (by omega)]
    rw [if_neg (by simp), instr_ins _ x hm hn (by simp; omega), hi]
  · rw [if_neg h, if_neg h, List.nil_append, List.append_nil]
    have e : lineE st (insW x) = instrE st (insW x) := by
      unfold insW
      rw [lineE, isl_ins x hm]
      rfl
    rw [e, instr_ins _ x hm hn (by omega), hl, hi]
theorem lines_prog (l : List PIns) : ∀ (r pre : List PIns) (js : List EJ), (∀ x ∈ r, mayP x = true ∧ 0 ≤ x.n ∧ x.n < 18446744073709551616) → pre.length + r.length ≤ 40 →
    linesE ⟨pre, labsOf l pre.length, js⟩ (progW l pre.length r) = some ⟨pre ++ r.map zeroC, labsOf l (pre.length + r.length + 1), js ++ jumpsE pre.length r⟩
  | [], pre, js, _, h40 => by
    rw [progW, List.map_nil, List.append_nil, jumpsE, List.append_nil, List.length_nil, Nat.add_zero, labs_next]
    by_cases h : marked l pre.length = true
    · rw [if_pos h, if_pos h, linesE, lineE, if_pos (isl_name _)]
      simp only [drop_name]
      have hlk : lookP (labsOf l pre.length) (lname pre.length) = none := by rw [look_labs, if_neg (by omega)]
      rw [hlk, name_l (by simp at h40; omega)]
      rfl
    · rw [if_neg h, if_neg h, List.append_nil]
      rfl
  | x :: r, pre, js, hx, h40 => by
    rw [List.length_cons] at h40
    obtain ⟨h1, h2⟩ := hx x (by simp)
    rw [progW, linesE, lineE_ins l _ x pre.length rfl rfl (by omega) h1 h2]
    have ih := lines_prog l r (pre ++ [zeroC x]) (js ++ jumpE pre.length x) (fun y hy => hx y (List.mem_cons_of_mem _ hy)) (by rw [List.length_append]; simp; omega)
    rw [List.length_append, List.length_singleton] at ih
    show linesE ⟨pre ++ [zeroC x], labsOf l (pre.length + 1), js ++ jumpE pre.length x⟩ (progW l (pre.length + 1) r) = _
    have e3 : pre.length + 1 + r.length + 1 = pre.length + (r.length + 1) + 1 := by omega
    rw [ih, List.map_cons, jumpsE, List.length_cons, e3]
    simp
theorem setC_mid (pre : List PIns) (x : PIns) (r : List PIns) (c : Nat) (hx : x.c = (c : Int)) (hj : jumpsB x.op = true) : setC (pre ++ zeroC x :: r) pre.length c = pre ++ x :: r := by
  unfold setC
  rw [List.getD_eq_getElem?_getD, List.getElem?_append_right (Nat.le_refl _), Nat.sub_self, List.getElem?_cons_zero, Option.getD_some, List.set_append_right _ _ (Nat.le_refl _), Nat.sub_self, List.set_cons_zero]
  unfold zeroC
  rw [if_pos hj]
  obtain ⟨op, a, b, c', n⟩ := x
  simp only at *
  rw [hx]
theorem res_prog (l : List PIns) : ∀ (r pre : List PIns), (∀ x ∈ r, mayP x = true ∧ (jumpsB x.op = true → x.c ≤ (l.length : Int) ∧ marked l x.c.toNat = true)) →
    resE (labsOf l (l.length + 1)) (jumpsE pre.length r) (pre ++ r.map zeroC) = some (pre ++ r)
  | [], pre, _ => by simp [jumpsE, resE]
  | x :: r, pre, hx => by
    obtain ⟨h1, h2⟩ := hx x (by simp)
    have ih := res_prog l r (pre ++ [x]) (fun y hy => hx y (List.mem_cons_of_mem _ hy))
    rw [List.length_append, List.length_singleton] at ih
    have e : pre ++ [x] ++ r.map zeroC = pre ++ x :: r.map zeroC := by simp
    have e2 : pre ++ [x] ++ r = pre ++ x :: r := by simp
    rw [e, e2] at ih
    rw [jumpsE, jumpE, List.map_cons]
    by_cases hj : jumpsB x.op = true
    · obtain ⟨h3, h4⟩ := h2 hj
      obtain ⟨hc0, _⟩ := (may_f h1).c
      rw [if_pos hj, List.cons_append, List.nil_append, resE]
      simp only
      rw [look_labs, if_pos ⟨by omega, h4⟩]
      simp only
      rw [setC_mid pre x _ x.c.toNat (by omega) hj]
      exact ih
    · rw [if_neg hj, List.nil_append]
      have : zeroC x = x := by unfold zeroC; rw [if_neg hj]
      rw [this]
      exact ih
/-- A program whose text there is. -/
structure Prints (l : List PIns) : Prop where
  len : l.length ≤ 40
  ill : ∀ x ∈ l, illP l.length x = false
  n : ∀ x ∈ l, 0 ≤ x.n ∧ x.n < 18446744073709551616
theorem ill_may {n : Nat} {x : PIns} (h : illP n x = false) : mayP x = true ∧ (jumpsB x.op = true → x.c ≤ (n : Int)) := by
  unfold illP at h
  rw [Bool.or_eq_false_iff] at h
  obtain ⟨h1, h2⟩ := h
  refine ⟨by simpa using h1, fun hj => ?_⟩
  rw [hj] at h2
  simpa using h2
theorem Prints.eq {l : List PIns} (h : Prints l) : printP l = linesOfP l 0 l := print_well (by have := h.len; omega) h.ill
theorem Prints.parse {l : List PIns} (h : Prints l) : parseE (flatL (printP l)) = some l := by
  have hm : ∀ x ∈ l, mayP x = true := fun x hx => (ill_may (h.ill x hx)).1
  rw [h.eq]
  unfold flatL
  rw [flat_prog l l 0 hm]
  have h1 := lines_prog l l [] [] (fun x hx => ⟨hm x hx, h.n x hx⟩) (by simpa using h.len)
  unfold parseE
  have e : PS.start.er = ⟨[], labsOf l 0, []⟩ := rfl
  rw [e]
  rw [List.length_nil] at h1
  rw [h1]
  simp only [Option.bind_some, List.nil_append, Nat.zero_add]
  have h2 := res_prog l l [] (fun x hx => ⟨hm x hx, fun hj => ⟨(ill_may (h.ill x hx)).2 hj, ?_⟩⟩)
  · simpa using h2
  · unfold marked
    rw [List.any_eq_true]
    refine ⟨x, hx, ?_⟩
    have := (may_f (hm x hx)).c.1
    rw [hj]
    simp
    omega
theorem told_len {x : PIns} (hm : mayP x = true) (hn : 0 ≤ x.n ∧ x.n < 18446744073709551616) {k : UInt8} (hk : k ∈ kindsP x.op) : (toldP x k).all wordB = true ∧ (toldP x k).length ≤ 21 := by
  have hf := may_f hm
  have hs : Small x := (small_of_may hm hn).1
  have h119 : k = 119 → 1 ≤ x.a ∧ x.a ≤ 12 := by
    rintro rfl
    have h23 := kind_w _ hk
    have ha := hf.a
    rw [h23] at ha
    simpa [fAl, fAh] using ha
  refine ⟨(told_word x k h119).2, ?_⟩
  have hd : ∀ u : Nat, u < 18446744073709551616 → (decDigits u).length ≤ 20 := fun u hu => dec_len u hu
  unfold toldP
  by_cases h9 : k = 119
  · subst h9
    have := (word_fact (m := 12) calls_word callList_len (h119 rfl)).len
    simp
    have e : (atList callList x.a).data.toList.length = (atList callList x.a).size := by simp
    omega
  · rw [if_neg h9]
    have h1 := hd x.a.toNat (by have := hs.a; omega)
    have h2 := hd x.b.toNat (by have := hs.b; omega)
    have h3 := hd x.c.toNat (by have := hs.c; omega)
    have h4 := hd x.n.toNat (by have := hs.n; omega)
    repeat' split
    all_goals (try rw [List.length_cons]); omega
/-- What a text is made of. -/
theorem ins_bytes (x : PIns) (hm : mayP x = true) (hn : 0 ≤ x.n ∧ x.n < 18446744073709551616) : (∀ b ∈ insP x, b = 32 ∨ b = 10 ∨ wordB b = true) ∧ (insP x).length ≤ 79 ∧ insP x ≠ [] := by
  have hf := may_f hm
  have hw := word_fact (m := 23) names_word nameList_len hf.op
  have hs : Small x := (small_of_may hm hn).1
  have hk := kinds3 x.op
  have hc : ∀ k ∈ kindsP x.op, (toldP x k).all wordB = true ∧ (toldP x k).length ≤ 21 := fun k hk => told_len hm hn hk
  refine ⟨?_, ?_, by simp [insP]⟩
  · intro b hb
    unfold insP insWords at hb
    rw [List.mem_append, List.mem_append, List.mem_flatMap] at hb
    rcases hb with (hb | ⟨k, hk, hb⟩) | hb
    · exact .inr (.inr ((List.all_eq_true.1 hw.all) b hb))
    · rcases List.mem_cons.1 hb with rfl | hb
      · exact .inl rfl
      · exact .inr (.inr ((List.all_eq_true.1 (hc k hk).1) b hb))
    · simp at hb
      exact .inr (.inl hb)
  · unfold insP insWords
    have hl : ∀ (ks : List UInt8), (∀ k ∈ ks, (toldP x k).length ≤ 21) → (ks.flatMap fun k => 32 :: toldP x k).length ≤ 22 * ks.length := by
      intro ks
      induction ks with
      | nil => intro _; simp
      | cons k ks ih =>
        intro h
        rw [List.flatMap_cons, List.length_append, List.length_cons, List.length_cons]
        have := ih (fun q hq => h q (List.mem_cons_of_mem _ hq))
        have := h k (by simp)
        omega
    have := hl _ (fun k hk => (hc k hk).2)
    have := hw.len
    rw [List.length_append, List.length_append, List.length_singleton]
    omega
theorem lab_bytes (l : List PIns) (k : Nat) (c : UInt8) (hc : c = 32 ∨ c = 10) (hk : k ≤ 40) : (∀ b ∈ labelP l k c, b = 32 ∨ b = 10 ∨ wordB b = true) ∧ (labelP l k c).length ≤ 5 := by
  unfold labelP
  split
  · constructor
    · intro b hb
      rw [List.mem_append] at hb
      rcases hb with hb | hb
      · rcases List.mem_cons.1 hb with rfl | hb
        · exact .inr (.inr (by decide))
        · exact .inr (.inr ((List.all_eq_true.1 (dig_word k)) b hb))
      · simp at hb
        rcases hb with rfl | rfl
        · exact .inr (.inr (by decide))
        · rcases hc with rfl | rfl
          · exact .inl rfl
          · exact .inr (.inl rfl)
    · have : (decDigits k).length ≤ 2 := by
        by_cases h : k < 10
        · rw [decDigits_small h]; simp
        · rw [decDigits_two h (by omega)]; simp
      rw [List.length_append, List.length_cons]
      simp
      omega
  · exact ⟨fun b hb => by simp at hb, by simp⟩
theorem lines_bytes (l : List PIns) : ∀ (r : List PIns) (i : Nat), (∀ x ∈ r, mayP x = true ∧ 0 ≤ x.n ∧ x.n < 18446744073709551616) → i + r.length ≤ 40 → (∀ b ∈ linesOfP l i r, b = 32 ∨ b = 10 ∨ wordB b = true) ∧ (linesOfP l i r).length ≤ 84 * r.length + 5
  | [], i, _, h => by
    rw [linesOfP]
    have := lab_bytes l i 10 (.inr rfl) (by simpa using h)
    exact ⟨this.1, by simpa using this.2⟩
  | x :: r, i, hx, h => by
    rw [List.length_cons] at h
    obtain ⟨h1, h2⟩ := lines_bytes l r (i + 1) (fun y hy => hx y (List.mem_cons_of_mem _ hy)) (by omega)
    obtain ⟨h3, h4⟩ := lab_bytes l i 32 (.inl rfl) (by omega)
    obtain ⟨h5, h6, _⟩ := ins_bytes x (hx x (by simp)).1 (hx x (by simp)).2
    rw [linesOfP]
    constructor
    · intro b hb
      rw [List.mem_append, List.mem_append] at hb
      rcases hb with (hb | hb) | hb
      · exact h3 b hb
      · exact h5 b hb
      · exact h1 b hb
    · rw [List.length_append, List.length_append, List.length_cons]
      omega
theorem Prints.bytes {l : List PIns} (h : Prints l) : (∀ b ∈ printP l, b = 32 ∨ b = 10 ∨ wordB b = true) ∧ (printP l).length ≤ 3365 ∧ (l ≠ [] → printP l ≠ []) := by
  have hm : ∀ x ∈ l, mayP x = true ∧ 0 ≤ x.n ∧ x.n < 18446744073709551616 := fun x hx => ⟨(ill_may (h.ill x hx)).1, h.n x hx⟩
  have hl := h.len
  obtain ⟨h1, h2⟩ := lines_bytes l l 0 hm (by omega)
  rw [h.eq]
  refine ⟨h1, by omega, fun hne => ?_⟩
  obtain ⟨x, r, rfl⟩ := List.exists_cons_of_ne_nil hne
  rw [linesOfP]
  have := (ins_bytes x (hm x (by simp)).1 (hm x (by simp)).2).2.2
  simp [this]
/-- A program comes back out of its text. -/
theorem parse_print {l : List PIns} (h : Prints l) : parseP (printP l) = (l, 0, 0, 0) := parse_of (by have := h.bytes.2.1; omega) h.parse
/-- Two programs have one text just if they are the same. -/
theorem print_inj {l m : List PIns} (hl : Prints l) (hm : Prints m) (h : printP l = printP m) : l = m := by
  have h1 := parse_print hl
  have h2 := parse_print hm
  rw [h, h2] at h1
  injection h1 with h1
  exact h1.symm
/-- Blanks, tabs, empty lines and remarks more change nothing. -/
theorem parse_loose {l : List PIns} (h : Prints l) {t : List UInt8} (ht : Loose (printP l) t) (h4 : t.length ≤ 4000) : parseP t = (l, 0, 0, 0) := parse_of h4 (by rw [loose_flatL ht]; exact h.parse)
end Go.Proofs.YtngahgfppbjebaaDoor
