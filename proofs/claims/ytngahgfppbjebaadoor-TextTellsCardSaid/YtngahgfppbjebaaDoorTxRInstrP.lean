/-
  Plain: an instruction of words, as the reference reads it: field by field. No walk in sight.
-/
import Derived.Test.YtngahgfppbjebaaDoorGrpTxErase
import Derived.Test.YtngahgfppbjebaaDoorGrpPlain
import Derived.Test.YtngahgfppbjebaaDoorGrpCodeMay
namespace Go.Proofs.YtngahgfppbjebaaDoor
open Go.Lib
set_option linter.unusedVariables false
set_option linter.unusedSimpArgs false

/-- The fields of an instruction, and the jump among them. -/
def fieldsQ (line endc n : Nat) : List UInt8 → List Wd → PIns → List JP → Out (PIns × List JP)
  | [], [], x, js => .ok (x, js)
  | [], w :: _, _, _ => .err w.col 12
  | _ :: _, [], _, _ => .err endc 12
  | k :: ks, w :: ws, x, js =>
    if w.bad then .err w.col 12 else
    match fieldP k w.s x with
    | none => .err w.col 12
    | some x' => fieldsQ line endc n ks ws x' (if k = 106 then js ++ [⟨n, w.s, line, w.col⟩] else js)
def putQ (st : PS) : Out (PIns × List JP) → Out PS
  | .ok p => .ok ⟨st.l ++ [p.1], st.labels, st.jumps ++ p.2⟩
  | .err c e => .err c e
theorem fieldsP_Q (line endc : Nat) (st : PS) : ∀ (ks : List UInt8) (ws : List Wd) (x : PIns) (js : List JP), fieldsP line endc st ks ws x (st.jumps ++ js) = putQ st (fieldsQ line endc st.l.length ks ws x js)
  | [], [], x, js => rfl
  | [], w :: ws, x, js => rfl
  | k :: ks, [], x, js => rfl
  | k :: ks, w :: ws, x, js => by
    rw [fieldsP, fieldsQ]
    by_cases hb : w.bad = true
    · rw [if_pos hb, if_pos hb]
      rfl
    · rw [if_neg hb, if_neg hb]
      cases fieldP k w.s x with
      | none => rfl
      | some x' =>
        simp only
        rw [← fieldsP_Q line endc st ks ws x' _]
        congr 1
        split
        · rw [List.append_assoc]
        · rfl
/-- An instruction of words. -/
def instrQ (line endc n : Nat) : List Wd → Out (PIns × List JP)
  | [] => .err 0 0
  | w :: ws =>
    if w.bad || !isOf nameList ⟨w.s.toArray⟩ then .err w.col 12
    else if 40 ≤ n then .err w.col 4
    else fieldsQ line endc n (kindsP (numOf nameList ⟨w.s.toArray⟩)) ws ⟨numOf nameList ⟨w.s.toArray⟩, 0, 0, 0, 0⟩ []
theorem instrP_Q (line endc : Nat) (st : PS) (w : Wd) (ws : List Wd) : instrP line endc st (w :: ws) = putQ st (instrQ line endc st.l.length (w :: ws)) := by
  rw [instrP, instrQ]
  by_cases h1 : (w.bad || !isOf nameList ⟨w.s.toArray⟩) = true
  · rw [if_pos h1, if_pos h1]
    rfl
  · rw [if_neg h1, if_neg h1]
    by_cases h2 : 40 ≤ st.l.length
    · rw [if_pos h2, if_pos h2]
      rfl
    · rw [if_neg h2, if_neg h2]
      have := fieldsP_Q line endc st (kindsP (numOf nameList ⟨w.s.toArray⟩)) ws ⟨numOf nameList ⟨w.s.toArray⟩, 0, 0, 0, 0⟩ []
      rw [List.append_nil] at this
      exact this
/-- The kind of the f-th field, in the reference's order: A, B, C, N. -/
def kindR (op : Int) (f : Nat) : Option UInt8 :=
  if f = 0 then (if rA op < 0 then none else some (if op = 23 then 119 else 97))
  else if f = 1 then (if rB op < 0 then none else some (if op = 23 then 116 else 98))
  else if f = 2 then (if rC op < 0 then none else some (if op = 12 ∨ op = 13 then 106 else if op = 8 ∨ op = 9 then 111 else if op = 23 then 112 else 99))
  else if f = 3 then (if rN op = true then some 110 else none)
  else none
def kindsFrom (op : Int) : Nat → List UInt8
  | 0 => (kindR op 0).toList ++ (kindR op 1).toList ++ (kindR op 2).toList ++ (kindR op 3).toList
  | 1 => (kindR op 1).toList ++ (kindR op 2).toList ++ (kindR op 3).toList
  | 2 => (kindR op 2).toList ++ (kindR op 3).toList
  | 3 => (kindR op 3).toList
  | _ => []
theorem kinds_from {op : Int} (h : 1 ≤ op ∧ op ≤ 23) : kindsFrom op 0 = kindsP op := by
  rcases (by omega : op = 1 ∨ op = 2 ∨ op = 3 ∨ op = 4 ∨ op = 5 ∨ op = 6 ∨ op = 7 ∨ op = 8 ∨ op = 9 ∨ op = 10 ∨ op = 11 ∨ op = 12 ∨ op = 13 ∨ op = 14 ∨ op = 15 ∨ op = 16 ∨ op = 17 ∨ op = 18 ∨ op = 19 ∨ op = 20 ∨ op = 21 ∨ op = 22 ∨ op = 23) with rfl | rfl | rfl | rfl | rfl | rfl | rfl | rfl | rfl | rfl | rfl | rfl | rfl | rfl | rfl | rfl | rfl | rfl | rfl | rfl | rfl | rfl | rfl
  all_goals decide
theorem kinds_step (op : Int) {f : Nat} (hf : f < 4) : kindsFrom op f = (kindR op f).toList ++ kindsFrom op (f + 1) := by
  rcases (by omega : f = 0 ∨ f = 1 ∨ f = 2 ∨ f = 3) with rfl | rfl | rfl | rfl
  all_goals simp [kindsFrom]
theorem kindR_lt {op : Int} {f : Nat} {kd : UInt8} (h : kindR op f = some kd) : f < 4 := by
  unfold kindR at h
  by_cases h0 : f = 0
  · omega
  · by_cases h1 : f = 1
    · omega
    · by_cases h2 : f = 2
      · omega
      · by_cases h3 : f = 3
        · omega
        · rw [if_neg h0, if_neg h1, if_neg h2, if_neg h3] at h
          cases h
/-- Is there no field f? -/
def noFld (op : Int) (f : Nat) : Prop := if f = 0 then rA op < 0 else if f = 1 then rB op < 0 else if f = 2 then rC op < 0 else rN op = false
theorem noFld_none {op : Int} {f : Nat} (hf : f < 4) (h : kindR op f = none) : noFld op f := by
  unfold kindR at h
  unfold noFld
  rcases (by omega : f = 0 ∨ f = 1 ∨ f = 2 ∨ f = 3) with rfl | rfl | rfl | rfl <;> simp at h ⊢
  all_goals (first | exact h | skip)
theorem noFld_some {op : Int} {f : Nat} {kd : UInt8} (hf : f < 4) (h : kindR op f = some kd) : ¬ noFld op f := by
  unfold kindR at h
  unfold noFld
  rcases (by omega : f = 0 ∨ f = 1 ∨ f = 2 ∨ f = 3) with rfl | rfl | rfl | rfl <;> simp at h ⊢
  all_goals (first | exact h.1 | (have := h.1; omega) | skip)
theorem kind_jump {op : Int} {f : Nat} (h : kindR op f = some 106) : f = 2 ∧ (op = 12 ∨ op = 13) := by
  have hf := kindR_lt h
  unfold kindR at h
  rcases (by omega : f = 0 ∨ f = 1 ∨ f = 2 ∨ f = 3) with rfl | rfl | rfl | rfl
  · simp at h
    split at h <;> simp at h
  · simp at h
    split at h <;> simp at h
  · refine ⟨rfl, ?_⟩
    by_cases h1 : op = 12 ∨ op = 13
    · exact h1
    · simp [h1] at h
      obtain ⟨_, h⟩ := h
      split at h
      · simp at h
      · split at h <;> simp at h
  · simp at h
theorem kind_no_jump {op : Int} {kd : UInt8} (h : kindR op 2 = some kd) (hk : kd ≠ 106) : op ≠ 12 ∧ op ≠ 13 := by
  by_cases h1 : op = 12 ∨ op = 13
  · unfold kindR at h
    simp [h1] at h
    exact absurd h.2.symm hk
  · omega
theorem fieldP_op {kd : UInt8} {s : List UInt8} {x x' : PIns} (h : fieldP kd s x = some x') : x'.op = x.op := by
  unfold fieldP at h
  repeat' split at h
  all_goals (first | (simp at h; done) | (simp only [Option.some.injEq] at h; subst h; rfl) | (simp only [Option.map_eq_some_iff] at h; obtain ⟨a, _, rfl⟩ := h; rfl) | (injection h with h; subst h; rfl))
theorem fieldsQ_step (line endc n : Nat) (k : UInt8) (ks : List UInt8) (w : Wd) (ws : List Wd) (x : PIns) (js : List JP) {p : Option PIns} (hp : (if w.bad = true then none else fieldP k w.s x) = p) : fieldsQ line endc n (k :: ks) (w :: ws) x js = match (generalizing := false) p with
    | none => .err w.col 12
    | some x' => fieldsQ line endc n ks ws x' (if k = 106 then js ++ [⟨n, w.s, line, w.col⟩] else js) := by
  rw [fieldsQ]
  by_cases h : w.bad = true
  · rw [if_pos h] at hp ⊢
    subst hp
    rfl
  · rw [if_neg h] at hp ⊢
    subst hp
    rfl
theorem fieldsQ_jump (line endc n : Nat) (ks : List UInt8) (w : Wd) (ws : List Wd) (x : PIns) (js : List JP) : fieldsQ line endc n (106 :: ks) (w :: ws) x js = if w.bad = true ∨ nameP w.s = false then .err w.col 12 else fieldsQ line endc n ks ws x (js ++ [⟨n, w.s, line, w.col⟩]) := by
  rw [fieldsQ]
  have e : fieldP 106 w.s x = if nameP w.s then some x else none := rfl
  rw [e]
  by_cases h : w.bad = true
  · rw [if_pos h, if_pos (.inl h)]
  · rw [if_neg h]
    cases hn : nameP w.s with
    | false => simp
    | true => simp [h]
end Go.Proofs.YtngahgfppbjebaaDoor
