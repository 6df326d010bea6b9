/-
  Plain: a program read of a text's lines that have words; places do not count where nothing is wrong. No program in sight.
-/
import Derived.Test.YtngahgfppbjebaaDoorTxFlat
namespace Go.Proofs.YtngahgfppbjebaaDoor
open Go.Lib
set_option linter.unusedVariables false
set_option linter.unusedSimpArgs false

abbrev EJ := Nat × List UInt8
structure ES where
  l : List PIns
  labels : List (List UInt8 × Nat)
  jumps : List EJ
def jEr (j : JP) : EJ := (j.at_, j.s)
def PS.er (st : PS) : ES := ⟨st.l, st.labels, st.jumps.map jEr⟩
def fieldsE (st : ES) : List UInt8 → List EW → PIns → List EJ → Option ES
  | [], [], x, js => some ⟨st.l ++ [x], st.labels, js⟩
  | [], _ :: _, _, _ => none
  | _ :: _, [], _, _ => none
  | k :: ks, w :: ws, x, js =>
    if w.2 then none else
    match fieldP k w.1 x with
    | none => none
    | some x' => fieldsE st ks ws x' (if k = 106 then js ++ [(st.l.length, w.1)] else js)
def instrE (st : ES) : List EW → Option ES
  | [] => some st
  | w :: ws =>
    if w.2 || !isOf nameList ⟨w.1.toArray⟩ then none
    else if 40 ≤ st.l.length then none
    else fieldsE st (kindsP (numOf nameList ⟨w.1.toArray⟩)) ws ⟨numOf nameList ⟨w.1.toArray⟩, 0, 0, 0, 0⟩ st.jumps
def isLabelE (w : EW) : Bool := !w.2 && (w.1.getLast? == some 58)
def lineE (st : ES) : List EW → Option ES
  | [] => some st
  | w :: ws =>
    if isLabelE w then
      (if (lookP st.labels w.1.dropLast).isSome || !nameP w.1.dropLast then none
       else instrE { st with labels := st.labels ++ [(w.1.dropLast, st.l.length)] } ws)
    else instrE st (w :: ws)
def linesE (st : ES) : List (List EW) → Option ES
  | [] => some st
  | l :: ls => (lineE st l).bind fun st' => linesE st' ls
def Out.er : Out PS → Option ES
  | .ok st => some st.er
  | .err _ _ => none
def Res.er : Res PS → Option ES
  | .ok st => some st.er
  | .err _ _ _ => none
theorem fields_er (line endc : Nat) (st : PS) : ∀ (ks : List UInt8) (ws : List Wd) (x : PIns) (js : List JP), (fieldsP line endc st ks ws x js).er = fieldsE st.er ks (ws.map ewd) x (js.map jEr)
  | [], [], x, js => rfl
  | [], w :: ws, x, js => rfl
  | k :: ks, [], x, js => rfl
  | k :: ks, w :: ws, x, js => by
    rw [fieldsP, List.map_cons, fieldsE]
    by_cases hb : w.bad = true
    · rw [if_pos hb, if_pos (show (ewd w).2 = true from hb)]
      rfl
    · rw [if_neg hb, if_neg (show ¬ (ewd w).2 = true from hb), show (ewd w).1 = w.s from rfl]
      cases fieldP k w.s x with
      | none => rfl
      | some x' =>
        simp only
        rw [fields_er line endc st ks ws x' _]
        congr 1
        by_cases hk : k = 106
        · rw [if_pos hk, if_pos hk, List.map_append]
          rfl
        · rw [if_neg hk, if_neg hk]
theorem instr_er (line endc : Nat) (st : PS) (ws : List Wd) : (instrP line endc st ws).er = instrE st.er (ws.map ewd) := by
  cases ws with
  | nil => rfl
  | cons w ws =>
    rw [instrP, List.map_cons, instrE]
    by_cases h1 : (w.bad || !isOf nameList ⟨w.s.toArray⟩) = true
    · rw [if_pos h1, if_pos (show ((ewd w).2 || !isOf nameList ⟨(ewd w).1.toArray⟩) = true from h1)]
      rfl
    · rw [if_neg h1, if_neg (show ¬ ((ewd w).2 || !isOf nameList ⟨(ewd w).1.toArray⟩) = true from h1)]
      by_cases h2 : 40 ≤ st.l.length
      · rw [if_pos h2, if_pos (show 40 ≤ st.er.l.length from h2)]
        rfl
      · rw [if_neg h2, if_neg (show ¬ 40 ≤ st.er.l.length from h2)]
        exact fields_er _ _ _ _ _ _ _
theorem line_er (line : Nat) (st : PS) (l : List Rn) : (lineP line st l).er = lineE st.er (lineW l) := by
  unfold lineP
  rw [← lineW_eq]
  cases wordsR l with
  | nil => rfl
  | cons w ws =>
    simp only [List.map_cons]
    rw [lineE]
    have hl : isLabelE (ewd w) = isLabel w := rfl
    rw [hl]
    by_cases h1 : isLabel w = true
    · rw [if_pos h1, if_pos h1]
      by_cases h2 : ((lookP st.labels w.s.dropLast).isSome || !nameP w.s.dropLast) = true
      · rw [if_pos h2, if_pos (show ((lookP st.er.labels (ewd w).1.dropLast).isSome || !nameP (ewd w).1.dropLast) = true from h2)]
        rfl
      · rw [if_neg h2, if_neg (show ¬ ((lookP st.er.labels (ewd w).1.dropLast).isSome || !nameP (ewd w).1.dropLast) = true from h2)]
        exact instr_er _ _ _ _
    · rw [if_neg h1, if_neg h1]
      exact instr_er _ _ _ (w :: ws)
theorem lines_er : ∀ (ls : List (List Rn)) (line : Nat) (st : PS), (linesP line st ls).er = linesE st.er (ls.map lineW)
  | [], line, st => rfl
  | l :: ls, line, st => by
    rw [linesP, List.map_cons, linesE, ← line_er (line + 1)]
    cases lineP (line + 1) st l with
    | ok st' => exact lines_er ls (line + 1) st'
    | err c e => rfl
theorem linesE_some : ∀ (ls : List (List EW)) (st : ES), linesE st (ls.filter someW) = linesE st ls
  | [], st => rfl
  | l :: ls, st => by
    rw [List.filter_cons]
    cases l with
    | nil =>
      rw [if_neg (by simp [someW]), linesE_some ls st]
      rfl
    | cons w ws =>
      rw [if_pos (by simp [someW]), linesE, linesE]
      cases lineE st (w :: ws) with
      | none => rfl
      | some st' => exact linesE_some ls st'
def resE (labels : List (List UInt8 × Nat)) : List EJ → List PIns → Option (List PIns)
  | [], l => some l
  | j :: js, l => match lookP labels j.2 with
    | none => none
    | some c => resE labels js (setC l j.1 c)
theorem res_er (labels : List (List UInt8 × Nat)) : ∀ (js : List JP) (l : List PIns), (match resolveP labels js l with | .ok l => some l | .err _ _ _ => none) = resE labels (js.map jEr) l
  | [], l => rfl
  | j :: js, l => by
    rw [resolveP, List.map_cons, resE]
    show _ = match lookP labels j.s with | none => none | some c => resE labels (js.map jEr) (setC l j.at_ c)
    cases lookP labels j.s with
    | none => rfl
    | some c => exact res_er labels js _
/-- A program of a text's lines that have words, if nothing is wrong. -/
def parseE (ls : List (List EW)) : Option (List PIns) := (linesE PS.start.er ls).bind fun st => resE st.labels st.jumps st.l
theorem parse_of {s : List UInt8} {l : List PIns} (h4 : s.length ≤ 4000) (h : parseE (flatL s) = some l) : parseP s = (l, 0, 0, 0) := by
  unfold parseP
  rw [if_neg (by omega)]
  unfold parseE at h
  rw [← flatL_eq, linesE_some, ← lines_er _ 0] at h
  cases hl : linesP 0 PS.start (linesR (runesL s)) with
  | err a b c =>
    rw [hl] at h
    cases h
  | ok st =>
    rw [hl] at h
    have h2 : resE st.er.labels st.er.jumps st.er.l = some l := h
    have h3 := res_er st.labels st.jumps st.l
    have h4 : resE st.labels (st.jumps.map jEr) st.l = some l := h2
    rw [h4] at h3
    simp only
    cases hr : resolveP st.labels st.jumps st.l with
    | err a b c =>
      rw [hr] at h3
      cases h3
    | ok l' =>
      rw [hr] at h3
      injection h3 with h3
      rw [h3]
end Go.Proofs.YtngahgfppbjebaaDoor
