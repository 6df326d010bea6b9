/-
  Plain: the lines of a text, one by one; a program read of a text. No program in sight.
-/
import Derived.Test.YtngahgfppbjebaaDoorTxWPlain
import Derived.Lib.Bytealg
namespace Go.Proofs.YtngahgfppbjebaaDoor
open Go.Lib
set_option linter.unusedVariables false
set_option linter.unusedSimpArgs false

/-- A text's first line, and what is behind it. -/
def Nl (s la lt : List UInt8) : Prop := (lt = [] ∧ la = s ∧ ∀ b ∈ s, b ≠ 10) ∨ (s = la ++ 10 :: lt ∧ ∀ b ∈ la, b ≠ 10)
theorem index_nl : ∀ (l : List UInt8), (indexByte l 10 = -1 ∧ ∀ b ∈ l, b ≠ 10) ∨ ∃ a t, l = a ++ 10 :: t ∧ (∀ b ∈ a, b ≠ 10) ∧ indexByte l 10 = (a.length : Int)
  | [] => .inl ⟨rfl, fun b h => by cases h⟩
  | b :: l => by
    by_cases hb : b = 10
    · subst hb
      exact .inr ⟨[], l, rfl, (fun b h => by cases h), rfl⟩
    · have hbb : (b == 10) = false := by simpa using hb
      rcases index_nl l with ⟨h1, h2⟩ | ⟨a, t, h1, h2, h3⟩
      · refine .inl ⟨?_, ?_⟩
        · simp [indexByte, hbb, h1]
        · intro c hc
          rcases List.mem_cons.1 hc with h | h
          · rw [h]; exact hb
          · exact h2 c h
      · refine .inr ⟨b :: a, t, by rw [h1]; rfl, ?_, ?_⟩
        · intro c hc
          rcases List.mem_cons.1 hc with h | h
          · rw [h]; exact hb
          · exact h2 c h
        · have h4 : (indexByte l 10 == -1) = false := by
            rw [h3, beq_eq_false_iff_ne]
            omega
          simp [indexByte, hbb, h4, h3]
theorem linesR_one : ∀ (l : List Rn), l ≠ [] → (∀ x ∈ l, x.1 ≠ 10) → linesR l = [l]
  | [], h, _ => absurd rfl h
  | [x], _, hx => by
    have := hx x (by simp)
    simp [linesR, this]
  | x :: y :: r, _, hx => by
    have h1 := hx x (by simp)
    have h2 := linesR_one (y :: r) (by simp) (fun z hz => hx z (List.mem_cons_of_mem _ hz))
    rw [linesR, if_neg h1, h2]
theorem linesR_cut : ∀ (a t : List Rn) (q : Bool), (∀ x ∈ a, x.1 ≠ 10) → linesR (a ++ (10, q) :: t) = a :: linesR t
  | [], t, q, _ => by simp [linesR]
  | x :: a, t, q, hx => by
    have h1 := hx x (by simp)
    have h2 := linesR_cut a t q (fun z hz => hx z (List.mem_cons_of_mem _ hz))
    rw [List.cons_append, linesR, if_neg h1, h2]
theorem runesL_ne {l : List UInt8} (h : l ≠ []) : runesL l ≠ [] := by
  rw [runesL_step h]
  simp
theorem lines_nl {s la lt : List UInt8} (hs : s ≠ []) (h : Nl s la lt) : linesR (runesL s) = runesL la :: linesR (runesL lt) := by
  rcases h with ⟨h1, h2, h3⟩ | ⟨h1, h2⟩
  · subst h1 h2
    rw [linesR_one _ (runesL_ne hs) (rune_nl _ la (Nat.le_refl _) h3), runesL_nil]
    rfl
  · subst h1
    rw [runesL_nl _ la lt (Nat.le_refl _), linesR_cut _ _ _ (rune_nl _ la (Nat.le_refl _) h2)]
theorem Nl.len {s la lt : List UInt8} (h : Nl s la lt) (hs : s ≠ []) : la.length ≤ s.length ∧ lt.length < s.length := by
  have h0 : 0 < s.length := List.length_pos_iff.2 hs
  rcases h with ⟨h1, h2, _⟩ | ⟨h1, _⟩
  · subst h1 h2
    exact ⟨Nat.le_refl _, h0⟩
  · subst h1
    simp
    omega
/-- Lines, one by one: where one is wrong, its number, the column and the error. -/
inductive Res (α : Type) where
  | ok : α → Res α
  | err : Nat → Nat → Nat → Res α
def linesP (line : Nat) (st : PS) : List (List Rn) → Res PS
  | [] => .ok st
  | l :: ls => match lineP (line + 1) st l with
    | .err c e => .err (line + 1) c e
    | .ok st' => linesP (line + 1) st' ls
def setC (l : List PIns) (k c : Nat) : List PIns := l.set k { l.getD k PIns.none with c := (c : Int) }
def resolveP (labels : List (List UInt8 × Nat)) : List JP → List PIns → Res (List PIns)
  | [], l => .ok l
  | j :: js, l => match lookP labels j.s with
    | none => .err j.line j.col 12
    | some c => resolveP labels js (setC l j.at_ c)
/-- A program of its text; else where it is wrong. -/
def parseP (s : List UInt8) : List PIns × Nat × Nat × Nat :=
  if 4000 < s.length then ([], 1, 1, 4) else match linesP 0 PS.start (linesR (runesL s)) with
    | .err a b c => ([], a, b, c)
    | .ok st => match resolveP st.labels st.jumps st.l with
      | .err a b c => ([], a, b, c)
      | .ok l => (l, 0, 0, 0)
/-- What stays true of a parser's state. -/
structure PSok (st : PS) (line : Nat) : Prop where
  few : st.l.length ≤ 40
  jumps : st.jumps.length ≤ 3 * st.l.length
  labels : st.labels.length ≤ line
  at_ : ∀ j ∈ st.jumps, j.at_ < st.l.length
  labat : ∀ e ∈ st.labels, e.2 ≤ 40
theorem PSok.start : PSok PS.start 0 := ⟨Nat.zero_le _, Nat.zero_le _, Nat.le_refl _, (fun j h => by cases h), (fun e h => by cases h)⟩
theorem fieldsP_ok {line endc : Nat} {st : PS} : ∀ (ks : List UInt8) (ws : List Wd) (x : PIns) (js : List JP) (st' : PS), fieldsP line endc st ks ws x js = .ok st' → (∀ j ∈ js, j.at_ ≤ st.l.length) →
    st'.l.length = st.l.length + 1 ∧ st'.labels = st.labels ∧ st'.jumps.length ≤ js.length + ks.length ∧ ∀ j ∈ st'.jumps, j.at_ ≤ st.l.length
  | [], [], x, js, st', h, hj => by
    rw [fieldsP] at h
    injection h with h
    subst h
    exact ⟨by simp, rfl, by simp, hj⟩
  | [], w :: ws, x, js, st', h, hj => by
    rw [fieldsP] at h
    cases h
  | k :: ks, [], x, js, st', h, hj => by
    rw [fieldsP] at h
    cases h
  | k :: ks, w :: ws, x, js, st', h, hj => by
    rw [fieldsP] at h
    split at h
    · cases h
    · split at h
      · cases h
      · rename_i x' hx
        have hj2 : ∀ j ∈ (if k = 106 then js ++ [⟨st.l.length, w.s, line, w.col⟩] else js), j.at_ ≤ st.l.length := by
          intro j hjm
          split at hjm
          · rcases List.mem_append.1 hjm with h1 | h1
            · exact hj j h1
            · simp at h1
              subst h1
              exact Nat.le_refl _
          · exact hj j hjm
        obtain ⟨h1, h2, h3, h4⟩ := fieldsP_ok ks ws x' _ st' h hj2
        refine ⟨h1, h2, ?_, h4⟩
        rw [List.length_cons]
        split at h3
        · rw [List.length_append] at h3
          simp at h3
          omega
        · omega
theorem kinds3 (op : Int) : (kindsP op).length ≤ 3 := by
  unfold kindsP
  repeat' split
  all_goals decide
theorem instrP_ok {line endc : Nat} {st st' : PS} {ws : List Wd} (h : instrP line endc st ws = .ok st') {n : Nat} (hs : PSok st n) : PSok st' n := by
  cases ws with
  | nil =>
    simp only [instrP] at h
    injection h with h
    subst h
    exact hs
  | cons w r =>
    simp only [instrP] at h
    split at h
    · cases h
    · split at h
      · cases h
      · rename_i h40
        obtain ⟨h1, h2, h3, h4⟩ := fieldsP_ok _ _ _ _ _ h (fun j hj => Nat.le_of_lt (hs.at_ j hj))
        have hk := kinds3 (numOf nameList ⟨w.s.toArray⟩)
        have := hs.jumps
        refine ⟨by omega, by omega, by rw [h2]; exact hs.labels, fun j hj => by have := h4 j hj; omega, by rw [h2]; exact hs.labat⟩
theorem lineP_ok {line : Nat} {st st' : PS} {rs : List Rn} {n : Nat} (h : lineP line st rs = .ok st') (hs : PSok st n) : PSok st' (n + 1) := by
  unfold lineP at h
  have hup : ∀ {s : PS}, PSok s n → PSok s (n + 1) := fun h => ⟨h.few, h.jumps, by have := h.labels; omega, h.at_, h.labat⟩
  split at h
  · injection h with h
    subst h
    exact hup hs
  · split at h
    · split at h
      · cases h
      · refine instrP_ok h ⟨hs.few, hs.jumps, ?_, hs.at_, ?_⟩
        · have := hs.labels
          rw [List.length_append]
          simp
          omega
        · intro e he
          rcases List.mem_append.1 he with h1 | h1
          · exact hs.labat e h1
          · simp at h1
            subst h1
            exact hs.few
    · exact instrP_ok h (hup hs)
end Go.Proofs.YtngahgfppbjebaaDoor
