/-
  Plain: a line's words, rune by rune. No program in sight.
-/
import Derived.Test.YtngahgfppbjebaaDoorTxPlain
import Derived.Laws.Cover4
namespace Go.Proofs.YtngahgfppbjebaaDoor
open Go.Lib
set_option linter.unusedVariables false
set_option linter.unusedSimpArgs false

theorem encB_len (r : Nat) : (encB r).length ≤ 4 := by
  rw [encB_eq]
  exact listOf_len _ _ (encode_size_le r)
/-- Between two runes of a line. -/
structure WInv (s : ByteArray) (k col : Nat) (fin : List Wd) (cur : Option Wd) : Prop where
  le : k ≤ s.size
  few : fin.length + cur.toList.length ≤ k
  colb : col ≤ k + 1
  len : ∀ c, cur = some c → c.s.length ≤ 4 * k
  eq : wordsR (runesL s.data.toList) = fin ++ wordsG cur col (bodyR (runesL (s.data.toList.drop k)))
  endc : endR (runesL s.data.toList) = col + (bodyR (runesL (s.data.toList.drop k))).length
theorem WInv.start (s : ByteArray) : WInv s 0 1 [] none := ⟨Nat.zero_le _, Nat.le_refl _, Nat.le_refl _, fun c h => (by cases h), (by rw [List.drop_zero]; rfl), (by rw [List.drop_zero]; unfold endR; omega)⟩
theorem body_semi (x : Rn) (r : List Rn) (h : x.1 = 59) : bodyR (x :: r) = [] := by simp [bodyR, h]
theorem body_go (x : Rn) (r : List Rn) (h : x.1 ≠ 59) : bodyR (x :: r) = x :: bodyR r := by simp [bodyR, h]
section
variable {s : ByteArray} {k col : Nat} {fin : List Wd} {cur : Option Wd}
theorem WInv.semi (h : WInv s k col fin cur) (hk : k < s.size) (hx : (rnAt s k).1 = 59) : wordsR (runesL s.data.toList) = fin ++ cur.toList ∧ endR (runesL s.data.toList) = col := by
  obtain ⟨h1, _⟩ := runes_at s k hk
  have e1 := h.eq
  have e2 := h.endc
  rw [h1, body_semi _ _ hx] at e1 e2
  exact ⟨e1, e2⟩
theorem WInv.fin_ (h : WInv s k col fin cur) (hk : ¬ k < s.size) : wordsR (runesL s.data.toList) = fin ++ cur.toList ∧ endR (runesL s.data.toList) = col := by
  have e1 := h.eq
  have e2 := h.endc
  rw [runes_end s k hk] at e1 e2
  exact ⟨e1, e2⟩
theorem WInv.blank (h : WInv s k col fin cur) (hk : k < s.size) (hx : (rnAt s k).1 ≠ 59) (hb : blankR (rnAt s k) = true) : WInv s (k + (Utf8.decode s k).2) (col + 1) (fin ++ cur.toList) none := by
  obtain ⟨h1, h2, h3, _⟩ := runes_at s k hk
  have e1 := h.eq
  have e2 := h.endc
  have hx' : (rnAt s k).1 ≠ 59 := hx
  rw [h1, body_go _ _ hx'] at e1 e2
  refine ⟨h3, ?_, ?_, fun c h => (by cases h), ?_, ?_⟩
  · have := h.few
    simp
    omega
  · have := h.colb
    omega
  · rw [e1, wordsG, if_pos (show blankR (rnAt s k) = true from hb), List.append_assoc]
  · rw [e2, List.length_cons]
    omega
theorem WInv.grow (h : WInv s k col fin cur) (hk : k < s.size) (hx : (rnAt s k).1 ≠ 59) (hb : blankR (rnAt s k) = false) : WInv s (k + (Utf8.decode s k).2) (col + 1) fin (some (growW cur col (rnAt s k))) := by
  obtain ⟨h1, h2, h3, _⟩ := runes_at s k hk
  have e1 := h.eq
  have e2 := h.endc
  have hx' : (rnAt s k).1 ≠ 59 := hx
  rw [h1, body_go _ _ hx'] at e1 e2
  refine ⟨h3, ?_, ?_, ?_, ?_, ?_⟩
  · have := h.few
    simp
    omega
  · have := h.colb
    omega
  · intro c hc
    injection hc with hc
    subst hc
    have h4 := encB_len (rnAt s k).1
    rcases cur with _ | c
    · simp only [growW]
      omega
    · have := h.len c rfl
      simp only [growW, List.length_append]
      omega
  · rw [e1, wordsG, if_neg (by rw [show blankR (_ : Rn) = false from hb]; simp)]
  · rw [e2, List.length_cons]
    omega
end
theorem runesL_len : ∀ (n : Nat) (l : List UInt8), l.length ≤ n → (runesL l).length ≤ l.length
  | 0, l, h => by
    have : l = [] := List.eq_nil_of_length_eq_zero (by omega)
    subst this
    rw [runesL_nil]
    exact Nat.le_refl _
  | n + 1, l, h => by
    by_cases ha : l = []
    · subst ha
      rw [runesL_nil]
      exact Nat.le_refl _
    · have h1 := decodeL_width l
      have h2 : 0 < l.length := List.length_pos_iff.2 ha
      rw [runesL_step ha, List.length_cons]
      have := runesL_len n (l.drop (decodeL l).2) (by rw [List.length_drop]; omega)
      rw [List.length_drop] at this
      omega
def lenO : Option Wd → Nat
  | none => 0
  | some c => c.s.length
theorem growW_len (cur : Option Wd) (col : Nat) (x : Rn) : (growW cur col x).s.length ≤ lenO cur + 4 := by
  have h4 := encB_len x.1
  rcases cur with _ | c
  · simp only [growW, lenO]
    omega
  · simp only [growW, lenO, List.length_append]
    omega
theorem wordsG_len : ∀ (l : List Rn) (cur : Option Wd) (col : Nat), ∀ x ∈ wordsG cur col l, x.s.length ≤ lenO cur + 4 * l.length
  | [], cur, col, x, hx => by
    rcases cur with _ | c
    · simp [wordsG] at hx
    · simp [wordsG] at hx
      subst hx
      simp [lenO]
  | y :: r, cur, col, x, hx => by
    rw [wordsG] at hx
    rw [List.length_cons]
    split at hx
    · rcases List.mem_append.1 hx with h | h
      · rcases cur with _ | c
        · simp at h
        · simp at h
          subst h
          simp only [lenO]
          omega
      · have := wordsG_len r none (col + 1) x h
        simp only [lenO] at this
        omega
    · have := wordsG_len r (some (growW cur col y)) (col + 1) x hx
      have h2 := growW_len cur col y
      simp only [lenO] at this
      omega
theorem bodyR_len (l : List Rn) : (bodyR l).length ≤ l.length := (List.takeWhile_sublist _).length_le
theorem wordsR_len (l : List Rn) : ∀ x ∈ wordsR l, x.s.length ≤ 4 * l.length := by
  intro x hx
  have := wordsG_len (bodyR l) none 1 x hx
  have h2 := bodyR_len l
  simp only [lenO] at this
  omega
end Go.Proofs.YtngahgfppbjebaaDoor
