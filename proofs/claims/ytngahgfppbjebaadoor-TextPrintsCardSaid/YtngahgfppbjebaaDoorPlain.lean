/-
  Plain: programs, their open parts, what 'check' tells of them. No program in sight.
-/
import Derived.Test.YtngahgfppbjebaaDoorRefMay
namespace Go.Proofs.YtngahgfppbjebaaDoor
set_option linter.unusedVariables false
set_option linter.unusedSimpArgs false

/-- An instruction. -/
structure PIns where
  op : Int
  a : Int
  b : Int
  c : Int
  n : Int

def PIns.none : PIns := ⟨0, 0, 0, 0, 0⟩
def mayP (x : PIns) : Bool := mayB x.op x.a x.b x.c x.n
def opOf (l : List PIns) (k : Nat) : Int := (l.getD k PIns.none).op

def endsI (op : Int) : Int := if op = 15 then 14 else if op = 18 then 17 else if op = 19 then 18 else 0
def beginsB (op : Int) : Bool := op == 14 || op == 17
def topP (st : List Int) : Int := st.head?.getD (-1)
def opAt (l : List PIns) : List Int → Int
  | [] => 0
  | t :: _ => opOf l t.toNat
def tailP (st : List Int) (op : Int) : List Int := if 0 < endsI op then st.tail else st
def behindP (st : List Int) (i op : Int) : List Int := if beginsB op || op == 18 then i :: tailP st op else tailP st op
def wrongP (l : List PIns) (st : List Int) (x : PIns) : Int :=
  if mayP x = false then 8
  else if 0 < endsI x.op ∧ opAt l st ≠ endsI x.op then 12
  else if x.op = 16 ∧ opAt l st ≠ 14 then 12
  else if beginsB x.op = true ∧ 5 ≤ st.length then 9
  else 0

/-- What is open ahead of the k-th instruction, the inmost first. -/
def stk (l : List PIns) : Nat → List Int
  | 0 => []
  | k + 1 => behindP (stk l k) k (opOf l k)
def regAt (l : List PIns) (k : Nat) : Int := topP (stk l k)
def regionsP (l : List PIns) : List Int := (List.range l.length).map (regAt l)
def errAt (l : List PIns) (k : Nat) : Int := wrongP l (stk l k) (l.getD k PIns.none)
def jumpBad (l : List PIns) (k : Nat) : Bool :=
  jumpsB (opOf l k) && (decide ((l.length : Int) < (l.getD k PIns.none).c) || (decide ((l.getD k PIns.none).c = l.length) && (regAt l k != -1)) ||
    (decide ((l.getD k PIns.none).c < l.length) && (regAt l (l.getD k PIns.none).c.toNat != regAt l k)))

/-- The first place from k on, among so many, at which f is true. -/
def firstBad (f : Nat → Bool) : Nat → Nat → Option Nat
  | 0, _ => none
  | n + 1, k => if f k then some k else firstBad f n (k + 1)
theorem firstBad_step {f : Nat → Bool} {n k : Nat} (h : k < n) : firstBad f (n - k) k = if f k then some k else firstBad f (n - (k + 1)) (k + 1) := by
  obtain ⟨m, hm⟩ : ∃ m, n - k = m + 1 := ⟨n - k - 1, by omega⟩
  rw [hm, show n - (k + 1) = m by omega]
  rfl
theorem firstBad_some {f : Nat → Bool} {n k j : Nat} (h : firstBad f n k = some j) : k ≤ j ∧ j < k + n ∧ f j = true ∧ ∀ i, k ≤ i → i < j → f i = false := by
  induction n generalizing k with
  | zero => cases h
  | succ n ih =>
    unfold firstBad at h
    by_cases hf : f k = true
    · rw [if_pos hf] at h
      injection h with h
      subst h
      exact ⟨Nat.le_refl _, by omega, hf, fun i h1 h2 => by omega⟩
    · rw [if_neg hf] at h
      obtain ⟨h1, h2, h3, h4⟩ := ih h
      refine ⟨by omega, by omega, h3, fun i h5 h6 => ?_⟩
      rcases Nat.lt_or_ge k i with h7 | h7
      · exact h4 i h7 h6
      · obtain rfl : i = k := by omega
        simpa using hf
theorem firstBad_none {f : Nat → Bool} {n k : Nat} (h : firstBad f n k = none) : ∀ i, k ≤ i → i < k + n → f i = false := by
  induction n generalizing k with
  | zero => intro i h1 h2; omega
  | succ n ih =>
    unfold firstBad at h
    by_cases hf : f k = true
    · rw [if_pos hf] at h
      cases h
    · rw [if_neg hf] at h
      intro i h1 h2
      rcases Nat.lt_or_ge k i with h7 | h7
      · exact ih h i h7 (by omega)
      · obtain rfl : i = k := by omega
        simpa using hf
theorem firstBad_congr {f g : Nat → Bool} {n k : Nat} (h : ∀ i, k ≤ i → i < k + n → (∀ j, k ≤ j → j < i → f j = false) → f i = g i) : firstBad f n k = firstBad g n k := by
  induction n generalizing k with
  | zero => rfl
  | succ n ih =>
    have h0 := h k (Nat.le_refl _) (by omega) (fun j h1 h2 => by omega)
    unfold firstBad
    rw [← h0]
    cases hf : f k
    · simp only [Bool.false_eq_true, if_false]
      refine ih fun i h1 h2 h3 => h i (by omega) (by omega) fun j h4 h5 => ?_
      rcases Nat.lt_or_ge k j with h7 | h7
      · exact h3 j h7 h5
      · obtain rfl : j = k := by omega
        exact hf
    · rfl

def badB (l : List PIns) (k : Nat) : Bool := errAt l k != 0
def sizeBad (l : List PIns) : Bool := l.length == 0 || decide (40 < l.length)
/-- May a program run? -/
def jumpsP (l : List PIns) : Int × Int :=
  match firstBad (jumpBad l) l.length 0 with
  | some k => ((k : Int), 2)
  | none => (0, 0)
def runP (l : List PIns) : Int × Int :=
  if sizeBad l then (0, 4)
  else match firstBad (badB l) l.length 0 with
    | some k => ((k : Int), errAt l k)
    | none => match stk l l.length with
      | t :: _ => (t, 12)
      | [] => jumpsP l
def okP (l : List PIns) : Bool := (runP l).2 == 0
def regionP (l : List PIns) : List Int := if okP l then regionsP l else []

/-- Where parts end, behind the first k instructions. -/
def endA (l : List PIns) : Nat → List Int
  | 0 => List.replicate l.length (-1)
  | k + 1 => if 0 < endsI (opOf l k) then (endA l k).set (regAt l k).toNat k else endA l k
def endB (l : List PIns) : Nat → List Int
  | 0 => endA l l.length
  | k + 1 => if opOf l k = 16 then (endB l k).set k ((endB l k).getD (regAt l k).toNat 0) else endB l k
def matchP (l : List PIns) : List Int := if okP l then endB l l.length else []
theorem endA_len (l : List PIns) (k : Nat) : (endA l k).length = l.length := by
  induction k with
  | zero => simp [endA]
  | succ k ih => unfold endA; split <;> simp [ih]
theorem endB_len (l : List PIns) (k : Nat) : (endB l k).length = l.length := by
  induction k with
  | zero => simp [endB, endA_len]
  | succ k ih => unfold endB; split <;> simp [ih]

/-- Everything that is open lies ahead. -/
theorem stk_lt (l : List PIns) (k : Nat) : ∀ t ∈ stk l k, 0 ≤ t ∧ t < (k : Int) := by
  induction k with
  | zero => intro t h; simp [stk] at h
  | succ k ih =>
    intro t h
    have ht : ∀ t ∈ tailP (stk l k) (opOf l k), 0 ≤ t ∧ t < (k : Int) := by
      intro t h
      unfold tailP at h
      split at h
      · exact ih t (List.mem_of_mem_tail h)
      · exact ih t h
    unfold stk behindP at h
    split at h
    · rcases List.mem_cons.1 h with rfl | h
      · omega
      · have := ht t h
        omega
    · have := ht t h
      omega
theorem regAt_lt (l : List PIns) (k : Nat) : -1 ≤ regAt l k ∧ regAt l k < (k : Int) ∧ (stk l k ≠ [] → 0 ≤ regAt l k) := by
  unfold regAt topP
  cases h : stk l k with
  | nil => exact ⟨by decide, by simp; omega, fun h => absurd rfl h⟩
  | cons t r =>
    have := stk_lt l k t (by rw [h]; simp)
    simp
    omega

/-- No error ahead of k. -/
def fine (l : List PIns) (k : Nat) : Prop := ∀ j, j < k → errAt l j = 0

theorem err_zero {l : List PIns} {st : List Int} {x : PIns} (h : wrongP l st x = 0) :
    mayP x = true ∧ (0 < endsI x.op → opAt l st = endsI x.op) ∧ (x.op = 16 → opAt l st = 14) ∧ (beginsB x.op = true → st.length < 5) := by
  unfold wrongP at h
  split at h
  · cases h
  · rename_i h1
    split at h
    · cases h
    · rename_i h2
      split at h
      · cases h
      · rename_i h3
        split at h
        · cases h
        · rename_i h4
          refine ⟨by simpa using h1, fun h5 => ?_, fun h5 => ?_, fun h5 => ?_⟩
          · exact Classical.byContradiction fun h6 => h2 ⟨h5, h6⟩
          · exact Classical.byContradiction fun h6 => h3 ⟨h5, h6⟩
          · exact Nat.lt_of_not_le fun h6 => h4 ⟨h5, h6⟩
theorem opAt_pos {l : List PIns} {st : List Int} (h : opAt l st ≠ 0) : st ≠ [] := by
  intro e
  subst e
  exact h rfl
theorem err_open {l : List PIns} {st : List Int} {x : PIns} (h : wrongP l st x = 0) (hx : 0 < endsI x.op ∨ x.op = 16) : st ≠ [] := by
  obtain ⟨_, h2, h3, _⟩ := err_zero h
  apply opAt_pos (l := l)
  rcases hx with hx | hx
  · rw [h2 hx]; omega
  · rw [h3 hx]; decide
theorem reg_ok {l : List PIns} {k : Nat} (h : errAt l k = 0) (hx : 0 < endsI (opOf l k) ∨ opOf l k = 16) : 0 ≤ regAt l k ∧ regAt l k < (k : Int) :=
  ⟨(regAt_lt l k).2.2 (err_open h hx), (regAt_lt l k).2.1⟩
theorem stk_len {l : List PIns} {k : Nat} (h : fine l k) : (stk l k).length ≤ 5 := by
  induction k with
  | zero => simp [stk]
  | succ k ih =>
    have h1 := ih (fun j hj => h j (by omega))
    have h2 := h k (by omega)
    obtain ⟨_, _, _, h5⟩ := err_zero h2
    have hne := fun hx => err_open (l := l) (st := stk l k) (x := l.getD k PIns.none) h2 hx
    unfold stk behindP tailP opOf
    generalize hop : (l.getD k PIns.none).op = op at *
    by_cases hb : beginsB op = true
    · have h6 := h5 hb
      have h7 : endsI op = 0 := by
        unfold beginsB at hb
        simp at hb
        rcases hb with rfl | rfl <;> decide
      simp [hb, h7]
      omega
    · by_cases h8 : op = 18
      · subst h8
        have h9 := hne (Or.inl (by decide))
        have h10 : 0 < (stk l k).length := List.length_pos_iff.2 h9
        rw [if_pos (by simp), if_pos (by decide)]
        simp
        omega
      · rw [if_neg (by simp [hb, h8])]
        split
        · rw [List.length_tail]; omega
        · exact h1
theorem runP_ok {l : List PIns} (h : okP l = true) : sizeBad l = false ∧ fine l l.length ∧ stk l l.length = [] ∧ (∀ k, k < l.length → jumpBad l k = false) ∧ runP l = (0, 0) := by
  unfold okP at h
  have h' : (runP l).2 = 0 := by simpa using h
  unfold runP at h' ⊢
  cases hs : sizeBad l
  · rw [hs] at h'
    simp only [Bool.false_eq_true, if_false] at h' ⊢
    cases hb : firstBad (badB l) l.length 0 with
    | some k =>
      rw [hb] at h'
      obtain ⟨_, _, h3, _⟩ := firstBad_some hb
      simp [badB] at h3
      exact absurd h' h3
    | none =>
      rw [hb] at h'
      simp only at h' ⊢
      have hn := firstBad_none hb
      cases hk : stk l l.length with
      | cons t r => rw [hk] at h'; simp at h'
      | nil =>
        rw [hk] at h'
        simp only at h' ⊢
        unfold jumpsP at h' ⊢
        cases hj : firstBad (jumpBad l) l.length 0 with
        | some k => rw [hj] at h'; simp at h'
        | none =>
          refine ⟨trivial, fun j hj' => ?_, trivial, fun k hk' => firstBad_none hj k (by omega) (by omega), rfl⟩
          have := hn j (by omega) (by omega)
          simpa [badB] using this
  · rw [hs] at h'
    simp at h'
end Go.Proofs.YtngahgfppbjebaaDoor
