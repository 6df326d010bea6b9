/-
  Plain: a text's runes, its lines, a line's words; a name; a field; a program read of a text; a program's text. No program in sight.
  Plain: a line's words, rune by rune. No program in sight.
  Plain: the lines of a text, one by one; a program read of a text. No program in sight.
  Plain: the lines of a text that have words; blanks, empty lines and remarks more change none of them. No program in sight.
  Plain: a program read of a text's lines that have words; places do not count where nothing is wrong. No program in sight.
-/
import Derived.Test.YtngahgfppbjebaaDoorGrpPlain
import Derived.Test.YtngahgfppbjebaaDoorGrpNameFold
import Derived.Test.YtngahgfppbjebaaDoorGrpSlDec
import Derived.Lib.TrimUEq
import Derived.Lib.MapLaws
import Derived.Lib.TrimAscii
import Derived.Laws.Cover4
import Derived.Lib.Bytealg
namespace Go.Proofs.YtngahgfppbjebaaDoor
open Go.Lib (decodeL decodeL_width decodeL_le decodeL_ascii decodeL_N decodeN)
set_option linter.unusedVariables false
set_option linter.unusedSimpArgs false

abbrev Rn := Nat × Bool
def rnOf (l : List UInt8) : Rn := ((decodeL l).1, decide ((decodeL l).1 = 65533) && decide ((decodeL l).2 = 1))
/-- The runes of a text: each one's number, whether it is a byte of none. -/
def runesL (l : List UInt8) : List Rn :=
  if h : l = [] then [] else rnOf l :: runesL (l.drop (decodeL l).2)
termination_by l.length
decreasing_by
  have h1 := decodeL_width l
  have h2 : 0 < l.length := List.length_pos_iff.2 h
  rw [List.length_drop]
  omega
theorem runesL_nil : runesL [] = [] := by rw [runesL, dif_pos rfl]
theorem runesL_step {l : List UInt8} (h : l ≠ []) : runesL l = rnOf l :: runesL (l.drop (decodeL l).2) := by rw [runesL, dif_neg h]
theorem runesL_ascii (b : UInt8) (t : List UInt8) (h : b.toNat < 128) : runesL (b :: t) = (b.toNat, false) :: runesL t := by
  rw [runesL_step (by simp)]
  have hd := decodeL_ascii b t h
  unfold rnOf
  rw [hd]
  congr 1
  simp
  omega
def rnAt (s : ByteArray) (k : Nat) : Rn := ((Utf8.decode s k).1, decide ((Utf8.decode s k).1 = 65533) && decide ((Utf8.decode s k).2 = 1))
/-- The rune at a place of a text. -/
theorem runes_at (s : ByteArray) (k : Nat) (hk : k < s.size) : runesL (s.data.toList.drop k) = rnAt s k :: runesL (s.data.toList.drop (k + (Utf8.decode s k).2)) ∧
    1 ≤ (Utf8.decode s k).2 ∧ k + (Utf8.decode s k).2 ≤ s.size ∧ (Utf8.decode s k).1 ≤ 1114111 := by
  have hl : s.data.toList.length = s.size := by simp
  have hne : s.data.toList.drop k ≠ [] := by
    intro e
    have := congrArg List.length e
    rw [List.length_drop, hl] at this
    simp at this
    omega
  have hd := Go.Lib.decodeL_drop s k
  have h1 := decodeL_width (s.data.toList.drop k)
  have h2 := decodeL_le _ hne
  have h3 := Go.Lib.decodeL_rune (s.data.toList.drop k)
  rw [List.length_drop, hl] at h2
  refine ⟨?_, by rw [← hd]; exact h1, by rw [← hd]; omega, by rw [← hd]; exact h3⟩
  rw [runesL_step hne, List.drop_drop]
  unfold rnAt rnOf
  rw [hd]
theorem runes_end (s : ByteArray) (k : Nat) (hk : ¬ k < s.size) : runesL (s.data.toList.drop k) = [] := by
  have hl : s.data.toList.length = s.size := by simp
  rw [List.drop_eq_nil_of_le (by omega), runesL_nil]
/-- What stands behind a newline does not count for the runes ahead of it. -/
theorem decodeL_nl (a t : List UInt8) (h : a ≠ []) : decodeL (a ++ 10 :: t) = decodeL a := by
  rw [decodeL_N, decodeL_N]
  match a, h with
  | [x], _ => simp [decodeN]
  | [x, y], _ => simp [decodeN]
  | [x, y, z], _ => simp [decodeN]
  | x :: y :: z :: u :: r, _ => simp [decodeN]
theorem runesL_nl : ∀ (n : Nat) (a t : List UInt8), a.length ≤ n → runesL (a ++ 10 :: t) = runesL a ++ (10, false) :: runesL t
  | 0, a, t, h => by
    have : a = [] := List.eq_nil_of_length_eq_zero (by omega)
    subst this
    rw [List.nil_append, runesL_ascii 10 t (by decide), runesL_nil]
    rfl
  | n + 1, a, t, h => by
    by_cases ha : a = []
    · subst ha
      rw [List.nil_append, runesL_ascii 10 t (by decide), runesL_nil]
      rfl
    · have h1 := decodeL_nl a t ha
      have h2 := decodeL_le a ha
      have h3 := decodeL_width a
      have h4 : 0 < a.length := List.length_pos_iff.2 ha
      rw [runesL_step (by simp), runesL_step ha, h1, List.drop_append_of_le_length h2, runesL_nl n (a.drop (decodeL a).2) t (by rw [List.length_drop]; omega), List.cons_append]
      congr 1
      unfold rnOf
      rw [h1]
/-- A rune of a text without a newline is none. -/
theorem rune_nl : ∀ (n : Nat) (a : List UInt8), a.length ≤ n → (∀ b ∈ a, b ≠ 10) → ∀ x ∈ runesL a, x.1 ≠ 10
  | 0, a, h, _ => by
    have : a = [] := List.eq_nil_of_length_eq_zero (by omega)
    subst this
    rw [runesL_nil]
    intro x hx
    cases hx
  | n + 1, a, h, hb => by
    by_cases ha : a = []
    · subst ha
      rw [runesL_nil]
      intro x hx
      cases hx
    · rw [runesL_step ha]
      intro x hx
      have h2 := decodeL_le a ha
      have h3 := decodeL_width a
      have h4 : 0 < a.length := List.length_pos_iff.2 ha
      rcases List.mem_cons.1 hx with hx | hx
      · subst hx
        obtain ⟨b, t, rfl⟩ := List.exists_cons_of_ne_nil ha
        show (decodeL (b :: t)).1 ≠ 10
        by_cases hlt : b.toNat < 128
        · rw [decodeL_ascii b t hlt]
          intro e
          exact hb b (by simp) (UInt8.toNat_inj.1 e)
        · rw [decodeL_N]
          unfold decodeN
          simp only [List.getD_cons_zero]
          repeat' split
          all_goals (intro e; simp only at e; omega)
      · exact rune_nl n (a.drop (decodeL a).2) (by rw [List.length_drop]; omega) (fun b hb2 => hb b (List.mem_of_mem_drop hb2)) x hx

/-- A rune's bytes. -/
def listOf (b : ByteArray) : List UInt8 := b.data.toList
theorem listOf_eq (b : ByteArray) : listOf b = b.data.toList := rfl
theorem listOf_back (b : ByteArray) : (⟨(listOf b).toArray⟩ : ByteArray) = b := rfl
theorem listOf_len (b : ByteArray) (n : Nat) (h : b.size ≤ n) : (listOf b).length ≤ n := by simpa [listOf] using h
def encB (r : Nat) : List UInt8 := listOf (Utf8.encode (r : Int))
theorem encB_eq (r : Nat) : encB r = listOf (Utf8.encode (r : Int)) := rfl
/-- A word: its text, its column, whether one of its bytes is none of a rune. -/
structure Wd where
  s : List UInt8
  col : Nat
  bad : Bool
deriving DecidableEq
def blankR (x : Rn) : Bool := decide (x.1 = 32) || decide (x.1 = 9)
def growW (cur : Option Wd) (col : Nat) (x : Rn) : Wd := match cur with
  | none => ⟨encB x.1, col, x.2⟩
  | some c => ⟨c.s ++ encB x.1, c.col, c.bad || x.2⟩
def wordsG (cur : Option Wd) (col : Nat) : List Rn → List Wd
  | [] => cur.toList
  | x :: r => if blankR x then cur.toList ++ wordsG none (col + 1) r else wordsG (some (growW cur col x)) (col + 1) r
/-- What of a line is no remark. -/
def bodyR (l : List Rn) : List Rn := l.takeWhile fun x => decide (x.1 ≠ 59)
def wordsR (l : List Rn) : List Wd := wordsG none 1 (bodyR l)
def endR (l : List Rn) : Nat := (bodyR l).length + 1

def letterR (r : Nat) : Bool := decide (97 ≤ r ∧ r ≤ 122) || decide (65 ≤ r ∧ r ≤ 90) || (decide (192 ≤ r ∧ r ≤ 591) && decide (r ≠ 215) && decide (r ≠ 247))
def digitR (r : Nat) : Bool := decide (48 ≤ r ∧ r ≤ 57)
def stepN (n : Nat) (x : Rn) : Bool := letterR x.1 || (decide (0 < n) && digitR x.1)
def nameF : Nat → List Rn → Bool
  | _, [] => true
  | n, x :: r => stepN n x && nameF (n + 1) r
def nameL (l : List Rn) : Bool := nameF 0 l && decide (1 ≤ l.length) && decide (l.length ≤ 8)
def nameP (s : List UInt8) : Bool := nameL (runesL s)

/-- The fields that an instruction's text has. -/
def kindsP (op : Int) : List UInt8 :=
  if op = 1 then [97, 110] else if op = 2 ∨ op = 10 then [97, 98] else if 3 ≤ op ∧ op ≤ 7 then [97, 98, 99] else if op = 8 ∨ op = 9 then [97, 98, 111]
  else if op = 11 ∨ op = 21 then [97] else if op = 12 then [106] else if op = 13 then [97, 106] else if op = 23 then [119, 116, 112] else []
def regP (s : List UInt8) (last : Nat) : Option Nat := match s with
  | [114, d] => decMost last [d]
  | _ => none
/-- A jump to a label: the instruction, the name, where it stands. -/
structure JP where
  at_ : Nat
  s : List UInt8
  line : Nat
  col : Nat
def fieldP (kd : UInt8) (s : List UInt8) (x : PIns) : Option PIns :=
  if kd = 97 then (regP s 7).map fun n => { x with a := n }
  else if kd = 98 then (regP s 7).map fun n => { x with b := n }
  else if kd = 99 then (regP s 7).map fun n => { x with c := n }
  else if kd = 112 then (regP s 6).map fun n => { x with c := n }
  else if kd = 111 then (decMost 15 s).map fun n => { x with c := n }
  else if kd = 116 then (decMost 7 s).map fun n => { x with b := n }
  else if kd = 110 then (decMost 18446744073709551615 s).map fun n => { x with n := n }
  else if kd = 119 then (if isOf callList ⟨s.toArray⟩ then some { x with a := numOf callList ⟨s.toArray⟩ } else none)
  else if kd = 106 then (if nameP s then some x else none)
  else none
/-- What is known between two lines. -/
structure PS where
  l : List PIns
  labels : List (List UInt8 × Nat)
  jumps : List JP
def PS.start : PS := ⟨[], [], []⟩
inductive Out (α : Type) where
  | ok : α → Out α
  | err : Nat → Nat → Out α
/-- The fields of an instruction, word by word. -/
def fieldsP (line endc : Nat) (st : PS) : List UInt8 → List Wd → PIns → List JP → Out PS
  | [], [], x, js => .ok ⟨st.l ++ [x], st.labels, js⟩
  | [], w :: _, _, _ => .err w.col 12
  | _ :: _, [], _, _ => .err endc 12
  | k :: ks, w :: ws, x, js =>
    if w.bad then .err w.col 12 else
    match fieldP k w.s x with
    | none => .err w.col 12
    | some x' => fieldsP line endc st ks ws x' (if k = 106 then js ++ [⟨st.l.length, w.s, line, w.col⟩] else js)
def instrP (line endc : Nat) (st : PS) : List Wd → Out PS
  | [] => .ok st
  | w :: ws =>
    if w.bad || !isOf nameList ⟨w.s.toArray⟩ then .err w.col 12
    else if 40 ≤ st.l.length then .err w.col 4
    else fieldsP line endc st (kindsP (numOf nameList ⟨w.s.toArray⟩)) ws ⟨numOf nameList ⟨w.s.toArray⟩, 0, 0, 0, 0⟩ st.jumps
def lookP (labels : List (List UInt8 × Nat)) (s : List UInt8) : Option Nat := (labels.find? fun e => e.1 == s).map (·.2)
def isLabel (w : Wd) : Bool := !w.bad && (w.s.getLast? == some 58)
def lineP (line : Nat) (st : PS) (l : List Rn) : Out PS := match wordsR l with
  | [] => .ok st
  | w :: ws =>
    if isLabel w then
      (if (lookP st.labels w.s.dropLast).isSome || !nameP w.s.dropLast then .err w.col 12
       else instrP line (endR l) { st with labels := st.labels ++ [(w.s.dropLast, st.l.length)] } ws)
    else instrP line (endR l) st (w :: ws)
/-- The lines of a text, as runes: behind the last newline an empty one is none. -/
def linesR : List Rn → List (List Rn)
  | [] => []
  | x :: r => if x.1 = 10 then [] :: linesR r else match linesR r with
    | [] => [[x]]
    | l :: ls => (x :: l) :: ls
end Go.Proofs.YtngahgfppbjebaaDoor
namespace Go.Proofs.YtngahgfppbjebaaDoor
open Go.Lib
set_option linter.unusedVariables false
set_option linter.unusedSimpArgs false

theorem encB_len (r : Nat) : (encB r).length ≤ 4 := by
  rw [encB_eq]
  exact listOf_len _ _ (encode_size_le r)
/-- Between two runes of a line. -/
structure WInv (s : ByteArray) (k col : Nat) (fin : List Wd) (cur : Option Wd) : Prop where
  le : k ≤ s.size
  few : fin.length + cur.toList.length ≤ k
  colb : col ≤ k + 1
  len : ∀ c, cur = some c → c.s.length ≤ 4 * k
  eq : wordsR (runesL s.data.toList) = fin ++ wordsG cur col (bodyR (runesL (s.data.toList.drop k)))
  endc : endR (runesL s.data.toList) = col + (bodyR (runesL (s.data.toList.drop k))).length
theorem WInv.start (s : ByteArray) : WInv s 0 1 [] none := ⟨Nat.zero_le _, Nat.le_refl _, Nat.le_refl _, fun c h => (by cases h), (by rw [List.drop_zero]; rfl), (by rw [List.drop_zero]; unfold endR; omega)⟩
theorem body_semi (x : Rn) (r : List Rn) (h : x.1 = 59) : bodyR (x :: r) = [] := by simp [bodyR, h]
theorem body_go (x : Rn) (r : List Rn) (h : x.1 ≠ 59) : bodyR (x :: r) = x :: bodyR r := by simp [bodyR, h]
section
variable {s : ByteArray} {k col : Nat} {fin : List Wd} {cur : Option Wd}
theorem WInv.semi (h : WInv s k col fin cur) (hk : k < s.size) (hx : (rnAt s k).1 = 59) : wordsR (runesL s.data.toList) = fin ++ cur.toList ∧ endR (runesL s.data.toList) = col := by
  obtain ⟨h1, _⟩ := runes_at s k hk
  have e1 := h.eq
  have e2 := h.endc
  rw [h1, body_semi _ _ hx] at e1 e2
  exact ⟨e1, e2⟩
theorem WInv.fin_ (h : WInv s k col fin cur) (hk : ¬ k < s.size) : wordsR (runesL s.data.toList) = fin ++ cur.toList ∧ endR (runesL s.data.toList) = col := by
  have e1 := h.eq
  have e2 := h.endc
  rw [runes_end s k hk] at e1 e2
  exact ⟨e1, e2⟩
theorem WInv.blank (h : WInv s k col fin cur) (hk : k < s.size) (hx : (rnAt s k).1 ≠ 59) (hb : blankR (rnAt s k) = true) : WInv s (k + (Utf8.decode s k).2) (col + 1) (fin ++ cur.toList) none := by
  obtain ⟨h1, h2, h3, _⟩ := runes_at s k hk
  have e1 := h.eq
  have e2 := h.endc
  have hx' : (rnAt s k).1 ≠ 59 := hx
  rw [h1, body_go _ _ hx'] at e1 e2
  refine ⟨h3, ?_, ?_, fun c h => (by cases h), ?_, ?_⟩
  · have := h.few
    simp
    omega
  · have := h.colb
    omega
  · rw [e1, wordsG, if_pos (show blankR (rnAt s k) = true from hb), List.append_assoc]
  · rw [e2, List.length_cons]
    omega
theorem WInv.grow (h : WInv s k col fin cur) (hk : k < s.size) (hx : (rnAt s k).1 ≠ 59) (hb : blankR (rnAt s k) = false) : WInv s (k + (Utf8.decode s k).2) (col + 1) fin (some (growW cur col (rnAt s k))) := by
  obtain ⟨h1, h2, h3, _⟩ := runes_at s k hk
  have e1 := h.eq
  have e2 := h.endc
  have hx' : (rnAt s k).1 ≠ 59 := hx
  rw [h1, body_go _ _ hx'] at e1 e2
  refine ⟨h3, ?_, ?_, ?_, ?_, ?_⟩
  · have := h.few
    simp
    omega
  · have := h.colb
    omega
  · intro c hc
    injection hc with hc
    subst hc
    have h4 := encB_len (rnAt s k).1
    rcases cur with _ | c
    · simp only [growW]
      omega
    · have := h.len c rfl
      simp only [growW, List.length_append]
      omega
  · rw [e1, wordsG, if_neg (by rw [show blankR (_ : Rn) = false from hb]; simp)]
  · rw [e2, List.length_cons]
    omega
end
theorem runesL_len : ∀ (n : Nat) (l : List UInt8), l.length ≤ n → (runesL l).length ≤ l.length
  | 0, l, h => by
    have : l = [] := List.eq_nil_of_length_eq_zero (by omega)
    subst this
    rw [runesL_nil]
    exact Nat.le_refl _
  | n + 1, l, h => by
    by_cases ha : l = []
    · subst ha
      rw [runesL_nil]
      exact Nat.le_refl _
    · have h1 := decodeL_width l
      have h2 : 0 < l.length := List.length_pos_iff.2 ha
      rw [runesL_step ha, List.length_cons]
      have := runesL_len n (l.drop (decodeL l).2) (by rw [List.length_drop]; omega)
      rw [List.length_drop] at this
      omega
def lenO : Option Wd → Nat
  | none => 0
  | some c => c.s.length
theorem growW_len (cur : Option Wd) (col : Nat) (x : Rn) : (growW cur col x).s.length ≤ lenO cur + 4 := by
  have h4 := encB_len x.1
  rcases cur with _ | c
  · simp only [growW, lenO]
    omega
  · simp only [growW, lenO, List.length_append]
    omega
theorem wordsG_len : ∀ (l : List Rn) (cur : Option Wd) (col : Nat), ∀ x ∈ wordsG cur col l, x.s.length ≤ lenO cur + 4 * l.length
  | [], cur, col, x, hx => by
    rcases cur with _ | c
    · simp [wordsG] at hx
    · simp [wordsG] at hx
      subst hx
      simp [lenO]
  | y :: r, cur, col, x, hx => by
    rw [wordsG] at hx
    rw [List.length_cons]
    split at hx
    · rcases List.mem_append.1 hx with h | h
      · rcases cur with _ | c
        · simp at h
        · simp at h
          subst h
          simp only [lenO]
          omega
      · have := wordsG_len r none (col + 1) x h
        simp only [lenO] at this
        omega
    · have := wordsG_len r (some (growW cur col y)) (col + 1) x hx
      have h2 := growW_len cur col y
      simp only [lenO] at this
      omega
theorem bodyR_len (l : List Rn) : (bodyR l).length ≤ l.length := (List.takeWhile_sublist _).length_le
theorem wordsR_len (l : List Rn) : ∀ x ∈ wordsR l, x.s.length ≤ 4 * l.length := by
  intro x hx
  have := wordsG_len (bodyR l) none 1 x hx
  have h2 := bodyR_len l
  simp only [lenO] at this
  omega
end Go.Proofs.YtngahgfppbjebaaDoor
namespace Go.Proofs.YtngahgfppbjebaaDoor
open Go.Lib
set_option linter.unusedVariables false
set_option linter.unusedSimpArgs false

/-- A text's first line, and what is behind it. -/
def Nl (s la lt : List UInt8) : Prop := (lt = [] ∧ la = s ∧ ∀ b ∈ s, b ≠ 10) ∨ (s = la ++ 10 :: lt ∧ ∀ b ∈ la, b ≠ 10)
theorem index_nl : ∀ (l : List UInt8), (indexByte l 10 = -1 ∧ ∀ b ∈ l, b ≠ 10) ∨ ∃ a t, l = a ++ 10 :: t ∧ (∀ b ∈ a, b ≠ 10) ∧ indexByte l 10 = (a.length : Int)
  | [] => .inl ⟨rfl, fun b h => by cases h⟩
  | b :: l => by
    by_cases hb : b = 10
    · subst hb
      exact .inr ⟨[], l, rfl, (fun b h => by cases h), rfl⟩
    · have hbb : (b == 10) = false := by simpa using hb
      rcases index_nl l with ⟨h1, h2⟩ | ⟨a, t, h1, h2, h3⟩
      · refine .inl ⟨?_, ?_⟩
        · simp [indexByte, hbb, h1]
        · intro c hc
          rcases List.mem_cons.1 hc with h | h
          · rw [h]; exact hb
          · exact h2 c h
      · refine .inr ⟨b :: a, t, by rw [h1]; rfl, ?_, ?_⟩
        · intro c hc
          rcases List.mem_cons.1 hc with h | h
          · rw [h]; exact hb
          · exact h2 c h
        · have h4 : (indexByte l 10 == -1) = false := by
            rw [h3, beq_eq_false_iff_ne]
            omega
          simp [indexByte, hbb, h4, h3]
theorem linesR_one : ∀ (l : List Rn), l ≠ [] → (∀ x ∈ l, x.1 ≠ 10) → linesR l = [l]
  | [], h, _ => absurd rfl h
  | [x], _, hx => by
    have := hx x (by simp)
    simp [linesR, this]
  | x :: y :: r, _, hx => by
    have h1 := hx x (by simp)
    have h2 := linesR_one (y :: r) (by simp) (fun z hz => hx z (List.mem_cons_of_mem _ hz))
    rw [linesR, if_neg h1, h2]
theorem linesR_cut : ∀ (a t : List Rn) (q : Bool), (∀ x ∈ a, x.1 ≠ 10) → linesR (a ++ (10, q) :: t) = a :: linesR t
  | [], t, q, _ => by simp [linesR]
  | x :: a, t, q, hx => by
    have h1 := hx x (by simp)
    have h2 := linesR_cut a t q (fun z hz => hx z (List.mem_cons_of_mem _ hz))
    rw [List.cons_append, linesR, if_neg h1, h2]
theorem runesL_ne {l : List UInt8} (h : l ≠ []) : runesL l ≠ [] := by
  rw [runesL_step h]
  simp
theorem lines_nl {s la lt : List UInt8} (hs : s ≠ []) (h : Nl s la lt) : linesR (runesL s) = runesL la :: linesR (runesL lt) := by
  rcases h with ⟨h1, h2, h3⟩ | ⟨h1, h2⟩
  · subst h1 h2
    rw [linesR_one _ (runesL_ne hs) (rune_nl _ la (Nat.le_refl _) h3), runesL_nil]
    rfl
  · subst h1
    rw [runesL_nl _ la lt (Nat.le_refl _), linesR_cut _ _ _ (rune_nl _ la (Nat.le_refl _) h2)]
theorem Nl.len {s la lt : List UInt8} (h : Nl s la lt) (hs : s ≠ []) : la.length ≤ s.length ∧ lt.length < s.length := by
  have h0 : 0 < s.length := List.length_pos_iff.2 hs
  rcases h with ⟨h1, h2, _⟩ | ⟨h1, _⟩
  · subst h1 h2
    exact ⟨Nat.le_refl _, h0⟩
  · subst h1
    simp
    omega
/-- Lines, one by one: where one is wrong, its number, the column and the error. -/
inductive Res (α : Type) where
  | ok : α → Res α
  | err : Nat → Nat → Nat → Res α
def linesP (line : Nat) (st : PS) : List (List Rn) → Res PS
  | [] => .ok st
  | l :: ls => match lineP (line + 1) st l with
    | .err c e => .err (line + 1) c e
    | .ok st' => linesP (line + 1) st' ls
def setC (l : List PIns) (k c : Nat) : List PIns := l.set k { l.getD k PIns.none with c := (c : Int) }
def resolveP (labels : List (List UInt8 × Nat)) : List JP → List PIns → Res (List PIns)
  | [], l => .ok l
  | j :: js, l => match lookP labels j.s with
    | none => .err j.line j.col 12
    | some c => resolveP labels js (setC l j.at_ c)
/-- A program of its text; else where it is wrong. -/
def parseP (s : List UInt8) : List PIns × Nat × Nat × Nat :=
  if 4000 < s.length then ([], 1, 1, 4) else match linesP 0 PS.start (linesR (runesL s)) with
    | .err a b c => ([], a, b, c)
    | .ok st => match resolveP st.labels st.jumps st.l with
      | .err a b c => ([], a, b, c)
      | .ok l => (l, 0, 0, 0)
/-- What stays true of a parser's state. -/
structure PSok (st : PS) (line : Nat) : Prop where
  few : st.l.length ≤ 40
  jumps : st.jumps.length ≤ 3 * st.l.length
  labels : st.labels.length ≤ line
  at_ : ∀ j ∈ st.jumps, j.at_ < st.l.length
  labat : ∀ e ∈ st.labels, e.2 ≤ 40
theorem PSok.start : PSok PS.start 0 := ⟨Nat.zero_le _, Nat.zero_le _, Nat.le_refl _, (fun j h => by cases h), (fun e h => by cases h)⟩
theorem fieldsP_ok {line endc : Nat} {st : PS} : ∀ (ks : List UInt8) (ws : List Wd) (x : PIns) (js : List JP) (st' : PS), fieldsP line endc st ks ws x js = .ok st' → (∀ j ∈ js, j.at_ ≤ st.l.length) →
    st'.l.length = st.l.length + 1 ∧ st'.labels = st.labels ∧ st'.jumps.length ≤ js.length + ks.length ∧ ∀ j ∈ st'.jumps, j.at_ ≤ st.l.length
  | [], [], x, js, st', h, hj => by
    rw [fieldsP] at h
    injection h with h
    subst h
    exact ⟨by simp, rfl, by simp, hj⟩
  | [], w :: ws, x, js, st', h, hj => by
    rw [fieldsP] at h
    cases h
  | k :: ks, [], x, js, st', h, hj => by
    rw [fieldsP] at h
    cases h
  | k :: ks, w :: ws, x, js, st', h, hj => by
    rw [fieldsP] at h
    split at h
    · cases h
    · split at h
      · cases h
      · rename_i x' hx
        have hj2 : ∀ j ∈ (if k = 106 then js ++ [⟨st.l.length, w.s, line, w.col⟩] else js), j.at_ ≤ st.l.length := by
          intro j hjm
          split at hjm
          · rcases List.mem_append.1 hjm with h1 | h1
            · exact hj j h1
            · simp at h1
              subst h1
              exact Nat.le_refl _
          · exact hj j hjm
        obtain ⟨h1, h2, h3, h4⟩ := fieldsP_ok ks ws x' _ st' h hj2
        refine ⟨h1, h2, ?_, h4⟩
        rw [List.length_cons]
        split at h3
        · rw [List.length_append] at h3
          simp at h3
          omega
        · omega
theorem kinds3 (op : Int) : (kindsP op).length ≤ 3 := by
  unfold kindsP
  repeat' split
  all_goals decide
theorem instrP_ok {line endc : Nat} {st st' : PS} {ws : List Wd} (h : instrP line endc st ws = .ok st') {n : Nat} (hs : PSok st n) : PSok st' n := by
  cases ws with
  | nil =>
    simp only [instrP] at h
    injection h with h
    subst h
    exact hs
  | cons w r =>
    simp only [instrP] at h
    split at h
    · cases h
    · split at h
      · cases h
      · rename_i h40
        obtain ⟨h1, h2, h3, h4⟩ := fieldsP_ok _ _ _ _ _ h (fun j hj => Nat.le_of_lt (hs.at_ j hj))
        have hk := kinds3 (numOf nameList ⟨w.s.toArray⟩)
        have := hs.jumps
        refine ⟨by omega, by omega, by rw [h2]; exact hs.labels, fun j hj => by have := h4 j hj; omega, by rw [h2]; exact hs.labat⟩
theorem lineP_ok {line : Nat} {st st' : PS} {rs : List Rn} {n : Nat} (h : lineP line st rs = .ok st') (hs : PSok st n) : PSok st' (n + 1) := by
  unfold lineP at h
  have hup : ∀ {s : PS}, PSok s n → PSok s (n + 1) := fun h => ⟨h.few, h.jumps, by have := h.labels; omega, h.at_, h.labat⟩
  split at h
  · injection h with h
    subst h
    exact hup hs
  · split at h
    · split at h
      · cases h
      · refine instrP_ok h ⟨hs.few, hs.jumps, ?_, hs.at_, ?_⟩
        · have := hs.labels
          rw [List.length_append]
          simp
          omega
        · intro e he
          rcases List.mem_append.1 he with h1 | h1
          · exact hs.labat e h1
          · simp at h1
            subst h1
            exact hs.few
    · exact instrP_ok h (hup hs)
end Go.Proofs.YtngahgfppbjebaaDoor
namespace Go.Proofs.YtngahgfppbjebaaDoor
open Go.Lib
set_option linter.unusedVariables false
set_option linter.unusedSimpArgs false

/-- A word without its place. -/
abbrev EW := List UInt8 × Bool
def ewd (w : Wd) : EW := (w.s, w.bad)
def growE (cur : Option EW) (x : Rn) : EW := match cur with
  | none => (encB x.1, x.2)
  | some c => (c.1 ++ encB x.1, c.2 || x.2)
def wordsE (cur : Option EW) : List Rn → List EW
  | [] => cur.toList
  | x :: r => if blankR x then cur.toList ++ wordsE none r else wordsE (some (growE cur x)) r
theorem wordsE_eq : ∀ (l : List Rn) (cur : Option Wd) (col : Nat), (wordsG cur col l).map ewd = wordsE (cur.map ewd) l
  | [], cur, col => by cases cur <;> rfl
  | x :: r, cur, col => by
    rw [wordsG, wordsE]
    by_cases hb : blankR x = true
    · rw [if_pos hb, if_pos hb, List.map_append, wordsE_eq r none]
      cases cur <;> rfl
    · rw [if_neg hb, if_neg hb, wordsE_eq r]
      cases cur <;> simp [growW, growE, ewd]
/-- A line's words, without their places. -/
def lineW (l : List Rn) : List EW := wordsE none (bodyR l)
theorem lineW_eq (l : List Rn) : (wordsR l).map ewd = lineW l := wordsE_eq _ none 1
def flat (rem : Bool) (cur : Option EW) (acc : List EW) : List Rn → List (List EW)
  | [] => [acc ++ cur.toList]
  | x :: r =>
    if x.1 = 10 then (acc ++ cur.toList) :: flat false none [] r
    else if rem then flat true cur acc r
    else if x.1 = 59 then flat true cur acc r
    else if blankR x then flat false none (acc ++ cur.toList) r
    else flat false (some (growE cur x)) acc r
def someW (l : List EW) : Bool := !l.isEmpty
theorem flat_lines : ∀ (l : List Rn) (rem : Bool) (cur : Option EW) (acc : List EW), (flat rem cur acc l).filter someW =
    ((acc ++ (if rem then cur.toList else wordsE cur (bodyR ((linesR l).headD [])))) :: (linesR l).tail.map lineW).filter someW
  | [], rem, cur, acc => by
    cases rem <;> rfl
  | x :: r, rem, cur, acc => by
    by_cases h10 : x.1 = 10
    · have e : linesR (x :: r) = [] :: linesR r := by rw [linesR, if_pos h10]
      rw [flat, if_pos h10, e, List.headD_cons, List.tail_cons]
      have h1 := flat_lines r false none []
      have h2 : (if rem = true then cur.toList else wordsE cur (bodyR [])) = cur.toList := by cases rem <;> rfl
      rw [h2, List.filter_cons, List.filter_cons, h1]
      have h3 : List.filter someW (([] ++ if false = true then (none : Option EW).toList else wordsE none (bodyR ((linesR r).headD []))) :: List.map lineW (linesR r).tail) = List.filter someW (List.map lineW (linesR r)) := by
        cases linesR r with
        | nil => rfl
        | cons a t => rfl
      rw [h3]
    · have e : linesR (x :: r) = (x :: (linesR r).headD []) :: (linesR r).tail := by
        rw [linesR, if_neg h10]
        cases linesR r <;> rfl
      rw [flat, if_neg h10, e, List.headD_cons, List.tail_cons]
      cases rem with
      | true =>
        rw [if_pos rfl, flat_lines r true cur acc, if_pos rfl]
        rfl
      | false =>
        simp only [Bool.false_eq_true, if_false]
        by_cases h59 : x.1 = 59
        · rw [if_pos h59, flat_lines r true cur acc, if_pos rfl]
          have : bodyR (x :: (linesR r).headD []) = [] := by simp [bodyR, h59]
          rw [this]
          rfl
        · have hbd : bodyR (x :: (linesR r).headD []) = x :: bodyR ((linesR r).headD []) := by simp [bodyR, h59]
          rw [if_neg h59, hbd, wordsE]
          by_cases hb : blankR x = true
          · rw [if_pos hb, if_pos hb, flat_lines r false none _, List.append_assoc]
            rfl
          · rw [if_neg hb, if_neg hb, flat_lines r false _ acc]
            rfl
/-- A text's lines that have words. -/
def flatL (s : List UInt8) : List (List EW) := (flat false none [] (runesL s)).filter someW
theorem flatL_eq (s : List UInt8) : ((linesR (runesL s)).map lineW).filter someW = flatL s := by
  unfold flatL
  rw [flat_lines]
  cases linesR (runesL s) <;> rfl
/-- Behind a remark's beginning nothing counts, up to the line's end. -/
theorem flat_rem : ∀ (a : List Rn) (q : Bool) (cur : Option EW) (acc : List EW) (r : List Rn), (∀ x ∈ a, x.1 ≠ 10) → flat true cur acc (a ++ (10, q) :: r) = (acc ++ cur.toList) :: flat false none [] r
  | [], q, cur, acc, r, _ => by rw [List.nil_append, flat, if_pos rfl]
  | x :: a, q, cur, acc, r, h => by
    rw [List.cons_append, flat, if_neg (h x (by simp)), if_pos rfl]
    exact flat_rem a q cur acc r (fun y hy => h y (List.mem_cons_of_mem _ hy))
theorem flat_blank (b : UInt8) (q : Bool) (h : b = 32 ∨ b = 9) (cur : Option EW) (acc : List EW) (r : List Rn) : flat false cur acc ((b.toNat, q) :: r) = flat false none (acc ++ cur.toList) r := by
  rcases h with rfl | rfl
  · rfl
  · rfl
theorem flat_nl (q : Bool) (rem : Bool) (cur : Option EW) (acc : List EW) (r : List Rn) : flat rem cur acc ((10, q) :: r) = (acc ++ cur.toList) :: flat false none [] r := by rw [flat, if_pos rfl]
theorem flat_semi (q : Bool) (cur : Option EW) (acc : List EW) (r : List Rn) : flat false cur acc ((59, q) :: r) = flat true cur acc r := rfl

def spGaps : List (List UInt8) := [[32], [9], [32, 32], [32, 9, 32]]
def remark1 : List UInt8 := [32, 115, 111, 32, 114, 57, 32, 195, 169, 32, 255]
def remark2 : List UInt8 := [120, 58]
def nlGaps : List (List UInt8) := [[10], [32, 10], 32 :: 59 :: (remark1 ++ [10]), 10 :: 32 :: 10 :: 59 :: (remark2 ++ [10, 9])]
/-- A text with more blanks, empty lines and remarks. -/
inductive Loose : List UInt8 → List UInt8 → Prop
  | nil : Loose [] []
  | sp {g s t : List UInt8} : g ∈ spGaps → Loose s t → Loose (32 :: s) (g ++ t)
  | nl {g s t : List UInt8} : g ∈ nlGaps → Loose s t → Loose (10 :: s) (g ++ t)
  | other {c : UInt8} {s t : List UInt8} : c ≠ 32 → c ≠ 10 → c ≠ 59 → c.toNat < 128 → Loose s t → Loose (c :: s) (c :: t)
theorem Loose.app {a b s t : List UInt8} (h : Loose a b) (h2 : Loose s t) : Loose (a ++ s) (b ++ t) := by
  induction h with
  | nil => exact h2
  | sp hg _ ih => rw [List.append_assoc]; exact .sp hg ih
  | nl hg _ ih => rw [List.append_assoc]; exact .nl hg ih
  | other h1 h3 h4 h5 _ ih => exact .other h1 h3 h4 h5 ih
theorem Loose.len {a b : List UInt8} (h : Loose a b) : a.length ≤ b.length ∧ b.length ≤ 30 * a.length := by
  induction h with
  | nil => exact ⟨Nat.le_refl _, Nat.le_refl _⟩
  | @sp g s t hg _ ih =>
    have : 1 ≤ g.length ∧ g.length ≤ 30 := by
      have := (List.all_eq_true (l := spGaps) (p := fun g => decide (1 ≤ g.length ∧ g.length ≤ 30))).1 (by decide) g hg
      exact of_decide_eq_true this
    simp only [List.length_append, List.length_cons]
    omega
  | @nl g s t hg _ ih =>
    have : 1 ≤ g.length ∧ g.length ≤ 30 := by
      have := (List.all_eq_true (l := nlGaps) (p := fun g => decide (1 ≤ g.length ∧ g.length ≤ 30))).1 (by decide) g hg
      exact of_decide_eq_true this
    simp only [List.length_append, List.length_cons]
    omega
  | other h1 h3 h4 h5 _ ih =>
    simp only [List.length_cons]
    omega
theorem runes_rem {a : List UInt8} (h : ∀ b ∈ a, b ≠ 10) (t : List UInt8) (cur : Option EW) (acc : List EW) : flat true cur acc (runesL (a ++ 10 :: t)) = (acc ++ cur.toList) :: flat false none [] (runesL t) := by
  rw [runesL_nl _ a t (Nat.le_refl _)]
  exact flat_rem _ _ _ _ _ (rune_nl _ a (Nat.le_refl _) h)
theorem flat_asc (b : UInt8) (h : b.toNat < 128) (rem : Bool) (cur : Option EW) (acc : List EW) (t : List UInt8) : flat rem cur acc (runesL (b :: t)) = flat rem cur acc ((b.toNat, false) :: runesL t) := by rw [runesL_ascii b t h]
theorem flat_sp (b : UInt8) (h : b = 32 ∨ b = 9) (cur : Option EW) (acc : List EW) (t : List UInt8) : flat false cur acc (runesL (b :: t)) = flat false none (acc ++ cur.toList) (runesL t) := by
  rw [flat_asc b (by rcases h with rfl | rfl <;> decide), flat_blank b _ h]
theorem flat_10 (rem : Bool) (cur : Option EW) (acc : List EW) (t : List UInt8) : flat rem cur acc (runesL (10 :: t)) = (acc ++ cur.toList) :: flat false none [] (runesL t) := by
  rw [flat_asc 10 (by decide)]
  exact flat_nl _ _ _ _ _
theorem flat_59 (cur : Option EW) (acc : List EW) (t : List UInt8) : flat false cur acc (runesL (59 :: t)) = flat true cur acc (runesL t) := by
  rw [flat_asc 59 (by decide)]
  exact flat_semi _ _ _ _
theorem loose_flat {s t : List UInt8} (h : Loose s t) : ∀ (cur : Option EW) (acc : List EW), (flat false cur acc (runesL t)).filter someW = (flat false cur acc (runesL s)).filter someW := by
  induction h with
  | nil => intro cur acc; rfl
  | @sp g s t hg hst ih =>
    intro cur acc
    rw [flat_sp 32 (.inl rfl), ← ih none (acc ++ cur.toList)]
    simp only [spGaps, List.mem_cons, List.not_mem_nil, or_false] at hg
    rcases hg with rfl | rfl | rfl | rfl
    · rw [List.cons_append, List.nil_append, flat_sp 32 (.inl rfl)]
    · rw [List.cons_append, List.nil_append, flat_sp 9 (.inr rfl)]
    · rw [List.cons_append, List.cons_append, List.nil_append, flat_sp 32 (.inl rfl), flat_sp 32 (.inl rfl)]
      simp
    · rw [List.cons_append, List.cons_append, List.cons_append, List.nil_append, flat_sp 32 (.inl rfl), flat_sp 9 (.inr rfl), flat_sp 32 (.inl rfl)]
      simp
  | @nl g s t hg hst ih =>
    intro cur acc
    have h0 := ih none []
    rw [flat_10, List.filter_cons, ← h0]
    simp only [nlGaps, List.mem_cons, List.not_mem_nil, or_false] at hg
    rcases hg with rfl | rfl | rfl | rfl
    · rw [List.cons_append, List.nil_append, flat_10, List.filter_cons]
    · rw [List.cons_append, List.cons_append, List.nil_append, flat_sp 32 (.inl rfl), flat_10, List.filter_cons]
      simp
    · have e : (32 :: 59 :: (remark1 ++ [10]) : List UInt8) ++ t = 32 :: 59 :: (remark1 ++ 10 :: t) := by simp
      rw [e, flat_sp 32 (.inl rfl), flat_59, runes_rem (by decide), List.filter_cons]
      simp
    · have e : (10 :: 32 :: 10 :: 59 :: (remark2 ++ [10, 9]) : List UInt8) ++ t = 10 :: 32 :: 10 :: 59 :: (remark2 ++ 10 :: 9 :: t) := by simp
      rw [e, flat_10, flat_sp 32 (.inl rfl), flat_10, flat_59, runes_rem (by decide), flat_sp 9 (.inr rfl), List.filter_cons, List.filter_cons, List.filter_cons]
      simp [someW]
  | @other c s t h1 h3 h4 h5 hst ih =>
    intro cur acc
    rw [flat_asc c h5, flat_asc c h5]
    have e1 : ¬ c.toNat = 10 := fun e => h3 (UInt8.toNat_inj.1 e)
    have e2 : ¬ c.toNat = 59 := fun e => h4 (UInt8.toNat_inj.1 e)
    have step : ∀ (r : List Rn), flat false cur acc ((c.toNat, false) :: r) = if blankR (c.toNat, false) then flat false none (acc ++ cur.toList) r else flat false (some (growE cur (c.toNat, false))) acc r := by
      intro r
      rw [flat, if_neg e1, if_neg (by simp), if_neg e2]
    rw [step, step]
    split
    · exact ih _ _
    · exact ih _ _
/-- More blanks, tabs, empty lines and remarks: the lines with words are the same. -/
theorem loose_flatL {s t : List UInt8} (h : Loose s t) : flatL t = flatL s := loose_flat h none []
end Go.Proofs.YtngahgfppbjebaaDoor
namespace Go.Proofs.YtngahgfppbjebaaDoor
open Go.Lib
set_option linter.unusedVariables false
set_option linter.unusedSimpArgs false

abbrev EJ := Nat × List UInt8
structure ES where
  l : List PIns
  labels : List (List UInt8 × Nat)
  jumps : List EJ
def jEr (j : JP) : EJ := (j.at_, j.s)
def PS.er (st : PS) : ES := ⟨st.l, st.labels, st.jumps.map jEr⟩
def fieldsE (st : ES) : List UInt8 → List EW → PIns → List EJ → Option ES
  | [], [], x, js => some ⟨st.l ++ [x], st.labels, js⟩
  | [], _ :: _, _, _ => none
  | _ :: _, [], _, _ => none
  | k :: ks, w :: ws, x, js =>
    if w.2 then none else
    match fieldP k w.1 x with
    | none => none
    | some x' => fieldsE st ks ws x' (if k = 106 then js ++ [(st.l.length, w.1)] else js)
def instrE (st : ES) : List EW → Option ES
  | [] => some st
  | w :: ws =>
    if w.2 || !isOf nameList ⟨w.1.toArray⟩ then none
    else if 40 ≤ st.l.length then none
    else fieldsE st (kindsP (numOf nameList ⟨w.1.toArray⟩)) ws ⟨numOf nameList ⟨w.1.toArray⟩, 0, 0, 0, 0⟩ st.jumps
def isLabelE (w : EW) : Bool := !w.2 && (w.1.getLast? == some 58)
def lineE (st : ES) : List EW → Option ES
  | [] => some st
  | w :: ws =>
    if isLabelE w then
      (if (lookP st.labels w.1.dropLast).isSome || !nameP w.1.dropLast then none
       else instrE { st with labels := st.labels ++ [(w.1.dropLast, st.l.length)] } ws)
    else instrE st (w :: ws)
def linesE (st : ES) : List (List EW) → Option ES
  | [] => some st
  | l :: ls => (lineE st l).bind fun st' => linesE st' ls
def Out.er : Out PS → Option ES
  | .ok st => some st.er
  | .err _ _ => none
def Res.er : Res PS → Option ES
  | .ok st => some st.er
  | .err _ _ _ => none
theorem fields_er (line endc : Nat) (st : PS) : ∀ (ks : List UInt8) (ws : List Wd) (x : PIns) (js : List JP), (fieldsP line endc st ks ws x js).er = fieldsE st.er ks (ws.map ewd) x (js.map jEr)
  | [], [], x, js => rfl
  | [], w :: ws, x, js => rfl
  | k :: ks, [], x, js => rfl
  | k :: ks, w :: ws, x, js => by
    rw [fieldsP, List.map_cons, fieldsE]
    by_cases hb : w.bad = true
    · rw [if_pos hb, if_pos (show (ewd w).2 = true from hb)]
      rfl
    · rw [if_neg hb, if_neg (show ¬ (ewd w).2 = true from hb), show (ewd w).1 = w.s from rfl]
      cases fieldP k w.s x with
      | none => rfl
      | some x' =>
        simp only
        rw [fields_er line endc st ks ws x' _]
        congr 1
        by_cases hk : k = 106
        · rw [if_pos hk, if_pos hk, List.map_append]
          rfl
        · rw [if_neg hk, if_neg hk]
theorem instr_er (line endc : Nat) (st : PS) (ws : List Wd) : (instrP line endc st ws).er = instrE st.er (ws.map ewd) := by
  cases ws with
  | nil => rfl
  | cons w ws =>
    rw [instrP, List.map_cons, instrE]
    by_cases h1 : (w.bad || !isOf nameList ⟨w.s.toArray⟩) = true
    · rw [if_pos h1, if_pos (show ((ewd w).2 || !isOf nameList ⟨(ewd w).1.toArray⟩) = true from h1)]
      rfl
    · rw [if_neg h1, if_neg (show ¬ ((ewd w).2 || !isOf nameList ⟨(ewd w).1.toArray⟩) = true from h1)]
      by_cases h2 : 40 ≤ st.l.length
      · rw [if_pos h2, if_pos (show 40 ≤ st.er.l.length from h2)]
        rfl
      · rw [if_neg h2, if_neg (show ¬ 40 ≤ st.er.l.length from h2)]
        exact fields_er _ _ _ _ _ _ _
theorem line_er (line : Nat) (st : PS) (l : List Rn) : (lineP line st l).er = lineE st.er (lineW l) := by
  unfold lineP
  rw [← lineW_eq]
  cases wordsR l with
  | nil => rfl
  | cons w ws =>
    simp only [List.map_cons]
    rw [lineE]
    have hl : isLabelE (ewd w) = isLabel w := rfl
    rw [hl]
    by_cases h1 : isLabel w = true
    · rw [if_pos h1, if_pos h1]
      by_cases h2 : ((lookP st.labels w.s.dropLast).isSome || !nameP w.s.dropLast) = true
      · rw [if_pos h2, if_pos (show ((lookP st.er.labels (ewd w).1.dropLast).isSome || !nameP (ewd w).1.dropLast) = true from h2)]
        rfl
      · rw [if_neg h2, if_neg (show ¬ ((lookP st.er.labels (ewd w).1.dropLast).isSome || !nameP (ewd w).1.dropLast) = true from h2)]
        exact instr_er _ _ _ _
    · rw [if_neg h1, if_neg h1]
      exact instr_er _ _ _ (w :: ws)
theorem lines_er : ∀ (ls : List (List Rn)) (line : Nat) (st : PS), (linesP line st ls).er = linesE st.er (ls.map lineW)
  | [], line, st => rfl
  | l :: ls, line, st => by
    rw [linesP, List.map_cons, linesE, ← line_er (line + 1)]
    cases lineP (line + 1) st l with
    | ok st' => exact lines_er ls (line + 1) st'
    | err c e => rfl
theorem linesE_some : ∀ (ls : List (List EW)) (st : ES), linesE st (ls.filter someW) = linesE st ls
  | [], st => rfl
  | l :: ls, st => by
    rw [List.filter_cons]
    cases l with
    | nil =>
      rw [if_neg (by simp [someW]), linesE_some ls st]
      rfl
    | cons w ws =>
      rw [if_pos (by simp [someW]), linesE, linesE]
      cases lineE st (w :: ws) with
      | none => rfl
      | some st' => exact linesE_some ls st'
def resE (labels : List (List UInt8 × Nat)) : List EJ → List PIns → Option (List PIns)
  | [], l => some l
  | j :: js, l => match lookP labels j.2 with
    | none => none
    | some c => resE labels js (setC l j.1 c)
theorem res_er (labels : List (List UInt8 × Nat)) : ∀ (js : List JP) (l : List PIns), (match resolveP labels js l with | .ok l => some l | .err _ _ _ => none) = resE labels (js.map jEr) l
  | [], l => rfl
  | j :: js, l => by
    rw [resolveP, List.map_cons, resE]
    show _ = match lookP labels j.s with | none => none | some c => resE labels (js.map jEr) (setC l j.at_ c)
    cases lookP labels j.s with
    | none => rfl
    | some c => exact res_er labels js _
/-- A program of a text's lines that have words, if nothing is wrong. -/
def parseE (ls : List (List EW)) : Option (List PIns) := (linesE PS.start.er ls).bind fun st => resE st.labels st.jumps st.l
theorem parse_of {s : List UInt8} {l : List PIns} (h4 : s.length ≤ 4000) (h : parseE (flatL s) = some l) : parseP s = (l, 0, 0, 0) := by
  unfold parseP
  rw [if_neg (by omega)]
  unfold parseE at h
  rw [← flatL_eq, linesE_some, ← lines_er _ 0] at h
  cases hl : linesP 0 PS.start (linesR (runesL s)) with
  | err a b c =>
    rw [hl] at h
    cases h
  | ok st =>
    rw [hl] at h
    have h2 : resE st.er.labels st.er.jumps st.er.l = some l := h
    have h3 := res_er st.labels st.jumps st.l
    have h4 : resE st.labels (st.jumps.map jEr) st.l = some l := h2
    rw [h4] at h3
    simp only
    cases hr : resolveP st.labels st.jumps st.l with
    | err a b c =>
      rw [hr] at h3
      cases h3
    | ok l' =>
      rw [hr] at h3
      injection h3 with h3
      rw [h3]
end Go.Proofs.YtngahgfppbjebaaDoor
