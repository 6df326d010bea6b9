/-
  Plain: a text's runes, its lines, a line's words; a name; a field; a program read of a text; a program's text. No program in sight.
-/
import Derived.Test.YtngahgfppbjebaaDoorPlain
import Derived.Test.YtngahgfppbjebaaDoorNameFold
import Derived.Test.YtngahgfppbjebaaDoorSlPlain
import Derived.Lib.TrimUEq
import Derived.Lib.MapLaws
import Derived.Lib.TrimAscii
namespace Go.Proofs.YtngahgfppbjebaaDoor
open Go.Lib (decodeL decodeL_width decodeL_le decodeL_ascii decodeL_N decodeN)
set_option linter.unusedVariables false
set_option linter.unusedSimpArgs false

abbrev Rn := Nat × Bool
def rnOf (l : List UInt8) : Rn := ((decodeL l).1, decide ((decodeL l).1 = 65533) && decide ((decodeL l).2 = 1))
/-- The runes of a text: each one's number, whether it is a byte of none. -/
def runesL (l : List UInt8) : List Rn :=
  if h : l = [] then [] else rnOf l :: runesL (l.drop (decodeL l).2)
termination_by l.length
decreasing_by
  have h1 := decodeL_width l
  have h2 : 0 < l.length := List.length_pos_iff.2 h
  rw [List.length_drop]
  omega
theorem runesL_nil : runesL [] = [] := by rw [runesL, dif_pos rfl]
theorem runesL_step {l : List UInt8} (h : l ≠ []) : runesL l = rnOf l :: runesL (l.drop (decodeL l).2) := by rw [runesL, dif_neg h]
theorem runesL_ascii (b : UInt8) (t : List UInt8) (h : b.toNat < 128) : runesL (b :: t) = (b.toNat, false) :: runesL t := by
  rw [runesL_step (by simp)]
  have hd := decodeL_ascii b t h
  unfold rnOf
  rw [hd]
  congr 1
  simp
  omega
def rnAt (s : ByteArray) (k : Nat) : Rn := ((Utf8.decode s k).1, decide ((Utf8.decode s k).1 = 65533) && decide ((Utf8.decode s k).2 = 1))
/-- The rune at a place of a text. -/
theorem runes_at (s : ByteArray) (k : Nat) (hk : k < s.size) : runesL (s.data.toList.drop k) = rnAt s k :: runesL (s.data.toList.drop (k + (Utf8.decode s k).2)) ∧
    1 ≤ (Utf8.decode s k).2 ∧ k + (Utf8.decode s k).2 ≤ s.size ∧ (Utf8.decode s k).1 ≤ 1114111 := by
  have hl : s.data.toList.length = s.size := by simp
  have hne : s.data.toList.drop k ≠ [] := by
    intro e
    have := congrArg List.length e
    rw [List.length_drop, hl] at this
    simp at this
    omega
  have hd := Go.Lib.decodeL_drop s k
  have h1 := decodeL_width (s.data.toList.drop k)
  have h2 := decodeL_le _ hne
  have h3 := Go.Lib.decodeL_rune (s.data.toList.drop k)
  rw [List.length_drop, hl] at h2
  refine ⟨?_, by rw [← hd]; exact h1, by rw [← hd]; omega, by rw [← hd]; exact h3⟩
  rw [runesL_step hne, List.drop_drop]
  unfold rnAt rnOf
  rw [hd]
theorem runes_end (s : ByteArray) (k : Nat) (hk : ¬ k < s.size) : runesL (s.data.toList.drop k) = [] := by
  have hl : s.data.toList.length = s.size := by simp
  rw [List.drop_eq_nil_of_le (by omega), runesL_nil]
/-- What stands behind a newline does not count for the runes ahead of it. -/
theorem decodeL_nl (a t : List UInt8) (h : a ≠ []) : decodeL (a ++ 10 :: t) = decodeL a := by
  rw [decodeL_N, decodeL_N]
  match a, h with
  | [x], _ => simp [decodeN]
  | [x, y], _ => simp [decodeN]
  | [x, y, z], _ => simp [decodeN]
  | x :: y :: z :: u :: r, _ => simp [decodeN]
theorem runesL_nl : ∀ (n : Nat) (a t : List UInt8), a.length ≤ n → runesL (a ++ 10 :: t) = runesL a ++ (10, false) :: runesL t
  | 0, a, t, h => by
    have : a = [] := List.eq_nil_of_length_eq_zero (by omega)
    subst this
    rw [List.nil_append, runesL_ascii 10 t (by decide), runesL_nil]
    rfl
  | n + 1, a, t, h => by
    by_cases ha : a = []
    · subst ha
      rw [List.nil_append, runesL_ascii 10 t (by decide), runesL_nil]
      rfl
    · have h1 := decodeL_nl a t ha
      have h2 := decodeL_le a ha
      have h3 := decodeL_width a
      have h4 : 0 < a.length := List.length_pos_iff.2 ha
      rw [runesL_step (by simp), runesL_step ha, h1, List.drop_append_of_le_length h2, runesL_nl n (a.drop (decodeL a).2) t (by rw [List.length_drop]; omega), List.cons_append]
      congr 1
      unfold rnOf
      rw [h1]
/-- A rune of a text without a newline is none. -/
theorem rune_nl : ∀ (n : Nat) (a : List UInt8), a.length ≤ n → (∀ b ∈ a, b ≠ 10) → ∀ x ∈ runesL a, x.1 ≠ 10
  | 0, a, h, _ => by
    have : a = [] := List.eq_nil_of_length_eq_zero (by omega)
    subst this
    rw [runesL_nil]
    intro x hx
    cases hx
  | n + 1, a, h, hb => by
    by_cases ha : a = []
    · subst ha
      rw [runesL_nil]
      intro x hx
      cases hx
    · rw [runesL_step ha]
      intro x hx
      have h2 := decodeL_le a ha
      have h3 := decodeL_width a
      have h4 : 0 < a.length := List.length_pos_iff.2 ha
      rcases List.mem_cons.1 hx with hx | hx
      · subst hx
        obtain ⟨b, t, rfl⟩ := List.exists_cons_of_ne_nil ha
        show (decodeL (b :: t)).1 ≠ 10
        by_cases hlt : b.toNat < 128
        · rw [decodeL_ascii b t hlt]
          intro e
          exact hb b (by simp) (UInt8.toNat_inj.1 e)
        · rw [decodeL_N]
          unfold decodeN
          simp only [List.getD_cons_zero]
          repeat' split
          all_goals (intro e; simp only at e; omega)
      · exact rune_nl n (a.drop (decodeL a).2) (by rw [List.length_drop]; omega) (fun b hb2 => hb b (List.mem_of_mem_drop hb2)) x hx

/-- A rune's bytes. -/
def listOf (b : ByteArray) : List UInt8 := b.data.toList
theorem listOf_eq (b : ByteArray) : listOf b = b.data.toList := rfl
theorem listOf_back (b : ByteArray) : (⟨(listOf b).toArray⟩ : ByteArray) = b := rfl
theorem listOf_len (b : ByteArray) (n : Nat) (h : b.size ≤ n) : (listOf b).length ≤ n := by simpa [listOf] using h
def encB (r : Nat) : List UInt8 := listOf (Utf8.encode (r : Int))
theorem encB_eq (r : Nat) : encB r = listOf (Utf8.encode (r : Int)) := rfl
/-- A word: its text, its column, whether one of its bytes is none of a rune. -/
structure Wd where
  s : List UInt8
  col : Nat
  bad : Bool
deriving DecidableEq
def blankR (x : Rn) : Bool := decide (x.1 = 32) || decide (x.1 = 9)
def growW (cur : Option Wd) (col : Nat) (x : Rn) : Wd := match cur with
  | none => ⟨encB x.1, col, x.2⟩
  | some c => ⟨c.s ++ encB x.1, c.col, c.bad || x.2⟩
def wordsG (cur : Option Wd) (col : Nat) : List Rn → List Wd
  | [] => cur.toList
  | x :: r => if blankR x then cur.toList ++ wordsG none (col + 1) r else wordsG (some (growW cur col x)) (col + 1) r
/-- What of a line is no remark. -/
def bodyR (l : List Rn) : List Rn := l.takeWhile fun x => decide (x.1 ≠ 59)
def wordsR (l : List Rn) : List Wd := wordsG none 1 (bodyR l)
def endR (l : List Rn) : Nat := (bodyR l).length + 1

def letterR (r : Nat) : Bool := decide (97 ≤ r ∧ r ≤ 122) || decide (65 ≤ r ∧ r ≤ 90) || (decide (192 ≤ r ∧ r ≤ 591) && decide (r ≠ 215) && decide (r ≠ 247))
def digitR (r : Nat) : Bool := decide (48 ≤ r ∧ r ≤ 57)
def stepN (n : Nat) (x : Rn) : Bool := letterR x.1 || (decide (0 < n) && digitR x.1)
def nameF : Nat → List Rn → Bool
  | _, [] => true
  | n, x :: r => stepN n x && nameF (n + 1) r
def nameL (l : List Rn) : Bool := nameF 0 l && decide (1 ≤ l.length) && decide (l.length ≤ 8)
def nameP (s : List UInt8) : Bool := nameL (runesL s)

/-- The fields that an instruction's text has. -/
def kindsP (op : Int) : List UInt8 :=
  if op = 1 then [97, 110] else if op = 2 ∨ op = 10 then [97, 98] else if 3 ≤ op ∧ op ≤ 7 then [97, 98, 99] else if op = 8 ∨ op = 9 then [97, 98, 111]
  else if op = 11 ∨ op = 21 then [97] else if op = 12 then [106] else if op = 13 then [97, 106] else if op = 23 then [119, 116, 112] else []
def regP (s : List UInt8) (last : Nat) : Option Nat := match s with
  | [114, d] => decMost last [d]
  | _ => none
/-- A jump to a label: the instruction, the name, where it stands. -/
structure JP where
  at_ : Nat
  s : List UInt8
  line : Nat
  col : Nat
def fieldP (kd : UInt8) (s : List UInt8) (x : PIns) : Option PIns :=
  if kd = 97 then (regP s 7).map fun n => { x with a := n }
  else if kd = 98 then (regP s 7).map fun n => { x with b := n }
  else if kd = 99 then (regP s 7).map fun n => { x with c := n }
  else if kd = 112 then (regP s 6).map fun n => { x with c := n }
  else if kd = 111 then (decMost 15 s).map fun n => { x with c := n }
  else if kd = 116 then (decMost 7 s).map fun n => { x with b := n }
  else if kd = 110 then (decMost 18446744073709551615 s).map fun n => { x with n := n }
  else if kd = 119 then (if isOf callList ⟨s.toArray⟩ then some { x with a := numOf callList ⟨s.toArray⟩ } else none)
  else if kd = 106 then (if nameP s then some x else none)
  else none
/-- What is known between two lines. -/
structure PS where
  l : List PIns
  labels : List (List UInt8 × Nat)
  jumps : List JP
def PS.start : PS := ⟨[], [], []⟩
inductive Out (α : Type) where
  | ok : α → Out α
  | err : Nat → Nat → Out α
/-- The fields of an instruction, word by word. -/
def fieldsP (line endc : Nat) (st : PS) : List UInt8 → List Wd → PIns → List JP → Out PS
  | [], [], x, js => .ok ⟨st.l ++ [x], st.labels, js⟩
  | [], w :: _, _, _ => .err w.col 12
  | _ :: _, [], _, _ => .err endc 12
  | k :: ks, w :: ws, x, js =>
    if w.bad then .err w.col 12 else
    match fieldP k w.s x with
    | none => .err w.col 12
    | some x' => fieldsP line endc st ks ws x' (if k = 106 then js ++ [⟨st.l.length, w.s, line, w.col⟩] else js)
def instrP (line endc : Nat) (st : PS) : List Wd → Out PS
  | [] => .ok st
  | w :: ws =>
    if w.bad || !isOf nameList ⟨w.s.toArray⟩ then .err w.col 12
    else if 40 ≤ st.l.length then .err w.col 4
    else fieldsP line endc st (kindsP (numOf nameList ⟨w.s.toArray⟩)) ws ⟨numOf nameList ⟨w.s.toArray⟩, 0, 0, 0, 0⟩ st.jumps
def lookP (labels : List (List UInt8 × Nat)) (s : List UInt8) : Option Nat := (labels.find? fun e => e.1 == s).map (·.2)
def isLabel (w : Wd) : Bool := !w.bad && (w.s.getLast? == some 58)
def lineP (line : Nat) (st : PS) (l : List Rn) : Out PS := match wordsR l with
  | [] => .ok st
  | w :: ws =>
    if isLabel w then
      (if (lookP st.labels w.s.dropLast).isSome || !nameP w.s.dropLast then .err w.col 12
       else instrP line (endR l) { st with labels := st.labels ++ [(w.s.dropLast, st.l.length)] } ws)
    else instrP line (endR l) st (w :: ws)
/-- The lines of a text, as runes: behind the last newline an empty one is none. -/
def linesR : List Rn → List (List Rn)
  | [] => []
  | x :: r => if x.1 = 10 then [] :: linesR r else match linesR r with
    | [] => [[x]]
    | l :: ls => (x :: l) :: ls
end Go.Proofs.YtngahgfppbjebaaDoor
