/-
  Plain: a word that is wrong is told by its line and its column. No program in sight.
-/
import Derived.Test.YtngahgfppbjebaaDoorGrpTxPrintE
namespace Go.Proofs.YtngahgfppbjebaaDoor
open Go.Lib
set_option linter.unusedVariables false
set_option linter.unusedSimpArgs false

def remB : List UInt8 := [59, 32, 195, 169]
def remsB : Nat → List UInt8
  | 0 => []
  | n + 1 => remsB n ++ remB ++ [10]
def blanksB (m : Nat) : List UInt8 := List.replicate m 32
theorem runes_e9 (t : List UInt8) : runesL (195 :: 169 :: t) = (233, false) :: runesL t := by
  have hd : decodeL (195 :: 169 :: t) = (233, 2) := by
    rw [decodeL_N]
    simp [decodeN]
  rw [runesL_step (by simp)]
  unfold rnOf
  rw [hd]
  rfl
theorem runes_c (b : UInt8) (t : List UInt8) (h : b.toNat < 128) : runesL (b :: t) = (b.toNat, false) :: runesL t := runesL_ascii b t h
theorem rem_words : wordsR (runesL remB) = [] := by
  unfold remB
  rw [runes_c 59 _ (by decide)]
  unfold wordsR
  rw [body_semi _ _ rfl]
  rfl
theorem line_rem (k : Nat) (st : PS) : lineP k st (runesL remB) = .ok st := by
  unfold lineP
  rw [rem_words]
theorem rems_succ (n : Nat) (u : List UInt8) : remsB (n + 1) ++ u = remB ++ 10 :: (remsB n ++ u) := by
  induction n generalizing u with
  | zero => simp [remsB]
  | succ n ih =>
    have e : remsB (n + 1 + 1) ++ u = remsB (n + 1) ++ (remB ++ 10 :: u) := by simp [remsB]
    rw [e, ih]
    simp [remsB]
theorem lines_rems : ∀ (n k : Nat) (st : PS) (u : List UInt8), linesP k st (linesR (runesL (remsB n ++ u))) = linesP (k + n) st (linesR (runesL u))
  | 0, k, st, u => rfl
  | n + 1, k, st, u => by
    rw [rems_succ, runesL_nl _ remB _ (Nat.le_refl _), linesR_cut _ _ _ (rune_nl _ remB (Nat.le_refl _) (by decide)), linesP, line_rem]
    simp only
    rw [lines_rems n (k + 1) st u]
    congr 1
    omega
theorem runes_blanks (m : Nat) (u : List UInt8) : runesL (blanksB m ++ u) = List.replicate m (32, false) ++ runesL u := by
  induction m with
  | zero => rfl
  | succ m ih =>
    unfold blanksB at *
    rw [List.replicate_succ, List.cons_append, runes_c 32 _ (by decide), ih, List.replicate_succ]
    rfl
theorem body_blanks (m : Nat) (l : List Rn) : bodyR (List.replicate m (32, false) ++ l) = List.replicate m (32, false) ++ bodyR l := by
  induction m with
  | zero => rfl
  | succ m ih => rw [List.replicate_succ, List.cons_append, body_go _ _ (by decide), ih]; rfl
theorem words_blanks (m col : Nat) (l : List Rn) : wordsG none col (List.replicate m (32, false) ++ l) = wordsG none (m + col) l := by
  induction m generalizing col with
  | zero => rw [Nat.zero_add]; rfl
  | succ m ih =>
    rw [List.replicate_succ, List.cons_append, wordsG, if_pos (by decide), ih]
    show wordsG none _ l = _
    congr 1
    omega
theorem words_at (m : Nat) (l : List Rn) : wordsR (List.replicate m (32, false) ++ l) = wordsG none (m + 1) (bodyR l) := by
  unfold wordsR
  rw [body_blanks, words_blanks]
theorem end_at (m : Nat) (l : List Rn) : endR (List.replicate m (32, false) ++ l) = m + (bodyR l).length + 1 := by
  unfold endR
  rw [body_blanks, List.length_append, List.length_replicate]
def wrgB (h : Nat) : List UInt8 :=
  if h = 0 then [115, 195, 169, 116, 32, 114, 49, 32, 53] else if h = 1 then [195, 169, 195, 169, 58, 32, 115, 101, 116, 32, 114, 56, 32, 53]
  else if h = 2 then [115, 101, 116, 32, 114, 49, 32, 53, 32, 54] else if h = 3 then [115, 101, 116, 32, 114, 49, 32, 59, 53] else [195, 169, 58, 32, 106, 117, 109, 112, 32, 110, 111, 98, 111, 100, 121]
def wrgAt (h : Nat) : Nat := if h = 0 then 1 else if h = 1 then 9 else if h = 2 then 10 else if h = 3 then 8 else 9
def wrgR (h : Nat) : List Rn :=
  if h = 0 then [(115, false), (233, false), (116, false), (32, false), (114, false), (49, false), (32, false), (53, false)]
  else if h = 1 then [(233, false), (233, false), (58, false), (32, false), (115, false), (101, false), (116, false), (32, false), (114, false), (56, false), (32, false), (53, false)]
  else if h = 2 then [(115, false), (101, false), (116, false), (32, false), (114, false), (49, false), (32, false), (53, false), (32, false), (54, false)]
  else if h = 3 then [(115, false), (101, false), (116, false), (32, false), (114, false), (49, false), (32, false), (59, false), (53, false)]
  else [(233, false), (58, false), (32, false), (106, false), (117, false), (109, false), (112, false), (32, false), (110, false), (111, false), (98, false), (111, false), (100, false), (121, false)]
theorem bad_runes (h : Nat) : runesL (wrgB h) = wrgR h := by
  have hs : ∀ (b : UInt8) (t : List UInt8) (r : List Rn), b.toNat < 128 → runesL t = r → runesL (b :: t) = (b.toNat, false) :: r := fun b t r h1 h2 => by rw [runes_c b t h1, h2]
  have he : ∀ (t : List UInt8) (r : List Rn), runesL t = r → runesL (195 :: 169 :: t) = (233, false) :: r := fun t r h2 => by rw [runes_e9, h2]
  unfold wrgB wrgR
  repeat' split
  all_goals repeat' (first | exact runesL_nil | refine he _ _ ?_ | refine hs _ _ _ (by decide) ?_)
/-- A bad line. -/
theorem bad_line (h m k : Nat) (h4 : h < 4) : lineP k PS.start (List.replicate m (32, false) ++ wrgR h) = .err (m + wrgAt h) 12 := by
  unfold lineP
  rw [words_at, end_at]
  rcases (by omega : h = 0 ∨ h = 1 ∨ h = 2 ∨ h = 3) with rfl | rfl | rfl | rfl
  · have hw : wordsG none (m + 1) (bodyR (wrgR 0)) = [⟨[115, 195, 169, 116], m + 1, false⟩, ⟨[114, 49], m + 5, false⟩, ⟨[53], m + 8, false⟩] := by kernel_rfl
    rw [hw]
    show (_ : Out PS) = _
    kernel_rfl
  · have hw : wordsG none (m + 1) (bodyR (wrgR 1)) = [⟨[195, 169, 195, 169, 58], m + 1, false⟩, ⟨[115, 101, 116], m + 5, false⟩, ⟨[114, 56], m + 9, false⟩, ⟨[53], m + 12, false⟩] := by kernel_rfl
    have hn : nameP [195, 169, 195, 169] = true := by
      unfold nameP
      rw [runes_e9, runes_e9, runesL_nil]
      decide
    rw [hw]
    simp only
    rw [if_pos (by kernel_rfl)]
    have e : (⟨[195, 169, 195, 169, 58], m + 1, false⟩ : Wd).s.dropLast = [195, 169, 195, 169] := rfl
    rw [e, hn, if_neg (by decide)]
    show (_ : Out PS) = _
    kernel_rfl
  · have hw : wordsG none (m + 1) (bodyR (wrgR 2)) = [⟨[115, 101, 116], m + 1, false⟩, ⟨[114, 49], m + 5, false⟩, ⟨[53], m + 8, false⟩, ⟨[54], m + 10, false⟩] := by kernel_rfl
    rw [hw]
    show (_ : Out PS) = _
    kernel_rfl
  · have hw : wordsG none (m + 1) (bodyR (wrgR 3)) = [⟨[115, 101, 116], m + 1, false⟩, ⟨[114, 49], m + 5, false⟩] := by kernel_rfl
    rw [hw]
    show (_ : Out PS) = _
    kernel_rfl
theorem bad_jump (m k : Nat) : lineP k PS.start (List.replicate m (32, false) ++ wrgR 4) = .ok ⟨[⟨12, 0, 0, 0, 0⟩], [([195, 169], 0)], [⟨0, [110, 111, 98, 111, 100, 121], k, m + 9⟩]⟩ := by
  unfold lineP
  rw [words_at, end_at]
  have hw : wordsG none (m + 1) (bodyR (wrgR 4)) = [⟨[195, 169, 58], m + 1, false⟩, ⟨[106, 117, 109, 112], m + 4, false⟩, ⟨[110, 111, 98, 111, 100, 121], m + 9, false⟩] := by kernel_rfl
  have hn : nameP [195, 169] = true := by
    unfold nameP
    rw [runes_e9, runesL_nil]
    decide
  have hn2 : nameP [110, 111, 98, 111, 100, 121] = true := by
    unfold nameP
    repeat (rw [runes_c _ _ (by decide)])
    rw [runesL_nil]
    decide
  rw [hw]
  simp only
  rw [if_pos (by kernel_rfl)]
  have e : (⟨[195, 169, 58], m + 1, false⟩ : Wd).s.dropLast = [195, 169] := rfl
  rw [e, hn, if_neg (by decide)]
  have hz : instrP k (m + (bodyR (wrgR 4)).length + 1) { PS.start with labels := PS.start.labels ++ [([195, 169], PS.start.l.length)] } [⟨[106, 117, 109, 112], m + 4, false⟩, ⟨[110, 111, 98, 111, 100, 121], m + 9, false⟩] = fieldsP k (m + (bodyR (wrgR 4)).length + 1) ⟨[], [([195, 169], 0)], []⟩ [106] [⟨[110, 111, 98, 111, 100, 121], m + 9, false⟩] ⟨12, 0, 0, 0, 0⟩ [] := by kernel_rfl
  rw [hz, fieldsP, if_neg (by simp)]
  have hf : fieldP 106 [110, 111, 98, 111, 100, 121] ⟨12, 0, 0, 0, 0⟩ = some ⟨12, 0, 0, 0, 0⟩ := by
    show (if nameP [110, 111, 98, 111, 100, 121] = true then _ else _) = _
    rw [hn2, if_pos rfl]
  simp only [hf]
  rfl
theorem bad_no10 (h : Nat) : ∀ b ∈ wrgB h, b ≠ 10 := by
  unfold wrgB
  repeat' split
  all_goals decide
theorem bad_len (h : Nat) : (wrgB h).length ≤ 15 := by
  unfold wrgB
  repeat' split
  all_goals decide
theorem rems_len (n : Nat) : (remsB n).length = 5 * n := by
  induction n with
  | zero => rfl
  | succ n ih =>
    unfold remsB
    rw [List.length_append, List.length_append, ih]
    show 5 * n + 4 + 1 = _
    omega
theorem places (n m h : Nat) (rest : List UInt8) (h5 : h < 5) (hr : h = 4 → rest = []) (hlen : 5 * n + m + 16 + rest.length ≤ 4000) : parseP (remsB n ++ blanksB m ++ wrgB h ++ [10] ++ rest) = ([], n + 1, m + wrgAt h, 12) := by
  have hb := bad_len h
  have e : remsB n ++ blanksB m ++ wrgB h ++ [10] ++ rest = remsB n ++ ((blanksB m ++ wrgB h) ++ 10 :: rest) := by simp
  have hl : (remsB n ++ blanksB m ++ wrgB h ++ [10] ++ rest).length ≤ 4000 := by
    simp only [List.length_append, rems_len, blanksB, List.length_replicate, List.length_singleton]
    omega
  unfold parseP
  rw [if_neg (by omega), e, lines_rems, Nat.zero_add, runesL_nl _ _ _ (Nat.le_refl _)]
  have hn10 : ∀ b ∈ blanksB m ++ wrgB h, b ≠ 10 := by
    intro b hb
    rcases List.mem_append.1 hb with hb | hb
    · rw [List.eq_of_mem_replicate hb]
      decide
    · exact bad_no10 h b hb
  rw [linesR_cut _ _ _ (rune_nl _ _ (Nat.le_refl _) hn10), runes_blanks, bad_runes, linesP]
  by_cases h4 : h < 4
  · rw [bad_line h m _ h4]
  · have h44 : h = 4 := by omega
    rw [hr h44, h44, bad_jump, runesL_nil]
    rfl
end Go.Proofs.YtngahgfppbjebaaDoor
