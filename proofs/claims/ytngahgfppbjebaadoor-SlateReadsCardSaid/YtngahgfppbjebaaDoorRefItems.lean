/-
  The document's results in memory; the text of a row of them.
-/
import Derived.Test.YtngahgfppbjebaaDoorSlDec
import Derived.WalkKit
import Derived.Lib.ItoaMem
namespace Go.Proofs.YtngahgfppbjebaaDoor
open Go.RowKit
set_option linter.unusedVariables false
set_option linter.unusedSimpArgs false

def sortI : Itm → Int
  | .num _ => 1
  | .truth _ => 2
  | .nothing => 3
def numI : Itm → Int
  | .num n => (n : Int)
  | .truth b => if b then 1 else 0
  | .nothing => 0
def itmCells (x : Itm) : List Value := [.int .i64 (sortI x), .int .u64 (numI x)]
def rowCells (l : List Itm) : List Value := l.flatMap itmCells
theorem rowCells_len (l : List Itm) : (rowCells l).length = l.length * 2 := by
  induction l with
  | nil => rfl
  | cons x l ih =>
    have e : rowCells (x :: l) = itmCells x ++ rowCells l := by simp [rowCells]
    rw [e, List.length_append, ih, List.length_cons]
    simp [itmCells]
    omega
theorem rowCells_at (l : List Itm) (k : Nat) (x : Itm) (h : l[k]? = some x) : (rowCells l)[k * 2]? = some (.int .i64 (sortI x)) ∧ (rowCells l)[k * 2 + 1]? = some (.int .u64 (numI x)) := by
  induction l generalizing k with
  | nil => cases h
  | cons y l ih =>
    have e : rowCells (y :: l) = [.int .i64 (sortI y), .int .u64 (numI y)] ++ rowCells l := by simp [rowCells, itmCells]
    cases k with
    | zero =>
      injection h with h
      subst h
      rw [e]
      exact ⟨rfl, rfl⟩
    | succ k =>
      have h2 := ih k (by simpa using h)
      rw [e, List.getElem?_append_right (by simp; omega), List.getElem?_append_right (by simp; omega)]
      have e1 : (k + 1) * 2 - [Value.int .i64 (sortI y), .int .u64 (numI y)].length = k * 2 := by simp; omega
      have e2 : (k + 1) * 2 + 1 - [Value.int .i64 (sortI y), .int .u64 (numI y)].length = k * 2 + 1 := by simp; omega
      rw [e1, e2]
      exact h2
def ItmAt (w : World) (b o : Nat) (x : Itm) : Prop := w.cell? ⟨b, o, none⟩ = some (.int .i64 (sortI x)) ∧ w.cell? ⟨b, o + 1, none⟩ = some (.int .u64 (numI x))
/-- A slice of results. -/
def ItemsIn (w : World) (A : Option Addr) (l : List Itm) : Prop := l ≠ [] → ∃ b o, A = some ⟨b, o, none⟩ ∧ b < w.heap.size ∧ ∀ k x, l[k]? = some x → ItmAt w b (o + k * 2) x
/-- The slice doesn't lie in block k. -/
def NotAt (A : Option Addr) (k : Nat) : Prop := ∀ ad, A = some ad → ad.block ≠ k
section
variable {w w' : World} {A : Option Addr} {l : List Itm}
theorem ItemsIn.nil (w : World) (A : Option Addr) : ItemsIn w A [] := fun h => absurd rfl h
theorem ItemsIn.at_ (h : ItemsIn w A l) {k : Nat} (hk : k < l.length) : ∃ b o, A = some ⟨b, o, none⟩ ∧ b < w.heap.size ∧ ItmAt w b (o + k * 2) l[k] := by
  obtain ⟨b, o, hA, hb, hi⟩ := h (by intro e; subst e; simp at hk)
  exact ⟨b, o, hA, hb, hi k _ (List.getElem?_eq_getElem hk)⟩
theorem ItemsIn.only {S : Nat → Prop} (h : ItemsIn w A l) (ho : Only S w w') (hn : ∀ k, S k → NotAt A k) : ItemsIn w' A l := by
  intro hl
  obtain ⟨b, o, hA, hb, hi⟩ := h hl
  have hs : ¬ S b := fun hs => hn b hs _ hA rfl
  exact ⟨b, o, hA, Nat.lt_of_lt_of_le hb ho.size, fun k x hx => ⟨(ho.cell (p := ⟨b, o + k * 2, none⟩) hb hs).trans (hi k x hx).1, (ho.cell (p := ⟨b, o + k * 2 + 1, none⟩) hb hs).trans (hi k x hx).2⟩⟩
theorem ItemsIn.nob (h : ItemsIn w A l) (ho : Only Nob w w') : ItemsIn w' A l := h.only ho (fun _ h => h.elim)
theorem ItemsIn.take (h : ItemsIn w A l) (k : Nat) : ItemsIn w A (l.take k) := by
  intro hl
  obtain ⟨b, o, hA, hb, hi⟩ := h (by intro e; subst e; simp at hl)
  refine ⟨b, o, hA, hb, fun j x hx => hi j x ?_⟩
  rw [List.getElem?_take] at hx
  split at hx
  · exact hx
  · cases hx
theorem ItemsIn.of_own {base : Nat} {n cap : Nat} (h : w.ownsRow base 94 2 (.slice A n cap) n (rowCells l)) : ItemsIn w A l := by
  intro hl
  rcases h.2 with ⟨h1, h2⟩ | ⟨g, cap', cur, hv, hb, hc, _⟩
  · have := h.1
    rw [rowCells_len, h2] at this
    have h3 : l.length = 0 := by omega
    exact absurd (List.eq_nil_of_length_eq_zero h3) hl
  · injection hv with hv
    subst hv
    have hlt : g < w.heap.size := by
      rcases Nat.lt_or_ge g w.heap.size with h | h
      · exact h
      · rw [Array.getElem?_eq_none h] at hc; cases hc
    refine ⟨g, 0, rfl, hlt, fun k x hx => ?_⟩
    have hk := rowCells_at l k x hx
    have hlen := h.1
    rw [rowCells_len] at hlen
    have hkl : k < l.length := by
      rcases Nat.lt_or_ge k l.length with h | h
      · exact h
      · rw [List.getElem?_eq_none h] at hx; cases hx
    rw [Nat.zero_add]
    exact ⟨(World.ownsRow.cellAt h (k * 2) (by omega)).trans hk.1, (World.ownsRow.cellAt h (k * 2 + 1) (by omega)).trans hk.2⟩
theorem ItemsIn.reads (h : ItemsIn w A l) : Reads w w.heap.size 2 A l.length (rowCells l) := by
  refine ⟨rowCells_len l, fun hn => ?_⟩
  obtain ⟨b, o, hA, hb, hi⟩ := h (by intro e; subst e; simp at hn)
  refine ⟨⟨b, o, none⟩, hA, hb, fun j u hu => ?_⟩
  have hj : j < l.length * 2 := by
    rw [← rowCells_len]
    rcases Nat.lt_or_ge j (rowCells l).length with h | h
    · exact h
    · rw [List.getElem?_eq_none h] at hu; cases hu
  have hk : j / 2 < l.length := by omega
  have hat := rowCells_at l (j / 2) _ (List.getElem?_eq_getElem hk)
  have hin := hi (j / 2) _ (List.getElem?_eq_getElem hk)
  rw [Go.Lib.add_plain]
  rcases Nat.mod_two_eq_zero_or_one j with e | e
  · have ej : j = j / 2 * 2 := by omega
    rw [ej, hat.1] at hu
    rw [ej, hin.1]
    exact hu
  · have ej : j = j / 2 * 2 + 1 := by omega
    rw [ej, hat.2] at hu
    rw [ej, ← Nat.add_assoc, hin.2]
    exact hu
end
theorem textI_snoc (m : List Itm) (x : Itm) : textI (m ++ [x]) = (if m = [] then [] else textI m ++ [32]) ++ itmW x := by
  cases m with
  | nil => simp [textI, Go.Lib.join_one]
  | cons y r =>
    rw [if_neg (by simp)]
    unfold textI
    have e1 : (y :: r ++ [x]).map itmW = itmW y :: (r.map itmW ++ [itmW x]) := by simp
    have e2 : (y :: r).map itmW = itmW y :: r.map itmW := rfl
    rw [e1, e2, Go.Lib.join_cons, Go.Lib.join_cons]
    simp [Go.Lib.joinTail]
theorem textI_step (l : List Itm) (k : Nat) (hk : k < l.length) : textI (l.take (k + 1)) = (if k = 0 then [] else textI (l.take k) ++ [32]) ++ itmW l[k] := by
  have e : l.take (k + 1) = l.take k ++ [l[k]] := by rw [List.take_add_one, List.getElem?_eq_getElem hk]; rfl
  rw [e, textI_snoc]
  congr 1
  by_cases h : k = 0
  · subst h; simp
  · have : l.take k ≠ [] := by
      intro e2
      have h3 := congrArg List.length e2
      rw [List.length_take, List.length_nil] at h3
      omega
    rw [if_neg h, if_neg this]
end Go.Proofs.YtngahgfppbjebaaDoor
