/-
  What 'take' stands on: the words that are left, the label that is stored.
-/
import Derived.Test.YtngahgfppbjebaaDoorTxPMem
import Derived.Test.YtngahgfppbjebaaDoorTxWords
namespace Go.Proofs.YtngahgfppbjebaaDoor
open Go.RowKit
set_option linter.unusedVariables false
set_option linter.unusedSimpArgs false

def WdAt (w : World) (b o : Nat) (x : Wd) : Prop := w.cell? ⟨b, o, none⟩ = some (.string ⟨x.s.toArray⟩) ∧ w.cell? ⟨b, o + 1, none⟩ = some (.int .i64 (x.col : Int)) ∧ w.cell? ⟨b, o + 2, none⟩ = some (.bool x.bad)
/-- A slice of words, in a block from lo on, below hi. -/
def WsAt (w : World) (lo hi : Nat) (A : Option Addr) (ws : List Wd) : Prop := ws ≠ [] → ∃ b o, A = some ⟨b, o, none⟩ ∧ lo ≤ b ∧ b < hi ∧ b < w.heap.size ∧ ∀ k x, ws[k]? = some x → WdAt w b (o + k * 3) x
/-- A row that lies elsewhere. -/
def Away (v : Value) (lo hi : Nat) : Prop := ∀ k, v.ownBlock = some k → k < lo ∨ hi ≤ k
section
variable {w w' : World} {lo hi : Nat} {A : Option Addr} {ws : List Wd}
theorem WsAt.nil (w : World) (lo hi : Nat) (A : Option Addr) : WsAt w lo hi A [] := fun h => absurd rfl h
theorem WsAt.only {S : Nat → Prop} (h : WsAt w lo hi A ws) (ho : Only S w w') (hn : ∀ k, lo ≤ k → k < hi → ¬ S k) : WsAt w' lo hi A ws := by
  intro hne
  obtain ⟨b, o, h1, h2, h3, h4, h5⟩ := h hne
  refine ⟨b, o, h1, h2, h3, Nat.lt_of_lt_of_le h4 ho.size, fun k x hk => ?_⟩
  obtain ⟨c0, c1, c2⟩ := h5 k x hk
  have hb := hn b h2 h3
  exact ⟨(ho.cell (p := ⟨b, o + k * 3, none⟩) h4 hb).trans c0, (ho.cell (p := ⟨b, o + k * 3 + 1, none⟩) h4 hb).trans c1, (ho.cell (p := ⟨b, o + k * 3 + 2, none⟩) h4 hb).trans c2⟩
theorem WsAt.nob (h : WsAt w lo hi A ws) (ho : Only Nob w w') : WsAt w' lo hi A ws := h.only ho (fun _ _ _ h => h)
theorem WsAt.head {x : Wd} (h : WsAt w lo hi A (x :: ws)) : ∃ b o, A = some ⟨b, o, none⟩ ∧ lo ≤ b ∧ b < hi ∧ b < w.heap.size ∧ WdAt w b o x ∧ WsAt w lo hi (some ⟨b, o + 3, none⟩) ws := by
  obtain ⟨b, o, h1, h2, h3, h4, h5⟩ := h (by simp)
  refine ⟨b, o, h1, h2, h3, h4, ?_, ?_⟩
  · have := h5 0 x rfl
    simpa using this
  · intro _
    refine ⟨b, o + 3, rfl, h2, h3, h4, fun k y hk => ?_⟩
    have := h5 (k + 1) y (by simpa using hk)
    rw [show o + 3 + k * 3 = o + (k + 1) * 3 by omega]
    exact this
theorem rowWd_at : ∀ (l : List Wd) (k : Nat) (x : Wd), l[k]? = some x → ∀ j, j < 3 → (rowWd l)[k * 3 + j]? = (wdCells x)[j]?
  | [], k, x, h, j, hj => by simp at h
  | y :: r, 0, x, h, j, hj => by
    simp at h
    subst h
    show (wdCells y ++ rowWd r)[0 * 3 + j]? = _
    rw [List.getElem?_append_left (by show _ < 3; omega)]
    simp
  | y :: r, k + 1, x, h, j, hj => by
    have := rowWd_at r k x (by simpa using h) j hj
    show (wdCells y ++ rowWd r)[(k + 1) * 3 + j]? = _
    rw [List.getElem?_append_right (by show 3 ≤ _; omega), ← this]
    congr 1
    show (k + 1) * 3 + j - 3 = _
    omega
theorem WsAt.of_own {base n : Nat} {v : Value} (h : w.ownsRow base 142 3 v n (rowWd ws)) (hn : ws.length = n) : ∃ A cap, v = .slice A n cap ∧ n ≤ cap ∧ WsAt w base w.heap.size A ws := by
  subst hn
  rcases h.2 with ⟨h1, h2⟩ | ⟨g, cap, cur, hv, hb, hc, hcap, hr⟩
  · have : ws = [] := List.eq_nil_of_length_eq_zero h2
    subst this
    exact ⟨none, 0, h1, Nat.le_refl _, WsAt.nil _ _ _ _⟩
  · subst hv
    refine ⟨some ⟨g, 0, none⟩, cap, rfl, ?_, fun _ => ⟨g, 0, rfl, hb, (h.lt g rfl).2, (h.lt g rfl).2, fun k x hk => ?_⟩⟩
    · omega
    · have hlt : k < ws.length := (List.getElem?_eq_some_iff.1 hk).1
      have hcell : ∀ j, j < 3 → w.cell? ⟨g, k * 3 + j, none⟩ = (wdCells x)[j]? := fun j hj => by
        rw [World.ownsRow.cellAt h (k * 3 + j) (by omega), rowWd_at ws k x hk j hj]
      rw [Nat.zero_add]
      exact ⟨hcell 0 (by omega), hcell 1 (by omega), hcell 2 (by omega)⟩
end
theorem suffix_colon (l : List UInt8) : Go.Lib.hasSuffix l [58] = (l.getLast? == some 58) := by
  unfold Go.Lib.hasSuffix
  cases h : l.getLast? with
  | none =>
    have : l = [] := List.getLast?_eq_none_iff.1 h
    subst this
    rfl
  | some x =>
    obtain ⟨m, rfl⟩ := List.getLast?_eq_some_iff.1 h
    by_cases hx : x = 58
    · subst hx
      simp [List.isSuffixOf_iff_suffix]
    · have h1 : (some x == some (58 : UInt8)) = false := by simpa using hx
      rw [h1]
      rw [Bool.eq_false_iff]
      intro h2
      rw [List.isSuffixOf_iff_suffix] at h2
      obtain ⟨t, ht⟩ := h2
      have := congrArg List.getLast? ht
      simp at this
      exact hx this.symm
theorem trim_colon (l : List UInt8) (h : (l.getLast? == some 58) = true) : Go.Lib.trimSuffix l [58] = l.dropLast := by
  unfold Go.Lib.trimSuffix
  rw [suffix_colon, h, if_pos rfl, List.dropLast_eq_take]
  rfl
/-- A label was stored. -/
theorem PMem.label {w w3 : World} {base gp gm line : Nat} {vl vj : Value} {st : PS} {L : List (List UInt8 × Nat)} (h : PMem w base gp gm vl vj st line) (ho : Only (Ob gm) w w3) (hL : LabAt w3 gm L) : PMem w3 base gp gm vl vj { st with labels := L } line := by
  have h1 := h.rowl.lt
  have h2 := h.rowj.lt
  have h3 := h.gmb
  refine ⟨h.cell.only ho (fun e => h.ne e.symm), row_only h.rowl ho (fun k hk e => ?_), row_only h.rowj ho (fun k hk e => ?_), hL, h.gpb, h.gmb, h.ne, h.apart⟩
  · have := (h1 k hk).1
    have e2 : k = gm := e
    omega
  · have := (h2 k hk).1
    have e2 : k = gm := e
    omega
end Go.Proofs.YtngahgfppbjebaaDoor
