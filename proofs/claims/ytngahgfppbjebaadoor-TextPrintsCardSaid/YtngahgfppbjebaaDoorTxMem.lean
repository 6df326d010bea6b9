/-
  Words in memory.
-/
import Derived.Test.YtngahgfppbjebaaDoorGrpTxReg
import Derived.Test.YtngahgfppbjebaaDoorPush1
import Derived.Lib.OthersKept
import Derived.WalkSmall
import Derived.Laws.OwnMore
import Derived.Deep.RegionLaw
namespace Go.Proofs.YtngahgfppbjebaaDoor
open Go.RowKit Go.Lib
set_option linter.unusedVariables false
set_option linter.unusedSimpArgs false

def wdCells (x : Wd) : List Value := [.string ⟨x.s.toArray⟩, .int .i64 (x.col : Int), .bool x.bad]
def rowWd (l : List Wd) : List Value := l.flatMap wdCells
theorem rowWd_len (l : List Wd) : (rowWd l).length = l.length * 3 := by
  induction l with
  | nil => rfl
  | cons x r ih =>
    show (wdCells x ++ rowWd r).length = _
    rw [List.length_append, ih]
    show 3 + _ = _
    simp
    omega
theorem rowWd_snoc (l : List Wd) (x : Wd) : rowWd (l ++ [x]) = rowWd l ++ wdCells x := by simp [rowWd]
theorem wdCells_one (x : Wd) : ∀ u ∈ wdCells x, u.oneCell' = true := by
  intro u hu
  simp [wdCells] at hu
  rcases hu with rfl | rfl | rfl <;> rfl
theorem infoWord : (Tryd.prog.info? 142).map (fun i => (i.zero, i.size, i.bytes)) = some (some (.agg #[.string ⟨#[]⟩, .int .i64 0, .bool false]), 3, 32) := by kernel_rfl
/-- Where a cell of the last word lies. -/
theorem rowWd_last (l : List Wd) (x : Wd) (j : Nat) (hj : j < 3) : (rowWd (l ++ [x]))[l.length * 3 + j]? = (wdCells x)[j]? := by
  rw [rowWd_snoc, List.getElem?_append_right (by rw [rowWd_len]; omega), rowWd_len]
  congr 1
  omega
theorem rowWd_set (l : List Wd) (x : Wd) (j : Nat) (hj : j < 3) (u : Value) (y : Wd) (hy : wdCells y = (wdCells x).set j u) : (rowWd (l ++ [x])).set (l.length * 3 + j) u = rowWd (l ++ [y]) := by
  rw [rowWd_snoc, rowWd_snoc, hy, ← rowWd_len, List.set_append_right _ _ (by omega)]
  congr 2
  omega
theorem row_only {S : Nat → Prop} {w w' : World} {base : Nat} {e : TypeId} {size : Nat} {v : Value} {n : Nat} {xs : List Value} (h : w.ownsRow base e size v n xs) (ho : Only S w w') (hn : ∀ k, v.ownBlock = some k → ¬ S k) :
    w'.ownsRow base e size v n xs := by
  obtain ⟨h1, h2⟩ := h
  refine ⟨h1, ?_⟩
  rcases h2 with h2 | ⟨g, cap, cur, hv, hb, hc, hr⟩
  · exact .inl h2
  · refine .inr ⟨g, cap, cur, hv, hb, ?_, hr⟩
    have hg : g < w.heap.size := by
      rcases Nat.lt_or_ge g w.heap.size with h | h
      · exact h
      · rw [Array.getElem?_eq_none h] at hc; cases hc
    rw [ho.block g hg (hn g (by rw [hv]; rfl))]
    exact hc
theorem row_succ {w : World} {base : Nat} {e : TypeId} {size : Nat} {v : Value} {n : Nat} {xs : List Value} (h : w.ownsRow base e size v (n + 1) xs) : ∃ g cap, v = .slice (some ⟨g, 0, none⟩) (n + 1) cap := by
  rcases h.2 with ⟨h1, h2⟩ | ⟨g, cap, cur, hv, _⟩
  · omega
  · exact ⟨g, cap, hv⟩
/-- What iterates over a text was moved on. -/
theorem only_iterAt (w : World) (k : Nat) (s : ByteArray) (p : Nat) : Only (fun j => j = k) w (w.iterAt k s p) :=
  ⟨rfl, rfl, rfl, by rw [iterAt_size]; exact Nat.le_refl _, fun j _ hn => iterAt_other w k j s p hn⟩
end Go.Proofs.YtngahgfppbjebaaDoor
