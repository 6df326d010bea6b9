/-
  The draws' Prog: small lemmas for the ways through a round.
-/
import Derived.Test.YtpdjhkidalafpaaMkA
namespace Go.Proofs.Ytpdjhkidalafpaa
open Go.RowKit
set_option linter.unusedVariables false
set_option linter.unusedSimpArgs false

theorem shut_lit (base : Nat) (v u : Value) (l : List PIns) (st : List Int) (ll sl : Nat) (w : World) (hv : PRow w base v l) (hu : Stack w base u st) (ha : Apart v u) (hne : st ≠ []) (hll : l.length = ll) (hsl : st.length = sl) (hl : ll ≤ 1000) (hs : sl ≤ 1000) (hb : base ≤ w.heap.size) :
    Calls Try.prog 41 #[v, u] w (RowsPost w base (shutP l st).1 (shutP l st).2) := shut_any base v u l st w hv hu ha hne (by omega) (by omega) hb
theorem Stack.topc {w : World} {base : Nat} {C : Option Addr} {sl cap : Nat} {st : List Int} (h : Stack w base (.slice C sl cap) st) (hsl : st.length = sl) (hp : 0 < sl) :
    ∃ g x r, C = some ⟨g, 0, none⟩ ∧ st = x :: r ∧ w.cell? ⟨g, sl - 1, none⟩ = some (.int .i64 x) ∧ g < w.heap.size := by
  subst hsl
  cases st with
  | nil => simp at hp
  | cons x r =>
    rcases h.form with ⟨h0, _⟩ | ⟨g, cap', hv, _, hlt, _, _⟩
    · cases h0
    · injection hv with h1
      subst h1
      exact ⟨g, x, r, rfl, rfl, h.top (by simp), hlt⟩
end Go.Proofs.Ytpdjhkidalafpaa
