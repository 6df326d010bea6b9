/-
  Contracts of package check: which instructions begin and end parts; the stack of what is open.
-/
import Derived.Test.YtpdjhkidalafpaaPlain
import Derived.Test.YtpdjhkidalafpaaWords
import Derived.WalkSmall
import Derived.Outline
namespace Go.Proofs.Ytpdjhkidalafpaa
open Go.RowKit

theorem begins_any (n : Int) (w : World) : Calls Try.prog 46 #[.int .i64 n] w fun e w' => e = .returned (.bool (beginsB n)) ∧ w = w' := by
  rcases (by omega : n = 14 ∨ n ≠ 14) with h | h
  · subst h
    go_enter Try.func46, Try.ntmps46
    go_wp2
    go_ret
    exact ⟨rfl, rfl⟩
  · have d : (n == 14) = false := by simpa using h
    rcases (by omega : n = 17 ∨ n ≠ 17) with h2 | h2
    · subst h2
      go_enter Try.func46, Try.ntmps46
      go_wp2
      go_ret
      exact ⟨rfl, rfl⟩
    · have d2 : (n == 17) = false := by simpa using h2
      rw [show beginsB n = false by simp [beginsB, h, h2]]
      go_enter Try.func46, Try.ntmps46
      go_wp2
      go_ret
      exact ⟨rfl, rfl⟩

theorem ends_any (n : Int) (w : World) : Calls Try.prog 39 #[.int .i64 n] w fun e w' => e = .returned (.int .i64 (endsI n)) ∧ w = w' := by
  rcases (by omega : n = 15 ∨ n = 18 ∨ n = 19 ∨ (n ≠ 15 ∧ n ≠ 18 ∧ n ≠ 19)) with rfl | rfl | rfl | ⟨h1, h2, h3⟩
  · rw [show endsI 15 = 14 by decide]
    go_enter Try.func39, Try.ntmps39
    go_wp2
    go_ret
    exact ⟨rfl, rfl⟩
  · rw [show endsI 18 = 17 by decide]
    go_enter Try.func39, Try.ntmps39
    go_wp2
    go_ret
    exact ⟨rfl, rfl⟩
  · rw [show endsI 19 = 18 by decide]
    go_enter Try.func39, Try.ntmps39
    go_wp2
    go_ret
    exact ⟨rfl, rfl⟩
  · rw [show endsI n = 0 by simp [endsI, h1, h2, h3]]
    have d1 : (n == 15) = false := by simpa using h1
    have d2 : (n == 18) = false := by simpa using h2
    have d3 : (n == 19) = false := by simpa using h3
    go_enter Try.func39, Try.ntmps39
    go_wp2
    go_ret
    exact ⟨rfl, rfl⟩

/-- A stack as it lies in memory: the inmost last. -/
def ints (l : List Int) : List Value := l.map (Value.int .i64)
def Stack (w : World) (base : Nat) (v : Value) (st : List Int) : Prop := w.ownsRow base 3 1 v st.length (ints st.reverse)
theorem Stack.nil (w : World) (base : Nat) : Stack w base (.slice none 0 0) [] := ⟨by simp [ints], .inl ⟨rfl, rfl⟩⟩
theorem Stack.form {w : World} {base : Nat} {v : Value} {st : List Int} (h : Stack w base v st) :
    (st = [] ∧ v = .slice none 0 0) ∨ ∃ g cap, v = .slice (some ⟨g, 0, none⟩) st.length cap ∧ base ≤ g ∧ g < w.heap.size ∧ st.length ≤ cap ∧ cap ≤ maxLen := by
  rcases h.2 with ⟨h1, h2⟩ | ⟨g, cap, cur, hv, hg, hh, hn, hc, _, _⟩
  · exact .inl ⟨List.eq_nil_of_length_eq_zero h2, h1⟩
  · refine .inr ⟨g, cap, hv, hg, ?_, hn, hc⟩
    rcases Nat.lt_or_ge g w.heap.size with hlt | hge
    · exact hlt
    · rw [Array.getElem?_eq_none hge] at hh; cases hh
theorem Stack.top {w : World} {base : Nat} {g cap t : Nat} {x : Int} {st : List Int} (h : Stack w base (.slice (some ⟨g, 0, none⟩) (st.length + 1) cap) (x :: st)) (ht : t = st.length) : w.cell? ⟨g, t, none⟩ = some (.int .i64 x) := by
  subst ht
  have hc := World.ownsRow.cells h (g := g) rfl st.length (.int .i64 x) (by
    simp only [ints, List.reverse_cons, List.map_append]
    rw [List.getElem?_append_right (by simp)]
    simp)
  by_cases h0 : st.length = 0
  · simpa [Addr.add, h0] using hc
  · simpa [Addr.add, h0] using hc
theorem Stack.drew {w : World} {base : Nat} {v : Value} {st : List Int} (h : Stack w base v st) : Stack w.drew base v st := h
theorem Stack.keep {w w' : World} {base : Nat} {v : Value} {st : List Int} (h : Stack w base v st) (hb : Below w.heap.size w w') : Stack w' base v st := by
  refine ⟨h.1, ?_⟩
  rcases h.2 with h1 | ⟨g, cap, cur, hv, hg, hh, r⟩
  · exact .inl h1
  · refine .inr ⟨g, cap, cur, hv, hg, (hb.block g ?_).trans hh, r⟩
    rcases Nat.lt_or_ge g w.heap.size with hlt | hge
    · exact hlt
    · rw [Array.getElem?_eq_none hge] at hh; cases hh
theorem Stack.alloc {w : World} {base : Nat} {v : Value} {st : List Int} (h : Stack w base v st) (o : Obj) : Stack (w.alloc o) base v st :=
  h.keep (Only.new (Only.alloc (Only.refl _ _) o))
theorem Stack.only {w w' : World} {base : Nat} {v : Value} {st : List Int} (h : Stack w base v st) (hb : Only Nob w w') : Stack w' base v st := h.keep hb.new

theorem inmost_any (base : Nat) (v : Value) (st : List Int) (w : World) (h : Stack w base v st) (hl : st.length ≤ 1000) :
    Calls Try.prog 36 #[v] w fun e w' => e = .returned (.int .i64 (topP st)) ∧ w = w' := by
  cases st with
  | nil =>
    rw [show topP [] = -1 from rfl]
    rcases h.form with ⟨_, rfl⟩ | ⟨g, cap, hv, _, _, _, hc⟩
    · go_enter Try.func36, Try.ntmps36
      go_wp2
      go_ret
      exact ⟨rfl, rfl⟩
    · rw [hv]
      clear h hv
      simp only [List.length_nil]
      go_enter Try.func36, Try.ntmps36
      go_wp2
      go_ret
      exact ⟨rfl, rfl⟩
  | cons x r =>
    rw [show topP (x :: r) = x from rfl]
    rcases h.form with ⟨h0, _⟩ | ⟨g, cap, hv, _, _, _, hc⟩
    · cases h0
    · subst hv
      have hc := h.top rfl
      simp only [List.length_cons] at hl ⊢
      clear h
      generalize r.length = m at *
      have hd : ((m : Int) + 1 == 0) = false := by simp; omega
      go_enter Try.func36, Try.ntmps36
      go_wp2
      go_ret
      exact ⟨rfl, rfl⟩
end Go.Proofs.Ytpdjhkidalafpaa
