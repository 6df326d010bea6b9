/-
  The law SlatePlays, walked.
-/
import Derived.Test.YtngahgfppbjebaaDoorSlDoW
import Derived.Test.YtngahgfppbjebaaDoorSlRuns
namespace Go.Proofs.YtngahgfppbjebaaDoor
open Go.RowKit
set_option linter.unusedVariables false
set_option linter.unusedSimpArgs false

/-- A slate that was made just now: nothing is in it. -/
theorem DoInv.start {w : World} (htab : Pow10 w) : DoInv (w.alloc (.cells #[.slice none 0 0] 77)) (w.alloc (.cells #[.slice none 0 0] 77)) (w.heap.size + 1) w.heap.size (.slice none 0 0) (.slice none 0 0) [] none none := by
  have hz := htab.lt
  refine ⟨⟨Sl.made w _, ItemsIn.nil _ _, Nat.zero_le _, fun x h => (by cases h), fun ad h => (by cases h), fun j h => (by cases h), fun ad h => (by cases h)⟩, Only.refl _ _, .inl rfl, .inl rfl, htab.nob ((Only.refl _ w).alloc _), Nat.le_of_eq (World.size_alloc _ _).symm, ?_, ?_⟩
  · intro e
    omega
  · intro j h
    cases h
theorem slate_new_only {w w1 w2 : World} {g : Nat} {v0 : Value} (h : Only Nob w w1) (hg : w1.heap.size ≤ g) (hv : ∀ j, v0.ownBlock = some j → w1.heap.size ≤ j) (ho : Only (fun j => j = g ∨ v0.ownBlock = some j) (w1.alloc (.cells #[.slice none 0 0] 77)) w2) : Only Nob w w2 := by
  refine Only.after (h.alloc _) ho ?_
  rintro i (hi | hi)
  · exact .inr (by have := h.size; omega)
  · exact .inr (by have := h.size; have := hv i hi; omega)
set_option maxRecDepth 100000 in
theorem slate_plays (W : World) (A : Option Addr) (len cap : Nat) (hq : Asks W W.heap.size A len) (htab : Pow10 W) :
    Calls Tryd.prog 5 #[.slice A len cap] W fun e w' => e = .returned (.bool true) ∧ Below W.heap.size W w' := by
  have HQ := hide hq
  have HT := hide htab
  clear hq htab
  go_enter Tryd.func5, Tryd.ntmps5
  go_wp2_with (first
    | (go_at_call 3; refine (slate_runs W HT.out).mono ?_; rintro e w1 ⟨rfl, ho1⟩; have HO1 := hide ho1; clear ho1)
    | (go_at_call 15; refine (new_any w1).mono ?_; rintro e w2 ⟨rfl, rfl⟩)
    | (go_at_call 29; refine (do_any _ (w1.heap.size + 1) w1.heap.size _ [] none 0 0 W.heap.size A len cap (DoInv.start (HT.out.nob HO1.out)) rfl (Nat.le_refl _) (HQ.out.below (HO1.out.alloc _).new) (Nat.le_succ_of_le HO1.out.size) HO1.out.size).mono ?_; rintro e w3 ⟨A3, n3, c3, its3, v3, rfl, hn3, hc3, hI3⟩; have HI3 := hide hI3; clear hn3 hc3 hI3))
  go_ret
  exact ⟨rfl, (slate_new_only HO1.out (Nat.le_refl _) (fun j h => by cases h) HI3.out.only).new⟩
end Go.Proofs.YtngahgfppbjebaaDoor
