/-
  Small lemmas for the laws on check: a drawn program that came in; a program in a row; a world under a name.
-/
import Derived.Test.YtpdjhkidalafpaaMake
import Derived.Test.YtpdjhkidalafpaaMakeLaw
import Derived.Test.YtpdjhkidalafpaaCheckRuns
import Derived.StillTailTactics
import Derived.IntWalk
import Derived.Deep.DeepMust
namespace Go.Proofs.Ytpdjhkidalafpaa
open Go.ChangeShapes Go.WideShapes Go.ChangeAt Go.RowKit Go.Deep
set_option linter.unusedVariables false
set_option linter.unusedSimpArgs false

theorem cellsKeep : Try.prog.cellsOf 74 = 5 := by kernel_rfl
theorem open_keep {H : Type} {enc : TypeId × Value → H} {w : World} {v : Value} {d : DataW H} {ps : List MemPlace} {b0 : Nat} (hv : Value.okWide Try.prog w .any b0 48 v)
    (h : DataW.Trod enc Try.prog w 0 (fun _ => true) true 48 v d ps) : ∃ A len cap, v = .slice A len cap ∧ ProgArg w A len :=
  open_five Try.underlying48 Try.underlying74 rfl rfl rfl rfl rfl (by kernel_rfl) cellsKeep hv h

theorem Only.set1 {b : Nat} {a w : World} (h : Only (Ob b) a w) (o : Nat) (u : Value) : Only (Ob b) a (w.setCell ⟨b, o, none⟩ u) := h.setCell (p := ⟨b, o, none⟩) (.inl rfl) u
theorem abstract_wp {P : Program} {c : Code} {Q : Exit → Act → World → Prop} {a : Act} {w : World} (I : World → Prop) (hI : I w) (h : ∀ w', I w' → Code.wp P c Q a w') : Code.wp P c Q a w := h w hI
theorem PRow.in_ {w : World} {base n cap : Nat} {A : Option Addr} {l : List PIns} (h : PRow w base (.slice A n cap) l) : ProgIn w w.heap.size A l := by
  obtain ⟨A', cap', hv, hin⟩ := h.lies
  injection hv with h1
  subst h1
  exact hin
theorem within_st (n lo hi : Int) (w : World) (h : lo ≤ hi) (h1 : -10000 ≤ lo) (h2 : hi ≤ 10000) :
    Calls Try.prog 18 #[.int .i64 n, .int .i64 lo, .int .i64 hi] w fun e w' => e = .returned (.int .i64 (winB n lo hi)) ∧ w' = w :=
  (within_in n lo hi w h h1 h2).mono fun _ _ ⟨a, b⟩ => ⟨a, b.symm⟩

theorem IntsOut.pos {w : World} {v : Value} {l : List Int} {n : Nat} (h : IntsOut w v l) (hl : l.length = n) (hn : 0 < n) : ∃ g cap, v = .slice (some ⟨g, 0, none⟩) n cap ∧ IntBlk w g l := by
  subst hl
  rcases h with ⟨h1, _⟩ | h
  · subst h1
    simp at hn
  · exact h
end Go.Proofs.Ytpdjhkidalafpaa
