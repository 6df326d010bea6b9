/-
  The parser's labels: a map of the call's own, told as a list.
-/
import Derived.Test.YtngahgfppbjebaaDoorTxPlain
import Derived.Test.YtngahgfppbjebaaDoorFrames
import Derived.Test.YtngahgfppbjebaaDoorBase
import Derived.Maps.OwnSet
import Derived.Maps.Views
namespace Go.Proofs.YtngahgfppbjebaaDoor
open Go.RowKit Go.Maps Go.WideMaps
set_option linter.unusedVariables false
set_option linter.unusedSimpArgs false

theorem labKeyed : Keyed Tryd.prog 9 := string_keyed Tryd.underlying9
theorem labZero (w : World) : (zeroValue 3).run Tryd.prog w = .ok (.int .i64 0) w := by kernel_rfl
theorem wf_nat (n : Nat) (hn : n ≤ 1000000) : (Lit.int .i64 (n : Int)).wf = true := WalkArith.wf_i64 (by omega)
/-- Block gm holds just these labels. -/
def LabAt (w : World) (gm : Nat) (labels : List (List UInt8 × Nat)) : Prop :=
  ∃ (D : DataW Unit) (cnt : Nat), w.ownsMap Tryd.prog 9 (plainElem Tryd.prog 3) gm cnt D ∧ cnt ≤ labels.length ∧ (∀ s, Maps.has D (.string s) = (lookP labels s).isSome) ∧ ∀ s c, lookP labels s = some c → D.atKey (.string s) (.lit (.int .i64 0)) = .lit (.int .i64 (c : Int))
theorem LabAt.made (w : World) : LabAt (w.alloc (.map #[] 0)) w.heap.size [] :=
  ⟨_, 0, World.ownsMap_made _ _ _ _, Nat.le_refl _, fun s => rfl, fun s c h => by cases h⟩
theorem LabAt.lt {w : World} {gm : Nat} {labels : List (List UInt8 × Nat)} (h : LabAt w gm labels) : gm < w.heap.size := by
  obtain ⟨D, cnt, h1, _⟩ := h
  exact h1.lt
theorem LabAt.only {S : Nat → Prop} {w w' : World} {gm : Nat} {labels : List (List UInt8 × Nat)} (h : LabAt w gm labels) (ho : Only S w w') (hn : ¬ S gm) : LabAt w' gm labels := by
  have hlt := h.lt
  obtain ⟨D, cnt, ⟨es, clock, h1, h2⟩, h3⟩ := h
  exact ⟨D, cnt, ⟨es, clock, (ho.block gm hlt hn).trans h1, h2⟩, h3⟩
theorem LabAt.drew {w : World} {gm : Nat} {labels : List (List UInt8 × Nat)} (h : LabAt w gm labels) : LabAt w.drew gm labels := h
set_option maxRecDepth 100000 in
theorem LabAt.look {w : World} {gm : Nat} {labels : List (List UInt8 × Nat)} (h : LabAt w gm labels) (s : ByteArray) (hs : s.size ≤ maxLen) :
    ∃ c : Int, (Instr.lookup 98 (.map (some gm)) (.string s) true).run Tryd.prog w = .ok (.tuple #[.int .i64 c, .bool (lookP labels s.data.toList).isSome]) w ∧ ∀ n, lookP labels s.data.toList = some n → c = (n : Int) := by
  obtain ⟨D, cnt, h1, h2, h3, h4⟩ := h
  obtain ⟨v, ps, hrun, hv⟩ := h1.look_ok labKeyed Tryd.underlying98 (labZero w) (plainElem_int Tryd.underlying3 (by decide)) (keyOf_string_mk Tryd.underlying9 hs)
  obtain ⟨c, rfl, hc, _⟩ := plainElem_int_inv Tryd.underlying3 hv
  refine ⟨c, ?_, ?_⟩
  · rw [hrun, h3]
  · intro n hn
    have h5 := h4 _ n hn
    have h6 := congrArg Prod.fst hc
    simp only at h6
    rw [h5] at h6
    injection h6 with h6
    injection h6 with _ h6
    exact h6.symm
theorem lookP_snoc (labels : List (List UInt8 × Nat)) (s : List UInt8) (n : Nat) (t : List UInt8) (h : lookP labels s = none) : lookP (labels ++ [(s, n)]) t = if t = s then some n else lookP labels t := by
  unfold lookP at *
  rw [List.find?_append]
  by_cases ht : t = s
  · subst ht
    rw [if_pos rfl]
    cases hf : labels.find? (fun e => e.1 == t) with
    | none => simp
    | some x => rw [hf] at h; cases h
  · rw [if_neg ht]
    cases hf : labels.find? (fun e => e.1 == t) with
    | none =>
      have : (s == t) = false := by simpa using fun e => ht e.symm
      simp [this]
    | some x => simp
set_option maxRecDepth 100000 in
theorem LabAt.store {w : World} {gm : Nat} {labels : List (List UInt8 × Nat)} (h : LabAt w gm labels) (hl : labels.length ≤ 1000000) (s : ByteArray) (hs : s.size ≤ maxLen) (hno : lookP labels s.data.toList = none) (n : Nat) (hn : n ≤ 1000000) :
    ∃ w', (Instr.mapUpdate 98 (.map (some gm)) (.string s) (.int .i64 (n : Int))).run Tryd.prog w = .ok () w' ∧ LabAt w' gm (labels ++ [(s.data.toList, n)]) ∧ Only (Ob gm) w w' := by
  obtain ⟨D, cnt, h1, h2, h3, h4⟩ := h
  obtain ⟨w', hrun, h5, h6⟩ := h1.update labKeyed Tryd.underlying98 (by unfold maxLen; omega) (keyOf_string_mk Tryd.underlying9 hs) (plainElem_int Tryd.underlying3 (wf_nat n hn))
  have hM : IsMap D := by
    obtain ⟨es, clock, _, _, _, hD⟩ := h1
    exact ⟨_, hD⟩
  refine ⟨w', hrun, ⟨_, cnt + 1, h5, by rw [List.length_append]; simp; omega, ?_, ?_⟩, Only.of_grown h6 (fun k hk _ => by injection hk with hk; exact hk.symm)⟩
  · intro t
    rw [lookP_snoc _ _ _ _ hno]
    by_cases ht : t = s.data.toList
    · subst ht
      rw [if_pos rfl, has_put_same hM (by trivial)]
      rfl
    · rw [if_neg ht, has_put_other (by intro e; injection e with e; exact ht e), h3]
  · intro t c hc
    rw [lookP_snoc _ _ _ _ hno] at hc
    by_cases ht : t = s.data.toList
    · subst ht
      rw [if_pos rfl] at hc
      injection hc with hc
      subst hc
      rw [atKey_put_same hM (by trivial)]
    · rw [if_neg ht] at hc
      rw [atKey_put_other (by intro e; injection e with e; exact ht e)]
      exact h4 t c hc
end Go.Proofs.YtngahgfppbjebaaDoor
