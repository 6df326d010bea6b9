/-
  A slate, kept; a must; the word of a result.
-/
import Derived.Test.YtngahgfppbjebaaDoorSlateAt
import Derived.Test.YtngahgfppbjebaaDoorSlateAdd
import Derived.Test.YtngahgfppbjebaaDoorSlFmt
namespace Go.Proofs.YtngahgfppbjebaaDoor
open Go.RowKit
set_option linter.unusedVariables false
set_option linter.unusedSimpArgs false

theorem ownsRow_only {S : Nat → Prop} {w w' : World} {base : Nat} {e : TypeId} {size : Nat} {v : Value} {n : Nat} {xs : List Value} (h : w.ownsRow base e size v n xs) (ho : Only S w w') (hn : ∀ k, v.ownBlock = some k → ¬ S k) :
    w'.ownsRow base e size v n xs := by
  obtain ⟨h1, h2⟩ := h
  refine ⟨h1, ?_⟩
  rcases h2 with h2 | ⟨g, cap, cur, hv, hb, hc, hr⟩
  · exact .inl h2
  · refine .inr ⟨g, cap, cur, hv, hb, ?_, hr⟩
    have hg : g < w.heap.size := by
      rcases Nat.lt_or_ge g w.heap.size with h | h
      · exact h
      · rw [Array.getElem?_eq_none h] at hc; cases hc
    rw [ho.block g hg (hn g (by rw [hv]; rfl))]
    exact hc
theorem Sl.only {S : Nat → Prop} {w w' : World} {base g : Nat} {v : Value} {l : List Itm} (h : Sl w base g v l) (ho : Only S w w') (hg : ¬ S g) (hn : ∀ k, v.ownBlock = some k → ¬ S k) : Sl w' base g v l :=
  ⟨h.cell.only ho hg, ownsRow_only h.row ho hn, h.apart⟩
theorem Sl.nob {w w' : World} {base g : Nat} {v : Value} {l : List Itm} (h : Sl w base g v l) (ho : Only Nob w w') : Sl w' base g v l := h.only ho (fun h => h) (fun _ _ h => h)
theorem Sl.own_lt {w : World} {base g : Nat} {v : Value} {l : List Itm} (h : Sl w base g v l) {k : Nat} (hk : v.ownBlock = some k) : base ≤ k ∧ k < w.heap.size := h.row.lt k hk

theorem asMN (x : Int) (W : World) : (Instr.typeAssert (.iface 25 (.int .u64 x)) 20 25 false).run Tryd.prog W = .ok (.int .u64 x) W := by kernel_rfl
set_option maxRecDepth 100000 in
theorem must_any (w : World) (base g : Nat) (v : Value) (l : List Itm) (h : Sl w base g v l) (hl : l.length ≤ 1000) (i : Int) (n : Nat) (hi : itmAt l i = some (.num n)) :
    Calls Tryd.prog 25 #[.pointer (some ⟨g, 0, none⟩), .int .i64 i] w fun e w' => e = .returned (.int .u64 (n : Int)) ∧ w = w' := by
  have HC := hide (at_any w base g v l h hl i)
  rw [hi] at HC
  clear h hl hi
  replace HC := HC.out
  simp only [itmV, itemV] at HC
  have HC1 := hide HC
  clear HC
  have aN := @asMN
  go_enter Tryd.func25, Tryd.ntmps25
  go_wp2_with (go_at_call 42; refine (HC1.out).mono ?_; rintro e w2 ⟨rfl, rfl⟩)
  go_ret
  exact ⟨rfl, rfl⟩
set_option maxRecDepth 100000 in
theorem word_any (x : Itm) (hx : x.ok) (w : World) (htab : Pow10 w) :
    Calls Tryd.prog 45 #[itemV x] w fun e w' => e = .returned (.string ⟨(itmW x).toArray⟩) ∧ Only Nob w w' := by
  rcases x with n | b | _
  · have HC := hide (formatUint_any n (by have : n ≤ 18446744073709551615 := hx; omega) w htab)
    have aN := @asNN
    simp only [itemV, itmW]
    clear hx htab
    go_enter Tryd.func45, Tryd.ntmps45
    go_wp2_with (go_at_call 72; refine (HC.out).mono ?_; rintro e w2 ⟨rfl, h1⟩; have H1 := hide h1; clear h1)
    go_ret
    exact ⟨rfl, H1.out⟩
  · clear hx htab
    have aN := @asNT
    have aT := @asTT
    simp only [itemV]
    cases b
    · go_enter Tryd.func45, Tryd.ntmps45
      go_wp2
      go_ret
      exact ⟨rfl, Only.refl _ _⟩
    · go_enter Tryd.func45, Tryd.ntmps45
      go_wp2
      go_ret
      exact ⟨rfl, Only.refl _ _⟩
  · clear hx htab
    have aN := @asNO
    have aT := @asTO
    simp only [itemV]
    go_enter Tryd.func45, Tryd.ntmps45
    go_wp2
    go_ret
    exact ⟨rfl, Only.refl _ _⟩
end Go.Proofs.YtngahgfppbjebaaDoor
