/-
  The reference's names of calls; its May and Call.
-/
import Derived.Test.YtngahgfppbjebaaDoorGrpNameFold
import Derived.Test.YtngahgfppbjebaaDoorGrpPlain
namespace Go.Proofs.YtngahgfppbjebaaDoor
open Go.RowKit
set_option linter.unusedVariables false
set_option linter.unusedSimpArgs false

/-- The reference's names of calls lie in their variable. -/
def TabAt (w : World) : Prop := ∀ k, k < 12 → w.cell? ⟨0, k, none⟩ = some (.string (callList.getD (k + 1) ⟨#[]⟩))
section
variable {w w' : World}
theorem TabAt.lt (h : TabAt w) : 0 < w.heap.size := by
  have := h 0 (by decide)
  rcases Nat.lt_or_ge 0 w.heap.size with hlt | hge
  · exact hlt
  · simp [World.cell?, Array.getElem?_eq_none hge] at this
theorem TabAt.only (h : TabAt w) (ho : Only Nob w w') : TabAt w' := fun k hk => (ho.cell (p := ⟨0, k, none⟩) h.lt (fun h => h)).trans (h k hk)
theorem TabAt.alloc (h : TabAt w) (o : Obj) : TabAt (w.alloc o) := h.only ((Only.refl _ _).alloc o)
theorem TabAt.drew (h : TabAt w) : TabAt w.drew := h
theorem TabAt.drewN (h : TabAt w) (n : Nat) : TabAt (w.drewN n) := h
end

theorem rmay_may_any (op a b c N : Int) (w : World) :
    Calls Tryd.prog 66 #[.agg #[.int .i64 op, .int .i64 a, .int .i64 b, .int .i64 c, .int .u64 N]] w fun e w' => e = .returned (.bool (mayB op a b c N)) ∧ Only Nob w w' := by
  have h := rmay_any op a b c N w
  rw [rmay_may] at h
  exact h

theorem refcall_any (n : Int) (w : World) (h : TabAt w) : Calls Tryd.prog 95 #[.int .i64 n] w fun e w' => e = .returned (.string (atList callList n)) ∧ w = w' := by
  by_cases h1 : n < 1
  · rw [list_out rfl callList_len (by omega)]
    clear h
    go_enter Tryd.func95, Tryd.ntmps95
    go_wp2
    go_ret
    exact ⟨rfl, rfl⟩
  · by_cases h2 : 12 < n
    · rw [list_out rfl callList_len (by omega)]
      clear h
      go_enter Tryd.func95, Tryd.ntmps95
      go_wp2
      go_ret
      exact ⟨rfl, rfl⟩
    · obtain ⟨k, rfl⟩ : ∃ k : Nat, n = (k : Int) + 1 := ⟨(n - 1).toNat, by omega⟩
      have hk : k < 12 := by omega
      have hc := h k hk
      have e : atList callList ((k : Int) + 1) = callList.getD (k + 1) ⟨#[]⟩ := by
        unfold atList
        rw [if_pos (by omega), show ((k : Int) + 1).toNat = k + 1 by omega]
      rw [e]
      generalize callList.getD (k + 1) ⟨#[]⟩ = nm at *
      have e1 : (k : Int) + 1 - 1 = (k : Int) := by omega
      have hkI : (k : Int) < 12 := by omega
      clear h e
      go_enter Tryd.func95, Tryd.ntmps95
      go_wp2
      go_ret
      exact ⟨rfl, rfl⟩
end Go.Proofs.YtngahgfppbjebaaDoor
