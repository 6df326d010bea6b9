/-
  Contracts of the clock's methods: New, Load, Cas, Copy: what each gives back, and what becomes of the memory.
-/
import Derived.Test.YtpgmcmdcdkajjaaRows
import Derived.WalkKit
import Derived.ProofKit
import Derived.WalkSpells
import Derived.WalkLawsBesides
namespace Go.Proofs.Ytpgmcmdcdkajjaa
open Go.RowKit

/-- A clock's block holds the number n. -/
def ClkAt (w : World) (b : Nat) (n : Int) : Prop := w.heap[b]? = some (.cells #[.int .u64 n] 63 (0, 0))

theorem ClkAt.cell {w : World} {b : Nat} {n : Int} (h : ClkAt w b n) : w.cell? ⟨b, 0, none⟩ = some (.int .u64 n) := cell_of_row w b 0 _ 63 (0, 0) h
theorem ClkAt.free {w : World} {b : Nat} {n : Int} (h : ClkAt w b n) : w.frozen? ⟨b, 0, none⟩ = false := by
  unfold ClkAt at h
  simp [World.frozen?, h]

theorem clk_new (s : Int) (w : World) (h0 : 0 ≤ s) :
    Calls Try.prog 13 #[.int .u64 s] w fun e w' => e = .returned (.pointer (some ⟨w.heap.size, 0, none⟩)) ∧ w' = w.alloc (.cells #[.int .u64 (min s 4611686018427387903)] 63) := by
  by_cases hs : s ≤ 4611686018427387903
  · have hm : min s 4611686018427387903 = s := by omega
    rw [hm]
    clear hm
    go_enter Try.func13, Try.ntmps13
    go_wp2
    all_goals go_ret
    all_goals exact ⟨rfl, rfl⟩
  · have hm : min s 4611686018427387903 = 4611686018427387903 := by omega
    rw [hm]
    clear hm
    go_enter Try.func13, Try.ntmps13
    go_wp2
    all_goals go_ret
    all_goals exact ⟨rfl, rfl⟩

theorem clk_new_in (s : Int) (w : World) (h0 : 0 ≤ s) (h1 : s ≤ 4611686018427387903) :
    Calls Try.prog 13 #[.int .u64 s] w fun e w' => e = .returned (.pointer (some ⟨w.heap.size, 0, none⟩)) ∧ w' = w.alloc (.cells #[.int .u64 s] 63) := by
  have hm : min s 4611686018427387903 = s := by omega
  have h := clk_new s w h0
  rw [hm] at h
  exact h

theorem ClkAt.new (w : World) (n : Int) : ClkAt (w.alloc (.cells #[.int .u64 n] 63)) w.heap.size n := heap_alloc_new w _
theorem ClkAt.set {w : World} {b : Nat} {n : Int} (h : ClkAt w b n) (m : Int) : ClkAt (w.setCell ⟨b, 0, none⟩ (.int .u64 m)) b m := by
  unfold ClkAt at h ⊢
  simp [World.setCell, Array.getElem?_modify, h]
theorem ClkAt.drew {w : World} {b : Nat} {n : Int} (h : ClkAt w b n) : ClkAt w.drew b n := h
theorem ClkAt.drewN {w : World} {b : Nat} {n : Int} (h : ClkAt w b n) (k : Nat) : ClkAt (w.drewN k) b n := h
theorem ClkAt.lt {w : World} {b : Nat} {n : Int} (h : ClkAt w b n) : b < w.heap.size := by
  rcases Nat.lt_or_ge b w.heap.size with hlt | hge
  · exact hlt
  · unfold ClkAt at h; rw [Array.getElem?_eq_none hge] at h; cases h
theorem ClkAt.alloc {w : World} {b : Nat} {n : Int} (h : ClkAt w b n) (o : Obj) : ClkAt (w.alloc o) b n := (Below.heap_alloc w o b h.lt).trans h
theorem ClkAt.far {w : World} {b : Nat} {n : Int} (h : ClkAt w b n) {p : Addr} (hp : b ≠ p.block) (u : Value) : ClkAt (w.setCell p u) b n := (Below.heap_setCell w p u b hp).trans h
theorem ClkAt.below {w w' : World} {b B : Nat} {n : Int} (h : ClkAt w b n) (hb : Below B w w') (hg : b < B) : ClkAt w' b n := (hb.block b hg).trans h

theorem clk_load (b : Nat) (n : Int) (w : World) (h : ClkAt w b n) :
    Calls Try.prog 15 #[.pointer (some ⟨b, 0, none⟩)] w fun e w' => e = .returned (.int .u64 n) ∧ w = w' := by
  have hc := h.cell
  clear h
  go_enter Try.func15, Try.ntmps15
  go_wp2
  go_ret
  exact ⟨rfl, rfl⟩

theorem clk_copy (b : Nat) (n : Int) (w : World) (h : ClkAt w b n) :
    Calls Try.prog 16 #[.pointer (some ⟨b, 0, none⟩)] w fun e w' => e = .returned (.pointer (some ⟨w.heap.size, 0, none⟩)) ∧ w' = w.alloc (.cells #[.int .u64 n] 63) := by
  have hc := h.cell
  clear h
  go_enter Try.func16, Try.ntmps16
  go_wp2
  go_ret
  exact ⟨rfl, rfl⟩

theorem clk_cas_arg (b : Nat) (old now : Int) (w : World) (h1 : now ≤ old) :
    Calls Try.prog 14 #[.pointer (some ⟨b, 0, none⟩), .int .u64 old, .int .u64 now] w fun e w' => e = .returned (.tuple #[.bool false, .int .i64 1]) ∧ w = w' := by
  go_enter Try.func14, Try.ntmps14
  go_wp2
  go_ret2
  exact ⟨rfl, rfl⟩

theorem clk_cas_clock (b : Nat) (old now : Int) (w : World) (h1 : old < now) (h2 : 4611686018427387904 ≤ now) :
    Calls Try.prog 14 #[.pointer (some ⟨b, 0, none⟩), .int .u64 old, .int .u64 now] w fun e w' => e = .returned (.tuple #[.bool false, .int .i64 7]) ∧ w = w' := by
  go_enter Try.func14, Try.ntmps14
  go_wp2
  go_ret2
  exact ⟨rfl, rfl⟩

theorem clk_cas_no (b : Nat) (n old now : Int) (w : World) (h : ClkAt w b n) (h1 : old < now) (h2 : now < 4611686018427387904) (h3 : n ≠ old) :
    Calls Try.prog 14 #[.pointer (some ⟨b, 0, none⟩), .int .u64 old, .int .u64 now] w fun e w' => e = .returned (.tuple #[.bool false, .int .i64 0]) ∧ w = w' := by
  have hc := h.cell
  have hb : (n != old) = true := by simpa using h3
  clear h h3
  go_enter Try.func14, Try.ntmps14
  go_wp2
  go_ret2
  exact ⟨rfl, rfl⟩

theorem clk_cas_yes (b : Nat) (old now : Int) (w : World) (h : ClkAt w b old) (h1 : old < now) (h2 : now < 4611686018427387904) :
    Calls Try.prog 14 #[.pointer (some ⟨b, 0, none⟩), .int .u64 old, .int .u64 now] w fun e w' => e = .returned (.tuple #[.bool true, .int .i64 0]) ∧ w' = w.setCell ⟨b, 0, none⟩ (.int .u64 now) := by
  have hc := h.cell
  have hf := h.free
  clear h
  go_enter Try.func14, Try.ntmps14
  go_wp2
  go_ret2
  exact ⟨rfl, rfl⟩
end Go.Proofs.Ytpgmcmdcdkajjaa
