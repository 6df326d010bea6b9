/-
  Contracts of the reference's memory as the clock's laws use it: a Cas of the clock.
-/
import Derived.Test.YtpgmcmdcdkajjaaClkRuns
import Derived.Test.YtpgmcmdcdkajjaaFrames
import Derived.Deep.RegionWith
import Derived.BigQuiet
namespace Go.Proofs.Ytpgmcmdcdkajjaa
open Go.RowKit

/-- The cells of a memory's block: its shape, three rows, the clock, a count. -/
def memCells (a b c d e : Int) (W L S : Value) (n k : Int) : Array Value :=
  #[.int .i64 a, .int .i64 b, .int .i64 c, .int .i64 d, .int .u64 e, W, L, .int .u64 n, S, .int .i64 k]
/-- What a Cas of the clock leaves of a memory's block: its shape and its rows. -/
structure MemSh where
  a : Int
  b : Int
  c : Int
  d : Int
  e : Int
  W : Value
  L : Value
  S : Value
variable {X : MemSh}
/-- Its clock stands at n. -/
def MemAt (X : MemSh) (w : World) (m : Nat) (n : Int) : Prop := ∃ k, Blk w m 39 (memCells X.a X.b X.c X.d X.e X.W X.L X.S n k)
theorem MemAt.lt {w : World} {m : Nat} {n : Int} (h : MemAt X w m n) : m < w.heap.size := by
  obtain ⟨_, hb⟩ := h
  exact hb.lt
theorem MemAt.drew {w : World} {m : Nat} {n : Int} (h : MemAt X w m n) : MemAt X w.drew m n := h
theorem MemAt.drewN {w : World} {m : Nat} {n : Int} (h : MemAt X w m n) (k : Nat) : MemAt X (w.drewN k) m n := h
theorem MemAt.alloc {w : World} {m : Nat} {n : Int} (h : MemAt X w m n) (o : Obj) : MemAt X (w.alloc o) m n := by
  obtain ⟨k, hb⟩ := h
  exact ⟨k, hb.alloc o⟩
theorem MemAt.far {w : World} {m : Nat} {n : Int} (h : MemAt X w m n) {p : Addr} (hp : m ≠ p.block) (u : Value) : MemAt X (w.setCell p u) m n := by
  obtain ⟨k, hb⟩ := h
  exact ⟨k, hb.far hp u⟩
theorem MemAt.only {P : Nat → Prop} {w w' : World} {m : Nat} {n : Int} (h : MemAt X w m n) (ho : Only P w w') (hm : ¬ P m) : MemAt X w' m n := by
  obtain ⟨k, hb⟩ := h
  exact ⟨k, hb.only ho hm⟩
theorem MemAt.count {w : World} {m : Nat} {n : Int} (h : MemAt X w m n) (q : Int) : MemAt X (w.setCell ⟨m, 9, none⟩ (.int .i64 q)) m n := by
  obtain ⟨k, hb⟩ := h
  exact ⟨q, hb.set_ 9 _⟩
theorem MemAt.clock {w : World} {m : Nat} {n : Int} (h : MemAt X w m n) (q : Int) : MemAt X (w.setCell ⟨m, 7, none⟩ (.int .u64 q)) m q := by
  obtain ⟨k, hb⟩ := h
  exact ⟨k, hb.set_ 7 _⟩
theorem MemAt.cells {w : World} {m : Nat} {n : Int} (h : MemAt X w m n) :
    w.cell? ⟨m, 7, none⟩ = some (.int .u64 n) ∧ (∃ k, w.cell? ⟨m, 9, none⟩ = some (.int .i64 k)) ∧ w.frozen? ⟨m, 7, none⟩ = false ∧ w.frozen? ⟨m, 9, none⟩ = false := by
  obtain ⟨k, hb⟩ := h
  exact ⟨hb.cell 7, ⟨k, hb.cell 9⟩, hb.frozen 7, hb.frozen 9⟩
theorem MemAt.in2 {w : World} {m : Nat} {n : Int} (h : MemAt X w m n) (o1 o2 : Obj) : ((w.alloc o1).alloc o2).cell? ⟨m, 7, none⟩ = some (.int .u64 n) := ((h.alloc o1).alloc o2).cells.1
theorem MemAt.in2f {w : World} {m : Nat} {n : Int} (h : MemAt X w m n) (o1 o2 : Obj) : ((w.alloc o1).alloc o2).frozen? ⟨m, 7, none⟩ = false := ((h.alloc o1).alloc o2).cells.2.2.1

theorem mem_clock_arg (m : Nat) (old now : Int) (w : World) (h1 : now ≤ old) :
    Calls Try.prog 40 #[.pointer (some ⟨m, 0, none⟩), .agg #[.int .i64 7, .int .i64 0, .int .u64 old, .int .u64 now, .int .u64 0, .bool false, .int .i64 0, .int .u64 0, .bool false, .int .i64 0]] w fun e w' => e = .returned (.agg #[.int .u64 0, .int .u64 0, .bool false, .int .i64 0, .bool false, .int .i64 1]) ∧ Only Nob w w' := by
  go_enter Try.func40, Try.ntmps40
  go_wp2
  refine bodyPost_ret (by simp [results, Try.results40, go_sem]; try rfl) rfl ?_
  exact ⟨rfl, by repeat' (first | (with_reducible refine Only.setCell ?_ ?_ _) | (with_reducible refine Only.alloc ?_ _) | (with_reducible refine Only.drewN ?_ _) | (with_reducible refine Only.drew ?_) | (with_reducible exact Only.refl _ _) | (right; simp; done) | (right; simp; omega) | (left; rfl))⟩

theorem mem_clock_clock (m : Nat) (old now : Int) (w : World) (h1 : old < now) (h2 : 4611686018427387904 ≤ now) :
    Calls Try.prog 40 #[.pointer (some ⟨m, 0, none⟩), .agg #[.int .i64 7, .int .i64 0, .int .u64 old, .int .u64 now, .int .u64 0, .bool false, .int .i64 0, .int .u64 0, .bool false, .int .i64 0]] w fun e w' => e = .returned (.agg #[.int .u64 0, .int .u64 0, .bool false, .int .i64 0, .bool false, .int .i64 7]) ∧ Only Nob w w' := by
  go_enter Try.func40, Try.ntmps40
  go_wp2
  refine bodyPost_ret (by simp [results, Try.results40, go_sem]; try rfl) rfl ?_
  exact ⟨rfl, by repeat' (first | (with_reducible refine Only.setCell ?_ ?_ _) | (with_reducible refine Only.alloc ?_ _) | (with_reducible refine Only.drewN ?_ _) | (with_reducible refine Only.drew ?_) | (with_reducible exact Only.refl _ _) | (right; simp; done) | (right; simp; omega) | (left; rfl))⟩

theorem mem_clock_no (m : Nat) (n old now : Int) (w : World) (h : MemAt X w m n) (h1 : old < now) (h2 : now < 4611686018427387904) (h3 : n ≠ old) :
    Calls Try.prog 40 #[.pointer (some ⟨m, 0, none⟩), .agg #[.int .i64 7, .int .i64 0, .int .u64 old, .int .u64 now, .int .u64 0, .bool false, .int .i64 0, .int .u64 0, .bool false, .int .i64 0]] w fun e w' => e = .returned (.agg #[.int .u64 0, .int .u64 0, .bool false, .int .i64 0, .bool false, .int .i64 0]) ∧ Only Nob w w' := by
  have d7 := h.in2
  have hq : (n != old) = true := by simpa using h3
  clear h h3
  go_enter Try.func40, Try.ntmps40
  go_wp2
  go_quiet (fail)
  go_wp2
  refine bodyPost_ret (by simp [results, Try.results40, go_sem]; try rfl) rfl ?_
  exact ⟨rfl, by repeat' (first | (with_reducible refine Only.setCell ?_ ?_ _) | (with_reducible refine Only.alloc ?_ _) | (with_reducible refine Only.drewN ?_ _) | (with_reducible refine Only.drew ?_) | (with_reducible exact Only.refl _ _) | (right; simp; done) | (right; simp; omega) | (left; rfl))⟩

theorem mem_clock_yes (m : Nat) (old now : Int) (w : World) (h : MemAt X w m old) (h1 : old < now) (h2 : now < 4611686018427387904) :
    Calls Try.prog 40 #[.pointer (some ⟨m, 0, none⟩), .agg #[.int .i64 7, .int .i64 0, .int .u64 old, .int .u64 now, .int .u64 0, .bool false, .int .i64 0, .int .u64 0, .bool false, .int .i64 0]] w fun e w' => e = .returned (.agg #[.int .u64 0, .int .u64 0, .bool false, .int .i64 0, .bool true, .int .i64 0]) ∧ Only (Ob m) w w' ∧ MemAt X w' m now := by
  have d7 := h.in2
  have f7 := h.in2f
  have hq : (old != old) = false := by simp
  have hlt := h.lt
  have H := hide h
  clear h
  go_enter Try.func40, Try.ntmps40
  go_wp2
  go_quiet (fail)
  go_wp2
  refine bodyPost_ret (by simp [results, Try.results40, go_sem]; try rfl) rfl ?_
  refine ⟨rfl, ?_, ?_⟩
  · repeat' (first | (with_reducible refine Only.setCell ?_ ?_ _) | (with_reducible refine Only.alloc ?_ _) | (with_reducible refine Only.drewN ?_ _) | (with_reducible refine Only.drew ?_) | (with_reducible exact Only.refl _ _) | (right; simp; done) | (right; simp; omega) | (left; rfl))
  · repeat' (first | (with_reducible exact H.out) | (with_reducible refine MemAt.clock (n := old) ?_ _) | (with_reducible refine MemAt.far ?_ ?_ _) | (with_reducible refine MemAt.alloc ?_ _) | (with_reducible refine MemAt.drewN ?_ _) | (with_reducible refine MemAt.drew ?_) | (simp; omega))
end Go.Proofs.Ytpgmcmdcdkajjaa
