/-
  Contracts of the reference's Shape and NewMem, at a shape that has a start alone.
-/
import Derived.Test.YtpgmcmdcdkajjaaMemDo
import Derived.Deep.RegionHeld3
namespace Go.Proofs.Ytpgmcmdcdkajjaa
open Go.RowKit

theorem shape_lo (s : Int) (w : World) (h1 : s < 4611686018427387904) :
    Calls Try.prog 34 #[.agg #[.int .i64 0, .int .i64 0, .int .i64 0, .int .i64 0, .int .u64 s]] w fun e w' => e = .returned (.agg #[.int .i64 32, .int .i64 1, .int .i64 1, .int .i64 1, .int .u64 s]) ∧ Only Nob w w' := by
  go_enter Try.func34, Try.ntmps34
  go_wp2
  refine bodyPost_ret (by simp [results, Try.results34, go_sem]; try rfl) rfl ⟨rfl, ?_⟩
  repeat' (first | (with_reducible refine Only.setCell ?_ ?_ _) | (with_reducible refine Only.alloc ?_ _) | (with_reducible refine Only.drewN ?_ _) | (with_reducible refine Only.drew ?_) | (with_reducible exact Only.refl _ _) | (right; simp; done) | (right; simp; omega) | (left; rfl))

theorem shape_hi (s : Int) (w : World) (h1 : 4611686018427387904 ≤ s) :
    Calls Try.prog 34 #[.agg #[.int .i64 0, .int .i64 0, .int .i64 0, .int .i64 0, .int .u64 s]] w fun e w' => e = .returned (.agg #[.int .i64 32, .int .i64 1, .int .i64 1, .int .i64 1, .int .u64 4611686018427387903]) ∧ Only Nob w w' := by
  go_enter Try.func34, Try.ntmps34
  go_wp2
  refine bodyPost_ret (by simp [results, Try.results34, go_sem]; try rfl) rfl ⟨rfl, ?_⟩
  repeat' (first | (with_reducible refine Only.setCell ?_ ?_ _) | (with_reducible refine Only.alloc ?_ _) | (with_reducible refine Only.drewN ?_ _) | (with_reducible refine Only.drew ?_) | (with_reducible exact Only.refl _ _) | (right; simp; done) | (right; simp; omega) | (left; rfl))

/-- A block of n u64s. -/
def RowU (w : World) (g n : Nat) : Prop := ∃ cs : Array Value, Blk w g 24 cs ∧ cs.size = n ∧ ∀ v ∈ cs.toList, v.oneCell' = true
def RowL (w : World) (g : Nat) : Prop := ∃ cs : Array Value, Blk w g 49 cs ∧ cs.size = 3 ∧ ∀ v ∈ cs.toList, v.oneCell' = true

/-- A memory, whole: its rows lie in blocks of their own. -/
def MemFull (w : World) (m : Nat) (n : Int) : Prop := ∃ (X : MemSh) (gW gL gS : Nat), MemAt X w m n ∧ X.W = .slice (some ⟨gW, 0, none⟩) 32 32 ∧ X.L = .slice (some ⟨gL, 0, none⟩) 1 1 ∧ X.S = .slice (some ⟨gS, 0, none⟩) 1 1 ∧
  RowU w gW 32 ∧ RowL w gL ∧ RowU w gS 1

theorem RowU.of32 {w : World} {g : Nat} (h : Blk w g 24 (Array.replicate 32 (.int .u64 0))) : RowU w g 32 := ⟨_, h, by simp, by simp [Value.oneCell']⟩
theorem RowU.of1 {w : World} {g : Nat} (h : Blk w g 24 #[.int .u64 0]) : RowU w g 1 := ⟨_, h, by simp, by simp [Value.oneCell']⟩
theorem RowL.of {w : World} {g : Nat} (h : Blk w g 49 #[.int .u64 0, .bool false, .int .i64 0]) : RowL w g := ⟨_, h, by simp, by simp [Value.oneCell']⟩

theorem MemFull.mk {w : World} {m : Nat} {a b c d e n k : Int} {gW gL gS : Nat}
    (h : Blk w m 39 #[.int .i64 a, .int .i64 b, .int .i64 c, .int .i64 d, .int .u64 e, .slice (some ⟨gW, 0, none⟩) 32 32, .slice (some ⟨gL, 0, none⟩) 1 1, .int .u64 n, .slice (some ⟨gS, 0, none⟩) 1 1, .int .i64 k])
    (h1 : RowU w gW 32) (h2 : RowL w gL) (h3 : RowU w gS 1) : MemFull w m n := ⟨⟨a, b, c, d, e, _, _, _⟩, gW, gL, gS, ⟨k, h⟩, rfl, rfl, rfl, h1, h2, h3⟩

/-- What NewMem leaves. -/
def NewPost (w : World) (n : Int) (e : Ending) (w' : World) : Prop := ∃ m, e = .returned (.pointer (some ⟨m, 0, none⟩)) ∧ w.heap.size ≤ m ∧ Only Nob w w' ∧ MemFull w' m n

set_option maxHeartbeats 1000000 in
theorem newmem (s n : Int) (w : World) (hs : ∀ w, Calls Try.prog 34 #[.agg #[.int .i64 0, .int .i64 0, .int .i64 0, .int .i64 0, .int .u64 s]] w fun e w' => e = .returned (.agg #[.int .i64 32, .int .i64 1, .int .i64 1, .int .i64 1, .int .u64 n]) ∧ Only Nob w w') :
    Calls Try.prog 17 #[.agg #[.int .i64 0, .int .i64 0, .int .i64 0, .int .i64 0, .int .u64 s]] w (NewPost w n) := by
  have hk1 : ∀ w, (Instr.makeSlice 36 (.int .i64 32) (.int .i64 32)).run Try.prog w = .ok (.slice (some ⟨w.heap.size, 0, none⟩) 32 32) (w.alloc (.cells (Array.replicate 32 (.int .u64 0)) 24)) := fun _ => by kernel_rfl
  have hk2 : ∀ w, (Instr.makeSlice 37 (.int .i64 1) (.int .i64 1)).run Try.prog w = .ok (.slice (some ⟨w.heap.size, 0, none⟩) 1 1) (w.alloc (.cells #[.int .u64 0, .bool false, .int .i64 0] 49)) := fun _ => by kernel_rfl
  have hk3 : ∀ w, (Instr.makeSlice 36 (.int .i64 1) (.int .i64 1)).run Try.prog w = .ok (.slice (some ⟨w.heap.size, 0, none⟩) 1 1) (w.alloc (.cells #[.int .u64 0] 24)) := fun _ => by kernel_rfl
  have HS := hide hs
  clear hs
  go_enter Try.func17, Try.ntmps17
  go_wp2_with (go_at_call 34; refine (HS.out _).mono ?_; rintro e w1 ⟨rfl, ho⟩)
  have hb := Blk.new w1 35 #[.int .i64 32, .int .i64 1, .int .i64 1, .int .i64 1, .int .u64 n]
  have hO : Only Nob w (w1.alloc (.cells #[.int .i64 32, .int .i64 1, .int .i64 1, .int .i64 1, .int .u64 n] 35)) := ((((Only.refl _ _).alloc _).trans ho).alloc _)
  have hsz := ho.size
  simp at hsz
  generalize w1.alloc (.cells #[.int .i64 32, .int .i64 1, .int .i64 1, .int .i64 1, .int .u64 n] 35) = W0 at *
  generalize w1.heap.size = B at *
  have c0 : W0.cell? ⟨B, 0, none⟩ = some (.int .i64 32) := hb.cell 0
  have c1 : W0.cell? ⟨B, 1, none⟩ = some (.int .i64 1) := hb.cell 1
  have c2 : W0.cell? ⟨B, 2, none⟩ = some (.int .i64 1) := hb.cell 2
  have c3 : W0.cell? ⟨B, 3, none⟩ = some (.int .i64 1) := hb.cell 3
  have c4 : W0.cell? ⟨B, 4, none⟩ = some (.int .u64 n) := hb.cell 4
  have hlt := hb.lt
  have hS : Hid (∀ w', Blk w' B 35 #[.int .i64 32, .int .i64 1, .int .i64 1, .int .i64 1, .int .u64 n] → w'.cell? ⟨B, 0, none⟩ = some (.int .i64 32) ∧ w'.cell? ⟨B, 1, none⟩ = some (.int .i64 1) ∧ w'.cell? ⟨B, 2, none⟩ = some (.int .i64 1) ∧ w'.cell? ⟨B, 3, none⟩ = some (.int .i64 1) ∧ w'.cell? ⟨B, 4, none⟩ = some (.int .u64 n)) := fun w' h => ⟨h.cell 0, h.cell 1, h.cell 2, h.cell 3, h.cell 4⟩
  have HO := hide hO
  have Hb := hide hb
  clear hO hb ho
  go_region_held3 (fun w' => w'.cell? ⟨B, 0, none⟩ = some (.int .i64 32) ∧ w'.cell? ⟨B, 1, none⟩ = some (.int .i64 1) ∧ w'.cell? ⟨B, 2, none⟩ = some (.int .i64 1) ∧ w'.cell? ⟨B, 3, none⟩ = some (.int .i64 1) ∧ w'.cell? ⟨B, 4, none⟩ = some (.int .u64 n)) (first | (with_reducible assumption) | (exact hS.out _ (by repeat' (first | (with_reducible exact Hb.out) | (with_reducible refine Blk.alloc ?_ _) | (with_reducible refine Blk.drew ?_))))) (fail)
  all_goals
    have hle := HO.out.size
    go_wp2
    go_ret
    refine ⟨W0.heap.size + 1 + 1 + 1, rfl, by omega, ?_, ?_⟩
    · repeat' (first | (with_reducible exact HO.out) | (with_reducible refine Only.alloc ?_ _) | (with_reducible refine Only.drew ?_))
    · refine MemFull.mk (Blk.drew (Blk.new' (by simp))) (RowU.of32 ?_) (RowL.of ?_) (RowU.of1 ?_)
      all_goals repeat' (first | (with_reducible refine Blk.new' ?_) | (with_reducible refine Blk.alloc ?_ _) | (with_reducible refine Blk.drew ?_) | (simp; done))
end Go.Proofs.Ytpgmcmdcdkajjaa
