/-
  Contracts of the reference's Do at a Cas of the clock.
-/
import Derived.Test.YtpgmcmdcdkajjaaMem
namespace Go.Proofs.Ytpgmcmdcdkajjaa
open Go.RowKit
variable {X : MemSh}

theorem after3 {S : Nat → Prop} {w w1 : World} {o1 : Obj} {v0 v1 v2 v3 v4 v5 u0 u1 u2 u3 u4 u5 : Value} (ho : Only S (((w.alloc o1).alloc (.cells #[v0, v1, v2, v3, v4, v5] 66)).alloc (.cells #[u0, u1, u2, u3, u4, u5] 66)) w1)
    (n1 : ¬ S (w.heap.size + 1)) (n2 : ¬ S (w.heap.size + 1 + 1)) :
    w.heap.size + 1 + 1 + 1 ≤ w1.heap.size ∧
    (w1.cell? ⟨w.heap.size + 1, 0, none⟩ = some v0 ∧ w1.cell? ⟨w.heap.size + 1, 1, none⟩ = some v1 ∧ w1.cell? ⟨w.heap.size + 1, 2, none⟩ = some v2 ∧ w1.cell? ⟨w.heap.size + 1, 3, none⟩ = some v3 ∧ w1.cell? ⟨w.heap.size + 1, 4, none⟩ = some v4 ∧ w1.cell? ⟨w.heap.size + 1, 5, none⟩ = some v5) ∧
    (w1.cell? ⟨w.heap.size + 1 + 1, 0, none⟩ = some u0 ∧ w1.cell? ⟨w.heap.size + 1 + 1, 1, none⟩ = some u1 ∧ w1.cell? ⟨w.heap.size + 1 + 1, 2, none⟩ = some u2 ∧ w1.cell? ⟨w.heap.size + 1 + 1, 3, none⟩ = some u3 ∧ w1.cell? ⟨w.heap.size + 1 + 1, 4, none⟩ = some u4 ∧ w1.cell? ⟨w.heap.size + 1 + 1, 5, none⟩ = some u5) ∧
    (∀ i, w1.frozen? ⟨w.heap.size + 1, i, none⟩ = false) ∧ (∀ i, w1.frozen? ⟨w.heap.size + 1 + 1, i, none⟩ = false) := by
  have b1 : Blk w1 (w.heap.size + 1) 66 #[v0, v1, v2, v3, v4, v5] := ((Blk.new' (by simp)).alloc _).only ho n1
  have b2 : Blk w1 (w.heap.size + 1 + 1) 66 #[u0, u1, u2, u3, u4, u5] := (Blk.new' (by simp)).only ho n2
  exact ⟨by have := ho.size; simp at this; omega, b1.six, b2.six, b1.frozen, b2.frozen⟩

theorem mem_do_arg (m : Nat) (old now : Int) (w : World) (h1 : now ≤ old) :
    Calls Try.prog 35 #[.pointer (some ⟨m, 0, none⟩), .agg #[.int .i64 7, .int .i64 0, .int .u64 old, .int .u64 now, .int .u64 0, .bool false, .int .i64 0, .int .u64 0, .bool false, .int .i64 0]] w fun e w' => e = .returned (.agg #[.int .u64 0, .int .u64 0, .bool false, .int .i64 0, .bool false, .int .i64 1]) ∧ Only Nob w w' := by
  go_enter Try.func35, Try.ntmps35
  go_wp2_with (go_at_call 40; refine (mem_clock_arg _ _ _ _ h1).mono ?_; rintro e w1 ⟨rfl, ho⟩; obtain ⟨hz, ⟨c10, c11, c12, c13, c14, c15⟩, ⟨c20, c21, c22, c23, c24, c25⟩, f1, f2⟩ := after3 ho (fun e => e) (fun e => e); have HO := hide ho; clear ho)
  refine bodyPost_ret (v := .agg #[.int .u64 0, .int .u64 0, .bool false, .int .i64 0, .bool false, .int .i64 1]) (by simp [results, Try.results35, go_sem, c10, c11, c12, c13, c14, c15]) rfl ⟨rfl, ?_⟩
  repeat' (first | (with_reducible refine Only.setCell ?_ ?_ _) | (with_reducible refine Only.alloc ?_ _) | (with_reducible exact (((Only.refl _ _).alloc _).alloc _).alloc _) | (with_reducible refine Only.trans ?_ HO.out) | (with_reducible exact Only.refl _ _) | (with_reducible exact HW) | (right; simp; done) | (right; simp; omega) | (left; rfl))

theorem mem_do_clock (m : Nat) (old now : Int) (w : World) (h1 : old < now) (h2 : 4611686018427387904 ≤ now) :
    Calls Try.prog 35 #[.pointer (some ⟨m, 0, none⟩), .agg #[.int .i64 7, .int .i64 0, .int .u64 old, .int .u64 now, .int .u64 0, .bool false, .int .i64 0, .int .u64 0, .bool false, .int .i64 0]] w fun e w' => e = .returned (.agg #[.int .u64 0, .int .u64 0, .bool false, .int .i64 0, .bool false, .int .i64 7]) ∧ Only Nob w w' := by
  go_enter Try.func35, Try.ntmps35
  go_wp2_with (go_at_call 40; refine (mem_clock_clock _ _ _ _ h1 h2).mono ?_; rintro e w1 ⟨rfl, ho⟩; obtain ⟨hz, ⟨c10, c11, c12, c13, c14, c15⟩, ⟨c20, c21, c22, c23, c24, c25⟩, f1, f2⟩ := after3 ho (fun e => e) (fun e => e); have HO := hide ho; clear ho)
  refine bodyPost_ret (v := .agg #[.int .u64 0, .int .u64 0, .bool false, .int .i64 0, .bool false, .int .i64 7]) (by simp [results, Try.results35, go_sem, c10, c11, c12, c13, c14, c15]) rfl ⟨rfl, ?_⟩
  repeat' (first | (with_reducible refine Only.setCell ?_ ?_ _) | (with_reducible refine Only.alloc ?_ _) | (with_reducible exact (((Only.refl _ _).alloc _).alloc _).alloc _) | (with_reducible refine Only.trans ?_ HO.out) | (with_reducible exact Only.refl _ _) | (with_reducible exact HW) | (right; simp; done) | (right; simp; omega) | (left; rfl))

set_option maxHeartbeats 400000 in
theorem mem_do_no (m : Nat) (n old now : Int) (w : World) (h : MemAt X w m n) (h1 : old < now) (h2 : now < 4611686018427387904) (h3 : n ≠ old) :
    Calls Try.prog 35 #[.pointer (some ⟨m, 0, none⟩), .agg #[.int .i64 7, .int .i64 0, .int .u64 old, .int .u64 now, .int .u64 0, .bool false, .int .i64 0, .int .u64 0, .bool false, .int .i64 0]] w fun e w' => e = .returned (.agg #[.int .u64 0, .int .u64 0, .bool false, .int .i64 0, .bool false, .int .i64 0]) ∧ Only (Ob m) w w' ∧ MemAt X w' m n := by
  have hlt := h.lt
  have n1 : w.heap.size + 1 ≠ m := by omega
  have n2 : w.heap.size + 1 + 1 ≠ m := by omega
  have n3 : m ≠ w.heap.size + 1 := by omega
  have n4 : m ≠ w.heap.size + 1 + 1 := by omega
  have h3' := hide h3
  clear h3
  go_enter Try.func35, Try.ntmps35
  go_wp2_with (go_at_call 40; refine (mem_clock_no _ _ _ _ _ (((h.alloc _).alloc _).alloc _) h1 h2 h3'.out).mono ?_; rintro e w1 ⟨rfl, ho⟩; have hm : MemAt X w1 m n := (((h.alloc _).alloc _).alloc _).only ho (fun e => e); obtain ⟨hz, ⟨c10, c11, c12, c13, c14, c15⟩, ⟨c20, c21, c22, c23, c24, c25⟩, f1, f2⟩ := after3 ho (fun e => e) (fun e => e); have HO := hide ho; clear ho; obtain ⟨-, ⟨k, c9⟩, -, f9⟩ := hm.cells; have HM := hide hm; clear hm h)
  refine bodyPost_ret (v := .agg #[.int .u64 0, .int .u64 0, .bool false, .int .i64 0, .bool false, .int .i64 0]) (by simp [results, Try.results35, go_sem, c10, c11, c12, c13, c14, c15]) rfl ⟨rfl, ?_, ?_⟩
  · have HW : Only (Ob m) w w1 := (Only.trans ((((Only.refl _ _).alloc _).alloc _).alloc _) HO.out).mono (fun _ _ e => e.elim)
    repeat' (first | (with_reducible refine Only.setCell ?_ ?_ _) | (with_reducible refine Only.alloc ?_ _) | (with_reducible exact (((Only.refl _ _).alloc _).alloc _).alloc _) | (with_reducible refine Only.trans ?_ HO.out) | (with_reducible exact Only.refl _ _) | (with_reducible exact HW) | (right; simp; done) | (right; simp; omega) | (left; rfl))
  · repeat' (first | (with_reducible exact HM.out) | (with_reducible refine MemAt.count ?_ _) | (with_reducible refine MemAt.far ?_ ?_ _) | (simp; omega))

set_option maxHeartbeats 400000 in
theorem mem_do_yes (m : Nat) (old now : Int) (w : World) (h : MemAt X w m old) (h1 : old < now) (h2 : now < 4611686018427387904) :
    Calls Try.prog 35 #[.pointer (some ⟨m, 0, none⟩), .agg #[.int .i64 7, .int .i64 0, .int .u64 old, .int .u64 now, .int .u64 0, .bool false, .int .i64 0, .int .u64 0, .bool false, .int .i64 0]] w fun e w' => e = .returned (.agg #[.int .u64 0, .int .u64 0, .bool false, .int .i64 0, .bool true, .int .i64 0]) ∧ Only (Ob m) w w' ∧ MemAt X w' m now := by
  have hlt := h.lt
  have n1 : w.heap.size + 1 ≠ m := by omega
  have n2 : w.heap.size + 1 + 1 ≠ m := by omega
  have n3 : m ≠ w.heap.size + 1 := by omega
  have n4 : m ≠ w.heap.size + 1 + 1 := by omega


  go_enter Try.func35, Try.ntmps35
  go_wp2_with (go_at_call 40; refine (mem_clock_yes _ _ _ _ (((h.alloc _).alloc _).alloc _) h1 h2).mono ?_; rintro e w1 ⟨rfl, ho, hm⟩; skip; obtain ⟨hz, ⟨c10, c11, c12, c13, c14, c15⟩, ⟨c20, c21, c22, c23, c24, c25⟩, f1, f2⟩ := after3 ho n1 n2; have HO := hide ho; clear ho; obtain ⟨-, ⟨k, c9⟩, -, f9⟩ := hm.cells; have HM := hide hm; clear hm h)
  refine bodyPost_ret (v := .agg #[.int .u64 0, .int .u64 0, .bool false, .int .i64 0, .bool true, .int .i64 0]) (by simp [results, Try.results35, go_sem, c10, c11, c12, c13, c14, c15]) rfl ⟨rfl, ?_, ?_⟩
  · have HW : Only (Ob m) w w1 := Only.trans ((((Only.refl _ _).alloc _).alloc _).alloc _) HO.out
    repeat' (first | (with_reducible refine Only.setCell ?_ ?_ _) | (with_reducible refine Only.alloc ?_ _) | (with_reducible exact (((Only.refl _ _).alloc _).alloc _).alloc _) | (with_reducible refine Only.trans ?_ HO.out) | (with_reducible exact Only.refl _ _) | (with_reducible exact HW) | (right; simp; done) | (right; simp; omega) | (left; rfl))
  · repeat' (first | (with_reducible exact HM.out) | (with_reducible refine MemAt.count ?_ _) | (with_reducible refine MemAt.far ?_ ?_ _) | (simp; omega))

end Go.Proofs.Ytpgmcmdcdkajjaa
