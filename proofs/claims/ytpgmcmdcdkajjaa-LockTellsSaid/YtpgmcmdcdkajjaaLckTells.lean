/-
  The law LockTells, walked.
-/
import Derived.Test.YtpgmcmdcdkajjaaLckLast
import Derived.Outline
namespace Go.Proofs.Ytpgmcmdcdkajjaa
open Go.RowKit

theorem abstract_calls {P : Program} {f : FuncId} {args : Array Value} {w : World} {R : Ending → World → Prop} (I : World → Prop) (hI : I w) (h : ∀ w', I w' → Calls P f args w' R) : Calls P f args w R := h w hI
theorem abstract_world {P : Program} {c : Code} {Q : Exit → Act → World → Prop} {a : Act} {w : World} (I : World → Prop) (hI : I w) (h : ∀ w', I w' → c.wp P Q a w') : c.wp P Q a w := h w hI


set_option maxRecDepth 100000 in
set_option maxHeartbeats 2000000 in
theorem tells_yes_nine (v o n a : Int) (h : Bool) (s : ByteArray) (w : World) (h0 : 0 ≤ v) (hc : dropC v h o n = true) (hs : s.size = 9) :
    Calls Try.prog 10 #[.agg #[.int .u64 v, .bool h, .int .i64 o], .int .u64 n, .int .i64 a, .string s] w fun e w' => e = .returned (.bool true) ∧ Below w.heap.size w w' := by
  have hs' := hide hs
  skip
  clear hs 
  have q1 := takeW_out
  have q2 := dropW4_out
  have q3 := dropW3_out
  go_enter Try.func10, Try.ntmps10
  go_wp2_with fail
  refine (lck_runs _).mono ?_
  rintro e w0 ⟨rfl, hb⟩
  have hsz := hb.size
  simp at hsz
  have b4 : Blk w0 w.heap.size 49 #[.int .u64 v, .bool h, .int .i64 o] := (Blk.new' rfl).below hb (by simp)
  have hw0 : Below w.heap.size w w0 := ((Below.refl _ _).alloc (Nat.le_refl _) _).trans (hb.mono (by simp))
  have c40 : w0.cell? ⟨w.heap.size, 0, none⟩ = some (.int .u64 v) := b4.cell 0
  have c41 : w0.cell? ⟨w.heap.size, 1, none⟩ = some (.bool h) := b4.cell 1
  have c42 : w0.cell? ⟨w.heap.size, 2, none⟩ = some (.int .i64 o) := b4.cell 2
  have hz : w.heap.size < w0.heap.size := by omega
  have hk1 : w.heap.size < w0.heap.size + 1 := by omega
  have hk2 : w.heap.size < w0.heap.size + 1 + 1 := by omega
  have hk3 : w.heap.size < w0.heap.size + 1 + 1 + 1 := by omega
  have hk4 : w.heap.size < w0.heap.size + 1 + 1 + 1 + 1 := by omega
  have hk5 : w.heap.size < w0.heap.size + 1 + 1 + 1 + 1 + 1 := by omega
  have hk6 : w.heap.size < w0.heap.size + 1 + 1 + 1 + 1 + 1 + 1 := by omega
  have hk7 : w.heap.size < w0.heap.size + 1 + 1 + 1 + 1 + 1 + 1 + 1 := by omega
  have hk8 : w.heap.size < w0.heap.size + 1 + 1 + 1 + 1 + 1 + 1 + 1 + 1 := by omega
  have hk9 : w.heap.size < w0.heap.size + 1 + 1 + 1 + 1 + 1 + 1 + 1 + 1 + 1 := by omega
  have hk10 : w.heap.size < w0.heap.size + 1 + 1 + 1 + 1 + 1 + 1 + 1 + 1 + 1 + 1 := by omega
  have hk11 : w.heap.size < w0.heap.size + 1 + 1 + 1 + 1 + 1 + 1 + 1 + 1 + 1 + 1 + 1 := by omega
  have hk12 : w.heap.size < w0.heap.size + 1 + 1 + 1 + 1 + 1 + 1 + 1 + 1 + 1 + 1 + 1 + 1 := by omega
  have hk13 : w.heap.size < w0.heap.size + 1 + 1 + 1 + 1 + 1 + 1 + 1 + 1 + 1 + 1 + 1 + 1 + 1 := by omega
  have hk14 : w.heap.size < w0.heap.size + 1 + 1 + 1 + 1 + 1 + 1 + 1 + 1 + 1 + 1 + 1 + 1 + 1 + 1 := by omega
  have hk15 : w.heap.size < w0.heap.size + 1 + 1 + 1 + 1 + 1 + 1 + 1 + 1 + 1 + 1 + 1 + 1 + 1 + 1 + 1 := by omega
  have hk16 : w.heap.size < w0.heap.size + 1 + 1 + 1 + 1 + 1 + 1 + 1 + 1 + 1 + 1 + 1 + 1 + 1 + 1 + 1 + 1 := by omega
  have hk17 : w.heap.size < w0.heap.size + 1 + 1 + 1 + 1 + 1 + 1 + 1 + 1 + 1 + 1 + 1 + 1 + 1 + 1 + 1 + 1 + 1 := by omega
  have hk18 : w.heap.size < w0.heap.size + 1 + 1 + 1 + 1 + 1 + 1 + 1 + 1 + 1 + 1 + 1 + 1 + 1 + 1 + 1 + 1 + 1 + 1 := by omega
  have hk19 : w.heap.size < w0.heap.size + 1 + 1 + 1 + 1 + 1 + 1 + 1 + 1 + 1 + 1 + 1 + 1 + 1 + 1 + 1 + 1 + 1 + 1 + 1 := by omega
  have hk20 : w.heap.size < w0.heap.size + 1 + 1 + 1 + 1 + 1 + 1 + 1 + 1 + 1 + 1 + 1 + 1 + 1 + 1 + 1 + 1 + 1 + 1 + 1 + 1 := by omega
  have hk21 : w.heap.size < w0.heap.size + 1 + 1 + 1 + 1 + 1 + 1 + 1 + 1 + 1 + 1 + 1 + 1 + 1 + 1 + 1 + 1 + 1 + 1 + 1 + 1 + 1 := by omega
  have hk22 : w.heap.size < w0.heap.size + 1 + 1 + 1 + 1 + 1 + 1 + 1 + 1 + 1 + 1 + 1 + 1 + 1 + 1 + 1 + 1 + 1 + 1 + 1 + 1 + 1 + 1 := by omega
  have hk23 : w.heap.size < w0.heap.size + 1 + 1 + 1 + 1 + 1 + 1 + 1 + 1 + 1 + 1 + 1 + 1 + 1 + 1 + 1 + 1 + 1 + 1 + 1 + 1 + 1 + 1 + 1 := by omega
  have hk24 : w.heap.size < w0.heap.size + 1 + 1 + 1 + 1 + 1 + 1 + 1 + 1 + 1 + 1 + 1 + 1 + 1 + 1 + 1 + 1 + 1 + 1 + 1 + 1 + 1 + 1 + 1 + 1 := by omega
  have hk25 : w.heap.size < w0.heap.size + 1 + 1 + 1 + 1 + 1 + 1 + 1 + 1 + 1 + 1 + 1 + 1 + 1 + 1 + 1 + 1 + 1 + 1 + 1 + 1 + 1 + 1 + 1 + 1 + 1 := by omega
  have hk26 : w.heap.size < w0.heap.size + 1 + 1 + 1 + 1 + 1 + 1 + 1 + 1 + 1 + 1 + 1 + 1 + 1 + 1 + 1 + 1 + 1 + 1 + 1 + 1 + 1 + 1 + 1 + 1 + 1 + 1 := by omega
  have hk27 : w.heap.size < w0.heap.size + 1 + 1 + 1 + 1 + 1 + 1 + 1 + 1 + 1 + 1 + 1 + 1 + 1 + 1 + 1 + 1 + 1 + 1 + 1 + 1 + 1 + 1 + 1 + 1 + 1 + 1 + 1 := by omega
  have hk28 : w.heap.size < w0.heap.size + 1 + 1 + 1 + 1 + 1 + 1 + 1 + 1 + 1 + 1 + 1 + 1 + 1 + 1 + 1 + 1 + 1 + 1 + 1 + 1 + 1 + 1 + 1 + 1 + 1 + 1 + 1 + 1 := by omega
  have hk29 : w.heap.size < w0.heap.size + 1 + 1 + 1 + 1 + 1 + 1 + 1 + 1 + 1 + 1 + 1 + 1 + 1 + 1 + 1 + 1 + 1 + 1 + 1 + 1 + 1 + 1 + 1 + 1 + 1 + 1 + 1 + 1 + 1 := by omega
  have B4 := hide b4
  have HB := hide hw0
  clear b4 hw0 hb
  go_wp2_with (first
    | (go_at_call 20; refine (free_any _ _).mono ?_; rintro e w1 ⟨rfl, rfl⟩)
    | (go_at_call 26; refine (ref_free_any _ _).mono ?_; rintro e w1 ⟨rfl, rfl⟩)
    | (go_at_call 21; refine (take_any _ _ _ _ _).mono ?_; rintro e w1 ⟨rfl, rfl⟩)
    | (go_at_call 27; refine (ref_take_any _ _ _ _ _).mono ?_; rintro e w1 ⟨rfl, rfl⟩)
    | (go_at_call 22; refine (drop_yes _ _ _ _ _ hc).mono ?_; rintro e w1 ⟨rfl, rfl⟩)
    | (go_at_call 28; refine (ref_drop_any _ _ _ _ _).mono ?_; rintro e w1 ⟨rfl, rfl⟩))
  have HS1 : Hid (∀ wx, Only Nob w0 wx → Blk wx (w.heap.size) 49 #[.int .u64 v, .bool h, .int .i64 o]) := fun wx ho => B4.out.only ho (fun e => e)
  refine abstract_calls (fun w' => Only Nob w0 w') ?_ ?_
  · repeat' (first | (with_reducible exact Only.refl _ _) | (with_reducible refine Only.alloc ?_ _) | (with_reducible refine Only.drewN ?_ _) | (with_reducible refine Only.drew ?_))
  intro W1 hW1
  have b41 := HS1.out W1 hW1
  clear hk1 hk2 hk3 hk4 hk5 hk6 hk7 hk8 hk9 hk10 hk11 hk12 hk13 hk14 hk15 hk16 hk17 hk18 hk19 hk20 hk21 hk22 hk23 hk24 hk25 hk26 hk27 hk28 hk29 c40 c41 c42 q1 q2 q3
  have c40 : W1.cell? ⟨w.heap.size, 0, none⟩ = some (.int .u64 v) := b41.cell 0
  have c41 : W1.cell? ⟨w.heap.size, 1, none⟩ = some (.bool h) := b41.cell 1
  have c42 : W1.cell? ⟨w.heap.size, 2, none⟩ = some (.int .i64 o) := b41.cell 2
  have HW1 := hide hW1
  have B41 := hide b41
  clear hW1 b41
  go_wp2_with (first
    | (go_at_call 29; refine (read_nine s _ hs'.out).mono ?_; rintro e w1 ⟨j1, rfl, rfl⟩)
    | (go_at_call 30; refine (ref_read_nine s _ hs'.out).mono ?_; rintro e w1 ⟨j2, rfl, rfl⟩))
  refine tells_last v o n (rdV s) (rdOO s) h (rdHH s) (rdB s) (w.heap.size) (W1.heap.size + 1 + 1 + 1) (W1.heap.size + 1 + 1 + 1 + 1 + 1 + 1 + 1) _ h0 ?_ ?_ ?_ _ _ _ _ _ _ _ _ _ _ _ _ _ _ _ _ _ _ _ _ _ _ _ _ _ _ _ _ _ _ _ _ _ _ _ _ _ _ _ _ _ _ _ _ _ _ _ _ _ _ _ _ _ _ _ _ _ _ _ _ _ _ _ _ _ _ _ _ _ _ _ _ _ _ _ _ _ _ _ _ _ _ _ _ _ _ _ _ _ _ _ _ _ _ _ _ _ _ _ _ _ _ _ _ _ _ _ _ _ _ _ _ _ _ _ _ _ _ _ _ _ _ _ _ _ ?_
  · repeat' (first | (with_reducible exact B41.out) | (with_reducible refine Blk.drewN ?_ _) | (with_reducible refine Blk.drew ?_) | (with_reducible refine Blk.alloc ?_ _))
  · repeat' (first | (with_reducible refine Blk.drewN ?_ _) | (with_reducible refine Blk.drew ?_) | (with_reducible refine Blk.new' ?_; simp; done) | (with_reducible refine Blk.alloc ?_ _))
  · repeat' (first | (with_reducible refine Blk.drewN ?_ _) | (with_reducible refine Blk.drew ?_) | (with_reducible refine Blk.new' ?_; simp; done) | (with_reducible refine Blk.alloc ?_ _))
  intro z99 z100 z101 z102 z103 z104 z105 z106 z107 z108 z109 z110 z111 z112 z113 z114 z115 z116 z117 z118 z119 z120 z121 z122 z123 z124 z125 z126 z127 z128 z129 wZ hoZ
  go_wp2
  go_ret
  refine ⟨rfl, HB.out.trans (Below.mono (Only.new ?_) HB.out.size)⟩
  refine Only.trans ?_ hoZ
  repeat' (first | (with_reducible exact HW1.out) | (with_reducible refine Only.alloc ?_ _) | (with_reducible refine Only.drewN ?_ _) | (with_reducible refine Only.drew ?_))

set_option maxRecDepth 100000 in
set_option maxHeartbeats 2000000 in
theorem tells_yes_short (v o n a : Int) (h : Bool) (s : ByteArray) (w : World) (h0 : 0 ≤ v) (hc : dropC v h o n = true) (hs : s.size ≠ 9) (hm : s.size ≤ maxLen) :
    Calls Try.prog 10 #[.agg #[.int .u64 v, .bool h, .int .i64 o], .int .u64 n, .int .i64 a, .string s] w fun e w' => e = .returned (.bool true) ∧ Below w.heap.size w w' := by
  have hs' := hide hs
  have hm' := hide hm
  clear hs hm
  have q1 := takeW_out
  have q2 := dropW4_out
  have q3 := dropW3_out
  go_enter Try.func10, Try.ntmps10
  go_wp2_with fail
  refine (lck_runs _).mono ?_
  rintro e w0 ⟨rfl, hb⟩
  have hsz := hb.size
  simp at hsz
  have b4 : Blk w0 w.heap.size 49 #[.int .u64 v, .bool h, .int .i64 o] := (Blk.new' rfl).below hb (by simp)
  have hw0 : Below w.heap.size w w0 := ((Below.refl _ _).alloc (Nat.le_refl _) _).trans (hb.mono (by simp))
  have c40 : w0.cell? ⟨w.heap.size, 0, none⟩ = some (.int .u64 v) := b4.cell 0
  have c41 : w0.cell? ⟨w.heap.size, 1, none⟩ = some (.bool h) := b4.cell 1
  have c42 : w0.cell? ⟨w.heap.size, 2, none⟩ = some (.int .i64 o) := b4.cell 2
  have hz : w.heap.size < w0.heap.size := by omega
  have hk1 : w.heap.size < w0.heap.size + 1 := by omega
  have hk2 : w.heap.size < w0.heap.size + 1 + 1 := by omega
  have hk3 : w.heap.size < w0.heap.size + 1 + 1 + 1 := by omega
  have hk4 : w.heap.size < w0.heap.size + 1 + 1 + 1 + 1 := by omega
  have hk5 : w.heap.size < w0.heap.size + 1 + 1 + 1 + 1 + 1 := by omega
  have hk6 : w.heap.size < w0.heap.size + 1 + 1 + 1 + 1 + 1 + 1 := by omega
  have hk7 : w.heap.size < w0.heap.size + 1 + 1 + 1 + 1 + 1 + 1 + 1 := by omega
  have hk8 : w.heap.size < w0.heap.size + 1 + 1 + 1 + 1 + 1 + 1 + 1 + 1 := by omega
  have hk9 : w.heap.size < w0.heap.size + 1 + 1 + 1 + 1 + 1 + 1 + 1 + 1 + 1 := by omega
  have hk10 : w.heap.size < w0.heap.size + 1 + 1 + 1 + 1 + 1 + 1 + 1 + 1 + 1 + 1 := by omega
  have hk11 : w.heap.size < w0.heap.size + 1 + 1 + 1 + 1 + 1 + 1 + 1 + 1 + 1 + 1 + 1 := by omega
  have hk12 : w.heap.size < w0.heap.size + 1 + 1 + 1 + 1 + 1 + 1 + 1 + 1 + 1 + 1 + 1 + 1 := by omega
  have hk13 : w.heap.size < w0.heap.size + 1 + 1 + 1 + 1 + 1 + 1 + 1 + 1 + 1 + 1 + 1 + 1 + 1 := by omega
  have hk14 : w.heap.size < w0.heap.size + 1 + 1 + 1 + 1 + 1 + 1 + 1 + 1 + 1 + 1 + 1 + 1 + 1 + 1 := by omega
  have hk15 : w.heap.size < w0.heap.size + 1 + 1 + 1 + 1 + 1 + 1 + 1 + 1 + 1 + 1 + 1 + 1 + 1 + 1 + 1 := by omega
  have hk16 : w.heap.size < w0.heap.size + 1 + 1 + 1 + 1 + 1 + 1 + 1 + 1 + 1 + 1 + 1 + 1 + 1 + 1 + 1 + 1 := by omega
  have hk17 : w.heap.size < w0.heap.size + 1 + 1 + 1 + 1 + 1 + 1 + 1 + 1 + 1 + 1 + 1 + 1 + 1 + 1 + 1 + 1 + 1 := by omega
  have hk18 : w.heap.size < w0.heap.size + 1 + 1 + 1 + 1 + 1 + 1 + 1 + 1 + 1 + 1 + 1 + 1 + 1 + 1 + 1 + 1 + 1 + 1 := by omega
  have hk19 : w.heap.size < w0.heap.size + 1 + 1 + 1 + 1 + 1 + 1 + 1 + 1 + 1 + 1 + 1 + 1 + 1 + 1 + 1 + 1 + 1 + 1 + 1 := by omega
  have hk20 : w.heap.size < w0.heap.size + 1 + 1 + 1 + 1 + 1 + 1 + 1 + 1 + 1 + 1 + 1 + 1 + 1 + 1 + 1 + 1 + 1 + 1 + 1 + 1 := by omega
  have hk21 : w.heap.size < w0.heap.size + 1 + 1 + 1 + 1 + 1 + 1 + 1 + 1 + 1 + 1 + 1 + 1 + 1 + 1 + 1 + 1 + 1 + 1 + 1 + 1 + 1 := by omega
  have hk22 : w.heap.size < w0.heap.size + 1 + 1 + 1 + 1 + 1 + 1 + 1 + 1 + 1 + 1 + 1 + 1 + 1 + 1 + 1 + 1 + 1 + 1 + 1 + 1 + 1 + 1 := by omega
  have hk23 : w.heap.size < w0.heap.size + 1 + 1 + 1 + 1 + 1 + 1 + 1 + 1 + 1 + 1 + 1 + 1 + 1 + 1 + 1 + 1 + 1 + 1 + 1 + 1 + 1 + 1 + 1 := by omega
  have hk24 : w.heap.size < w0.heap.size + 1 + 1 + 1 + 1 + 1 + 1 + 1 + 1 + 1 + 1 + 1 + 1 + 1 + 1 + 1 + 1 + 1 + 1 + 1 + 1 + 1 + 1 + 1 + 1 := by omega
  have hk25 : w.heap.size < w0.heap.size + 1 + 1 + 1 + 1 + 1 + 1 + 1 + 1 + 1 + 1 + 1 + 1 + 1 + 1 + 1 + 1 + 1 + 1 + 1 + 1 + 1 + 1 + 1 + 1 + 1 := by omega
  have hk26 : w.heap.size < w0.heap.size + 1 + 1 + 1 + 1 + 1 + 1 + 1 + 1 + 1 + 1 + 1 + 1 + 1 + 1 + 1 + 1 + 1 + 1 + 1 + 1 + 1 + 1 + 1 + 1 + 1 + 1 := by omega
  have hk27 : w.heap.size < w0.heap.size + 1 + 1 + 1 + 1 + 1 + 1 + 1 + 1 + 1 + 1 + 1 + 1 + 1 + 1 + 1 + 1 + 1 + 1 + 1 + 1 + 1 + 1 + 1 + 1 + 1 + 1 + 1 := by omega
  have hk28 : w.heap.size < w0.heap.size + 1 + 1 + 1 + 1 + 1 + 1 + 1 + 1 + 1 + 1 + 1 + 1 + 1 + 1 + 1 + 1 + 1 + 1 + 1 + 1 + 1 + 1 + 1 + 1 + 1 + 1 + 1 + 1 := by omega
  have hk29 : w.heap.size < w0.heap.size + 1 + 1 + 1 + 1 + 1 + 1 + 1 + 1 + 1 + 1 + 1 + 1 + 1 + 1 + 1 + 1 + 1 + 1 + 1 + 1 + 1 + 1 + 1 + 1 + 1 + 1 + 1 + 1 + 1 := by omega
  have B4 := hide b4
  have HB := hide hw0
  clear b4 hw0 hb
  go_wp2_with (first
    | (go_at_call 20; refine (free_any _ _).mono ?_; rintro e w1 ⟨rfl, rfl⟩)
    | (go_at_call 26; refine (ref_free_any _ _).mono ?_; rintro e w1 ⟨rfl, rfl⟩)
    | (go_at_call 21; refine (take_any _ _ _ _ _).mono ?_; rintro e w1 ⟨rfl, rfl⟩)
    | (go_at_call 27; refine (ref_take_any _ _ _ _ _).mono ?_; rintro e w1 ⟨rfl, rfl⟩)
    | (go_at_call 22; refine (drop_yes _ _ _ _ _ hc).mono ?_; rintro e w1 ⟨rfl, rfl⟩)
    | (go_at_call 28; refine (ref_drop_any _ _ _ _ _).mono ?_; rintro e w1 ⟨rfl, rfl⟩))
  have HS1 : Hid (∀ wx, Only Nob w0 wx → Blk wx (w.heap.size) 49 #[.int .u64 v, .bool h, .int .i64 o]) := fun wx ho => B4.out.only ho (fun e => e)
  refine abstract_calls (fun w' => Only Nob w0 w') ?_ ?_
  · repeat' (first | (with_reducible exact Only.refl _ _) | (with_reducible refine Only.alloc ?_ _) | (with_reducible refine Only.drewN ?_ _) | (with_reducible refine Only.drew ?_))
  intro W1 hW1
  have b41 := HS1.out W1 hW1
  clear hk1 hk2 hk3 hk4 hk5 hk6 hk7 hk8 hk9 hk10 hk11 hk12 hk13 hk14 hk15 hk16 hk17 hk18 hk19 hk20 hk21 hk22 hk23 hk24 hk25 hk26 hk27 hk28 hk29 c40 c41 c42 q1 q2 q3
  have c40 : W1.cell? ⟨w.heap.size, 0, none⟩ = some (.int .u64 v) := b41.cell 0
  have c41 : W1.cell? ⟨w.heap.size, 1, none⟩ = some (.bool h) := b41.cell 1
  have c42 : W1.cell? ⟨w.heap.size, 2, none⟩ = some (.int .i64 o) := b41.cell 2
  have HW1 := hide hW1
  have B41 := hide b41
  clear hW1 b41
  go_wp2_with (first
    | (go_at_call 29; refine (read_short s _ hs'.out hm'.out).mono ?_; rintro e w1 ⟨rfl, rfl⟩)
    | (go_at_call 30; refine (ref_read_short s _ hs'.out hm'.out).mono ?_; rintro e w1 ⟨rfl, rfl⟩))
  refine tells_last v o n 0 0 h false false (w.heap.size) (W1.heap.size + 1) (W1.heap.size + 1 + 1 + 1) _ h0 ?_ ?_ ?_ _ _ _ _ _ _ _ _ _ _ _ _ _ _ _ _ _ _ _ _ _ _ _ _ _ _ _ _ _ _ _ _ _ _ _ _ _ _ _ _ _ _ _ _ _ _ _ _ _ _ _ _ _ _ _ _ _ _ _ _ _ _ _ _ _ _ _ _ _ _ _ _ _ _ _ _ _ _ _ _ _ _ _ _ _ _ _ _ _ _ _ _ _ _ _ _ _ _ _ _ _ _ _ _ _ _ _ _ _ _ _ _ _ _ _ _ _ _ _ _ _ _ _ _ _ ?_
  · repeat' (first | (with_reducible exact B41.out) | (with_reducible refine Blk.drewN ?_ _) | (with_reducible refine Blk.drew ?_) | (with_reducible refine Blk.alloc ?_ _))
  · repeat' (first | (with_reducible refine Blk.drewN ?_ _) | (with_reducible refine Blk.drew ?_) | (with_reducible refine Blk.new' ?_; simp; done) | (with_reducible refine Blk.alloc ?_ _))
  · repeat' (first | (with_reducible refine Blk.drewN ?_ _) | (with_reducible refine Blk.drew ?_) | (with_reducible refine Blk.new' ?_; simp; done) | (with_reducible refine Blk.alloc ?_ _))
  intro z99 z100 z101 z102 z103 z104 z105 z106 z107 z108 z109 z110 z111 z112 z113 z114 z115 z116 z117 z118 z119 z120 z121 z122 z123 z124 z125 z126 z127 z128 z129 wZ hoZ
  go_wp2
  go_ret
  refine ⟨rfl, HB.out.trans (Below.mono (Only.new ?_) HB.out.size)⟩
  refine Only.trans ?_ hoZ
  repeat' (first | (with_reducible exact HW1.out) | (with_reducible refine Only.alloc ?_ _) | (with_reducible refine Only.drewN ?_ _) | (with_reducible refine Only.drew ?_))

set_option maxRecDepth 100000 in
set_option maxHeartbeats 2000000 in
theorem tells_no_nine (v o n a : Int) (h : Bool) (s : ByteArray) (w : World) (h0 : 0 ≤ v) (hc : dropC v h o n = false) (hs : s.size = 9) :
    Calls Try.prog 10 #[.agg #[.int .u64 v, .bool h, .int .i64 o], .int .u64 n, .int .i64 a, .string s] w fun e w' => e = .returned (.bool true) ∧ Below w.heap.size w w' := by
  have hs' := hide hs
  skip
  clear hs 
  have q1 := takeW_out
  have q2 := dropW4_out
  have q3 := dropW3_out
  go_enter Try.func10, Try.ntmps10
  go_wp2_with fail
  refine (lck_runs _).mono ?_
  rintro e w0 ⟨rfl, hb⟩
  have hsz := hb.size
  simp at hsz
  have b4 : Blk w0 w.heap.size 49 #[.int .u64 v, .bool h, .int .i64 o] := (Blk.new' rfl).below hb (by simp)
  have hw0 : Below w.heap.size w w0 := ((Below.refl _ _).alloc (Nat.le_refl _) _).trans (hb.mono (by simp))
  have c40 : w0.cell? ⟨w.heap.size, 0, none⟩ = some (.int .u64 v) := b4.cell 0
  have c41 : w0.cell? ⟨w.heap.size, 1, none⟩ = some (.bool h) := b4.cell 1
  have c42 : w0.cell? ⟨w.heap.size, 2, none⟩ = some (.int .i64 o) := b4.cell 2
  have hz : w.heap.size < w0.heap.size := by omega
  have hk1 : w.heap.size < w0.heap.size + 1 := by omega
  have hk2 : w.heap.size < w0.heap.size + 1 + 1 := by omega
  have hk3 : w.heap.size < w0.heap.size + 1 + 1 + 1 := by omega
  have hk4 : w.heap.size < w0.heap.size + 1 + 1 + 1 + 1 := by omega
  have hk5 : w.heap.size < w0.heap.size + 1 + 1 + 1 + 1 + 1 := by omega
  have hk6 : w.heap.size < w0.heap.size + 1 + 1 + 1 + 1 + 1 + 1 := by omega
  have hk7 : w.heap.size < w0.heap.size + 1 + 1 + 1 + 1 + 1 + 1 + 1 := by omega
  have hk8 : w.heap.size < w0.heap.size + 1 + 1 + 1 + 1 + 1 + 1 + 1 + 1 := by omega
  have hk9 : w.heap.size < w0.heap.size + 1 + 1 + 1 + 1 + 1 + 1 + 1 + 1 + 1 := by omega
  have hk10 : w.heap.size < w0.heap.size + 1 + 1 + 1 + 1 + 1 + 1 + 1 + 1 + 1 + 1 := by omega
  have hk11 : w.heap.size < w0.heap.size + 1 + 1 + 1 + 1 + 1 + 1 + 1 + 1 + 1 + 1 + 1 := by omega
  have hk12 : w.heap.size < w0.heap.size + 1 + 1 + 1 + 1 + 1 + 1 + 1 + 1 + 1 + 1 + 1 + 1 := by omega
  have hk13 : w.heap.size < w0.heap.size + 1 + 1 + 1 + 1 + 1 + 1 + 1 + 1 + 1 + 1 + 1 + 1 + 1 := by omega
  have hk14 : w.heap.size < w0.heap.size + 1 + 1 + 1 + 1 + 1 + 1 + 1 + 1 + 1 + 1 + 1 + 1 + 1 + 1 := by omega
  have hk15 : w.heap.size < w0.heap.size + 1 + 1 + 1 + 1 + 1 + 1 + 1 + 1 + 1 + 1 + 1 + 1 + 1 + 1 + 1 := by omega
  have hk16 : w.heap.size < w0.heap.size + 1 + 1 + 1 + 1 + 1 + 1 + 1 + 1 + 1 + 1 + 1 + 1 + 1 + 1 + 1 + 1 := by omega
  have hk17 : w.heap.size < w0.heap.size + 1 + 1 + 1 + 1 + 1 + 1 + 1 + 1 + 1 + 1 + 1 + 1 + 1 + 1 + 1 + 1 + 1 := by omega
  have hk18 : w.heap.size < w0.heap.size + 1 + 1 + 1 + 1 + 1 + 1 + 1 + 1 + 1 + 1 + 1 + 1 + 1 + 1 + 1 + 1 + 1 + 1 := by omega
  have hk19 : w.heap.size < w0.heap.size + 1 + 1 + 1 + 1 + 1 + 1 + 1 + 1 + 1 + 1 + 1 + 1 + 1 + 1 + 1 + 1 + 1 + 1 + 1 := by omega
  have hk20 : w.heap.size < w0.heap.size + 1 + 1 + 1 + 1 + 1 + 1 + 1 + 1 + 1 + 1 + 1 + 1 + 1 + 1 + 1 + 1 + 1 + 1 + 1 + 1 := by omega
  have hk21 : w.heap.size < w0.heap.size + 1 + 1 + 1 + 1 + 1 + 1 + 1 + 1 + 1 + 1 + 1 + 1 + 1 + 1 + 1 + 1 + 1 + 1 + 1 + 1 + 1 := by omega
  have hk22 : w.heap.size < w0.heap.size + 1 + 1 + 1 + 1 + 1 + 1 + 1 + 1 + 1 + 1 + 1 + 1 + 1 + 1 + 1 + 1 + 1 + 1 + 1 + 1 + 1 + 1 := by omega
  have hk23 : w.heap.size < w0.heap.size + 1 + 1 + 1 + 1 + 1 + 1 + 1 + 1 + 1 + 1 + 1 + 1 + 1 + 1 + 1 + 1 + 1 + 1 + 1 + 1 + 1 + 1 + 1 := by omega
  have hk24 : w.heap.size < w0.heap.size + 1 + 1 + 1 + 1 + 1 + 1 + 1 + 1 + 1 + 1 + 1 + 1 + 1 + 1 + 1 + 1 + 1 + 1 + 1 + 1 + 1 + 1 + 1 + 1 := by omega
  have hk25 : w.heap.size < w0.heap.size + 1 + 1 + 1 + 1 + 1 + 1 + 1 + 1 + 1 + 1 + 1 + 1 + 1 + 1 + 1 + 1 + 1 + 1 + 1 + 1 + 1 + 1 + 1 + 1 + 1 := by omega
  have hk26 : w.heap.size < w0.heap.size + 1 + 1 + 1 + 1 + 1 + 1 + 1 + 1 + 1 + 1 + 1 + 1 + 1 + 1 + 1 + 1 + 1 + 1 + 1 + 1 + 1 + 1 + 1 + 1 + 1 + 1 := by omega
  have hk27 : w.heap.size < w0.heap.size + 1 + 1 + 1 + 1 + 1 + 1 + 1 + 1 + 1 + 1 + 1 + 1 + 1 + 1 + 1 + 1 + 1 + 1 + 1 + 1 + 1 + 1 + 1 + 1 + 1 + 1 + 1 := by omega
  have hk28 : w.heap.size < w0.heap.size + 1 + 1 + 1 + 1 + 1 + 1 + 1 + 1 + 1 + 1 + 1 + 1 + 1 + 1 + 1 + 1 + 1 + 1 + 1 + 1 + 1 + 1 + 1 + 1 + 1 + 1 + 1 + 1 := by omega
  have hk29 : w.heap.size < w0.heap.size + 1 + 1 + 1 + 1 + 1 + 1 + 1 + 1 + 1 + 1 + 1 + 1 + 1 + 1 + 1 + 1 + 1 + 1 + 1 + 1 + 1 + 1 + 1 + 1 + 1 + 1 + 1 + 1 + 1 := by omega
  have B4 := hide b4
  have HB := hide hw0
  clear b4 hw0 hb
  go_wp2_with (first
    | (go_at_call 20; refine (free_any _ _).mono ?_; rintro e w1 ⟨rfl, rfl⟩)
    | (go_at_call 26; refine (ref_free_any _ _).mono ?_; rintro e w1 ⟨rfl, rfl⟩)
    | (go_at_call 21; refine (take_any _ _ _ _ _).mono ?_; rintro e w1 ⟨rfl, rfl⟩)
    | (go_at_call 27; refine (ref_take_any _ _ _ _ _).mono ?_; rintro e w1 ⟨rfl, rfl⟩)
    | (go_at_call 22; refine (drop_no _ _ _ _ _ hc).mono ?_; rintro e w1 ⟨rfl, rfl⟩)
    | (go_at_call 28; refine (ref_drop_any _ _ _ _ _).mono ?_; rintro e w1 ⟨rfl, rfl⟩))
  have HS1 : Hid (∀ wx, Only Nob w0 wx → Blk wx (w.heap.size) 49 #[.int .u64 v, .bool h, .int .i64 o]) := fun wx ho => B4.out.only ho (fun e => e)
  refine abstract_calls (fun w' => Only Nob w0 w') ?_ ?_
  · repeat' (first | (with_reducible exact Only.refl _ _) | (with_reducible refine Only.alloc ?_ _) | (with_reducible refine Only.drewN ?_ _) | (with_reducible refine Only.drew ?_))
  intro W1 hW1
  have b41 := HS1.out W1 hW1
  clear hk1 hk2 hk3 hk4 hk5 hk6 hk7 hk8 hk9 hk10 hk11 hk12 hk13 hk14 hk15 hk16 hk17 hk18 hk19 hk20 hk21 hk22 hk23 hk24 hk25 hk26 hk27 hk28 hk29 c40 c41 c42 q1 q2 q3
  have c40 : W1.cell? ⟨w.heap.size, 0, none⟩ = some (.int .u64 v) := b41.cell 0
  have c41 : W1.cell? ⟨w.heap.size, 1, none⟩ = some (.bool h) := b41.cell 1
  have c42 : W1.cell? ⟨w.heap.size, 2, none⟩ = some (.int .i64 o) := b41.cell 2
  have HW1 := hide hW1
  have B41 := hide b41
  clear hW1 b41
  go_wp2_with (first
    | (go_at_call 29; refine (read_nine s _ hs'.out).mono ?_; rintro e w1 ⟨j1, rfl, rfl⟩)
    | (go_at_call 30; refine (ref_read_nine s _ hs'.out).mono ?_; rintro e w1 ⟨j2, rfl, rfl⟩))
  refine tells_last v o n (rdV s) (rdOO s) h (rdHH s) (rdB s) (w.heap.size) (W1.heap.size + 1 + 1 + 1) (W1.heap.size + 1 + 1 + 1 + 1 + 1 + 1 + 1) _ h0 ?_ ?_ ?_ _ _ _ _ _ _ _ _ _ _ _ _ _ _ _ _ _ _ _ _ _ _ _ _ _ _ _ _ _ _ _ _ _ _ _ _ _ _ _ _ _ _ _ _ _ _ _ _ _ _ _ _ _ _ _ _ _ _ _ _ _ _ _ _ _ _ _ _ _ _ _ _ _ _ _ _ _ _ _ _ _ _ _ _ _ _ _ _ _ _ _ _ _ _ _ _ _ _ _ _ _ _ _ _ _ _ _ _ _ _ _ _ _ _ _ _ _ _ _ _ _ _ _ _ _ ?_
  · repeat' (first | (with_reducible exact B41.out) | (with_reducible refine Blk.drewN ?_ _) | (with_reducible refine Blk.drew ?_) | (with_reducible refine Blk.alloc ?_ _))
  · repeat' (first | (with_reducible refine Blk.drewN ?_ _) | (with_reducible refine Blk.drew ?_) | (with_reducible refine Blk.new' ?_; simp; done) | (with_reducible refine Blk.alloc ?_ _))
  · repeat' (first | (with_reducible refine Blk.drewN ?_ _) | (with_reducible refine Blk.drew ?_) | (with_reducible refine Blk.new' ?_; simp; done) | (with_reducible refine Blk.alloc ?_ _))
  intro z99 z100 z101 z102 z103 z104 z105 z106 z107 z108 z109 z110 z111 z112 z113 z114 z115 z116 z117 z118 z119 z120 z121 z122 z123 z124 z125 z126 z127 z128 z129 wZ hoZ
  go_wp2
  go_ret
  refine ⟨rfl, HB.out.trans (Below.mono (Only.new ?_) HB.out.size)⟩
  refine Only.trans ?_ hoZ
  repeat' (first | (with_reducible exact HW1.out) | (with_reducible refine Only.alloc ?_ _) | (with_reducible refine Only.drewN ?_ _) | (with_reducible refine Only.drew ?_))

set_option maxRecDepth 100000 in
set_option maxHeartbeats 2000000 in
theorem tells_no_short (v o n a : Int) (h : Bool) (s : ByteArray) (w : World) (h0 : 0 ≤ v) (hc : dropC v h o n = false) (hs : s.size ≠ 9) (hm : s.size ≤ maxLen) :
    Calls Try.prog 10 #[.agg #[.int .u64 v, .bool h, .int .i64 o], .int .u64 n, .int .i64 a, .string s] w fun e w' => e = .returned (.bool true) ∧ Below w.heap.size w w' := by
  have hs' := hide hs
  have hm' := hide hm
  clear hs hm
  have q1 := takeW_out
  have q2 := dropW4_out
  have q3 := dropW3_out
  go_enter Try.func10, Try.ntmps10
  go_wp2_with fail
  refine (lck_runs _).mono ?_
  rintro e w0 ⟨rfl, hb⟩
  have hsz := hb.size
  simp at hsz
  have b4 : Blk w0 w.heap.size 49 #[.int .u64 v, .bool h, .int .i64 o] := (Blk.new' rfl).below hb (by simp)
  have hw0 : Below w.heap.size w w0 := ((Below.refl _ _).alloc (Nat.le_refl _) _).trans (hb.mono (by simp))
  have c40 : w0.cell? ⟨w.heap.size, 0, none⟩ = some (.int .u64 v) := b4.cell 0
  have c41 : w0.cell? ⟨w.heap.size, 1, none⟩ = some (.bool h) := b4.cell 1
  have c42 : w0.cell? ⟨w.heap.size, 2, none⟩ = some (.int .i64 o) := b4.cell 2
  have hz : w.heap.size < w0.heap.size := by omega
  have hk1 : w.heap.size < w0.heap.size + 1 := by omega
  have hk2 : w.heap.size < w0.heap.size + 1 + 1 := by omega
  have hk3 : w.heap.size < w0.heap.size + 1 + 1 + 1 := by omega
  have hk4 : w.heap.size < w0.heap.size + 1 + 1 + 1 + 1 := by omega
  have hk5 : w.heap.size < w0.heap.size + 1 + 1 + 1 + 1 + 1 := by omega
  have hk6 : w.heap.size < w0.heap.size + 1 + 1 + 1 + 1 + 1 + 1 := by omega
  have hk7 : w.heap.size < w0.heap.size + 1 + 1 + 1 + 1 + 1 + 1 + 1 := by omega
  have hk8 : w.heap.size < w0.heap.size + 1 + 1 + 1 + 1 + 1 + 1 + 1 + 1 := by omega
  have hk9 : w.heap.size < w0.heap.size + 1 + 1 + 1 + 1 + 1 + 1 + 1 + 1 + 1 := by omega
  have hk10 : w.heap.size < w0.heap.size + 1 + 1 + 1 + 1 + 1 + 1 + 1 + 1 + 1 + 1 := by omega
  have hk11 : w.heap.size < w0.heap.size + 1 + 1 + 1 + 1 + 1 + 1 + 1 + 1 + 1 + 1 + 1 := by omega
  have hk12 : w.heap.size < w0.heap.size + 1 + 1 + 1 + 1 + 1 + 1 + 1 + 1 + 1 + 1 + 1 + 1 := by omega
  have hk13 : w.heap.size < w0.heap.size + 1 + 1 + 1 + 1 + 1 + 1 + 1 + 1 + 1 + 1 + 1 + 1 + 1 := by omega
  have hk14 : w.heap.size < w0.heap.size + 1 + 1 + 1 + 1 + 1 + 1 + 1 + 1 + 1 + 1 + 1 + 1 + 1 + 1 := by omega
  have hk15 : w.heap.size < w0.heap.size + 1 + 1 + 1 + 1 + 1 + 1 + 1 + 1 + 1 + 1 + 1 + 1 + 1 + 1 + 1 := by omega
  have hk16 : w.heap.size < w0.heap.size + 1 + 1 + 1 + 1 + 1 + 1 + 1 + 1 + 1 + 1 + 1 + 1 + 1 + 1 + 1 + 1 := by omega
  have hk17 : w.heap.size < w0.heap.size + 1 + 1 + 1 + 1 + 1 + 1 + 1 + 1 + 1 + 1 + 1 + 1 + 1 + 1 + 1 + 1 + 1 := by omega
  have hk18 : w.heap.size < w0.heap.size + 1 + 1 + 1 + 1 + 1 + 1 + 1 + 1 + 1 + 1 + 1 + 1 + 1 + 1 + 1 + 1 + 1 + 1 := by omega
  have hk19 : w.heap.size < w0.heap.size + 1 + 1 + 1 + 1 + 1 + 1 + 1 + 1 + 1 + 1 + 1 + 1 + 1 + 1 + 1 + 1 + 1 + 1 + 1 := by omega
  have hk20 : w.heap.size < w0.heap.size + 1 + 1 + 1 + 1 + 1 + 1 + 1 + 1 + 1 + 1 + 1 + 1 + 1 + 1 + 1 + 1 + 1 + 1 + 1 + 1 := by omega
  have hk21 : w.heap.size < w0.heap.size + 1 + 1 + 1 + 1 + 1 + 1 + 1 + 1 + 1 + 1 + 1 + 1 + 1 + 1 + 1 + 1 + 1 + 1 + 1 + 1 + 1 := by omega
  have hk22 : w.heap.size < w0.heap.size + 1 + 1 + 1 + 1 + 1 + 1 + 1 + 1 + 1 + 1 + 1 + 1 + 1 + 1 + 1 + 1 + 1 + 1 + 1 + 1 + 1 + 1 := by omega
  have hk23 : w.heap.size < w0.heap.size + 1 + 1 + 1 + 1 + 1 + 1 + 1 + 1 + 1 + 1 + 1 + 1 + 1 + 1 + 1 + 1 + 1 + 1 + 1 + 1 + 1 + 1 + 1 := by omega
  have hk24 : w.heap.size < w0.heap.size + 1 + 1 + 1 + 1 + 1 + 1 + 1 + 1 + 1 + 1 + 1 + 1 + 1 + 1 + 1 + 1 + 1 + 1 + 1 + 1 + 1 + 1 + 1 + 1 := by omega
  have hk25 : w.heap.size < w0.heap.size + 1 + 1 + 1 + 1 + 1 + 1 + 1 + 1 + 1 + 1 + 1 + 1 + 1 + 1 + 1 + 1 + 1 + 1 + 1 + 1 + 1 + 1 + 1 + 1 + 1 := by omega
  have hk26 : w.heap.size < w0.heap.size + 1 + 1 + 1 + 1 + 1 + 1 + 1 + 1 + 1 + 1 + 1 + 1 + 1 + 1 + 1 + 1 + 1 + 1 + 1 + 1 + 1 + 1 + 1 + 1 + 1 + 1 := by omega
  have hk27 : w.heap.size < w0.heap.size + 1 + 1 + 1 + 1 + 1 + 1 + 1 + 1 + 1 + 1 + 1 + 1 + 1 + 1 + 1 + 1 + 1 + 1 + 1 + 1 + 1 + 1 + 1 + 1 + 1 + 1 + 1 := by omega
  have hk28 : w.heap.size < w0.heap.size + 1 + 1 + 1 + 1 + 1 + 1 + 1 + 1 + 1 + 1 + 1 + 1 + 1 + 1 + 1 + 1 + 1 + 1 + 1 + 1 + 1 + 1 + 1 + 1 + 1 + 1 + 1 + 1 := by omega
  have hk29 : w.heap.size < w0.heap.size + 1 + 1 + 1 + 1 + 1 + 1 + 1 + 1 + 1 + 1 + 1 + 1 + 1 + 1 + 1 + 1 + 1 + 1 + 1 + 1 + 1 + 1 + 1 + 1 + 1 + 1 + 1 + 1 + 1 := by omega
  have B4 := hide b4
  have HB := hide hw0
  clear b4 hw0 hb
  go_wp2_with (first
    | (go_at_call 20; refine (free_any _ _).mono ?_; rintro e w1 ⟨rfl, rfl⟩)
    | (go_at_call 26; refine (ref_free_any _ _).mono ?_; rintro e w1 ⟨rfl, rfl⟩)
    | (go_at_call 21; refine (take_any _ _ _ _ _).mono ?_; rintro e w1 ⟨rfl, rfl⟩)
    | (go_at_call 27; refine (ref_take_any _ _ _ _ _).mono ?_; rintro e w1 ⟨rfl, rfl⟩)
    | (go_at_call 22; refine (drop_no _ _ _ _ _ hc).mono ?_; rintro e w1 ⟨rfl, rfl⟩)
    | (go_at_call 28; refine (ref_drop_any _ _ _ _ _).mono ?_; rintro e w1 ⟨rfl, rfl⟩))
  have HS1 : Hid (∀ wx, Only Nob w0 wx → Blk wx (w.heap.size) 49 #[.int .u64 v, .bool h, .int .i64 o]) := fun wx ho => B4.out.only ho (fun e => e)
  refine abstract_calls (fun w' => Only Nob w0 w') ?_ ?_
  · repeat' (first | (with_reducible exact Only.refl _ _) | (with_reducible refine Only.alloc ?_ _) | (with_reducible refine Only.drewN ?_ _) | (with_reducible refine Only.drew ?_))
  intro W1 hW1
  have b41 := HS1.out W1 hW1
  clear hk1 hk2 hk3 hk4 hk5 hk6 hk7 hk8 hk9 hk10 hk11 hk12 hk13 hk14 hk15 hk16 hk17 hk18 hk19 hk20 hk21 hk22 hk23 hk24 hk25 hk26 hk27 hk28 hk29 c40 c41 c42 q1 q2 q3
  have c40 : W1.cell? ⟨w.heap.size, 0, none⟩ = some (.int .u64 v) := b41.cell 0
  have c41 : W1.cell? ⟨w.heap.size, 1, none⟩ = some (.bool h) := b41.cell 1
  have c42 : W1.cell? ⟨w.heap.size, 2, none⟩ = some (.int .i64 o) := b41.cell 2
  have HW1 := hide hW1
  have B41 := hide b41
  clear hW1 b41
  go_wp2_with (first
    | (go_at_call 29; refine (read_short s _ hs'.out hm'.out).mono ?_; rintro e w1 ⟨rfl, rfl⟩)
    | (go_at_call 30; refine (ref_read_short s _ hs'.out hm'.out).mono ?_; rintro e w1 ⟨rfl, rfl⟩))
  refine tells_last v o n 0 0 h false false (w.heap.size) (W1.heap.size + 1) (W1.heap.size + 1 + 1 + 1) _ h0 ?_ ?_ ?_ _ _ _ _ _ _ _ _ _ _ _ _ _ _ _ _ _ _ _ _ _ _ _ _ _ _ _ _ _ _ _ _ _ _ _ _ _ _ _ _ _ _ _ _ _ _ _ _ _ _ _ _ _ _ _ _ _ _ _ _ _ _ _ _ _ _ _ _ _ _ _ _ _ _ _ _ _ _ _ _ _ _ _ _ _ _ _ _ _ _ _ _ _ _ _ _ _ _ _ _ _ _ _ _ _ _ _ _ _ _ _ _ _ _ _ _ _ _ _ _ _ _ _ _ _ ?_
  · repeat' (first | (with_reducible exact B41.out) | (with_reducible refine Blk.drewN ?_ _) | (with_reducible refine Blk.drew ?_) | (with_reducible refine Blk.alloc ?_ _))
  · repeat' (first | (with_reducible refine Blk.drewN ?_ _) | (with_reducible refine Blk.drew ?_) | (with_reducible refine Blk.new' ?_; simp; done) | (with_reducible refine Blk.alloc ?_ _))
  · repeat' (first | (with_reducible refine Blk.drewN ?_ _) | (with_reducible refine Blk.drew ?_) | (with_reducible refine Blk.new' ?_; simp; done) | (with_reducible refine Blk.alloc ?_ _))
  intro z99 z100 z101 z102 z103 z104 z105 z106 z107 z108 z109 z110 z111 z112 z113 z114 z115 z116 z117 z118 z119 z120 z121 z122 z123 z124 z125 z126 z127 z128 z129 wZ hoZ
  go_wp2
  go_ret
  refine ⟨rfl, HB.out.trans (Below.mono (Only.new ?_) HB.out.size)⟩
  refine Only.trans ?_ hoZ
  repeat' (first | (with_reducible exact HW1.out) | (with_reducible refine Only.alloc ?_ _) | (with_reducible refine Only.drewN ?_ _) | (with_reducible refine Only.drew ?_))

theorem lck_tells_w (v : Int) (h : Bool) (o : Int) (h0 : 0 ≤ v) (n : Int) (_wn : (Lit.int .u64 n).wf = true) (a : Int) (_wa : (Lit.int .i64 a).wf = true) (s : ByteArray) (hm : s.size ≤ maxLen) (w : World) :
    Calls Try.prog 10 #[.agg #[.int .u64 v, .bool h, .int .i64 o], .int .u64 n, .int .i64 a, .string s] w fun e w' => e = .returned (.bool true) ∧ Below w.heap.size w w' := by
  rcases (by cases dropC v h o n <;> simp : dropC v h o n = true ∨ dropC v h o n = false) with hc | hc
  · by_cases hs : s.size = 9
    · exact tells_yes_nine v o n a h s w h0 hc hs
    · exact tells_yes_short v o n a h s w h0 hc hs hm
  · by_cases hs : s.size = 9
    · exact tells_no_nine v o n a h s w h0 hc hs
    · exact tells_no_short v o n a h s w h0 hc hs hm
end Go.Proofs.Ytpgmcmdcdkajjaa

