/-
  Chapter 15's closed run, walked.
-/
import Derived.Test.YtpdjhkidalafpaaSame
namespace Go.Proofs.Ytpdjhkidalafpaa
open Go.RowKit
set_option linter.unusedVariables false
set_option linter.unusedSimpArgs false

def prog0 : List PIns := [⟨17, 0, 0, 0, 0⟩, ⟨20, 0, 0, 0, 0⟩, ⟨18, 0, 0, 0, 0⟩, ⟨19, 0, 0, 0, 0⟩]
theorem IntsOut.of_blk {w : World} {g n : Nat} {l : List Int} (h : IntBlk w g l) (hn : n = l.length) : IntsOut w (.slice (some ⟨g, 0, none⟩) n n) l := by
  subst hn
  exact .inr ⟨g, _, rfl, h⟩

theorem run0 (w : World) (g : Nat) (h : Blk w g 28 (progCells prog0).toArray) :
    Calls Try.prog 20 #[.agg #[.slice (some ⟨g, 0, none⟩) 4 4]] w fun e w' => e = .returned (.tuple #[.int .i64 0, .int .i64 0]) ∧ Only Nob w w' := by
  have := run_any w.heap.size w _ 4 prog0 (ProgIn.of_blk h) (Nat.le_refl _) (by decide)
  rw [show runP prog0 = (0, 0) by decide] at this
  exact this
theorem run_nil (w : World) :
    Calls Try.prog 20 #[.agg #[.slice none 0 0]] w fun e w' => e = .returned (.tuple #[.int .i64 0, .int .i64 4]) ∧ Only Nob w w' := by
  have := run_any w.heap.size w none 0 [] (fun h => absurd rfl h) (Nat.le_refl _) (by decide)
  rw [show runP [] = (0, 4) by decide] at this
  exact this
theorem region0 (w : World) (g : Nat) (h : Blk w g 28 (progCells prog0).toArray) :
    Calls Try.prog 21 #[.agg #[.slice (some ⟨g, 0, none⟩) 4 4]] w (OutPost w [-1, 0, 0, 2]) := by
  have := region_any w.heap.size w _ 4 prog0 (ProgIn.of_blk h) (Nat.le_refl _) (by decide)
  rw [show regionP prog0 = [-1, 0, 0, 2] by decide] at this
  exact this
theorem match0 (w : World) (g : Nat) (h : Blk w g 28 (progCells prog0).toArray) :
    Calls Try.prog 22 #[.agg #[.slice (some ⟨g, 0, none⟩) 4 4]] w (OutPost w [2, -1, 3, -1]) := by
  have := match_any w.heap.size w _ 4 prog0 (ProgIn.of_blk h) (Nat.le_refl _) (by decide)
  rw [show matchP prog0 = [2, -1, 3, -1] by decide] at this
  exact this
theorem same_true (w : World) (va vb : Value) (a : List Int) (ha : IntsOut w va a) (hb : IntsOut w vb a) (hn : a.length ≤ 100000) :
    Calls Try.prog 23 #[va, vb] w fun e w' => e = .returned (.bool true) ∧ Only Nob w w' := by
  have := same_any w va vb a a ha hb hn hn
  rw [show sameI a a = true by simp [sameI]] at this
  exact this

set_option maxHeartbeats 2000000 in
theorem check_runs (w : World) : Calls Try.prog 7 #[] w fun e w' => e = .returned (.bool true) ∧ Below w.heap.size w w' := by
  have KL : Hid (Blk (w.alloc (.cells (progCells prog0).toArray 28)) w.heap.size 28 (progCells prog0).toArray) := Blk.new w _ _
  have KP : Hid (Blk ((w.alloc (.cells (progCells prog0).toArray 28)).alloc (.cells #[.slice (some ⟨w.heap.size, 0, none⟩) 4 4] 37)) (w.heap.size + 1) 37 #[.slice (some ⟨w.heap.size, 0, none⟩) 4 4]) := by
    have := Blk.new (w.alloc (.cells (progCells prog0).toArray 28)) 37 #[.slice (some ⟨w.heap.size, 0, none⟩) 4 4]
    simpa [Hid] using this
  go_enter Try.func7, Try.ntmps7
  go_wp2_with fail
  refine (run0 _ w.heap.size (KL.out.alloc _)).mono ?_
  rintro e w1 ⟨rfl, ho1⟩
  have k1 := KP.out.only ho1 (fun h => h)
  have hk1 := k1.one
  have hk1f := k1.frozen
  have KL1 := hide ((KL.out.alloc _).only ho1 (fun h => h))
  have hon1 : Hid (Only Nob w w1) := Only.trans (Only.alloc (Only.alloc (Only.refl _ _) _) _) ho1
  clear ho1 KP KL
  go_wp2_with fail
  go_region_with (first
    | (go_at_call 21; refine (region0 _ w.heap.size KL1.out.drew).mono ?_; rintro e w2 ⟨vR, rfl, hR, ho2⟩; have k2 := k1.drew.only ho2 (fun h => h); have hk2 := k2.one; have hk2f := k2.frozen)
    | (go_at_call 22; refine (match0 _ w.heap.size (KL1.out.drew.only ho2 (fun h => h))).mono ?_; rintro e w3 ⟨vM, rfl, hM, ho3⟩))
  all_goals
    have hR3 := hide (hR.only ho3)
    have hM3 := hide hM
    have hon3 : Hid (Only Nob w w3) := Only.trans (Only.trans hon1.out.drew ho2) ho3
    clear hR hM ho2 ho3 k2 hk2 hk2f
    have tok1 : True := trivial
    go_wp2_with (first
      | (go_at_call 20; refine (run_nil _).mono ?_; rintro e w4 ⟨rfl, ho4⟩; have hR4 := hide (hR3.out.only ho4); have hM4 := hide (hM3.out.only ho4))
      | (go_at_call 23; have _t := tok1; refine (same_true _ _ _ [-1, 0, 0, 2] (hR4.out.only (Only.alloc (Only.refl _ _) _)) (IntsOut.of_blk (Blk.new _ _ _) rfl) (by decide)).mono ?_; rintro e w5 ⟨rfl, ho5⟩; clear tok1; have hM5 := hide ((hM4.out.only (Only.alloc (Only.refl _ _) _)).only ho5))
      | (go_at_call 23; refine (same_true _ _ _ [2, -1, 3, -1] (hM5.out.only (Only.alloc (Only.refl _ _) _)) (IntsOut.of_blk (Blk.new _ _ _) rfl) (by decide)).mono ?_; rintro e w6 ⟨rfl, ho6⟩))
    go_ret
    refine ⟨rfl, Only.new ?_⟩
    exact Only.trans (Only.alloc (Only.trans (Only.alloc (Only.trans hon3.out ho4) _) ho5) _) ho6
end Go.Proofs.Ytpdjhkidalafpaa
