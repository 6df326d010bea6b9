/-
  The contract of 'same' of layer 15's statements: the program's answers are the document's.
-/
import Derived.Test.YtpdjhkidalafpaaRefCheck
namespace Go.Proofs.Ytpdjhkidalafpaa
open Go.RowKit
set_option linter.unusedVariables false
set_option linter.unusedSimpArgs false

theorem regionP_len (l : List PIns) : (regionP l).length ≤ l.length := by
  unfold regionP
  split
  · rw [regionsP_len]; exact Nat.le_refl _
  · simp
theorem matchP_len (l : List PIns) : (matchP l).length ≤ l.length := by
  unfold matchP
  split
  · rw [endB_len]; exact Nat.le_refl _
  · simp

set_option maxHeartbeats 2000000 in
theorem law_same (B : Nat) (w : World) (A : Option Addr) (cap : Nat) (l : List PIns) (hp : ProgIn w B A l) (hB : B ≤ w.heap.size) (hn : l.length ≤ 1000) :
    Calls Try.prog 24 #[.agg #[.slice A l.length cap]] w fun e w' => e = .returned (.bool true) ∧ Only Nob w w' := by
  have HP := hide hp
  have KP := hide (Blk.new w 37 #[.slice A l.length cap])
  have HB1 : Hid (B ≤ (w.alloc (.cells #[.slice A l.length cap] 37)).heap.size) := by unfold Hid; simp; omega
  have HL1 : Hid ((regionP l).length ≤ 100000) := Nat.le_trans (regionP_len l) (by omega)
  have HL2 : Hid ((matchP l).length ≤ 100000) := Nat.le_trans (matchP_len l) (by omega)
  have e1 : ((runP l).1 == (runP l).1) = true := by simp
  have e2 : ((runP l).2 == (runP l).2) = true := by simp
  have tok1 : True := trivial
  clear hp
  go_enter Try.func24, Try.ntmps24
  go_wp2_with (first
    | (go_at_call 20; refine (run_any B _ _ cap l (HP.out.alloc hB _) HB1.out hn).mono ?_; rintro e w2 ⟨rfl, ho2⟩; have k2 := KP.out.only ho2 (fun h => h); have k20 := k2.one; have k2f := k2.frozen; have HP2 := hide ((HP.out.alloc hB _).keep (below_nob ho2 HB1.out)); have HB2 := hide (Nat.le_trans HB1.out ho2.size))
    | (go_at_call 40; refine (rcheck_any B _ _ cap l HP2.out HB2.out).mono ?_; rintro e w3 ⟨vR, vM, rfl, hvR, hvM, ho3⟩; have k3 := k2.only ho3 (fun h => h); have k30 := k3.one; have k3f := k3.frozen; have HP3 := hide (HP2.out.keep (below_nob ho3 HB2.out)); have HB3 := hide (Nat.le_trans HB2.out ho3.size))
    | (go_at_call 21; refine (region_any B _ _ cap l HP3.out HB3.out hn).mono ?_; rintro e w4 ⟨vR4, rfl, hvR4, ho4⟩; have k4 := k3.only ho4 (fun h => h); have k40 := k4.one; have k4f := k4.frozen; have HP4 := hide (HP3.out.keep (below_nob ho4 HB3.out)); have HB4 := hide (Nat.le_trans HB3.out ho4.size))
    | (go_at_call 23; have _t := tok1; refine (same_true _ _ _ (regionP l) hvR4 (hvR.only ho4) HL1.out).mono ?_; rintro e w5 ⟨rfl, ho5⟩; clear tok1; have k5 := k4.only ho5 (fun h => h); have k50 := k5.one; have k5f := k5.frozen)
    | (go_at_call 22; refine (match_any B _ _ cap l (HP4.out.keep (below_nob ho5 HB4.out)) (Nat.le_trans HB4.out ho5.size) hn).mono ?_; rintro e w6 ⟨vM6, rfl, hvM6, ho6⟩)
    | (go_at_call 23; refine (same_true _ _ _ (matchP l) hvM6 (((hvM.only ho4).only ho5).only ho6) HL2.out).mono ?_; rintro e w7 ⟨rfl, ho7⟩))
  go_ret
  exact ⟨rfl, (((((((Only.refl Nob w).alloc _).trans ho2).trans ho3).trans ho4).trans ho5).trans ho6).trans ho7⟩
end Go.Proofs.Ytpdjhkidalafpaa
