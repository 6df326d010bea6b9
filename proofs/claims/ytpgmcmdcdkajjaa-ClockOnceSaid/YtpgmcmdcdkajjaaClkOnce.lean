/-
  The law ClockOnce, walked: whatever the numbers it returns true, and writes nothing that was there.
-/
import Derived.Test.YtpgmcmdcdkajjaaClkRuns
import Derived.OpenShut
namespace Go.Proofs.Ytpgmcmdcdkajjaa
open Go.RowKit

theorem clk_once (s n : Int) (w : World) (hs0 : 0 ≤ s) (hs : s < 4294967296) (hn0 : 0 ≤ n) (hn : n < 256) :
    Calls Try.prog 6 #[.int .u32 s, .int .u8 n] w fun e w' => e = .returned (.bool true) ∧ Below w.heap.size w w' := by
  go_enter Try.func6, Try.ntmps6
  go_wp2_with (first
    | (go_at_call 3; refine (clk_runs _).mono ?_; rintro e w1 ⟨rfl, hb1⟩)
    | (go_at_call 13; refine (clk_new_in _ _ (by omega) (by omega)).mono ?_; rintro e w2 ⟨rfl, rfl⟩)
    | (go_at_call 15; refine (clk_load _ _ _ (ClkAt.new _ _)).mono ?_; rintro e w3 ⟨rfl, rfl⟩))
  have hm0 : 0 ≤ n % 20 := by omega
  have hm1 : n % 20 < 20 := by omega
  have hw0 := hb1.alloc hb1.size (.cells #[.int .u64 s] 63)
  have hc0 := ClkAt.new w1 s
  have hsz := hb1.size
  generalize w1.alloc (.cells #[.int .u64 s] 63) = wa at *
  generalize w1.heap.size = B at *
  clear hb1
  go_loopw [8, 9] (fun d i wr => ∃ k : Nat, (k : Int) ≤ n % 20 ∧ i = .int .i64 k ∧ d = .int .i64 k ∧ ClkAt wr B (s + k) ∧ Below w.heap.size w wr)
    (fun _ i _ => 20 - (intOf i).toNat)
  case atStart => exact ⟨0, by omega, rfl, rfl, by simpa using hc0, hw0⟩
  case round =>
    obtain ⟨k, hk, rfl, rfl, hclk, hbw⟩ := hrel
    clear hw0 hc0
    by_cases hlt : (k : Int) < n % 20
    · by_cases hk0 : k = 0
      · subst hk0
        have hc1 : ClkAt wr B s := by simpa using hclk
        have hc2 := hc1.set (s + 1)
        have hb2 := hbw.setCell (p := ⟨B, 0, none⟩) hsz (.int .u64 (s + 1))
        go_wp2_with (go_at_call 14; refine (clk_cas_yes _ _ _ _ hc1 (by omega) (by omega)).mono ?_; rintro e w3 ⟨rfl, rfl⟩)
        go_roundw
        case rel => exact ⟨1, by omega, by go_num, by go_num, by simpa using hc2, hb2⟩
        case measure => simp [intOf]
      · have hkk : ((k : Int) == 0) = false := by simp; omega
        have hc2 := hclk.set (s + k + 1)
        have hb2 := hbw.setCell (p := ⟨B, 0, none⟩) hsz (.int .u64 (s + k + 1))
        go_wp2_with fail
        refine (clk_cas_no _ _ s (s + 1) _ hclk (by omega) (by omega) (by omega)).mono ?_
        rintro e w3 ⟨rfl, rfl⟩
        go_wp2_with (first
          | (go_at_call 15; refine (clk_load _ _ _ hclk).mono ?_; rintro e w4 ⟨rfl, rfl⟩)
          | (go_at_call 14; refine (clk_cas_yes _ (s + k) (s + k + 1) _ hclk (by omega) (by omega)).mono ?_; rintro e w3 ⟨rfl, rfl⟩))
        go_roundw
        case rel => exact ⟨k + 1, by omega, by go_num, by go_num, by simpa [Int.add_assoc] using hc2, hb2⟩
        case measure => simp [intOf]; omega
    · have hkn : (k : Int) = n % 20 := by omega
      have hbq : ((k : Int) == n % 20) = true := by simpa using hkn
      have hu : IntKind.u64.wrap (s + k) = s + k := IntWalk.u64_in _ (by omega)
      clear hkn
      go_wp2_with (go_at_call 15; refine (clk_load _ _ _ hclk).mono ?_; rintro e w4 ⟨rfl, rfl⟩)
      go_ret
      exact ⟨rfl, hbw⟩

theorem clk_once_w (s : Int) (ws : (Lit.int .u32 s).wf = true) (n : Int) (wn : (Lit.int .u8 n).wf = true) (w : World) :
    Calls Try.prog 6 #[.int .u32 s, .int .u8 n] w fun e w' => e = .returned (.bool true) ∧ Below w.heap.size w w' := by
  have h1 := bounds_u32 ws
  have h2 := bounds_u8 wn
  exact clk_once s n w (by omega) (by omega) (by omega) (by omega)
end Go.Proofs.Ytpgmcmdcdkajjaa
