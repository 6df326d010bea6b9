/-
  The law ClockRises, walked: whatever the asks it returns true, and writes nothing that was there.
-/
import Derived.Test.YtpgmcmdcdkajjaaClkRuns
import Derived.Test.YtpgmcmdcdkajjaaOpen
import Derived.Test.YtpgmcmdcdkajjaaSmall
import Derived.BigQuiet
import Derived.Deep.RegionWith
namespace Go.Proofs.Ytpgmcmdcdkajjaa
open Go.RowKit

theorem AskAt.below {w w' : World} {b o B : Nat} (h : AskAt w b o) (hb : Below B w w') (hlt : b < B) : AskAt w' b o := by
  obtain ⟨t, old, now, more, h1, h2, h3, h4, h5, h6, c0, c1, c2, c3⟩ := h
  exact ⟨t, old, now, more, h1, h2, h3, h4, h5, h6, (hb.cell (p := ⟨b, o, none⟩) hlt).trans c0, (hb.cell (p := ⟨b, o + 1, none⟩) hlt).trans c1, (hb.cell (p := ⟨b, o + 2, none⟩) hlt).trans c2, (hb.cell (p := ⟨b, o + 3, none⟩) hlt).trans c3⟩

set_option maxRecDepth 100000 in
set_option maxHeartbeats 1000000 in
theorem clk_rises (s : Int) (A : Option Addr) (len cap : Nat) (w : World) (hs0 : 0 ≤ s) (hasks : Asks w A len) :
    Calls Try.prog 5 #[.int .u64 s, .slice A len cap] w fun e w' => e = .returned (.bool true) ∧ Below w.heap.size w w' := by
  have hm := hasks.1
  unfold maxLen at hm
  have h0 : 0 ≤ min s 4611686018427387903 := by omega
  have h1 : min s 4611686018427387903 < 4611686018427387904 := by omega
  go_enter Try.func5, Try.ntmps5
  go_wp2_with (first
    | (go_at_call 3; refine (clk_runs _).mono ?_; rintro e w1 ⟨rfl, hb1⟩)
    | (go_at_call 13; refine (clk_new _ _ (by omega)).mono ?_; rintro e w2 ⟨rfl, rfl⟩)
    | (go_at_call 15; refine (clk_load _ _ _ (ClkAt.new _ _)).mono ?_; rintro e w3 ⟨rfl, rfl⟩))
  generalize min s 4611686018427387903 = n0 at *
  have hw0 := hb1.alloc hb1.size (.cells #[.int .u64 n0] 63)
  have hc0 := ClkAt.new w1 n0
  have hsz := hb1.size
  generalize w1.alloc (.cells #[.int .u64 n0] 63) = wa at *
  generalize w1.heap.size = B at *
  clear hb1
  go_loopw [6, 7] (fun d i wr => ∃ (k : Nat) (n : Int), k ≤ len ∧ k ≤ 60 ∧ 0 ≤ n ∧ n < 4611686018427387904 ∧ i = .int .i64 k ∧ d = .int .u64 n ∧ ClkAt wr B n ∧ Below w.heap.size w wr)
    (fun _ i _ => 60 - (intOf i).toNat)
  case atStart => exact ⟨0, n0, by omega, by omega, h0, h1, rfl, rfl, hc0, hw0⟩
  case round =>
    obtain ⟨k, n, hk, hk6, hn0, hn1, rfl, rfl, hclk, hbw⟩ := hrel
    clear hw0 hc0 h0 h1
    by_cases hlt : k < len ∧ k < 60
    · obtain ⟨hlt, hl6⟩ := hlt
      obtain ⟨b, o, rfl, hbl, hat⟩ := hasks.at_ hlt
      obtain ⟨t, old, now, more, g1, g2, g3, g4, g5, g6, -, c1, c2, -⟩ := hat.below hbw hbl
      clear hat g5 g6
      have hBb : B ≠ b := by omega
      have hnn : (n != n) = false := by simp
      rcases (by omega : old < now ∨ now ≤ old) with ho | ho
      · rcases (by omega : now < 4611686018427387904 ∨ 4611686018427387904 ≤ now) with hM | hM
        · by_cases hq : n = old
          · subst hq
            have hne : (now == n) = false := by simp; omega
            go_wp2_with fail
            go_region_with (go_at_call 14; refine (clk_cas_yes _ _ _ _ hclk.drew ho hM).mono ?_; rintro e w3 ⟨rfl, rfl⟩)
            all_goals
              go_wp2_with (go_at_call 15; refine (clk_load _ _ _ (hclk.set now).drew).mono ?_; rintro e w4 ⟨rfl, rfl⟩)
              go_roundw
              case rel => exact ⟨k + 1, now, by omega, by omega, g3, hM, by go_num, rfl, (hclk.set now).drew, (hbw.setCell (p := ⟨B, 0, none⟩) hsz _).drew⟩
              case measure => simp [intOf]; omega
          · go_wp2_with fail
            go_quiet ((go_at_call 14; exact quiet_left (clk_cas_no _ _ _ _ _ (hclk.drewN _) ho hM hq)))
            go_wp2_with (go_at_call 15; refine (clk_load _ _ _ (hclk.drewN _)).mono ?_; rintro e w4 ⟨rfl, rfl⟩)
            go_roundw
            case rel => exact ⟨k + 1, n, by omega, by omega, hn0, hn1, by go_num, rfl, hclk.drewN _, below_drewN hbw _⟩
            case measure => simp [intOf]; omega
        · go_wp2_with fail
          go_quiet ((go_at_call 14; exact quiet_left (clk_cas_clock _ _ _ _ ho hM)))
          go_wp2_with (go_at_call 15; refine (clk_load _ _ _ (hclk.drewN _)).mono ?_; rintro e w4 ⟨rfl, rfl⟩)
          go_roundw
          case rel => exact ⟨k + 1, n, by omega, by omega, hn0, hn1, by go_num, rfl, hclk.drewN _, below_drewN hbw _⟩
          case measure => simp [intOf]; omega
      · go_wp2_with fail
        go_quiet ((go_at_call 14; exact quiet_left (clk_cas_arg _ _ _ _ ho)))
        go_wp2_with (go_at_call 15; refine (clk_load _ _ _ (hclk.drewN _)).mono ?_; rintro e w4 ⟨rfl, rfl⟩)
        go_roundw
        case rel => exact ⟨k + 1, n, by omega, by omega, hn0, hn1, by go_num, rfl, hclk.drewN _, below_drewN hbw _⟩
        case measure => simp [intOf]; omega
    · rcases (by omega : len ≤ k ∨ 60 ≤ k) with hge | hge
      · go_wp2
        go_ret
        exact ⟨rfl, hbw⟩
      · by_cases hlk : k < len
        · go_wp2
          go_ret
          exact ⟨rfl, hbw⟩
        · go_wp2
          go_ret
          exact ⟨rfl, hbw⟩

theorem clk_rises_w (s : Int) (ws : (Lit.int .u64 s).wf = true) (A : Option Addr) (len cap : Nat) (w : World) (ha : Asks w A len) :
    Calls Try.prog 5 #[.int .u64 s, .slice A len cap] w fun e w' => e = .returned (.bool true) ∧ Below w.heap.size w w' := by
  have h1 := bounds_u64 ws
  exact clk_rises s A len cap w (by omega) ha
end Go.Proofs.Ytpgmcmdcdkajjaa
