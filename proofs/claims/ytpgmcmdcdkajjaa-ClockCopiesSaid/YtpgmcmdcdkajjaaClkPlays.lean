/-
  The law ClockPlays, walked.
-/
import Derived.Test.YtpgmcmdcdkajjaaMemLaw
namespace Go.Proofs.Ytpgmcmdcdkajjaa
open Go.RowKit

theorem Asks.toB {w w' : World} {A : Option Addr} {len B : Nat} (h : Asks w A len) (hb : Below w.heap.size w w') (hB : B = w.heap.size) : AsksB w' B A len := by
  subst hB
  refine ⟨h.1, fun i hi => ?_⟩
  obtain ⟨b, o, rfl, hlt, ha⟩ := h.at_ hi
  exact ⟨b, o, rfl, hlt, ha.below hb hlt⟩
theorem AsksB.below {w w' : World} {A : Option Addr} {len B : Nat} (h : AsksB w B A len) (hb : Below B w w') : AsksB w' B A len := by
  refine ⟨h.1, fun i hi => ?_⟩
  obtain ⟨b, o, rfl, hlt, ha⟩ := h.2 i hi
  exact ⟨b, o, rfl, hlt, ha.below hb hlt⟩

/-- NewMem at whatever start: its clock is where a new clock is. -/
theorem newmem_any (s : Int) (w : World) (h0 : 0 ≤ s) :
    Calls Try.prog 17 #[.agg #[.int .i64 0, .int .i64 0, .int .i64 0, .int .i64 0, .int .u64 s]] w (NewPost w (min s 4611686018427387903)) := by
  rcases (by omega : s < 4611686018427387904 ∨ 4611686018427387904 ≤ s) with h | h
  · rw [show min s 4611686018427387903 = s by omega]
    exact newmem s s w (fun w => shape_lo s w h)
  · rw [show min s 4611686018427387903 = 4611686018427387903 by omega]
    exact newmem s _ w (fun w => shape_hi s w h)

set_option maxHeartbeats 1000000 in
theorem clk_plays (s : Int) (A : Option Addr) (len cap : Nat) (w : World) (hs0 : 0 ≤ s) (hasks : Asks w A len) :
    Calls Try.prog 4 #[.int .u64 s, .slice A len cap] w fun e w' => e = .returned (.bool true) ∧ Below w.heap.size w w' := by
  have h0 : 0 ≤ min s 4611686018427387903 := by omega
  have h1 : min s 4611686018427387903 < 4611686018427387904 := by omega
  go_enter Try.func4, Try.ntmps4
  go_wp2_with (first
    | (go_at_call 3; refine (clk_runs _).mono ?_; rintro e w1 ⟨rfl, hb1⟩)
    | (go_at_call 13; refine (clk_new _ _ (by omega)).mono ?_; rintro e w2 ⟨rfl, rfl⟩)
    | (go_at_call 17; refine (newmem_any _ _ (by omega)).mono ?_; rintro e w3 ⟨m, rfl, hm, hon, hmf⟩))
  generalize min s 4611686018427387903 = n at *
  simp at hm
  obtain ⟨X, gW, gL, gS, hat, -, -, -, -, -, -⟩ := hmf
  have hc : ClkAt w3 w1.heap.size n := (ClkAt.new w1 n).only hon (fun e => e)
  have hb3 : Below w.heap.size w w3 := (hb1.alloc hb1.size _).trans (hon.new.mono (by simp; have := hb1.size; omega))
  have hA : AsksB w3 w.heap.size A len := (hasks.toB (Below.refl _ _) rfl).below hb3
  have hB := hb1.size
  generalize w1.heap.size = B at *
  have hBm : B ≠ m := by omega
  obtain ⟨d7, -, -, -⟩ := hat.cells
  have hnn : (n == n) = true := by simp
  have HA := hide hA
  have HT := hide hat
  have HB := hide hb3
  clear hA hat hb3 hasks hb1 hon
  go_region_with (first
    | (go_at_call 15; refine (clk_load _ _ _ hc.drew).mono ?_; rintro e w4 ⟨rfl, rfl⟩)
    | (go_at_call 18; refine (do_any w.heap.size B m len cap n A _ hB (by omega) hBm hc.drew HT.out.drew h0 h1 HA.out).mono ?_; rintro e w4 ⟨n', rfl, hon, hc4, hm4, g0, g1⟩))
  all_goals
    go_wp2
    go_ret
    exact ⟨rfl, HB.out.drew.trans (hon.below (by simpa using HB.out.size) (fun k hk => by rcases hk with rfl | rfl <;> omega))⟩

theorem clk_plays_w (s : Int) (ws : (Lit.int .u64 s).wf = true) (A : Option Addr) (len cap : Nat) (w : World) (ha : Asks w A len) :
    Calls Try.prog 4 #[.int .u64 s, .slice A len cap] w fun e w' => e = .returned (.bool true) ∧ Below w.heap.size w w' := by
  have h1 := bounds_u64 ws
  exact clk_plays s A len cap w (by omega) ha
end Go.Proofs.Ytpgmcmdcdkajjaa
