/-
  The clock laws' own 'do', walked: what is asked of the clock and of the reference's memory is answered alike.
-/
import Derived.Test.YtpgmcmdcdkajjaaMemNew
import Derived.Test.YtpgmcmdcdkajjaaOpen
import Derived.Test.YtpgmcmdcdkajjaaClkRises
namespace Go.Proofs.Ytpgmcmdcdkajjaa
open Go.RowKit
variable {X : MemSh}

/-- A slice of asks that lies below block number B. -/
def AsksB (w : World) (B : Nat) (A : Option Addr) (len : Nat) : Prop := len ≤ maxLen ∧ ∀ i, i < len → ∃ b o, A = some ⟨b, o, none⟩ ∧ b < B ∧ AskAt w b (o + i * 4)

/-- What 'do' leaves. -/
def DoPost (X : MemSh) (w : World) (B m : Nat) (e : Ending) (w' : World) : Prop := ∃ n, e = .returned (.bool true) ∧ Only (Ob2 B m) w w' ∧ ClkAt w' B n ∧ MemAt X w' m n ∧ 0 ≤ n ∧ n < 4611686018427387904

theorem ClkAt.only {S : Nat → Prop} {w w' : World} {b : Nat} {n : Int} (h : ClkAt w b n) (ho : Only S w w') (hs : ¬ S b) : ClkAt w' b n := (ho.block b h.lt hs).trans h

set_option maxRecDepth 100000 in
set_option maxHeartbeats 4000000 in
theorem do_any (base B m len cap : Nat) (n0 : Int) (A : Option Addr) (w : World) (hB : base ≤ B) (hm : base ≤ m) (hBm : B ≠ m) (hc : ClkAt w B n0) (hM : MemAt X w m n0) (h0 : 0 ≤ n0) (h1 : n0 < 4611686018427387904) (hasks : AsksB w base A len) :
    Calls Try.prog 18 #[.pointer (some ⟨B, 0, none⟩), .pointer (some ⟨m, 0, none⟩), .slice A len cap] w (DoPost X w B m) := by
  have hml := hasks.1
  unfold maxLen at hml
  have HA := hide hasks.2
  have hmB : m ≠ B := fun e => hBm e.symm
  clear hasks
  go_enter Try.func18, Try.ntmps18
  go_wp2
  go_loopw [7] (fun i wr => ∃ (k : Nat) (n : Int), k ≤ len ∧ k ≤ 60 ∧ 0 ≤ n ∧ n < 4611686018427387904 ∧ i = .int .i64 k ∧ ClkAt wr B n ∧ MemAt X wr m n ∧ Only (Ob2 B m) w wr)
    (fun i _ => 60 - (intOf i).toNat)
  case atStart => exact ⟨0, n0, by omega, by omega, h0, h1, rfl, hc, hM, Only.refl _ _⟩
  case round =>
    obtain ⟨k, n, hk, hk6, hn0, hn1, rfl, hclk, hmem, hon⟩ := hrel
    have hlB := hclk.lt
    have hlm := hmem.lt
    clear hc hM h0 h1
    by_cases hlt : k < len ∧ k < 60
    · obtain ⟨hlt, hl6⟩ := hlt
      obtain ⟨b, o, rfl, hbl, hat⟩ := HA.out k hlt
      have hbB : b ≠ B := by omega
      have hbm : b ≠ m := by omega
      obtain ⟨t, old, now, more, g1, g2, g3, g4, g5, g6, c0, c1, c2, c3⟩ := hat
      have hlb : b < w.heap.size := lt_of_cell c0
      have e0 := (hon.cell (p := ⟨b, o + k * 4, none⟩) hlb (fun h => h.elim hbB hbm)).trans c0
      have e1 := (hon.cell (p := ⟨b, o + k * 4 + 1, none⟩) hlb (fun h => h.elim hbB hbm)).trans c1
      have e2 := (hon.cell (p := ⟨b, o + k * 4 + 2, none⟩) hlb (fun h => h.elim hbB hbm)).trans c2
      have e3 := (hon.cell (p := ⟨b, o + k * 4 + 3, none⟩) hlb (fun h => h.elim hbB hbm)).trans c3
      clear c0 c1 c2 c3 HA
      obtain ⟨d7, -, -, -⟩ := hmem.cells
      have p0 : 0 ≤ more % 5 := by omega
      have p1 : more % 5 < 5 := by omega
      have hnn : (n != n) = false := by simp
      cases t
      · rcases (by omega : old < now ∨ now ≤ old) with ho | ho
        · rcases (by omega : now < 4611686018427387904 ∨ 4611686018427387904 ≤ now) with hM | hM
          · by_cases hq : n = old
            · subst hq
              have hb1 : (now != now) = false := by simp
              go_wp2_with fail
              go_quiet (fail)
              go_wp2_with (first | (go_at_call 14; refine (clk_cas_yes _ _ _ _ ((hclk.alloc _).drewN _) ho hM).mono ?_; rintro e w9 ⟨rfl, rfl⟩) | (go_at_call 35; refine (mem_do_yes _ _ _ _ (((hmem.alloc _).drewN _).far hmB _) ho hM).mono ?_; rintro e w2 ⟨rfl, ho2, hm2⟩; have hc2 : ClkAt w2 B now := (((hclk.alloc _).drewN _).set now).only ho2 hBm; have ho3 : Only (Ob2 B m) w w2 := ((((hon.alloc _).drewN _).setCell (p := ⟨B, 0, none⟩) (.inl (.inl rfl)) _).after ho2 (fun _ e => .inl (.inr e))); obtain ⟨q7, -, -, -⟩ := hm2.cells; have l7 := hm2.lt; have HO := hide ho3; have HM := hide hm2; clear ho2 ho3 hm2))
              go_quiet ((go_at_call 15; exact quiet_left (clk_load _ _ _ ((hc2.alloc _).drewN _))))
              go_wp2
              go_roundw
              case rel => exact ⟨k + 1, now, by omega, by omega, by omega, hM, by go_num, (hc2.alloc _).drewN _, (HM.out.alloc _).drewN _, (HO.out.alloc _).drewN _⟩
              case measure => simp [intOf]; omega
            · go_wp2_with fail
              go_quiet (fail)
              go_wp2_with (first | (go_at_call 14; refine (clk_cas_no _ _ _ _ _ ((hclk.alloc _).drewN _) ho hM hq).mono ?_; rintro e w9 ⟨rfl, rfl⟩) | (go_at_call 35; refine (mem_do_no _ _ _ _ _ ((hmem.alloc _).drewN _) ho hM hq).mono ?_; rintro e w2 ⟨rfl, ho2, hm2⟩; have hc2 : ClkAt w2 B n := ((hclk.alloc _).drewN _).only ho2 hBm; have ho3 : Only (Ob2 B m) w w2 := (((hon.alloc _).drewN _).after ho2 (fun _ e => .inl (.inr e))); obtain ⟨q7, -, -, -⟩ := hm2.cells; have l7 := hm2.lt; have HO := hide ho3; have HM := hide hm2; clear ho2 ho3 hm2))
              go_quiet ((go_at_call 15; exact quiet_left (clk_load _ _ _ ((hc2.alloc _).drewN _))))
              go_wp2
              go_roundw
              case rel => exact ⟨k + 1, n, by omega, by omega, hn0, hn1, by go_num, (hc2.alloc _).drewN _, (HM.out.alloc _).drewN _, (HO.out.alloc _).drewN _⟩
              case measure => simp [intOf]; omega
          · go_wp2_with fail
            go_quiet (fail)
            go_wp2_with (first | (go_at_call 14; refine (clk_cas_clock _ _ _ _ ho hM).mono ?_; rintro e w9 ⟨rfl, rfl⟩) | (go_at_call 35; refine (mem_do_clock _ _ _ _ ho hM).mono ?_; rintro e w2 ⟨rfl, ho2⟩; have hm2 : MemAt X w2 m n := ((hmem.alloc _).drewN _).only ho2 (fun e => e); have hc2 : ClkAt w2 B n := ((hclk.alloc _).drewN _).only ho2 (fun e => e); have ho3 : Only (Ob2 B m) w w2 := (((hon.alloc _).drewN _).after ho2 (fun _ e => e.elim)); obtain ⟨q7, -, -, -⟩ := hm2.cells; have l7 := hm2.lt; have HO := hide ho3; have HM := hide hm2; clear ho2 ho3 hm2))
            go_quiet ((go_at_call 15; exact quiet_left (clk_load _ _ _ ((hc2.alloc _).drewN _))))
            go_wp2
            go_roundw
            case rel => exact ⟨k + 1, n, by omega, by omega, hn0, hn1, by go_num, (hc2.alloc _).drewN _, (HM.out.alloc _).drewN _, (HO.out.alloc _).drewN _⟩
            case measure => simp [intOf]; omega
        · go_wp2_with fail
          go_quiet (fail)
          go_wp2_with (first | (go_at_call 14; refine (clk_cas_arg _ _ _ _ ho).mono ?_; rintro e w9 ⟨rfl, rfl⟩) | (go_at_call 35; refine (mem_do_arg _ _ _ _ ho).mono ?_; rintro e w2 ⟨rfl, ho2⟩; have hm2 : MemAt X w2 m n := ((hmem.alloc _).drewN _).only ho2 (fun e => e); have hc2 : ClkAt w2 B n := ((hclk.alloc _).drewN _).only ho2 (fun e => e); have ho3 : Only (Ob2 B m) w w2 := (((hon.alloc _).drewN _).after ho2 (fun _ e => e.elim)); obtain ⟨q7, -, -, -⟩ := hm2.cells; have l7 := hm2.lt; have HO := hide ho3; have HM := hide hm2; clear ho2 ho3 hm2))
          go_quiet ((go_at_call 15; exact quiet_left (clk_load _ _ _ ((hc2.alloc _).drewN _))))
          go_wp2
          go_roundw
          case rel => exact ⟨k + 1, n, by omega, by omega, hn0, hn1, by go_num, (hc2.alloc _).drewN _, (HM.out.alloc _).drewN _, (HO.out.alloc _).drewN _⟩
          case measure => simp [intOf]; omega
      · rcases (by omega : n < n + more % 5 ∨ n + more % 5 ≤ n) with ho | ho
        · rcases (by omega : n + more % 5 < 4611686018427387904 ∨ 4611686018427387904 ≤ n + more % 5) with hM | hM
          · have hb1 : (n + more % 5 != n + more % 5) = false := by simp
            go_wp2_with fail
            go_quiet (fail)
            go_wp2_with (first | (go_at_call 14; refine (clk_cas_yes _ _ _ _ ((hclk.alloc _).drewN _) ho hM).mono ?_; rintro e w9 ⟨rfl, rfl⟩) | (go_at_call 35; refine (mem_do_yes _ _ _ _ (((hmem.alloc _).drewN _).far hmB _) ho hM).mono ?_; rintro e w2 ⟨rfl, ho2, hm2⟩; have hc2 : ClkAt w2 B (n + more % 5) := (((hclk.alloc _).drewN _).set (n + more % 5)).only ho2 hBm; have ho3 : Only (Ob2 B m) w w2 := ((((hon.alloc _).drewN _).setCell (p := ⟨B, 0, none⟩) (.inl (.inl rfl)) _).after ho2 (fun _ e => .inl (.inr e))); obtain ⟨q7, -, -, -⟩ := hm2.cells; have l7 := hm2.lt; have HO := hide ho3; have HM := hide hm2; clear ho2 ho3 hm2))
            go_quiet ((go_at_call 15; exact quiet_left (clk_load _ _ _ ((hc2.alloc _).drewN _))))
            go_wp2
            go_roundw
            case rel => exact ⟨k + 1, (n + more % 5), by omega, by omega, by omega, hM, by go_num, (hc2.alloc _).drewN _, (HM.out.alloc _).drewN _, (HO.out.alloc _).drewN _⟩
            case measure => simp [intOf]; omega
          · go_wp2_with fail
            go_quiet (fail)
            go_wp2_with (first | (go_at_call 14; refine (clk_cas_clock _ _ _ _ ho hM).mono ?_; rintro e w9 ⟨rfl, rfl⟩) | (go_at_call 35; refine (mem_do_clock _ _ _ _ ho hM).mono ?_; rintro e w2 ⟨rfl, ho2⟩; have hm2 : MemAt X w2 m n := ((hmem.alloc _).drewN _).only ho2 (fun e => e); have hc2 : ClkAt w2 B n := ((hclk.alloc _).drewN _).only ho2 (fun e => e); have ho3 : Only (Ob2 B m) w w2 := (((hon.alloc _).drewN _).after ho2 (fun _ e => e.elim)); obtain ⟨q7, -, -, -⟩ := hm2.cells; have l7 := hm2.lt; have HO := hide ho3; have HM := hide hm2; clear ho2 ho3 hm2))
            go_quiet ((go_at_call 15; exact quiet_left (clk_load _ _ _ ((hc2.alloc _).drewN _))))
            go_wp2
            go_roundw
            case rel => exact ⟨k + 1, n, by omega, by omega, hn0, hn1, by go_num, (hc2.alloc _).drewN _, (HM.out.alloc _).drewN _, (HO.out.alloc _).drewN _⟩
            case measure => simp [intOf]; omega
        · go_wp2_with fail
          go_quiet (fail)
          go_wp2_with (first | (go_at_call 14; refine (clk_cas_arg _ _ _ _ ho).mono ?_; rintro e w9 ⟨rfl, rfl⟩) | (go_at_call 35; refine (mem_do_arg _ _ _ _ ho).mono ?_; rintro e w2 ⟨rfl, ho2⟩; have hm2 : MemAt X w2 m n := ((hmem.alloc _).drewN _).only ho2 (fun e => e); have hc2 : ClkAt w2 B n := ((hclk.alloc _).drewN _).only ho2 (fun e => e); have ho3 : Only (Ob2 B m) w w2 := (((hon.alloc _).drewN _).after ho2 (fun _ e => e.elim)); obtain ⟨q7, -, -, -⟩ := hm2.cells; have l7 := hm2.lt; have HO := hide ho3; have HM := hide hm2; clear ho2 ho3 hm2))
          go_quiet ((go_at_call 15; exact quiet_left (clk_load _ _ _ ((hc2.alloc _).drewN _))))
          go_wp2
          go_roundw
          case rel => exact ⟨k + 1, n, by omega, by omega, hn0, hn1, by go_num, (hc2.alloc _).drewN _, (HM.out.alloc _).drewN _, (HO.out.alloc _).drewN _⟩
          case measure => simp [intOf]; omega
    · rcases (by omega : len ≤ k ∨ 60 ≤ k) with hge | hge
      · go_wp2
        go_ret
        exact ⟨n, rfl, hon, hclk, hmem, hn0, hn1⟩
      · by_cases hlk : k < len
        · go_wp2
          go_ret
          exact ⟨n, rfl, hon, hclk, hmem, hn0, hn1⟩
        · go_wp2
          go_ret
          exact ⟨n, rfl, hon, hclk, hmem, hn0, hn1⟩
end Go.Proofs.Ytpgmcmdcdkajjaa

