/-
  The law ClockCopies, walked.
-/
import Derived.Test.YtpgmcmdcdkajjaaMemCopy
import Derived.Test.YtpgmcmdcdkajjaaClkPlays
namespace Go.Proofs.Ytpgmcmdcdkajjaa
open Go.RowKit

theorem Blk.ne_ {w : World} {g g' : Nat} {t t' : TypeId} {cs cs' : Array Value} (h : Blk w g t cs) (h' : Blk w g' t' cs') (hne : t ≠ t') : g ≠ g' := by
  rintro rfl
  unfold Blk at h h'
  rw [h] at h'
  injection h' with h'
  injection h' with _ ht
  exact hne ht

/-- Behind a 'do' a whole memory is whole. -/
theorem full_after {X : MemSh} {w w' : World} {B m gW gL gS : Nat} {n n' : Int} (hc : ClkAt w B n) (hm : MemAt X w m n) (eW : X.W = .slice (some ⟨gW, 0, none⟩) 32 32) (eL : X.L = .slice (some ⟨gL, 0, none⟩) 1 1) (eS : X.S = .slice (some ⟨gS, 0, none⟩) 1 1)
    (hW : RowU w gW 32) (hL : RowL w gL) (hS : RowU w gS 1) (ho : Only (Ob2 B m) w w') (hm' : MemAt X w' m n') : MemFull w' m n' := by
  obtain ⟨cW, bW, sW⟩ := hW
  obtain ⟨cL, bL, sL⟩ := hL
  obtain ⟨cS, bS, sS⟩ := hS
  obtain ⟨k, bM⟩ := hm
  have hc' : Blk w B 63 #[.int .u64 n] := hc
  refine ⟨X, gW, gL, gS, hm', eW, eL, eS, ⟨cW, bW.only ho ?_, sW⟩, ⟨cL, bL.only ho ?_, sL⟩, ⟨cS, bS.only ho ?_, sS⟩⟩
  · rintro (h | h)
    · exact bW.ne_ hc' (by decide) h
    · exact bW.ne_ bM (by decide) h
  · rintro (h | h)
    · exact bL.ne_ hc' (by decide) h
    · exact bL.ne_ bM (by decide) h
  · rintro (h | h)
    · exact bS.ne_ hc' (by decide) h
    · exact bS.ne_ bM (by decide) h

theorem RowU.alloc {w : World} {g n : Nat} (h : RowU w g n) (o : Obj) : RowU (w.alloc o) g n := by
  obtain ⟨cs, hb, h1⟩ := h
  exact ⟨cs, hb.alloc o, h1⟩
theorem RowL.alloc {w : World} {g : Nat} (h : RowL w g) (o : Obj) : RowL (w.alloc o) g := by
  obtain ⟨cs, hb, h1⟩ := h
  exact ⟨cs, hb.alloc o, h1⟩
theorem MemFull.alloc {w : World} {m : Nat} {n : Int} (h : MemFull w m n) (o : Obj) : MemFull (w.alloc o) m n := by
  obtain ⟨X, gW, gL, gS, hat, eW, eL, eS, hW, hL, hS⟩ := h
  exact ⟨X, gW, gL, gS, hat.alloc o, eW, eL, eS, hW.alloc o, hL.alloc o, hS.alloc o⟩

set_option maxHeartbeats 2000000 in
theorem clk_copies (s : Int) (A A2 : Option Addr) (len cap len2 cap2 : Nat) (w : World) (hs0 : 0 ≤ s) (hasks : Asks w A len) (hasks2 : Asks w A2 len2) :
    Calls Try.prog 7 #[.int .u64 s, .slice A len cap, .slice A2 len2 cap2] w fun e w' => e = .returned (.bool true) ∧ Below w.heap.size w w' := by
  have h0 : 0 ≤ min s 4611686018427387903 := by omega
  have h1 : min s 4611686018427387903 < 4611686018427387904 := by omega
  go_enter Try.func7, Try.ntmps7
  go_wp2_with (first
    | (go_at_call 3; refine (clk_runs _).mono ?_; rintro e w1 ⟨rfl, hb1⟩)
    | (go_at_call 13; refine (clk_new _ _ (by omega)).mono ?_; rintro e w2 ⟨rfl, rfl⟩)
    | (go_at_call 17; refine (newmem_any _ _ (by omega)).mono ?_; rintro e w3 ⟨m, rfl, hm, hon, hmf⟩))
  generalize min s 4611686018427387903 = n at *
  simp at hm
  obtain ⟨X, gW, gL, gS, hat, eW, eL, eS, hW, hL, hS⟩ := hmf
  have hc : ClkAt w3 w1.heap.size n := (ClkAt.new w1 n).only hon (fun e => e)
  have hb3 : Below w.heap.size w w3 := (hb1.alloc hb1.size _).trans (hon.new.mono (by simp; have := hb1.size; omega))
  have hA : AsksB w3 w.heap.size A len := (hasks.toB (Below.refl _ _) rfl).below hb3
  have hA2 : AsksB w3 w.heap.size A2 len2 := (hasks2.toB (Below.refl _ _) rfl).below hb3
  have hB := hb1.size
  generalize w1.heap.size = B at *
  have hBm : B ≠ m := by omega
  have hmw : w.heap.size ≤ m := by omega
  have hdo := do_any w.heap.size B m len cap n A w3 hB hmw hBm hc hat h0 h1 hA
  have HF := hide (fun w' n' (ho : Only (Ob2 B m) w3 w') (hm' : MemAt X w' m n') => full_after hc hat eW eL eS hW hL hS ho hm')
  have HA2 := hide hA2
  have HB := hide hb3
  clear hA hA2 hat hb3 hasks hasks2 hb1 hon eW eL eS hW hL hS hc
  refine hdo.mono ?_
  rintro e w4 ⟨n1, rfl, ho4, hc4, hm4, g0, g1⟩
  have hf4 := HF.out w4 n1 ho4 hm4
  clear hdo HF
  have hb4 : Below w.heap.size w w4 := HB.out.trans (ho4.below HB.out.size (fun k hk => by rcases hk with rfl | rfl <;> omega))
  have hB4 := hc4.lt
  have hm4l := hm4.lt
  have hA4 := HA2.out.below (ho4.below HB.out.size (fun k hk => by rcases hk with rfl | rfl <;> omega))
  have HO4 := hide ho4
  have HF4 := hide hf4
  have HM4 := hide hm4
  have HB4 := hide hb4
  have HA4 := hide hA4
  clear ho4 hf4 hm4 hb4 HB HA2 hA4
  go_wp2_with (first
    | (go_at_call 16; refine (clk_copy _ _ _ hc4).mono ?_; rintro e w5 ⟨rfl, rfl⟩)
    | (go_at_call 19; refine (mem_copy m n1 _ ?_).mono ?_; exact HF4.out.alloc _; rintro e w6 ⟨m6, X6, rfl, hm6, ho6, ht6⟩))
  simp at hm6
  have hd6 : ClkAt w6 w4.heap.size n1 := (ClkAt.new w4 n1).only ho6 (fun e => e)
  have hc6 : ClkAt w6 B n1 := (hc4.alloc _).only ho6 (fun e => e)
  have hq6 : MemAt X w6 m n1 := (HM4.out.alloc _).only ho6 (fun e => e)
  have hb46 : Below w4.heap.size w4 w6 := ((Below.refl _ _).alloc (Nat.le_refl _) _).trans (ho6.below (by simp) (fun k hk => hk.elim))
  have hww := HB4.out.size
  have hb6 : Below w.heap.size w w6 := HB4.out.trans (hb46.mono hww)
  have hA6 : AsksB w6 w.heap.size A2 len2 := HA4.out.below (hb46.mono hww)
  have nB1 : B ≠ w4.heap.size := by omega
  have nB2 : B ≠ m6 := by omega
  have nm1 : m ≠ w4.heap.size := by omega
  have nm2 : m ≠ m6 := by omega
  have nn : w4.heap.size ≠ m6 := by omega
  have hdo := hide (do_any w.heap.size w4.heap.size m6 len2 cap2 n1 A2 w6.drew hww (by omega) nn hd6.drew ht6.drew g0 g1 (hA6))
  have HB6 := hide hb6
  have Hc6 := hide hc6
  have Hq6 := hide hq6
  have hD := hb6.size
  clear hb6 hc6 hq6 hd6 ht6 hA6 HA4 hb46 HB4 HM4 HF4 HO4 ho6 hc4
  have hnn : (n1 == n1) = true := by simp
  have hnq : (n1 != n1) = false := by simp
  go_region_with (first
    | (go_at_call 18; refine hdo.out.mono ?_; rintro e w7 ⟨n2, rfl, ho7, hc7, hm7, g2, g3⟩; have c7B := (Hc6.out.drew).only ho7 (fun h => h.elim nB1 nB2); have c7m := ((Hq6.out.drew).only ho7 (fun h => h.elim nm1 nm2)).cells.1; have HO7 := hide ho7; clear ho7 hc7 hm7)
    | (go_at_call 15; refine (clk_load _ _ _ c7B).mono ?_; rintro e w8 ⟨rfl, rfl⟩))
  all_goals
    have hb7 := HB6.out.drew.trans (HO7.out.below (B := w.heap.size) (by simpa using hD) (fun k hk => by rcases hk with rfl | rfl <;> omega))
    go_wp2_with (first
      | (go_at_call 13; refine (clk_new_in _ _ (by omega) (by omega)).mono ?_; rintro e w9 ⟨rfl, rfl⟩)
      | (go_at_call 14; refine (clk_cas_clock _ _ _ _ (by omega) (by omega)).mono ?_; rintro e w10 ⟨rfl, rfl⟩)
      | (go_at_call 15; refine (clk_load _ _ _ (ClkAt.new _ _)).mono ?_; rintro e w11 ⟨rfl, rfl⟩))
    go_ret
    exact ⟨rfl, hb7.alloc hb7.size _⟩

theorem clk_copies_w (s : Int) (ws : (Lit.int .u64 s).wf = true) (A : Option Addr) (len cap : Nat) (A2 : Option Addr) (len2 cap2 : Nat) (w : World) (ha : Asks w A len) (ha2 : Asks w A2 len2) :
    Calls Try.prog 7 #[.int .u64 s, .slice A len cap, .slice A2 len2 cap2] w fun e w' => e = .returned (.bool true) ∧ Below w.heap.size w w' := by
  have h1 := bounds_u64 ws
  exact clk_copies s A A2 len cap len2 cap2 w (by omega) ha ha2
end Go.Proofs.Ytpgmcmdcdkajjaa
