/-
  The contract of check's regions.
-/
import Derived.Test.YtpdjhkidalafpaaInts
namespace Go.Proofs.Ytpdjhkidalafpaa
open Go.RowKit
set_option linter.unusedVariables false
set_option linter.unusedSimpArgs false

def RegionsPost (w : World) (l : List PIns) (e : Ending) (w' : World) : Prop :=
  ∃ g, e = .returned (.slice (some ⟨g, 0, none⟩) l.length l.length) ∧ w.heap.size ≤ g ∧ IntBlk w' g (regionsP l) ∧ Only Nob w w'

theorem stk_succ (l : List PIns) (k : Nat) : stk l (k + 1) = behindP (stk l k) k (opOf l k) := rfl

/-- What a round of 'regions' leaves. -/
theorem regions_step {l : List PIns} {k G base : Nat} {w0 wr w1 w2 : World} {o : Obj} (hb0 : Below (G) w0 wr) (hG : G < base) (hsz : base ≤ wr.heap.size)
    (hi : IntBlk wr G (regs l k)) (hw1 : w1 = (wr.setCell ⟨G, k, none⟩ (.int .i64 (topP (stk l k)))).alloc o) (hb : Below base w1 w2) :
    IntBlk w2 G (regs l (k + 1)) ∧ Below G w0 w2 ∧ base ≤ w2.heap.size := by
  have h1 : Below G wr w1 := by
    subst hw1
    exact ((Below.refl _ _).setCell (p := ⟨G, k, none⟩) (show G ≤ G from Nat.le_refl _) _).alloc (by simp [World.setCell]; omega) o
  have hs1 : base ≤ w1.heap.size := by subst hw1; simp [World.setCell]; omega
  refine ⟨?_, hb0.trans (h1.trans (hb.mono (by omega))), Nat.le_trans hs1 hb.size⟩
  have h2 : IntBlk w1 G (regs l (k + 1)) := by
    subst hw1
    rw [← regs_step]
    exact (hi.set_ k _).alloc o
  exact h2.below hb hG

set_option maxHeartbeats 2000000 in
theorem regions_any (B : Nat) (w : World) (A : Option Addr) (cap : Nat) (l : List PIns) (hp : ProgIn w B A l) (hB : B ≤ w.heap.size) (hn : l.length ≤ 1000) (hf : fine l l.length) :
    Calls Try.prog 38 #[.agg #[.slice A l.length cap]] w (RegionsPost w l) := by
  have hmk := fun w => run_make_row' (P := Try.prog) 41 3 (.int .i64 0) 8 Try.underlying41 infoInt rfl .i64 .i64 l.length (by omega) (by omega) w
  have HP := hide hp
  have HF := hide hf
  have HQ : Hid (∀ w', IntBlk w' (w.heap.size + 1) (regionsP l) → Below (w.heap.size + 1) (w.alloc (.cells #[.slice A l.length cap] 37)) w' → RegionsPost w l (.returned (.slice (some ⟨w.heap.size + 1, 0, none⟩) l.length l.length)) w') := by
    intro w' h1 h2
    refine ⟨_, rfl, by omega, h1, ?_⟩
    exact Only.trans (Only.alloc (Only.refl _ _) _) (Only.of_new (by simpa using h2))
  have h0 : IntBlk ((w.alloc (.cells #[.slice A l.length cap] 37)).alloc (.cells (madeCells #[.int .i64 0] l.length) 3)) (w.heap.size + 1) (regs l 0) := by
    rw [regs_zero]
    simpa using IntBlk.made (w.alloc (.cells #[.slice A l.length cap] 37)) l.length
  have H0 := hide h0
  clear hp hf h0
  go_enter Try.func38, Try.ntmps38
  go_wp2
  go_loopw [4, 14] (fun v c wr => ∃ k : Nat, k ≤ l.length ∧ c = .int .i64 k ∧ Stack wr (w.heap.size + 2) v (stk l k) ∧ IntBlk wr (w.heap.size + 1) (regs l k) ∧ Below (w.heap.size + 1) (w.alloc (.cells #[.slice A l.length cap] 37)) wr ∧ w.heap.size + 2 ≤ wr.heap.size)
    (fun _ c _ => l.length - (intOf c).toNat)
  case atStart => exact ⟨0, by omega, rfl, Stack.nil _ _, H0.out, Below.alloc (Below.refl _ _) (by simp) _, by simp⟩
  case round =>
    obtain ⟨k, hk, rfl, hst, hib, hbel, hsz⟩ := hrel
    by_cases hlt : k < l.length
    · have hpr : ProgIn wr B A l := (HP.out.alloc hB _).keep (hbel.mono (by omega))
      obtain ⟨b, o, rfl, hlb, hi⟩ := hpr.at_ hlt
      obtain ⟨i0, i1, i2, i3, i4⟩ := hi
      have hop : (l.getD k PIns.none).op = opOf l k := rfl
      have hblt : b < wr.heap.size := by omega
      have hbne : b ≠ wr.heap.size := by omega
      have hGlt : w.heap.size + 1 < wr.heap.size := by omega
      have hGne : w.heap.size + 1 ≠ wr.heap.size := by omega
      have hc := hib.cellD 0 (k := k) (by rw [regs_len]; exact hlt)
      have hcf := hib.frozen k
      have HS := hide hst
      have HI := hide hib
      have HB := hide hbel
      have hl5 : (stk l k).length ≤ 5 := stk_len (fun j hj => HF.out j (by omega))
      have hne : 0 < endsI (opOf l k) → stk l k ≠ [] := fun h => err_open (HF.out k hlt) (Or.inl h)
      have HNE := hide hne
      clear hst hib hbel hne hpr
      have hkI : (k : Int) < (l.length : Int) := by omega
      rw [hop] at i0
      clear hop
      generalize (l.getD k PIns.none).a = xa at *
      generalize (l.getD k PIns.none).b = xb at *
      generalize (l.getD k PIns.none).c = xc at *
      generalize (l.getD k PIns.none).n = xn at *
      generalize (regs l k).getD k 0 = old at *
      go_wp2_with (first
        | (go_at_call 36; refine (inmost_any (w.heap.size + 2) _ (stk l k) _ (HS.out.alloc _) (by omega)).mono ?_; rintro e w1 ⟨rfl, rfl⟩)
        | (go_at_call 35; refine (behind_any (w.heap.size + 2) _ (stk l k) _ _ _ ((HS.out.far (p := ⟨w.heap.size + 1, k, none⟩) (Nat.lt_succ_self _) _).alloc _) (by omega) (by simp [World.setCell]; omega) HNE.out).mono ?_; rintro e w2 ⟨v', rfl, hst2, hb2⟩))
      go_roundw
      case rel =>
        obtain ⟨q1, q2, q3⟩ := regions_step HB.out (by omega) hsz HI.out rfl hb2
        exact ⟨k + 1, by omega, by go_num, hst2, q1, q2, q3⟩
      case measure => simp [intOf]; omega
    · obtain rfl : k = l.length := by omega
      have HI := hide hib
      have HB := hide hbel
      clear hst hib hbel
      go_wp2
      go_ret
      exact HQ.out _ (by rw [← regs_full]; exact HI.out) HB.out
end Go.Proofs.Ytpdjhkidalafpaa
