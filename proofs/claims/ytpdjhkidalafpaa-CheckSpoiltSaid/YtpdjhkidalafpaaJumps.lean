/-
  The contract of check's jumps: the first one that leaves its part.
-/
import Derived.Test.YtpdjhkidalafpaaRegions
namespace Go.Proofs.Ytpdjhkidalafpaa
open Go.RowKit
set_option linter.unusedVariables false
set_option linter.unusedSimpArgs false

def pair (p : Int × Int) : Value := .tuple #[.int .i64 p.1, .int .i64 p.2]

theorem jumpsP_some {l : List PIns} {k : Nat} (h : firstBad (jumpBad l) l.length 0 = some k) : jumpsP l = ((k : Int), 2) := by unfold jumpsP; rw [h]
theorem jumpsP_none {l : List PIns} (h : firstBad (jumpBad l) l.length 0 = none) : jumpsP l = (0, 0) := by unfold jumpsP; rw [h]

set_option maxHeartbeats 4000000 in
theorem jumps_any_ (B g : Nat) (w : World) (A : Option Addr) (cap : Nat) (l : List PIns) (hp : ProgIn w B A l) (hB : B ≤ w.heap.size) (hn : l.length ≤ 1000) (hc0 : ∀ k, k < l.length → jumpsB (opOf l k) = true → 0 ≤ (l.getD k PIns.none).c)
    (ha : IntBlk w g (regionsP l)) :
    Calls Try.prog 37 #[.agg #[.slice A l.length cap], .slice (some ⟨g, 0, none⟩) l.length l.length] w fun e w' => e = .returned (pair (jumpsP l)) ∧ Only Nob w w' := by
  have HP := hide hp
  have HA := hide ha
  have HC := hide hc0
  have hg : g < w.heap.size := ha.lt
  have HQ : Hid (∀ w', Below (w.heap.size + 1) (w.alloc (.cells #[.slice A l.length cap] 37)) w' → Only Nob w w') := fun w' h1 => Only.trans (Only.alloc (Only.refl _ _) _) (Only.of_new (by simpa using h1))
  clear hp ha hc0
  go_enter Try.func37, Try.ntmps37
  go_wp2
  go_loopw [11] (fun c wr => ∃ k : Nat, k ≤ l.length ∧ c = .int .i64 k ∧ Hid (firstBad (jumpBad l) (l.length - k) k = firstBad (jumpBad l) l.length 0) ∧ Below (w.heap.size + 1) (w.alloc (.cells #[.slice A l.length cap] 37)) wr)
    (fun c _ => l.length - (intOf c).toNat)
  case atStart => exact ⟨0, by omega, rfl, rfl, Below.refl _ _⟩
  case round =>
    obtain ⟨k, hk, rfl, hfb, hbel⟩ := hrel
    have hsz : w.heap.size + 1 ≤ wr.heap.size := by have := hbel.size; simpa using this
    have hp0 : wr.cell? ⟨w.heap.size, 0, none⟩ = some (.slice A l.length cap) := (hbel.cell (p := ⟨w.heap.size, 0, none⟩) (Nat.lt_succ_self _)).trans (cell_one_new _ _ _ 0 _ rfl)
    have hpf : wr.frozen? ⟨w.heap.size, 0, none⟩ = false := (hbel.frozen (p := ⟨w.heap.size, 0, none⟩) (Nat.lt_succ_self _)).trans ((Blk.new w 37 #[.slice A l.length cap]).frozen 0)
    have hwlt : w.heap.size < wr.heap.size := by omega
    by_cases hlt : k < l.length
    · have hpr : ProgIn wr B A l := (HP.out.alloc hB _).keep (hbel.mono (by omega))
      have har : IntBlk wr g (regionsP l) := (HA.out.alloc _).below hbel (by omega)
      obtain ⟨b, o, rfl, hlb, hi⟩ := hpr.at_ hlt
      obtain ⟨i0, i1, i2, i3, i4⟩ := hi
      have hop : (l.getD k PIns.none).op = opOf l k := rfl
      have hblt : b < wr.heap.size := by omega
      have hglt : g < wr.heap.size := by omega
      have hgk := har.cell (regionsP_at hlt)
      have hcc := HC.out k hlt
      have hkI : (k : Int) < (l.length : Int) := by omega
      have hstep := firstBad_step (f := jumpBad l) hlt
      have HB := hide hbel
      have hjb : jumpBad l k = (jumpsB (opOf l k) && (decide ((l.length : Int) < (l.getD k PIns.none).c) || (decide ((l.getD k PIns.none).c = l.length) && (regAt l k != -1)) ||
        (decide ((l.getD k PIns.none).c < l.length) && (regAt l (l.getD k PIns.none).c.toNat != regAt l k)))) := rfl
      rw [hop] at i0
      clear hop hbel hpr
      generalize (l.getD k PIns.none).a = xa at *
      generalize (l.getD k PIns.none).b = xb at *
      generalize (l.getD k PIns.none).c = xc at *
      generalize (l.getD k PIns.none).n = xn at *
      generalize opOf l k = op at *
      cases hj : jumpsB op
      · have hnb : jumpBad l k = false := by rw [hjb, hj]; rfl
        have HN : Hid (firstBad (jumpBad l) (l.length - (k + 1)) (k + 1) = firstBad (jumpBad l) l.length 0) := by
          have := hfb.out
          rw [hstep, hnb] at this
          exact this
        clear hjb hnb hstep hcc har hfb
        go_wp2_with (go_at_call 17; refine (jumps_any _ _).mono ?_; rintro e w1 ⟨rfl, rfl⟩)
        go_roundw
        case rel => exact ⟨k + 1, by omega, by go_num, HN, HB.out.alloc hsz _⟩
        case measure => simp [intOf]; omega
      · obtain ⟨c, rfl⟩ := Int.eq_ofNat_of_zero_le (hcc hj)
        clear hcc
        rcases (by omega : l.length < c ∨ c = l.length ∨ c < l.length) with h1 | h1 | h1
        · have hnb : jumpBad l k = true := by rw [hjb, hj]; simp; omega
          have HZ : Hid (jumpsP l = ((k : Int), 2)) := jumpsP_some (by have := hfb.out; rw [hstep, hnb] at this; exact this.symm)
          clear hjb hnb hstep hfb
          have d1 : decide ((l.length : Int) < (c : Int)) = true := by simp; omega
          go_wp2_with (go_at_call 17; refine (jumps_any _ _).mono ?_; rintro e w1 ⟨rfl, rfl⟩)
          go_quiet (fail)
          go_wp2
          go_ret2
          exact ⟨by rw [HZ.out]; rfl, HQ.out _ (below_drewN (HB.out.alloc hsz _) _)⟩
        · cases h2 : (regAt l k != -1)
          · have hnb : jumpBad l k = false := by rw [hjb, hj]; rw [h2]; simp; omega
            have HN : Hid (firstBad (jumpBad l) (l.length - (k + 1)) (k + 1) = firstBad (jumpBad l) l.length 0) := by
              have := hfb.out
              rw [hstep, hnb] at this
              exact this
            clear hjb hnb hstep hfb
            have d1 : decide ((l.length : Int) < (c : Int)) = false := by simp; omega
            have d2 : ((c : Int) == (l.length : Int)) = true := by simp; omega
            have d4 : decide ((c : Int) < (l.length : Int)) = false := by simp; omega
            go_wp2_with (go_at_call 17; refine (jumps_any _ _).mono ?_; rintro e w1 ⟨rfl, rfl⟩)
            go_quiet (fail)
            go_wp2
            go_roundw
            case rel => exact ⟨k + 1, by omega, by go_num, HN, below_drewN (HB.out.alloc hsz _) _⟩
            case measure => simp [intOf]; omega
          · have hnb : jumpBad l k = true := by rw [hjb, hj]; rw [h2]; simp; omega
            have HZ : Hid (jumpsP l = ((k : Int), 2)) := jumpsP_some (by have := hfb.out; rw [hstep, hnb] at this; exact this.symm)
            clear hjb hnb hstep hfb
            have d1 : decide ((l.length : Int) < (c : Int)) = false := by simp; omega
            have d2 : ((c : Int) == (l.length : Int)) = true := by simp; omega
            have d4 : decide ((c : Int) < (l.length : Int)) = false := by simp; omega
            go_wp2_with (go_at_call 17; refine (jumps_any _ _).mono ?_; rintro e w1 ⟨rfl, rfl⟩)
            go_quiet (fail)
            go_wp2
            go_ret2
            exact ⟨by rw [HZ.out]; rfl, HQ.out _ (below_drewN (HB.out.alloc hsz _) _)⟩
        · cases h2 : (regAt l (c : Int).toNat != regAt l k)
          · have hnb : jumpBad l k = false := by rw [hjb, hj]; rw [h2]; simp; omega
            have HN : Hid (firstBad (jumpBad l) (l.length - (k + 1)) (k + 1) = firstBad (jumpBad l) l.length 0) := by
              have := hfb.out
              rw [hstep, hnb] at this
              exact this
            clear hjb hnb hstep hfb
            have d1 : decide ((l.length : Int) < (c : Int)) = false := by simp; omega
            have d2 : ((c : Int) == (l.length : Int)) = false := by simp; omega
            have d4 : decide ((c : Int) < (l.length : Int)) = true := by simp; omega
            have e1 : decide (l.length < c) = false := by simp; omega
            have e2 : (c == l.length) = false := by simp; omega
            have e3 : ¬ (l.length < c) := by omega
            have e4 : decide (c < l.length) = true := by simp; omega
            have hcI : (c : Int) < (l.length : Int) := by omega
            have hgc := har.cell (regionsP_at h1)
            rw [Int.toNat_natCast] at h2
            go_wp2_with (go_at_call 17; refine (jumps_any _ _).mono ?_; rintro e w1 ⟨rfl, rfl⟩)
            go_quiet (fail)
            go_wp2
            go_roundw
            case rel => exact ⟨k + 1, by omega, by go_num, HN, below_drewN (HB.out.alloc hsz _) _⟩
            case measure => simp [intOf]; omega
          · have hnb : jumpBad l k = true := by rw [hjb, hj]; rw [h2]; simp; omega
            have HZ : Hid (jumpsP l = ((k : Int), 2)) := jumpsP_some (by have := hfb.out; rw [hstep, hnb] at this; exact this.symm)
            clear hjb hnb hstep hfb
            have d1 : decide ((l.length : Int) < (c : Int)) = false := by simp; omega
            have d2 : ((c : Int) == (l.length : Int)) = false := by simp; omega
            have d4 : decide ((c : Int) < (l.length : Int)) = true := by simp; omega
            have e1 : decide (l.length < c) = false := by simp; omega
            have e2 : (c == l.length) = false := by simp; omega
            have e3 : ¬ (l.length < c) := by omega
            have e4 : decide (c < l.length) = true := by simp; omega
            have hcI : (c : Int) < (l.length : Int) := by omega
            have hgc := har.cell (regionsP_at h1)
            rw [Int.toNat_natCast] at h2
            go_wp2_with (go_at_call 17; refine (jumps_any _ _).mono ?_; rintro e w1 ⟨rfl, rfl⟩)
            go_quiet (fail)
            go_wp2
            go_ret2
            exact ⟨by rw [HZ.out]; rfl, HQ.out _ (below_drewN (HB.out.alloc hsz _) _)⟩
    · obtain rfl : k = l.length := by omega
      have hz : firstBad (jumpBad l) l.length 0 = none := by
        rw [← hfb.out, Nat.sub_self]
        rfl
      have HZ := hide (jumpsP_none hz)
      have HB := hide hbel
      clear hfb hz hbel
      go_wp2
      go_ret2
      exact ⟨by rw [HZ.out]; rfl, HQ.out _ HB.out⟩
end Go.Proofs.Ytpdjhkidalafpaa
