/-
  The contract of check.Run: may a program run? Else where it is wrong, and why.
-/
import Derived.Test.YtpdjhkidalafpaaJumps
namespace Go.Proofs.Ytpdjhkidalafpaa
open Go.RowKit
set_option linter.unusedVariables false
set_option linter.unusedSimpArgs false

theorem runP_size {l : List PIns} (h : sizeBad l = true) : runP l = (0, 4) := by unfold runP; rw [if_pos h]
theorem runP_bad {l : List PIns} {k : Nat} (h : sizeBad l = false) (h2 : firstBad (badB l) l.length 0 = some k) : runP l = ((k : Int), errAt l k) := by
  unfold runP
  rw [if_neg (by simp [h]), h2]
theorem runP_open {l : List PIns} {t : Int} {r : List Int} (h : sizeBad l = false) (h2 : firstBad (badB l) l.length 0 = none) (h3 : stk l l.length = t :: r) : runP l = (t, 12) := by
  unfold runP
  rw [if_neg (by simp [h]), h2]
  simp only
  rw [h3]
theorem runP_jumps {l : List PIns} (h : sizeBad l = false) (h2 : firstBad (badB l) l.length 0 = none) (h3 : stk l l.length = []) : runP l = jumpsP l := by
  unfold runP
  rw [if_neg (by simp [h]), h2]
  simp only
  rw [h3]
theorem fine_of_none {l : List PIns} (h : firstBad (badB l) l.length 0 = none) : fine l l.length := by
  intro j hj
  have := firstBad_none h j (by omega) (by omega)
  simpa [badB] using this
theorem may_c0 {x : PIns} (h : mayP x = true) : 0 ≤ x.c := by
  unfold mayP mayB at h
  simp only [Bool.and_eq_true] at h
  have := h.1.2
  simp [fitsB] at this
  omega
theorem fine_c0 {l : List PIns} (h : fine l l.length) : ∀ k, k < l.length → jumpsB (opOf l k) = true → 0 ≤ (l.getD k PIns.none).c := fun k hk _ => may_c0 (err_zero (h k hk)).1

def RunPost (w : World) (l : List PIns) (e : Ending) (w' : World) : Prop := e = .returned (pair (runP l)) ∧ Only Nob w w'

set_option maxHeartbeats 1000000 in
theorem run_small (w : World) (A : Option Addr) (cap : Nat) (l : List PIns) (h : sizeBad l = true) (hn : l.length ≤ 1000) :
    Calls Try.prog 20 #[.agg #[.slice A l.length cap]] w (RunPost w l) := by
  have HQ : Hid (∀ w', Only Nob w w' → RunPost w l (.returned (pair (0, 4))) w') := fun w' h1 => ⟨by rw [runP_size h], h1⟩
  have h2 : l.length = 0 ∨ 40 < l.length := by simpa [sizeBad] using h
  clear h
  generalize l.length = n at *
  rcases h2 with h2 | h2
  · subst h2
    go_enter Try.func20, Try.ntmps20
    go_wp2
    go_ret2
    exact HQ.out _ (Only.alloc (Only.refl _ _) _)
  · have d1 : ((n : Int) == 0) = false := by simp; omega
    have d3 : (n == 0) = false := by simp; omega
    have d2 : decide ((40 : Int) < n) = true := by simp; omega
    go_enter Try.func20, Try.ntmps20
    go_wp2
    go_ret2
    exact HQ.out _ (Only.alloc (Only.refl _ _) _)

theorem jumps_tup (B g : Nat) (w : World) (A : Option Addr) (cap : Nat) (l : List PIns) (hp : ProgIn w B A l) (hB : B ≤ w.heap.size) (hn : l.length ≤ 1000) (hc0 : ∀ k, k < l.length → jumpsB (opOf l k) = true → 0 ≤ (l.getD k PIns.none).c)
    (ha : IntBlk w g (regionsP l)) :
    Calls Try.prog 37 #[.agg #[.slice A l.length cap], .slice (some ⟨g, 0, none⟩) l.length l.length] w fun e w' => e = .returned (.tuple #[.int .i64 (jumpsP l).1, .int .i64 (jumpsP l).2]) ∧ Only Nob w w' :=
  jumps_any_ B g w A cap l hp hB hn hc0 ha

set_option maxHeartbeats 4000000 in
theorem run_big (B : Nat) (w : World) (A : Option Addr) (cap : Nat) (l : List PIns) (hp : ProgIn w B A l) (hB : B ≤ w.heap.size) (hs : sizeBad l = false) :
    Calls Try.prog 20 #[.agg #[.slice A l.length cap]] w (RunPost w l) := by
  have h2 : l.length ≠ 0 ∧ l.length ≤ 40 := by
    have : ¬ (l.length = 0 ∨ 40 < l.length) := by
      intro h
      have : sizeBad l = true := by simpa [sizeBad] using h
      rw [this] at hs
      cases hs
    omega
  obtain ⟨hn0, hn⟩ := h2
  have d1 : ((l.length : Int) == 0) = false := by rw [beq_eq_false_iff_ne]; omega
  have d3 : (l.length == 0) = false := by rw [beq_eq_false_iff_ne]; omega
  have d2 : decide ((40 : Int) < l.length) = false := by simp; omega
  have d4 : decide (40 < l.length) = false := by simp; omega
  have HP := hide hp
  have HSB := hide hs
  have HQ : Hid (∀ w', Below (w.heap.size + 1) (w.alloc (.cells #[.slice A l.length cap] 37)) w' → Only Nob w w') := fun w' h1 => Only.trans (Only.alloc (Only.refl _ _) _) (Only.of_new (by simpa using h1))
  clear hp hs
  go_enter Try.func20, Try.ntmps20
  go_wp2
  go_loopw [4, 21] (fun v c wr => ∃ k : Nat, k ≤ l.length ∧ c = .int .i64 k ∧ Hid (fine l k) ∧ Hid (firstBad (badB l) (l.length - k) k = firstBad (badB l) l.length 0) ∧ Stack wr (w.heap.size + 1) v (stk l k) ∧
      Below (w.heap.size + 1) (w.alloc (.cells #[.slice A l.length cap] 37)) wr)
    (fun _ c _ => l.length - (intOf c).toNat)
  case atStart => exact ⟨0, by omega, rfl, (fun j hj => absurd hj (by omega)), rfl, Stack.nil _ _, Below.refl _ _⟩
  case round =>
    obtain ⟨k, hk, rfl, hfine, hfb, hst, hbel⟩ := hrel
    have hsz : w.heap.size + 1 ≤ wr.heap.size := by have := hbel.size; simpa using this
    have hp0 : wr.cell? ⟨w.heap.size, 0, none⟩ = some (.slice A l.length cap) := (hbel.cell (p := ⟨w.heap.size, 0, none⟩) (Nat.lt_succ_self _)).trans (cell_one_new _ _ _ 0 _ rfl)
    have hpf : wr.frozen? ⟨w.heap.size, 0, none⟩ = false := (hbel.frozen (p := ⟨w.heap.size, 0, none⟩) (Nat.lt_succ_self _)).trans ((Blk.new w 37 #[.slice A l.length cap]).frozen 0)
    have hwlt : w.heap.size < wr.heap.size := by omega
    have KP := hide ((Blk.new w 37 #[.slice A l.length cap]).below hbel (Nat.lt_succ_self _))
    have hpr : ProgIn wr B A l := (HP.out.alloc hB _).keep (hbel.mono (by omega))
    have hl5 : (stk l k).length ≤ 5 := stk_len hfine.out
    have HPR := hide hpr
    have HS := hide hst
    have HB := hide hbel
    clear hst hbel
    by_cases hlt : k < l.length
    · obtain ⟨b, o, rfl, hlb, hi⟩ := hpr.at_ hlt
      have hstep := hide (firstBad_step (f := badB l) hlt)
      have hop : (l.getD k PIns.none).op = opOf l k := rfl
      have herr : errAt l k = wrongP l (stk l k) (l.getD k PIns.none) := rfl
      have hlts : ∀ t ∈ stk l k, 0 ≤ t ∧ t < (l.length : Int) := fun t ht => by have := stk_lt l k t ht; omega
      have HLT := hide hlts
      generalize l.getD k PIns.none = x at *
      obtain ⟨i0, i1, i2, i3, i4⟩ := hi
      have HE := hide herr
      have HO := hide hop
      have hblt : b < wr.heap.size := by omega
      have hkI : (k : Int) < (l.length : Int) := by omega
      have H5 := hide hl5
      clear herr hop hlts hpr hl5
      by_cases hw0 : wrongP l (stk l k) x = 0
      · have hnb : badB l k = false := by simp [badB, HE.out, hw0]
        have HN : Hid (firstBad (badB l) (l.length - (k + 1)) (k + 1) = firstBad (badB l) l.length 0) := by
          have := hfb.out
          rw [hstep.out, hnb] at this
          exact this
        have HF : Hid (fine l (k + 1)) := fun j hj => by
          rcases Nat.lt_or_ge j k with h1 | h1
          · exact hfine.out j h1
          · obtain rfl : j = k := by omega
            rw [HE.out]
            exact hw0
        have HNE : Hid (0 < endsI x.op → stk l k ≠ []) := fun h => err_open hw0 (Or.inl h)
        clear hnb
        go_wp2_with (first
          | (go_at_call 34; refine (wrong_any (w.heap.size + 1) B _ (stk l k) x _ _ cap l (HS.out.alloc _) (Nat.lt_of_le_of_lt H5.out (by decide)) (HPR.out.alloc (by omega) _) (by simp; omega) (by omega) HLT.out).mono ?_; rintro e w2 ⟨rfl, ho2⟩; have kx := (Blk.new wr 28 #[.int .i64 x.op, .int .i64 x.a, .int .i64 x.b, .int .i64 x.c, .int .u64 x.n]).only ho2 (fun h => h); have kx0 := kx.five.1; have kxf := kx.frozen; have hs2 : wr.heap.size < w2.heap.size := Nat.lt_of_lt_of_le (by simp) ho2.size)
          | (go_at_call 35; refine (behind_any (w.heap.size + 1) _ (stk l k) _ _ _ ((HS.out.alloc _).only ho2) (Nat.lt_of_le_of_lt H5.out (by decide)) (by omega) HNE.out).mono ?_; rintro e w3 ⟨v', rfl, hst3, hb3⟩))
        go_roundw
        case rel =>
          refine ⟨k + 1, by omega, by go_num, HF, HN, ?_, ?_⟩
          · rw [stk_succ, ← HO.out]
            exact hst3
          · exact (HB.out.alloc hsz _).trans ((below_nob ho2 (by simp; omega)).trans hb3)
        case measure => simp [intOf]; omega
      · have hnb : badB l k = true := by simp [badB, HE.out, hw0]
        have hz : firstBad (badB l) l.length 0 = some k := by
          have := hfb.out
          rw [hstep.out, hnb] at this
          exact this.symm
        have HZ := hide (runP_bad HSB.out hz)
        have hw1 : (wrongP l (stk l k) x != 0) = true := by simpa using hw0
        have HR : Hid (∀ w', Only Nob w w' → RunPost w l (.returned (.tuple #[.int .i64 k, .int .i64 (wrongP l (stk l k) x)])) w') := fun w' h1 => ⟨by rw [HZ.out, HE.out]; rfl, h1⟩
        clear hw0 hnb hz
        go_wp2_with (go_at_call 34; refine (wrong_any (w.heap.size + 1) B _ (stk l k) x _ _ cap l (HS.out.alloc _) (Nat.lt_of_le_of_lt H5.out (by decide)) (HPR.out.alloc (by omega) _) (by simp; omega) (by omega) HLT.out).mono ?_; rintro e w2 ⟨rfl, ho2⟩)
        go_ret2
        exact HR.out _ (HQ.out _ ((HB.out.alloc hsz _).trans (below_nob ho2 (by simp; omega))))
    · obtain rfl : k = l.length := by omega
      have hz : firstBad (badB l) l.length 0 = none := by
        rw [← hfb.out, Nat.sub_self]
        rfl
      have HF := hfine
      have HBW : Hid (B ≤ wr.drew.heap.size) := by show B ≤ wr.heap.size; omega
      have hn1000 : l.length ≤ 1000 := by omega
      cases hk : stk l l.length with
      | nil =>
        have HZ := hide (runP_jumps HSB.out hz hk)
        have hsn : Stack wr (w.heap.size + 1) u4 [] := by rw [← hk]; exact HS.out
        clear hpr HS hl5 hk hfb
        rcases hsn.form with ⟨_, hv⟩ | ⟨gq, capq, hv, _, _, _, _⟩
        all_goals
          subst hv
          clear hsn
          try simp only [List.length_nil]
          go_wp2_with fail
          go_region_with (first
            | (go_at_call 38; refine (regions_any B _ _ cap l HPR.out.drew (by simp; omega) (by omega) HF.out).mono ?_; rintro e w2 ⟨g, rfl, hg, hib, ho2⟩; have k2 := KP.out.drew.only ho2 (fun h => h); have k20 := k2.one; have k2f := k2.frozen)
            | (go_at_call 37; refine (jumps_tup B g _ _ cap l (HPR.out.drew.keep (below_nob ho2 HBW.out)) (Nat.le_trans HBW.out ho2.size) hn1000 (fine_c0 HF.out) hib).mono ?_; rintro e w3 ⟨rfl, ho3⟩))
          all_goals
            go_wp2
            go_ret2
            exact ⟨by rw [HZ.out]; rfl, Only.trans (Only.trans (Only.drew (HQ.out _ HB.out)) ho2) ho3⟩
      | cons t r =>
        have HZ := hide (runP_open HSB.out hz hk)
        have hst : Stack wr (w.heap.size + 1) u4 (t :: r) := by rw [← hk]; exact HS.out
        rcases hst.form with ⟨h0, _⟩ | ⟨gq, capq, hv, _, _, _, _⟩
        · cases h0
        · subst hv
          rw [hk] at hl5
          have hrl : r.length < 5 := by simp at hl5; omega
          have HST := hide hst
          clear hst hpr HS hl5 hk hfb
          simp only [List.length_cons] at HST ⊢
          generalize hlen : r.length = m at *
          have hlen' := hide hlen
          clear hlen
          go_wp2_with (go_at_call 36; refine (inmost_cons (w.heap.size + 1) _ t r _ HST.out (by simp [hlen'.out]; omega)).mono ?_; rintro e w2 ⟨rfl, rfl⟩)
          go_ret2
          exact ⟨by rw [HZ.out]; rfl, HQ.out _ HB.out⟩

theorem run_any (B : Nat) (w : World) (A : Option Addr) (cap : Nat) (l : List PIns) (hp : ProgIn w B A l) (hB : B ≤ w.heap.size) (hn : l.length ≤ 1000) :
    Calls Try.prog 20 #[.agg #[.slice A l.length cap]] w fun e w' => e = .returned (.tuple #[.int .i64 (runP l).1, .int .i64 (runP l).2]) ∧ Only Nob w w' := by
  cases hs : sizeBad l
  · exact run_big B w A cap l hp hB hs
  · exact run_small w A cap l hs hn
end Go.Proofs.Ytpdjhkidalafpaa
