/-
  The contract of the reference's Check.
-/
import Derived.Test.YtpdjhkidalafpaaPStack
import Derived.Deep.CutRange
import Derived.Deep.DeepCutAuto
import Derived.Outline
namespace Go.Proofs.Ytpdjhkidalafpaa
open Go.RowKit
set_option linter.unusedVariables false
set_option linter.unusedSimpArgs false

def RCheckPost (w : World) (l : List PIns) (e : Ending) (w' : World) : Prop :=
  ∃ v1 v2, e = .returned (.tuple #[.int .i64 (runP l).1, .int .i64 (runP l).2, v1, v2]) ∧ IntsOut w' v1 (regionP l) ∧ IntsOut w' v2 (matchP l) ∧ Only Nob w w'
theorem rpost_bad {w w' : World} {l : List PIns} {a b : Int} (h : runP l = (a, b)) (hb : b ≠ 0) (ho : Only Nob w w') : RCheckPost w l (.returned (.tuple #[.int .i64 a, .int .i64 b, .slice none 0 0, .slice none 0 0])) w' := by
  have hk : okP l = false := by simp [okP, h, hb]
  exact ⟨_, _, by rw [h], .inl ⟨by simp [regionP, hk], rfl⟩, .inl ⟨by simp [matchP, hk], rfl⟩, ho⟩
theorem rpost_ok {w w' : World} {l : List PIns} {R M : Nat} (h : runP l = (0, 0)) (hR : IntBlk w' R (regionsP l)) (hM : IntBlk w' M (endB l l.length)) (ho : Only Nob w w') :
    RCheckPost w l (.returned (.tuple #[.int .i64 0, .int .i64 0, .slice (some ⟨R, 0, none⟩) l.length l.length, .slice (some ⟨M, 0, none⟩) l.length l.length])) w' := by
  have hk : okP l = true := by simp [okP, h]
  have e1 : regionP l = regionsP l := by simp [regionP, hk]
  have e2 : matchP l = endB l l.length := by simp [matchP, hk]
  exact ⟨_, _, by rw [h], by rw [e1]; exact IntsOut.of_blk hR (by rw [regionsP_len]), by rw [e2]; exact IntsOut.of_blk hM (by rw [endB_len]), ho⟩

theorem Blk.two {w : World} {g : Nat} {t : TypeId} {v0 v1 : Value} (h : Blk w g t #[v0, v1]) : w.cell? ⟨g, 0, none⟩ = some v0 ∧ w.cell? ⟨g, 1, none⟩ = some v1 := ⟨h.cell 0, h.cell 1⟩

/-- What holds behind the round's first part: the region and the end are written, the instruction has been asked. -/
theorem after_may {w0 wr w2 : World} {B R M P k base b off : Nat} {l : List PIns} {st : List Int} {v pv0 : Value} {at_ q : Int} {x : PIns}
    (ho2 : Only Nob (((wr.setCell ⟨R, k, none⟩ (.int .i64 at_)).setCell ⟨M, k, none⟩ (.int .i64 (-1))).alloc (.cells #[.int .i64 at_, .int .i64 q] 84)) w2)
    (hR : IntBlk wr R (regs l k)) (hM : IntBlk wr M (matR l k)) (hst : PStack wr base v l st) (hp : Blk w0 P 37 #[pv0]) (hb : Below (P + 1) w0 wr) (hi : InsAt wr b off x)
    (hat : regAt l k = at_) (hRM : R ≠ M) (hPR : P < R) (hPM : P < M) (hRb : R < base) (hMb : M < base) (hsz : base ≤ wr.heap.size) (hbB : b < B) (hBP : B ≤ P) :
    IntBlk w2 R (regs l (k + 1)) ∧ IntBlk w2 M ((matR l k).set k (-1)) ∧ Blk w2 wr.heap.size 84 #[.int .i64 at_, .int .i64 q] ∧ Blk w2 P 37 #[pv0] ∧ Below (P + 1) w0 w2 ∧ wr.heap.size < w2.heap.size ∧
      PStack w2 base v l st ∧ InsAt w2 b off x := by
  have hs1 : wr.heap.size + 1 ≤ w2.heap.size := by have := ho2.size; simpa [World.setCell] using this
  have hb1 : Below (P + 1) wr (((wr.setCell ⟨R, k, none⟩ (.int .i64 at_)).setCell ⟨M, k, none⟩ (.int .i64 (-1))).alloc (.cells #[.int .i64 at_, .int .i64 q] 84)) :=
    (((Below.refl _ _).setCell (p := ⟨R, k, none⟩) (show P + 1 ≤ R by omega) _).setCell (p := ⟨M, k, none⟩) (show P + 1 ≤ M by omega) _).alloc (by simp [World.setCell]; omega) _
  have hb2 : Below (P + 1) wr w2 := hb1.trans (below_nob ho2 (by simp [World.setCell]; omega))
  refine ⟨?_, ?_, ?_, ?_, hb.trans hb2, by omega, ?_, ?_⟩
  · rw [← regs_step, hat]
    exact ((((hR.set_ k at_).far (p := ⟨M, k, none⟩) hRM _).alloc _).only ho2 (fun h => h))
  · exact (((IntBlk.far hM (p := ⟨R, k, none⟩) (Ne.symm hRM) _).set_ k (-1)).alloc _).only ho2 (fun h => h)
  · have h1 := Blk.new ((wr.setCell ⟨R, k, none⟩ (.int .i64 at_)).setCell ⟨M, k, none⟩ (.int .i64 (-1))) 84 #[.int .i64 at_, .int .i64 q]
    have h2 : ((wr.setCell ⟨R, k, none⟩ (.int .i64 at_)).setCell ⟨M, k, none⟩ (.int .i64 (-1))).heap.size = wr.heap.size := by simp [World.setCell]
    rw [h2] at h1
    exact h1.only ho2 (fun h => h)
  · exact (hp.below hb (Nat.lt_succ_self _)).below hb2 (Nat.lt_succ_self _)
  · exact (((hst.far (p := ⟨R, k, none⟩) hRb _).far (p := ⟨M, k, none⟩) hMb _).alloc _).only ho2 (fun _ _ h => h)
  · exact hi.keep hb2 (by omega)

set_option maxRecDepth 100000 in
set_option maxHeartbeats 1000000 in
theorem rcheck_small (w : World) (A : Option Addr) (cap : Nat) (l : List PIns) (h : sizeBad l = true) :
    Calls Try.prog 40 #[.agg #[.slice A l.length cap]] w (RCheckPost w l) := by
  have HQ : Hid (∀ w', Only Nob w w' → RCheckPost w l (.returned (.tuple #[.int .i64 0, .int .i64 4, .slice none 0 0, .slice none 0 0])) w') := fun w' h1 => rpost_bad (runP_size h) (by decide) h1
  have h2 : l.length = 0 ∨ 40 < l.length := by simpa [sizeBad] using h
  clear h
  generalize l.length = n at *
  rcases h2 with h2 | h2
  · subst h2
    go_enter Try.func40, Try.ntmps40
    go_wp2
    exact bodyPost_ret (by simp [results, Try.results40, go_sem]; try rfl) rfl (HQ.out _ (Only.alloc (Only.refl _ _) _))
  · have d1 : ((n : Int) == 0) = false := by rw [beq_eq_false_iff_ne]; omega
    have d3 : (n == 0) = false := by rw [beq_eq_false_iff_ne]; omega
    have d2 : decide ((40 : Int) < n) = true := by simp; omega
    go_enter Try.func40, Try.ntmps40
    go_wp2
    exact bodyPost_ret (by simp [results, Try.results40, go_sem]; try rfl) rfl (HQ.out _ (Only.alloc (Only.refl _ _) _))

theorem infoOpen : (Try.prog.info? 84).map (fun i => (i.zero, i.size, i.bytes)) = some (some (.agg #[.int .i64 0, .int .i64 0]), 2, 16) := by kernel_rfl

set_option maxRecDepth 100000 in
set_option maxHeartbeats 20000000 in
theorem rcheck_big (B : Nat) (w : World) (A : Option Addr) (cap : Nat) (l : List PIns) (hp : ProgIn w B A l) (hB : B ≤ w.heap.size) (hs : sizeBad l = false) :
    Calls Try.prog 40 #[.agg #[.slice A l.length cap]] w (RCheckPost w l) := by
  have h2 : l.length ≠ 0 ∧ l.length ≤ 40 := by
    have : ¬ (l.length = 0 ∨ 40 < l.length) := by
      intro h
      have : sizeBad l = true := by simpa [sizeBad] using h
      rw [this] at hs
      cases hs
    omega
  obtain ⟨hn0, hn⟩ := h2
  obtain ⟨i0, hi, hz0, hz1, hz2⟩ := info_parts infoOpen
  have d1 : ((l.length : Int) == 0) = false := by rw [beq_eq_false_iff_ne]; omega
  have d3 : (l.length == 0) = false := by rw [beq_eq_false_iff_ne]; omega
  have d2 : decide ((40 : Int) < l.length) = false := by simp; omega
  have d4 : decide (40 < l.length) = false := by simp; omega
  have HP := hide hp
  have HSB := hide hs
  have KP0 := hide (Blk.new w 37 #[.slice A l.length cap])
  have HQ : Hid (∀ w', Below (w.heap.size + 1) (w.alloc (.cells #[.slice A l.length cap] 37)) w' → Only Nob w w') := fun w' h1 => Only.trans (Only.alloc (Only.refl _ _) _) (Only.of_new (by simpa using h1))
  have hmk := fun w => run_make_row' (P := Try.prog) 41 3 (.int .i64 0) 8 Try.underlying41 infoInt rfl .i64 .i64 l.length (by omega) (by omega) w
  clear hp hs
  go_enter Try.func40, Try.ntmps40
  go_wp2_with fail
  go_cut [7, 8] (fun s7 s8 wx => ∃ R M, s7 = .slice (some ⟨R, 0, none⟩) l.length l.length ∧ s8 = .slice (some ⟨M, 0, none⟩) l.length l.length ∧ w.heap.size < R ∧ w.heap.size < M ∧ R ≠ M ∧ R < w.heap.size + 3 ∧ M < w.heap.size + 3 ∧
      IntBlk wx R (List.replicate l.length 0) ∧ IntBlk wx M (List.replicate l.length 0) ∧ Below (w.heap.size + 1) (w.alloc (.cells #[.slice A l.length cap] 37)) wx ∧ wx.heap.size = w.heap.size + 3)
  case first =>
    have hA1 : Hid (IntBlk (((w.alloc (.cells #[.slice A l.length cap] 37)).alloc (.cells (madeCells #[.int .i64 0] l.length) 3)).alloc (.cells (madeCells #[.int .i64 0] l.length) 3)) (w.heap.size + 1) (List.replicate l.length 0)) := by
      have := (IntBlk.made (w.alloc (.cells #[.slice A l.length cap] 37)) l.length).alloc (.cells (madeCells #[.int .i64 0] l.length) 3)
      simpa [Hid] using this
    have hA2 : Hid (IntBlk (((w.alloc (.cells #[.slice A l.length cap] 37)).alloc (.cells (madeCells #[.int .i64 0] l.length) 3)).alloc (.cells (madeCells #[.int .i64 0] l.length) 3)) (w.heap.size + 2) (List.replicate l.length 0)) := by
      have := IntBlk.made ((w.alloc (.cells #[.slice A l.length cap] 37)).alloc (.cells (madeCells #[.int .i64 0] l.length) 3)) l.length
      simpa [Hid] using this
    have hA3 : Hid (Below (w.heap.size + 1) (w.alloc (.cells #[.slice A l.length cap] 37)) (((w.alloc (.cells #[.slice A l.length cap] 37)).alloc (.cells (madeCells #[.int .i64 0] l.length) 3)).alloc (.cells (madeCells #[.int .i64 0] l.length) 3))) := Below.alloc (Below.alloc (Below.refl _ _) (by simp) _) (by simp) _
    go_region
    all_goals
      go_wp2
      go_meet
      first
        | exact ⟨w.heap.size + 1, w.heap.size + 2, rfl, rfl, by omega, by omega, by omega, by omega, by omega, hA1.out.drew, hA2.out.drew, hA3.out.drew, by simp⟩
        | exact ⟨w.heap.size + 2, w.heap.size + 1, rfl, rfl, by omega, by omega, by omega, by omega, by omega, hA2.out.drew, hA1.out.drew, hA3.out.drew, by simp⟩
  case rest =>
    obtain ⟨R, M, rfl, rfl, hwR, hwM, hRM, hRb, hMb, hR0, hM0, hbel0, hsz0⟩ := hcut
    have HR0 := hide hR0
    have HM0 := hide hM0
    have HB0 := hide hbel0
    clear hR0 hM0 hbel0 hmk
    have hsz3 : w.heap.size + 3 ≤ wc.heap.size := by omega
    clear hsz0
    go_wp2
    go_loopw [6, 9] (fun v c wr => ∃ k : Nat, k ≤ l.length ∧ c = .int .i64 k ∧ Hid (fine l k) ∧ Hid (firstBad (badB l) (l.length - k) k = firstBad (badB l) l.length 0) ∧ PStack wr (w.heap.size + 3) v l (stk l k) ∧ IntBlk wr R (regs l k) ∧ IntBlk wr M (matR l k) ∧
        Below (w.heap.size + 1) (w.alloc (.cells #[.slice A l.length cap] 37)) wr ∧ w.heap.size + 3 ≤ wr.heap.size)
      (fun _ c _ => l.length - (intOf c).toNat)
    case atStart => exact ⟨0, by omega, rfl, (fun j hj => absurd hj (by omega)), rfl, PStack.nil _ _ _, by rw [regs_zero]; exact HR0.out, HM0.out, HB0.out, hsz3⟩
    case round =>
      obtain ⟨k, hk, rfl, hfine, hfb, hst, hR, hM, hbel, hsz⟩ := hrel
      have hwlt : w.heap.size < wr.heap.size := by omega
      have hpr : ProgIn wr B A l := (HP.out.alloc hB _).keep (hbel.mono (by omega))
      have kp := KP0.out.below hbel (Nat.lt_succ_self _)
      have hp0 := kp.one
      have hpf := kp.frozen
      have hl5 : (stk l k).length ≤ 5 := stk_len hfine.out
      have hRlt := hR.lt
      have hMlt := hM.lt
      have hRw : R ≠ wr.heap.size := by omega
      have hMw : M ≠ wr.heap.size := by omega
      have hww : w.heap.size ≠ wr.heap.size := by omega
      have hwRn : w.heap.size ≠ R := by omega
      have hwMn : w.heap.size ≠ M := by omega
      have HR := hide hR
      have HM := hide hM
      have HB := hide hbel
      have HS := hide hst
      by_cases hlt : k < l.length
      · obtain ⟨b, o, hA, hlb, hi'⟩ := hpr.at_ hlt
        subst hA
        have hstep := hide (firstBad_step (f := badB l) hlt)
        have hop : opOf l k = (l.getD k PIns.none).op := rfl
        have herr0 : errAt l k = wrongP l (stk l k) (l.getD k PIns.none) := rfl
        have hRk := hR.cellD 0 (k := k) (by rw [regs_len]; exact hlt)
        have hRf := hR.frozen k
        have hMk := hM.cellD 0 (k := k) (by rw [matR_len]; exact hlt)
        have hMf := hM.frozen k
        have hat : regAt l k = topP (stk l k) := rfl
        have hTlt := stk_lt l k
        generalize (regs l k).getD k 0 = oldR at *
        generalize (matR l k).getD k 0 = oldM at *
        generalize l.getD k PIns.none = x at *
        obtain ⟨xop, xa, xb, xc, xn⟩ := x
        have HI := hide hi'
        obtain ⟨i0', i1', i2', i3', i4'⟩ := hi'
        dsimp only at i0' i1' i2' i3' i4' hop
        have HE := hide herr0
        have HO := hide hop
        have hblt : b < wr.heap.size := by omega
        have hbw : b ≠ wr.heap.size := by omega
        have hbR : b ≠ R := by omega
        have hbM : b ≠ M := by omega
        have hkI : (k : Int) < (l.length : Int) := by omega
        clear herr0 hop hpr hR hM hbel hst kp
        have hs2 := @rfl _ (stk l k)
        obtain ⟨sk, hsk⟩ : ∃ sk, stk l k = sk := ⟨_, rfl⟩
        rw [hsk] at HS HE hl5 hat hTlt
        have HL5 := hide hl5
        have HST := hide hsk
        clear hsk hs2
        cases sk with
        | nil =>
          obtain ⟨Av, vcap, hv, hvc, hvm, _⟩ := HS.out.form
          simp only [List.length_nil] at hv
          subst hv
          have HAT : Hid (regAt l k = -1) := hat
          unfold maxLen at hvm
          clear hat hTlt
          as_aux_lemma =>
            cases hmay : mayB xop xa xb xc xn
            · have herr : errAt l k = 8 := by
                rw [HE.out]
                simp [wrongP, mayP, hmay]
              have HZ : Hid (runP l = ((k : Int), 8)) := by
                have hnb : badB l k = true := by simp [badB, herr]
                have := hfb.out
                rw [hstep.out, hnb] at this
                have h9 := runP_bad HSB.out this.symm
                rw [herr] at h9
                exact h9
              clear herr
              go_wp2_with (go_at_call 19; refine (rmay_may_any _ _ _ _ _ _).mono ?_; rintro e w2 ⟨rfl, ho2⟩; obtain ⟨hR2, hM2, kin, kp2, hb2, hs2, hst2, hi2⟩ := after_may ho2 HR.out HM.out HS.out KP0.out HB.out HI.out HAT.out hRM hwR hwM hRb hMb hsz hlb hB; obtain ⟨kin0, kin1⟩ := kin.two; have kinf := kin.frozen; have kp20 := kp2.one; have kp2f := kp2.frozen; obtain ⟨j0, j1, j2, j3, j4⟩ := hi2; have hb2s : b < w2.heap.size := Nat.lt_trans hblt hs2)
              exact bodyPost_ret (by simp [results, Try.results40, go_sem]; try rfl) rfl (rpost_bad HZ.out (by decide) (HQ.out _ hb2))
            · by_cases o15 : xop = 15
              · subst o15
                have herr : errAt l k = 12 := by
                  rw [HE.out]
                  simp [wrongP, mayP, hmay, endsI, opAt]
                have HZ : Hid (runP l = ((k : Int), 12)) := by
                  have hnb : badB l k = true := by simp [badB, herr]
                  have := hfb.out
                  rw [hstep.out, hnb] at this
                  have h9 := runP_bad HSB.out this.symm
                  rw [herr] at h9
                  exact h9
                clear herr
                go_wp2_with (go_at_call 19; refine (rmay_may_any _ _ _ _ _ _).mono ?_; rintro e w2 ⟨rfl, ho2⟩; obtain ⟨hR2, hM2, kin, kp2, hb2, hs2, hst2, hi2⟩ := after_may ho2 HR.out HM.out HS.out KP0.out HB.out HI.out HAT.out hRM hwR hwM hRb hMb hsz hlb hB; obtain ⟨kin0, kin1⟩ := kin.two; have kinf := kin.frozen; have kp20 := kp2.one; have kp2f := kp2.frozen; obtain ⟨j0, j1, j2, j3, j4⟩ := hi2; have hb2s : b < w2.heap.size := Nat.lt_trans hblt hs2)
                exact bodyPost_ret (by simp [results, Try.results40, go_sem]; try rfl) rfl (rpost_bad HZ.out (by decide) (HQ.out _ hb2))
              · by_cases o18 : xop = 18
                · subst o18
                  have herr : errAt l k = 12 := by
                    rw [HE.out]
                    simp [wrongP, mayP, hmay, endsI, opAt]
                  have HZ : Hid (runP l = ((k : Int), 12)) := by
                    have hnb : badB l k = true := by simp [badB, herr]
                    have := hfb.out
                    rw [hstep.out, hnb] at this
                    have h9 := runP_bad HSB.out this.symm
                    rw [herr] at h9
                    exact h9
                  clear herr
                  go_wp2_with (go_at_call 19; refine (rmay_may_any _ _ _ _ _ _).mono ?_; rintro e w2 ⟨rfl, ho2⟩; obtain ⟨hR2, hM2, kin, kp2, hb2, hs2, hst2, hi2⟩ := after_may ho2 HR.out HM.out HS.out KP0.out HB.out HI.out HAT.out hRM hwR hwM hRb hMb hsz hlb hB; obtain ⟨kin0, kin1⟩ := kin.two; have kinf := kin.frozen; have kp20 := kp2.one; have kp2f := kp2.frozen; obtain ⟨j0, j1, j2, j3, j4⟩ := hi2; have hb2s : b < w2.heap.size := Nat.lt_trans hblt hs2)
                  exact bodyPost_ret (by simp [results, Try.results40, go_sem]; try rfl) rfl (rpost_bad HZ.out (by decide) (HQ.out _ hb2))
                · by_cases o19 : xop = 19
                  · subst o19
                    have herr : errAt l k = 12 := by
                      rw [HE.out]
                      simp [wrongP, mayP, hmay, endsI, opAt]
                    have HZ : Hid (runP l = ((k : Int), 12)) := by
                      have hnb : badB l k = true := by simp [badB, herr]
                      have := hfb.out
                      rw [hstep.out, hnb] at this
                      have h9 := runP_bad HSB.out this.symm
                      rw [herr] at h9
                      exact h9
                    clear herr
                    go_wp2_with (go_at_call 19; refine (rmay_may_any _ _ _ _ _ _).mono ?_; rintro e w2 ⟨rfl, ho2⟩; obtain ⟨hR2, hM2, kin, kp2, hb2, hs2, hst2, hi2⟩ := after_may ho2 HR.out HM.out HS.out KP0.out HB.out HI.out HAT.out hRM hwR hwM hRb hMb hsz hlb hB; obtain ⟨kin0, kin1⟩ := kin.two; have kinf := kin.frozen; have kp20 := kp2.one; have kp2f := kp2.frozen; obtain ⟨j0, j1, j2, j3, j4⟩ := hi2; have hb2s : b < w2.heap.size := Nat.lt_trans hblt hs2)
                    exact bodyPost_ret (by simp [results, Try.results40, go_sem]; try rfl) rfl (rpost_bad HZ.out (by decide) (HQ.out _ hb2))
                  · by_cases o16 : xop = 16
                    · subst o16
                      have herr : errAt l k = 12 := by
                        rw [HE.out]
                        simp [wrongP, mayP, hmay, endsI, opAt]
                      have HZ : Hid (runP l = ((k : Int), 12)) := by
                        have hnb : badB l k = true := by simp [badB, herr]
                        have := hfb.out
                        rw [hstep.out, hnb] at this
                        have h9 := runP_bad HSB.out this.symm
                        rw [herr] at h9
                        exact h9
                      clear herr
                      go_wp2_with (go_at_call 19; refine (rmay_may_any _ _ _ _ _ _).mono ?_; rintro e w2 ⟨rfl, ho2⟩; obtain ⟨hR2, hM2, kin, kp2, hb2, hs2, hst2, hi2⟩ := after_may ho2 HR.out HM.out HS.out KP0.out HB.out HI.out HAT.out hRM hwR hwM hRb hMb hsz hlb hB; obtain ⟨kin0, kin1⟩ := kin.two; have kinf := kin.frozen; have kp20 := kp2.one; have kp2f := kp2.frozen; obtain ⟨j0, j1, j2, j3, j4⟩ := hi2; have hb2s : b < w2.heap.size := Nat.lt_trans hblt hs2)
                      exact bodyPost_ret (by simp [results, Try.results40, go_sem]; try rfl) rfl (rpost_bad HZ.out (by decide) (HQ.out _ hb2))
                    · have hends : endsI xop = 0 := by simp [endsI, o15, o18, o19]
                      by_cases o14 : xop = 14
                      · subst o14
                        have herr : errAt l k = 0 := by
                          rw [HE.out]
                          simp [wrongP, mayP, hmay, endsI, beginsB]
                        have HN : Hid (firstBad (badB l) (l.length - (k + 1)) (k + 1) = firstBad (badB l) l.length 0) := by
                          have hnb : badB l k = false := by simp [badB, herr]
                          have := hfb.out
                          rw [hstep.out, hnb] at this
                          exact this
                        have HF : Hid (fine l (k + 1)) := fun j hj => by
                          rcases Nat.lt_or_ge j k with h1 | h1
                          · exact hfine.out j h1
                          · obtain rfl : j = k := by omega
                            exact herr
                        have HSK : Hid (stk l (k + 1) = (k : Int) :: []) := by unfold Hid; rw [stk_succ, HO.out, HST.out]; simp [behindP, tailP, beginsB, endsI]
                        clear herr
                        go_wp2_with (first
                          | (go_at_call 19; refine (rmay_may_any _ _ _ _ _ _).mono ?_; rintro e w2 ⟨rfl, ho2⟩; obtain ⟨hR2, hM2, kin, kp2, hb2, hs2, hst2, hi2⟩ := after_may ho2 HR.out HM.out HS.out KP0.out HB.out HI.out HAT.out hRM hwR hwM hRb hMb hsz hlb hB; obtain ⟨kin0, kin1⟩ := kin.two; have kinf := kin.frozen; have kp20 := kp2.one; have kp2f := kp2.frozen; obtain ⟨j0, j1, j2, j3, j4⟩ := hi2; have hb2s : b < w2.heap.size := Nat.lt_trans hblt hs2)
                          | (at_builtin; refine wpList_append_own _ rfl _ _ 82 rfl (w.heap.size + 3) 84 i0 (.agg #[.int .i64 0, .int .i64 0]) 2 16 Try.underlying82 hi hz0 hz1 hz2 rfl (by decide) _ _ _ rfl (hst2.alloc _) ⟨w2.heap.size, 0, none⟩ 1 1 [.int .i64 k, .int .i64 14] rfl rfl (cell_two_new _ _ _ _) (fun x hx => by simp at hx; rcases hx with rfl | rfl <;> rfl) (by have := HL5.out; unfold maxLen; omega) (by have := HL5.out; omega) (by simp; omega) ?_; intro v' w3 hown' hgrow3 hnil3))
                        have hb3 : Below (w.heap.size + 3) w2 w3 := (Below.alloc (Below.refl _ _) (by omega) _).trans (PStack.grown (hst2.alloc _) hgrow3 (by simp; omega))
                        have hr3 := hR2.below hb3 hRb
                        have hm3 := hM2.below hb3 hMb
                        have hB3 := hb2.trans (hb3.mono (by omega))
                        have hs3 := hb3.size
                        go_roundw
                        case rel =>
                          refine ⟨k + 1, by omega, by go_num, HF, HN, ?_, hr3, ?_, hB3, by omega⟩
                          · rw [HSK.out]
                            have := hown'
                            refine PStack.push ?_
                            rw [HO.out]
                            exact this
                          · rw [matR_no (by rw [HO.out]; decide)]
                            exact hm3
                        case measure => simp [intOf]; omega
                      · by_cases o17 : xop = 17
                        · subst o17
                          have herr : errAt l k = 0 := by
                            rw [HE.out]
                            simp [wrongP, mayP, hmay, endsI, beginsB]
                          have HN : Hid (firstBad (badB l) (l.length - (k + 1)) (k + 1) = firstBad (badB l) l.length 0) := by
                            have hnb : badB l k = false := by simp [badB, herr]
                            have := hfb.out
                            rw [hstep.out, hnb] at this
                            exact this
                          have HF : Hid (fine l (k + 1)) := fun j hj => by
                            rcases Nat.lt_or_ge j k with h1 | h1
                            · exact hfine.out j h1
                            · obtain rfl : j = k := by omega
                              exact herr
                          have HSK : Hid (stk l (k + 1) = (k : Int) :: []) := by unfold Hid; rw [stk_succ, HO.out, HST.out]; simp [behindP, tailP, beginsB, endsI]
                          clear herr
                          go_wp2_with (first
                            | (go_at_call 19; refine (rmay_may_any _ _ _ _ _ _).mono ?_; rintro e w2 ⟨rfl, ho2⟩; obtain ⟨hR2, hM2, kin, kp2, hb2, hs2, hst2, hi2⟩ := after_may ho2 HR.out HM.out HS.out KP0.out HB.out HI.out HAT.out hRM hwR hwM hRb hMb hsz hlb hB; obtain ⟨kin0, kin1⟩ := kin.two; have kinf := kin.frozen; have kp20 := kp2.one; have kp2f := kp2.frozen; obtain ⟨j0, j1, j2, j3, j4⟩ := hi2; have hb2s : b < w2.heap.size := Nat.lt_trans hblt hs2)
                            | (at_builtin; refine wpList_append_own _ rfl _ _ 82 rfl (w.heap.size + 3) 84 i0 (.agg #[.int .i64 0, .int .i64 0]) 2 16 Try.underlying82 hi hz0 hz1 hz2 rfl (by decide) _ _ _ rfl (hst2.alloc _) ⟨w2.heap.size, 0, none⟩ 1 1 [.int .i64 k, .int .i64 17] rfl rfl (cell_two_new _ _ _ _) (fun x hx => by simp at hx; rcases hx with rfl | rfl <;> rfl) (by have := HL5.out; unfold maxLen; omega) (by have := HL5.out; omega) (by simp; omega) ?_; intro v' w3 hown' hgrow3 hnil3))
                          have hb3 : Below (w.heap.size + 3) w2 w3 := (Below.alloc (Below.refl _ _) (by omega) _).trans (PStack.grown (hst2.alloc _) hgrow3 (by simp; omega))
                          have hr3 := hR2.below hb3 hRb
                          have hm3 := hM2.below hb3 hMb
                          have hB3 := hb2.trans (hb3.mono (by omega))
                          have hs3 := hb3.size
                          go_roundw
                          case rel =>
                            refine ⟨k + 1, by omega, by go_num, HF, HN, ?_, hr3, ?_, hB3, by omega⟩
                            · rw [HSK.out]
                              have := hown'
                              refine PStack.push ?_
                              rw [HO.out]
                              exact this
                            · rw [matR_no (by rw [HO.out]; decide)]
                              exact hm3
                          case measure => simp [intOf]; omega
                        · have hbeg : beginsB xop = false := by simp [beginsB, o14, o17]
                          have c15 : (xop == 15) = false := by simpa using o15
                          have c18 : (xop == 18) = false := by simpa using o18
                          have c19 : (xop == 19) = false := by simpa using o19
                          have c16 : (xop == 16) = false := by simpa using o16
                          have c14 : (xop == 14) = false := by simpa using o14
                          have c17 : (xop == 17) = false := by simpa using o17
                          have herr : errAt l k = 0 := by
                            rw [HE.out]
                            simp [wrongP, mayP, hmay, hends, hbeg, o16]
                          have HN : Hid (firstBad (badB l) (l.length - (k + 1)) (k + 1) = firstBad (badB l) l.length 0) := by
                            have hnb : badB l k = false := by simp [badB, herr]
                            have := hfb.out
                            rw [hstep.out, hnb] at this
                            exact this
                          have HF : Hid (fine l (k + 1)) := fun j hj => by
                            rcases Nat.lt_or_ge j k with h1 | h1
                            · exact hfine.out j h1
                            · obtain rfl : j = k := by omega
                              exact herr
                          have HSK : Hid (stk l (k + 1) = []) := by unfold Hid; rw [stk_succ, HO.out, HST.out]; simp [behindP, tailP, hends, hbeg, o18]
                          clear herr
                          go_wp2_with (go_at_call 19; refine (rmay_may_any _ _ _ _ _ _).mono ?_; rintro e w2 ⟨rfl, ho2⟩; obtain ⟨hR2, hM2, kin, kp2, hb2, hs2, hst2, hi2⟩ := after_may ho2 HR.out HM.out HS.out KP0.out HB.out HI.out HAT.out hRM hwR hwM hRb hMb hsz hlb hB; obtain ⟨kin0, kin1⟩ := kin.two; have kinf := kin.frozen; have kp20 := kp2.one; have kp2f := kp2.frozen; obtain ⟨j0, j1, j2, j3, j4⟩ := hi2; have hb2s : b < w2.heap.size := Nat.lt_trans hblt hs2)
                          go_roundw
                          case rel =>
                            refine ⟨k + 1, by omega, by go_num, HF, HN, ?_, hR2, ?_, hb2, (by omega)⟩
                            · rw [HSK.out]
                              exact hst2
                            · rw [matR_no (by rw [HO.out]; rw [hends]; decide)]
                              exact hM2
                          case measure => simp [intOf]; omega
        | cons t r =>
          obtain ⟨ht0, ht1⟩ := hTlt t (by simp)
          obtain ⟨T, rfl⟩ := Int.eq_ofNat_of_zero_le ht0
          obtain ⟨Av, vcap, hv, hvc, hvm, hvg⟩ := HS.out.form
          obtain ⟨g, rfl, hgb, hgl⟩ := hvg (by simp)
          subst hv
          simp only [List.length_cons] at hl5 hvc
          have htop := PStack.top HS.out
          have htf := HS.out.frozen
          have hoq : opOf l T = opOf l ((T : Int)).toNat := rfl
          obtain ⟨ht0', ht1'⟩ := htop
          rw [← hoq] at ht1'
          clear hoq
          have HOQ : Hid (opOf l T = opOf l T) := rfl
          generalize hq0 : opOf l T = q at *
          have HAT : Hid (regAt l k = (T : Int)) := hat
          unfold maxLen at hvm
          clear hat hTlt
          clear HOQ
          have HOQ := hide hq0
          clear hq0
          generalize hlen : r.length = m at *
          have hlen' := hide hlen
          have hTk : T < k := by omega
          have hTn : T < l.length := by omega
          have hTI : (T : Int) < (l.length : Int) := by omega
          have hHS2 : Hid (PStack wr (w.heap.size + 3) (.slice (some ⟨g, 0, none⟩) (m + 1) vcap) l ((T : Int) :: r)) := by
            have := HS.out
            simp only [List.length_cons, hlen] at this
            exact this
          clear HS hlen
          have HS := hHS2
          clear hHS2
          simp only [List.length_cons, hlen'.out]
          have hgR : g ≠ R := by omega
          have hgM : g ≠ M := by omega
          have hgw : g ≠ wr.heap.size := by omega
          have dm : ((m : Int) + 1 == 0) = false := by simp; omega
          cases hmay : mayB xop xa xb xc xn
          · have herr : errAt l k = 8 := by
              rw [HE.out]
              simp [wrongP, mayP, hmay]
            have HZ : Hid (runP l = ((k : Int), 8)) := by
              have hnb : badB l k = true := by simp [badB, herr]
              have := hfb.out
              rw [hstep.out, hnb] at this
              have h9 := runP_bad HSB.out this.symm
              rw [herr] at h9
              exact h9
            clear herr
            go_wp2_with (go_at_call 19; refine (rmay_may_any _ _ _ _ _ _).mono ?_; rintro e w2 ⟨rfl, ho2⟩; obtain ⟨hR2, hM2, kin, kp2, hb2, hs2, hst2, hi2⟩ := after_may ho2 HR.out HM.out HS.out KP0.out HB.out HI.out HAT.out hRM hwR hwM hRb hMb hsz hlb hB; obtain ⟨kin0, kin1⟩ := kin.two; have kinf := kin.frozen; have kp20 := kp2.one; have kp2f := kp2.frozen; obtain ⟨j0, j1, j2, j3, j4⟩ := hi2; have hb2s : b < w2.heap.size := Nat.lt_trans hblt hs2)
            exact bodyPost_ret (by simp [results, Try.results40, go_sem]; try rfl) rfl (rpost_bad HZ.out (by decide) (HQ.out _ hb2))
          · by_cases o15 : xop = 15
            · subst o15
              as_aux_lemma =>
                cases hq : (q != 14)
                · have herr : errAt l k = 0 := by
                    rw [HE.out]
                    have hq' : q = 14 := by simpa using hq
                    simp [wrongP, mayP, hmay, endsI, opAt, HOQ.out, hq', beginsB]
                  have HN : Hid (firstBad (badB l) (l.length - (k + 1)) (k + 1) = firstBad (badB l) l.length 0) := by
                    have hnb : badB l k = false := by simp [badB, herr]
                    have := hfb.out
                    rw [hstep.out, hnb] at this
                    exact this
                  have HF : Hid (fine l (k + 1)) := fun j hj => by
                    rcases Nat.lt_or_ge j k with h1 | h1
                    · exact hfine.out j h1
                    · obtain rfl : j = k := by omega
                      exact herr
                  have HSK : Hid (stk l (k + 1) = r) := by unfold Hid; rw [stk_succ, HO.out, HST.out]; simp [behindP, tailP, beginsB, endsI]
                  clear herr
                  go_wp2_with (go_at_call 19; refine (rmay_may_any _ _ _ _ _ _).mono ?_; rintro e w2 ⟨rfl, ho2⟩; obtain ⟨hR2, hM2, kin, kp2, hb2, hs2, hst2, hi2⟩ := after_may ho2 HR.out HM.out HS.out KP0.out HB.out HI.out HAT.out hRM hwR hwM hRb hMb hsz hlb hB; obtain ⟨kin0, kin1⟩ := kin.two; have kinf := kin.frozen; have kp20 := kp2.one; have kp2f := kp2.frozen; obtain ⟨j0, j1, j2, j3, j4⟩ := hi2; have hb2s : b < w2.heap.size := Nat.lt_trans hblt hs2; have hMT := hM2.cellD 0 (k := T) (by rw [List.length_set, matR_len]; omega); have hMTf := hM2.frozen T; have hM2l := hM2.lt; have HPOP := (hlen'.out ▸ PStack.pop (by rw [hlen'.out]; exact hst2) : PStack w2 (w.heap.size + 3) (.slice (some ⟨g, 0, none⟩) m vcap) l r))
                  go_roundw
                  case rel =>
                    refine ⟨k + 1, by omega, by go_num, HF, HN, ?_, hR2.far (p := ⟨M, T, none⟩) hRM _, ?_, hb2.setCell (p := ⟨M, T, none⟩) (show w.heap.size + 1 ≤ M by omega) _, by simp [World.setCell]; omega⟩
                    · rw [HSK.out]
                      exact (PStack.far (p := ⟨M, T, none⟩) HPOP hMb _)
                    · rw [matR_yes (by rw [HO.out]; decide), HAT.out, Int.toNat_natCast]
                      exact hM2.set_ T _
                  case measure => simp [intOf]; omega
                · have herr : errAt l k = 12 := by
                    rw [HE.out]
                    have hq' : q ≠ 14 := by simpa using hq
                    simp [wrongP, mayP, hmay, endsI, opAt, HOQ.out, hq']
                  have HZ : Hid (runP l = ((k : Int), 12)) := by
                    have hnb : badB l k = true := by simp [badB, herr]
                    have := hfb.out
                    rw [hstep.out, hnb] at this
                    have h9 := runP_bad HSB.out this.symm
                    rw [herr] at h9
                    exact h9
                  clear herr
                  go_wp2_with (go_at_call 19; refine (rmay_may_any _ _ _ _ _ _).mono ?_; rintro e w2 ⟨rfl, ho2⟩; obtain ⟨hR2, hM2, kin, kp2, hb2, hs2, hst2, hi2⟩ := after_may ho2 HR.out HM.out HS.out KP0.out HB.out HI.out HAT.out hRM hwR hwM hRb hMb hsz hlb hB; obtain ⟨kin0, kin1⟩ := kin.two; have kinf := kin.frozen; have kp20 := kp2.one; have kp2f := kp2.frozen; obtain ⟨j0, j1, j2, j3, j4⟩ := hi2; have hb2s : b < w2.heap.size := Nat.lt_trans hblt hs2)
                  exact bodyPost_ret (by simp [results, Try.results40, go_sem]; try rfl) rfl (rpost_bad HZ.out (by decide) (HQ.out _ hb2))
            · by_cases o18 : xop = 18
              · subst o18
                as_aux_lemma =>
                  cases hq : (q != 17)
                  · have herr : errAt l k = 0 := by
                      rw [HE.out]
                      have hq' : q = 17 := by simpa using hq
                      simp [wrongP, mayP, hmay, endsI, opAt, HOQ.out, hq', beginsB]
                    have HN : Hid (firstBad (badB l) (l.length - (k + 1)) (k + 1) = firstBad (badB l) l.length 0) := by
                      have hnb : badB l k = false := by simp [badB, herr]
                      have := hfb.out
                      rw [hstep.out, hnb] at this
                      exact this
                    have HF : Hid (fine l (k + 1)) := fun j hj => by
                      rcases Nat.lt_or_ge j k with h1 | h1
                      · exact hfine.out j h1
                      · obtain rfl : j = k := by omega
                        exact herr
                    have HSK : Hid (stk l (k + 1) = (k : Int) :: r) := by unfold Hid; rw [stk_succ, HO.out, HST.out]; simp [behindP, tailP, beginsB, endsI]
                    clear herr
                    go_wp2_with (go_at_call 19; refine (rmay_may_any _ _ _ _ _ _).mono ?_; rintro e w2 ⟨rfl, ho2⟩; obtain ⟨hR2, hM2, kin, kp2, hb2, hs2, hst2, hi2⟩ := after_may ho2 HR.out HM.out HS.out KP0.out HB.out HI.out HAT.out hRM hwR hwM hRb hMb hsz hlb hB; obtain ⟨kin0, kin1⟩ := kin.two; have kinf := kin.frozen; have kp20 := kp2.one; have kp2f := kp2.frozen; obtain ⟨j0, j1, j2, j3, j4⟩ := hi2; have hb2s : b < w2.heap.size := Nat.lt_trans hblt hs2; have hMT := hM2.cellD 0 (k := T) (by rw [List.length_set, matR_len]; omega); have hMTf := hM2.frozen T; have hM2l := hM2.lt; have htop := PStack.top (show PStack w2 (w.heap.size + 3) (.slice (some ⟨g, 0, none⟩) (r.length + 1) vcap) l ((T : Int) :: r) by rw [hlen'.out]; exact hst2); rw [hlen'.out] at htop; obtain ⟨ht0, ht1⟩ := htop; have htf := hst2.frozen; have hMg : M ≠ g := by omega)
                    go_roundw
                    case rel =>
                      refine ⟨k + 1, by omega, by go_num, HF, HN, ?_, (((hR2.far (p := ⟨M, T, none⟩) hRM _).far (p := ⟨g, m * 2, none⟩) (show R ≠ g by omega) _).far (p := ⟨g, m * 2 + 1, none⟩) (show R ≠ g by omega) _), ?_, ((hb2.setCell (p := ⟨M, T, none⟩) (show w.heap.size + 1 ≤ M by omega) _).setCell (p := ⟨g, m * 2, none⟩) (show w.heap.size + 1 ≤ g by omega) _).setCell (p := ⟨g, m * 2 + 1, none⟩) (show w.heap.size + 1 ≤ g by omega) _, by simp [World.setCell]; omega⟩
                      · rw [HSK.out]
                        have h5 := PStack.turn (k := k) (show PStack (w2.setCell ⟨M, T, none⟩ (.int .i64 k)) (w.heap.size + 3) (.slice (some ⟨g, 0, none⟩) (r.length + 1) vcap) l ((T : Int) :: r) by rw [hlen'.out]; exact hst2.far (p := ⟨M, T, none⟩) hMb _)
                        rw [hlen'.out, HO.out] at h5
                        exact h5
                      · rw [matR_yes (by rw [HO.out]; decide), HAT.out, Int.toNat_natCast]
                        exact ((hM2.set_ T _).far (p := ⟨g, m * 2, none⟩) (show M ≠ g by omega) _).far (p := ⟨g, m * 2 + 1, none⟩) (show M ≠ g by omega) _
                    case measure => simp [intOf]; omega
                  · have herr : errAt l k = 12 := by
                      rw [HE.out]
                      have hq' : q ≠ 17 := by simpa using hq
                      simp [wrongP, mayP, hmay, endsI, opAt, HOQ.out, hq']
                    have HZ : Hid (runP l = ((k : Int), 12)) := by
                      have hnb : badB l k = true := by simp [badB, herr]
                      have := hfb.out
                      rw [hstep.out, hnb] at this
                      have h9 := runP_bad HSB.out this.symm
                      rw [herr] at h9
                      exact h9
                    clear herr
                    go_wp2_with (go_at_call 19; refine (rmay_may_any _ _ _ _ _ _).mono ?_; rintro e w2 ⟨rfl, ho2⟩; obtain ⟨hR2, hM2, kin, kp2, hb2, hs2, hst2, hi2⟩ := after_may ho2 HR.out HM.out HS.out KP0.out HB.out HI.out HAT.out hRM hwR hwM hRb hMb hsz hlb hB; obtain ⟨kin0, kin1⟩ := kin.two; have kinf := kin.frozen; have kp20 := kp2.one; have kp2f := kp2.frozen; obtain ⟨j0, j1, j2, j3, j4⟩ := hi2; have hb2s : b < w2.heap.size := Nat.lt_trans hblt hs2)
                    exact bodyPost_ret (by simp [results, Try.results40, go_sem]; try rfl) rfl (rpost_bad HZ.out (by decide) (HQ.out _ hb2))
              · by_cases o19 : xop = 19
                · subst o19
                  as_aux_lemma =>
                    cases hq : (q != 18)
                    · have herr : errAt l k = 0 := by
                        rw [HE.out]
                        have hq' : q = 18 := by simpa using hq
                        simp [wrongP, mayP, hmay, endsI, opAt, HOQ.out, hq', beginsB]
                      have HN : Hid (firstBad (badB l) (l.length - (k + 1)) (k + 1) = firstBad (badB l) l.length 0) := by
                        have hnb : badB l k = false := by simp [badB, herr]
                        have := hfb.out
                        rw [hstep.out, hnb] at this
                        exact this
                      have HF : Hid (fine l (k + 1)) := fun j hj => by
                        rcases Nat.lt_or_ge j k with h1 | h1
                        · exact hfine.out j h1
                        · obtain rfl : j = k := by omega
                          exact herr
                      have HSK : Hid (stk l (k + 1) = r) := by unfold Hid; rw [stk_succ, HO.out, HST.out]; simp [behindP, tailP, beginsB, endsI]
                      clear herr
                      go_wp2_with (go_at_call 19; refine (rmay_may_any _ _ _ _ _ _).mono ?_; rintro e w2 ⟨rfl, ho2⟩; obtain ⟨hR2, hM2, kin, kp2, hb2, hs2, hst2, hi2⟩ := after_may ho2 HR.out HM.out HS.out KP0.out HB.out HI.out HAT.out hRM hwR hwM hRb hMb hsz hlb hB; obtain ⟨kin0, kin1⟩ := kin.two; have kinf := kin.frozen; have kp20 := kp2.one; have kp2f := kp2.frozen; obtain ⟨j0, j1, j2, j3, j4⟩ := hi2; have hb2s : b < w2.heap.size := Nat.lt_trans hblt hs2; have hMT := hM2.cellD 0 (k := T) (by rw [List.length_set, matR_len]; omega); have hMTf := hM2.frozen T; have hM2l := hM2.lt; have HPOP := (hlen'.out ▸ PStack.pop (by rw [hlen'.out]; exact hst2) : PStack w2 (w.heap.size + 3) (.slice (some ⟨g, 0, none⟩) m vcap) l r))
                      go_roundw
                      case rel =>
                        refine ⟨k + 1, by omega, by go_num, HF, HN, ?_, hR2.far (p := ⟨M, T, none⟩) hRM _, ?_, hb2.setCell (p := ⟨M, T, none⟩) (show w.heap.size + 1 ≤ M by omega) _, by simp [World.setCell]; omega⟩
                        · rw [HSK.out]
                          exact (PStack.far (p := ⟨M, T, none⟩) HPOP hMb _)
                        · rw [matR_yes (by rw [HO.out]; decide), HAT.out, Int.toNat_natCast]
                          exact hM2.set_ T _
                      case measure => simp [intOf]; omega
                    · have herr : errAt l k = 12 := by
                        rw [HE.out]
                        have hq' : q ≠ 18 := by simpa using hq
                        simp [wrongP, mayP, hmay, endsI, opAt, HOQ.out, hq']
                      have HZ : Hid (runP l = ((k : Int), 12)) := by
                        have hnb : badB l k = true := by simp [badB, herr]
                        have := hfb.out
                        rw [hstep.out, hnb] at this
                        have h9 := runP_bad HSB.out this.symm
                        rw [herr] at h9
                        exact h9
                      clear herr
                      go_wp2_with (go_at_call 19; refine (rmay_may_any _ _ _ _ _ _).mono ?_; rintro e w2 ⟨rfl, ho2⟩; obtain ⟨hR2, hM2, kin, kp2, hb2, hs2, hst2, hi2⟩ := after_may ho2 HR.out HM.out HS.out KP0.out HB.out HI.out HAT.out hRM hwR hwM hRb hMb hsz hlb hB; obtain ⟨kin0, kin1⟩ := kin.two; have kinf := kin.frozen; have kp20 := kp2.one; have kp2f := kp2.frozen; obtain ⟨j0, j1, j2, j3, j4⟩ := hi2; have hb2s : b < w2.heap.size := Nat.lt_trans hblt hs2)
                      exact bodyPost_ret (by simp [results, Try.results40, go_sem]; try rfl) rfl (rpost_bad HZ.out (by decide) (HQ.out _ hb2))
                · by_cases o16 : xop = 16
                  · subst o16
                    as_aux_lemma =>
                      cases hq : (q != 14)
                      · have herr : errAt l k = 0 := by
                          rw [HE.out]
                          have hq' : q = 14 := by simpa using hq
                          simp [wrongP, mayP, hmay, endsI, opAt, HOQ.out, hq', beginsB]
                        have HN : Hid (firstBad (badB l) (l.length - (k + 1)) (k + 1) = firstBad (badB l) l.length 0) := by
                          have hnb : badB l k = false := by simp [badB, herr]
                          have := hfb.out
                          rw [hstep.out, hnb] at this
                          exact this
                        have HF : Hid (fine l (k + 1)) := fun j hj => by
                          rcases Nat.lt_or_ge j k with h1 | h1
                          · exact hfine.out j h1
                          · obtain rfl : j = k := by omega
                            exact herr
                        have HSK : Hid (stk l (k + 1) = ((T : Int) :: r)) := by unfold Hid; rw [stk_succ, HO.out, HST.out]; simp [behindP, tailP, beginsB, endsI]
                        clear herr
                        go_wp2_with (go_at_call 19; refine (rmay_may_any _ _ _ _ _ _).mono ?_; rintro e w2 ⟨rfl, ho2⟩; obtain ⟨hR2, hM2, kin, kp2, hb2, hs2, hst2, hi2⟩ := after_may ho2 HR.out HM.out HS.out KP0.out HB.out HI.out HAT.out hRM hwR hwM hRb hMb hsz hlb hB; obtain ⟨kin0, kin1⟩ := kin.two; have kinf := kin.frozen; have kp20 := kp2.one; have kp2f := kp2.frozen; obtain ⟨j0, j1, j2, j3, j4⟩ := hi2; have hb2s : b < w2.heap.size := Nat.lt_trans hblt hs2)
                        go_roundw
                        case rel =>
                          refine ⟨k + 1, by omega, by go_num, HF, HN, ?_, hR2, ?_, hb2, (by omega)⟩
                          · rw [HSK.out]
                            exact hst2
                          · rw [matR_no (by rw [HO.out]; decide)]
                            exact hM2
                        case measure => simp [intOf]; omega
                      · have herr : errAt l k = 12 := by
                          rw [HE.out]
                          have hq' : q ≠ 14 := by simpa using hq
                          simp [wrongP, mayP, hmay, endsI, opAt, HOQ.out, hq']
                        have HZ : Hid (runP l = ((k : Int), 12)) := by
                          have hnb : badB l k = true := by simp [badB, herr]
                          have := hfb.out
                          rw [hstep.out, hnb] at this
                          have h9 := runP_bad HSB.out this.symm
                          rw [herr] at h9
                          exact h9
                        clear herr
                        go_wp2_with (go_at_call 19; refine (rmay_may_any _ _ _ _ _ _).mono ?_; rintro e w2 ⟨rfl, ho2⟩; obtain ⟨hR2, hM2, kin, kp2, hb2, hs2, hst2, hi2⟩ := after_may ho2 HR.out HM.out HS.out KP0.out HB.out HI.out HAT.out hRM hwR hwM hRb hMb hsz hlb hB; obtain ⟨kin0, kin1⟩ := kin.two; have kinf := kin.frozen; have kp20 := kp2.one; have kp2f := kp2.frozen; obtain ⟨j0, j1, j2, j3, j4⟩ := hi2; have hb2s : b < w2.heap.size := Nat.lt_trans hblt hs2)
                        exact bodyPost_ret (by simp [results, Try.results40, go_sem]; try rfl) rfl (rpost_bad HZ.out (by decide) (HQ.out _ hb2))
                  · have hends : endsI xop = 0 := by simp [endsI, o15, o18, o19]
                    by_cases o14 : xop = 14
                    · subst o14
                      as_aux_lemma =>
                        by_cases h5 : m + 1 < 5
                        · have d5 : ¬ ((5 : Int) ≤ (m : Int) + 1) := by omega
                          have d6 : decide ((5 : Int) ≤ (m : Int) + 1) = false := by simp; omega
                          have herr : errAt l k = 0 := by
                            rw [HE.out]
                            have hL := hlen'.out; simp [wrongP, mayP, hmay, endsI, beginsB]; omega
                          have HN : Hid (firstBad (badB l) (l.length - (k + 1)) (k + 1) = firstBad (badB l) l.length 0) := by
                            have hnb : badB l k = false := by simp [badB, herr]
                            have := hfb.out
                            rw [hstep.out, hnb] at this
                            exact this
                          have HF : Hid (fine l (k + 1)) := fun j hj => by
                            rcases Nat.lt_or_ge j k with h1 | h1
                            · exact hfine.out j h1
                            · obtain rfl : j = k := by omega
                              exact herr
                          have HSK : Hid (stk l (k + 1) = (k : Int) :: ((T : Int) :: r)) := by unfold Hid; rw [stk_succ, HO.out, HST.out]; simp [behindP, tailP, beginsB, endsI]
                          clear herr
                          go_wp2_with (first
                            | (go_at_call 19; refine (rmay_may_any _ _ _ _ _ _).mono ?_; rintro e w2 ⟨rfl, ho2⟩; obtain ⟨hR2, hM2, kin, kp2, hb2, hs2, hst2, hi2⟩ := after_may ho2 HR.out HM.out HS.out KP0.out HB.out HI.out HAT.out hRM hwR hwM hRb hMb hsz hlb hB; obtain ⟨kin0, kin1⟩ := kin.two; have kinf := kin.frozen; have kp20 := kp2.one; have kp2f := kp2.frozen; obtain ⟨j0, j1, j2, j3, j4⟩ := hi2; have hb2s : b < w2.heap.size := Nat.lt_trans hblt hs2)
                            | (at_builtin; refine wpList_append_own _ rfl _ _ 82 rfl (w.heap.size + 3) 84 i0 (.agg #[.int .i64 0, .int .i64 0]) 2 16 Try.underlying82 hi hz0 hz1 hz2 rfl (by decide) _ _ _ rfl (hst2.alloc _) ⟨w2.heap.size, 0, none⟩ 1 1 [.int .i64 k, .int .i64 14] rfl rfl (cell_two_new _ _ _ _) (fun x hx => by simp at hx; rcases hx with rfl | rfl <;> rfl) (by have := HL5.out; unfold maxLen; omega) (by have := HL5.out; omega) (by simp; omega) ?_; intro v' w3 hown' hgrow3 hnil3))
                          have hb3 : Below (w.heap.size + 3) w2 w3 := (Below.alloc (Below.refl _ _) (by omega) _).trans (PStack.grown (hst2.alloc _) hgrow3 (by simp; omega))
                          have hr3 := hR2.below hb3 hRb
                          have hm3 := hM2.below hb3 hMb
                          have hB3 := hb2.trans (hb3.mono (by omega))
                          have hs3 := hb3.size
                          go_roundw
                          case rel =>
                            refine ⟨k + 1, by omega, by go_num, HF, HN, ?_, hr3, ?_, hB3, by omega⟩
                            · rw [HSK.out]
                              have := hown'
                              refine PStack.push ?_
                              rw [HO.out]
                              exact this
                            · rw [matR_no (by rw [HO.out]; decide)]
                              exact hm3
                          case measure => simp [intOf]; omega
                        · have d5 : (5 : Int) ≤ (m : Int) + 1 := by omega
                          have d6 : decide ((5 : Int) ≤ (m : Int) + 1) = true := by simp; omega
                          have herr : errAt l k = 9 := by
                            rw [HE.out]
                            have hL := hlen'.out; simp [wrongP, mayP, hmay, endsI, beginsB]; omega
                          have HZ : Hid (runP l = ((k : Int), 9)) := by
                            have hnb : badB l k = true := by simp [badB, herr]
                            have := hfb.out
                            rw [hstep.out, hnb] at this
                            have h9 := runP_bad HSB.out this.symm
                            rw [herr] at h9
                            exact h9
                          clear herr
                          go_wp2_with (go_at_call 19; refine (rmay_may_any _ _ _ _ _ _).mono ?_; rintro e w2 ⟨rfl, ho2⟩; obtain ⟨hR2, hM2, kin, kp2, hb2, hs2, hst2, hi2⟩ := after_may ho2 HR.out HM.out HS.out KP0.out HB.out HI.out HAT.out hRM hwR hwM hRb hMb hsz hlb hB; obtain ⟨kin0, kin1⟩ := kin.two; have kinf := kin.frozen; have kp20 := kp2.one; have kp2f := kp2.frozen; obtain ⟨j0, j1, j2, j3, j4⟩ := hi2; have hb2s : b < w2.heap.size := Nat.lt_trans hblt hs2)
                          exact bodyPost_ret (by simp [results, Try.results40, go_sem]; try rfl) rfl (rpost_bad HZ.out (by decide) (HQ.out _ hb2))
                    · by_cases o17 : xop = 17
                      · subst o17
                        as_aux_lemma =>
                          by_cases h5 : m + 1 < 5
                          · have d5 : ¬ ((5 : Int) ≤ (m : Int) + 1) := by omega
                            have d6 : decide ((5 : Int) ≤ (m : Int) + 1) = false := by simp; omega
                            have herr : errAt l k = 0 := by
                              rw [HE.out]
                              have hL := hlen'.out; simp [wrongP, mayP, hmay, endsI, beginsB]; omega
                            have HN : Hid (firstBad (badB l) (l.length - (k + 1)) (k + 1) = firstBad (badB l) l.length 0) := by
                              have hnb : badB l k = false := by simp [badB, herr]
                              have := hfb.out
                              rw [hstep.out, hnb] at this
                              exact this
                            have HF : Hid (fine l (k + 1)) := fun j hj => by
                              rcases Nat.lt_or_ge j k with h1 | h1
                              · exact hfine.out j h1
                              · obtain rfl : j = k := by omega
                                exact herr
                            have HSK : Hid (stk l (k + 1) = (k : Int) :: ((T : Int) :: r)) := by unfold Hid; rw [stk_succ, HO.out, HST.out]; simp [behindP, tailP, beginsB, endsI]
                            clear herr
                            go_wp2_with (first
                              | (go_at_call 19; refine (rmay_may_any _ _ _ _ _ _).mono ?_; rintro e w2 ⟨rfl, ho2⟩; obtain ⟨hR2, hM2, kin, kp2, hb2, hs2, hst2, hi2⟩ := after_may ho2 HR.out HM.out HS.out KP0.out HB.out HI.out HAT.out hRM hwR hwM hRb hMb hsz hlb hB; obtain ⟨kin0, kin1⟩ := kin.two; have kinf := kin.frozen; have kp20 := kp2.one; have kp2f := kp2.frozen; obtain ⟨j0, j1, j2, j3, j4⟩ := hi2; have hb2s : b < w2.heap.size := Nat.lt_trans hblt hs2)
                              | (at_builtin; refine wpList_append_own _ rfl _ _ 82 rfl (w.heap.size + 3) 84 i0 (.agg #[.int .i64 0, .int .i64 0]) 2 16 Try.underlying82 hi hz0 hz1 hz2 rfl (by decide) _ _ _ rfl (hst2.alloc _) ⟨w2.heap.size, 0, none⟩ 1 1 [.int .i64 k, .int .i64 17] rfl rfl (cell_two_new _ _ _ _) (fun x hx => by simp at hx; rcases hx with rfl | rfl <;> rfl) (by have := HL5.out; unfold maxLen; omega) (by have := HL5.out; omega) (by simp; omega) ?_; intro v' w3 hown' hgrow3 hnil3))
                            have hb3 : Below (w.heap.size + 3) w2 w3 := (Below.alloc (Below.refl _ _) (by omega) _).trans (PStack.grown (hst2.alloc _) hgrow3 (by simp; omega))
                            have hr3 := hR2.below hb3 hRb
                            have hm3 := hM2.below hb3 hMb
                            have hB3 := hb2.trans (hb3.mono (by omega))
                            have hs3 := hb3.size
                            go_roundw
                            case rel =>
                              refine ⟨k + 1, by omega, by go_num, HF, HN, ?_, hr3, ?_, hB3, by omega⟩
                              · rw [HSK.out]
                                have := hown'
                                refine PStack.push ?_
                                rw [HO.out]
                                exact this
                              · rw [matR_no (by rw [HO.out]; decide)]
                                exact hm3
                            case measure => simp [intOf]; omega
                          · have d5 : (5 : Int) ≤ (m : Int) + 1 := by omega
                            have d6 : decide ((5 : Int) ≤ (m : Int) + 1) = true := by simp; omega
                            have herr : errAt l k = 9 := by
                              rw [HE.out]
                              have hL := hlen'.out; simp [wrongP, mayP, hmay, endsI, beginsB]; omega
                            have HZ : Hid (runP l = ((k : Int), 9)) := by
                              have hnb : badB l k = true := by simp [badB, herr]
                              have := hfb.out
                              rw [hstep.out, hnb] at this
                              have h9 := runP_bad HSB.out this.symm
                              rw [herr] at h9
                              exact h9
                            clear herr
                            go_wp2_with (go_at_call 19; refine (rmay_may_any _ _ _ _ _ _).mono ?_; rintro e w2 ⟨rfl, ho2⟩; obtain ⟨hR2, hM2, kin, kp2, hb2, hs2, hst2, hi2⟩ := after_may ho2 HR.out HM.out HS.out KP0.out HB.out HI.out HAT.out hRM hwR hwM hRb hMb hsz hlb hB; obtain ⟨kin0, kin1⟩ := kin.two; have kinf := kin.frozen; have kp20 := kp2.one; have kp2f := kp2.frozen; obtain ⟨j0, j1, j2, j3, j4⟩ := hi2; have hb2s : b < w2.heap.size := Nat.lt_trans hblt hs2)
                            exact bodyPost_ret (by simp [results, Try.results40, go_sem]; try rfl) rfl (rpost_bad HZ.out (by decide) (HQ.out _ hb2))
                      · have hbeg : beginsB xop = false := by simp [beginsB, o14, o17]
                        have c15 : (xop == 15) = false := by simpa using o15
                        have c18 : (xop == 18) = false := by simpa using o18
                        have c19 : (xop == 19) = false := by simpa using o19
                        have c16 : (xop == 16) = false := by simpa using o16
                        have c14 : (xop == 14) = false := by simpa using o14
                        have c17 : (xop == 17) = false := by simpa using o17
                        have herr : errAt l k = 0 := by
                          rw [HE.out]
                          simp [wrongP, mayP, hmay, hends, hbeg, o16]
                        have HN : Hid (firstBad (badB l) (l.length - (k + 1)) (k + 1) = firstBad (badB l) l.length 0) := by
                          have hnb : badB l k = false := by simp [badB, herr]
                          have := hfb.out
                          rw [hstep.out, hnb] at this
                          exact this
                        have HF : Hid (fine l (k + 1)) := fun j hj => by
                          rcases Nat.lt_or_ge j k with h1 | h1
                          · exact hfine.out j h1
                          · obtain rfl : j = k := by omega
                            exact herr
                        have HSK : Hid (stk l (k + 1) = ((T : Int) :: r)) := by unfold Hid; rw [stk_succ, HO.out, HST.out]; simp [behindP, tailP, hends, hbeg, o18]
                        clear herr
                        go_wp2_with (go_at_call 19; refine (rmay_may_any _ _ _ _ _ _).mono ?_; rintro e w2 ⟨rfl, ho2⟩; obtain ⟨hR2, hM2, kin, kp2, hb2, hs2, hst2, hi2⟩ := after_may ho2 HR.out HM.out HS.out KP0.out HB.out HI.out HAT.out hRM hwR hwM hRb hMb hsz hlb hB; obtain ⟨kin0, kin1⟩ := kin.two; have kinf := kin.frozen; have kp20 := kp2.one; have kp2f := kp2.frozen; obtain ⟨j0, j1, j2, j3, j4⟩ := hi2; have hb2s : b < w2.heap.size := Nat.lt_trans hblt hs2)
                        go_roundw
                        case rel =>
                          refine ⟨k + 1, by omega, by go_num, HF, HN, ?_, hR2, ?_, hb2, (by omega)⟩
                          · rw [HSK.out]
                            exact hst2
                          · rw [matR_no (by rw [HO.out]; rw [hends]; decide)]
                            exact hM2
                        case measure => simp [intOf]; omega
      · obtain rfl : k = l.length := by omega
        have hz : firstBad (badB l) l.length 0 = none := by
          rw [← hfb.out, Nat.sub_self]
          rfl
        have HF := hfine
        cases hk : stk l l.length with
        | cons t r =>
          have HZ := hide (runP_open HSB.out hz hk)
          rw [hk] at hst hl5
          obtain ⟨Av, vcap, hv, hvc, hvm, hvg⟩ := hst.form
          obtain ⟨g, rfl, hgb, hgl⟩ := hvg (by simp)
          subst hv
          simp only [List.length_cons] at hl5 hvc
          have htop := PStack.top hst
          have htf := hst.frozen
          obtain ⟨ht0', ht1'⟩ := htop
          clear hst hpr HS hR hM hbel kp hk hfb hz
          simp only [List.length_cons]
          generalize r.length = m at *
          unfold maxLen at hvm
          go_wp2
          exact bodyPost_ret (by simp [results, Try.results40, go_sem]; try rfl) rfl (rpost_bad HZ.out (by decide) (HQ.out _ HB.out))
        | nil =>
          have HZ := hide (runP_jumps HSB.out hz hk)
          have hstn : PStack wr (w.heap.size + 3) u6 l [] := by rw [← hk]; exact HS.out
          obtain ⟨Av, vcap, hv, hvc, hvm, _⟩ := hstn.form
          simp only [List.length_nil] at hv
          subst hv
          have HMa : Hid (IntBlk wr M (endB l 0)) := by
            have := HM.out
            rw [matR_full HF.out] at this
            exact this
          have HRa : Hid (IntBlk wr R (regionsP l)) := by
            have := HR.out
            rw [regs_full] at this
            exact this
          clear hst hpr HS hR hM hbel kp hk hfb hz hstn HR HM hRlt hMlt hfine hl5 hvm hvc
          go_wp2
          go_loopw [12] (fun c wq => ∃ k : Nat, k ≤ l.length ∧ c = .int .i64 k ∧ Hid (firstBad (jumpBad l) (l.length - k) k = firstBad (jumpBad l) l.length 0) ∧ IntBlk wq R (regionsP l) ∧ IntBlk wq M (endB l k) ∧ Below (w.heap.size + 1) (w.alloc (.cells #[.slice A l.length cap] 37)) wq ∧ w.heap.size + 3 ≤ wq.heap.size)
            (fun c _ => l.length - (intOf c).toNat)
          case atStart => exact ⟨0, by omega, rfl, rfl, HRa.out, HMa.out, HB.out, hsz⟩
          case round => as_aux_lemma =>
            clear HMa HRa HB hp0 hpf hwlt hsz hRw hMw hww
            obtain ⟨k, hk, rfl, hfb2, hR, hM, hbel, hsz⟩ := hrel
            have hwlt : w.heap.size < wr.heap.size := by omega
            have hpr : ProgIn wr B A l := (HP.out.alloc hB _).keep (hbel.mono (by omega))
            have kp := KP0.out.below hbel (Nat.lt_succ_self _)
            have hp0 := kp.one
            have hpf := kp.frozen
            have hRlt := hR.lt
            have hMlt := hM.lt
            have HR := hide hR
            have HM := hide hM
            have HB := hide hbel
            by_cases hlt : k < l.length
            · obtain ⟨b, o, hA, hlb, hi'⟩ := hpr.at_ hlt
              subst hA
              have hstep := hide (firstBad_step (f := jumpBad l) hlt)
              have hop : opOf l k = (l.getD k PIns.none).op := rfl
              have hjb : jumpBad l k = (jumpsB (opOf l k) && (decide ((l.length : Int) < (l.getD k PIns.none).c) || (decide ((l.getD k PIns.none).c = l.length) && (regAt l k != -1)) ||
                (decide ((l.getD k PIns.none).c < l.length) && (regAt l (l.getD k PIns.none).c.toNat != regAt l k)))) := rfl
              have hcc := fine_c0 HF.out k hlt
              have hRk := hR.cell (regionsP_at hlt)
              have hRf := hR.frozen k
              generalize l.getD k PIns.none = x at *
              obtain ⟨xop, xa, xb, xc, xn⟩ := x
              obtain ⟨i0', i1', i2', i3', i4'⟩ := hi'
              dsimp only at i0' i1' i2' i3' i4' hop hjb hcc
              have HO := hide hop
              rw [hop] at hjb hcc
              have HJ := hide hjb
              have HC := hide hcc
              have hblt : b < wr.heap.size := by omega
              have hkI : (k : Int) < (l.length : Int) := by omega
              have hszw : w.heap.size + 1 ≤ wr.heap.size := by omega
              clear hop hjb hcc hpr kp hbel
              by_cases o16 : xop = 16
              · subst o16
                obtain ⟨hr0, hrk⟩ := reg_ok (HF.out k hlt) (Or.inr HO.out)
                have hes := hide (endB_step_yes (l := l) (k := k) HO.out)
                have HNJ : Hid (jumpBad l k = false) := by unfold Hid; rw [HJ.out]; rfl
                obtain ⟨T, ht⟩ := Int.eq_ofNat_of_zero_le hr0
                have HT := hide ht
                rw [ht] at hRk hrk
                have htl : T < l.length := by omega
                have htI : (T : Int) < (l.length : Int) := by omega
                have hc := hM.cellD 0 (k := T) (by rw [endB_len]; exact htl)
                have hc2 := hM.cellD 0 (k := k) (by rw [endB_len]; exact hlt)
                have hcf := hM.frozen T
                have hcf2 := hM.frozen k
                generalize hold : (endB l k).getD T 0 = old at *
                have HOLD := hide hold
                generalize (endB l k).getD k 0 = old2 at *
                have HN : Hid (firstBad (jumpBad l) (l.length - (k + 1)) (k + 1) = firstBad (jumpBad l) l.length 0) := by
                  have := hfb2.out
                  rw [hstep.out, HNJ.out] at this
                  exact this
                clear hR hM ht hr0 hold
                go_wp2
                go_roundw
                case rel =>
                  refine ⟨k + 1, by omega, by go_num, HN, ?_, ?_, ?_, by simp [World.setCell]; omega⟩
                  · exact ((HR.out.far (p := ⟨M, k, none⟩) hRM _).alloc _)
                  · rw [hes.out, HT.out, Int.toNat_natCast, HOLD.out]
                    exact ((HM.out.set_ k _).alloc _)
                  · exact (HB.out.setCell (p := ⟨M, k, none⟩) (show w.heap.size + 1 ≤ M by omega) _).alloc (by simp [World.setCell]; omega) _
                case measure => simp [intOf]; omega
              · have d16 : (xop == 16) = false := by simpa using o16
                have hes := hide (endB_step_no (l := l) (k := k) (by rw [HO.out]; exact o16))
                clear hM
                by_cases hj : xop = 12 ∨ xop = 13
                · have hjB : jumpsB xop = true := by simpa [jumpsB] using hj
                  obtain ⟨c, rfl⟩ := Int.eq_ofNat_of_zero_le (HC.out hjB)
                  have HJB := hide hjB
                  clear hjB
                  rcases (by omega : l.length < c ∨ c = l.length ∨ c < l.length) with h1 | h1 | h1
                  · have HNJ : Hid (jumpBad l k = true) := by
                      unfold Hid
                      rw [HJ.out, HJB.out]
                      simp; omega
                    have HZ2 : Hid (runP l = ((k : Int), 2)) := HZ.out.trans (jumpsP_some (by have := hfb2.out; rw [hstep.out, HNJ.out] at this; exact this.symm))
                    clear hR o16
                    have e1 : decide (c < l.length) = false := by simp; omega
                    have e2 : (c == l.length) = false := by simp; omega
                    have e3 : ¬ (c < l.length) := by omega
                    have e4 : decide ((c : Int) < (l.length : Int)) = false := by simp; omega
                    have e5 : ((c : Int) == (l.length : Int)) = false := by simp; omega
                    rcases hj with rfl | rfl
                    all_goals
                      go_wp2_with fail
                      go_quiet (fail)
                      go_wp2
                      exact bodyPost_ret (by simp [results, Try.results40, go_sem]; try rfl) rfl (rpost_bad HZ2.out (by decide) (HQ.out _ (below_drewN (HB.out.alloc hszw _) _)))
                  · cases h2 : (regAt l k == -1)
                    · have h3 : (regAt l k != -1) = true := by rw [bne, h2]; rfl
                      have HNJ : Hid (jumpBad l k = true) := by
                        unfold Hid
                        rw [HJ.out, HJB.out]
                        rw [h3]; simp; omega
                      have HZ2 : Hid (runP l = ((k : Int), 2)) := HZ.out.trans (jumpsP_some (by have := hfb2.out; rw [hstep.out, HNJ.out] at this; exact this.symm))
                      clear hR o16
                      clear h3
                      subst h1
                      have e3 : ¬ (l.length < l.length) := by omega
                      have e4 : decide ((l.length : Int) < (l.length : Int)) = false := by simp
                      have e5 : ((l.length : Int) == (l.length : Int)) = true := by simp
                      have e6 : decide (l.length < l.length) = false := by simp
                      have e7 : (l.length == l.length) = true := by simp
                      rcases hj with rfl | rfl
                      all_goals
                        go_wp2_with fail
                        go_quiet (fail)
                        go_wp2
                        exact bodyPost_ret (by simp [results, Try.results40, go_sem]; try rfl) rfl (rpost_bad HZ2.out (by decide) (HQ.out _ (below_drewN (HB.out.alloc hszw _) _)))
                    · have h3 : (regAt l k != -1) = false := by rw [bne, h2]; rfl
                      have HNJ : Hid (jumpBad l k = false) := by
                        unfold Hid
                        rw [HJ.out, HJB.out]
                        rw [h3]; simp; omega
                      have HN : Hid (firstBad (jumpBad l) (l.length - (k + 1)) (k + 1) = firstBad (jumpBad l) l.length 0) := by
                        have := hfb2.out
                        rw [hstep.out, HNJ.out] at this
                        exact this
                      clear hR o16
                      clear h3
                      subst h1
                      have e3 : ¬ (l.length < l.length) := by omega
                      have e4 : decide ((l.length : Int) < (l.length : Int)) = false := by simp
                      have e5 : ((l.length : Int) == (l.length : Int)) = true := by simp
                      have e6 : decide (l.length < l.length) = false := by simp
                      have e7 : (l.length == l.length) = true := by simp
                      rcases hj with rfl | rfl
                      all_goals
                        go_wp2_with fail
                        go_quiet (fail)
                        go_wp2
                        go_roundw
                        case rel => exact ⟨k + 1, by omega, by go_num, HN, (HR.out.alloc _).drewN _, by rw [hes.out]; exact (HM.out.alloc _).drewN _, below_drewN (HB.out.alloc hszw _) _, by simp; omega⟩
                        case measure => simp [intOf]; omega
                  · have hRc := hR.cell (regionsP_at h1)
                    cases h2 : (regAt l c == regAt l k)
                    · have h3 : (regAt l ((c : Nat) : Int).toNat != regAt l k) = true := by rw [Int.toNat_natCast, bne, h2]; rfl
                      have HNJ : Hid (jumpBad l k = true) := by
                        unfold Hid
                        rw [HJ.out, HJB.out]
                        rw [h3]; simp; omega
                      have HZ2 : Hid (runP l = ((k : Int), 2)) := HZ.out.trans (jumpsP_some (by have := hfb2.out; rw [hstep.out, HNJ.out] at this; exact this.symm))
                      clear hR o16
                      clear h3
                      have e1 : decide (c < l.length) = true := by simp; omega
                      have e2 : (c == l.length) = false := by simp; omega
                      have e4 : decide ((c : Int) < (l.length : Int)) = true := by simp; omega
                      have e5 : ((c : Int) == (l.length : Int)) = false := by simp; omega
                      have hcI : (c : Int) < (l.length : Int) := by omega
                      rcases hj with rfl | rfl
                      all_goals
                        go_wp2_with fail
                        go_quiet (fail)
                        go_wp2
                        exact bodyPost_ret (by simp [results, Try.results40, go_sem]; try rfl) rfl (rpost_bad HZ2.out (by decide) (HQ.out _ (below_drewN (HB.out.alloc hszw _) _)))
                    · have h3 : (regAt l ((c : Nat) : Int).toNat != regAt l k) = false := by rw [Int.toNat_natCast, bne, h2]; rfl
                      have HNJ : Hid (jumpBad l k = false) := by
                        unfold Hid
                        rw [HJ.out, HJB.out]
                        rw [h3]; simp; omega
                      have HN : Hid (firstBad (jumpBad l) (l.length - (k + 1)) (k + 1) = firstBad (jumpBad l) l.length 0) := by
                        have := hfb2.out
                        rw [hstep.out, HNJ.out] at this
                        exact this
                      clear hR o16
                      clear h3
                      have e1 : decide (c < l.length) = true := by simp; omega
                      have e2 : (c == l.length) = false := by simp; omega
                      have e4 : decide ((c : Int) < (l.length : Int)) = true := by simp; omega
                      have e5 : ((c : Int) == (l.length : Int)) = false := by simp; omega
                      have hcI : (c : Int) < (l.length : Int) := by omega
                      rcases hj with rfl | rfl
                      all_goals
                        go_wp2_with fail
                        go_quiet (fail)
                        go_wp2
                        go_roundw
                        case rel => exact ⟨k + 1, by omega, by go_num, HN, (HR.out.alloc _).drewN _, by rw [hes.out]; exact (HM.out.alloc _).drewN _, below_drewN (HB.out.alloc hszw _) _, by simp; omega⟩
                        case measure => simp [intOf]; omega
                · have d12 : (xop != 12) = true := by rw [bne_iff_ne]; omega
                  have d13 : (xop != 13) = true := by rw [bne_iff_ne]; omega
                  have HNJ : Hid (jumpBad l k = false) := by
                    unfold Hid
                    rw [HJ.out, show jumpsB xop = false by simpa [jumpsB] using hj]
                    rfl
                  have HN : Hid (firstBad (jumpBad l) (l.length - (k + 1)) (k + 1) = firstBad (jumpBad l) l.length 0) := by
                    have := hfb2.out
                    rw [hstep.out, HNJ.out] at this
                    exact this
                  clear hR o16 hj
                  go_wp2
                  go_roundw
                  case rel => exact ⟨k + 1, by omega, by go_num, HN, HR.out.alloc _, by rw [hes.out]; exact HM.out.alloc _, HB.out.alloc hszw _, by simp; omega⟩
                  case measure => simp [intOf]; omega
            · obtain rfl : k = l.length := by omega
              have hz2 : firstBad (jumpBad l) l.length 0 = none := by
                rw [← hfb2.out, Nat.sub_self]
                rfl
              have HZ2 := hide (HZ.out.trans (jumpsP_none hz2))
              clear hz2 hfb2 hR hM hbel hpr kp
              go_wp2
              exact bodyPost_ret (by simp [results, Try.results40, go_sem]; try rfl) rfl (rpost_ok HZ2.out HR.out HM.out (HQ.out _ HB.out))

theorem rcheck_any (B : Nat) (w : World) (A : Option Addr) (cap : Nat) (l : List PIns) (hp : ProgIn w B A l) (hB : B ≤ w.heap.size) :
    Calls Try.prog 40 #[.agg #[.slice A l.length cap]] w (RCheckPost w l) := by
  cases hs : sizeBad l
  · exact rcheck_big B w A cap l hp hB hs
  · exact rcheck_small w A cap l hs
end Go.Proofs.Ytpdjhkidalafpaa
