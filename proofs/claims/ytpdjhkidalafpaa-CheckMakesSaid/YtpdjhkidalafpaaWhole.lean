/-
  The law CheckMakes, walked.
-/
import Derived.Test.YtpdjhkidalafpaaKeep
namespace Go.Proofs.Ytpdjhkidalafpaa
open Go.RowKit
set_option linter.unusedVariables false
set_option linter.unusedSimpArgs false

theorem run_good (B : Nat) (w : World) (A : Option Addr) (cap : Nat) (l : List PIns) (hp : ProgIn w B A l) (hB : B ≤ w.heap.size) (hn : l.length ≤ 1000) (hr : runP l = (0, 0)) :
    Calls Try.prog 20 #[.agg #[.slice A l.length cap]] w fun e w' => e = .returned (.tuple #[.int .i64 0, .int .i64 0]) ∧ Only Nob w w' := by
  have := run_any B w A cap l hp hB hn
  rw [hr] at this
  exact this
theorem matchP_at {l : List PIns} {k : Nat} {v : Int} (hl : (matchP l).length = l.length) (hk : k < l.length) (hv : (matchP l).getD k 0 = v) : (matchP l)[k]? = some v := by
  rw [List.getD_eq_getElem?_getD, List.getElem?_eq_getElem (by omega)] at hv
  rw [List.getElem?_eq_getElem (by omega)]
  exact congrArg some hv
def deepAt (l : List PIns) (k : Nat) : Nat := (stk l k).length

set_option maxRecDepth 100000 in
set_option maxHeartbeats 8000000 in
theorem check_makes (w : World) (A : Option Addr) (len cap : Nat) (h1 : ProgArg w A len) (most : Int) (wm : 0 ≤ most ∧ most ≤ 255) :
    Calls Try.prog 10 #[.slice A len cap, .int .u8 most] w fun e w' => e = .returned (.bool true) ∧ Below w.heap.size w w' := by
  obtain ⟨ks, rfl, hm1, hp, hwf⟩ := h1
  have hm0 : 0 ≤ most % 40 := Int.emod_nonneg _ (by decide)
  have hm40 : most % 40 < 40 := Int.emod_lt_of_pos _ (by decide)
  obtain ⟨hg1, hg2, hg3⟩ := makeP_good (most % 40 + 1) false ks (by omega)
  obtain ⟨P, hP⟩ : ∃ P, makeP (most % 40 + 1) false ks = P := ⟨_, rfl⟩
  rw [hP] at hg1 hg2 hg3
  have hok := ok_of_good hg1 hg2 hg3
  have HRUN : Hid (runP P = (0, 0)) := run_of_good hg1 hg2 hg3
  have HML : Hid ((matchP P).length = P.length) := by unfold Hid matchP; rw [if_pos hok, endB_len]
  have HRP : Hid (regionP P = regionsP P) := by unfold Hid regionP; rw [if_pos hok]
  have HRL : Hid ((regionP P).length = P.length) := by unfold Hid; rw [HRP.out, regionsP_len]
  have HP := hide hp
  have HWF := hide hwf
  have HPP := hide hP
  have HM1 := hide hm1
  have HG1 := hide hg1
  have HG2 := hide hg2
  have HG3 := hide hg3
  have HOK := hide hok
  have HMO : Hid (most % 40 + 1 ≤ 40) := by unfold Hid; omega
  clear hp hwf hP hm1 hg1 hok
  go_enter Try.func10, Try.ntmps10
  go_upto_region 5 with (first
    | (go_at_call 7; refine (check_runs _).mono ?_; rintro e w1 ⟨rfl, hbel⟩; have HB1 := hide hbel; clear hbel)
    | (go_at_call 25; refine (make_any w1 A cap ks (most % 40 + 1) false ((HP.out.keep HB1.out).more HB1.out.size) HM1.out HWF.out HMO.out).mono ?_; rintro e w2 ⟨v2, rfl, hrow, hon⟩; rw [HPP.out] at hrow; obtain ⟨A2, cap2, hv2, hin2⟩ := hrow.lies; subst hv2; have HI2 := hide hin2; have HO2 := hide hon; have HR2 := hide hrow; clear hrow hon hin2)
    | (go_at_call 20; refine (run_good w2.heap.size _ A2 cap2 P (HI2.out.alloc (Nat.le_refl _) _) (by simp) (by have := HG3.out; omega) HRUN.out).mono ?_; rintro e w4 ⟨rfl, ho4⟩;
        have hs2 : w1.heap.size ≤ w2.heap.size := HO2.out.size;
        have hs4 : w2.heap.size < w4.heap.size := (by have := ho4.size; simp at this; omega);
        have kp4 : Blk w4 w2.heap.size 37 #[.slice A2 P.length cap2] := (Blk.new _ _ _).only ho4 (fun h => h);
        have q6 := kp4.one; have HKP4 := hide kp4; have HO4 := hide ho4; clear ho4))
  have HI4 : Hid (ProgIn w4 w2.heap.size A2 P) := (HI2.out.alloc (Nat.le_refl _) _).keep (below_nob HO4.out (by simp))
  go_cut [8, 9] (fun r m wx => ∃ gr cr gm cm, r = .slice (some ⟨gr, 0, none⟩) P.length cr ∧ m = .slice (some ⟨gm, 0, none⟩) P.length cm ∧ IntBlk wx gr (regionP P) ∧ IntBlk wx gm (matchP P) ∧ Only Nob w4 wx)
  case first =>
    go_region_with (first
      | (go_at_call 21; refine (region_any w2.heap.size _ A2 cap2 P HI4.out.drew (show w2.heap.size ≤ w4.heap.size by omega) (by have := HG3.out; omega)).mono ?_; rintro e w5 ⟨v5, rfl, hv5, ho5⟩; have kp5 := (HKP4.out.drew).only ho5 (fun h => h); have q7 := kp5.one; have q8 := ho5.size)
      | (go_at_call 22; refine (match_any w2.heap.size _ A2 cap2 P ((show ProgIn w4.drew w2.heap.size A2 P from HI4.out).keep (below_nob ho5 (show w2.heap.size ≤ w4.heap.size by omega))) (Nat.le_trans (show w2.heap.size ≤ w4.heap.size by omega) ho5.size) (by have := HG3.out; omega)).mono ?_; rintro e w6 ⟨v6, rfl, hv6, ho6⟩))
    all_goals
      have hv5' := hv5.only ho6
      obtain ⟨gr, cr, hvr, hbr⟩ := hv5'.pos HRL.out HG2.out
      obtain ⟨gm, cm, hvm, hbm⟩ := hv6.pos HML.out HG2.out
      subst hvr
      subst hvm
      have hox : Only Nob w4 w6 := Only.trans (Only.trans ((Only.refl _ _).drew) ho5) ho6
      go_wp2_with fail
      go_meet
      exact ⟨gr, cr, gm, cm, rfl, rfl, hbr, hbm, hox⟩
  case rest =>
    obtain ⟨gr, cr, gm, cm, rfl, rfl, hbr, hbm, hox⟩ := hcut
    rw [HRP.out] at hbr
    have HBR := hide hbr
    have HBM := hide hbm
    have HOX := hide hox
    have kpx := (HKP4.out.only hox (fun h => h)).one
    have HIX : Hid (ProgIn wc w2.heap.size A2 P) := HI4.out.keep (below_nob hox (by omega))
    have hsx := hox.size
    clear hbr hbm hox q6
    have HBX : Hid (Below w.heap.size w wc) := HB1.out.trans ((below_nob HO2.out (by have := HB1.out.size; omega)).trans ((Below.alloc (Below.refl _ _) (by have := HB1.out.size; omega) _).trans ((below_nob HO4.out (by have := HB1.out.size; simp; omega)).trans (below_nob HOX.out (by have := HB1.out.size; omega)))))
    go_wp2_with fail
    go_loopw [10, 11] (fun d c wr => ∃ k n : Nat, k ≤ P.length ∧ c = .int .i64 k ∧ d = .int .i64 (deepAt P k) ∧ wr = wc.drewN n) (fun _ c _ => P.length - (intOf c).toNat)
    case atStart => exact ⟨0, 0, by omega, rfl, rfl, rfl⟩
    case round =>
      obtain ⟨k, nd, hk, rfl, rfl, rfl⟩ := hrel
      by_cases hlt : k < P.length
      · obtain ⟨hE, hF, hS, _, _⟩ := runP_ok HOK.out
        have hek := hF k hlt
        have hdp := stk_deep hek
        have hd5 := stk_len (l := P) (k := k + 1) (fun j hj => hF j (by omega))
        have hma := match_at HOK.out k hlt
        obtain ⟨r1, r2, r3⟩ := regAt_lt P k
        have cr0 := HBR.out.cell (regionsP_at hlt)
        obtain ⟨b0, o0, hA, hlb, hix⟩ := HIX.out.at_ hlt
        subst hA
        have HE := hide hek
        have HMA := hide hma
        have hdk : Hid (deepAt P (k + 1) = (stk P (k + 1)).length) := rfl
        have hdk0 : Hid (deepAt P k = (stk P k).length) := rfl
        have hop0 : Hid (opOf P k = (P.getD k PIns.none).op) := rfl
        generalize P.getD k PIns.none = x at *
        obtain ⟨xo, xa, xb, xc, xn⟩ := x
        obtain ⟨y0, y1, y2, y3, y4⟩ := hix
        dsimp only at y0 y1 y2 y3 y4 hop0
        rw [hop0.out] at hdp
        have hkI : (k : Int) < (P.length : Int) := by omega
        rw [← hdk.out, ← hdk0.out] at hdp
        rw [← hdk.out] at hd5
        generalize hgd : deepAt P k = dp at *
        generalize hgd1 : deepAt P (k + 1) = d1 at *
        have HGD1 := hide hgd1
        generalize hri : regAt P k = ri at *
        have HRI := hide hri
        clear hek hma hF hE hS hgd hgd1 hri hdk hdk0 y1 y2 y3 y4
        have s1 : decide ((k : Int) ≤ ri) = false := by simp; omega
        have s2 : decide (ri < -1) = false := by simp; omega
        rcases (by omega : xo = 14 ∨ xo = 17 ∨ xo = 18 ∨ xo = 15 ∨ xo = 19 ∨ xo = 16 ∨ (xo ≠ 14 ∧ xo ≠ 17 ∧ xo ≠ 18 ∧ xo ≠ 15 ∧ xo ≠ 19 ∧ xo ≠ 16)) with hop | hop | hop | hop | hop | hop | hop
        · as_aux_lemma =>
            subst hop
            have hmb := HMA.out.begins (by rw [hop0.out]; decide)
            obtain ⟨j, hmj, hj1, hj2, hj3⟩ := hmb
            have cm0 := HBM.out.cell (matchP_at HML.out hlt hmj)
            have cr1 := HBR.out.cell (regionsP_at hj2)
            rw [hj3] at cr1
            have hjI : (j : Int) < (P.length : Int) := by omega
            have v1 : decide ((0 : Int) ≤ (j : Int)) = true := decide_eq_true (by omega)
            have v2 : decide ((j : Int) ≤ (k : Int)) = false := decide_eq_false (by omega)
            have v3 : decide ((P.length : Int) ≤ (j : Int)) = false := decide_eq_false (by omega)
            have v4 : decide (j ≤ k) = false := decide_eq_false (by omega)
            have v5 : decide (P.length ≤ j) = false := decide_eq_false (by omega)
            have hdp1 : (d1 : Int) = (dp : Int) + 1 := by rw [if_pos (by decide)] at hdp; exact hdp
            have hb5 : dp + 1 ≤ 5 := by omega
            have z1 : decide ((dp : Int) + 1 < 0) = false := decide_eq_false (by omega)
            have z2 : decide ((6 : Int) ≤ (dp : Int) + 1) = false := decide_eq_false (by omega)
            clear hmj hj3 hdp
            go_wp2_with fail
            go_quiet (fail)
            go_wp2_with fail
            go_quiet (fail)
            go_wp2_with fail
            go_roundw
            case rel => exact ⟨k + 1, _, by omega, by go_num, by rw [HGD1.out]; first | rfl | (congr 1; omega), rfl⟩
            case measure => simp [intOf]; omega
        · as_aux_lemma =>
            subst hop
            have hmb := HMA.out.begins (by rw [hop0.out]; decide)
            obtain ⟨j, hmj, hj1, hj2, hj3⟩ := hmb
            have cm0 := HBM.out.cell (matchP_at HML.out hlt hmj)
            have cr1 := HBR.out.cell (regionsP_at hj2)
            rw [hj3] at cr1
            have hjI : (j : Int) < (P.length : Int) := by omega
            have v1 : decide ((0 : Int) ≤ (j : Int)) = true := decide_eq_true (by omega)
            have v2 : decide ((j : Int) ≤ (k : Int)) = false := decide_eq_false (by omega)
            have v3 : decide ((P.length : Int) ≤ (j : Int)) = false := decide_eq_false (by omega)
            have v4 : decide (j ≤ k) = false := decide_eq_false (by omega)
            have v5 : decide (P.length ≤ j) = false := decide_eq_false (by omega)
            have hdp1 : (d1 : Int) = (dp : Int) + 1 := by rw [if_pos (by decide)] at hdp; exact hdp
            have hb5 : dp + 1 ≤ 5 := by omega
            have z1 : decide ((dp : Int) + 1 < 0) = false := decide_eq_false (by omega)
            have z2 : decide ((6 : Int) ≤ (dp : Int) + 1) = false := decide_eq_false (by omega)
            clear hmj hj3 hdp
            go_wp2_with fail
            go_quiet (fail)
            go_wp2_with fail
            go_quiet (fail)
            go_wp2_with fail
            go_roundw
            case rel => exact ⟨k + 1, _, by omega, by go_num, by rw [HGD1.out]; first | rfl | (congr 1; omega), rfl⟩
            case measure => simp [intOf]; omega
        · as_aux_lemma =>
            subst hop
            have hmb := HMA.out.begins (by rw [hop0.out]; decide)
            obtain ⟨j, hmj, hj1, hj2, hj3⟩ := hmb
            have cm0 := HBM.out.cell (matchP_at HML.out hlt hmj)
            have cr1 := HBR.out.cell (regionsP_at hj2)
            rw [hj3] at cr1
            have hjI : (j : Int) < (P.length : Int) := by omega
            have v1 : decide ((0 : Int) ≤ (j : Int)) = true := decide_eq_true (by omega)
            have v2 : decide ((j : Int) ≤ (k : Int)) = false := decide_eq_false (by omega)
            have v3 : decide ((P.length : Int) ≤ (j : Int)) = false := decide_eq_false (by omega)
            have v4 : decide (j ≤ k) = false := decide_eq_false (by omega)
            have v5 : decide (P.length ≤ j) = false := decide_eq_false (by omega)
            have hdp1 : (d1 : Int) = (dp : Int) + 0 := by rw [if_neg (by decide), if_neg (by decide)] at hdp; exact hdp
            have hb5 : dp + 0 ≤ 5 := by omega
            have z1 : decide ((dp : Int) < 0) = false := decide_eq_false (by omega)
            have z2 : decide ((6 : Int) ≤ (dp : Int)) = false := decide_eq_false (by omega)
            have z3 : decide (6 ≤ dp) = false := decide_eq_false (by omega)
            clear hmj hj3 hdp
            go_wp2_with fail
            go_quiet (fail)
            go_wp2_with fail
            go_quiet (fail)
            go_wp2_with fail
            go_roundw
            case rel => exact ⟨k + 1, _, by omega, by go_num, by rw [HGD1.out]; first | rfl | (congr 1; omega), rfl⟩
            case measure => simp [intOf]; omega
        · as_aux_lemma =>
            subst hop
            have hmo := HMA.out.other (by rw [hop0.out]; decide) (by rw [hop0.out]; decide) (by rw [hop0.out]; decide) (by rw [hop0.out]; decide)
            have cm0 := HBM.out.cell (matchP_at HML.out hlt hmo)
            have hdp1 : (d1 : Int) = (dp : Int) + -1 := by rw [if_neg (by decide), if_pos (by decide)] at hdp; exact hdp
            have hb5 : 1 ≤ dp ∧ dp ≤ 6 := by omega
            have z1 : decide ((dp : Int) - 1 < 0) = false := decide_eq_false (by omega)
            have z2 : decide ((6 : Int) ≤ (dp : Int) - 1) = false := decide_eq_false (by omega)
            clear hmo hdp
            go_wp2_with fail
            go_quiet (fail)
            go_wp2_with fail
            go_quiet (fail)
            go_wp2_with fail
            go_roundw
            case rel => exact ⟨k + 1, _, by omega, by go_num, by rw [HGD1.out]; first | rfl | (congr 1; omega), rfl⟩
            case measure => simp [intOf]; omega
        · as_aux_lemma =>
            subst hop
            have hmo := HMA.out.other (by rw [hop0.out]; decide) (by rw [hop0.out]; decide) (by rw [hop0.out]; decide) (by rw [hop0.out]; decide)
            have cm0 := HBM.out.cell (matchP_at HML.out hlt hmo)
            have hdp1 : (d1 : Int) = (dp : Int) + -1 := by rw [if_neg (by decide), if_pos (by decide)] at hdp; exact hdp
            have hb5 : 1 ≤ dp ∧ dp ≤ 6 := by omega
            have z1 : decide ((dp : Int) - 1 < 0) = false := decide_eq_false (by omega)
            have z2 : decide ((6 : Int) ≤ (dp : Int) - 1) = false := decide_eq_false (by omega)
            clear hmo hdp
            go_wp2_with fail
            go_quiet (fail)
            go_wp2_with fail
            go_quiet (fail)
            go_wp2_with fail
            go_roundw
            case rel => exact ⟨k + 1, _, by omega, by go_num, by rw [HGD1.out]; first | rfl | (congr 1; omega), rfl⟩
            case measure => simp [intOf]; omega
        · as_aux_lemma =>
            subst hop
            have hmu := HMA.out.undo (by rw [hop0.out])
            obtain ⟨j, r, hmj, hj1, hj2, hr0, hr1, hmr⟩ := hmu
            rw [HRI.out] at hr0
            subst hr0
            have cm0 := HBM.out.cell (matchP_at HML.out hlt hmj)
            have cm1 := HBM.out.cell (matchP_at HML.out hr1 hmr)
            have hjI : (j : Int) < (P.length : Int) := by omega
            have v1 : decide ((0 : Int) ≤ (j : Int)) = true := decide_eq_true (by omega)
            have v2 : decide ((j : Int) ≤ (k : Int)) = false := decide_eq_false (by omega)
            have v3 : decide ((P.length : Int) ≤ (j : Int)) = false := decide_eq_false (by omega)
            have v4 : decide (j ≤ k) = false := decide_eq_false (by omega)
            have v5 : decide (P.length ≤ j) = false := decide_eq_false (by omega)
            have s3 : decide (k ≤ r) = false := decide_eq_false (by omega)
            have s4 : decide ((r : Int) < 0) = false := decide_eq_false (by omega)
            have hrI : (r : Int) < (P.length : Int) := by omega
            have hdp1 : (d1 : Int) = (dp : Int) + 0 := by rw [if_neg (by decide), if_neg (by decide)] at hdp; exact hdp
            have hb5 : dp ≤ 5 := by omega
            have z1 : decide ((dp : Int) < 0) = false := decide_eq_false (by omega)
            have z2 : decide ((6 : Int) ≤ (dp : Int)) = false := decide_eq_false (by omega)
            have z3 : decide (6 ≤ dp) = false := decide_eq_false (by omega)
            clear hmj hmr hdp
            go_wp2_with fail
            go_quiet (fail)
            go_wp2_with fail
            go_quiet (fail)
            go_wp2_with fail
            go_roundw
            case rel => exact ⟨k + 1, _, by omega, by go_num, by rw [HGD1.out]; first | rfl | (congr 1; omega), rfl⟩
            case measure => simp [intOf]; omega
        · as_aux_lemma =>
            obtain ⟨n14, n17, n18, n15, n19, n16⟩ := hop
            have hmo := HMA.out.other (by rw [hop0.out]; exact n14) (by rw [hop0.out]; exact n17) (by rw [hop0.out]; exact n18) (by rw [hop0.out]; exact n16)
            have cm0 := HBM.out.cell (matchP_at HML.out hlt hmo)
            have hdp1 : (d1 : Int) = (dp : Int) + 0 := by rw [if_neg (by omega), if_neg (by omega)] at hdp; exact hdp
            have hb5 : dp ≤ 5 := by omega
            have e14 : (xo == 14) = false := by simpa using n14
            have e15 : (xo == 15) = false := by simpa using n15
            have e16 : (xo == 16) = false := by simpa using n16
            have e17 : (xo == 17) = false := by simpa using n17
            have e18 : (xo == 18) = false := by simpa using n18
            have e19 : (xo == 19) = false := by simpa using n19
            have z1 : decide ((dp : Int) < 0) = false := decide_eq_false (by omega)
            have z2 : decide ((6 : Int) ≤ (dp : Int)) = false := decide_eq_false (by omega)
            have z3 : decide (6 ≤ dp) = false := decide_eq_false (by omega)
            clear hmo hdp n14 n15 n16 n17 n18 n19
            go_wp2_with fail
            go_quiet (fail)
            go_wp2_with fail
            go_quiet (fail)
            go_wp2_with fail
            go_roundw
            case rel => exact ⟨k + 1, _, by omega, by go_num, by rw [HGD1.out]; first | rfl | (congr 1; omega), rfl⟩
            case measure => simp [intOf]; omega
      · obtain rfl : k = P.length := by omega
        have hd0 : deepAt P P.length = 0 := by unfold deepAt; rw [(runP_ok HOK.out).2.2.1]; rfl
        rw [hd0]
        go_wp2
        go_ret
        exact ⟨rfl, below_drewN HBX.out _⟩
end Go.Proofs.Ytpdjhkidalafpaa
