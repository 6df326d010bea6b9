/-
  The law CheckSpoilt, walked.
-/
import Derived.Test.YtpdjhkidalafpaaLawSame
import Derived.Test.YtpdjhkidalafpaaKeep
namespace Go.Proofs.Ytpdjhkidalafpaa
open Go.RowKit
set_option linter.unusedVariables false
set_option linter.unusedSimpArgs false

set_option maxRecDepth 100000 in
set_option maxHeartbeats 4000000 in
theorem check_spoilt (w : World) (A : Option Addr) (len cap : Nat) (h1 : ProgArg w A len) (at_ : Int) (wat : 0 ≤ at_ ∧ at_ ≤ 255) (op a b c N : Int) (hx : InsWf op a b c N) (how : Int) (whow : 0 ≤ how ∧ how ≤ 255) :
    Calls Try.prog 9 #[.slice A len cap, .int .u8 at_, .agg #[.int .i64 op, .int .i64 a, .int .i64 b, .int .i64 c, .int .u64 N], .int .u8 how] w fun e w' => e = .returned (.bool true) ∧ Below w.heap.size w w' := by
  obtain ⟨ks, rfl, hm1, hp, hwf⟩ := h1
  obtain ⟨hg1, hg2, hg3⟩ := makeP_good 38 false ks (by decide)
  obtain ⟨P, hP⟩ : ∃ P, makeP 38 false ks = P := ⟨_, rfl⟩
  rw [hP] at hg1 hg2 hg3
  have HMA := hide (make_any)
  have HP := hide hp
  have HWF := hide hwf
  have HPP := hide hP
  have HM1 := hide hm1
  have HG2 := hide hg2
  have HG3 := hide hg3
  have e0 : ((P.length : Int) == 0) = false := by rw [beq_eq_false_iff_ne]; omega
  have e00 : (P.length == 0) = false := by rw [beq_eq_false_iff_ne]; omega
  clear hp hwf hP hm1 hg1 hx
  go_enter Try.func9, Try.ntmps9
  have tok1 : True := trivial
  have KX := Blk.new w 28 #[.int .i64 op, .int .i64 a, .int .i64 b, .int .i64 c, .int .u64 N]
  have HKX := hide KX
  clear KX
  go_wp2_with (first
    | (go_at_call 7; refine (check_runs _).mono ?_; rintro e w1 ⟨rfl, hbel⟩; have HB1 := hide hbel; clear hbel)
    | (go_at_call 25; refine (make_any w1 A cap ks 38 false ((HP.out.keep ((Below.alloc (Below.refl _ _) (Nat.le_refl _) _).trans (HB1.out.mono (by simp)))).more (by have := HB1.out.size; simp at this; omega)) HM1.out HWF.out (by decide)).mono ?_; rintro e w2 ⟨v2, rfl, hrow, hon⟩; rw [HPP.out] at hrow; obtain ⟨A2, cap2, hv2, hin2⟩ := hrow.lies; subst hv2; have HI2 := hide hin2; have HO2 := hide hon; have HR2 := hide hrow; clear hrow hon hin2)
    | (go_at_call 24; have _t := tok1; refine (law_same w2.heap.size _ A2 cap2 P (HI2.out.alloc (Nat.le_refl _) _) (by simp) (by have := HG3.out; omega)).mono ?_; rintro e w4 ⟨rfl, ho4⟩; clear tok1;
        have hs1 : w.heap.size < w1.heap.size := (by have := HB1.out.size; simp at this; omega);
        have hs2 : w1.heap.size ≤ w2.heap.size := HO2.out.size;
        have hs4 : w2.heap.size < w4.heap.size := (by have := ho4.size; simp at this; omega);
        have kx4 : Blk w4 w.heap.size 28 #[.int .i64 op, .int .i64 a, .int .i64 b, .int .i64 c, .int .u64 N] := (((HKX.out.below HB1.out (by simp)).only HO2.out (fun h => h)).alloc _).only ho4 (fun h => h);
        have kp4 : Blk w4 w2.heap.size 37 #[.slice A2 P.length cap2] := (Blk.new _ _ _).only ho4 (fun h => h);
        obtain ⟨q0, q1, q2, q3, q4⟩ := kx4.five; have q5 := kx4.frozen; have q6 := kp4.one; have HKX4 := hide kx4; have HKP4 := hide kp4; have HO4 := hide ho4; clear kx4 kp4 ho4))
  have hw1 : IntKind.i64.wrap ((P.length : Int) + 1) = (P.length : Int) + 1 := IntWalk.i64_in _ (by omega)
  refine wp_region_still_tail 14 (by kernel_rfl) (by kernel_rfl) ?_
  simp only [List.take_succ_cons, List.take_zero, List.drop_succ_cons, List.drop_zero]
  repeat (first | still_step | still_call (within_st _ _ _ _ (by first | decide | omega) (by first | decide | omega) (by first | decide | omega)))
  refine wpStill_nil ?_
  clear hw1
  go_wp2_with fail
  refine abstract_wp (fun w5 => w4.heap.size ≤ w5.heap.size ∧ Only (Ob w.heap.size) w4 w5 ∧ Blk w5 w.heap.size 28 #[.int .i64 (winB op 1 23), .int .i64 (winB a 0 8), .int .i64 0, .int .i64 (winB c 0 ((P.length : Int) + 1)), .int .u64 0]) ⟨by simp [World.setCell], ?_, ?_⟩ ?_
  · repeat' (first | (with_reducible refine Only.set1 ?_ _ _) | (with_reducible refine Only.drew ?_) | (with_reducible exact Only.refl _ _))
  · exact (((((HKX4.out.set_ 0 _).set_ 1 _).set_ 2 _).set_ 3 _).set_ 4 _).drew
  rintro w5 ⟨hs5, ho5, kx5⟩
  have hne : w2.heap.size ≠ w.heap.size := by omega
  have KP5 := hide (HKP4.out.only ho5 hne)
  have hrow5 : PRow w5 (w1.heap.size + 1) (.slice A2 P.length cap2) P := ((HR2.out.alloc _).nob HO4.out).only ho5 (fun g h1 h2 => by unfold Ob at h2; omega)
  have HPI5 : Hid (ProgIn w5 w5.heap.size A2 P) := hrow5.in_
  have KX5 := hide kx5
  have HO5 := hide ho5
  clear hrow5 kx5 ho5 q0 q1 q2 q3 q4 q5 q6
  go_loopw [11, 12] (fun v n wr => ∃ (k : Nat) (l : List PIns), k ≤ P.length ∧ n = .int .i64 k ∧ l.length ≤ 2 * k ∧ Making w5 wr w5.heap.size v (.slice none 0 0) l []) (fun _ n _ => P.length - (intOf n).toNat)
  case atStart => exact ⟨0, [], by omega, rfl, by simp, PRow.nil _ _, Stack.nil _ _, (fun g h => by simp [Value.ownBlock] at h), Below.refl _ _, Nat.le_refl _⟩
  case round =>
    obtain ⟨k, l, hk, rfl, hll, hmk⟩ := hrel
    obtain ⟨A3, cap3, hv⟩ := hmk.row.slice
    subst hv
    have hsz := hmk.size
    have hkp := (KP5.out.below hmk.below (by omega)).one
    obtain ⟨x0, x1, x2, x3, x4⟩ := (KX5.out.below hmk.below (by omega)).five
    have HMK := hide hmk
    have HLL := hide hll
    have hs1' : w.heap.size < wr.heap.size := by omega
    have hs2' : w2.heap.size < wr.heap.size := by omega
    clear hll
    by_cases hlt : k < P.length
    · obtain ⟨b0, o0, hA, hlb, hix⟩ := HPI5.out.at_ hlt
      subst hA
      have hir := hix.keep hmk.below hlb
      generalize P.getD k PIns.none = x at *
      obtain ⟨xo, xa, xb, xc, xn⟩ := x
      have HIX := hide hix
      obtain ⟨y0, y1, y2, y3, y4⟩ := hir
      dsimp only at y0 y1 y2 y3 y4
      have hblt : b0 < wr.heap.size := by omega
      have hkI : (k : Int) < (P.length : Int) := by omega
      have tok1 : True := trivial
      have tok2 : True := trivial
      clear hix hmk
      by_cases hki : (k : Int) = at_ % (P.length : Int)
      · have dA : ((k : Int) == at_ % (P.length : Int)) = true := by rw [beq_iff_eq]; exact hki
        have dA2 : ((k : Int) != at_ % (P.length : Int)) = false := by rw [bne_eq_false_iff_eq]; exact hki
        clear hki
        rcases (by omega : how % 3 = 0 ∨ how % 3 = 1 ∨ how % 3 = 2) with hm | hm | hm
        · go_wp2_with ((at_builtin; have _t := tok1; refine wpList_pushI rfl _ _ rfl HMK.out ((Only.refl Nob wr).alloc _) [⟨winB op 1 23, winB a 0 8, 0, winB c 0 ((P.length : Int) + 1), 0⟩] (G := wr.heap.size) (cnt := 1) (readsP1 ⟨winB op 1 23, winB a 0 8, 0, winB c 0 ((P.length : Int) + 1), 0⟩ _ rfl) rfl rfl rfl (by have := HLL.out; have := HG3.out; (try simp only [List.length_append, List.length_cons, List.length_nil]); omega) ?_; clear tok1; intro A9 c9 w9 hmm hzz; have HM2 := hide hmm; clear hmm))
          go_roundw
          case rel => exact ⟨k + 1, l ++ [⟨winB op 1 23, winB a 0 8, 0, winB c 0 ((P.length : Int) + 1), 0⟩], by omega, by go_num, by have := HLL.out; simp only [List.length_append, List.length_cons, List.length_nil]; omega, HM2.out⟩
          case measure => simp [intOf]; omega
        · go_wp2_with (first
            | (at_builtin; have _t := tok1; refine wpList_pushI rfl _ _ rfl HMK.out ((Only.refl Nob wr).alloc _) [⟨winB op 1 23, winB a 0 8, 0, winB c 0 ((P.length : Int) + 1), 0⟩] (G := wr.heap.size) (cnt := 1) (readsP1 ⟨winB op 1 23, winB a 0 8, 0, winB c 0 ((P.length : Int) + 1), 0⟩ _ rfl) rfl rfl rfl (by have := HLL.out; have := HG3.out; (try simp only [List.length_append, List.length_cons, List.length_nil]); omega) ?_; clear tok1; intro A9 c9 w9 hmm hzz; have kp9 := (KP5.out.below hmm.below (by omega)).one; have hi9 := HIX.out.keep hmm.below hlb; obtain ⟨g0, g1, g2, g3, g4⟩ := hi9; dsimp only at g0 g1 g2 g3 g4; have hb9 : b0 < w9.heap.size := (by omega); have HM2 := hide hmm; clear hmm)
            | (at_builtin; have _t := tok2; refine wpList_pushI rfl _ _ rfl HM2.out ((Only.refl Nob w9).alloc _) [⟨xo, xa, xb, xc, xn⟩] (G := w9.heap.size) (cnt := 1) (readsP1 ⟨xo, xa, xb, xc, xn⟩ _ rfl) rfl rfl rfl (by have := HLL.out; have := HG3.out; (try simp only [List.length_append, List.length_cons, List.length_nil]); omega) ?_; clear tok2; intro A9 c9 w8 hmm hzz; have HM3 := hide hmm; clear hmm))
          go_roundw
          case rel => exact ⟨k + 1, (l ++ [⟨winB op 1 23, winB a 0 8, 0, winB c 0 ((P.length : Int) + 1), 0⟩]) ++ [⟨xo, xa, xb, xc, xn⟩], by omega, by go_num, by have := HLL.out; simp only [List.length_append, List.length_cons, List.length_nil]; omega, (by have h9 := HM3.out; rw [List.length_append] at h9; exact ⟨h9.row, h9.stack, h9.apart, h9.below, h9.size⟩)⟩
          case measure => simp [intOf]; omega
        · go_wp2_with fail
          go_roundw
          case rel => exact ⟨k + 1, l, by omega, by go_num, by have := HLL.out; omega, HMK.out⟩
          case measure => simp [intOf]; omega
      · have dA : ((k : Int) == at_ % (P.length : Int)) = false := by rw [beq_eq_false_iff_ne]; exact hki
        have dA2 : ((k : Int) != at_ % (P.length : Int)) = true := by rw [bne_iff_ne]; exact hki
        go_wp2_with ((at_builtin; have _t := tok1; refine wpList_pushI rfl _ _ rfl HMK.out ((Only.refl Nob wr).alloc _) [⟨xo, xa, xb, xc, xn⟩] (G := wr.heap.size) (cnt := 1) (readsP1 ⟨xo, xa, xb, xc, xn⟩ _ rfl) rfl rfl rfl (by have := HLL.out; have := HG3.out; (try simp only [List.length_append, List.length_cons, List.length_nil]); omega) ?_; clear tok1; intro A9 c9 w9 hmm hzz; have HM2 := hide hmm; clear hmm))
        go_roundw
        case rel => exact ⟨k + 1, l ++ [⟨xo, xa, xb, xc, xn⟩], by omega, by go_num, by have := HLL.out; simp only [List.length_append, List.length_cons, List.length_nil]; omega, HM2.out⟩
        case measure => simp [intOf]; omega
    · obtain rfl : k = P.length := by omega
      have HIN : Hid (ProgIn wr wr.heap.size A3 l) := hmk.row.in_
      have tok2 : True := trivial
      clear hmk
      go_wp2_with (go_at_call 24; refine (law_same wr.heap.size _ A3 cap3 l HIN.out (Nat.le_refl _) (by have := HLL.out; have := HG3.out; omega)).mono ?_; rintro e w6 ⟨rfl, ho6⟩)
      go_ret
      refine ⟨rfl, ?_⟩
      have hc0 : Below w.heap.size w w1 := (Below.alloc (Below.refl _ _) (Nat.le_refl _) _).trans (HB1.out.mono (by simp))
      have hc1 : Below w.heap.size w1 w2 := below_nob HO2.out (by omega)
      have hc2 : Below w.heap.size w2 w4 := (Below.alloc (Below.refl _ _) (by omega) _).trans (below_nob HO4.out (by simp; omega))
      have hc3 : Below w.heap.size w4 w5 := HO5.out.below (by omega) (fun g h => by unfold Ob at h; omega)
      exact (((hc0.trans hc1).trans hc2).trans hc3).trans ((HMK.out.below.mono (by omega)).trans (below_nob ho6 (by omega)))
end Go.Proofs.Ytpdjhkidalafpaa
