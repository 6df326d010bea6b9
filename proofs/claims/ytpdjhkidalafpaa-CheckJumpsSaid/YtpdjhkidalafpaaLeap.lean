/-
  The law CheckJumps, walked.
-/
import Derived.Test.YtpdjhkidalafpaaKeep
namespace Go.Proofs.Ytpdjhkidalafpaa
open Go.RowKit
set_option linter.unusedVariables false
set_option linter.unusedSimpArgs false

/-- A copy of a program by an append onto nil. -/
theorem wpList_copyI {w : World} {base cap0 : Nat} {A0 : Option Addr} {l : List PIns} {ops : Array Oper} {rest : List Oper} {o : Oper} {a : Act} {Q : Exit → Act → World → Prop} (hgd : o.guard = none) (x : Operand)
    (ho : o.op = .call { callee := .builtin .append, args := #[.const (.slice none 0 0), x], argTypes := #[35, 35] })
    (hp : PRow w base (.slice A0 l.length cap0) l) (hl0 : 0 < l.length) (hx : a.eval x = .slice A0 l.length cap0) (hl : l.length ≤ 1000)
    (h : ∀ g cap w', PRow w' w.heap.size (.slice (some ⟨g, 0, none⟩) l.length cap) l → w.heap.size ≤ g → g < w'.heap.size → Only Nob w w' → l.length ≤ cap → cap ≤ maxLen →
      wpList Try.prog ops Q rest (a.put o.dst (.slice (some ⟨g, 0, none⟩) l.length cap)) w') : wpList Try.prog ops Q (o :: rest) a w := by
  obtain ⟨i0, hi, hz0, hz1, hz2⟩ := info_parts infoIns
  refine wpList_append_any _ hgd (.const (.slice none 0 0)) x 35 ho w.heap.size 28 i0 (.agg #[.int .i64 0, .int .i64 0, .int .i64 0, .int .i64 0, .int .u64 0]) 5 40 Try.underlying35 hi hz0 hz1 hz2 rfl (by decide) (.slice none 0 0) 0 [] rfl
    ⟨by simp, .inl ⟨rfl, rfl⟩⟩ w.heap.size A0 l.length cap0 (progCells l) hx (Reads.of_own hp) (progCells_ones l) (by unfold maxLen; omega) (by omega) (Nat.le_refl _) ?_
  intro v' w' hown hgrow _
  have hrow : PRow w' w.heap.size v' l := by simpa [PRow] using hown
  have hon : Only Nob w w' := Only.of_grown hgrow (fun k hk _ => by simp [Value.ownBlock] at hk)
  rcases hrow.2 with ⟨_, h0⟩ | ⟨g, cap, cur, hv, hg, hh, hn, hc, _, _⟩
  · omega
  · subst hv
    have hlt : g < w'.heap.size := by
      rcases Nat.lt_or_ge g w'.heap.size with hlt | hge
      · exact hlt
      · rw [Array.getElem?_eq_none hge] at hh; cases hh
    exact h g cap w' hrow hg hlt hon hn hc

theorem progCells_set (l : List PIns) (i : Nat) (x : PIns) (hi : i < l.length) :
    ((((((progCells l).set (i * 5) (.int .i64 x.op)).set (i * 5 + 1) (.int .i64 x.a)).set (i * 5 + 2) (.int .i64 x.b)).set (i * 5 + 3) (.int .i64 x.c)).set (i * 5 + 4) (.int .u64 x.n)) = progCells (l.set i x) := by
  induction l generalizing i with
  | nil => simp at hi
  | cons y r ih =>
    cases i with
    | zero => simp [progCells, insCells]
    | succ i =>
      have := ih i (by simpa using hi)
      simp only [progCells, List.flatMap_cons, List.set_cons_succ] at this ⊢
      rw [← this]
      have e : ∀ (m : Nat) (u : Value) (t : List Value), (insCells y ++ t).set ((i + 1) * 5 + m) u = insCells y ++ t.set (i * 5 + m) u := fun m u t => by
        rw [List.set_append_right _ _ (by simp [insCells]; omega)]
        congr 1
        congr 1
        simp [insCells]
        omega
      have e0 := e 0
      simp only [Nat.add_zero] at e0
      rw [e0, e, e, e, e]
theorem PRow.set5 {w : World} {base g cap : Nat} {l : List PIns} (h : PRow w base (.slice (some ⟨g, 0, none⟩) l.length cap) l) {i : Nat} (hi : i < l.length) (x : PIns) :
    PRow (((((w.setCell ⟨g, i * 5, none⟩ (.int .i64 x.op)).setCell ⟨g, i * 5 + 1, none⟩ (.int .i64 x.a)).setCell ⟨g, i * 5 + 2, none⟩ (.int .i64 x.b)).setCell ⟨g, i * 5 + 3, none⟩ (.int .i64 x.c)).setCell ⟨g, i * 5 + 4, none⟩ (.int .u64 x.n)) base
      (.slice (some ⟨g, 0, none⟩) l.length cap) (l.set i x) := by
  have h1 := (World.ownsRow.stored h (i * 5) (.int .i64 x.op)).1
  have h2 := (World.ownsRow.stored h1 (i * 5 + 1) (.int .i64 x.a)).1
  have h3 := (World.ownsRow.stored h2 (i * 5 + 2) (.int .i64 x.b)).1
  have h4 := (World.ownsRow.stored h3 (i * 5 + 3) (.int .i64 x.c)).1
  have h5 := (World.ownsRow.stored h4 (i * 5 + 4) (.int .u64 x.n)).1
  rw [progCells_set l i x hi] at h5
  unfold PRow
  rw [List.length_set]
  exact h5
theorem PRow.old5 {w : World} {base g cap : Nat} {l : List PIns} (h : PRow w base (.slice (some ⟨g, 0, none⟩) l.length cap) l) {i : Nat} (hi : i < l.length) :
    ∃ a0 a1 a2 a3 a4, w.cell? ⟨g, i * 5, none⟩ = some (.int .i64 a0) ∧ w.cell? ⟨g, i * 5 + 1, none⟩ = some (.int .i64 a1) ∧ w.cell? ⟨g, i * 5 + 2, none⟩ = some (.int .i64 a2) ∧ w.cell? ⟨g, i * 5 + 3, none⟩ = some (.int .i64 a3) ∧ w.cell? ⟨g, i * 5 + 4, none⟩ = some (.int .u64 a4) := by
  have hc : ∀ j v, (insCells l[i])[j]? = some v → w.cell? ⟨g, i * 5 + j, none⟩ = some v := fun j v hj => by
    have hlt : j < 5 := (List.getElem?_eq_some_iff.1 hj).1
    rw [World.ownsRow.cellAt h (i * 5 + j) (by omega)]
    exact progCells_at l i j _ v (List.getElem?_eq_getElem hi) hj
  exact ⟨_, _, _, _, _, hc 0 _ rfl, hc 1 _ rfl, hc 2 _ rfl, hc 3 _ rfl, hc 4 _ rfl⟩

theorem run_set (w : World) (g cap : Nat) (l : List PIns) (i : Nat) (j : Int) (v : Int × Int) (hp : ProgIn w w.heap.size (some ⟨g, 0, none⟩) (l.set i ⟨12, 0, 0, j, 0⟩)) (hn : l.length ≤ 1000) (hv : runP (l.set i ⟨12, 0, 0, j, 0⟩) = v) :
    Calls Try.prog 20 #[.agg #[.slice (some ⟨g, 0, none⟩) l.length cap]] w fun e w' => e = .returned (.tuple #[.int .i64 v.1, .int .i64 v.2]) ∧ Only Nob w w' := by
  have := run_any w.heap.size w (some ⟨g, 0, none⟩) cap (l.set i ⟨12, 0, 0, j, 0⟩) hp (Nat.le_refl _) (by simpa using hn)
  rw [hv, List.length_set] at this
  exact this

set_option maxRecDepth 100000 in
set_option maxHeartbeats 4000000 in
theorem check_leap (w : World) (A : Option Addr) (len cap : Nat) (h1 : ProgArg w A len) (at_ : Int) (wat : 0 ≤ at_ ∧ at_ ≤ 255) (to_ : Int) (wto : 0 ≤ to_ ∧ to_ ≤ 255) :
    Calls Try.prog 11 #[.slice A len cap, .int .u8 at_, .int .u8 to_] w fun e w' => e = .returned (.bool true) ∧ Below w.heap.size w w' := by
  obtain ⟨ks, rfl, hm1, hp, hwf⟩ := h1
  obtain ⟨hg1, hg2, hg3⟩ := makeP_good 38 true ks (by decide)
  obtain ⟨P, hP⟩ : ∃ P, makeP 38 true ks = P := ⟨_, rfl⟩
  rw [hP] at hg1 hg2 hg3
  have HP := hide hp
  have HWF := hide hwf
  have HPP := hide hP
  have HM1 := hide hm1
  have HG1 := hide hg1
  have HG2 := hide hg2
  have HG3 := hide hg3
  have hrl : (regionP P).length = P.length := by unfold regionP; rw [if_pos (ok_of_good hg1 hg2 hg3), regionsP_len]
  have HRL := hide hrl
  have HRP : Hid (regionP P = regionsP P) := by unfold Hid regionP; rw [if_pos (ok_of_good hg1 hg2 hg3)]
  have e0 : ((P.length : Int) == 0) = false := by rw [beq_eq_false_iff_ne]; omega
  have e00 : (P.length == 0) = false := by rw [beq_eq_false_iff_ne]; omega
  obtain ⟨i, hi⟩ : ∃ i : Nat, at_ % (P.length : Int) = (i : Int) := ⟨(at_ % (P.length : Int)).toNat, (Int.toNat_of_nonneg (Int.emod_nonneg _ (by omega))).symm⟩
  obtain ⟨j, hj⟩ : ∃ j : Nat, to_ % ((P.length : Int) + 1) = (j : Int) := ⟨(to_ % ((P.length : Int) + 1)).toNat, (Int.toNat_of_nonneg (Int.emod_nonneg _ (by omega))).symm⟩
  have hil : i < P.length := by have := Int.emod_lt_of_pos at_ (by omega : 0 < (P.length : Int)); omega
  have hjl : j ≤ P.length := by have := Int.emod_lt_of_pos to_ (by omega : 0 < (P.length : Int) + 1); omega
  have HI := hide hi
  have HJ := hide hj
  clear hp hwf hP hm1 hg1 hrl hi hj
  go_enter Try.func11, Try.ntmps11
  go_wp2_with (first
    | (go_at_call 7; refine (check_runs _).mono ?_; rintro e w1 ⟨rfl, hbel⟩; have HB1 := hide hbel; clear hbel)
    | (go_at_call 25; refine (make_any w1 A cap ks 38 true ((HP.out.keep HB1.out).more HB1.out.size) HM1.out HWF.out (by decide)).mono ?_; rintro e w2 ⟨v2, rfl, hrow, hon⟩; rw [HPP.out] at hrow; obtain ⟨A2, cap2, hv2, hin2⟩ := hrow.lies; subst hv2; have HI2 := hide hin2; have HO2 := hide hon; have HR2 := hide hrow; clear hrow hon hin2)
    | (go_at_call 21; refine (region_any w2.heap.size _ A2 cap2 P (HI2.out.alloc (Nat.le_refl _) _) (by simp) (by have := HG3.out; omega)).mono ?_; rintro e w4 ⟨v4, rfl, hv4, ho4⟩; obtain ⟨g4, cap4, hv, hb4⟩ := hv4.pos HRL.out HG2.out; subst hv;
        have hs2 : w1.heap.size ≤ w2.heap.size := HO2.out.size;
        have hs4 : w2.heap.size < w4.heap.size := (by have := ho4.size; simp at this; omega);
        have kp4 : Blk w4 w2.heap.size 37 #[.slice A2 P.length cap2] := (Blk.new _ _ _).only ho4 (fun h => h);
        have q6 := kp4.one; have HKP4 := hide kp4; have HO4 := hide ho4; have HB4 := hide hb4; clear kp4 ho4 hb4 hv4))
  have hrow4 : PRow w4 (w1.heap.size + 1) (.slice A2 P.length cap2) P := (HR2.out.alloc _).nob HO4.out
  obtain ⟨b0, o0, hA, hlb, hix⟩ := hrow4.in_.at_ hil
  subst hA
  have HR4 := hide hrow4
  have hop0 : Hid (opOf P i = (P.getD i PIns.none).op) := rfl
  generalize P.getD i PIns.none = x at *
  obtain ⟨xo, xa, xb, xc, xn⟩ := x
  obtain ⟨y0, y1, y2, y3, y4⟩ := hix
  dsimp only at y0 y1 y2 y3 y4 hop0
  have hiI : (i : Int) < (P.length : Int) := by omega
  have HBF : Hid (Below w.heap.size w w4) := HB1.out.trans ((below_nob HO2.out (by have := HB1.out.size; omega)).trans ((Below.alloc (Below.refl _ _) (by have := HB1.out.size; omega) _).trans (below_nob HO4.out (by have := HB1.out.size; simp; omega))))
  have hw1 : IntKind.i64.wrap ((P.length : Int) + 1) = (P.length : Int) + 1 := IntWalk.i64_in _ (by omega)
  clear hrow4
  go_quiet (fail)
  clear hw1
  rw [HI.out, HJ.out]
  by_cases hpl : plainOp xo
  · have HPL := hide hpl
    obtain ⟨n14, n15, n16, n17, n18, n19⟩ := hpl
    have c14 : (xo == 14) = false := by simpa using n14
    have c15 : (xo == 15) = false := by simpa using n15
    have c16 : (xo == 16) = false := by simpa using n16
    have c17 : (xo == 17) = false := by simpa using n17
    have c18 : (xo == 18) = false := by simpa using n18
    have c19 : (xo == 19) = false := by simpa using n19
    clear n14 n15 n16 n17 n18 n19
    have HRUN := hide (run_jump HG1.out HG2.out HG3.out hil (by rw [hop0.out]; exact HPL.out) (Int.natCast_nonneg j) (by omega))
    by_cases hjlt : j < P.length
    · have hjI : (j : Int) < (P.length : Int) := by omega
      have hjD : ((j : Int) == (P.length : Int)) = false := by rw [beq_eq_false_iff_ne]; omega
      have hjD2 : (j == P.length) = false := by rw [beq_eq_false_iff_ne]; omega
      have hjd : decide (j < P.length) = true := by simpa using hjlt
      have hjd2 : decide ((j : Int) < (P.length : Int)) = true := by simpa using hjlt
      by_cases hreg : regAt P j = regAt P i
      · have HRV : Hid (runP (P.set i ⟨12, 0, 0, (j : Int), 0⟩) = (0, 0)) := by unfold Hid; rw [HRUN.out, if_pos (Or.inl ⟨hjI, by simpa using hreg⟩)]
        have hrd : (regAt P j == regAt P i) = true := by simpa using hreg
        clear hreg
      
        go_wp2_with (first
          | (at_builtin; refine wpList_copyI rfl _ rfl HR4.out HG2.out rfl (by have := HG3.out; omega) ?_; intro g9 c9 w9 hp9 hg9 hg9' ho9 hn9 hc9; obtain ⟨a0, a1, a2, a3, a4, z0, z1, z2, z3, z4⟩ := hp9.old5 hil; have z5 := fun k => World.ownsRow.frozenAt hp9 k; have HP9 := hide hp9; have HO9 := hide ho9; have hg49 : g4 ≠ g9 := (by have h1 := HB4.out.lt; have h2 : w4.heap.size ≤ g9 := hg9; omega); clear hp9 ho9)
          | (go_at_call 20; refine (run_set _ g9 c9 P i (j : Int) (0, 0) (HP9.out.set5 hil ⟨12, 0, 0, (j : Int), 0⟩).in_ (by have := HG3.out; omega) HRV.out).mono ?_; rintro e w11 ⟨rfl, ho11⟩;
              have hb11 : IntBlk w11 g4 (regionP P) := ((((((HB4.out.drewN _).only HO9.out (fun h => h)).far hg49 _).far hg49 _).far hg49 _).far hg49 _ |>.far hg49 _).only ho11 (fun h => h);
              rw [HRP.out] at hb11;
              have hri := hb11.cell (regionsP_at hil);
              have hrj := hb11.cell (regionsP_at hjlt);
              have HO11 := hide ho11; clear hb11 ho11))
        go_quiet (fail)
        go_wp2
        go_ret
        refine ⟨rfl, ?_⟩
        have h1 := (below_drewN HBF.out _).trans (below_nob HO9.out (show w.heap.size ≤ w4.heap.size by have h0 := HB1.out.size; omega))
        have hz9 : w.heap.size ≤ g9 := by have h0 := HB1.out.size; have hg : w4.heap.size ≤ g9 := hg9; omega
        have h2 := ((((h1.setCell (p := ⟨g9, i * 5, none⟩) hz9 (.int .i64 12)).setCell (p := ⟨g9, i * 5 + 1, none⟩) hz9 (.int .i64 0)).setCell (p := ⟨g9, i * 5 + 2, none⟩) hz9 (.int .i64 0)).setCell (p := ⟨g9, i * 5 + 3, none⟩) hz9 (.int .i64 (j : Int))).setCell (p := ⟨g9, i * 5 + 4, none⟩) hz9 (.int .u64 0)
        exact below_drewN (h2.trans (below_nob HO11.out h2.size)) _
      · have HRV : Hid (runP (P.set i ⟨12, 0, 0, (j : Int), 0⟩) = ((i : Int), 2)) := by unfold Hid; rw [HRUN.out, if_neg (fun h => h.elim (fun h => hreg (by simpa using h.2)) (fun h => absurd h.1 (by omega)))]
        have hrd : (regAt P j == regAt P i) = false := by simpa using hreg
        clear hreg
      
        go_wp2_with (first
          | (at_builtin; refine wpList_copyI rfl _ rfl HR4.out HG2.out rfl (by have := HG3.out; omega) ?_; intro g9 c9 w9 hp9 hg9 hg9' ho9 hn9 hc9; obtain ⟨a0, a1, a2, a3, a4, z0, z1, z2, z3, z4⟩ := hp9.old5 hil; have z5 := fun k => World.ownsRow.frozenAt hp9 k; have HP9 := hide hp9; have HO9 := hide ho9; have hg49 : g4 ≠ g9 := (by have h1 := HB4.out.lt; have h2 : w4.heap.size ≤ g9 := hg9; omega); clear hp9 ho9)
          | (go_at_call 20; refine (run_set _ g9 c9 P i (j : Int) ((i : Int), 2) (HP9.out.set5 hil ⟨12, 0, 0, (j : Int), 0⟩).in_ (by have := HG3.out; omega) HRV.out).mono ?_; rintro e w11 ⟨rfl, ho11⟩;
              have hb11 : IntBlk w11 g4 (regionP P) := ((((((HB4.out.drewN _).only HO9.out (fun h => h)).far hg49 _).far hg49 _).far hg49 _).far hg49 _ |>.far hg49 _).only ho11 (fun h => h);
              rw [HRP.out] at hb11;
              have hri := hb11.cell (regionsP_at hil);
              have hrj := hb11.cell (regionsP_at hjlt);
              have HO11 := hide ho11; clear hb11 ho11))
        go_quiet (fail)
        go_wp2
        go_ret
        refine ⟨rfl, ?_⟩
        have h1 := (below_drewN HBF.out _).trans (below_nob HO9.out (show w.heap.size ≤ w4.heap.size by have h0 := HB1.out.size; omega))
        have hz9 : w.heap.size ≤ g9 := by have h0 := HB1.out.size; have hg : w4.heap.size ≤ g9 := hg9; omega
        have h2 := ((((h1.setCell (p := ⟨g9, i * 5, none⟩) hz9 (.int .i64 12)).setCell (p := ⟨g9, i * 5 + 1, none⟩) hz9 (.int .i64 0)).setCell (p := ⟨g9, i * 5 + 2, none⟩) hz9 (.int .i64 0)).setCell (p := ⟨g9, i * 5 + 3, none⟩) hz9 (.int .i64 (j : Int))).setCell (p := ⟨g9, i * 5 + 4, none⟩) hz9 (.int .u64 0)
        exact below_drewN (h2.trans (below_nob HO11.out h2.size)) _
    · obtain rfl : j = P.length := by omega
      have hjD : ((P.length : Int) == (P.length : Int)) = true := by simp
      have hjd : decide (P.length < P.length) = false := by simp
      have hjd2 : decide ((P.length : Int) < (P.length : Int)) = false := by simp
      by_cases hreg : regAt P i = -1
      · have HRV : Hid (runP (P.set i ⟨12, 0, 0, (P.length : Int), 0⟩) = (0, 0)) := by unfold Hid; rw [HRUN.out, if_pos (Or.inr ⟨rfl, hreg⟩)]
        have hrd : (regAt P i == -1) = true := by simpa using hreg
        clear hreg
      
        go_wp2_with (first
          | (at_builtin; refine wpList_copyI rfl _ rfl HR4.out HG2.out rfl (by have := HG3.out; omega) ?_; intro g9 c9 w9 hp9 hg9 hg9' ho9 hn9 hc9; obtain ⟨a0, a1, a2, a3, a4, z0, z1, z2, z3, z4⟩ := hp9.old5 hil; have z5 := fun k => World.ownsRow.frozenAt hp9 k; have HP9 := hide hp9; have HO9 := hide ho9; have hg49 : g4 ≠ g9 := (by have h1 := HB4.out.lt; have h2 : w4.heap.size ≤ g9 := hg9; omega); clear hp9 ho9)
          | (go_at_call 20; refine (run_set _ g9 c9 P i (P.length : Int) (0, 0) (HP9.out.set5 hil ⟨12, 0, 0, (P.length : Int), 0⟩).in_ (by have := HG3.out; omega) HRV.out).mono ?_; rintro e w11 ⟨rfl, ho11⟩;
              have hb11 : IntBlk w11 g4 (regionP P) := ((((((HB4.out.drewN _).only HO9.out (fun h => h)).far hg49 _).far hg49 _).far hg49 _).far hg49 _ |>.far hg49 _).only ho11 (fun h => h);
              rw [HRP.out] at hb11;
              have hri := hb11.cell (regionsP_at hil);
              have HO11 := hide ho11; clear hb11 ho11))
        go_quiet (fail)
        go_wp2
        go_ret
        refine ⟨rfl, ?_⟩
        have h1 := (below_drewN HBF.out _).trans (below_nob HO9.out (show w.heap.size ≤ w4.heap.size by have h0 := HB1.out.size; omega))
        have hz9 : w.heap.size ≤ g9 := by have h0 := HB1.out.size; have hg : w4.heap.size ≤ g9 := hg9; omega
        have h2 := ((((h1.setCell (p := ⟨g9, i * 5, none⟩) hz9 (.int .i64 12)).setCell (p := ⟨g9, i * 5 + 1, none⟩) hz9 (.int .i64 0)).setCell (p := ⟨g9, i * 5 + 2, none⟩) hz9 (.int .i64 0)).setCell (p := ⟨g9, i * 5 + 3, none⟩) hz9 (.int .i64 (P.length : Int))).setCell (p := ⟨g9, i * 5 + 4, none⟩) hz9 (.int .u64 0)
        exact below_drewN (h2.trans (below_nob HO11.out h2.size)) _
      · have HRV : Hid (runP (P.set i ⟨12, 0, 0, (P.length : Int), 0⟩) = ((i : Int), 2)) := by unfold Hid; rw [HRUN.out, if_neg (fun h => h.elim (fun h => absurd h.1 (by omega)) (fun h => hreg h.2))]
        have hrd : (regAt P i == -1) = false := by simpa using hreg
        clear hreg
      
        go_wp2_with (first
          | (at_builtin; refine wpList_copyI rfl _ rfl HR4.out HG2.out rfl (by have := HG3.out; omega) ?_; intro g9 c9 w9 hp9 hg9 hg9' ho9 hn9 hc9; obtain ⟨a0, a1, a2, a3, a4, z0, z1, z2, z3, z4⟩ := hp9.old5 hil; have z5 := fun k => World.ownsRow.frozenAt hp9 k; have HP9 := hide hp9; have HO9 := hide ho9; have hg49 : g4 ≠ g9 := (by have h1 := HB4.out.lt; have h2 : w4.heap.size ≤ g9 := hg9; omega); clear hp9 ho9)
          | (go_at_call 20; refine (run_set _ g9 c9 P i (P.length : Int) ((i : Int), 2) (HP9.out.set5 hil ⟨12, 0, 0, (P.length : Int), 0⟩).in_ (by have := HG3.out; omega) HRV.out).mono ?_; rintro e w11 ⟨rfl, ho11⟩;
              have hb11 : IntBlk w11 g4 (regionP P) := ((((((HB4.out.drewN _).only HO9.out (fun h => h)).far hg49 _).far hg49 _).far hg49 _).far hg49 _ |>.far hg49 _).only ho11 (fun h => h);
              rw [HRP.out] at hb11;
              have hri := hb11.cell (regionsP_at hil);
              have HO11 := hide ho11; clear hb11 ho11))
        go_quiet (fail)
        go_wp2
        go_ret
        refine ⟨rfl, ?_⟩
        have h1 := (below_drewN HBF.out _).trans (below_nob HO9.out (show w.heap.size ≤ w4.heap.size by have h0 := HB1.out.size; omega))
        have hz9 : w.heap.size ≤ g9 := by have h0 := HB1.out.size; have hg : w4.heap.size ≤ g9 := hg9; omega
        have h2 := ((((h1.setCell (p := ⟨g9, i * 5, none⟩) hz9 (.int .i64 12)).setCell (p := ⟨g9, i * 5 + 1, none⟩) hz9 (.int .i64 0)).setCell (p := ⟨g9, i * 5 + 2, none⟩) hz9 (.int .i64 0)).setCell (p := ⟨g9, i * 5 + 3, none⟩) hz9 (.int .i64 (P.length : Int))).setCell (p := ⟨g9, i * 5 + 4, none⟩) hz9 (.int .u64 0)
        exact below_drewN (h2.trans (below_nob HO11.out h2.size)) _
  · have hop : xo = 14 ∨ xo = 15 ∨ xo = 17 ∨ xo = 18 ∨ xo = 19 ∨ xo = 16 := by unfold plainOp at hpl; omega
    clear hpl
    rcases hop with hop | hop | hop | hop | hop | hop
    · subst hop
      go_wp2
      go_ret
      exact ⟨rfl, below_drewN HBF.out _⟩
    · subst hop
      go_wp2
      go_ret
      exact ⟨rfl, below_drewN HBF.out _⟩
    · subst hop
      go_wp2
      go_ret
      exact ⟨rfl, below_drewN HBF.out _⟩
    · subst hop
      go_wp2
      go_ret
      exact ⟨rfl, below_drewN HBF.out _⟩
    · subst hop
      go_wp2
      go_ret
      exact ⟨rfl, below_drewN HBF.out _⟩
    · subst hop
      go_wp2
      go_ret
      exact ⟨rfl, below_drewN HBF.out _⟩
end Go.Proofs.Ytpdjhkidalafpaa
