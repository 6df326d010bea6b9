/-
  The law TextPrints, walked.
-/
import Derived.Test.YtngahgfppbjebaaDoorTxRuns
import Derived.Test.YtngahgfppbjebaaDoorTxRPrint
import Derived.Test.YtngahgfppbjebaaDoorGrpOpenProg
import Derived.Test.YtngahgfppbjebaaDoorPush1
namespace Go.Proofs.YtngahgfppbjebaaDoor
open Go.RowKit Go.Lib
set_option linter.unusedVariables false
set_option linter.unusedSimpArgs false

def NsOkP (m : List PIns) : Prop := ∀ x ∈ m, 0 ≤ x.n ∧ x.n < 18446744073709551616
def nearI (z : Nat) : PIns := ⟨1 + (z : Int) % 22, (z : Int) % 9, 0, ((z : Int) / 4) % 42, 0⟩
theorem both_any (W w : World) (B : Nat) (l : List PIns) (A : Option Addr) (cap : Nat) (hp : ProgIn w B A l) (hB : B ≤ w.heap.size) (hn : l.length ≤ 60) (hN : ∀ x ∈ l, 0 ≤ x.n ∧ x.n < 18446744073709551616) (ht : Tabs w) (htab : TabAt w) (w2 : World) (ho : Only Nob w w2) :
    Calls Tryd.prog 34 #[.agg #[.slice A l.length cap]] w2 (fun e w' => e = .returned (.string ⟨(printP l).toArray⟩) ∧ Only Nob w2 w') ∧
    Calls Tryd.prog 38 #[.agg #[.slice A l.length cap]] w2 (fun e w' => e = .returned (.string ⟨(printP l).toArray⟩) ∧ Only Nob w2 w') := by
  have h2 := (hp.more hB).keep ho.new
  exact ⟨print_any w.heap.size l A cap w2 h2 ho.size (by omega) hN (ht.nob ho).pow, rprint_any w.heap.size l A cap w2 h2 ho.size (by omega) hN (htab.only ho)⟩
theorem PRow.lies2 {w : World} {base n cap : Nat} {A : Option Addr} {l : List PIns} (h : PRow w base (.slice A n cap) l) : ProgIn w w.heap.size A l ∧ n = l.length := by
  obtain ⟨A', cap', hv, hin⟩ := h.lies
  injection hv with h1 h2 h3
  subst h1
  exact ⟨hin, h2⟩
theorem PRow.more9 {w2 : World} {base k c6 : Nat} {A6 : Option Addr} {m : List PIns} {x : PIns} (hm : m.length = k) (h : w2.ownsRow base 60 5 (.slice A6 (k + 1) c6) (k + 1) (progCells m ++ (insCells x))) : PRow w2 base (.slice A6 (k + 1) c6) (m ++ [x]) := by
  subst hm
  exact PRow.push h
theorem only_above {w1 wr w2 : World} (ho : Only Nob w1 wr) (h : Only (fun j => w1.heap.size ≤ j) wr w2) : Only Nob w1 w2 := Only.after ho h (fun i hi => .inr hi)
theorem near_ok {m : List PIns} {z : Nat} (h : NsOkP m) : NsOkP (m ++ [nearI z]) := by
  intro x hx
  rcases List.mem_append.1 hx with h1 | h1
  · exact h x h1
  · simp at h1
    subst h1
    exact ⟨Int.le_refl _, show (0 : Int) < 18446744073709551616 by decide⟩
set_option maxRecDepth 100000 in
set_option maxHeartbeats 8000000 in
theorem text_prints (W : World) (A : Option Addr) (len cap : Nat) (hq : ProgArg W A len) (A2 : Option Addr) (len2 cap2 : Nat) (hq2 : BytesArg W A2 len2) (ht : Tabs W) (htab : TabAt W) :
    Calls Tryd.prog 11 #[.slice A len cap, .slice A2 len2 cap2] W fun e w' => e = .returned (.bool true) ∧ Below W.heap.size W w' := by
  obtain ⟨l, hl, hlm, hp, hwf⟩ := hq
  subst hl
  have HR := hide (text_runs W ht)
  have HT := hide ht
  have HTB := hide htab
  have HB := hide hq2
  have HP := hide hp
  have HN : Hid (∀ x ∈ l, 0 ≤ x.n ∧ x.n < 18446744073709551616) := hide (fun x hx => by
    have := (hwf x hx).2.2.2.2
    omega)
  have hlm2 : l.length ≤ 9223372036854775807 := hlm
  have hlm3 : len2 ≤ 9223372036854775807 := by
    obtain ⟨_, _, h, _⟩ := hq2
    exact h
  clear ht htab hq2 hp hwf hlm
  go_enter Tryd.func11, Tryd.ntmps11
  by_cases h60 : 60 < l.length
  · have h60I : (60 : Int) < (l.length : Int) := by omega
    go_wp2_with (first
      | (go_at_call 8; refine HR.out.mono ?_; rintro e w1 ⟨rfl, ho1⟩; have HO1 := hide ho1; clear ho1))
    go_ret
    exact ⟨rfl, HO1.out.new⟩
  · have h60I : ¬ (60 : Int) < (l.length : Int) := by omega
    by_cases h61 : 60 < len2
    · have h61I : (60 : Int) < (len2 : Int) := by omega
      go_wp2_with (first
        | (go_at_call 8; refine HR.out.mono ?_; rintro e w1 ⟨rfl, ho1⟩; have HO1 := hide ho1; clear ho1))
      go_ret
      exact ⟨rfl, HO1.out.new⟩
    · have h61I : ¬ (60 : Int) < (len2 : Int) := by omega
      go_wp2_with (first
        | (go_at_call 8; refine HR.out.mono ?_; rintro e w1 ⟨rfl, ho1⟩; have HO1 := hide ho1; clear ho1))
      go_loopw [5, 6] (fun v iv wr => ∃ (k cp : Nat) (A5 : Option Addr) (m : List PIns), v = .slice A5 k cp ∧ iv = .int .i64 (k : Int) ∧ m.length = k ∧ k ≤ len2 ∧ PRow wr w1.heap.size (.slice A5 k cp) m ∧ Only Nob w1 wr ∧ NsOkP m) (fun _ iv _ => len2 - (RowKit.intOf iv).toNat)
      case atStart => exact ⟨0, 0, none, [], rfl, rfl, rfl, Nat.zero_le _, PRow.nil _ _, Only.refl _ _, fun x hx => by simp at hx⟩
      case round =>
        obtain ⟨k, cp, A5, m, rfl, rfl, hmk, hk, hrow, hon, hns⟩ := hrel
        have HW := hide hrow
        have HON := hide hon
        have HNS := hide hns
        have HMK := hide hmk
        clear hrow hon hns hmk
        by_cases hlt : k < len2
        · have hkI : (k : Int) < (len2 : Int) := by omega
          obtain ⟨zs, hz1, hz2, hz3, hz4⟩ := HB.out
          obtain ⟨b, o, rfl, hb, hz5⟩ := hz4 (by omega)
          obtain ⟨z, hz⟩ : ∃ z, zs[k]? = some z := ⟨_, List.getElem?_eq_getElem (by omega)⟩
          have hcell := ((HO1.out.trans HON.out).cell (p := ⟨b, o + k, none⟩) hb (fun h => h)).trans (hz5 k z hz)
          have hz0 := hz3 z (List.mem_of_getElem? hz)
          have hbw : b < wr.heap.size := Nat.lt_of_lt_of_le hb (HO1.out.trans HON.out).size
          obtain ⟨z, rfl⟩ := Int.eq_ofNat_of_zero_le hz0.1
          clear hz hz1 hz2 hz3 hz4 hz5
          have hrow2 : wr.ownsRow w1.heap.size 60 5 (.slice A5 k cp) k (progCells m) := by
            have h := HW.out
            unfold PRow at h
            rw [HMK.out] at h
            exact h
          have HRW := hide hrow2
          have HSZ := hide HON.out.size
          have HK9 : Hid (k ≤ 1000000000) := hide (by omega)
          have HI1 : Hid (∀ u ∈ (insCells (nearI z)), u.oneCell' = true) := hide (ins_one (nearI z))
          clear hrow2
          go_wp2_with (first
            | (at_builtin; refine wpList_push (w := wr) (base := w1.heap.size) (n := k) (cap := cp) (A := A5) (xs := progCells m) rfl _ _ rfl Tryd.underlying53 infoIns rfl (by decide) (by decide) HRW.out HSZ.out #[.int .i64 (1 + (z : Int) % 22), .int .i64 ((z : Int) % 9), .int .i64 0, .int .i64 ((z : Int) / 4 % 42), .int .u64 0] rfl HI1.out HK9.out rfl rfl ?_; intro A6 c6 w2 hown hon2; have HOW := hide hown; have HO2 := hide hon2; clear hown hon2))
          refine ⟨⟨k + 1, c6, A6, m ++ [nearI z], rfl, by simp, by rw [List.length_append, HMK.out]; rfl, by omega, PRow.more9 HMK.out HOW.out, only_above HON.out HO2.out, near_ok HNS.out⟩, ?_⟩
          simp [RowKit.intOf]
          omega
        · have hkI : ¬ (k : Int) < (len2 : Int) := by omega
          obtain ⟨hi, hkl⟩ := HW.out.lies2
          have HOW := hide (HO1.out.trans HON.out)
          have HBL := hide (fun w2 (h : Only Nob wr w2) => both_any W wr W.heap.size l A cap (HP.out.keep HOW.out.new) HOW.out.size (by omega) HN.out (HT.out.nob HOW.out) (HTB.out.only HOW.out) w2 h)
          have HBM := hide (fun w2 (h : Only Nob wr w2) => both_any W wr wr.heap.size m A5 cp hi (Nat.le_refl _) (by omega) HNS.out (HT.out.nob HOW.out) (HTB.out.only HOW.out) w2 h)
          rw [← hkl] at HBM
          have HREF := hide (Only.refl Nob wr)
          clear hi hkl
          have tok1 : True := trivial
          have tok2 : True := trivial
          go_wp2_with (first
            | (go_at_call 34; clear tok1; refine (HBL.out _ HREF.out).1.mono ?_; rintro e w2 ⟨rfl, ho2⟩; have HO2 := hide ho2; clear ho2)
            | (go_at_call 38; clear tok2; refine (HBL.out _ HO2.out).2.mono ?_; rintro e w3 ⟨rfl, ho3⟩; have HO3 := hide (HO2.out.trans ho3); clear ho3)
            | (go_at_call 34; refine (HBM.out _ HO3.out).1.mono ?_; rintro e w4 ⟨rfl, ho4⟩; have HO4 := hide (HO3.out.trans ho4); clear ho4)
            | (go_at_call 38; refine (HBM.out _ HO4.out).2.mono ?_; rintro e w5 ⟨rfl, ho5⟩; have HO5 := hide (HO4.out.trans ho5); clear ho5))
          go_ret
          exact ⟨rfl, (HOW.out.trans HO5.out).new⟩
end Go.Proofs.YtngahgfppbjebaaDoor
