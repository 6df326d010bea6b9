/-
  The law TextTells, walked.
-/
import Derived.Test.YtngahgfppbjebaaDoorTxLawSame
import Derived.Test.YtngahgfppbjebaaDoorTxWord
import Derived.Test.YtngahgfppbjebaaDoorOpenBytes
import Derived.Test.YtngahgfppbjebaaDoorGrpPlain
namespace Go.Proofs.YtngahgfppbjebaaDoor
open Go.RowKit Go.Lib
set_option linter.unusedVariables false
set_option linter.unusedSimpArgs false

set_option maxRecDepth 100000 in
set_option maxHeartbeats 8000000 in
theorem text_tells (W : World) (s : ByteArray) (A : Option Addr) (len cap : Nat) (hq : BytesArg W A len) (x : Int) (hx : 0 ≤ x ∧ x ≤ 18446744073709551615) (ht : Tabs W) (htab : TabAt W) :
    Calls Tryd.prog 9 #[.string s, .slice A len cap, .int .u64 x] W fun e w' => e = .returned (.bool true) ∧ Below W.heap.size W w' := by
  have HR := hide (text_runs W ht)
  have HB := hide hq
  have HSM := hide (fun (S : ByteArray) (hS : S.size ≤ 100000) (W' : World) (h : Only Nob W W') => lawsame_any S hS W' (ht.nob h) (htab.only h))
  have hlm : len ≤ 9223372036854775807 := by
    obtain ⟨_, _, h, _⟩ := hq
    exact h
  clear ht htab hq
  obtain ⟨x, rfl⟩ := Int.eq_ofNat_of_zero_le hx.1
  have HXX : Hid (x ≤ 18446744073709551615) := hide (by omega)
  clear hx
  go_enter Tryd.func9, Tryd.ntmps9
  by_cases h30 : 300 < s.size
  · have h30I : (300 : Int) < (s.size : Int) := by omega
    go_wp2_with (first
      | (go_at_call 8; refine HR.out.mono ?_; rintro e w1 ⟨rfl, ho1⟩; have HO1 := hide ho1; clear ho1))
    go_ret
    exact ⟨rfl, HO1.out.new⟩
  · have h30I : ¬ (300 : Int) < (s.size : Int) := by omega
    by_cases h12 : 120 < len
    · have h12I : (120 : Int) < (len : Int) := by omega
      go_wp2_with (first
        | (go_at_call 8; refine HR.out.mono ?_; rintro e w1 ⟨rfl, ho1⟩; have HO1 := hide ho1; clear ho1))
      go_ret
      exact ⟨rfl, HO1.out.new⟩
    · have h12I : ¬ (120 : Int) < (len : Int) := by omega
      go_wp2_with (first
        | (go_at_call 8; refine HR.out.mono ?_; rintro e w1 ⟨rfl, ho1⟩; have HO1 := hide ho1; clear ho1))
      go_loopw [7, 8] (fun sv iv wr => ∃ (k : Nat) (sb : ByteArray), sv = .string sb ∧ iv = .int .i64 (k : Int) ∧ k ≤ len ∧ sb.size ≤ 21 * k ∧ Only Nob w1 wr) (fun _ iv _ => len - (RowKit.intOf iv).toNat)
      case atStart => exact ⟨0, ⟨#[]⟩, rfl, rfl, Nat.zero_le _, Nat.le_refl _, Only.refl _ _⟩
      case round =>
        obtain ⟨k, sb, rfl, rfl, hk, hsz, hon⟩ := hrel
        have HON := hide (HO1.out.trans hon)
        have HOR := hide hon
        clear hon
        by_cases hlt : k < len
        · have hkI : (k : Int) < (len : Int) := by omega
          obtain ⟨zs, hz1, hz2, hz3, hz4⟩ := HB.out
          obtain ⟨b, o, rfl, hb, hz5⟩ := hz4 (by omega)
          obtain ⟨z, hz⟩ : ∃ z, zs[k]? = some z := ⟨_, List.getElem?_eq_getElem (by omega)⟩
          have hcell := (HON.out.cell (p := ⟨b, o + k, none⟩) hb (fun h => h)).trans (hz5 k z hz)
          have hz0 := hz3 z (List.mem_of_getElem? hz)
          have hbw : b < wr.heap.size := Nat.lt_of_lt_of_le hb HON.out.size
          obtain ⟨z, rfl⟩ := Int.eq_ofNat_of_zero_le hz0.1
          have HWD := hide (fun W' => word_any z x (by omega) HXX.out W')
          clear hz hz1 hz2 hz3 hz4 hz5
          go_wp2_with (go_at_call 35; refine (HWD.out _).mono ?_; rintro e w2 ⟨sw, rfl, hsw, ho2⟩; have HO2 := hide ho2; clear ho2)
          refine ⟨⟨k + 1, _, rfl, by simp, by omega, ?_, HOR.out.trans HO2.out⟩, ?_⟩
          · rw [ByteArray.size_append, ByteArray.size_append]
            have : (⟨#[32]⟩ : ByteArray).size = 1 := rfl
            omega
          · simp [RowKit.intOf]
            omega
        · have hkI : ¬ (k : Int) < (len : Int) := by omega
          have HZ1 : Hid (s.size ≤ 100000) := hide (by omega)
          have HZ2 : Hid (sb.size ≤ 100000) := hide (by omega)
          have HZ3 : Hid ((sb ++ s).size ≤ 100000) := hide (by rw [ByteArray.size_append]; omega)
          have hs9 : (s.size : Int) ≤ 300 := by omega
          have hs8 : (sb.size : Int) ≤ 2520 := by omega
          have tok1 : True := trivial
          have tok2 : True := trivial
          go_wp2_with (first
            | (go_at_call 36; clear tok1; refine (HSM.out _ HZ1.out _ HON.out).mono ?_; rintro e w2 ⟨rfl, ho2⟩; have HO2 := hide (HON.out.trans ho2); clear ho2)
            | (go_at_call 36; clear tok2; refine (HSM.out _ HZ2.out _ HO2.out).mono ?_; rintro e w3 ⟨rfl, ho3⟩; have HO3 := hide (HO2.out.trans ho3); clear ho3)
            | (go_at_call 36; refine (HSM.out _ HZ3.out _ HO3.out).mono ?_; rintro e w4 ⟨rfl, ho4⟩; have HO4 := hide (HO3.out.trans ho4); clear ho4))
          go_ret
          exact ⟨rfl, HO4.out.new⟩
end Go.Proofs.YtngahgfppbjebaaDoor
