/-
  The law SlateReads, walked.
-/
import Derived.Test.YtngahgfppbjebaaDoorSlReads
import Derived.Test.YtngahgfppbjebaaDoorSlRuns
import Derived.Test.YtngahgfppbjebaaDoorOpenBytes
import Derived.Laws.Bits
namespace Go.Proofs.YtngahgfppbjebaaDoor
open Go.RowKit
set_option linter.unusedVariables false
set_option linter.unusedSimpArgs false

theorem and_seven (m : Int) (h0 : 0 ≤ m) (h1 : m ≤ 255) : bits .and .u8 m 7 = m % 8 := by go_bits2
theorem decDigits_le (n : Nat) (hn : n ≤ 18446744073709551615) : (⟨(Go.Lib.decDigits n).toArray⟩ : ByteArray).size ≤ 20 := by
  show (Go.Lib.decDigits n).toArray.size ≤ 20
  rw [List.size_toArray]
  exact decOf_long (decOf_digits n) (by omega)
theorem size_app (a b : ByteArray) : (a ++ b).size = a.size + b.size := ByteArray.size_append
theorem pick8 (dm : ByteArray) (c : Nat) (hc : c < 8) : ∃ x : ByteArray, (x = dm ∨ x.size ≤ 20) ∧ ∀ w, (Instr.index 41 (.agg #[.string ⟨#[110, 111, 110, 101]⟩, .string ⟨#[121, 101, 115]⟩, .string ⟨#[110, 111]⟩, .string ⟨#[48]⟩, .string ⟨#[49, 56, 52, 52, 54, 55, 52, 52, 48, 55, 51, 55, 48, 57, 53, 53, 49, 54, 49, 53]⟩, .string dm, .string ⟨#[48, 55]⟩, .string ⟨#[55]⟩]) (.int .u8 (c : Int))).run Tryd.prog w = .ok (.string x) w := by
  rcases (show c = 0 ∨ c = 1 ∨ c = 2 ∨ c = 3 ∨ c = 4 ∨ c = 5 ∨ c = 6 ∨ c = 7 by omega) with h | h | h | h | h | h | h | h <;> subst h
  · exact ⟨⟨#[110, 111, 110, 101]⟩, .inr (by decide), fun _ => by kernel_rfl⟩
  · exact ⟨⟨#[121, 101, 115]⟩, .inr (by decide), fun _ => by kernel_rfl⟩
  · exact ⟨⟨#[110, 111]⟩, .inr (by decide), fun _ => by kernel_rfl⟩
  · exact ⟨⟨#[48]⟩, .inr (by decide), fun _ => by kernel_rfl⟩
  · exact ⟨⟨#[49, 56, 52, 52, 54, 55, 52, 52, 48, 55, 51, 55, 48, 57, 53, 53, 49, 54, 49, 53]⟩, .inr (by decide), fun _ => by kernel_rfl⟩
  · exact ⟨dm, .inl rfl, fun _ => by kernel_rfl⟩
  · exact ⟨⟨#[48, 55]⟩, .inr (by decide), fun _ => by kernel_rfl⟩
  · exact ⟨⟨#[55]⟩, .inr (by decide), fun _ => by kernel_rfl⟩
theorem grow0 {us x : ByteArray} {k : Nat} (h : us.size ≤ 21 * k) (hx : x.size ≤ 20) : (us ++ x).size ≤ 21 * (k + 1) := by
  rw [size_app]
  omega
theorem grow1 {us x : ByteArray} {k : Nat} (h : us.size ≤ 21 * k) (hx : x.size ≤ 20) : ((us ++ ⟨#[32]⟩) ++ x).size ≤ 21 * (k + 1) := by
  rw [size_app, size_app]
  have : (⟨#[32]⟩ : ByteArray).size = 1 := rfl
  omega
set_option maxRecDepth 100000 in
set_option maxHeartbeats 4000000 in
theorem slate_reads (W : World) (t : ByteArray) (A : Option Addr) (len cap : Nat) (hw : BytesArg W A len) (n : Int) (hn : 0 ≤ n ∧ n ≤ 18446744073709551615) (htab : Pow10 W) :
    Calls Tryd.prog 4 #[.string t, .slice A len cap, .int .u64 n] W fun e w' => e = .returned (.bool true) ∧ Below W.heap.size W w' := by
  obtain ⟨m, rfl⟩ : ∃ m : Nat, n = (m : Int) := ⟨n.toNat, by omega⟩
  have hm : m ≤ 18446744073709551615 := by omega
  have HM := hide hm
  have HDL := hide (decDigits_le m hm)
  have HDC : Hid (∀ w1, Calls Tryd.prog 27 #[.int .u64 (m : Int)] w1 fun e w' => e = .returned (.string ⟨(Go.Lib.decDigits m).toArray⟩) ∧ Only Nob w1 w') := hide (fun w1 => decimal_any m hm w1)
  generalize (⟨(Go.Lib.decDigits m).toArray⟩ : ByteArray) = dm at *
  clear hn hm
  have HT := hide htab
  have HW := hide hw
  clear htab hw
  by_cases ht : (500 : Int) < (t.size : Int)
  · go_enter Tryd.func4, Tryd.ntmps4
    go_wp2_with (go_at_call 3; refine (slate_runs W HT.out).mono ?_; rintro e w1 ⟨rfl, ho1⟩; have HO1 := hide ho1; clear ho1)
    go_ret
    exact ⟨rfl, HO1.out.new⟩
  by_cases hl : (30 : Int) < (len : Int)
  · go_enter Tryd.func4, Tryd.ntmps4
    go_wp2_with (go_at_call 3; refine (slate_runs W HT.out).mono ?_; rintro e w1 ⟨rfl, ho1⟩; have HO1 := hide ho1; clear ho1)
    go_ret
    exact ⟨rfl, HO1.out.new⟩
  have hl30 : len ≤ 30 := by omega
  have ht500 : t.size ≤ 500 := by omega
  obtain ⟨zs, hzl, _, hz255, hcells⟩ := HW.out
  have HZL := hide hzl
  have HZ := hide hz255
  have HCE := hide hcells
  clear hzl hz255 hcells HW
  go_enter Tryd.func4, Tryd.ntmps4
  go_wp2_with (go_at_call 3; refine (slate_runs W HT.out).mono ?_; rintro e w1 ⟨rfl, ho1⟩; have HO1 := hide ho1; clear ho1)
  go_loopw [7, 8] (fun u i wr => ∃ (k : Nat) (us : ByteArray), u = .string us ∧ i = .int .i64 (k : Int) ∧ us.size ≤ 21 * k ∧ k ≤ len ∧ Only Nob W wr) (fun _ i _ => len - (intOf i).toNat)
  case atStart => exact ⟨0, _, rfl, rfl, Nat.le_refl _, Nat.zero_le _, HO1.out⟩
  case round =>
    obtain ⟨k, us, rfl, rfl, hu, hk, hI⟩ := hrel
    have HI := hide hI
    have HU := hide hu
    have hus : us.size ≤ 1000 := by omega
    clear hI hu
    by_cases hk1 : k < len
    · have hkI : (k : Int) < (len : Int) := by omega
      obtain ⟨b, o, rfl, hb, hce⟩ := HCE.out (by omega)
      have hzk : k < zs.length := by have := HZL.out; omega
      have hcell0 := hce k (zs[k]'hzk) (List.getElem?_eq_getElem hzk)
      have hzb := HZ.out (zs[k]'hzk) (List.getElem_mem hzk)
      generalize (zs[k]'hzk) = z at *
      have HB := hide hb
      have hcell : wr.cell? ⟨b, o + k, none⟩ = some (.int .u8 z) := (HI.out.cell (p := ⟨b, o + k, none⟩) hb (fun h => h)).trans hcell0
      have hcellN : Hid (∀ w2, Only Nob wr w2 → w2.cell? ⟨b, o + k, none⟩ = some (.int .u8 z)) := hide (fun w2 h => (h.cell (p := ⟨b, o + k, none⟩) (Nat.lt_of_lt_of_le HB.out HI.out.size) (fun h => h)).trans hcell)
      have h7 : bits .and .u8 z 7 = z % 8 := and_seven z hzb.1 hzb.2
      clear hcell0 hce hb
      obtain ⟨c, hc⟩ : ∃ c : Nat, z % 8 = (c : Int) := ⟨(z % 8).toNat, by omega⟩
      obtain ⟨x, hx, hix⟩ := pick8 dm c (by omega)
      rw [hc] at h7
      have HX : Hid (x.size ≤ 20) := hide (by
        rcases hx with hx | hx
        · rw [hx]; exact HDL.out
        · exact hx)
      have hxs : x.size ≤ 1000 := by have := HX.out; omega
      clear HCE hzb hc hx
      have HKK := hide hk1
      by_cases hk0 : k = 0
      · have hk00 : ¬ (0 < k) := by omega
        clear hk0
        go_wp2_with fail
        go_region_with (go_at_call 27; refine (HDC.out _).mono ?_; rintro e w2 ⟨rfl, ho2⟩; have HO2 : Hid (Only Nob wr w2) := hide (by first | exact ho2 | exact (Only.refl Nob wr).drew.trans ho2 | exact (Only.refl Nob wr).drew.drew.trans ho2); have c2 := hcellN.out w2 HO2.out; clear ho2)
        all_goals
          go_wp2_with fail
          go_roundw
          case rel => exact ⟨k + 1, _, rfl, rfl, grow0 HU.out HX.out, HKK.out, HI.out.trans HO2.out⟩
          case measure =>
            show len - ((k : Int) + 1).toNat < len - (k : Int).toNat
            have := HKK.out
            omega
      · have hk00 : 0 < k := by omega
        clear hk0
        go_wp2_with fail
        go_region_with (go_at_call 27; refine (HDC.out _).mono ?_; rintro e w2 ⟨rfl, ho2⟩; have HO2 : Hid (Only Nob wr w2) := hide (by first | exact ho2 | exact (Only.refl Nob wr).drew.trans ho2 | exact (Only.refl Nob wr).drew.drew.trans ho2); have c2 := hcellN.out w2 HO2.out; clear ho2)
        all_goals
          go_wp2_with fail
          go_roundw
          case rel => exact ⟨k + 1, _, rfl, rfl, grow1 HU.out HX.out, HKK.out, HI.out.trans HO2.out⟩
          case measure =>
            show len - ((k : Int) + 1).toNat < len - (k : Int).toNat
            have := HKK.out
            omega
    · have hkI : ¬ ((k : Int) < (len : Int)) := by omega
      have HR1 : Hid (∀ w1, Only Nob W w1 → Calls Tryd.prog 28 #[.string t] w1 fun e w' => e = .returned (.bool true) ∧ Only Nob w1 w') := hide (fun w1 h => reads_any t (by omega) w1 (HT.out.nob h))
      have HR2 : Hid (∀ w1, Only Nob W w1 → Calls Tryd.prog 28 #[.string us] w1 fun e w' => e = .returned (.bool true) ∧ Only Nob w1 w') := hide (fun w1 h => reads_any us (by have := HU.out; omega) w1 (HT.out.nob h))
      have HR3 : Hid (∀ w1, Only Nob W w1 → Calls Tryd.prog 28 #[.string (us ++ t)] w1 fun e w' => e = .returned (.bool true) ∧ Only Nob w1 w') := hide (fun w1 h => reads_any (us ++ t) (by have := HU.out; rw [size_app]; omega) w1 (HT.out.nob h))
      clear HT
      go_wp2_with (first
        | (go_at_call 28; refine (HR1.out _ HI.out).mono ?_; rintro e w2 ⟨rfl, ho⟩; have HJ := hide (HI.out.trans ho); clear ho HR1 HI)
        | (go_at_call 28; refine (HR2.out _ HJ.out).mono ?_; rintro e w3 ⟨rfl, ho⟩; have HK3 := hide (HJ.out.trans ho); clear ho HR2 HJ)
        | (go_at_call 28; refine (HR3.out _ HK3.out).mono ?_; rintro e w4 ⟨rfl, ho⟩; have HL := hide (HK3.out.trans ho); clear ho HR3))
      go_ret
      exact ⟨rfl, HL.out.new⟩
end Go.Proofs.YtngahgfppbjebaaDoor
