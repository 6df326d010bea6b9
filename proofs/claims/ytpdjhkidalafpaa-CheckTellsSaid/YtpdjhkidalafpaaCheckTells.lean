/-
  The law CheckTells, walked.
-/
import Derived.Test.YtpdjhkidalafpaaInsRow
namespace Go.Proofs.Ytpdjhkidalafpaa
open Go.RowKit

def partOf (z : Int) : PIns := if 200 < z then ⟨12, 0, 0, z % 45, 0⟩ else ⟨14 + z % 7, 0, 0, 0, 0⟩
def partsOf (zs : List Int) (k : Nat) : List PIns := (zs.take k).map partOf
theorem partsOf_step {zs : List Int} {k : Nat} {z : Int} (h : zs[k]? = some z) : partsOf zs (k + 1) = partsOf zs k ++ [partOf z] := by
  unfold partsOf
  rw [List.take_add_one, h]
  simp
theorem partsOf_len {zs : List Int} {k : Nat} (h : k ≤ zs.length) : (partsOf zs k).length = k := by simp [partsOf]; omega

set_option maxHeartbeats 1000000 in
theorem tells_long (A : Option Addr) (len cap : Nat) (C : Option Addr) (len2 cap2 : Nat) (w : World) (h : 100 < len ∨ 100 < len2) (hm1 : len ≤ maxLen) (hm2 : len2 ≤ maxLen) :
    Calls Try.prog 8 #[.slice A len cap, .slice C len2 cap2] w fun e w' => e = .returned (.bool true) ∧ Below w.heap.size w w' := by
  unfold maxLen at hm1 hm2
  by_cases h1 : 100 < len
  · have d1 : decide ((100 : Int) < (len : Int)) = true := by simp; omega
    clear h
    go_enter Try.func8, Try.ntmps8
    go_wp2_with (go_at_call 7; refine (check_runs _).mono ?_; rintro e w1 ⟨rfl, hbel⟩)
    go_ret
    exact ⟨rfl, hbel⟩
  · have d1 : decide ((100 : Int) < (len : Int)) = false := by simp; omega
    have d2 : decide ((100 : Int) < (len2 : Int)) = true := by simp; omega
    have d3 : ¬ (100 < len) := h1
    clear h
    go_enter Try.func8, Try.ntmps8
    go_wp2_with (go_at_call 7; refine (check_runs _).mono ?_; rintro e w1 ⟨rfl, hbel⟩)
    go_ret
    exact ⟨rfl, hbel⟩

set_option maxHeartbeats 4000000 in
theorem tells_short (A : Option Addr) (cap : Nat) (C : Option Addr) (cap2 : Nat) (w : World) (l : List PIns) (zs : List Int) (h1 : l.length ≤ 100) (h2 : zs.length ≤ 100) (hp : ProgIn w w.heap.size A l)
    (hz : ∀ z ∈ zs, 0 ≤ z ∧ z ≤ 255) (hb : 0 < zs.length → ∃ b o, C = some ⟨b, o, none⟩ ∧ b < w.heap.size ∧ ∀ i z, zs[i]? = some z → w.cell? ⟨b, o + i, none⟩ = some (.int .u8 z)) :
    Calls Try.prog 8 #[.slice A l.length cap, .slice C zs.length cap2] w fun e w' => e = .returned (.bool true) ∧ Below w.heap.size w w' := by
  obtain ⟨i0, hi, hz0, hz1, hz2⟩ := info_parts infoIns
  have d1 : decide ((100 : Int) < (l.length : Int)) = false := by simp; omega
  have d2 : decide ((100 : Int) < (zs.length : Int)) = false := by simp; omega
  have d3 : ¬ (100 < l.length) := by omega
  have d4 : ¬ (100 < zs.length) := by omega
  have HP := hide hp
  have HZ := hide hz
  have HB := hide hb
  clear hp hz hb
  go_enter Try.func8, Try.ntmps8
  go_wp2_with (go_at_call 7; refine (check_runs _).mono ?_; rintro e w1 ⟨rfl, hbel⟩)
  have hs1 := hbel.size
  have HW1 := hide hbel
  clear hbel
  go_loopw [5, 6] (fun v c wr => ∃ k : Nat, k ≤ zs.length ∧ c = .int .i64 k ∧ PRow wr w1.heap.size v (partsOf zs k) ∧ Below w1.heap.size w1 wr) (fun _ c _ => zs.length - (intOf c).toNat)
  case atStart => exact ⟨0, by omega, rfl, PRow.nil _ _, Below.refl _ _⟩
  case round =>
    obtain ⟨k, hk, rfl, hrow, hbel⟩ := hrel
    have hsz := hbel.size
    have HR := hide hrow
    have HBL := hide hbel
    by_cases hlt : k < zs.length
    · obtain ⟨b, o, rfl, hlb, hcl⟩ := HB.out (by omega)
      have hzk : zs[k]? = some zs[k] := List.getElem?_eq_getElem hlt
      have hc : wr.cell? ⟨b, o + k, none⟩ = some (.int .u8 zs[k]) := (hbel.cell (p := ⟨b, o + k, none⟩) (show b < w1.heap.size by omega)).trans ((HW1.out.cell (p := ⟨b, o + k, none⟩) hlb).trans (hcl k _ hzk))
      have hzb := HZ.out zs[k] (List.getElem_mem hlt)
      have HST := hide (partsOf_step hzk)
      have hkI : (k : Int) < (zs.length : Int) := by omega
      have hpl : (partsOf zs k).length = k := partsOf_len hk
      have HPL := hide hpl
      generalize zs[k] = z at *
      obtain ⟨z0, z1⟩ := hzb
      have hblt : b < wr.heap.size := by omega
      clear hrow hbel hcl hzk hpl
      have hm7 : z % 7 < 7 := Int.emod_lt_of_pos z (by decide)
      have hm70 : 0 ≤ z % 7 := Int.emod_nonneg z (by decide)
      have hm45 : z % 45 < 45 := Int.emod_lt_of_pos z (by decide)
      have hm450 : 0 ≤ z % 45 := Int.emod_nonneg z (by decide)
      by_cases hgt : 200 < z
      · have e1 : decide (200 < z) = true := by simpa using hgt
        have HX : Hid (partOf z = ⟨12, 0, 0, z % 45, 0⟩) := by unfold Hid; rw [partOf, if_pos hgt]
        go_wp2_with (at_builtin; refine wpList_append_own _ rfl _ _ 35 rfl w1.heap.size 28 i0 (.agg #[.int .i64 0, .int .i64 0, .int .i64 0, .int .i64 0, .int .u64 0]) 5 40 Try.underlying35 hi hz0 hz1 hz2 rfl (by decide) _ _ _ rfl ((HR.out.alloc _).alloc _) ⟨wr.heap.size + 1, 0, none⟩ 1 1 (insCells ⟨12, 0, 0, z % 45, 0⟩) rfl rfl ?hnews (ins_one _) ?h63 ?hby (by simp; omega) ?_)
        case hnews =>
          intro j u hj
          have := cell_ins_new (wr.alloc (.cells #[.int .i64 12, .int .i64 0, .int .i64 0, .int .i64 (z % 45), .int .u64 0] 28)) ⟨12, 0, 0, z % 45, 0⟩ 28 j u hj
          first
            | (simpa using this; done)
            | exact hj
            | (simp; exact hj)
        case h63 => rw [HPL.out]; unfold maxLen; omega
        case hby => rw [HPL.out]; omega
        · intro v' w3 hown' hgrow3 hnil3
          go_wp2
          go_roundw
          case rel =>
            refine ⟨k + 1, by omega, by go_num, ?_, HBL.out.trans (((Below.alloc (Below.refl _ _) hsz _).alloc (by simp; omega) _).trans (PRow.grown ((HR.out.alloc _).alloc _) hgrow3 (by simp; omega)))⟩
            rw [HST.out, HX.out]
            exact PRow.push hown'
          case measure => simp [intOf]; omega
      · have e1 : decide (200 < z) = false := by simpa using hgt
        have HX : Hid (partOf z = ⟨14 + z % 7, 0, 0, 0, 0⟩) := by unfold Hid; rw [partOf, if_neg hgt]
        go_wp2_with (at_builtin; refine wpList_append_own _ rfl _ _ 35 rfl w1.heap.size 28 i0 (.agg #[.int .i64 0, .int .i64 0, .int .i64 0, .int .i64 0, .int .u64 0]) 5 40 Try.underlying35 hi hz0 hz1 hz2 rfl (by decide) _ _ _ rfl ((HR.out.alloc _).alloc _) ⟨wr.heap.size + 1, 0, none⟩ 1 1 (insCells ⟨14 + z % 7, 0, 0, 0, 0⟩) rfl rfl ?hnews (ins_one _) ?h63 ?hby (by simp; omega) ?_)
        case hnews =>
          intro j u hj
          have := cell_ins_new (wr.alloc (.cells #[.int .i64 (14 + z % 7), .int .i64 0, .int .i64 0, .int .i64 0, .int .u64 0] 28)) ⟨14 + z % 7, 0, 0, 0, 0⟩ 28 j u hj
          first
            | (simpa using this; done)
            | exact hj
            | (simp; exact hj)
        case h63 => rw [HPL.out]; unfold maxLen; omega
        case hby => rw [HPL.out]; omega
        · intro v' w3 hown' hgrow3 hnil3
          go_wp2
          go_roundw
          case rel =>
            refine ⟨k + 1, by omega, by go_num, ?_, HBL.out.trans (((Below.alloc (Below.refl _ _) hsz _).alloc (by simp; omega) _).trans (PRow.grown ((HR.out.alloc _).alloc _) hgrow3 (by simp; omega)))⟩
            rw [HST.out, HX.out]
            exact PRow.push hown'
          case measure => simp [intOf]; omega
    · obtain rfl : k = zs.length := by omega
      obtain ⟨A2, cap3, hv2, hpr2⟩ := HR.out.lies
      have hlen : (partsOf zs zs.length).length = zs.length := partsOf_len (Nat.le_refl _)
      have HPR2 := hide hpr2
      have HP3 := hide (HP.out.keep (HW1.out.trans (HBL.out.mono hs1)))
      have hWr : Hid (Below w.heap.size w wr) := HW1.out.trans (HBL.out.mono hs1)
      subst hv2
      clear hrow hbel hpr2
      have HLEN : Hid ((partsOf zs zs.length).length ≤ 1000) := by unfold Hid; omega
      clear hlen
      have tok1 : True := trivial
      go_wp2_with (first
        | (go_at_call 24; have _t := tok1; refine (law_same w.heap.size _ _ cap l HP3.out (Nat.le_trans hs1 hsz) (by omega)).mono ?_; rintro e w4 ⟨rfl, ho4⟩; clear tok1)
        | (go_at_call 24; refine (law_same wr.heap.size _ _ cap3 (partsOf zs zs.length) (HPR2.out.keep (below_nob ho4 (Nat.le_refl _))) ho4.size HLEN.out).mono ?_; rintro e w5 ⟨rfl, ho5⟩))
      go_ret
      exact ⟨rfl, (hWr.out.trans (below_nob ho4 (Nat.le_trans hs1 hsz))).trans (below_nob ho5 (Nat.le_trans (Nat.le_trans hs1 hsz) ho4.size))⟩

theorem check_tells (w : World) (A : Option Addr) (len cap : Nat) (h1 : ProgArg w A len) (C : Option Addr) (len2 cap2 : Nat) (h2 : BytesArg w C len2) :
    Calls Try.prog 8 #[.slice A len cap, .slice C len2 cap2] w fun e w' => e = .returned (.bool true) ∧ Below w.heap.size w w' := by
  obtain ⟨l, rfl, hm1, hp, _⟩ := h1
  obtain ⟨zs, rfl, hm2, hz, hb⟩ := h2
  by_cases h : 100 < l.length ∨ 100 < zs.length
  · exact tells_long A _ cap C _ cap2 w h hm1 hm2
  · exact tells_short A cap C cap2 w l zs (by omega) (by omega) hp hz hb
end Go.Proofs.Ytpdjhkidalafpaa
