/-
  The law TextLoose, walked.
-/
import Derived.Test.YtngahgfppbjebaaDoorTxBackW
namespace Go.Proofs.YtngahgfppbjebaaDoor
open Go.RowKit Go.Lib
set_option linter.unusedVariables false
set_option linter.unusedSimpArgs false

theorem loose_sp {g : List UInt8} (h : g ∈ spGaps) : Loose [32] g := by simpa using Loose.sp h .nil
theorem loose_nl {g : List UInt8} (h : g ∈ nlGaps) : Loose [10] g := by simpa using Loose.nl h .nil
theorem loose_c {c : UInt8} (h : wordB c = true) : Loose [c] [c] := by
  simp only [wordB, Bool.and_eq_true, decide_eq_true_eq] at h
  obtain ⟨⟨h1, h2⟩, h3⟩ := h
  refine .other ?_ ?_ ?_ h2 .nil
  · rintro rfl; exact absurd h1 (by decide)
  · rintro rfl; exact absurd h1 (by decide)
  · rintro rfl; exact h3 rfl
theorem extract_one (s : ByteArray) (k : Nat) (h : k < s.size) : (s.extract k (k + 1)).data.toList = [s[k]] := by
  rw [ByteArray.data_extract, Array.toList_extract]
  apply List.ext_getElem
  · simp
    have : s.data.size = s.size := rfl
    omega
  · intro i h1 h2
    simp at h2
    subst h2
    simp
    rfl
theorem take_succ' {l : List UInt8} {k : Nat} (hk : k < l.length) : l.take (k + 1) = l.take k ++ [l[k]] := List.take_succ_eq_append_getElem hk
theorem bits3 (z : Nat) (h : z ≤ 255) : bits BinOp.and IntKind.u8 (z : Int) 3 = 0 ∨ bits BinOp.and IntKind.u8 (z : Int) 3 = 1 ∨ bits BinOp.and IntKind.u8 (z : Int) 3 = 2 ∨ bits BinOp.and IntKind.u8 (z : Int) 3 = 3 := by
  have := (List.all_eq_true (l := List.range 256) (p := fun n : Nat => decide (bits BinOp.and IntKind.u8 (n : Int) 3 = 0 ∨ bits BinOp.and IntKind.u8 (n : Int) 3 = 1 ∨ bits BinOp.and IntKind.u8 (n : Int) 3 = 2 ∨ bits BinOp.and IntKind.u8 (n : Int) 3 = 3))).1 (by decide +kernel) z (by simp; omega)
  exact of_decide_eq_true this
theorem ix_sp0 (W : World) : (Instr.index 71 (.agg #[.string ⟨#[32]⟩, .string ⟨#[9]⟩, .string ⟨#[32, 32]⟩, .string ⟨#[32, 9, 32]⟩]) (.int .u8 0)).run Tryd.prog W = .ok (.string ⟨#[32]⟩) W := by kernel_rfl
theorem ix_sp1 (W : World) : (Instr.index 71 (.agg #[.string ⟨#[32]⟩, .string ⟨#[9]⟩, .string ⟨#[32, 32]⟩, .string ⟨#[32, 9, 32]⟩]) (.int .u8 1)).run Tryd.prog W = .ok (.string ⟨#[9]⟩) W := by kernel_rfl
theorem ix_sp2 (W : World) : (Instr.index 71 (.agg #[.string ⟨#[32]⟩, .string ⟨#[9]⟩, .string ⟨#[32, 32]⟩, .string ⟨#[32, 9, 32]⟩]) (.int .u8 2)).run Tryd.prog W = .ok (.string ⟨#[32, 32]⟩) W := by kernel_rfl
theorem ix_sp3 (W : World) : (Instr.index 71 (.agg #[.string ⟨#[32]⟩, .string ⟨#[9]⟩, .string ⟨#[32, 32]⟩, .string ⟨#[32, 9, 32]⟩]) (.int .u8 3)).run Tryd.prog W = .ok (.string ⟨#[32, 9, 32]⟩) W := by kernel_rfl
theorem ix_nl0 (W : World) : (Instr.index 71 (.agg #[.string ⟨#[10]⟩, .string ⟨#[32, 10]⟩, .string ⟨#[32, 59, 32, 115, 111, 32, 114, 57, 32, 195, 169, 32, 255, 10]⟩, .string ⟨#[10, 32, 10, 59, 120, 58, 10, 9]⟩]) (.int .u8 0)).run Tryd.prog W = .ok (.string ⟨#[10]⟩) W := by kernel_rfl
theorem ix_nl1 (W : World) : (Instr.index 71 (.agg #[.string ⟨#[10]⟩, .string ⟨#[32, 10]⟩, .string ⟨#[32, 59, 32, 115, 111, 32, 114, 57, 32, 195, 169, 32, 255, 10]⟩, .string ⟨#[10, 32, 10, 59, 120, 58, 10, 9]⟩]) (.int .u8 1)).run Tryd.prog W = .ok (.string ⟨#[32, 10]⟩) W := by kernel_rfl
theorem ix_nl2 (W : World) : (Instr.index 71 (.agg #[.string ⟨#[10]⟩, .string ⟨#[32, 10]⟩, .string ⟨#[32, 59, 32, 115, 111, 32, 114, 57, 32, 195, 169, 32, 255, 10]⟩, .string ⟨#[10, 32, 10, 59, 120, 58, 10, 9]⟩]) (.int .u8 2)).run Tryd.prog W = .ok (.string ⟨#[32, 59, 32, 115, 111, 32, 114, 57, 32, 195, 169, 32, 255, 10]⟩) W := by kernel_rfl
theorem ix_nl3 (W : World) : (Instr.index 71 (.agg #[.string ⟨#[10]⟩, .string ⟨#[32, 10]⟩, .string ⟨#[32, 59, 32, 115, 111, 32, 114, 57, 32, 195, 169, 32, 255, 10]⟩, .string ⟨#[10, 32, 10, 59, 120, 58, 10, 9]⟩]) (.int .u8 3)).run Tryd.prog W = .ok (.string ⟨#[10, 32, 10, 59, 120, 58, 10, 9]⟩) W := by kernel_rfl
set_option maxRecDepth 100000 in
set_option maxHeartbeats 8000000 in
theorem text_loose (W : World) (A : Option Addr) (len cap : Nat) (hq : ProgArg W A len) (A2 : Option Addr) (len2 cap2 : Nat) (hq2 : BytesArg W A2 len2) (ht : Tabs W) :
    Calls Tryd.prog 13 #[.slice A len cap, .slice A2 len2 cap2] W fun e w' => e = .returned (.bool true) ∧ Below W.heap.size W w' := by
  obtain ⟨ks, h1, h2, h3, h4⟩ := hq
  have HM1 := hide (made_any W A len cap ks h1 h2 h3 h4)
  have HD1 : Hid (∀ w e w', MakePost w (makeP 40 false ks) e w' → _) := hide (fun w e w' h => drawn_of h h4)
  have HR := hide (text_runs W ht)
  have HT := hide ht
  have HB := hide hq2
  clear h1 h2 h3 h4 ht hq2
  generalize makeP 40 false ks = p at *
  go_enter Tryd.func13, Tryd.ntmps13
  go_wp2_with (first
    | (go_at_call 8; refine HR.out.mono ?_; rintro e w1 ⟨rfl, ho1⟩; have HO1 := hide ho1; clear ho1)
    | (go_at_call 37; refine (HM1.out _ HO1.out).mono ?_; intro e w2 hm; obtain ⟨B1, n1, c1, rfl, ho2, hd1⟩ := HD1.out _ _ _ hm; obtain rfl := hd1.len; have HO2 := hide (HO1.out.trans ho2); have HR1 := hide hd1; have HP1 := hide (print_drawn (cap := c1) hd1 ((Only.refl Nob w2).alloc (.cells #[.slice B1 p.length c1] 55)) (HT.out.nob ((HO1.out.trans ho2).alloc _))); clear ho2 hd1 hm)
    | (go_at_call 34; refine HP1.out.mono ?_; rintro e w4 ⟨rfl, ho4⟩; have hk4 := (Blk.new w2 55 #[.slice B1 p.length c1]).only ho4 (fun h => h); have c5 := hk4.cell 0; simp at c5; have l5 := hk4.lt; have HO4 := hide (((Only.refl Nob w2).alloc (.cells #[.slice B1 p.length c1] 55)).trans ho4); clear ho4 hk4))
  obtain ⟨s, hs⟩ : ∃ s, (⟨(printP p).toArray⟩ : ByteArray) = s := ⟨_, rfl⟩
  have HS : Hid (printP p = s.data.toList) := hide (by rw [← hs])
  rw [hs]
  clear hs
  have HPB := hide HR1.out.prints.bytes
  have hs4 : s.size ≤ 3365 := by
    have h1 := HPB.out.2.1
    rw [HS.out] at h1
    simpa using h1
  go_loopw [7, 8, 9] (fun tv nv iv wr => ∃ (k m : Nat) (tb : ByteArray), tv = .string tb ∧ nv = .int .i64 (m : Int) ∧ iv = .int .i64 (k : Int) ∧ k ≤ s.size ∧ m ≤ k ∧ wr = w4 ∧ Loose (s.data.toList.take k) tb.data.toList) (fun _ _ iv _ => s.size - (RowKit.intOf iv).toNat)
  case atStart => exact ⟨0, 0, ⟨#[]⟩, rfl, rfl, rfl, Nat.zero_le _, Nat.zero_le _, rfl, Loose.nil⟩
  case round =>
    obtain ⟨k, m, tb, rfl, rfl, rfl, hk, hm, rfl, hl⟩ := hrel
    have HL := hide hl
    clear hl
    by_cases hlt : k < s.size
    · have hkI : (k : Int) < (s.size : Int) := by omega
      have hbs : s.data.toList[k]? = some (s.data.toList[k]'(by simpa using hlt)) := List.getElem?_eq_getElem _
      go_upto_if 30 with fail
      go_cut [10] from 30 to 34 (fun g wx => (∃ z : Nat, z ≤ 255 ∧ g = .int .u8 (z : Int)) ∧ wx = wr)
      case first =>
        by_cases hml : m < len2
        · have hmI : (m : Int) < (len2 : Int) := by omega
          obtain ⟨zs, hz1, hz2, hz3, hz4⟩ := HB.out
          obtain ⟨b, o, rfl, hb, hz5⟩ := hz4 (by omega)
          obtain ⟨z, hz⟩ : ∃ z, zs[m]? = some z := ⟨_, List.getElem?_eq_getElem (by omega)⟩
          have hcell := ((HO2.out.trans HO4.out).cell (p := ⟨b, o + m, none⟩) hb (fun h => h)).trans (hz5 m z hz)
          have hz0 := hz3 z (List.mem_of_getElem? hz)
          have hbw : b < wr.heap.size := Nat.lt_of_lt_of_le hb (HO2.out.trans HO4.out).size
          have hlen2 : len2 ≤ 9223372036854775807 := hz2
          clear hz hz1 hz2 hz3 hz4 hz5
          go_wp2_with fail
          go_meet
          exact ⟨⟨z.toNat, by omega, by rw [Int.toNat_of_nonneg hz0.1]⟩, rfl⟩
        · have hmI : ¬ (m : Int) < (len2 : Int) := by omega
          go_wp2_with fail
          go_meet
          exact ⟨⟨0, by omega, rfl⟩, rfl⟩
      case rest =>
        obtain ⟨⟨z, hz, rfl⟩, hw⟩ := hcut
        subst hw
        obtain ⟨c, hc⟩ : ∃ c, s[k] = c := ⟨_, rfl⟩
        have hcl : s.data.toList[k]'(by simpa using hlt) = c := by rw [← hc]; rfl
        have hcm : c = 32 ∨ c = 10 ∨ wordB c = true := by
          have h1 := HPB.out.1 c
          rw [HS.out] at h1
          exact h1 (hcl ▸ List.getElem_mem _)
        have HTK : Hid (s.data.toList.take (k + 1) = s.data.toList.take k ++ [c]) := hide (by rw [take_succ' (by simpa using hlt), hcl])
        have htb : tb.size ≤ 101000 := by
          have h1 := HL.out.len.2
          rw [List.length_take] at h1
          have h2 : tb.data.toList.length = tb.size := by simp
          omega
        have hb4 := bits3 z hz
        clear hcl hbs
        rcases hcm with h32 | h10 | hw
        · have hd : ((c.toNat : Int) == 32) = true := by rw [h32]; rfl
          rcases hb4 with hq | hq | hq | hq
          · have hix := ix_sp0 wc
            go_wp2_with fail
            refine ⟨⟨k + 1, m + 1, _, rfl, by simp, by simp, hlt, by omega, by simp, ?_⟩, ?_⟩
            · rw [HTK.out, h32, ByteArray.data_append, Array.toList_append]
              exact HL.out.app (loose_sp (g := [32]) (by decide))
            · simp [RowKit.intOf]; omega
          · have hix := ix_sp1 wc
            go_wp2_with fail
            refine ⟨⟨k + 1, m + 1, _, rfl, by simp, by simp, hlt, by omega, by simp, ?_⟩, ?_⟩
            · rw [HTK.out, h32, ByteArray.data_append, Array.toList_append]
              exact HL.out.app (loose_sp (g := [9]) (by decide))
            · simp [RowKit.intOf]; omega
          · have hix := ix_sp2 wc
            go_wp2_with fail
            refine ⟨⟨k + 1, m + 1, _, rfl, by simp, by simp, hlt, by omega, by simp, ?_⟩, ?_⟩
            · rw [HTK.out, h32, ByteArray.data_append, Array.toList_append]
              exact HL.out.app (loose_sp (g := [32, 32]) (by decide))
            · simp [RowKit.intOf]; omega
          · have hix := ix_sp3 wc
            go_wp2_with fail
            refine ⟨⟨k + 1, m + 1, _, rfl, by simp, by simp, hlt, by omega, by simp, ?_⟩, ?_⟩
            · rw [HTK.out, h32, ByteArray.data_append, Array.toList_append]
              exact HL.out.app (loose_sp (g := [32, 9, 32]) (by decide))
            · simp [RowKit.intOf]; omega
        · have hd1 : ((c.toNat : Int) == 32) = false := by rw [h10]; rfl
          have hd : ((c.toNat : Int) == 10) = true := by rw [h10]; rfl
          rcases hb4 with hq | hq | hq | hq
          · have hix := ix_nl0 wc
            go_wp2_with fail
            refine ⟨⟨k + 1, m + 1, _, rfl, by simp, by simp, hlt, by omega, by simp, ?_⟩, ?_⟩
            · rw [HTK.out, h10, ByteArray.data_append, Array.toList_append]
              exact HL.out.app (loose_nl (g := [10]) (by decide))
            · simp [RowKit.intOf]; omega
          · have hix := ix_nl1 wc
            go_wp2_with fail
            refine ⟨⟨k + 1, m + 1, _, rfl, by simp, by simp, hlt, by omega, by simp, ?_⟩, ?_⟩
            · rw [HTK.out, h10, ByteArray.data_append, Array.toList_append]
              exact HL.out.app (loose_nl (g := [32, 10]) (by decide))
            · simp [RowKit.intOf]; omega
          · have hix := ix_nl2 wc
            go_wp2_with fail
            refine ⟨⟨k + 1, m + 1, _, rfl, by simp, by simp, hlt, by omega, by simp, ?_⟩, ?_⟩
            · rw [HTK.out, h10, ByteArray.data_append, Array.toList_append]
              exact HL.out.app (loose_nl (g := [32, 59, 32, 115, 111, 32, 114, 57, 32, 195, 169, 32, 255, 10]) (by decide))
            · simp [RowKit.intOf]; omega
          · have hix := ix_nl3 wc
            go_wp2_with fail
            refine ⟨⟨k + 1, m + 1, _, rfl, by simp, by simp, hlt, by omega, by simp, ?_⟩, ?_⟩
            · rw [HTK.out, h10, ByteArray.data_append, Array.toList_append]
              exact HL.out.app (loose_nl (g := [10, 32, 10, 59, 120, 58, 10, 9]) (by decide))
            · simp [RowKit.intOf]; omega
        · have hd1 : ((c.toNat : Int) == 32) = false := by
            simp only [wordB, Bool.and_eq_true, decide_eq_true_eq] at hw
            rw [beq_eq_false_iff_ne]
            omega
          have hd : ((c.toNat : Int) == 10) = false := by
            simp only [wordB, Bool.and_eq_true, decide_eq_true_eq] at hw
            rw [beq_eq_false_iff_ne]
            omega
          have HW := hide hw
          go_wp2_with fail
          refine ⟨⟨k + 1, m, _, rfl, by simp, by simp, hlt, by omega, by simp, ?_⟩, ?_⟩
          · rw [HTK.out, ByteArray.data_append, Array.toList_append, extract_one s k hlt, hc]
            exact HL.out.app (loose_c HW.out)
          · simp [RowKit.intOf]; omega
    · have hkI : ¬ (k : Int) < (s.size : Int) := by omega
      have hke : k = s.size := by omega
      have HL2 : Hid (Loose (printP p) tb.data.toList) := hide (by
        have h1 := HL.out
        rw [hke, List.take_of_length_le (by simp), ← HS.out] at h1
        exact h1)
      have htb : tb.size ≤ 101000 := by
        have h1 := HL2.out.len.2
        have h2 : tb.data.toList.length = tb.size := by simp
        have h3 := HPB.out.2.1
        omega
      by_cases h4 : 4000 < tb.size
      · have h4I : (4000 : Int) < (tb.size : Int) := by omega
        go_wp2_with fail
        go_ret
        exact ⟨rfl, (HO2.out.trans HO4.out).new⟩
      · have h4I : ¬ (4000 : Int) < (tb.size : Int) := by omega
        have hp40 := HR1.out.prints.len
        have hpa := parse_any tb (by omega) wr (HT.out.nob (HO2.out.trans HO4.out)).utf
        rw [parse_loose HR1.out.prints HL2.out (by simp; omega)] at hpa
        have HPA := hide hpa
        clear hpa
        go_wp2_with (first
          | (go_at_call 33; refine HPA.out.mono ?_; rintro e w6 ⟨v6, rfl, hr6, ho6⟩; obtain ⟨A6, c9, rfl, hi6⟩ := hr6.lies; have d5 := (ho6.cell (p := ⟨w2.heap.size, 0, none⟩) l5 (fun h => h)).trans c5; have l7 := Nat.lt_of_lt_of_le l5 ho6.size; have HO6 := hide (HO4.out.trans ho6); have HI6 := hide hi6; clear hr6 ho6 hi6)
          | (go_at_call 39; refine (same_pp _ p _ _ _ _ (HI6.out.keep (((Only.refl Nob _).alloc _)).new) ((HR1.out.nob (HO6.out.alloc _)).lies) ?h1 ?h2).mono ?_; rotate_left 2; rintro e w7 ⟨rfl, ho7⟩; have HO7 := hide ((HO6.out.alloc _).trans ho7); clear ho7))
        case h1 => simp
        case h2 => omega
        go_ret
        exact ⟨rfl, (HO2.out.trans HO7.out).new⟩
end Go.Proofs.YtngahgfppbjebaaDoor
