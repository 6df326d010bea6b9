/-
  The law TextNear, walked.
-/
import Derived.Test.YtngahgfppbjebaaDoorTxLawSame
import Derived.Test.YtngahgfppbjebaaDoorGrpTxBackW
import Derived.Test.YtngahgfppbjebaaDoorGrpTxRPrint
import Derived.Deep.RegionWith
import Derived.Deep.Cut
import Derived.Deep.CutRange
namespace Go.Proofs.YtngahgfppbjebaaDoor
open Go.RowKit Go.Lib
set_option linter.unusedVariables false
set_option linter.unusedSimpArgs false

theorem rprint_drawn {w W : World} {A : Option Addr} {n cap : Nat} {l : List PIns} (h : Drawn w A n l) (ho : Only Nob w W) (ht : TabAt W) : Calls Tryd.prog 38 #[.agg #[.slice A n cap]] W fun e w' => e = .returned (.string ⟨(printP l).toArray⟩) ∧ Only Nob W w' := by
  have h2 := h.nob ho
  rw [← h.len]
  exact rprint_any W.heap.size l A cap W h2.lies (Nat.le_refl _) (by have := h.prints.len; omega) h.prints.n ht
set_option maxRecDepth 100000 in
set_option maxHeartbeats 8000000 in
theorem text_near (W : World) (A : Option Addr) (len cap : Nat) (hq : ProgArg W A len) (a1 a2 a3 : Int) (h1 : 0 ≤ a1 ∧ a1 ≤ 65535) (h2 : 0 ≤ a2 ∧ a2 ≤ 255) (h3 : 0 ≤ a3 ∧ a3 ≤ 255) (ht : Tabs W) (htab : TabAt W) :
    Calls Tryd.prog 10 #[.slice A len cap, .int .u16 a1, .int .u8 a2, .int .u8 a3] W fun e w' => e = .returned (.bool true) ∧ Below W.heap.size W w' := by
  obtain ⟨ks, h1', h2', h3', h4'⟩ := hq
  have HM1 := hide (made_any W A len cap ks h1' h2' h3' h4')
  have HD1 : Hid (∀ w e w', MakePost w (makeP 40 false ks) e w' → _) := hide (fun w e w' h => drawn_of h h4')
  have HR := hide (text_runs W ht)
  have HT := hide ht
  have HTB := hide htab
  clear h1' h2' h3' h4' ht htab
  generalize makeP 40 false ks = p at *
  obtain ⟨sb, hsb⟩ : ∃ sb : ByteArray, (⟨(printP p).toArray⟩ : ByteArray) = sb := ⟨_, rfl⟩
  have HSB := hide hsb
  have hsz : sb.size = (printP p).length := by rw [← hsb]; simp [ByteArray.size]
  have HSZ := hide hsz
  clear hsb hsz
  obtain ⟨n1, rfl⟩ := Int.eq_ofNat_of_zero_le h1.1
  obtain ⟨n2, rfl⟩ := Int.eq_ofNat_of_zero_le h2.1
  obtain ⟨bb, hbb⟩ : ∃ bb : UInt8, bb.toNat = n2 := ⟨UInt8.ofNat n2, by simp; omega⟩
  subst hbb
  obtain ⟨n3, rfl⟩ := Int.eq_ofNat_of_zero_le h3.1
  go_enter Tryd.func10, Tryd.ntmps10
  go_upto_region 4 with (first
    | (go_at_call 8; refine HR.out.mono ?_; rintro e w1 ⟨rfl, ho1⟩; have HO1 := hide ho1; clear ho1)
    | (go_at_call 37; refine (HM1.out _ HO1.out).mono ?_; intro e w2 hm; obtain ⟨B1, m1, c1, rfl, ho2, hd1⟩ := HD1.out _ _ _ hm; have HO2 := hide (HO1.out.trans ho2); have HR1 := hide hd1; have hpl := hd1.prints.bytes; have hpp := List.length_pos_iff.2 (hpl.2.2 hd1.pos); have hpm := hpl.2.1; rw [← HSZ.out] at hpp hpm; clear ho2 hd1 hm hpl))
  have HP1 := hide (fun w (h : Only Nob w2 w) => print_drawn (cap := c1) HR1.out h (HT.out.nob (HO2.out.trans h)))
  have HP2 := hide (fun w (h : Only Nob w2 w) => rprint_drawn (cap := c1) HR1.out h (HTB.out.only (HO2.out.trans h)))
  rw [HSB.out] at HP1 HP2
  go_upto_region 5 with (go_at_call 34; refine (HP1.out _ ((Only.refl _ _).alloc _)).mono ?_; rintro e w4 ⟨rfl, ho4⟩; have hb := (Blk.new w2 55 #[.slice B1 m1 c1]).only ho4 (fun h => h); have b0 := hb.cell 0; have b1 := hb.lt; simp at b0; have HO4 := hide (((Only.refl Nob w2).alloc _).trans ho4); clear ho4 hb)
  go_cut [26] from 13 to 70 (fun c wx => c = .bool false ∧ Only Nob w2 wx)
  case first =>
    go_wp2_with (go_at_call 38; refine (HP2.out _ HO4.out).mono ?_; rintro e w5 ⟨rfl, ho5⟩; have HO5 := hide (HO4.out.trans ho5); clear ho5)
    all_goals go_meet
    have hse : sb.toList.isEmpty = false := by
      rw [ByteArray.toList_eq, ← HSB.out]
      cases hpr : printP p with
      | nil =>
        have h9 := HSZ.out
        rw [hpr, List.length_nil] at h9
        omega
      | cons a r => rfl
    exact ⟨by rw [hse], HO5.out⟩
  case rest =>
    obtain ⟨rfl, hox⟩ := hcut
    have HOX := hide (HO2.out.trans hox)
    clear hox b0 b1
    have hsbI : (0 : Int) < (sb.size : Int) := by omega
    have hsb0 : ¬ (sb.size : Int) = 0 := by omega
    have hcv : (convert 39 9 (.slice (some ⟨wc.heap.size, 0, none⟩) 1 1)).run Tryd.prog (wc.alloc (.cells #[.int .u8 (bb.toNat : Int)] 5)) = .ok (.string ⟨#[bb]⟩) (wc.alloc (.cells #[.int .u8 (bb.toNat : Int)] 5)) :=
      run_convert_bytes_back (P := Tryd.prog) (wc.alloc (.cells #[.int .u8 (bb.toNat : Int)] 5)) 39 9 5 ⟨wc.heap.size, 0, none⟩ 1 [bb] Tryd.underlying39 Tryd.underlying5 Tryd.underlying9 (fun j hj => by
        have hj0 : j = 0 := by simpa using hj
        subst hj0
        exact (Blk.new wc 5 #[.int .u8 (bb.toNat : Int)]).cell 0)
    have HSM := hide (fun (S : ByteArray) (hS : S.size ≤ 100000) (W' : World) (h : Only Nob W W') => lawsame_any S hS W' (HT.out.nob h) (HTB.out.only h))
    go_upto_region 9 with fail
    obtain ⟨i, hi, hi2⟩ : ∃ i : Nat, (n1 : Int) % (sb.size : Int) = (i : Int) ∧ i < sb.size := ⟨n1 % sb.size, by omega, Nat.mod_lt _ hpp⟩
    obtain ⟨q, hq, hq3⟩ : ∃ q : Nat, (n3 : Int) % 3 = (q : Int) ∧ q < 3 := ⟨n3 % 3, by omega, by omega⟩
    rw [hi]
    have HI := hide hi
    clear hi hcv
    have hi9 : (i : Int) ≤ 3365 := by omega
    have hi8 : (sb.size : Int) ≤ 3365 := by omega
    have hi7 : (0 : Int) ≤ (i : Int) + 1 := by omega
    have hi6 : (i : Int) < (sb.size : Int) := by omega
    have hi4 : i + 1 ≤ sb.size := by omega
    have hwr : IntKind.i64.wrap ((i : Int) + 1) = (i : Int) + 1 := IntWalk.i64_in _ (by omega)
    have hwr2 : wrap64 ((i : Int) + 1) = (i : Int) + 1 := (by unfold wrap64; omega)
    have hi0 : (i : Int) ≤ (sb.size : Int) := by omega
    have hi1 : (i : Int) + 1 ≤ (sb.size : Int) := by omega
    have hslc : ∀ W, (Instr.slice 9 (.string sb) (some (.int .i64 ((i : Int) + 1))) none none).run Tryd.prog W = .ok (.string (sb.extract (i + 1) sb.size)) W := by
      intro W
      rw [run_slice_string_from_if (P := Tryd.prog) (w := W) 9 sb .i64 ((i : Int) + 1) Tryd.underlying9, if_pos ⟨hi7, hi1⟩]
      rfl
    have hb1 : (⟨#[bb]⟩ : ByteArray).size = 1 := rfl
    have HZ0 : Hid ((sb.extract 0 i ++ ⟨#[bb]⟩ ++ sb.extract (i + 1) sb.size).size ≤ 100000) := hide (by rw [ByteArray.size_append, ByteArray.size_append, ByteArray.size_extract, ByteArray.size_extract, hb1]; omega)
    have HZ1 : Hid ((sb.extract 0 i ++ ⟨#[bb]⟩ ++ sb.extract i sb.size).size ≤ 100000) := hide (by rw [ByteArray.size_append, ByteArray.size_append, ByteArray.size_extract, ByteArray.size_extract, hb1]; omega)
    have HZ2 : Hid ((sb.extract 0 i ++ sb.extract (i + 1) sb.size).size ≤ 100000) := hide (by rw [ByteArray.size_append, ByteArray.size_extract, ByteArray.size_extract]; omega)
    clear hb1
    rcases (by omega : q = 0 ∨ q = 1 ∨ q = 2) with rfl | rfl | rfl
    · go_upto_region 11 with fail
      go_region_with (go_at_call 36; refine (HSM.out _ HZ0.out _ (by repeat' (first | (with_reducible exact HOX.out) | (with_reducible refine Only.alloc ?_ _) | (with_reducible refine Only.drewN ?_ _) | (with_reducible refine Only.drew ?_)))).mono ?_; rintro e w9 ⟨rfl, ho9⟩; have HO9 : Hid (Only Nob W w9) := hide (Only.trans (by repeat' (first | (with_reducible exact HOX.out) | (with_reducible refine Only.alloc ?_ _) | (with_reducible refine Only.drewN ?_ _) | (with_reducible refine Only.drew ?_))) ho9); clear ho9)
      all_goals (go_wp2_with fail)
      all_goals go_ret
      all_goals exact ⟨rfl, HO9.out.new⟩
    · go_upto_region 13 with fail
      go_region_with (go_at_call 36; refine (HSM.out _ HZ1.out _ (by repeat' (first | (with_reducible exact HOX.out) | (with_reducible refine Only.alloc ?_ _) | (with_reducible refine Only.drewN ?_ _) | (with_reducible refine Only.drew ?_)))).mono ?_; rintro e w9 ⟨rfl, ho9⟩; have HO9 : Hid (Only Nob W w9) := hide (Only.trans (by repeat' (first | (with_reducible exact HOX.out) | (with_reducible refine Only.alloc ?_ _) | (with_reducible refine Only.drewN ?_ _) | (with_reducible refine Only.drew ?_))) ho9); clear ho9)
      all_goals (go_wp2_with fail)
      all_goals go_ret
      all_goals exact ⟨rfl, HO9.out.new⟩
    · go_upto_region 14 with fail
      go_region_with (go_at_call 36; refine (HSM.out _ HZ2.out _ (by repeat' (first | (with_reducible exact HOX.out) | (with_reducible refine Only.alloc ?_ _) | (with_reducible refine Only.drewN ?_ _) | (with_reducible refine Only.drew ?_)))).mono ?_; rintro e w9 ⟨rfl, ho9⟩; have HO9 : Hid (Only Nob W w9) := hide (Only.trans (by repeat' (first | (with_reducible exact HOX.out) | (with_reducible refine Only.alloc ?_ _) | (with_reducible refine Only.drewN ?_ _) | (with_reducible refine Only.drew ?_))) ho9); clear ho9)
      all_goals (go_wp2_with fail)
      all_goals go_ret
      all_goals exact ⟨rfl, HO9.out.new⟩
end Go.Proofs.YtngahgfppbjebaaDoor
