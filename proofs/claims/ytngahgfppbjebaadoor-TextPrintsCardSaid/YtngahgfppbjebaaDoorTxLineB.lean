/-
  The reference's Line: printed by a program, instruction by instruction.
-/
import Derived.Test.YtngahgfppbjebaaDoorTxLineA
namespace Go.Proofs.YtngahgfppbjebaaDoor
open Go.RowKit Go.Lib
set_option linter.unusedVariables false
set_option linter.unusedSimpArgs false

set_option maxRecDepth 100000 in
set_option maxHeartbeats 4000000 in
theorem line_8 (w : World) (a b c n : Nat) (ha : a < 100) (hb : b < 100) (hc : c < 100) (hn : n < 18446744073709551616) (htab : TabAt w) : Calls Tryd.prog 67 #[.agg #[.int .i64 8, .int .i64 (a : Int), .int .i64 (b : Int), .int .i64 (c : Int), .int .u64 (n : Int)]] w fun e w' => e = .returned (.string ⟨(lineL ⟨8, a, b, c, n⟩).toArray⟩) ∧ Only Nob w w' := by
  have HRW : Hid (∀ W, Calls Tryd.prog 93 #[.int .i64 8] W fun e w' => e = .returned (.tuple #[.agg #[.string ⟨#[108, 111, 97, 100]⟩, .int .i64 7, .int .i64 7, .int .i64 15, .bool false], .bool true]) ∧ w' = W.alloc (.cells #[.string ⟨#[108, 111, 97, 100]⟩, .int .i64 7, .int .i64 7, .int .i64 15, .bool false] 169)) := hide (fun W => rowOf_8 W)
  have htab := hide htab
  have HDA := hide (fun W => decimal_any a (by omega) W)
  have HDB := hide (fun W => decimal_any b (by omega) W)
  have HDC := hide (fun W => decimal_any c (by omega) W)
  have HDN := hide (fun W => decimal_any n (by omega) W)
  have HL := hide (LW.start w 8 a b c n 7 7 15 false ⟨#[108, 111, 97, 100]⟩)
  have hda := dec_len a (by omega)
  have hdb := dec_len b (by omega)
  have hdc := dec_len c (by omega)
  have hdn := dec_len n (by omega)
  have i0 : ∀ w, (Instr.index 173 (.agg #[.int .i64 7, .int .i64 7, .int .i64 15]) (.int .i64 0)).run Tryd.prog w = .ok (.int .i64 7) w := fun _ => by kernel_rfl
  have i1 : ∀ w, (Instr.index 173 (.agg #[.int .i64 7, .int .i64 7, .int .i64 15]) (.int .i64 1)).run Tryd.prog w = .ok (.int .i64 7) w := fun _ => by kernel_rfl
  have i2 : ∀ w, (Instr.index 173 (.agg #[.int .i64 7, .int .i64 7, .int .i64 15]) (.int .i64 2)).run Tryd.prog w = .ok (.int .i64 15) w := fun _ => by kernel_rfl
  go_enter Tryd.func67, Tryd.ntmps67
  go_wp2_with (go_at_call 93; refine (HRW.out _).mono ?_; rintro e w2 ⟨rfl, rfl⟩)
  refine wp_loop_rounds 4 ?_
  repeat any_goals (rw [rounds_succ]; go_wp2_with (first
    | (go_at_call 27; (first | with_reducible refine (HDA.out _).mono ?_ | with_reducible refine (HDB.out _).mono ?_ | with_reducible refine (HDC.out _).mono ?_ | with_reducible refine (HDN.out _).mono ?_); rintro e w2 ⟨rfl, ho⟩; have hl := HL.out.nob ho; clear HL; obtain ⟨z0, z1, z4, r1, r2, r3, r4, a0, a1, a2, l0, l1, l2⟩ := hl.cells; have HL := hide hl; clear hl ho)))
  have he : (⟨(lineL ⟨8, a, b, c, n⟩).toArray⟩ : ByteArray) = ⟨#[108, 111, 97, 100]⟩ ++ ⟨#[32, 114]⟩ ++ ⟨(decDigits a).toArray⟩ ++ ⟨#[32, 114]⟩ ++ ⟨(decDigits b).toArray⟩ ++ ⟨#[32]⟩ ++ ⟨(decDigits c).toArray⟩ := by
    apply ByteArray.ext
    simp [lineL, insWords, kindsP, toldP, atList, nameList]
  go_ret
  exact ⟨by rw [he]; rfl, HL.out.only⟩
set_option maxRecDepth 100000 in
set_option maxHeartbeats 4000000 in
theorem line_9 (w : World) (a b c n : Nat) (ha : a < 100) (hb : b < 100) (hc : c < 100) (hn : n < 18446744073709551616) (htab : TabAt w) : Calls Tryd.prog 67 #[.agg #[.int .i64 9, .int .i64 (a : Int), .int .i64 (b : Int), .int .i64 (c : Int), .int .u64 (n : Int)]] w fun e w' => e = .returned (.string ⟨(lineL ⟨9, a, b, c, n⟩).toArray⟩) ∧ Only Nob w w' := by
  have HRW : Hid (∀ W, Calls Tryd.prog 93 #[.int .i64 9] W fun e w' => e = .returned (.tuple #[.agg #[.string ⟨#[115, 116, 111, 114, 101]⟩, .int .i64 7, .int .i64 7, .int .i64 15, .bool false], .bool true]) ∧ w' = W.alloc (.cells #[.string ⟨#[115, 116, 111, 114, 101]⟩, .int .i64 7, .int .i64 7, .int .i64 15, .bool false] 169)) := hide (fun W => rowOf_9 W)
  have htab := hide htab
  have HDA := hide (fun W => decimal_any a (by omega) W)
  have HDB := hide (fun W => decimal_any b (by omega) W)
  have HDC := hide (fun W => decimal_any c (by omega) W)
  have HDN := hide (fun W => decimal_any n (by omega) W)
  have HL := hide (LW.start w 9 a b c n 7 7 15 false ⟨#[115, 116, 111, 114, 101]⟩)
  have hda := dec_len a (by omega)
  have hdb := dec_len b (by omega)
  have hdc := dec_len c (by omega)
  have hdn := dec_len n (by omega)
  have i0 : ∀ w, (Instr.index 173 (.agg #[.int .i64 7, .int .i64 7, .int .i64 15]) (.int .i64 0)).run Tryd.prog w = .ok (.int .i64 7) w := fun _ => by kernel_rfl
  have i1 : ∀ w, (Instr.index 173 (.agg #[.int .i64 7, .int .i64 7, .int .i64 15]) (.int .i64 1)).run Tryd.prog w = .ok (.int .i64 7) w := fun _ => by kernel_rfl
  have i2 : ∀ w, (Instr.index 173 (.agg #[.int .i64 7, .int .i64 7, .int .i64 15]) (.int .i64 2)).run Tryd.prog w = .ok (.int .i64 15) w := fun _ => by kernel_rfl
  go_enter Tryd.func67, Tryd.ntmps67
  go_wp2_with (go_at_call 93; refine (HRW.out _).mono ?_; rintro e w2 ⟨rfl, rfl⟩)
  refine wp_loop_rounds 4 ?_
  repeat any_goals (rw [rounds_succ]; go_wp2_with (first
    | (go_at_call 27; (first | with_reducible refine (HDA.out _).mono ?_ | with_reducible refine (HDB.out _).mono ?_ | with_reducible refine (HDC.out _).mono ?_ | with_reducible refine (HDN.out _).mono ?_); rintro e w2 ⟨rfl, ho⟩; have hl := HL.out.nob ho; clear HL; obtain ⟨z0, z1, z4, r1, r2, r3, r4, a0, a1, a2, l0, l1, l2⟩ := hl.cells; have HL := hide hl; clear hl ho)))
  have he : (⟨(lineL ⟨9, a, b, c, n⟩).toArray⟩ : ByteArray) = ⟨#[115, 116, 111, 114, 101]⟩ ++ ⟨#[32, 114]⟩ ++ ⟨(decDigits a).toArray⟩ ++ ⟨#[32, 114]⟩ ++ ⟨(decDigits b).toArray⟩ ++ ⟨#[32]⟩ ++ ⟨(decDigits c).toArray⟩ := by
    apply ByteArray.ext
    simp [lineL, insWords, kindsP, toldP, atList, nameList]
  go_ret
  exact ⟨by rw [he]; rfl, HL.out.only⟩
set_option maxRecDepth 100000 in
set_option maxHeartbeats 4000000 in
theorem line_10 (w : World) (a b c n : Nat) (ha : a < 100) (hb : b < 100) (hc : c < 100) (hn : n < 18446744073709551616) (htab : TabAt w) : Calls Tryd.prog 67 #[.agg #[.int .i64 10, .int .i64 (a : Int), .int .i64 (b : Int), .int .i64 (c : Int), .int .u64 (n : Int)]] w fun e w' => e = .returned (.string ⟨(lineL ⟨10, a, b, c, n⟩).toArray⟩) ∧ Only Nob w w' := by
  have HRW : Hid (∀ W, Calls Tryd.prog 93 #[.int .i64 10] W fun e w' => e = .returned (.tuple #[.agg #[.string ⟨#[97, 108, 108, 111, 99]⟩, .int .i64 7, .int .i64 7, .int .i64 (-1), .bool false], .bool true]) ∧ w' = W.alloc (.cells #[.string ⟨#[97, 108, 108, 111, 99]⟩, .int .i64 7, .int .i64 7, .int .i64 (-1), .bool false] 169)) := hide (fun W => rowOf_10 W)
  have htab := hide htab
  have HDA := hide (fun W => decimal_any a (by omega) W)
  have HDB := hide (fun W => decimal_any b (by omega) W)
  have HDC := hide (fun W => decimal_any c (by omega) W)
  have HDN := hide (fun W => decimal_any n (by omega) W)
  have HL := hide (LW.start w 10 a b c n 7 7 (-1) false ⟨#[97, 108, 108, 111, 99]⟩)
  have hda := dec_len a (by omega)
  have hdb := dec_len b (by omega)
  have hdc := dec_len c (by omega)
  have hdn := dec_len n (by omega)
  have i0 : ∀ w, (Instr.index 173 (.agg #[.int .i64 7, .int .i64 7, .int .i64 (-1)]) (.int .i64 0)).run Tryd.prog w = .ok (.int .i64 7) w := fun _ => by kernel_rfl
  have i1 : ∀ w, (Instr.index 173 (.agg #[.int .i64 7, .int .i64 7, .int .i64 (-1)]) (.int .i64 1)).run Tryd.prog w = .ok (.int .i64 7) w := fun _ => by kernel_rfl
  have i2 : ∀ w, (Instr.index 173 (.agg #[.int .i64 7, .int .i64 7, .int .i64 (-1)]) (.int .i64 2)).run Tryd.prog w = .ok (.int .i64 (-1)) w := fun _ => by kernel_rfl
  go_enter Tryd.func67, Tryd.ntmps67
  go_wp2_with (go_at_call 93; refine (HRW.out _).mono ?_; rintro e w2 ⟨rfl, rfl⟩)
  refine wp_loop_rounds 4 ?_
  repeat any_goals (rw [rounds_succ]; go_wp2_with (first
    | (go_at_call 27; (first | with_reducible refine (HDA.out _).mono ?_ | with_reducible refine (HDB.out _).mono ?_ | with_reducible refine (HDC.out _).mono ?_ | with_reducible refine (HDN.out _).mono ?_); rintro e w2 ⟨rfl, ho⟩; have hl := HL.out.nob ho; clear HL; obtain ⟨z0, z1, z4, r1, r2, r3, r4, a0, a1, a2, l0, l1, l2⟩ := hl.cells; have HL := hide hl; clear hl ho)))
  have he : (⟨(lineL ⟨10, a, b, c, n⟩).toArray⟩ : ByteArray) = ⟨#[97, 108, 108, 111, 99]⟩ ++ ⟨#[32, 114]⟩ ++ ⟨(decDigits a).toArray⟩ ++ ⟨#[32, 114]⟩ ++ ⟨(decDigits b).toArray⟩ := by
    apply ByteArray.ext
    simp [lineL, insWords, kindsP, toldP, atList, nameList]
  go_ret
  exact ⟨by rw [he]; rfl, HL.out.only⟩
set_option maxRecDepth 100000 in
set_option maxHeartbeats 4000000 in
theorem line_11 (w : World) (a b c n : Nat) (ha : a < 100) (hb : b < 100) (hc : c < 100) (hn : n < 18446744073709551616) (htab : TabAt w) : Calls Tryd.prog 67 #[.agg #[.int .i64 11, .int .i64 (a : Int), .int .i64 (b : Int), .int .i64 (c : Int), .int .u64 (n : Int)]] w fun e w' => e = .returned (.string ⟨(lineL ⟨11, a, b, c, n⟩).toArray⟩) ∧ Only Nob w w' := by
  have HRW : Hid (∀ W, Calls Tryd.prog 93 #[.int .i64 11] W fun e w' => e = .returned (.tuple #[.agg #[.string ⟨#[102, 114, 101, 101]⟩, .int .i64 7, .int .i64 (-1), .int .i64 (-1), .bool false], .bool true]) ∧ w' = W.alloc (.cells #[.string ⟨#[102, 114, 101, 101]⟩, .int .i64 7, .int .i64 (-1), .int .i64 (-1), .bool false] 169)) := hide (fun W => rowOf_11 W)
  have htab := hide htab
  have HDA := hide (fun W => decimal_any a (by omega) W)
  have HDB := hide (fun W => decimal_any b (by omega) W)
  have HDC := hide (fun W => decimal_any c (by omega) W)
  have HDN := hide (fun W => decimal_any n (by omega) W)
  have HL := hide (LW.start w 11 a b c n 7 (-1) (-1) false ⟨#[102, 114, 101, 101]⟩)
  have hda := dec_len a (by omega)
  have hdb := dec_len b (by omega)
  have hdc := dec_len c (by omega)
  have hdn := dec_len n (by omega)
  have i0 : ∀ w, (Instr.index 173 (.agg #[.int .i64 7, .int .i64 (-1), .int .i64 (-1)]) (.int .i64 0)).run Tryd.prog w = .ok (.int .i64 7) w := fun _ => by kernel_rfl
  have i1 : ∀ w, (Instr.index 173 (.agg #[.int .i64 7, .int .i64 (-1), .int .i64 (-1)]) (.int .i64 1)).run Tryd.prog w = .ok (.int .i64 (-1)) w := fun _ => by kernel_rfl
  have i2 : ∀ w, (Instr.index 173 (.agg #[.int .i64 7, .int .i64 (-1), .int .i64 (-1)]) (.int .i64 2)).run Tryd.prog w = .ok (.int .i64 (-1)) w := fun _ => by kernel_rfl
  go_enter Tryd.func67, Tryd.ntmps67
  go_wp2_with (go_at_call 93; refine (HRW.out _).mono ?_; rintro e w2 ⟨rfl, rfl⟩)
  refine wp_loop_rounds 4 ?_
  repeat any_goals (rw [rounds_succ]; go_wp2_with (first
    | (go_at_call 27; (first | with_reducible refine (HDA.out _).mono ?_ | with_reducible refine (HDB.out _).mono ?_ | with_reducible refine (HDC.out _).mono ?_ | with_reducible refine (HDN.out _).mono ?_); rintro e w2 ⟨rfl, ho⟩; have hl := HL.out.nob ho; clear HL; obtain ⟨z0, z1, z4, r1, r2, r3, r4, a0, a1, a2, l0, l1, l2⟩ := hl.cells; have HL := hide hl; clear hl ho)))
  have he : (⟨(lineL ⟨11, a, b, c, n⟩).toArray⟩ : ByteArray) = ⟨#[102, 114, 101, 101]⟩ ++ ⟨#[32, 114]⟩ ++ ⟨(decDigits a).toArray⟩ := by
    apply ByteArray.ext
    simp [lineL, insWords, kindsP, toldP, atList, nameList]
  go_ret
  exact ⟨by rw [he]; rfl, HL.out.only⟩
set_option maxRecDepth 100000 in
set_option maxHeartbeats 4000000 in
theorem line_12 (w : World) (a b c n : Nat) (ha : a < 100) (hb : b < 100) (hc : c < 100) (hn : n < 18446744073709551616) (htab : TabAt w) : Calls Tryd.prog 67 #[.agg #[.int .i64 12, .int .i64 (a : Int), .int .i64 (b : Int), .int .i64 (c : Int), .int .u64 (n : Int)]] w fun e w' => e = .returned (.string ⟨(lineL ⟨12, a, b, c, n⟩).toArray⟩) ∧ Only Nob w w' := by
  have HRW : Hid (∀ W, Calls Tryd.prog 93 #[.int .i64 12] W fun e w' => e = .returned (.tuple #[.agg #[.string ⟨#[106, 117, 109, 112]⟩, .int .i64 (-1), .int .i64 (-1), .int .i64 40, .bool false], .bool true]) ∧ w' = W.alloc (.cells #[.string ⟨#[106, 117, 109, 112]⟩, .int .i64 (-1), .int .i64 (-1), .int .i64 40, .bool false] 169)) := hide (fun W => rowOf_12 W)
  have htab := hide htab
  have HDA := hide (fun W => decimal_any a (by omega) W)
  have HDB := hide (fun W => decimal_any b (by omega) W)
  have HDC := hide (fun W => decimal_any c (by omega) W)
  have HDN := hide (fun W => decimal_any n (by omega) W)
  have HL := hide (LW.start w 12 a b c n (-1) (-1) 40 false ⟨#[106, 117, 109, 112]⟩)
  have hda := dec_len a (by omega)
  have hdb := dec_len b (by omega)
  have hdc := dec_len c (by omega)
  have hdn := dec_len n (by omega)
  have i0 : ∀ w, (Instr.index 173 (.agg #[.int .i64 (-1), .int .i64 (-1), .int .i64 40]) (.int .i64 0)).run Tryd.prog w = .ok (.int .i64 (-1)) w := fun _ => by kernel_rfl
  have i1 : ∀ w, (Instr.index 173 (.agg #[.int .i64 (-1), .int .i64 (-1), .int .i64 40]) (.int .i64 1)).run Tryd.prog w = .ok (.int .i64 (-1)) w := fun _ => by kernel_rfl
  have i2 : ∀ w, (Instr.index 173 (.agg #[.int .i64 (-1), .int .i64 (-1), .int .i64 40]) (.int .i64 2)).run Tryd.prog w = .ok (.int .i64 40) w := fun _ => by kernel_rfl
  go_enter Tryd.func67, Tryd.ntmps67
  go_wp2_with (go_at_call 93; refine (HRW.out _).mono ?_; rintro e w2 ⟨rfl, rfl⟩)
  refine wp_loop_rounds 4 ?_
  repeat any_goals (rw [rounds_succ]; go_wp2_with (first
    | (go_at_call 27; (first | with_reducible refine (HDA.out _).mono ?_ | with_reducible refine (HDB.out _).mono ?_ | with_reducible refine (HDC.out _).mono ?_ | with_reducible refine (HDN.out _).mono ?_); rintro e w2 ⟨rfl, ho⟩; have hl := HL.out.nob ho; clear HL; obtain ⟨z0, z1, z4, r1, r2, r3, r4, a0, a1, a2, l0, l1, l2⟩ := hl.cells; have HL := hide hl; clear hl ho)))
  have he : (⟨(lineL ⟨12, a, b, c, n⟩).toArray⟩ : ByteArray) = ⟨#[106, 117, 109, 112]⟩ ++ ⟨#[32, 108]⟩ ++ ⟨(decDigits c).toArray⟩ := by
    apply ByteArray.ext
    simp [lineL, insWords, kindsP, toldP, atList, nameList]
  go_ret
  exact ⟨by rw [he]; rfl, HL.out.only⟩
set_option maxRecDepth 100000 in
set_option maxHeartbeats 4000000 in
theorem line_13 (w : World) (a b c n : Nat) (ha : a < 100) (hb : b < 100) (hc : c < 100) (hn : n < 18446744073709551616) (htab : TabAt w) : Calls Tryd.prog 67 #[.agg #[.int .i64 13, .int .i64 (a : Int), .int .i64 (b : Int), .int .i64 (c : Int), .int .u64 (n : Int)]] w fun e w' => e = .returned (.string ⟨(lineL ⟨13, a, b, c, n⟩).toArray⟩) ∧ Only Nob w w' := by
  have HRW : Hid (∀ W, Calls Tryd.prog 93 #[.int .i64 13] W fun e w' => e = .returned (.tuple #[.agg #[.string ⟨#[122, 101, 114, 111]⟩, .int .i64 7, .int .i64 (-1), .int .i64 40, .bool false], .bool true]) ∧ w' = W.alloc (.cells #[.string ⟨#[122, 101, 114, 111]⟩, .int .i64 7, .int .i64 (-1), .int .i64 40, .bool false] 169)) := hide (fun W => rowOf_13 W)
  have htab := hide htab
  have HDA := hide (fun W => decimal_any a (by omega) W)
  have HDB := hide (fun W => decimal_any b (by omega) W)
  have HDC := hide (fun W => decimal_any c (by omega) W)
  have HDN := hide (fun W => decimal_any n (by omega) W)
  have HL := hide (LW.start w 13 a b c n 7 (-1) 40 false ⟨#[122, 101, 114, 111]⟩)
  have hda := dec_len a (by omega)
  have hdb := dec_len b (by omega)
  have hdc := dec_len c (by omega)
  have hdn := dec_len n (by omega)
  have i0 : ∀ w, (Instr.index 173 (.agg #[.int .i64 7, .int .i64 (-1), .int .i64 40]) (.int .i64 0)).run Tryd.prog w = .ok (.int .i64 7) w := fun _ => by kernel_rfl
  have i1 : ∀ w, (Instr.index 173 (.agg #[.int .i64 7, .int .i64 (-1), .int .i64 40]) (.int .i64 1)).run Tryd.prog w = .ok (.int .i64 (-1)) w := fun _ => by kernel_rfl
  have i2 : ∀ w, (Instr.index 173 (.agg #[.int .i64 7, .int .i64 (-1), .int .i64 40]) (.int .i64 2)).run Tryd.prog w = .ok (.int .i64 40) w := fun _ => by kernel_rfl
  go_enter Tryd.func67, Tryd.ntmps67
  go_wp2_with (go_at_call 93; refine (HRW.out _).mono ?_; rintro e w2 ⟨rfl, rfl⟩)
  refine wp_loop_rounds 4 ?_
  repeat any_goals (rw [rounds_succ]; go_wp2_with (first
    | (go_at_call 27; (first | with_reducible refine (HDA.out _).mono ?_ | with_reducible refine (HDB.out _).mono ?_ | with_reducible refine (HDC.out _).mono ?_ | with_reducible refine (HDN.out _).mono ?_); rintro e w2 ⟨rfl, ho⟩; have hl := HL.out.nob ho; clear HL; obtain ⟨z0, z1, z4, r1, r2, r3, r4, a0, a1, a2, l0, l1, l2⟩ := hl.cells; have HL := hide hl; clear hl ho)))
  have he : (⟨(lineL ⟨13, a, b, c, n⟩).toArray⟩ : ByteArray) = ⟨#[122, 101, 114, 111]⟩ ++ ⟨#[32, 114]⟩ ++ ⟨(decDigits a).toArray⟩ ++ ⟨#[32, 108]⟩ ++ ⟨(decDigits c).toArray⟩ := by
    apply ByteArray.ext
    simp [lineL, insWords, kindsP, toldP, atList, nameList]
  go_ret
  exact ⟨by rw [he]; rfl, HL.out.only⟩
end Go.Proofs.YtngahgfppbjebaaDoor
