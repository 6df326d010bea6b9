/-
  The reference's Line: printed by a program, instruction by instruction.
-/
import Derived.Test.YtngahgfppbjebaaDoorTxLineA
namespace Go.Proofs.YtngahgfppbjebaaDoor
open Go.RowKit Go.Lib
set_option linter.unusedVariables false
set_option linter.unusedSimpArgs false

set_option maxRecDepth 100000 in
set_option maxHeartbeats 4000000 in
theorem line_14 (w : World) (a b c n : Nat) (ha : a < 100) (hb : b < 100) (hc : c < 100) (hn : n < 18446744073709551616) (htab : TabAt w) : Calls Tryd.prog 67 #[.agg #[.int .i64 14, .int .i64 (a : Int), .int .i64 (b : Int), .int .i64 (c : Int), .int .u64 (n : Int)]] w fun e w' => e = .returned (.string ⟨(lineL ⟨14, a, b, c, n⟩).toArray⟩) ∧ Only Nob w w' := by
  have HRW : Hid (∀ W, Calls Tryd.prog 93 #[.int .i64 14] W fun e w' => e = .returned (.tuple #[.agg #[.string ⟨#[111, 112, 101, 110]⟩, .int .i64 (-1), .int .i64 (-1), .int .i64 (-1), .bool false], .bool true]) ∧ w' = W.alloc (.cells #[.string ⟨#[111, 112, 101, 110]⟩, .int .i64 (-1), .int .i64 (-1), .int .i64 (-1), .bool false] 169)) := hide (fun W => rowOf_14 W)
  have htab := hide htab
  have HDA := hide (fun W => decimal_any a (by omega) W)
  have HDB := hide (fun W => decimal_any b (by omega) W)
  have HDC := hide (fun W => decimal_any c (by omega) W)
  have HDN := hide (fun W => decimal_any n (by omega) W)
  have HL := hide (LW.start w 14 a b c n (-1) (-1) (-1) false ⟨#[111, 112, 101, 110]⟩)
  have hda := dec_len a (by omega)
  have hdb := dec_len b (by omega)
  have hdc := dec_len c (by omega)
  have hdn := dec_len n (by omega)
  have i0 : ∀ w, (Instr.index 173 (.agg #[.int .i64 (-1), .int .i64 (-1), .int .i64 (-1)]) (.int .i64 0)).run Tryd.prog w = .ok (.int .i64 (-1)) w := fun _ => by kernel_rfl
  have i1 : ∀ w, (Instr.index 173 (.agg #[.int .i64 (-1), .int .i64 (-1), .int .i64 (-1)]) (.int .i64 1)).run Tryd.prog w = .ok (.int .i64 (-1)) w := fun _ => by kernel_rfl
  have i2 : ∀ w, (Instr.index 173 (.agg #[.int .i64 (-1), .int .i64 (-1), .int .i64 (-1)]) (.int .i64 2)).run Tryd.prog w = .ok (.int .i64 (-1)) w := fun _ => by kernel_rfl
  go_enter Tryd.func67, Tryd.ntmps67
  go_wp2_with (go_at_call 93; refine (HRW.out _).mono ?_; rintro e w2 ⟨rfl, rfl⟩)
  refine wp_loop_rounds 4 ?_
  repeat any_goals (rw [rounds_succ]; go_wp2_with (first
    | (go_at_call 27; (first | with_reducible refine (HDA.out _).mono ?_ | with_reducible refine (HDB.out _).mono ?_ | with_reducible refine (HDC.out _).mono ?_ | with_reducible refine (HDN.out _).mono ?_); rintro e w2 ⟨rfl, ho⟩; have hl := HL.out.nob ho; clear HL; obtain ⟨z0, z1, z4, r1, r2, r3, r4, a0, a1, a2, l0, l1, l2⟩ := hl.cells; have HL := hide hl; clear hl ho)))
  have he : (⟨(lineL ⟨14, a, b, c, n⟩).toArray⟩ : ByteArray) = ⟨#[111, 112, 101, 110]⟩ := by
    apply ByteArray.ext
    simp [lineL, insWords, kindsP, toldP, atList, nameList]
  go_ret
  exact ⟨by rw [he]; rfl, HL.out.only⟩
set_option maxRecDepth 100000 in
set_option maxHeartbeats 4000000 in
theorem line_15 (w : World) (a b c n : Nat) (ha : a < 100) (hb : b < 100) (hc : c < 100) (hn : n < 18446744073709551616) (htab : TabAt w) : Calls Tryd.prog 67 #[.agg #[.int .i64 15, .int .i64 (a : Int), .int .i64 (b : Int), .int .i64 (c : Int), .int .u64 (n : Int)]] w fun e w' => e = .returned (.string ⟨(lineL ⟨15, a, b, c, n⟩).toArray⟩) ∧ Only Nob w w' := by
  have HRW : Hid (∀ W, Calls Tryd.prog 93 #[.int .i64 15] W fun e w' => e = .returned (.tuple #[.agg #[.string ⟨#[99, 108, 111, 115, 101]⟩, .int .i64 (-1), .int .i64 (-1), .int .i64 (-1), .bool false], .bool true]) ∧ w' = W.alloc (.cells #[.string ⟨#[99, 108, 111, 115, 101]⟩, .int .i64 (-1), .int .i64 (-1), .int .i64 (-1), .bool false] 169)) := hide (fun W => rowOf_15 W)
  have htab := hide htab
  have HDA := hide (fun W => decimal_any a (by omega) W)
  have HDB := hide (fun W => decimal_any b (by omega) W)
  have HDC := hide (fun W => decimal_any c (by omega) W)
  have HDN := hide (fun W => decimal_any n (by omega) W)
  have HL := hide (LW.start w 15 a b c n (-1) (-1) (-1) false ⟨#[99, 108, 111, 115, 101]⟩)
  have hda := dec_len a (by omega)
  have hdb := dec_len b (by omega)
  have hdc := dec_len c (by omega)
  have hdn := dec_len n (by omega)
  have i0 : ∀ w, (Instr.index 173 (.agg #[.int .i64 (-1), .int .i64 (-1), .int .i64 (-1)]) (.int .i64 0)).run Tryd.prog w = .ok (.int .i64 (-1)) w := fun _ => by kernel_rfl
  have i1 : ∀ w, (Instr.index 173 (.agg #[.int .i64 (-1), .int .i64 (-1), .int .i64 (-1)]) (.int .i64 1)).run Tryd.prog w = .ok (.int .i64 (-1)) w := fun _ => by kernel_rfl
  have i2 : ∀ w, (Instr.index 173 (.agg #[.int .i64 (-1), .int .i64 (-1), .int .i64 (-1)]) (.int .i64 2)).run Tryd.prog w = .ok (.int .i64 (-1)) w := fun _ => by kernel_rfl
  go_enter Tryd.func67, Tryd.ntmps67
  go_wp2_with (go_at_call 93; refine (HRW.out _).mono ?_; rintro e w2 ⟨rfl, rfl⟩)
  refine wp_loop_rounds 4 ?_
  repeat any_goals (rw [rounds_succ]; go_wp2_with (first
    | (go_at_call 27; (first | with_reducible refine (HDA.out _).mono ?_ | with_reducible refine (HDB.out _).mono ?_ | with_reducible refine (HDC.out _).mono ?_ | with_reducible refine (HDN.out _).mono ?_); rintro e w2 ⟨rfl, ho⟩; have hl := HL.out.nob ho; clear HL; obtain ⟨z0, z1, z4, r1, r2, r3, r4, a0, a1, a2, l0, l1, l2⟩ := hl.cells; have HL := hide hl; clear hl ho)))
  have he : (⟨(lineL ⟨15, a, b, c, n⟩).toArray⟩ : ByteArray) = ⟨#[99, 108, 111, 115, 101]⟩ := by
    apply ByteArray.ext
    simp [lineL, insWords, kindsP, toldP, atList, nameList]
  go_ret
  exact ⟨by rw [he]; rfl, HL.out.only⟩
set_option maxRecDepth 100000 in
set_option maxHeartbeats 4000000 in
theorem line_16 (w : World) (a b c n : Nat) (ha : a < 100) (hb : b < 100) (hc : c < 100) (hn : n < 18446744073709551616) (htab : TabAt w) : Calls Tryd.prog 67 #[.agg #[.int .i64 16, .int .i64 (a : Int), .int .i64 (b : Int), .int .i64 (c : Int), .int .u64 (n : Int)]] w fun e w' => e = .returned (.string ⟨(lineL ⟨16, a, b, c, n⟩).toArray⟩) ∧ Only Nob w w' := by
  have HRW : Hid (∀ W, Calls Tryd.prog 93 #[.int .i64 16] W fun e w' => e = .returned (.tuple #[.agg #[.string ⟨#[117, 110, 100, 111]⟩, .int .i64 (-1), .int .i64 (-1), .int .i64 (-1), .bool false], .bool true]) ∧ w' = W.alloc (.cells #[.string ⟨#[117, 110, 100, 111]⟩, .int .i64 (-1), .int .i64 (-1), .int .i64 (-1), .bool false] 169)) := hide (fun W => rowOf_16 W)
  have htab := hide htab
  have HDA := hide (fun W => decimal_any a (by omega) W)
  have HDB := hide (fun W => decimal_any b (by omega) W)
  have HDC := hide (fun W => decimal_any c (by omega) W)
  have HDN := hide (fun W => decimal_any n (by omega) W)
  have HL := hide (LW.start w 16 a b c n (-1) (-1) (-1) false ⟨#[117, 110, 100, 111]⟩)
  have hda := dec_len a (by omega)
  have hdb := dec_len b (by omega)
  have hdc := dec_len c (by omega)
  have hdn := dec_len n (by omega)
  have i0 : ∀ w, (Instr.index 173 (.agg #[.int .i64 (-1), .int .i64 (-1), .int .i64 (-1)]) (.int .i64 0)).run Tryd.prog w = .ok (.int .i64 (-1)) w := fun _ => by kernel_rfl
  have i1 : ∀ w, (Instr.index 173 (.agg #[.int .i64 (-1), .int .i64 (-1), .int .i64 (-1)]) (.int .i64 1)).run Tryd.prog w = .ok (.int .i64 (-1)) w := fun _ => by kernel_rfl
  have i2 : ∀ w, (Instr.index 173 (.agg #[.int .i64 (-1), .int .i64 (-1), .int .i64 (-1)]) (.int .i64 2)).run Tryd.prog w = .ok (.int .i64 (-1)) w := fun _ => by kernel_rfl
  go_enter Tryd.func67, Tryd.ntmps67
  go_wp2_with (go_at_call 93; refine (HRW.out _).mono ?_; rintro e w2 ⟨rfl, rfl⟩)
  refine wp_loop_rounds 4 ?_
  repeat any_goals (rw [rounds_succ]; go_wp2_with (first
    | (go_at_call 27; (first | with_reducible refine (HDA.out _).mono ?_ | with_reducible refine (HDB.out _).mono ?_ | with_reducible refine (HDC.out _).mono ?_ | with_reducible refine (HDN.out _).mono ?_); rintro e w2 ⟨rfl, ho⟩; have hl := HL.out.nob ho; clear HL; obtain ⟨z0, z1, z4, r1, r2, r3, r4, a0, a1, a2, l0, l1, l2⟩ := hl.cells; have HL := hide hl; clear hl ho)))
  have he : (⟨(lineL ⟨16, a, b, c, n⟩).toArray⟩ : ByteArray) = ⟨#[117, 110, 100, 111]⟩ := by
    apply ByteArray.ext
    simp [lineL, insWords, kindsP, toldP, atList, nameList]
  go_ret
  exact ⟨by rw [he]; rfl, HL.out.only⟩
set_option maxRecDepth 100000 in
set_option maxHeartbeats 4000000 in
theorem line_17 (w : World) (a b c n : Nat) (ha : a < 100) (hb : b < 100) (hc : c < 100) (hn : n < 18446744073709551616) (htab : TabAt w) : Calls Tryd.prog 67 #[.agg #[.int .i64 17, .int .i64 (a : Int), .int .i64 (b : Int), .int .i64 (c : Int), .int .u64 (n : Int)]] w fun e w' => e = .returned (.string ⟨(lineL ⟨17, a, b, c, n⟩).toArray⟩) ∧ Only Nob w w' := by
  have HRW : Hid (∀ W, Calls Tryd.prog 93 #[.int .i64 17] W fun e w' => e = .returned (.tuple #[.agg #[.string ⟨#[101, 105, 116, 104, 101, 114]⟩, .int .i64 (-1), .int .i64 (-1), .int .i64 (-1), .bool false], .bool true]) ∧ w' = W.alloc (.cells #[.string ⟨#[101, 105, 116, 104, 101, 114]⟩, .int .i64 (-1), .int .i64 (-1), .int .i64 (-1), .bool false] 169)) := hide (fun W => rowOf_17 W)
  have htab := hide htab
  have HDA := hide (fun W => decimal_any a (by omega) W)
  have HDB := hide (fun W => decimal_any b (by omega) W)
  have HDC := hide (fun W => decimal_any c (by omega) W)
  have HDN := hide (fun W => decimal_any n (by omega) W)
  have HL := hide (LW.start w 17 a b c n (-1) (-1) (-1) false ⟨#[101, 105, 116, 104, 101, 114]⟩)
  have hda := dec_len a (by omega)
  have hdb := dec_len b (by omega)
  have hdc := dec_len c (by omega)
  have hdn := dec_len n (by omega)
  have i0 : ∀ w, (Instr.index 173 (.agg #[.int .i64 (-1), .int .i64 (-1), .int .i64 (-1)]) (.int .i64 0)).run Tryd.prog w = .ok (.int .i64 (-1)) w := fun _ => by kernel_rfl
  have i1 : ∀ w, (Instr.index 173 (.agg #[.int .i64 (-1), .int .i64 (-1), .int .i64 (-1)]) (.int .i64 1)).run Tryd.prog w = .ok (.int .i64 (-1)) w := fun _ => by kernel_rfl
  have i2 : ∀ w, (Instr.index 173 (.agg #[.int .i64 (-1), .int .i64 (-1), .int .i64 (-1)]) (.int .i64 2)).run Tryd.prog w = .ok (.int .i64 (-1)) w := fun _ => by kernel_rfl
  go_enter Tryd.func67, Tryd.ntmps67
  go_wp2_with (go_at_call 93; refine (HRW.out _).mono ?_; rintro e w2 ⟨rfl, rfl⟩)
  refine wp_loop_rounds 4 ?_
  repeat any_goals (rw [rounds_succ]; go_wp2_with (first
    | (go_at_call 27; (first | with_reducible refine (HDA.out _).mono ?_ | with_reducible refine (HDB.out _).mono ?_ | with_reducible refine (HDC.out _).mono ?_ | with_reducible refine (HDN.out _).mono ?_); rintro e w2 ⟨rfl, ho⟩; have hl := HL.out.nob ho; clear HL; obtain ⟨z0, z1, z4, r1, r2, r3, r4, a0, a1, a2, l0, l1, l2⟩ := hl.cells; have HL := hide hl; clear hl ho)))
  have he : (⟨(lineL ⟨17, a, b, c, n⟩).toArray⟩ : ByteArray) = ⟨#[101, 105, 116, 104, 101, 114]⟩ := by
    apply ByteArray.ext
    simp [lineL, insWords, kindsP, toldP, atList, nameList]
  go_ret
  exact ⟨by rw [he]; rfl, HL.out.only⟩
set_option maxRecDepth 100000 in
set_option maxHeartbeats 4000000 in
theorem line_18 (w : World) (a b c n : Nat) (ha : a < 100) (hb : b < 100) (hc : c < 100) (hn : n < 18446744073709551616) (htab : TabAt w) : Calls Tryd.prog 67 #[.agg #[.int .i64 18, .int .i64 (a : Int), .int .i64 (b : Int), .int .i64 (c : Int), .int .u64 (n : Int)]] w fun e w' => e = .returned (.string ⟨(lineL ⟨18, a, b, c, n⟩).toArray⟩) ∧ Only Nob w w' := by
  have HRW : Hid (∀ W, Calls Tryd.prog 93 #[.int .i64 18] W fun e w' => e = .returned (.tuple #[.agg #[.string ⟨#[111, 114]⟩, .int .i64 (-1), .int .i64 (-1), .int .i64 (-1), .bool false], .bool true]) ∧ w' = W.alloc (.cells #[.string ⟨#[111, 114]⟩, .int .i64 (-1), .int .i64 (-1), .int .i64 (-1), .bool false] 169)) := hide (fun W => rowOf_18 W)
  have htab := hide htab
  have HDA := hide (fun W => decimal_any a (by omega) W)
  have HDB := hide (fun W => decimal_any b (by omega) W)
  have HDC := hide (fun W => decimal_any c (by omega) W)
  have HDN := hide (fun W => decimal_any n (by omega) W)
  have HL := hide (LW.start w 18 a b c n (-1) (-1) (-1) false ⟨#[111, 114]⟩)
  have hda := dec_len a (by omega)
  have hdb := dec_len b (by omega)
  have hdc := dec_len c (by omega)
  have hdn := dec_len n (by omega)
  have i0 : ∀ w, (Instr.index 173 (.agg #[.int .i64 (-1), .int .i64 (-1), .int .i64 (-1)]) (.int .i64 0)).run Tryd.prog w = .ok (.int .i64 (-1)) w := fun _ => by kernel_rfl
  have i1 : ∀ w, (Instr.index 173 (.agg #[.int .i64 (-1), .int .i64 (-1), .int .i64 (-1)]) (.int .i64 1)).run Tryd.prog w = .ok (.int .i64 (-1)) w := fun _ => by kernel_rfl
  have i2 : ∀ w, (Instr.index 173 (.agg #[.int .i64 (-1), .int .i64 (-1), .int .i64 (-1)]) (.int .i64 2)).run Tryd.prog w = .ok (.int .i64 (-1)) w := fun _ => by kernel_rfl
  go_enter Tryd.func67, Tryd.ntmps67
  go_wp2_with (go_at_call 93; refine (HRW.out _).mono ?_; rintro e w2 ⟨rfl, rfl⟩)
  refine wp_loop_rounds 4 ?_
  repeat any_goals (rw [rounds_succ]; go_wp2_with (first
    | (go_at_call 27; (first | with_reducible refine (HDA.out _).mono ?_ | with_reducible refine (HDB.out _).mono ?_ | with_reducible refine (HDC.out _).mono ?_ | with_reducible refine (HDN.out _).mono ?_); rintro e w2 ⟨rfl, ho⟩; have hl := HL.out.nob ho; clear HL; obtain ⟨z0, z1, z4, r1, r2, r3, r4, a0, a1, a2, l0, l1, l2⟩ := hl.cells; have HL := hide hl; clear hl ho)))
  have he : (⟨(lineL ⟨18, a, b, c, n⟩).toArray⟩ : ByteArray) = ⟨#[111, 114]⟩ := by
    apply ByteArray.ext
    simp [lineL, insWords, kindsP, toldP, atList, nameList]
  go_ret
  exact ⟨by rw [he]; rfl, HL.out.only⟩
set_option maxRecDepth 100000 in
set_option maxHeartbeats 4000000 in
theorem line_19 (w : World) (a b c n : Nat) (ha : a < 100) (hb : b < 100) (hc : c < 100) (hn : n < 18446744073709551616) (htab : TabAt w) : Calls Tryd.prog 67 #[.agg #[.int .i64 19, .int .i64 (a : Int), .int .i64 (b : Int), .int .i64 (c : Int), .int .u64 (n : Int)]] w fun e w' => e = .returned (.string ⟨(lineL ⟨19, a, b, c, n⟩).toArray⟩) ∧ Only Nob w w' := by
  have HRW : Hid (∀ W, Calls Tryd.prog 93 #[.int .i64 19] W fun e w' => e = .returned (.tuple #[.agg #[.string ⟨#[100, 111, 110, 101]⟩, .int .i64 (-1), .int .i64 (-1), .int .i64 (-1), .bool false], .bool true]) ∧ w' = W.alloc (.cells #[.string ⟨#[100, 111, 110, 101]⟩, .int .i64 (-1), .int .i64 (-1), .int .i64 (-1), .bool false] 169)) := hide (fun W => rowOf_19 W)
  have htab := hide htab
  have HDA := hide (fun W => decimal_any a (by omega) W)
  have HDB := hide (fun W => decimal_any b (by omega) W)
  have HDC := hide (fun W => decimal_any c (by omega) W)
  have HDN := hide (fun W => decimal_any n (by omega) W)
  have HL := hide (LW.start w 19 a b c n (-1) (-1) (-1) false ⟨#[100, 111, 110, 101]⟩)
  have hda := dec_len a (by omega)
  have hdb := dec_len b (by omega)
  have hdc := dec_len c (by omega)
  have hdn := dec_len n (by omega)
  have i0 : ∀ w, (Instr.index 173 (.agg #[.int .i64 (-1), .int .i64 (-1), .int .i64 (-1)]) (.int .i64 0)).run Tryd.prog w = .ok (.int .i64 (-1)) w := fun _ => by kernel_rfl
  have i1 : ∀ w, (Instr.index 173 (.agg #[.int .i64 (-1), .int .i64 (-1), .int .i64 (-1)]) (.int .i64 1)).run Tryd.prog w = .ok (.int .i64 (-1)) w := fun _ => by kernel_rfl
  have i2 : ∀ w, (Instr.index 173 (.agg #[.int .i64 (-1), .int .i64 (-1), .int .i64 (-1)]) (.int .i64 2)).run Tryd.prog w = .ok (.int .i64 (-1)) w := fun _ => by kernel_rfl
  go_enter Tryd.func67, Tryd.ntmps67
  go_wp2_with (go_at_call 93; refine (HRW.out _).mono ?_; rintro e w2 ⟨rfl, rfl⟩)
  refine wp_loop_rounds 4 ?_
  repeat any_goals (rw [rounds_succ]; go_wp2_with (first
    | (go_at_call 27; (first | with_reducible refine (HDA.out _).mono ?_ | with_reducible refine (HDB.out _).mono ?_ | with_reducible refine (HDC.out _).mono ?_ | with_reducible refine (HDN.out _).mono ?_); rintro e w2 ⟨rfl, ho⟩; have hl := HL.out.nob ho; clear HL; obtain ⟨z0, z1, z4, r1, r2, r3, r4, a0, a1, a2, l0, l1, l2⟩ := hl.cells; have HL := hide hl; clear hl ho)))
  have he : (⟨(lineL ⟨19, a, b, c, n⟩).toArray⟩ : ByteArray) = ⟨#[100, 111, 110, 101]⟩ := by
    apply ByteArray.ext
    simp [lineL, insWords, kindsP, toldP, atList, nameList]
  go_ret
  exact ⟨by rw [he]; rfl, HL.out.only⟩
set_option maxRecDepth 100000 in
set_option maxHeartbeats 4000000 in
theorem line_20 (w : World) (a b c n : Nat) (ha : a < 100) (hb : b < 100) (hc : c < 100) (hn : n < 18446744073709551616) (htab : TabAt w) : Calls Tryd.prog 67 #[.agg #[.int .i64 20, .int .i64 (a : Int), .int .i64 (b : Int), .int .i64 (c : Int), .int .u64 (n : Int)]] w fun e w' => e = .returned (.string ⟨(lineL ⟨20, a, b, c, n⟩).toArray⟩) ∧ Only Nob w w' := by
  have HRW : Hid (∀ W, Calls Tryd.prog 93 #[.int .i64 20] W fun e w' => e = .returned (.tuple #[.agg #[.string ⟨#[114, 101, 116, 114, 121]⟩, .int .i64 (-1), .int .i64 (-1), .int .i64 (-1), .bool false], .bool true]) ∧ w' = W.alloc (.cells #[.string ⟨#[114, 101, 116, 114, 121]⟩, .int .i64 (-1), .int .i64 (-1), .int .i64 (-1), .bool false] 169)) := hide (fun W => rowOf_20 W)
  have htab := hide htab
  have HDA := hide (fun W => decimal_any a (by omega) W)
  have HDB := hide (fun W => decimal_any b (by omega) W)
  have HDC := hide (fun W => decimal_any c (by omega) W)
  have HDN := hide (fun W => decimal_any n (by omega) W)
  have HL := hide (LW.start w 20 a b c n (-1) (-1) (-1) false ⟨#[114, 101, 116, 114, 121]⟩)
  have hda := dec_len a (by omega)
  have hdb := dec_len b (by omega)
  have hdc := dec_len c (by omega)
  have hdn := dec_len n (by omega)
  have i0 : ∀ w, (Instr.index 173 (.agg #[.int .i64 (-1), .int .i64 (-1), .int .i64 (-1)]) (.int .i64 0)).run Tryd.prog w = .ok (.int .i64 (-1)) w := fun _ => by kernel_rfl
  have i1 : ∀ w, (Instr.index 173 (.agg #[.int .i64 (-1), .int .i64 (-1), .int .i64 (-1)]) (.int .i64 1)).run Tryd.prog w = .ok (.int .i64 (-1)) w := fun _ => by kernel_rfl
  have i2 : ∀ w, (Instr.index 173 (.agg #[.int .i64 (-1), .int .i64 (-1), .int .i64 (-1)]) (.int .i64 2)).run Tryd.prog w = .ok (.int .i64 (-1)) w := fun _ => by kernel_rfl
  go_enter Tryd.func67, Tryd.ntmps67
  go_wp2_with (go_at_call 93; refine (HRW.out _).mono ?_; rintro e w2 ⟨rfl, rfl⟩)
  refine wp_loop_rounds 4 ?_
  repeat any_goals (rw [rounds_succ]; go_wp2_with (first
    | (go_at_call 27; (first | with_reducible refine (HDA.out _).mono ?_ | with_reducible refine (HDB.out _).mono ?_ | with_reducible refine (HDC.out _).mono ?_ | with_reducible refine (HDN.out _).mono ?_); rintro e w2 ⟨rfl, ho⟩; have hl := HL.out.nob ho; clear HL; obtain ⟨z0, z1, z4, r1, r2, r3, r4, a0, a1, a2, l0, l1, l2⟩ := hl.cells; have HL := hide hl; clear hl ho)))
  have he : (⟨(lineL ⟨20, a, b, c, n⟩).toArray⟩ : ByteArray) = ⟨#[114, 101, 116, 114, 121]⟩ := by
    apply ByteArray.ext
    simp [lineL, insWords, kindsP, toldP, atList, nameList]
  go_ret
  exact ⟨by rw [he]; rfl, HL.out.only⟩
set_option maxRecDepth 100000 in
set_option maxHeartbeats 4000000 in
theorem line_21 (w : World) (a b c n : Nat) (ha : a < 100) (hb : b < 100) (hc : c < 100) (hn : n < 18446744073709551616) (htab : TabAt w) : Calls Tryd.prog 67 #[.agg #[.int .i64 21, .int .i64 (a : Int), .int .i64 (b : Int), .int .i64 (c : Int), .int .u64 (n : Int)]] w fun e w' => e = .returned (.string ⟨(lineL ⟨21, a, b, c, n⟩).toArray⟩) ∧ Only Nob w w' := by
  have HRW : Hid (∀ W, Calls Tryd.prog 93 #[.int .i64 21] W fun e w' => e = .returned (.tuple #[.agg #[.string ⟨#[101, 109, 105, 116]⟩, .int .i64 7, .int .i64 (-1), .int .i64 (-1), .bool false], .bool true]) ∧ w' = W.alloc (.cells #[.string ⟨#[101, 109, 105, 116]⟩, .int .i64 7, .int .i64 (-1), .int .i64 (-1), .bool false] 169)) := hide (fun W => rowOf_21 W)
  have htab := hide htab
  have HDA := hide (fun W => decimal_any a (by omega) W)
  have HDB := hide (fun W => decimal_any b (by omega) W)
  have HDC := hide (fun W => decimal_any c (by omega) W)
  have HDN := hide (fun W => decimal_any n (by omega) W)
  have HL := hide (LW.start w 21 a b c n 7 (-1) (-1) false ⟨#[101, 109, 105, 116]⟩)
  have hda := dec_len a (by omega)
  have hdb := dec_len b (by omega)
  have hdc := dec_len c (by omega)
  have hdn := dec_len n (by omega)
  have i0 : ∀ w, (Instr.index 173 (.agg #[.int .i64 7, .int .i64 (-1), .int .i64 (-1)]) (.int .i64 0)).run Tryd.prog w = .ok (.int .i64 7) w := fun _ => by kernel_rfl
  have i1 : ∀ w, (Instr.index 173 (.agg #[.int .i64 7, .int .i64 (-1), .int .i64 (-1)]) (.int .i64 1)).run Tryd.prog w = .ok (.int .i64 (-1)) w := fun _ => by kernel_rfl
  have i2 : ∀ w, (Instr.index 173 (.agg #[.int .i64 7, .int .i64 (-1), .int .i64 (-1)]) (.int .i64 2)).run Tryd.prog w = .ok (.int .i64 (-1)) w := fun _ => by kernel_rfl
  go_enter Tryd.func67, Tryd.ntmps67
  go_wp2_with (go_at_call 93; refine (HRW.out _).mono ?_; rintro e w2 ⟨rfl, rfl⟩)
  refine wp_loop_rounds 4 ?_
  repeat any_goals (rw [rounds_succ]; go_wp2_with (first
    | (go_at_call 27; (first | with_reducible refine (HDA.out _).mono ?_ | with_reducible refine (HDB.out _).mono ?_ | with_reducible refine (HDC.out _).mono ?_ | with_reducible refine (HDN.out _).mono ?_); rintro e w2 ⟨rfl, ho⟩; have hl := HL.out.nob ho; clear HL; obtain ⟨z0, z1, z4, r1, r2, r3, r4, a0, a1, a2, l0, l1, l2⟩ := hl.cells; have HL := hide hl; clear hl ho)))
  have he : (⟨(lineL ⟨21, a, b, c, n⟩).toArray⟩ : ByteArray) = ⟨#[101, 109, 105, 116]⟩ ++ ⟨#[32, 114]⟩ ++ ⟨(decDigits a).toArray⟩ := by
    apply ByteArray.ext
    simp [lineL, insWords, kindsP, toldP, atList, nameList]
  go_ret
  exact ⟨by rw [he]; rfl, HL.out.only⟩
set_option maxRecDepth 100000 in
set_option maxHeartbeats 4000000 in
theorem line_22 (w : World) (a b c n : Nat) (ha : a < 100) (hb : b < 100) (hc : c < 100) (hn : n < 18446744073709551616) (htab : TabAt w) : Calls Tryd.prog 67 #[.agg #[.int .i64 22, .int .i64 (a : Int), .int .i64 (b : Int), .int .i64 (c : Int), .int .u64 (n : Int)]] w fun e w' => e = .returned (.string ⟨(lineL ⟨22, a, b, c, n⟩).toArray⟩) ∧ Only Nob w w' := by
  have HRW : Hid (∀ W, Calls Tryd.prog 93 #[.int .i64 22] W fun e w' => e = .returned (.tuple #[.agg #[.string ⟨#[102, 97, 105, 108]⟩, .int .i64 (-1), .int .i64 (-1), .int .i64 (-1), .bool false], .bool true]) ∧ w' = W.alloc (.cells #[.string ⟨#[102, 97, 105, 108]⟩, .int .i64 (-1), .int .i64 (-1), .int .i64 (-1), .bool false] 169)) := hide (fun W => rowOf_22 W)
  have htab := hide htab
  have HDA := hide (fun W => decimal_any a (by omega) W)
  have HDB := hide (fun W => decimal_any b (by omega) W)
  have HDC := hide (fun W => decimal_any c (by omega) W)
  have HDN := hide (fun W => decimal_any n (by omega) W)
  have HL := hide (LW.start w 22 a b c n (-1) (-1) (-1) false ⟨#[102, 97, 105, 108]⟩)
  have hda := dec_len a (by omega)
  have hdb := dec_len b (by omega)
  have hdc := dec_len c (by omega)
  have hdn := dec_len n (by omega)
  have i0 : ∀ w, (Instr.index 173 (.agg #[.int .i64 (-1), .int .i64 (-1), .int .i64 (-1)]) (.int .i64 0)).run Tryd.prog w = .ok (.int .i64 (-1)) w := fun _ => by kernel_rfl
  have i1 : ∀ w, (Instr.index 173 (.agg #[.int .i64 (-1), .int .i64 (-1), .int .i64 (-1)]) (.int .i64 1)).run Tryd.prog w = .ok (.int .i64 (-1)) w := fun _ => by kernel_rfl
  have i2 : ∀ w, (Instr.index 173 (.agg #[.int .i64 (-1), .int .i64 (-1), .int .i64 (-1)]) (.int .i64 2)).run Tryd.prog w = .ok (.int .i64 (-1)) w := fun _ => by kernel_rfl
  go_enter Tryd.func67, Tryd.ntmps67
  go_wp2_with (go_at_call 93; refine (HRW.out _).mono ?_; rintro e w2 ⟨rfl, rfl⟩)
  refine wp_loop_rounds 4 ?_
  repeat any_goals (rw [rounds_succ]; go_wp2_with (first
    | (go_at_call 27; (first | with_reducible refine (HDA.out _).mono ?_ | with_reducible refine (HDB.out _).mono ?_ | with_reducible refine (HDC.out _).mono ?_ | with_reducible refine (HDN.out _).mono ?_); rintro e w2 ⟨rfl, ho⟩; have hl := HL.out.nob ho; clear HL; obtain ⟨z0, z1, z4, r1, r2, r3, r4, a0, a1, a2, l0, l1, l2⟩ := hl.cells; have HL := hide hl; clear hl ho)))
  have he : (⟨(lineL ⟨22, a, b, c, n⟩).toArray⟩ : ByteArray) = ⟨#[102, 97, 105, 108]⟩ := by
    apply ByteArray.ext
    simp [lineL, insWords, kindsP, toldP, atList, nameList]
  go_ret
  exact ⟨by rw [he]; rfl, HL.out.only⟩
set_option maxRecDepth 100000 in
set_option maxHeartbeats 4000000 in
theorem line_23 (w : World) (a b c n : Nat) (ha : a < 100) (hb : b < 100) (hc : c < 100) (hn : n < 18446744073709551616) (htab : TabAt w) : Calls Tryd.prog 67 #[.agg #[.int .i64 23, .int .i64 (a : Int), .int .i64 (b : Int), .int .i64 (c : Int), .int .u64 (n : Int)]] w fun e w' => e = .returned (.string ⟨(lineL ⟨23, a, b, c, n⟩).toArray⟩) ∧ Only Nob w w' := by
  have HRW : Hid (∀ W, Calls Tryd.prog 93 #[.int .i64 23] W fun e w' => e = .returned (.tuple #[.agg #[.string ⟨#[99, 97, 108, 108]⟩, .int .i64 12, .int .i64 7, .int .i64 6, .bool false], .bool true]) ∧ w' = W.alloc (.cells #[.string ⟨#[99, 97, 108, 108]⟩, .int .i64 12, .int .i64 7, .int .i64 6, .bool false] 169)) := hide (fun W => rowOf_23 W)
  have htab := hide htab
  have HDA := hide (fun W => decimal_any a (by omega) W)
  have HDB := hide (fun W => decimal_any b (by omega) W)
  have HDC := hide (fun W => decimal_any c (by omega) W)
  have HDN := hide (fun W => decimal_any n (by omega) W)
  have HL := hide (LW.start w 23 a b c n 12 7 6 false ⟨#[99, 97, 108, 108]⟩)
  have hda := dec_len a (by omega)
  have hdb := dec_len b (by omega)
  have hdc := dec_len c (by omega)
  have hdn := dec_len n (by omega)
  have hcn : (atList callList (a : Int)).size ≤ 100 := call_short _
  have i0 : ∀ w, (Instr.index 173 (.agg #[.int .i64 12, .int .i64 7, .int .i64 6]) (.int .i64 0)).run Tryd.prog w = .ok (.int .i64 12) w := fun _ => by kernel_rfl
  have i1 : ∀ w, (Instr.index 173 (.agg #[.int .i64 12, .int .i64 7, .int .i64 6]) (.int .i64 1)).run Tryd.prog w = .ok (.int .i64 7) w := fun _ => by kernel_rfl
  have i2 : ∀ w, (Instr.index 173 (.agg #[.int .i64 12, .int .i64 7, .int .i64 6]) (.int .i64 2)).run Tryd.prog w = .ok (.int .i64 6) w := fun _ => by kernel_rfl
  go_enter Tryd.func67, Tryd.ntmps67
  go_wp2_with (go_at_call 93; refine (HRW.out _).mono ?_; rintro e w2 ⟨rfl, rfl⟩)
  refine wp_loop_rounds 4 ?_
  repeat any_goals (rw [rounds_succ]; go_wp2_with (first
    | (go_at_call 27; (first | with_reducible refine (HDA.out _).mono ?_ | with_reducible refine (HDB.out _).mono ?_ | with_reducible refine (HDC.out _).mono ?_ | with_reducible refine (HDN.out _).mono ?_); rintro e w2 ⟨rfl, ho⟩; have hl := HL.out.nob ho; clear HL; obtain ⟨z0, z1, z4, r1, r2, r3, r4, a0, a1, a2, l0, l1, l2⟩ := hl.cells; have HL := hide hl; clear hl ho)
    | (go_at_call 95; refine (refcall_any _ _ (htab.only HL.out.only)).mono ?_; rintro e w2 ⟨rfl, hw2⟩; subst hw2)))
  have he : (⟨(lineL ⟨23, a, b, c, n⟩).toArray⟩ : ByteArray) = ⟨#[99, 97, 108, 108]⟩ ++ ⟨#[32]⟩ ++ atList callList (a : Int) ++ ⟨#[32]⟩ ++ ⟨(decDigits b).toArray⟩ ++ ⟨#[32, 114]⟩ ++ ⟨(decDigits c).toArray⟩ := by
    apply ByteArray.ext
    simp [lineL, insWords, kindsP, toldP, atList, nameList]
  go_ret
  exact ⟨by rw [he]; rfl, HL.out.only⟩
end Go.Proofs.YtngahgfppbjebaaDoor
