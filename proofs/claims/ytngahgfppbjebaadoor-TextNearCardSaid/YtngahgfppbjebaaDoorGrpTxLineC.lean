/-
  The reference's Line: printed by a program, instruction by instruction.
  The reference's Line: printed by a program, instruction by instruction.
  The reference's Line: printed by a program, instruction by instruction.
-/
import Derived.Test.YtngahgfppbjebaaDoorTxRefA
import Derived.Test.YtngahgfppbjebaaDoorGrpTxPrintE
import Derived.Test.YtngahgfppbjebaaDoorGrpSlDec
namespace Go.Proofs.YtngahgfppbjebaaDoor
open Go.RowKit Go.Lib
set_option linter.unusedVariables false
set_option linter.unusedSimpArgs false

def lineL (x : PIns) : List UInt8 := (atList nameList x.op).data.toList ++ insWords x
/-- What Line stands on. -/
structure LW (w : World) (op a b c n A B C : Int) (N : Bool) (s : ByteArray) (wx : World) : Prop where
  ins : Blk wx w.heap.size 60 #[.int .i64 op, .int .i64 a, .int .i64 b, .int .i64 c, .int .u64 n]
  row : Blk wx (w.heap.size + 1 + 1) 169 #[.string s, .int .i64 A, .int .i64 B, .int .i64 C, .bool N]
  arr : Blk wx (w.heap.size + 1 + 1 + 1) 173 #[.int .i64 a, .int .i64 b, .int .i64 c]
  only : Only Nob w wx
section
variable {w wx W : World} {op a b c n A B C : Int} {N : Bool} {s : ByteArray}
theorem LW.nob (h : LW w op a b c n A B C N s wx) (ho : Only Nob wx W) : LW w op a b c n A B C N s W := ⟨h.ins.only ho (fun h => h), h.row.only ho (fun h => h), h.arr.only ho (fun h => h), h.only.trans ho⟩
theorem LW.start (w : World) (op a b c n A B C : Int) (N : Bool) (s : ByteArray) : LW w op a b c n A B C N s ((((w.alloc (.cells #[.int .i64 op, .int .i64 a, .int .i64 b, .int .i64 c, .int .u64 n] 60)).alloc (.cells #[.string s, .int .i64 A, .int .i64 B, .int .i64 C, .bool N] 169)).alloc (.cells #[.string s, .int .i64 A, .int .i64 B, .int .i64 C, .bool N] 169)).alloc (.cells #[.int .i64 a, .int .i64 b, .int .i64 c] 173)) :=
  ⟨((((Blk.new w _ _).alloc _).alloc _).alloc _), (Blk.new' (by simp)).alloc _, Blk.new' (by simp), ((((Only.refl _ w).alloc _).alloc _).alloc _).alloc _⟩
structure LWcells (w : World) (op a b c n A B C : Int) (N : Bool) (s : ByteArray) (wx : World) : Prop where
  z0 : wx.cell? ⟨w.heap.size, 0, none⟩ = some (.int .i64 op)
  z1 : wx.cell? ⟨w.heap.size, 1, none⟩ = some (.int .i64 a)
  z4 : wx.cell? ⟨w.heap.size, 4, none⟩ = some (.int .u64 n)
  r1 : wx.cell? ⟨w.heap.size + 1 + 1, 1, none⟩ = some (.int .i64 A)
  r2 : wx.cell? ⟨w.heap.size + 1 + 1, 2, none⟩ = some (.int .i64 B)
  r3 : wx.cell? ⟨w.heap.size + 1 + 1, 3, none⟩ = some (.int .i64 C)
  r4 : wx.cell? ⟨w.heap.size + 1 + 1, 4, none⟩ = some (.bool N)
  a0 : wx.cell? ⟨w.heap.size + 1 + 1 + 1, 0, none⟩ = some (.int .i64 a)
  a1 : wx.cell? ⟨w.heap.size + 1 + 1 + 1, 1, none⟩ = some (.int .i64 b)
  a2 : wx.cell? ⟨w.heap.size + 1 + 1 + 1, 2, none⟩ = some (.int .i64 c)
  l0 : w.heap.size < wx.heap.size
  l1 : w.heap.size + 1 + 1 < wx.heap.size
  l2 : w.heap.size + 1 + 1 + 1 < wx.heap.size
theorem LW.cells (h : LW w op a b c n A B C N s wx) : LWcells w op a b c n A B C N s wx :=
  ⟨h.ins.cell 0, h.ins.cell 1, h.ins.cell 4, h.row.cell 1, h.row.cell 2, h.row.cell 3, h.row.cell 4, h.arr.cell 0, h.arr.cell 1, h.arr.cell 2, h.ins.lt, h.row.lt, h.arr.lt⟩
end
theorem call_short (n : Int) : (atList callList n).size ≤ 100 := by
  by_cases h : 1 ≤ n ∧ n ≤ 12
  · have h1 := (List.all_eq_true (l := callList) (p := fun s => decide (s.size ≤ 100))).1 (by decide +kernel)
    obtain ⟨k, rfl⟩ := Int.eq_ofNat_of_zero_le (by omega : 0 ≤ n)
    have e : atList callList (k : Int) = callList.getD k ⟨#[]⟩ := by simp [atList]
    rw [e, List.getD_eq_getElem?_getD, List.getElem?_eq_getElem (by have := callList_len; omega)]
    exact of_decide_eq_true (h1 _ (List.getElem_mem _))
  · rw [list_out (m := 12) rfl callList_len h]
    decide
set_option maxRecDepth 100000 in
set_option maxHeartbeats 4000000 in
theorem line_1 (w : World) (a b c n : Nat) (ha : a < 100) (hb : b < 100) (hc : c < 100) (hn : n < 18446744073709551616) (htab : TabAt w) : Calls Tryd.prog 67 #[.agg #[.int .i64 1, .int .i64 (a : Int), .int .i64 (b : Int), .int .i64 (c : Int), .int .u64 (n : Int)]] w fun e w' => e = .returned (.string ⟨(lineL ⟨1, a, b, c, n⟩).toArray⟩) ∧ Only Nob w w' := by
  have HRW : Hid (∀ W, Calls Tryd.prog 93 #[.int .i64 1] W fun e w' => e = .returned (.tuple #[.agg #[.string ⟨#[115, 101, 116]⟩, .int .i64 7, .int .i64 (-1), .int .i64 (-1), .bool true], .bool true]) ∧ w' = W.alloc (.cells #[.string ⟨#[115, 101, 116]⟩, .int .i64 7, .int .i64 (-1), .int .i64 (-1), .bool true] 169)) := hide (fun W => rowOf_1 W)
  have htab := hide htab
  have HDA := hide (fun W => decimal_any a (by omega) W)
  have HDB := hide (fun W => decimal_any b (by omega) W)
  have HDC := hide (fun W => decimal_any c (by omega) W)
  have HDN := hide (fun W => decimal_any n (by omega) W)
  have HL := hide (LW.start w 1 a b c n 7 (-1) (-1) true ⟨#[115, 101, 116]⟩)
  have hda := dec_len a (by omega)
  have hdb := dec_len b (by omega)
  have hdc := dec_len c (by omega)
  have hdn := dec_len n (by omega)
  have i0 : ∀ w, (Instr.index 173 (.agg #[.int .i64 7, .int .i64 (-1), .int .i64 (-1)]) (.int .i64 0)).run Tryd.prog w = .ok (.int .i64 7) w := fun _ => by kernel_rfl
  have i1 : ∀ w, (Instr.index 173 (.agg #[.int .i64 7, .int .i64 (-1), .int .i64 (-1)]) (.int .i64 1)).run Tryd.prog w = .ok (.int .i64 (-1)) w := fun _ => by kernel_rfl
  have i2 : ∀ w, (Instr.index 173 (.agg #[.int .i64 7, .int .i64 (-1), .int .i64 (-1)]) (.int .i64 2)).run Tryd.prog w = .ok (.int .i64 (-1)) w := fun _ => by kernel_rfl
  go_enter Tryd.func67, Tryd.ntmps67
  go_wp2_with (go_at_call 93; refine (HRW.out _).mono ?_; rintro e w2 ⟨rfl, rfl⟩)
  refine wp_loop_rounds 4 ?_
  repeat any_goals (rw [rounds_succ]; go_wp2_with (first
    | (go_at_call 27; (first | with_reducible refine (HDA.out _).mono ?_ | with_reducible refine (HDB.out _).mono ?_ | with_reducible refine (HDC.out _).mono ?_ | with_reducible refine (HDN.out _).mono ?_); rintro e w2 ⟨rfl, ho⟩; have hl := HL.out.nob ho; clear HL; obtain ⟨z0, z1, z4, r1, r2, r3, r4, a0, a1, a2, l0, l1, l2⟩ := hl.cells; have HL := hide hl; clear hl ho)))
  have he : (⟨(lineL ⟨1, a, b, c, n⟩).toArray⟩ : ByteArray) = ⟨#[115, 101, 116]⟩ ++ ⟨#[32, 114]⟩ ++ ⟨(decDigits a).toArray⟩ ++ ⟨#[32]⟩ ++ ⟨(decDigits n).toArray⟩ := by
    apply ByteArray.ext
    simp [lineL, insWords, kindsP, toldP, atList, nameList]
  go_ret
  exact ⟨by rw [he]; rfl, HL.out.only⟩
set_option maxRecDepth 100000 in
set_option maxHeartbeats 4000000 in
theorem line_2 (w : World) (a b c n : Nat) (ha : a < 100) (hb : b < 100) (hc : c < 100) (hn : n < 18446744073709551616) (htab : TabAt w) : Calls Tryd.prog 67 #[.agg #[.int .i64 2, .int .i64 (a : Int), .int .i64 (b : Int), .int .i64 (c : Int), .int .u64 (n : Int)]] w fun e w' => e = .returned (.string ⟨(lineL ⟨2, a, b, c, n⟩).toArray⟩) ∧ Only Nob w w' := by
  have HRW : Hid (∀ W, Calls Tryd.prog 93 #[.int .i64 2] W fun e w' => e = .returned (.tuple #[.agg #[.string ⟨#[109, 111, 118, 101]⟩, .int .i64 7, .int .i64 7, .int .i64 (-1), .bool false], .bool true]) ∧ w' = W.alloc (.cells #[.string ⟨#[109, 111, 118, 101]⟩, .int .i64 7, .int .i64 7, .int .i64 (-1), .bool false] 169)) := hide (fun W => rowOf_2 W)
  have htab := hide htab
  have HDA := hide (fun W => decimal_any a (by omega) W)
  have HDB := hide (fun W => decimal_any b (by omega) W)
  have HDC := hide (fun W => decimal_any c (by omega) W)
  have HDN := hide (fun W => decimal_any n (by omega) W)
  have HL := hide (LW.start w 2 a b c n 7 7 (-1) false ⟨#[109, 111, 118, 101]⟩)
  have hda := dec_len a (by omega)
  have hdb := dec_len b (by omega)
  have hdc := dec_len c (by omega)
  have hdn := dec_len n (by omega)
  have i0 : ∀ w, (Instr.index 173 (.agg #[.int .i64 7, .int .i64 7, .int .i64 (-1)]) (.int .i64 0)).run Tryd.prog w = .ok (.int .i64 7) w := fun _ => by kernel_rfl
  have i1 : ∀ w, (Instr.index 173 (.agg #[.int .i64 7, .int .i64 7, .int .i64 (-1)]) (.int .i64 1)).run Tryd.prog w = .ok (.int .i64 7) w := fun _ => by kernel_rfl
  have i2 : ∀ w, (Instr.index 173 (.agg #[.int .i64 7, .int .i64 7, .int .i64 (-1)]) (.int .i64 2)).run Tryd.prog w = .ok (.int .i64 (-1)) w := fun _ => by kernel_rfl
  go_enter Tryd.func67, Tryd.ntmps67
  go_wp2_with (go_at_call 93; refine (HRW.out _).mono ?_; rintro e w2 ⟨rfl, rfl⟩)
  refine wp_loop_rounds 4 ?_
  repeat any_goals (rw [rounds_succ]; go_wp2_with (first
    | (go_at_call 27; (first | with_reducible refine (HDA.out _).mono ?_ | with_reducible refine (HDB.out _).mono ?_ | with_reducible refine (HDC.out _).mono ?_ | with_reducible refine (HDN.out _).mono ?_); rintro e w2 ⟨rfl, ho⟩; have hl := HL.out.nob ho; clear HL; obtain ⟨z0, z1, z4, r1, r2, r3, r4, a0, a1, a2, l0, l1, l2⟩ := hl.cells; have HL := hide hl; clear hl ho)))
  have he : (⟨(lineL ⟨2, a, b, c, n⟩).toArray⟩ : ByteArray) = ⟨#[109, 111, 118, 101]⟩ ++ ⟨#[32, 114]⟩ ++ ⟨(decDigits a).toArray⟩ ++ ⟨#[32, 114]⟩ ++ ⟨(decDigits b).toArray⟩ := by
    apply ByteArray.ext
    simp [lineL, insWords, kindsP, toldP, atList, nameList]
  go_ret
  exact ⟨by rw [he]; rfl, HL.out.only⟩
set_option maxRecDepth 100000 in
set_option maxHeartbeats 4000000 in
theorem line_3 (w : World) (a b c n : Nat) (ha : a < 100) (hb : b < 100) (hc : c < 100) (hn : n < 18446744073709551616) (htab : TabAt w) : Calls Tryd.prog 67 #[.agg #[.int .i64 3, .int .i64 (a : Int), .int .i64 (b : Int), .int .i64 (c : Int), .int .u64 (n : Int)]] w fun e w' => e = .returned (.string ⟨(lineL ⟨3, a, b, c, n⟩).toArray⟩) ∧ Only Nob w w' := by
  have HRW : Hid (∀ W, Calls Tryd.prog 93 #[.int .i64 3] W fun e w' => e = .returned (.tuple #[.agg #[.string ⟨#[97, 100, 100]⟩, .int .i64 7, .int .i64 7, .int .i64 7, .bool false], .bool true]) ∧ w' = W.alloc (.cells #[.string ⟨#[97, 100, 100]⟩, .int .i64 7, .int .i64 7, .int .i64 7, .bool false] 169)) := hide (fun W => rowOf_3 W)
  have htab := hide htab
  have HDA := hide (fun W => decimal_any a (by omega) W)
  have HDB := hide (fun W => decimal_any b (by omega) W)
  have HDC := hide (fun W => decimal_any c (by omega) W)
  have HDN := hide (fun W => decimal_any n (by omega) W)
  have HL := hide (LW.start w 3 a b c n 7 7 7 false ⟨#[97, 100, 100]⟩)
  have hda := dec_len a (by omega)
  have hdb := dec_len b (by omega)
  have hdc := dec_len c (by omega)
  have hdn := dec_len n (by omega)
  have i0 : ∀ w, (Instr.index 173 (.agg #[.int .i64 7, .int .i64 7, .int .i64 7]) (.int .i64 0)).run Tryd.prog w = .ok (.int .i64 7) w := fun _ => by kernel_rfl
  have i1 : ∀ w, (Instr.index 173 (.agg #[.int .i64 7, .int .i64 7, .int .i64 7]) (.int .i64 1)).run Tryd.prog w = .ok (.int .i64 7) w := fun _ => by kernel_rfl
  have i2 : ∀ w, (Instr.index 173 (.agg #[.int .i64 7, .int .i64 7, .int .i64 7]) (.int .i64 2)).run Tryd.prog w = .ok (.int .i64 7) w := fun _ => by kernel_rfl
  go_enter Tryd.func67, Tryd.ntmps67
  go_wp2_with (go_at_call 93; refine (HRW.out _).mono ?_; rintro e w2 ⟨rfl, rfl⟩)
  refine wp_loop_rounds 4 ?_
  repeat any_goals (rw [rounds_succ]; go_wp2_with (first
    | (go_at_call 27; (first | with_reducible refine (HDA.out _).mono ?_ | with_reducible refine (HDB.out _).mono ?_ | with_reducible refine (HDC.out _).mono ?_ | with_reducible refine (HDN.out _).mono ?_); rintro e w2 ⟨rfl, ho⟩; have hl := HL.out.nob ho; clear HL; obtain ⟨z0, z1, z4, r1, r2, r3, r4, a0, a1, a2, l0, l1, l2⟩ := hl.cells; have HL := hide hl; clear hl ho)))
  have he : (⟨(lineL ⟨3, a, b, c, n⟩).toArray⟩ : ByteArray) = ⟨#[97, 100, 100]⟩ ++ ⟨#[32, 114]⟩ ++ ⟨(decDigits a).toArray⟩ ++ ⟨#[32, 114]⟩ ++ ⟨(decDigits b).toArray⟩ ++ ⟨#[32, 114]⟩ ++ ⟨(decDigits c).toArray⟩ := by
    apply ByteArray.ext
    simp [lineL, insWords, kindsP, toldP, atList, nameList]
  go_ret
  exact ⟨by rw [he]; rfl, HL.out.only⟩
set_option maxRecDepth 100000 in
set_option maxHeartbeats 4000000 in
theorem line_4 (w : World) (a b c n : Nat) (ha : a < 100) (hb : b < 100) (hc : c < 100) (hn : n < 18446744073709551616) (htab : TabAt w) : Calls Tryd.prog 67 #[.agg #[.int .i64 4, .int .i64 (a : Int), .int .i64 (b : Int), .int .i64 (c : Int), .int .u64 (n : Int)]] w fun e w' => e = .returned (.string ⟨(lineL ⟨4, a, b, c, n⟩).toArray⟩) ∧ Only Nob w w' := by
  have HRW : Hid (∀ W, Calls Tryd.prog 93 #[.int .i64 4] W fun e w' => e = .returned (.tuple #[.agg #[.string ⟨#[115, 117, 98]⟩, .int .i64 7, .int .i64 7, .int .i64 7, .bool false], .bool true]) ∧ w' = W.alloc (.cells #[.string ⟨#[115, 117, 98]⟩, .int .i64 7, .int .i64 7, .int .i64 7, .bool false] 169)) := hide (fun W => rowOf_4 W)
  have htab := hide htab
  have HDA := hide (fun W => decimal_any a (by omega) W)
  have HDB := hide (fun W => decimal_any b (by omega) W)
  have HDC := hide (fun W => decimal_any c (by omega) W)
  have HDN := hide (fun W => decimal_any n (by omega) W)
  have HL := hide (LW.start w 4 a b c n 7 7 7 false ⟨#[115, 117, 98]⟩)
  have hda := dec_len a (by omega)
  have hdb := dec_len b (by omega)
  have hdc := dec_len c (by omega)
  have hdn := dec_len n (by omega)
  have i0 : ∀ w, (Instr.index 173 (.agg #[.int .i64 7, .int .i64 7, .int .i64 7]) (.int .i64 0)).run Tryd.prog w = .ok (.int .i64 7) w := fun _ => by kernel_rfl
  have i1 : ∀ w, (Instr.index 173 (.agg #[.int .i64 7, .int .i64 7, .int .i64 7]) (.int .i64 1)).run Tryd.prog w = .ok (.int .i64 7) w := fun _ => by kernel_rfl
  have i2 : ∀ w, (Instr.index 173 (.agg #[.int .i64 7, .int .i64 7, .int .i64 7]) (.int .i64 2)).run Tryd.prog w = .ok (.int .i64 7) w := fun _ => by kernel_rfl
  go_enter Tryd.func67, Tryd.ntmps67
  go_wp2_with (go_at_call 93; refine (HRW.out _).mono ?_; rintro e w2 ⟨rfl, rfl⟩)
  refine wp_loop_rounds 4 ?_
  repeat any_goals (rw [rounds_succ]; go_wp2_with (first
    | (go_at_call 27; (first | with_reducible refine (HDA.out _).mono ?_ | with_reducible refine (HDB.out _).mono ?_ | with_reducible refine (HDC.out _).mono ?_ | with_reducible refine (HDN.out _).mono ?_); rintro e w2 ⟨rfl, ho⟩; have hl := HL.out.nob ho; clear HL; obtain ⟨z0, z1, z4, r1, r2, r3, r4, a0, a1, a2, l0, l1, l2⟩ := hl.cells; have HL := hide hl; clear hl ho)))
  have he : (⟨(lineL ⟨4, a, b, c, n⟩).toArray⟩ : ByteArray) = ⟨#[115, 117, 98]⟩ ++ ⟨#[32, 114]⟩ ++ ⟨(decDigits a).toArray⟩ ++ ⟨#[32, 114]⟩ ++ ⟨(decDigits b).toArray⟩ ++ ⟨#[32, 114]⟩ ++ ⟨(decDigits c).toArray⟩ := by
    apply ByteArray.ext
    simp [lineL, insWords, kindsP, toldP, atList, nameList]
  go_ret
  exact ⟨by rw [he]; rfl, HL.out.only⟩
set_option maxRecDepth 100000 in
set_option maxHeartbeats 4000000 in
theorem line_5 (w : World) (a b c n : Nat) (ha : a < 100) (hb : b < 100) (hc : c < 100) (hn : n < 18446744073709551616) (htab : TabAt w) : Calls Tryd.prog 67 #[.agg #[.int .i64 5, .int .i64 (a : Int), .int .i64 (b : Int), .int .i64 (c : Int), .int .u64 (n : Int)]] w fun e w' => e = .returned (.string ⟨(lineL ⟨5, a, b, c, n⟩).toArray⟩) ∧ Only Nob w w' := by
  have HRW : Hid (∀ W, Calls Tryd.prog 93 #[.int .i64 5] W fun e w' => e = .returned (.tuple #[.agg #[.string ⟨#[109, 117, 108]⟩, .int .i64 7, .int .i64 7, .int .i64 7, .bool false], .bool true]) ∧ w' = W.alloc (.cells #[.string ⟨#[109, 117, 108]⟩, .int .i64 7, .int .i64 7, .int .i64 7, .bool false] 169)) := hide (fun W => rowOf_5 W)
  have htab := hide htab
  have HDA := hide (fun W => decimal_any a (by omega) W)
  have HDB := hide (fun W => decimal_any b (by omega) W)
  have HDC := hide (fun W => decimal_any c (by omega) W)
  have HDN := hide (fun W => decimal_any n (by omega) W)
  have HL := hide (LW.start w 5 a b c n 7 7 7 false ⟨#[109, 117, 108]⟩)
  have hda := dec_len a (by omega)
  have hdb := dec_len b (by omega)
  have hdc := dec_len c (by omega)
  have hdn := dec_len n (by omega)
  have i0 : ∀ w, (Instr.index 173 (.agg #[.int .i64 7, .int .i64 7, .int .i64 7]) (.int .i64 0)).run Tryd.prog w = .ok (.int .i64 7) w := fun _ => by kernel_rfl
  have i1 : ∀ w, (Instr.index 173 (.agg #[.int .i64 7, .int .i64 7, .int .i64 7]) (.int .i64 1)).run Tryd.prog w = .ok (.int .i64 7) w := fun _ => by kernel_rfl
  have i2 : ∀ w, (Instr.index 173 (.agg #[.int .i64 7, .int .i64 7, .int .i64 7]) (.int .i64 2)).run Tryd.prog w = .ok (.int .i64 7) w := fun _ => by kernel_rfl
  go_enter Tryd.func67, Tryd.ntmps67
  go_wp2_with (go_at_call 93; refine (HRW.out _).mono ?_; rintro e w2 ⟨rfl, rfl⟩)
  refine wp_loop_rounds 4 ?_
  repeat any_goals (rw [rounds_succ]; go_wp2_with (first
    | (go_at_call 27; (first | with_reducible refine (HDA.out _).mono ?_ | with_reducible refine (HDB.out _).mono ?_ | with_reducible refine (HDC.out _).mono ?_ | with_reducible refine (HDN.out _).mono ?_); rintro e w2 ⟨rfl, ho⟩; have hl := HL.out.nob ho; clear HL; obtain ⟨z0, z1, z4, r1, r2, r3, r4, a0, a1, a2, l0, l1, l2⟩ := hl.cells; have HL := hide hl; clear hl ho)))
  have he : (⟨(lineL ⟨5, a, b, c, n⟩).toArray⟩ : ByteArray) = ⟨#[109, 117, 108]⟩ ++ ⟨#[32, 114]⟩ ++ ⟨(decDigits a).toArray⟩ ++ ⟨#[32, 114]⟩ ++ ⟨(decDigits b).toArray⟩ ++ ⟨#[32, 114]⟩ ++ ⟨(decDigits c).toArray⟩ := by
    apply ByteArray.ext
    simp [lineL, insWords, kindsP, toldP, atList, nameList]
  go_ret
  exact ⟨by rw [he]; rfl, HL.out.only⟩
set_option maxRecDepth 100000 in
set_option maxHeartbeats 4000000 in
theorem line_6 (w : World) (a b c n : Nat) (ha : a < 100) (hb : b < 100) (hc : c < 100) (hn : n < 18446744073709551616) (htab : TabAt w) : Calls Tryd.prog 67 #[.agg #[.int .i64 6, .int .i64 (a : Int), .int .i64 (b : Int), .int .i64 (c : Int), .int .u64 (n : Int)]] w fun e w' => e = .returned (.string ⟨(lineL ⟨6, a, b, c, n⟩).toArray⟩) ∧ Only Nob w w' := by
  have HRW : Hid (∀ W, Calls Tryd.prog 93 #[.int .i64 6] W fun e w' => e = .returned (.tuple #[.agg #[.string ⟨#[108, 101, 115, 115]⟩, .int .i64 7, .int .i64 7, .int .i64 7, .bool false], .bool true]) ∧ w' = W.alloc (.cells #[.string ⟨#[108, 101, 115, 115]⟩, .int .i64 7, .int .i64 7, .int .i64 7, .bool false] 169)) := hide (fun W => rowOf_6 W)
  have htab := hide htab
  have HDA := hide (fun W => decimal_any a (by omega) W)
  have HDB := hide (fun W => decimal_any b (by omega) W)
  have HDC := hide (fun W => decimal_any c (by omega) W)
  have HDN := hide (fun W => decimal_any n (by omega) W)
  have HL := hide (LW.start w 6 a b c n 7 7 7 false ⟨#[108, 101, 115, 115]⟩)
  have hda := dec_len a (by omega)
  have hdb := dec_len b (by omega)
  have hdc := dec_len c (by omega)
  have hdn := dec_len n (by omega)
  have i0 : ∀ w, (Instr.index 173 (.agg #[.int .i64 7, .int .i64 7, .int .i64 7]) (.int .i64 0)).run Tryd.prog w = .ok (.int .i64 7) w := fun _ => by kernel_rfl
  have i1 : ∀ w, (Instr.index 173 (.agg #[.int .i64 7, .int .i64 7, .int .i64 7]) (.int .i64 1)).run Tryd.prog w = .ok (.int .i64 7) w := fun _ => by kernel_rfl
  have i2 : ∀ w, (Instr.index 173 (.agg #[.int .i64 7, .int .i64 7, .int .i64 7]) (.int .i64 2)).run Tryd.prog w = .ok (.int .i64 7) w := fun _ => by kernel_rfl
  go_enter Tryd.func67, Tryd.ntmps67
  go_wp2_with (go_at_call 93; refine (HRW.out _).mono ?_; rintro e w2 ⟨rfl, rfl⟩)
  refine wp_loop_rounds 4 ?_
  repeat any_goals (rw [rounds_succ]; go_wp2_with (first
    | (go_at_call 27; (first | with_reducible refine (HDA.out _).mono ?_ | with_reducible refine (HDB.out _).mono ?_ | with_reducible refine (HDC.out _).mono ?_ | with_reducible refine (HDN.out _).mono ?_); rintro e w2 ⟨rfl, ho⟩; have hl := HL.out.nob ho; clear HL; obtain ⟨z0, z1, z4, r1, r2, r3, r4, a0, a1, a2, l0, l1, l2⟩ := hl.cells; have HL := hide hl; clear hl ho)))
  have he : (⟨(lineL ⟨6, a, b, c, n⟩).toArray⟩ : ByteArray) = ⟨#[108, 101, 115, 115]⟩ ++ ⟨#[32, 114]⟩ ++ ⟨(decDigits a).toArray⟩ ++ ⟨#[32, 114]⟩ ++ ⟨(decDigits b).toArray⟩ ++ ⟨#[32, 114]⟩ ++ ⟨(decDigits c).toArray⟩ := by
    apply ByteArray.ext
    simp [lineL, insWords, kindsP, toldP, atList, nameList]
  go_ret
  exact ⟨by rw [he]; rfl, HL.out.only⟩
set_option maxRecDepth 100000 in
set_option maxHeartbeats 4000000 in
theorem line_7 (w : World) (a b c n : Nat) (ha : a < 100) (hb : b < 100) (hc : c < 100) (hn : n < 18446744073709551616) (htab : TabAt w) : Calls Tryd.prog 67 #[.agg #[.int .i64 7, .int .i64 (a : Int), .int .i64 (b : Int), .int .i64 (c : Int), .int .u64 (n : Int)]] w fun e w' => e = .returned (.string ⟨(lineL ⟨7, a, b, c, n⟩).toArray⟩) ∧ Only Nob w w' := by
  have HRW : Hid (∀ W, Calls Tryd.prog 93 #[.int .i64 7] W fun e w' => e = .returned (.tuple #[.agg #[.string ⟨#[101, 113, 117, 97, 108]⟩, .int .i64 7, .int .i64 7, .int .i64 7, .bool false], .bool true]) ∧ w' = W.alloc (.cells #[.string ⟨#[101, 113, 117, 97, 108]⟩, .int .i64 7, .int .i64 7, .int .i64 7, .bool false] 169)) := hide (fun W => rowOf_7 W)
  have htab := hide htab
  have HDA := hide (fun W => decimal_any a (by omega) W)
  have HDB := hide (fun W => decimal_any b (by omega) W)
  have HDC := hide (fun W => decimal_any c (by omega) W)
  have HDN := hide (fun W => decimal_any n (by omega) W)
  have HL := hide (LW.start w 7 a b c n 7 7 7 false ⟨#[101, 113, 117, 97, 108]⟩)
  have hda := dec_len a (by omega)
  have hdb := dec_len b (by omega)
  have hdc := dec_len c (by omega)
  have hdn := dec_len n (by omega)
  have i0 : ∀ w, (Instr.index 173 (.agg #[.int .i64 7, .int .i64 7, .int .i64 7]) (.int .i64 0)).run Tryd.prog w = .ok (.int .i64 7) w := fun _ => by kernel_rfl
  have i1 : ∀ w, (Instr.index 173 (.agg #[.int .i64 7, .int .i64 7, .int .i64 7]) (.int .i64 1)).run Tryd.prog w = .ok (.int .i64 7) w := fun _ => by kernel_rfl
  have i2 : ∀ w, (Instr.index 173 (.agg #[.int .i64 7, .int .i64 7, .int .i64 7]) (.int .i64 2)).run Tryd.prog w = .ok (.int .i64 7) w := fun _ => by kernel_rfl
  go_enter Tryd.func67, Tryd.ntmps67
  go_wp2_with (go_at_call 93; refine (HRW.out _).mono ?_; rintro e w2 ⟨rfl, rfl⟩)
  refine wp_loop_rounds 4 ?_
  repeat any_goals (rw [rounds_succ]; go_wp2_with (first
    | (go_at_call 27; (first | with_reducible refine (HDA.out _).mono ?_ | with_reducible refine (HDB.out _).mono ?_ | with_reducible refine (HDC.out _).mono ?_ | with_reducible refine (HDN.out _).mono ?_); rintro e w2 ⟨rfl, ho⟩; have hl := HL.out.nob ho; clear HL; obtain ⟨z0, z1, z4, r1, r2, r3, r4, a0, a1, a2, l0, l1, l2⟩ := hl.cells; have HL := hide hl; clear hl ho)))
  have he : (⟨(lineL ⟨7, a, b, c, n⟩).toArray⟩ : ByteArray) = ⟨#[101, 113, 117, 97, 108]⟩ ++ ⟨#[32, 114]⟩ ++ ⟨(decDigits a).toArray⟩ ++ ⟨#[32, 114]⟩ ++ ⟨(decDigits b).toArray⟩ ++ ⟨#[32, 114]⟩ ++ ⟨(decDigits c).toArray⟩ := by
    apply ByteArray.ext
    simp [lineL, insWords, kindsP, toldP, atList, nameList]
  go_ret
  exact ⟨by rw [he]; rfl, HL.out.only⟩
end Go.Proofs.YtngahgfppbjebaaDoor
namespace Go.Proofs.YtngahgfppbjebaaDoor
open Go.RowKit Go.Lib
set_option linter.unusedVariables false
set_option linter.unusedSimpArgs false

set_option maxRecDepth 100000 in
set_option maxHeartbeats 4000000 in
theorem line_8 (w : World) (a b c n : Nat) (ha : a < 100) (hb : b < 100) (hc : c < 100) (hn : n < 18446744073709551616) (htab : TabAt w) : Calls Tryd.prog 67 #[.agg #[.int .i64 8, .int .i64 (a : Int), .int .i64 (b : Int), .int .i64 (c : Int), .int .u64 (n : Int)]] w fun e w' => e = .returned (.string ⟨(lineL ⟨8, a, b, c, n⟩).toArray⟩) ∧ Only Nob w w' := by
  have HRW : Hid (∀ W, Calls Tryd.prog 93 #[.int .i64 8] W fun e w' => e = .returned (.tuple #[.agg #[.string ⟨#[108, 111, 97, 100]⟩, .int .i64 7, .int .i64 7, .int .i64 15, .bool false], .bool true]) ∧ w' = W.alloc (.cells #[.string ⟨#[108, 111, 97, 100]⟩, .int .i64 7, .int .i64 7, .int .i64 15, .bool false] 169)) := hide (fun W => rowOf_8 W)
  have htab := hide htab
  have HDA := hide (fun W => decimal_any a (by omega) W)
  have HDB := hide (fun W => decimal_any b (by omega) W)
  have HDC := hide (fun W => decimal_any c (by omega) W)
  have HDN := hide (fun W => decimal_any n (by omega) W)
  have HL := hide (LW.start w 8 a b c n 7 7 15 false ⟨#[108, 111, 97, 100]⟩)
  have hda := dec_len a (by omega)
  have hdb := dec_len b (by omega)
  have hdc := dec_len c (by omega)
  have hdn := dec_len n (by omega)
  have i0 : ∀ w, (Instr.index 173 (.agg #[.int .i64 7, .int .i64 7, .int .i64 15]) (.int .i64 0)).run Tryd.prog w = .ok (.int .i64 7) w := fun _ => by kernel_rfl
  have i1 : ∀ w, (Instr.index 173 (.agg #[.int .i64 7, .int .i64 7, .int .i64 15]) (.int .i64 1)).run Tryd.prog w = .ok (.int .i64 7) w := fun _ => by kernel_rfl
  have i2 : ∀ w, (Instr.index 173 (.agg #[.int .i64 7, .int .i64 7, .int .i64 15]) (.int .i64 2)).run Tryd.prog w = .ok (.int .i64 15) w := fun _ => by kernel_rfl
  go_enter Tryd.func67, Tryd.ntmps67
  go_wp2_with (go_at_call 93; refine (HRW.out _).mono ?_; rintro e w2 ⟨rfl, rfl⟩)
  refine wp_loop_rounds 4 ?_
  repeat any_goals (rw [rounds_succ]; go_wp2_with (first
    | (go_at_call 27; (first | with_reducible refine (HDA.out _).mono ?_ | with_reducible refine (HDB.out _).mono ?_ | with_reducible refine (HDC.out _).mono ?_ | with_reducible refine (HDN.out _).mono ?_); rintro e w2 ⟨rfl, ho⟩; have hl := HL.out.nob ho; clear HL; obtain ⟨z0, z1, z4, r1, r2, r3, r4, a0, a1, a2, l0, l1, l2⟩ := hl.cells; have HL := hide hl; clear hl ho)))
  have he : (⟨(lineL ⟨8, a, b, c, n⟩).toArray⟩ : ByteArray) = ⟨#[108, 111, 97, 100]⟩ ++ ⟨#[32, 114]⟩ ++ ⟨(decDigits a).toArray⟩ ++ ⟨#[32, 114]⟩ ++ ⟨(decDigits b).toArray⟩ ++ ⟨#[32]⟩ ++ ⟨(decDigits c).toArray⟩ := by
    apply ByteArray.ext
    simp [lineL, insWords, kindsP, toldP, atList, nameList]
  go_ret
  exact ⟨by rw [he]; rfl, HL.out.only⟩
set_option maxRecDepth 100000 in
set_option maxHeartbeats 4000000 in
theorem line_9 (w : World) (a b c n : Nat) (ha : a < 100) (hb : b < 100) (hc : c < 100) (hn : n < 18446744073709551616) (htab : TabAt w) : Calls Tryd.prog 67 #[.agg #[.int .i64 9, .int .i64 (a : Int), .int .i64 (b : Int), .int .i64 (c : Int), .int .u64 (n : Int)]] w fun e w' => e = .returned (.string ⟨(lineL ⟨9, a, b, c, n⟩).toArray⟩) ∧ Only Nob w w' := by
  have HRW : Hid (∀ W, Calls Tryd.prog 93 #[.int .i64 9] W fun e w' => e = .returned (.tuple #[.agg #[.string ⟨#[115, 116, 111, 114, 101]⟩, .int .i64 7, .int .i64 7, .int .i64 15, .bool false], .bool true]) ∧ w' = W.alloc (.cells #[.string ⟨#[115, 116, 111, 114, 101]⟩, .int .i64 7, .int .i64 7, .int .i64 15, .bool false] 169)) := hide (fun W => rowOf_9 W)
  have htab := hide htab
  have HDA := hide (fun W => decimal_any a (by omega) W)
  have HDB := hide (fun W => decimal_any b (by omega) W)
  have HDC := hide (fun W => decimal_any c (by omega) W)
  have HDN := hide (fun W => decimal_any n (by omega) W)
  have HL := hide (LW.start w 9 a b c n 7 7 15 false ⟨#[115, 116, 111, 114, 101]⟩)
  have hda := dec_len a (by omega)
  have hdb := dec_len b (by omega)
  have hdc := dec_len c (by omega)
  have hdn := dec_len n (by omega)
  have i0 : ∀ w, (Instr.index 173 (.agg #[.int .i64 7, .int .i64 7, .int .i64 15]) (.int .i64 0)).run Tryd.prog w = .ok (.int .i64 7) w := fun _ => by kernel_rfl
  have i1 : ∀ w, (Instr.index 173 (.agg #[.int .i64 7, .int .i64 7, .int .i64 15]) (.int .i64 1)).run Tryd.prog w = .ok (.int .i64 7) w := fun _ => by kernel_rfl
  have i2 : ∀ w, (Instr.index 173 (.agg #[.int .i64 7, .int .i64 7, .int .i64 15]) (.int .i64 2)).run Tryd.prog w = .ok (.int .i64 15) w := fun _ => by kernel_rfl
  go_enter Tryd.func67, Tryd.ntmps67
  go_wp2_with (go_at_call 93; refine (HRW.out _).mono ?_; rintro e w2 ⟨rfl, rfl⟩)
  refine wp_loop_rounds 4 ?_
  repeat any_goals (rw [rounds_succ]; go_wp2_with (first
    | (go_at_call 27; (first | with_reducible refine (HDA.out _).mono ?_ | with_reducible refine (HDB.out _).mono ?_ | with_reducible refine (HDC.out _).mono ?_ | with_reducible refine (HDN.out _).mono ?_); rintro e w2 ⟨rfl, ho⟩; have hl := HL.out.nob ho; clear HL; obtain ⟨z0, z1, z4, r1, r2, r3, r4, a0, a1, a2, l0, l1, l2⟩ := hl.cells; have HL := hide hl; clear hl ho)))
  have he : (⟨(lineL ⟨9, a, b, c, n⟩).toArray⟩ : ByteArray) = ⟨#[115, 116, 111, 114, 101]⟩ ++ ⟨#[32, 114]⟩ ++ ⟨(decDigits a).toArray⟩ ++ ⟨#[32, 114]⟩ ++ ⟨(decDigits b).toArray⟩ ++ ⟨#[32]⟩ ++ ⟨(decDigits c).toArray⟩ := by
    apply ByteArray.ext
    simp [lineL, insWords, kindsP, toldP, atList, nameList]
  go_ret
  exact ⟨by rw [he]; rfl, HL.out.only⟩
set_option maxRecDepth 100000 in
set_option maxHeartbeats 4000000 in
theorem line_10 (w : World) (a b c n : Nat) (ha : a < 100) (hb : b < 100) (hc : c < 100) (hn : n < 18446744073709551616) (htab : TabAt w) : Calls Tryd.prog 67 #[.agg #[.int .i64 10, .int .i64 (a : Int), .int .i64 (b : Int), .int .i64 (c : Int), .int .u64 (n : Int)]] w fun e w' => e = .returned (.string ⟨(lineL ⟨10, a, b, c, n⟩).toArray⟩) ∧ Only Nob w w' := by
  have HRW : Hid (∀ W, Calls Tryd.prog 93 #[.int .i64 10] W fun e w' => e = .returned (.tuple #[.agg #[.string ⟨#[97, 108, 108, 111, 99]⟩, .int .i64 7, .int .i64 7, .int .i64 (-1), .bool false], .bool true]) ∧ w' = W.alloc (.cells #[.string ⟨#[97, 108, 108, 111, 99]⟩, .int .i64 7, .int .i64 7, .int .i64 (-1), .bool false] 169)) := hide (fun W => rowOf_10 W)
  have htab := hide htab
  have HDA := hide (fun W => decimal_any a (by omega) W)
  have HDB := hide (fun W => decimal_any b (by omega) W)
  have HDC := hide (fun W => decimal_any c (by omega) W)
  have HDN := hide (fun W => decimal_any n (by omega) W)
  have HL := hide (LW.start w 10 a b c n 7 7 (-1) false ⟨#[97, 108, 108, 111, 99]⟩)
  have hda := dec_len a (by omega)
  have hdb := dec_len b (by omega)
  have hdc := dec_len c (by omega)
  have hdn := dec_len n (by omega)
  have i0 : ∀ w, (Instr.index 173 (.agg #[.int .i64 7, .int .i64 7, .int .i64 (-1)]) (.int .i64 0)).run Tryd.prog w = .ok (.int .i64 7) w := fun _ => by kernel_rfl
  have i1 : ∀ w, (Instr.index 173 (.agg #[.int .i64 7, .int .i64 7, .int .i64 (-1)]) (.int .i64 1)).run Tryd.prog w = .ok (.int .i64 7) w := fun _ => by kernel_rfl
  have i2 : ∀ w, (Instr.index 173 (.agg #[.int .i64 7, .int .i64 7, .int .i64 (-1)]) (.int .i64 2)).run Tryd.prog w = .ok (.int .i64 (-1)) w := fun _ => by kernel_rfl
  go_enter Tryd.func67, Tryd.ntmps67
  go_wp2_with (go_at_call 93; refine (HRW.out _).mono ?_; rintro e w2 ⟨rfl, rfl⟩)
  refine wp_loop_rounds 4 ?_
  repeat any_goals (rw [rounds_succ]; go_wp2_with (first
    | (go_at_call 27; (first | with_reducible refine (HDA.out _).mono ?_ | with_reducible refine (HDB.out _).mono ?_ | with_reducible refine (HDC.out _).mono ?_ | with_reducible refine (HDN.out _).mono ?_); rintro e w2 ⟨rfl, ho⟩; have hl := HL.out.nob ho; clear HL; obtain ⟨z0, z1, z4, r1, r2, r3, r4, a0, a1, a2, l0, l1, l2⟩ := hl.cells; have HL := hide hl; clear hl ho)))
  have he : (⟨(lineL ⟨10, a, b, c, n⟩).toArray⟩ : ByteArray) = ⟨#[97, 108, 108, 111, 99]⟩ ++ ⟨#[32, 114]⟩ ++ ⟨(decDigits a).toArray⟩ ++ ⟨#[32, 114]⟩ ++ ⟨(decDigits b).toArray⟩ := by
    apply ByteArray.ext
    simp [lineL, insWords, kindsP, toldP, atList, nameList]
  go_ret
  exact ⟨by rw [he]; rfl, HL.out.only⟩
set_option maxRecDepth 100000 in
set_option maxHeartbeats 4000000 in
theorem line_11 (w : World) (a b c n : Nat) (ha : a < 100) (hb : b < 100) (hc : c < 100) (hn : n < 18446744073709551616) (htab : TabAt w) : Calls Tryd.prog 67 #[.agg #[.int .i64 11, .int .i64 (a : Int), .int .i64 (b : Int), .int .i64 (c : Int), .int .u64 (n : Int)]] w fun e w' => e = .returned (.string ⟨(lineL ⟨11, a, b, c, n⟩).toArray⟩) ∧ Only Nob w w' := by
  have HRW : Hid (∀ W, Calls Tryd.prog 93 #[.int .i64 11] W fun e w' => e = .returned (.tuple #[.agg #[.string ⟨#[102, 114, 101, 101]⟩, .int .i64 7, .int .i64 (-1), .int .i64 (-1), .bool false], .bool true]) ∧ w' = W.alloc (.cells #[.string ⟨#[102, 114, 101, 101]⟩, .int .i64 7, .int .i64 (-1), .int .i64 (-1), .bool false] 169)) := hide (fun W => rowOf_11 W)
  have htab := hide htab
  have HDA := hide (fun W => decimal_any a (by omega) W)
  have HDB := hide (fun W => decimal_any b (by omega) W)
  have HDC := hide (fun W => decimal_any c (by omega) W)
  have HDN := hide (fun W => decimal_any n (by omega) W)
  have HL := hide (LW.start w 11 a b c n 7 (-1) (-1) false ⟨#[102, 114, 101, 101]⟩)
  have hda := dec_len a (by omega)
  have hdb := dec_len b (by omega)
  have hdc := dec_len c (by omega)
  have hdn := dec_len n (by omega)
  have i0 : ∀ w, (Instr.index 173 (.agg #[.int .i64 7, .int .i64 (-1), .int .i64 (-1)]) (.int .i64 0)).run Tryd.prog w = .ok (.int .i64 7) w := fun _ => by kernel_rfl
  have i1 : ∀ w, (Instr.index 173 (.agg #[.int .i64 7, .int .i64 (-1), .int .i64 (-1)]) (.int .i64 1)).run Tryd.prog w = .ok (.int .i64 (-1)) w := fun _ => by kernel_rfl
  have i2 : ∀ w, (Instr.index 173 (.agg #[.int .i64 7, .int .i64 (-1), .int .i64 (-1)]) (.int .i64 2)).run Tryd.prog w = .ok (.int .i64 (-1)) w := fun _ => by kernel_rfl
  go_enter Tryd.func67, Tryd.ntmps67
  go_wp2_with (go_at_call 93; refine (HRW.out _).mono ?_; rintro e w2 ⟨rfl, rfl⟩)
  refine wp_loop_rounds 4 ?_
  repeat any_goals (rw [rounds_succ]; go_wp2_with (first
    | (go_at_call 27; (first | with_reducible refine (HDA.out _).mono ?_ | with_reducible refine (HDB.out _).mono ?_ | with_reducible refine (HDC.out _).mono ?_ | with_reducible refine (HDN.out _).mono ?_); rintro e w2 ⟨rfl, ho⟩; have hl := HL.out.nob ho; clear HL; obtain ⟨z0, z1, z4, r1, r2, r3, r4, a0, a1, a2, l0, l1, l2⟩ := hl.cells; have HL := hide hl; clear hl ho)))
  have he : (⟨(lineL ⟨11, a, b, c, n⟩).toArray⟩ : ByteArray) = ⟨#[102, 114, 101, 101]⟩ ++ ⟨#[32, 114]⟩ ++ ⟨(decDigits a).toArray⟩ := by
    apply ByteArray.ext
    simp [lineL, insWords, kindsP, toldP, atList, nameList]
  go_ret
  exact ⟨by rw [he]; rfl, HL.out.only⟩
set_option maxRecDepth 100000 in
set_option maxHeartbeats 4000000 in
theorem line_12 (w : World) (a b c n : Nat) (ha : a < 100) (hb : b < 100) (hc : c < 100) (hn : n < 18446744073709551616) (htab : TabAt w) : Calls Tryd.prog 67 #[.agg #[.int .i64 12, .int .i64 (a : Int), .int .i64 (b : Int), .int .i64 (c : Int), .int .u64 (n : Int)]] w fun e w' => e = .returned (.string ⟨(lineL ⟨12, a, b, c, n⟩).toArray⟩) ∧ Only Nob w w' := by
  have HRW : Hid (∀ W, Calls Tryd.prog 93 #[.int .i64 12] W fun e w' => e = .returned (.tuple #[.agg #[.string ⟨#[106, 117, 109, 112]⟩, .int .i64 (-1), .int .i64 (-1), .int .i64 40, .bool false], .bool true]) ∧ w' = W.alloc (.cells #[.string ⟨#[106, 117, 109, 112]⟩, .int .i64 (-1), .int .i64 (-1), .int .i64 40, .bool false] 169)) := hide (fun W => rowOf_12 W)
  have htab := hide htab
  have HDA := hide (fun W => decimal_any a (by omega) W)
  have HDB := hide (fun W => decimal_any b (by omega) W)
  have HDC := hide (fun W => decimal_any c (by omega) W)
  have HDN := hide (fun W => decimal_any n (by omega) W)
  have HL := hide (LW.start w 12 a b c n (-1) (-1) 40 false ⟨#[106, 117, 109, 112]⟩)
  have hda := dec_len a (by omega)
  have hdb := dec_len b (by omega)
  have hdc := dec_len c (by omega)
  have hdn := dec_len n (by omega)
  have i0 : ∀ w, (Instr.index 173 (.agg #[.int .i64 (-1), .int .i64 (-1), .int .i64 40]) (.int .i64 0)).run Tryd.prog w = .ok (.int .i64 (-1)) w := fun _ => by kernel_rfl
  have i1 : ∀ w, (Instr.index 173 (.agg #[.int .i64 (-1), .int .i64 (-1), .int .i64 40]) (.int .i64 1)).run Tryd.prog w = .ok (.int .i64 (-1)) w := fun _ => by kernel_rfl
  have i2 : ∀ w, (Instr.index 173 (.agg #[.int .i64 (-1), .int .i64 (-1), .int .i64 40]) (.int .i64 2)).run Tryd.prog w = .ok (.int .i64 40) w := fun _ => by kernel_rfl
  go_enter Tryd.func67, Tryd.ntmps67
  go_wp2_with (go_at_call 93; refine (HRW.out _).mono ?_; rintro e w2 ⟨rfl, rfl⟩)
  refine wp_loop_rounds 4 ?_
  repeat any_goals (rw [rounds_succ]; go_wp2_with (first
    | (go_at_call 27; (first | with_reducible refine (HDA.out _).mono ?_ | with_reducible refine (HDB.out _).mono ?_ | with_reducible refine (HDC.out _).mono ?_ | with_reducible refine (HDN.out _).mono ?_); rintro e w2 ⟨rfl, ho⟩; have hl := HL.out.nob ho; clear HL; obtain ⟨z0, z1, z4, r1, r2, r3, r4, a0, a1, a2, l0, l1, l2⟩ := hl.cells; have HL := hide hl; clear hl ho)))
  have he : (⟨(lineL ⟨12, a, b, c, n⟩).toArray⟩ : ByteArray) = ⟨#[106, 117, 109, 112]⟩ ++ ⟨#[32, 108]⟩ ++ ⟨(decDigits c).toArray⟩ := by
    apply ByteArray.ext
    simp [lineL, insWords, kindsP, toldP, atList, nameList]
  go_ret
  exact ⟨by rw [he]; rfl, HL.out.only⟩
set_option maxRecDepth 100000 in
set_option maxHeartbeats 4000000 in
theorem line_13 (w : World) (a b c n : Nat) (ha : a < 100) (hb : b < 100) (hc : c < 100) (hn : n < 18446744073709551616) (htab : TabAt w) : Calls Tryd.prog 67 #[.agg #[.int .i64 13, .int .i64 (a : Int), .int .i64 (b : Int), .int .i64 (c : Int), .int .u64 (n : Int)]] w fun e w' => e = .returned (.string ⟨(lineL ⟨13, a, b, c, n⟩).toArray⟩) ∧ Only Nob w w' := by
  have HRW : Hid (∀ W, Calls Tryd.prog 93 #[.int .i64 13] W fun e w' => e = .returned (.tuple #[.agg #[.string ⟨#[122, 101, 114, 111]⟩, .int .i64 7, .int .i64 (-1), .int .i64 40, .bool false], .bool true]) ∧ w' = W.alloc (.cells #[.string ⟨#[122, 101, 114, 111]⟩, .int .i64 7, .int .i64 (-1), .int .i64 40, .bool false] 169)) := hide (fun W => rowOf_13 W)
  have htab := hide htab
  have HDA := hide (fun W => decimal_any a (by omega) W)
  have HDB := hide (fun W => decimal_any b (by omega) W)
  have HDC := hide (fun W => decimal_any c (by omega) W)
  have HDN := hide (fun W => decimal_any n (by omega) W)
  have HL := hide (LW.start w 13 a b c n 7 (-1) 40 false ⟨#[122, 101, 114, 111]⟩)
  have hda := dec_len a (by omega)
  have hdb := dec_len b (by omega)
  have hdc := dec_len c (by omega)
  have hdn := dec_len n (by omega)
  have i0 : ∀ w, (Instr.index 173 (.agg #[.int .i64 7, .int .i64 (-1), .int .i64 40]) (.int .i64 0)).run Tryd.prog w = .ok (.int .i64 7) w := fun _ => by kernel_rfl
  have i1 : ∀ w, (Instr.index 173 (.agg #[.int .i64 7, .int .i64 (-1), .int .i64 40]) (.int .i64 1)).run Tryd.prog w = .ok (.int .i64 (-1)) w := fun _ => by kernel_rfl
  have i2 : ∀ w, (Instr.index 173 (.agg #[.int .i64 7, .int .i64 (-1), .int .i64 40]) (.int .i64 2)).run Tryd.prog w = .ok (.int .i64 40) w := fun _ => by kernel_rfl
  go_enter Tryd.func67, Tryd.ntmps67
  go_wp2_with (go_at_call 93; refine (HRW.out _).mono ?_; rintro e w2 ⟨rfl, rfl⟩)
  refine wp_loop_rounds 4 ?_
  repeat any_goals (rw [rounds_succ]; go_wp2_with (first
    | (go_at_call 27; (first | with_reducible refine (HDA.out _).mono ?_ | with_reducible refine (HDB.out _).mono ?_ | with_reducible refine (HDC.out _).mono ?_ | with_reducible refine (HDN.out _).mono ?_); rintro e w2 ⟨rfl, ho⟩; have hl := HL.out.nob ho; clear HL; obtain ⟨z0, z1, z4, r1, r2, r3, r4, a0, a1, a2, l0, l1, l2⟩ := hl.cells; have HL := hide hl; clear hl ho)))
  have he : (⟨(lineL ⟨13, a, b, c, n⟩).toArray⟩ : ByteArray) = ⟨#[122, 101, 114, 111]⟩ ++ ⟨#[32, 114]⟩ ++ ⟨(decDigits a).toArray⟩ ++ ⟨#[32, 108]⟩ ++ ⟨(decDigits c).toArray⟩ := by
    apply ByteArray.ext
    simp [lineL, insWords, kindsP, toldP, atList, nameList]
  go_ret
  exact ⟨by rw [he]; rfl, HL.out.only⟩
end Go.Proofs.YtngahgfppbjebaaDoor
namespace Go.Proofs.YtngahgfppbjebaaDoor
open Go.RowKit Go.Lib
set_option linter.unusedVariables false
set_option linter.unusedSimpArgs false

set_option maxRecDepth 100000 in
set_option maxHeartbeats 4000000 in
theorem line_14 (w : World) (a b c n : Nat) (ha : a < 100) (hb : b < 100) (hc : c < 100) (hn : n < 18446744073709551616) (htab : TabAt w) : Calls Tryd.prog 67 #[.agg #[.int .i64 14, .int .i64 (a : Int), .int .i64 (b : Int), .int .i64 (c : Int), .int .u64 (n : Int)]] w fun e w' => e = .returned (.string ⟨(lineL ⟨14, a, b, c, n⟩).toArray⟩) ∧ Only Nob w w' := by
  have HRW : Hid (∀ W, Calls Tryd.prog 93 #[.int .i64 14] W fun e w' => e = .returned (.tuple #[.agg #[.string ⟨#[111, 112, 101, 110]⟩, .int .i64 (-1), .int .i64 (-1), .int .i64 (-1), .bool false], .bool true]) ∧ w' = W.alloc (.cells #[.string ⟨#[111, 112, 101, 110]⟩, .int .i64 (-1), .int .i64 (-1), .int .i64 (-1), .bool false] 169)) := hide (fun W => rowOf_14 W)
  have htab := hide htab
  have HDA := hide (fun W => decimal_any a (by omega) W)
  have HDB := hide (fun W => decimal_any b (by omega) W)
  have HDC := hide (fun W => decimal_any c (by omega) W)
  have HDN := hide (fun W => decimal_any n (by omega) W)
  have HL := hide (LW.start w 14 a b c n (-1) (-1) (-1) false ⟨#[111, 112, 101, 110]⟩)
  have hda := dec_len a (by omega)
  have hdb := dec_len b (by omega)
  have hdc := dec_len c (by omega)
  have hdn := dec_len n (by omega)
  have i0 : ∀ w, (Instr.index 173 (.agg #[.int .i64 (-1), .int .i64 (-1), .int .i64 (-1)]) (.int .i64 0)).run Tryd.prog w = .ok (.int .i64 (-1)) w := fun _ => by kernel_rfl
  have i1 : ∀ w, (Instr.index 173 (.agg #[.int .i64 (-1), .int .i64 (-1), .int .i64 (-1)]) (.int .i64 1)).run Tryd.prog w = .ok (.int .i64 (-1)) w := fun _ => by kernel_rfl
  have i2 : ∀ w, (Instr.index 173 (.agg #[.int .i64 (-1), .int .i64 (-1), .int .i64 (-1)]) (.int .i64 2)).run Tryd.prog w = .ok (.int .i64 (-1)) w := fun _ => by kernel_rfl
  go_enter Tryd.func67, Tryd.ntmps67
  go_wp2_with (go_at_call 93; refine (HRW.out _).mono ?_; rintro e w2 ⟨rfl, rfl⟩)
  refine wp_loop_rounds 4 ?_
  repeat any_goals (rw [rounds_succ]; go_wp2_with (first
    | (go_at_call 27; (first | with_reducible refine (HDA.out _).mono ?_ | with_reducible refine (HDB.out _).mono ?_ | with_reducible refine (HDC.out _).mono ?_ | with_reducible refine (HDN.out _).mono ?_); rintro e w2 ⟨rfl, ho⟩; have hl := HL.out.nob ho; clear HL; obtain ⟨z0, z1, z4, r1, r2, r3, r4, a0, a1, a2, l0, l1, l2⟩ := hl.cells; have HL := hide hl; clear hl ho)))
  have he : (⟨(lineL ⟨14, a, b, c, n⟩).toArray⟩ : ByteArray) = ⟨#[111, 112, 101, 110]⟩ := by
    apply ByteArray.ext
    simp [lineL, insWords, kindsP, toldP, atList, nameList]
  go_ret
  exact ⟨by rw [he]; rfl, HL.out.only⟩
set_option maxRecDepth 100000 in
set_option maxHeartbeats 4000000 in
theorem line_15 (w : World) (a b c n : Nat) (ha : a < 100) (hb : b < 100) (hc : c < 100) (hn : n < 18446744073709551616) (htab : TabAt w) : Calls Tryd.prog 67 #[.agg #[.int .i64 15, .int .i64 (a : Int), .int .i64 (b : Int), .int .i64 (c : Int), .int .u64 (n : Int)]] w fun e w' => e = .returned (.string ⟨(lineL ⟨15, a, b, c, n⟩).toArray⟩) ∧ Only Nob w w' := by
  have HRW : Hid (∀ W, Calls Tryd.prog 93 #[.int .i64 15] W fun e w' => e = .returned (.tuple #[.agg #[.string ⟨#[99, 108, 111, 115, 101]⟩, .int .i64 (-1), .int .i64 (-1), .int .i64 (-1), .bool false], .bool true]) ∧ w' = W.alloc (.cells #[.string ⟨#[99, 108, 111, 115, 101]⟩, .int .i64 (-1), .int .i64 (-1), .int .i64 (-1), .bool false] 169)) := hide (fun W => rowOf_15 W)
  have htab := hide htab
  have HDA := hide (fun W => decimal_any a (by omega) W)
  have HDB := hide (fun W => decimal_any b (by omega) W)
  have HDC := hide (fun W => decimal_any c (by omega) W)
  have HDN := hide (fun W => decimal_any n (by omega) W)
  have HL := hide (LW.start w 15 a b c n (-1) (-1) (-1) false ⟨#[99, 108, 111, 115, 101]⟩)
  have hda := dec_len a (by omega)
  have hdb := dec_len b (by omega)
  have hdc := dec_len c (by omega)
  have hdn := dec_len n (by omega)
  have i0 : ∀ w, (Instr.index 173 (.agg #[.int .i64 (-1), .int .i64 (-1), .int .i64 (-1)]) (.int .i64 0)).run Tryd.prog w = .ok (.int .i64 (-1)) w := fun _ => by kernel_rfl
  have i1 : ∀ w, (Instr.index 173 (.agg #[.int .i64 (-1), .int .i64 (-1), .int .i64 (-1)]) (.int .i64 1)).run Tryd.prog w = .ok (.int .i64 (-1)) w := fun _ => by kernel_rfl
  have i2 : ∀ w, (Instr.index 173 (.agg #[.int .i64 (-1), .int .i64 (-1), .int .i64 (-1)]) (.int .i64 2)).run Tryd.prog w = .ok (.int .i64 (-1)) w := fun _ => by kernel_rfl
  go_enter Tryd.func67, Tryd.ntmps67
  go_wp2_with (go_at_call 93; refine (HRW.out _).mono ?_; rintro e w2 ⟨rfl, rfl⟩)
  refine wp_loop_rounds 4 ?_
  repeat any_goals (rw [rounds_succ]; go_wp2_with (first
    | (go_at_call 27; (first | with_reducible refine (HDA.out _).mono ?_ | with_reducible refine (HDB.out _).mono ?_ | with_reducible refine (HDC.out _).mono ?_ | with_reducible refine (HDN.out _).mono ?_); rintro e w2 ⟨rfl, ho⟩; have hl := HL.out.nob ho; clear HL; obtain ⟨z0, z1, z4, r1, r2, r3, r4, a0, a1, a2, l0, l1, l2⟩ := hl.cells; have HL := hide hl; clear hl ho)))
  have he : (⟨(lineL ⟨15, a, b, c, n⟩).toArray⟩ : ByteArray) = ⟨#[99, 108, 111, 115, 101]⟩ := by
    apply ByteArray.ext
    simp [lineL, insWords, kindsP, toldP, atList, nameList]
  go_ret
  exact ⟨by rw [he]; rfl, HL.out.only⟩
set_option maxRecDepth 100000 in
set_option maxHeartbeats 4000000 in
theorem line_16 (w : World) (a b c n : Nat) (ha : a < 100) (hb : b < 100) (hc : c < 100) (hn : n < 18446744073709551616) (htab : TabAt w) : Calls Tryd.prog 67 #[.agg #[.int .i64 16, .int .i64 (a : Int), .int .i64 (b : Int), .int .i64 (c : Int), .int .u64 (n : Int)]] w fun e w' => e = .returned (.string ⟨(lineL ⟨16, a, b, c, n⟩).toArray⟩) ∧ Only Nob w w' := by
  have HRW : Hid (∀ W, Calls Tryd.prog 93 #[.int .i64 16] W fun e w' => e = .returned (.tuple #[.agg #[.string ⟨#[117, 110, 100, 111]⟩, .int .i64 (-1), .int .i64 (-1), .int .i64 (-1), .bool false], .bool true]) ∧ w' = W.alloc (.cells #[.string ⟨#[117, 110, 100, 111]⟩, .int .i64 (-1), .int .i64 (-1), .int .i64 (-1), .bool false] 169)) := hide (fun W => rowOf_16 W)
  have htab := hide htab
  have HDA := hide (fun W => decimal_any a (by omega) W)
  have HDB := hide (fun W => decimal_any b (by omega) W)
  have HDC := hide (fun W => decimal_any c (by omega) W)
  have HDN := hide (fun W => decimal_any n (by omega) W)
  have HL := hide (LW.start w 16 a b c n (-1) (-1) (-1) false ⟨#[117, 110, 100, 111]⟩)
  have hda := dec_len a (by omega)
  have hdb := dec_len b (by omega)
  have hdc := dec_len c (by omega)
  have hdn := dec_len n (by omega)
  have i0 : ∀ w, (Instr.index 173 (.agg #[.int .i64 (-1), .int .i64 (-1), .int .i64 (-1)]) (.int .i64 0)).run Tryd.prog w = .ok (.int .i64 (-1)) w := fun _ => by kernel_rfl
  have i1 : ∀ w, (Instr.index 173 (.agg #[.int .i64 (-1), .int .i64 (-1), .int .i64 (-1)]) (.int .i64 1)).run Tryd.prog w = .ok (.int .i64 (-1)) w := fun _ => by kernel_rfl
  have i2 : ∀ w, (Instr.index 173 (.agg #[.int .i64 (-1), .int .i64 (-1), .int .i64 (-1)]) (.int .i64 2)).run Tryd.prog w = .ok (.int .i64 (-1)) w := fun _ => by kernel_rfl
  go_enter Tryd.func67, Tryd.ntmps67
  go_wp2_with (go_at_call 93; refine (HRW.out _).mono ?_; rintro e w2 ⟨rfl, rfl⟩)
  refine wp_loop_rounds 4 ?_
  repeat any_goals (rw [rounds_succ]; go_wp2_with (first
    | (go_at_call 27; (first | with_reducible refine (HDA.out _).mono ?_ | with_reducible refine (HDB.out _).mono ?_ | with_reducible refine (HDC.out _).mono ?_ | with_reducible refine (HDN.out _).mono ?_); rintro e w2 ⟨rfl, ho⟩; have hl := HL.out.nob ho; clear HL; obtain ⟨z0, z1, z4, r1, r2, r3, r4, a0, a1, a2, l0, l1, l2⟩ := hl.cells; have HL := hide hl; clear hl ho)))
  have he : (⟨(lineL ⟨16, a, b, c, n⟩).toArray⟩ : ByteArray) = ⟨#[117, 110, 100, 111]⟩ := by
    apply ByteArray.ext
    simp [lineL, insWords, kindsP, toldP, atList, nameList]
  go_ret
  exact ⟨by rw [he]; rfl, HL.out.only⟩
set_option maxRecDepth 100000 in
set_option maxHeartbeats 4000000 in
theorem line_17 (w : World) (a b c n : Nat) (ha : a < 100) (hb : b < 100) (hc : c < 100) (hn : n < 18446744073709551616) (htab : TabAt w) : Calls Tryd.prog 67 #[.agg #[.int .i64 17, .int .i64 (a : Int), .int .i64 (b : Int), .int .i64 (c : Int), .int .u64 (n : Int)]] w fun e w' => e = .returned (.string ⟨(lineL ⟨17, a, b, c, n⟩).toArray⟩) ∧ Only Nob w w' := by
  have HRW : Hid (∀ W, Calls Tryd.prog 93 #[.int .i64 17] W fun e w' => e = .returned (.tuple #[.agg #[.string ⟨#[101, 105, 116, 104, 101, 114]⟩, .int .i64 (-1), .int .i64 (-1), .int .i64 (-1), .bool false], .bool true]) ∧ w' = W.alloc (.cells #[.string ⟨#[101, 105, 116, 104, 101, 114]⟩, .int .i64 (-1), .int .i64 (-1), .int .i64 (-1), .bool false] 169)) := hide (fun W => rowOf_17 W)
  have htab := hide htab
  have HDA := hide (fun W => decimal_any a (by omega) W)
  have HDB := hide (fun W => decimal_any b (by omega) W)
  have HDC := hide (fun W => decimal_any c (by omega) W)
  have HDN := hide (fun W => decimal_any n (by omega) W)
  have HL := hide (LW.start w 17 a b c n (-1) (-1) (-1) false ⟨#[101, 105, 116, 104, 101, 114]⟩)
  have hda := dec_len a (by omega)
  have hdb := dec_len b (by omega)
  have hdc := dec_len c (by omega)
  have hdn := dec_len n (by omega)
  have i0 : ∀ w, (Instr.index 173 (.agg #[.int .i64 (-1), .int .i64 (-1), .int .i64 (-1)]) (.int .i64 0)).run Tryd.prog w = .ok (.int .i64 (-1)) w := fun _ => by kernel_rfl
  have i1 : ∀ w, (Instr.index 173 (.agg #[.int .i64 (-1), .int .i64 (-1), .int .i64 (-1)]) (.int .i64 1)).run Tryd.prog w = .ok (.int .i64 (-1)) w := fun _ => by kernel_rfl
  have i2 : ∀ w, (Instr.index 173 (.agg #[.int .i64 (-1), .int .i64 (-1), .int .i64 (-1)]) (.int .i64 2)).run Tryd.prog w = .ok (.int .i64 (-1)) w := fun _ => by kernel_rfl
  go_enter Tryd.func67, Tryd.ntmps67
  go_wp2_with (go_at_call 93; refine (HRW.out _).mono ?_; rintro e w2 ⟨rfl, rfl⟩)
  refine wp_loop_rounds 4 ?_
  repeat any_goals (rw [rounds_succ]; go_wp2_with (first
    | (go_at_call 27; (first | with_reducible refine (HDA.out _).mono ?_ | with_reducible refine (HDB.out _).mono ?_ | with_reducible refine (HDC.out _).mono ?_ | with_reducible refine (HDN.out _).mono ?_); rintro e w2 ⟨rfl, ho⟩; have hl := HL.out.nob ho; clear HL; obtain ⟨z0, z1, z4, r1, r2, r3, r4, a0, a1, a2, l0, l1, l2⟩ := hl.cells; have HL := hide hl; clear hl ho)))
  have he : (⟨(lineL ⟨17, a, b, c, n⟩).toArray⟩ : ByteArray) = ⟨#[101, 105, 116, 104, 101, 114]⟩ := by
    apply ByteArray.ext
    simp [lineL, insWords, kindsP, toldP, atList, nameList]
  go_ret
  exact ⟨by rw [he]; rfl, HL.out.only⟩
set_option maxRecDepth 100000 in
set_option maxHeartbeats 4000000 in
theorem line_18 (w : World) (a b c n : Nat) (ha : a < 100) (hb : b < 100) (hc : c < 100) (hn : n < 18446744073709551616) (htab : TabAt w) : Calls Tryd.prog 67 #[.agg #[.int .i64 18, .int .i64 (a : Int), .int .i64 (b : Int), .int .i64 (c : Int), .int .u64 (n : Int)]] w fun e w' => e = .returned (.string ⟨(lineL ⟨18, a, b, c, n⟩).toArray⟩) ∧ Only Nob w w' := by
  have HRW : Hid (∀ W, Calls Tryd.prog 93 #[.int .i64 18] W fun e w' => e = .returned (.tuple #[.agg #[.string ⟨#[111, 114]⟩, .int .i64 (-1), .int .i64 (-1), .int .i64 (-1), .bool false], .bool true]) ∧ w' = W.alloc (.cells #[.string ⟨#[111, 114]⟩, .int .i64 (-1), .int .i64 (-1), .int .i64 (-1), .bool false] 169)) := hide (fun W => rowOf_18 W)
  have htab := hide htab
  have HDA := hide (fun W => decimal_any a (by omega) W)
  have HDB := hide (fun W => decimal_any b (by omega) W)
  have HDC := hide (fun W => decimal_any c (by omega) W)
  have HDN := hide (fun W => decimal_any n (by omega) W)
  have HL := hide (LW.start w 18 a b c n (-1) (-1) (-1) false ⟨#[111, 114]⟩)
  have hda := dec_len a (by omega)
  have hdb := dec_len b (by omega)
  have hdc := dec_len c (by omega)
  have hdn := dec_len n (by omega)
  have i0 : ∀ w, (Instr.index 173 (.agg #[.int .i64 (-1), .int .i64 (-1), .int .i64 (-1)]) (.int .i64 0)).run Tryd.prog w = .ok (.int .i64 (-1)) w := fun _ => by kernel_rfl
  have i1 : ∀ w, (Instr.index 173 (.agg #[.int .i64 (-1), .int .i64 (-1), .int .i64 (-1)]) (.int .i64 1)).run Tryd.prog w = .ok (.int .i64 (-1)) w := fun _ => by kernel_rfl
  have i2 : ∀ w, (Instr.index 173 (.agg #[.int .i64 (-1), .int .i64 (-1), .int .i64 (-1)]) (.int .i64 2)).run Tryd.prog w = .ok (.int .i64 (-1)) w := fun _ => by kernel_rfl
  go_enter Tryd.func67, Tryd.ntmps67
  go_wp2_with (go_at_call 93; refine (HRW.out _).mono ?_; rintro e w2 ⟨rfl, rfl⟩)
  refine wp_loop_rounds 4 ?_
  repeat any_goals (rw [rounds_succ]; go_wp2_with (first
    | (go_at_call 27; (first | with_reducible refine (HDA.out _).mono ?_ | with_reducible refine (HDB.out _).mono ?_ | with_reducible refine (HDC.out _).mono ?_ | with_reducible refine (HDN.out _).mono ?_); rintro e w2 ⟨rfl, ho⟩; have hl := HL.out.nob ho; clear HL; obtain ⟨z0, z1, z4, r1, r2, r3, r4, a0, a1, a2, l0, l1, l2⟩ := hl.cells; have HL := hide hl; clear hl ho)))
  have he : (⟨(lineL ⟨18, a, b, c, n⟩).toArray⟩ : ByteArray) = ⟨#[111, 114]⟩ := by
    apply ByteArray.ext
    simp [lineL, insWords, kindsP, toldP, atList, nameList]
  go_ret
  exact ⟨by rw [he]; rfl, HL.out.only⟩
set_option maxRecDepth 100000 in
set_option maxHeartbeats 4000000 in
theorem line_19 (w : World) (a b c n : Nat) (ha : a < 100) (hb : b < 100) (hc : c < 100) (hn : n < 18446744073709551616) (htab : TabAt w) : Calls Tryd.prog 67 #[.agg #[.int .i64 19, .int .i64 (a : Int), .int .i64 (b : Int), .int .i64 (c : Int), .int .u64 (n : Int)]] w fun e w' => e = .returned (.string ⟨(lineL ⟨19, a, b, c, n⟩).toArray⟩) ∧ Only Nob w w' := by
  have HRW : Hid (∀ W, Calls Tryd.prog 93 #[.int .i64 19] W fun e w' => e = .returned (.tuple #[.agg #[.string ⟨#[100, 111, 110, 101]⟩, .int .i64 (-1), .int .i64 (-1), .int .i64 (-1), .bool false], .bool true]) ∧ w' = W.alloc (.cells #[.string ⟨#[100, 111, 110, 101]⟩, .int .i64 (-1), .int .i64 (-1), .int .i64 (-1), .bool false] 169)) := hide (fun W => rowOf_19 W)
  have htab := hide htab
  have HDA := hide (fun W => decimal_any a (by omega) W)
  have HDB := hide (fun W => decimal_any b (by omega) W)
  have HDC := hide (fun W => decimal_any c (by omega) W)
  have HDN := hide (fun W => decimal_any n (by omega) W)
  have HL := hide (LW.start w 19 a b c n (-1) (-1) (-1) false ⟨#[100, 111, 110, 101]⟩)
  have hda := dec_len a (by omega)
  have hdb := dec_len b (by omega)
  have hdc := dec_len c (by omega)
  have hdn := dec_len n (by omega)
  have i0 : ∀ w, (Instr.index 173 (.agg #[.int .i64 (-1), .int .i64 (-1), .int .i64 (-1)]) (.int .i64 0)).run Tryd.prog w = .ok (.int .i64 (-1)) w := fun _ => by kernel_rfl
  have i1 : ∀ w, (Instr.index 173 (.agg #[.int .i64 (-1), .int .i64 (-1), .int .i64 (-1)]) (.int .i64 1)).run Tryd.prog w = .ok (.int .i64 (-1)) w := fun _ => by kernel_rfl
  have i2 : ∀ w, (Instr.index 173 (.agg #[.int .i64 (-1), .int .i64 (-1), .int .i64 (-1)]) (.int .i64 2)).run Tryd.prog w = .ok (.int .i64 (-1)) w := fun _ => by kernel_rfl
  go_enter Tryd.func67, Tryd.ntmps67
  go_wp2_with (go_at_call 93; refine (HRW.out _).mono ?_; rintro e w2 ⟨rfl, rfl⟩)
  refine wp_loop_rounds 4 ?_
  repeat any_goals (rw [rounds_succ]; go_wp2_with (first
    | (go_at_call 27; (first | with_reducible refine (HDA.out _).mono ?_ | with_reducible refine (HDB.out _).mono ?_ | with_reducible refine (HDC.out _).mono ?_ | with_reducible refine (HDN.out _).mono ?_); rintro e w2 ⟨rfl, ho⟩; have hl := HL.out.nob ho; clear HL; obtain ⟨z0, z1, z4, r1, r2, r3, r4, a0, a1, a2, l0, l1, l2⟩ := hl.cells; have HL := hide hl; clear hl ho)))
  have he : (⟨(lineL ⟨19, a, b, c, n⟩).toArray⟩ : ByteArray) = ⟨#[100, 111, 110, 101]⟩ := by
    apply ByteArray.ext
    simp [lineL, insWords, kindsP, toldP, atList, nameList]
  go_ret
  exact ⟨by rw [he]; rfl, HL.out.only⟩
set_option maxRecDepth 100000 in
set_option maxHeartbeats 4000000 in
theorem line_20 (w : World) (a b c n : Nat) (ha : a < 100) (hb : b < 100) (hc : c < 100) (hn : n < 18446744073709551616) (htab : TabAt w) : Calls Tryd.prog 67 #[.agg #[.int .i64 20, .int .i64 (a : Int), .int .i64 (b : Int), .int .i64 (c : Int), .int .u64 (n : Int)]] w fun e w' => e = .returned (.string ⟨(lineL ⟨20, a, b, c, n⟩).toArray⟩) ∧ Only Nob w w' := by
  have HRW : Hid (∀ W, Calls Tryd.prog 93 #[.int .i64 20] W fun e w' => e = .returned (.tuple #[.agg #[.string ⟨#[114, 101, 116, 114, 121]⟩, .int .i64 (-1), .int .i64 (-1), .int .i64 (-1), .bool false], .bool true]) ∧ w' = W.alloc (.cells #[.string ⟨#[114, 101, 116, 114, 121]⟩, .int .i64 (-1), .int .i64 (-1), .int .i64 (-1), .bool false] 169)) := hide (fun W => rowOf_20 W)
  have htab := hide htab
  have HDA := hide (fun W => decimal_any a (by omega) W)
  have HDB := hide (fun W => decimal_any b (by omega) W)
  have HDC := hide (fun W => decimal_any c (by omega) W)
  have HDN := hide (fun W => decimal_any n (by omega) W)
  have HL := hide (LW.start w 20 a b c n (-1) (-1) (-1) false ⟨#[114, 101, 116, 114, 121]⟩)
  have hda := dec_len a (by omega)
  have hdb := dec_len b (by omega)
  have hdc := dec_len c (by omega)
  have hdn := dec_len n (by omega)
  have i0 : ∀ w, (Instr.index 173 (.agg #[.int .i64 (-1), .int .i64 (-1), .int .i64 (-1)]) (.int .i64 0)).run Tryd.prog w = .ok (.int .i64 (-1)) w := fun _ => by kernel_rfl
  have i1 : ∀ w, (Instr.index 173 (.agg #[.int .i64 (-1), .int .i64 (-1), .int .i64 (-1)]) (.int .i64 1)).run Tryd.prog w = .ok (.int .i64 (-1)) w := fun _ => by kernel_rfl
  have i2 : ∀ w, (Instr.index 173 (.agg #[.int .i64 (-1), .int .i64 (-1), .int .i64 (-1)]) (.int .i64 2)).run Tryd.prog w = .ok (.int .i64 (-1)) w := fun _ => by kernel_rfl
  go_enter Tryd.func67, Tryd.ntmps67
  go_wp2_with (go_at_call 93; refine (HRW.out _).mono ?_; rintro e w2 ⟨rfl, rfl⟩)
  refine wp_loop_rounds 4 ?_
  repeat any_goals (rw [rounds_succ]; go_wp2_with (first
    | (go_at_call 27; (first | with_reducible refine (HDA.out _).mono ?_ | with_reducible refine (HDB.out _).mono ?_ | with_reducible refine (HDC.out _).mono ?_ | with_reducible refine (HDN.out _).mono ?_); rintro e w2 ⟨rfl, ho⟩; have hl := HL.out.nob ho; clear HL; obtain ⟨z0, z1, z4, r1, r2, r3, r4, a0, a1, a2, l0, l1, l2⟩ := hl.cells; have HL := hide hl; clear hl ho)))
  have he : (⟨(lineL ⟨20, a, b, c, n⟩).toArray⟩ : ByteArray) = ⟨#[114, 101, 116, 114, 121]⟩ := by
    apply ByteArray.ext
    simp [lineL, insWords, kindsP, toldP, atList, nameList]
  go_ret
  exact ⟨by rw [he]; rfl, HL.out.only⟩
set_option maxRecDepth 100000 in
set_option maxHeartbeats 4000000 in
theorem line_21 (w : World) (a b c n : Nat) (ha : a < 100) (hb : b < 100) (hc : c < 100) (hn : n < 18446744073709551616) (htab : TabAt w) : Calls Tryd.prog 67 #[.agg #[.int .i64 21, .int .i64 (a : Int), .int .i64 (b : Int), .int .i64 (c : Int), .int .u64 (n : Int)]] w fun e w' => e = .returned (.string ⟨(lineL ⟨21, a, b, c, n⟩).toArray⟩) ∧ Only Nob w w' := by
  have HRW : Hid (∀ W, Calls Tryd.prog 93 #[.int .i64 21] W fun e w' => e = .returned (.tuple #[.agg #[.string ⟨#[101, 109, 105, 116]⟩, .int .i64 7, .int .i64 (-1), .int .i64 (-1), .bool false], .bool true]) ∧ w' = W.alloc (.cells #[.string ⟨#[101, 109, 105, 116]⟩, .int .i64 7, .int .i64 (-1), .int .i64 (-1), .bool false] 169)) := hide (fun W => rowOf_21 W)
  have htab := hide htab
  have HDA := hide (fun W => decimal_any a (by omega) W)
  have HDB := hide (fun W => decimal_any b (by omega) W)
  have HDC := hide (fun W => decimal_any c (by omega) W)
  have HDN := hide (fun W => decimal_any n (by omega) W)
  have HL := hide (LW.start w 21 a b c n 7 (-1) (-1) false ⟨#[101, 109, 105, 116]⟩)
  have hda := dec_len a (by omega)
  have hdb := dec_len b (by omega)
  have hdc := dec_len c (by omega)
  have hdn := dec_len n (by omega)
  have i0 : ∀ w, (Instr.index 173 (.agg #[.int .i64 7, .int .i64 (-1), .int .i64 (-1)]) (.int .i64 0)).run Tryd.prog w = .ok (.int .i64 7) w := fun _ => by kernel_rfl
  have i1 : ∀ w, (Instr.index 173 (.agg #[.int .i64 7, .int .i64 (-1), .int .i64 (-1)]) (.int .i64 1)).run Tryd.prog w = .ok (.int .i64 (-1)) w := fun _ => by kernel_rfl
  have i2 : ∀ w, (Instr.index 173 (.agg #[.int .i64 7, .int .i64 (-1), .int .i64 (-1)]) (.int .i64 2)).run Tryd.prog w = .ok (.int .i64 (-1)) w := fun _ => by kernel_rfl
  go_enter Tryd.func67, Tryd.ntmps67
  go_wp2_with (go_at_call 93; refine (HRW.out _).mono ?_; rintro e w2 ⟨rfl, rfl⟩)
  refine wp_loop_rounds 4 ?_
  repeat any_goals (rw [rounds_succ]; go_wp2_with (first
    | (go_at_call 27; (first | with_reducible refine (HDA.out _).mono ?_ | with_reducible refine (HDB.out _).mono ?_ | with_reducible refine (HDC.out _).mono ?_ | with_reducible refine (HDN.out _).mono ?_); rintro e w2 ⟨rfl, ho⟩; have hl := HL.out.nob ho; clear HL; obtain ⟨z0, z1, z4, r1, r2, r3, r4, a0, a1, a2, l0, l1, l2⟩ := hl.cells; have HL := hide hl; clear hl ho)))
  have he : (⟨(lineL ⟨21, a, b, c, n⟩).toArray⟩ : ByteArray) = ⟨#[101, 109, 105, 116]⟩ ++ ⟨#[32, 114]⟩ ++ ⟨(decDigits a).toArray⟩ := by
    apply ByteArray.ext
    simp [lineL, insWords, kindsP, toldP, atList, nameList]
  go_ret
  exact ⟨by rw [he]; rfl, HL.out.only⟩
set_option maxRecDepth 100000 in
set_option maxHeartbeats 4000000 in
theorem line_22 (w : World) (a b c n : Nat) (ha : a < 100) (hb : b < 100) (hc : c < 100) (hn : n < 18446744073709551616) (htab : TabAt w) : Calls Tryd.prog 67 #[.agg #[.int .i64 22, .int .i64 (a : Int), .int .i64 (b : Int), .int .i64 (c : Int), .int .u64 (n : Int)]] w fun e w' => e = .returned (.string ⟨(lineL ⟨22, a, b, c, n⟩).toArray⟩) ∧ Only Nob w w' := by
  have HRW : Hid (∀ W, Calls Tryd.prog 93 #[.int .i64 22] W fun e w' => e = .returned (.tuple #[.agg #[.string ⟨#[102, 97, 105, 108]⟩, .int .i64 (-1), .int .i64 (-1), .int .i64 (-1), .bool false], .bool true]) ∧ w' = W.alloc (.cells #[.string ⟨#[102, 97, 105, 108]⟩, .int .i64 (-1), .int .i64 (-1), .int .i64 (-1), .bool false] 169)) := hide (fun W => rowOf_22 W)
  have htab := hide htab
  have HDA := hide (fun W => decimal_any a (by omega) W)
  have HDB := hide (fun W => decimal_any b (by omega) W)
  have HDC := hide (fun W => decimal_any c (by omega) W)
  have HDN := hide (fun W => decimal_any n (by omega) W)
  have HL := hide (LW.start w 22 a b c n (-1) (-1) (-1) false ⟨#[102, 97, 105, 108]⟩)
  have hda := dec_len a (by omega)
  have hdb := dec_len b (by omega)
  have hdc := dec_len c (by omega)
  have hdn := dec_len n (by omega)
  have i0 : ∀ w, (Instr.index 173 (.agg #[.int .i64 (-1), .int .i64 (-1), .int .i64 (-1)]) (.int .i64 0)).run Tryd.prog w = .ok (.int .i64 (-1)) w := fun _ => by kernel_rfl
  have i1 : ∀ w, (Instr.index 173 (.agg #[.int .i64 (-1), .int .i64 (-1), .int .i64 (-1)]) (.int .i64 1)).run Tryd.prog w = .ok (.int .i64 (-1)) w := fun _ => by kernel_rfl
  have i2 : ∀ w, (Instr.index 173 (.agg #[.int .i64 (-1), .int .i64 (-1), .int .i64 (-1)]) (.int .i64 2)).run Tryd.prog w = .ok (.int .i64 (-1)) w := fun _ => by kernel_rfl
  go_enter Tryd.func67, Tryd.ntmps67
  go_wp2_with (go_at_call 93; refine (HRW.out _).mono ?_; rintro e w2 ⟨rfl, rfl⟩)
  refine wp_loop_rounds 4 ?_
  repeat any_goals (rw [rounds_succ]; go_wp2_with (first
    | (go_at_call 27; (first | with_reducible refine (HDA.out _).mono ?_ | with_reducible refine (HDB.out _).mono ?_ | with_reducible refine (HDC.out _).mono ?_ | with_reducible refine (HDN.out _).mono ?_); rintro e w2 ⟨rfl, ho⟩; have hl := HL.out.nob ho; clear HL; obtain ⟨z0, z1, z4, r1, r2, r3, r4, a0, a1, a2, l0, l1, l2⟩ := hl.cells; have HL := hide hl; clear hl ho)))
  have he : (⟨(lineL ⟨22, a, b, c, n⟩).toArray⟩ : ByteArray) = ⟨#[102, 97, 105, 108]⟩ := by
    apply ByteArray.ext
    simp [lineL, insWords, kindsP, toldP, atList, nameList]
  go_ret
  exact ⟨by rw [he]; rfl, HL.out.only⟩
set_option maxRecDepth 100000 in
set_option maxHeartbeats 4000000 in
theorem line_23 (w : World) (a b c n : Nat) (ha : a < 100) (hb : b < 100) (hc : c < 100) (hn : n < 18446744073709551616) (htab : TabAt w) : Calls Tryd.prog 67 #[.agg #[.int .i64 23, .int .i64 (a : Int), .int .i64 (b : Int), .int .i64 (c : Int), .int .u64 (n : Int)]] w fun e w' => e = .returned (.string ⟨(lineL ⟨23, a, b, c, n⟩).toArray⟩) ∧ Only Nob w w' := by
  have HRW : Hid (∀ W, Calls Tryd.prog 93 #[.int .i64 23] W fun e w' => e = .returned (.tuple #[.agg #[.string ⟨#[99, 97, 108, 108]⟩, .int .i64 12, .int .i64 7, .int .i64 6, .bool false], .bool true]) ∧ w' = W.alloc (.cells #[.string ⟨#[99, 97, 108, 108]⟩, .int .i64 12, .int .i64 7, .int .i64 6, .bool false] 169)) := hide (fun W => rowOf_23 W)
  have htab := hide htab
  have HDA := hide (fun W => decimal_any a (by omega) W)
  have HDB := hide (fun W => decimal_any b (by omega) W)
  have HDC := hide (fun W => decimal_any c (by omega) W)
  have HDN := hide (fun W => decimal_any n (by omega) W)
  have HL := hide (LW.start w 23 a b c n 12 7 6 false ⟨#[99, 97, 108, 108]⟩)
  have hda := dec_len a (by omega)
  have hdb := dec_len b (by omega)
  have hdc := dec_len c (by omega)
  have hdn := dec_len n (by omega)
  have hcn : (atList callList (a : Int)).size ≤ 100 := call_short _
  have i0 : ∀ w, (Instr.index 173 (.agg #[.int .i64 12, .int .i64 7, .int .i64 6]) (.int .i64 0)).run Tryd.prog w = .ok (.int .i64 12) w := fun _ => by kernel_rfl
  have i1 : ∀ w, (Instr.index 173 (.agg #[.int .i64 12, .int .i64 7, .int .i64 6]) (.int .i64 1)).run Tryd.prog w = .ok (.int .i64 7) w := fun _ => by kernel_rfl
  have i2 : ∀ w, (Instr.index 173 (.agg #[.int .i64 12, .int .i64 7, .int .i64 6]) (.int .i64 2)).run Tryd.prog w = .ok (.int .i64 6) w := fun _ => by kernel_rfl
  go_enter Tryd.func67, Tryd.ntmps67
  go_wp2_with (go_at_call 93; refine (HRW.out _).mono ?_; rintro e w2 ⟨rfl, rfl⟩)
  refine wp_loop_rounds 4 ?_
  repeat any_goals (rw [rounds_succ]; go_wp2_with (first
    | (go_at_call 27; (first | with_reducible refine (HDA.out _).mono ?_ | with_reducible refine (HDB.out _).mono ?_ | with_reducible refine (HDC.out _).mono ?_ | with_reducible refine (HDN.out _).mono ?_); rintro e w2 ⟨rfl, ho⟩; have hl := HL.out.nob ho; clear HL; obtain ⟨z0, z1, z4, r1, r2, r3, r4, a0, a1, a2, l0, l1, l2⟩ := hl.cells; have HL := hide hl; clear hl ho)
    | (go_at_call 95; refine (refcall_any _ _ (htab.only HL.out.only)).mono ?_; rintro e w2 ⟨rfl, hw2⟩; subst hw2)))
  have he : (⟨(lineL ⟨23, a, b, c, n⟩).toArray⟩ : ByteArray) = ⟨#[99, 97, 108, 108]⟩ ++ ⟨#[32]⟩ ++ atList callList (a : Int) ++ ⟨#[32]⟩ ++ ⟨(decDigits b).toArray⟩ ++ ⟨#[32, 114]⟩ ++ ⟨(decDigits c).toArray⟩ := by
    apply ByteArray.ext
    simp [lineL, insWords, kindsP, toldP, atList, nameList]
  go_ret
  exact ⟨by rw [he]; rfl, HL.out.only⟩
end Go.Proofs.YtngahgfppbjebaaDoor
