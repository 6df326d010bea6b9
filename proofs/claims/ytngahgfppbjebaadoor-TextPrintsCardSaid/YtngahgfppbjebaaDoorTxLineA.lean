/-
  The reference's Line: printed by a program, instruction by instruction.
-/
import Derived.Test.YtngahgfppbjebaaDoorTxRefA
import Derived.Test.YtngahgfppbjebaaDoorGrpTxPrintE
import Derived.Test.YtngahgfppbjebaaDoorSlDec
namespace Go.Proofs.YtngahgfppbjebaaDoor
open Go.RowKit Go.Lib
set_option linter.unusedVariables false
set_option linter.unusedSimpArgs false

def lineL (x : PIns) : List UInt8 := (atList nameList x.op).data.toList ++ insWords x
/-- What Line stands on. -/
structure LW (w : World) (op a b c n A B C : Int) (N : Bool) (s : ByteArray) (wx : World) : Prop where
  ins : Blk wx w.heap.size 60 #[.int .i64 op, .int .i64 a, .int .i64 b, .int .i64 c, .int .u64 n]
  row : Blk wx (w.heap.size + 1 + 1) 169 #[.string s, .int .i64 A, .int .i64 B, .int .i64 C, .bool N]
  arr : Blk wx (w.heap.size + 1 + 1 + 1) 173 #[.int .i64 a, .int .i64 b, .int .i64 c]
  only : Only Nob w wx
section
variable {w wx W : World} {op a b c n A B C : Int} {N : Bool} {s : ByteArray}
theorem LW.nob (h : LW w op a b c n A B C N s wx) (ho : Only Nob wx W) : LW w op a b c n A B C N s W := ⟨h.ins.only ho (fun h => h), h.row.only ho (fun h => h), h.arr.only ho (fun h => h), h.only.trans ho⟩
theorem LW.start (w : World) (op a b c n A B C : Int) (N : Bool) (s : ByteArray) : LW w op a b c n A B C N s ((((w.alloc (.cells #[.int .i64 op, .int .i64 a, .int .i64 b, .int .i64 c, .int .u64 n] 60)).alloc (.cells #[.string s, .int .i64 A, .int .i64 B, .int .i64 C, .bool N] 169)).alloc (.cells #[.string s, .int .i64 A, .int .i64 B, .int .i64 C, .bool N] 169)).alloc (.cells #[.int .i64 a, .int .i64 b, .int .i64 c] 173)) :=
  ⟨((((Blk.new w _ _).alloc _).alloc _).alloc _), (Blk.new' (by simp)).alloc _, Blk.new' (by simp), ((((Only.refl _ w).alloc _).alloc _).alloc _).alloc _⟩
structure LWcells (w : World) (op a b c n A B C : Int) (N : Bool) (s : ByteArray) (wx : World) : Prop where
  z0 : wx.cell? ⟨w.heap.size, 0, none⟩ = some (.int .i64 op)
  z1 : wx.cell? ⟨w.heap.size, 1, none⟩ = some (.int .i64 a)
  z4 : wx.cell? ⟨w.heap.size, 4, none⟩ = some (.int .u64 n)
  r1 : wx.cell? ⟨w.heap.size + 1 + 1, 1, none⟩ = some (.int .i64 A)
  r2 : wx.cell? ⟨w.heap.size + 1 + 1, 2, none⟩ = some (.int .i64 B)
  r3 : wx.cell? ⟨w.heap.size + 1 + 1, 3, none⟩ = some (.int .i64 C)
  r4 : wx.cell? ⟨w.heap.size + 1 + 1, 4, none⟩ = some (.bool N)
  a0 : wx.cell? ⟨w.heap.size + 1 + 1 + 1, 0, none⟩ = some (.int .i64 a)
  a1 : wx.cell? ⟨w.heap.size + 1 + 1 + 1, 1, none⟩ = some (.int .i64 b)
  a2 : wx.cell? ⟨w.heap.size + 1 + 1 + 1, 2, none⟩ = some (.int .i64 c)
  l0 : w.heap.size < wx.heap.size
  l1 : w.heap.size + 1 + 1 < wx.heap.size
  l2 : w.heap.size + 1 + 1 + 1 < wx.heap.size
theorem LW.cells (h : LW w op a b c n A B C N s wx) : LWcells w op a b c n A B C N s wx :=
  ⟨h.ins.cell 0, h.ins.cell 1, h.ins.cell 4, h.row.cell 1, h.row.cell 2, h.row.cell 3, h.row.cell 4, h.arr.cell 0, h.arr.cell 1, h.arr.cell 2, h.ins.lt, h.row.lt, h.arr.lt⟩
end
theorem call_short (n : Int) : (atList callList n).size ≤ 100 := by
  by_cases h : 1 ≤ n ∧ n ≤ 12
  · have h1 := (List.all_eq_true (l := callList) (p := fun s => decide (s.size ≤ 100))).1 (by decide +kernel)
    obtain ⟨k, rfl⟩ := Int.eq_ofNat_of_zero_le (by omega : 0 ≤ n)
    have e : atList callList (k : Int) = callList.getD k ⟨#[]⟩ := by simp [atList]
    rw [e, List.getD_eq_getElem?_getD, List.getElem?_eq_getElem (by have := callList_len; omega)]
    exact of_decide_eq_true (h1 _ (List.getElem_mem _))
  · rw [list_out (m := 12) rfl callList_len h]
    decide
set_option maxRecDepth 100000 in
set_option maxHeartbeats 4000000 in
theorem line_1 (w : World) (a b c n : Nat) (ha : a < 100) (hb : b < 100) (hc : c < 100) (hn : n < 18446744073709551616) (htab : TabAt w) : Calls Tryd.prog 67 #[.agg #[.int .i64 1, .int .i64 (a : Int), .int .i64 (b : Int), .int .i64 (c : Int), .int .u64 (n : Int)]] w fun e w' => e = .returned (.string ⟨(lineL ⟨1, a, b, c, n⟩).toArray⟩) ∧ Only Nob w w' := by
  have HRW : Hid (∀ W, Calls Tryd.prog 93 #[.int .i64 1] W fun e w' => e = .returned (.tuple #[.agg #[.string ⟨#[115, 101, 116]⟩, .int .i64 7, .int .i64 (-1), .int .i64 (-1), .bool true], .bool true]) ∧ w' = W.alloc (.cells #[.string ⟨#[115, 101, 116]⟩, .int .i64 7, .int .i64 (-1), .int .i64 (-1), .bool true] 169)) := hide (fun W => rowOf_1 W)
  have htab := hide htab
  have HDA := hide (fun W => decimal_any a (by omega) W)
  have HDB := hide (fun W => decimal_any b (by omega) W)
  have HDC := hide (fun W => decimal_any c (by omega) W)
  have HDN := hide (fun W => decimal_any n (by omega) W)
  have HL := hide (LW.start w 1 a b c n 7 (-1) (-1) true ⟨#[115, 101, 116]⟩)
  have hda := dec_len a (by omega)
  have hdb := dec_len b (by omega)
  have hdc := dec_len c (by omega)
  have hdn := dec_len n (by omega)
  have i0 : ∀ w, (Instr.index 173 (.agg #[.int .i64 7, .int .i64 (-1), .int .i64 (-1)]) (.int .i64 0)).run Tryd.prog w = .ok (.int .i64 7) w := fun _ => by kernel_rfl
  have i1 : ∀ w, (Instr.index 173 (.agg #[.int .i64 7, .int .i64 (-1), .int .i64 (-1)]) (.int .i64 1)).run Tryd.prog w = .ok (.int .i64 (-1)) w := fun _ => by kernel_rfl
  have i2 : ∀ w, (Instr.index 173 (.agg #[.int .i64 7, .int .i64 (-1), .int .i64 (-1)]) (.int .i64 2)).run Tryd.prog w = .ok (.int .i64 (-1)) w := fun _ => by kernel_rfl
  go_enter Tryd.func67, Tryd.ntmps67
  go_wp2_with (go_at_call 93; refine (HRW.out _).mono ?_; rintro e w2 ⟨rfl, rfl⟩)
  refine wp_loop_rounds 4 ?_
  repeat any_goals (rw [rounds_succ]; go_wp2_with (first
    | (go_at_call 27; (first | with_reducible refine (HDA.out _).mono ?_ | with_reducible refine (HDB.out _).mono ?_ | with_reducible refine (HDC.out _).mono ?_ | with_reducible refine (HDN.out _).mono ?_); rintro e w2 ⟨rfl, ho⟩; have hl := HL.out.nob ho; clear HL; obtain ⟨z0, z1, z4, r1, r2, r3, r4, a0, a1, a2, l0, l1, l2⟩ := hl.cells; have HL := hide hl; clear hl ho)))
  have he : (⟨(lineL ⟨1, a, b, c, n⟩).toArray⟩ : ByteArray) = ⟨#[115, 101, 116]⟩ ++ ⟨#[32, 114]⟩ ++ ⟨(decDigits a).toArray⟩ ++ ⟨#[32]⟩ ++ ⟨(decDigits n).toArray⟩ := by
    apply ByteArray.ext
    simp [lineL, insWords, kindsP, toldP, atList, nameList]
  go_ret
  exact ⟨by rw [he]; rfl, HL.out.only⟩
set_option maxRecDepth 100000 in
set_option maxHeartbeats 4000000 in
theorem line_2 (w : World) (a b c n : Nat) (ha : a < 100) (hb : b < 100) (hc : c < 100) (hn : n < 18446744073709551616) (htab : TabAt w) : Calls Tryd.prog 67 #[.agg #[.int .i64 2, .int .i64 (a : Int), .int .i64 (b : Int), .int .i64 (c : Int), .int .u64 (n : Int)]] w fun e w' => e = .returned (.string ⟨(lineL ⟨2, a, b, c, n⟩).toArray⟩) ∧ Only Nob w w' := by
  have HRW : Hid (∀ W, Calls Tryd.prog 93 #[.int .i64 2] W fun e w' => e = .returned (.tuple #[.agg #[.string ⟨#[109, 111, 118, 101]⟩, .int .i64 7, .int .i64 7, .int .i64 (-1), .bool false], .bool true]) ∧ w' = W.alloc (.cells #[.string ⟨#[109, 111, 118, 101]⟩, .int .i64 7, .int .i64 7, .int .i64 (-1), .bool false] 169)) := hide (fun W => rowOf_2 W)
  have htab := hide htab
  have HDA := hide (fun W => decimal_any a (by omega) W)
  have HDB := hide (fun W => decimal_any b (by omega) W)
  have HDC := hide (fun W => decimal_any c (by omega) W)
  have HDN := hide (fun W => decimal_any n (by omega) W)
  have HL := hide (LW.start w 2 a b c n 7 7 (-1) false ⟨#[109, 111, 118, 101]⟩)
  have hda := dec_len a (by omega)
  have hdb := dec_len b (by omega)
  have hdc := dec_len c (by omega)
  have hdn := dec_len n (by omega)
  have i0 : ∀ w, (Instr.index 173 (.agg #[.int .i64 7, .int .i64 7, .int .i64 (-1)]) (.int .i64 0)).run Tryd.prog w = .ok (.int .i64 7) w := fun _ => by kernel_rfl
  have i1 : ∀ w, (Instr.index 173 (.agg #[.int .i64 7, .int .i64 7, .int .i64 (-1)]) (.int .i64 1)).run Tryd.prog w = .ok (.int .i64 7) w := fun _ => by kernel_rfl
  have i2 : ∀ w, (Instr.index 173 (.agg #[.int .i64 7, .int .i64 7, .int .i64 (-1)]) (.int .i64 2)).run Tryd.prog w = .ok (.int .i64 (-1)) w := fun _ => by kernel_rfl
  go_enter Tryd.func67, Tryd.ntmps67
  go_wp2_with (go_at_call 93; refine (HRW.out _).mono ?_; rintro e w2 ⟨rfl, rfl⟩)
  refine wp_loop_rounds 4 ?_
  repeat any_goals (rw [rounds_succ]; go_wp2_with (first
    | (go_at_call 27; (first | with_reducible refine (HDA.out _).mono ?_ | with_reducible refine (HDB.out _).mono ?_ | with_reducible refine (HDC.out _).mono ?_ | with_reducible refine (HDN.out _).mono ?_); rintro e w2 ⟨rfl, ho⟩; have hl := HL.out.nob ho; clear HL; obtain ⟨z0, z1, z4, r1, r2, r3, r4, a0, a1, a2, l0, l1, l2⟩ := hl.cells; have HL := hide hl; clear hl ho)))
  have he : (⟨(lineL ⟨2, a, b, c, n⟩).toArray⟩ : ByteArray) = ⟨#[109, 111, 118, 101]⟩ ++ ⟨#[32, 114]⟩ ++ ⟨(decDigits a).toArray⟩ ++ ⟨#[32, 114]⟩ ++ ⟨(decDigits b).toArray⟩ := by
    apply ByteArray.ext
    simp [lineL, insWords, kindsP, toldP, atList, nameList]
  go_ret
  exact ⟨by rw [he]; rfl, HL.out.only⟩
set_option maxRecDepth 100000 in
set_option maxHeartbeats 4000000 in
theorem line_3 (w : World) (a b c n : Nat) (ha : a < 100) (hb : b < 100) (hc : c < 100) (hn : n < 18446744073709551616) (htab : TabAt w) : Calls Tryd.prog 67 #[.agg #[.int .i64 3, .int .i64 (a : Int), .int .i64 (b : Int), .int .i64 (c : Int), .int .u64 (n : Int)]] w fun e w' => e = .returned (.string ⟨(lineL ⟨3, a, b, c, n⟩).toArray⟩) ∧ Only Nob w w' := by
  have HRW : Hid (∀ W, Calls Tryd.prog 93 #[.int .i64 3] W fun e w' => e = .returned (.tuple #[.agg #[.string ⟨#[97, 100, 100]⟩, .int .i64 7, .int .i64 7, .int .i64 7, .bool false], .bool true]) ∧ w' = W.alloc (.cells #[.string ⟨#[97, 100, 100]⟩, .int .i64 7, .int .i64 7, .int .i64 7, .bool false] 169)) := hide (fun W => rowOf_3 W)
  have htab := hide htab
  have HDA := hide (fun W => decimal_any a (by omega) W)
  have HDB := hide (fun W => decimal_any b (by omega) W)
  have HDC := hide (fun W => decimal_any c (by omega) W)
  have HDN := hide (fun W => decimal_any n (by omega) W)
  have HL := hide (LW.start w 3 a b c n 7 7 7 false ⟨#[97, 100, 100]⟩)
  have hda := dec_len a (by omega)
  have hdb := dec_len b (by omega)
  have hdc := dec_len c (by omega)
  have hdn := dec_len n (by omega)
  have i0 : ∀ w, (Instr.index 173 (.agg #[.int .i64 7, .int .i64 7, .int .i64 7]) (.int .i64 0)).run Tryd.prog w = .ok (.int .i64 7) w := fun _ => by kernel_rfl
  have i1 : ∀ w, (Instr.index 173 (.agg #[.int .i64 7, .int .i64 7, .int .i64 7]) (.int .i64 1)).run Tryd.prog w = .ok (.int .i64 7) w := fun _ => by kernel_rfl
  have i2 : ∀ w, (Instr.index 173 (.agg #[.int .i64 7, .int .i64 7, .int .i64 7]) (.int .i64 2)).run Tryd.prog w = .ok (.int .i64 7) w := fun _ => by kernel_rfl
  go_enter Tryd.func67, Tryd.ntmps67
  go_wp2_with (go_at_call 93; refine (HRW.out _).mono ?_; rintro e w2 ⟨rfl, rfl⟩)
  refine wp_loop_rounds 4 ?_
  repeat any_goals (rw [rounds_succ]; go_wp2_with (first
    | (go_at_call 27; (first | with_reducible refine (HDA.out _).mono ?_ | with_reducible refine (HDB.out _).mono ?_ | with_reducible refine (HDC.out _).mono ?_ | with_reducible refine (HDN.out _).mono ?_); rintro e w2 ⟨rfl, ho⟩; have hl := HL.out.nob ho; clear HL; obtain ⟨z0, z1, z4, r1, r2, r3, r4, a0, a1, a2, l0, l1, l2⟩ := hl.cells; have HL := hide hl; clear hl ho)))
  have he : (⟨(lineL ⟨3, a, b, c, n⟩).toArray⟩ : ByteArray) = ⟨#[97, 100, 100]⟩ ++ ⟨#[32, 114]⟩ ++ ⟨(decDigits a).toArray⟩ ++ ⟨#[32, 114]⟩ ++ ⟨(decDigits b).toArray⟩ ++ ⟨#[32, 114]⟩ ++ ⟨(decDigits c).toArray⟩ := by
    apply ByteArray.ext
    simp [lineL, insWords, kindsP, toldP, atList, nameList]
  go_ret
  exact ⟨by rw [he]; rfl, HL.out.only⟩
set_option maxRecDepth 100000 in
set_option maxHeartbeats 4000000 in
theorem line_4 (w : World) (a b c n : Nat) (ha : a < 100) (hb : b < 100) (hc : c < 100) (hn : n < 18446744073709551616) (htab : TabAt w) : Calls Tryd.prog 67 #[.agg #[.int .i64 4, .int .i64 (a : Int), .int .i64 (b : Int), .int .i64 (c : Int), .int .u64 (n : Int)]] w fun e w' => e = .returned (.string ⟨(lineL ⟨4, a, b, c, n⟩).toArray⟩) ∧ Only Nob w w' := by
  have HRW : Hid (∀ W, Calls Tryd.prog 93 #[.int .i64 4] W fun e w' => e = .returned (.tuple #[.agg #[.string ⟨#[115, 117, 98]⟩, .int .i64 7, .int .i64 7, .int .i64 7, .bool false], .bool true]) ∧ w' = W.alloc (.cells #[.string ⟨#[115, 117, 98]⟩, .int .i64 7, .int .i64 7, .int .i64 7, .bool false] 169)) := hide (fun W => rowOf_4 W)
  have htab := hide htab
  have HDA := hide (fun W => decimal_any a (by omega) W)
  have HDB := hide (fun W => decimal_any b (by omega) W)
  have HDC := hide (fun W => decimal_any c (by omega) W)
  have HDN := hide (fun W => decimal_any n (by omega) W)
  have HL := hide (LW.start w 4 a b c n 7 7 7 false ⟨#[115, 117, 98]⟩)
  have hda := dec_len a (by omega)
  have hdb := dec_len b (by omega)
  have hdc := dec_len c (by omega)
  have hdn := dec_len n (by omega)
  have i0 : ∀ w, (Instr.index 173 (.agg #[.int .i64 7, .int .i64 7, .int .i64 7]) (.int .i64 0)).run Tryd.prog w = .ok (.int .i64 7) w := fun _ => by kernel_rfl
  have i1 : ∀ w, (Instr.index 173 (.agg #[.int .i64 7, .int .i64 7, .int .i64 7]) (.int .i64 1)).run Tryd.prog w = .ok (.int .i64 7) w := fun _ => by kernel_rfl
  have i2 : ∀ w, (Instr.index 173 (.agg #[.int .i64 7, .int .i64 7, .int .i64 7]) (.int .i64 2)).run Tryd.prog w = .ok (.int .i64 7) w := fun _ => by kernel_rfl
  go_enter Tryd.func67, Tryd.ntmps67
  go_wp2_with (go_at_call 93; refine (HRW.out _).mono ?_; rintro e w2 ⟨rfl, rfl⟩)
  refine wp_loop_rounds 4 ?_
  repeat any_goals (rw [rounds_succ]; go_wp2_with (first
    | (go_at_call 27; (first | with_reducible refine (HDA.out _).mono ?_ | with_reducible refine (HDB.out _).mono ?_ | with_reducible refine (HDC.out _).mono ?_ | with_reducible refine (HDN.out _).mono ?_); rintro e w2 ⟨rfl, ho⟩; have hl := HL.out.nob ho; clear HL; obtain ⟨z0, z1, z4, r1, r2, r3, r4, a0, a1, a2, l0, l1, l2⟩ := hl.cells; have HL := hide hl; clear hl ho)))
  have he : (⟨(lineL ⟨4, a, b, c, n⟩).toArray⟩ : ByteArray) = ⟨#[115, 117, 98]⟩ ++ ⟨#[32, 114]⟩ ++ ⟨(decDigits a).toArray⟩ ++ ⟨#[32, 114]⟩ ++ ⟨(decDigits b).toArray⟩ ++ ⟨#[32, 114]⟩ ++ ⟨(decDigits c).toArray⟩ := by
    apply ByteArray.ext
    simp [lineL, insWords, kindsP, toldP, atList, nameList]
  go_ret
  exact ⟨by rw [he]; rfl, HL.out.only⟩
set_option maxRecDepth 100000 in
set_option maxHeartbeats 4000000 in
theorem line_5 (w : World) (a b c n : Nat) (ha : a < 100) (hb : b < 100) (hc : c < 100) (hn : n < 18446744073709551616) (htab : TabAt w) : Calls Tryd.prog 67 #[.agg #[.int .i64 5, .int .i64 (a : Int), .int .i64 (b : Int), .int .i64 (c : Int), .int .u64 (n : Int)]] w fun e w' => e = .returned (.string ⟨(lineL ⟨5, a, b, c, n⟩).toArray⟩) ∧ Only Nob w w' := by
  have HRW : Hid (∀ W, Calls Tryd.prog 93 #[.int .i64 5] W fun e w' => e = .returned (.tuple #[.agg #[.string ⟨#[109, 117, 108]⟩, .int .i64 7, .int .i64 7, .int .i64 7, .bool false], .bool true]) ∧ w' = W.alloc (.cells #[.string ⟨#[109, 117, 108]⟩, .int .i64 7, .int .i64 7, .int .i64 7, .bool false] 169)) := hide (fun W => rowOf_5 W)
  have htab := hide htab
  have HDA := hide (fun W => decimal_any a (by omega) W)
  have HDB := hide (fun W => decimal_any b (by omega) W)
  have HDC := hide (fun W => decimal_any c (by omega) W)
  have HDN := hide (fun W => decimal_any n (by omega) W)
  have HL := hide (LW.start w 5 a b c n 7 7 7 false ⟨#[109, 117, 108]⟩)
  have hda := dec_len a (by omega)
  have hdb := dec_len b (by omega)
  have hdc := dec_len c (by omega)
  have hdn := dec_len n (by omega)
  have i0 : ∀ w, (Instr.index 173 (.agg #[.int .i64 7, .int .i64 7, .int .i64 7]) (.int .i64 0)).run Tryd.prog w = .ok (.int .i64 7) w := fun _ => by kernel_rfl
  have i1 : ∀ w, (Instr.index 173 (.agg #[.int .i64 7, .int .i64 7, .int .i64 7]) (.int .i64 1)).run Tryd.prog w = .ok (.int .i64 7) w := fun _ => by kernel_rfl
  have i2 : ∀ w, (Instr.index 173 (.agg #[.int .i64 7, .int .i64 7, .int .i64 7]) (.int .i64 2)).run Tryd.prog w = .ok (.int .i64 7) w := fun _ => by kernel_rfl
  go_enter Tryd.func67, Tryd.ntmps67
  go_wp2_with (go_at_call 93; refine (HRW.out _).mono ?_; rintro e w2 ⟨rfl, rfl⟩)
  refine wp_loop_rounds 4 ?_
  repeat any_goals (rw [rounds_succ]; go_wp2_with (first
    | (go_at_call 27; (first | with_reducible refine (HDA.out _).mono ?_ | with_reducible refine (HDB.out _).mono ?_ | with_reducible refine (HDC.out _).mono ?_ | with_reducible refine (HDN.out _).mono ?_); rintro e w2 ⟨rfl, ho⟩; have hl := HL.out.nob ho; clear HL; obtain ⟨z0, z1, z4, r1, r2, r3, r4, a0, a1, a2, l0, l1, l2⟩ := hl.cells; have HL := hide hl; clear hl ho)))
  have he : (⟨(lineL ⟨5, a, b, c, n⟩).toArray⟩ : ByteArray) = ⟨#[109, 117, 108]⟩ ++ ⟨#[32, 114]⟩ ++ ⟨(decDigits a).toArray⟩ ++ ⟨#[32, 114]⟩ ++ ⟨(decDigits b).toArray⟩ ++ ⟨#[32, 114]⟩ ++ ⟨(decDigits c).toArray⟩ := by
    apply ByteArray.ext
    simp [lineL, insWords, kindsP, toldP, atList, nameList]
  go_ret
  exact ⟨by rw [he]; rfl, HL.out.only⟩
set_option maxRecDepth 100000 in
set_option maxHeartbeats 4000000 in
theorem line_6 (w : World) (a b c n : Nat) (ha : a < 100) (hb : b < 100) (hc : c < 100) (hn : n < 18446744073709551616) (htab : TabAt w) : Calls Tryd.prog 67 #[.agg #[.int .i64 6, .int .i64 (a : Int), .int .i64 (b : Int), .int .i64 (c : Int), .int .u64 (n : Int)]] w fun e w' => e = .returned (.string ⟨(lineL ⟨6, a, b, c, n⟩).toArray⟩) ∧ Only Nob w w' := by
  have HRW : Hid (∀ W, Calls Tryd.prog 93 #[.int .i64 6] W fun e w' => e = .returned (.tuple #[.agg #[.string ⟨#[108, 101, 115, 115]⟩, .int .i64 7, .int .i64 7, .int .i64 7, .bool false], .bool true]) ∧ w' = W.alloc (.cells #[.string ⟨#[108, 101, 115, 115]⟩, .int .i64 7, .int .i64 7, .int .i64 7, .bool false] 169)) := hide (fun W => rowOf_6 W)
  have htab := hide htab
  have HDA := hide (fun W => decimal_any a (by omega) W)
  have HDB := hide (fun W => decimal_any b (by omega) W)
  have HDC := hide (fun W => decimal_any c (by omega) W)
  have HDN := hide (fun W => decimal_any n (by omega) W)
  have HL := hide (LW.start w 6 a b c n 7 7 7 false ⟨#[108, 101, 115, 115]⟩)
  have hda := dec_len a (by omega)
  have hdb := dec_len b (by omega)
  have hdc := dec_len c (by omega)
  have hdn := dec_len n (by omega)
  have i0 : ∀ w, (Instr.index 173 (.agg #[.int .i64 7, .int .i64 7, .int .i64 7]) (.int .i64 0)).run Tryd.prog w = .ok (.int .i64 7) w := fun _ => by kernel_rfl
  have i1 : ∀ w, (Instr.index 173 (.agg #[.int .i64 7, .int .i64 7, .int .i64 7]) (.int .i64 1)).run Tryd.prog w = .ok (.int .i64 7) w := fun _ => by kernel_rfl
  have i2 : ∀ w, (Instr.index 173 (.agg #[.int .i64 7, .int .i64 7, .int .i64 7]) (.int .i64 2)).run Tryd.prog w = .ok (.int .i64 7) w := fun _ => by kernel_rfl
  go_enter Tryd.func67, Tryd.ntmps67
  go_wp2_with (go_at_call 93; refine (HRW.out _).mono ?_; rintro e w2 ⟨rfl, rfl⟩)
  refine wp_loop_rounds 4 ?_
  repeat any_goals (rw [rounds_succ]; go_wp2_with (first
    | (go_at_call 27; (first | with_reducible refine (HDA.out _).mono ?_ | with_reducible refine (HDB.out _).mono ?_ | with_reducible refine (HDC.out _).mono ?_ | with_reducible refine (HDN.out _).mono ?_); rintro e w2 ⟨rfl, ho⟩; have hl := HL.out.nob ho; clear HL; obtain ⟨z0, z1, z4, r1, r2, r3, r4, a0, a1, a2, l0, l1, l2⟩ := hl.cells; have HL := hide hl; clear hl ho)))
  have he : (⟨(lineL ⟨6, a, b, c, n⟩).toArray⟩ : ByteArray) = ⟨#[108, 101, 115, 115]⟩ ++ ⟨#[32, 114]⟩ ++ ⟨(decDigits a).toArray⟩ ++ ⟨#[32, 114]⟩ ++ ⟨(decDigits b).toArray⟩ ++ ⟨#[32, 114]⟩ ++ ⟨(decDigits c).toArray⟩ := by
    apply ByteArray.ext
    simp [lineL, insWords, kindsP, toldP, atList, nameList]
  go_ret
  exact ⟨by rw [he]; rfl, HL.out.only⟩
set_option maxRecDepth 100000 in
set_option maxHeartbeats 4000000 in
theorem line_7 (w : World) (a b c n : Nat) (ha : a < 100) (hb : b < 100) (hc : c < 100) (hn : n < 18446744073709551616) (htab : TabAt w) : Calls Tryd.prog 67 #[.agg #[.int .i64 7, .int .i64 (a : Int), .int .i64 (b : Int), .int .i64 (c : Int), .int .u64 (n : Int)]] w fun e w' => e = .returned (.string ⟨(lineL ⟨7, a, b, c, n⟩).toArray⟩) ∧ Only Nob w w' := by
  have HRW : Hid (∀ W, Calls Tryd.prog 93 #[.int .i64 7] W fun e w' => e = .returned (.tuple #[.agg #[.string ⟨#[101, 113, 117, 97, 108]⟩, .int .i64 7, .int .i64 7, .int .i64 7, .bool false], .bool true]) ∧ w' = W.alloc (.cells #[.string ⟨#[101, 113, 117, 97, 108]⟩, .int .i64 7, .int .i64 7, .int .i64 7, .bool false] 169)) := hide (fun W => rowOf_7 W)
  have htab := hide htab
  have HDA := hide (fun W => decimal_any a (by omega) W)
  have HDB := hide (fun W => decimal_any b (by omega) W)
  have HDC := hide (fun W => decimal_any c (by omega) W)
  have HDN := hide (fun W => decimal_any n (by omega) W)
  have HL := hide (LW.start w 7 a b c n 7 7 7 false ⟨#[101, 113, 117, 97, 108]⟩)
  have hda := dec_len a (by omega)
  have hdb := dec_len b (by omega)
  have hdc := dec_len c (by omega)
  have hdn := dec_len n (by omega)
  have i0 : ∀ w, (Instr.index 173 (.agg #[.int .i64 7, .int .i64 7, .int .i64 7]) (.int .i64 0)).run Tryd.prog w = .ok (.int .i64 7) w := fun _ => by kernel_rfl
  have i1 : ∀ w, (Instr.index 173 (.agg #[.int .i64 7, .int .i64 7, .int .i64 7]) (.int .i64 1)).run Tryd.prog w = .ok (.int .i64 7) w := fun _ => by kernel_rfl
  have i2 : ∀ w, (Instr.index 173 (.agg #[.int .i64 7, .int .i64 7, .int .i64 7]) (.int .i64 2)).run Tryd.prog w = .ok (.int .i64 7) w := fun _ => by kernel_rfl
  go_enter Tryd.func67, Tryd.ntmps67
  go_wp2_with (go_at_call 93; refine (HRW.out _).mono ?_; rintro e w2 ⟨rfl, rfl⟩)
  refine wp_loop_rounds 4 ?_
  repeat any_goals (rw [rounds_succ]; go_wp2_with (first
    | (go_at_call 27; (first | with_reducible refine (HDA.out _).mono ?_ | with_reducible refine (HDB.out _).mono ?_ | with_reducible refine (HDC.out _).mono ?_ | with_reducible refine (HDN.out _).mono ?_); rintro e w2 ⟨rfl, ho⟩; have hl := HL.out.nob ho; clear HL; obtain ⟨z0, z1, z4, r1, r2, r3, r4, a0, a1, a2, l0, l1, l2⟩ := hl.cells; have HL := hide hl; clear hl ho)))
  have he : (⟨(lineL ⟨7, a, b, c, n⟩).toArray⟩ : ByteArray) = ⟨#[101, 113, 117, 97, 108]⟩ ++ ⟨#[32, 114]⟩ ++ ⟨(decDigits a).toArray⟩ ++ ⟨#[32, 114]⟩ ++ ⟨(decDigits b).toArray⟩ ++ ⟨#[32, 114]⟩ ++ ⟨(decDigits c).toArray⟩ := by
    apply ByteArray.ext
    simp [lineL, insWords, kindsP, toldP, atList, nameList]
  go_ret
  exact ⟨by rw [he]; rfl, HL.out.only⟩
end Go.Proofs.YtngahgfppbjebaaDoor
