/-
  The contract of a field of an instruction: those that are no jumps.
-/
import Derived.Test.YtngahgfppbjebaaDoorGrpTxReg
import Derived.Test.YtngahgfppbjebaaDoorRows0
namespace Go.Proofs.YtngahgfppbjebaaDoor
open Go.RowKit
set_option linter.unusedVariables false
set_option linter.unusedSimpArgs false

def InsBlk (w : World) (g : Nat) (x : PIns) : Prop := Blk w g 60 #[.int .i64 x.op, .int .i64 x.a, .int .i64 x.b, .int .i64 x.c, .int .u64 x.n]
def FieldPost (w : World) (g : Nat) (o : Option PIns) (e : Ending) (w' : World) : Prop := Only (Ob g) w w' ∧ match o with
  | some x => e = .returned (.bool true) ∧ InsBlk w' g x
  | none => e = .returned (.bool false)
theorem field_only {w w1 w2 : World} {g : Nat} (h : Only Nob w w1) (h2 : Only Nob w1 w2) (j : Nat) (u : Value) : Only (Ob g) w (w2.setCell ⟨g, j, none⟩ u) :=
  Only.setCell (S := Ob g) (p := ⟨g, j, none⟩) ((h.trans h2).mono (fun _ _ h => h.elim)) (.inl rfl) u
set_option maxRecDepth 100000 in
theorem field_97 (w : World) (gp gx : Nat) (x : PIns) (s : ByteArray) (hs : s.size ≤ 1000000000) (col : Int) (bad : Bool) (hx : InsBlk w gx x) :
    Calls Tryd.prog 82 #[.pointer (some ⟨gp, 0, none⟩), .pointer (some ⟨gx, 0, none⟩), .int .i32 97, .agg #[.string s, .int .i64 col, .bool bad]] w (FieldPost w gx ((regP s.data.toList 7).map fun n => { x with a := (n : Int) })) := by
  have HC := hide (fun w1 => register_any s hs 7 (by decide) w1)
  have HX := hide hx
  have hg := hx.lt
  skip
  clear hx
  generalize regP s.data.toList 7 = o at *
  rcases o with _ | n
  · go_enter Tryd.func82, Tryd.ntmps82
    go_wp2_with (go_at_call 106; refine (HC.out _).mono ?_; rintro e w2 ⟨ho, rfl⟩; have hk := (Blk.alloc HX.out (.cells #[.string s, .int .i64 col, .bool bad] 142)).only ho (fun h => h); have c1 := hk.cell 1; simp at c1; have f1 := hk.frozen 1; have HK := hide hk; have HO := hide ho; clear ho hk)
    go_ret
    exact ⟨field_only ((Only.refl _ w).alloc _) HO.out _ _, rfl⟩
  · go_enter Tryd.func82, Tryd.ntmps82
    go_wp2_with (go_at_call 106; refine (HC.out _).mono ?_; rintro e w2 ⟨ho, rfl⟩; have hk := (Blk.alloc HX.out (.cells #[.string s, .int .i64 col, .bool bad] 142)).only ho (fun h => h); have c1 := hk.cell 1; simp at c1; have f1 := hk.frozen 1; have HK := hide hk; have HO := hide ho; clear ho hk)
    go_ret
    refine ⟨field_only ((Only.refl _ w).alloc _) HO.out _ _, rfl, ?_⟩
    have h9 := HK.out.set_ 1 (.int .i64 (n : Int))
    simpa [InsBlk] using h9
set_option maxRecDepth 100000 in
theorem field_98 (w : World) (gp gx : Nat) (x : PIns) (s : ByteArray) (hs : s.size ≤ 1000000000) (col : Int) (bad : Bool) (hx : InsBlk w gx x) :
    Calls Tryd.prog 82 #[.pointer (some ⟨gp, 0, none⟩), .pointer (some ⟨gx, 0, none⟩), .int .i32 98, .agg #[.string s, .int .i64 col, .bool bad]] w (FieldPost w gx ((regP s.data.toList 7).map fun n => { x with b := (n : Int) })) := by
  have HC := hide (fun w1 => register_any s hs 7 (by decide) w1)
  have HX := hide hx
  have hg := hx.lt
  skip
  clear hx
  generalize regP s.data.toList 7 = o at *
  rcases o with _ | n
  · go_enter Tryd.func82, Tryd.ntmps82
    go_wp2_with (go_at_call 106; refine (HC.out _).mono ?_; rintro e w2 ⟨ho, rfl⟩; have hk := (Blk.alloc HX.out (.cells #[.string s, .int .i64 col, .bool bad] 142)).only ho (fun h => h); have c1 := hk.cell 2; simp at c1; have f1 := hk.frozen 2; have HK := hide hk; have HO := hide ho; clear ho hk)
    go_ret
    exact ⟨field_only ((Only.refl _ w).alloc _) HO.out _ _, rfl⟩
  · go_enter Tryd.func82, Tryd.ntmps82
    go_wp2_with (go_at_call 106; refine (HC.out _).mono ?_; rintro e w2 ⟨ho, rfl⟩; have hk := (Blk.alloc HX.out (.cells #[.string s, .int .i64 col, .bool bad] 142)).only ho (fun h => h); have c1 := hk.cell 2; simp at c1; have f1 := hk.frozen 2; have HK := hide hk; have HO := hide ho; clear ho hk)
    go_ret
    refine ⟨field_only ((Only.refl _ w).alloc _) HO.out _ _, rfl, ?_⟩
    have h9 := HK.out.set_ 2 (.int .i64 (n : Int))
    simpa [InsBlk] using h9
set_option maxRecDepth 100000 in
theorem field_99 (w : World) (gp gx : Nat) (x : PIns) (s : ByteArray) (hs : s.size ≤ 1000000000) (col : Int) (bad : Bool) (hx : InsBlk w gx x) :
    Calls Tryd.prog 82 #[.pointer (some ⟨gp, 0, none⟩), .pointer (some ⟨gx, 0, none⟩), .int .i32 99, .agg #[.string s, .int .i64 col, .bool bad]] w (FieldPost w gx ((regP s.data.toList 7).map fun n => { x with c := (n : Int) })) := by
  have HC := hide (fun w1 => register_any s hs 7 (by decide) w1)
  have HX := hide hx
  have hg := hx.lt
  skip
  clear hx
  generalize regP s.data.toList 7 = o at *
  rcases o with _ | n
  · go_enter Tryd.func82, Tryd.ntmps82
    go_wp2_with (go_at_call 106; refine (HC.out _).mono ?_; rintro e w2 ⟨ho, rfl⟩; have hk := (Blk.alloc HX.out (.cells #[.string s, .int .i64 col, .bool bad] 142)).only ho (fun h => h); have c1 := hk.cell 3; simp at c1; have f1 := hk.frozen 3; have HK := hide hk; have HO := hide ho; clear ho hk)
    go_ret
    exact ⟨field_only ((Only.refl _ w).alloc _) HO.out _ _, rfl⟩
  · go_enter Tryd.func82, Tryd.ntmps82
    go_wp2_with (go_at_call 106; refine (HC.out _).mono ?_; rintro e w2 ⟨ho, rfl⟩; have hk := (Blk.alloc HX.out (.cells #[.string s, .int .i64 col, .bool bad] 142)).only ho (fun h => h); have c1 := hk.cell 3; simp at c1; have f1 := hk.frozen 3; have HK := hide hk; have HO := hide ho; clear ho hk)
    go_ret
    refine ⟨field_only ((Only.refl _ w).alloc _) HO.out _ _, rfl, ?_⟩
    have h9 := HK.out.set_ 3 (.int .i64 (n : Int))
    simpa [InsBlk] using h9
set_option maxRecDepth 100000 in
theorem field_112 (w : World) (gp gx : Nat) (x : PIns) (s : ByteArray) (hs : s.size ≤ 1000000000) (col : Int) (bad : Bool) (hx : InsBlk w gx x) :
    Calls Tryd.prog 82 #[.pointer (some ⟨gp, 0, none⟩), .pointer (some ⟨gx, 0, none⟩), .int .i32 112, .agg #[.string s, .int .i64 col, .bool bad]] w (FieldPost w gx ((regP s.data.toList 6).map fun n => { x with c := (n : Int) })) := by
  have HC := hide (fun w1 => register_any s hs 6 (by decide) w1)
  have HX := hide hx
  have hg := hx.lt
  skip
  clear hx
  generalize regP s.data.toList 6 = o at *
  rcases o with _ | n
  · go_enter Tryd.func82, Tryd.ntmps82
    go_wp2_with (go_at_call 106; refine (HC.out _).mono ?_; rintro e w2 ⟨ho, rfl⟩; have hk := (Blk.alloc HX.out (.cells #[.string s, .int .i64 col, .bool bad] 142)).only ho (fun h => h); have c1 := hk.cell 3; simp at c1; have f1 := hk.frozen 3; have HK := hide hk; have HO := hide ho; clear ho hk)
    go_ret
    exact ⟨field_only ((Only.refl _ w).alloc _) HO.out _ _, rfl⟩
  · go_enter Tryd.func82, Tryd.ntmps82
    go_wp2_with (go_at_call 106; refine (HC.out _).mono ?_; rintro e w2 ⟨ho, rfl⟩; have hk := (Blk.alloc HX.out (.cells #[.string s, .int .i64 col, .bool bad] 142)).only ho (fun h => h); have c1 := hk.cell 3; simp at c1; have f1 := hk.frozen 3; have HK := hide hk; have HO := hide ho; clear ho hk)
    go_ret
    refine ⟨field_only ((Only.refl _ w).alloc _) HO.out _ _, rfl, ?_⟩
    have h9 := HK.out.set_ 3 (.int .i64 (n : Int))
    simpa [InsBlk] using h9
set_option maxRecDepth 100000 in
theorem field_111 (w : World) (gp gx : Nat) (x : PIns) (s : ByteArray) (hs : s.size ≤ 1000000000) (col : Int) (bad : Bool) (hx : InsBlk w gx x) :
    Calls Tryd.prog 82 #[.pointer (some ⟨gp, 0, none⟩), .pointer (some ⟨gx, 0, none⟩), .int .i32 111, .agg #[.string s, .int .i64 col, .bool bad]] w (FieldPost w gx ((decMost 15 s.data.toList).map fun n => { x with c := (n : Int) })) := by
  have HC := hide (fun w1 => small_any s hs 15 (by decide) w1)
  have HX := hide hx
  have hg := hx.lt
  skip
  clear hx
  generalize decMost 15 s.data.toList = o at *
  rcases o with _ | n
  · go_enter Tryd.func82, Tryd.ntmps82
    go_wp2_with (go_at_call 107; refine (HC.out _).mono ?_; rintro e w2 ⟨ho, rfl⟩; have hk := (Blk.alloc HX.out (.cells #[.string s, .int .i64 col, .bool bad] 142)).only ho (fun h => h); have c1 := hk.cell 3; simp at c1; have f1 := hk.frozen 3; have HK := hide hk; have HO := hide ho; clear ho hk)
    go_ret
    exact ⟨field_only ((Only.refl _ w).alloc _) HO.out _ _, rfl⟩
  · go_enter Tryd.func82, Tryd.ntmps82
    go_wp2_with (go_at_call 107; refine (HC.out _).mono ?_; rintro e w2 ⟨ho, rfl⟩; have hk := (Blk.alloc HX.out (.cells #[.string s, .int .i64 col, .bool bad] 142)).only ho (fun h => h); have c1 := hk.cell 3; simp at c1; have f1 := hk.frozen 3; have HK := hide hk; have HO := hide ho; clear ho hk)
    go_ret
    refine ⟨field_only ((Only.refl _ w).alloc _) HO.out _ _, rfl, ?_⟩
    have h9 := HK.out.set_ 3 (.int .i64 (n : Int))
    simpa [InsBlk] using h9
set_option maxRecDepth 100000 in
theorem field_116 (w : World) (gp gx : Nat) (x : PIns) (s : ByteArray) (hs : s.size ≤ 1000000000) (col : Int) (bad : Bool) (hx : InsBlk w gx x) :
    Calls Tryd.prog 82 #[.pointer (some ⟨gp, 0, none⟩), .pointer (some ⟨gx, 0, none⟩), .int .i32 116, .agg #[.string s, .int .i64 col, .bool bad]] w (FieldPost w gx ((decMost 7 s.data.toList).map fun n => { x with b := (n : Int) })) := by
  have HC := hide (fun w1 => small_any s hs 7 (by decide) w1)
  have HX := hide hx
  have hg := hx.lt
  skip
  clear hx
  generalize decMost 7 s.data.toList = o at *
  rcases o with _ | n
  · go_enter Tryd.func82, Tryd.ntmps82
    go_wp2_with (go_at_call 107; refine (HC.out _).mono ?_; rintro e w2 ⟨ho, rfl⟩; have hk := (Blk.alloc HX.out (.cells #[.string s, .int .i64 col, .bool bad] 142)).only ho (fun h => h); have c1 := hk.cell 2; simp at c1; have f1 := hk.frozen 2; have HK := hide hk; have HO := hide ho; clear ho hk)
    go_ret
    exact ⟨field_only ((Only.refl _ w).alloc _) HO.out _ _, rfl⟩
  · go_enter Tryd.func82, Tryd.ntmps82
    go_wp2_with (go_at_call 107; refine (HC.out _).mono ?_; rintro e w2 ⟨ho, rfl⟩; have hk := (Blk.alloc HX.out (.cells #[.string s, .int .i64 col, .bool bad] 142)).only ho (fun h => h); have c1 := hk.cell 2; simp at c1; have f1 := hk.frozen 2; have HK := hide hk; have HO := hide ho; clear ho hk)
    go_ret
    refine ⟨field_only ((Only.refl _ w).alloc _) HO.out _ _, rfl, ?_⟩
    have h9 := HK.out.set_ 2 (.int .i64 (n : Int))
    simpa [InsBlk] using h9
set_option maxRecDepth 100000 in
theorem field_110 (w : World) (gp gx : Nat) (x : PIns) (s : ByteArray) (hs : s.size ≤ 1000000000) (col : Int) (bad : Bool) (hx : InsBlk w gx x) :
    Calls Tryd.prog 82 #[.pointer (some ⟨gp, 0, none⟩), .pointer (some ⟨gx, 0, none⟩), .int .i32 110, .agg #[.string s, .int .i64 col, .bool bad]] w (FieldPost w gx ((decMost 18446744073709551615 s.data.toList).map fun n => { x with n := (n : Int) })) := by
  have HC := hide (fun w1 => tdecimal_any s hs w1)
  have HX := hide hx
  have hg := hx.lt
  unfold NumPost at HC
  clear hx
  generalize decMost 18446744073709551615 s.data.toList = o at *
  rcases o with _ | n
  all_goals simp only [decN, isNum] at HC
  · go_enter Tryd.func82, Tryd.ntmps82
    go_wp2_with (go_at_call 108; refine (HC.out _).mono ?_; rintro e w2 ⟨rfl, ho⟩; have hk := (Blk.alloc HX.out (.cells #[.string s, .int .i64 col, .bool bad] 142)).only ho (fun h => h); have c1 := hk.cell 4; simp at c1; have f1 := hk.frozen 4; have HK := hide hk; have HO := hide ho; clear ho hk)
    go_ret
    exact ⟨field_only ((Only.refl _ w).alloc _) HO.out _ _, rfl⟩
  · go_enter Tryd.func82, Tryd.ntmps82
    go_wp2_with (go_at_call 108; refine (HC.out _).mono ?_; rintro e w2 ⟨rfl, ho⟩; have hk := (Blk.alloc HX.out (.cells #[.string s, .int .i64 col, .bool bad] 142)).only ho (fun h => h); have c1 := hk.cell 4; simp at c1; have f1 := hk.frozen 4; have HK := hide hk; have HO := hide ho; clear ho hk)
    go_ret
    refine ⟨field_only ((Only.refl _ w).alloc _) HO.out _ _, rfl, ?_⟩
    have h9 := HK.out.set_ 4 (.int .u64 (n : Int))
    simpa [InsBlk] using h9
set_option maxRecDepth 100000 in
theorem field_119 (w : World) (gp gx : Nat) (x : PIns) (s : ByteArray) (hs : s.size ≤ 1000000000) (col : Int) (bad : Bool) (hx : InsBlk w gx x) :
    Calls Tryd.prog 82 #[.pointer (some ⟨gp, 0, none⟩), .pointer (some ⟨gx, 0, none⟩), .int .i32 119, .agg #[.string s, .int .i64 col, .bool bad]] w (FieldPost w gx (if isOf callList s then some { x with a := numOf callList s } else none)) := by
  have HC := hide (fun w1 => which_any s w1)
  have HX := hide hx
  have hg := hx.lt
  clear hx
  generalize numOf callList s = n at *
  generalize isOf callList s = bb at *
  cases bb
  · go_enter Tryd.func82, Tryd.ntmps82
    go_wp2_with (go_at_call 109; refine (HC.out _).mono ?_; rintro e w2 ⟨rfl, hw2⟩; have ho : Only Nob (w.alloc (.cells #[.string s, .int .i64 col, .bool bad] 142)) w2 := (by rw [hw2]; exact (Only.refl _ _).alloc _); clear hw2; have hk := (Blk.alloc HX.out (.cells #[.string s, .int .i64 col, .bool bad] 142)).only ho (fun h => h); have c1 := hk.cell 1; simp at c1; have f1 := hk.frozen 1; have HK := hide hk; have HO := hide ho; clear ho hk)
    go_ret
    exact ⟨field_only ((Only.refl _ w).alloc _) HO.out _ _, rfl⟩
  · go_enter Tryd.func82, Tryd.ntmps82
    go_wp2_with (go_at_call 109; refine (HC.out _).mono ?_; rintro e w2 ⟨rfl, hw2⟩; have ho : Only Nob (w.alloc (.cells #[.string s, .int .i64 col, .bool bad] 142)) w2 := (by rw [hw2]; exact (Only.refl _ _).alloc _); clear hw2; have hk := (Blk.alloc HX.out (.cells #[.string s, .int .i64 col, .bool bad] 142)).only ho (fun h => h); have c1 := hk.cell 1; simp at c1; have f1 := hk.frozen 1; have HK := hide hk; have HO := hide ho; clear ho hk)
    go_ret
    refine ⟨field_only ((Only.refl _ w).alloc _) HO.out _ _, rfl, ?_⟩
    have h9 := HK.out.set_ 1 (.int .i64 n)
    simpa [InsBlk] using h9
end Go.Proofs.YtngahgfppbjebaaDoor
