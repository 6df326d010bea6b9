/-
  The law CodeFields, walked.
-/
import Derived.Test.YtpdjhkidalafpaaCodeRuns
import Derived.Test.YtpdjhkidalafpaaOpenIns
namespace Go.Proofs.Ytpdjhkidalafpaa
open Go.RowKit

theorem may_split {op a b c N : Int} (h : mayB op a b c N = true) : fitsB (fAl op) (fAh op) a = true ∧ opB op = true ∧ (N = 0 ∨ op = 1) := by
  simp only [mayB, Bool.and_eq_true, Bool.or_eq_true, decide_eq_true_eq] at h
  exact ⟨h.1.1.1.2, h.1.1.1.1, h.2⟩
theorem fAh_le (op : Int) : fAh op ≤ 12 := by unfold fAh; split <;> (try split) <;> omega
theorem fAl_ge (op : Int) : 0 ≤ fAl op := by unfold fAl; split <;> omega
theorem fBh_le (op : Int) : fBh op ≤ 7 := by unfold fBh; split <;> omega
theorem fCh_le (op : Int) : fCh op ≤ 40 := by unfold fCh; repeat' split
                                              all_goals omega
theorem may_a_big (op : Int) {a : Int} (b c N : Int) (h : 13 ≤ a) : mayB op a b c N = false := by
  have := fAh_le op
  have e : fitsB (fAl op) (fAh op) a = false := by simp [fitsB]; omega
  simp [mayB, e]
theorem may_a_low (op : Int) {a : Int} (b c N : Int) (h : a < 0) : mayB op a b c N = false := by
  have := fAl_ge op
  have e : fitsB (fAl op) (fAh op) a = false := by simp [fitsB]; omega
  simp [mayB, e]
theorem may_b_big (op a : Int) {b : Int} (c N : Int) (h : 8 ≤ b) : mayB op a b c N = false := by
  have := fBh_le op
  have e : fitsB 0 (fBh op) b = false := by simp [fitsB]; omega
  simp [mayB, e]
theorem may_c_big (op a b : Int) {c : Int} (N : Int) (h : 41 ≤ c) : mayB op a b c N = false := by
  have := fCh_le op
  have e : fitsB 0 (fCh op) c = false := by simp [fitsB]; omega
  simp [mayB, e]

set_option maxHeartbeats 2000000 in
theorem fields_no (op a b c N x y : Int) (w : World) (hy : 0 ≤ y ∧ y < 256) (h : mayB op a b c N = false) :
    Calls Try.prog 6 #[.agg #[.int .i64 op, .int .i64 a, .int .i64 b, .int .i64 c, .int .u64 N], .int .u8 x, .int .u8 y] w fun e w' => e = .returned (.bool true) ∧ Below w.heap.size w w' := by
  have tok1 : True := trivial
  have tok2 : True := trivial
  obtain ⟨y0, y1⟩ := hy
  have g1 : mayB 0 0 0 0 0 = false := by decide
  have g2 : mayB 20 0 0 0 0 = true := by decide
  go_enter Try.func6, Try.ntmps6
  go_wp2_with (first
    | (go_at_call 3; refine (code_runs _).mono ?_; rintro e w1 ⟨rfl, hbel⟩; obtain ⟨c1, z1⟩ := (Only.of_new (S := Nob) hbel).rules0; have s1 : w.heap.size < w1.heap.size := Nat.lt_of_lt_of_le (by simp) hbel.size; have k1 := (Blk.new w 28 #[.int .i64 op, .int .i64 a, .int .i64 b, .int .i64 c, .int .u64 N]).only (Only.of_new (S := Nob) hbel) (fun h => h))
    | (go_at_call 15; have _t := tok1; refine (may_any _ _ _ _ _ _).mono ?_; rintro e wA ⟨rfl, hoA⟩; clear tok1; obtain ⟨cA, zA⟩ := hoA.rules0; have sA : w.heap.size < wA.heap.size := Nat.lt_of_lt_of_le (by simp [s1]) hoA.size; have kA := k1.only hoA (fun h => h))
    | (go_at_call 15; have _t := tok2; refine (may_any _ _ _ _ _ _).mono ?_; rintro e wB ⟨rfl, hoB⟩; clear tok2; obtain ⟨cB, zB⟩ := hoB.rules0; have sB : w.heap.size < wB.heap.size := Nat.lt_of_lt_of_le (by first | (simp [sA]; done) | (simp; omega)) hoB.size)
    | (go_at_call 15; refine (may_any _ _ _ _ _ _).mono ?_; rintro e wC ⟨rfl, hoC⟩; obtain ⟨cC, zC⟩ := hoC.rules0; have sC : w.heap.size < wC.heap.size := Nat.lt_of_lt_of_le (by first | (simp [sB]; done) | (simp; omega)) hoC.size))
  go_ret
  refine ⟨rfl, Only.new ?_⟩
  repeat' (first | (with_reducible exact Only.refl _ _) | (with_reducible refine Only.trans ?_ hoC) | (with_reducible refine Only.trans ?_ hoB) | (with_reducible refine Only.trans ?_ hoA) | (with_reducible refine Only.trans ?_ (Only.of_new hbel)) | (with_reducible refine Only.alloc ?_ _) | (with_reducible refine Only.drewN ?_ _) | (with_reducible refine Only.drew ?_))

set_option maxHeartbeats 2000000 in
theorem fields_0N (op a b c N x y : Int) (w : World) (hy : 0 ≤ y ∧ y < 256) (h : mayB op a b c N = true) (hx : x.tmod 3 = 0) (hn : (N == 0) = true) :
    Calls Try.prog 6 #[.agg #[.int .i64 op, .int .i64 a, .int .i64 b, .int .i64 c, .int .u64 N], .int .u8 x, .int .u8 y] w fun e w' => e = .returned (.bool true) ∧ Below w.heap.size w w' := by
  have tok1 : True := trivial
  have tok2 : True := trivial
  obtain ⟨y0, y1⟩ := hy
  have g2 : mayB op (13 + y) b c N = false := may_a_big op b c N (by omega)
  have g3 : mayB op (-1 - y) b c N = false := may_a_low op b c N (by omega)
  go_enter Try.func6, Try.ntmps6
  go_wp2_with (first
    | (go_at_call 3; refine (code_runs _).mono ?_; rintro e w1 ⟨rfl, hbel⟩; obtain ⟨c1, z1⟩ := (Only.of_new (S := Nob) hbel).rules0; have s1 : w.heap.size < w1.heap.size := Nat.lt_of_lt_of_le (by simp) hbel.size; have k1 := (Blk.new w 28 #[.int .i64 op, .int .i64 a, .int .i64 b, .int .i64 c, .int .u64 N]).only (Only.of_new (S := Nob) hbel) (fun h => h))
    | (go_at_call 15; have _t := tok1; refine (may_any _ _ _ _ _ _).mono ?_; rintro e wA ⟨rfl, hoA⟩; clear tok1; obtain ⟨cA, zA⟩ := hoA.rules0; have sA : w.heap.size < wA.heap.size := Nat.lt_of_lt_of_le (by simp [s1]) hoA.size; have kA := k1.only hoA (fun h => h))
    | (go_at_call 15; have _t := tok2; refine (may_any _ _ _ _ _ _).mono ?_; rintro e wB ⟨rfl, hoB⟩; clear tok2; obtain ⟨cB, zB⟩ := hoB.rules0; have sB : w.heap.size < wB.heap.size := Nat.lt_of_lt_of_le (by first | (simp [sA]; done) | (simp; omega)) hoB.size; have sB2 : wA.heap.size + 1 < wB.heap.size := Nat.lt_of_lt_of_le (by simp) hoB.size; have kB := ((kA.alloc _).alloc _).only hoB (fun h => h))
    | (go_at_call 15; refine (may_any _ _ _ _ _ _).mono ?_; rintro e wC ⟨rfl, hoC⟩; obtain ⟨cC, zC⟩ := hoC.rules0; have sC : w.heap.size < wC.heap.size := Nat.lt_of_lt_of_le (by first | (simp [sB]; done) | (simp; omega)) hoC.size; have kC := kB.only hoC (fun h => h); have kCc := kC.cell; have kCf := kC.frozen; clear cC zC cB zB))
  go_ret
  refine ⟨rfl, Only.new ?_⟩
  repeat' (first | (with_reducible exact Only.refl _ _) | (with_reducible refine Only.trans ?_ hoC) | (with_reducible refine Only.trans ?_ hoB) | (with_reducible refine Only.trans ?_ hoA) | (with_reducible refine Only.trans ?_ (Only.of_new hbel)) | (with_reducible refine Only.alloc ?_ _) | (with_reducible refine Only.drewN ?_ _) | (with_reducible refine Only.drew ?_))

set_option maxHeartbeats 2000000 in
theorem fields_0O (op a b c N x y : Int) (w : World) (hy : 0 ≤ y ∧ y < 256) (h : mayB op a b c N = true) (hx : x.tmod 3 = 0) (hn : (N == 0) = false) (hn2 : (op == 1) = true) :
    Calls Try.prog 6 #[.agg #[.int .i64 op, .int .i64 a, .int .i64 b, .int .i64 c, .int .u64 N], .int .u8 x, .int .u8 y] w fun e w' => e = .returned (.bool true) ∧ Below w.heap.size w w' := by
  have tok1 : True := trivial
  have tok2 : True := trivial
  obtain ⟨y0, y1⟩ := hy
  have g2 : mayB op (13 + y) b c N = false := may_a_big op b c N (by omega)
  have g3 : mayB op (-1 - y) b c N = false := may_a_low op b c N (by omega)
  go_enter Try.func6, Try.ntmps6
  go_wp2_with (first
    | (go_at_call 3; refine (code_runs _).mono ?_; rintro e w1 ⟨rfl, hbel⟩; obtain ⟨c1, z1⟩ := (Only.of_new (S := Nob) hbel).rules0; have s1 : w.heap.size < w1.heap.size := Nat.lt_of_lt_of_le (by simp) hbel.size; have k1 := (Blk.new w 28 #[.int .i64 op, .int .i64 a, .int .i64 b, .int .i64 c, .int .u64 N]).only (Only.of_new (S := Nob) hbel) (fun h => h))
    | (go_at_call 15; have _t := tok1; refine (may_any _ _ _ _ _ _).mono ?_; rintro e wA ⟨rfl, hoA⟩; clear tok1; obtain ⟨cA, zA⟩ := hoA.rules0; have sA : w.heap.size < wA.heap.size := Nat.lt_of_lt_of_le (by simp [s1]) hoA.size; have kA := k1.only hoA (fun h => h))
    | (go_at_call 15; have _t := tok2; refine (may_any _ _ _ _ _ _).mono ?_; rintro e wB ⟨rfl, hoB⟩; clear tok2; obtain ⟨cB, zB⟩ := hoB.rules0; have sB : w.heap.size < wB.heap.size := Nat.lt_of_lt_of_le (by first | (simp [sA]; done) | (simp; omega)) hoB.size; have sB2 : wA.heap.size + 1 < wB.heap.size := Nat.lt_of_lt_of_le (by simp) hoB.size; have kB := ((kA.alloc _).alloc _).only hoB (fun h => h))
    | (go_at_call 15; refine (may_any _ _ _ _ _ _).mono ?_; rintro e wC ⟨rfl, hoC⟩; obtain ⟨cC, zC⟩ := hoC.rules0; have sC : w.heap.size < wC.heap.size := Nat.lt_of_lt_of_le (by first | (simp [sB]; done) | (simp; omega)) hoC.size; have kC := kB.only hoC (fun h => h); have kCc := kC.cell; have kCf := kC.frozen; clear cC zC cB zB))
  go_ret
  refine ⟨rfl, Only.new ?_⟩
  repeat' (first | (with_reducible exact Only.refl _ _) | (with_reducible refine Only.trans ?_ hoC) | (with_reducible refine Only.trans ?_ hoB) | (with_reducible refine Only.trans ?_ hoA) | (with_reducible refine Only.trans ?_ (Only.of_new hbel)) | (with_reducible refine Only.alloc ?_ _) | (with_reducible refine Only.drewN ?_ _) | (with_reducible refine Only.drew ?_))

set_option maxHeartbeats 2000000 in
theorem fields_1N (op a b c N x y : Int) (w : World) (hy : 0 ≤ y ∧ y < 256) (h : mayB op a b c N = true) (hx : x.tmod 3 = 1) (hn : (N == 0) = true) :
    Calls Try.prog 6 #[.agg #[.int .i64 op, .int .i64 a, .int .i64 b, .int .i64 c, .int .u64 N], .int .u8 x, .int .u8 y] w fun e w' => e = .returned (.bool true) ∧ Below w.heap.size w w' := by
  have tok1 : True := trivial
  have tok2 : True := trivial
  obtain ⟨y0, y1⟩ := hy
  have g2 : mayB op a (8 + y) c N = false := may_b_big op a c N (by omega)
  have g3 : mayB op (-1 - y) b c N = false := may_a_low op b c N (by omega)
  go_enter Try.func6, Try.ntmps6
  go_wp2_with (first
    | (go_at_call 3; refine (code_runs _).mono ?_; rintro e w1 ⟨rfl, hbel⟩; obtain ⟨c1, z1⟩ := (Only.of_new (S := Nob) hbel).rules0; have s1 : w.heap.size < w1.heap.size := Nat.lt_of_lt_of_le (by simp) hbel.size; have k1 := (Blk.new w 28 #[.int .i64 op, .int .i64 a, .int .i64 b, .int .i64 c, .int .u64 N]).only (Only.of_new (S := Nob) hbel) (fun h => h))
    | (go_at_call 15; have _t := tok1; refine (may_any _ _ _ _ _ _).mono ?_; rintro e wA ⟨rfl, hoA⟩; clear tok1; obtain ⟨cA, zA⟩ := hoA.rules0; have sA : w.heap.size < wA.heap.size := Nat.lt_of_lt_of_le (by simp [s1]) hoA.size; have kA := k1.only hoA (fun h => h))
    | (go_at_call 15; have _t := tok2; refine (may_any _ _ _ _ _ _).mono ?_; rintro e wB ⟨rfl, hoB⟩; clear tok2; obtain ⟨cB, zB⟩ := hoB.rules0; have sB : w.heap.size < wB.heap.size := Nat.lt_of_lt_of_le (by first | (simp [sA]; done) | (simp; omega)) hoB.size; have sB2 : wA.heap.size + 1 < wB.heap.size := Nat.lt_of_lt_of_le (by simp) hoB.size; have kB := ((kA.alloc _).alloc _).only hoB (fun h => h))
    | (go_at_call 15; refine (may_any _ _ _ _ _ _).mono ?_; rintro e wC ⟨rfl, hoC⟩; obtain ⟨cC, zC⟩ := hoC.rules0; have sC : w.heap.size < wC.heap.size := Nat.lt_of_lt_of_le (by first | (simp [sB]; done) | (simp; omega)) hoC.size; have kC := kB.only hoC (fun h => h); have kCc := kC.cell; have kCf := kC.frozen; clear cC zC cB zB))
  go_ret
  refine ⟨rfl, Only.new ?_⟩
  repeat' (first | (with_reducible exact Only.refl _ _) | (with_reducible refine Only.trans ?_ hoC) | (with_reducible refine Only.trans ?_ hoB) | (with_reducible refine Only.trans ?_ hoA) | (with_reducible refine Only.trans ?_ (Only.of_new hbel)) | (with_reducible refine Only.alloc ?_ _) | (with_reducible refine Only.drewN ?_ _) | (with_reducible refine Only.drew ?_))

set_option maxHeartbeats 2000000 in
theorem fields_1O (op a b c N x y : Int) (w : World) (hy : 0 ≤ y ∧ y < 256) (h : mayB op a b c N = true) (hx : x.tmod 3 = 1) (hn : (N == 0) = false) (hn2 : (op == 1) = true) :
    Calls Try.prog 6 #[.agg #[.int .i64 op, .int .i64 a, .int .i64 b, .int .i64 c, .int .u64 N], .int .u8 x, .int .u8 y] w fun e w' => e = .returned (.bool true) ∧ Below w.heap.size w w' := by
  have tok1 : True := trivial
  have tok2 : True := trivial
  obtain ⟨y0, y1⟩ := hy
  have g2 : mayB op a (8 + y) c N = false := may_b_big op a c N (by omega)
  have g3 : mayB op (-1 - y) b c N = false := may_a_low op b c N (by omega)
  go_enter Try.func6, Try.ntmps6
  go_wp2_with (first
    | (go_at_call 3; refine (code_runs _).mono ?_; rintro e w1 ⟨rfl, hbel⟩; obtain ⟨c1, z1⟩ := (Only.of_new (S := Nob) hbel).rules0; have s1 : w.heap.size < w1.heap.size := Nat.lt_of_lt_of_le (by simp) hbel.size; have k1 := (Blk.new w 28 #[.int .i64 op, .int .i64 a, .int .i64 b, .int .i64 c, .int .u64 N]).only (Only.of_new (S := Nob) hbel) (fun h => h))
    | (go_at_call 15; have _t := tok1; refine (may_any _ _ _ _ _ _).mono ?_; rintro e wA ⟨rfl, hoA⟩; clear tok1; obtain ⟨cA, zA⟩ := hoA.rules0; have sA : w.heap.size < wA.heap.size := Nat.lt_of_lt_of_le (by simp [s1]) hoA.size; have kA := k1.only hoA (fun h => h))
    | (go_at_call 15; have _t := tok2; refine (may_any _ _ _ _ _ _).mono ?_; rintro e wB ⟨rfl, hoB⟩; clear tok2; obtain ⟨cB, zB⟩ := hoB.rules0; have sB : w.heap.size < wB.heap.size := Nat.lt_of_lt_of_le (by first | (simp [sA]; done) | (simp; omega)) hoB.size; have sB2 : wA.heap.size + 1 < wB.heap.size := Nat.lt_of_lt_of_le (by simp) hoB.size; have kB := ((kA.alloc _).alloc _).only hoB (fun h => h))
    | (go_at_call 15; refine (may_any _ _ _ _ _ _).mono ?_; rintro e wC ⟨rfl, hoC⟩; obtain ⟨cC, zC⟩ := hoC.rules0; have sC : w.heap.size < wC.heap.size := Nat.lt_of_lt_of_le (by first | (simp [sB]; done) | (simp; omega)) hoC.size; have kC := kB.only hoC (fun h => h); have kCc := kC.cell; have kCf := kC.frozen; clear cC zC cB zB))
  go_ret
  refine ⟨rfl, Only.new ?_⟩
  repeat' (first | (with_reducible exact Only.refl _ _) | (with_reducible refine Only.trans ?_ hoC) | (with_reducible refine Only.trans ?_ hoB) | (with_reducible refine Only.trans ?_ hoA) | (with_reducible refine Only.trans ?_ (Only.of_new hbel)) | (with_reducible refine Only.alloc ?_ _) | (with_reducible refine Only.drewN ?_ _) | (with_reducible refine Only.drew ?_))

set_option maxHeartbeats 2000000 in
theorem fields_2N (op a b c N x y : Int) (w : World) (hy : 0 ≤ y ∧ y < 256) (h : mayB op a b c N = true) (hx : x.tmod 3 = 2) (hn : (N == 0) = true) :
    Calls Try.prog 6 #[.agg #[.int .i64 op, .int .i64 a, .int .i64 b, .int .i64 c, .int .u64 N], .int .u8 x, .int .u8 y] w fun e w' => e = .returned (.bool true) ∧ Below w.heap.size w w' := by
  have tok1 : True := trivial
  have tok2 : True := trivial
  obtain ⟨y0, y1⟩ := hy
  have g2 : mayB op a b (41 + y) N = false := may_c_big op a b N (by omega)
  have g3 : mayB op (-1 - y) b c N = false := may_a_low op b c N (by omega)
  go_enter Try.func6, Try.ntmps6
  go_wp2_with (first
    | (go_at_call 3; refine (code_runs _).mono ?_; rintro e w1 ⟨rfl, hbel⟩; obtain ⟨c1, z1⟩ := (Only.of_new (S := Nob) hbel).rules0; have s1 : w.heap.size < w1.heap.size := Nat.lt_of_lt_of_le (by simp) hbel.size; have k1 := (Blk.new w 28 #[.int .i64 op, .int .i64 a, .int .i64 b, .int .i64 c, .int .u64 N]).only (Only.of_new (S := Nob) hbel) (fun h => h))
    | (go_at_call 15; have _t := tok1; refine (may_any _ _ _ _ _ _).mono ?_; rintro e wA ⟨rfl, hoA⟩; clear tok1; obtain ⟨cA, zA⟩ := hoA.rules0; have sA : w.heap.size < wA.heap.size := Nat.lt_of_lt_of_le (by simp [s1]) hoA.size; have kA := k1.only hoA (fun h => h))
    | (go_at_call 15; have _t := tok2; refine (may_any _ _ _ _ _ _).mono ?_; rintro e wB ⟨rfl, hoB⟩; clear tok2; obtain ⟨cB, zB⟩ := hoB.rules0; have sB : w.heap.size < wB.heap.size := Nat.lt_of_lt_of_le (by first | (simp [sA]; done) | (simp; omega)) hoB.size; have sB2 : wA.heap.size + 1 < wB.heap.size := Nat.lt_of_lt_of_le (by simp) hoB.size; have kB := ((kA.alloc _).alloc _).only hoB (fun h => h))
    | (go_at_call 15; refine (may_any _ _ _ _ _ _).mono ?_; rintro e wC ⟨rfl, hoC⟩; obtain ⟨cC, zC⟩ := hoC.rules0; have sC : w.heap.size < wC.heap.size := Nat.lt_of_lt_of_le (by first | (simp [sB]; done) | (simp; omega)) hoC.size; have kC := kB.only hoC (fun h => h); have kCc := kC.cell; have kCf := kC.frozen; clear cC zC cB zB))
  go_ret
  refine ⟨rfl, Only.new ?_⟩
  repeat' (first | (with_reducible exact Only.refl _ _) | (with_reducible refine Only.trans ?_ hoC) | (with_reducible refine Only.trans ?_ hoB) | (with_reducible refine Only.trans ?_ hoA) | (with_reducible refine Only.trans ?_ (Only.of_new hbel)) | (with_reducible refine Only.alloc ?_ _) | (with_reducible refine Only.drewN ?_ _) | (with_reducible refine Only.drew ?_))

set_option maxHeartbeats 2000000 in
theorem fields_2O (op a b c N x y : Int) (w : World) (hy : 0 ≤ y ∧ y < 256) (h : mayB op a b c N = true) (hx : x.tmod 3 = 2) (hn : (N == 0) = false) (hn2 : (op == 1) = true) :
    Calls Try.prog 6 #[.agg #[.int .i64 op, .int .i64 a, .int .i64 b, .int .i64 c, .int .u64 N], .int .u8 x, .int .u8 y] w fun e w' => e = .returned (.bool true) ∧ Below w.heap.size w w' := by
  have tok1 : True := trivial
  have tok2 : True := trivial
  obtain ⟨y0, y1⟩ := hy
  have g2 : mayB op a b (41 + y) N = false := may_c_big op a b N (by omega)
  have g3 : mayB op (-1 - y) b c N = false := may_a_low op b c N (by omega)
  go_enter Try.func6, Try.ntmps6
  go_wp2_with (first
    | (go_at_call 3; refine (code_runs _).mono ?_; rintro e w1 ⟨rfl, hbel⟩; obtain ⟨c1, z1⟩ := (Only.of_new (S := Nob) hbel).rules0; have s1 : w.heap.size < w1.heap.size := Nat.lt_of_lt_of_le (by simp) hbel.size; have k1 := (Blk.new w 28 #[.int .i64 op, .int .i64 a, .int .i64 b, .int .i64 c, .int .u64 N]).only (Only.of_new (S := Nob) hbel) (fun h => h))
    | (go_at_call 15; have _t := tok1; refine (may_any _ _ _ _ _ _).mono ?_; rintro e wA ⟨rfl, hoA⟩; clear tok1; obtain ⟨cA, zA⟩ := hoA.rules0; have sA : w.heap.size < wA.heap.size := Nat.lt_of_lt_of_le (by simp [s1]) hoA.size; have kA := k1.only hoA (fun h => h))
    | (go_at_call 15; have _t := tok2; refine (may_any _ _ _ _ _ _).mono ?_; rintro e wB ⟨rfl, hoB⟩; clear tok2; obtain ⟨cB, zB⟩ := hoB.rules0; have sB : w.heap.size < wB.heap.size := Nat.lt_of_lt_of_le (by first | (simp [sA]; done) | (simp; omega)) hoB.size; have sB2 : wA.heap.size + 1 < wB.heap.size := Nat.lt_of_lt_of_le (by simp) hoB.size; have kB := ((kA.alloc _).alloc _).only hoB (fun h => h))
    | (go_at_call 15; refine (may_any _ _ _ _ _ _).mono ?_; rintro e wC ⟨rfl, hoC⟩; obtain ⟨cC, zC⟩ := hoC.rules0; have sC : w.heap.size < wC.heap.size := Nat.lt_of_lt_of_le (by first | (simp [sB]; done) | (simp; omega)) hoC.size; have kC := kB.only hoC (fun h => h); have kCc := kC.cell; have kCf := kC.frozen; clear cC zC cB zB))
  go_ret
  refine ⟨rfl, Only.new ?_⟩
  repeat' (first | (with_reducible exact Only.refl _ _) | (with_reducible refine Only.trans ?_ hoC) | (with_reducible refine Only.trans ?_ hoB) | (with_reducible refine Only.trans ?_ hoA) | (with_reducible refine Only.trans ?_ (Only.of_new hbel)) | (with_reducible refine Only.alloc ?_ _) | (with_reducible refine Only.drewN ?_ _) | (with_reducible refine Only.drew ?_))

theorem code_fields (op a b c N : Int) (_ : InsWf op a b c N) (x : Int) (wx : (Lit.int .u8 x).wf = true) (y : Int) (wy : (Lit.int .u8 y).wf = true) (w : World) :
    Calls Try.prog 6 #[.agg #[.int .i64 op, .int .i64 a, .int .i64 b, .int .i64 c, .int .u64 N], .int .u8 x, .int .u8 y] w fun e w' => e = .returned (.bool true) ∧ Below w.heap.size w w' := by
  have hx := bounds_u8 wx
  have hy := bounds_u8 wy
  have hy' : 0 ≤ y ∧ y < 256 := by omega
  cases h : mayB op a b c N
  · exact fields_no op a b c N x y w hy' h
  · obtain ⟨_, _, h3⟩ := may_split h
    have hm : x.tmod 3 = 0 ∨ x.tmod 3 = 1 ∨ x.tmod 3 = 2 := by rw [Int.tmod_eq_emod_of_nonneg (by omega)]; omega
    cases hn : (N == 0)
    · have hn2 : (op == 1) = true := by simpa using h3.resolve_left (by simpa using hn)
      rcases hm with h0 | h0 | h0
      · exact fields_0O op a b c N x y w hy' h h0 hn hn2
      · exact fields_1O op a b c N x y w hy' h h0 hn hn2
      · exact fields_2O op a b c N x y w hy' h h0 hn hn2
    · rcases hm with h0 | h0 | h0
      · exact fields_0N op a b c N x y w hy' h h0 hn
      · exact fields_1N op a b c N x y w hy' h h0 hn
      · exact fields_2N op a b c N x y w hy' h h0 hn
end Go.Proofs.Ytpdjhkidalafpaa
