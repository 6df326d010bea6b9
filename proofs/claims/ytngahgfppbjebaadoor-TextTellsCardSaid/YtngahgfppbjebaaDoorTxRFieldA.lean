/-
  The contract of the reference's field: printed by a program, way by way.
-/
import Derived.Test.YtngahgfppbjebaaDoorTxRefA
import Derived.Test.YtngahgfppbjebaaDoorGrpTxReg
import Derived.Test.YtngahgfppbjebaaDoorRefNum
import Derived.Test.YtngahgfppbjebaaDoorGrpTxRCut
namespace Go.Proofs.YtngahgfppbjebaaDoor
open Go.RowKit Go.Lib
set_option linter.unusedVariables false
set_option linter.unusedSimpArgs false

/-- What 'field' leaves: the instruction with the field, if the word is one. -/
def RFieldPost (w : World) (p : Option PIns) (e : Ending) (w' : World) : Prop :=
  ∃ y : PIns, e = .returned (.tuple #[.agg #[.int .i64 y.op, .int .i64 y.a, .int .i64 y.b, .int .i64 y.c, .int .u64 y.n], .bool p.isSome]) ∧ (∀ x, p = some x → y = x) ∧ Only Nob w w'
theorem RFieldPost.no {w w' : World} {p : Option PIns} (hp : p = none) (y : PIns) (ho : Only Nob w w') : RFieldPost w p (.returned (.tuple #[.agg #[.int .i64 y.op, .int .i64 y.a, .int .i64 y.b, .int .i64 y.c, .int .u64 y.n], .bool false])) w' := by
  subst hp
  exact ⟨y, rfl, fun x h => (by cases h), ho⟩
theorem RFieldPost.yes {w w' : World} {p : Option PIns} {y : PIns} (hp : p = some y) (ho : Only Nob w w') : RFieldPost w p (.returned (.tuple #[.agg #[.int .i64 y.op, .int .i64 y.a, .int .i64 y.b, .int .i64 y.c, .int .u64 y.n], .bool true])) w' := by
  subst hp
  exact ⟨y, rfl, fun x h => (by injection h), ho⟩
/-- A register's word, as the reference looks at it. -/
theorem reg_two (a b : UInt8) (m : Nat) (hm : m ≤ 9) : regP [a, b] m = if a = 114 ∧ 48 ≤ b.toNat ∧ b.toNat - 48 ≤ m then some (b.toNat - 48) else none := by
  by_cases ha : a = 114
  · subst ha
    show decMost m [b] = _
    unfold decMost decOf
    by_cases hb : 48 ≤ b.toNat ∧ b.toNat ≤ 57
    · have hd : digB b = true := by simp [digB, hb]
      have hv : valD 0 [b] = b.toNat - 48 := by rw [valD_zero]; rfl
      rw [if_pos (by simp [hd]), hv]
      by_cases h2 : b.toNat - 48 ≤ m
      · rw [if_pos ⟨rfl, hb.1, h2⟩]
        simp [Option.filter, h2]
      · rw [if_neg (fun h => h2 h.2.2)]
        simp [Option.filter, h2]
    · have hd : digB b = false := by
        simp [digB]
        omega
      rw [if_neg (by simp [hd]), if_neg (by omega)]
      rfl
  · rw [if_neg (fun h => ha h.1)]
    unfold regP
    split
    · rename_i d e
      simp at e
      exact absurd e.1 ha
    · rfl
/-- The call's number so far; -1: none. -/
def wnum (s : ByteArray) (k : Nat) : Int := if someOf callList s k = true then lastOf callList s k else -1
theorem wnum_hit {s : ByteArray} {k : Nat} (h : callList.getD (k + 1) ⟨#[]⟩ = s) : wnum s (k + 1) = (k : Int) + 1 := by
  unfold wnum lastOf someOf
  rw [if_pos h, if_pos h]
  simp
theorem wnum_miss {s : ByteArray} {k : Nat} (h : ¬ callList.getD (k + 1) ⟨#[]⟩ = s) : wnum s (k + 1) = wnum s k := by
  have h1 : lastOf callList s (k + 1) = lastOf callList s k := by
    conv => lhs; unfold lastOf
    rw [if_neg h]
  have h2 : someOf callList s (k + 1) = someOf callList s k := by
    conv => lhs; unfold someOf
    rw [if_neg h]
  unfold wnum
  rw [h1, h2]
/-- 'Number', as an option. -/
theorem rnumber_num (s : ByteArray) (hs : s.size ≤ 1000000000) (m : Nat) (hm : m ≤ 18446744073709551615) (w : World) : Calls Tryd.prog 75 #[.string s, .int .u64 (m : Int)] w fun e w' => e = .returned (match decMost m s.data.toList with | some v => .tuple #[.int .u64 (v : Int), .bool true] | none => .tuple #[.int .u64 0, .bool false]) ∧ w = w' := by
  refine (rnumber_any s hs m hm w).mono ?_
  rintro e w' ⟨h1, h2⟩
  refine ⟨?_, h2⟩
  rw [h1]
  cases decMost m s.data.toList <;> rfl
set_option maxRecDepth 100000 in
set_option maxHeartbeats 4000000 in
theorem rf_bad (w : World) (op k A B C : Int) (N : Bool) (a b c n : Int) (nm s : ByteArray) (line col : Int) (p : Option PIns) (hp : (none : Option PIns) = p) (hsz : s.size ≤ 1000000) : Calls Tryd.prog 113 #[.agg #[.int .i64 op, .int .i64 a, .int .i64 b, .int .i64 c, .int .u64 n], .int .i64 k, .agg #[.string nm, .int .i64 A, .int .i64 B, .int .i64 C, .bool N], .agg #[.string s, .int .i64 line, .int .i64 col, .bool true]] w (RFieldPost w p) := by
  go_enter Tryd.func113, Tryd.ntmps113
  go_wp2
  exact bodyPost_ret (by simp [results, Tryd.results113, go_sem]; first | done | rfl | omega) rfl (RFieldPost.no hp.symm ⟨op, a, b, c, n⟩ (by repeat' (first | (with_reducible refine Only.setCell ?_ ?_ _) | (with_reducible refine Only.alloc ?_ _) | (with_reducible refine Only.drewN ?_ _) | (with_reducible refine Only.drew ?_) | (with_reducible exact Only.refl _ _) | (right; simp; done) | (right; simp; omega))))
set_option maxRecDepth 100000 in
set_option maxHeartbeats 4000000 in
theorem rf_23_0 (w : World) (htab : TabAt w) (B C : Int) (N : Bool) (a b c n : Int) (nm s : ByteArray) (line col : Int) (p : Option PIns) (hp : (if isOf callList s = true then some (⟨23, numOf callList s, b, c, n⟩ : PIns) else none) = p) (hsz : s.size ≤ 1000000) : Calls Tryd.prog 113 #[.agg #[.int .i64 23, .int .i64 a, .int .i64 b, .int .i64 c, .int .u64 n], .int .i64 0, .agg #[.string nm, .int .i64 12, .int .i64 B, .int .i64 C, .bool N], .agg #[.string s, .int .i64 line, .int .i64 col, .bool false]] w (RFieldPost w p) := by
  have ix : ∀ w, (Instr.index 173 (.agg #[.int .i64 12, .int .i64 B, .int .i64 C]) (.int .i64 0)).run Tryd.prog w = .ok (.int .i64 12) w := fun _ => by kernel_rfl
  obtain ⟨hnum, his⟩ := fold_num callList_ok callList_len rfl s
  rw [← hnum, ← his] at hp
  have HP := hide hp
  have HTB := hide htab
  clear hp hnum his htab
  go_enter Tryd.func113, Tryd.ntmps113
  go_wp2
  go_loopw [13, 14] (fun v cv wr => ∃ k q : Nat, k ≤ 12 ∧ cv = .int .i64 ((k : Int) + 1) ∧ v = .int .i64 (wnum s k) ∧ wr = ((((w.alloc (.cells #[.int .i64 23, .int .i64 a, .int .i64 b, .int .i64 c, .int .u64 n] 60)).alloc (.cells #[.string nm, .int .i64 12, .int .i64 B, .int .i64 C, .bool N] 169)).alloc (.cells #[.string s, .int .i64 line, .int .i64 col, .bool false] 160)).alloc (.cells #[.int .i64 0, .int .i64 0, .int .i64 0, .int .i64 0, .int .u64 0] 60)).drewN q) (fun _ cv _ => 13 - (RowKit.intOf cv).toNat)
  case atStart => exact ⟨0, 0, by omega, by simp, by simp [wnum, someOf], rfl⟩
  case round =>
    obtain ⟨k, q, hk, rfl, rfl, rfl⟩ := hrel
    by_cases hlt : k < 12
    · have hkI : (k : Int) + 1 ≤ 12 := by omega
      have hkI2 : (k : Int) < 12 := by omega
      have hc := HTB.out k hlt
      have hgl := HTB.out.lt
      have e1 : (k : Int) + 1 - 1 = (k : Int) := by omega
      have hlen : callList.length = 13 := callList_len
      by_cases hnm : callList.getD (k + 1) ⟨#[]⟩ = s
      · have hl := wnum_hit hnm
        have HL := hide hl
        have he := str_eq_true hnm
        have HNM := hide hnm
        clear hnm hl
        generalize callList.getD (k + 1) ⟨#[]⟩ = cn at *
        go_wp2_with fail
        go_quiet (fail)
        go_wp2_with fail
        refine ⟨⟨k + 1, _, by omega, by simp, by rw [HL.out], rfl⟩, ?_⟩
        simp [RowKit.intOf]
        omega
      · have hl := wnum_miss hnm
        have HL := hide hl
        have he := str_eq_false hnm
        clear hnm hl
        generalize callList.getD (k + 1) ⟨#[]⟩ = cn at *
        go_wp2_with fail
        go_quiet (fail)
        go_wp2_with fail
        refine ⟨⟨k + 1, _, by omega, by simp, by rw [HL.out], rfl⟩, ?_⟩
        simp [RowKit.intOf]
        omega
    · have hkI : ¬ (k : Int) + 1 ≤ 12 := by omega
      have hk12 : k = 12 := by omega
      subst hk12
      have hlr := lastOf_range callList s 12
      cases hso : someOf callList s 12 with
      | false =>
        have HN : Hid (p = none) := hide (by rw [← HP.out, hso]; rfl)
        have hw12 : wnum s 12 = -1 := by unfold wnum; rw [hso]; rfl
        rw [hw12]
        clear hlr hso HP hw12
        go_wp2_with fail
        exact bodyPost_ret (by simp [results, Tryd.results113, go_sem]; first | done | rfl | omega) rfl (RFieldPost.no HN.out ⟨23, a, b, c, n⟩ (by repeat' (first | (with_reducible refine Only.setCell ?_ ?_ _) | (with_reducible refine Only.alloc ?_ _) | (with_reducible refine Only.drewN ?_ _) | (with_reducible refine Only.drew ?_) | (with_reducible exact Only.refl _ _) | (right; simp; done) | (right; simp; omega))))
      | true =>
        have HY : Hid (p = some ⟨23, lastOf callList s 12, b, c, n⟩) := hide (by rw [← HP.out, hso]; rfl)
        have hw12 : wnum s 12 = lastOf callList s 12 := by unfold wnum; rw [hso]; rfl
        rw [hw12]
        clear hw12
        generalize lastOf callList s 12 = lv at *
        obtain ⟨hlv, _⟩ := hlr
        have hlv2 : ¬ lv < 0 := by omega
        have hk4 : Blk (((((w.alloc (.cells #[.int .i64 23, .int .i64 a, .int .i64 b, .int .i64 c, .int .u64 n] 60)).alloc (.cells #[.string nm, .int .i64 12, .int .i64 B, .int .i64 C, .bool N] 169)).alloc (.cells #[.string s, .int .i64 line, .int .i64 col, .bool false] 160)).alloc (.cells #[.int .i64 0, .int .i64 0, .int .i64 0, .int .i64 0, .int .u64 0] 60)).drewN q) w.heap.size 60 #[.int .i64 23, .int .i64 a, .int .i64 b, .int .i64 c, .int .u64 n] := (((Blk.new w _ _).alloc _).alloc _).alloc _
        have hk8 : Blk (((((w.alloc (.cells #[.int .i64 23, .int .i64 a, .int .i64 b, .int .i64 c, .int .u64 n] 60)).alloc (.cells #[.string nm, .int .i64 12, .int .i64 B, .int .i64 C, .bool N] 169)).alloc (.cells #[.string s, .int .i64 line, .int .i64 col, .bool false] 160)).alloc (.cells #[.int .i64 0, .int .i64 0, .int .i64 0, .int .i64 0, .int .u64 0] 60)).drewN q) (w.heap.size + 1 + 1 + 1) 60 #[.int .i64 0, .int .i64 0, .int .i64 0, .int .i64 0, .int .u64 0] := Blk.new' (by simp)
        have hoq : Only Nob w (((((w.alloc (.cells #[.int .i64 23, .int .i64 a, .int .i64 b, .int .i64 c, .int .u64 n] 60)).alloc (.cells #[.string nm, .int .i64 12, .int .i64 B, .int .i64 C, .bool N] 169)).alloc (.cells #[.string s, .int .i64 line, .int .i64 col, .bool false] 160)).alloc (.cells #[.int .i64 0, .int .i64 0, .int .i64 0, .int .i64 0, .int .u64 0] 60)).drewN q) := (((((Only.refl _ w).alloc _).alloc _).alloc _).alloc _).drewN _
        clear hso HP
        obtain ⟨wq, hwq⟩ : ∃ wq, wq = (((((w.alloc (.cells #[.int .i64 23, .int .i64 a, .int .i64 b, .int .i64 c, .int .u64 n] 60)).alloc (.cells #[.string nm, .int .i64 12, .int .i64 B, .int .i64 C, .bool N] 169)).alloc (.cells #[.string s, .int .i64 line, .int .i64 col, .bool false] 160)).alloc (.cells #[.int .i64 0, .int .i64 0, .int .i64 0, .int .i64 0, .int .u64 0] 60)).drewN q) := ⟨_, rfl⟩
        rw [← hwq] at hk4 hk8 hoq ⊢
        clear hwq
        have z0 := hk4.cell 0
        have z1 := hk4.cell 1
        have z2 := hk4.cell 2
        have z3 := hk4.cell 3
        have z4 := hk4.cell 4
        have zl := hk4.lt
        have zf := hk4.frozen 1
        have y0 := hk8.cell 0
        have y1 := hk8.cell 1
        have y2 := hk8.cell 2
        have y3 := hk8.cell 3
        have y4 := hk8.cell 4
        have yl := hk8.lt
        have yf0 := hk8.frozen 0
        have yf1 := hk8.frozen 1
        have yf2 := hk8.frozen 2
        have yf3 := hk8.frozen 3
        have yf4 := hk8.frozen 4
        simp at z0 z1 z2 z3 z4 y0 y1 y2 y3 y4
        have HOQ := hide hoq
        have HK8 := hide hk8
        clear hk4 hk8 hoq
        go_wp2_with fail
        have hk9 := (((((HK8.out.far (p := ⟨w.heap.size, 1, none⟩) (show w.heap.size + 1 + 1 + 1 ≠ w.heap.size by omega) (.int .i64 lv)).set_ 0 (.int .i64 23)).set_ 1 (.int .i64 lv)).set_ 2 (.int .i64 b)).set_ 3 (.int .i64 c)).set_ 4 (.int .u64 n)
        have c0 := hk9.cell 0
        have c1 := hk9.cell 1
        have c2 := hk9.cell 2
        have c3 := hk9.cell 3
        have c4 := hk9.cell 4
        simp at c0 c1 c2 c3 c4
        exact bodyPost_ret (by simp [results, Tryd.results113, go_sem, c0, c1, c2, c3, c4]; first | done | rfl | omega) rfl (RFieldPost.yes HY.out (by repeat' (first | (with_reducible exact HOQ.out) | (with_reducible refine Only.setCell ?_ ?_ _) | (right; simp; done) | (right; simp; omega))))
set_option maxRecDepth 100000 in
set_option maxHeartbeats 4000000 in
theorem rf_n (w : World) (op A B C : Int) (N : Bool) (a b c n : Int) (nm s : ByteArray) (line col : Int) (p : Option PIns) (hp : ((decMost 18446744073709551615 s.data.toList).map fun v => ((⟨op, a, b, c, v⟩) : PIns)) = p) (hsz : s.size ≤ 1000000) : Calls Tryd.prog 113 #[.agg #[.int .i64 op, .int .i64 a, .int .i64 b, .int .i64 c, .int .u64 n], .int .i64 3, .agg #[.string nm, .int .i64 A, .int .i64 B, .int .i64 C, .bool N], .agg #[.string s, .int .i64 line, .int .i64 col, .bool false]] w (RFieldPost w p) := by
  have HNU := hide (fun w => rnumber_num s (by omega) 18446744073709551615 (by decide) w)
  cases hd : decMost 18446744073709551615 s.data.toList with
  | none =>
    rw [hd] at hp HNU
    have HN : Hid (p = none) := hide hp.symm
    clear hp hd
    go_enter Tryd.func113, Tryd.ntmps113
    go_wp2_with (go_at_call 75; refine (HNU.out _).mono ?_; rintro e w2 ⟨rfl, hw2⟩; subst hw2)
    exact bodyPost_ret (by simp [results, Tryd.results113, go_sem]; first | done | rfl | omega) rfl (RFieldPost.no HN.out ⟨op, a, b, c, 0⟩ (by repeat' (first | (with_reducible refine Only.setCell ?_ ?_ _) | (with_reducible refine Only.alloc ?_ _) | (with_reducible refine Only.drewN ?_ _) | (with_reducible refine Only.drew ?_) | (with_reducible exact Only.refl _ _) | (right; simp; done) | (right; simp; omega))))
  | some v =>
    have hv : v ≤ 18446744073709551615 := by
      unfold decMost at hd
      exact of_decide_eq_true (Option.filter_eq_some_iff.1 hd).2
    rw [hd] at hp HNU
    have HY : Hid (p = some ⟨op, a, b, c, (v : Int)⟩) := hide hp.symm
    have hv2 : ¬ (v : Int) < 0 := by omega
    clear hp hd
    go_enter Tryd.func113, Tryd.ntmps113
    go_wp2_with (go_at_call 75; refine (HNU.out _).mono ?_; rintro e w2 ⟨rfl, hw2⟩; subst hw2)
    exact bodyPost_ret (by simp [results, Tryd.results113, go_sem]; first | done | rfl | omega) rfl (RFieldPost.yes HY.out (by repeat' (first | (with_reducible refine Only.setCell ?_ ?_ _) | (with_reducible refine Only.alloc ?_ _) | (with_reducible refine Only.drewN ?_ _) | (with_reducible refine Only.drew ?_) | (with_reducible exact Only.refl _ _) | (right; simp; done) | (right; simp; omega))))
set_option maxRecDepth 100000 in
set_option maxHeartbeats 4000000 in
theorem rf_8_2 (w : World) (A B : Int) (N : Bool) (a b c n : Int) (nm s : ByteArray) (line col : Int) (p : Option PIns) (hp : ((decMost 15 s.data.toList).map fun v => ((⟨8, a, b, v, n⟩) : PIns)) = p) (hsz : s.size ≤ 1000000) : Calls Tryd.prog 113 #[.agg #[.int .i64 8, .int .i64 a, .int .i64 b, .int .i64 c, .int .u64 n], .int .i64 2, .agg #[.string nm, .int .i64 A, .int .i64 B, .int .i64 15, .bool N], .agg #[.string s, .int .i64 line, .int .i64 col, .bool false]] w (RFieldPost w p) := by
  have ix : ∀ w, (Instr.index 173 (.agg #[.int .i64 A, .int .i64 B, .int .i64 15]) (.int .i64 2)).run Tryd.prog w = .ok (.int .i64 15) w := fun _ => by kernel_rfl
  have HNU := hide (fun w => rnumber_num s (by omega) 15 (by decide) w)
  cases hd : decMost 15 s.data.toList with
  | none =>
    rw [hd] at hp HNU
    have HN : Hid (p = none) := hide hp.symm
    clear hp hd
    go_enter Tryd.func113, Tryd.ntmps113
    go_wp2_with (go_at_call 75; refine (HNU.out _).mono ?_; rintro e w2 ⟨rfl, hw2⟩; subst hw2)
    exact bodyPost_ret (by simp [results, Tryd.results113, go_sem]; first | done | rfl | omega) rfl (RFieldPost.no HN.out ⟨8, a, b, c, n⟩ (by repeat' (first | (with_reducible refine Only.setCell ?_ ?_ _) | (with_reducible refine Only.alloc ?_ _) | (with_reducible refine Only.drewN ?_ _) | (with_reducible refine Only.drew ?_) | (with_reducible exact Only.refl _ _) | (right; simp; done) | (right; simp; omega))))
  | some v =>
    have hv : v ≤ 15 := by
      unfold decMost at hd
      exact of_decide_eq_true (Option.filter_eq_some_iff.1 hd).2
    rw [hd] at hp HNU
    have HY : Hid (p = some ⟨8, a, b, (v : Int), n⟩) := hide hp.symm
    have hv2 : ¬ (v : Int) < 0 := by omega
    clear hp hd
    go_enter Tryd.func113, Tryd.ntmps113
    go_wp2_with (go_at_call 75; refine (HNU.out _).mono ?_; rintro e w2 ⟨rfl, hw2⟩; subst hw2)
    exact bodyPost_ret (by simp [results, Tryd.results113, go_sem]; first | done | rfl | omega) rfl (RFieldPost.yes HY.out (by repeat' (first | (with_reducible refine Only.setCell ?_ ?_ _) | (with_reducible refine Only.alloc ?_ _) | (with_reducible refine Only.drewN ?_ _) | (with_reducible refine Only.drew ?_) | (with_reducible exact Only.refl _ _) | (right; simp; done) | (right; simp; omega))))
set_option maxRecDepth 100000 in
set_option maxHeartbeats 4000000 in
theorem rf_9_2 (w : World) (A B : Int) (N : Bool) (a b c n : Int) (nm s : ByteArray) (line col : Int) (p : Option PIns) (hp : ((decMost 15 s.data.toList).map fun v => ((⟨9, a, b, v, n⟩) : PIns)) = p) (hsz : s.size ≤ 1000000) : Calls Tryd.prog 113 #[.agg #[.int .i64 9, .int .i64 a, .int .i64 b, .int .i64 c, .int .u64 n], .int .i64 2, .agg #[.string nm, .int .i64 A, .int .i64 B, .int .i64 15, .bool N], .agg #[.string s, .int .i64 line, .int .i64 col, .bool false]] w (RFieldPost w p) := by
  have ix : ∀ w, (Instr.index 173 (.agg #[.int .i64 A, .int .i64 B, .int .i64 15]) (.int .i64 2)).run Tryd.prog w = .ok (.int .i64 15) w := fun _ => by kernel_rfl
  have HNU := hide (fun w => rnumber_num s (by omega) 15 (by decide) w)
  cases hd : decMost 15 s.data.toList with
  | none =>
    rw [hd] at hp HNU
    have HN : Hid (p = none) := hide hp.symm
    clear hp hd
    go_enter Tryd.func113, Tryd.ntmps113
    go_wp2_with (go_at_call 75; refine (HNU.out _).mono ?_; rintro e w2 ⟨rfl, hw2⟩; subst hw2)
    exact bodyPost_ret (by simp [results, Tryd.results113, go_sem]; first | done | rfl | omega) rfl (RFieldPost.no HN.out ⟨9, a, b, c, n⟩ (by repeat' (first | (with_reducible refine Only.setCell ?_ ?_ _) | (with_reducible refine Only.alloc ?_ _) | (with_reducible refine Only.drewN ?_ _) | (with_reducible refine Only.drew ?_) | (with_reducible exact Only.refl _ _) | (right; simp; done) | (right; simp; omega))))
  | some v =>
    have hv : v ≤ 15 := by
      unfold decMost at hd
      exact of_decide_eq_true (Option.filter_eq_some_iff.1 hd).2
    rw [hd] at hp HNU
    have HY : Hid (p = some ⟨9, a, b, (v : Int), n⟩) := hide hp.symm
    have hv2 : ¬ (v : Int) < 0 := by omega
    clear hp hd
    go_enter Tryd.func113, Tryd.ntmps113
    go_wp2_with (go_at_call 75; refine (HNU.out _).mono ?_; rintro e w2 ⟨rfl, hw2⟩; subst hw2)
    exact bodyPost_ret (by simp [results, Tryd.results113, go_sem]; first | done | rfl | omega) rfl (RFieldPost.yes HY.out (by repeat' (first | (with_reducible refine Only.setCell ?_ ?_ _) | (with_reducible refine Only.alloc ?_ _) | (with_reducible refine Only.drewN ?_ _) | (with_reducible refine Only.drew ?_) | (with_reducible exact Only.refl _ _) | (right; simp; done) | (right; simp; omega))))
set_option maxRecDepth 100000 in
set_option maxHeartbeats 4000000 in
theorem rf_23_1 (w : World) (A C : Int) (N : Bool) (a b c n : Int) (nm s : ByteArray) (line col : Int) (p : Option PIns) (hp : ((decMost 7 s.data.toList).map fun v => ((⟨23, a, v, c, n⟩) : PIns)) = p) (hsz : s.size ≤ 1000000) : Calls Tryd.prog 113 #[.agg #[.int .i64 23, .int .i64 a, .int .i64 b, .int .i64 c, .int .u64 n], .int .i64 1, .agg #[.string nm, .int .i64 A, .int .i64 7, .int .i64 C, .bool N], .agg #[.string s, .int .i64 line, .int .i64 col, .bool false]] w (RFieldPost w p) := by
  have ix : ∀ w, (Instr.index 173 (.agg #[.int .i64 A, .int .i64 7, .int .i64 C]) (.int .i64 1)).run Tryd.prog w = .ok (.int .i64 7) w := fun _ => by kernel_rfl
  have HNU := hide (fun w => rnumber_num s (by omega) 7 (by decide) w)
  cases hd : decMost 7 s.data.toList with
  | none =>
    rw [hd] at hp HNU
    have HN : Hid (p = none) := hide hp.symm
    clear hp hd
    go_enter Tryd.func113, Tryd.ntmps113
    go_wp2_with (go_at_call 75; refine (HNU.out _).mono ?_; rintro e w2 ⟨rfl, hw2⟩; subst hw2)
    exact bodyPost_ret (by simp [results, Tryd.results113, go_sem]; first | done | rfl | omega) rfl (RFieldPost.no HN.out ⟨23, a, b, c, n⟩ (by repeat' (first | (with_reducible refine Only.setCell ?_ ?_ _) | (with_reducible refine Only.alloc ?_ _) | (with_reducible refine Only.drewN ?_ _) | (with_reducible refine Only.drew ?_) | (with_reducible exact Only.refl _ _) | (right; simp; done) | (right; simp; omega))))
  | some v =>
    have hv : v ≤ 7 := by
      unfold decMost at hd
      exact of_decide_eq_true (Option.filter_eq_some_iff.1 hd).2
    rw [hd] at hp HNU
    have HY : Hid (p = some ⟨23, a, (v : Int), c, n⟩) := hide hp.symm
    have hv2 : ¬ (v : Int) < 0 := by omega
    clear hp hd
    go_enter Tryd.func113, Tryd.ntmps113
    go_wp2_with (go_at_call 75; refine (HNU.out _).mono ?_; rintro e w2 ⟨rfl, hw2⟩; subst hw2)
    exact bodyPost_ret (by simp [results, Tryd.results113, go_sem]; first | done | rfl | omega) rfl (RFieldPost.yes HY.out (by repeat' (first | (with_reducible refine Only.setCell ?_ ?_ _) | (with_reducible refine Only.alloc ?_ _) | (with_reducible refine Only.drewN ?_ _) | (with_reducible refine Only.drew ?_) | (with_reducible exact Only.refl _ _) | (right; simp; done) | (right; simp; omega))))
end Go.Proofs.YtngahgfppbjebaaDoor
