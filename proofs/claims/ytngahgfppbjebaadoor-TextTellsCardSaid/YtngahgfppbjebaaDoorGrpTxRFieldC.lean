/-
  The contract of the reference's field: printed by a program, way by way.
  The contract of the reference's field: printed by a program, way by way.
-/
import Derived.Test.YtngahgfppbjebaaDoorTxRFieldA
namespace Go.Proofs.YtngahgfppbjebaaDoor
open Go.RowKit Go.Lib
set_option linter.unusedVariables false
set_option linter.unusedSimpArgs false

set_option maxRecDepth 100000 in
set_option maxHeartbeats 4000000 in
theorem rf_reg0 (w : World) (op : Int) (h23 : (op == 23) = false) (h8 : (op == 8) = false) (h9 : (op == 9) = false) (B C : Int) (N : Bool) (a b c n : Int) (nm s : ByteArray) (line col : Int) (p : Option PIns) (hp : ((regP s.data.toList 7).map fun v => ((⟨op, v, b, c, n⟩) : PIns)) = p) (hsz : s.size ≤ 1000000) : Calls Tryd.prog 113 #[.agg #[.int .i64 op, .int .i64 a, .int .i64 b, .int .i64 c, .int .u64 n], .int .i64 0, .agg #[.string nm, .int .i64 7, .int .i64 B, .int .i64 C, .bool N], .agg #[.string s, .int .i64 line, .int .i64 col, .bool false]] w (RFieldPost w p) := by
  have ix : ∀ w, (Instr.index 173 (.agg #[.int .i64 7, .int .i64 B, .int .i64 C]) (.int .i64 0)).run Tryd.prog w = .ok (.int .i64 7) w := fun _ => by kernel_rfl
  have HP := hide hp
  clear hp
  by_cases h2 : s.size = 2
  · obtain ⟨x, y, hs⟩ := two_bytes s h2
    have h0 : s[0] = x := by subst hs; rfl
    have h1 : s[1] = y := by subst hs; rfl
    have HR : Hid (regP s.data.toList 7 = if x = 114 ∧ 48 ≤ y.toNat ∧ y.toNat - 48 ≤ 7 then some (y.toNat - 48) else none) := hide (by subst hs; exact reg_two x y 7 (by decide))
    have h2I : ((s.size : Int) == 2) = true := by rw [h2]; rfl
    have hy := y.toNat_lt
    clear hs
    by_cases hx : x = 114
    · have hxI : ((x.toNat : Int) == 114) = true := by rw [hx]; rfl
      by_cases hy1 : 48 ≤ y.toNat
      · have hy1I : (48 : Int) ≤ (y.toNat : Int) := by omega
        obtain ⟨z, hz⟩ : ∃ z : Nat, ((y.toNat : Int) - 48) % 256 = (z : Int) ∧ y.toNat - 48 = z := ⟨y.toNat - 48, by omega, rfl⟩
        obtain ⟨hz1, hz3⟩ := hz
        by_cases hy2 : z ≤ 7
        · have hz2 : (z : Int) ≤ 7 := by omega
          have hz4 : ¬ (z : Int) < 0 := by omega
          have HY : Hid (p = some ⟨op, (z : Int), b, c, n⟩) := hide (by rw [← HP.out, HR.out, if_pos ⟨hx, hy1, by omega⟩, hz3]; rfl)
          clear HR
          go_enter Tryd.func113, Tryd.ntmps113
          go_wp2
          exact bodyPost_ret (by simp [results, Tryd.results113, go_sem]; first | done | rfl | omega) rfl (RFieldPost.yes HY.out (by repeat' (first | (with_reducible refine Only.setCell ?_ ?_ _) | (with_reducible refine Only.alloc ?_ _) | (with_reducible refine Only.drewN ?_ _) | (with_reducible refine Only.drew ?_) | (with_reducible exact Only.refl _ _) | (right; simp; done) | (right; simp; omega))))
        · have hz2 : ¬ (z : Int) ≤ 7 := by omega
          have HN : Hid (p = none) := hide (by rw [← HP.out, HR.out, if_neg (by omega)]; rfl)
          clear HR
          go_enter Tryd.func113, Tryd.ntmps113
          go_wp2
          exact bodyPost_ret (by simp [results, Tryd.results113, go_sem]; first | done | rfl | omega) rfl (RFieldPost.no HN.out ⟨op, a, b, c, n⟩ (by repeat' (first | (with_reducible refine Only.setCell ?_ ?_ _) | (with_reducible refine Only.alloc ?_ _) | (with_reducible refine Only.drewN ?_ _) | (with_reducible refine Only.drew ?_) | (with_reducible exact Only.refl _ _) | (right; simp; done) | (right; simp; omega))))
      · have hy1I : ¬ (48 : Int) ≤ (y.toNat : Int) := by omega
        have HN : Hid (p = none) := hide (by rw [← HP.out, HR.out, if_neg (by omega)]; rfl)
        clear HR
        go_enter Tryd.func113, Tryd.ntmps113
        go_wp2
        exact bodyPost_ret (by simp [results, Tryd.results113, go_sem]; first | done | rfl | omega) rfl (RFieldPost.no HN.out ⟨op, a, b, c, n⟩ (by repeat' (first | (with_reducible refine Only.setCell ?_ ?_ _) | (with_reducible refine Only.alloc ?_ _) | (with_reducible refine Only.drewN ?_ _) | (with_reducible refine Only.drew ?_) | (with_reducible exact Only.refl _ _) | (right; simp; done) | (right; simp; omega))))
    · have hxI : ((x.toNat : Int) == 114) = false := by
        rw [beq_eq_false_iff_ne]
        intro e
        exact hx (UInt8.toNat_inj.1 (by have h48 : (114 : UInt8).toNat = 114 := rfl; omega))
      have HN : Hid (p = none) := hide (by rw [← HP.out, HR.out, if_neg (by exact fun h => hx h.1)]; rfl)
      clear HR
      go_enter Tryd.func113, Tryd.ntmps113
      go_wp2
      exact bodyPost_ret (by simp [results, Tryd.results113, go_sem]; first | done | rfl | omega) rfl (RFieldPost.no HN.out ⟨op, a, b, c, n⟩ (by repeat' (first | (with_reducible refine Only.setCell ?_ ?_ _) | (with_reducible refine Only.alloc ?_ _) | (with_reducible refine Only.drewN ?_ _) | (with_reducible refine Only.drew ?_) | (with_reducible exact Only.refl _ _) | (right; simp; done) | (right; simp; omega))))
  · have h2I : ((s.size : Int) == 2) = false := by rw [beq_eq_false_iff_ne]; omega
    have HR : Hid (p = none) := hide (by rw [← HP.out, regP_len _ _ (by simpa using h2)]; rfl)
    go_enter Tryd.func113, Tryd.ntmps113
    go_wp2
    exact bodyPost_ret (by simp [results, Tryd.results113, go_sem]; first | done | rfl | omega) rfl (RFieldPost.no HR.out ⟨op, a, b, c, n⟩ (by repeat' (first | (with_reducible refine Only.setCell ?_ ?_ _) | (with_reducible refine Only.alloc ?_ _) | (with_reducible refine Only.drewN ?_ _) | (with_reducible refine Only.drew ?_) | (with_reducible exact Only.refl _ _) | (right; simp; done) | (right; simp; omega))))
set_option maxRecDepth 100000 in
set_option maxHeartbeats 4000000 in
theorem rf_reg1 (w : World) (op : Int) (h23 : (op == 23) = false) (h8 : (op == 8) = false) (h9 : (op == 9) = false) (A C : Int) (N : Bool) (a b c n : Int) (nm s : ByteArray) (line col : Int) (p : Option PIns) (hp : ((regP s.data.toList 7).map fun v => ((⟨op, a, v, c, n⟩) : PIns)) = p) (hsz : s.size ≤ 1000000) : Calls Tryd.prog 113 #[.agg #[.int .i64 op, .int .i64 a, .int .i64 b, .int .i64 c, .int .u64 n], .int .i64 1, .agg #[.string nm, .int .i64 A, .int .i64 7, .int .i64 C, .bool N], .agg #[.string s, .int .i64 line, .int .i64 col, .bool false]] w (RFieldPost w p) := by
  have ix : ∀ w, (Instr.index 173 (.agg #[.int .i64 A, .int .i64 7, .int .i64 C]) (.int .i64 1)).run Tryd.prog w = .ok (.int .i64 7) w := fun _ => by kernel_rfl
  have HP := hide hp
  clear hp
  by_cases h2 : s.size = 2
  · obtain ⟨x, y, hs⟩ := two_bytes s h2
    have h0 : s[0] = x := by subst hs; rfl
    have h1 : s[1] = y := by subst hs; rfl
    have HR : Hid (regP s.data.toList 7 = if x = 114 ∧ 48 ≤ y.toNat ∧ y.toNat - 48 ≤ 7 then some (y.toNat - 48) else none) := hide (by subst hs; exact reg_two x y 7 (by decide))
    have h2I : ((s.size : Int) == 2) = true := by rw [h2]; rfl
    have hy := y.toNat_lt
    clear hs
    by_cases hx : x = 114
    · have hxI : ((x.toNat : Int) == 114) = true := by rw [hx]; rfl
      by_cases hy1 : 48 ≤ y.toNat
      · have hy1I : (48 : Int) ≤ (y.toNat : Int) := by omega
        obtain ⟨z, hz⟩ : ∃ z : Nat, ((y.toNat : Int) - 48) % 256 = (z : Int) ∧ y.toNat - 48 = z := ⟨y.toNat - 48, by omega, rfl⟩
        obtain ⟨hz1, hz3⟩ := hz
        by_cases hy2 : z ≤ 7
        · have hz2 : (z : Int) ≤ 7 := by omega
          have hz4 : ¬ (z : Int) < 0 := by omega
          have HY : Hid (p = some ⟨op, a, (z : Int), c, n⟩) := hide (by rw [← HP.out, HR.out, if_pos ⟨hx, hy1, by omega⟩, hz3]; rfl)
          clear HR
          go_enter Tryd.func113, Tryd.ntmps113
          go_wp2
          exact bodyPost_ret (by simp [results, Tryd.results113, go_sem]; first | done | rfl | omega) rfl (RFieldPost.yes HY.out (by repeat' (first | (with_reducible refine Only.setCell ?_ ?_ _) | (with_reducible refine Only.alloc ?_ _) | (with_reducible refine Only.drewN ?_ _) | (with_reducible refine Only.drew ?_) | (with_reducible exact Only.refl _ _) | (right; simp; done) | (right; simp; omega))))
        · have hz2 : ¬ (z : Int) ≤ 7 := by omega
          have HN : Hid (p = none) := hide (by rw [← HP.out, HR.out, if_neg (by omega)]; rfl)
          clear HR
          go_enter Tryd.func113, Tryd.ntmps113
          go_wp2
          exact bodyPost_ret (by simp [results, Tryd.results113, go_sem]; first | done | rfl | omega) rfl (RFieldPost.no HN.out ⟨op, a, b, c, n⟩ (by repeat' (first | (with_reducible refine Only.setCell ?_ ?_ _) | (with_reducible refine Only.alloc ?_ _) | (with_reducible refine Only.drewN ?_ _) | (with_reducible refine Only.drew ?_) | (with_reducible exact Only.refl _ _) | (right; simp; done) | (right; simp; omega))))
      · have hy1I : ¬ (48 : Int) ≤ (y.toNat : Int) := by omega
        have HN : Hid (p = none) := hide (by rw [← HP.out, HR.out, if_neg (by omega)]; rfl)
        clear HR
        go_enter Tryd.func113, Tryd.ntmps113
        go_wp2
        exact bodyPost_ret (by simp [results, Tryd.results113, go_sem]; first | done | rfl | omega) rfl (RFieldPost.no HN.out ⟨op, a, b, c, n⟩ (by repeat' (first | (with_reducible refine Only.setCell ?_ ?_ _) | (with_reducible refine Only.alloc ?_ _) | (with_reducible refine Only.drewN ?_ _) | (with_reducible refine Only.drew ?_) | (with_reducible exact Only.refl _ _) | (right; simp; done) | (right; simp; omega))))
    · have hxI : ((x.toNat : Int) == 114) = false := by
        rw [beq_eq_false_iff_ne]
        intro e
        exact hx (UInt8.toNat_inj.1 (by have h48 : (114 : UInt8).toNat = 114 := rfl; omega))
      have HN : Hid (p = none) := hide (by rw [← HP.out, HR.out, if_neg (by exact fun h => hx h.1)]; rfl)
      clear HR
      go_enter Tryd.func113, Tryd.ntmps113
      go_wp2
      exact bodyPost_ret (by simp [results, Tryd.results113, go_sem]; first | done | rfl | omega) rfl (RFieldPost.no HN.out ⟨op, a, b, c, n⟩ (by repeat' (first | (with_reducible refine Only.setCell ?_ ?_ _) | (with_reducible refine Only.alloc ?_ _) | (with_reducible refine Only.drewN ?_ _) | (with_reducible refine Only.drew ?_) | (with_reducible exact Only.refl _ _) | (right; simp; done) | (right; simp; omega))))
  · have h2I : ((s.size : Int) == 2) = false := by rw [beq_eq_false_iff_ne]; omega
    have HR : Hid (p = none) := hide (by rw [← HP.out, regP_len _ _ (by simpa using h2)]; rfl)
    go_enter Tryd.func113, Tryd.ntmps113
    go_wp2
    exact bodyPost_ret (by simp [results, Tryd.results113, go_sem]; first | done | rfl | omega) rfl (RFieldPost.no HR.out ⟨op, a, b, c, n⟩ (by repeat' (first | (with_reducible refine Only.setCell ?_ ?_ _) | (with_reducible refine Only.alloc ?_ _) | (with_reducible refine Only.drewN ?_ _) | (with_reducible refine Only.drew ?_) | (with_reducible exact Only.refl _ _) | (right; simp; done) | (right; simp; omega))))
set_option maxRecDepth 100000 in
set_option maxHeartbeats 4000000 in
theorem rf_reg2 (w : World) (op : Int) (h23 : (op == 23) = false) (h8 : (op == 8) = false) (h9 : (op == 9) = false) (A B : Int) (N : Bool) (a b c n : Int) (nm s : ByteArray) (line col : Int) (p : Option PIns) (hp : ((regP s.data.toList 7).map fun v => ((⟨op, a, b, v, n⟩) : PIns)) = p) (hsz : s.size ≤ 1000000) : Calls Tryd.prog 113 #[.agg #[.int .i64 op, .int .i64 a, .int .i64 b, .int .i64 c, .int .u64 n], .int .i64 2, .agg #[.string nm, .int .i64 A, .int .i64 B, .int .i64 7, .bool N], .agg #[.string s, .int .i64 line, .int .i64 col, .bool false]] w (RFieldPost w p) := by
  have ix : ∀ w, (Instr.index 173 (.agg #[.int .i64 A, .int .i64 B, .int .i64 7]) (.int .i64 2)).run Tryd.prog w = .ok (.int .i64 7) w := fun _ => by kernel_rfl
  have HP := hide hp
  clear hp
  by_cases h2 : s.size = 2
  · obtain ⟨x, y, hs⟩ := two_bytes s h2
    have h0 : s[0] = x := by subst hs; rfl
    have h1 : s[1] = y := by subst hs; rfl
    have HR : Hid (regP s.data.toList 7 = if x = 114 ∧ 48 ≤ y.toNat ∧ y.toNat - 48 ≤ 7 then some (y.toNat - 48) else none) := hide (by subst hs; exact reg_two x y 7 (by decide))
    have h2I : ((s.size : Int) == 2) = true := by rw [h2]; rfl
    have hy := y.toNat_lt
    clear hs
    by_cases hx : x = 114
    · have hxI : ((x.toNat : Int) == 114) = true := by rw [hx]; rfl
      by_cases hy1 : 48 ≤ y.toNat
      · have hy1I : (48 : Int) ≤ (y.toNat : Int) := by omega
        obtain ⟨z, hz⟩ : ∃ z : Nat, ((y.toNat : Int) - 48) % 256 = (z : Int) ∧ y.toNat - 48 = z := ⟨y.toNat - 48, by omega, rfl⟩
        obtain ⟨hz1, hz3⟩ := hz
        by_cases hy2 : z ≤ 7
        · have hz2 : (z : Int) ≤ 7 := by omega
          have hz4 : ¬ (z : Int) < 0 := by omega
          have HY : Hid (p = some ⟨op, a, b, (z : Int), n⟩) := hide (by rw [← HP.out, HR.out, if_pos ⟨hx, hy1, by omega⟩, hz3]; rfl)
          clear HR
          go_enter Tryd.func113, Tryd.ntmps113
          go_wp2
          exact bodyPost_ret (by simp [results, Tryd.results113, go_sem]; first | done | rfl | omega) rfl (RFieldPost.yes HY.out (by repeat' (first | (with_reducible refine Only.setCell ?_ ?_ _) | (with_reducible refine Only.alloc ?_ _) | (with_reducible refine Only.drewN ?_ _) | (with_reducible refine Only.drew ?_) | (with_reducible exact Only.refl _ _) | (right; simp; done) | (right; simp; omega))))
        · have hz2 : ¬ (z : Int) ≤ 7 := by omega
          have HN : Hid (p = none) := hide (by rw [← HP.out, HR.out, if_neg (by omega)]; rfl)
          clear HR
          go_enter Tryd.func113, Tryd.ntmps113
          go_wp2
          exact bodyPost_ret (by simp [results, Tryd.results113, go_sem]; first | done | rfl | omega) rfl (RFieldPost.no HN.out ⟨op, a, b, c, n⟩ (by repeat' (first | (with_reducible refine Only.setCell ?_ ?_ _) | (with_reducible refine Only.alloc ?_ _) | (with_reducible refine Only.drewN ?_ _) | (with_reducible refine Only.drew ?_) | (with_reducible exact Only.refl _ _) | (right; simp; done) | (right; simp; omega))))
      · have hy1I : ¬ (48 : Int) ≤ (y.toNat : Int) := by omega
        have HN : Hid (p = none) := hide (by rw [← HP.out, HR.out, if_neg (by omega)]; rfl)
        clear HR
        go_enter Tryd.func113, Tryd.ntmps113
        go_wp2
        exact bodyPost_ret (by simp [results, Tryd.results113, go_sem]; first | done | rfl | omega) rfl (RFieldPost.no HN.out ⟨op, a, b, c, n⟩ (by repeat' (first | (with_reducible refine Only.setCell ?_ ?_ _) | (with_reducible refine Only.alloc ?_ _) | (with_reducible refine Only.drewN ?_ _) | (with_reducible refine Only.drew ?_) | (with_reducible exact Only.refl _ _) | (right; simp; done) | (right; simp; omega))))
    · have hxI : ((x.toNat : Int) == 114) = false := by
        rw [beq_eq_false_iff_ne]
        intro e
        exact hx (UInt8.toNat_inj.1 (by have h48 : (114 : UInt8).toNat = 114 := rfl; omega))
      have HN : Hid (p = none) := hide (by rw [← HP.out, HR.out, if_neg (by exact fun h => hx h.1)]; rfl)
      clear HR
      go_enter Tryd.func113, Tryd.ntmps113
      go_wp2
      exact bodyPost_ret (by simp [results, Tryd.results113, go_sem]; first | done | rfl | omega) rfl (RFieldPost.no HN.out ⟨op, a, b, c, n⟩ (by repeat' (first | (with_reducible refine Only.setCell ?_ ?_ _) | (with_reducible refine Only.alloc ?_ _) | (with_reducible refine Only.drewN ?_ _) | (with_reducible refine Only.drew ?_) | (with_reducible exact Only.refl _ _) | (right; simp; done) | (right; simp; omega))))
  · have h2I : ((s.size : Int) == 2) = false := by rw [beq_eq_false_iff_ne]; omega
    have HR : Hid (p = none) := hide (by rw [← HP.out, regP_len _ _ (by simpa using h2)]; rfl)
    go_enter Tryd.func113, Tryd.ntmps113
    go_wp2
    exact bodyPost_ret (by simp [results, Tryd.results113, go_sem]; first | done | rfl | omega) rfl (RFieldPost.no HR.out ⟨op, a, b, c, n⟩ (by repeat' (first | (with_reducible refine Only.setCell ?_ ?_ _) | (with_reducible refine Only.alloc ?_ _) | (with_reducible refine Only.drewN ?_ _) | (with_reducible refine Only.drew ?_) | (with_reducible exact Only.refl _ _) | (right; simp; done) | (right; simp; omega))))
set_option maxRecDepth 100000 in
set_option maxHeartbeats 4000000 in
theorem rf_23_2 (w : World) (A B : Int) (N : Bool) (a b c n : Int) (nm s : ByteArray) (line col : Int) (p : Option PIns) (hp : ((regP s.data.toList 6).map fun v => ((⟨23, a, b, v, n⟩) : PIns)) = p) (hsz : s.size ≤ 1000000) : Calls Tryd.prog 113 #[.agg #[.int .i64 23, .int .i64 a, .int .i64 b, .int .i64 c, .int .u64 n], .int .i64 2, .agg #[.string nm, .int .i64 A, .int .i64 B, .int .i64 6, .bool N], .agg #[.string s, .int .i64 line, .int .i64 col, .bool false]] w (RFieldPost w p) := by
  have ix : ∀ w, (Instr.index 173 (.agg #[.int .i64 A, .int .i64 B, .int .i64 6]) (.int .i64 2)).run Tryd.prog w = .ok (.int .i64 6) w := fun _ => by kernel_rfl
  have HP := hide hp
  clear hp
  by_cases h2 : s.size = 2
  · obtain ⟨x, y, hs⟩ := two_bytes s h2
    have h0 : s[0] = x := by subst hs; rfl
    have h1 : s[1] = y := by subst hs; rfl
    have HR : Hid (regP s.data.toList 6 = if x = 114 ∧ 48 ≤ y.toNat ∧ y.toNat - 48 ≤ 6 then some (y.toNat - 48) else none) := hide (by subst hs; exact reg_two x y 6 (by decide))
    have h2I : ((s.size : Int) == 2) = true := by rw [h2]; rfl
    have hy := y.toNat_lt
    clear hs
    by_cases hx : x = 114
    · have hxI : ((x.toNat : Int) == 114) = true := by rw [hx]; rfl
      by_cases hy1 : 48 ≤ y.toNat
      · have hy1I : (48 : Int) ≤ (y.toNat : Int) := by omega
        obtain ⟨z, hz⟩ : ∃ z : Nat, ((y.toNat : Int) - 48) % 256 = (z : Int) ∧ y.toNat - 48 = z := ⟨y.toNat - 48, by omega, rfl⟩
        obtain ⟨hz1, hz3⟩ := hz
        by_cases hy2 : z ≤ 6
        · have hz2 : (z : Int) ≤ 6 := by omega
          have hz4 : ¬ (z : Int) < 0 := by omega
          have HY : Hid (p = some ⟨23, a, b, (z : Int), n⟩) := hide (by rw [← HP.out, HR.out, if_pos ⟨hx, hy1, by omega⟩, hz3]; rfl)
          clear HR
          go_enter Tryd.func113, Tryd.ntmps113
          go_wp2
          exact bodyPost_ret (by simp [results, Tryd.results113, go_sem]; first | done | rfl | omega) rfl (RFieldPost.yes HY.out (by repeat' (first | (with_reducible refine Only.setCell ?_ ?_ _) | (with_reducible refine Only.alloc ?_ _) | (with_reducible refine Only.drewN ?_ _) | (with_reducible refine Only.drew ?_) | (with_reducible exact Only.refl _ _) | (right; simp; done) | (right; simp; omega))))
        · have hz2 : ¬ (z : Int) ≤ 6 := by omega
          have HN : Hid (p = none) := hide (by rw [← HP.out, HR.out, if_neg (by omega)]; rfl)
          clear HR
          go_enter Tryd.func113, Tryd.ntmps113
          go_wp2
          exact bodyPost_ret (by simp [results, Tryd.results113, go_sem]; first | done | rfl | omega) rfl (RFieldPost.no HN.out ⟨23, a, b, c, n⟩ (by repeat' (first | (with_reducible refine Only.setCell ?_ ?_ _) | (with_reducible refine Only.alloc ?_ _) | (with_reducible refine Only.drewN ?_ _) | (with_reducible refine Only.drew ?_) | (with_reducible exact Only.refl _ _) | (right; simp; done) | (right; simp; omega))))
      · have hy1I : ¬ (48 : Int) ≤ (y.toNat : Int) := by omega
        have HN : Hid (p = none) := hide (by rw [← HP.out, HR.out, if_neg (by omega)]; rfl)
        clear HR
        go_enter Tryd.func113, Tryd.ntmps113
        go_wp2
        exact bodyPost_ret (by simp [results, Tryd.results113, go_sem]; first | done | rfl | omega) rfl (RFieldPost.no HN.out ⟨23, a, b, c, n⟩ (by repeat' (first | (with_reducible refine Only.setCell ?_ ?_ _) | (with_reducible refine Only.alloc ?_ _) | (with_reducible refine Only.drewN ?_ _) | (with_reducible refine Only.drew ?_) | (with_reducible exact Only.refl _ _) | (right; simp; done) | (right; simp; omega))))
    · have hxI : ((x.toNat : Int) == 114) = false := by
        rw [beq_eq_false_iff_ne]
        intro e
        exact hx (UInt8.toNat_inj.1 (by have h48 : (114 : UInt8).toNat = 114 := rfl; omega))
      have HN : Hid (p = none) := hide (by rw [← HP.out, HR.out, if_neg (by exact fun h => hx h.1)]; rfl)
      clear HR
      go_enter Tryd.func113, Tryd.ntmps113
      go_wp2
      exact bodyPost_ret (by simp [results, Tryd.results113, go_sem]; first | done | rfl | omega) rfl (RFieldPost.no HN.out ⟨23, a, b, c, n⟩ (by repeat' (first | (with_reducible refine Only.setCell ?_ ?_ _) | (with_reducible refine Only.alloc ?_ _) | (with_reducible refine Only.drewN ?_ _) | (with_reducible refine Only.drew ?_) | (with_reducible exact Only.refl _ _) | (right; simp; done) | (right; simp; omega))))
  · have h2I : ((s.size : Int) == 2) = false := by rw [beq_eq_false_iff_ne]; omega
    have HR : Hid (p = none) := hide (by rw [← HP.out, regP_len _ _ (by simpa using h2)]; rfl)
    go_enter Tryd.func113, Tryd.ntmps113
    go_wp2
    exact bodyPost_ret (by simp [results, Tryd.results113, go_sem]; first | done | rfl | omega) rfl (RFieldPost.no HR.out ⟨23, a, b, c, n⟩ (by repeat' (first | (with_reducible refine Only.setCell ?_ ?_ _) | (with_reducible refine Only.alloc ?_ _) | (with_reducible refine Only.drewN ?_ _) | (with_reducible refine Only.drew ?_) | (with_reducible exact Only.refl _ _) | (right; simp; done) | (right; simp; omega))))
end Go.Proofs.YtngahgfppbjebaaDoor
namespace Go.Proofs.YtngahgfppbjebaaDoor
open Go.RowKit Go.Lib
set_option linter.unusedVariables false
set_option linter.unusedSimpArgs false

set_option maxRecDepth 100000 in
set_option maxHeartbeats 4000000 in
theorem rf_8_0 (w : World) (B C : Int) (N : Bool) (a b c n : Int) (nm s : ByteArray) (line col : Int) (p : Option PIns) (hp : ((regP s.data.toList 7).map fun v => ((⟨8, v, b, c, n⟩) : PIns)) = p) (hsz : s.size ≤ 1000000) : Calls Tryd.prog 113 #[.agg #[.int .i64 8, .int .i64 a, .int .i64 b, .int .i64 c, .int .u64 n], .int .i64 0, .agg #[.string nm, .int .i64 7, .int .i64 B, .int .i64 C, .bool N], .agg #[.string s, .int .i64 line, .int .i64 col, .bool false]] w (RFieldPost w p) := by
  have ix : ∀ w, (Instr.index 173 (.agg #[.int .i64 7, .int .i64 B, .int .i64 C]) (.int .i64 0)).run Tryd.prog w = .ok (.int .i64 7) w := fun _ => by kernel_rfl
  have HP := hide hp
  clear hp
  by_cases h2 : s.size = 2
  · obtain ⟨x, y, hs⟩ := two_bytes s h2
    have h0 : s[0] = x := by subst hs; rfl
    have h1 : s[1] = y := by subst hs; rfl
    have HR : Hid (regP s.data.toList 7 = if x = 114 ∧ 48 ≤ y.toNat ∧ y.toNat - 48 ≤ 7 then some (y.toNat - 48) else none) := hide (by subst hs; exact reg_two x y 7 (by decide))
    have h2I : ((s.size : Int) == 2) = true := by rw [h2]; rfl
    have hy := y.toNat_lt
    clear hs
    by_cases hx : x = 114
    · have hxI : ((x.toNat : Int) == 114) = true := by rw [hx]; rfl
      by_cases hy1 : 48 ≤ y.toNat
      · have hy1I : (48 : Int) ≤ (y.toNat : Int) := by omega
        obtain ⟨z, hz⟩ : ∃ z : Nat, ((y.toNat : Int) - 48) % 256 = (z : Int) ∧ y.toNat - 48 = z := ⟨y.toNat - 48, by omega, rfl⟩
        obtain ⟨hz1, hz3⟩ := hz
        by_cases hy2 : z ≤ 7
        · have hz2 : (z : Int) ≤ 7 := by omega
          have hz4 : ¬ (z : Int) < 0 := by omega
          have HY : Hid (p = some ⟨8, (z : Int), b, c, n⟩) := hide (by rw [← HP.out, HR.out, if_pos ⟨hx, hy1, by omega⟩, hz3]; rfl)
          clear HR
          go_enter Tryd.func113, Tryd.ntmps113
          go_wp2
          exact bodyPost_ret (by simp [results, Tryd.results113, go_sem]; first | done | rfl | omega) rfl (RFieldPost.yes HY.out (by repeat' (first | (with_reducible refine Only.setCell ?_ ?_ _) | (with_reducible refine Only.alloc ?_ _) | (with_reducible refine Only.drewN ?_ _) | (with_reducible refine Only.drew ?_) | (with_reducible exact Only.refl _ _) | (right; simp; done) | (right; simp; omega))))
        · have hz2 : ¬ (z : Int) ≤ 7 := by omega
          have HN : Hid (p = none) := hide (by rw [← HP.out, HR.out, if_neg (by omega)]; rfl)
          clear HR
          go_enter Tryd.func113, Tryd.ntmps113
          go_wp2
          exact bodyPost_ret (by simp [results, Tryd.results113, go_sem]; first | done | rfl | omega) rfl (RFieldPost.no HN.out ⟨8, a, b, c, n⟩ (by repeat' (first | (with_reducible refine Only.setCell ?_ ?_ _) | (with_reducible refine Only.alloc ?_ _) | (with_reducible refine Only.drewN ?_ _) | (with_reducible refine Only.drew ?_) | (with_reducible exact Only.refl _ _) | (right; simp; done) | (right; simp; omega))))
      · have hy1I : ¬ (48 : Int) ≤ (y.toNat : Int) := by omega
        have HN : Hid (p = none) := hide (by rw [← HP.out, HR.out, if_neg (by omega)]; rfl)
        clear HR
        go_enter Tryd.func113, Tryd.ntmps113
        go_wp2
        exact bodyPost_ret (by simp [results, Tryd.results113, go_sem]; first | done | rfl | omega) rfl (RFieldPost.no HN.out ⟨8, a, b, c, n⟩ (by repeat' (first | (with_reducible refine Only.setCell ?_ ?_ _) | (with_reducible refine Only.alloc ?_ _) | (with_reducible refine Only.drewN ?_ _) | (with_reducible refine Only.drew ?_) | (with_reducible exact Only.refl _ _) | (right; simp; done) | (right; simp; omega))))
    · have hxI : ((x.toNat : Int) == 114) = false := by
        rw [beq_eq_false_iff_ne]
        intro e
        exact hx (UInt8.toNat_inj.1 (by have h48 : (114 : UInt8).toNat = 114 := rfl; omega))
      have HN : Hid (p = none) := hide (by rw [← HP.out, HR.out, if_neg (by exact fun h => hx h.1)]; rfl)
      clear HR
      go_enter Tryd.func113, Tryd.ntmps113
      go_wp2
      exact bodyPost_ret (by simp [results, Tryd.results113, go_sem]; first | done | rfl | omega) rfl (RFieldPost.no HN.out ⟨8, a, b, c, n⟩ (by repeat' (first | (with_reducible refine Only.setCell ?_ ?_ _) | (with_reducible refine Only.alloc ?_ _) | (with_reducible refine Only.drewN ?_ _) | (with_reducible refine Only.drew ?_) | (with_reducible exact Only.refl _ _) | (right; simp; done) | (right; simp; omega))))
  · have h2I : ((s.size : Int) == 2) = false := by rw [beq_eq_false_iff_ne]; omega
    have HR : Hid (p = none) := hide (by rw [← HP.out, regP_len _ _ (by simpa using h2)]; rfl)
    go_enter Tryd.func113, Tryd.ntmps113
    go_wp2
    exact bodyPost_ret (by simp [results, Tryd.results113, go_sem]; first | done | rfl | omega) rfl (RFieldPost.no HR.out ⟨8, a, b, c, n⟩ (by repeat' (first | (with_reducible refine Only.setCell ?_ ?_ _) | (with_reducible refine Only.alloc ?_ _) | (with_reducible refine Only.drewN ?_ _) | (with_reducible refine Only.drew ?_) | (with_reducible exact Only.refl _ _) | (right; simp; done) | (right; simp; omega))))
set_option maxRecDepth 100000 in
set_option maxHeartbeats 4000000 in
theorem rf_8_1 (w : World) (A C : Int) (N : Bool) (a b c n : Int) (nm s : ByteArray) (line col : Int) (p : Option PIns) (hp : ((regP s.data.toList 7).map fun v => ((⟨8, a, v, c, n⟩) : PIns)) = p) (hsz : s.size ≤ 1000000) : Calls Tryd.prog 113 #[.agg #[.int .i64 8, .int .i64 a, .int .i64 b, .int .i64 c, .int .u64 n], .int .i64 1, .agg #[.string nm, .int .i64 A, .int .i64 7, .int .i64 C, .bool N], .agg #[.string s, .int .i64 line, .int .i64 col, .bool false]] w (RFieldPost w p) := by
  have ix : ∀ w, (Instr.index 173 (.agg #[.int .i64 A, .int .i64 7, .int .i64 C]) (.int .i64 1)).run Tryd.prog w = .ok (.int .i64 7) w := fun _ => by kernel_rfl
  have HP := hide hp
  clear hp
  by_cases h2 : s.size = 2
  · obtain ⟨x, y, hs⟩ := two_bytes s h2
    have h0 : s[0] = x := by subst hs; rfl
    have h1 : s[1] = y := by subst hs; rfl
    have HR : Hid (regP s.data.toList 7 = if x = 114 ∧ 48 ≤ y.toNat ∧ y.toNat - 48 ≤ 7 then some (y.toNat - 48) else none) := hide (by subst hs; exact reg_two x y 7 (by decide))
    have h2I : ((s.size : Int) == 2) = true := by rw [h2]; rfl
    have hy := y.toNat_lt
    clear hs
    by_cases hx : x = 114
    · have hxI : ((x.toNat : Int) == 114) = true := by rw [hx]; rfl
      by_cases hy1 : 48 ≤ y.toNat
      · have hy1I : (48 : Int) ≤ (y.toNat : Int) := by omega
        obtain ⟨z, hz⟩ : ∃ z : Nat, ((y.toNat : Int) - 48) % 256 = (z : Int) ∧ y.toNat - 48 = z := ⟨y.toNat - 48, by omega, rfl⟩
        obtain ⟨hz1, hz3⟩ := hz
        by_cases hy2 : z ≤ 7
        · have hz2 : (z : Int) ≤ 7 := by omega
          have hz4 : ¬ (z : Int) < 0 := by omega
          have HY : Hid (p = some ⟨8, a, (z : Int), c, n⟩) := hide (by rw [← HP.out, HR.out, if_pos ⟨hx, hy1, by omega⟩, hz3]; rfl)
          clear HR
          go_enter Tryd.func113, Tryd.ntmps113
          go_wp2
          exact bodyPost_ret (by simp [results, Tryd.results113, go_sem]; first | done | rfl | omega) rfl (RFieldPost.yes HY.out (by repeat' (first | (with_reducible refine Only.setCell ?_ ?_ _) | (with_reducible refine Only.alloc ?_ _) | (with_reducible refine Only.drewN ?_ _) | (with_reducible refine Only.drew ?_) | (with_reducible exact Only.refl _ _) | (right; simp; done) | (right; simp; omega))))
        · have hz2 : ¬ (z : Int) ≤ 7 := by omega
          have HN : Hid (p = none) := hide (by rw [← HP.out, HR.out, if_neg (by omega)]; rfl)
          clear HR
          go_enter Tryd.func113, Tryd.ntmps113
          go_wp2
          exact bodyPost_ret (by simp [results, Tryd.results113, go_sem]; first | done | rfl | omega) rfl (RFieldPost.no HN.out ⟨8, a, b, c, n⟩ (by repeat' (first | (with_reducible refine Only.setCell ?_ ?_ _) | (with_reducible refine Only.alloc ?_ _) | (with_reducible refine Only.drewN ?_ _) | (with_reducible refine Only.drew ?_) | (with_reducible exact Only.refl _ _) | (right; simp; done) | (right; simp; omega))))
      · have hy1I : ¬ (48 : Int) ≤ (y.toNat : Int) := by omega
        have HN : Hid (p = none) := hide (by rw [← HP.out, HR.out, if_neg (by omega)]; rfl)
        clear HR
        go_enter Tryd.func113, Tryd.ntmps113
        go_wp2
        exact bodyPost_ret (by simp [results, Tryd.results113, go_sem]; first | done | rfl | omega) rfl (RFieldPost.no HN.out ⟨8, a, b, c, n⟩ (by repeat' (first | (with_reducible refine Only.setCell ?_ ?_ _) | (with_reducible refine Only.alloc ?_ _) | (with_reducible refine Only.drewN ?_ _) | (with_reducible refine Only.drew ?_) | (with_reducible exact Only.refl _ _) | (right; simp; done) | (right; simp; omega))))
    · have hxI : ((x.toNat : Int) == 114) = false := by
        rw [beq_eq_false_iff_ne]
        intro e
        exact hx (UInt8.toNat_inj.1 (by have h48 : (114 : UInt8).toNat = 114 := rfl; omega))
      have HN : Hid (p = none) := hide (by rw [← HP.out, HR.out, if_neg (by exact fun h => hx h.1)]; rfl)
      clear HR
      go_enter Tryd.func113, Tryd.ntmps113
      go_wp2
      exact bodyPost_ret (by simp [results, Tryd.results113, go_sem]; first | done | rfl | omega) rfl (RFieldPost.no HN.out ⟨8, a, b, c, n⟩ (by repeat' (first | (with_reducible refine Only.setCell ?_ ?_ _) | (with_reducible refine Only.alloc ?_ _) | (with_reducible refine Only.drewN ?_ _) | (with_reducible refine Only.drew ?_) | (with_reducible exact Only.refl _ _) | (right; simp; done) | (right; simp; omega))))
  · have h2I : ((s.size : Int) == 2) = false := by rw [beq_eq_false_iff_ne]; omega
    have HR : Hid (p = none) := hide (by rw [← HP.out, regP_len _ _ (by simpa using h2)]; rfl)
    go_enter Tryd.func113, Tryd.ntmps113
    go_wp2
    exact bodyPost_ret (by simp [results, Tryd.results113, go_sem]; first | done | rfl | omega) rfl (RFieldPost.no HR.out ⟨8, a, b, c, n⟩ (by repeat' (first | (with_reducible refine Only.setCell ?_ ?_ _) | (with_reducible refine Only.alloc ?_ _) | (with_reducible refine Only.drewN ?_ _) | (with_reducible refine Only.drew ?_) | (with_reducible exact Only.refl _ _) | (right; simp; done) | (right; simp; omega))))
set_option maxRecDepth 100000 in
set_option maxHeartbeats 4000000 in
theorem rf_9_0 (w : World) (B C : Int) (N : Bool) (a b c n : Int) (nm s : ByteArray) (line col : Int) (p : Option PIns) (hp : ((regP s.data.toList 7).map fun v => ((⟨9, v, b, c, n⟩) : PIns)) = p) (hsz : s.size ≤ 1000000) : Calls Tryd.prog 113 #[.agg #[.int .i64 9, .int .i64 a, .int .i64 b, .int .i64 c, .int .u64 n], .int .i64 0, .agg #[.string nm, .int .i64 7, .int .i64 B, .int .i64 C, .bool N], .agg #[.string s, .int .i64 line, .int .i64 col, .bool false]] w (RFieldPost w p) := by
  have ix : ∀ w, (Instr.index 173 (.agg #[.int .i64 7, .int .i64 B, .int .i64 C]) (.int .i64 0)).run Tryd.prog w = .ok (.int .i64 7) w := fun _ => by kernel_rfl
  have HP := hide hp
  clear hp
  by_cases h2 : s.size = 2
  · obtain ⟨x, y, hs⟩ := two_bytes s h2
    have h0 : s[0] = x := by subst hs; rfl
    have h1 : s[1] = y := by subst hs; rfl
    have HR : Hid (regP s.data.toList 7 = if x = 114 ∧ 48 ≤ y.toNat ∧ y.toNat - 48 ≤ 7 then some (y.toNat - 48) else none) := hide (by subst hs; exact reg_two x y 7 (by decide))
    have h2I : ((s.size : Int) == 2) = true := by rw [h2]; rfl
    have hy := y.toNat_lt
    clear hs
    by_cases hx : x = 114
    · have hxI : ((x.toNat : Int) == 114) = true := by rw [hx]; rfl
      by_cases hy1 : 48 ≤ y.toNat
      · have hy1I : (48 : Int) ≤ (y.toNat : Int) := by omega
        obtain ⟨z, hz⟩ : ∃ z : Nat, ((y.toNat : Int) - 48) % 256 = (z : Int) ∧ y.toNat - 48 = z := ⟨y.toNat - 48, by omega, rfl⟩
        obtain ⟨hz1, hz3⟩ := hz
        by_cases hy2 : z ≤ 7
        · have hz2 : (z : Int) ≤ 7 := by omega
          have hz4 : ¬ (z : Int) < 0 := by omega
          have HY : Hid (p = some ⟨9, (z : Int), b, c, n⟩) := hide (by rw [← HP.out, HR.out, if_pos ⟨hx, hy1, by omega⟩, hz3]; rfl)
          clear HR
          go_enter Tryd.func113, Tryd.ntmps113
          go_wp2
          exact bodyPost_ret (by simp [results, Tryd.results113, go_sem]; first | done | rfl | omega) rfl (RFieldPost.yes HY.out (by repeat' (first | (with_reducible refine Only.setCell ?_ ?_ _) | (with_reducible refine Only.alloc ?_ _) | (with_reducible refine Only.drewN ?_ _) | (with_reducible refine Only.drew ?_) | (with_reducible exact Only.refl _ _) | (right; simp; done) | (right; simp; omega))))
        · have hz2 : ¬ (z : Int) ≤ 7 := by omega
          have HN : Hid (p = none) := hide (by rw [← HP.out, HR.out, if_neg (by omega)]; rfl)
          clear HR
          go_enter Tryd.func113, Tryd.ntmps113
          go_wp2
          exact bodyPost_ret (by simp [results, Tryd.results113, go_sem]; first | done | rfl | omega) rfl (RFieldPost.no HN.out ⟨9, a, b, c, n⟩ (by repeat' (first | (with_reducible refine Only.setCell ?_ ?_ _) | (with_reducible refine Only.alloc ?_ _) | (with_reducible refine Only.drewN ?_ _) | (with_reducible refine Only.drew ?_) | (with_reducible exact Only.refl _ _) | (right; simp; done) | (right; simp; omega))))
      · have hy1I : ¬ (48 : Int) ≤ (y.toNat : Int) := by omega
        have HN : Hid (p = none) := hide (by rw [← HP.out, HR.out, if_neg (by omega)]; rfl)
        clear HR
        go_enter Tryd.func113, Tryd.ntmps113
        go_wp2
        exact bodyPost_ret (by simp [results, Tryd.results113, go_sem]; first | done | rfl | omega) rfl (RFieldPost.no HN.out ⟨9, a, b, c, n⟩ (by repeat' (first | (with_reducible refine Only.setCell ?_ ?_ _) | (with_reducible refine Only.alloc ?_ _) | (with_reducible refine Only.drewN ?_ _) | (with_reducible refine Only.drew ?_) | (with_reducible exact Only.refl _ _) | (right; simp; done) | (right; simp; omega))))
    · have hxI : ((x.toNat : Int) == 114) = false := by
        rw [beq_eq_false_iff_ne]
        intro e
        exact hx (UInt8.toNat_inj.1 (by have h48 : (114 : UInt8).toNat = 114 := rfl; omega))
      have HN : Hid (p = none) := hide (by rw [← HP.out, HR.out, if_neg (by exact fun h => hx h.1)]; rfl)
      clear HR
      go_enter Tryd.func113, Tryd.ntmps113
      go_wp2
      exact bodyPost_ret (by simp [results, Tryd.results113, go_sem]; first | done | rfl | omega) rfl (RFieldPost.no HN.out ⟨9, a, b, c, n⟩ (by repeat' (first | (with_reducible refine Only.setCell ?_ ?_ _) | (with_reducible refine Only.alloc ?_ _) | (with_reducible refine Only.drewN ?_ _) | (with_reducible refine Only.drew ?_) | (with_reducible exact Only.refl _ _) | (right; simp; done) | (right; simp; omega))))
  · have h2I : ((s.size : Int) == 2) = false := by rw [beq_eq_false_iff_ne]; omega
    have HR : Hid (p = none) := hide (by rw [← HP.out, regP_len _ _ (by simpa using h2)]; rfl)
    go_enter Tryd.func113, Tryd.ntmps113
    go_wp2
    exact bodyPost_ret (by simp [results, Tryd.results113, go_sem]; first | done | rfl | omega) rfl (RFieldPost.no HR.out ⟨9, a, b, c, n⟩ (by repeat' (first | (with_reducible refine Only.setCell ?_ ?_ _) | (with_reducible refine Only.alloc ?_ _) | (with_reducible refine Only.drewN ?_ _) | (with_reducible refine Only.drew ?_) | (with_reducible exact Only.refl _ _) | (right; simp; done) | (right; simp; omega))))
set_option maxRecDepth 100000 in
set_option maxHeartbeats 4000000 in
theorem rf_9_1 (w : World) (A C : Int) (N : Bool) (a b c n : Int) (nm s : ByteArray) (line col : Int) (p : Option PIns) (hp : ((regP s.data.toList 7).map fun v => ((⟨9, a, v, c, n⟩) : PIns)) = p) (hsz : s.size ≤ 1000000) : Calls Tryd.prog 113 #[.agg #[.int .i64 9, .int .i64 a, .int .i64 b, .int .i64 c, .int .u64 n], .int .i64 1, .agg #[.string nm, .int .i64 A, .int .i64 7, .int .i64 C, .bool N], .agg #[.string s, .int .i64 line, .int .i64 col, .bool false]] w (RFieldPost w p) := by
  have ix : ∀ w, (Instr.index 173 (.agg #[.int .i64 A, .int .i64 7, .int .i64 C]) (.int .i64 1)).run Tryd.prog w = .ok (.int .i64 7) w := fun _ => by kernel_rfl
  have HP := hide hp
  clear hp
  by_cases h2 : s.size = 2
  · obtain ⟨x, y, hs⟩ := two_bytes s h2
    have h0 : s[0] = x := by subst hs; rfl
    have h1 : s[1] = y := by subst hs; rfl
    have HR : Hid (regP s.data.toList 7 = if x = 114 ∧ 48 ≤ y.toNat ∧ y.toNat - 48 ≤ 7 then some (y.toNat - 48) else none) := hide (by subst hs; exact reg_two x y 7 (by decide))
    have h2I : ((s.size : Int) == 2) = true := by rw [h2]; rfl
    have hy := y.toNat_lt
    clear hs
    by_cases hx : x = 114
    · have hxI : ((x.toNat : Int) == 114) = true := by rw [hx]; rfl
      by_cases hy1 : 48 ≤ y.toNat
      · have hy1I : (48 : Int) ≤ (y.toNat : Int) := by omega
        obtain ⟨z, hz⟩ : ∃ z : Nat, ((y.toNat : Int) - 48) % 256 = (z : Int) ∧ y.toNat - 48 = z := ⟨y.toNat - 48, by omega, rfl⟩
        obtain ⟨hz1, hz3⟩ := hz
        by_cases hy2 : z ≤ 7
        · have hz2 : (z : Int) ≤ 7 := by omega
          have hz4 : ¬ (z : Int) < 0 := by omega
          have HY : Hid (p = some ⟨9, a, (z : Int), c, n⟩) := hide (by rw [← HP.out, HR.out, if_pos ⟨hx, hy1, by omega⟩, hz3]; rfl)
          clear HR
          go_enter Tryd.func113, Tryd.ntmps113
          go_wp2
          exact bodyPost_ret (by simp [results, Tryd.results113, go_sem]; first | done | rfl | omega) rfl (RFieldPost.yes HY.out (by repeat' (first | (with_reducible refine Only.setCell ?_ ?_ _) | (with_reducible refine Only.alloc ?_ _) | (with_reducible refine Only.drewN ?_ _) | (with_reducible refine Only.drew ?_) | (with_reducible exact Only.refl _ _) | (right; simp; done) | (right; simp; omega))))
        · have hz2 : ¬ (z : Int) ≤ 7 := by omega
          have HN : Hid (p = none) := hide (by rw [← HP.out, HR.out, if_neg (by omega)]; rfl)
          clear HR
          go_enter Tryd.func113, Tryd.ntmps113
          go_wp2
          exact bodyPost_ret (by simp [results, Tryd.results113, go_sem]; first | done | rfl | omega) rfl (RFieldPost.no HN.out ⟨9, a, b, c, n⟩ (by repeat' (first | (with_reducible refine Only.setCell ?_ ?_ _) | (with_reducible refine Only.alloc ?_ _) | (with_reducible refine Only.drewN ?_ _) | (with_reducible refine Only.drew ?_) | (with_reducible exact Only.refl _ _) | (right; simp; done) | (right; simp; omega))))
      · have hy1I : ¬ (48 : Int) ≤ (y.toNat : Int) := by omega
        have HN : Hid (p = none) := hide (by rw [← HP.out, HR.out, if_neg (by omega)]; rfl)
        clear HR
        go_enter Tryd.func113, Tryd.ntmps113
        go_wp2
        exact bodyPost_ret (by simp [results, Tryd.results113, go_sem]; first | done | rfl | omega) rfl (RFieldPost.no HN.out ⟨9, a, b, c, n⟩ (by repeat' (first | (with_reducible refine Only.setCell ?_ ?_ _) | (with_reducible refine Only.alloc ?_ _) | (with_reducible refine Only.drewN ?_ _) | (with_reducible refine Only.drew ?_) | (with_reducible exact Only.refl _ _) | (right; simp; done) | (right; simp; omega))))
    · have hxI : ((x.toNat : Int) == 114) = false := by
        rw [beq_eq_false_iff_ne]
        intro e
        exact hx (UInt8.toNat_inj.1 (by have h48 : (114 : UInt8).toNat = 114 := rfl; omega))
      have HN : Hid (p = none) := hide (by rw [← HP.out, HR.out, if_neg (by exact fun h => hx h.1)]; rfl)
      clear HR
      go_enter Tryd.func113, Tryd.ntmps113
      go_wp2
      exact bodyPost_ret (by simp [results, Tryd.results113, go_sem]; first | done | rfl | omega) rfl (RFieldPost.no HN.out ⟨9, a, b, c, n⟩ (by repeat' (first | (with_reducible refine Only.setCell ?_ ?_ _) | (with_reducible refine Only.alloc ?_ _) | (with_reducible refine Only.drewN ?_ _) | (with_reducible refine Only.drew ?_) | (with_reducible exact Only.refl _ _) | (right; simp; done) | (right; simp; omega))))
  · have h2I : ((s.size : Int) == 2) = false := by rw [beq_eq_false_iff_ne]; omega
    have HR : Hid (p = none) := hide (by rw [← HP.out, regP_len _ _ (by simpa using h2)]; rfl)
    go_enter Tryd.func113, Tryd.ntmps113
    go_wp2
    exact bodyPost_ret (by simp [results, Tryd.results113, go_sem]; first | done | rfl | omega) rfl (RFieldPost.no HR.out ⟨9, a, b, c, n⟩ (by repeat' (first | (with_reducible refine Only.setCell ?_ ?_ _) | (with_reducible refine Only.alloc ?_ _) | (with_reducible refine Only.drewN ?_ _) | (with_reducible refine Only.drew ?_) | (with_reducible exact Only.refl _ _) | (right; simp; done) | (right; simp; omega))))
end Go.Proofs.YtngahgfppbjebaaDoor
