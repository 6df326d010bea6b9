/-
  The law CodeTells, walked, in a world in which the reference's names lie as they were laid.
-/
import Derived.Test.YtpdjhkidalafpaaDoorNameFold
import Derived.Test.YtpdjhkidalafpaaDoorRefMay
import Derived.Test.YtpdjhkidalafpaaDoorOpenIns
import Derived.Deep.RegionHeld3
import Derived.Deep.RegionHeld2
import Derived.OpenShut
namespace Go.Proofs.YtpdjhkidalafpaaDoor
open Go.RowKit
set_option linter.unusedVariables false
set_option linter.unusedSimpArgs false

/-- The reference's names of calls lie in their variable. -/
def TabAt (w : World) : Prop := ∀ k, k < 12 → w.cell? ⟨0, k, none⟩ = some (.string (callList.getD (k + 1) ⟨#[]⟩))
section
variable {w w' : World}
theorem TabAt.lt (h : TabAt w) : 0 < w.heap.size := by
  have := h 0 (by decide)
  rcases Nat.lt_or_ge 0 w.heap.size with hlt | hge
  · exact hlt
  · simp [World.cell?, Array.getElem?_eq_none hge] at this
theorem TabAt.only (h : TabAt w) (ho : Only Nob w w') : TabAt w' := fun k hk => (ho.cell (p := ⟨0, k, none⟩) h.lt (fun h => h)).trans (h k hk)
theorem TabAt.alloc (h : TabAt w) (o : Obj) : TabAt (w.alloc o) := h.only ((Only.refl _ _).alloc o)
theorem TabAt.drew (h : TabAt w) : TabAt w.drew := h
theorem TabAt.drewN (h : TabAt w) (n : Nat) : TabAt (w.drewN n) := h
end

theorem abstract_wpt {P : Program} {c : Code} {Q : Exit → Act → World → Prop} {a : Act} {w : World} (I : World → Prop) (hI : I w) (h : ∀ w', I w' → Code.wp P c Q a w') : Code.wp P c Q a w := h w hI
theorem below_of_nob {w w' : World} {B : Nat} (h : Only Nob w w') (hB : B ≤ w.heap.size) : Below B w w' := h.below hB (fun _ h => h.elim)
theorem Blk.five' {w : World} {g : Nat} {t : TypeId} {v0 v1 v2 v3 v4 : Value} (h : Blk w g t #[v0, v1, v2, v3, v4]) :
    w.cell? ⟨g, 0, none⟩ = some v0 ∧ w.cell? ⟨g, 1, none⟩ = some v1 ∧ w.cell? ⟨g, 2, none⟩ = some v2 ∧ w.cell? ⟨g, 3, none⟩ = some v3 ∧ w.cell? ⟨g, 4, none⟩ = some v4 :=
  ⟨h.cell 0, h.cell 1, h.cell 2, h.cell 3, h.cell 4⟩
theorem name_only (n : Int) (w : World) : Calls Tryd.prog 11 #[.int .i64 n] w fun e w' => e = .returned (.string (atList nameList n)) ∧ Only Nob w w' := (name_any n w).mono fun _ _ ⟨a, b⟩ => ⟨a, b ▸ (Only.refl _ _).alloc _⟩
theorem call_only (n : Int) (w : World) : Calls Tryd.prog 12 #[.int .i64 n] w fun e w' => e = .returned (.string (atList callList n)) ∧ Only Nob w w' := (call_any n w).mono fun _ _ ⟨a, b⟩ => ⟨a, b ▸ (Only.refl _ _).alloc _⟩
theorem rmay_may_any (op a b c N : Int) (w : World) :
    Calls Tryd.prog 10 #[.agg #[.int .i64 op, .int .i64 a, .int .i64 b, .int .i64 c, .int .u64 N]] w fun e w' => e = .returned (.bool (mayB op a b c N)) ∧ Only Nob w w' := by
  have h := rmay_any op a b c N w
  rw [rmay_may] at h
  exact h

theorem refcall_any (n : Int) (w : World) (h : TabAt w) : Calls Tryd.prog 6 #[.int .i64 n] w fun e w' => e = .returned (.string (atList callList n)) ∧ w = w' := by
  by_cases h1 : n < 1
  · rw [list_out rfl callList_len (by omega)]
    clear h
    go_enter Tryd.func6, Tryd.ntmps6
    go_wp2
    go_ret
    exact ⟨rfl, rfl⟩
  · by_cases h2 : 12 < n
    · rw [list_out rfl callList_len (by omega)]
      clear h
      go_enter Tryd.func6, Tryd.ntmps6
      go_wp2
      go_ret
      exact ⟨rfl, rfl⟩
    · obtain ⟨k, rfl⟩ : ∃ k : Nat, n = (k : Int) + 1 := ⟨(n - 1).toNat, by omega⟩
      have hk : k < 12 := by omega
      have hc := h k hk
      have e : atList callList ((k : Int) + 1) = callList.getD (k + 1) ⟨#[]⟩ := by
        unfold atList
        rw [if_pos (by omega), show ((k : Int) + 1).toNat = k + 1 by omega]
      rw [e]
      generalize callList.getD (k + 1) ⟨#[]⟩ = nm at *
      have e1 : (k : Int) + 1 - 1 = (k : Int) := by omega
      have hkI : (k : Int) < 12 := by omega
      clear h e
      go_enter Tryd.func6, Tryd.ntmps6
      go_wp2
      go_ret
      exact ⟨rfl, rfl⟩

def RowAt (w : World) (nm : ByteArray) (e : Ending) (w' : World) : Prop := ∃ (A B C : Int) (N : Bool), e = .returned (.tuple #[.agg #[.string nm, .int .i64 A, .int .i64 B, .int .i64 C, .bool N], .bool true]) ∧ Only Nob w w'
theorem row_at (k : Nat) (hk : k < 23) (w : World) : Calls Tryd.prog 5 #[.int .i64 ((k : Int) + 1)] w (RowAt w (nameList.getD (k + 1) ⟨#[]⟩)) := by
  have e : atList nameList ((k : Int) + 1) = nameList.getD (k + 1) ⟨#[]⟩ := by
    unfold atList
    rw [if_pos (by omega), show ((k : Int) + 1).toNat = k + 1 by omega]
  have eb : opB ((k : Int) + 1) = true := by simp [opB]; omega
  refine (rowOf_any ((k : Int) + 1) w).mono fun e' w' ⟨h1, h2⟩ => ?_
  rw [e, eb] at h1
  subst h2
  exact ⟨_, _, _, _, h1, (Only.refl _ _).alloc _⟩
theorem call_at (k : Nat) (hk : k < 12) (w : World) (h : TabAt w) : Calls Tryd.prog 6 #[.int .i64 ((k : Int) + 1)] w fun e w' => e = .returned (.string (callList.getD (k + 1) ⟨#[]⟩)) ∧ w = w' := by
  have e : atList callList ((k : Int) + 1) = callList.getD (k + 1) ⟨#[]⟩ := by
    unfold atList
    rw [if_pos (by omega), show ((k : Int) + 1).toNat = k + 1 by omega]
  rw [← e]
  exact refcall_any _ w h
theorem last_yes {l : List ByteArray} {s : ByteArray} {k : Nat} (h : l.getD (k + 1) ⟨#[]⟩ = s) : lastOf l s (k + 1) = (k : Int) + 1 ∧ someOf l s (k + 1) = true := ⟨(if_pos h).trans (by simp), if_pos h⟩
theorem last_no {l : List ByteArray} {s : ByteArray} {k : Nat} (h : l.getD (k + 1) ⟨#[]⟩ ≠ s) : lastOf l s (k + 1) = lastOf l s k ∧ someOf l s (k + 1) = someOf l s k := ⟨if_neg h, if_neg h⟩

set_option maxRecDepth 100000 in
set_option maxHeartbeats 4000000 in
theorem code_tells (w : World) (hT : TabAt w) (i0 a0 b0 c0 n0 : Int) (hi : InsWf i0 a0 b0 c0 n0) (op which : Int) (s : ByteArray) (hs : s.size ≤ 9223372036854775807) :
    Calls Tryd.prog 3 #[.agg #[.int .i64 i0, .int .i64 a0, .int .i64 b0, .int .i64 c0, .int .u64 n0], .int .i64 op, .int .i64 which, .string s] w fun e w' => e = .returned (.bool true) ∧ Below w.heap.size w w' := by
  have HT := hide hT
  have hf1 := fold_num nameList_ok nameList_len rfl s
  have hf2 := fold_num callList_ok callList_len rfl s
  have HF1 := hide hf1
  have HF2 := hide hf2
  clear hT hi hf1 hf2
  go_enter Tryd.func3, Tryd.ntmps3
  have hKI := Blk.new w 24 #[.int .i64 i0, .int .i64 a0, .int .i64 b0, .int .i64 c0, .int .u64 n0]
  have KI := hide hKI
  clear hKI
  go_wp2_with (first
    | (go_at_call 4; refine (code_runs _).mono ?_; rintro e w1 ⟨rfl, hbel⟩; have HB1 := hide hbel; clear hbel)
    | (go_at_call 5; refine (rowOf_any op _).mono ?_; rintro e w2 ⟨rfl, rfl⟩))
  refine abstract_wpt (fun w3 => Only Nob w1 w3 ∧ Blk w3 w.heap.size 24 #[.int .i64 i0, .int .i64 a0, .int .i64 b0, .int .i64 c0, .int .u64 n0] ∧ Blk w3 (w1.heap.size + 1) 27 #[.string (atList nameList op), .int .i64 (rA op), .int .i64 (rB op), .int .i64 (rC op), .bool (rN op)] ∧ TabAt w3) ⟨((Only.refl _ _).alloc _).alloc _, ((KI.out.below HB1.out (by simp)).alloc _).alloc _, ?_, (((HT.out.alloc _).only (Only.of_new HB1.out)).alloc _).alloc _⟩ ?_
  · have := Blk.new (w1.alloc (.cells #[.string (atList nameList op), .int .i64 (rA op), .int .i64 (rB op), .int .i64 (rC op), .bool (rN op)] 27)) 27 #[.string (atList nameList op), .int .i64 (rA op), .int .i64 (rB op), .int .i64 (rC op), .bool (rN op)]
    simpa using this
  rintro w3 ⟨ho3, ki3, kr3, ht3⟩
  have HW3 : Hid (Below w.heap.size w w3) := (Below.alloc (Below.refl _ _) (Nat.le_refl _) _).trans ((HB1.out.mono (by simp)).trans (below_of_nob ho3 (by have := HB1.out.size; simp at this; omega)))
  have HSZ : Hid (w.heap.size ≤ w3.heap.size) := by have h1 := HB1.out.size; have h2 := ho3.size; simp at h1; unfold Hid; omega
  have hsz3 : w1.heap.size + 1 < w3.heap.size := kr3.lt
  have hsz4 : w.heap.size < w3.heap.size := ki3.lt
  have HT3 := hide ht3
  have KI3 := hide ki3
  have KR3 := hide kr3
  clear ho3 ki3 kr3 ht3
  go_loopw [11, 12, 13] (fun a b c wr => ∃ k : Nat, k ≤ 23 ∧ a = .int .i64 (lastOf nameList s k) ∧ b = .bool (someOf nameList s k) ∧ c = .int .i64 ((k : Int) + 1) ∧ Only Nob w3 wr) (fun _ _ c _ => 23 + 1 - (intOf c).toNat)
  case atStart => exact ⟨0, by decide, rfl, rfl, rfl, Only.refl _ _⟩
  case round =>
    obtain ⟨k, hk, rfl, rfl, rfl, hon⟩ := hrel
    have HON := hide hon
    have HTR := hide (HT3.out.only hon)
    clear hon
    by_cases hlt : k < 23
    · have hle : decide ((k : Int) + 1 ≤ 23) = true := by simp; omega
      by_cases hnm : nameList.getD (k + 1) ⟨#[]⟩ = s
      · have HL := hide (last_yes hnm)
        have he := str_eq_true hnm
        clear hnm
        have hrow := row_at k hlt
        generalize nameList.getD (k + 1) ⟨#[]⟩ = nm at *
        have HROW := hide hrow
        clear hrow
        go_wp2_with (go_at_call 5; refine (HROW.out _).mono ?_; rintro e w5 ⟨A5, B5, C5, N5, rfl, ho5⟩)
        go_roundw
        case rel => exact ⟨k + 1, by omega, by rw [HL.out.1], by rw [HL.out.2], by go_num, (Only.trans HON.out ho5).alloc _⟩
        case measure => simp [intOf]; omega
      · have HL := hide (last_no hnm)
        have he := str_eq_false hnm
        clear hnm
        have hrow := row_at k hlt
        generalize nameList.getD (k + 1) ⟨#[]⟩ = nm at *
        have HROW := hide hrow
        clear hrow
        go_wp2_with (go_at_call 5; refine (HROW.out _).mono ?_; rintro e w5 ⟨A5, B5, C5, N5, rfl, ho5⟩)
        go_roundw
        case rel => exact ⟨k + 1, by omega, by rw [HL.out.1], by rw [HL.out.2], by go_num, (Only.trans HON.out ho5).alloc _⟩
        case measure => simp [intOf]; omega
    · obtain rfl : k = 23 := by omega
      rw [HF1.out.1, HF1.out.2]
      go_wp2_with fail
      obtain ⟨wo, hwo⟩ : ∃ wo : World, wo = wr := ⟨_, rfl⟩
      rw [← hwo] at HON HTR ⊢
      clear hwo
      go_loopw [16, 17, 18] (fun a b c wr => ∃ k : Nat, k ≤ 12 ∧ a = .int .i64 (lastOf callList s k) ∧ b = .bool (someOf callList s k) ∧ c = .int .i64 ((k : Int) + 1) ∧ Only Nob w3 wr) (fun _ _ c _ => 12 + 1 - (intOf c).toNat)
      case atStart => exact ⟨0, by decide, rfl, rfl, rfl, HON.out⟩
      case round =>
        obtain ⟨k, hk, rfl, rfl, rfl, hon⟩ := hrel
        have HON := hide hon
        have HTR := hide (HT3.out.only hon)
        clear hon
        by_cases hlt : k < 12
        · have hle : decide ((k : Int) + 1 ≤ 12) = true := by simp; omega
          by_cases hnm : callList.getD (k + 1) ⟨#[]⟩ = s
          · have HL := hide (last_yes hnm)
            have he := str_eq_true hnm
            clear hnm
            have hcall := fun wx hx => call_at k hlt wx hx
            generalize callList.getD (k + 1) ⟨#[]⟩ = nm at *
            have HCALL := hide hcall
            clear hcall
            go_wp2_with (go_at_call 6; refine (HCALL.out _ HTR.out).mono ?_; rintro e w5 ⟨rfl, rfl⟩)
            go_roundw
            case rel => first | exact ⟨k + 1, by omega, by rw [HL.out.1], by rw [HL.out.2], by go_num, HON.out⟩ | ((repeat apply Exists.intro); exact ⟨⟨k + 1, by omega, by rw [HL.out.1], by rw [HL.out.2], by go_num, HON.out⟩, rfl⟩)
            case measure => simp [intOf]; omega
          · have HL := hide (last_no hnm)
            have he := str_eq_false hnm
            clear hnm
            have hcall := fun wx hx => call_at k hlt wx hx
            generalize callList.getD (k + 1) ⟨#[]⟩ = nm at *
            have HCALL := hide hcall
            clear hcall
            go_wp2_with (go_at_call 6; refine (HCALL.out _ HTR.out).mono ?_; rintro e w5 ⟨rfl, rfl⟩)
            go_roundw
            case rel => first | exact ⟨k + 1, by omega, by rw [HL.out.1], by rw [HL.out.2], by go_num, HON.out⟩ | ((repeat apply Exists.intro); exact ⟨⟨k + 1, by omega, by rw [HL.out.1], by rw [HL.out.2], by go_num, HON.out⟩, rfl⟩)
            case measure => simp [intOf]; omega
        · obtain rfl : k = 12 := by omega
          rw [HF2.out.1, HF2.out.2]
          have hki := KI3.out.only HON.out (fun h => h)
          have hkr := KR3.out.only HON.out (fun h => h)
          obtain ⟨q0, q1, q2, q3, q4⟩ := hki.five'
          have q5 := hki.frozen
          obtain ⟨r0, r1, r2, r3, r4⟩ := hkr.five'
          have hz := HON.out.size
          have hwl : w.heap.size < wr.heap.size := by omega
          have hwl2 : w1.heap.size + 1 < wr.heap.size := by omega
          have HKI := hide hki
          have HKR := hide hkr
          clear hki hkr hz
          rcases (by omega : op = 12 ∨ op = 13 ∨ (op ≠ 12 ∧ op ≠ 13)) with hop | hop | ⟨hop, hop'⟩
          · have j1 : jumpsB op = true := by rw [hop]; decide
            have o1 : (op == 12) = true := by simpa using hop
            clear hop
            go_wp2_with (first
              | (go_at_call 7; refine (op_any s _).mono ?_; rintro e w6 ⟨rfl, rfl⟩)
              | (go_at_call 8; refine (which_any s _).mono ?_; rintro e w6 ⟨rfl, rfl⟩))
            refine abstract_wpt (fun W0 => Only Nob wr W0 ∧ Blk W0 w.heap.size 24 #[.int .i64 i0, .int .i64 a0, .int .i64 b0, .int .i64 c0, .int .u64 n0] ∧ Blk W0 (w1.heap.size + 1) 27 #[.string (atList nameList op), .int .i64 (rA op), .int .i64 (rB op), .int .i64 (rC op), .bool (rN op)] ∧ TabAt W0) ⟨((Only.refl _ _).alloc _).alloc _, (HKI.out.alloc _).alloc _, (HKR.out.alloc _).alloc _, (HTR.out.alloc _).alloc _⟩ ?_
            rintro W0 ⟨ho0, k0, l0, t0⟩
            have HS : Hid (∀ w', Only Nob W0 w' → Only Nob W0 w' ∧ w'.cell? ⟨w.heap.size, 0, none⟩ = some (.int .i64 i0) ∧ w'.cell? ⟨w.heap.size, 1, none⟩ = some (.int .i64 a0) ∧ w'.cell? ⟨w.heap.size, 2, none⟩ = some (.int .i64 b0) ∧ w'.cell? ⟨w.heap.size, 3, none⟩ = some (.int .i64 c0) ∧ w'.cell? ⟨w.heap.size, 4, none⟩ = some (.int .u64 n0) ∧ w'.cell? ⟨w1.heap.size + 1, 0, none⟩ = some (.string (atList nameList op))) := fun wx ho =>
              ⟨ho, (k0.only ho (fun e => e)).cell 0, (k0.only ho (fun e => e)).cell 1, (k0.only ho (fun e => e)).cell 2, (k0.only ho (fun e => e)).cell 3, (k0.only ho (fun e => e)).cell 4, (l0.only ho (fun e => e)).cell 0⟩
            have HK : Hid (∀ wx w', Only Nob wx w' → (Only Nob W0 wx ∧ wx.cell? ⟨w.heap.size, 0, none⟩ = some (.int .i64 i0) ∧ wx.cell? ⟨w.heap.size, 1, none⟩ = some (.int .i64 a0) ∧ wx.cell? ⟨w.heap.size, 2, none⟩ = some (.int .i64 b0) ∧ wx.cell? ⟨w.heap.size, 3, none⟩ = some (.int .i64 c0) ∧ wx.cell? ⟨w.heap.size, 4, none⟩ = some (.int .u64 n0) ∧ wx.cell? ⟨w1.heap.size + 1, 0, none⟩ = some (.string (atList nameList op))) → Only Nob W0 w' ∧ w'.cell? ⟨w.heap.size, 0, none⟩ = some (.int .i64 i0) ∧ w'.cell? ⟨w.heap.size, 1, none⟩ = some (.int .i64 a0) ∧ w'.cell? ⟨w.heap.size, 2, none⟩ = some (.int .i64 b0) ∧ w'.cell? ⟨w.heap.size, 3, none⟩ = some (.int .i64 c0) ∧ w'.cell? ⟨w.heap.size, 4, none⟩ = some (.int .u64 n0) ∧ w'.cell? ⟨w1.heap.size + 1, 0, none⟩ = some (.string (atList nameList op))) := by
              rintro wx wy ho ⟨h1, -⟩
              exact HS.out wy (h1.trans ho)
            have HS0 := HS.out W0.drew (Only.refl _ _).drew
            have HT0 := hide t0
            have HO0 := hide ho0
            clear k0 l0 t0 ho0 q0 q1 q2 q3 q4 q5 r0 r1 r2 r3 r4
            refine wp_region_noPanic ?_
            refine wp_region_held_drew (S := (fun w' => Only Nob W0 w' ∧ w'.cell? ⟨w.heap.size, 0, none⟩ = some (.int .i64 i0) ∧ w'.cell? ⟨w.heap.size, 1, none⟩ = some (.int .i64 a0) ∧ w'.cell? ⟨w.heap.size, 2, none⟩ = some (.int .i64 b0) ∧ w'.cell? ⟨w.heap.size, 3, none⟩ = some (.int .i64 c0) ∧ w'.cell? ⟨w.heap.size, 4, none⟩ = some (.int .u64 n0) ∧ w'.cell? ⟨w1.heap.size + 1, 0, none⟩ = some (.string (atList nameList op)))) (by kernel_rfl) HS0 (fun hh0 => ?_)
            refine wpAnyH_take (i := 0) (oi := { dst := some 66, op := Op.load 24 (Operand.tmp 4), type := 24, pos := "law.go:38", after := #[], guard := none }) (v := ?_) rfl (by kernel_rfl) (by kernel_rfl) (by kernel_rfl) (fun _ _ _ h => h) (Or.inl ⟨by rfl, ?_⟩) (by assumption) ?_
            rotate_left
            · intro w hSw
              try dsimp only at hSw
              go_simp <;> (try with_reducible rfl)
            try simp only [Act.put, List.setIfInBounds_toArray, List.set_cons_zero, List.set_cons_succ]
            refine wpAnyH_take (i := 2) (oi := { dst := some 68, op := Op.load 24 (Operand.tmp 4), type := 24, pos := "law.go:38", after := #[], guard := none }) (v := ?_) rfl (by kernel_rfl) (by kernel_rfl) (by kernel_rfl) (fun _ _ _ h => h) (Or.inl ⟨by rfl, ?_⟩) (by assumption) ?_
            rotate_left
            · intro w hSw
              try dsimp only at hSw
              go_simp <;> (try with_reducible rfl)
            try simp only [Act.put, List.setIfInBounds_toArray, List.set_cons_zero, List.set_cons_succ]
            refine wpAnyH_ready (rs := [1]) (by kernel_rfl) (by simp) ?_
            refine AllReadyH.cons (o := { dst := some 67, op := Op.call { callee := Callee.value (Operand.func 9), args := #[Operand.tmp 66], argTypes := #[24] }, type := 4, pos := "law.go:38", after := #[{ on := 0, ground := Ground.data }], guard := none }) rfl (fun K hK => ?_) AllReadyH.nil
            go_simp
            go_at_call 9; refine (may_any _ _ _ _ _ _).mono ?_; rintro e wA ⟨rfl, honA⟩
            first | (refine hK.out _ _ ?_ (fun hh1 => ?_)) | (go_wp2_with fail; refine hK.out _ _ ?_ (fun hh1 => ?_))
            · exact HS.out _ (((Only.refl Nob W0).drew).trans honA)
            clear hK K hh0
            try simp only [Act.put, List.setIfInBounds_toArray, List.set_cons_zero, List.set_cons_succ]
            refine wpAnyH_ready (rs := [3]) (by kernel_rfl) (by simp) ?_
            refine AllReadyH.cons (o := { dst := some 69, op := Op.call { callee := Callee.value (Operand.func 10), args := #[Operand.tmp 68], argTypes := #[24] }, type := 4, pos := "law.go:38", after := #[{ on := 2, ground := Ground.data }, { on := 1, ground := Ground.chain }], guard := none }) rfl (fun K hK => ?_) AllReadyH.nil
            go_simp
            go_at_call 10; refine (rmay_may_any _ _ _ _ _ _).mono ?_; rintro e wB ⟨rfl, honB⟩
            first | (refine hK.out _ _ ?_ (fun hh2 => ?_)) | (go_wp2_with fail; refine hK.out _ _ ?_ (fun hh2 => ?_))
            · exact HS.out _ ((((Only.refl Nob W0).drew).trans honA).trans honB)
            clear hK K hh1
            try simp only [Act.put, List.setIfInBounds_toArray, List.set_cons_zero, List.set_cons_succ]
            refine wpAnyH_take (i := 4) (oi := { dst := some 70, op := Op.binOp BinOp.eql 4 (Operand.tmp 67) (Operand.tmp 69) 4, type := 4, pos := "law.go:38", after := #[{ on := 1, ground := Ground.data }, { on := 3, ground := Ground.data }], guard := none }) (v := ?_) rfl (by kernel_rfl) (by kernel_rfl) (by kernel_rfl) (fun _ _ _ h => h) (Or.inl ⟨by rfl, ?_⟩) (by assumption) ?_
            rotate_left
            · intro w hSw
              try dsimp only at hSw
              go_simp <;> (try with_reducible rfl)
            try simp only [Act.put, List.setIfInBounds_toArray, List.set_cons_zero, List.set_cons_succ]
            refine wpAnyH_take (i := 5) (oi := { dst := some 71, op := Op.move (Operand.tmp 70), type := 4, pos := "law.go:38", after := #[{ on := 4, ground := Ground.data }, { on := 3, ground := Ground.chain }], guard := none }) (v := ?_) rfl (by kernel_rfl) (by kernel_rfl) (by kernel_rfl) (fun _ _ _ h => h) (Or.inl ⟨by rfl, ?_⟩) (by assumption) ?_
            rotate_left
            · intro w hSw
              try dsimp only at hSw
              go_simp <;> (try with_reducible rfl)
            try simp only [Act.put, List.setIfInBounds_toArray, List.set_cons_zero, List.set_cons_succ]
            refine wpAnyH_take (i := 6) (oi := { dst := some 72, op := Op.move (Operand.tmp 1), type := 3, pos := "law.go:38", after := #[{ on := 5, ground := Ground.guard }], guard := some (5, true) }) (v := ?_) rfl (by kernel_rfl) (by kernel_rfl) (by kernel_rfl) (fun _ _ _ h => h) (Or.inl ⟨by rfl, ?_⟩) (by assumption) ?_
            rotate_left
            · intro w hSw
              try dsimp only at hSw
              go_simp <;> (try with_reducible rfl)
            try simp only [Act.put, List.setIfInBounds_toArray, List.set_cons_zero, List.set_cons_succ]
            refine wpAnyH_take (i := 8) (oi := { dst := some 74, op := Op.fieldAddr 27 (Operand.tmp 9) 0, type := 0, pos := "law.go:38", after := #[{ on := 5, ground := Ground.guard }], guard := some (5, true) }) (v := ?_) rfl (by kernel_rfl) (by kernel_rfl) (by kernel_rfl) (fun _ _ _ h => h) (Or.inl ⟨by rfl, ?_⟩) (by assumption) ?_
            rotate_left
            · intro w hSw
              try dsimp only at hSw
              go_simp <;> (try with_reducible rfl)
            try simp only [Act.put, List.setIfInBounds_toArray, List.set_cons_zero, List.set_cons_succ]
            refine wpAnyH_take (i := 9) (oi := { dst := some 75, op := Op.load 9 (Operand.tmp 74), type := 9, pos := "law.go:38", after := #[{ on := 8, ground := Ground.data }, { on := 5, ground := Ground.guard }], guard := some (5, true) }) (v := ?_) rfl (by kernel_rfl) (by kernel_rfl) (by kernel_rfl) (fun _ _ _ h => h) (Or.inl ⟨by rfl, ?_⟩) (by assumption) ?_
            rotate_left
            · intro w hSw
              try dsimp only at hSw
              go_simp <;> (try with_reducible rfl)
            try simp only [Act.put, List.setIfInBounds_toArray, List.set_cons_zero, List.set_cons_succ]
            refine wpAnyH_ready (rs := [7]) (by kernel_rfl) (by simp) ?_
            refine AllReadyH.cons (o := { dst := some 73, op := Op.call { callee := Callee.value (Operand.func 11), args := #[Operand.tmp 72], argTypes := #[3] }, type := 9, pos := "law.go:38", after := #[{ on := 6, ground := Ground.data }, { on := 5, ground := Ground.chain }, { on := 5, ground := Ground.guard }], guard := some (5, true) }) rfl (fun K hK => ?_) AllReadyH.nil
            go_simp
            go_at_call 11; refine (name_only _ _).mono ?_; rintro e wC ⟨rfl, honC⟩
            first | (refine hK.out _ _ ?_ (fun hh3 => ?_)) | (go_wp2_with fail; refine hK.out _ _ ?_ (fun hh3 => ?_))
            · exact HS.out _ (((((Only.refl Nob W0).drew).trans honA).trans honB).trans honC)
            clear hK K hh2
            try simp only [Act.put, List.setIfInBounds_toArray, List.set_cons_zero, List.set_cons_succ]
            refine wpAnyH_take (i := 10) (oi := { dst := some 76, op := Op.binOp BinOp.eql 9 (Operand.tmp 73) (Operand.tmp 75) 9, type := 4, pos := "law.go:38", after := #[{ on := 7, ground := Ground.data }, { on := 9, ground := Ground.data }, { on := 5, ground := Ground.guard }], guard := some (5, true) }) (v := ?_) rfl (by kernel_rfl) (by kernel_rfl) (by kernel_rfl) (fun _ _ _ h => h) (Or.inl ⟨by rfl, ?_⟩) (by assumption) ?_
            rotate_left
            · intro w hSw
              try dsimp only at hSw
              go_simp <;> (try with_reducible rfl)
            try simp only [Act.put, List.setIfInBounds_toArray, List.set_cons_zero, List.set_cons_succ]
            refine wpAnyH_take (i := 11) (oi := { dst := some 77, op := Op.pick (Operand.tmp 71) (Operand.tmp 76) (Operand.const (Value.bool false)), type := 4, pos := "law.go:38", after := #[{ on := 5, ground := Ground.data }, { on := 10, ground := Ground.data }], guard := none }) (v := ?_) rfl (by kernel_rfl) (by kernel_rfl) (by kernel_rfl) (fun _ _ _ h => h) (Or.inl ⟨by rfl, ?_⟩) (by assumption) ?_
            rotate_left
            · intro w hSw
              try dsimp only at hSw
              go_simp <;> (try with_reducible rfl)
            try simp only [Act.put, List.setIfInBounds_toArray, List.set_cons_zero, List.set_cons_succ]
            refine wpAnyH_take (i := 12) (oi := { dst := some 78, op := Op.move (Operand.tmp 77), type := 4, pos := "law.go:38", after := #[{ on := 11, ground := Ground.data }, { on := 7, ground := Ground.chain }], guard := none }) (v := ?_) rfl (by kernel_rfl) (by kernel_rfl) (by kernel_rfl) (fun _ _ _ h => h) (Or.inl ⟨by rfl, ?_⟩) (by assumption) ?_
            rotate_left
            · intro w hSw
              try dsimp only at hSw
              go_simp <;> (try with_reducible rfl)
            try simp only [Act.put, List.setIfInBounds_toArray, List.set_cons_zero, List.set_cons_succ]
            refine wpAnyH_take (i := 13) (oi := { dst := some 79, op := Op.move (Operand.tmp 19), type := 3, pos := "law.go:38", after := #[{ on := 12, ground := Ground.guard }], guard := some (12, true) }) (v := ?_) rfl (by kernel_rfl) (by kernel_rfl) (by kernel_rfl) (fun _ _ _ h => h) (Or.inl ⟨by rfl, ?_⟩) (by assumption) ?_
            rotate_left
            · intro w hSw
              try dsimp only at hSw
              go_simp <;> (try with_reducible rfl)
            try simp only [Act.put, List.setIfInBounds_toArray, List.set_cons_zero, List.set_cons_succ]
            refine wpAnyH_take (i := 14) (oi := { dst := some 80, op := Op.move (Operand.tmp 11), type := 3, pos := "law.go:38", after := #[{ on := 12, ground := Ground.guard }], guard := some (12, true) }) (v := ?_) rfl (by kernel_rfl) (by kernel_rfl) (by kernel_rfl) (fun _ _ _ h => h) (Or.inl ⟨by rfl, ?_⟩) (by assumption) ?_
            rotate_left
            · intro w hSw
              try dsimp only at hSw
              go_simp <;> (try with_reducible rfl)
            try simp only [Act.put, List.setIfInBounds_toArray, List.set_cons_zero, List.set_cons_succ]
            refine wpAnyH_take (i := 15) (oi := { dst := some 81, op := Op.binOp BinOp.eql 3 (Operand.tmp 79) (Operand.tmp 80) 3, type := 4, pos := "law.go:38", after := #[{ on := 13, ground := Ground.data }, { on := 14, ground := Ground.data }, { on := 12, ground := Ground.guard }], guard := some (12, true) }) (v := ?_) rfl (by kernel_rfl) (by kernel_rfl) (by kernel_rfl) (fun _ _ _ h => h) (Or.inl ⟨by rfl, ?_⟩) (by assumption) ?_
            rotate_left
            · intro w hSw
              try dsimp only at hSw
              go_simp <;> (try with_reducible rfl)
            try simp only [Act.put, List.setIfInBounds_toArray, List.set_cons_zero, List.set_cons_succ]
            refine wpAnyH_take (i := 16) (oi := { dst := some 82, op := Op.pick (Operand.tmp 78) (Operand.tmp 81) (Operand.const (Value.bool false)), type := 4, pos := "law.go:38", after := #[{ on := 12, ground := Ground.data }, { on := 15, ground := Ground.data }], guard := none }) (v := ?_) rfl (by kernel_rfl) (by kernel_rfl) (by kernel_rfl) (fun _ _ _ h => h) (Or.inl ⟨by rfl, ?_⟩) (by assumption) ?_
            rotate_left
            · intro w hSw
              try dsimp only at hSw
              go_simp <;> (try with_reducible rfl)
            try simp only [Act.put, List.setIfInBounds_toArray, List.set_cons_zero, List.set_cons_succ]
            refine wpAnyH_take (i := 17) (oi := { dst := some 83, op := Op.move (Operand.tmp 82), type := 4, pos := "law.go:38", after := #[{ on := 16, ground := Ground.data }, { on := 12, ground := Ground.chain }], guard := none }) (v := ?_) rfl (by kernel_rfl) (by kernel_rfl) (by kernel_rfl) (fun _ _ _ h => h) (Or.inl ⟨by rfl, ?_⟩) (by assumption) ?_
            rotate_left
            · intro w hSw
              try dsimp only at hSw
              go_simp <;> (try with_reducible rfl)
            try simp only [Act.put, List.setIfInBounds_toArray, List.set_cons_zero, List.set_cons_succ]
            refine wpAnyH_take (i := 18) (oi := { dst := some 84, op := Op.move (Operand.tmp 20), type := 4, pos := "law.go:38", after := #[{ on := 17, ground := Ground.guard }], guard := some (17, true) }) (v := ?_) rfl (by kernel_rfl) (by kernel_rfl) (by kernel_rfl) (fun _ _ _ h => h) (Or.inl ⟨by rfl, ?_⟩) (by assumption) ?_
            rotate_left
            · intro w hSw
              try dsimp only at hSw
              go_simp <;> (try with_reducible rfl)
            try simp only [Act.put, List.setIfInBounds_toArray, List.set_cons_zero, List.set_cons_succ]
            refine wpAnyH_take (i := 19) (oi := { dst := some 85, op := Op.move (Operand.tmp 12), type := 4, pos := "law.go:38", after := #[{ on := 17, ground := Ground.guard }], guard := some (17, true) }) (v := ?_) rfl (by kernel_rfl) (by kernel_rfl) (by kernel_rfl) (fun _ _ _ h => h) (Or.inl ⟨by rfl, ?_⟩) (by assumption) ?_
            rotate_left
            · intro w hSw
              try dsimp only at hSw
              go_simp <;> (try with_reducible rfl)
            try simp only [Act.put, List.setIfInBounds_toArray, List.set_cons_zero, List.set_cons_succ]
            refine wpAnyH_take (i := 20) (oi := { dst := some 86, op := Op.binOp BinOp.eql 4 (Operand.tmp 84) (Operand.tmp 85) 4, type := 4, pos := "law.go:38", after := #[{ on := 18, ground := Ground.data }, { on := 19, ground := Ground.data }, { on := 17, ground := Ground.guard }], guard := some (17, true) }) (v := ?_) rfl (by kernel_rfl) (by kernel_rfl) (by kernel_rfl) (fun _ _ _ h => h) (Or.inl ⟨by rfl, ?_⟩) (by assumption) ?_
            rotate_left
            · intro w hSw
              try dsimp only at hSw
              go_simp <;> (try with_reducible rfl)
            try simp only [Act.put, List.setIfInBounds_toArray, List.set_cons_zero, List.set_cons_succ]
            refine wpAnyH_take (i := 21) (oi := { dst := some 87, op := Op.pick (Operand.tmp 83) (Operand.tmp 86) (Operand.const (Value.bool false)), type := 4, pos := "law.go:38", after := #[{ on := 17, ground := Ground.data }, { on := 20, ground := Ground.data }], guard := none }) (v := ?_) rfl (by kernel_rfl) (by kernel_rfl) (by kernel_rfl) (fun _ _ _ h => h) (Or.inl ⟨by rfl, ?_⟩) (by assumption) ?_
            rotate_left
            · intro w hSw
              try dsimp only at hSw
              go_simp <;> (try with_reducible rfl)
            try simp only [Act.put, List.setIfInBounds_toArray, List.set_cons_zero, List.set_cons_succ]
            refine wpAnyH_take (i := 22) (oi := { dst := some 88, op := Op.move (Operand.tmp 87), type := 4, pos := "law.go:38", after := #[{ on := 21, ground := Ground.data }, { on := 17, ground := Ground.chain }], guard := none }) (v := ?_) rfl (by kernel_rfl) (by kernel_rfl) (by kernel_rfl) (fun _ _ _ h => h) (Or.inl ⟨by rfl, ?_⟩) (by assumption) ?_
            rotate_left
            · intro w hSw
              try dsimp only at hSw
              go_simp <;> (try with_reducible rfl)
            try simp only [Act.put, List.setIfInBounds_toArray, List.set_cons_zero, List.set_cons_succ]
            refine wpAnyH_take (i := 23) (oi := { dst := some 89, op := Op.move (Operand.tmp 2), type := 3, pos := "law.go:38", after := #[{ on := 22, ground := Ground.guard }], guard := some (22, true) }) (v := ?_) rfl (by kernel_rfl) (by kernel_rfl) (by kernel_rfl) (fun _ _ _ h => h) (Or.inl ⟨by rfl, ?_⟩) (by assumption) ?_
            rotate_left
            · intro w hSw
              try dsimp only at hSw
              go_simp <;> (try with_reducible rfl)
            try simp only [Act.put, List.setIfInBounds_toArray, List.set_cons_zero, List.set_cons_succ]
            refine wpAnyH_take (i := 25) (oi := { dst := some 91, op := Op.move (Operand.tmp 2), type := 3, pos := "law.go:38", after := #[{ on := 22, ground := Ground.guard }], guard := some (22, true) }) (v := ?_) rfl (by kernel_rfl) (by kernel_rfl) (by kernel_rfl) (fun _ _ _ h => h) (Or.inl ⟨by rfl, ?_⟩) (by assumption) ?_
            rotate_left
            · intro w hSw
              try dsimp only at hSw
              go_simp <;> (try with_reducible rfl)
            try simp only [Act.put, List.setIfInBounds_toArray, List.set_cons_zero, List.set_cons_succ]
            refine wpAnyH_ready (rs := [24]) (by kernel_rfl) (by simp) ?_
            refine AllReadyH.cons (o := { dst := some 90, op := Op.call { callee := Callee.value (Operand.func 12), args := #[Operand.tmp 89], argTypes := #[3] }, type := 9, pos := "law.go:38", after := #[{ on := 23, ground := Ground.data }, { on := 22, ground := Ground.chain }, { on := 22, ground := Ground.guard }], guard := some (22, true) }) rfl (fun K hK => ?_) AllReadyH.nil
            go_simp
            go_at_call 12; refine (call_only _ _).mono ?_; rintro e wD ⟨rfl, honD⟩
            first | (refine hK.out _ _ ?_ (fun hh4 => ?_)) | (go_wp2_with fail; refine hK.out _ _ ?_ (fun hh4 => ?_))
            · exact HS.out _ ((((((Only.refl Nob W0).drew).trans honA).trans honB).trans honC).trans honD)
            clear hK K hh3
            try simp only [Act.put, List.setIfInBounds_toArray, List.set_cons_zero, List.set_cons_succ]
            refine wpAnyH_ready (rs := [26]) (by kernel_rfl) (by simp) ?_
            refine AllReadyH.cons (o := { dst := some 92, op := Op.call { callee := Callee.value (Operand.func 6), args := #[Operand.tmp 91], argTypes := #[3] }, type := 9, pos := "law.go:38", after := #[{ on := 25, ground := Ground.data }, { on := 24, ground := Ground.chain }, { on := 22, ground := Ground.guard }], guard := some (22, true) }) rfl (fun K hK => ?_) AllReadyH.nil
            go_simp
            go_at_call 6; refine (refcall_any _ _ ((((HT0.out.drew.only honA).only honB).only honC).only honD)).mono ?_; rintro e wE ⟨rfl, rfl⟩
            first | (refine hK.out _ _ ?_ (fun hh5 => ?_)) | (go_wp2_with fail; refine hK.out _ _ ?_ (fun hh5 => ?_))
            · exact HS.out _ ((((((Only.refl Nob W0).drew).trans honA).trans honB).trans honC).trans honD)
            clear hK K hh4
            try simp only [Act.put, List.setIfInBounds_toArray, List.set_cons_zero, List.set_cons_succ]
            refine wpAnyH_take (i := 27) (oi := { dst := some 93, op := Op.binOp BinOp.eql 9 (Operand.tmp 90) (Operand.tmp 92) 9, type := 4, pos := "law.go:38", after := #[{ on := 24, ground := Ground.data }, { on := 26, ground := Ground.data }, { on := 22, ground := Ground.guard }], guard := some (22, true) }) (v := ?_) rfl (by kernel_rfl) (by kernel_rfl) (by kernel_rfl) (fun _ _ _ h => h) (Or.inl ⟨by rfl, ?_⟩) (by assumption) ?_
            rotate_left
            · intro w hSw
              try dsimp only at hSw
              go_simp <;> (try with_reducible rfl)
            try simp only [Act.put, List.setIfInBounds_toArray, List.set_cons_zero, List.set_cons_succ]
            refine wpAnyH_take (i := 28) (oi := { dst := some 94, op := Op.pick (Operand.tmp 88) (Operand.tmp 93) (Operand.const (Value.bool false)), type := 4, pos := "law.go:38", after := #[{ on := 22, ground := Ground.data }, { on := 27, ground := Ground.data }], guard := none }) (v := ?_) rfl (by kernel_rfl) (by kernel_rfl) (by kernel_rfl) (fun _ _ _ h => h) (Or.inl ⟨by rfl, ?_⟩) (by assumption) ?_
            rotate_left
            · intro w hSw
              try dsimp only at hSw
              go_simp <;> (try with_reducible rfl)
            try simp only [Act.put, List.setIfInBounds_toArray, List.set_cons_zero, List.set_cons_succ]
            refine wpAnyH_take (i := 29) (oi := { dst := some 95, op := Op.move (Operand.tmp 94), type := 4, pos := "law.go:38", after := #[{ on := 28, ground := Ground.data }, { on := 26, ground := Ground.chain }], guard := none }) (v := ?_) rfl (by kernel_rfl) (by kernel_rfl) (by kernel_rfl) (fun _ _ _ h => h) (Or.inl ⟨by rfl, ?_⟩) (by assumption) ?_
            rotate_left
            · intro w hSw
              try dsimp only at hSw
              go_simp <;> (try with_reducible rfl)
            try simp only [Act.put, List.setIfInBounds_toArray, List.set_cons_zero, List.set_cons_succ]
            refine wpAnyH_take (i := 30) (oi := { dst := some 96, op := Op.move (Operand.tmp 21), type := 3, pos := "law.go:38", after := #[{ on := 29, ground := Ground.guard }], guard := some (29, true) }) (v := ?_) rfl (by kernel_rfl) (by kernel_rfl) (by kernel_rfl) (fun _ _ _ h => h) (Or.inl ⟨by rfl, ?_⟩) (by assumption) ?_
            rotate_left
            · intro w hSw
              try dsimp only at hSw
              go_simp <;> (try with_reducible rfl)
            try simp only [Act.put, List.setIfInBounds_toArray, List.set_cons_zero, List.set_cons_succ]
            refine wpAnyH_take (i := 31) (oi := { dst := some 97, op := Op.move (Operand.tmp 16), type := 3, pos := "law.go:38", after := #[{ on := 29, ground := Ground.guard }], guard := some (29, true) }) (v := ?_) rfl (by kernel_rfl) (by kernel_rfl) (by kernel_rfl) (fun _ _ _ h => h) (Or.inl ⟨by rfl, ?_⟩) (by assumption) ?_
            rotate_left
            · intro w hSw
              try dsimp only at hSw
              go_simp <;> (try with_reducible rfl)
            try simp only [Act.put, List.setIfInBounds_toArray, List.set_cons_zero, List.set_cons_succ]
            refine wpAnyH_take (i := 32) (oi := { dst := some 98, op := Op.binOp BinOp.eql 3 (Operand.tmp 96) (Operand.tmp 97) 3, type := 4, pos := "law.go:38", after := #[{ on := 30, ground := Ground.data }, { on := 31, ground := Ground.data }, { on := 29, ground := Ground.guard }], guard := some (29, true) }) (v := ?_) rfl (by kernel_rfl) (by kernel_rfl) (by kernel_rfl) (fun _ _ _ h => h) (Or.inl ⟨by rfl, ?_⟩) (by assumption) ?_
            rotate_left
            · intro w hSw
              try dsimp only at hSw
              go_simp <;> (try with_reducible rfl)
            try simp only [Act.put, List.setIfInBounds_toArray, List.set_cons_zero, List.set_cons_succ]
            refine wpAnyH_take (i := 33) (oi := { dst := some 99, op := Op.pick (Operand.tmp 95) (Operand.tmp 98) (Operand.const (Value.bool false)), type := 4, pos := "law.go:38", after := #[{ on := 29, ground := Ground.data }, { on := 32, ground := Ground.data }], guard := none }) (v := ?_) rfl (by kernel_rfl) (by kernel_rfl) (by kernel_rfl) (fun _ _ _ h => h) (Or.inl ⟨by rfl, ?_⟩) (by assumption) ?_
            rotate_left
            · intro w hSw
              try dsimp only at hSw
              go_simp <;> (try with_reducible rfl)
            try simp only [Act.put, List.setIfInBounds_toArray, List.set_cons_zero, List.set_cons_succ]
            refine wpAnyH_take (i := 34) (oi := { dst := some 100, op := Op.move (Operand.tmp 99), type := 4, pos := "law.go:38", after := #[{ on := 33, ground := Ground.data }, { on := 29, ground := Ground.chain }], guard := none }) (v := ?_) rfl (by kernel_rfl) (by kernel_rfl) (by kernel_rfl) (fun _ _ _ h => h) (Or.inl ⟨by rfl, ?_⟩) (by assumption) ?_
            rotate_left
            · intro w hSw
              try dsimp only at hSw
              go_simp <;> (try with_reducible rfl)
            try simp only [Act.put, List.setIfInBounds_toArray, List.set_cons_zero, List.set_cons_succ]
            refine wpAnyH_take (i := 35) (oi := { dst := some 101, op := Op.move (Operand.tmp 22), type := 4, pos := "law.go:38", after := #[{ on := 34, ground := Ground.guard }], guard := some (34, true) }) (v := ?_) rfl (by kernel_rfl) (by kernel_rfl) (by kernel_rfl) (fun _ _ _ h => h) (Or.inl ⟨by rfl, ?_⟩) (by assumption) ?_
            rotate_left
            · intro w hSw
              try dsimp only at hSw
              go_simp <;> (try with_reducible rfl)
            try simp only [Act.put, List.setIfInBounds_toArray, List.set_cons_zero, List.set_cons_succ]
            refine wpAnyH_take (i := 36) (oi := { dst := some 102, op := Op.move (Operand.tmp 17), type := 4, pos := "law.go:38", after := #[{ on := 34, ground := Ground.guard }], guard := some (34, true) }) (v := ?_) rfl (by kernel_rfl) (by kernel_rfl) (by kernel_rfl) (fun _ _ _ h => h) (Or.inl ⟨by rfl, ?_⟩) (by assumption) ?_
            rotate_left
            · intro w hSw
              try dsimp only at hSw
              go_simp <;> (try with_reducible rfl)
            try simp only [Act.put, List.setIfInBounds_toArray, List.set_cons_zero, List.set_cons_succ]
            refine wpAnyH_take (i := 37) (oi := { dst := some 103, op := Op.binOp BinOp.eql 4 (Operand.tmp 101) (Operand.tmp 102) 4, type := 4, pos := "law.go:38", after := #[{ on := 35, ground := Ground.data }, { on := 36, ground := Ground.data }, { on := 34, ground := Ground.guard }], guard := some (34, true) }) (v := ?_) rfl (by kernel_rfl) (by kernel_rfl) (by kernel_rfl) (fun _ _ _ h => h) (Or.inl ⟨by rfl, ?_⟩) (by assumption) ?_
            rotate_left
            · intro w hSw
              try dsimp only at hSw
              go_simp <;> (try with_reducible rfl)
            try simp only [Act.put, List.setIfInBounds_toArray, List.set_cons_zero, List.set_cons_succ]
            refine wpAnyH_take (i := 38) (oi := { dst := some 104, op := Op.pick (Operand.tmp 100) (Operand.tmp 103) (Operand.const (Value.bool false)), type := 4, pos := "law.go:38", after := #[{ on := 34, ground := Ground.data }, { on := 37, ground := Ground.data }], guard := none }) (v := ?_) rfl (by kernel_rfl) (by kernel_rfl) (by kernel_rfl) (fun _ _ _ h => h) (Or.inl ⟨by rfl, ?_⟩) (by assumption) ?_
            rotate_left
            · intro w hSw
              try dsimp only at hSw
              go_simp <;> (try with_reducible rfl)
            try simp only [Act.put, List.setIfInBounds_toArray, List.set_cons_zero, List.set_cons_succ]
            refine wpAnyH_take (i := 39) (oi := { dst := some 105, op := Op.move (Operand.tmp 104), type := 4, pos := "law.go:38", after := #[{ on := 38, ground := Ground.data }, { on := 34, ground := Ground.chain }], guard := none }) (v := ?_) rfl (by kernel_rfl) (by kernel_rfl) (by kernel_rfl) (fun _ _ _ h => h) (Or.inl ⟨by rfl, ?_⟩) (by assumption) ?_
            rotate_left
            · intro w hSw
              try dsimp only at hSw
              go_simp <;> (try with_reducible rfl)
            try simp only [Act.put, List.setIfInBounds_toArray, List.set_cons_zero, List.set_cons_succ]
            refine wpAnyH_take (i := 40) (oi := { dst := some 106, op := Op.move (Operand.tmp 1), type := 3, pos := "law.go:38", after := #[{ on := 39, ground := Ground.guard }], guard := some (39, true) }) (v := ?_) rfl (by kernel_rfl) (by kernel_rfl) (by kernel_rfl) (fun _ _ _ h => h) (Or.inl ⟨by rfl, ?_⟩) (by assumption) ?_
            rotate_left
            · intro w hSw
              try dsimp only at hSw
              go_simp <;> (try with_reducible rfl)
            try simp only [Act.put, List.setIfInBounds_toArray, List.set_cons_zero, List.set_cons_succ]
            refine wpAnyH_take (i := 42) (oi := { dst := some 108, op := Op.move (Operand.tmp 1), type := 3, pos := "law.go:38", after := #[{ on := 39, ground := Ground.guard }], guard := some (39, true) }) (v := ?_) rfl (by kernel_rfl) (by kernel_rfl) (by kernel_rfl) (fun _ _ _ h => h) (Or.inl ⟨by rfl, ?_⟩) (by assumption) ?_
            rotate_left
            · intro w hSw
              try dsimp only at hSw
              go_simp <;> (try with_reducible rfl)
            try simp only [Act.put, List.setIfInBounds_toArray, List.set_cons_zero, List.set_cons_succ]
            refine wpAnyH_take (i := 43) (oi := { dst := some 109, op := Op.binOp BinOp.eql 3 (Operand.tmp 108) (Operand.const (Value.int IntKind.i64 12)) 3, type := 4, pos := "law.go:38", after := #[{ on := 42, ground := Ground.data }, { on := 39, ground := Ground.guard }], guard := some (39, true) }) (v := ?_) rfl (by kernel_rfl) (by kernel_rfl) (by kernel_rfl) (fun _ _ _ h => h) (Or.inl ⟨by rfl, ?_⟩) (by assumption) ?_
            rotate_left
            · intro w hSw
              try dsimp only at hSw
              go_simp <;> (try with_reducible rfl)
            try simp only [Act.put, List.setIfInBounds_toArray, List.set_cons_zero, List.set_cons_succ]
            refine wpAnyH_ready (rs := [41]) (by kernel_rfl) (by simp) ?_
            refine AllReadyH.cons (o := { dst := some 107, op := Op.call { callee := Callee.value (Operand.func 13), args := #[Operand.tmp 106], argTypes := #[3] }, type := 4, pos := "law.go:38", after := #[{ on := 40, ground := Ground.data }, { on := 39, ground := Ground.chain }, { on := 39, ground := Ground.guard }], guard := some (39, true) }) rfl (fun K hK => ?_) AllReadyH.nil
            go_simp
            go_at_call 13; refine (jumps_any _ _).mono ?_; rintro e wE ⟨rfl, rfl⟩
            first | (refine hK.out _ _ ?_ (fun hh6 => ?_)) | (go_wp2_with fail; refine hK.out _ _ ?_ (fun hh6 => ?_))
            · exact HS.out _ ((((((Only.refl Nob W0).drew).trans honA).trans honB).trans honC).trans honD)
            clear hK K hh5
            try simp only [Act.put, List.setIfInBounds_toArray, List.set_cons_zero, List.set_cons_succ]
            refine wpAnyH_take (i := 44) (oi := { dst := some 110, op := Op.move (Operand.tmp 109), type := 4, pos := "law.go:38", after := #[{ on := 43, ground := Ground.data }, { on := 41, ground := Ground.chain }, { on := 39, ground := Ground.guard }], guard := some (39, true) }) (v := ?_) rfl (by kernel_rfl) (by kernel_rfl) (by kernel_rfl) (fun _ _ _ h => h) (Or.inl ⟨by rfl, ?_⟩) (by assumption) ?_
            rotate_left
            · intro w hSw
              try dsimp only at hSw
              go_simp <;> (try with_reducible rfl)
            try simp only [Act.put, List.setIfInBounds_toArray, List.set_cons_zero, List.set_cons_succ]
            refine wpAnyH_ready (rs := [45]) (by kernel_rfl) (by simp) ?_
            refine AllReadyH.cons (o := { dst := some 111, op := Op.move (Operand.tmp 1), type := 3, pos := "law.go:38", after := #[{ on := 44, ground := Ground.guard }], guard := some (44, false) }) rfl (fun K hK => ?_) AllReadyH.nil
            go_simp
            first | (refine hK.out _ _ ?_ (fun hh7 => ?_)) | (go_wp2_with fail; refine hK.out _ _ ?_ (fun hh7 => ?_))
            · exact HS.out _ ((((((Only.refl Nob W0).drew).trans honA).trans honB).trans honC).trans honD)
            clear hK K hh6
            try simp only [Act.put, List.setIfInBounds_toArray, List.set_cons_zero, List.set_cons_succ]
            refine wpAnyH_ready (rs := [46]) (by kernel_rfl) (by simp) ?_
            refine AllReadyH.cons (o := { dst := some 112, op := Op.binOp BinOp.eql 3 (Operand.tmp 111) (Operand.const (Value.int IntKind.i64 13)) 3, type := 4, pos := "law.go:38", after := #[{ on := 45, ground := Ground.data }, { on := 44, ground := Ground.guard }], guard := some (44, false) }) rfl (fun K hK => ?_) AllReadyH.nil
            go_simp
            first | (refine hK.out _ _ ?_ (fun hh8 => ?_)) | (go_wp2_with fail; refine hK.out _ _ ?_ (fun hh8 => ?_))
            · exact HS.out _ ((((((Only.refl Nob W0).drew).trans honA).trans honB).trans honC).trans honD)
            clear hK K hh7
            try simp only [Act.put, List.setIfInBounds_toArray, List.set_cons_zero, List.set_cons_succ]
            refine wpAnyH_take (i := 47) (oi := { dst := some 113, op := Op.pick (Operand.tmp 110) (Operand.const (Value.bool true)) (Operand.tmp 112), type := 4, pos := "law.go:38", after := #[{ on := 44, ground := Ground.data }, { on := 46, ground := Ground.data }, { on := 39, ground := Ground.guard }], guard := some (39, true) }) (v := ?_) rfl (by kernel_rfl) (by kernel_rfl) (by kernel_rfl) (fun _ _ _ h => h) (Or.inl ⟨by rfl, ?_⟩) (by assumption) ?_
            rotate_left
            · intro w hSw
              try dsimp only at hSw
              go_simp <;> (try with_reducible rfl)
            try simp only [Act.put, List.setIfInBounds_toArray, List.set_cons_zero, List.set_cons_succ]
            refine wpAnyH_take (i := 48) (oi := { dst := some 114, op := Op.binOp BinOp.eql 4 (Operand.tmp 107) (Operand.tmp 113) 4, type := 4, pos := "law.go:38", after := #[{ on := 41, ground := Ground.data }, { on := 47, ground := Ground.data }, { on := 39, ground := Ground.guard }], guard := some (39, true) }) (v := ?_) rfl (by kernel_rfl) (by kernel_rfl) (by kernel_rfl) (fun _ _ _ h => h) (Or.inl ⟨by rfl, ?_⟩) (by assumption) ?_
            rotate_left
            · intro w hSw
              try dsimp only at hSw
              go_simp <;> (try with_reducible rfl)
            try simp only [Act.put, List.setIfInBounds_toArray, List.set_cons_zero, List.set_cons_succ]
            refine wpAnyH_take (i := 49) (oi := { dst := some 115, op := Op.pick (Operand.tmp 105) (Operand.tmp 114) (Operand.const (Value.bool false)), type := 4, pos := "law.go:38", after := #[{ on := 39, ground := Ground.data }, { on := 48, ground := Ground.data }], guard := none }) (v := ?_) rfl (by kernel_rfl) (by kernel_rfl) (by kernel_rfl) (fun _ _ _ h => h) (Or.inl ⟨by rfl, ?_⟩) (by assumption) ?_
            rotate_left
            · intro w hSw
              try dsimp only at hSw
              go_simp <;> (try with_reducible rfl)
            try simp only [Act.put, List.setIfInBounds_toArray, List.set_cons_zero, List.set_cons_succ]
            refine wpAnyH_take (i := 50) (oi := { dst := some 8, op := Op.assign (Operand.tmp 115), type := 4, pos := "law.go:38", after := #[{ on := 49, ground := Ground.data }, { on := 44, ground := Ground.chain }, { on := 0, ground := Ground.phase }, { on := 1, ground := Ground.phase }, { on := 2, ground := Ground.phase }, { on := 3, ground := Ground.phase }, { on := 4, ground := Ground.phase }, { on := 5, ground := Ground.phase }, { on := 6, ground := Ground.phase }, { on := 7, ground := Ground.phase }, { on := 8, ground := Ground.phase }, { on := 9, ground := Ground.phase }, { on := 10, ground := Ground.phase }, { on := 11, ground := Ground.phase }, { on := 12, ground := Ground.phase }, { on := 13, ground := Ground.phase }, { on := 14, ground := Ground.phase }, { on := 15, ground := Ground.phase }, { on := 16, ground := Ground.phase }, { on := 17, ground := Ground.phase }, { on := 18, ground := Ground.phase }, { on := 19, ground := Ground.phase }, { on := 20, ground := Ground.phase }, { on := 21, ground := Ground.phase }, { on := 22, ground := Ground.phase }, { on := 23, ground := Ground.phase }, { on := 24, ground := Ground.phase }, { on := 25, ground := Ground.phase }, { on := 26, ground := Ground.phase }, { on := 27, ground := Ground.phase }, { on := 28, ground := Ground.phase }, { on := 29, ground := Ground.phase }, { on := 30, ground := Ground.phase }, { on := 31, ground := Ground.phase }, { on := 32, ground := Ground.phase }, { on := 33, ground := Ground.phase }, { on := 34, ground := Ground.phase }, { on := 35, ground := Ground.phase }, { on := 36, ground := Ground.phase }, { on := 37, ground := Ground.phase }, { on := 38, ground := Ground.phase }, { on := 39, ground := Ground.phase }, { on := 40, ground := Ground.phase }, { on := 41, ground := Ground.phase }, { on := 42, ground := Ground.phase }, { on := 43, ground := Ground.phase }, { on := 44, ground := Ground.phase }, { on := 45, ground := Ground.phase }, { on := 46, ground := Ground.phase }, { on := 47, ground := Ground.phase }, { on := 48, ground := Ground.phase }, { on := 49, ground := Ground.phase }], guard := none }) (v := ?_) rfl (by kernel_rfl) (by kernel_rfl) (by kernel_rfl) (fun _ _ _ h => h) (Or.inl ⟨by rfl, ?_⟩) (by assumption) ?_
            rotate_left
            · intro w hSw
              try dsimp only at hSw
              go_simp <;> (try with_reducible rfl)
            try simp only [Act.put, List.setIfInBounds_toArray, List.set_cons_zero, List.set_cons_succ]
            refine wpAnyH_done (by kernel_rfl) ?_ _
            refine NoPanic.normal ?_
            go_wp2
            go_ret
            refine ⟨rfl, HW3.out.trans (below_of_nob ?_ HSZ.out)⟩
            exact (((((HON.out.trans HO0.out).drew).trans honA).trans honB).trans honC).trans honD
          · have j1 : jumpsB op = true := by rw [hop]; decide
            have o1 : (op == 12) = false := by rw [hop]; decide
            have o2 : (op == 13) = true := by simpa using hop
            clear hop
            go_wp2_with (first
              | (go_at_call 7; refine (op_any s _).mono ?_; rintro e w6 ⟨rfl, rfl⟩)
              | (go_at_call 8; refine (which_any s _).mono ?_; rintro e w6 ⟨rfl, rfl⟩))
            refine abstract_wpt (fun W0 => Only Nob wr W0 ∧ Blk W0 w.heap.size 24 #[.int .i64 i0, .int .i64 a0, .int .i64 b0, .int .i64 c0, .int .u64 n0] ∧ Blk W0 (w1.heap.size + 1) 27 #[.string (atList nameList op), .int .i64 (rA op), .int .i64 (rB op), .int .i64 (rC op), .bool (rN op)] ∧ TabAt W0) ⟨((Only.refl _ _).alloc _).alloc _, (HKI.out.alloc _).alloc _, (HKR.out.alloc _).alloc _, (HTR.out.alloc _).alloc _⟩ ?_
            rintro W0 ⟨ho0, k0, l0, t0⟩
            have HS : Hid (∀ w', Only Nob W0 w' → Only Nob W0 w' ∧ w'.cell? ⟨w.heap.size, 0, none⟩ = some (.int .i64 i0) ∧ w'.cell? ⟨w.heap.size, 1, none⟩ = some (.int .i64 a0) ∧ w'.cell? ⟨w.heap.size, 2, none⟩ = some (.int .i64 b0) ∧ w'.cell? ⟨w.heap.size, 3, none⟩ = some (.int .i64 c0) ∧ w'.cell? ⟨w.heap.size, 4, none⟩ = some (.int .u64 n0) ∧ w'.cell? ⟨w1.heap.size + 1, 0, none⟩ = some (.string (atList nameList op))) := fun wx ho =>
              ⟨ho, (k0.only ho (fun e => e)).cell 0, (k0.only ho (fun e => e)).cell 1, (k0.only ho (fun e => e)).cell 2, (k0.only ho (fun e => e)).cell 3, (k0.only ho (fun e => e)).cell 4, (l0.only ho (fun e => e)).cell 0⟩
            have HK : Hid (∀ wx w', Only Nob wx w' → (Only Nob W0 wx ∧ wx.cell? ⟨w.heap.size, 0, none⟩ = some (.int .i64 i0) ∧ wx.cell? ⟨w.heap.size, 1, none⟩ = some (.int .i64 a0) ∧ wx.cell? ⟨w.heap.size, 2, none⟩ = some (.int .i64 b0) ∧ wx.cell? ⟨w.heap.size, 3, none⟩ = some (.int .i64 c0) ∧ wx.cell? ⟨w.heap.size, 4, none⟩ = some (.int .u64 n0) ∧ wx.cell? ⟨w1.heap.size + 1, 0, none⟩ = some (.string (atList nameList op))) → Only Nob W0 w' ∧ w'.cell? ⟨w.heap.size, 0, none⟩ = some (.int .i64 i0) ∧ w'.cell? ⟨w.heap.size, 1, none⟩ = some (.int .i64 a0) ∧ w'.cell? ⟨w.heap.size, 2, none⟩ = some (.int .i64 b0) ∧ w'.cell? ⟨w.heap.size, 3, none⟩ = some (.int .i64 c0) ∧ w'.cell? ⟨w.heap.size, 4, none⟩ = some (.int .u64 n0) ∧ w'.cell? ⟨w1.heap.size + 1, 0, none⟩ = some (.string (atList nameList op))) := by
              rintro wx wy ho ⟨h1, -⟩
              exact HS.out wy (h1.trans ho)
            have HS0 := HS.out W0.drew (Only.refl _ _).drew
            have HT0 := hide t0
            have HO0 := hide ho0
            clear k0 l0 t0 ho0 q0 q1 q2 q3 q4 q5 r0 r1 r2 r3 r4
            first | go_region_held3 (fun w' => Only Nob W0 w' ∧ w'.cell? ⟨w.heap.size, 0, none⟩ = some (.int .i64 i0) ∧ w'.cell? ⟨w.heap.size, 1, none⟩ = some (.int .i64 a0) ∧ w'.cell? ⟨w.heap.size, 2, none⟩ = some (.int .i64 b0) ∧ w'.cell? ⟨w.heap.size, 3, none⟩ = some (.int .i64 c0) ∧ w'.cell? ⟨w.heap.size, 4, none⟩ = some (.int .u64 n0) ∧ w'.cell? ⟨w1.heap.size + 1, 0, none⟩ = some (.string (atList nameList op)))
              (first | exact HS.out _ (((((Only.refl Nob W0).drew.trans honA).trans honB).trans honC).trans honD) | exact HS.out _ ((((Only.refl Nob W0).drew.trans honA).trans honB).trans honC) | exact HS.out _ (((Only.refl Nob W0).drew.trans honA).trans honB) | exact HS.out _ ((Only.refl Nob W0).drew.trans honA) | exact HS0)
              (first
                | (go_at_call 9; refine (may_any _ _ _ _ _ _).mono ?_; rintro e wA ⟨rfl, honA⟩)
                | (go_at_call 10; refine (rmay_may_any _ _ _ _ _ _).mono ?_; rintro e wB ⟨rfl, honB⟩)
                | (go_at_call 11; refine (name_only _ _).mono ?_; rintro e wC ⟨rfl, honC⟩)
                | (go_at_call 12; refine (call_only _ _).mono ?_; rintro e wD ⟨rfl, honD⟩)
                | (go_at_call 6; refine (refcall_any _ _ ((((HT0.out.drew.only honA).only honB).only honC).only honD)).mono ?_; rintro e wE ⟨rfl, rfl⟩)
                | (go_at_call 13; refine (jumps_any _ _).mono ?_; rintro e wE ⟨rfl, rfl⟩)) | fail | fail
            go_wp2
            go_ret
            refine ⟨rfl, HW3.out.trans (below_of_nob ?_ HSZ.out)⟩
            exact (((((HON.out.trans HO0.out).drew).trans honA).trans honB).trans honC).trans honD
          · have j1 : jumpsB op = false := by simp [jumpsB]; omega
            have o1 : (op == 12) = false := by simpa using hop
            have o2 : (op == 13) = false := by simpa using hop'
            clear hop hop'
            go_wp2_with (first
              | (go_at_call 7; refine (op_any s _).mono ?_; rintro e w6 ⟨rfl, rfl⟩)
              | (go_at_call 8; refine (which_any s _).mono ?_; rintro e w6 ⟨rfl, rfl⟩))
            refine abstract_wpt (fun W0 => Only Nob wr W0 ∧ Blk W0 w.heap.size 24 #[.int .i64 i0, .int .i64 a0, .int .i64 b0, .int .i64 c0, .int .u64 n0] ∧ Blk W0 (w1.heap.size + 1) 27 #[.string (atList nameList op), .int .i64 (rA op), .int .i64 (rB op), .int .i64 (rC op), .bool (rN op)] ∧ TabAt W0) ⟨((Only.refl _ _).alloc _).alloc _, (HKI.out.alloc _).alloc _, (HKR.out.alloc _).alloc _, (HTR.out.alloc _).alloc _⟩ ?_
            rintro W0 ⟨ho0, k0, l0, t0⟩
            have HS : Hid (∀ w', Only Nob W0 w' → Only Nob W0 w' ∧ w'.cell? ⟨w.heap.size, 0, none⟩ = some (.int .i64 i0) ∧ w'.cell? ⟨w.heap.size, 1, none⟩ = some (.int .i64 a0) ∧ w'.cell? ⟨w.heap.size, 2, none⟩ = some (.int .i64 b0) ∧ w'.cell? ⟨w.heap.size, 3, none⟩ = some (.int .i64 c0) ∧ w'.cell? ⟨w.heap.size, 4, none⟩ = some (.int .u64 n0) ∧ w'.cell? ⟨w1.heap.size + 1, 0, none⟩ = some (.string (atList nameList op))) := fun wx ho =>
              ⟨ho, (k0.only ho (fun e => e)).cell 0, (k0.only ho (fun e => e)).cell 1, (k0.only ho (fun e => e)).cell 2, (k0.only ho (fun e => e)).cell 3, (k0.only ho (fun e => e)).cell 4, (l0.only ho (fun e => e)).cell 0⟩
            have HK : Hid (∀ wx w', Only Nob wx w' → (Only Nob W0 wx ∧ wx.cell? ⟨w.heap.size, 0, none⟩ = some (.int .i64 i0) ∧ wx.cell? ⟨w.heap.size, 1, none⟩ = some (.int .i64 a0) ∧ wx.cell? ⟨w.heap.size, 2, none⟩ = some (.int .i64 b0) ∧ wx.cell? ⟨w.heap.size, 3, none⟩ = some (.int .i64 c0) ∧ wx.cell? ⟨w.heap.size, 4, none⟩ = some (.int .u64 n0) ∧ wx.cell? ⟨w1.heap.size + 1, 0, none⟩ = some (.string (atList nameList op))) → Only Nob W0 w' ∧ w'.cell? ⟨w.heap.size, 0, none⟩ = some (.int .i64 i0) ∧ w'.cell? ⟨w.heap.size, 1, none⟩ = some (.int .i64 a0) ∧ w'.cell? ⟨w.heap.size, 2, none⟩ = some (.int .i64 b0) ∧ w'.cell? ⟨w.heap.size, 3, none⟩ = some (.int .i64 c0) ∧ w'.cell? ⟨w.heap.size, 4, none⟩ = some (.int .u64 n0) ∧ w'.cell? ⟨w1.heap.size + 1, 0, none⟩ = some (.string (atList nameList op))) := by
              rintro wx wy ho ⟨h1, -⟩
              exact HS.out wy (h1.trans ho)
            have HS0 := HS.out W0.drew (Only.refl _ _).drew
            have HT0 := hide t0
            have HO0 := hide ho0
            clear k0 l0 t0 ho0 q0 q1 q2 q3 q4 q5 r0 r1 r2 r3 r4
            first | go_region_held3 (fun w' => Only Nob W0 w' ∧ w'.cell? ⟨w.heap.size, 0, none⟩ = some (.int .i64 i0) ∧ w'.cell? ⟨w.heap.size, 1, none⟩ = some (.int .i64 a0) ∧ w'.cell? ⟨w.heap.size, 2, none⟩ = some (.int .i64 b0) ∧ w'.cell? ⟨w.heap.size, 3, none⟩ = some (.int .i64 c0) ∧ w'.cell? ⟨w.heap.size, 4, none⟩ = some (.int .u64 n0) ∧ w'.cell? ⟨w1.heap.size + 1, 0, none⟩ = some (.string (atList nameList op)))
              (first | exact HS.out _ (((((Only.refl Nob W0).drew.trans honA).trans honB).trans honC).trans honD) | exact HS.out _ ((((Only.refl Nob W0).drew.trans honA).trans honB).trans honC) | exact HS.out _ (((Only.refl Nob W0).drew.trans honA).trans honB) | exact HS.out _ ((Only.refl Nob W0).drew.trans honA) | exact HS0)
              (first
                | (go_at_call 9; refine (may_any _ _ _ _ _ _).mono ?_; rintro e wA ⟨rfl, honA⟩)
                | (go_at_call 10; refine (rmay_may_any _ _ _ _ _ _).mono ?_; rintro e wB ⟨rfl, honB⟩)
                | (go_at_call 11; refine (name_only _ _).mono ?_; rintro e wC ⟨rfl, honC⟩)
                | (go_at_call 12; refine (call_only _ _).mono ?_; rintro e wD ⟨rfl, honD⟩)
                | (go_at_call 6; refine (refcall_any _ _ ((((HT0.out.drew.only honA).only honB).only honC).only honD)).mono ?_; rintro e wE ⟨rfl, rfl⟩)
                | (go_at_call 13; refine (jumps_any _ _).mono ?_; rintro e wE ⟨rfl, rfl⟩)) | fail | fail
            go_wp2
            go_ret
            refine ⟨rfl, HW3.out.trans (below_of_nob ?_ HSZ.out)⟩
            exact (((((HON.out.trans HO0.out).drew).trans honA).trans honB).trans honC).trans honD
end Go.Proofs.YtpdjhkidalafpaaDoor
