/-
  The contract of the reference's name.
-/
import Derived.Test.YtngahgfppbjebaaDoorGrpTxReg
import Derived.Deep.CutRange
namespace Go.Proofs.YtngahgfppbjebaaDoor
open Go.RowKit
set_option linter.unusedVariables false
set_option linter.unusedSimpArgs false

theorem letter_ranges (r : Nat) : (r < 65 ∧ letterR r = false) ∨ ((65 ≤ r ∧ r ≤ 90) ∧ letterR r = true) ∨ ((91 ≤ r ∧ r ≤ 96) ∧ letterR r = false) ∨ ((97 ≤ r ∧ r ≤ 122) ∧ letterR r = true) ∨ ((123 ≤ r ∧ r ≤ 191) ∧ letterR r = false) ∨ ((192 ≤ r ∧ r ≤ 214) ∧ letterR r = true) ∨ (r = 215 ∧ letterR r = false) ∨ ((216 ≤ r ∧ r ≤ 246) ∧ letterR r = true) ∨ (r = 247 ∧ letterR r = false) ∨ ((248 ≤ r ∧ r ≤ 591) ∧ letterR r = true) ∨ (592 ≤ r ∧ letterR r = false) := by
  have hc : r < 65 ∨ (65 ≤ r ∧ r ≤ 90) ∨ (91 ≤ r ∧ r ≤ 96) ∨ (97 ≤ r ∧ r ≤ 122) ∨ (123 ≤ r ∧ r ≤ 191) ∨ (192 ≤ r ∧ r ≤ 214) ∨ r = 215 ∨ (216 ≤ r ∧ r ≤ 246) ∨ r = 247 ∨ (248 ≤ r ∧ r ≤ 591) ∨ 592 ≤ r := by omega
  unfold letterR
  have hb : ∀ p : Prop, ∀ [Decidable p], (decide p = true ↔ p) := fun p _ => decide_eq_true_iff
  rcases hc with h | h | h | h | h | h | h | h | h | h | h
  · refine .inl ⟨h, ?_⟩; simp; omega
  · refine .inr (.inl ⟨h, ?_⟩); simp; omega
  · refine .inr (.inr (.inl ⟨h, ?_⟩)); simp; omega
  · refine .inr (.inr (.inr (.inl ⟨h, ?_⟩))); simp; omega
  · refine .inr (.inr (.inr (.inr (.inl ⟨h, ?_⟩)))); simp; omega
  · refine .inr (.inr (.inr (.inr (.inr (.inl ⟨h, ?_⟩))))); simp; omega
  · refine .inr (.inr (.inr (.inr (.inr (.inr (.inl ⟨h, ?_⟩)))))); simp; omega
  · refine .inr (.inr (.inr (.inr (.inr (.inr (.inr (.inl ⟨h, ?_⟩))))))); simp; omega
  · refine .inr (.inr (.inr (.inr (.inr (.inr (.inr (.inr (.inl ⟨h, ?_⟩)))))))); simp; omega
  · refine .inr (.inr (.inr (.inr (.inr (.inr (.inr (.inr (.inr (.inl ⟨h, ?_⟩))))))))); simp; omega
  · refine .inr (.inr (.inr (.inr (.inr (.inr (.inr (.inr (.inr (.inr ⟨h, ?_⟩))))))))); simp; omega
set_option maxHeartbeats 2000000 in
set_option maxRecDepth 1000000 in
theorem rname_any (s : ByteArray) (hs : s.size ≤ 1000000000) (w : World) : Calls Tryd.prog 90 #[.string s] w fun e w' => e = .returned (.bool (nameP s.data.toList)) ∧ Only Nob w w' := by
  go_enter Tryd.func90, Tryd.ntmps90
  go_wp2
  go_loopw [3] (fun n w' => ∃ (k m : Nat), w' = w.iter s k ∧ n = .int .i64 (m : Int) ∧ NameInv s k m) (fun _ w' => s.size - w'.iterPos w.heap.size)
  case atStart => exact ⟨0, 0, rfl, rfl, NameInv.start s⟩
  case round =>
    obtain ⟨k, m, rfl, rfl, hI⟩ := hrel
    have HI := hide hI
    have hle := hI.le
    have hfew := hI.few
    clear hI
    by_cases hp : k < s.size
    · have hnx := fun ty => run_next_any (P := Tryd.prog) w s k ty hp
      obtain ⟨_, hw1, hw2, hr⟩ := runes_at s k hp
      have NB := hide (fun h => HI.out.bad hp h)
      have NX := hide (fun h => HI.out.next hp h)
      unfold rnAt at NB NX
      generalize Utf8.decode s k = dc at *
      obtain ⟨r, wd⟩ := dc
      simp only at hr hw1 hw2
      have HR := hide hr
      clear HI
      go_upto_region 5 with fail
      go_cut [6] from 12 to 41 (fun v wx => v = .bool (letterR r) ∧ wx = w.iter s (k + wd))
      case first =>
        rcases letter_ranges r with ⟨h, e2⟩ | ⟨⟨h, h2⟩, e2⟩ | ⟨⟨h, h2⟩, e2⟩ | ⟨⟨h, h2⟩, e2⟩ | ⟨⟨h, h2⟩, e2⟩ | ⟨⟨h, h2⟩, e2⟩ | ⟨h, e2⟩ | ⟨⟨h, h2⟩, e2⟩ | ⟨h, e2⟩ | ⟨⟨h, h2⟩, e2⟩ | ⟨h, e2⟩
        all_goals
          have E2 := hide e2
          clear e2
          try subst h
          go_wp2_with fail
          go_meet
          refine ⟨?_, rfl⟩
          rw [E2.out]
          all_goals first
            | rfl
            | (simp; done)
            | (simp; omega)
      case rest =>
        obtain ⟨rfl, hw⟩ := hcut
        subst hw
        cases hl : letterR r with
        | true =>
          have hs1 : Hid (∀ b, stepN m (r, b) = true) := hide (fun b => by simp [stepN, hl])
          clear hl
          go_wp2_with fail
          go_roundw
          case rel => exact ⟨k + wd, m + 1, rfl, rfl, NX.out (hs1.out _)⟩
          case measure =>
            simp
            omega
        | false =>
          have hst : Hid (∀ b, stepN m (r, b) = (decide (0 < m) && digitR r)) := hide (fun b => by simp [stepN, hl])
          clear hl
          by_cases hm : m = 0
          · subst hm
            go_wp2_with fail
            go_ret
            exact ⟨by rw [NB.out (by rw [hst.out]; rfl)]; rfl, iter_only w s _⟩
          · have hm0 : 0 < m := by omega
            have b0 : ((m : Int) == 0) = false := by simp; omega
            by_cases h1 : r < 48
            · go_wp2_with fail
              go_ret
              exact ⟨by rw [NB.out (by rw [hst.out]; simp [digitR]; omega)]; rfl, iter_only w s _⟩
            · by_cases h2 : 57 < r
              · go_wp2_with fail
                go_ret
                exact ⟨by rw [NB.out (by rw [hst.out]; simp [digitR]; omega)]; rfl, iter_only w s _⟩
              · have b1 : decide ((r : Int) < 48) = false := by simp; omega
                have b2 : decide ((57 : Int) < (r : Int)) = false := by simp; omega
                go_wp2_with fail
                go_roundw
                case rel => exact ⟨k + wd, m + 1, rfl, rfl, NX.out (by rw [hst.out]; simp [digitR]; omega)⟩
                case measure =>
                  simp
                  omega
    · have hnx := fun ty => run_next_end (P := Tryd.prog) w s k ty hp
      have HD := hide (HI.out.done hp)
      clear HI
      by_cases h1 : 1 ≤ m
      · by_cases h2 : m ≤ 8
        · go_wp2
          go_ret
          refine ⟨?_, iter_only w s _⟩
          rw [HD.out]
          simp [h1, h2]
          try omega
        · go_wp2
          go_ret
          refine ⟨?_, iter_only w s _⟩
          rw [HD.out]
          simp [h1, h2]
          try omega
      · go_wp2
        go_ret
        refine ⟨?_, iter_only w s _⟩
        rw [HD.out]
        simp [h1]
        try omega
end Go.Proofs.YtngahgfppbjebaaDoor
