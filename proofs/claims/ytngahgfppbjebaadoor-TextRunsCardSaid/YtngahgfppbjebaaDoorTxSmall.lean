/-
  Contracts of package text: letters, names, numbers, registers, the fields that an instruction has.
-/
import Derived.Test.YtngahgfppbjebaaDoorTxPlain
import Derived.Test.YtngahgfppbjebaaDoorSlNumber
import Derived.Test.YtngahgfppbjebaaDoorBase
import Derived.Test.YtngahgfppbjebaaDoorFrames
namespace Go.Proofs.YtngahgfppbjebaaDoor
open Go.RowKit
set_option linter.unusedVariables false
set_option linter.unusedSimpArgs false

set_option maxHeartbeats 1000000 in
theorem letter_any (n : Nat) (hn : n ≤ 2147483647) (w : World) : Calls Tryd.prog 104 #[.int .i32 (n : Int)] w fun e w' => e = .returned (.bool (letterR n)) ∧ w = w' := by
  have hc : n < 65 ∨ (65 ≤ n ∧ n ≤ 90) ∨ (91 ≤ n ∧ n ≤ 96) ∨ (97 ≤ n ∧ n ≤ 122) ∨ (123 ≤ n ∧ n ≤ 191) ∨ (192 ≤ n ∧ n ≤ 214) ∨ n = 215 ∨ (216 ≤ n ∧ n ≤ 246) ∨ n = 247 ∨ (248 ≤ n ∧ n ≤ 591) ∨ 592 ≤ n := by omega
  rcases hc with h | ⟨h, h2⟩ | ⟨h, h2⟩ | ⟨h, h2⟩ | ⟨h, h2⟩ | ⟨h, h2⟩ | h | ⟨h, h2⟩ | h | ⟨h, h2⟩ | h
  all_goals
    have e1 : letterR n = letterR n := rfl
    conv at e1 => rhs; unfold letterR
    first
      | (have e2 : letterR n = true := by (simp [letterR]; omega)
         rw [e2])
      | (have e2 : letterR n = false := by (simp [letterR]; omega)
         rw [e2])
    clear e1 e2
    try subst h
    go_enter Tryd.func104, Tryd.ntmps104
    go_wp2
    go_ret
    refine ⟨?_, rfl⟩
    first
      | rfl
      | (simp; done)
      | (simp; omega)
/-- A name, rune by rune. -/
structure NameInv (s : ByteArray) (k n : Nat) : Prop where
  le : k ≤ s.size
  few : n ≤ k
  ok : nameF 0 (runesL s.data.toList) = nameF n (runesL (s.data.toList.drop k))
  len : (runesL s.data.toList).length = n + (runesL (s.data.toList.drop k)).length
theorem NameInv.start (s : ByteArray) : NameInv s 0 0 := ⟨Nat.zero_le _, Nat.le_refl _, by rw [List.drop_zero], by rw [List.drop_zero]; omega⟩
theorem NameInv.next {s : ByteArray} {k n : Nat} (h : NameInv s k n) (hk : k < s.size) (hx : stepN n (rnAt s k) = true) : NameInv s (k + (Utf8.decode s k).2) (n + 1) := by
  obtain ⟨h1, h2, h3, _⟩ := runes_at s k hk
  refine ⟨h3, by have := h.few; omega, ?_, ?_⟩
  · rw [h.ok, h1, nameF, hx, Bool.true_and]
  · rw [h.len, h1, List.length_cons]
    omega
theorem NameInv.bad {s : ByteArray} {k n : Nat} (h : NameInv s k n) (hk : k < s.size) (hx : stepN n (rnAt s k) = false) : nameP s.data.toList = false := by
  obtain ⟨h1, _⟩ := runes_at s k hk
  unfold nameP nameL
  rw [h.ok, h1, nameF, hx]
  rfl
theorem NameInv.done {s : ByteArray} {k n : Nat} (h : NameInv s k n) (hk : ¬ k < s.size) : nameP s.data.toList = (decide (1 ≤ n) && decide (n ≤ 8)) := by
  have h1 := runes_end s k hk
  have h2 := h.ok
  have h3 := h.len
  rw [h1] at h2 h3
  unfold nameP nameL
  rw [h2, h3]
  simp [nameF]
set_option maxRecDepth 1000000 in
theorem named_any (s : ByteArray) (hs : s.size ≤ 1000000000) (w : World) : Calls Tryd.prog 80 #[.string s] w fun e w' => e = .returned (.bool (nameP s.data.toList)) ∧ Only Nob w w' := by
  go_enter Tryd.func80, Tryd.ntmps80
  go_wp2
  go_loopw [3] (fun n w' => ∃ (k m : Nat), w' = w.iter s k ∧ n = .int .i64 (m : Int) ∧ NameInv s k m) (fun _ w' => s.size - w'.iterPos w.heap.size)
  case atStart => exact ⟨0, 0, rfl, rfl, NameInv.start s⟩
  case round =>
    obtain ⟨k, m, rfl, rfl, hI⟩ := hrel
    have HI := hide hI
    have hle := hI.le
    have hfew := hI.few
    clear hI
    by_cases hp : k < s.size
    · have hnx := fun ty => run_next_any (P := Tryd.prog) w s k ty hp
      obtain ⟨_, hw1, hw2, hr⟩ := runes_at s k hp
      have NB := hide (fun h => HI.out.bad hp h)
      have NX := hide (fun h => HI.out.next hp h)
      have HL := hide (fun w => letter_any (Utf8.decode s k).1 (by omega) w)
      unfold rnAt at NB NX
      generalize Utf8.decode s k = dc at *
      obtain ⟨r, wd⟩ := dc
      simp only at hr hw1 hw2
      have HR := hide hr
      clear HI
      by_cases hl : letterR r = true
      · have HLL : Hid (∀ w, Calls Tryd.prog 104 #[.int .i32 (r : Int)] w fun e w' => e = .returned (.bool true) ∧ w = w') := hide (fun w => by have := HL.out w; simp only at this; rw [hl] at this; exact this)
        have hs1 : Hid (∀ b, stepN m (r, b) = true) := hide (fun b => by simp [stepN, hl])
        clear hl HL
        go_wp2_with (go_at_call 104; refine (HLL.out _).mono ?_; rintro e w2 ⟨rfl, rfl⟩)
        go_roundw
        case rel => exact ⟨k + wd, m + 1, rfl, rfl, NX.out (hs1.out _)⟩
        case measure =>
          simp
          omega
      · have hl2 : letterR r = false := by simpa using hl
        have HLL : Hid (∀ w, Calls Tryd.prog 104 #[.int .i32 (r : Int)] w fun e w' => e = .returned (.bool false) ∧ w = w') := hide (fun w => by have := HL.out w; simp only at this; rw [hl2] at this; exact this)
        have hst : Hid (∀ b, stepN m (r, b) = (decide (0 < m) && digitR r)) := hide (fun b => by simp [stepN, hl2])
        clear hl hl2 HL
        by_cases hm : m = 0
        · subst hm
          go_wp2_with (go_at_call 104; refine (HLL.out _).mono ?_; rintro e w2 ⟨rfl, rfl⟩)
          go_ret
          exact ⟨by rw [NB.out (by rw [hst.out]; rfl)]; rfl, iter_only w s _⟩
        · have hm0 : 0 < m := by omega
          by_cases h1 : r < 48
          · go_wp2_with (go_at_call 104; refine (HLL.out _).mono ?_; rintro e w2 ⟨rfl, rfl⟩)
            go_ret
            exact ⟨by rw [NB.out (by rw [hst.out]; simp [digitR]; omega)]; rfl, iter_only w s _⟩
          · by_cases h2 : 57 < r
            · go_wp2_with (go_at_call 104; refine (HLL.out _).mono ?_; rintro e w2 ⟨rfl, rfl⟩)
              go_ret
              exact ⟨by rw [NB.out (by rw [hst.out]; simp [digitR]; omega)]; rfl, iter_only w s _⟩
            · have b0 : ((m : Int) == 0) = false := by simp; omega
              have b1 : decide ((r : Int) < 48) = false := by simp; omega
              have b2 : decide ((57 : Int) < (r : Int)) = false := by simp; omega
              go_wp2_with (go_at_call 104; refine (HLL.out _).mono ?_; rintro e w2 ⟨rfl, rfl⟩)
              go_roundw
              case rel => exact ⟨k + wd, m + 1, rfl, rfl, NX.out (by rw [hst.out]; simp [digitR]; omega)⟩
              case measure =>
                simp
                omega
    · have hnx := fun ty => run_next_end (P := Tryd.prog) w s k ty hp
      have HD := hide (HI.out.done hp)
      clear HI
      by_cases h1 : 1 ≤ m
      · by_cases h2 : m ≤ 8
        · go_wp2
          go_ret
          refine ⟨?_, iter_only w s _⟩
          rw [HD.out]
          simp [h1, h2]
          try omega
        · go_wp2
          go_ret
          refine ⟨?_, iter_only w s _⟩
          rw [HD.out]
          simp [h1, h2]
          try omega
      · go_wp2
        go_ret
        refine ⟨?_, iter_only w s _⟩
        rw [HD.out]
        simp [h1]
        try omega
end Go.Proofs.YtngahgfppbjebaaDoor
