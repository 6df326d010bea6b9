/-
  The contract of the book's Same, at ints.
-/
import Derived.Test.YtpdjhkidalafpaaMatch
namespace Go.Proofs.Ytpdjhkidalafpaa
open Go.RowKit
set_option linter.unusedVariables false
set_option linter.unusedSimpArgs false

theorem IntsOut.form {w : World} {v : Value} {l : List Int} (h : IntsOut w v l) : ∃ A cap, v = .slice A l.length cap ∧ (0 < l.length → ∃ g, A = some ⟨g, 0, none⟩ ∧ IntBlk w g l) := by
  rcases h with ⟨rfl, rfl⟩ | ⟨g, cap, rfl, hi⟩
  · exact ⟨none, 0, rfl, fun h => by simp at h⟩
  · exact ⟨_, cap, rfl, fun _ => ⟨g, rfl, hi⟩⟩

def sameI (a b : List Int) : Bool := decide (a = b)
theorem sameI_of {a b : List Int} (h : a.length = b.length) (h2 : ∀ j, j < a.length → a.getD j 0 = b.getD j 0) : sameI a b = true := by
  have : a = b := by
    apply List.ext_getElem h
    intro j h3 h4
    have := h2 j h3
    rwa [List.getD_eq_getElem?_getD, List.getD_eq_getElem?_getD, List.getElem?_eq_getElem h3, List.getElem?_eq_getElem h4] at this
  simp [sameI, this]

set_option maxHeartbeats 1000000 in
theorem same_any (w : World) (va vb : Value) (a b : List Int) (ha : IntsOut w va a) (hb : IntsOut w vb b) (hn : a.length ≤ 100000) (hn2 : b.length ≤ 100000) :
    Calls Try.prog 23 #[va, vb] w fun e w' => e = .returned (.bool (sameI a b)) ∧ Only Nob w w' := by
  obtain ⟨A, ca, rfl, hA⟩ := ha.form
  obtain ⟨C, cb, rfl, hC⟩ := hb.form
  clear ha hb
  by_cases hl : a.length = b.length
  · have HA : Hid (0 < a.length → ∃ g, A = some ⟨g, 0, none⟩ ∧ IntBlk w g a) := hA
    have HC : Hid (0 < b.length → ∃ g, C = some ⟨g, 0, none⟩ ∧ IntBlk w g b) := hC
    have HL := hide hl
    have HF : Hid ((∀ j, j < a.length → a.getD j 0 = b.getD j 0) → sameI a b = true) := fun h => sameI_of hl h
    have HN : Hid (∀ j, j < a.length → a.getD j 0 ≠ b.getD j 0 → sameI a b = false) := fun j hj h => by
      have : a ≠ b := fun e => h (by rw [e])
      simp [sameI, this]
    have hl' : b.length = a.length := hl.symm
    clear hA hC hl
    rw [hl']
    clear hl'
    have hnn : ((a.length : Int) != (a.length : Int)) = false := by simp
    go_enter Try.func23, Try.ntmps23
    go_wp2
    go_loopw [5] (fun c wr => ∃ (k j : Nat), k ≤ a.length ∧ c = .int .i64 k ∧ wr = w.drewN j ∧ Hid (∀ j, j < k → a.getD j 0 = b.getD j 0)) (fun c _ => a.length - (intOf c).toNat)
    case atStart => exact ⟨0, 0, by omega, rfl, rfl, fun j hj => absurd hj (by omega)⟩
    case round =>
      obtain ⟨k, j, hk, rfl, rfl, hs⟩ := hrel
      by_cases hlt : k < a.length
      · obtain ⟨g, rfl, hg⟩ := HA.out (by omega)
        obtain ⟨g2, rfl, hg2⟩ := HC.out (by rw [← HL.out]; omega)
        have hc := hg.cellD 0 hlt
        have hc2 := hg2.cellD 0 (k := k) (by rw [← HL.out]; exact hlt)
        have hkI : (k : Int) < (a.length : Int) := by omega
        cases he : (a.getD k 0 != b.getD k 0)
        · have HS : Hid (∀ j, j < k + 1 → a.getD j 0 = b.getD j 0) := fun i hi => by
            rcases Nat.lt_or_ge i k with h1 | h1
            · exact hs.out i h1
            · obtain rfl : i = k := by omega
              simpa using he
          clear hg hg2
          generalize a.getD k 0 = x at *
          generalize b.getD k 0 = y at *
          go_wp2
          go_quiet (fail)
          go_wp2
          go_roundw
          case rel => exact ⟨k + 1, _, by omega, by go_num, rfl, HS⟩
          case measure => simp [intOf]; omega
        · have HZ := hide (HN.out k hlt (by simpa using he))
          clear hg hg2
          generalize a.getD k 0 = x at *
          generalize b.getD k 0 = y at *
          go_wp2
          go_quiet (fail)
          go_wp2
          go_ret
          exact ⟨by rw [HZ.out]; rfl, Only.drewN (Only.drewN (Only.refl _ _) _) _⟩
      · obtain rfl : k = a.length := by omega
        have HZ := hide (HF.out hs.out)
        go_wp2
        go_ret
        exact ⟨by rw [HZ.out]; rfl, Only.drewN (Only.refl _ _) _⟩
  · have hs : sameI a b = false := by
      have : a ≠ b := fun e => hl (by rw [e])
      simp [sameI, this]
    have HS := hide hs
    have hd : ((a.length : Int) != (b.length : Int)) = true := by rw [bne_iff_ne]; omega
    have hd2 : (a.length != b.length) = true := by rw [bne_iff_ne]; omega
    clear hs hA hC hl
    go_enter Try.func23, Try.ntmps23
    go_wp2
    go_ret
    exact ⟨by rw [HS.out]; rfl, Only.refl _ _⟩
end Go.Proofs.Ytpdjhkidalafpaa
