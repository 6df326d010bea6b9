/-
  The contract of quietus/slate.number: the number of a text's decimals; a walk.
-/
import Derived.Test.YtngahgfppbjebaaDoorSlNum
import Derived.Test.YtngahgfppbjebaaDoorBase
namespace Go.Proofs.YtngahgfppbjebaaDoor
open Go.RowKit
set_option linter.unusedVariables false
set_option linter.unusedSimpArgs false
def NumPost (w : World) (s : ByteArray) (e : Ending) (w' : World) : Prop :=
  e = .returned (.tuple #[.int .u64 (decN (decMost 18446744073709551615 s.data.toList)), .bool (isNum (decMost 18446744073709551615 s.data.toList))]) ∧ Only Nob w w'
theorem iter_only (w : World) (s : ByteArray) (k : Nat) : Only Nob w (w.iter s k) := (Only.refl _ w).alloc _
theorem NumPost.no {w : World} {s : ByteArray} {k : Nat} (h : decMost 18446744073709551615 s.data.toList = none) : NumPost w s (.returned (.tuple #[.int .u64 0, .bool false])) (w.iter s k) := by
  unfold NumPost
  rw [h]
  exact ⟨rfl, iter_only w s k⟩
theorem NumPost.yes {w : World} {s : ByteArray} {k acc : Nat} (h : decMost 18446744073709551615 s.data.toList = some acc) : NumPost w s (.returned (.tuple #[.int .u64 (acc : Int), .bool true])) (w.iter s k) := by
  unfold NumPost
  rw [h]
  exact ⟨rfl, iter_only w s k⟩
set_option maxRecDepth 1000000 in
theorem number_any (s : ByteArray) (hs : s.size ≤ 1000000000) (w : World) : Calls Tryd.prog 71 #[.string s] w (NumPost w s) := by
  go_enter Tryd.func71, Tryd.ntmps71
  go_wp2
  go_loopw [4] (fun n w' => ∃ (k acc : Nat), w' = w.iter s k ∧ n = .int .u64 (acc : Int) ∧ DigPre s k acc) (fun _ w' => s.size - w'.iterPos w.heap.size)
  case atStart => exact ⟨0, 0, rfl, rfl, DigPreM.start s⟩
  case round =>
    obtain ⟨k, acc, rfl, rfl, hd⟩ := hrel
    have D := hide hd
    have hle := hd.le
    have hmost := hd.most
    clear hd
    by_cases hp : k < s.size
    · by_cases ha : (s[k]'hp).toNat < 128
      · have hnx := fun ty => run_next_ascii (P := Tryd.prog) w s k ty hp ha
        have NB := hide (fun h => D.out.bad hp h 18446744073709551615)
        have NL := hide (fun h0 h => D.out.lead0 hp h0 h 18446744073709551615)
        have NO := hide (fun h => D.out.over hp (m := 18446744073709551615) h)
        have NX := hide (fun h h0 hm => D.out.next hp h h0 hm)
        have DV := hide (dv_eq s[k])
        generalize hc : (s[k]'hp).toNat = c at *
        by_cases h1 : c < 48
        · go_wp2
          go_ret2
          exact NumPost.no (NB.out (by omega))
        · by_cases h2 : 57 < c
          · go_wp2
            go_ret2
            exact NumPost.no (NB.out (by omega))
          · by_cases h3 : 0 < k
            · have hz : 0 < s.size := by omega
              by_cases h4 : s[0] = 48
              · go_wp2
                go_ret2
                exact NumPost.no (NL.out h3 h4)
              · have h6 : (((s[0]'hz).toNat : Int) == 48) = false := by
                  rw [beq_eq_false_iff_ne]
                  intro e
                  exact h4 (UInt8.toNat_inj.1 (by have h48 : (48 : UInt8).toNat = 48 := rfl; omega))
                by_cases h5 : (18446744073709551615 - ((c : Int) - 48)) / 10 < (acc : Int)
                · go_wp2
                  go_ret2
                  exact NumPost.no (NO.out (by have := DV.out (by omega); omega))
                · go_wp2
                  go_roundw
                  case rel =>
                    have hdv := DV.out (by omega)
                    refine ⟨_, _, rfl, ?_, NX.out (by omega) (fun _ => h4) (by omega)⟩
                    congr 1
                    omega
                  case measure =>
                    simp
                    omega
            · have hk0 : k = 0 := by omega
              subst hk0
              by_cases h5 : (18446744073709551615 - ((c : Int) - 48)) / 10 < (acc : Int)
              · go_wp2
                go_ret2
                exact NumPost.no (NO.out (by have := DV.out (by omega); omega))
              · go_wp2
                go_roundw
                case rel =>
                  have hdv := DV.out (by omega)
                  refine ⟨_, _, rfl, ?_, NX.out (by omega) (fun h => absurd h (by omega)) (by omega)⟩
                  congr 1
                  omega
                case measure =>
                  simp
                  omega
      · have hh := decode_high s k hp (by omega)
        have hnx := fun ty => run_next_any (P := Tryd.prog) w s k ty hp
        have NB := hide (fun h => D.out.bad hp h 18446744073709551615)
        generalize Utf8.decode s k = dc at *
        obtain ⟨r, wd⟩ := dc
        have hr : (57 : Int) < (r : Int) := by have := hh.1; simp at this; omega
        have hr2 : ¬ ((r : Int) < 48) := by omega
        go_wp2
        go_ret2
        refine ⟨?_, iter_only w s _⟩
        rw [NB.out (by omega)]
        rfl
    · have hnx := fun ty => run_next_end (P := Tryd.prog) w s k ty hp
      by_cases hz : s.size = 0
      · have hs0 : s = ⟨#[]⟩ := by
          cases s with
          | mk a => have : a = #[] := Array.eq_empty_of_size_eq_zero hz; rw [this]
        subst hs0
        have ha0 : acc = 0 := by have := D.out.val; simpa [valD] using this.symm
        subst ha0
        go_wp2
        go_ret2
        exact ⟨rfl, iter_only w _ _⟩
      · have DN := hide (D.out.done hp hz hmost)
        have hne : s.toList.isEmpty = false := by
          cases he : s.toList with
          | nil =>
            have : s.data.toList = [] := by rw [← ByteArray.toList_eq]; exact he
            have h2 : s.data.toList.length = s.size := by simp
            rw [this] at h2
            exact absurd h2.symm hz
          | cons => rfl
        go_wp2
        go_ret2
        exact NumPost.yes DN.out
end Go.Proofs.YtngahgfppbjebaaDoor
