/-
  Contracts of package text: decimals, small numbers, registers, fields.
-/
import Derived.Test.YtngahgfppbjebaaDoorTxSmall
namespace Go.Proofs.YtngahgfppbjebaaDoor
open Go.RowKit
set_option linter.unusedVariables false
set_option linter.unusedSimpArgs false
set_option maxRecDepth 1000000 in
theorem tdecimal_any (s : ByteArray) (hs : s.size ≤ 1000000000) (w : World) : Calls Tryd.prog 108 #[.string s] w (NumPost w s) := by
  go_enter Tryd.func108, Tryd.ntmps108
  go_wp2
  go_loopw [4] (fun n w' => ∃ (k acc : Nat), w' = w.iter s k ∧ n = .int .u64 (acc : Int) ∧ DigPre s k acc) (fun _ w' => s.size - w'.iterPos w.heap.size)
  case atStart => exact ⟨0, 0, rfl, rfl, DigPreM.start s⟩
  case round =>
    obtain ⟨k, acc, rfl, rfl, hd⟩ := hrel
    have D := hide hd
    have hle := hd.le
    have hmost := hd.most
    clear hd
    by_cases hp : k < s.size
    · by_cases ha : (s[k]'hp).toNat < 128
      · have hnx := fun ty => run_next_ascii (P := Tryd.prog) w s k ty hp ha
        have NB := hide (fun h => D.out.bad hp h 18446744073709551615)
        have NL := hide (fun h0 h => D.out.lead0 hp h0 h 18446744073709551615)
        have NO := hide (fun h => D.out.over hp (m := 18446744073709551615) h)
        have NX := hide (fun h h0 hm => D.out.next hp h h0 hm)
        have DV := hide (dv_eq s[k])
        generalize hc : (s[k]'hp).toNat = c at *
        by_cases h1 : c < 48
        · go_wp2
          go_ret2
          exact NumPost.no (NB.out (by omega))
        · by_cases h2 : 57 < c
          · go_wp2
            go_ret2
            exact NumPost.no (NB.out (by omega))
          · by_cases h3 : 0 < k
            · have hz : 0 < s.size := by omega
              by_cases h4 : s[0] = 48
              · go_wp2
                go_ret2
                exact NumPost.no (NL.out h3 h4)
              · have h6 : (((s[0]'hz).toNat : Int) == 48) = false := by
                  rw [beq_eq_false_iff_ne]
                  intro e
                  exact h4 (UInt8.toNat_inj.1 (by have h48 : (48 : UInt8).toNat = 48 := rfl; omega))
                by_cases h5 : (18446744073709551615 - ((c : Int) - 48)) / 10 < (acc : Int)
                · go_wp2
                  go_ret2
                  exact NumPost.no (NO.out (by have := DV.out (by omega); omega))
                · go_wp2
                  go_roundw
                  case rel =>
                    have hdv := DV.out (by omega)
                    refine ⟨_, _, rfl, ?_, NX.out (by omega) (fun _ => h4) (by omega)⟩
                    congr 1
                    omega
                  case measure =>
                    simp
                    omega
            · have hk0 : k = 0 := by omega
              subst hk0
              by_cases h5 : (18446744073709551615 - ((c : Int) - 48)) / 10 < (acc : Int)
              · go_wp2
                go_ret2
                exact NumPost.no (NO.out (by have := DV.out (by omega); omega))
              · go_wp2
                go_roundw
                case rel =>
                  have hdv := DV.out (by omega)
                  refine ⟨_, _, rfl, ?_, NX.out (by omega) (fun h => absurd h (by omega)) (by omega)⟩
                  congr 1
                  omega
                case measure =>
                  simp
                  omega
      · have hh := decode_high s k hp (by omega)
        have hnx := fun ty => run_next_any (P := Tryd.prog) w s k ty hp
        have NB := hide (fun h => D.out.bad hp h 18446744073709551615)
        generalize Utf8.decode s k = dc at *
        obtain ⟨r, wd⟩ := dc
        have hr : (57 : Int) < (r : Int) := by have := hh.1; simp at this; omega
        have hr2 : ¬ ((r : Int) < 48) := by omega
        go_wp2
        go_ret2
        refine ⟨?_, iter_only w s _⟩
        rw [NB.out (by omega)]
        rfl
    · have hnx := fun ty => run_next_end (P := Tryd.prog) w s k ty hp
      by_cases hz : s.size = 0
      · have hs0 : s = ⟨#[]⟩ := by
          cases s with
          | mk a => have : a = #[] := Array.eq_empty_of_size_eq_zero hz; rw [this]
        subst hs0
        have ha0 : acc = 0 := by have := D.out.val; simpa [valD] using this.symm
        subst ha0
        go_wp2
        go_ret2
        exact ⟨rfl, iter_only w _ _⟩
      · have DN := hide (D.out.done hp hz hmost)
        have hne : s.toList.isEmpty = false := by
          cases he : s.toList with
          | nil =>
            have : s.data.toList = [] := by rw [← ByteArray.toList_eq]; exact he
            have h2 : s.data.toList.length = s.size := by simp
            rw [this] at h2
            exact absurd h2.symm hz
          | cons => rfl
        go_wp2
        go_ret2
        exact NumPost.yes DN.out

theorem decMost_most {most : Nat} (hm : most ≤ 18446744073709551615) {l : List UInt8} : decMost most l = (decMost 18446744073709551615 l).filter fun n => decide (n ≤ most) := by
  unfold decMost
  cases decOf l with
  | none => rfl
  | some n =>
    by_cases h : n ≤ most
    · have h2 : n ≤ 18446744073709551615 := by omega
      simp [Option.filter, h, h2]
    · by_cases h2 : n ≤ 18446744073709551615 <;> simp [Option.filter, h, h2]
/-- A number of digits, or none. -/
def SmallPost (w : World) (o : Option Nat) (e : Ending) (w' : World) : Prop := Only Nob w w' ∧ match o with
  | some n => e = .returned (.tuple #[.int .i64 (n : Int), .bool true])
  | none => e = .returned (.tuple #[.int .i64 0, .bool false])
theorem small_any (s : ByteArray) (hs : s.size ≤ 1000000000) (most : Nat) (hm : most ≤ 1000) (w : World) : Calls Tryd.prog 107 #[.string s, .int .i64 (most : Int)] w (SmallPost w (decMost most s.data.toList)) := by
  have HD := hide (tdecimal_any s hs w)
  rw [decMost_most (by omega)]
  unfold NumPost at HD
  generalize decMost 18446744073709551615 s.data.toList = o at *
  rcases o with _ | n
  · simp only [decN, isNum] at HD
    have HD2 := HD
    clear HD
    go_enter Tryd.func107, Tryd.ntmps107
    go_wp2_with (go_at_call 108; refine (HD2.out).mono ?_; rintro e w2 ⟨rfl, ho⟩; have HO := hide ho; clear ho)
    go_ret2
    exact ⟨HO.out, rfl⟩
  · simp only [decN, isNum] at HD
    have HD2 := HD
    clear HD
    by_cases h : n ≤ most
    · have hf : (some n).filter (fun n => decide (n ≤ most)) = some n := by simp [Option.filter, h]
      rw [hf]
      go_enter Tryd.func107, Tryd.ntmps107
      go_wp2_with (go_at_call 108; refine (HD2.out).mono ?_; rintro e w2 ⟨rfl, ho⟩; have HO := hide ho; clear ho)
      go_ret2
      exact ⟨HO.out, rfl⟩
    · have hf : (some n).filter (fun n => decide (n ≤ most)) = none := by simp [Option.filter, h]
      rw [hf]
      go_enter Tryd.func107, Tryd.ntmps107
      go_wp2_with (go_at_call 108; refine (HD2.out).mono ?_; rintro e w2 ⟨rfl, ho⟩; have HO := hide ho; clear ho)
      go_ret2
      exact ⟨HO.out, rfl⟩
end Go.Proofs.YtngahgfppbjebaaDoor
