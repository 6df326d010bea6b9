/-
  The contract of the document's 'Number'.
-/
import Derived.Test.YtngahgfppbjebaaDoorGrpSlNumber
import Derived.Test.YtngahgfppbjebaaDoorBase
namespace Go.Proofs.YtngahgfppbjebaaDoor
open Go.RowKit
set_option linter.unusedVariables false
set_option linter.unusedSimpArgs false
def RNumPost (m : Nat) (w : World) (s : ByteArray) (e : Ending) (w' : World) : Prop :=
  e = .returned (.tuple #[.int .u64 (decN (decMost m s.data.toList)), .bool (isNum (decMost m s.data.toList))]) ∧ w = w'
theorem RNumPost.no {m : Nat} {w : World} {s : ByteArray} (h : decMost m s.data.toList = none) : RNumPost m w s (.returned (.tuple #[.int .u64 0, .bool false])) w := by
  unfold RNumPost
  rw [h]
  exact ⟨rfl, rfl⟩
theorem RNumPost.yes {m : Nat} {w : World} {s : ByteArray} {acc : Nat} (h : decMost m s.data.toList = some acc) : RNumPost m w s (.returned (.tuple #[.int .u64 (acc : Int), .bool true])) w := by
  unfold RNumPost
  rw [h]
  exact ⟨rfl, rfl⟩
theorem dm_long {m : Nat} {l : List UInt8} (hm : m ≤ 18446744073709551615) (h : 20 < l.length) : decMost m l = none := by
  cases hd : decOf l with
  | none => unfold decMost; rw [hd]; rfl
  | some n =>
    unfold decMost
    rw [hd]
    by_cases hn : n ≤ m
    · have := decOf_long hd (by omega)
      omega
    · simp [Option.filter, hn]
set_option maxRecDepth 1000000 in
set_option maxHeartbeats 2000000 in
theorem rnumber_any (s : ByteArray) (hs : s.size ≤ 1000000000) (m : Nat) (hm : m ≤ 18446744073709551615) (w : World) : Calls Tryd.prog 75 #[.string s, .int .u64 (m : Int)] w (RNumPost m w s) := by
  have hl : s.data.toList.length = s.size := by simp
  by_cases hz : s.size = 0
  · have hs0 : s = ⟨#[]⟩ := by
      cases s with
      | mk a => have : a = #[] := Array.eq_empty_of_size_eq_zero hz; rw [this]
    subst hs0
    clear hl hz hs
    go_enter Tryd.func75, Tryd.ntmps75
    go_wp2
    go_ret2
    exact RNumPost.no rfl
  · have hne : s.toList.isEmpty = false := by
      cases he : s.toList with
      | nil =>
        have : s.data.toList = [] := by rw [← ByteArray.toList_eq]; exact he
        rw [this] at hl
        exact absurd hl.symm hz
      | cons => rfl
    by_cases h20 : 20 < s.size
    · have HN := hide (dm_long (m := m) (l := s.data.toList) hm (by omega))
      clear hl
      go_enter Tryd.func75, Tryd.ntmps75
      go_wp2
      go_ret2
      exact RNumPost.no HN.out
    · have hz0 : 0 < s.size := by omega
      by_cases hlead : (s[0]'hz0) = 48 ∧ 1 < s.size
      · have HN := hide ((DigPreM.start (M := 0) s).bad hz0 · m)
        have HD : Hid (decMost m s.data.toList = none) := hide (dm_lead (by rw [split_at s 0 hz0]; simp [hlead.1]) (by omega))
        obtain ⟨hl1, hl2⟩ := hlead
        clear hl HN
        go_enter Tryd.func75, Tryd.ntmps75
        go_wp2
        go_ret2
        exact RNumPost.no HD.out
      · have HL := hide hlead
        have hlf : ((((s[0]'hz0).toNat : Int) == 48) && decide ((1 : Int) < (s.size : Int))) = false := by
          rw [Bool.and_eq_false_iff]
          by_cases h4 : s[0] = 48
          · right
            have : ¬ 1 < s.size := fun h => hlead ⟨h4, h⟩
            simp; omega
          · left
            rw [beq_eq_false_iff_ne]
            intro e
            exact h4 (UInt8.toNat_inj.1 (by have h48 : (48 : UInt8).toNat = 48 := rfl; omega))
        clear hl hlead
        generalize hq : (s[0]'hz0).toNat = q at hlf
        by_cases hq48 : q = 48
        · have hone : ¬ 1 < s.size := by
            intro h
            rw [hq48] at hlf
            simp at hlf
            omega
          subst hq48
          go_enter Tryd.func75, Tryd.ntmps75
          go_wp2
          clear hlf hone
          go_loopw [6, 7] (fun n i wr => ∃ (k acc : Nat), wr = w ∧ n = .int .u64 (acc : Int) ∧ i = .int .i64 (k : Int) ∧ DigPreM m s k acc) (fun _ i _ => s.size - (intOf i).toNat)
          case atStart => exact ⟨0, 0, rfl, rfl, rfl, DigPreM.start s⟩
          case round =>
            obtain ⟨k, acc, rfl, rfl, rfl, hd⟩ := hrel
            have D := hide hd
            have hle := hd.le
            have hmost := hd.most
            clear hd
            by_cases hp : k < s.size
            · have NB := hide (fun h => D.out.bad hp h m)
              have NO := hide (fun h => D.out.over hp (m := m) h)
              have NX := hide (fun h h0 hm => D.out.next hp h h0 hm)
              have DV := hide (dv_eq s[k])
              have NL : Hid (0 < k → s[0] ≠ 48) := hide (fun h0 h => HL.out ⟨h, by omega⟩)
              have hc256 := (s[k]'hp).toNat_lt
              generalize hc : (s[k]'hp).toNat = c at *
              by_cases h1 : c < 48
              · go_wp2
                go_ret2
                exact RNumPost.no (NB.out (by omega))
              · by_cases h2 : 57 < c
                · go_wp2
                  go_ret2
                  exact RNumPost.no (NB.out (by omega))
                · by_cases h3 : c - 48 ≤ m
                  · have h3f : ¬ ((m : Int) < (c : Int) - 48) := by omega
                    have hw1 : IntKind.u64.wrap ((m : Int) - ((c : Int) - 48)) = (m : Int) - ((c : Int) - 48) := by rw [IntKind.wrap_u64]; omega
                    by_cases h5 : ((m : Int) - ((c : Int) - 48)) / 10 < (acc : Int)
                    · go_wp2
                      go_ret2
                      exact RNumPost.no (NO.out (by have := DV.out (by omega); omega))
                    · have hw2 : IntKind.u64.wrap ((acc : Int) * 10) = (acc : Int) * 10 := by rw [IntKind.wrap_u64]; omega
                      have hw3 : IntKind.u64.wrap ((acc : Int) * 10 + ((c : Int) - 48)) = (acc : Int) * 10 + ((c : Int) - 48) := by rw [IntKind.wrap_u64]; omega
                      go_wp2
                      go_roundw
                      case rel =>
                        have hdv := DV.out (by omega)
                        refine ⟨k + 1, 10 * acc + dv s[k], by trivial, ?_, by trivial, NX.out (by omega) NL.out (by omega)⟩
                        congr 1
                        omega
                      case measure =>
                        show s.size - ((k : Int) + 1).toNat < s.size - (k : Int).toNat
                        omega
                  · have h3t : (m : Int) < (c : Int) - 48 := by omega
                    have NN := hide (NO.out (by have := DV.out (by omega); omega))
                    go_wp2
                    all_goals
                      go_ret2
                      exact RNumPost.no NN.out
            · have DN := hide (D.out.done hp hz hmost)
              go_wp2
              go_ret2
              exact RNumPost.yes DN.out
        · have hq2 : ((q : Int) == 48) = false := by rw [beq_eq_false_iff_ne]; omega
          go_enter Tryd.func75, Tryd.ntmps75
          go_wp2
          clear hlf
          go_loopw [6, 7] (fun n i wr => ∃ (k acc : Nat), wr = w ∧ n = .int .u64 (acc : Int) ∧ i = .int .i64 (k : Int) ∧ DigPreM m s k acc) (fun _ i _ => s.size - (intOf i).toNat)
          case atStart => exact ⟨0, 0, rfl, rfl, rfl, DigPreM.start s⟩
          case round =>
            obtain ⟨k, acc, rfl, rfl, rfl, hd⟩ := hrel
            have D := hide hd
            have hle := hd.le
            have hmost := hd.most
            clear hd
            by_cases hp : k < s.size
            · have NB := hide (fun h => D.out.bad hp h m)
              have NO := hide (fun h => D.out.over hp (m := m) h)
              have NX := hide (fun h h0 hm => D.out.next hp h h0 hm)
              have DV := hide (dv_eq s[k])
              have NL : Hid (0 < k → s[0] ≠ 48) := hide (fun h0 h => HL.out ⟨h, by omega⟩)
              have hc256 := (s[k]'hp).toNat_lt
              generalize hc : (s[k]'hp).toNat = c at *
              by_cases h1 : c < 48
              · go_wp2
                go_ret2
                exact RNumPost.no (NB.out (by omega))
              · by_cases h2 : 57 < c
                · go_wp2
                  go_ret2
                  exact RNumPost.no (NB.out (by omega))
                · by_cases h3 : c - 48 ≤ m
                  · have h3f : ¬ ((m : Int) < (c : Int) - 48) := by omega
                    have hw1 : IntKind.u64.wrap ((m : Int) - ((c : Int) - 48)) = (m : Int) - ((c : Int) - 48) := by rw [IntKind.wrap_u64]; omega
                    by_cases h5 : ((m : Int) - ((c : Int) - 48)) / 10 < (acc : Int)
                    · go_wp2
                      go_ret2
                      exact RNumPost.no (NO.out (by have := DV.out (by omega); omega))
                    · have hw2 : IntKind.u64.wrap ((acc : Int) * 10) = (acc : Int) * 10 := by rw [IntKind.wrap_u64]; omega
                      have hw3 : IntKind.u64.wrap ((acc : Int) * 10 + ((c : Int) - 48)) = (acc : Int) * 10 + ((c : Int) - 48) := by rw [IntKind.wrap_u64]; omega
                      go_wp2
                      go_roundw
                      case rel =>
                        have hdv := DV.out (by omega)
                        refine ⟨k + 1, 10 * acc + dv s[k], by trivial, ?_, by trivial, NX.out (by omega) NL.out (by omega)⟩
                        congr 1
                        omega
                      case measure =>
                        show s.size - ((k : Int) + 1).toNat < s.size - (k : Int).toNat
                        omega
                  · have h3t : (m : Int) < (c : Int) - 48 := by omega
                    have NN := hide (NO.out (by have := DV.out (by omega); omega))
                    go_wp2
                    all_goals
                      go_ret2
                      exact RNumPost.no NN.out
            · have DN := hide (D.out.done hp hz hmost)
              go_wp2
              go_ret2
              exact RNumPost.yes DN.out
end Go.Proofs.YtngahgfppbjebaaDoor
