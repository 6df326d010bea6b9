/-
  The contract of package slate's 'number': decimals of a text.
  The contract of quietus/slate.number: the number of a text's decimals; a walk.
-/
import Derived.Test.YtngahgfppbjebaaDoorGrpWords
import Derived.Test.YtngahgfppbjebaaDoorGrpSlDec
import Derived.Laws.RangeString
import Derived.Laws.RangeAny
import Derived.LoopTactic
import Derived.WalkKit
import Derived.Test.YtngahgfppbjebaaDoorBase
namespace Go.Proofs.YtngahgfppbjebaaDoor
open Go.RowKit
set_option linter.unusedVariables false
set_option linter.unusedSimpArgs false

theorem digB_iff (b : UInt8) : digB b = true ↔ 48 ≤ b.toNat ∧ b.toNat ≤ 57 := by simp [digB]
theorem dm_bad {m : Nat} {l pre r : List UInt8} {b : UInt8} (h : l = pre ++ b :: r) (hb : ¬ (48 ≤ b.toNat ∧ b.toNat ≤ 57)) : decMost m l = none := by
  have h1 : l.all digB = false := by
    have : digB b = false := by
      cases hd : digB b with
      | false => rfl
      | true => exact absurd ((digB_iff b).1 hd) hb
    rw [h, List.all_append, List.all_cons, this]
    simp
  unfold decMost decOf
  rw [if_neg (by rintro ⟨_, h2, _⟩; rw [h1] at h2; cases h2)]
  rfl
theorem dm_lead {m : Nat} {l : List UInt8} (h : l.head? = some 48) (h2 : 1 < l.length) : decMost m l = none := by
  unfold decMost decOf
  rw [if_neg (fun h3 => h3.2.2 ⟨h, h2⟩)]
  rfl
theorem dm_over {m : Nat} {l pre r : List UInt8} (h : l = pre ++ r) (h2 : m < valD 0 pre) : decMost m l = none := by
  unfold decMost decOf
  split
  · have : ¬ valD 0 l ≤ m := by
      rw [h, valD_app]
      have := valD_le_self r (valD 0 pre)
      omega
    simp [Option.filter, this]
  · rfl
theorem dm_ok {m : Nat} {l : List UInt8} (h : l ≠ []) (h2 : l.all digB = true) (h3 : ¬ (l.head? = some 48 ∧ 1 < l.length)) (h4 : valD 0 l ≤ m) : decMost m l = some (valD 0 l) := by
  unfold decMost decOf
  rw [if_pos ⟨h, h2, h3⟩]
  simp [Option.filter, h4]
theorem dm_nil (m : Nat) : decMost m [] = none := rfl
def decN (o : Option Nat) : Int := match o with
  | some n => (n : Int)
  | none => 0
def isNum (o : Option Nat) : Bool := o.isSome
/-- What a round of the loop over a text's runes stands on: the first k bytes are digits, without a nought ahead, and say acc. -/
structure DigPreM (M : Nat) (s : ByteArray) (k acc : Nat) : Prop where
  le : k ≤ s.size
  all : (s.data.toList.take k).all digB = true
  lead : ¬ ((s.data.toList.take k).head? = some 48 ∧ 1 < k)
  val : valD 0 (s.data.toList.take k) = acc
  most : acc ≤ M
abbrev DigPre := DigPreM 18446744073709551615
theorem split_at (s : ByteArray) (k : Nat) (h : k < s.size) : s.data.toList = s.data.toList.take k ++ s[k] :: s.data.toList.drop (k + 1) := by
  have e : s.data.toList[k]? = some s[k] := by
    rw [Array.getElem?_toList]
    exact Array.getElem?_eq_getElem h
  have h2 : k < s.data.toList.length := by simpa using h
  have e2 : s.data.toList[k] = s[k] := by
    rw [List.getElem?_eq_getElem h2] at e
    exact Option.some.inj e
  rw [← e2, List.getElem_cons_drop, List.take_append_drop]
theorem take_at (s : ByteArray) (k : Nat) (h : k < s.size) : s.data.toList.take (k + 1) = s.data.toList.take k ++ [s[k]] := by
  have e : s.data.toList[k]? = some s[k] := by
    rw [Array.getElem?_toList]
    exact Array.getElem?_eq_getElem h
  rw [List.take_add_one, e]
  rfl
theorem DigPreM.start {M : Nat} (s : ByteArray) : DigPreM M s 0 0 := ⟨Nat.zero_le _, rfl, by simp, rfl, Nat.zero_le _⟩
theorem DigPreM.bad {M : Nat} {s : ByteArray} {k acc : Nat} (h : DigPreM M s k acc) (hk : k < s.size) (hb : ¬ (48 ≤ s[k].toNat ∧ s[k].toNat ≤ 57)) (m : Nat) : decMost m s.data.toList = none := dm_bad (split_at s k hk) hb
theorem DigPreM.lead0 {M : Nat} {s : ByteArray} {k acc : Nat} (h : DigPreM M s k acc) (hk : k < s.size) (h0 : 0 < k) (hb : (s[0]'(by omega)) = 48) (m : Nat) : decMost m s.data.toList = none := by
  have e := split_at s 0 (by omega)
  refine dm_lead ?_ ?_
  · rw [e]; simp [hb]
  · have : s.data.toList.length = s.size := by simp
    omega
theorem DigPreM.over {M : Nat} {s : ByteArray} {k acc : Nat} (h : DigPreM M s k acc) (hk : k < s.size) {m : Nat} (hb : m < 10 * acc + dv s[k]) : decMost m s.data.toList = none := by
  refine dm_over (pre := s.data.toList.take (k + 1)) (List.take_append_drop (k + 1) s.data.toList).symm ?_
  rw [take_at s k hk, valD_snoc, h.val]
  exact hb
theorem DigPreM.next {M : Nat} {s : ByteArray} {k acc : Nat} (h : DigPreM M s k acc) (hk : k < s.size) (hb : 48 ≤ s[k].toNat ∧ s[k].toNat ≤ 57) (h0 : 0 < k → (s[0]'(by omega)) ≠ 48) (hm : 10 * acc + dv s[k] ≤ M) : DigPreM M s (k + 1) (10 * acc + dv s[k]) := by
  refine ⟨by omega, ?_, ?_, ?_, hm⟩
  · rw [take_at s k hk, List.all_append, h.all]
    simp [(digB_iff s[k]).2 hb]
  · rintro ⟨h1, h2⟩
    have hk0 : 0 < k := by omega
    refine h0 hk0 ?_
    have e := split_at s 0 (by omega)
    rw [e] at h1
    simpa using h1
  · rw [take_at s k hk, valD_snoc, h.val]
theorem DigPreM.done {M : Nat} {s : ByteArray} {k acc : Nat} (h : DigPreM M s k acc) (hk : ¬ k < s.size) (hn : s.size ≠ 0) {m : Nat} (hm : acc ≤ m) : decMost m s.data.toList = some acc := by
  have hl : s.data.toList.length = s.size := by simp
  have hk2 : k = s.size := by have := h.le; omega
  have e : s.data.toList.take k = s.data.toList := List.take_of_length_le (by omega)
  have h1 := h.all; have h2 := h.lead; have h3 := h.val
  rw [e] at h1 h2 h3
  rw [dm_ok (by intro e0; rw [e0] at hl; simp at hl; omega) h1 (by rw [hl, ← hk2]; exact h2) (by omega), h3]
theorem dv_eq (b : UInt8) (h : 48 ≤ b.toNat) : ((dv b : Nat) : Int) = (b.toNat : Int) - 48 := by unfold dv; omega
end Go.Proofs.YtngahgfppbjebaaDoor
namespace Go.Proofs.YtngahgfppbjebaaDoor
open Go.RowKit
set_option linter.unusedVariables false
set_option linter.unusedSimpArgs false
def NumPost (w : World) (s : ByteArray) (e : Ending) (w' : World) : Prop :=
  e = .returned (.tuple #[.int .u64 (decN (decMost 18446744073709551615 s.data.toList)), .bool (isNum (decMost 18446744073709551615 s.data.toList))]) ∧ Only Nob w w'
theorem iter_only (w : World) (s : ByteArray) (k : Nat) : Only Nob w (w.iter s k) := (Only.refl _ w).alloc _
theorem NumPost.no {w : World} {s : ByteArray} {k : Nat} (h : decMost 18446744073709551615 s.data.toList = none) : NumPost w s (.returned (.tuple #[.int .u64 0, .bool false])) (w.iter s k) := by
  unfold NumPost
  rw [h]
  exact ⟨rfl, iter_only w s k⟩
theorem NumPost.yes {w : World} {s : ByteArray} {k acc : Nat} (h : decMost 18446744073709551615 s.data.toList = some acc) : NumPost w s (.returned (.tuple #[.int .u64 (acc : Int), .bool true])) (w.iter s k) := by
  unfold NumPost
  rw [h]
  exact ⟨rfl, iter_only w s k⟩
set_option maxRecDepth 1000000 in
theorem number_any (s : ByteArray) (hs : s.size ≤ 1000000000) (w : World) : Calls Tryd.prog 71 #[.string s] w (NumPost w s) := by
  go_enter Tryd.func71, Tryd.ntmps71
  go_wp2
  go_loopw [4] (fun n w' => ∃ (k acc : Nat), w' = w.iter s k ∧ n = .int .u64 (acc : Int) ∧ DigPre s k acc) (fun _ w' => s.size - w'.iterPos w.heap.size)
  case atStart => exact ⟨0, 0, rfl, rfl, DigPreM.start s⟩
  case round =>
    obtain ⟨k, acc, rfl, rfl, hd⟩ := hrel
    have D := hide hd
    have hle := hd.le
    have hmost := hd.most
    clear hd
    by_cases hp : k < s.size
    · by_cases ha : (s[k]'hp).toNat < 128
      · have hnx := fun ty => run_next_ascii (P := Tryd.prog) w s k ty hp ha
        have NB := hide (fun h => D.out.bad hp h 18446744073709551615)
        have NL := hide (fun h0 h => D.out.lead0 hp h0 h 18446744073709551615)
        have NO := hide (fun h => D.out.over hp (m := 18446744073709551615) h)
        have NX := hide (fun h h0 hm => D.out.next hp h h0 hm)
        have DV := hide (dv_eq s[k])
        generalize hc : (s[k]'hp).toNat = c at *
        by_cases h1 : c < 48
        · go_wp2
          go_ret2
          exact NumPost.no (NB.out (by omega))
        · by_cases h2 : 57 < c
          · go_wp2
            go_ret2
            exact NumPost.no (NB.out (by omega))
          · by_cases h3 : 0 < k
            · have hz : 0 < s.size := by omega
              by_cases h4 : s[0] = 48
              · go_wp2
                go_ret2
                exact NumPost.no (NL.out h3 h4)
              · have h6 : (((s[0]'hz).toNat : Int) == 48) = false := by
                  rw [beq_eq_false_iff_ne]
                  intro e
                  exact h4 (UInt8.toNat_inj.1 (by have h48 : (48 : UInt8).toNat = 48 := rfl; omega))
                by_cases h5 : (18446744073709551615 - ((c : Int) - 48)) / 10 < (acc : Int)
                · go_wp2
                  go_ret2
                  exact NumPost.no (NO.out (by have := DV.out (by omega); omega))
                · go_wp2
                  go_roundw
                  case rel =>
                    have hdv := DV.out (by omega)
                    refine ⟨_, _, rfl, ?_, NX.out (by omega) (fun _ => h4) (by omega)⟩
                    congr 1
                    omega
                  case measure =>
                    simp
                    omega
            · have hk0 : k = 0 := by omega
              subst hk0
              by_cases h5 : (18446744073709551615 - ((c : Int) - 48)) / 10 < (acc : Int)
              · go_wp2
                go_ret2
                exact NumPost.no (NO.out (by have := DV.out (by omega); omega))
              · go_wp2
                go_roundw
                case rel =>
                  have hdv := DV.out (by omega)
                  refine ⟨_, _, rfl, ?_, NX.out (by omega) (fun h => absurd h (by omega)) (by omega)⟩
                  congr 1
                  omega
                case measure =>
                  simp
                  omega
      · have hh := decode_high s k hp (by omega)
        have hnx := fun ty => run_next_any (P := Tryd.prog) w s k ty hp
        have NB := hide (fun h => D.out.bad hp h 18446744073709551615)
        generalize Utf8.decode s k = dc at *
        obtain ⟨r, wd⟩ := dc
        have hr : (57 : Int) < (r : Int) := by have := hh.1; simp at this; omega
        have hr2 : ¬ ((r : Int) < 48) := by omega
        go_wp2
        go_ret2
        refine ⟨?_, iter_only w s _⟩
        rw [NB.out (by omega)]
        rfl
    · have hnx := fun ty => run_next_end (P := Tryd.prog) w s k ty hp
      by_cases hz : s.size = 0
      · have hs0 : s = ⟨#[]⟩ := by
          cases s with
          | mk a => have : a = #[] := Array.eq_empty_of_size_eq_zero hz; rw [this]
        subst hs0
        have ha0 : acc = 0 := by have := D.out.val; simpa [valD] using this.symm
        subst ha0
        go_wp2
        go_ret2
        exact ⟨rfl, iter_only w _ _⟩
      · have DN := hide (D.out.done hp hz hmost)
        have hne : s.toList.isEmpty = false := by
          cases he : s.toList with
          | nil =>
            have : s.data.toList = [] := by rw [← ByteArray.toList_eq]; exact he
            have h2 : s.data.toList.length = s.size := by simp
            rw [this] at h2
            exact absurd h2.symm hz
          | cons => rfl
        go_wp2
        go_ret2
        exact NumPost.yes DN.out
end Go.Proofs.YtngahgfppbjebaaDoor
