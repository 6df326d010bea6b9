/-
  Contracts of package text: letters, names, numbers, registers, the fields that an instruction has.
  Contracts of package text: decimals, small numbers, registers, fields.
  Contracts of package text: registers, the fields that an instruction has.
-/
import Derived.Test.YtngahgfppbjebaaDoorGrpTxErase
import Derived.Test.YtngahgfppbjebaaDoorGrpSlNumber
import Derived.Test.YtngahgfppbjebaaDoorBase
import Derived.Test.YtngahgfppbjebaaDoorGrpWords
import Derived.Test.YtngahgfppbjebaaDoorGrpCodeNum
namespace Go.Proofs.YtngahgfppbjebaaDoor
open Go.RowKit
set_option linter.unusedVariables false
set_option linter.unusedSimpArgs false

set_option maxHeartbeats 1000000 in
theorem letter_any (n : Nat) (hn : n ≤ 2147483647) (w : World) : Calls Tryd.prog 104 #[.int .i32 (n : Int)] w fun e w' => e = .returned (.bool (letterR n)) ∧ w = w' := by
  have hc : n < 65 ∨ (65 ≤ n ∧ n ≤ 90) ∨ (91 ≤ n ∧ n ≤ 96) ∨ (97 ≤ n ∧ n ≤ 122) ∨ (123 ≤ n ∧ n ≤ 191) ∨ (192 ≤ n ∧ n ≤ 214) ∨ n = 215 ∨ (216 ≤ n ∧ n ≤ 246) ∨ n = 247 ∨ (248 ≤ n ∧ n ≤ 591) ∨ 592 ≤ n := by omega
  rcases hc with h | ⟨h, h2⟩ | ⟨h, h2⟩ | ⟨h, h2⟩ | ⟨h, h2⟩ | ⟨h, h2⟩ | h | ⟨h, h2⟩ | h | ⟨h, h2⟩ | h
  all_goals
    have e1 : letterR n = letterR n := rfl
    conv at e1 => rhs; unfold letterR
    first
      | (have e2 : letterR n = true := by (simp [letterR]; omega)
         rw [e2])
      | (have e2 : letterR n = false := by (simp [letterR]; omega)
         rw [e2])
    clear e1 e2
    try subst h
    go_enter Tryd.func104, Tryd.ntmps104
    go_wp2
    go_ret
    refine ⟨?_, rfl⟩
    first
      | rfl
      | (simp; done)
      | (simp; omega)
/-- A name, rune by rune. -/
structure NameInv (s : ByteArray) (k n : Nat) : Prop where
  le : k ≤ s.size
  few : n ≤ k
  ok : nameF 0 (runesL s.data.toList) = nameF n (runesL (s.data.toList.drop k))
  len : (runesL s.data.toList).length = n + (runesL (s.data.toList.drop k)).length
theorem NameInv.start (s : ByteArray) : NameInv s 0 0 := ⟨Nat.zero_le _, Nat.le_refl _, by rw [List.drop_zero], by rw [List.drop_zero]; omega⟩
theorem NameInv.next {s : ByteArray} {k n : Nat} (h : NameInv s k n) (hk : k < s.size) (hx : stepN n (rnAt s k) = true) : NameInv s (k + (Utf8.decode s k).2) (n + 1) := by
  obtain ⟨h1, h2, h3, _⟩ := runes_at s k hk
  refine ⟨h3, by have := h.few; omega, ?_, ?_⟩
  · rw [h.ok, h1, nameF, hx, Bool.true_and]
  · rw [h.len, h1, List.length_cons]
    omega
theorem NameInv.bad {s : ByteArray} {k n : Nat} (h : NameInv s k n) (hk : k < s.size) (hx : stepN n (rnAt s k) = false) : nameP s.data.toList = false := by
  obtain ⟨h1, _⟩ := runes_at s k hk
  unfold nameP nameL
  rw [h.ok, h1, nameF, hx]
  rfl
theorem NameInv.done {s : ByteArray} {k n : Nat} (h : NameInv s k n) (hk : ¬ k < s.size) : nameP s.data.toList = (decide (1 ≤ n) && decide (n ≤ 8)) := by
  have h1 := runes_end s k hk
  have h2 := h.ok
  have h3 := h.len
  rw [h1] at h2 h3
  unfold nameP nameL
  rw [h2, h3]
  simp [nameF]
set_option maxRecDepth 1000000 in
theorem named_any (s : ByteArray) (hs : s.size ≤ 1000000000) (w : World) : Calls Tryd.prog 80 #[.string s] w fun e w' => e = .returned (.bool (nameP s.data.toList)) ∧ Only Nob w w' := by
  go_enter Tryd.func80, Tryd.ntmps80
  go_wp2
  go_loopw [3] (fun n w' => ∃ (k m : Nat), w' = w.iter s k ∧ n = .int .i64 (m : Int) ∧ NameInv s k m) (fun _ w' => s.size - w'.iterPos w.heap.size)
  case atStart => exact ⟨0, 0, rfl, rfl, NameInv.start s⟩
  case round =>
    obtain ⟨k, m, rfl, rfl, hI⟩ := hrel
    have HI := hide hI
    have hle := hI.le
    have hfew := hI.few
    clear hI
    by_cases hp : k < s.size
    · have hnx := fun ty => run_next_any (P := Tryd.prog) w s k ty hp
      obtain ⟨_, hw1, hw2, hr⟩ := runes_at s k hp
      have NB := hide (fun h => HI.out.bad hp h)
      have NX := hide (fun h => HI.out.next hp h)
      have HL := hide (fun w => letter_any (Utf8.decode s k).1 (by omega) w)
      unfold rnAt at NB NX
      generalize Utf8.decode s k = dc at *
      obtain ⟨r, wd⟩ := dc
      simp only at hr hw1 hw2
      have HR := hide hr
      clear HI
      by_cases hl : letterR r = true
      · have HLL : Hid (∀ w, Calls Tryd.prog 104 #[.int .i32 (r : Int)] w fun e w' => e = .returned (.bool true) ∧ w = w') := hide (fun w => by have := HL.out w; simp only at this; rw [hl] at this; exact this)
        have hs1 : Hid (∀ b, stepN m (r, b) = true) := hide (fun b => by simp [stepN, hl])
        clear hl HL
        go_wp2_with (go_at_call 104; refine (HLL.out _).mono ?_; rintro e w2 ⟨rfl, rfl⟩)
        go_roundw
        case rel => exact ⟨k + wd, m + 1, rfl, rfl, NX.out (hs1.out _)⟩
        case measure =>
          simp
          omega
      · have hl2 : letterR r = false := by simpa using hl
        have HLL : Hid (∀ w, Calls Tryd.prog 104 #[.int .i32 (r : Int)] w fun e w' => e = .returned (.bool false) ∧ w = w') := hide (fun w => by have := HL.out w; simp only at this; rw [hl2] at this; exact this)
        have hst : Hid (∀ b, stepN m (r, b) = (decide (0 < m) && digitR r)) := hide (fun b => by simp [stepN, hl2])
        clear hl hl2 HL
        by_cases hm : m = 0
        · subst hm
          go_wp2_with (go_at_call 104; refine (HLL.out _).mono ?_; rintro e w2 ⟨rfl, rfl⟩)
          go_ret
          exact ⟨by rw [NB.out (by rw [hst.out]; rfl)]; rfl, iter_only w s _⟩
        · have hm0 : 0 < m := by omega
          by_cases h1 : r < 48
          · go_wp2_with (go_at_call 104; refine (HLL.out _).mono ?_; rintro e w2 ⟨rfl, rfl⟩)
            go_ret
            exact ⟨by rw [NB.out (by rw [hst.out]; simp [digitR]; omega)]; rfl, iter_only w s _⟩
          · by_cases h2 : 57 < r
            · go_wp2_with (go_at_call 104; refine (HLL.out _).mono ?_; rintro e w2 ⟨rfl, rfl⟩)
              go_ret
              exact ⟨by rw [NB.out (by rw [hst.out]; simp [digitR]; omega)]; rfl, iter_only w s _⟩
            · have b0 : ((m : Int) == 0) = false := by simp; omega
              have b1 : decide ((r : Int) < 48) = false := by simp; omega
              have b2 : decide ((57 : Int) < (r : Int)) = false := by simp; omega
              go_wp2_with (go_at_call 104; refine (HLL.out _).mono ?_; rintro e w2 ⟨rfl, rfl⟩)
              go_roundw
              case rel => exact ⟨k + wd, m + 1, rfl, rfl, NX.out (by rw [hst.out]; simp [digitR]; omega)⟩
              case measure =>
                simp
                omega
    · have hnx := fun ty => run_next_end (P := Tryd.prog) w s k ty hp
      have HD := hide (HI.out.done hp)
      clear HI
      by_cases h1 : 1 ≤ m
      · by_cases h2 : m ≤ 8
        · go_wp2
          go_ret
          refine ⟨?_, iter_only w s _⟩
          rw [HD.out]
          simp [h1, h2]
          try omega
        · go_wp2
          go_ret
          refine ⟨?_, iter_only w s _⟩
          rw [HD.out]
          simp [h1, h2]
          try omega
      · go_wp2
        go_ret
        refine ⟨?_, iter_only w s _⟩
        rw [HD.out]
        simp [h1]
        try omega
end Go.Proofs.YtngahgfppbjebaaDoor
namespace Go.Proofs.YtngahgfppbjebaaDoor
open Go.RowKit
set_option linter.unusedVariables false
set_option linter.unusedSimpArgs false
set_option maxRecDepth 1000000 in
theorem tdecimal_any (s : ByteArray) (hs : s.size ≤ 1000000000) (w : World) : Calls Tryd.prog 108 #[.string s] w (NumPost w s) := by
  go_enter Tryd.func108, Tryd.ntmps108
  go_wp2
  go_loopw [4] (fun n w' => ∃ (k acc : Nat), w' = w.iter s k ∧ n = .int .u64 (acc : Int) ∧ DigPre s k acc) (fun _ w' => s.size - w'.iterPos w.heap.size)
  case atStart => exact ⟨0, 0, rfl, rfl, DigPreM.start s⟩
  case round =>
    obtain ⟨k, acc, rfl, rfl, hd⟩ := hrel
    have D := hide hd
    have hle := hd.le
    have hmost := hd.most
    clear hd
    by_cases hp : k < s.size
    · by_cases ha : (s[k]'hp).toNat < 128
      · have hnx := fun ty => run_next_ascii (P := Tryd.prog) w s k ty hp ha
        have NB := hide (fun h => D.out.bad hp h 18446744073709551615)
        have NL := hide (fun h0 h => D.out.lead0 hp h0 h 18446744073709551615)
        have NO := hide (fun h => D.out.over hp (m := 18446744073709551615) h)
        have NX := hide (fun h h0 hm => D.out.next hp h h0 hm)
        have DV := hide (dv_eq s[k])
        generalize hc : (s[k]'hp).toNat = c at *
        by_cases h1 : c < 48
        · go_wp2
          go_ret2
          exact NumPost.no (NB.out (by omega))
        · by_cases h2 : 57 < c
          · go_wp2
            go_ret2
            exact NumPost.no (NB.out (by omega))
          · by_cases h3 : 0 < k
            · have hz : 0 < s.size := by omega
              by_cases h4 : s[0] = 48
              · go_wp2
                go_ret2
                exact NumPost.no (NL.out h3 h4)
              · have h6 : (((s[0]'hz).toNat : Int) == 48) = false := by
                  rw [beq_eq_false_iff_ne]
                  intro e
                  exact h4 (UInt8.toNat_inj.1 (by have h48 : (48 : UInt8).toNat = 48 := rfl; omega))
                by_cases h5 : (18446744073709551615 - ((c : Int) - 48)) / 10 < (acc : Int)
                · go_wp2
                  go_ret2
                  exact NumPost.no (NO.out (by have := DV.out (by omega); omega))
                · go_wp2
                  go_roundw
                  case rel =>
                    have hdv := DV.out (by omega)
                    refine ⟨_, _, rfl, ?_, NX.out (by omega) (fun _ => h4) (by omega)⟩
                    congr 1
                    omega
                  case measure =>
                    simp
                    omega
            · have hk0 : k = 0 := by omega
              subst hk0
              by_cases h5 : (18446744073709551615 - ((c : Int) - 48)) / 10 < (acc : Int)
              · go_wp2
                go_ret2
                exact NumPost.no (NO.out (by have := DV.out (by omega); omega))
              · go_wp2
                go_roundw
                case rel =>
                  have hdv := DV.out (by omega)
                  refine ⟨_, _, rfl, ?_, NX.out (by omega) (fun h => absurd h (by omega)) (by omega)⟩
                  congr 1
                  omega
                case measure =>
                  simp
                  omega
      · have hh := decode_high s k hp (by omega)
        have hnx := fun ty => run_next_any (P := Tryd.prog) w s k ty hp
        have NB := hide (fun h => D.out.bad hp h 18446744073709551615)
        generalize Utf8.decode s k = dc at *
        obtain ⟨r, wd⟩ := dc
        have hr : (57 : Int) < (r : Int) := by have := hh.1; simp at this; omega
        have hr2 : ¬ ((r : Int) < 48) := by omega
        go_wp2
        go_ret2
        refine ⟨?_, iter_only w s _⟩
        rw [NB.out (by omega)]
        rfl
    · have hnx := fun ty => run_next_end (P := Tryd.prog) w s k ty hp
      by_cases hz : s.size = 0
      · have hs0 : s = ⟨#[]⟩ := by
          cases s with
          | mk a => have : a = #[] := Array.eq_empty_of_size_eq_zero hz; rw [this]
        subst hs0
        have ha0 : acc = 0 := by have := D.out.val; simpa [valD] using this.symm
        subst ha0
        go_wp2
        go_ret2
        exact ⟨rfl, iter_only w _ _⟩
      · have DN := hide (D.out.done hp hz hmost)
        have hne : s.toList.isEmpty = false := by
          cases he : s.toList with
          | nil =>
            have : s.data.toList = [] := by rw [← ByteArray.toList_eq]; exact he
            have h2 : s.data.toList.length = s.size := by simp
            rw [this] at h2
            exact absurd h2.symm hz
          | cons => rfl
        go_wp2
        go_ret2
        exact NumPost.yes DN.out

theorem decMost_most {most : Nat} (hm : most ≤ 18446744073709551615) {l : List UInt8} : decMost most l = (decMost 18446744073709551615 l).filter fun n => decide (n ≤ most) := by
  unfold decMost
  cases decOf l with
  | none => rfl
  | some n =>
    by_cases h : n ≤ most
    · have h2 : n ≤ 18446744073709551615 := by omega
      simp [Option.filter, h, h2]
    · by_cases h2 : n ≤ 18446744073709551615 <;> simp [Option.filter, h, h2]
/-- A number of digits, or none. -/
def SmallPost (w : World) (o : Option Nat) (e : Ending) (w' : World) : Prop := Only Nob w w' ∧ match o with
  | some n => e = .returned (.tuple #[.int .i64 (n : Int), .bool true])
  | none => e = .returned (.tuple #[.int .i64 0, .bool false])
theorem small_any (s : ByteArray) (hs : s.size ≤ 1000000000) (most : Nat) (hm : most ≤ 1000) (w : World) : Calls Tryd.prog 107 #[.string s, .int .i64 (most : Int)] w (SmallPost w (decMost most s.data.toList)) := by
  have HD := hide (tdecimal_any s hs w)
  rw [decMost_most (by omega)]
  unfold NumPost at HD
  generalize decMost 18446744073709551615 s.data.toList = o at *
  rcases o with _ | n
  · simp only [decN, isNum] at HD
    have HD2 := HD
    clear HD
    go_enter Tryd.func107, Tryd.ntmps107
    go_wp2_with (go_at_call 108; refine (HD2.out).mono ?_; rintro e w2 ⟨rfl, ho⟩; have HO := hide ho; clear ho)
    go_ret2
    exact ⟨HO.out, rfl⟩
  · simp only [decN, isNum] at HD
    have HD2 := HD
    clear HD
    by_cases h : n ≤ most
    · have hf : (some n).filter (fun n => decide (n ≤ most)) = some n := by simp [Option.filter, h]
      rw [hf]
      go_enter Tryd.func107, Tryd.ntmps107
      go_wp2_with (go_at_call 108; refine (HD2.out).mono ?_; rintro e w2 ⟨rfl, ho⟩; have HO := hide ho; clear ho)
      go_ret2
      exact ⟨HO.out, rfl⟩
    · have hf : (some n).filter (fun n => decide (n ≤ most)) = none := by simp [Option.filter, h]
      rw [hf]
      go_enter Tryd.func107, Tryd.ntmps107
      go_wp2_with (go_at_call 108; refine (HD2.out).mono ?_; rintro e w2 ⟨rfl, ho⟩; have HO := hide ho; clear ho)
      go_ret2
      exact ⟨HO.out, rfl⟩
end Go.Proofs.YtngahgfppbjebaaDoor
namespace Go.Proofs.YtngahgfppbjebaaDoor
open Go.RowKit
set_option linter.unusedVariables false
set_option linter.unusedSimpArgs false
theorem two_bytes (s : ByteArray) (h : s.size = 2) : ∃ a b, s = ⟨#[a, b]⟩ := by
  obtain ⟨d⟩ := s
  obtain ⟨l⟩ := d
  match l, h with
  | [a, b], _ => exact ⟨a, b, rfl⟩
theorem regP_len (l : List UInt8) (n : Nat) (h : l.length ≠ 2) : regP l n = none := by
  unfold regP
  split
  · exact absurd rfl h
  · rfl
theorem register_any (s : ByteArray) (hs : s.size ≤ 1000000000) (most : Nat) (hm : most ≤ 1000) (w : World) : Calls Tryd.prog 106 #[.string s, .int .i64 (most : Int)] w (SmallPost w (regP s.data.toList most)) := by
  by_cases h : s.size = 2
  · obtain ⟨a, b, rfl⟩ := two_bytes s h
    clear h hs
    by_cases ha : a = 114
    · subst ha
      have HS : Hid (Calls Tryd.prog 107 #[.string ⟨#[b]⟩, .int .i64 (most : Int)] w (SmallPost w (decMost most [b]))) := hide (small_any ⟨#[b]⟩ (by show 1 ≤ 1000000000; decide) most hm w)
      rw [show regP (⟨#[114, b]⟩ : ByteArray).data.toList most = decMost most [b] from rfl]
      have hx : (⟨#[114, b]⟩ : ByteArray).extract 1 2 = ⟨#[b]⟩ := by simp [ByteArray.extract, ByteArray.copySlice]
      generalize decMost most [b] = o at *
      rcases o with _ | n
      · go_enter Tryd.func106, Tryd.ntmps106
        go_wp2_with (go_at_call 107; refine (HS.out).mono ?_; rintro e w2 ⟨ho, rfl⟩; have HO := hide ho; clear ho)
        go_ret2
        exact ⟨HO.out, rfl⟩
      · go_enter Tryd.func106, Tryd.ntmps106
        go_wp2_with (go_at_call 107; refine (HS.out).mono ?_; rintro e w2 ⟨ho, rfl⟩; have HO := hide ho; clear ho)
        go_ret2
        exact ⟨HO.out, rfl⟩
    · have hr : regP (⟨#[a, b]⟩ : ByteArray).data.toList most = none := by
        unfold regP
        split
        · rename_i d e
          simp at e
          exact absurd e.1 ha
        · rfl
      rw [hr]
      have hz : ((a.toNat : Int) == 114) = false := by
        rw [beq_eq_false_iff_ne]
        intro e
        exact ha (UInt8.toNat_inj.1 (by have h48 : (114 : UInt8).toNat = 114 := rfl; omega))
      have hz2 : ((a.toNat : Int) != 114) = true := by simp [bne, hz]
      have hz6 : ((((⟨#[a, b]⟩ : ByteArray)[0]'(by show 0 < 2; decide)).toNat : Int) != 114) = true := hz2
      clear ha hr
      go_enter Tryd.func106, Tryd.ntmps106
      go_wp2
      go_ret2
      exact ⟨Only.refl _ _, rfl⟩
  · rw [regP_len _ _ (by simpa using h)]
    have hb : ((s.size : Int) == 2) = false := by
      rw [beq_eq_false_iff_ne]
      omega
    have hb2 : ((s.size : Int) != 2) = true := by simp [bne, hb]
    clear h
    go_enter Tryd.func106, Tryd.ntmps106
    go_wp2
    go_ret2
    exact ⟨Only.refl _ _, rfl⟩
theorem tfields_any (op : Int) (h0 : 0 ≤ op) (h1 : op ≤ 23) (w : World) : Calls Tryd.prog 57 #[.int .i64 op] w fun e w' => e = .returned (.string ⟨(kindsP op).toArray⟩) ∧ w = w' := by
  have hc : op = 0 ∨ op = 1 ∨ op = 2 ∨ op = 3 ∨ op = 4 ∨ op = 5 ∨ op = 6 ∨ op = 7 ∨ op = 8 ∨ op = 9 ∨ op = 10 ∨ op = 11 ∨ op = 12 ∨ op = 13 ∨ op = 14 ∨ op = 15 ∨ op = 16 ∨ op = 17 ∨ op = 18 ∨ op = 19 ∨ op = 20 ∨ op = 21 ∨ op = 22 ∨ op = 23 := by omega
  clear h0 h1
  rcases hc with h | h | h | h | h | h | h | h | h | h | h | h | h | h | h | h | h | h | h | h | h | h | h | h
  all_goals
    subst h
    go_enter Tryd.func57, Tryd.ntmps57
    go_wp2
    go_ret
    exact ⟨rfl, rfl⟩
end Go.Proofs.YtngahgfppbjebaaDoor
