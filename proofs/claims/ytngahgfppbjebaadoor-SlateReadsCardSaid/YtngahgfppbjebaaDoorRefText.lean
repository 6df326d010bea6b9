/-
  The contract of the document's 'Text'.
-/
import Derived.Test.YtngahgfppbjebaaDoorRefItems
namespace Go.Proofs.YtngahgfppbjebaaDoor
open Go.RowKit
set_option linter.unusedVariables false
set_option linter.unusedSimpArgs false
theorem app_data (a b : ByteArray) : (a ++ b).data.toList = a.data.toList ++ b.data.toList := by simp
set_option maxRecDepth 100000 in
theorem rtext_any (w : World) (A : Option Addr) (n cap : Nat) (l : List Itm) (h : ItemsIn w A l) (hn : l.length = n) (hl : l.length ≤ 1000) (hok : ∀ x ∈ l, x.ok) :
    Calls Tryd.prog 50 #[.slice A n cap] w fun e w' => e = .returned (.string ⟨(textI l).toArray⟩) ∧ Only Nob w w' := by
  have H := hide h
  have HN := hide hn
  have HK := hide hok
  rw [hn] at hl
  clear h hn hok
  go_enter Tryd.func50, Tryd.ntmps50
  go_wp2
  go_loopw [3, 4] (fun s i wr => ∃ (k : Nat) (b : ByteArray), s = .string b ∧ i = .int .i64 (k : Int) ∧ k ≤ n ∧ Only Nob w wr ∧ b.data.toList = textI (l.take k)) (fun _ i _ => n - (intOf i).toNat)
  case atStart => exact ⟨0, ⟨#[]⟩, rfl, rfl, Nat.zero_le _, Only.refl _ _, by simp [textI, Go.Lib.join_nil]⟩
  case round =>
    obtain ⟨k, b, rfl, rfl, hk, ho, hb⟩ := hrel
    have HO := hide ho
    have HB := hide hb
    by_cases hkn : k < n
    · have hkl : k < l.length := by have := HN.out; omega
      obtain ⟨g, o, rfl, hg, hi⟩ := (H.out.nob ho).at_ hkl
      obtain ⟨hi1, hi2⟩ := hi
      have HX := hide (HK.out _ (List.getElem_mem hkl))
      have HS := hide (textI_step l k hkl)
      have HL := hide (textI_len (l.take k) (fun x hx => HK.out x (List.mem_of_mem_take hx)))
      have hbs : b.size ≤ 30000 := by
        have h1 : b.data.toList.length = b.size := by simp
        rw [hb] at h1
        have := HL.out
        rw [List.length_take] at this
        have := HN.out
        omega
      have HW := hide (itmW_len _ HX.out)
      clear ho hb
      generalize l[k] = x at *
      clear hkl
      rcases x with m | t | _
      · simp only [sortI, numI] at hi1 hi2
        have HD := hide (decimal_any m HX.out wr)
        have hds : (⟨(Go.Lib.decDigits m).toArray⟩ : ByteArray).size ≤ 20 := HW.out
        have hcc : (b ++ (⟨#[32]⟩ : ByteArray)).size ≤ 30001 := by rw [ByteArray.size_append]; exact Nat.add_le_add hbs (Nat.le_refl 1)
        by_cases h0 : 0 < k
        · have HZ := hide (show True from trivial)
          go_wp2_with (go_at_call 27; refine (HD.out).mono ?_; rintro e w2 ⟨rfl, h1⟩; have H1 := hide h1; clear h1)
          go_roundw
          case rel =>
            refine ⟨k + 1, _, rfl, rfl, by omega, HO.out.trans H1.out, ?_⟩
            rw [HS.out, if_neg (by omega)]
            simp only [app_data, HB.out, itmW]
            all_goals first | rfl | (simp [HZ.out]; done) | (simp [HZ.out]; rfl)
          case measure =>
            show n - ((k : Int) + 1).toNat < n - (k : Int).toNat
            omega
        · have HZ : Hid (textI (l.take k) = []) := hide (by rw [show k = 0 by omega]; simp [textI, Go.Lib.join_nil])
          go_wp2_with (go_at_call 27; refine (HD.out).mono ?_; rintro e w2 ⟨rfl, h1⟩; have H1 := hide h1; clear h1)
          go_roundw
          case rel =>
            refine ⟨k + 1, _, rfl, rfl, by omega, HO.out.trans H1.out, ?_⟩
            rw [HS.out, if_pos (by omega)]
            simp only [app_data, HB.out, itmW]
            all_goals first | rfl | (simp [HZ.out]; done) | (simp [HZ.out]; rfl)
          case measure =>
            show n - ((k : Int) + 1).toNat < n - (k : Int).toNat
            omega
      · cases t
        · simp only [sortI, numI, if_true, if_false, Bool.false_eq_true] at hi1 hi2
          by_cases h0 : 0 < k
          · have HZ := hide (show True from trivial)
            go_wp2
            go_roundw
            case rel =>
              refine ⟨k + 1, _, rfl, rfl, by omega, HO.out, ?_⟩
              rw [HS.out, if_neg (by omega)]
              simp only [app_data, HB.out, itmW]
              all_goals first | rfl | (simp [HZ.out]; done) | (simp [HZ.out]; rfl)
            case measure =>
              show n - ((k : Int) + 1).toNat < n - (k : Int).toNat
              omega
          · have HZ : Hid (textI (l.take k) = []) := hide (by rw [show k = 0 by omega]; simp [textI, Go.Lib.join_nil])
            go_wp2
            go_roundw
            case rel =>
              refine ⟨k + 1, _, rfl, rfl, by omega, HO.out, ?_⟩
              rw [HS.out, if_pos (by omega)]
              simp only [app_data, HB.out, itmW]
              all_goals first | rfl | (simp [HZ.out]; done) | (simp [HZ.out]; rfl)
            case measure =>
              show n - ((k : Int) + 1).toNat < n - (k : Int).toNat
              omega
        · simp only [sortI, numI, if_true, if_false, Bool.false_eq_true] at hi1 hi2
          by_cases h0 : 0 < k
          · have HZ := hide (show True from trivial)
            go_wp2
            go_roundw
            case rel =>
              refine ⟨k + 1, _, rfl, rfl, by omega, HO.out, ?_⟩
              rw [HS.out, if_neg (by omega)]
              simp only [app_data, HB.out, itmW]
              all_goals first | rfl | (simp [HZ.out]; done) | (simp [HZ.out]; rfl)
            case measure =>
              show n - ((k : Int) + 1).toNat < n - (k : Int).toNat
              omega
          · have HZ : Hid (textI (l.take k) = []) := hide (by rw [show k = 0 by omega]; simp [textI, Go.Lib.join_nil])
            go_wp2
            go_roundw
            case rel =>
              refine ⟨k + 1, _, rfl, rfl, by omega, HO.out, ?_⟩
              rw [HS.out, if_pos (by omega)]
              simp only [app_data, HB.out, itmW]
              all_goals first | rfl | (simp [HZ.out]; done) | (simp [HZ.out]; rfl)
            case measure =>
              show n - ((k : Int) + 1).toNat < n - (k : Int).toNat
              omega
      · simp only [sortI, numI] at hi1 hi2
        by_cases h0 : 0 < k
        · have HZ := hide (show True from trivial)
          go_wp2
          go_roundw
          case rel =>
            refine ⟨k + 1, _, rfl, rfl, by omega, HO.out, ?_⟩
            rw [HS.out, if_neg (by omega)]
            simp only [app_data, HB.out, itmW]
            all_goals first | rfl | (simp [HZ.out]; done) | (simp [HZ.out]; rfl)
          case measure =>
            show n - ((k : Int) + 1).toNat < n - (k : Int).toNat
            omega
        · have HZ : Hid (textI (l.take k) = []) := hide (by rw [show k = 0 by omega]; simp [textI, Go.Lib.join_nil])
          go_wp2
          go_roundw
          case rel =>
            refine ⟨k + 1, _, rfl, rfl, by omega, HO.out, ?_⟩
            rw [HS.out, if_pos (by omega)]
            simp only [app_data, HB.out, itmW]
            all_goals first | rfl | (simp [HZ.out]; done) | (simp [HZ.out]; rfl)
          case measure =>
            show n - ((k : Int) + 1).toNat < n - (k : Int).toNat
            omega
    · have hkn2 : k = n := by omega
      subst hkn2
      have HF : Hid (b = ⟨(textI l).toArray⟩) := hide (by
        rw [← HN.out, List.take_length] at hb
        rw [← hb])
      clear ho hb
      go_wp2
      go_ret
      exact ⟨by rw [HF.out]; rfl, HO.out⟩
end Go.Proofs.YtngahgfppbjebaaDoor
