/-
  Contracts of package text: registers, the fields that an instruction has.
-/
import Derived.Test.YtngahgfppbjebaaDoorTxNum
import Derived.Test.YtngahgfppbjebaaDoorCodeNum
namespace Go.Proofs.YtngahgfppbjebaaDoor
open Go.RowKit
set_option linter.unusedVariables false
set_option linter.unusedSimpArgs false
theorem two_bytes (s : ByteArray) (h : s.size = 2) : ∃ a b, s = ⟨#[a, b]⟩ := by
  obtain ⟨d⟩ := s
  obtain ⟨l⟩ := d
  match l, h with
  | [a, b], _ => exact ⟨a, b, rfl⟩
theorem regP_len (l : List UInt8) (n : Nat) (h : l.length ≠ 2) : regP l n = none := by
  unfold regP
  split
  · exact absurd rfl h
  · rfl
theorem register_any (s : ByteArray) (hs : s.size ≤ 1000000000) (most : Nat) (hm : most ≤ 1000) (w : World) : Calls Tryd.prog 106 #[.string s, .int .i64 (most : Int)] w (SmallPost w (regP s.data.toList most)) := by
  by_cases h : s.size = 2
  · obtain ⟨a, b, rfl⟩ := two_bytes s h
    clear h hs
    by_cases ha : a = 114
    · subst ha
      have HS : Hid (Calls Tryd.prog 107 #[.string ⟨#[b]⟩, .int .i64 (most : Int)] w (SmallPost w (decMost most [b]))) := hide (small_any ⟨#[b]⟩ (by show 1 ≤ 1000000000; decide) most hm w)
      rw [show regP (⟨#[114, b]⟩ : ByteArray).data.toList most = decMost most [b] from rfl]
      have hx : (⟨#[114, b]⟩ : ByteArray).extract 1 2 = ⟨#[b]⟩ := by simp [ByteArray.extract, ByteArray.copySlice]
      generalize decMost most [b] = o at *
      rcases o with _ | n
      · go_enter Tryd.func106, Tryd.ntmps106
        go_wp2_with (go_at_call 107; refine (HS.out).mono ?_; rintro e w2 ⟨ho, rfl⟩; have HO := hide ho; clear ho)
        go_ret2
        exact ⟨HO.out, rfl⟩
      · go_enter Tryd.func106, Tryd.ntmps106
        go_wp2_with (go_at_call 107; refine (HS.out).mono ?_; rintro e w2 ⟨ho, rfl⟩; have HO := hide ho; clear ho)
        go_ret2
        exact ⟨HO.out, rfl⟩
    · have hr : regP (⟨#[a, b]⟩ : ByteArray).data.toList most = none := by
        unfold regP
        split
        · rename_i d e
          simp at e
          exact absurd e.1 ha
        · rfl
      rw [hr]
      have hz : ((a.toNat : Int) == 114) = false := by
        rw [beq_eq_false_iff_ne]
        intro e
        exact ha (UInt8.toNat_inj.1 (by have h48 : (114 : UInt8).toNat = 114 := rfl; omega))
      have hz2 : ((a.toNat : Int) != 114) = true := by simp [bne, hz]
      have hz6 : ((((⟨#[a, b]⟩ : ByteArray)[0]'(by show 0 < 2; decide)).toNat : Int) != 114) = true := hz2
      clear ha hr
      go_enter Tryd.func106, Tryd.ntmps106
      go_wp2
      go_ret2
      exact ⟨Only.refl _ _, rfl⟩
  · rw [regP_len _ _ (by simpa using h)]
    have hb : ((s.size : Int) == 2) = false := by
      rw [beq_eq_false_iff_ne]
      omega
    have hb2 : ((s.size : Int) != 2) = true := by simp [bne, hb]
    clear h
    go_enter Tryd.func106, Tryd.ntmps106
    go_wp2
    go_ret2
    exact ⟨Only.refl _ _, rfl⟩
theorem tfields_any (op : Int) (h0 : 0 ≤ op) (h1 : op ≤ 23) (w : World) : Calls Tryd.prog 57 #[.int .i64 op] w fun e w' => e = .returned (.string ⟨(kindsP op).toArray⟩) ∧ w = w' := by
  have hc : op = 0 ∨ op = 1 ∨ op = 2 ∨ op = 3 ∨ op = 4 ∨ op = 5 ∨ op = 6 ∨ op = 7 ∨ op = 8 ∨ op = 9 ∨ op = 10 ∨ op = 11 ∨ op = 12 ∨ op = 13 ∨ op = 14 ∨ op = 15 ∨ op = 16 ∨ op = 17 ∨ op = 18 ∨ op = 19 ∨ op = 20 ∨ op = 21 ∨ op = 22 ∨ op = 23 := by omega
  clear h0 h1
  rcases hc with h | h | h | h | h | h | h | h | h | h | h | h | h | h | h | h | h | h | h | h | h | h | h | h
  all_goals
    subst h
    go_enter Tryd.func57, Tryd.ntmps57
    go_wp2
    go_ret
    exact ⟨rfl, rfl⟩
end Go.Proofs.YtngahgfppbjebaaDoor
