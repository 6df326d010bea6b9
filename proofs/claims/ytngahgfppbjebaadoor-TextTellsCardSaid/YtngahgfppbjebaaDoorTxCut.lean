/-
  strings.Cut at a newline.
-/
import Derived.Test.YtngahgfppbjebaaDoorGrpTxErase
import Derived.Test.YtngahgfppbjebaaDoorShelf
import Derived.Test.YtngahgfppbjebaaDoorGrpWords
import Derived.Laws.DeepStrings4
namespace Go.Proofs.YtngahgfppbjebaaDoor
open Go.RowKit Go.Lib
set_option linter.unusedVariables false
set_option linter.unusedSimpArgs false

def CutNlPost (w : World) (s : ByteArray) (e : Ending) (w' : World) : Prop := ∃ (la lt : ByteArray) (f : Bool), e = .returned (.tuple #[.string la, .string lt, .bool f]) ∧ Nl s.data.toList la.data.toList lt.data.toList ∧ Only Nob w w'
set_option maxRecDepth 100000 in
theorem slcut_nl (s : ByteArray) (hs : s.size ≤ 100000) (w : World) : Calls Tryd.prog 76 #[.string s, .string ⟨#[10]⟩] w (CutNlPost w s) := by
  have HI := hide (Tryd.stringslite_Index_one s 10 w)
  have hsz : s.data.toList.length = s.size := by simp
  rcases index_nl s.data.toList with ⟨h1, h2⟩ | ⟨a, t, h1, h2, h3⟩
  · rw [h1] at HI
    have H2 := hide h2
    clear h1 h2 hsz
    go_enter Tryd.func76, Tryd.ntmps76
    go_wp2_with (go_at_call 101; refine (HI.out).mono ?_; rintro e w2 ⟨rfl, hw2⟩; replace hw2 := hw2.symm; subst hw2)
    go_ret3
    exact ⟨s, ⟨#[]⟩, false, rfl, .inl ⟨rfl, rfl, H2.out⟩, Only.refl _ _⟩
  · rw [h3] at HI
    obtain ⟨n, hn⟩ : ∃ n, a.length = n := ⟨_, rfl⟩
    have hlen : n < s.size := by
      rw [← hsz, h1, List.length_append, hn]
      simp
    have HE1 : Hid ((s.extract 0 n).data.toList = a) := hide (by
      rw [extract_data, h1, List.drop_zero, Nat.sub_zero, ← hn, List.take_left'] <;> rfl)
    have HE2 : Hid ((s.extract (n + 1) s.size).data.toList = t) := hide (by
      rw [extract_data, List.take_of_length_le (by rw [List.length_drop, hsz]; omega), h1, ← hn, show a ++ 10 :: t = (a ++ [10]) ++ t by simp]
      rw [List.drop_left' (by simp)])
    have H1 := hide h1
    have H2 := hide h2
    rw [hn] at HI
    clear h1 h2 h3 hsz hn
    have hw1 : IntKind.i64.wrap ((n : Int) + 1) = (n : Int) + 1 := IntWalk.i64_in _ (by omega)
    go_enter Tryd.func76, Tryd.ntmps76
    go_wp2_with (go_at_call 101; refine (HI.out).mono ?_; rintro e w2 ⟨rfl, hw2⟩; replace hw2 := hw2.symm; subst hw2)
    go_region
    all_goals
      go_wp2_with fail
      go_ret3
      exact ⟨_, _, true, rfl, .inr ⟨by rw [HE1.out, HE2.out]; exact H1.out, by rw [HE1.out]; exact H2.out⟩, (Only.refl _ w).drew⟩
theorem cut_nl (s : ByteArray) (hs : s.size ≤ 100000) (w : World) : Calls Tryd.prog 51 #[.string s, .string ⟨#[10]⟩] w (CutNlPost w s) := by
  have HI := hide (slcut_nl s hs w)
  go_enter Tryd.func51, Tryd.ntmps51
  go_wp2_with (go_at_call 76; refine (HI.out).mono ?_; rintro e w2 ⟨la, lt, f, rfl, h1, h2⟩; have H1 := hide h1; have H2 := hide h2; clear h1 h2)
  go_ret3
  exact ⟨la, lt, f, rfl, H1.out, H2.out⟩
end Go.Proofs.YtngahgfppbjebaaDoor
