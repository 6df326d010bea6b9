/-
  The law SlateReads: 'reads', walked.
-/
import Derived.Test.YtngahgfppbjebaaDoorSlDoW
import Derived.Test.YtngahgfppbjebaaDoorSlateRead
import Derived.Test.YtngahgfppbjebaaDoorRefRead
namespace Go.Proofs.YtngahgfppbjebaaDoor
open Go.RowKit
set_option linter.unusedVariables false
set_option linter.unusedSimpArgs false

theorem readS_room {s : List UInt8} {l : List Itm} (h : readS s = some l) : l.length ≤ 16 ∧ ∀ x ∈ l, x.ok := by
  unfold readS at h
  split at h
  · rename_i h16
    have := readAll_ok _ _ h
    exact ⟨by omega, this.1⟩
  · cases h
set_option maxRecDepth 100000 in
theorem reads_any (s : ByteArray) (hs : s.size ≤ 100000000) (w : World) (htab : Pow10 w) : Calls Tryd.prog 28 #[.string s] w fun e w' => e = .returned (.bool true) ∧ Only Nob w w' := by
  have HS := hide (readAll_any s (by omega) w)
  have HR : Hid (∀ w1, Calls Tryd.prog 48 #[.string s] w1 (RReadPost w1 (readS s.data.toList))) := hide (fun w1 => rread_any s hs w1)
  have HOK : Hid (∀ l, readS s.data.toList = some l → l.length ≤ 16 ∧ ∀ x ∈ l, x.ok) := hide (fun l h => readS_room h)
  have HT := hide htab
  clear htab
  generalize readS s.data.toList = o at *
  rcases o with _ | l
  · go_enter Tryd.func28, Tryd.ntmps28
    go_wp2_with (first
      | (go_at_call 21; refine (HS.out).mono ?_; rintro e w1 ⟨ho1, rfl⟩; have HO1 := hide ho1; clear ho1)
      | (go_at_call 48; refine (HR.out w1).mono ?_; rintro e w2 ⟨ho2, rfl⟩; have HO2 := hide ho2; clear ho2))
    go_ret
    exact ⟨rfl, HO1.out.trans HO2.out⟩
  · obtain ⟨h16, hok⟩ := HOK.out l rfl
    have HN := hide h16
    have HK := hide hok
    clear h16 hok
    go_enter Tryd.func28, Tryd.ntmps28
    go_wp2_with (first
      | (go_at_call 21; refine (HS.out).mono ?_; rintro e w1 ⟨ho1, g1, v1, rfl, hs1, hg1⟩; have HO1 := hide ho1; have HS1 := hide hs1; clear ho1 hs1 hg1)
      | (go_at_call 48; refine (HR.out w1).mono ?_; rintro e w2 ⟨ho2, A2, c2, rfl, hi2, ha2⟩; have HO2 := hide ho2; have HI2 := hide hi2; clear ho2 hi2 ha2)
      | (go_at_call 31; refine (same13_any w2 _ g1 v1 l A2 l.length c2 (HS1.out.nob HO2.out) HI2.out rfl (by have := HN.out; omega) HK.out ((HT.out.nob HO1.out).nob HO2.out)).mono ?_; rintro e w3 ⟨rfl, ho3⟩; have HO3 := hide ho3; clear ho3))
    go_ret
    exact ⟨rfl, (HO1.out.trans HO2.out).trans HO3.out⟩
end Go.Proofs.YtngahgfppbjebaaDoor
