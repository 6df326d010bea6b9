/-
  Contracts of package slate: what adds a number, a truth, a nothing; what stands at a place, by its kind.
-/
import Derived.Test.YtngahgfppbjebaaDoorSlate
namespace Go.Proofs.YtngahgfppbjebaaDoor
open Go.RowKit
set_option linter.unusedVariables false
set_option linter.unusedSimpArgs false

theorem addNum_room (w : World) (base g : Nat) (v : Value) (l : List Itm) (n : Nat) (h : Sl w base g v l) (hr : l.length < 16) (hb : base ≤ w.heap.size) :
    Calls Tryd.prog 16 #[.pointer (some ⟨g, 0, none⟩), .int .u64 (n : Int)] w (AddPost w base g v (l ++ [.num n])) := by
  have HC := hide (add_room w base g v l h hr hb (.num n))
  clear h hr
  go_enter Tryd.func16, Tryd.ntmps16
  go_wp2_with (go_at_call 41; refine (HC.out).mono ?_; rintro e w2 ⟨v', rfl, h1, h2, h3⟩; have H1 := hide h1; have H2 := hide h2; have H3 := hide h3; clear h1 h2 h3)
  go_ret
  exact ⟨v', rfl, H1.out, H2.out, H3.out⟩
theorem addNum_full (w : World) (base g : Nat) (v : Value) (l : List Itm) (n : Nat) (h : Sl w base g v l) (hl : l.length ≤ 1000) (hf : 16 ≤ l.length) :
    Calls Tryd.prog 16 #[.pointer (some ⟨g, 0, none⟩), .int .u64 (n : Int)] w fun e w' => e = .returned (.bool false) ∧ w = w' := by
  have HC := fun x => hide (add_full w base g v l h hl hf x)
  clear h hl hf
  go_enter Tryd.func16, Tryd.ntmps16
  go_wp2_with (go_at_call 41; refine ((HC _).out).mono ?_; rintro e w2 ⟨rfl, rfl⟩)
  go_ret
  exact ⟨rfl, rfl⟩

theorem addTruth_room (w : World) (base g : Nat) (v : Value) (l : List Itm) (b : Bool) (h : Sl w base g v l) (hr : l.length < 16) (hb : base ≤ w.heap.size) :
    Calls Tryd.prog 18 #[.pointer (some ⟨g, 0, none⟩), .bool b] w (AddPost w base g v (l ++ [.truth b])) := by
  have HC := hide (add_room w base g v l h hr hb (.truth b))
  clear h hr
  go_enter Tryd.func18, Tryd.ntmps18
  go_wp2_with (go_at_call 41; refine (HC.out).mono ?_; rintro e w2 ⟨v', rfl, h1, h2, h3⟩; have H1 := hide h1; have H2 := hide h2; have H3 := hide h3; clear h1 h2 h3)
  go_ret
  exact ⟨v', rfl, H1.out, H2.out, H3.out⟩
theorem addTruth_full (w : World) (base g : Nat) (v : Value) (l : List Itm) (b : Bool) (h : Sl w base g v l) (hl : l.length ≤ 1000) (hf : 16 ≤ l.length) :
    Calls Tryd.prog 18 #[.pointer (some ⟨g, 0, none⟩), .bool b] w fun e w' => e = .returned (.bool false) ∧ w = w' := by
  have HC := fun x => hide (add_full w base g v l h hl hf x)
  clear h hl hf
  go_enter Tryd.func18, Tryd.ntmps18
  go_wp2_with (go_at_call 41; refine ((HC _).out).mono ?_; rintro e w2 ⟨rfl, rfl⟩)
  go_ret
  exact ⟨rfl, rfl⟩

theorem addNone_room (w : World) (base g : Nat) (v : Value) (l : List Itm) (h : Sl w base g v l) (hr : l.length < 16) (hb : base ≤ w.heap.size) :
    Calls Tryd.prog 17 #[.pointer (some ⟨g, 0, none⟩)] w (AddPost w base g v (l ++ [.nothing])) := by
  have HC := hide (add_room w base g v l h hr hb (.nothing))
  clear h hr
  go_enter Tryd.func17, Tryd.ntmps17
  go_wp2_with (go_at_call 41; refine (HC.out).mono ?_; rintro e w2 ⟨v', rfl, h1, h2, h3⟩; have H1 := hide h1; have H2 := hide h2; have H3 := hide h3; clear h1 h2 h3)
  go_ret
  exact ⟨v', rfl, H1.out, H2.out, H3.out⟩
theorem addNone_full (w : World) (base g : Nat) (v : Value) (l : List Itm) (h : Sl w base g v l) (hl : l.length ≤ 1000) (hf : 16 ≤ l.length) :
    Calls Tryd.prog 17 #[.pointer (some ⟨g, 0, none⟩)] w fun e w' => e = .returned (.bool false) ∧ w = w' := by
  have HC := fun x => hide (add_full w base g v l h hl hf x)
  clear h hl hf
  go_enter Tryd.func17, Tryd.ntmps17
  go_wp2_with (go_at_call 41; refine ((HC _).out).mono ?_; rintro e w2 ⟨rfl, rfl⟩)
  go_ret
  exact ⟨rfl, rfl⟩

end Go.Proofs.YtngahgfppbjebaaDoor
