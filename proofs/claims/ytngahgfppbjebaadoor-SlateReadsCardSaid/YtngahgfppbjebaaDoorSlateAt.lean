/-
  Contracts of package slate: what stands at a place, by its kind.
-/
import Derived.Test.YtngahgfppbjebaaDoorSlate
import Derived.KernelRfl
namespace Go.Proofs.YtngahgfppbjebaaDoor
open Go.RowKit
set_option linter.unusedVariables false
set_option linter.unusedSimpArgs false

/-! What a place's kind says to an assertion. -/
theorem asN0 (W : World) : (Instr.typeAssert .nilIface 20 25 true).run Tryd.prog W = .ok (.tuple #[.int .u64 0, .bool false]) W := by kernel_rfl
theorem asNN (x : Int) (W : World) : (Instr.typeAssert (.iface 25 (.int .u64 x)) 20 25 true).run Tryd.prog W = .ok (.tuple #[.int .u64 x, .bool true]) W := by kernel_rfl
theorem asNT (x : Bool) (W : World) : (Instr.typeAssert (.iface 4 (.bool x)) 20 25 true).run Tryd.prog W = .ok (.tuple #[.int .u64 0, .bool false]) W := by kernel_rfl
theorem asNO  (W : World) : (Instr.typeAssert (.iface 80 (.agg #[])) 20 25 true).run Tryd.prog W = .ok (.tuple #[.int .u64 0, .bool false]) W := by kernel_rfl
theorem asT0 (W : World) : (Instr.typeAssert .nilIface 20 4 true).run Tryd.prog W = .ok (.tuple #[.bool false, .bool false]) W := by kernel_rfl
theorem asTN (x : Int) (W : World) : (Instr.typeAssert (.iface 25 (.int .u64 x)) 20 4 true).run Tryd.prog W = .ok (.tuple #[.bool false, .bool false]) W := by kernel_rfl
theorem asTT (x : Bool) (W : World) : (Instr.typeAssert (.iface 4 (.bool x)) 20 4 true).run Tryd.prog W = .ok (.tuple #[.bool x, .bool true]) W := by kernel_rfl
theorem asTO  (W : World) : (Instr.typeAssert (.iface 80 (.agg #[])) 20 4 true).run Tryd.prog W = .ok (.tuple #[.bool false, .bool false]) W := by kernel_rfl
theorem asO0 (W : World) : (Instr.typeAssert .nilIface 20 80 true).run Tryd.prog W = .ok (.tuple #[.agg #[], .bool false]) W := by kernel_rfl
theorem asON (x : Int) (W : World) : (Instr.typeAssert (.iface 25 (.int .u64 x)) 20 80 true).run Tryd.prog W = .ok (.tuple #[.agg #[], .bool false]) W := by kernel_rfl
theorem asOT (x : Bool) (W : World) : (Instr.typeAssert (.iface 4 (.bool x)) 20 80 true).run Tryd.prog W = .ok (.tuple #[.agg #[], .bool false]) W := by kernel_rfl
theorem asOO  (W : World) : (Instr.typeAssert (.iface 80 (.agg #[])) 20 80 true).run Tryd.prog W = .ok (.tuple #[.agg #[], .bool true]) W := by kernel_rfl

/-- The result at a place. -/
def itmAt (l : List Itm) (i : Int) : Option Itm := if 0 ≤ i then l[i.toNat]? else none
def itmV : Option Itm → Value
  | some x => itemV x
  | none => .nilIface
theorem at_any (w : World) (base g : Nat) (v : Value) (l : List Itm) (h : Sl w base g v l) (hl : l.length ≤ 1000) (i : Int) :
    Calls Tryd.prog 42 #[.pointer (some ⟨g, 0, none⟩), .int .i64 i] w fun e w' => e = .returned (itmV (itmAt l i)) ∧ w = w' := by
  by_cases h0 : i < 0
  · have e : itmAt l i = none := if_neg (by omega)
    rw [e]
    exact at_out w base g v l h hl i (.inl h0)
  · obtain ⟨k, rfl⟩ : ∃ k : Nat, i = (k : Int) := ⟨i.toNat, by omega⟩
    have e : itmAt l (k : Int) = l[k]? := (if_pos (by omega)).trans (by simp)
    rw [e]
    by_cases hk : k < l.length
    · rw [List.getElem?_eq_getElem hk]
      exact at_in w base g v l h hl k hk
    · rw [List.getElem?_eq_none (by omega)]
      exact at_out w base g v l h hl _ (.inr (by omega))
def numOfItm : Option Itm → Int × Bool
  | some (.num n) => ((n : Int), true)
  | _ => (0, false)
def truthOfItm : Option Itm → Bool × Bool
  | some (.truth b) => (b, true)
  | _ => (false, false)
def noneOfItm : Option Itm → Bool
  | some .nothing => true
  | _ => false

set_option maxRecDepth 100000 in
theorem num_any (w : World) (base g : Nat) (v : Value) (l : List Itm) (h : Sl w base g v l) (hl : l.length ≤ 1000) (i : Int) :
    Calls Tryd.prog 19 #[.pointer (some ⟨g, 0, none⟩), .int .i64 i] w fun e w' => e = .returned (.tuple #[.int .u64 (numOfItm (itmAt l i)).1, .bool (numOfItm (itmAt l i)).2]) ∧ w = w' := by
  have HC := hide (at_any w base g v l h hl i)
  clear h hl
  generalize itmAt l i = o at HC ⊢
  rcases o with _ | ⟨n | b | _⟩
  all_goals
    replace HC := HC.out
    simp only [itmV, itemV] at HC
    have HC1 := hide HC
    clear HC
    simp only [numOfItm, truthOfItm, noneOfItm]
    have a0 := @asN0
    have aN := @asNN
    have aT := @asNT
    have aO := @asNO
    go_enter Tryd.func19, Tryd.ntmps19
    go_wp2_with (go_at_call 42; refine (HC1.out).mono ?_; rintro e w2 ⟨rfl, rfl⟩)
    go_ret2
    exact ⟨rfl, rfl⟩

set_option maxRecDepth 100000 in
theorem truth_any (w : World) (base g : Nat) (v : Value) (l : List Itm) (h : Sl w base g v l) (hl : l.length ≤ 1000) (i : Int) :
    Calls Tryd.prog 20 #[.pointer (some ⟨g, 0, none⟩), .int .i64 i] w fun e w' => e = .returned (.tuple #[.bool (truthOfItm (itmAt l i)).1, .bool (truthOfItm (itmAt l i)).2]) ∧ w = w' := by
  have HC := hide (at_any w base g v l h hl i)
  clear h hl
  generalize itmAt l i = o at HC ⊢
  rcases o with _ | ⟨n | b | _⟩
  all_goals
    replace HC := HC.out
    simp only [itmV, itemV] at HC
    have HC1 := hide HC
    clear HC
    simp only [numOfItm, truthOfItm, noneOfItm]
    have a0 := @asT0
    have aN := @asTN
    have aT := @asTT
    have aO := @asTO
    go_enter Tryd.func20, Tryd.ntmps20
    go_wp2_with (go_at_call 42; refine (HC1.out).mono ?_; rintro e w2 ⟨rfl, rfl⟩)
    go_ret2
    exact ⟨rfl, rfl⟩

set_option maxRecDepth 100000 in
theorem none_any (w : World) (base g : Nat) (v : Value) (l : List Itm) (h : Sl w base g v l) (hl : l.length ≤ 1000) (i : Int) :
    Calls Tryd.prog 22 #[.pointer (some ⟨g, 0, none⟩), .int .i64 i] w fun e w' => e = .returned (.bool (noneOfItm (itmAt l i))) ∧ Only Nob w w' := by
  have HC := hide (at_any w base g v l h hl i)
  clear h hl
  generalize itmAt l i = o at HC ⊢
  rcases o with _ | ⟨n | b | _⟩
  all_goals
    replace HC := HC.out
    simp only [itmV, itemV] at HC
    have HC1 := hide HC
    clear HC
    simp only [numOfItm, truthOfItm, noneOfItm]
    have a0 := @asO0
    have aN := @asON
    have aT := @asOT
    have aO := @asOO
    go_enter Tryd.func22, Tryd.ntmps22
    go_wp2_with (go_at_call 42; refine (HC1.out).mono ?_; rintro e w2 ⟨rfl, rfl⟩)
    go_ret
    exact ⟨rfl, (Only.refl _ _).alloc _⟩

end Go.Proofs.YtngahgfppbjebaaDoor
