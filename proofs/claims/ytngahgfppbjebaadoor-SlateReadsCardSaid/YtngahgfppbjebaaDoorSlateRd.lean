/-
  The contract of package slate's 'read': one word.
-/
import Derived.Test.YtngahgfppbjebaaDoorSlateKeep
import Derived.Test.YtngahgfppbjebaaDoorSlNumber
namespace Go.Proofs.YtngahgfppbjebaaDoor
open Go.RowKit
set_option linter.unusedVariables false
set_option linter.unusedSimpArgs false

theorem readW_yes {w : List UInt8} (h : w = bYes) : readW w = some (.truth true) := if_pos h
theorem readW_no {w : List UInt8} (h : w = bNo) : readW w = some (.truth false) := by subst h; rfl
theorem readW_none {w : List UInt8} (h : w = bNone) : readW w = some .nothing := by subst h; rfl
theorem readW_num {w : List UInt8} (h1 : w ≠ bYes) (h2 : w ≠ bNo) (h3 : w ≠ bNone) : readW w = (decMost 18446744073709551615 w).map .num := (if_neg h1).trans ((if_neg h2).trans (if_neg h3))
theorem sl_eq_false {a : ByteArray} {k : List UInt8} (h : a.data.toList ≠ k) : (a.toList == k) = false := by
  rw [beq_eq_false_iff_ne, ByteArray.toList_eq]
  exact h
theorem sl_eq_true {a : ByteArray} {k : List UInt8} (h : a.data.toList = k) : (a.toList == k) = true := by
  rw [beq_iff_eq, ByteArray.toList_eq]
  exact h
theorem AddPost.before {w w1 w2 : World} {base g : Nat} {v : Value} {l : List Itm} {e : Ending} (h : AddPost w1 base g v l e w2) (ho : Only Nob w w1) : AddPost w base g v l e w2 := by
  obtain ⟨v', h1, h2, h3, h4⟩ := h
  refine ⟨v', h1, h2, (ho.mono (fun _ _ h => h.elim)).trans h3, ?_⟩
  rcases h4 with h4 | ⟨k, hk, hl⟩
  · exact .inl h4
  · exact .inr ⟨k, hk, Nat.le_trans ho.size hl⟩
/-- What one word more leaves. -/
def ReadPost (w : World) (base g : Nat) (v : Value) (l : List Itm) (o : Option Itm) (e : Ending) (w' : World) : Prop :=
  (∃ x, o = some x ∧ l.length < 16 ∧ AddPost w base g v (l ++ [x]) e w') ∨ ((o = none ∨ 16 ≤ l.length) ∧ e = .returned (.bool false) ∧ Only Nob w w')
theorem ReadPost.more {w w' : World} {base g : Nat} {v : Value} {l : List Itm} {x : Itm} {e : Ending} (hl : l.length < 16) (h : AddPost w base g v (l ++ [x]) e w') : ReadPost w base g v l (some x) e w' := .inl ⟨x, rfl, hl, h⟩
theorem addTruth_any (w : World) (base g : Nat) (v : Value) (l : List Itm) (b : Bool) (h : Sl w base g v l) (hl : l.length ≤ 1000) (hb : base ≤ w.heap.size) :
    Calls Tryd.prog 18 #[.pointer (some ⟨g, 0, none⟩), .bool b] w (ReadPost w base g v l (some (.truth b))) := by
  by_cases hr : l.length < 16
  · exact (addTruth_room w base g v l b h hr hb).mono fun e w' h => .more hr h
  · exact (addTruth_full w base g v l b h hl (by omega)).mono fun e w' ⟨h1, h2⟩ => .inr ⟨.inr (by omega), h1, h2 ▸ Only.refl _ _⟩
theorem addNone_any (w : World) (base g : Nat) (v : Value) (l : List Itm) (h : Sl w base g v l) (hl : l.length ≤ 1000) (hb : base ≤ w.heap.size) :
    Calls Tryd.prog 17 #[.pointer (some ⟨g, 0, none⟩)] w (ReadPost w base g v l (some .nothing)) := by
  by_cases hr : l.length < 16
  · exact (addNone_room w base g v l h hr hb).mono fun e w' h => .more hr h
  · exact (addNone_full w base g v l h hl (by omega)).mono fun e w' ⟨h1, h2⟩ => .inr ⟨.inr (by omega), h1, h2 ▸ Only.refl _ _⟩
theorem addNum_any (w : World) (base g : Nat) (v : Value) (l : List Itm) (n : Nat) (h : Sl w base g v l) (hl : l.length ≤ 1000) (hb : base ≤ w.heap.size) :
    Calls Tryd.prog 16 #[.pointer (some ⟨g, 0, none⟩), .int .u64 (n : Int)] w (ReadPost w base g v l (some (.num n))) := by
  by_cases hr : l.length < 16
  · exact (addNum_room w base g v l n h hr hb).mono fun e w' h => .more hr h
  · exact (addNum_full w base g v l n h hl (by omega)).mono fun e w' ⟨h1, h2⟩ => .inr ⟨.inr (by omega), h1, h2 ▸ Only.refl _ _⟩
theorem ReadPost.ret {w w' : World} {base g : Nat} {v : Value} {l : List Itm} {o : Option Itm} {e : Ending} (h : ReadPost w base g v l o e w') : ∃ b, e = .returned (.bool b) := by
  rcases h with ⟨x, _, _, v', h1, _⟩ | ⟨_, h1, _⟩
  · exact ⟨true, h1⟩
  · exact ⟨false, h1⟩
theorem ReadPost.before {w w1 w2 : World} {base g : Nat} {v : Value} {l : List Itm} {o : Option Itm} {e : Ending} (h : ReadPost w1 base g v l o e w2) (ho : Only Nob w w1) : ReadPost w base g v l o e w2 := by
  rcases h with ⟨x, h1, h2, h3⟩ | ⟨h1, h2, h3⟩
  · exact .inl ⟨x, h1, h2, h3.before ho⟩
  · exact .inr ⟨h1, h2, ho.trans h3⟩

theorem read_any (w : World) (base g : Nat) (v : Value) (l : List Itm) (s : ByteArray) (hs : s.size ≤ 1000000000) (h : Sl w base g v l) (hl : l.length ≤ 1000) (hb : base ≤ w.heap.size) :
    Calls Tryd.prog 44 #[.pointer (some ⟨g, 0, none⟩), .string s] w (ReadPost w base g v l (readW s.data.toList)) := by
  by_cases h1 : s.data.toList = bYes
  · have e1 : (s.toList == ([121, 101, 115] : List UInt8)) = true := sl_eq_true h1
    rw [readW_yes h1]
    have HC := hide (addTruth_any w base g v l true h hl hb)
    clear h hl hb h1 hs
    go_enter Tryd.func44, Tryd.ntmps44
    go_wp2_with (go_at_call 18; refine (HC.out).mono ?_; intro e w2 h1; obtain ⟨b, rfl⟩ := h1.ret; have H1 := hide h1; clear h1)
    go_ret
    exact H1.out
  · have e1 : (s.toList == ([121, 101, 115] : List UInt8)) = false := sl_eq_false h1
    by_cases h2 : s.data.toList = bNo
    · have e2 : (s.toList == ([110, 111] : List UInt8)) = true := sl_eq_true h2
      rw [readW_no h2]
      have HC := hide (addTruth_any w base g v l false h hl hb)
      clear h hl hb h1 h2 hs
      go_enter Tryd.func44, Tryd.ntmps44
      go_wp2_with (go_at_call 18; refine (HC.out).mono ?_; intro e w2 h1; obtain ⟨b, rfl⟩ := h1.ret; have H1 := hide h1; clear h1)
      go_ret
      exact H1.out
    · have e2 : (s.toList == ([110, 111] : List UInt8)) = false := sl_eq_false h2
      by_cases h3 : s.data.toList = bNone
      · have e3 : (s.toList == ([110, 111, 110, 101] : List UInt8)) = true := sl_eq_true h3
        rw [readW_none h3]
        have HC := hide (addNone_any w base g v l h hl hb)
        clear h hl hb h1 h2 h3 hs
        go_enter Tryd.func44, Tryd.ntmps44
        go_wp2_with (go_at_call 17; refine (HC.out).mono ?_; intro e w2 h1; obtain ⟨b, rfl⟩ := h1.ret; have H1 := hide h1; clear h1)
        go_ret
        exact H1.out
      · have e3 : (s.toList == ([110, 111, 110, 101] : List UInt8)) = false := sl_eq_false h3
        rw [readW_num h1 h2 h3]
        have HN := hide (number_any s hs w)
        unfold NumPost at HN
        have H := hide h
        have HL := hide hl
        have HB := hide hb
        clear h hl hb h1 h2 h3 hs
        generalize decMost 18446744073709551615 s.data.toList = o at HN ⊢
        rcases o with _ | n
        · replace HN := HN.out
          simp only [numOf, isNum, Option.isSome_none] at HN
          have HN1 := hide HN
          clear HN
          go_enter Tryd.func44, Tryd.ntmps44
          go_wp2_with (go_at_call 71; refine (HN1.out).mono ?_; rintro e w2 ⟨rfl, h1⟩; have H1 := hide h1; clear h1)
          go_ret
          exact .inr ⟨.inl rfl, rfl, H1.out⟩
        · replace HN := HN.out
          simp only [numOf, isNum, Option.isSome_some] at HN
          have HN1 := hide HN
          clear HN
          go_enter Tryd.func44, Tryd.ntmps44
          go_wp2_with (first
            | (go_at_call 71; refine (HN1.out).mono ?_; rintro e w2 ⟨rfl, h1⟩; have H1 := hide h1; have HC := hide (addNum_any w2 base g v l n (H.out.nob h1) HL.out (Nat.le_trans HB.out h1.size)); clear h1)
            | (go_at_call 16; refine (HC.out).mono ?_; intro e w3 h1; obtain ⟨b, rfl⟩ := h1.ret; have H2 := hide h1; clear h1))
          go_ret
          exact (H2.out).before H1.out
end Go.Proofs.YtngahgfppbjebaaDoor
