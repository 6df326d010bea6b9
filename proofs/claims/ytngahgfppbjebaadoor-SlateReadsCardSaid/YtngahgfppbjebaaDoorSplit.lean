/-
  The iterator of strings.SplitSeq at a blank: it keeps what is left in a box of its own; its contract.
-/
import Derived.RangeFuncNested
import Derived.RangeFuncBound
import Derived.RangeFuncCalls
import Derived.RangeFuncLeaves
import Derived.Shelf.Abstract
import Derived.Shelf.RegionOpen
import Derived.WalkKit
import Derived.OwnWalkIn
import Derived.TacticsInMore
import Derived.LoopNIn
import Derived.LoopIn
import Derived.Test.YtngahgfppbjebaaDoorBase
import Derived.Test.YtngahgfppbjebaaDoorFrames
import Derived.Test.YtngahgfppbjebaaDoorSlPlain
import Derived.Test.YtngahgfppbjebaaDoorShelf
namespace Go.Proofs.YtngahgfppbjebaaDoor
open Go.RowKit Go.Shelf
set_option linter.unusedVariables false
set_option linter.unusedSimpArgs false
attribute [local go_sem] Oper.semAt_some

theorem wordsB_index (l : List UInt8) : (Go.Lib.indexByte l 32 = -1 ∧ wordsB l = [l]) ∨ ∃ o : Nat, Go.Lib.indexByte l 32 = (o : Int) ∧ o < l.length ∧ wordsB l = l.take o :: wordsB (l.drop (o + 1)) := by
  induction l with
  | nil => exact .inl ⟨rfl, rfl⟩
  | cons b l ih =>
    by_cases hb : b = 32
    · subst hb
      exact .inr ⟨0, by simp [Go.Lib.indexByte], by simp, by simpa using wordsB_hit l⟩
    · have hb2 : (b == 32) = false := by simpa using hb
      rcases ih with ⟨h1, h2⟩ | ⟨o, h1, h2, h3⟩
      · exact .inl ⟨by simp [Go.Lib.indexByte, hb2, h1], wordsB_miss hb h2⟩
      · refine .inr ⟨o + 1, ?_, by simpa using h2, ?_⟩
        · have hne : ¬ ((o : Int) = -1) := by omega
          simp [Go.Lib.indexByte, hb2, h1, hne]
        · rw [wordsB_miss hb h3]
          simp
def ofL (l : List UInt8) : ByteArray := ⟨l.toArray⟩
theorem ofL_data (l : List UInt8) : (ofL l).data.toList = l := by simp [ofL]
theorem ofL_of (s : ByteArray) : ofL s.data.toList = s := by
  cases s with
  | mk a => simp [ofL]
theorem extract_ofL (s : ByteArray) (a b : Nat) : (s.extract a b).data.toList = (s.data.toList.drop a).take (b - a) := by
  rw [ByteArray.data_extract, Array.toList_extract]
/-- The three boxes of the iterator. -/
structure Boxes (w : World) (B : Nat) (s : ByteArray) : Prop where
  rest : Blk w B 9 #[.string s]
  sep : Blk w (B + 1) 9 #[.string ⟨#[32]⟩]
  save : Blk w (B + 2) 3 #[.int .i64 0]
/-- What a round must keep. -/
def KpB (B : Nat) (W W' : World) : Prop := W'.heap[B]? = W.heap[B]? ∧ W'.heap[B + 1]? = W.heap[B + 1]? ∧ W'.heap[B + 2]? = W.heap[B + 2]?
theorem Boxes.kp {w w' : World} {B : Nat} {s : ByteArray} (h : Boxes w B s) (hk : KpB B w w') : Boxes w' B s := ⟨hk.1.trans h.rest, hk.2.1.trans h.sep, hk.2.2.trans h.save⟩
theorem Boxes.set {w : World} {B : Nat} {s : ByteArray} (h : Boxes w B s) (t : ByteArray) : Boxes (w.setCell ⟨B, 0, none⟩ (.string t)) B t :=
  ⟨by have := h.rest.set_ 0 (.string t); simpa using this, h.sep.far (by simp) _, h.save.far (by simp) _⟩
def leftB (B : Nat) (w : World) : Nat := match w.cell? ⟨B, 0, none⟩ with
  | some (.string s) => s.size
  | _ => 0
theorem Boxes.left {w : World} {B : Nat} {s : ByteArray} (h : Boxes w B s) : leftB B w = s.size := by
  have := h.rest.cell 0
  simp at this
  unfold leftB
  rw [this]

set_option maxRecDepth 100000 in
set_option maxHeartbeats 1000000 in
theorem split_in (n : Nat) (hn : 1 ≤ n) (l B : Nat) (s : ByteArray) (hs : s.size ≤ 1000000000) (J Jx : List (List UInt8) → World → Prop)
    (hJ : ∀ p X Y, J p X → Only (Ob B) X Y → J p Y)
    (hY : ∀ pre x W, J pre W → (pre ++ [x]) <+: wordsB s.data.toList → YieldAt Fence.wide (n - 1) Tryd.prog l #[.string (ofL x)] W fun e W' =>
      (e = .returned (.bool true) ∧ J (pre ++ [x]) W' ∧ KpB B W W') ∨ (e = .returned (.bool false) ∧ Jx (pre ++ [x]) W'))
    (W : World) (hb : Boxes W B s) (h0 : J [] W) :
    CallsIn Fence.wide n Tryd.prog 96 #[.func (.yield l) #[] #[], .pointer (some ⟨B + 1, 0, none⟩), .pointer (some ⟨B, 0, none⟩), .pointer (some ⟨B + 2, 0, none⟩)] W fun e W' => (∃ v, e = .returned v) ∧
      (J (wordsB s.data.toList) W' ∨ (∃ pre, pre <+: wordsB s.data.toList ∧ Jx pre W')) := by
  refine callsIn_of_wp Tryd.func96 rfl trivial ?_ rfl
  simp only [Tryd.ntmps96, List.size_toArray, List.length_cons, List.length_nil, Nat.reduceAdd, Nat.reduceSub, Array.replicate_succ, Array.replicate_zero, List.push_toArray, List.append_toArray, List.nil_append, List.cons_append]
  have hc1 := hb.rest.cell 0
  have hc2 := hb.sep.cell 0
  simp at hc1 hc2
  gi_wp2
  clear hc1 hc2
  gi_loopw [7] (fun p wr => ∃ (pre : List (List UInt8)) (r : ByteArray), wordsB s.data.toList = pre ++ wordsB r.data.toList ∧ r.size ≤ 1000000000 ∧ Boxes wr B r ∧ J pre wr)
    (fun _ wr => leftB B wr)
  case atStart =>
    exact ⟨[], s, rfl, hs, hb, h0⟩
  case round =>
    obtain ⟨pre, r, hw, hrs, hbr, hJr⟩ := hrel
    have hc1 := hbr.rest.cell 0
    have hc2 := hbr.sep.cell 0
    have hc3 := hbr.save.cell 0
    have hf1 := hbr.rest.frozen 0
    simp at hc1 hc2 hc3
    have hx := Tryd.strings_Index_one r 32 wr
    rcases wordsB_index r.data.toList with ⟨h1, h2⟩ | ⟨o, h1, h2, h3⟩
    · rw [h1] at hx
      have hx2 : Hid (CallsIn Fence.wide (n - 1) Tryd.prog 98 #[.string r, .string ⟨#[32]⟩] wr fun e w' => e = .returned (.int .i64 (-1)) ∧ w' = wr) := hide (callsIn_wide.2 hx)
      have HB := hide hbr
      obtain ⟨fn, tmps, assign, body, hy, hR⟩ := hY pre r.data.toList wr hJr (by rw [hw, h2]; exact List.prefix_refl _)
      rw [ofL_of] at hy
      clear hx h1
      have hfn : Fence.wide.fn 98 := trivial
      gi_wp2_with (gi_at_call 98; refine (hx2.out).mono ?_; rintro e w' ⟨rfl, rfl⟩)
      refine hR.mono ?_
      rintro e W3 (⟨rfl, hJ3, hk3⟩ | ⟨rfl, hJx3⟩)
      · gi_wp2
        go_end0
        exact ⟨⟨_, rfl⟩, .inl (by rw [hw, h2]; exact hJ3)⟩
      · gi_wp2
        go_end0
        exact ⟨⟨_, rfl⟩, .inr ⟨pre ++ [r.data.toList], by rw [hw, h2]; exact List.prefix_refl _, hJx3⟩⟩
    · rw [h1] at hx
      have hx2 : Hid (CallsIn Fence.wide (n - 1) Tryd.prog 98 #[.string r, .string ⟨#[32]⟩] wr fun e w' => e = .returned (.int .i64 (o : Int)) ∧ w' = wr) := hide (callsIn_wide.2 hx)
      have HB := hide hbr
      have ho : o < r.size := by simpa using h2
      have hpre : pre ++ [r.data.toList.take o] <+: wordsB s.data.toList := by rw [hw, h3]; exact ⟨wordsB (r.data.toList.drop (o + 1)), by simp⟩
      have e1 : ofL (r.data.toList.take o) = r.extract 0 o := by
        rw [← ofL_of (r.extract 0 o), extract_ofL]; simp
      obtain ⟨fn, tmps, assign, body, hy, hR⟩ := hY pre (r.data.toList.take o) wr hJr hpre
      rw [e1] at hy
      clear hx h1
      have hfn : Fence.wide.fn 98 := trivial
      gi_wp2_with (gi_at_call 98; refine (hx2.out).mono ?_; rintro e w' ⟨rfl, rfl⟩)
      refine hR.mono ?_
      rintro e W3 (⟨rfl, hJ3, hk3⟩ | ⟨rfl, hJx3⟩)
      · have hb3 := HB.out.kp hk3
        have hc4 := hb3.rest.cell 0
        have hc5 := hb3.sep.cell 0
        have hf4 := hb3.rest.frozen 0
        simp at hc4 hc5
        have HB3 := hide hb3
        have HJ3 := hide hJ3
        have hiw : IntKind.i64.wrap ((o : Int) + 1) = (o : Int) + 1 := by rw [IntKind.wrap_i64]; omega
        clear hb3 hJ3 hk3 hc1 hc2 hc3 hf1 hy hR
        gi_wp2
        go_roundw
        case rel =>
          refine ⟨pre ++ [r.data.toList.take o], r.extract (o + 1) r.size, ?_, ?_, HB3.out.set _, hJ _ _ _ HJ3.out (Only.setCell (S := Ob B) (p := ⟨B, 0, none⟩) (Only.refl _ _) (.inl rfl) _)⟩
          · have e5 : (r.extract (o + 1) r.size).data.toList = r.data.toList.drop (o + 1) := by
              rw [extract_ofL]
              refine List.take_of_length_le ?_
              rw [List.length_drop]
              have : r.data.toList.length = r.size := by simp
              omega
            rw [hw, h3, e5]
            simp
          · simp; omega
        case measure =>
          rw [(HB3.out.set _).left, HB.out.left]
          simp
          omega
      · gi_wp2
        refine bodyPost_ret (results_none rfl _ _ _) rfl ?_
        exact ⟨⟨_, rfl⟩, .inr ⟨_, hpre, hJx3⟩⟩
end Go.Proofs.YtngahgfppbjebaaDoor
