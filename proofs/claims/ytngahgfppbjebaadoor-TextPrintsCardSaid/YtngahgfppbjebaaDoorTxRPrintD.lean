/-
  What the reference's Print stands on.
-/
import Derived.Test.YtngahgfppbjebaaDoorTxLineA
import Derived.Test.YtngahgfppbjebaaDoorTxLineB
import Derived.Test.YtngahgfppbjebaaDoorTxLineC
import Derived.Test.YtngahgfppbjebaaDoorGrpTxPrintE
import Derived.Deep.OwnRows
namespace Go.Proofs.YtngahgfppbjebaaDoor
open Go.RowKit Go.Lib
set_option linter.unusedVariables false
set_option linter.unusedSimpArgs false

theorem line_any (x : PIns) (hm : mayP x = true) (hn : 0 ≤ x.n ∧ x.n < 18446744073709551616) (w : World) (htab : TabAt w) : Calls Tryd.prog 67 #[.agg #[.int .i64 x.op, .int .i64 x.a, .int .i64 x.b, .int .i64 x.c, .int .u64 x.n]] w fun e w' => e = .returned (.string ⟨(lineL x).toArray⟩) ∧ Only Nob w w' := by
  obtain ⟨hs, ho⟩ := small_of_may hm hn
  obtain ⟨ha, hb, hc, hn2⟩ := hs
  obtain ⟨op, a, b, c, n⟩ := x
  simp only at *
  obtain ⟨a, rfl⟩ := Int.eq_ofNat_of_zero_le ha.1
  obtain ⟨b, rfl⟩ := Int.eq_ofNat_of_zero_le hb.1
  obtain ⟨c, rfl⟩ := Int.eq_ofNat_of_zero_le hc.1
  obtain ⟨n, rfl⟩ := Int.eq_ofNat_of_zero_le hn.1
  have ha2 : a < 100 := by omega
  have hb2 : b < 100 := by omega
  have hc2 : c < 100 := by omega
  have hn3 : n < 18446744073709551616 := by omega
  rcases (by omega : op = 1 ∨ op = 2 ∨ op = 3 ∨ op = 4 ∨ op = 5 ∨ op = 6 ∨ op = 7 ∨ op = 8 ∨ op = 9 ∨ op = 10 ∨ op = 11 ∨ op = 12 ∨ op = 13 ∨ op = 14 ∨ op = 15 ∨ op = 16 ∨ op = 17 ∨ op = 18 ∨ op = 19 ∨ op = 20 ∨ op = 21 ∨ op = 22 ∨ op = 23) with rfl | rfl | rfl | rfl | rfl | rfl | rfl | rfl | rfl | rfl | rfl | rfl | rfl | rfl | rfl | rfl | rfl | rfl | rfl | rfl | rfl | rfl | rfl
  · exact line_1 w a b c n ha2 hb2 hc2 hn3 htab
  · exact line_2 w a b c n ha2 hb2 hc2 hn3 htab
  · exact line_3 w a b c n ha2 hb2 hc2 hn3 htab
  · exact line_4 w a b c n ha2 hb2 hc2 hn3 htab
  · exact line_5 w a b c n ha2 hb2 hc2 hn3 htab
  · exact line_6 w a b c n ha2 hb2 hc2 hn3 htab
  · exact line_7 w a b c n ha2 hb2 hc2 hn3 htab
  · exact line_8 w a b c n ha2 hb2 hc2 hn3 htab
  · exact line_9 w a b c n ha2 hb2 hc2 hn3 htab
  · exact line_10 w a b c n ha2 hb2 hc2 hn3 htab
  · exact line_11 w a b c n ha2 hb2 hc2 hn3 htab
  · exact line_12 w a b c n ha2 hb2 hc2 hn3 htab
  · exact line_13 w a b c n ha2 hb2 hc2 hn3 htab
  · exact line_14 w a b c n ha2 hb2 hc2 hn3 htab
  · exact line_15 w a b c n ha2 hb2 hc2 hn3 htab
  · exact line_16 w a b c n ha2 hb2 hc2 hn3 htab
  · exact line_17 w a b c n ha2 hb2 hc2 hn3 htab
  · exact line_18 w a b c n ha2 hb2 hc2 hn3 htab
  · exact line_19 w a b c n ha2 hb2 hc2 hn3 htab
  · exact line_20 w a b c n ha2 hb2 hc2 hn3 htab
  · exact line_21 w a b c n ha2 hb2 hc2 hn3 htab
  · exact line_22 w a b c n ha2 hb2 hc2 hn3 htab
  · exact line_23 w a b c n ha2 hb2 hc2 hn3 htab
theorem ins_line (x : PIns) : insP x = lineL x ++ [10] := by unfold insP lineL; rfl
theorem infoBool : (Tryd.prog.info? 4).map (fun i => (i.zero, i.size, i.bytes)) = some (some (.bool false), 1, 1) := by kernel_rfl
/-- The marks behind k rounds. -/
def marksR (l : List PIns) (k : Nat) : Array Value := ((List.range (l.length + 1)).map fun i => Value.bool (marked (l.take k) i)).toArray
theorem marksR_at (l : List PIns) (k : Nat) {c : Nat} (h : c < l.length + 1) : (marksR l k)[c]? = some (.bool (marked (l.take k) c)) := by
  unfold marksR
  simp [h]
theorem made_bools (n : Nat) : madeCells #[.bool false] n = ((List.range n).map fun _ => Value.bool false).toArray := by
  unfold madeCells
  apply Array.ext
  · simp
  · intro i h1 h2
    simp [Nat.mod_one]
theorem marksR_zero (l : List PIns) : marksR l 0 = madeCells #[.bool false] (l.length + 1) := by
  rw [made_bools]
  unfold marksR marked
  simp
theorem marksR_no {l : List PIns} {k : Nat} (hk : k < l.length) (h : jumpsB (l.getD k PIns.none).op = false) : marksR l (k + 1) = marksR l k := by
  unfold marksR marked
  rw [take_next hk]
  simp only [List.any_append, List.any_cons, h, Bool.false_and, List.any_nil, Bool.or_false]
theorem marksR_yes {l : List PIns} {k c : Nat} (hk : k < l.length) (h : jumpsB (l.getD k PIns.none).op = true) (hc : (l.getD k PIns.none).c = (c : Int)) (h40 : c ≤ l.length) : marksR l (k + 1) = (marksR l k).set! c (.bool true) := by
  unfold marksR marked
  rw [take_next hk]
  simp only [List.any_append, List.any_cons, h, hc, Bool.true_and, List.any_nil, Bool.or_false]
  apply Array.ext
  · simp
  · intro i h1 h2
    simp at h1
    simp [List.getElem_set]
    by_cases e : c = i
    · subst e; simp
    · have e2 : ¬ ((c : Int) = (i : Int)) := by omega
      simp [e, e2]
/-- Between two rounds of the first loop. -/
structure RM (w wr : World) (l : List PIns) (A : Option Addr) (cap k : Nat) : Prop where
  marks : Blk wr (w.heap.size + 1) 4 (marksR l k)
  well : ∀ x ∈ l.take k, illP l.length x = false
  only : Only Nob w wr
  box : Blk wr w.heap.size 55 #[.slice A l.length cap]
theorem RM.start (w : World) (l : List PIns) (A : Option Addr) (cap : Nat) : RM w ((w.alloc (.cells #[.slice A l.length cap] 55)).alloc (.cells (madeCells #[.bool false] (l.length + 1)) 4)) l A cap 0 :=
  ⟨by rw [marksR_zero]; exact Blk.new' (by simp), by simp, ((Only.refl _ w).alloc _).alloc _, (Blk.new w _ _).alloc _⟩
theorem RM.nob {w wr W : World} {l : List PIns} {A : Option Addr} {cap k : Nat} (h : RM w wr l A cap k) (ho : Only Nob wr W) : RM w W l A cap k := ⟨h.marks.only ho (fun h => h), h.well, h.only.trans ho, h.box.only ho (fun h => h)⟩
theorem RM.next {w wr W : World} {l : List PIns} {A : Option Addr} {cap k : Nat} {x : PIns} (h : RM w wr l A cap k) (hb : Blk W (w.heap.size + 1) 4 (marksR l (k + 1))) (ho : Only (fun i => i = w.heap.size + 1) wr W) (ht : l.take (k + 1) = l.take k ++ [x]) (hx : illP l.length x = false) : RM w W l A cap (k + 1) := by
  refine ⟨hb, ?_, Only.after h.only ho (fun i hi => .inr (by omega)), h.box.only ho (by omega)⟩
  intro y hy
  rw [ht] at hy
  rcases List.mem_append.1 hy with h1 | h1
  · exact h.well y h1
  · simp at h1
    subst h1
    exact hx
/-- Between two rounds of the second loop. -/
structure RQ (w wq : World) (l : List PIns) (A : Option Addr) (cap k : Nat) (sb : ByteArray) : Prop where
  rm : RM w wq l A cap l.length
  eq : printP l = sb.data.toList ++ linesOfP l k (l.drop k)
  short : sb.size ≤ 200 * k
theorem RQ.start {w wr : World} {l : List PIns} {A : Option Addr} {cap : Nat} (h : RM w wr l A cap l.length) (h40 : ¬ 40 < l.length) : RQ w wr l A cap 0 ⟨#[]⟩ := by
  have hw := h.well
  rw [List.take_length] at hw
  exact ⟨h, by rw [print_well h40 hw]; rfl, by decide⟩
theorem RQ.next {w wr W : World} {l : List PIns} {A : Option Addr} {cap k : Nat} {sb sc : ByteArray} {x : PIns} (h : RQ w wr l A cap k sb) (ho : Only Nob wr W) (hk : k < l.length) (hx : l.getD k PIns.none = x) (hm : mayP x = true) (hn : 0 ≤ x.n ∧ x.n < 18446744073709551616) (h40 : l.length ≤ 40) (hs : sc.data.toList = sb.data.toList ++ labelP l k 32 ++ (lineL x ++ [10])) : RQ w W l A cap (k + 1) sc := by
  have e : l.drop k = x :: l.drop (k + 1) := by
    rw [List.drop_eq_getElem_cons hk, ← hx, List.getD_eq_getElem?_getD, List.getElem?_eq_getElem hk]
    rfl
  refine ⟨h.rm.nob ho, ?_, ?_⟩
  · rw [h.eq, e, linesOfP, hs, ins_line]
    simp
  · have h1 := (lab_bytes l k 32 (.inl rfl) (by omega)).2
    have h2 := (ins_bytes x hm hn).2.1
    have h3 := h.short
    have h4 := congrArg List.length hs
    rw [← ins_line, List.length_append, List.length_append] at h4
    have h5 : sc.data.toList.length = sc.size := by simp
    have h6 : sb.data.toList.length = sb.size := by simp
    omega
end Go.Proofs.YtngahgfppbjebaaDoor
