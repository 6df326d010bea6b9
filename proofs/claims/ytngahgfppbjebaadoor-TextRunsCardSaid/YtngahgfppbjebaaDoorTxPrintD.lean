/-
  What Print's loops stand on.
-/
import Derived.Test.YtngahgfppbjebaaDoorTxPrP
import Derived.Test.YtngahgfppbjebaaDoorTxBuild
namespace Go.Proofs.YtngahgfppbjebaaDoor
open Go.RowKit Go.Lib
set_option linter.unusedVariables false
set_option linter.unusedSimpArgs false

/-- The marks behind k rounds. -/
def marksV (l : List PIns) (k : Nat) : Array Value := ((List.range 41).map fun i => Value.bool (marked (l.take k) i)).toArray
theorem marks_at (l : List PIns) (k : Nat) {c : Nat} (h : c < 41) : (marksV l k)[c]? = some (.bool (marked (l.take k) c)) := by
  unfold marksV
  simp [h]
theorem marksV_zero (l : List PIns) : marksV l 0 = Array.replicate 41 (.bool false) := by
  unfold marksV marked
  simp
  rfl
/-- Between two rounds of the first loop. -/
structure PM (w wr : World) (l : List PIns) (A : Option Addr) (cap k : Nat) : Prop where
  marks : Blk wr (w.heap.size + 1) 109 (marksV l k)
  well : ∀ x ∈ l.take k, illP l.length x = false
  only : Only Nob w wr
  box : Blk wr w.heap.size 55 #[.slice A l.length cap]
theorem ill_out {l : List PIns} {k : Nat} (hk : k < l.length) (h : illP l.length (l.getD k PIns.none) = true) : printP l = [] := by
  unfold printP
  split
  · rfl
  · rw [if_pos]
    rw [List.any_eq_true]
    refine ⟨l.getD k PIns.none, ?_, h⟩
    rw [List.getD_eq_getElem?_getD, List.getElem?_eq_getElem hk]
    exact List.getElem_mem _
theorem take_next {l : List PIns} {k : Nat} (hk : k < l.length) : l.take (k + 1) = l.take k ++ [l.getD k PIns.none] := by
  rw [List.take_succ_eq_append_getElem hk, List.getD_eq_getElem?_getD, List.getElem?_eq_getElem hk]
  rfl
theorem marks_no {l : List PIns} {k : Nat} (hk : k < l.length) (h : jumpsB (l.getD k PIns.none).op = false) : marksV l (k + 1) = marksV l k := by
  unfold marksV marked
  rw [take_next hk]
  simp only [List.any_append, List.any_cons, h, Bool.false_and, List.any_nil, Bool.or_false]
theorem marks_yes {l : List PIns} {k c : Nat} (hk : k < l.length) (h : jumpsB (l.getD k PIns.none).op = true) (hc : (l.getD k PIns.none).c = (c : Int)) (h40 : c ≤ 40) : marksV l (k + 1) = (marksV l k).set! c (.bool true) := by
  unfold marksV marked
  rw [take_next hk]
  simp only [List.any_append, List.any_cons, h, hc, Bool.true_and, List.any_nil, Bool.or_false]
  apply Array.ext
  · simp
  · intro i h1 h2
    simp at h1
    simp [List.getElem_set]
    by_cases e : c = i
    · subst e; simp
    · have e2 : ¬ ((c : Int) = (i : Int)) := by omega
      simp [e, e2]
theorem PM.start (w : World) (l : List PIns) (A : Option Addr) (cap : Nat) : PM w ((w.alloc (.cells #[.slice A l.length cap] 55)).alloc (.cells (Array.replicate 41 (.bool false)) 109)) l A cap 0 :=
  ⟨by rw [marksV_zero]; exact Blk.new' (by simp), by simp, ((Only.refl _ w).alloc _).alloc _, (Blk.new w _ _).alloc _⟩
theorem PM.nob {w wr W : World} {l : List PIns} {A : Option Addr} {cap k : Nat} (h : PM w wr l A cap k) (ho : Only Nob wr W) : PM w W l A cap k := ⟨h.marks.only ho (fun h => h), h.well, h.only.trans ho, h.box.only ho (fun h => h)⟩

theorem may_c40 {op a b c n : Int} (h : mayB op a b c n = true) : 0 ≤ c ∧ c ≤ 40 := by
  unfold mayB at h
  simp only [Bool.and_eq_true] at h
  obtain ⟨⟨⟨⟨h1, h2⟩, h3⟩, h4⟩, h5⟩ := h
  obtain ⟨c1, c2⟩ : 0 ≤ c ∧ c ≤ fCh op := by simpa [fitsB] using h4
  have c4 : fCh op ≤ 40 := by unfold fCh; (repeat' split) <;> omega
  exact ⟨c1, by omega⟩
theorem PM.next {w wr W : World} {l : List PIns} {A : Option Addr} {cap k : Nat} {x : PIns} (h : PM w wr l A cap k) (hb : Blk W (w.heap.size + 1) 109 (marksV l (k + 1))) (ho : Only (fun i => i = w.heap.size + 1) wr W) (ht : l.take (k + 1) = l.take k ++ [x]) (hx : illP l.length x = false) : PM w W l A cap (k + 1) := by
  refine ⟨hb, ?_, Only.after h.only ho (fun i hi => .inr (by omega)), h.box.only ho (by omega)⟩
  intro y hy
  rw [ht] at hy
  rcases List.mem_append.1 hy with h1 | h1
  · exact h.well y h1
  · simp at h1
    subst h1
    exact hx
theorem print_well {l : List PIns} (h40 : ¬ 40 < l.length) (h : ∀ x ∈ l, illP l.length x = false) : printP l = linesOfP l 0 l := by
  unfold printP
  rw [if_neg h40, if_neg]
  intro e
  rw [List.any_eq_true] at e
  obtain ⟨x, hx, hi⟩ := e
  rw [h x hx] at hi
  cases hi
/-- Between two rounds of the second loop: the builder at bb holds t. -/
structure PQ (w : World) (bb : Nat) (wq : World) (l : List PIns) (A : Option Addr) (cap k : Nat) (t : List UInt8) : Prop where
  built : BuiltAt wq bb t
  marks : Blk wq (w.heap.size + 1) 109 (marksV l l.length)
  box : Blk wq w.heap.size 55 #[.slice A l.length cap]
  only : Only Nob w wq
  eq : printP l = t ++ linesOfP l k (l.drop k)
  short : t.length ≤ 200 * k
  far : w.heap.size + 1 < bb
  lt : bb < wq.heap.size
theorem PQ.start {w wr : World} {l : List PIns} {A : Option Addr} {cap : Nat} (h : PM w wr l A cap l.length) (h40 : ¬ 40 < l.length) : PQ w wr.heap.size (wr.alloc (.cells #[.pointer none, .slice none 0 0] 113)) l A cap 0 [] := by
  have hw := h.well
  rw [List.take_length] at hw
  exact ⟨BuiltAt.new wr, h.marks.alloc _, h.box.alloc _, h.only.alloc _, by rw [print_well h40 hw]; rfl, Nat.zero_le _, h.marks.lt, by simp⟩
theorem BuiltAt.lt {w : World} {b : Nat} {l : List UInt8} (h : BuiltAt w b l) : b < w.heap.size := by
  rcases h with h | h
  · exact h.lt
  · exact h.lt
/-- A writer's frame, on what Print stands on. -/
theorem Wrote.only {w wq W : World} {bb : Nat} (h : Wrote wq W bb) (ho : Only Nob w wq) (hb : w.heap.size ≤ bb) : Only Nob w W :=
  Only.after ho (Only.of_below (S := fun i => bb ≤ i) h.1 (fun k _ hk => hk)) (fun i hi => .inr (Nat.le_trans hb hi))
theorem Wrote.only2 {w wq W : World} {bb : Nat} (h : Below bb wq W) (ho : Only Nob w wq) (hb : w.heap.size ≤ bb) : Only Nob w W :=
  Only.after ho (Only.of_below (S := fun i => bb ≤ i) h (fun k _ hk => hk)) (fun i hi => .inr (Nat.le_trans hb hi))
theorem Wrote.blk {wq W : World} {bb g : Nat} {t : TypeId} {cs : Array Value} (h : Wrote wq W bb) (hk : Blk wq g t cs) (hg : g ≠ bb) (ht : t ≠ 5) : Blk W g t cs :=
  h.2 g _ hk (fun e => hg (by injection e)) (fun c fz e => by injection e with _ e2; exact ht e2)
end Go.Proofs.YtngahgfppbjebaaDoor
