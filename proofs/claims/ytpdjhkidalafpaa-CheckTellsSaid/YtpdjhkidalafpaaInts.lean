/-
  Blocks of ints, and how they turn.
-/
import Derived.Test.YtpdjhkidalafpaaWrong
import Derived.Deep.OwnRows
namespace Go.Proofs.Ytpdjhkidalafpaa
open Go.RowKit

/-- A block of ints that is known whole. -/
def IntBlk (w : World) (g : Nat) (l : List Int) : Prop := Blk w g 3 (ints l).toArray
section
variable {w w' : World} {g : Nat} {l : List Int}
theorem IntBlk.lt (h : IntBlk w g l) : g < w.heap.size := Blk.lt h
theorem IntBlk.cell (h : IntBlk w g l) {k : Nat} {x : Int} (hk : l[k]? = some x) : w.cell? ⟨g, k, none⟩ = some (.int .i64 x) := by
  rw [Blk.cell h k]
  simp [ints, hk]
theorem IntBlk.cellD (h : IntBlk w g l) {k : Nat} (d : Int) (hk : k < l.length) : w.cell? ⟨g, k, none⟩ = some (.int .i64 (l.getD k d)) :=
  h.cell (by rw [List.getD_eq_getElem?_getD, List.getElem?_eq_getElem hk]; rfl)
theorem IntBlk.frozen (h : IntBlk w g l) (k : Nat) : w.frozen? ⟨g, k, none⟩ = false := Blk.frozen h k
theorem IntBlk.alloc (h : IntBlk w g l) (o : Obj) : IntBlk (w.alloc o) g l := Blk.alloc h o
theorem IntBlk.drew (h : IntBlk w g l) : IntBlk w.drew g l := h
theorem IntBlk.drewN (h : IntBlk w g l) (n : Nat) : IntBlk (w.drewN n) g l := h
theorem IntBlk.far (h : IntBlk w g l) {p : Addr} (hp : g ≠ p.block) (u : Value) : IntBlk (w.setCell p u) g l := Blk.far h hp u
theorem IntBlk.set_ (h : IntBlk w g l) (i : Nat) (x : Int) : IntBlk (w.setCell ⟨g, i, none⟩ (.int .i64 x)) g (l.set i x) := by
  have := Blk.set_ h i (.int .i64 x)
  unfold IntBlk
  simpa [ints, List.map_set] using this
theorem IntBlk.below {B : Nat} (h : IntBlk w g l) (hb : Below B w w') (hg : g < B) : IntBlk w' g l := Blk.below h hb hg
theorem IntBlk.only {S : Nat → Prop} (h : IntBlk w g l) (hb : Only S w w') (hg : ¬ S g) : IntBlk w' g l := Blk.only h hb hg
end
theorem made_ints (n : Nat) : madeCells #[.int .i64 0] n = (ints (List.replicate n 0)).toArray := by
  apply Array.ext'
  simp [madeCells, ints]
  apply List.ext_getElem?
  intro i
  simp [List.getElem?_replicate]
  by_cases h : i < n
  · simp [h, Nat.mod_one]
  · simp [h]
theorem IntBlk.made (w : World) (n : Nat) : IntBlk (w.alloc (.cells (madeCells #[.int .i64 0] n) 3)) w.heap.size (List.replicate n 0) := by
  rw [made_ints]
  exact Blk.new w _ _

theorem Stack.far {w : World} {base : Nat} {v : Value} {st : List Int} (h : Stack w base v st) {p : Addr} (hp : p.block < base) (u : Value) : Stack (w.setCell p u) base v st := by
  refine ⟨h.1, ?_⟩
  rcases h.2 with h1 | ⟨g, cap, cur, hv, hg, hh, r⟩
  · exact .inl h1
  · exact .inr ⟨g, cap, cur, hv, hg, (Below.heap_setCell w p u g (by omega)).trans hh, r⟩
theorem ProgIn.alloc {w : World} {B : Nat} {A : Option Addr} {l : List PIns} (h : ProgIn w B A l) (hB : B ≤ w.heap.size) (o : Obj) : ProgIn (w.alloc o) B A l := h.keep (Below.alloc (Below.refl _ _) hB o)

/-- The regions that are known ahead of the k-th instruction. -/
def regs (l : List PIns) (k : Nat) : List Int := (List.range l.length).map fun i => if i < k then regAt l i else 0
theorem regs_zero (l : List PIns) : regs l 0 = List.replicate l.length 0 := by
  apply List.ext_getElem?
  intro i
  simp [regs, List.getElem?_replicate]
  by_cases h : i < l.length
  · simp [h, List.getElem?_range]
  · simp [h]
theorem regs_step (l : List PIns) (k : Nat) : (regs l k).set k (regAt l k) = regs l (k + 1) := by
  apply List.ext_getElem?
  intro i
  simp only [regs, List.getElem?_set, List.length_map, List.length_range, List.getElem?_map]
  by_cases h : i < l.length
  · simp only [List.getElem?_range h, Option.map_some]
    by_cases hk : k = i
    · subst hk; simp [h]
    · rw [if_neg hk]
      congr 1
      by_cases h2 : i < k
      · rw [if_pos h2, if_pos (by omega)]
      · rw [if_neg h2, if_neg (by omega)]
  · have : (List.range l.length)[i]? = none := by simp; omega
    rw [this]
    by_cases hk : k = i
    · subst hk; simp [h]
    · rw [if_neg hk]; rfl
theorem regs_full (l : List PIns) : regs l l.length = regionsP l := by
  unfold regs regionsP
  apply List.map_congr_left
  intro i hi
  rw [if_pos (by simpa using hi)]
theorem regs_len (l : List PIns) (k : Nat) : (regs l k).length = l.length := by simp [regs]
theorem regionsP_len (l : List PIns) : (regionsP l).length = l.length := by simp [regionsP]
theorem regionsP_at {l : List PIns} {k : Nat} (h : k < l.length) : (regionsP l)[k]? = some (regAt l k) := by
  simp [regionsP, h, List.getElem?_range]
end Go.Proofs.Ytpdjhkidalafpaa
