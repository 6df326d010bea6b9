/-
  Rows in memory: programs, stacks, blocks of ints. No function in sight.
-/
import Derived.Test.YtngahgfppbjebaaDoorGrpPlain
import Derived.Test.YtngahgfppbjebaaDoorGrpWords
import Derived.Deep.OwnRows
import Derived.WalkSmall
import Derived.Outline
namespace Go.Proofs.YtngahgfppbjebaaDoor
open Go.RowKit
set_option linter.unusedVariables false
set_option linter.unusedSimpArgs false

/-- A stack as it lies in memory: the inmost last. -/
def ints (l : List Int) : List Value := l.map (Value.int .i64)
def Stack (w : World) (base : Nat) (v : Value) (st : List Int) : Prop := w.ownsRow base 3 1 v st.length (ints st.reverse)
theorem Stack.nil (w : World) (base : Nat) : Stack w base (.slice none 0 0) [] := ⟨by simp [ints], .inl ⟨rfl, rfl⟩⟩
theorem Stack.form {w : World} {base : Nat} {v : Value} {st : List Int} (h : Stack w base v st) :
    (st = [] ∧ v = .slice none 0 0) ∨ ∃ g cap, v = .slice (some ⟨g, 0, none⟩) st.length cap ∧ base ≤ g ∧ g < w.heap.size ∧ st.length ≤ cap ∧ cap ≤ maxLen := by
  rcases h.2 with ⟨h1, h2⟩ | ⟨g, cap, cur, hv, hg, hh, hn, hc, _, _⟩
  · exact .inl ⟨List.eq_nil_of_length_eq_zero h2, h1⟩
  · refine .inr ⟨g, cap, hv, hg, ?_, hn, hc⟩
    rcases Nat.lt_or_ge g w.heap.size with hlt | hge
    · exact hlt
    · rw [Array.getElem?_eq_none hge] at hh; cases hh
theorem Stack.top {w : World} {base : Nat} {g cap t : Nat} {x : Int} {st : List Int} (h : Stack w base (.slice (some ⟨g, 0, none⟩) (st.length + 1) cap) (x :: st)) (ht : t = st.length) : w.cell? ⟨g, t, none⟩ = some (.int .i64 x) := by
  subst ht
  have hc := World.ownsRow.cells h (g := g) rfl st.length (.int .i64 x) (by
    simp only [ints, List.reverse_cons, List.map_append]
    rw [List.getElem?_append_right (by simp)]
    simp)
  by_cases h0 : st.length = 0
  · simpa [Addr.add, h0] using hc
  · simpa [Addr.add, h0] using hc
theorem Stack.drew {w : World} {base : Nat} {v : Value} {st : List Int} (h : Stack w base v st) : Stack w.drew base v st := h
theorem Stack.keep {w w' : World} {base : Nat} {v : Value} {st : List Int} (h : Stack w base v st) (hb : Below w.heap.size w w') : Stack w' base v st := by
  refine ⟨h.1, ?_⟩
  rcases h.2 with h1 | ⟨g, cap, cur, hv, hg, hh, r⟩
  · exact .inl h1
  · refine .inr ⟨g, cap, cur, hv, hg, (hb.block g ?_).trans hh, r⟩
    rcases Nat.lt_or_ge g w.heap.size with hlt | hge
    · exact hlt
    · rw [Array.getElem?_eq_none hge] at hh; cases hh
theorem Stack.alloc {w : World} {base : Nat} {v : Value} {st : List Int} (h : Stack w base v st) (o : Obj) : Stack (w.alloc o) base v st :=
  h.keep (Only.new (Only.alloc (Only.refl _ _) o))
theorem Stack.only {w w' : World} {base : Nat} {v : Value} {st : List Int} (h : Stack w base v st) (hb : Only Nob w w') : Stack w' base v st := h.keep hb.new

/-- Here lies an instruction. -/
def InsAt (w : World) (b o : Nat) (x : PIns) : Prop :=
  w.cell? ⟨b, o, none⟩ = some (.int .i64 x.op) ∧ w.cell? ⟨b, o + 1, none⟩ = some (.int .i64 x.a) ∧ w.cell? ⟨b, o + 2, none⟩ = some (.int .i64 x.b) ∧ w.cell? ⟨b, o + 3, none⟩ = some (.int .i64 x.c) ∧ w.cell? ⟨b, o + 4, none⟩ = some (.int .u64 x.n)
/-- A slice of instructions. -/
def ProgIn (w : World) (B : Nat) (A : Option Addr) (l : List PIns) : Prop :=
  l ≠ [] → ∃ b o, A = some ⟨b, o, none⟩ ∧ b < B ∧ ∀ k x, l[k]? = some x → InsAt w b (o + k * 5) x
theorem InsAt.keep {w w' : World} {B b o : Nat} {x : PIns} (h : InsAt w b o x) (hb : Below B w w') (hlt : b < B) : InsAt w' b o x := by
  obtain ⟨h0, h1, h2, h3, h4⟩ := h
  exact ⟨(hb.cell hlt).trans h0, (hb.cell hlt).trans h1, (hb.cell hlt).trans h2, (hb.cell hlt).trans h3, (hb.cell hlt).trans h4⟩
theorem ProgIn.keep {w w' : World} {B : Nat} {A : Option Addr} {l : List PIns} (h : ProgIn w B A l) (hb : Below B w w') : ProgIn w' B A l := by
  intro hl
  obtain ⟨b, o, hA, hlt, hi⟩ := h hl
  exact ⟨b, o, hA, hlt, fun k x hx => (hi k x hx).keep hb hlt⟩
theorem ProgIn.more {w : World} {B B' : Nat} {A : Option Addr} {l : List PIns} (h : ProgIn w B A l) (hB : B ≤ B') : ProgIn w B' A l := by
  intro hl
  obtain ⟨b, o, hA, hlt, hi⟩ := h hl
  exact ⟨b, o, hA, Nat.lt_of_lt_of_le hlt hB, hi⟩
theorem ProgIn.at_ {w : World} {B : Nat} {A : Option Addr} {l : List PIns} (h : ProgIn w B A l) {k : Nat} (hk : k < l.length) :
    ∃ b o, A = some ⟨b, o, none⟩ ∧ b < B ∧ InsAt w b (o + k * 5) (l.getD k PIns.none) := by
  obtain ⟨b, o, hA, hlt, hi⟩ := h (by intro e; subst e; simp at hk)
  refine ⟨b, o, hA, hlt, hi k _ ?_⟩
  rw [List.getD_eq_getElem?_getD, List.getElem?_eq_getElem hk]
  rfl
theorem ProgIn.drew {w : World} {B : Nat} {A : Option Addr} {l : List PIns} (h : ProgIn w B A l) : ProgIn w.drew B A l := h
theorem below_of_only {S : Nat → Prop} {w w' : World} {B : Nat} (h : Only S w w') (hB : B ≤ w.heap.size) (hs : ∀ k, S k → B ≤ k) : Below B w w' := h.below hB hs
theorem below_nob {w w' : World} {B : Nat} (h : Only Nob w w') (hB : B ≤ w.heap.size) : Below B w w' := h.below hB (fun _ h => h.elim)

theorem infoInt : (Tryd.prog.info? 3).map (fun i => (i.zero, i.size, i.bytes)) = some (some (.int .i64 0), 1, 8) := by kernel_rfl

theorem below_grown {w w' : World} {base : Nat} {v : Value} {n : Nat} {xs : List Value} (h : w.ownsRow base 3 1 v n xs) (hg : w.grownBy w' v.ownBlock) (hb : base ≤ w.heap.size) : Below base w w' := by
  refine (Only.of_grown (S := fun k => base ≤ k) hg ?_).below hb (fun k h => h)
  intro k hk _
  rcases h.2 with ⟨h1, _⟩ | ⟨g, cap, cur, hv, hg', _⟩
  · subst h1
    simp [Value.ownBlock] at hk
  · subst hv
    simp [Value.ownBlock] at hk
    omega

theorem Stack.push {w' : World} {base : Nat} {v' : Value} {st : List Int} {i : Int} (h : w'.ownsRow base 3 1 v' (st.length + 1) (ints st.reverse ++ [.int .i64 i])) : Stack w' base v' (i :: st) := by
  unfold Stack
  simpa [ints] using h
theorem Stack.pop {w : World} {base g cap : Nat} {x : Int} {st : List Int} (h : Stack w base (.slice (some ⟨g, 0, none⟩) (st.length + 1) cap) (x :: st)) : Stack w base (.slice (some ⟨g, 0, none⟩) st.length cap) st := by
  unfold Stack at h ⊢
  have h' : w.ownsRow base 3 1 (.slice (some ⟨g, 0, none⟩) (st.length + 1) cap) (st.length + 1) (ints st.reverse ++ [.int .i64 x]) := by simpa [ints] using h
  exact ownsRow_pop (by simp [ints]) h'
theorem Below.alloc' {w w' : World} {B : Nat} (h : Below B w w') (hB : B ≤ w'.heap.size) (o : Obj) : Below B w (w'.alloc o) := h.alloc hB o

theorem Stack.drewN {w : World} {base : Nat} {v : Value} {st : List Int} (h : Stack w base v st) (n : Nat) : Stack (w.drewN n) base v st := h
theorem ProgIn.drewN {w : World} {B : Nat} {A : Option Addr} {l : List PIns} (h : ProgIn w B A l) (n : Nat) : ProgIn (w.drewN n) B A l := h
theorem Blk.one {w : World} {g : Nat} {t : TypeId} {v0 : Value} (h : Blk w g t #[v0]) : w.cell? ⟨g, 0, none⟩ = some v0 := h.cell 0
theorem Blk.five {w : World} {g : Nat} {t : TypeId} {v0 v1 v2 v3 v4 : Value} (h : Blk w g t #[v0, v1, v2, v3, v4]) :
    w.cell? ⟨g, 0, none⟩ = some v0 ∧ w.cell? ⟨g, 1, none⟩ = some v1 ∧ w.cell? ⟨g, 2, none⟩ = some v2 ∧ w.cell? ⟨g, 3, none⟩ = some v3 ∧ w.cell? ⟨g, 4, none⟩ = some v4 :=
  ⟨h.cell 0, h.cell 1, h.cell 2, h.cell 3, h.cell 4⟩

/-- A block of ints that is known whole. -/
def IntBlk (w : World) (g : Nat) (l : List Int) : Prop := Blk w g 3 (ints l).toArray
section
variable {w w' : World} {g : Nat} {l : List Int}
theorem IntBlk.lt (h : IntBlk w g l) : g < w.heap.size := Blk.lt h
theorem IntBlk.cell (h : IntBlk w g l) {k : Nat} {x : Int} (hk : l[k]? = some x) : w.cell? ⟨g, k, none⟩ = some (.int .i64 x) := by
  rw [Blk.cell h k]
  simp [ints, hk]
theorem IntBlk.cellD (h : IntBlk w g l) {k : Nat} (d : Int) (hk : k < l.length) : w.cell? ⟨g, k, none⟩ = some (.int .i64 (l.getD k d)) :=
  h.cell (by rw [List.getD_eq_getElem?_getD, List.getElem?_eq_getElem hk]; rfl)
theorem IntBlk.frozen (h : IntBlk w g l) (k : Nat) : w.frozen? ⟨g, k, none⟩ = false := Blk.frozen h k
theorem IntBlk.alloc (h : IntBlk w g l) (o : Obj) : IntBlk (w.alloc o) g l := Blk.alloc h o
theorem IntBlk.drew (h : IntBlk w g l) : IntBlk w.drew g l := h
theorem IntBlk.drewN (h : IntBlk w g l) (n : Nat) : IntBlk (w.drewN n) g l := h
theorem IntBlk.far (h : IntBlk w g l) {p : Addr} (hp : g ≠ p.block) (u : Value) : IntBlk (w.setCell p u) g l := Blk.far h hp u
theorem IntBlk.set_ (h : IntBlk w g l) (i : Nat) (x : Int) : IntBlk (w.setCell ⟨g, i, none⟩ (.int .i64 x)) g (l.set i x) := by
  have := Blk.set_ h i (.int .i64 x)
  unfold IntBlk
  simpa [ints, List.map_set] using this
theorem IntBlk.below {B : Nat} (h : IntBlk w g l) (hb : Below B w w') (hg : g < B) : IntBlk w' g l := Blk.below h hb hg
theorem IntBlk.only {S : Nat → Prop} (h : IntBlk w g l) (hb : Only S w w') (hg : ¬ S g) : IntBlk w' g l := Blk.only h hb hg
end
theorem made_ints (n : Nat) : madeCells #[.int .i64 0] n = (ints (List.replicate n 0)).toArray := by
  apply Array.ext'
  simp [madeCells, ints]
  apply List.ext_getElem?
  intro i
  simp [List.getElem?_replicate]
  by_cases h : i < n
  · simp [h, Nat.mod_one]
  · simp [h]
theorem IntBlk.made (w : World) (n : Nat) : IntBlk (w.alloc (.cells (madeCells #[.int .i64 0] n) 3)) w.heap.size (List.replicate n 0) := by
  rw [made_ints]
  exact Blk.new w _ _

theorem Stack.far {w : World} {base : Nat} {v : Value} {st : List Int} (h : Stack w base v st) {p : Addr} (hp : p.block < base) (u : Value) : Stack (w.setCell p u) base v st := by
  refine ⟨h.1, ?_⟩
  rcases h.2 with h1 | ⟨g, cap, cur, hv, hg, hh, r⟩
  · exact .inl h1
  · exact .inr ⟨g, cap, cur, hv, hg, (Below.heap_setCell w p u g (by omega)).trans hh, r⟩
theorem ProgIn.alloc {w : World} {B : Nat} {A : Option Addr} {l : List PIns} (h : ProgIn w B A l) (hB : B ≤ w.heap.size) (o : Obj) : ProgIn (w.alloc o) B A l := h.keep (Below.alloc (Below.refl _ _) hB o)

def insCells (x : PIns) : List Value := [.int .i64 x.op, .int .i64 x.a, .int .i64 x.b, .int .i64 x.c, .int .u64 x.n]
def progCells (l : List PIns) : List Value := l.flatMap insCells
theorem progCells_at (l : List PIns) (k j : Nat) (x : PIns) (v : Value) (hk : l[k]? = some x) (hj : (insCells x)[j]? = some v) : (progCells l)[k * 5 + j]? = some v := by
  induction l generalizing k with
  | nil => simp at hk
  | cons y r ih =>
    have hy : (insCells y).length = 5 := rfl
    have hj5 : j < 5 := by
      have : j < (insCells x).length := (List.getElem?_eq_some_iff.1 hj).1
      exact this
    cases k with
    | zero =>
      simp at hk
      subst hk
      simp only [progCells, List.flatMap_cons, Nat.zero_mul, Nat.zero_add]
      rw [List.getElem?_append_left (by rw [hy]; exact hj5)]
      exact hj
    | succ k =>
      simp only [progCells, List.flatMap_cons]
      rw [List.getElem?_append_right (by rw [hy]; omega), hy]
      have := ih k (by simpa using hk)
      rw [show (k + 1) * 5 + j - 5 = k * 5 + j by omega]
      exact this
/-- A block of instructions that is known whole. -/
theorem ProgIn.of_blk {w : World} {g : Nat} {t : TypeId} {l : List PIns} (h : Blk w g t (progCells l).toArray) : ProgIn w w.heap.size (some ⟨g, 0, none⟩) l := by
  intro _
  refine ⟨g, 0, rfl, h.lt, fun k x hx => ?_⟩
  have hc : ∀ j v, (insCells x)[j]? = some v → w.cell? ⟨g, k * 5 + j, none⟩ = some v := fun j v hj => by
    rw [h.cell]
    simpa using progCells_at l k j x v hx hj
  simp only [Nat.zero_add]
  exact ⟨hc 0 _ rfl, hc 1 _ rfl, hc 2 _ rfl, hc 3 _ rfl, hc 4 _ rfl⟩

theorem infoIns : (Tryd.prog.info? 60).map (fun i => (i.zero, i.size, i.bytes)) = some (some (.agg #[.int .i64 0, .int .i64 0, .int .i64 0, .int .i64 0, .int .u64 0]), 5, 40) := by kernel_rfl

def PRow (w : World) (base : Nat) (v : Value) (l : List PIns) : Prop := w.ownsRow base 60 5 v l.length (progCells l)
theorem progCells_len (l : List PIns) : (progCells l).length = l.length * 5 := by
  induction l with
  | nil => rfl
  | cons x r ih =>
    simp only [progCells, List.flatMap_cons, List.length_append, List.length_cons] at ih ⊢
    rw [ih]
    simp [insCells]
    omega
theorem PRow.nil (w : World) (base : Nat) : PRow w base (.slice none 0 0) [] := ⟨by simp [progCells], .inl ⟨rfl, rfl⟩⟩
theorem PRow.lies {w : World} {base : Nat} {v : Value} {l : List PIns} (h : PRow w base v l) : ∃ A cap, v = .slice A l.length cap ∧ ProgIn w w.heap.size A l := by
  rcases h.2 with ⟨h1, h2⟩ | ⟨g, cap, cur, hv, hg, hh, hn, hc, _, _⟩
  · have : l = [] := List.eq_nil_of_length_eq_zero h2
    subst this
    exact ⟨none, 0, h1, fun h => absurd rfl h⟩
  · subst hv
    have hlt : g < w.heap.size := by
      rcases Nat.lt_or_ge g w.heap.size with hlt | hge
      · exact hlt
      · rw [Array.getElem?_eq_none hge] at hh; cases hh
    have hcell := World.ownsRow.cells h (g := g) rfl
    refine ⟨_, cap, rfl, fun _ => ⟨g, 0, rfl, hlt, fun k x hx => ?_⟩⟩
    have hc : ∀ j v, (insCells x)[j]? = some v → w.cell? ⟨g, k * 5 + j, none⟩ = some v := fun j v hj => by
      have := hcell (k * 5 + j) v (progCells_at l k j x v hx hj)
      generalize k * 5 + j = n at *
      by_cases hz : n = 0
      · subst hz
        simpa [Addr.add] using this
      · simpa [Addr.add, hz] using this
    simp only [Nat.zero_add]
    exact ⟨hc 0 _ rfl, hc 1 _ rfl, hc 2 _ rfl, hc 3 _ rfl, hc 4 _ rfl⟩
theorem PRow.keepB {w w' : World} {base : Nat} {v : Value} {l : List PIns} (h : PRow w base v l) (hb : ∀ g, base ≤ g → g < w.heap.size → w'.heap[g]? = w.heap[g]?) : PRow w' base v l := by
  refine ⟨h.1, ?_⟩
  rcases h.2 with h1 | ⟨g, cap, cur, hv, hg, hh, r⟩
  · exact .inl h1
  · refine .inr ⟨g, cap, cur, hv, hg, (hb g hg ?_).trans hh, r⟩
    rcases Nat.lt_or_ge g w.heap.size with hlt | hge
    · exact hlt
    · rw [Array.getElem?_eq_none hge] at hh; cases hh
theorem PRow.only {S : Nat → Prop} {w w' : World} {base : Nat} {v : Value} {l : List PIns} (h : PRow w base v l) (ho : Only S w w') (hs : ∀ g, base ≤ g → ¬ S g) : PRow w' base v l :=
  h.keepB fun g h1 h2 => ho.block g h2 (hs g h1)
theorem PRow.nob {w w' : World} {base : Nat} {v : Value} {l : List PIns} (h : PRow w base v l) (ho : Only Nob w w') : PRow w' base v l := h.only ho (fun _ _ h => h)
theorem PRow.alloc {w : World} {base : Nat} {v : Value} {l : List PIns} (h : PRow w base v l) (o : Obj) : PRow (w.alloc o) base v l := h.nob (Only.alloc (Only.refl _ _) o)
theorem PRow.drew {w : World} {base : Nat} {v : Value} {l : List PIns} (h : PRow w base v l) : PRow w.drew base v l := h
theorem PRow.push {w' : World} {base : Nat} {v' : Value} {l : List PIns} {x : PIns} (h : w'.ownsRow base 60 5 v' (l.length + 1) (progCells l ++ insCells x)) : PRow w' base v' (l ++ [x]) := by
  unfold PRow
  rw [show progCells (l ++ [x]) = progCells l ++ insCells x by simp [progCells], List.length_append]
  exact h
theorem PRow.base {w : World} {base : Nat} {v : Value} {l : List PIns} (h : PRow w base v l) {g : Nat} (hg : v.ownBlock = some g) : base ≤ g := by
  rcases h.2 with ⟨h1, _⟩ | ⟨g', cap, cur, hv, hg', _⟩
  · subst h1
    simp [Value.ownBlock] at hg
  · subst hv
    simp [Value.ownBlock] at hg
    omega
theorem PRow.grown {w w' : World} {base : Nat} {v : Value} {l : List PIns} (h : PRow w base v l) (hg : w.grownBy w' v.ownBlock) (hb : base ≤ w.heap.size) : Below base w w' :=
  (Only.of_grown (S := fun k => base ≤ k) hg (fun k hk _ => h.base hk)).below hb (fun _ h => h)
/-- The new block of one instruction, as an append reads it. -/
theorem cell_ins_new (w : World) (x : PIns) (t : TypeId) (j : Nat) (u : Value) (hj : (insCells x)[j]? = some u) : (w.alloc (.cells #[.int .i64 x.op, .int .i64 x.a, .int .i64 x.b, .int .i64 x.c, .int .u64 x.n] t)).cell? ((⟨w.heap.size, 0, none⟩ : Addr).add j) = some u := by
  have hb := Blk.new w t #[.int .i64 x.op, .int .i64 x.a, .int .i64 x.b, .int .i64 x.c, .int .u64 x.n]
  have h := hb.cell j
  have e : (#[Value.int .i64 x.op, .int .i64 x.a, .int .i64 x.b, .int .i64 x.c, .int .u64 x.n] : Array Value)[j]? = (insCells x)[j]? := by
    rw [← Array.getElem?_toList]
    rfl
  rw [e, hj] at h
  have ha : (⟨w.heap.size, 0, none⟩ : Addr).add j = ⟨w.heap.size, j, none⟩ := by
    unfold Addr.add
    by_cases hz : j = 0
    · subst hz; rfl
    · simp [hz]
  rw [ha]
  exact h
theorem ins_one (x : PIns) : ∀ u ∈ insCells x, u.oneCell' = true := by
  intro u hu
  simp [insCells] at hu
  rcases hu with rfl | rfl | rfl | rfl | rfl <;> rfl
end Go.Proofs.YtngahgfppbjebaaDoor
