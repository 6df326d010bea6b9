/-
  Two rows that grow: the appends of what is drawn, as one step each.
  The draws' Prog: the code of one round.
  The draws' Prog: small lemmas for the ways through a round.
-/
import Derived.Test.YtngahgfppbjebaaDoorGrpMakeLaw
import Derived.Deep.CutRange
import Derived.Deep.CutBlock
import Derived.Deep.DeepCutAuto
import Derived.Deep.RegionLaw
import Derived.Deep.RegionHeld3
import Derived.IntWalk
namespace Go.Proofs.YtngahgfppbjebaaDoor
open Go.RowKit
set_option linter.unusedVariables false
set_option linter.unusedSimpArgs false

theorem reads1 {W : World} {G : Nat} (x : PIns) (t : TypeId) (h : W.heap.size = G) : Reads (W.alloc (.cells #[.int .i64 x.op, .int .i64 x.a, .int .i64 x.b, .int .i64 x.c, .int .u64 x.n] t)) (G + 1) 5 (some ⟨G, 0, none⟩) 1 (insCells x) := by
  subst h
  exact reads_ins W x t
theorem reads2 {W : World} {G : Nat} (x y : PIns) (t : TypeId) (h : W.heap.size = G) :
    Reads (W.alloc (.cells #[.int .i64 x.op, .int .i64 x.a, .int .i64 x.b, .int .i64 x.c, .int .u64 x.n, .int .i64 y.op, .int .i64 y.a, .int .i64 y.b, .int .i64 y.c, .int .u64 y.n] t)) (G + 1) 5 (some ⟨G, 0, none⟩) 2 (insCells x ++ insCells y) := by
  subst h
  have h := Reads.of_blk (size := 5) (n := 2) (Blk.new W t #[.int .i64 x.op, .int .i64 x.a, .int .i64 x.b, .int .i64 x.c, .int .u64 x.n, .int .i64 y.op, .int .i64 y.a, .int .i64 y.b, .int .i64 y.c, .int .u64 y.n]) rfl
  rw [World.size_alloc] at h
  exact h
theorem readsI {W : World} {G : Nat} (x : Int) (t : TypeId) (h : W.heap.size = G) : Reads (W.alloc (.cells #[.int .i64 x] t)) (G + 1) 1 (some ⟨G, 0, none⟩) 1 [.int .i64 x] := by
  subst h
  exact reads_int W x t
theorem ins_two (x y : PIns) : ∀ u ∈ insCells x ++ insCells y, u.oneCell' = true := by
  intro u hu
  rcases List.mem_append.1 hu with h | h
  · exact ins_one x u h
  · exact ins_one y u h
theorem PRow.push2 {w' : World} {base : Nat} {v' : Value} {l : List PIns} {x y : PIns} (h : w'.ownsRow base 60 5 v' (l.length + 2) (progCells l ++ (insCells x ++ insCells y))) : PRow w' base v' (l ++ [x, y]) := by
  unfold PRow
  rw [show progCells (l ++ [x, y]) = progCells l ++ (insCells x ++ insCells y) by simp [progCells], List.length_append]
  exact h
theorem Stack.slice {w : World} {base : Nat} {u : Value} {st : List Int} (h : Stack w base u st) : ∃ C cap, u = .slice C st.length cap := by
  rcases h.form with ⟨rfl, rfl⟩ | ⟨g, cap, rfl, _⟩
  · exact ⟨none, 0, rfl⟩
  · exact ⟨_, cap, rfl⟩
theorem PRow.slice {w : World} {base : Nat} {v : Value} {l : List PIns} (h : PRow w base v l) : ∃ A cap, v = .slice A l.length cap := by
  obtain ⟨A, cap, hv, _⟩ := h.lies
  exact ⟨A, cap, hv⟩

/-- What holds in the loop over the draws. -/
structure Making (w0 wr : World) (base : Nat) (v u : Value) (l : List PIns) (st : List Int) : Prop where
  row : PRow wr base v l
  stack : Stack wr base u st
  apart : Apart v u
  below : Below base w0 wr
  size : base ≤ wr.heap.size
/-- Behind an append of instructions. -/
theorem Making.more {w0 wr w2 w3 : World} {base : Nat} {v v' u : Value} {l l' : List PIns} {st : List Int} (h : Making w0 wr base v u l st) (ho : Only Nob wr w2) (hg : w2.grownBy w3 v.ownBlock) (hv : v'.ownBlock = v.ownBlock ∨ v'.ownBlock = some w2.heap.size)
    (hr : PRow w3 base v' l') : Making w0 w3 base v' u l' st := by
  obtain ⟨h7, h8⟩ := grown_stack (v' := v') hg (h.stack.only ho) h.apart hv
  have hb2 : Below base wr w2 := below_nob ho h.size
  have hb3 : Below base w2 w3 := PRow.grown (h.row.nob ho) hg (Nat.le_trans h.size ho.size)
  exact ⟨hr, h7, h8, h.below.trans (hb2.trans hb3), Nat.le_trans (Nat.le_trans h.size ho.size) hb3.size⟩
theorem Making.push {w0 wr w2 w3 : World} {base : Nat} {v u u' : Value} {l : List PIns} {st st' : List Int} (h : Making w0 wr base v u l st) (ho : Only Nob wr w2) (hg : w2.grownBy w3 u.ownBlock) (hu : u'.ownBlock = u.ownBlock ∨ u'.ownBlock = some w2.heap.size)
    (hr : Stack w3 base u' st') : Making w0 w3 base v u' l st' := by
  obtain ⟨h7, h8⟩ := grown_prow (u' := u') hg (h.row.nob ho) h.apart hu
  have hb2 : Below base wr w2 := below_nob ho h.size
  have hb3 : Below base w2 w3 := Stack.grown (h.stack.only ho) hg (Nat.le_trans h.size ho.size)
  exact ⟨h7, hr, h8, h.below.trans (hb2.trans hb3), Nat.le_trans (Nat.le_trans h.size ho.size) hb3.size⟩

theorem progCells_one (x : PIns) : progCells [x] = insCells x := by simp [progCells]
theorem progCells_two (x y : PIns) : progCells [x, y] = insCells x ++ insCells y := by simp [progCells]
theorem readsP1 {W : World} {G : Nat} (x : PIns) (t : TypeId) (h : W.heap.size = G) : Reads (W.alloc (.cells #[.int .i64 x.op, .int .i64 x.a, .int .i64 x.b, .int .i64 x.c, .int .u64 x.n] t)) (G + 1) 5 (some ⟨G, 0, none⟩) 1 (progCells [x]) := by
  rw [progCells_one]
  exact reads1 x t h
theorem readsP2 {W : World} {G : Nat} (x y : PIns) (t : TypeId) (h : W.heap.size = G) :
    Reads (W.alloc (.cells #[.int .i64 x.op, .int .i64 x.a, .int .i64 x.b, .int .i64 x.c, .int .u64 x.n, .int .i64 y.op, .int .i64 y.a, .int .i64 y.b, .int .i64 y.c, .int .u64 y.n] t)) (G + 1) 5 (some ⟨G, 0, none⟩) 2 (progCells [x, y]) := by
  rw [progCells_two]
  exact reads2 x y t h
theorem progCells_ones (l : List PIns) : ∀ u ∈ progCells l, u.oneCell' = true := by
  intro u hu
  obtain ⟨x, _, h⟩ := List.mem_flatMap.1 hu
  exact ins_one x u h
theorem PRow.pushes {w' : World} {base n : Nat} {v' : Value} {l news : List PIns} (hn : n = news.length) (h : w'.ownsRow base 60 5 v' (l.length + n) (progCells l ++ progCells news)) : PRow w' base v' (l ++ news) := by
  subst hn
  unfold PRow
  rw [show progCells (l ++ news) = progCells l ++ progCells news by simp [progCells], List.length_append]
  exact h

section
variable {w0 wr w : World} {base : Nat} {v u : Value} {l : List PIns} {st : List Int}
/-- An append of instructions that lie in a new block. -/
theorem wp_pushI {o : Oper} {a : Act} {K : Act → World → Prop} {Q : Exit → Act → World → Prop} (s x : Operand)
    (ho : o.op = .call { callee := .builtin .append, args := #[s, x], argTypes := #[53, 53] })
    (hm : Making w0 wr base v u l st) (hon : Only Nob wr w) (news : List PIns) {G cnt : Nat} (hr : Reads w (G + 1) 5 (some ⟨G, 0, none⟩) cnt (progCells news)) (hc : cnt = news.length)
    (hs : a.eval s = v) (hx : a.eval x = .slice (some ⟨G, 0, none⟩) cnt cnt) (hlen : l.length + cnt ≤ 1000)
    (h : ∀ A' cap' w', Making w0 w' base (.slice A' (l.length + cnt) cap') u (l ++ news) st → wr.heap.size ≤ w'.heap.size → K (a.put o.dst (.slice A' (l.length + cnt) cap')) w') : o.wp Tryd.prog a w K Q := by
  obtain ⟨i0, hi, hz0, hz1, hz2⟩ := info_parts infoIns
  refine wp_append_any _ s x 53 ho base 60 i0 (.agg #[.int .i64 0, .int .i64 0, .int .i64 0, .int .i64 0, .int .u64 0]) 5 40 Tryd.underlying53 hi hz0 hz1 hz2 rfl (by decide) v l.length (progCells l) hs (hm.row.nob hon) (G + 1) (some ⟨G, 0, none⟩) cnt cnt (progCells news) hx hr (progCells_ones news)
    (by unfold maxLen; omega) (by omega) (Nat.le_trans hm.size hon.size) ?_
  intro v' w' hown hgrow hblk
  have hrow : PRow w' base v' (l ++ news) := PRow.pushes hc hown
  have hmk := hm.more hon hgrow hblk hrow
  obtain ⟨A', cap', hv⟩ := hrow.slice
  rw [List.length_append, ← hc] at hv
  subst hv
  exact h A' cap' w' hmk (Nat.le_trans hon.size hgrow.size)
theorem wpList_pushI {ops : Array Oper} {rest : List Oper} {o : Oper} {a : Act} {Q : Exit → Act → World → Prop} (hgd : o.guard = none) (s x : Operand)
    (ho : o.op = .call { callee := .builtin .append, args := #[s, x], argTypes := #[53, 53] })
    (hm : Making w0 wr base v u l st) (hon : Only Nob wr w) (news : List PIns) {G cnt : Nat} (hr : Reads w (G + 1) 5 (some ⟨G, 0, none⟩) cnt (progCells news)) (hc : cnt = news.length)
    (hs : a.eval s = v) (hx : a.eval x = .slice (some ⟨G, 0, none⟩) cnt cnt) (hlen : l.length + cnt ≤ 1000)
    (h : ∀ A' cap' w', Making w0 w' base (.slice A' (l.length + cnt) cap') u (l ++ news) st → wr.heap.size ≤ w'.heap.size → wpList Tryd.prog ops Q rest (a.put o.dst (.slice A' (l.length + cnt) cap')) w') : wpList Tryd.prog ops Q (o :: rest) a w :=
  wpList_plain hgd fun _ hK => wp_pushI s x ho hm hon news hr hc hs hx hlen fun A' cap' w' h1 h2 => hK _ _ (h A' cap' w' h1 h2)
theorem step_pushI {ops : Array Oper} {o : Oper} {a : Act} {K : Act → World → Prop} {Q : Exit → Act → World → Prop} {E : Prop} (hgd : o.guard = none) (s x : Operand)
    (ho : o.op = .call { callee := .builtin .append, args := #[s, x], argTypes := #[53, 53] })
    (hm : Making w0 wr base v u l st) (hon : Only Nob wr w) (news : List PIns) {G cnt : Nat} (hr : Reads w (G + 1) 5 (some ⟨G, 0, none⟩) cnt (progCells news)) (hc : cnt = news.length)
    (hs : a.eval s = v) (hx : a.eval x = .slice (some ⟨G, 0, none⟩) cnt cnt) (hlen : l.length + cnt ≤ 1000)
    (h : ∀ A' cap' w', Making w0 w' base (.slice A' (l.length + cnt) cap') u (l ++ news) st → wr.heap.size ≤ w'.heap.size → K (a.put o.dst (.slice A' (l.length + cnt) cap')) w') :
    if Region.wanted o (yielded ops a.tmps) = true then Oper.wp Tryd.prog o a w K Q else E := by
  have hw : Region.wanted o (yielded ops a.tmps) = true := by simp [Region.wanted, hgd]
  rw [if_pos hw]
  exact wp_pushI s x ho hm hon news hr hc hs hx hlen h
/-- An append of what is opened. -/
theorem wpList_pushO {ops : Array Oper} {rest : List Oper} {o : Oper} {a : Act} {Q : Exit → Act → World → Prop} (hgd : o.guard = none) (s x : Operand)
    (ho : o.op = .call { callee := .builtin .append, args := #[s, x], argTypes := #[121, 121] })
    (hm : Making w0 wr base v u l st) (hon : Only Nob wr w) (k : Int) {G : Nat} (hr : Reads w (G + 1) 1 (some ⟨G, 0, none⟩) 1 [.int .i64 k])
    (hs : a.eval s = u) (hx : a.eval x = .slice (some ⟨G, 0, none⟩) 1 1) (hlen : st.length ≤ 1000)
    (h : ∀ A' cap' w', Making w0 w' base v (.slice A' (st.length + 1) cap') l (k :: st) → wr.heap.size ≤ w'.heap.size → wpList Tryd.prog ops Q rest (a.put o.dst (.slice A' (st.length + 1) cap')) w') : wpList Tryd.prog ops Q (o :: rest) a w := by
  obtain ⟨j0, hj, hy0, hy1, hy2⟩ := info_parts infoInt
  refine wpList_append_any _ hgd s x 121 ho base 3 j0 (.int .i64 0) 1 8 Tryd.underlying121 hj hy0 hy1 hy2 rfl (by decide) u st.length (ints st.reverse) hs (hm.stack.only hon) (G + 1) (some ⟨G, 0, none⟩) 1 1 [.int .i64 k] hx hr (by simp [Value.oneCell'])
    (by unfold maxLen; omega) (by omega) (Nat.le_trans hm.size hon.size) ?_
  intro v' w' hown hgrow hblk
  have hst : Stack w' base v' (k :: st) := Stack.push hown
  have hmk := hm.push hon hgrow hblk hst
  obtain ⟨A', cap', hv⟩ := hst.slice
  rw [List.length_cons] at hv
  subst hv
  exact h A' cap' w' hmk (Nat.le_trans hon.size hgrow.size)
end
theorem simple_lit (op a b c n : Int) (w : World) (hn : 0 ≤ n ∧ n ≤ 18446744073709551615) :
    Calls Tryd.prog 65 #[.agg #[.int .i64 op, .int .i64 a, .int .i64 b, .int .i64 c, .int .u64 n]] w fun e w' =>
      e = .returned (.agg #[.int .i64 (simpleP ⟨op, a, b, c, n⟩).op, .int .i64 (simpleP ⟨op, a, b, c, n⟩).a, .int .i64 (simpleP ⟨op, a, b, c, n⟩).b, .int .i64 (simpleP ⟨op, a, b, c, n⟩).c, .int .u64 (simpleP ⟨op, a, b, c, n⟩).n]) ∧ Only Nob w w' :=
  simple_any ⟨op, a, b, c, n⟩ w hn

theorem len_weight (st : List Int) : st.length ≤ weight st := by
  induction st with
  | nil => exact Nat.le_refl _
  | cons x r ih =>
    simp only [weight, List.length_cons]
    split <;> omega

def MakePost (w : World) (l : List PIns) (e : Ending) (w' : World) : Prop := ∃ v, e = .returned (.agg #[v]) ∧ PRow w' (w.heap.size + 1) v l ∧ Only Nob w w'
end Go.Proofs.YtngahgfppbjebaaDoor
namespace Go.Proofs.YtngahgfppbjebaaDoor
open Go.RowKit
set_option linter.unusedVariables false
set_option linter.unusedSimpArgs false

/-- The first loop's body in a code. -/
def firstLoop : Code → Option Code
  | .loop c => some c
  | .seq a b => match firstLoop a with
    | some c => some c
    | none => firstLoop b
  | .block _ c => firstLoop c
  | .scope c => firstLoop c
  | .cond _ a b => match firstLoop a with
    | some c => some c
    | none => firstLoop b
  | _ => none
noncomputable def mkBody : Code := ((Tryd.f37.body.bind firstLoop).getD .skip)
end Go.Proofs.YtngahgfppbjebaaDoor
namespace Go.Proofs.YtngahgfppbjebaaDoor
open Go.RowKit
set_option linter.unusedVariables false
set_option linter.unusedSimpArgs false

theorem shut_lit (base : Nat) (v u : Value) (l : List PIns) (st : List Int) (ll sl : Nat) (w : World) (hv : PRow w base v l) (hu : Stack w base u st) (ha : Apart v u) (hne : st ≠ []) (hll : l.length = ll) (hsl : st.length = sl) (hl : ll ≤ 1000) (hs : sl ≤ 1000) (hb : base ≤ w.heap.size) :
    Calls Tryd.prog 63 #[v, u] w (RowsPost w base (shutP l st).1 (shutP l st).2) := shut_any base v u l st w hv hu ha hne (by omega) (by omega) hb
theorem Stack.topc {w : World} {base : Nat} {C : Option Addr} {sl cap : Nat} {st : List Int} (h : Stack w base (.slice C sl cap) st) (hsl : st.length = sl) (hp : 0 < sl) :
    ∃ g x r, C = some ⟨g, 0, none⟩ ∧ st = x :: r ∧ w.cell? ⟨g, sl - 1, none⟩ = some (.int .i64 x) ∧ g < w.heap.size := by
  subst hsl
  cases st with
  | nil => simp at hp
  | cons x r =>
    rcases h.form with ⟨h0, _⟩ | ⟨g, cap', hv, _, hlt, _, _⟩
    · cases h0
    · injection hv with h1
      subst h1
      exact ⟨g, x, r, rfl, rfl, h.top (by simp), hlt⟩
end Go.Proofs.YtngahgfppbjebaaDoor
