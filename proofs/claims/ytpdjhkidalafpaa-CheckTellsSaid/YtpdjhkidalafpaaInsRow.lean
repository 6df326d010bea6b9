/-
  A program that a call makes: a slice of instructions that is appended to.
-/
import Derived.Test.YtpdjhkidalafpaaLawSame
import Derived.Test.YtpdjhkidalafpaaOpenProg
namespace Go.Proofs.Ytpdjhkidalafpaa
open Go.RowKit

theorem infoIns : (Try.prog.info? 28).map (fun i => (i.zero, i.size, i.bytes)) = some (some (.agg #[.int .i64 0, .int .i64 0, .int .i64 0, .int .i64 0, .int .u64 0]), 5, 40) := by kernel_rfl

def PRow (w : World) (base : Nat) (v : Value) (l : List PIns) : Prop := w.ownsRow base 28 5 v l.length (progCells l)
theorem progCells_len (l : List PIns) : (progCells l).length = l.length * 5 := by
  induction l with
  | nil => rfl
  | cons x r ih =>
    simp only [progCells, List.flatMap_cons, List.length_append, List.length_cons] at ih ⊢
    rw [ih]
    simp [insCells]
    omega
theorem PRow.nil (w : World) (base : Nat) : PRow w base (.slice none 0 0) [] := ⟨by simp [progCells], .inl ⟨rfl, rfl⟩⟩
theorem PRow.lies {w : World} {base : Nat} {v : Value} {l : List PIns} (h : PRow w base v l) : ∃ A cap, v = .slice A l.length cap ∧ ProgIn w w.heap.size A l := by
  rcases h.2 with ⟨h1, h2⟩ | ⟨g, cap, cur, hv, hg, hh, hn, hc, _, _⟩
  · have : l = [] := List.eq_nil_of_length_eq_zero h2
    subst this
    exact ⟨none, 0, h1, fun h => absurd rfl h⟩
  · subst hv
    have hlt : g < w.heap.size := by
      rcases Nat.lt_or_ge g w.heap.size with hlt | hge
      · exact hlt
      · rw [Array.getElem?_eq_none hge] at hh; cases hh
    have hcell := World.ownsRow.cells h (g := g) rfl
    refine ⟨_, cap, rfl, fun _ => ⟨g, 0, rfl, hlt, fun k x hx => ?_⟩⟩
    have hc : ∀ j v, (insCells x)[j]? = some v → w.cell? ⟨g, k * 5 + j, none⟩ = some v := fun j v hj => by
      have := hcell (k * 5 + j) v (progCells_at l k j x v hx hj)
      generalize k * 5 + j = n at *
      by_cases hz : n = 0
      · subst hz
        simpa [Addr.add] using this
      · simpa [Addr.add, hz] using this
    simp only [Nat.zero_add]
    exact ⟨hc 0 _ rfl, hc 1 _ rfl, hc 2 _ rfl, hc 3 _ rfl, hc 4 _ rfl⟩
theorem PRow.keepB {w w' : World} {base : Nat} {v : Value} {l : List PIns} (h : PRow w base v l) (hb : ∀ g, base ≤ g → g < w.heap.size → w'.heap[g]? = w.heap[g]?) : PRow w' base v l := by
  refine ⟨h.1, ?_⟩
  rcases h.2 with h1 | ⟨g, cap, cur, hv, hg, hh, r⟩
  · exact .inl h1
  · refine .inr ⟨g, cap, cur, hv, hg, (hb g hg ?_).trans hh, r⟩
    rcases Nat.lt_or_ge g w.heap.size with hlt | hge
    · exact hlt
    · rw [Array.getElem?_eq_none hge] at hh; cases hh
theorem PRow.only {S : Nat → Prop} {w w' : World} {base : Nat} {v : Value} {l : List PIns} (h : PRow w base v l) (ho : Only S w w') (hs : ∀ g, base ≤ g → ¬ S g) : PRow w' base v l :=
  h.keepB fun g h1 h2 => ho.block g h2 (hs g h1)
theorem PRow.nob {w w' : World} {base : Nat} {v : Value} {l : List PIns} (h : PRow w base v l) (ho : Only Nob w w') : PRow w' base v l := h.only ho (fun _ _ h => h)
theorem PRow.alloc {w : World} {base : Nat} {v : Value} {l : List PIns} (h : PRow w base v l) (o : Obj) : PRow (w.alloc o) base v l := h.nob (Only.alloc (Only.refl _ _) o)
theorem PRow.drew {w : World} {base : Nat} {v : Value} {l : List PIns} (h : PRow w base v l) : PRow w.drew base v l := h
theorem PRow.push {w' : World} {base : Nat} {v' : Value} {l : List PIns} {x : PIns} (h : w'.ownsRow base 28 5 v' (l.length + 1) (progCells l ++ insCells x)) : PRow w' base v' (l ++ [x]) := by
  unfold PRow
  rw [show progCells (l ++ [x]) = progCells l ++ insCells x by simp [progCells], List.length_append]
  exact h
theorem PRow.base {w : World} {base : Nat} {v : Value} {l : List PIns} (h : PRow w base v l) {g : Nat} (hg : v.ownBlock = some g) : base ≤ g := by
  rcases h.2 with ⟨h1, _⟩ | ⟨g', cap, cur, hv, hg', _⟩
  · subst h1
    simp [Value.ownBlock] at hg
  · subst hv
    simp [Value.ownBlock] at hg
    omega
theorem PRow.grown {w w' : World} {base : Nat} {v : Value} {l : List PIns} (h : PRow w base v l) (hg : w.grownBy w' v.ownBlock) (hb : base ≤ w.heap.size) : Below base w w' :=
  (Only.of_grown (S := fun k => base ≤ k) hg (fun k hk _ => h.base hk)).below hb (fun _ h => h)
/-- The new block of one instruction, as an append reads it. -/
theorem cell_ins_new (w : World) (x : PIns) (t : TypeId) (j : Nat) (u : Value) (hj : (insCells x)[j]? = some u) : (w.alloc (.cells #[.int .i64 x.op, .int .i64 x.a, .int .i64 x.b, .int .i64 x.c, .int .u64 x.n] t)).cell? ((⟨w.heap.size, 0, none⟩ : Addr).add j) = some u := by
  have hb := Blk.new w t #[.int .i64 x.op, .int .i64 x.a, .int .i64 x.b, .int .i64 x.c, .int .u64 x.n]
  have h := hb.cell j
  have e : (#[Value.int .i64 x.op, .int .i64 x.a, .int .i64 x.b, .int .i64 x.c, .int .u64 x.n] : Array Value)[j]? = (insCells x)[j]? := by
    rw [← Array.getElem?_toList]
    rfl
  rw [e, hj] at h
  have ha : (⟨w.heap.size, 0, none⟩ : Addr).add j = ⟨w.heap.size, j, none⟩ := by
    unfold Addr.add
    by_cases hz : j = 0
    · subst hz; rfl
    · simp [hz]
  rw [ha]
  exact h
theorem ins_one (x : PIns) : ∀ u ∈ insCells x, u.oneCell' = true := by
  intro u hu
  simp [insCells] at hu
  rcases hu with rfl | rfl | rfl | rfl | rfl <;> rfl
end Go.Proofs.Ytpdjhkidalafpaa
