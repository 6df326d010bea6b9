/-
  How the arguments of the slate's laws read: a slice of asks, element by element.
-/
import Derived.Test.YtngahgfppbjebaaDoorBase
namespace Go.Proofs.YtngahgfppbjebaaDoor
open Go.ChangeShapes Go.WideShapes Go.ChangeAt Go.RowKit Go.Deep
set_option linter.unusedVariables false
set_option linter.unusedSimpArgs false

section
variable {H : Type} {enc : TypeId × Value → H} {P : Program} {w : World} {base : Nat} {spare : Nat → Bool} {held : Bool}
theorem open_slice_fields {t e : TypeId} {fs : Array Field} {fuel : Nat} {cs : List Value} {x : DataW H × List MemPlace} (ht : P.underlying t = some (.slice e)) (he : P.underlying e = some (.struct fs))
    (hone : oneCellFields P fs = true) (hC : P.cellsOf e = fs.size) (h : DataW.trod enc P w base spare held fuel t cs = some x) :
    (cs = [.slice none 0 0] ∧ x = (.nil, [])) ∨
    ∃ (a : Addr) (len cap m : Nat) (D : Nat → DataW H) (Pl : Nat → List MemPlace), cs = [.slice (some a) len cap] ∧ base ≤ a.block ∧ len ≤ cap ∧ cap ≤ maxLen ∧ m = (if spare a.block then cap else len) ∧
      x = (.slice ((List.range len).map D) ((List.range (m - len)).map fun j => D (len + j)), MemPlace.row a (m * fs.size) ++ (List.range m).flatMap Pl) ∧
      ∀ i, i < m → ∃ (ys : List (DataW H × List MemPlace)) (n : Nat), D i = .agg (ys.map (·.1)) ∧ Pl i = ys.flatMap (·.2) ∧ ys.length = fs.size ∧
        ∀ (j : Nat) (f : Field), fs[j]? = some f → ∃ (v : Value) (y : DataW H × List MemPlace), w.cell? (a.add (i * fs.size + j)) = some v ∧ ys[j]? = some y ∧ DataW.trod enc P w base spare held n f.type [v] = some y := by
  rcases open_slice ht h with h0 | ⟨a, len, cap, m, n, D, Pl, hcs, hb, hl, hm, hmm, hx, hi⟩
  · exact .inl h0
  · refine .inr ⟨a, len, cap, m, D, Pl, hcs, hb, hl, hm, hmm, by rw [hC] at hx; exact hx, fun i him => ?_⟩
    obtain ⟨cs', hc, ht'⟩ := hi i him
    rw [hC] at hc
    obtain ⟨ys, n', hn', hy, hlen, hyl, hf⟩ := DataW.trod_struct he ht'
    obtain ⟨_, hcl, hat⟩ := World.cells?_some hc
    simp only [Prod.mk.injEq] at hy
    refine ⟨ys, n', hy.1, hy.2, hyl, fun j f hj => ?_⟩
    obtain ⟨ho, hk⟩ := hone_of hone j f hj
    have hjl : j < fs.size := (Array.getElem?_eq_some_iff.1 hj).1
    have hcell := hat j hjl
    have hv : cs'[j]? = some (cs'[j]'(by omega)) := List.getElem?_eq_getElem (by omega)
    have h1 := hf j f hj
    rw [ho, hk] at h1
    have hone' : (cs'.drop j).take 1 = [cs'[j]'(by omega)] := by
      rw [List.drop_eq_getElem_cons (by omega)]
      rfl
    rw [hone'] at h1
    have hys : ys[j]? = some (ys[j]'(by omega)) := List.getElem?_eq_getElem (by omega)
    refine ⟨_, _, ?_, hys, h1.trans hys⟩
    rw [← Go.Deep.add_add, hcell, hv]
end

/-- At this place lies an ask: its three fields. -/
def AskAt (w : World) (b o : Nat) : Prop :=
  ∃ (kd pl : Int) (n : Nat), -9223372036854775808 ≤ kd ∧ kd ≤ 9223372036854775807 ∧ -9223372036854775808 ≤ pl ∧ pl ≤ 9223372036854775807 ∧ n ≤ 18446744073709551615 ∧
    w.cell? ⟨b, o, none⟩ = some (.int .i64 kd) ∧ w.cell? ⟨b, o + 1, none⟩ = some (.int .i64 pl) ∧ w.cell? ⟨b, o + 2, none⟩ = some (.int .u64 (n : Int))
/-- A slice of asks, in blocks below B. -/
def Asks (w : World) (B : Nat) (A : Option Addr) (len : Nat) : Prop := len ≤ maxLen ∧ ∀ i, i < len → ∃ b o, A = some ⟨b, o, none⟩ ∧ b < B ∧ AskAt w b (o + i * 3)
theorem Asks.below {w w' : World} {A : Option Addr} {len B : Nat} (h : Asks w B A len) (hb : Below B w w') : Asks w' B A len := by
  refine ⟨h.1, fun i hi => ?_⟩
  obtain ⟨b, o, e, hlt, kd, pl, n, h1, h2, h3, h4, h5, c0, c1, c2⟩ := h.2 i hi
  exact ⟨b, o, e, hlt, kd, pl, n, h1, h2, h3, h4, h5, (hb.cell hlt).trans c0, (hb.cell hlt).trans c1, (hb.cell hlt).trans c2⟩
theorem block_of_add' (a : Addr) (n : Nat) : (a.add n).block = a.block := by unfold Addr.add; split <;> rfl
theorem add_plain' (b o j : Nat) : (⟨b, o, none⟩ : Addr).add j = ⟨b, o + j, none⟩ := by
  unfold Addr.add
  split
  · rename_i h; subst h; rfl
  · rfl
theorem lt_of_cell {w : World} {a : Addr} {v : Value} (h : w.cell? a = some v) : a.block < w.heap.size := by
  rcases Nat.lt_or_ge a.block w.heap.size with hlt | hge
  · exact hlt
  · exfalso
    simp [World.cell?, Array.getElem?_eq_none hge] at h
set_option maxRecDepth 100000 in
/-- A slice of asks that came in. -/
theorem open_asks {H : Type} {enc : TypeId × Value → H} {w : World} {v : Value} {d : DataW H} {ps : List MemPlace} {b0 : Nat} (hv : Value.okWide Tryd.prog w .any b0 44 v)
    (h : DataW.Trod enc Tryd.prog w 0 (fun _ => true) true 44 v d ps) : ∃ A len cap, v = .slice A len cap ∧ Asks w w.heap.size A len := by
  obtain ⟨A, len, cap, rfl⟩ := okWide_slice Tryd.underlying44 hv
  obtain ⟨fuel, hf⟩ := h
  refine ⟨A, len, cap, rfl, ?_⟩
  rcases open_slice_fields Tryd.underlying44 Tryd.underlying92 (by kernel_rfl) (by kernel_rfl) hf with ⟨hcs, _⟩ | ⟨a, l, c, m, D, Pl, hcs, _, hl, hm, hmm, _, hel⟩
  · simp [Value.cells] at hcs
    obtain ⟨rfl, rfl, rfl⟩ := hcs
    exact ⟨by simp, fun i h => absurd h (by omega)⟩
  · simp [Value.cells] at hcs
    obtain ⟨rfl, rfl, rfl⟩ := hcs
    refine ⟨by omega, fun i0 hi0 => ?_⟩
    have hml : len ≤ m := by rw [hmm]; simp; exact hl
    have hget : ∀ i, i < len → ∃ (kd pl n : Int), -9223372036854775808 ≤ kd ∧ kd ≤ 9223372036854775807 ∧ -9223372036854775808 ≤ pl ∧ pl ≤ 9223372036854775807 ∧ 0 ≤ n ∧ n ≤ 18446744073709551615 ∧
        w.cell? (a.add (i * 3)) = some (.int .i64 kd) ∧ w.cell? (a.add (i * 3 + 1)) = some (.int .i64 pl) ∧ w.cell? (a.add (i * 3 + 2)) = some (.int .u64 n) := by
      intro i hi
      obtain ⟨ys, n, _, _, _, hf⟩ := hel i (by omega)
      obtain ⟨v0, y0, c0, _, t0⟩ := hf 0 _ rfl
      obtain ⟨v1, y1, c1, _, t1⟩ := hf 1 _ rfl
      obtain ⟨v2, y2, c2, _, t2⟩ := hf 2 _ rfl
      obtain ⟨x0, e0, _, b0⟩ := DataW.trod_int Tryd.underlying3 t0
      obtain ⟨x1, e1, _, b1⟩ := DataW.trod_int Tryd.underlying3 t1
      obtain ⟨x2, e2, _, b2⟩ := DataW.trod_int Tryd.underlying25 t2
      simp at e0 e1 e2
      subst e0 e1 e2
      have g0 := bounds_i64 b0
      have g1 := bounds_i64 b1
      have g2 := bounds_u64 b2
      exact ⟨x0, x1, x2, by omega, by omega, by omega, by omega, by omega, by omega, by simpa using c0, c1, c2⟩
    obtain ⟨b, o, s⟩ := a
    have hs : s = none := by
      obtain ⟨_, _, _, _, _, _, _, _, _, c0, _⟩ := hget 0 (by omega)
      simpa [Addr.add] using World.cell?_spot c0
    subst hs
    refine ⟨b, o, rfl, ?_, ?_⟩
    · obtain ⟨_, _, _, _, _, _, _, _, _, c0, _⟩ := hget i0 hi0
      have := lt_of_cell c0
      rw [block_of_add'] at this
      exact this
    · obtain ⟨kd, pl, n, h1, h2, h3, h4, h5, h6, c0, c1, c2⟩ := hget i0 hi0
      refine ⟨kd, pl, n.toNat, h1, h2, h3, h4, by omega, ?_, ?_, ?_⟩
      · rw [add_plain'] at c0
        exact c0
      · rw [add_plain'] at c1
        simpa [Nat.add_assoc] using c1
      · rw [add_plain'] at c2
        rw [show ((n.toNat : Nat) : Int) = n by omega]
        simpa [Nat.add_assoc] using c2
end Go.Proofs.YtngahgfppbjebaaDoor
