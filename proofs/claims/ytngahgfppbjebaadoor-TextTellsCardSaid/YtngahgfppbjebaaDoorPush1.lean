/-
  An append of one element onto a row of the call's own, as one step.
-/
import Derived.Test.YtngahgfppbjebaaDoorGrpWords
import Derived.Test.YtngahgfppbjebaaDoorBase
import Derived.Outline
namespace Go.Proofs.YtngahgfppbjebaaDoor
open Go.RowKit
set_option linter.unusedVariables false
set_option linter.unusedSimpArgs false

theorem wpList_push {w : World} {base n cap size bytes : Nat} {A : Option Addr} {xs : List Value} {ops : Array Oper} {rest : List Oper} {o : Oper} {a : Act} {Q : Exit → Act → World → Prop} (hgd : o.guard = none) (s x : Operand) {T e : TypeId}
    (ho : o.op = .call { callee := .builtin .append, args := #[s, x], argTypes := #[T, T] }) (hT : Tryd.prog.underlying T = some (.slice e)) {z : Value} (hinfo : (Tryd.prog.info? e).map (fun i => (i.zero, i.size, i.bytes)) = some (some z, size, bytes)) (hzs : z.cells.size = size) (hpos : 0 < size) (hby : bytes ≤ 1000)
    (hr : w.ownsRow base e size (.slice A n cap) n xs) (hb : base ≤ w.heap.size) (cs : Array Value) (hcs : cs.size = size) (h1 : ∀ u ∈ cs.toList, u.oneCell' = true) (hn : n ≤ 1000000000)
    (hs : a.eval s = .slice A n cap) (hx : a.eval x = .slice (some ⟨w.heap.size, 0, none⟩) 1 1)
    (k : ∀ A' cap' w2, w2.ownsRow base e size (.slice A' (n + 1) cap') (n + 1) (xs ++ cs.toList) → Only (fun k => base ≤ k) w w2 → wpList Tryd.prog ops Q rest (a.put o.dst (.slice A' (n + 1) cap')) w2) :
    wpList Tryd.prog ops Q (o :: rest) a (w.alloc (.cells cs e)) := by
  obtain ⟨i0, hi, hz⟩ := Option.map_eq_some_iff.1 hinfo
  simp only [Prod.mk.injEq] at hz
  obtain ⟨hz0, hz1, hz2⟩ := hz
  have hrd : Reads (w.alloc (.cells cs e)) (w.heap.size + 1) size (some ⟨w.heap.size, 0, none⟩) 1 cs.toList := by
    have h := Reads.of_blk (size := size) (n := 1) (Blk.new w e cs) (by omega)
    rw [World.size_alloc] at h
    exact h
  refine wpList_append_any _ hgd s x T ho base e i0 z size bytes hT hi hz0 hz1 hz2 hzs hpos (.slice A n cap) n xs hs (hr.alloc _) (w.heap.size + 1) (some ⟨w.heap.size, 0, none⟩) 1 1 cs.toList hx hrd h1 (by unfold maxLen; omega)
    (by
      have : (n + 1) * bytes ≤ 1000000001 * 1000 := Nat.mul_le_mul (by omega) hby
      omega) (by simp; omega) ?_
  intro v' w2 hown hgrow hblk
  have hv : ∃ A' cap', v' = .slice A' (n + 1) cap' := by
    rcases hown.2 with ⟨h1, h2⟩ | ⟨g', cap', cur, hv, _⟩
    · omega
    · exact ⟨_, cap', hv⟩
  obtain ⟨A', cap', rfl⟩ := hv
  refine k A' cap' w2 hown ?_
  refine Only.after ((Only.refl _ w).alloc _) (Only.of_grown (S := fun k => base ≤ k) hgrow ?_) (fun i hi => .inl hi)
  intro j hj _
  rcases hr.2 with ⟨h1, h2⟩ | ⟨g, cap', cur, hv, hb', _⟩
  · rw [h1] at hj; cases hj
  · rw [hv] at hj
    injection hj with hj
    have hj2 : g = j := hj
    omega
end Go.Proofs.YtngahgfppbjebaaDoor
