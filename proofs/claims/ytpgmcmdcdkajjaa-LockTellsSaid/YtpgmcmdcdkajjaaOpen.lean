/-
  How the arguments of the clock's laws read: a slice of asks, element by element; a law's frame.
-/
import Derived.Test.YtpgmcmdcdkajjaaRows
import Derived.WalkKit
import Derived.ProofKit
import Derived.OpenShut
import Derived.ShutString
import Derived.ChangeOld
import Derived.Below
import Derived.Carry
import Derived.Lib.SmallJoins
import Derived.Deep.Slices
import Derived.Deep.Fields
import Derived.ChangeSame
namespace Go.Proofs.Ytpgmcmdcdkajjaa
open Go.ChangeShapes Go.WideShapes Go.ChangeAt Go.RowKit Go.Deep

section
variable {H : Type} {enc : TypeId × Value → H} {P : Program} {w : World} {base : Nat} {spare : Nat → Bool} {held : Bool}
theorem open_slice_fields {t e : TypeId} {fs : Array Field} {fuel : Nat} {cs : List Value} {x : DataW H × List MemPlace} (ht : P.underlying t = some (.slice e)) (he : P.underlying e = some (.struct fs))
    (hone : oneCellFields P fs = true) (hC : P.cellsOf e = fs.size) (h : DataW.trod enc P w base spare held fuel t cs = some x) :
    (cs = [.slice none 0 0] ∧ x = (.nil, [])) ∨
    ∃ (a : Addr) (len cap m : Nat) (D : Nat → DataW H) (Pl : Nat → List MemPlace), cs = [.slice (some a) len cap] ∧ base ≤ a.block ∧ len ≤ cap ∧ cap ≤ maxLen ∧ m = (if spare a.block then cap else len) ∧
      x = (.slice ((List.range len).map D) ((List.range (m - len)).map fun j => D (len + j)), MemPlace.row a (m * fs.size) ++ (List.range m).flatMap Pl) ∧
      ∀ i, i < m → ∃ (ys : List (DataW H × List MemPlace)) (n : Nat), D i = .agg (ys.map (·.1)) ∧ Pl i = ys.flatMap (·.2) ∧ ys.length = fs.size ∧
        ∀ (j : Nat) (f : Field), fs[j]? = some f → ∃ (v : Value) (y : DataW H × List MemPlace), w.cell? (a.add (i * fs.size + j)) = some v ∧ ys[j]? = some y ∧ DataW.trod enc P w base spare held n f.type [v] = some y := by
  rcases open_slice ht h with h0 | ⟨a, len, cap, m, n, D, Pl, hcs, hb, hl, hm, hmm, hx, hi⟩
  · exact .inl h0
  · refine .inr ⟨a, len, cap, m, D, Pl, hcs, hb, hl, hm, hmm, by rw [hC] at hx; exact hx, fun i him => ?_⟩
    obtain ⟨cs', hc, ht'⟩ := hi i him
    rw [hC] at hc
    obtain ⟨ys, n', hn', hy, hlen, hyl, hf⟩ := DataW.trod_struct he ht'
    obtain ⟨_, hcl, hat⟩ := World.cells?_some hc
    simp only [Prod.mk.injEq] at hy
    refine ⟨ys, n', hy.1, hy.2, hyl, fun j f hj => ?_⟩
    obtain ⟨ho, hk⟩ := hone_of hone j f hj
    have hjl : j < fs.size := (Array.getElem?_eq_some_iff.1 hj).1
    have hcell := hat j hjl
    have hv : cs'[j]? = some (cs'[j]'(by omega)) := List.getElem?_eq_getElem (by omega)
    have h1 := hf j f hj
    rw [ho, hk] at h1
    have hone' : (cs'.drop j).take 1 = [cs'[j]'(by omega)] := by
      rw [List.drop_eq_getElem_cons (by omega)]
      rfl
    rw [hone'] at h1
    have hys : ys[j]? = some (ys[j]'(by omega)) := List.getElem?_eq_getElem (by omega)
    refine ⟨_, _, ?_, hys, h1.trans hys⟩
    rw [← Go.Deep.add_add, hcell, hv]
end

theorem laidOut : laidOutB Try.prog = true := by kernel_rfl
theorem own : ownKnob Try.prog.godebug = none := by kernel_rfl

/-- At this place lies an ask: its four fields. -/
def AskAt (w : World) (b o : Nat) : Prop :=
  ∃ (t : Bool) (old now more : Int), 0 ≤ old ∧ old < 18446744073709551616 ∧ 0 ≤ now ∧ now < 18446744073709551616 ∧ 0 ≤ more ∧ more < 256 ∧
    w.cell? ⟨b, o, none⟩ = some (.bool t) ∧ w.cell? ⟨b, o + 1, none⟩ = some (.int .u64 old) ∧ w.cell? ⟨b, o + 2, none⟩ = some (.int .u64 now) ∧ w.cell? ⟨b, o + 3, none⟩ = some (.int .u8 more)

/-- A slice of asks. -/
def Asks (w : World) (A : Option Addr) (len : Nat) : Prop :=
  len ≤ maxLen ∧ (0 < len → ∃ b o, A = some ⟨b, o, none⟩ ∧ b < w.heap.size ∧ ∀ i, i < len → AskAt w b (o + i * 4))

theorem lt_of_cell {w : World} {a : Addr} {v : Value} (h : w.cell? a = some v) : a.block < w.heap.size := by
  rcases Nat.lt_or_ge a.block w.heap.size with hlt | hge
  · exact hlt
  · exfalso
    simp [World.cell?, Array.getElem?_eq_none hge] at h

theorem Asks.at_ {w : World} {A : Option Addr} {len : Nat} (h : Asks w A len) {i : Nat} (hi : i < len) : ∃ b o, A = some ⟨b, o, none⟩ ∧ b < w.heap.size ∧ AskAt w b (o + i * 4) := by
  obtain ⟨b, o, e, hb, hc⟩ := h.2 (by omega)
  exact ⟨b, o, e, hb, hc i hi⟩

/-- A slice of asks that came in. -/
theorem open_asks {H : Type} {enc : TypeId × Value → H} {w : World} {v : Value} {d : DataW H} {ps : List MemPlace} {b0 : Nat} (hv : Value.okWide Try.prog w .any b0 31 v)
    (h : DataW.Trod enc Try.prog w 0 (fun _ => true) true 31 v d ps) : ∃ A len cap, v = .slice A len cap ∧ Asks w A len := by
  obtain ⟨A, len, cap, rfl⟩ := okWide_slice Try.underlying31 hv
  obtain ⟨fuel, hf⟩ := h
  refine ⟨A, len, cap, rfl, ?_⟩
  rcases open_slice_fields Try.underlying31 Try.underlying43 (by kernel_rfl) (by kernel_rfl) hf with ⟨hcs, _⟩ | ⟨a, l, c, m, D, Pl, hcs, _, hl, hm, hmm, _, hel⟩
  · simp [Value.cells] at hcs
    obtain ⟨rfl, rfl, rfl⟩ := hcs
    exact ⟨by simp, fun h => absurd h (by omega)⟩
  · simp [Value.cells] at hcs
    obtain ⟨rfl, rfl, rfl⟩ := hcs
    refine ⟨by omega, fun hlen => ?_⟩
    have hml : len ≤ m := by rw [hmm]; simp; exact hl
    have hget : ∀ i, i < len → ∃ (t : Bool) (old now more : Int), 0 ≤ old ∧ old < 18446744073709551616 ∧ 0 ≤ now ∧ now < 18446744073709551616 ∧ 0 ≤ more ∧ more < 256 ∧
        w.cell? (a.add (i * 4)) = some (.bool t) ∧ w.cell? (a.add (i * 4 + 1)) = some (.int .u64 old) ∧ w.cell? (a.add (i * 4 + 2)) = some (.int .u64 now) ∧ w.cell? (a.add (i * 4 + 3)) = some (.int .u8 more) := by
      intro i hi
      obtain ⟨ys, n, _, _, _, hf⟩ := hel i (by omega)
      obtain ⟨v0, y0, c0, _, t0⟩ := hf 0 _ rfl
      obtain ⟨v1, y1, c1, _, t1⟩ := hf 1 _ rfl
      obtain ⟨v2, y2, c2, _, t2⟩ := hf 2 _ rfl
      obtain ⟨v3, y3, c3, _, t3⟩ := hf 3 _ rfl
      obtain ⟨b, e0, _⟩ := DataW.trod_bool Try.underlying4 t0
      obtain ⟨x1, e1, _, b1⟩ := DataW.trod_int Try.underlying24 t1
      obtain ⟨x2, e2, _, b2⟩ := DataW.trod_int Try.underlying24 t2
      obtain ⟨x3, e3, _, b3⟩ := DataW.trod_int Try.underlying5 t3
      simp at e0 e1 e2 e3
      subst e0 e1 e2 e3
      have g1 := bounds_u64 b1
      have g2 := bounds_u64 b2
      have g3 := bounds_u8 b3
      exact ⟨b, x1, x2, x3, by omega, by omega, by omega, by omega, by omega, by omega, by simpa using c0, c1, c2, c3⟩
    obtain ⟨b, o, s⟩ := a
    have hs : s = none := by
      obtain ⟨_, _, _, _, _, _, _, _, _, _, c0, _⟩ := hget 0 hlen
      simpa [Addr.add] using World.cell?_spot c0
    subst hs
    refine ⟨b, o, rfl, ?_, fun i hi => ?_⟩
    · obtain ⟨_, _, _, _, _, _, _, _, _, _, c0, _⟩ := hget 0 hlen
      simpa [Addr.add] using lt_of_cell c0
    · obtain ⟨t, old, now, more, h1, h2, h3, h4, h5, h6, c0, c1, c2, c3⟩ := hget i hi
      refine ⟨t, old, now, more, h1, h2, h3, h4, h5, h6, ?_, ?_, ?_, ?_⟩
      · by_cases hz : i = 0
        · subst hz
          simpa [Addr.add] using c0
        · have hz4 : i * 4 ≠ 0 := by omega
          simpa [Addr.add, hz4] using c0
      · simpa [Addr.add, Nat.add_assoc] using c1
      · simpa [Addr.add, Nat.add_assoc] using c2
      · simpa [Addr.add, Nat.add_assoc] using c3

end Go.Proofs.Ytpgmcmdcdkajjaa
