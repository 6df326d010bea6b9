/-
  How slices of instructions and of bytes that came in read.
-/
import Derived.Test.YtpdjhkidalafpaaOpenIns
import Derived.Test.YtpdjhkidalafpaaRows0
namespace Go.Proofs.Ytpdjhkidalafpaa
open Go.ChangeShapes Go.WideShapes Go.ChangeAt Go.RowKit Go.Deep
set_option linter.unusedVariables false
set_option linter.unusedSimpArgs false

section
variable {H : Type} {enc : TypeId × Value → H} {P : Program} {w : World} {base : Nat} {spare : Nat → Bool} {held : Bool}
theorem open_slice_fields {t e : TypeId} {fs : Array Field} {fuel : Nat} {cs : List Value} {x : DataW H × List MemPlace} (ht : P.underlying t = some (.slice e)) (he : P.underlying e = some (.struct fs))
    (hone : oneCellFields P fs = true) (hC : P.cellsOf e = fs.size) (h : DataW.trod enc P w base spare held fuel t cs = some x) :
    (cs = [.slice none 0 0] ∧ x = (.nil, [])) ∨
    ∃ (a : Addr) (len cap m : Nat) (D : Nat → DataW H) (Pl : Nat → List MemPlace), cs = [.slice (some a) len cap] ∧ base ≤ a.block ∧ len ≤ cap ∧ cap ≤ maxLen ∧ m = (if spare a.block then cap else len) ∧
      x = (.slice ((List.range len).map D) ((List.range (m - len)).map fun j => D (len + j)), MemPlace.row a (m * fs.size) ++ (List.range m).flatMap Pl) ∧
      ∀ i, i < m → ∃ (ys : List (DataW H × List MemPlace)) (n : Nat), D i = .agg (ys.map (·.1)) ∧ Pl i = ys.flatMap (·.2) ∧ ys.length = fs.size ∧
        ∀ (j : Nat) (f : Field), fs[j]? = some f → ∃ (v : Value) (y : DataW H × List MemPlace), w.cell? (a.add (i * fs.size + j)) = some v ∧ ys[j]? = some y ∧ DataW.trod enc P w base spare held n f.type [v] = some y := by
  rcases open_slice ht h with h0 | ⟨a, len, cap, m, n, D, Pl, hcs, hb, hl, hm, hmm, hx, hi⟩
  · exact .inl h0
  · refine .inr ⟨a, len, cap, m, D, Pl, hcs, hb, hl, hm, hmm, by rw [hC] at hx; exact hx, fun i him => ?_⟩
    obtain ⟨cs', hc, ht'⟩ := hi i him
    rw [hC] at hc
    obtain ⟨ys, n', hn', hy, hlen, hyl, hf⟩ := DataW.trod_struct he ht'
    obtain ⟨_, hcl, hat⟩ := World.cells?_some hc
    simp only [Prod.mk.injEq] at hy
    refine ⟨ys, n', hy.1, hy.2, hyl, fun j f hj => ?_⟩
    obtain ⟨ho, hk⟩ := hone_of hone j f hj
    have hjl : j < fs.size := (Array.getElem?_eq_some_iff.1 hj).1
    have hcell := hat j hjl
    have hv : cs'[j]? = some (cs'[j]'(by omega)) := List.getElem?_eq_getElem (by omega)
    have h1 := hf j f hj
    rw [ho, hk] at h1
    have hone' : (cs'.drop j).take 1 = [cs'[j]'(by omega)] := by
      rw [List.drop_eq_getElem_cons (by omega)]
      rfl
    rw [hone'] at h1
    have hys : ys[j]? = some (ys[j]'(by omega)) := List.getElem?_eq_getElem (by omega)
    refine ⟨_, _, ?_, hys, h1.trans hys⟩
    rw [← Go.Deep.add_add, hcell, hv]
end

/-- A slice of instructions that came in. -/
def ProgArg (w : World) (A : Option Addr) (len : Nat) : Prop := ∃ l : List PIns, l.length = len ∧ len ≤ maxLen ∧ ProgIn w w.heap.size A l ∧ ∀ x ∈ l, InsWf x.op x.a x.b x.c x.n

theorem lt_of_cell {w : World} {a : Addr} {v : Value} (h : w.cell? a = some v) : a.block < w.heap.size := by
  rcases Nat.lt_or_ge a.block w.heap.size with hlt | hge
  · exact hlt
  · exfalso
    simp [World.cell?, Array.getElem?_eq_none hge] at h

theorem list_of {α : Type} (n : Nat) (p : Nat → α → Prop) (h : ∀ i, i < n → ∃ x, p i x) : ∃ l : List α, l.length = n ∧ ∀ (i : Nat) (x : α), l[i]? = some x → p i x := by
  induction n with
  | zero => exact ⟨[], rfl, fun i x hx => by simp at hx⟩
  | succ n ih =>
    obtain ⟨l, hl, hp⟩ := ih (fun i hi => h i (by omega))
    obtain ⟨y, hy⟩ := h n (by omega)
    refine ⟨l ++ [y], by simp [hl], fun i x hx => ?_⟩
    rcases Nat.lt_or_ge i n with h1 | h1
    · rw [List.getElem?_append_left (by omega)] at hx
      exact hp i x hx
    · rw [List.getElem?_append_right (by omega)] at hx
      by_cases h2 : i = n
      · subst h2
        rw [hl, Nat.sub_self] at hx
        simp at hx
        subst hx
        exact hy
      · rw [List.getElem?_eq_none (by simp; omega)] at hx
        cases hx

theorem open_five {H : Type} {enc : TypeId × Value → H} {w : World} {v : Value} {d : DataW H} {ps : List MemPlace} {b0 : Nat} {t e : TypeId} {f0 f1 f2 f3 f4 : Field}
    (ht : Try.prog.underlying t = some (.slice e)) (he : Try.prog.underlying e = some (.struct #[f0, f1, f2, f3, f4])) (h0 : f0.type = 3) (h1 : f1.type = 3) (h2 : f2.type = 3) (h3 : f3.type = 3) (h4 : f4.type = 26)
    (hone : oneCellFields Try.prog #[f0, f1, f2, f3, f4] = true) (hC : Try.prog.cellsOf e = 5) (hv : Value.okWide Try.prog w .any b0 t v)
    (h : DataW.Trod enc Try.prog w 0 (fun _ => true) true t v d ps) : ∃ A len cap, v = .slice A len cap ∧ ProgArg w A len := by
  obtain ⟨A, len, cap, rfl⟩ := okWide_slice ht hv
  obtain ⟨fuel, hf⟩ := h
  refine ⟨A, len, cap, rfl, ?_⟩
  rcases open_slice_fields ht he hone hC hf with ⟨hcs, _⟩ | ⟨a, l, c, m, D, Pl, hcs, _, hl, hm, hmm, _, hel⟩
  · simp [Value.cells] at hcs
    obtain ⟨rfl, rfl, rfl⟩ := hcs
    exact ⟨[], rfl, by simp, fun h => absurd rfl h, fun x hx => by simp at hx⟩
  · simp [Value.cells] at hcs
    obtain ⟨rfl, rfl, rfl⟩ := hcs
    have hml : len ≤ m := by rw [hmm]; simp; exact hl
    have hget : ∀ i, i < len → ∃ x : PIns, InsWf x.op x.a x.b x.c x.n ∧ w.cell? (a.add (i * 5)) = some (.int .i64 x.op) ∧ w.cell? (a.add (i * 5 + 1)) = some (.int .i64 x.a) ∧ w.cell? (a.add (i * 5 + 2)) = some (.int .i64 x.b) ∧
        w.cell? (a.add (i * 5 + 3)) = some (.int .i64 x.c) ∧ w.cell? (a.add (i * 5 + 4)) = some (.int .u64 x.n) := by
      intro i hi
      obtain ⟨ys, n, _, _, _, hf⟩ := hel i (by omega)
      obtain ⟨v0, y0, c0, _, t0⟩ := hf 0 f0 rfl
      obtain ⟨v1, y1, c1, _, t1⟩ := hf 1 f1 rfl
      obtain ⟨v2, y2, c2, _, t2⟩ := hf 2 f2 rfl
      obtain ⟨v3, y3, c3, _, t3⟩ := hf 3 f3 rfl
      obtain ⟨v4, y4, c4, _, t4⟩ := hf 4 f4 rfl
      rw [h0] at t0
      rw [h1] at t1
      rw [h2] at t2
      rw [h3] at t3
      rw [h4] at t4
      obtain ⟨x0, e0, _, b0⟩ := DataW.trod_int Try.underlying3 t0
      obtain ⟨x1, e1, _, b1⟩ := DataW.trod_int Try.underlying3 t1
      obtain ⟨x2, e2, _, b2⟩ := DataW.trod_int Try.underlying3 t2
      obtain ⟨x3, e3, _, b3⟩ := DataW.trod_int Try.underlying3 t3
      obtain ⟨x4, e4, _, b4⟩ := DataW.trod_int Try.underlying26 t4
      simp at e0 e1 e2 e3 e4
      subst e0 e1 e2 e3 e4
      have g0 := bounds_i64 b0
      have g1 := bounds_i64 b1
      have g2 := bounds_i64 b2
      have g3 := bounds_i64 b3
      have g4 := bounds_u64 b4
      exact ⟨⟨x0, x1, x2, x3, x4⟩, ⟨by simp only; omega, by simp only; omega, by simp only; omega, by simp only; omega, by simp only; omega⟩, by simpa using c0, c1, c2, c3, c4⟩
    obtain ⟨q, hq, hp⟩ := list_of len _ hget
    refine ⟨q, hq, by omega, fun hne => ?_, fun x hx => ?_⟩
    · have hlen : 0 < len := by rw [← hq]; exact List.length_pos_iff.2 hne
      obtain ⟨b, o, s⟩ := a
      have hs : s = none := by
        obtain ⟨x, _, c0, _⟩ := hget 0 hlen
        simpa [Addr.add] using World.cell?_spot c0
      subst hs
      refine ⟨b, o, rfl, ?_, fun i x hx => ?_⟩
      · obtain ⟨x, _, c0, _⟩ := hget 0 hlen
        simpa [Addr.add] using lt_of_cell c0
      · obtain ⟨_, c0, c1, c2, c3, c4⟩ := hp i x hx
        refine ⟨?_, ?_, ?_, ?_, ?_⟩
        · by_cases hz : i = 0
          · subst hz
            simpa [Addr.add] using c0
          · have hz5 : i * 5 ≠ 0 := by omega
            simpa [Addr.add, hz5] using c0
        · simpa [Addr.add, Nat.add_assoc] using c1
        · simpa [Addr.add, Nat.add_assoc] using c2
        · simpa [Addr.add, Nat.add_assoc] using c3
        · simpa [Addr.add, Nat.add_assoc] using c4
    · obtain ⟨i, hi, rfl⟩ := List.getElem_of_mem hx
      exact (hp i _ (List.getElem?_eq_getElem hi)).1

theorem open_prog {H : Type} {enc : TypeId × Value → H} {w : World} {v : Value} {d : DataW H} {ps : List MemPlace} {b0 : Nat} (hv : Value.okWide Try.prog w .any b0 35 v)
    (h : DataW.Trod enc Try.prog w 0 (fun _ => true) true 35 v d ps) : ∃ A len cap, v = .slice A len cap ∧ ProgArg w A len :=
  open_five Try.underlying35 Try.underlying28 rfl rfl rfl rfl rfl (by kernel_rfl) cellsIns hv h

/-- A slice of bytes that came in. -/
def BytesArg (w : World) (A : Option Addr) (len : Nat) : Prop :=
  ∃ zs : List Int, zs.length = len ∧ len ≤ maxLen ∧ (∀ z ∈ zs, 0 ≤ z ∧ z ≤ 255) ∧ (0 < len → ∃ b o, A = some ⟨b, o, none⟩ ∧ b < w.heap.size ∧ ∀ i z, zs[i]? = some z → w.cell? ⟨b, o + i, none⟩ = some (.int .u8 z))

theorem open_bytes {H : Type} {enc : TypeId × Value → H} {w : World} {v : Value} {d : DataW H} {ps : List MemPlace} {b0 : Nat} (hv : Value.okWide Try.prog w .any b0 44 v)
    (h : DataW.Trod enc Try.prog w 0 (fun _ => true) true 44 v d ps) : ∃ A len cap, v = .slice A len cap ∧ BytesArg w A len := by
  obtain ⟨A, len, cap, rfl⟩ := okWide_slice Try.underlying44 hv
  obtain ⟨fuel, hf⟩ := h
  refine ⟨A, len, cap, rfl, ?_⟩
  rcases open_ints Try.underlying44 Try.underlying5 (by kernel_rfl) hf with ⟨hcs, _⟩ | ⟨a, l, c, zs, hcs, _, hl, hm, hz, _, hcell, hwz⟩
  · simp [Value.cells] at hcs
    obtain ⟨rfl, rfl, rfl⟩ := hcs
    exact ⟨[], rfl, by simp, fun z hz => by simp at hz, fun h => by omega⟩
  · simp [Value.cells] at hcs
    obtain ⟨rfl, rfl, rfl⟩ := hcs
    have hzl : zs.length = cap := by rw [hz]; simp
    refine ⟨zs.take len, by simp; omega, by omega, fun z hz => ?_, fun hlen => ?_⟩
    · have := bounds_u8 (hwz z (List.mem_of_mem_take hz))
      omega
    · obtain ⟨b, o, s⟩ := a
      have hs : s = none := by
        have c0 := hcell 0 (by omega)
        simpa [Addr.add] using World.cell?_spot c0
      subst hs
      refine ⟨b, o, rfl, ?_, fun i z hi => ?_⟩
      · have c0 := hcell 0 (by omega)
        simpa [Addr.add] using lt_of_cell c0
      · have hil : i < (zs.take len).length := (List.getElem?_eq_some_iff.1 hi).1
        have hil2 : i < zs.length := by simp at hil; omega
        have ci := hcell i hil2
        have hiv : zs.getD i 0 = z := by
          rw [List.getElem?_take, if_pos (by simp at hil; omega)] at hi
          rw [List.getD_eq_getElem?_getD, hi]
          rfl
        rw [hiv] at ci
        by_cases hz0 : i = 0
        · subst hz0
          simpa [Addr.add] using ci
        · simpa [Addr.add, hz0] using ci
end Go.Proofs.Ytpdjhkidalafpaa
