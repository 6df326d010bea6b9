/-
  How an instruction that came in reads.
  How slices of instructions and of bytes that came in read.
-/
import Derived.Test.YtngahgfppbjebaaDoorBase
import Derived.Test.YtngahgfppbjebaaDoorRows0
namespace Go.Proofs.YtngahgfppbjebaaDoor
open Go.ChangeShapes Go.WideShapes Go.ChangeAt Go.RowKit Go.Joins Go.Deep
set_option linter.unusedVariables false
set_option linter.unusedSimpArgs false

/-- The numbers of an instruction fit their kinds. -/
def InsWf (op a b c N : Int) : Prop :=
  (-9223372036854775808 ≤ op ∧ op ≤ 9223372036854775807) ∧ (-9223372036854775808 ≤ a ∧ a ≤ 9223372036854775807) ∧ (-9223372036854775808 ≤ b ∧ b ≤ 9223372036854775807) ∧ (-9223372036854775808 ≤ c ∧ c ≤ 9223372036854775807) ∧ (0 ≤ N ∧ N ≤ 18446744073709551615)

section
variable {H : Type} {enc : TypeId × Value → H} {P : Program} {w : World} {base : Nat} {spare : Nat → Bool} {held : Bool}
theorem open_agg5 {r : Reach} {b0 : Nat} {t : TypeId} {f0 f1 f2 f3 f4 : Field} {v : Value} {d : DataW H} {p : List MemPlace} (hs : P.underlying t = some (.struct #[f0, f1, f2, f3, f4])) (hone : oneCellFields P #[f0, f1, f2, f3, f4] = true) (hC : P.cellsOf t = 5)
    (hv : Value.okWide P w r b0 t v) (h : DataW.Trod enc P w base spare held t v d p) :
    ∃ (v0 v1 v2 v3 v4 : Value) (y0 y1 y2 y3 y4 : DataW H × List MemPlace) (n : Nat), v = .agg #[v0, v1, v2, v3, v4] ∧
      DataW.trod enc P w base spare held n f0.type [v0] = some y0 ∧ DataW.trod enc P w base spare held n f1.type [v1] = some y1 ∧ DataW.trod enc P w base spare held n f2.type [v2] = some y2 ∧ DataW.trod enc P w base spare held n f3.type [v3] = some y3 ∧ DataW.trod enc P w base spare held n f4.type [v4] = some y4 := by
  obtain ⟨cs, rfl, hsz⟩ := okWide_struct hs hv
  rcases cs with ⟨l⟩
  have hl : l.length = 5 := hsz.trans hC
  match l, hl with
  | [c0, c1, c2, c3, c4], _ =>
    obtain ⟨fuel, hf⟩ := h
    obtain ⟨xs, n, _, _, _, hlen, hx⟩ := DataW.trod_struct hs hf
    match xs, hlen with
    | [y0, y1, y2, y3, y4], _ =>
      obtain ⟨o0, k0⟩ := hone_of hone 0 f0 rfl
      obtain ⟨o1, k1⟩ := hone_of hone 1 f1 rfl
      obtain ⟨o2, k2⟩ := hone_of hone 2 f2 rfl
      obtain ⟨o3, k3⟩ := hone_of hone 3 f3 rfl
      obtain ⟨o4, k4⟩ := hone_of hone 4 f4 rfl
      have h0 := hx 0 f0 rfl
      have h1 := hx 1 f1 rfl
      have h2 := hx 2 f2 rfl
      have h3 := hx 3 f3 rfl
      have h4 := hx 4 f4 rfl
      exact ⟨c0, c1, c2, c3, c4, y0, y1, y2, y3, y4, n, rfl, by simpa [Value.cells, o0, k0] using h0, by simpa [Value.cells, o1, k1] using h1, by simpa [Value.cells, o2, k2] using h2, by simpa [Value.cells, o3, k3] using h3, by simpa [Value.cells, o4, k4] using h4⟩
end

theorem cellsIns : Tryd.prog.cellsOf 60 = 5 := by kernel_rfl

set_option maxRecDepth 100000 in
theorem open_ins {H : Type} {enc : TypeId × Value → H} {w : World} {v : Value} {d : DataW H} {ps : List MemPlace} {b0 : Nat} (hv : Value.okWide Tryd.prog w .any b0 60 v)
    (h : DataW.Trod enc Tryd.prog w 0 (fun _ => true) true 60 v d ps) : ∃ (op a b c N : Int), v = .agg #[.int .i64 op, .int .i64 a, .int .i64 b, .int .i64 c, .int .u64 N] ∧ InsWf op a b c N := by
  obtain ⟨c0, c1, c2, c3, c4, y0, y1, y2, y3, y4, n, rfl, h0, h1, h2, h3, h4⟩ := open_agg5 Tryd.underlying60 (by kernel_rfl) cellsIns hv h
  obtain ⟨x0, e0, _, w0⟩ := DataW.trod_int Tryd.underlying3 h0
  obtain ⟨x1, e1, _, w1⟩ := DataW.trod_int Tryd.underlying3 h1
  obtain ⟨x2, e2, _, w2⟩ := DataW.trod_int Tryd.underlying3 h2
  obtain ⟨x3, e3, _, w3⟩ := DataW.trod_int Tryd.underlying3 h3
  obtain ⟨x4, e4, _, w4⟩ := DataW.trod_int Tryd.underlying25 h4
  simp at e0 e1 e2 e3 e4
  subst e0 e1 e2 e3 e4
  have b0 := bounds_i64 w0
  have b1 := bounds_i64 w1
  have b2 := bounds_i64 w2
  have b3 := bounds_i64 w3
  have b4 := bounds_u64 w4
  exact ⟨x0, x1, x2, x3, x4, rfl, by omega, by omega, by omega, by omega, by omega⟩
end Go.Proofs.YtngahgfppbjebaaDoor
namespace Go.Proofs.YtngahgfppbjebaaDoor
open Go.ChangeShapes Go.WideShapes Go.ChangeAt Go.RowKit Go.Deep
set_option linter.unusedVariables false
set_option linter.unusedSimpArgs false

section
variable {H : Type} {enc : TypeId × Value → H} {P : Program} {w : World} {base : Nat} {spare : Nat → Bool} {held : Bool}
theorem open_slice_fields {t e : TypeId} {fs : Array Field} {fuel : Nat} {cs : List Value} {x : DataW H × List MemPlace} (ht : P.underlying t = some (.slice e)) (he : P.underlying e = some (.struct fs))
    (hone : oneCellFields P fs = true) (hC : P.cellsOf e = fs.size) (h : DataW.trod enc P w base spare held fuel t cs = some x) :
    (cs = [.slice none 0 0] ∧ x = (.nil, [])) ∨
    ∃ (a : Addr) (len cap m : Nat) (D : Nat → DataW H) (Pl : Nat → List MemPlace), cs = [.slice (some a) len cap] ∧ base ≤ a.block ∧ len ≤ cap ∧ cap ≤ maxLen ∧ m = (if spare a.block then cap else len) ∧
      x = (.slice ((List.range len).map D) ((List.range (m - len)).map fun j => D (len + j)), MemPlace.row a (m * fs.size) ++ (List.range m).flatMap Pl) ∧
      ∀ i, i < m → ∃ (ys : List (DataW H × List MemPlace)) (n : Nat), D i = .agg (ys.map (·.1)) ∧ Pl i = ys.flatMap (·.2) ∧ ys.length = fs.size ∧
        ∀ (j : Nat) (f : Field), fs[j]? = some f → ∃ (v : Value) (y : DataW H × List MemPlace), w.cell? (a.add (i * fs.size + j)) = some v ∧ ys[j]? = some y ∧ DataW.trod enc P w base spare held n f.type [v] = some y := by
  rcases open_slice ht h with h0 | ⟨a, len, cap, m, n, D, Pl, hcs, hb, hl, hm, hmm, hx, hi⟩
  · exact .inl h0
  · refine .inr ⟨a, len, cap, m, D, Pl, hcs, hb, hl, hm, hmm, by rw [hC] at hx; exact hx, fun i him => ?_⟩
    obtain ⟨cs', hc, ht'⟩ := hi i him
    rw [hC] at hc
    obtain ⟨ys, n', hn', hy, hlen, hyl, hf⟩ := DataW.trod_struct he ht'
    obtain ⟨_, hcl, hat⟩ := World.cells?_some hc
    simp only [Prod.mk.injEq] at hy
    refine ⟨ys, n', hy.1, hy.2, hyl, fun j f hj => ?_⟩
    obtain ⟨ho, hk⟩ := hone_of hone j f hj
    have hjl : j < fs.size := (Array.getElem?_eq_some_iff.1 hj).1
    have hcell := hat j hjl
    have hv : cs'[j]? = some (cs'[j]'(by omega)) := List.getElem?_eq_getElem (by omega)
    have h1 := hf j f hj
    rw [ho, hk] at h1
    have hone' : (cs'.drop j).take 1 = [cs'[j]'(by omega)] := by
      rw [List.drop_eq_getElem_cons (by omega)]
      rfl
    rw [hone'] at h1
    have hys : ys[j]? = some (ys[j]'(by omega)) := List.getElem?_eq_getElem (by omega)
    refine ⟨_, _, ?_, hys, h1.trans hys⟩
    rw [← Go.Deep.add_add, hcell, hv]
end

/-- A slice of instructions that came in. -/
def ProgArg (w : World) (A : Option Addr) (len : Nat) : Prop := ∃ l : List PIns, l.length = len ∧ len ≤ maxLen ∧ ProgIn w w.heap.size A l ∧ ∀ x ∈ l, InsWf x.op x.a x.b x.c x.n

theorem lt_of_cell {w : World} {a : Addr} {v : Value} (h : w.cell? a = some v) : a.block < w.heap.size := by
  rcases Nat.lt_or_ge a.block w.heap.size with hlt | hge
  · exact hlt
  · exfalso
    simp [World.cell?, Array.getElem?_eq_none hge] at h

theorem list_of {α : Type} (n : Nat) (p : Nat → α → Prop) (h : ∀ i, i < n → ∃ x, p i x) : ∃ l : List α, l.length = n ∧ ∀ (i : Nat) (x : α), l[i]? = some x → p i x := by
  induction n with
  | zero => exact ⟨[], rfl, fun i x hx => by simp at hx⟩
  | succ n ih =>
    obtain ⟨l, hl, hp⟩ := ih (fun i hi => h i (by omega))
    obtain ⟨y, hy⟩ := h n (by omega)
    refine ⟨l ++ [y], by simp [hl], fun i x hx => ?_⟩
    rcases Nat.lt_or_ge i n with h1 | h1
    · rw [List.getElem?_append_left (by omega)] at hx
      exact hp i x hx
    · rw [List.getElem?_append_right (by omega)] at hx
      by_cases h2 : i = n
      · subst h2
        rw [hl, Nat.sub_self] at hx
        simp at hx
        subst hx
        exact hy
      · rw [List.getElem?_eq_none (by simp; omega)] at hx
        cases hx

set_option maxRecDepth 100000 in
theorem open_five {H : Type} {enc : TypeId × Value → H} {w : World} {v : Value} {d : DataW H} {ps : List MemPlace} {b0 : Nat} {t e : TypeId} {f0 f1 f2 f3 f4 : Field}
    (ht : Tryd.prog.underlying t = some (.slice e)) (he : Tryd.prog.underlying e = some (.struct #[f0, f1, f2, f3, f4])) (h0 : f0.type = 3) (h1 : f1.type = 3) (h2 : f2.type = 3) (h3 : f3.type = 3) (h4 : f4.type = 25)
    (hone : oneCellFields Tryd.prog #[f0, f1, f2, f3, f4] = true) (hC : Tryd.prog.cellsOf e = 5) (hv : Value.okWide Tryd.prog w .any b0 t v)
    (h : DataW.Trod enc Tryd.prog w 0 (fun _ => true) true t v d ps) : ∃ A len cap, v = .slice A len cap ∧ ProgArg w A len := by
  obtain ⟨A, len, cap, rfl⟩ := okWide_slice ht hv
  obtain ⟨fuel, hf⟩ := h
  refine ⟨A, len, cap, rfl, ?_⟩
  rcases open_slice_fields ht he hone hC hf with ⟨hcs, _⟩ | ⟨a, l, c, m, D, Pl, hcs, _, hl, hm, hmm, _, hel⟩
  · simp [Value.cells] at hcs
    obtain ⟨rfl, rfl, rfl⟩ := hcs
    exact ⟨[], rfl, by simp, fun h => absurd rfl h, fun x hx => by simp at hx⟩
  · simp [Value.cells] at hcs
    obtain ⟨rfl, rfl, rfl⟩ := hcs
    have hml : len ≤ m := by rw [hmm]; simp; exact hl
    have hget : ∀ i, i < len → ∃ x : PIns, InsWf x.op x.a x.b x.c x.n ∧ w.cell? (a.add (i * 5)) = some (.int .i64 x.op) ∧ w.cell? (a.add (i * 5 + 1)) = some (.int .i64 x.a) ∧ w.cell? (a.add (i * 5 + 2)) = some (.int .i64 x.b) ∧
        w.cell? (a.add (i * 5 + 3)) = some (.int .i64 x.c) ∧ w.cell? (a.add (i * 5 + 4)) = some (.int .u64 x.n) := by
      intro i hi
      obtain ⟨ys, n, _, _, _, hf⟩ := hel i (by omega)
      obtain ⟨v0, y0, c0, _, t0⟩ := hf 0 f0 rfl
      obtain ⟨v1, y1, c1, _, t1⟩ := hf 1 f1 rfl
      obtain ⟨v2, y2, c2, _, t2⟩ := hf 2 f2 rfl
      obtain ⟨v3, y3, c3, _, t3⟩ := hf 3 f3 rfl
      obtain ⟨v4, y4, c4, _, t4⟩ := hf 4 f4 rfl
      rw [h0] at t0
      rw [h1] at t1
      rw [h2] at t2
      rw [h3] at t3
      rw [h4] at t4
      obtain ⟨x0, e0, _, b0⟩ := DataW.trod_int Tryd.underlying3 t0
      obtain ⟨x1, e1, _, b1⟩ := DataW.trod_int Tryd.underlying3 t1
      obtain ⟨x2, e2, _, b2⟩ := DataW.trod_int Tryd.underlying3 t2
      obtain ⟨x3, e3, _, b3⟩ := DataW.trod_int Tryd.underlying3 t3
      obtain ⟨x4, e4, _, b4⟩ := DataW.trod_int Tryd.underlying25 t4
      simp at e0 e1 e2 e3 e4
      subst e0 e1 e2 e3 e4
      have g0 := bounds_i64 b0
      have g1 := bounds_i64 b1
      have g2 := bounds_i64 b2
      have g3 := bounds_i64 b3
      have g4 := bounds_u64 b4
      exact ⟨⟨x0, x1, x2, x3, x4⟩, ⟨by simp only; omega, by simp only; omega, by simp only; omega, by simp only; omega, by simp only; omega⟩, by simpa using c0, c1, c2, c3, c4⟩
    obtain ⟨q, hq, hp⟩ := list_of len _ hget
    refine ⟨q, hq, by omega, fun hne => ?_, fun x hx => ?_⟩
    · have hlen : 0 < len := by rw [← hq]; exact List.length_pos_iff.2 hne
      obtain ⟨b, o, s⟩ := a
      have hs : s = none := by
        obtain ⟨x, _, c0, _⟩ := hget 0 hlen
        simpa [Addr.add] using World.cell?_spot c0
      subst hs
      refine ⟨b, o, rfl, ?_, fun i x hx => ?_⟩
      · obtain ⟨x, _, c0, _⟩ := hget 0 hlen
        simpa [Addr.add] using lt_of_cell c0
      · obtain ⟨_, c0, c1, c2, c3, c4⟩ := hp i x hx
        refine ⟨?_, ?_, ?_, ?_, ?_⟩
        · by_cases hz : i = 0
          · subst hz
            simpa [Addr.add] using c0
          · have hz5 : i * 5 ≠ 0 := by omega
            simpa [Addr.add, hz5] using c0
        · simpa [Addr.add, Nat.add_assoc] using c1
        · simpa [Addr.add, Nat.add_assoc] using c2
        · simpa [Addr.add, Nat.add_assoc] using c3
        · simpa [Addr.add, Nat.add_assoc] using c4
    · obtain ⟨i, hi, rfl⟩ := List.getElem_of_mem hx
      exact (hp i _ (List.getElem?_eq_getElem hi)).1

set_option maxRecDepth 100000 in
theorem open_prog {H : Type} {enc : TypeId × Value → H} {w : World} {v : Value} {d : DataW H} {ps : List MemPlace} {b0 : Nat} (hv : Value.okWide Tryd.prog w .any b0 53 v)
    (h : DataW.Trod enc Tryd.prog w 0 (fun _ => true) true 53 v d ps) : ∃ A len cap, v = .slice A len cap ∧ ProgArg w A len :=
  open_five Tryd.underlying53 Tryd.underlying60 rfl rfl rfl rfl rfl (by kernel_rfl) cellsIns hv h

/-- A slice of bytes that came in. -/
def BytesArg (w : World) (A : Option Addr) (len : Nat) : Prop :=
  ∃ zs : List Int, zs.length = len ∧ len ≤ maxLen ∧ (∀ z ∈ zs, 0 ≤ z ∧ z ≤ 255) ∧ (0 < len → ∃ b o, A = some ⟨b, o, none⟩ ∧ b < w.heap.size ∧ ∀ i z, zs[i]? = some z → w.cell? ⟨b, o + i, none⟩ = some (.int .u8 z))

set_option maxRecDepth 100000 in
theorem open_bytes {H : Type} {enc : TypeId × Value → H} {w : World} {v : Value} {d : DataW H} {ps : List MemPlace} {b0 : Nat} (hv : Value.okWide Tryd.prog w .any b0 39 v)
    (h : DataW.Trod enc Tryd.prog w 0 (fun _ => true) true 39 v d ps) : ∃ A len cap, v = .slice A len cap ∧ BytesArg w A len := by
  obtain ⟨A, len, cap, rfl⟩ := okWide_slice Tryd.underlying39 hv
  obtain ⟨fuel, hf⟩ := h
  refine ⟨A, len, cap, rfl, ?_⟩
  rcases open_ints Tryd.underlying39 Tryd.underlying5 (by kernel_rfl) hf with ⟨hcs, _⟩ | ⟨a, l, c, zs, hcs, _, hl, hm, hz, _, hcell, hwz⟩
  · simp [Value.cells] at hcs
    obtain ⟨rfl, rfl, rfl⟩ := hcs
    exact ⟨[], rfl, by simp, fun z hz => by simp at hz, fun h => by omega⟩
  · simp [Value.cells] at hcs
    obtain ⟨rfl, rfl, rfl⟩ := hcs
    have hzl : zs.length = cap := by rw [hz]; simp
    refine ⟨zs.take len, by simp; omega, by omega, fun z hz => ?_, fun hlen => ?_⟩
    · have := bounds_u8 (hwz z (List.mem_of_mem_take hz))
      omega
    · obtain ⟨b, o, s⟩ := a
      have hs : s = none := by
        have c0 := hcell 0 (by omega)
        simpa [Addr.add] using World.cell?_spot c0
      subst hs
      refine ⟨b, o, rfl, ?_, fun i z hi => ?_⟩
      · have c0 := hcell 0 (by omega)
        simpa [Addr.add] using lt_of_cell c0
      · have hil : i < (zs.take len).length := (List.getElem?_eq_some_iff.1 hi).1
        have hil2 : i < zs.length := by simp at hil; omega
        have ci := hcell i hil2
        have hiv : zs.getD i 0 = z := by
          rw [List.getElem?_take, if_pos (by simp at hil; omega)] at hi
          rw [List.getD_eq_getElem?_getD, hi]
          rfl
        rw [hiv] at ci
        by_cases hz0 : i = 0
        · subst hz0
          simpa [Addr.add] using ci
        · simpa [Addr.add, hz0] using ci
end Go.Proofs.YtngahgfppbjebaaDoor
