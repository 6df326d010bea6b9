/-
  The contract of the book's Same, at instructions.
-/
import Derived.Test.YtngahgfppbjebaaDoorRows0
import Derived.Test.YtngahgfppbjebaaDoorGrpWords
namespace Go.Proofs.YtngahgfppbjebaaDoor
open Go.RowKit
set_option linter.unusedVariables false
set_option linter.unusedSimpArgs false

def eqI (x y : PIns) : Bool := x.op == y.op && x.a == y.a && x.b == y.b && x.c == y.c && x.n == y.n
theorem eqI_iff {x y : PIns} : eqI x y = true ↔ x = y := by
  obtain ⟨a1, a2, a3, a4, a5⟩ := x
  obtain ⟨b1, b2, b3, b4, b5⟩ := y
  simp [eqI, and_assoc]
def eqL : List PIns → List PIns → Bool
  | [], [] => true
  | x :: r, y :: s => eqI x y && eqL r s
  | _, _ => false
theorem eqL_iff : ∀ {l m : List PIns}, eqL l m = true ↔ l = m
  | [], [] => by simp [eqL]
  | x :: r, [] => by simp [eqL]
  | [], y :: s => by simp [eqL]
  | x :: r, y :: s => by simp [eqL, eqI_iff, eqL_iff]
theorem eqL_len {l m : List PIns} (h : l.length ≠ m.length) : eqL l m = false := by
  cases he : eqL l m with
  | false => rfl
  | true => exact absurd (by rw [eqL_iff.1 he]) h
theorem eqI_no {x y : PIns} (h : eqI x y = false) : x.op ≠ y.op ∨ (x.op = y.op ∧ x.a ≠ y.a) ∨ (x.op = y.op ∧ x.a = y.a ∧ x.b ≠ y.b) ∨ (x.op = y.op ∧ x.a = y.a ∧ x.b = y.b ∧ x.c ≠ y.c) ∨ (x.op = y.op ∧ x.a = y.a ∧ x.b = y.b ∧ x.c = y.c ∧ x.n ≠ y.n) := by
  unfold eqI at h
  by_cases h0 : x.op = y.op
  · by_cases h1 : x.a = y.a
    · by_cases h2 : x.b = y.b
      · by_cases h3 : x.c = y.c
        · by_cases h4 : x.n = y.n
          · simp [h0, h1, h2, h3, h4] at h
          · exact .inr (.inr (.inr (.inr ⟨h0, h1, h2, h3, h4⟩)))
        · exact .inr (.inr (.inr (.inl ⟨h0, h1, h2, h3⟩)))
      · exact .inr (.inr (.inl ⟨h0, h1, h2⟩))
    · exact .inr (.inl ⟨h0, h1⟩)
  · exact .inl h0
theorem eqL_ne {l m : List PIns} {k : Nat} (hk : k < l.length) (hm : k < m.length) (h : eqI (l.getD k PIns.none) (m.getD k PIns.none) = false) : eqL l m = false := by
  cases he : eqL l m with
  | false => rfl
  | true =>
    rw [eqL_iff.1 he] at h
    rw [eqI_iff.2 rfl] at h
    cases h
theorem eqL_all {l m : List PIns} (hl : l.length = m.length) (h : ∀ j, j < l.length → eqI (l.getD j PIns.none) (m.getD j PIns.none) = true) : eqL l m = true := by
  rw [eqL_iff]
  apply List.ext_getElem hl
  intro j h1 h2
  have := eqI_iff.1 (h j h1)
  rwa [List.getD_eq_getElem?_getD, List.getD_eq_getElem?_getD, List.getElem?_eq_getElem h1, List.getElem?_eq_getElem h2] at this
set_option maxHeartbeats 2000000 in
theorem same_ins (w : World) (a b : List PIns) (A C : Option Addr) (ca cb B : Nat) (ha : ProgIn w B A a) (hb : ProgIn w B C b) (hB : B ≤ w.heap.size) (hn : a.length ≤ 100000) (hn2 : b.length ≤ 100000) :
    Calls Tryd.prog 39 #[.slice A a.length ca, .slice C b.length cb] w fun e w' => e = .returned (.bool (eqL a b)) ∧ Only Nob w w' := by
  have HA := hide ha
  have HC := hide hb
  clear ha hb
  by_cases hl : a.length = b.length
  · have HL := hide hl
    have HF : Hid ((∀ j, j < a.length → eqI (a.getD j PIns.none) (b.getD j PIns.none) = true) → eqL a b = true) := fun h => eqL_all hl h
    have HN : Hid (∀ j, j < a.length → eqI (a.getD j PIns.none) (b.getD j PIns.none) = false → eqL a b = false) := fun j hj h => eqL_ne hj (by omega) h
    have hl' : b.length = a.length := hl.symm
    clear hl
    rw [hl']
    clear hl'
    have hnn : ((a.length : Int) != (a.length : Int)) = false := by simp
    go_enter Tryd.func39, Tryd.ntmps39
    go_wp2
    go_loopw [5] (fun c wr => ∃ (k j : Nat), k ≤ a.length ∧ c = .int .i64 k ∧ wr = w.drewN j ∧ Hid (∀ j, j < k → eqI (a.getD j PIns.none) (b.getD j PIns.none) = true)) (fun c _ => a.length - (intOf c).toNat)
    case atStart => exact ⟨0, 0, by omega, rfl, rfl, fun j hj => absurd hj (by omega)⟩
    case round =>
      obtain ⟨k, j, hk, rfl, rfl, hs⟩ := hrel
      by_cases hlt : k < a.length
      · obtain ⟨g, o, rfl, hg, hx⟩ := HA.out.at_ hlt
        obtain ⟨g2, o2, rfl, hg2, hy⟩ := HC.out.at_ (by rw [← HL.out]; exact hlt)
        have hkI : (k : Int) < (a.length : Int) := by omega
        have hb1 : g < w.heap.size := by omega
        have hb2 : g2 < w.heap.size := by omega
        cases he : eqI (a.getD k PIns.none) (b.getD k PIns.none)
        · have HZ := hide (HN.out k hlt he)
          replace he := eqI_no he
          generalize a.getD k PIns.none = x at *
          generalize b.getD k PIns.none = y at *
          obtain ⟨x0, x1, x2, x3, x4⟩ := hx
          obtain ⟨y0, y1, y2, y3, y4⟩ := hy
          obtain ⟨a0, a1, a2, a3, a4⟩ := x
          obtain ⟨b0, b1, b2, b3, b4⟩ := y
          simp only at *
          rcases he with h0 | ⟨rfl, h0⟩ | ⟨rfl, rfl, h0⟩ | ⟨rfl, rfl, rfl, h0⟩ | ⟨rfl, rfl, rfl, rfl, h0⟩
          all_goals
            go_wp2
            go_quiet (fail)
            go_wp2
            go_ret
            exact ⟨by rw [HZ.out]; rfl, Only.drewN (Only.drewN (Only.refl _ _) _) _⟩
        · have HS : Hid (∀ j, j < k + 1 → eqI (a.getD j PIns.none) (b.getD j PIns.none) = true) := fun i hi => by
            rcases Nat.lt_or_ge i k with h1 | h1
            · exact hs.out i h1
            · obtain rfl : i = k := by omega
              exact he
          have hxy := eqI_iff.1 he
          rw [← hxy] at hy
          clear he hxy
          generalize a.getD k PIns.none = x at *
          obtain ⟨x0, x1, x2, x3, x4⟩ := hx
          obtain ⟨y0, y1, y2, y3, y4⟩ := hy
          go_wp2
          go_quiet (fail)
          go_wp2
          go_roundw
          case rel => exact ⟨k + 1, _, by omega, by go_num, rfl, HS⟩
          case measure => simp [intOf]; omega
      · obtain rfl : k = a.length := by omega
        have HZ := hide (HF.out hs.out)
        go_wp2
        go_ret
        exact ⟨by rw [HZ.out]; rfl, Only.drewN (Only.refl _ _) _⟩
  · have HS := hide (eqL_len hl)
    have hd : ((a.length : Int) != (b.length : Int)) = true := by rw [bne_iff_ne]; omega
    have hd2 : (a.length != b.length) = true := by rw [bne_iff_ne]; omega
    clear hl
    go_enter Tryd.func39, Tryd.ntmps39
    go_wp2
    go_ret
    exact ⟨by rw [HS.out]; rfl, Only.refl _ _⟩
end Go.Proofs.YtngahgfppbjebaaDoor
