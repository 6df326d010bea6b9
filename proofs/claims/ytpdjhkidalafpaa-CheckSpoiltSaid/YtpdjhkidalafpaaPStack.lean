/-
  The reference's stack of what is open, as it lies in memory; what the reference knows of the parts' ends.
-/
import Derived.Test.YtpdjhkidalafpaaCheckRuns
import Derived.Test.YtpdjhkidalafpaaCodeNear
namespace Go.Proofs.Ytpdjhkidalafpaa
open Go.RowKit
set_option linter.unusedVariables false
set_option linter.unusedSimpArgs false

def matR (l : List PIns) : Nat → List Int
  | 0 => List.replicate l.length 0
  | k + 1 => if 0 < endsI (opOf l k) then ((matR l k).set k (-1)).set (regAt l k).toNat k else (matR l k).set k (-1)
theorem matR_len (l : List PIns) (k : Nat) : (matR l k).length = l.length := by
  induction k with
  | zero => simp [matR]
  | succ k ih => unfold matR; split <;> simp [ih]
theorem matR_yes {l : List PIns} {k : Nat} (h : 0 < endsI (opOf l k)) : matR l (k + 1) = ((matR l k).set k (-1)).set (regAt l k).toNat k := if_pos h
theorem matR_no {l : List PIns} {k : Nat} (h : ¬ 0 < endsI (opOf l k)) : matR l (k + 1) = (matR l k).set k (-1) := if_neg h
theorem matR_at {l : List PIns} {k : Nat} (hf : fine l k) (hk : k ≤ l.length) :
    (∀ i, i < k → (matR l k)[i]? = (endA l k)[i]?) ∧ (∀ i, k ≤ i → i < l.length → (endA l k)[i]? = some (-1)) := by
  induction k with
  | zero => exact ⟨fun i h => by omega, fun i _ h => by simp [endA, h]⟩
  | succ k ih =>
    obtain ⟨h1, h2⟩ := ih (fun j hj => hf j (by omega)) (by omega)
    have hkl : k < l.length := by omega
    by_cases he : 0 < endsI (opOf l k)
    · obtain ⟨hr0, hrk⟩ := reg_ok (hf k (by omega)) (Or.inl he)
      rw [matR_yes he, endA_step_yes he]
      have hne : (regAt l k).toNat < k := by omega
      refine ⟨fun i hi => ?_, fun i hi hl => ?_⟩
      · by_cases hq : (regAt l k).toNat = i
        · subst hq
          rw [List.getElem?_set_self (by simp [matR_len]; omega), List.getElem?_set_self (by rw [endA_len]; omega)]
        · rw [List.getElem?_set_ne hq, List.getElem?_set_ne hq]
          by_cases hik : k = i
          · subst hik
            rw [List.getElem?_set_self (by rw [matR_len]; exact hkl), h2 k (Nat.le_refl _) hkl]
          · rw [List.getElem?_set_ne hik]
            exact h1 i (by omega)
      · rw [List.getElem?_set_ne (by omega)]
        exact h2 i (by omega) hl
    · rw [matR_no he, endA_step_no he]
      refine ⟨fun i hi => ?_, fun i hi hl => h2 i (by omega) hl⟩
      by_cases hik : k = i
      · subst hik
        rw [List.getElem?_set_self (by rw [matR_len]; exact hkl), h2 k (Nat.le_refl _) hkl]
      · rw [List.getElem?_set_ne hik]
        exact h1 i (by omega)
theorem matR_full {l : List PIns} (hf : fine l l.length) : matR l l.length = endA l l.length := by
  apply List.ext_getElem?
  intro i
  rcases Nat.lt_or_ge i l.length with h | h
  · exact (matR_at hf (Nat.le_refl _)).1 i h
  · rw [List.getElem?_eq_none (by rw [matR_len]; exact h), List.getElem?_eq_none (by rw [endA_len]; exact h)]

def pv (l : List PIns) (t : Int) : List Value := [.int .i64 t, .int .i64 (opOf l t.toNat)]
def PStack (w : World) (base : Nat) (v : Value) (l : List PIns) (st : List Int) : Prop := w.ownsRow base 84 2 v st.length (st.reverse.flatMap (pv l))
theorem pv_len (l : List PIns) (st : List Int) : (st.flatMap (pv l)).length = st.length * 2 := by
  induction st with
  | nil => rfl
  | cons x r ih => simp only [List.flatMap_cons, List.length_append, ih, List.length_cons]; simp [pv]; omega
theorem PStack.nil (w : World) (base : Nat) (l : List PIns) : PStack w base (.slice none 0 0) l [] := ⟨by simp, .inl ⟨rfl, rfl⟩⟩
theorem PStack.form {w : World} {base : Nat} {v : Value} {l : List PIns} {st : List Int} (h : PStack w base v l st) :
    ∃ A cap, v = .slice A st.length cap ∧ st.length ≤ cap ∧ cap ≤ maxLen ∧ (st ≠ [] → ∃ g, A = some ⟨g, 0, none⟩ ∧ base ≤ g ∧ g < w.heap.size) := by
  rcases h.2 with ⟨h1, h2⟩ | ⟨g, cap, cur, hv, hg, hh, hn, hc, _, _⟩
  · have : st = [] := List.eq_nil_of_length_eq_zero h2
    subst this
    exact ⟨none, 0, h1, by simp, by simp, fun h => absurd rfl h⟩
  · refine ⟨_, cap, hv, hn, hc, fun _ => ⟨g, rfl, hg, ?_⟩⟩
    rcases Nat.lt_or_ge g w.heap.size with hlt | hge
    · exact hlt
    · rw [Array.getElem?_eq_none hge] at hh; cases hh
theorem PStack.keepB {w w' : World} {base : Nat} {v : Value} {l : List PIns} {st : List Int} (h : PStack w base v l st) (hb : ∀ g, base ≤ g → g < w.heap.size → w'.heap[g]? = w.heap[g]?) : PStack w' base v l st := by
  refine ⟨h.1, ?_⟩
  rcases h.2 with h1 | ⟨g, cap, cur, hv, hg, hh, r⟩
  · exact .inl h1
  · refine .inr ⟨g, cap, cur, hv, hg, (hb g hg ?_).trans hh, r⟩
    rcases Nat.lt_or_ge g w.heap.size with hlt | hge
    · exact hlt
    · rw [Array.getElem?_eq_none hge] at hh; cases hh
theorem PStack.only {S : Nat → Prop} {w w' : World} {base : Nat} {v : Value} {l : List PIns} {st : List Int} (h : PStack w base v l st) (ho : Only S w w') (hs : ∀ g, base ≤ g → ¬ S g) : PStack w' base v l st :=
  h.keepB fun g h1 h2 => ho.block g h2 (hs g h1)
theorem PStack.alloc {w : World} {base : Nat} {v : Value} {l : List PIns} {st : List Int} (h : PStack w base v l st) (o : Obj) : PStack (w.alloc o) base v l st :=
  h.only (S := Nob) (Only.alloc (Only.refl _ _) o) (fun _ _ h => h)
theorem PStack.far {w : World} {base : Nat} {v : Value} {l : List PIns} {st : List Int} (h : PStack w base v l st) {p : Addr} (hp : p.block < base) (u : Value) : PStack (w.setCell p u) base v l st :=
  h.keepB fun g h1 _ => Below.heap_setCell w p u g (by omega)
theorem PStack.top {w : World} {base g cap : Nat} {l : List PIns} {x : Int} {st : List Int} (h : PStack w base (.slice (some ⟨g, 0, none⟩) (st.length + 1) cap) l (x :: st)) :
    w.cell? ⟨g, st.length * 2, none⟩ = some (.int .i64 x) ∧ w.cell? ⟨g, st.length * 2 + 1, none⟩ = some (.int .i64 (opOf l x.toNat)) := by
  have hc := World.ownsRow.cells h (g := g) rfl
  simp only [List.reverse_cons, List.flatMap_append] at hc
  have hlen : (st.reverse.flatMap (pv l)).length = st.length * 2 := by rw [pv_len, List.length_reverse]
  have h0 := hc (st.length * 2) (.int .i64 x) (by
    rw [List.getElem?_append_right (by omega), hlen, Nat.sub_self]
    rfl)
  have h1 := hc (st.length * 2 + 1) (.int .i64 (opOf l x.toNat)) (by
    rw [List.getElem?_append_right (by omega), hlen, Nat.add_sub_cancel_left]
    rfl)
  constructor
  · by_cases hz : st.length * 2 = 0
    · simpa [Addr.add, hz] using h0
    · simpa [Addr.add, hz] using h0
  · simpa [Addr.add] using h1
theorem PStack.frozen {w : World} {base g cap n : Nat} {l : List PIns} {st : List Int} (h : PStack w base (.slice (some ⟨g, 0, none⟩) n cap) l st) (i : Nat) : w.frozen? ⟨g, i, none⟩ = false := by
  rcases h.2 with ⟨h0, _⟩ | ⟨g', cap', cur, hv, _, hh, _⟩
  · cases h0
  · injection hv with hv
    injection hv with hv
    injection hv with hv
    subst hv
    simp [World.frozen?, hh]
theorem PStack.push {w' : World} {base : Nat} {v' : Value} {l : List PIns} {st : List Int} {k : Nat} (h : w'.ownsRow base 84 2 v' (st.length + 1) (st.reverse.flatMap (pv l) ++ [.int .i64 k, .int .i64 (opOf l k)])) : PStack w' base v' l ((k : Int) :: st) := by
  unfold PStack
  rw [List.reverse_cons, List.flatMap_append]
  simpa [pv] using h
theorem PStack.pop {w : World} {base g cap : Nat} {l : List PIns} {x : Int} {st : List Int} (h : PStack w base (.slice (some ⟨g, 0, none⟩) (st.length + 1) cap) l (x :: st)) : PStack w base (.slice (some ⟨g, 0, none⟩) st.length cap) l st := by
  unfold PStack at h ⊢
  have h' : w.ownsRow base 84 2 (.slice (some ⟨g, 0, none⟩) (st.length + 1) cap) (st.length + 1) (st.reverse.flatMap (pv l) ++ pv l x) := by
    rw [List.reverse_cons, List.flatMap_append] at h
    simpa using h
  exact ownsRow_pop (by rw [pv_len, List.length_reverse]) h'
/-- The inmost is turned: 'st[len(st)-1] = open{at: k, op: op}'. -/
theorem PStack.turn {w : World} {base g cap : Nat} {l : List PIns} {x : Int} {st : List Int} {k : Nat} (h : PStack w base (.slice (some ⟨g, 0, none⟩) (st.length + 1) cap) l (x :: st)) :
    PStack ((w.setCell ⟨g, st.length * 2, none⟩ (.int .i64 k)).setCell ⟨g, st.length * 2 + 1, none⟩ (.int .i64 (opOf l k))) base (.slice (some ⟨g, 0, none⟩) (st.length + 1) cap) l ((k : Int) :: st) := by
  obtain ⟨h0, h2⟩ := h
  rcases h2 with ⟨hn, _⟩ | ⟨g', cap', cur, hv, hg, hh, hn, hc, hsz, htake⟩
  · cases hn
  · have hgg : g' = g ∧ cap' = cap := by
      injection hv with hv1 _ hv3
      injection hv1 with hv1
      injection hv1 with hv1
      exact ⟨hv1.symm, hv3.symm⟩
    obtain ⟨rfl, rfl⟩ := hgg
    have hlen : (st.reverse.flatMap (pv l)).length = st.length * 2 := by rw [pv_len, List.length_reverse]
    simp only [List.length_cons] at hn
    refine ⟨by rw [pv_len, List.length_reverse], .inr ⟨g', cap', (cur.setIfInBounds (st.length * 2) (.int .i64 k)).setIfInBounds (st.length * 2 + 1) (.int .i64 (opOf l k)), rfl, hg, ?_, hn, hc, by simpa using hsz, ?_⟩⟩
    · simp [World.setCell, Array.getElem?_modify, hh]
    · apply List.ext_getElem?
      intro i
      have hcur : ∀ i, i < st.length * 2 → cur.toList[i]? = (st.reverse.flatMap (pv l))[i]? := fun i hi => by
        have := congrArg (fun q => q[i]?) htake
        simp only [List.reverse_cons, List.flatMap_append, List.length_cons] at this
        rw [List.getElem?_take, if_pos (by omega), List.getElem?_append_left (by omega)] at this
        exact this
      have hcs : cur.toList.length = cap' * 2 := by simpa using hsz
      simp only [List.length_cons, List.reverse_cons, List.flatMap_append, Array.toList_setIfInBounds]
      rw [List.getElem?_take]
      by_cases h1 : i < st.length * 2
      · rw [if_pos (by omega), List.getElem?_set_ne (by omega), List.getElem?_set_ne (by omega), List.getElem?_append_left (by omega)]
        exact hcur i h1
      · rw [List.getElem?_append_right (by omega), hlen]
        by_cases h2 : i = st.length * 2
        · subst h2
          rw [if_pos (by omega), List.getElem?_set_ne (by omega), List.getElem?_set_self (by omega), Nat.sub_self]
          rfl
        · by_cases h3 : i = st.length * 2 + 1
          · subst h3
            rw [if_pos (by omega), List.getElem?_set_self (by simp; omega), Nat.add_sub_cancel_left]
            rfl
          · rw [if_neg (by omega), List.getElem?_eq_none]
            simp [pv]
            omega
theorem PStack.base {w : World} {base : Nat} {v : Value} {l : List PIns} {st : List Int} (h : PStack w base v l st) {g : Nat} (hg : v.ownBlock = some g) : base ≤ g := by
  rcases h.2 with ⟨h1, _⟩ | ⟨g', cap, cur, hv, hg', _⟩
  · subst h1
    simp [Value.ownBlock] at hg
  · subst hv
    simp [Value.ownBlock] at hg
    omega
theorem PStack.grown {w w' : World} {base : Nat} {v : Value} {l : List PIns} {st : List Int} (h : PStack w base v l st) (hg : w.grownBy w' v.ownBlock) (hb : base ≤ w.heap.size) : Below base w w' :=
  (Only.of_grown (S := fun k => base ≤ k) hg (fun k hk _ => h.base hk)).below hb (fun _ h => h)
end Go.Proofs.Ytpdjhkidalafpaa
