/-
  The contract of check's stack.behind: what is open behind an instruction that fits.
-/
import Derived.Test.YtpdjhkidalafpaaStackOp
namespace Go.Proofs.Ytpdjhkidalafpaa
open Go.RowKit
set_option linter.unusedVariables false
set_option linter.unusedSimpArgs false

/-- What 'behind' leaves. -/
def BehindPost (w : World) (base : Nat) (st : List Int) (e : Ending) (w' : World) : Prop :=
  ∃ v, e = .returned v ∧ Stack w' base v st ∧ Below base w w'

set_option maxHeartbeats 1000000 in
theorem behind_push (base : Nat) (v : Value) (st : List Int) (i op : Int) (w : World) (h : Stack w base v st) (hl : st.length < 1000) (hb : base ≤ w.heap.size) (e1 : decide (0 < endsI op) = false) (e2 : beginsB op = true) :
    Calls Try.prog 35 #[v, .int .i64 i, .int .i64 op] w (BehindPost w base (i :: st)) := by
  obtain ⟨i0, hi, hz0, hz1, hz2⟩ := info_parts infoInt
  have HS : Hid (Stack w base v st) := h
  clear h
  go_enter Try.func35, Try.ntmps35
  go_wp2_with (first
    | (go_at_call 39; refine (ends_any _ _).mono ?_; rintro e w1 ⟨rfl, rfl⟩)
    | (go_at_call 46; refine (begins_any _ _).mono ?_; rintro e w1 ⟨rfl, rfl⟩)
    | (at_builtin; refine wpList_append_own _ rfl _ _ 65 rfl base 3 i0 (.int .i64 0) 1 8 Try.underlying65 hi hz0 hz1 hz2 rfl (by decide) _ _ _ rfl (HS.out.alloc _) ⟨w.heap.size, 0, none⟩ 1 1 [.int .i64 i] rfl rfl (cell_one_new _ _ _) (fun x hx => by simp at hx; subst hx; rfl) (by unfold maxLen; omega) (by omega) (by simp; omega) ?_; intro v' w3 hown' hgrow3 hnil3))
  go_ret
  exact ⟨_, rfl, Stack.push hown', (Below.alloc' (Below.refl _ _) hb _).trans (below_grown (HS.out.alloc _) hgrow3 (by simp; omega))⟩

set_option maxHeartbeats 1000000 in
theorem behind_none (base : Nat) (v : Value) (st : List Int) (i op : Int) (w : World) (h : Stack w base v st) (hl : st.length < 1000) (hb : base ≤ w.heap.size) (e1 : decide (0 < endsI op) = false) (e2 : beginsB op = false) (e3 : (op == 18) = false) :
    Calls Try.prog 35 #[v, .int .i64 i, .int .i64 op] w (BehindPost w base st) := by
  have HS : Hid (Stack w base v st) := h
  clear h
  go_enter Try.func35, Try.ntmps35
  go_wp2_with (first
    | (go_at_call 39; refine (ends_any _ _).mono ?_; rintro e w1 ⟨rfl, rfl⟩)
    | (go_at_call 46; refine (begins_any _ _).mono ?_; rintro e w1 ⟨rfl, rfl⟩))
  go_ret
  exact ⟨_, rfl, HS.out, Below.refl _ _⟩

set_option maxHeartbeats 1000000 in
theorem behind_pop (base g cap : Nat) (x : Int) (st : List Int) (i op : Int) (w : World) (h : Stack w base (.slice (some ⟨g, 0, none⟩) (st.length + 1) cap) (x :: st)) (hl : st.length < 1000) (hcap : st.length + 1 ≤ cap) (hcap2 : cap ≤ maxLen) (hb : base ≤ w.heap.size) (e1 : decide (0 < endsI op) = true) (e2 : beginsB op = false) (e3 : (op == 18) = false) :
    Calls Try.prog 35 #[.slice (some ⟨g, 0, none⟩) (st.length + 1) cap, .int .i64 i, .int .i64 op] w (BehindPost w base st) := by
  have HS : Hid (Stack w base (.slice (some ⟨g, 0, none⟩) st.length cap) st) := h.pop
  clear h
  generalize hlen : st.length = m at *
  have Hlen := hide hlen
  clear hlen
  unfold maxLen at hcap2
  go_enter Try.func35, Try.ntmps35
  go_wp2_with (first
    | (go_at_call 39; refine (ends_any _ _).mono ?_; rintro e w1 ⟨rfl, rfl⟩)
    | (go_at_call 46; refine (begins_any _ _).mono ?_; rintro e w1 ⟨rfl, rfl⟩))
  go_ret
  exact ⟨_, rfl, HS.out, Below.refl _ _⟩

set_option maxHeartbeats 1000000 in
theorem behind_turn (base g cap : Nat) (x : Int) (st : List Int) (i op : Int) (w : World) (h : Stack w base (.slice (some ⟨g, 0, none⟩) (st.length + 1) cap) (x :: st)) (hl : st.length < 1000) (hcap : st.length + 1 ≤ cap) (hcap2 : cap ≤ maxLen) (hb : base ≤ w.heap.size) (e1 : decide (0 < endsI op) = true) (e2 : beginsB op = false) (e3 : (op == 18) = true) :
    Calls Try.prog 35 #[.slice (some ⟨g, 0, none⟩) (st.length + 1) cap, .int .i64 i, .int .i64 op] w (BehindPost w base (i :: st)) := by
  obtain ⟨i0, hi, hz0, hz1, hz2⟩ := info_parts infoInt
  have HS : Hid (Stack w base (.slice (some ⟨g, 0, none⟩) st.length cap) st) := h.pop
  clear h
  generalize hlen : st.length = m at *
  have Hlen := hide hlen
  clear hlen
  unfold maxLen at hcap2
  have HO : Hid (∀ o, World.ownsRow (w.alloc o) base 3 1 (.slice (some ⟨g, 0, none⟩) m cap) m (ints st.reverse)) := fun o => by
    have := HS.out.alloc o
    unfold Stack at this
    rw [Hlen.out] at this
    exact this
  go_enter Try.func35, Try.ntmps35
  go_wp2_with (first
    | (go_at_call 39; refine (ends_any _ _).mono ?_; rintro e w1 ⟨rfl, rfl⟩)
    | (go_at_call 46; refine (begins_any _ _).mono ?_; rintro e w1 ⟨rfl, rfl⟩)
    | (at_builtin; refine wpList_append_own _ rfl _ _ 65 rfl base 3 i0 (.int .i64 0) 1 8 Try.underlying65 hi hz0 hz1 hz2 rfl (by decide) _ _ _ rfl (HO.out _) ⟨w.heap.size, 0, none⟩ 1 1 [.int .i64 i] rfl rfl (cell_one_new _ _ _) (fun x hx => by simp at hx; subst hx; rfl) (by unfold maxLen; omega) (by omega) (by simp; omega) ?_; intro v' w3 hown' hgrow3 hnil3))
  go_ret
  exact ⟨_, rfl, Stack.push (by rw [Hlen.out]; exact hown'), (Below.alloc' (Below.refl _ _) hb _).trans (below_grown (HO.out _) hgrow3 (by simp; omega))⟩

theorem behind_any (base : Nat) (v : Value) (st : List Int) (i op : Int) (w : World) (h : Stack w base v st) (hl : st.length < 1000) (hb : base ≤ w.heap.size) (hne : 0 < endsI op → st ≠ []) :
    Calls Try.prog 35 #[v, .int .i64 i, .int .i64 op] w (BehindPost w base (behindP st i op)) := by
  by_cases h1 : 0 < endsI op
  · have hb0 : beginsB op = false := by
      unfold endsI at h1
      unfold beginsB
      by_cases h2 : op = 15
      · subst h2; rfl
      · by_cases h3 : op = 18
        · subst h3; rfl
        · by_cases h4 : op = 19
          · subst h4; rfl
          · simp [h2, h3, h4] at h1
    rcases h.form with ⟨h2, _⟩ | ⟨g, cap, hv, _, _, hc, hc2⟩
    · exact absurd h2 (hne h1)
    · cases st with
      | nil => exact absurd rfl (hne h1)
      | cons x r =>
        subst hv
        have hr : r.length < 1000 := by simp at hl; omega
        by_cases h3 : op = 18
        · rw [show behindP (x :: r) i op = i :: r by simp [behindP, tailP, hb0, h3, endsI]]
          exact behind_turn base g cap x r i op w h hr hc hc2 hb (by simpa using h1) hb0 (by simpa using h3)
        · rw [show behindP (x :: r) i op = r by simp [behindP, tailP, hb0, h3, h1]]
          exact behind_pop base g cap x r i op w h hr hc hc2 hb (by simpa using h1) hb0 (by simpa using h3)
  · have h18 : op ≠ 18 := by rintro rfl; exact h1 (by decide)
    cases hb0 : beginsB op
    · rw [show behindP st i op = st by simp [behindP, tailP, hb0, h18, h1]]
      exact behind_none base v st i op w h hl hb (by simpa using h1) hb0 (by simpa using h18)
    · rw [show behindP st i op = i :: st by simp [behindP, tailP, hb0, h1]]
      exact behind_push base v st i op w h hl hb (by simpa using h1) hb0
end Go.Proofs.Ytpdjhkidalafpaa
