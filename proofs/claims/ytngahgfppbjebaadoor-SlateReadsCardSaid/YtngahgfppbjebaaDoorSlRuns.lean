/-
  The law SlateRuns, walked.
-/
import Derived.Test.YtngahgfppbjebaaDoorSlateText
import Derived.Test.YtngahgfppbjebaaDoorSlateRead
import Derived.Test.YtngahgfppbjebaaDoorSlateEq
namespace Go.Proofs.YtngahgfppbjebaaDoor
open Go.RowKit
set_option linter.unusedVariables false
set_option linter.unusedSimpArgs false

def runL : List Itm := [.num 7, .nothing, .truth true]
def runT : List UInt8 := [55, 32, 110, 111, 110, 101, 32, 121, 101, 115]
theorem runL_text : textI runL = runT := by
  have h7 : Go.Lib.decDigits 7 = [55] := by rw [decDigits_small (by decide)]; rfl
  unfold textI runL
  simp only [List.map_cons, List.map_nil, itmW, h7]
  rfl
theorem runL_ok : ∀ x ∈ runL, x.ok := by
  intro x hx
  simp [runL] at hx
  rcases hx with rfl | rfl | rfl
  · show (7 : Nat) ≤ 18446744073709551615
    decide
  · trivial
  · trivial
theorem runL_read : readS runT = some runL := by rw [← runL_text]; exact readS_text runL runL_ok (by decide)
/-- A slate that was made in this run. -/
theorem Sl.made (w : World) (base : Nat) : Sl (w.alloc (.cells #[.slice none 0 0] 77)) base w.heap.size (.slice none 0 0) [] := ⟨Blk.new _ _ _, World.ownsRow_nil _ _ _ _, by simp [Value.ownBlock]⟩
/-- What an 'add' leaves of a slate whose row is new. -/
theorem AddPost.fresh {w0 w w' : World} {g : Nat} {v : Value} {l : List Itm} {e : Ending} (h : AddPost w (w0.heap.size + 1) g v l e w') (ho : Only Nob w0 w) (hg : w0.heap.size ≤ g) (hv : ∀ j, v.ownBlock = some j → w0.heap.size ≤ j) :
    ∃ v', e = .returned (.bool true) ∧ Sl w' (w0.heap.size + 1) g v' l ∧ Only Nob w0 w' ∧ (∀ j, v'.ownBlock = some j → w0.heap.size ≤ j) ∧ w.heap.size ≤ w'.heap.size := by
  obtain ⟨v', h1, h2, h3, h4⟩ := h
  refine ⟨v', h1, h2, Only.after ho h3 ?_, ?_, h3.size⟩
  · rintro i (hi | hi)
    · exact .inr (by omega)
    · exact .inr (hv i hi)
  · intro j hj
    have := (h2.own_lt hj).1
    omega
set_option maxRecDepth 100000 in
set_option maxHeartbeats 4000000 in
theorem slate_runs (w : World) (htab : Pow10 w) : Calls Tryd.prog 3 #[] w fun e w' => e = .returned (.bool true) ∧ Only Nob w w' := by
  have HT := hide htab
  clear htab
  have HRD : Hid (∀ W, Calls Tryd.prog 21 #[.string ⟨#[55, 32, 110, 111, 110, 101, 32, 121, 101, 115]⟩] W (ReadAllPost W (some runL))) := hide (fun W => by
    have := readAll_any ⟨#[55, 32, 110, 111, 110, 101, 32, 121, 101, 115]⟩ (by decide) W
    rw [show (⟨#[55, 32, 110, 111, 110, 101, 32, 121, 101, 115]⟩ : ByteArray).data.toList = runT from rfl, runL_read] at this
    exact this)
  have HTX : Hid (∀ (W : World) base g v, Sl W base g v runL → Pow10 W → Calls Tryd.prog 23 #[.pointer (some ⟨g, 0, none⟩)] W fun e w' => e = .returned (.string ⟨#[55, 32, 110, 111, 110, 101, 32, 121, 101, 115]⟩) ∧ Only Nob W w') := hide (fun W base g v h hp => by
    have := text_any W base g v runL h (by decide) runL_ok hp
    rw [runL_text] at this
    exact this)
  have HSAME : Hid (∀ (W : World) b1 g1 v1 b2 g2 v2, Sl W b1 g1 v1 runL → Sl W b2 g2 v2 runL → Calls Tryd.prog 24 #[.pointer (some ⟨g1, 0, none⟩), .pointer (some ⟨g2, 0, none⟩)] W fun e w' => e = .returned (.bool true) ∧ ∃ q, w' = W.drewN q) := hide (fun W b1 g1 v1 b2 g2 v2 h1 h2 => by
    have := same_any h1 h2 (by decide) (by decide)
    rw [decide_eq_true rfl] at this
    exact this)
  have HMUST : Hid (∀ (W : World) base g v, Sl W base g v runL → Calls Tryd.prog 25 #[.pointer (some ⟨g, 0, none⟩), .int .i64 0] W fun e w' => e = .returned (.int .u64 7) ∧ W = w') := hide (fun W base g v h => must_any W base g v runL h (by decide) 0 7 rfl)
  have HLEN : Hid (∀ (W : World) base g v, Sl W base g v runL → Calls Tryd.prog 26 #[.pointer (some ⟨g, 0, none⟩)] W fun e w' => e = .returned (.int .i64 3) ∧ W = w') := hide (fun W base g v h => len_any W base g v runL h (by decide))
  have HDN : Hid (∀ (W : World) base g v q, Sl W base g v runL → Sl (W.drewN q) base g v runL) := hide (fun W base g v q h => ⟨h.cell, h.row, h.apart⟩)
  go_enter Tryd.func3, Tryd.ntmps3
  go_wp2_with (first
    | (go_at_call 15; refine (new_any w).mono ?_; rintro e w1 ⟨rfl, rfl⟩)
    | (go_at_call 16; refine (addNum_room _ (w.heap.size + 1) w.heap.size _ [] 7 (Sl.made w _) (Nat.zero_lt_succ _) (Nat.le_of_eq (World.size_alloc _ _).symm)).mono ?_; intro e w2 hq; obtain ⟨v2, rfl, hs2, ho2, hv2, hz2⟩ := hq.fresh ((Only.refl _ w).alloc _) (Nat.le_refl _) (fun _ h => (by cases h)); have HS2 := hide hs2; have HO2 := hide ho2; have HV2 := hide hv2; have HZ2 : Hid (w.heap.size + 1 ≤ w2.heap.size) := hide (Nat.le_trans (Nat.le_of_eq (World.size_alloc _ _).symm) hz2); clear hq hs2 ho2 hv2 hz2)
    | (go_at_call 17; refine (addNone_room _ (w.heap.size + 1) w.heap.size _ [.num 7] HS2.out (by decide) HZ2.out).mono ?_; intro e w3 hq; obtain ⟨v3, rfl, hs3, ho3, hv3, hz3⟩ := hq.fresh HO2.out (Nat.le_refl _) HV2.out; have HS3 := hide hs3; have HO3 := hide ho3; have HV3 := hide hv3; have HZ3 := hide (Nat.le_trans HZ2.out hz3); clear hq hs3 ho3 hv3 hz3)
    | (go_at_call 18; refine (addTruth_room _ (w.heap.size + 1) w.heap.size _ [.num 7, .nothing] true HS3.out (by decide) HZ3.out).mono ?_; intro e w4 hq; obtain ⟨v4, rfl, hs4, ho4, hv4, hz4⟩ := hq.fresh HO3.out (Nat.le_refl _) HV3.out; have HS4 : Hid (Sl w4 (w.heap.size + 1) w.heap.size v4 runL) := hide hs4; have HO4 := hide ho4; clear hq hs4 ho4 hv4 hz4)
    | (go_at_call 19; refine (num_any _ _ _ _ runL HS4.out (by decide) 2).mono ?_; rintro e w5 ⟨rfl, rfl⟩)
    | (go_at_call 20; refine (truth_any _ _ _ _ runL HS4.out (by decide) 2).mono ?_; rintro e w5 ⟨rfl, rfl⟩)
    | (go_at_call 21; refine (HRD.out _).mono ?_; rintro e w5 ⟨ho5, g5, v5, rfl, hs5, hg5⟩; have HS5 := hide hs5; have HO5 := hide ho5; clear hs5 ho5 hg5)
    | (go_at_call 22; refine (none_any _ _ _ _ runL (HS4.out.nob HO5.out) (by decide) 1).mono ?_; rintro e w6 ⟨rfl, ho6⟩; have HO6 := hide ho6; clear ho6)
    | (go_at_call 23; refine (HTX.out _ _ _ _ ((HS4.out.nob HO5.out).nob HO6.out) (((HT.out.nob HO4.out).nob HO5.out).nob HO6.out)).mono ?_; rintro e w7 ⟨rfl, ho7⟩; have HO7 := hide ho7; clear ho7)
    | (go_at_call 24; refine (HSAME.out _ _ _ _ _ _ _ ((HS5.out.nob HO6.out).nob HO7.out) (((HS4.out.nob HO5.out).nob HO6.out).nob HO7.out)).mono ?_; rintro e w8 ⟨rfl, q8, rfl⟩)
    | (go_at_call 25; refine (HMUST.out _ _ _ _ (HDN.out _ _ _ _ _ (((HS4.out.nob HO5.out).nob HO6.out).nob HO7.out))).mono ?_; rintro e w9 ⟨rfl, rfl⟩)
    | (go_at_call 26; refine (HLEN.out _ _ _ _ (HDN.out _ _ _ _ _ (((HS4.out.nob HO5.out).nob HO6.out).nob HO7.out))).mono ?_; rintro e w9 ⟨rfl, rfl⟩))
  go_ret
  exact ⟨rfl, (((HO4.out.trans HO5.out).trans HO6.out).trans HO7.out).drewN q8⟩
end Go.Proofs.YtngahgfppbjebaaDoor
