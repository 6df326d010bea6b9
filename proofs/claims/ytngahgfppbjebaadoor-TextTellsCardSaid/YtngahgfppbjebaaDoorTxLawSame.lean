/-
  The law's same: the package's Parse and the reference's give one answer.
-/
import Derived.Test.YtngahgfppbjebaaDoorTxRParse
import Derived.Test.YtngahgfppbjebaaDoorGrpTxParse
import Derived.Test.YtngahgfppbjebaaDoorTxSame
import Derived.Test.YtngahgfppbjebaaDoorGrpTxRuns
namespace Go.Proofs.YtngahgfppbjebaaDoor
open Go.RowKit Go.Lib
set_option linter.unusedVariables false
set_option linter.unusedSimpArgs false

theorem same_self (w : World) (p : List PIns) (A C : Option Addr) (ca cb : Nat) {B : Nat} (ha : ProgIn w B A p) (hb : ProgIn w w.heap.size C p) (hB : B ≤ w.heap.size) (hn : p.length ≤ 100000) :
    Calls Tryd.prog 39 #[.slice A p.length ca, .slice C p.length cb] w fun e w' => e = .returned (.bool true) ∧ Only Nob w w' := by
  have := same_ins w p p A C ca cb w.heap.size (ha.more hB) hb (Nat.le_refl _) hn hn
  rwa [eqL_iff.2 rfl] at this
theorem lines_few : ∀ (ls : List (List Rn)) (line : Nat) (st st' : PS) (n : Nat), linesP line st ls = .ok st' → PSok st n → st'.l.length ≤ 40
  | [], line, st, st', n, h, hs => by
    rw [linesP] at h
    injection h with h
    rw [← h]
    exact hs.few
  | l :: ls, line, st, st', n, h, hs => by
    rw [linesP] at h
    split at h
    · cases h
    · rename_i st2 h2
      exact lines_few ls _ st2 st' (n + 1) h (lineP_ok h2 hs)
theorem resolve_few : ∀ (js : List JP) (labels : List (List UInt8 × Nat)) (l l' : List PIns), resolveP labels js l = .ok l' → l'.length = l.length
  | [], labels, l, l', h => by
    rw [resolveP] at h
    injection h with h
    rw [h]
  | j :: js, labels, l, l', h => by
    rw [resolveP] at h
    split at h
    · cases h
    · rw [resolve_few js labels _ l' h, setC_len]
theorem parse_few (s : List UInt8) : (parseP s).1.length ≤ 40 := by
  unfold parseP
  split
  · simp
  · split
    · simp
    · rename_i st h1
      split
      · simp
      · rename_i l h2
        simp only
        rw [resolve_few _ _ _ _ h2]
        exact lines_few _ _ _ _ 0 h1 PSok.start
set_option maxRecDepth 100000 in
set_option maxHeartbeats 8000000 in
theorem lawsame_any (s : ByteArray) (hs : s.size ≤ 100000) (w : World) (ht : Tabs w) (htab : TabAt w) :
    Calls Tryd.prog 36 #[.string s] w fun e w' => e = .returned (.bool true) ∧ Only Nob w w' := by
  have HP := hide (parse_any s hs w ht.utf)
  have HQ := hide (fun W (h : Only Nob w W) => rparse_any s hs W (htab.only h))
  have HFEW := parse_few s.data.toList
  generalize parseP s.data.toList = r at *
  obtain ⟨l, a, b, c⟩ := r
  simp only at HFEW
  clear ht htab
  go_enter Tryd.func36, Tryd.ntmps36
  go_wp2_with (first
    | (go_at_call 33; refine HP.out.mono ?_; rintro e w1 ⟨v1, rfl, hr1, ho1⟩; obtain ⟨A1, c1, rfl, hi1⟩ := hr1.lies; have HO1 := hide ho1; have HI1 := hide hi1; clear hr1 ho1 hi1)
    | (go_at_call 61; refine (HQ.out _ (HO1.out.alloc _)).mono ?_; rintro e w2 ⟨v2, rfl, hr2, ho2⟩; obtain ⟨A2, c2, rfl, hi2⟩ := hr2.lies; have k1 := (Blk.new w1 55 #[.slice A1 l.length c1]).only ho2 (fun h => h); have d1 := k1.cell 0; have d2 := k1.lt; simp at d1; have HO2 := hide ((HO1.out.alloc _).trans ho2); have HI2 := hide hi2; have hs12 := ((Only.refl Nob w1).alloc (.cells #[.slice A1 l.length c1] 55)).trans ho2 |>.size; have HI1' := hide ((HI1.out.keep ((((Only.refl Nob w1).alloc _).trans ho2).new)).more hs12); clear hr2 ho2 hi2 k1)
    | (go_at_call 39; refine (same_self _ l _ _ _ _ (HI1'.out.keep (((Only.refl Nob _).alloc _).new)) ((HI2.out.keep (((Only.refl Nob _).alloc _).new)).more ?h0) ?h1 ?h2).mono ?_; rotate_left 3; rintro e w3 ⟨rfl, ho3⟩; have HO3 := hide ((HO2.out.alloc _).trans ho3); clear ho3))
  case h0 => simp
  case h1 => simp
  case h2 => omega
  go_ret
  exact ⟨rfl, HO3.out⟩
end Go.Proofs.YtngahgfppbjebaaDoor
