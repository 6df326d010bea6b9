/-
  The contract of strconv.FormatUint at base 10, over the shelf's contracts of its callees.
-/
import Derived.Test.YtngahgfppbjebaaDoorBase
import Derived.Test.YtngahgfppbjebaaDoorWords
import Derived.Test.YtngahgfppbjebaaDoorGrpTxErase
import Derived.Test.YtngahgfppbjebaaDoorShelf
import Derived.Lib.AppendIntMem
import Derived.Lib.LaidTab
import Derived.Lib.SmallJoins
import Derived.Outline
import Derived.Shelf.Abstract
namespace Go.Proofs.YtngahgfppbjebaaDoor
open Go.RowKit Go.Lib Go.Sort
set_option linter.unusedVariables false
set_option linter.unusedSimpArgs false

/-- The table that numDigits reads. -/
def Pow10 (w : World) : Prop := Lib.TabIs Tryd.prog w "internal/strconv.uint64pow10" .u64 Lib.pow10Tab
theorem pow10_named : Tryd.prog.globalNamed "internal/strconv.uint64pow10" = some 4 := by kernel_rfl
theorem Pow10.block {w w' : World} (h : Pow10 w) (e : w'.heap[4]? = w.heap[4]?) : Pow10 w' := by
  unfold Pow10 Lib.TabIs World.var? at *
  rw [pow10_named] at *
  simp only [Option.bind_some] at *
  rw [e]
  exact h
theorem Pow10.lt {w : World} (h : Pow10 w) : 4 < w.heap.size := by
  unfold Pow10 Lib.TabIs World.var? at h
  rw [pow10_named] at h
  simp only [Option.bind_some] at h
  rcases Nat.lt_or_ge 4 w.heap.size with h' | h'
  · exact h'
  · rw [Array.getElem?_eq_none h'] at h; simp at h
theorem Pow10.only {S : Nat → Prop} {w w' : World} (h : Pow10 w) (ho : Only S w w') (hn : ¬ S 4) : Pow10 w' := h.block (ho.block _ h.lt hn)
theorem Pow10.nob {w w' : World} (h : Pow10 w) (ho : Only Nob w w') : Pow10 w' := h.only ho (fun h => h)

set_option maxRecDepth 1000000 in
theorem iformatUint_any (u : Nat) (hu : u < 18446744073709551616) (w : World) (htab : Pow10 w) :
    Calls Tryd.prog 99 #[.int .u64 (u : Int), .int .i64 10] w fun e w' => e = .returned (.string ⟨(decDigits u).toArray⟩) ∧ Only Nob w w' := by
  by_cases h100 : u < 100
  · go_enter Tryd.func99, Tryd.ntmps99
    go_wp2_with (go_at_call 115; refine (Tryd.internal_strconv_small u h100 _).mono ?_; rintro e w' ⟨rfl, rfl⟩)
    go_ret
    exact ⟨rfl, Only.refl _ _⟩
  · have hu1 : 1 ≤ u := by omega
    have hnd20 : Lib.nDigits u ≤ 20 := by have := Lib.numDigits_eq u hu1 hu; split at this <;> omega
    have hal : Tryd.prog.arrayLen 189 = 24 := by kernel_rfl
    have hH0 := Lib.holds_zero0 w 189 (Lib.nDigits u) (by omega)
    have hfmt := Tryd.internal_strconv_formatBase10 w.heap.size 0 24 u (Array.replicate (Lib.nDigits u) 0) (w.alloc (.cells Lib.zeros24 189)) hH0 (by rw [Array.size_replicate]; exact Lib.lt_pow_nDigits u) hu (by rw [Array.size_replicate]; omega)
    rw [Array.size_replicate] at hfmt
    have hsl : ∀ W, (Instr.sliceAt 189 (.pointer (some ⟨w.heap.size, 0, none⟩)) none (some (.int .i64 (Lib.nDigits u : Int))) none).run Tryd.prog W = .ok (.slice (some ⟨w.heap.size, 0, none⟩) (Lib.nDigits u) 24) W := fun W => by
      rw [run_sliceAt_array_h W 189 ⟨w.heap.size, 0, none⟩ (by simp [Program.arrayLen, Program.elem, Tryd.underlying189]) .i64 (Lib.nDigits u : Int) (by omega) (by rw [hal]; omega)]
      go_simp
    have HH0 := hide hH0
    have HT := hide htab
    have HN := hide (fun W h => Tryd.internal_strconv_numDigits u hu1 hu W h)
    clear hH0 hal htab
    go_enter Tryd.func99, Tryd.ntmps99
    go_wp2_with (go_at_call 116; refine (HN.out _ (Lib.tabIs_alloc HT.out _)).mono ?_; rintro e w' ⟨rfl, rfl⟩)
    refine hfmt.mono ?_
    rintro e w' ⟨rfl, k, v', dk, rfl, hF⟩
    obtain ⟨os, eo⟩ := Lib.fin_at w (.cells Lib.zeros24 189) dk k 0
    have hcv : (convert 39 9 (.slice (some ⟨w.heap.size, 0, none⟩) (Lib.nDigits u) 24)).run Tryd.prog ((putRow (fun (b : UInt8) => Value.int .u8 (b.toNat : Int)) (w.alloc (.cells Lib.zeros24 189)) w.heap.size 0 dk).drewN k)
        = .ok (.string ⟨(Lib.decDigits u).toArray⟩) ((putRow (fun (b : UInt8) => Value.int .u8 (b.toNat : Int)) (w.alloc (.cells Lib.zeros24 189)) w.heap.size 0 dk).drewN k) := by
      have h := run_convert_bytes_back (P := Tryd.prog) ((putRow (fun (b : UInt8) => Value.int .u8 (b.toNat : Int)) (w.alloc (.cells Lib.zeros24 189)) w.heap.size 0 dk).drewN k) 39 9 5 ⟨w.heap.size, 0, none⟩ 24 (Lib.decDigits u) Tryd.underlying39 Tryd.underlying5 Tryd.underlying9 (fun j hj => by
        rw [Lib.row_is_numeral hF j hj, Lib.add_plain, World.cell?_drewN]
        exact cell?_putRow (fun (b : UInt8) => Value.int .u8 (b.toNat : Int)) _ w.heap.size 0 _ dk HH0.out (by rw [hF.size, Array.size_replicate]) j (by rw [hF.size]; rw [Lib.decDigits_length] at hj; exact hj))
      rw [Lib.decDigits_length] at h
      exact h
    have HF := hide hF
    clear hF
    rw [eo] at hcv ⊢
    have hO : Hid (Only Nob w (grow (w.drewN k) os)) := hide (Only.of_new (Lib.below_grow _ w (Nat.le_refl _) k os))
    generalize grow (w.drewN k) os = W2 at eo hcv hO ⊢
    clear eo hfmt
    go_wp2
    go_ret
    exact ⟨rfl, hO.out⟩
theorem formatUint_any (u : Nat) (hu : u < 18446744073709551616) (w : World) (htab : Pow10 w) :
    Calls Tryd.prog 72 #[.int .u64 (u : Int), .int .i64 10] w fun e w' => e = .returned (.string ⟨(decDigits u).toArray⟩) ∧ Only Nob w w' := by
  have HC := hide (iformatUint_any u hu w htab)
  clear htab
  go_enter Tryd.func72, Tryd.ntmps72
  go_wp2_with (go_at_call 99; refine (HC.out).mono ?_; rintro e w2 ⟨rfl, h1⟩; have H1 := hide h1; clear h1)
  go_ret
  exact ⟨rfl, H1.out⟩
end Go.Proofs.YtngahgfppbjebaaDoor
