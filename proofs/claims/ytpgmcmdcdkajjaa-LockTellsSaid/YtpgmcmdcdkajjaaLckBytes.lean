/-
  Contracts of a lock's nine bytes, the program's and the reference's.
-/
import Derived.Test.YtpgmcmdcdkajjaaLck
import Derived.Laws.BytesArg
namespace Go.Proofs.Ytpgmcmdcdkajjaa
open Go.RowKit

/-- A lock's numbers as bytes. -/
def lockNums (v t : Int) : List Int := [v / 72057594037927936, v / 281474976710656 % 256, v / 1099511627776 % 256, v / 4294967296 % 256, v / 16777216 % 256, v / 65536 % 256, v / 256 % 256, v % 256, t]
/-- A lock's text. -/
def lockStr (v t : Int) : ByteArray := strOfNums (lockNums v t)
def lockCells (v t : Int) : Array Value := #[.int .u8 (v / 72057594037927936), .int .u8 (v / 281474976710656 % 256), .int .u8 (v / 1099511627776 % 256), .int .u8 (v / 4294967296 % 256), .int .u8 (v / 16777216 % 256), .int .u8 (v / 65536 % 256), .int .u8 (v / 256 % 256), .int .u8 (v % 256), .int .u8 t]
/-- The ninth byte. -/
def tagOf (h : Bool) (o : Int) : Int := if h then o + 1 else 0

theorem conv9 (W : World) (n : Nat) (e : TypeId) (x0 x1 x2 x3 x4 x5 x6 x7 x8 : Int) (hn : W.heap.size = n) :
    (convert 72 9 (.slice (some ⟨n, 0, none⟩) 9 9)).run Try.prog (W.alloc (.cells #[.int .u8 x0, .int .u8 x1, .int .u8 x2, .int .u8 x3, .int .u8 x4, .int .u8 x5, .int .u8 x6, .int .u8 x7, .int .u8 x8] e)) =
      .ok (.string (strOfNums [x0, x1, x2, x3, x4, x5, x6, x7, x8])) (W.alloc (.cells #[.int .u8 x0, .int .u8 x1, .int .u8 x2, .int .u8 x3, .int .u8 x4, .int .u8 x5, .int .u8 x6, .int .u8 x7, .int .u8 x8] e)) := by
  refine run_convert_bytes_arg _ 72 5 Try.underlying72 Try.underlying5 n 0 9 9 [x0, x1, x2, x3, x4, x5, x6, x7, x8] rfl (fun i hi => ?_) 9 Try.underlying9
  have hb : Blk (W.alloc (.cells #[.int .u8 x0, .int .u8 x1, .int .u8 x2, .int .u8 x3, .int .u8 x4, .int .u8 x5, .int .u8 x6, .int .u8 x7, .int .u8 x8] e)) n e _ := Blk.new' hn
  rw [hb.cell]
  match i, hi with
  | 0, _ => rfl
  | 1, _ => rfl
  | 2, _ => rfl
  | 3, _ => rfl
  | 4, _ => rfl
  | 5, _ => rfl
  | 6, _ => rfl
  | 7, _ => rfl
  | 8, _ => rfl

theorem isB_yes {v o : Int} {h : Bool} (hb : isB v h o = true) : v < 4611686018427387904 ∧ (h = true → 0 ≤ o ∧ o < 4) ∧ (h = false → o = 0) := by
  cases h <;> simpa [isB, ownsB] using hb

theorem bytes_yes (v o : Int) (h : Bool) (w : World) (hi : isB v h o = true) (h0 : 0 ≤ v) :
    Calls Try.prog 23 #[.agg #[.int .u64 v, .bool h, .int .i64 o]] w fun e w' => e = .returned (.string (lockStr v (tagOf h o))) ∧
      w' = ((w.alloc (.cells #[.int .u64 v, .bool h, .int .i64 o] 49)).alloc (.cells #[.int .u64 v, .bool h, .int .i64 o] 49)).alloc (.cells (lockCells v (tagOf h o)) 71) := by
  obtain ⟨h1, ht, hf⟩ := isB_yes hi
  have hcv := conv9
  cases h
  · obtain rfl := hf rfl
    clear ht hf
    go_enter Try.func23, Try.ntmps23
    go_wp2_with (go_at_call 25; refine (is_any _ _ _ _).mono ?_; rintro e w1 ⟨rfl, rfl⟩)
    refine wp_loop_rounds 9 ?_
    repeat any_goals (rw [rounds_succ]; go_wp2)
    go_ret
    exact ⟨rfl, rfl⟩
  · obtain ⟨o0, o1⟩ := ht rfl
    clear ht hf
    go_enter Try.func23, Try.ntmps23
    go_wp2_with (go_at_call 25; refine (is_any _ _ _ _).mono ?_; rintro e w1 ⟨rfl, rfl⟩)
    refine wp_loop_rounds 9 ?_
    repeat any_goals (rw [rounds_succ]; go_wp2)
    go_ret
    exact ⟨rfl, rfl⟩

theorem bytes_no (v o : Int) (h : Bool) (w : World) (hi : isB v h o = false) :
    Calls Try.prog 23 #[.agg #[.int .u64 v, .bool h, .int .i64 o]] w fun e w' => e = .returned (.string ⟨#[]⟩) ∧
      w' = (w.alloc (.cells #[.int .u64 v, .bool h, .int .i64 o] 49)).alloc (.cells #[.int .u64 v, .bool h, .int .i64 o] 49) := by
  go_enter Try.func23, Try.ntmps23
  go_wp2_with (go_at_call 25; refine (is_any _ _ _ _).mono ?_; rintro e w1 ⟨rfl, rfl⟩)
  go_ret
  exact ⟨rfl, rfl⟩

theorem ref_bytes_yes (v o : Int) (h : Bool) (w : World) (hi : isB v h o = true) (h0 : 0 ≤ v) :
    Calls Try.prog 33 #[.agg #[.int .u64 v, .bool h, .int .i64 o]] w fun e w' => e = .returned (.string (lockStr v (tagOf h o))) ∧
      w' = ((w.alloc (.cells #[.int .u64 v, .bool h, .int .i64 o] 49)).alloc (.cells #[.int .u64 v, .bool h, .int .i64 o] 49)).alloc (.cells (lockCells v (tagOf h o)) 5) := by
  obtain ⟨h1, ht, hf⟩ := isB_yes hi
  have hcv := conv9
  have hmk : ∀ w, (Instr.makeSlice 72 (.int .i64 9) (.int .i64 9)).run Try.prog w = .ok (.slice (some ⟨w.heap.size, 0, none⟩) 9 9) (w.alloc (.cells #[.int .u8 0, .int .u8 0, .int .u8 0, .int .u8 0, .int .u8 0, .int .u8 0, .int .u8 0, .int .u8 0, .int .u8 0] 5)) := fun _ => by kernel_rfl
  cases h
  · obtain rfl := hf rfl
    clear ht hf
    go_enter Try.func33, Try.ntmps33
    go_wp2_with (go_at_call 31; refine (ref_is_any _ _ _ _).mono ?_; rintro e w1 ⟨rfl, rfl⟩)
    refine wp_loop_rounds 9 ?_
    repeat any_goals (rw [rounds_succ]; go_wp2)
    go_ret
    exact ⟨rfl, rfl⟩
  · obtain ⟨o0, o1⟩ := ht rfl
    clear ht hf
    go_enter Try.func33, Try.ntmps33
    go_wp2_with (go_at_call 31; refine (ref_is_any _ _ _ _).mono ?_; rintro e w1 ⟨rfl, rfl⟩)
    refine wp_loop_rounds 9 ?_
    repeat any_goals (rw [rounds_succ]; go_wp2)
    go_ret
    exact ⟨rfl, rfl⟩

theorem ref_bytes_no (v o : Int) (h : Bool) (w : World) (hi : isB v h o = false) :
    Calls Try.prog 33 #[.agg #[.int .u64 v, .bool h, .int .i64 o]] w fun e w' => e = .returned (.string ⟨#[]⟩) ∧
      w' = (w.alloc (.cells #[.int .u64 v, .bool h, .int .i64 o] 49)).alloc (.cells #[.int .u64 v, .bool h, .int .i64 o] 49) := by
  go_enter Try.func33, Try.ntmps33
  go_wp2_with (go_at_call 31; refine (ref_is_any _ _ _ _).mono ?_; rintro e w1 ⟨rfl, rfl⟩)
  go_ret
  exact ⟨rfl, rfl⟩
end Go.Proofs.Ytpgmcmdcdkajjaa
