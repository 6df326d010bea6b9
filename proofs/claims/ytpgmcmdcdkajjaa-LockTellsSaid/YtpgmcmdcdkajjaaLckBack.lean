/-
  The law LockBack, walked.
-/
import Derived.Test.YtpgmcmdcdkajjaaLckTurned
import Derived.Deep.RegionHeld3
import Derived.Deep.RegionWith
namespace Go.Proofs.Ytpgmcmdcdkajjaa
open Go.RowKit

def bytesOf (v : Int) (h : Bool) (o : Int) : ByteArray := if isB v h o then lockStr v (tagOf h o) else ⟨#[]⟩

theorem bytes_any (v o : Int) (h : Bool) (w : World) (h0 : 0 ≤ v) :
    Calls Try.prog 23 #[.agg #[.int .u64 v, .bool h, .int .i64 o]] w fun e w' => e = .returned (.string (bytesOf v h o)) ∧ Only Nob w w' := by
  rcases (by cases isB v h o <;> simp : isB v h o = true ∨ isB v h o = false) with hi | hi
  · refine (bytes_yes v o h w hi h0).mono ?_
    rintro e w' ⟨rfl, rfl⟩
    exact ⟨by simp [bytesOf, hi], (((Only.refl _ _).alloc _).alloc _).alloc _⟩
  · refine (bytes_no v o h w hi).mono ?_
    rintro e w' ⟨rfl, rfl⟩
    exact ⟨by simp [bytesOf, hi], ((Only.refl _ _).alloc _).alloc _⟩
theorem ref_bytes_any (v o : Int) (h : Bool) (w : World) (h0 : 0 ≤ v) :
    Calls Try.prog 33 #[.agg #[.int .u64 v, .bool h, .int .i64 o]] w fun e w' => e = .returned (.string (bytesOf v h o)) ∧ Only Nob w w' := by
  rcases (by cases isB v h o <;> simp : isB v h o = true ∨ isB v h o = false) with hi | hi
  · refine (ref_bytes_yes v o h w hi h0).mono ?_
    rintro e w' ⟨rfl, rfl⟩
    exact ⟨by simp [bytesOf, hi], (((Only.refl _ _).alloc _).alloc _).alloc _⟩
  · refine (ref_bytes_no v o h w hi).mono ?_
    rintro e w' ⟨rfl, rfl⟩
    exact ⟨by simp [bytesOf, hi], ((Only.refl _ _).alloc _).alloc _⟩

set_option maxHeartbeats 4000000 in
theorem back_no (v o v' o' : Int) (h h' : Bool) (w : World) (h0 : 0 ≤ v) (h0' : 0 ≤ v') (hi : isB v h o = false) :
    Calls Try.prog 11 #[.agg #[.int .u64 v, .bool h, .int .i64 o], .agg #[.int .u64 v', .bool h', .int .i64 o']] w fun e w' => e = .returned (.bool true) ∧ Below w.heap.size w w' := by
  have e1 : bytesOf v h o = ⟨#[]⟩ := by simp [bytesOf, hi]
  go_enter Try.func11, Try.ntmps11
  go_wp2_with fail
  refine (lck_runs _).mono ?_
  rintro e w0 ⟨rfl, hb⟩
  have hsz := hb.size
  simp at hsz
  have b1 : Blk w0 w.heap.size 49 #[.int .u64 v, .bool h, .int .i64 o] := ((Blk.new' rfl).alloc _).below hb (by simp; omega)
  have b2 : Blk w0 (w.heap.size + 1) 49 #[.int .u64 v', .bool h', .int .i64 o'] := (Blk.new' (by simp)).below hb (by simp)
  have hw0 : Below w.heap.size w w0 := (((Below.refl _ _).alloc (Nat.le_refl _) _).alloc (by simp) _).trans (hb.mono (by simp; omega))
  have HS : Hid (∀ wx, Only Nob w0 wx → Only Nob w0 wx ∧ Blk wx w.heap.size 49 #[.int .u64 v, .bool h, .int .i64 o] ∧ Blk wx (w.heap.size + 1) 49 #[.int .u64 v', .bool h', .int .i64 o'] ∧ wx.cell? ⟨w.heap.size, 0, none⟩ = some (.int .u64 v) ∧ wx.cell? ⟨w.heap.size, 1, none⟩ = some (.bool h) ∧ wx.cell? ⟨w.heap.size, 2, none⟩ = some (.int .i64 o) ∧ wx.cell? ⟨w.heap.size + 1, 0, none⟩ = some (.int .u64 v') ∧ wx.cell? ⟨w.heap.size + 1, 1, none⟩ = some (.bool h') ∧ wx.cell? ⟨w.heap.size + 1, 2, none⟩ = some (.int .i64 o')) := fun wx ho =>
    ⟨ho, b1.only ho (fun e => e), b2.only ho (fun e => e), (b1.only ho (fun e => e)).cell 0, (b1.only ho (fun e => e)).cell 1, (b1.only ho (fun e => e)).cell 2, (b2.only ho (fun e => e)).cell 0, (b2.only ho (fun e => e)).cell 1, (b2.only ho (fun e => e)).cell 2⟩
  have HB := hide hw0
  clear hb b1 b2 hw0
  go_wp2_with fail
  have tok1 : True := trivial
  go_region_held3 (fun w' => Only Nob w0 w' ∧ Blk w' w.heap.size 49 #[.int .u64 v, .bool h, .int .i64 o] ∧ Blk w' (w.heap.size + 1) 49 #[.int .u64 v', .bool h', .int .i64 o'] ∧ w'.cell? ⟨w.heap.size, 0, none⟩ = some (.int .u64 v) ∧ w'.cell? ⟨w.heap.size, 1, none⟩ = some (.bool h) ∧ w'.cell? ⟨w.heap.size, 2, none⟩ = some (.int .i64 o) ∧ w'.cell? ⟨w.heap.size + 1, 0, none⟩ = some (.int .u64 v') ∧ w'.cell? ⟨w.heap.size + 1, 1, none⟩ = some (.bool h') ∧ w'.cell? ⟨w.heap.size + 1, 2, none⟩ = some (.int .i64 o'))
    (first | exact HS.out _ (Only.refl _ _).drew | exact HS.out _ (((Only.refl _ _).drew.trans honA)) | exact HS.out _ ((((Only.refl _ _).drew.trans honA).trans honB)))
    (first
      | (go_at_call 23; have _t := tok1; refine (bytes_any _ _ _ _ h0).mono ?_; rintro e wA ⟨rfl, honA⟩; clear tok1)
      | (go_at_call 23; refine (bytes_any _ _ _ _ h0').mono ?_; rintro e wB ⟨rfl, honB⟩))
  have hsz2 := honA.size
  have hsz3 := honB.size
  obtain ⟨ho, b1, b2, c10, c11, c12, c20, c21, c22⟩ := HS.out _ (((Only.refl _ _).drew.trans honA).trans honB)
  have HO := hide ho
  have hl1 := b1.lt
  have hl2 := b2.lt
  have hk1 : w.heap.size < wB.heap.size + 1 := by omega
  have hj1 : w.heap.size + 1 < wB.heap.size + 1 := by omega
  have hk2 : w.heap.size < wB.heap.size + 1 + 1 := by omega
  have hj2 : w.heap.size + 1 < wB.heap.size + 1 + 1 := by omega
  have hk3 : w.heap.size < wB.heap.size + 1 + 1 + 1 := by omega
  have hj3 : w.heap.size + 1 < wB.heap.size + 1 + 1 + 1 := by omega
  have hk4 : w.heap.size < wB.heap.size + 1 + 1 + 1 + 1 := by omega
  have hj4 : w.heap.size + 1 < wB.heap.size + 1 + 1 + 1 + 1 := by omega
  have hk5 : w.heap.size < wB.heap.size + 1 + 1 + 1 + 1 + 1 := by omega
  have hj5 : w.heap.size + 1 < wB.heap.size + 1 + 1 + 1 + 1 + 1 := by omega
  have hk6 : w.heap.size < wB.heap.size + 1 + 1 + 1 + 1 + 1 + 1 := by omega
  have hj6 : w.heap.size + 1 < wB.heap.size + 1 + 1 + 1 + 1 + 1 + 1 := by omega
  have hk7 : w.heap.size < wB.heap.size + 1 + 1 + 1 + 1 + 1 + 1 + 1 := by omega
  have hj7 : w.heap.size + 1 < wB.heap.size + 1 + 1 + 1 + 1 + 1 + 1 + 1 := by omega
  have hk8 : w.heap.size < wB.heap.size + 1 + 1 + 1 + 1 + 1 + 1 + 1 + 1 := by omega
  have hj8 : w.heap.size + 1 < wB.heap.size + 1 + 1 + 1 + 1 + 1 + 1 + 1 + 1 := by omega
  clear ho b1 b2 honA honB HS
  go_wp2_with (go_at_call 25; refine (is_any _ _ _ _).mono ?_; rintro e w1 ⟨rfl, rfl⟩)
  go_ret
  refine ⟨rfl, HB.out.trans (Below.mono (Only.new ?_) HB.out.size)⟩
  repeat' (first | (with_reducible exact HO.out) | (with_reducible refine Only.setCell ?_ ?_ _) | (with_reducible refine Only.alloc ?_ _) | (with_reducible refine Only.drewN ?_ _) | (with_reducible refine Only.drew ?_) | (right; simp; done) | (right; simp; omega))

theorem str_ne {v o v' o' : Int} {h h' : Bool} (hi : isB v h o = true) (h0 : 0 ≤ v) (h0' : 0 ≤ v') (hn : ¬ (v = v' ∧ h = h' ∧ o = o')) :
    ((lockStr v (tagOf h o)).toList == (bytesOf v' h' o').toList) = false := by
  rw [beq_eq_false_iff_ne]
  intro e
  rw [ByteArray.toList_eq, ByteArray.toList_eq] at e
  have e' : lockStr v (tagOf h o) = bytesOf v' h' o' := WideShapes.bytes_inj e
  rcases (by cases isB v' h' o' <;> simp : isB v' h' o' = true ∨ isB v' h' o' = false) with hi' | hi'
  · rw [bytesOf, if_pos hi'] at e'
    exact hn (lock_inj v o h v' o' h' hi hi' h0 h0' e')
  · rw [bytesOf, hi'] at e'
    have hz := size_lock v (tagOf h o)
    rw [e'] at hz
    simp at hz
    exact absurd hz (by decide)

set_option maxHeartbeats 600000 in
theorem back_v (v o v' o' : Int) (h h' : Bool) (w : World) (h0 : 0 ≤ v) (h0' : 0 ≤ v') (hi : isB v h o = true) (hd : ¬ v = v') :
    Calls Try.prog 11 #[.agg #[.int .u64 v, .bool h, .int .i64 o], .agg #[.int .u64 v', .bool h', .int .i64 o']] w fun e w' => e = .returned (.bool true) ∧ Below w.heap.size w w' := by
  have hne := str_ne (o' := o') (h' := h') hi h0 h0' (fun e => hd e.1)
  have e1 : bytesOf v h o = lockStr v (tagOf h o) := by simp [bytesOf, hi]
  obtain ⟨r0, r1, r2, r3⟩ := read_back v o h hi h0
  have hz := size_lock v (tagOf h o)
  have hz' := hide hz
  go_enter Try.func11, Try.ntmps11
  go_wp2_with fail
  refine (lck_runs _).mono ?_
  rintro e w0 ⟨rfl, hb⟩
  have hsz := hb.size
  simp at hsz
  have b1 : Blk w0 w.heap.size 49 #[.int .u64 v, .bool h, .int .i64 o] := ((Blk.new' rfl).alloc _).below hb (by simp; omega)
  have b2 : Blk w0 (w.heap.size + 1) 49 #[.int .u64 v', .bool h', .int .i64 o'] := (Blk.new' (by simp)).below hb (by simp)
  have hw0 : Below w.heap.size w w0 := (((Below.refl _ _).alloc (Nat.le_refl _) _).alloc (by simp) _).trans (hb.mono (by simp; omega))
  have HS : Hid (∀ wx, Only Nob w0 wx → Only Nob w0 wx ∧ Blk wx w.heap.size 49 #[.int .u64 v, .bool h, .int .i64 o] ∧ Blk wx (w.heap.size + 1) 49 #[.int .u64 v', .bool h', .int .i64 o'] ∧ wx.cell? ⟨w.heap.size, 0, none⟩ = some (.int .u64 v) ∧ wx.cell? ⟨w.heap.size, 1, none⟩ = some (.bool h) ∧ wx.cell? ⟨w.heap.size, 2, none⟩ = some (.int .i64 o) ∧ wx.cell? ⟨w.heap.size + 1, 0, none⟩ = some (.int .u64 v') ∧ wx.cell? ⟨w.heap.size + 1, 1, none⟩ = some (.bool h') ∧ wx.cell? ⟨w.heap.size + 1, 2, none⟩ = some (.int .i64 o')) := fun wx ho =>
    ⟨ho, b1.only ho (fun e => e), b2.only ho (fun e => e), (b1.only ho (fun e => e)).cell 0, (b1.only ho (fun e => e)).cell 1, (b1.only ho (fun e => e)).cell 2, (b2.only ho (fun e => e)).cell 0, (b2.only ho (fun e => e)).cell 1, (b2.only ho (fun e => e)).cell 2⟩
  have HB := hide hw0
  clear hb b1 b2 hw0
  go_wp2_with fail
  have tok1 : True := trivial
  go_region_held3 (fun w' => Only Nob w0 w' ∧ Blk w' w.heap.size 49 #[.int .u64 v, .bool h, .int .i64 o] ∧ Blk w' (w.heap.size + 1) 49 #[.int .u64 v', .bool h', .int .i64 o'] ∧ w'.cell? ⟨w.heap.size, 0, none⟩ = some (.int .u64 v) ∧ w'.cell? ⟨w.heap.size, 1, none⟩ = some (.bool h) ∧ w'.cell? ⟨w.heap.size, 2, none⟩ = some (.int .i64 o) ∧ w'.cell? ⟨w.heap.size + 1, 0, none⟩ = some (.int .u64 v') ∧ w'.cell? ⟨w.heap.size + 1, 1, none⟩ = some (.bool h') ∧ w'.cell? ⟨w.heap.size + 1, 2, none⟩ = some (.int .i64 o'))
    (first | exact HS.out _ (Only.refl _ _).drew | exact HS.out _ (((Only.refl _ _).drew.trans honA)) | exact HS.out _ ((((Only.refl _ _).drew.trans honA).trans honB)))
    (first
      | (go_at_call 23; have _t := tok1; refine (bytes_any _ _ _ _ h0).mono ?_; rintro e wA ⟨rfl, honA⟩; clear tok1)
      | (go_at_call 23; refine (bytes_any _ _ _ _ h0').mono ?_; rintro e wB ⟨rfl, honB⟩))
  have hsz2 := honA.size
  have hsz3 := honB.size
  obtain ⟨ho, b1, b2, c10, c11, c12, c20, c21, c22⟩ := HS.out _ (((Only.refl _ _).drew.trans honA).trans honB)
  have HO := hide ho
  have hl1 := b1.lt
  have hl2 := b2.lt
  have hk1 : w.heap.size < wB.heap.size + 1 := by omega
  have hj1 : w.heap.size + 1 < wB.heap.size + 1 := by omega
  have hk2 : w.heap.size < wB.heap.size + 1 + 1 := by omega
  have hj2 : w.heap.size + 1 < wB.heap.size + 1 + 1 := by omega
  have hk3 : w.heap.size < wB.heap.size + 1 + 1 + 1 := by omega
  have hj3 : w.heap.size + 1 < wB.heap.size + 1 + 1 + 1 := by omega
  have hk4 : w.heap.size < wB.heap.size + 1 + 1 + 1 + 1 := by omega
  have hj4 : w.heap.size + 1 < wB.heap.size + 1 + 1 + 1 + 1 := by omega
  have hk5 : w.heap.size < wB.heap.size + 1 + 1 + 1 + 1 + 1 := by omega
  have hj5 : w.heap.size + 1 < wB.heap.size + 1 + 1 + 1 + 1 + 1 := by omega
  have hk6 : w.heap.size < wB.heap.size + 1 + 1 + 1 + 1 + 1 + 1 := by omega
  have hj6 : w.heap.size + 1 < wB.heap.size + 1 + 1 + 1 + 1 + 1 + 1 := by omega
  have hk7 : w.heap.size < wB.heap.size + 1 + 1 + 1 + 1 + 1 + 1 + 1 := by omega
  have hj7 : w.heap.size + 1 < wB.heap.size + 1 + 1 + 1 + 1 + 1 + 1 + 1 := by omega
  have hk8 : w.heap.size < wB.heap.size + 1 + 1 + 1 + 1 + 1 + 1 + 1 + 1 := by omega
  have hj8 : w.heap.size + 1 < wB.heap.size + 1 + 1 + 1 + 1 + 1 + 1 + 1 + 1 := by omega
  clear ho b1 b2 honA honB HS
  go_wp2_with (go_at_call 25; refine (is_any _ _ _ _).mono ?_; rintro e w1 ⟨rfl, rfl⟩)
  refine (read_nine _ _ hz'.out).mono ?_
  rintro e w1 ⟨j, rfl, rfl⟩
  go_wp2_with fail
  refine (read_short _ _ ?_ ?_).mono ?_
  · rw [ByteArray.size_append, hz'.out]; decide
  · rw [ByteArray.size_append, hz'.out]; unfold maxLen; decide
  rintro e w1 ⟨rfl, rfl⟩
  clear r0 r1 r2 r3
  go_wp2_with fail
  go_ret
  refine ⟨rfl, HB.out.trans (Below.mono (Only.new ?_) HB.out.size)⟩
  repeat' (first | (with_reducible exact HO.out) | (with_reducible refine Only.setCell ?_ ?_ _) | (with_reducible refine Only.alloc ?_ _) | (with_reducible refine Only.drewN ?_ _) | (with_reducible refine Only.drew ?_) | (right; simp; done) | (right; simp; omega))

set_option maxHeartbeats 600000 in
theorem back_h (v o o' : Int) (h h' : Bool) (w : World) (h0 : 0 ≤ v) (hi : isB v h o = true) (hd : ¬ h = h') :
    Calls Try.prog 11 #[.agg #[.int .u64 v, .bool h, .int .i64 o], .agg #[.int .u64 v, .bool h', .int .i64 o']] w fun e w' => e = .returned (.bool true) ∧ Below w.heap.size w w' := by
  have h0' := h0
  have hne := str_ne (o' := o') hi h0 h0 (fun e => hd e.2.1)
  have e1 : bytesOf v h o = lockStr v (tagOf h o) := by simp [bytesOf, hi]
  obtain ⟨r0, r1, r2, r3⟩ := read_back v o h hi h0
  have hz := size_lock v (tagOf h o)
  have hz' := hide hz
  go_enter Try.func11, Try.ntmps11
  go_wp2_with fail
  refine (lck_runs _).mono ?_
  rintro e w0 ⟨rfl, hb⟩
  have hsz := hb.size
  simp at hsz
  have b1 : Blk w0 w.heap.size 49 #[.int .u64 v, .bool h, .int .i64 o] := ((Blk.new' rfl).alloc _).below hb (by simp; omega)
  have b2 : Blk w0 (w.heap.size + 1) 49 #[.int .u64 v, .bool h', .int .i64 o'] := (Blk.new' (by simp)).below hb (by simp)
  have hw0 : Below w.heap.size w w0 := (((Below.refl _ _).alloc (Nat.le_refl _) _).alloc (by simp) _).trans (hb.mono (by simp; omega))
  have HS : Hid (∀ wx, Only Nob w0 wx → Only Nob w0 wx ∧ Blk wx w.heap.size 49 #[.int .u64 v, .bool h, .int .i64 o] ∧ Blk wx (w.heap.size + 1) 49 #[.int .u64 v, .bool h', .int .i64 o'] ∧ wx.cell? ⟨w.heap.size, 0, none⟩ = some (.int .u64 v) ∧ wx.cell? ⟨w.heap.size, 1, none⟩ = some (.bool h) ∧ wx.cell? ⟨w.heap.size, 2, none⟩ = some (.int .i64 o) ∧ wx.cell? ⟨w.heap.size + 1, 0, none⟩ = some (.int .u64 v) ∧ wx.cell? ⟨w.heap.size + 1, 1, none⟩ = some (.bool h') ∧ wx.cell? ⟨w.heap.size + 1, 2, none⟩ = some (.int .i64 o')) := fun wx ho =>
    ⟨ho, b1.only ho (fun e => e), b2.only ho (fun e => e), (b1.only ho (fun e => e)).cell 0, (b1.only ho (fun e => e)).cell 1, (b1.only ho (fun e => e)).cell 2, (b2.only ho (fun e => e)).cell 0, (b2.only ho (fun e => e)).cell 1, (b2.only ho (fun e => e)).cell 2⟩
  have HB := hide hw0
  clear hb b1 b2 hw0
  go_wp2_with fail
  have tok1 : True := trivial
  go_region_held3 (fun w' => Only Nob w0 w' ∧ Blk w' w.heap.size 49 #[.int .u64 v, .bool h, .int .i64 o] ∧ Blk w' (w.heap.size + 1) 49 #[.int .u64 v, .bool h', .int .i64 o'] ∧ w'.cell? ⟨w.heap.size, 0, none⟩ = some (.int .u64 v) ∧ w'.cell? ⟨w.heap.size, 1, none⟩ = some (.bool h) ∧ w'.cell? ⟨w.heap.size, 2, none⟩ = some (.int .i64 o) ∧ w'.cell? ⟨w.heap.size + 1, 0, none⟩ = some (.int .u64 v) ∧ w'.cell? ⟨w.heap.size + 1, 1, none⟩ = some (.bool h') ∧ w'.cell? ⟨w.heap.size + 1, 2, none⟩ = some (.int .i64 o'))
    (first | exact HS.out _ (Only.refl _ _).drew | exact HS.out _ (((Only.refl _ _).drew.trans honA)) | exact HS.out _ ((((Only.refl _ _).drew.trans honA).trans honB)))
    (first
      | (go_at_call 23; have _t := tok1; refine (bytes_any _ _ _ _ h0).mono ?_; rintro e wA ⟨rfl, honA⟩; clear tok1)
      | (go_at_call 23; refine (bytes_any _ _ _ _ h0').mono ?_; rintro e wB ⟨rfl, honB⟩))
  have hsz2 := honA.size
  have hsz3 := honB.size
  obtain ⟨ho, b1, b2, c10, c11, c12, c20, c21, c22⟩ := HS.out _ (((Only.refl _ _).drew.trans honA).trans honB)
  have HO := hide ho
  have hl1 := b1.lt
  have hl2 := b2.lt
  have hk1 : w.heap.size < wB.heap.size + 1 := by omega
  have hj1 : w.heap.size + 1 < wB.heap.size + 1 := by omega
  have hk2 : w.heap.size < wB.heap.size + 1 + 1 := by omega
  have hj2 : w.heap.size + 1 < wB.heap.size + 1 + 1 := by omega
  have hk3 : w.heap.size < wB.heap.size + 1 + 1 + 1 := by omega
  have hj3 : w.heap.size + 1 < wB.heap.size + 1 + 1 + 1 := by omega
  have hk4 : w.heap.size < wB.heap.size + 1 + 1 + 1 + 1 := by omega
  have hj4 : w.heap.size + 1 < wB.heap.size + 1 + 1 + 1 + 1 := by omega
  have hk5 : w.heap.size < wB.heap.size + 1 + 1 + 1 + 1 + 1 := by omega
  have hj5 : w.heap.size + 1 < wB.heap.size + 1 + 1 + 1 + 1 + 1 := by omega
  have hk6 : w.heap.size < wB.heap.size + 1 + 1 + 1 + 1 + 1 + 1 := by omega
  have hj6 : w.heap.size + 1 < wB.heap.size + 1 + 1 + 1 + 1 + 1 + 1 := by omega
  have hk7 : w.heap.size < wB.heap.size + 1 + 1 + 1 + 1 + 1 + 1 + 1 := by omega
  have hj7 : w.heap.size + 1 < wB.heap.size + 1 + 1 + 1 + 1 + 1 + 1 + 1 := by omega
  have hk8 : w.heap.size < wB.heap.size + 1 + 1 + 1 + 1 + 1 + 1 + 1 + 1 := by omega
  have hj8 : w.heap.size + 1 < wB.heap.size + 1 + 1 + 1 + 1 + 1 + 1 + 1 + 1 := by omega
  clear ho b1 b2 honA honB HS
  go_wp2_with (go_at_call 25; refine (is_any _ _ _ _).mono ?_; rintro e w1 ⟨rfl, rfl⟩)
  refine (read_nine _ _ hz'.out).mono ?_
  rintro e w1 ⟨j, rfl, rfl⟩
  go_wp2_with fail
  refine (read_short _ _ ?_ ?_).mono ?_
  · rw [ByteArray.size_append, hz'.out]; decide
  · rw [ByteArray.size_append, hz'.out]; unfold maxLen; decide
  rintro e w1 ⟨rfl, rfl⟩
  clear r0 r1 r2 r3
  go_wp2_with fail
  go_ret
  refine ⟨rfl, HB.out.trans (Below.mono (Only.new ?_) HB.out.size)⟩
  repeat' (first | (with_reducible exact HO.out) | (with_reducible refine Only.setCell ?_ ?_ _) | (with_reducible refine Only.alloc ?_ _) | (with_reducible refine Only.drewN ?_ _) | (with_reducible refine Only.drew ?_) | (right; simp; done) | (right; simp; omega))

set_option maxHeartbeats 600000 in
theorem back_o (v o o' : Int) (h : Bool) (w : World) (h0 : 0 ≤ v) (hi : isB v h o = true) (hd : ¬ o = o') :
    Calls Try.prog 11 #[.agg #[.int .u64 v, .bool h, .int .i64 o], .agg #[.int .u64 v, .bool h, .int .i64 o']] w fun e w' => e = .returned (.bool true) ∧ Below w.heap.size w w' := by
  have h0' := h0
  have hne := str_ne (o' := o') (h' := h) hi h0 h0 (fun e => hd e.2.2)
  have e1 : bytesOf v h o = lockStr v (tagOf h o) := by simp [bytesOf, hi]
  obtain ⟨r0, r1, r2, r3⟩ := read_back v o h hi h0
  have hz := size_lock v (tagOf h o)
  have hz' := hide hz
  go_enter Try.func11, Try.ntmps11
  go_wp2_with fail
  refine (lck_runs _).mono ?_
  rintro e w0 ⟨rfl, hb⟩
  have hsz := hb.size
  simp at hsz
  have b1 : Blk w0 w.heap.size 49 #[.int .u64 v, .bool h, .int .i64 o] := ((Blk.new' rfl).alloc _).below hb (by simp; omega)
  have b2 : Blk w0 (w.heap.size + 1) 49 #[.int .u64 v, .bool h, .int .i64 o'] := (Blk.new' (by simp)).below hb (by simp)
  have hw0 : Below w.heap.size w w0 := (((Below.refl _ _).alloc (Nat.le_refl _) _).alloc (by simp) _).trans (hb.mono (by simp; omega))
  have HS : Hid (∀ wx, Only Nob w0 wx → Only Nob w0 wx ∧ Blk wx w.heap.size 49 #[.int .u64 v, .bool h, .int .i64 o] ∧ Blk wx (w.heap.size + 1) 49 #[.int .u64 v, .bool h, .int .i64 o'] ∧ wx.cell? ⟨w.heap.size, 0, none⟩ = some (.int .u64 v) ∧ wx.cell? ⟨w.heap.size, 1, none⟩ = some (.bool h) ∧ wx.cell? ⟨w.heap.size, 2, none⟩ = some (.int .i64 o) ∧ wx.cell? ⟨w.heap.size + 1, 0, none⟩ = some (.int .u64 v) ∧ wx.cell? ⟨w.heap.size + 1, 1, none⟩ = some (.bool h) ∧ wx.cell? ⟨w.heap.size + 1, 2, none⟩ = some (.int .i64 o')) := fun wx ho =>
    ⟨ho, b1.only ho (fun e => e), b2.only ho (fun e => e), (b1.only ho (fun e => e)).cell 0, (b1.only ho (fun e => e)).cell 1, (b1.only ho (fun e => e)).cell 2, (b2.only ho (fun e => e)).cell 0, (b2.only ho (fun e => e)).cell 1, (b2.only ho (fun e => e)).cell 2⟩
  have HB := hide hw0
  clear hb b1 b2 hw0
  go_wp2_with fail
  have tok1 : True := trivial
  go_region_held3 (fun w' => Only Nob w0 w' ∧ Blk w' w.heap.size 49 #[.int .u64 v, .bool h, .int .i64 o] ∧ Blk w' (w.heap.size + 1) 49 #[.int .u64 v, .bool h, .int .i64 o'] ∧ w'.cell? ⟨w.heap.size, 0, none⟩ = some (.int .u64 v) ∧ w'.cell? ⟨w.heap.size, 1, none⟩ = some (.bool h) ∧ w'.cell? ⟨w.heap.size, 2, none⟩ = some (.int .i64 o) ∧ w'.cell? ⟨w.heap.size + 1, 0, none⟩ = some (.int .u64 v) ∧ w'.cell? ⟨w.heap.size + 1, 1, none⟩ = some (.bool h) ∧ w'.cell? ⟨w.heap.size + 1, 2, none⟩ = some (.int .i64 o'))
    (first | exact HS.out _ (Only.refl _ _).drew | exact HS.out _ (((Only.refl _ _).drew.trans honA)) | exact HS.out _ ((((Only.refl _ _).drew.trans honA).trans honB)))
    (first
      | (go_at_call 23; have _t := tok1; refine (bytes_any _ _ _ _ h0).mono ?_; rintro e wA ⟨rfl, honA⟩; clear tok1)
      | (go_at_call 23; refine (bytes_any _ _ _ _ h0').mono ?_; rintro e wB ⟨rfl, honB⟩))
  have hsz2 := honA.size
  have hsz3 := honB.size
  obtain ⟨ho, b1, b2, c10, c11, c12, c20, c21, c22⟩ := HS.out _ (((Only.refl _ _).drew.trans honA).trans honB)
  have HO := hide ho
  have hl1 := b1.lt
  have hl2 := b2.lt
  have hk1 : w.heap.size < wB.heap.size + 1 := by omega
  have hj1 : w.heap.size + 1 < wB.heap.size + 1 := by omega
  have hk2 : w.heap.size < wB.heap.size + 1 + 1 := by omega
  have hj2 : w.heap.size + 1 < wB.heap.size + 1 + 1 := by omega
  have hk3 : w.heap.size < wB.heap.size + 1 + 1 + 1 := by omega
  have hj3 : w.heap.size + 1 < wB.heap.size + 1 + 1 + 1 := by omega
  have hk4 : w.heap.size < wB.heap.size + 1 + 1 + 1 + 1 := by omega
  have hj4 : w.heap.size + 1 < wB.heap.size + 1 + 1 + 1 + 1 := by omega
  have hk5 : w.heap.size < wB.heap.size + 1 + 1 + 1 + 1 + 1 := by omega
  have hj5 : w.heap.size + 1 < wB.heap.size + 1 + 1 + 1 + 1 + 1 := by omega
  have hk6 : w.heap.size < wB.heap.size + 1 + 1 + 1 + 1 + 1 + 1 := by omega
  have hj6 : w.heap.size + 1 < wB.heap.size + 1 + 1 + 1 + 1 + 1 + 1 := by omega
  have hk7 : w.heap.size < wB.heap.size + 1 + 1 + 1 + 1 + 1 + 1 + 1 := by omega
  have hj7 : w.heap.size + 1 < wB.heap.size + 1 + 1 + 1 + 1 + 1 + 1 + 1 := by omega
  have hk8 : w.heap.size < wB.heap.size + 1 + 1 + 1 + 1 + 1 + 1 + 1 + 1 := by omega
  have hj8 : w.heap.size + 1 < wB.heap.size + 1 + 1 + 1 + 1 + 1 + 1 + 1 + 1 := by omega
  clear ho b1 b2 honA honB HS
  go_wp2_with (go_at_call 25; refine (is_any _ _ _ _).mono ?_; rintro e w1 ⟨rfl, rfl⟩)
  refine (read_nine _ _ hz'.out).mono ?_
  rintro e w1 ⟨j, rfl, rfl⟩
  go_wp2_with fail
  refine (read_short _ _ ?_ ?_).mono ?_
  · rw [ByteArray.size_append, hz'.out]; decide
  · rw [ByteArray.size_append, hz'.out]; unfold maxLen; decide
  rintro e w1 ⟨rfl, rfl⟩
  clear r0 r1 r2 r3
  go_wp2_with fail
  go_ret
  refine ⟨rfl, HB.out.trans (Below.mono (Only.new ?_) HB.out.size)⟩
  repeat' (first | (with_reducible exact HO.out) | (with_reducible refine Only.setCell ?_ ?_ _) | (with_reducible refine Only.alloc ?_ _) | (with_reducible refine Only.drewN ?_ _) | (with_reducible refine Only.drew ?_) | (right; simp; done) | (right; simp; omega))

set_option maxHeartbeats 600000 in
theorem back_same (v o : Int) (h : Bool) (w : World) (h0 : 0 ≤ v) (hi : isB v h o = true) :
    Calls Try.prog 11 #[.agg #[.int .u64 v, .bool h, .int .i64 o], .agg #[.int .u64 v, .bool h, .int .i64 o]] w fun e w' => e = .returned (.bool true) ∧ Below w.heap.size w w' := by
  have h0' := h0
  have e1 : bytesOf v h o = lockStr v (tagOf h o) := by simp [bytesOf, hi]
  obtain ⟨r0, r1, r2, r3⟩ := read_back v o h hi h0
  have hz := size_lock v (tagOf h o)
  have hz' := hide hz
  go_enter Try.func11, Try.ntmps11
  go_wp2_with fail
  refine (lck_runs _).mono ?_
  rintro e w0 ⟨rfl, hb⟩
  have hsz := hb.size
  simp at hsz
  have b1 : Blk w0 w.heap.size 49 #[.int .u64 v, .bool h, .int .i64 o] := ((Blk.new' rfl).alloc _).below hb (by simp; omega)
  have b2 : Blk w0 (w.heap.size + 1) 49 #[.int .u64 v, .bool h, .int .i64 o] := (Blk.new' (by simp)).below hb (by simp)
  have hw0 : Below w.heap.size w w0 := (((Below.refl _ _).alloc (Nat.le_refl _) _).alloc (by simp) _).trans (hb.mono (by simp; omega))
  have HS : Hid (∀ wx, Only Nob w0 wx → Only Nob w0 wx ∧ Blk wx w.heap.size 49 #[.int .u64 v, .bool h, .int .i64 o] ∧ Blk wx (w.heap.size + 1) 49 #[.int .u64 v, .bool h, .int .i64 o] ∧ wx.cell? ⟨w.heap.size, 0, none⟩ = some (.int .u64 v) ∧ wx.cell? ⟨w.heap.size, 1, none⟩ = some (.bool h) ∧ wx.cell? ⟨w.heap.size, 2, none⟩ = some (.int .i64 o) ∧ wx.cell? ⟨w.heap.size + 1, 0, none⟩ = some (.int .u64 v) ∧ wx.cell? ⟨w.heap.size + 1, 1, none⟩ = some (.bool h) ∧ wx.cell? ⟨w.heap.size + 1, 2, none⟩ = some (.int .i64 o)) := fun wx ho =>
    ⟨ho, b1.only ho (fun e => e), b2.only ho (fun e => e), (b1.only ho (fun e => e)).cell 0, (b1.only ho (fun e => e)).cell 1, (b1.only ho (fun e => e)).cell 2, (b2.only ho (fun e => e)).cell 0, (b2.only ho (fun e => e)).cell 1, (b2.only ho (fun e => e)).cell 2⟩
  have HB := hide hw0
  clear hb b1 b2 hw0
  go_wp2_with fail
  have tok1 : True := trivial
  go_region_held3 (fun w' => Only Nob w0 w' ∧ Blk w' w.heap.size 49 #[.int .u64 v, .bool h, .int .i64 o] ∧ Blk w' (w.heap.size + 1) 49 #[.int .u64 v, .bool h, .int .i64 o] ∧ w'.cell? ⟨w.heap.size, 0, none⟩ = some (.int .u64 v) ∧ w'.cell? ⟨w.heap.size, 1, none⟩ = some (.bool h) ∧ w'.cell? ⟨w.heap.size, 2, none⟩ = some (.int .i64 o) ∧ w'.cell? ⟨w.heap.size + 1, 0, none⟩ = some (.int .u64 v) ∧ w'.cell? ⟨w.heap.size + 1, 1, none⟩ = some (.bool h) ∧ w'.cell? ⟨w.heap.size + 1, 2, none⟩ = some (.int .i64 o))
    (first | exact HS.out _ (Only.refl _ _).drew | exact HS.out _ (((Only.refl _ _).drew.trans honA)) | exact HS.out _ ((((Only.refl _ _).drew.trans honA).trans honB)))
    (first
      | (go_at_call 23; have _t := tok1; refine (bytes_any _ _ _ _ h0).mono ?_; rintro e wA ⟨rfl, honA⟩; clear tok1)
      | (go_at_call 23; refine (bytes_any _ _ _ _ h0').mono ?_; rintro e wB ⟨rfl, honB⟩))
  have hsz2 := honA.size
  have hsz3 := honB.size
  obtain ⟨ho, b1, b2, c10, c11, c12, c20, c21, c22⟩ := HS.out _ (((Only.refl _ _).drew.trans honA).trans honB)
  have HO := hide ho
  have hl1 := b1.lt
  have hl2 := b2.lt
  have hk1 : w.heap.size < wB.heap.size + 1 := by omega
  have hj1 : w.heap.size + 1 < wB.heap.size + 1 := by omega
  have hk2 : w.heap.size < wB.heap.size + 1 + 1 := by omega
  have hj2 : w.heap.size + 1 < wB.heap.size + 1 + 1 := by omega
  have hk3 : w.heap.size < wB.heap.size + 1 + 1 + 1 := by omega
  have hj3 : w.heap.size + 1 < wB.heap.size + 1 + 1 + 1 := by omega
  have hk4 : w.heap.size < wB.heap.size + 1 + 1 + 1 + 1 := by omega
  have hj4 : w.heap.size + 1 < wB.heap.size + 1 + 1 + 1 + 1 := by omega
  have hk5 : w.heap.size < wB.heap.size + 1 + 1 + 1 + 1 + 1 := by omega
  have hj5 : w.heap.size + 1 < wB.heap.size + 1 + 1 + 1 + 1 + 1 := by omega
  have hk6 : w.heap.size < wB.heap.size + 1 + 1 + 1 + 1 + 1 + 1 := by omega
  have hj6 : w.heap.size + 1 < wB.heap.size + 1 + 1 + 1 + 1 + 1 + 1 := by omega
  have hk7 : w.heap.size < wB.heap.size + 1 + 1 + 1 + 1 + 1 + 1 + 1 := by omega
  have hj7 : w.heap.size + 1 < wB.heap.size + 1 + 1 + 1 + 1 + 1 + 1 + 1 := by omega
  have hk8 : w.heap.size < wB.heap.size + 1 + 1 + 1 + 1 + 1 + 1 + 1 + 1 := by omega
  have hj8 : w.heap.size + 1 < wB.heap.size + 1 + 1 + 1 + 1 + 1 + 1 + 1 + 1 := by omega
  clear ho b1 b2 honA honB HS
  go_wp2_with (go_at_call 25; refine (is_any _ _ _ _).mono ?_; rintro e w1 ⟨rfl, rfl⟩)
  refine (read_nine _ _ hz'.out).mono ?_
  rintro e w1 ⟨j, rfl, rfl⟩
  go_wp2_with fail
  refine (read_short _ _ ?_ ?_).mono ?_
  · rw [ByteArray.size_append, hz'.out]; decide
  · rw [ByteArray.size_append, hz'.out]; unfold maxLen; decide
  rintro e w1 ⟨rfl, rfl⟩
  clear r0 r1 r2 r3
  go_wp2_with fail
  go_ret
  refine ⟨rfl, HB.out.trans (Below.mono (Only.new ?_) HB.out.size)⟩
  repeat' (first | (with_reducible exact HO.out) | (with_reducible refine Only.setCell ?_ ?_ _) | (with_reducible refine Only.alloc ?_ _) | (with_reducible refine Only.drewN ?_ _) | (with_reducible refine Only.drew ?_) | (right; simp; done) | (right; simp; omega))

theorem lck_back (v o v' o' : Int) (h h' : Bool) (w : World) (h0 : 0 ≤ v) (h0' : 0 ≤ v') :
    Calls Try.prog 11 #[.agg #[.int .u64 v, .bool h, .int .i64 o], .agg #[.int .u64 v', .bool h', .int .i64 o']] w fun e w' => e = .returned (.bool true) ∧ Below w.heap.size w w' := by
  rcases (by cases isB v h o <;> simp : isB v h o = true ∨ isB v h o = false) with hi | hi
  · by_cases hv : v = v'
    · subst hv
      by_cases hh : h = h'
      · subst hh
        by_cases ho : o = o'
        · subst ho
          exact back_same v o h w h0 hi
        · exact back_o v o o' h w h0 hi ho
      · exact back_h v o o' h h' w h0 hi hh
    · exact back_v v o v' o' h h' w h0 h0' hi hv
  · exact back_no v o v' o' h h' w h0 h0' hi

theorem lck_back_w (v : Int) (h : Bool) (o : Int) (h0 : 0 ≤ v) (v' : Int) (h' : Bool) (o' : Int) (h0' : 0 ≤ v') (w : World) :
    Calls Try.prog 11 #[.agg #[.int .u64 v, .bool h, .int .i64 o], .agg #[.int .u64 v', .bool h', .int .i64 o']] w fun e w' => e = .returned (.bool true) ∧ Below w.heap.size w w' :=
  lck_back v o v' o' h h' w h0 h0'
end Go.Proofs.Ytpgmcmdcdkajjaa
