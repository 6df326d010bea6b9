/-
  The contract of the reference's Copy: another memory whose clock stands alike.
-/
import Derived.Test.YtpgmcmdcdkajjaaMemNew
import Derived.Test.YtpgmcmdcdkajjaaWords
namespace Go.Proofs.Ytpgmcmdcdkajjaa
open Go.RowKit

theorem info24 : (Try.prog.info? 24).map (fun i => (i.zero, i.size, i.bytes)) = some (some (.int .u64 0), 1, 8) := by kernel_rfl
theorem info49 : (Try.prog.info? 49).map (fun i => (i.zero, i.size, i.bytes)) = some (some (.agg #[.int .u64 0, .bool false, .int .i64 0]), 3, 24) := by kernel_rfl

/-- What Copy leaves. -/
def CopyPost (w : World) (n : Int) (e : Ending) (w' : World) : Prop := ∃ m X, e = .returned (.pointer (some ⟨m, 0, none⟩)) ∧ w.heap.size ≤ m ∧ Only Nob w w' ∧ MemAt X w' m n

set_option maxRecDepth 100000 in
set_option maxHeartbeats 4000000 in
theorem mem_copy (m : Nat) (n : Int) (w0 : World) (h : MemFull w0 m n) : Calls Try.prog 19 #[.pointer (some ⟨m, 0, none⟩)] w0 (CopyPost w0 n) := by
  obtain ⟨⟨xa, xb, xc, xd, xe, xW, xL, xS⟩, gW, gL, gS, ⟨k, hb⟩, eW, eL, eS, ⟨cW, bW, sW, oW⟩, ⟨cL, bL, sL, oL⟩, ⟨cS, bS, sS, oS⟩⟩ := h
  simp only at eW eL eS hb
  subst eW eL eS
  simp only [memCells] at hb
  obtain ⟨i1, hi1, hz1, hz1s, hz1b⟩ := info_parts info24
  obtain ⟨i2, hi2, hz2, hz2s, hz2b⟩ := info_parts info49
  have hS0 : Only Nob w0 w0.drew ∧ Blk w0.drew gW 24 cW ∧ Blk w0.drew gL 49 cL ∧ Blk w0.drew gS 24 cS ∧ w0.drew.cell? ⟨m, 0, none⟩ = some (.int .i64 xa) ∧ w0.drew.cell? ⟨m, 1, none⟩ = some (.int .i64 xb) ∧ w0.drew.cell? ⟨m, 2, none⟩ = some (.int .i64 xc) ∧ w0.drew.cell? ⟨m, 3, none⟩ = some (.int .i64 xd) ∧ w0.drew.cell? ⟨m, 4, none⟩ = some (.int .u64 xe) ∧ w0.drew.cell? ⟨m, 5, none⟩ = some (.slice (some ⟨gW, 0, none⟩) 32 32) ∧ w0.drew.cell? ⟨m, 6, none⟩ = some (.slice (some ⟨gL, 0, none⟩) 1 1) ∧ w0.drew.cell? ⟨m, 7, none⟩ = some (.int .u64 n) ∧ w0.drew.cell? ⟨m, 8, none⟩ = some (.slice (some ⟨gS, 0, none⟩) 1 1) ∧ w0.drew.cell? ⟨m, 9, none⟩ = some (.int .i64 k) :=
    ⟨(Only.refl _ _).drew, bW.drew, bL.drew, bS.drew, hb.cell 0, hb.cell 1, hb.cell 2, hb.cell 3, hb.cell 4, hb.cell 5, hb.cell 6, hb.cell 7, hb.cell 8, hb.cell 9⟩
  have HK : Hid (∀ wx wy, Only Nob wx wy → (Only Nob w0 wx ∧ Blk wx gW 24 cW ∧ Blk wx gL 49 cL ∧ Blk wx gS 24 cS ∧ wx.cell? ⟨m, 0, none⟩ = some (.int .i64 xa) ∧ wx.cell? ⟨m, 1, none⟩ = some (.int .i64 xb) ∧ wx.cell? ⟨m, 2, none⟩ = some (.int .i64 xc) ∧ wx.cell? ⟨m, 3, none⟩ = some (.int .i64 xd) ∧ wx.cell? ⟨m, 4, none⟩ = some (.int .u64 xe) ∧ wx.cell? ⟨m, 5, none⟩ = some (.slice (some ⟨gW, 0, none⟩) 32 32) ∧ wx.cell? ⟨m, 6, none⟩ = some (.slice (some ⟨gL, 0, none⟩) 1 1) ∧ wx.cell? ⟨m, 7, none⟩ = some (.int .u64 n) ∧ wx.cell? ⟨m, 8, none⟩ = some (.slice (some ⟨gS, 0, none⟩) 1 1) ∧ wx.cell? ⟨m, 9, none⟩ = some (.int .i64 k)) → Only Nob w0 wy ∧ Blk wy gW 24 cW ∧ Blk wy gL 49 cL ∧ Blk wy gS 24 cS ∧ wy.cell? ⟨m, 0, none⟩ = some (.int .i64 xa) ∧ wy.cell? ⟨m, 1, none⟩ = some (.int .i64 xb) ∧ wy.cell? ⟨m, 2, none⟩ = some (.int .i64 xc) ∧ wy.cell? ⟨m, 3, none⟩ = some (.int .i64 xd) ∧ wy.cell? ⟨m, 4, none⟩ = some (.int .u64 xe) ∧ wy.cell? ⟨m, 5, none⟩ = some (.slice (some ⟨gW, 0, none⟩) 32 32) ∧ wy.cell? ⟨m, 6, none⟩ = some (.slice (some ⟨gL, 0, none⟩) 1 1) ∧ wy.cell? ⟨m, 7, none⟩ = some (.int .u64 n) ∧ wy.cell? ⟨m, 8, none⟩ = some (.slice (some ⟨gS, 0, none⟩) 1 1) ∧ wy.cell? ⟨m, 9, none⟩ = some (.int .i64 k)) := by
    rintro wx wy ho ⟨h1, h2, h3, h4, c0, c1, c2, c3, c4, c5, c6, c7, c8, c9⟩
    have hl : m < wx.heap.size := by
      have := hb.lt
      have := h1.size
      omega
    exact ⟨h1.trans ho, h2.only ho (fun e => e), h3.only ho (fun e => e), h4.only ho (fun e => e), (ho.cell (p := ⟨m, 0, none⟩) hl (fun e => e)).trans c0, (ho.cell (p := ⟨m, 1, none⟩) hl (fun e => e)).trans c1, (ho.cell (p := ⟨m, 2, none⟩) hl (fun e => e)).trans c2, (ho.cell (p := ⟨m, 3, none⟩) hl (fun e => e)).trans c3, (ho.cell (p := ⟨m, 4, none⟩) hl (fun e => e)).trans c4, (ho.cell (p := ⟨m, 5, none⟩) hl (fun e => e)).trans c5, (ho.cell (p := ⟨m, 6, none⟩) hl (fun e => e)).trans c6, (ho.cell (p := ⟨m, 7, none⟩) hl (fun e => e)).trans c7, (ho.cell (p := ⟨m, 8, none⟩) hl (fun e => e)).trans c8, (ho.cell (p := ⟨m, 9, none⟩) hl (fun e => e)).trans c9⟩
  clear hb bW bL bS
  have HS0 := hide hS0
  clear hS0
  have hsW : Hid (cW.size = 32 * 1) := by unfold Hid; omega
  have hsL : Hid (cL.size = 1 * 3) := by unfold Hid; omega
  have hsS : Hid (cS.size = 1 * 1) := by unfold Hid; omega
  have HoW := hide oW
  have HoL := hide oL
  have HoS := hide oS
  clear oW oL oS sW sL sS
  go_enter Try.func19, Try.ntmps19
  go_wp2_with fail
  go_region_held3 (fun w' => Only Nob w0 w' ∧ Blk w' gW 24 cW ∧ Blk w' gL 49 cL ∧ Blk w' gS 24 cS ∧ w'.cell? ⟨m, 0, none⟩ = some (.int .i64 xa) ∧ w'.cell? ⟨m, 1, none⟩ = some (.int .i64 xb) ∧ w'.cell? ⟨m, 2, none⟩ = some (.int .i64 xc) ∧ w'.cell? ⟨m, 3, none⟩ = some (.int .i64 xd) ∧ w'.cell? ⟨m, 4, none⟩ = some (.int .u64 xe) ∧ w'.cell? ⟨m, 5, none⟩ = some (.slice (some ⟨gW, 0, none⟩) 32 32) ∧ w'.cell? ⟨m, 6, none⟩ = some (.slice (some ⟨gL, 0, none⟩) 1 1) ∧ w'.cell? ⟨m, 7, none⟩ = some (.int .u64 n) ∧ w'.cell? ⟨m, 8, none⟩ = some (.slice (some ⟨gS, 0, none⟩) 1 1) ∧ w'.cell? ⟨m, 9, none⟩ = some (.int .i64 k))
    (first | exact HS0.out | (exact HK.out _ _ honC (by assumption)) | (exact HK.out _ _ honB (by assumption)) | (exact HK.out _ _ honA (by assumption)) | (exact HK.out _ _ ((Only.refl _ _).alloc _) (by assumption)))
    (first
      | (refine step_copy_row rfl (.tmp 10) _ rfl 24 i1 (.int .u64 0) 1 8 Try.underlying36 hi1 hz1 hz1s hz1b rfl (by omega) gW 32 cW (by go_split_ands; assumption) hsW.out (by omega) HoW.out rfl (by unfold maxLen; omega) (by omega) ?_; intro gA cA wA honA)
      | (refine step_copy_row rfl (.tmp 15) _ rfl 49 i2 (.agg #[.int .u64 0, .bool false, .int .i64 0]) 3 24 Try.underlying37 hi2 hz2 hz2s hz2b rfl (by omega) gL 1 cL (by go_split_ands; assumption) hsL.out (by omega) HoL.out rfl (by unfold maxLen; omega) (by omega) ?_; intro gB cB wB honB)
      | (refine step_copy_row rfl (.tmp 24) _ rfl 24 i1 (.int .u64 0) 1 8 Try.underlying36 hi1 hz1 hz1s hz1b rfl (by omega) gS 1 cS (by go_split_ands; assumption) hsS.out (by omega) HoS.out rfl (by unfold maxLen; omega) (by omega) ?_; intro gC cC wC honC))
  have ho0 : Only Nob w0 wC := (((Only.refl _ _).drew.trans honA).trans honB).trans honC
  have hsz := ho0.size
  have HO := hide ho0
  clear ho0
  go_wp2
  go_ret
  refine ⟨wC.heap.size, ⟨xa, xb, xc, xd, xe, .slice (some ⟨gA, 0, none⟩) 32 cA, .slice (some ⟨gB, 0, none⟩) 1 cB, .slice (some ⟨gC, 0, none⟩) 1 cC⟩, rfl, by omega, ?_, ⟨k, ?_⟩⟩
  · exact HO.out.alloc _
  · exact Blk.new' rfl
end Go.Proofs.Ytpgmcmdcdkajjaa
