/-
  The law LockTells: its last statement, a region that draws its order, walked alone.
-/
import Derived.Test.YtpgmcmdcdkajjaaLckBack
namespace Go.Proofs.Ytpgmcmdcdkajjaa
open Go.RowKit

/-- The first region of this number in a code. -/
def findRegion (n : Nat) : Code → Option Code
  | .region id ops d => if id = n then some (.region id ops d) else none
  | .seq a b => match findRegion n a with
    | some c => some c
    | none => findRegion n b
  | .block _ c => findRegion n c
  | .loop c => findRegion n c
  | .scope c => findRegion n c
  | .cond _ a b => match findRegion n a with
    | some c => some c
    | none => findRegion n b
  | _ => none
noncomputable def reg10_13 : Code := ((Try.f10.body.bind (findRegion 13)).getD .skip)

theorem is_only (v o : Int) (h : Bool) (w : World) : Calls Try.prog 25 #[.agg #[.int .u64 v, .bool h, .int .i64 o]] w fun e w' => e = .returned (.bool (isB v h o)) ∧ Only Nob w w' := by
  refine (is_any v h o w).mono ?_
  rintro e w' ⟨rfl, rfl⟩
  exact ⟨rfl, (Only.refl _ _).alloc _⟩
theorem ref_is_only (v o : Int) (h : Bool) (w : World) : Calls Try.prog 31 #[.agg #[.int .u64 v, .bool h, .int .i64 o]] w fun e w' => e = .returned (.bool (isB v h o)) ∧ Only Nob w w' := by
  refine (ref_is_any v h o w).mono ?_
  rintro e w' ⟨rfl, rfl⟩
  exact ⟨rfl, (Only.refl _ _).alloc _⟩
theorem fits_only (v o n : Int) (h : Bool) (w : World) : Calls Try.prog 24 #[.agg #[.int .u64 v, .bool h, .int .i64 o], .int .u64 n] w fun e w' => e = .returned (.bool (fitsB v h o n)) ∧ Only Nob w w' := by
  refine (fits_any v o n h w).mono ?_
  rintro e w' ⟨rfl, rfl⟩
  exact ⟨rfl, ((Only.refl _ _).alloc _).alloc _⟩
theorem ref_fits_only (v o n : Int) (h : Bool) (w : World) : Calls Try.prog 32 #[.agg #[.int .u64 v, .bool h, .int .i64 o], .int .u64 n] w fun e w' => e = .returned (.bool (fitsB v h o n)) ∧ Only Nob w w' := by
  refine (ref_fits_any v o n h w).mono ?_
  rintro e w' ⟨rfl, rfl⟩
  exact ⟨rfl, ((Only.refl _ _).alloc _).alloc _⟩

set_option maxRecDepth 1000000 in
set_option maxHeartbeats 4000000 in
theorem tells_last (v o n x q : Int) (h f b : Bool) (g4 g21 g23 : Nat) (W0 : World) (h0 : 0 ≤ v) (b4 : Blk W0 g4 49 #[.int .u64 v, .bool h, .int .i64 o]) (b21 : Blk W0 g21 49 #[.int .u64 x, .bool f, .int .i64 q]) (b23 : Blk W0 g23 49 #[.int .u64 x, .bool f, .int .i64 q])
    (Q : Exit → Act → World → Prop) (u0 u2 u3 u5 u6 u7 u9 u10 u11 u12 u13 u14 u15 u16 u17 u18 u19 u20 u25 u26 u27 u28 u29 u30 u31 u32 u33 u34 u35 u36 u37 u38 u39 u40 u41 u42 u43 u44 u45 u46 u47 u48 u49 u50 u51 u52 u53 u54 u55 u56 u57 u58 u59 u60 u61 u62 u63 u64 u65 u66 u67 u68 u69 u70 u71 u72 u73 u74 u75 u76 u77 u78 u79 u80 u81 u82 u83 u84 u85 u86 u87 u88 u89 u90 u91 u92 u93 u94 u95 u96 u97 u98 u8 y99 y100 y101 y102 y103 y104 y105 y106 y107 y108 y109 y110 y111 y112 y113 y114 y115 y116 y117 y118 y119 y120 y121 y122 y123 y124 y125 y126 y127 y128 y129 : Value)
    (hQ : ∀ (z99 z100 z101 z102 z103 z104 z105 z106 z107 z108 z109 z110 z111 z112 z113 z114 z115 z116 z117 z118 z119 z120 z121 z122 z123 z124 z125 z126 z127 z128 z129 : Value) (w' : World), Only Nob W0 w' → Q .normal ⟨#[u0, .int .u64 n, u2, u3, .pointer (some ⟨g4, 0, none⟩), u5, u6, u7, .bool true, u9, u10, u11, u12, u13, u14, u15, u16, u17, u18, u19, u20, .pointer (some ⟨g21, 0, none⟩), .bool b, .pointer (some ⟨g23, 0, none⟩), .bool b, u25, u26, u27, u28, u29, u30, u31, u32, u33, u34, u35, u36, u37, u38, u39, u40, u41, u42, u43, u44, u45, u46, u47, u48, u49, u50, u51, u52, u53, u54, u55, u56, u57, u58, u59, u60, u61, u62, u63, u64, u65, u66, u67, u68, u69, u70, u71, u72, u73, u74, u75, u76, u77, u78, u79, u80, u81, u82, u83, u84, u85, u86, u87, u88, u89, u90, u91, u92, u93, u94, u95, u96, u97, u98, z99, z100, z101, z102, z103, z104, z105, z106, z107, z108, z109, z110, z111, z112, z113, z114, z115, z116, z117, z118, z119, z120, z121, z122, z123, z124, z125, z126, z127, z128, z129], []⟩ w') :
    Code.wp Try.prog reg10_13 Q ⟨#[u0, .int .u64 n, u2, u3, .pointer (some ⟨g4, 0, none⟩), u5, u6, u7, u8, u9, u10, u11, u12, u13, u14, u15, u16, u17, u18, u19, u20, .pointer (some ⟨g21, 0, none⟩), .bool b, .pointer (some ⟨g23, 0, none⟩), .bool b, u25, u26, u27, u28, u29, u30, u31, u32, u33, u34, u35, u36, u37, u38, u39, u40, u41, u42, u43, u44, u45, u46, u47, u48, u49, u50, u51, u52, u53, u54, u55, u56, u57, u58, u59, u60, u61, u62, u63, u64, u65, u66, u67, u68, u69, u70, u71, u72, u73, u74, u75, u76, u77, u78, u79, u80, u81, u82, u83, u84, u85, u86, u87, u88, u89, u90, u91, u92, u93, u94, u95, u96, u97, u98, y99, y100, y101, y102, y103, y104, y105, y106, y107, y108, y109, y110, y111, y112, y113, y114, y115, y116, y117, y118, y119, y120, y121, y122, y123, y124, y125, y126, y127, y128, y129], []⟩ W0 := by
  have HS : Hid (∀ w', Only Nob W0 w' → Only Nob W0 w' ∧ Blk w' g4 49 #[.int .u64 v, .bool h, .int .i64 o] ∧ Blk w' g21 49 #[.int .u64 x, .bool f, .int .i64 q] ∧ Blk w' g23 49 #[.int .u64 x, .bool f, .int .i64 q] ∧ w'.cell? ⟨g4, 0, none⟩ = some (.int .u64 v) ∧ w'.cell? ⟨g4, 1, none⟩ = some (.bool h) ∧ w'.cell? ⟨g4, 2, none⟩ = some (.int .i64 o) ∧ w'.cell? ⟨g21, 0, none⟩ = some (.int .u64 x) ∧ w'.cell? ⟨g21, 1, none⟩ = some (.bool f) ∧ w'.cell? ⟨g21, 2, none⟩ = some (.int .i64 q) ∧ w'.cell? ⟨g23, 0, none⟩ = some (.int .u64 x) ∧ w'.cell? ⟨g23, 1, none⟩ = some (.bool f) ∧ w'.cell? ⟨g23, 2, none⟩ = some (.int .i64 q)) := fun wx ho =>
    ⟨ho, b4.only ho (fun e => e), b21.only ho (fun e => e), b23.only ho (fun e => e), (b4.only ho (fun e => e)).cell 0, (b4.only ho (fun e => e)).cell 1, (b4.only ho (fun e => e)).cell 2,
      (b21.only ho (fun e => e)).cell 0, (b21.only ho (fun e => e)).cell 1, (b21.only ho (fun e => e)).cell 2, (b23.only ho (fun e => e)).cell 0, (b23.only ho (fun e => e)).cell 1, (b23.only ho (fun e => e)).cell 2⟩
  have HK : Hid (∀ wx w', Only Nob wx w' → (Only Nob W0 wx ∧ Blk wx g4 49 #[.int .u64 v, .bool h, .int .i64 o] ∧ Blk wx g21 49 #[.int .u64 x, .bool f, .int .i64 q] ∧ Blk wx g23 49 #[.int .u64 x, .bool f, .int .i64 q] ∧ wx.cell? ⟨g4, 0, none⟩ = some (.int .u64 v) ∧ wx.cell? ⟨g4, 1, none⟩ = some (.bool h) ∧ wx.cell? ⟨g4, 2, none⟩ = some (.int .i64 o) ∧ wx.cell? ⟨g21, 0, none⟩ = some (.int .u64 x) ∧ wx.cell? ⟨g21, 1, none⟩ = some (.bool f) ∧ wx.cell? ⟨g21, 2, none⟩ = some (.int .i64 q) ∧ wx.cell? ⟨g23, 0, none⟩ = some (.int .u64 x) ∧ wx.cell? ⟨g23, 1, none⟩ = some (.bool f) ∧ wx.cell? ⟨g23, 2, none⟩ = some (.int .i64 q)) → Only Nob W0 w' ∧ Blk w' g4 49 #[.int .u64 v, .bool h, .int .i64 o] ∧ Blk w' g21 49 #[.int .u64 x, .bool f, .int .i64 q] ∧ Blk w' g23 49 #[.int .u64 x, .bool f, .int .i64 q] ∧ w'.cell? ⟨g4, 0, none⟩ = some (.int .u64 v) ∧ w'.cell? ⟨g4, 1, none⟩ = some (.bool h) ∧ w'.cell? ⟨g4, 2, none⟩ = some (.int .i64 o) ∧ w'.cell? ⟨g21, 0, none⟩ = some (.int .u64 x) ∧ w'.cell? ⟨g21, 1, none⟩ = some (.bool f) ∧ w'.cell? ⟨g21, 2, none⟩ = some (.int .i64 q) ∧ w'.cell? ⟨g23, 0, none⟩ = some (.int .u64 x) ∧ w'.cell? ⟨g23, 1, none⟩ = some (.bool f) ∧ w'.cell? ⟨g23, 2, none⟩ = some (.int .i64 q)) := by
    rintro wx wy ho ⟨h1, -⟩
    exact HS.out wy (h1.trans ho)
  have HS0 := HS.out W0.drew (Only.refl _ _).drew
  have HQ := hide hQ
  clear b4 b21 b23 hQ
  conv => arg 2; whnf
  go_region_held3 (fun w' => Only Nob W0 w' ∧ Blk w' g4 49 #[.int .u64 v, .bool h, .int .i64 o] ∧ Blk w' g21 49 #[.int .u64 x, .bool f, .int .i64 q] ∧ Blk w' g23 49 #[.int .u64 x, .bool f, .int .i64 q] ∧ w'.cell? ⟨g4, 0, none⟩ = some (.int .u64 v) ∧ w'.cell? ⟨g4, 1, none⟩ = some (.bool h) ∧ w'.cell? ⟨g4, 2, none⟩ = some (.int .i64 o) ∧ w'.cell? ⟨g21, 0, none⟩ = some (.int .u64 x) ∧ w'.cell? ⟨g21, 1, none⟩ = some (.bool f) ∧ w'.cell? ⟨g21, 2, none⟩ = some (.int .i64 q) ∧ w'.cell? ⟨g23, 0, none⟩ = some (.int .u64 x) ∧ w'.cell? ⟨g23, 1, none⟩ = some (.bool f) ∧ w'.cell? ⟨g23, 2, none⟩ = some (.int .i64 q))
    (first
      | exact HK.out _ _ honF (by assumption) | exact HK.out _ _ honE (by assumption) | exact HK.out _ _ honD (by assumption)
      | exact HK.out _ _ honC (by assumption) | exact HK.out _ _ honB (by assumption) | exact HK.out _ _ honA (by assumption)
      | exact HS0)
    (first
      | (go_at_call 25; refine (is_only _ _ _ _).mono ?_; rintro e wA ⟨rfl, honA⟩)
      | (go_at_call 31; refine (ref_is_only _ _ _ _).mono ?_; rintro e wB ⟨rfl, honB⟩)
      | (go_at_call 24; refine (fits_only _ _ _ _ _).mono ?_; rintro e wC ⟨rfl, honC⟩)
      | (go_at_call 32; refine (ref_fits_only _ _ _ _ _).mono ?_; rintro e wD ⟨rfl, honD⟩)
      | (go_at_call 23; refine (bytes_any _ _ _ _ h0).mono ?_; rintro e wE ⟨rfl, honE⟩)
      | (go_at_call 33; refine (ref_bytes_any _ _ _ _ h0).mono ?_; rintro e wF ⟨rfl, honF⟩))
  have ho : Only Nob W0 wF := ((((((Only.refl _ _).drew.trans honA).trans honB).trans honC).trans honD).trans honE).trans honF
  exact HQ.out _ _ _ _ _ _ _ _ _ _ _ _ _ _ _ _ _ _ _ _ _ _ _ _ _ _ _ _ _ _ _ wF ho
end Go.Proofs.Ytpgmcmdcdkajjaa

