/-
  The draws' Prog: ways through a round.
  The draws' Prog: ways through a round.
-/
import Derived.Test.YtngahgfppbjebaaDoorGrpMkL
namespace Go.Proofs.YtngahgfppbjebaaDoor
open Go.RowKit
set_option linter.unusedVariables false
set_option linter.unusedSimpArgs false

set_option maxRecDepth 1000000 in
set_option maxHeartbeats 8000000 in
theorem way_26 (w : World) (b0 o0 cap : Nat) (ks : List PIns) (most : Int) (calm : Bool) (wr : World) (i : Nat) (l : List PIns) (st : List Int) (op a b c n : Int) (A1 : Option Addr) (cap1 : Nat) (C1 : Option Addr) (cap2 ll sl : Nat)
    (hk : ks.length ≤ 9223372036854775807) (hlt : i < ks.length) (hwlt : w.heap.size < wr.heap.size) (hblt : b0 < wr.heap.size)
    (i0' : wr.cell? ⟨b0, o0 + i * 5, none⟩ = some (.int .i64 op)) (i1' : wr.cell? ⟨b0, o0 + i * 5 + 1, none⟩ = some (.int .i64 a)) (i2' : wr.cell? ⟨b0, o0 + i * 5 + 2, none⟩ = some (.int .i64 b)) (i3' : wr.cell? ⟨b0, o0 + i * 5 + 3, none⟩ = some (.int .i64 c)) (i4' : wr.cell? ⟨b0, o0 + i * 5 + 4, none⟩ = some (.int .u64 n))
    (hn : 0 ≤ n ∧ n ≤ 18446744073709551615) (hmk : Making (w.alloc (.cells #[.slice none 0 0] 55)) wr (w.heap.size + 1) (.slice A1 ll cap1) (.slice C1 sl cap2) l st) (hll : l.length = ll) (hsl : st.length = sl) (hbr : (ll : Int) + 2 * sl + 5 ≤ most) (hb40 : ll + 2 * sl + 5 ≤ 40)
    (hw : winB op 0 40 = 26) (Q : Exit → Act → World → Prop) (u10 u11 u12 u13 u14 u15 u16 u17 u18 u19 u20 u21 u22 u23 u24 u25 u26 u27 u28 u29 u30 u31 u32 u33 u34 u35 u36 u37 u38 u39 u40 u41 u42 u43 u44 u45 u46 u47 u48 u49 u50 u51 u52 u53 u54 u55 u56 u57 u58 u59 u60 u61 u62 u63 u64 u65 u66 u67 u68 u69 u70 u71 u72 u73 u74 u75 u76 u77 u78 u79 u80 u81 u82 u83 u84 u85 u86 u87 u88 u89 u90 u91 u92 u93 u94 u95 u96 u97 u98 u99 u100 u101 u102 u103 u104 u105 u106 u107 u108 u109 u110 u111 u112 u113 u114 u115 u116 u117 u118 u119 u120 u121 u122 u123 u124 u125 u126 u127 u128 u129 u130 u131 u132 u133 u134 u135 u136 u137 u138 u139 u140 u141 u142 u143 u144 u145 u146 u147 u148 u149 u150 u151 u152 u153 u154 u155 u156 u157 u158 u159 u160 u161 u162 u163 u164 u165 u166 u167 u168 u169 u170 u171 u172 u173 u174 u175 u176 u177 u178 u179 u180 u181 u182 u183 u184 u185 u186 u187 u188 u189 u190 u191 u192 u193 u194 u195 u196 u197 u198 u199 u200 u201 u202 u203 u204 u205 u206 u207 : Value)
    (hN : ∀ (z10 z11 z12 z13 z14 z15 z16 z17 z18 z19 z20 z21 z22 z23 z24 z25 z26 z27 z28 z29 z30 z31 z32 z33 z34 z35 z36 z37 z38 z39 z40 z41 z42 z43 z44 z45 z46 z47 z48 z49 z50 z51 z52 z53 z54 z55 z56 z57 z58 z59 z60 z61 z62 z63 z64 z65 z66 z67 z68 z69 z70 z71 z72 z73 z74 z75 z76 z77 z78 z79 z80 z81 z82 z83 z84 z85 z86 z87 z88 z89 z90 z91 z92 z93 z94 z95 z96 z97 z98 z99 z100 z101 z102 z103 z104 z105 z106 z107 z108 z109 z110 z111 z112 z113 z114 z115 z116 z117 z118 z119 z120 z121 z122 z123 z124 z125 z126 z127 z128 z129 z130 z131 z132 z133 z134 z135 z136 z137 z138 z139 z140 z141 z142 z143 z144 z145 z146 z147 z148 z149 z150 z151 z152 z153 z154 z155 z156 z157 z158 z159 z160 z161 z162 z163 z164 z165 z166 z167 z168 z169 z170 z171 z172 z173 z174 z175 z176 z177 z178 z179 z180 z181 z182 z183 z184 z185 z186 z187 z188 z189 z190 z191 z192 z193 z194 z195 z196 z197 z198 z199 z200 z201 z202 z203 z204 z205 z206 z207 v' u' : Value) (wr' : World), Making (w.alloc (.cells #[.slice none 0 0] 55)) wr' (w.heap.size + 1) v' u' (makeAt (winB op 0 40) calm l st ⟨op, a, b, c, n⟩).1 (makeAt (winB op 0 40) calm l st ⟨op, a, b, c, n⟩).2 → Q .normal ⟨#[.slice (some ⟨b0, o0, none⟩) ks.length cap, .int .i64 most, .bool calm, undef, undef, undef, .pointer (some ⟨w.heap.size, 0, none⟩), v', u', .int .i64 (↑i + 1), z10, z11, z12, z13, z14, z15, z16, z17, z18, z19, z20, z21, z22, z23, z24, z25, z26, z27, z28, z29, z30, z31, z32, z33, z34, z35, z36, z37, z38, z39, z40, z41, z42, z43, z44, z45, z46, z47, z48, z49, z50, z51, z52, z53, z54, z55, z56, z57, z58, z59, z60, z61, z62, z63, z64, z65, z66, z67, z68, z69, z70, z71, z72, z73, z74, z75, z76, z77, z78, z79, z80, z81, z82, z83, z84, z85, z86, z87, z88, z89, z90, z91, z92, z93, z94, z95, z96, z97, z98, z99, z100, z101, z102, z103, z104, z105, z106, z107, z108, z109, z110, z111, z112, z113, z114, z115, z116, z117, z118, z119, z120, z121, z122, z123, z124, z125, z126, z127, z128, z129, z130, z131, z132, z133, z134, z135, z136, z137, z138, z139, z140, z141, z142, z143, z144, z145, z146, z147, z148, z149, z150, z151, z152, z153, z154, z155, z156, z157, z158, z159, z160, z161, z162, z163, z164, z165, z166, z167, z168, z169, z170, z171, z172, z173, z174, z175, z176, z177, z178, z179, z180, z181, z182, z183, z184, z185, z186, z187, z188, z189, z190, z191, z192, z193, z194, z195, z196, z197, z198, z199, z200, z201, z202, z203, z204, z205, z206, z207, undef, undef, undef, undef, undef, undef, undef, undef, undef, undef, undef, undef, undef, undef, undef, undef, undef, undef], []⟩ wr') :
    Code.wp Tryd.prog mkBody Q ⟨#[.slice (some ⟨b0, o0, none⟩) ks.length cap, .int .i64 most, .bool calm, undef, undef, undef, .pointer (some ⟨w.heap.size, 0, none⟩), .slice A1 ll cap1, .slice C1 sl cap2, .int .i64 i, u10, u11, u12, u13, u14, u15, u16, u17, u18, u19, u20, u21, u22, u23, u24, u25, u26, u27, u28, u29, u30, u31, u32, u33, u34, u35, u36, u37, u38, u39, u40, u41, u42, u43, u44, u45, u46, u47, u48, u49, u50, u51, u52, u53, u54, u55, u56, u57, u58, u59, u60, u61, u62, u63, u64, u65, u66, u67, u68, u69, u70, u71, u72, u73, u74, u75, u76, u77, u78, u79, u80, u81, u82, u83, u84, u85, u86, u87, u88, u89, u90, u91, u92, u93, u94, u95, u96, u97, u98, u99, u100, u101, u102, u103, u104, u105, u106, u107, u108, u109, u110, u111, u112, u113, u114, u115, u116, u117, u118, u119, u120, u121, u122, u123, u124, u125, u126, u127, u128, u129, u130, u131, u132, u133, u134, u135, u136, u137, u138, u139, u140, u141, u142, u143, u144, u145, u146, u147, u148, u149, u150, u151, u152, u153, u154, u155, u156, u157, u158, u159, u160, u161, u162, u163, u164, u165, u166, u167, u168, u169, u170, u171, u172, u173, u174, u175, u176, u177, u178, u179, u180, u181, u182, u183, u184, u185, u186, u187, u188, u189, u190, u191, u192, u193, u194, u195, u196, u197, u198, u199, u200, u201, u202, u203, u204, u205, u206, u207, undef, undef, undef, undef, undef, undef, undef, undef, undef, undef, undef, undef, undef, undef, undef, undef, undef, undef], []⟩ wr := by
  have HN := hide hN
  have HMK := hide hmk
  have HNN := hide hn
  have HLL := hide hll
  have HSL := hide hsl
  have HB40 := hide hb40
  have hl40 : ll ≤ 40 := by omega
  have hs40 : sl ≤ 20 := by omega
  have hkI : (i : Int) < (ks.length : Int) := by omega
  have hbw : b0 ≠ wr.heap.size := by omega
  have dbr : decide (most < (ll : Int) + 2 * sl + 5) = false := by simp; omega
  have tok1 : True := trivial
  have tok2 : True := trivial
  clear hN hmk hn hll hsl hb40
  conv => arg 2; whnf
  cases calm
  · by_cases h5 : 0 < sl
    · have d5 : decide (0 < sl) = true := by simpa using h5
      have d6 : decide ((0 : Int) < (sl : Int)) = true := by simp; omega
      have g5 : st ≠ [] := by intro e; have := HSL.out; rw [e] at this; simp at this; omega
      have HAT : Hid (makeAt (winB op 0 40) false l st ⟨op, a, b, c, n⟩ = (l ++ [⟨13, winB a 0 6, 0, (ll : Int) + 2, 0⟩, one 20], st)) := by unfold Hid; rw [hw]; simp [makeAt, g5, HLL.out]
      clear g5
      go_wp2_with (first
        | (go_at_call 62; refine (within_in _ _ _ _ (by decide) (by decide) (by decide)).mono ?_; rintro e wz ⟨rfl, rfl⟩)
        | (go_at_call 64; refine (reg_any _ _).mono ?_; rintro e wq ⟨rfl, rfl⟩)
        | (at_builtin; have _t := tok1; refine wpList_pushI rfl _ _ rfl HMK.out (((Only.refl Nob wr).alloc _).alloc _) [⟨13, winB a 0 6, 0, (ll : Int) + 2, 0⟩, one 20] (G := wr.heap.size + 1) (cnt := 2) (readsP2 ⟨13, winB a 0 6, 0, (ll : Int) + 2, 0⟩ (one 20) _ (by simp)) rfl rfl rfl (by have := HB40.out; have := HLL.out; omega) ?_; clear tok1; intro A2 c2 w19 hm2 hz2; have HM2 := hide hm2; clear hm2))
      exact HN.out _ _ _ _ _ _ _ _ _ _ _ _ _ _ _ _ _ _ _ _ _ _ _ _ _ _ _ _ _ _ _ _ _ _ _ _ _ _ _ _ _ _ _ _ _ _ _ _ _ _ _ _ _ _ _ _ _ _ _ _ _ _ _ _ _ _ _ _ _ _ _ _ _ _ _ _ _ _ _ _ _ _ _ _ _ _ _ _ _ _ _ _ _ _ _ _ _ _ _ _ _ _ _ _ _ _ _ _ _ _ _ _ _ _ _ _ _ _ _ _ _ _ _ _ _ _ _ _ _ _ _ _ _ _ _ _ _ _ _ _ _ _ _ _ _ _ _ _ _ _ _ _ _ _ _ _ _ _ _ _ _ _ _ _ _ _ _ _ _ _ _ _ _ _ _ _ _ _ _ _ _ _ _ _ _ _ _ _ _ _ _ _ _ _ _ _ _ _ _ _ _ (by rw [HAT.out]; exact HM2.out)
    · have d5 : decide (0 < sl) = false := by simp; omega
      have d6 : decide ((0 : Int) < (sl : Int)) = false := by simp; omega
      have g5 : st = [] := by have := HSL.out; exact List.eq_nil_of_length_eq_zero (by omega)
      have HAT : Hid (makeAt (winB op 0 40) false l st ⟨op, a, b, c, n⟩ = (l ++ [simpleP ⟨op, a, b, c, n⟩], st)) := by unfold Hid; rw [hw]; simp [makeAt, g5]
      clear g5
      go_wp2_with (first
        | (go_at_call 62; refine (within_in _ _ _ _ (by decide) (by decide) (by decide)).mono ?_; rintro e wz ⟨rfl, rfl⟩)
        | (go_at_call 65; refine (simple_lit op a b c n _ HNN.out).mono ?_; rintro e w2 ⟨rfl, ho2⟩; have hs2 : wr.heap.size + 1 ≤ w2.heap.size := Nat.le_trans (by simp) ho2.size; have hon : Only Nob wr w2 := Only.trans ((Only.refl _ _).alloc _) ho2)
        | (at_builtin; have _t := tok1; refine wpList_pushI rfl _ _ rfl HMK.out (hon.alloc _) [simpleP ⟨op, a, b, c, n⟩] (G := w2.heap.size) (cnt := 1) (readsP1 (simpleP ⟨op, a, b, c, n⟩) _ rfl) rfl rfl rfl (by have := HB40.out; have := HLL.out; omega) ?_; clear tok1; intro A2 c2 w19 hm2 hz2; have HM2 := hide hm2; clear hm2))
      exact HN.out _ _ _ _ _ _ _ _ _ _ _ _ _ _ _ _ _ _ _ _ _ _ _ _ _ _ _ _ _ _ _ _ _ _ _ _ _ _ _ _ _ _ _ _ _ _ _ _ _ _ _ _ _ _ _ _ _ _ _ _ _ _ _ _ _ _ _ _ _ _ _ _ _ _ _ _ _ _ _ _ _ _ _ _ _ _ _ _ _ _ _ _ _ _ _ _ _ _ _ _ _ _ _ _ _ _ _ _ _ _ _ _ _ _ _ _ _ _ _ _ _ _ _ _ _ _ _ _ _ _ _ _ _ _ _ _ _ _ _ _ _ _ _ _ _ _ _ _ _ _ _ _ _ _ _ _ _ _ _ _ _ _ _ _ _ _ _ _ _ _ _ _ _ _ _ _ _ _ _ _ _ _ _ _ _ _ _ _ _ _ _ _ _ _ _ _ _ _ _ _ _ (by rw [HAT.out]; exact HM2.out)
  · have HAT : Hid (makeAt (winB op 0 40) true l st ⟨op, a, b, c, n⟩ = (l ++ [simpleP ⟨op, a, b, c, n⟩], st)) := by unfold Hid; rw [hw]; simp [makeAt]
    go_wp2_with (first
      | (go_at_call 62; refine (within_in _ _ _ _ (by decide) (by decide) (by decide)).mono ?_; rintro e wz ⟨rfl, rfl⟩)
      | (go_at_call 65; refine (simple_lit op a b c n _ HNN.out).mono ?_; rintro e w2 ⟨rfl, ho2⟩; have hs2 : wr.heap.size + 1 ≤ w2.heap.size := Nat.le_trans (by simp) ho2.size; have hon : Only Nob wr w2 := Only.trans ((Only.refl _ _).alloc _) ho2)
      | (at_builtin; have _t := tok1; refine wpList_pushI rfl _ _ rfl HMK.out (hon.alloc _) [simpleP ⟨op, a, b, c, n⟩] (G := w2.heap.size) (cnt := 1) (readsP1 (simpleP ⟨op, a, b, c, n⟩) _ rfl) rfl rfl rfl (by have := HB40.out; have := HLL.out; omega) ?_; clear tok1; intro A2 c2 w19 hm2 hz2; have HM2 := hide hm2; clear hm2))
    exact HN.out _ _ _ _ _ _ _ _ _ _ _ _ _ _ _ _ _ _ _ _ _ _ _ _ _ _ _ _ _ _ _ _ _ _ _ _ _ _ _ _ _ _ _ _ _ _ _ _ _ _ _ _ _ _ _ _ _ _ _ _ _ _ _ _ _ _ _ _ _ _ _ _ _ _ _ _ _ _ _ _ _ _ _ _ _ _ _ _ _ _ _ _ _ _ _ _ _ _ _ _ _ _ _ _ _ _ _ _ _ _ _ _ _ _ _ _ _ _ _ _ _ _ _ _ _ _ _ _ _ _ _ _ _ _ _ _ _ _ _ _ _ _ _ _ _ _ _ _ _ _ _ _ _ _ _ _ _ _ _ _ _ _ _ _ _ _ _ _ _ _ _ _ _ _ _ _ _ _ _ _ _ _ _ _ _ _ _ _ _ _ _ _ _ _ _ _ _ _ _ _ _ (by rw [HAT.out]; exact HM2.out)

set_option maxRecDepth 1000000 in
set_option maxHeartbeats 8000000 in
theorem way_27 (w : World) (b0 o0 cap : Nat) (ks : List PIns) (most : Int) (calm : Bool) (wr : World) (i : Nat) (l : List PIns) (st : List Int) (op a b c n : Int) (A1 : Option Addr) (cap1 : Nat) (C1 : Option Addr) (cap2 ll sl : Nat)
    (hk : ks.length ≤ 9223372036854775807) (hlt : i < ks.length) (hwlt : w.heap.size < wr.heap.size) (hblt : b0 < wr.heap.size)
    (i0' : wr.cell? ⟨b0, o0 + i * 5, none⟩ = some (.int .i64 op)) (i1' : wr.cell? ⟨b0, o0 + i * 5 + 1, none⟩ = some (.int .i64 a)) (i2' : wr.cell? ⟨b0, o0 + i * 5 + 2, none⟩ = some (.int .i64 b)) (i3' : wr.cell? ⟨b0, o0 + i * 5 + 3, none⟩ = some (.int .i64 c)) (i4' : wr.cell? ⟨b0, o0 + i * 5 + 4, none⟩ = some (.int .u64 n))
    (hn : 0 ≤ n ∧ n ≤ 18446744073709551615) (hmk : Making (w.alloc (.cells #[.slice none 0 0] 55)) wr (w.heap.size + 1) (.slice A1 ll cap1) (.slice C1 sl cap2) l st) (hll : l.length = ll) (hsl : st.length = sl) (hbr : (ll : Int) + 2 * sl + 5 ≤ most) (hb40 : ll + 2 * sl + 5 ≤ 40)
    (hw : winB op 0 40 = 27) (Q : Exit → Act → World → Prop) (u10 u11 u12 u13 u14 u15 u16 u17 u18 u19 u20 u21 u22 u23 u24 u25 u26 u27 u28 u29 u30 u31 u32 u33 u34 u35 u36 u37 u38 u39 u40 u41 u42 u43 u44 u45 u46 u47 u48 u49 u50 u51 u52 u53 u54 u55 u56 u57 u58 u59 u60 u61 u62 u63 u64 u65 u66 u67 u68 u69 u70 u71 u72 u73 u74 u75 u76 u77 u78 u79 u80 u81 u82 u83 u84 u85 u86 u87 u88 u89 u90 u91 u92 u93 u94 u95 u96 u97 u98 u99 u100 u101 u102 u103 u104 u105 u106 u107 u108 u109 u110 u111 u112 u113 u114 u115 u116 u117 u118 u119 u120 u121 u122 u123 u124 u125 u126 u127 u128 u129 u130 u131 u132 u133 u134 u135 u136 u137 u138 u139 u140 u141 u142 u143 u144 u145 u146 u147 u148 u149 u150 u151 u152 u153 u154 u155 u156 u157 u158 u159 u160 u161 u162 u163 u164 u165 u166 u167 u168 u169 u170 u171 u172 u173 u174 u175 u176 u177 u178 u179 u180 u181 u182 u183 u184 u185 u186 u187 u188 u189 u190 u191 u192 u193 u194 u195 u196 u197 u198 u199 u200 u201 u202 u203 u204 u205 u206 u207 : Value)
    (hN : ∀ (z10 z11 z12 z13 z14 z15 z16 z17 z18 z19 z20 z21 z22 z23 z24 z25 z26 z27 z28 z29 z30 z31 z32 z33 z34 z35 z36 z37 z38 z39 z40 z41 z42 z43 z44 z45 z46 z47 z48 z49 z50 z51 z52 z53 z54 z55 z56 z57 z58 z59 z60 z61 z62 z63 z64 z65 z66 z67 z68 z69 z70 z71 z72 z73 z74 z75 z76 z77 z78 z79 z80 z81 z82 z83 z84 z85 z86 z87 z88 z89 z90 z91 z92 z93 z94 z95 z96 z97 z98 z99 z100 z101 z102 z103 z104 z105 z106 z107 z108 z109 z110 z111 z112 z113 z114 z115 z116 z117 z118 z119 z120 z121 z122 z123 z124 z125 z126 z127 z128 z129 z130 z131 z132 z133 z134 z135 z136 z137 z138 z139 z140 z141 z142 z143 z144 z145 z146 z147 z148 z149 z150 z151 z152 z153 z154 z155 z156 z157 z158 z159 z160 z161 z162 z163 z164 z165 z166 z167 z168 z169 z170 z171 z172 z173 z174 z175 z176 z177 z178 z179 z180 z181 z182 z183 z184 z185 z186 z187 z188 z189 z190 z191 z192 z193 z194 z195 z196 z197 z198 z199 z200 z201 z202 z203 z204 z205 z206 z207 v' u' : Value) (wr' : World), Making (w.alloc (.cells #[.slice none 0 0] 55)) wr' (w.heap.size + 1) v' u' (makeAt (winB op 0 40) calm l st ⟨op, a, b, c, n⟩).1 (makeAt (winB op 0 40) calm l st ⟨op, a, b, c, n⟩).2 → Q .normal ⟨#[.slice (some ⟨b0, o0, none⟩) ks.length cap, .int .i64 most, .bool calm, undef, undef, undef, .pointer (some ⟨w.heap.size, 0, none⟩), v', u', .int .i64 (↑i + 1), z10, z11, z12, z13, z14, z15, z16, z17, z18, z19, z20, z21, z22, z23, z24, z25, z26, z27, z28, z29, z30, z31, z32, z33, z34, z35, z36, z37, z38, z39, z40, z41, z42, z43, z44, z45, z46, z47, z48, z49, z50, z51, z52, z53, z54, z55, z56, z57, z58, z59, z60, z61, z62, z63, z64, z65, z66, z67, z68, z69, z70, z71, z72, z73, z74, z75, z76, z77, z78, z79, z80, z81, z82, z83, z84, z85, z86, z87, z88, z89, z90, z91, z92, z93, z94, z95, z96, z97, z98, z99, z100, z101, z102, z103, z104, z105, z106, z107, z108, z109, z110, z111, z112, z113, z114, z115, z116, z117, z118, z119, z120, z121, z122, z123, z124, z125, z126, z127, z128, z129, z130, z131, z132, z133, z134, z135, z136, z137, z138, z139, z140, z141, z142, z143, z144, z145, z146, z147, z148, z149, z150, z151, z152, z153, z154, z155, z156, z157, z158, z159, z160, z161, z162, z163, z164, z165, z166, z167, z168, z169, z170, z171, z172, z173, z174, z175, z176, z177, z178, z179, z180, z181, z182, z183, z184, z185, z186, z187, z188, z189, z190, z191, z192, z193, z194, z195, z196, z197, z198, z199, z200, z201, z202, z203, z204, z205, z206, z207, undef, undef, undef, undef, undef, undef, undef, undef, undef, undef, undef, undef, undef, undef, undef, undef, undef, undef], []⟩ wr') :
    Code.wp Tryd.prog mkBody Q ⟨#[.slice (some ⟨b0, o0, none⟩) ks.length cap, .int .i64 most, .bool calm, undef, undef, undef, .pointer (some ⟨w.heap.size, 0, none⟩), .slice A1 ll cap1, .slice C1 sl cap2, .int .i64 i, u10, u11, u12, u13, u14, u15, u16, u17, u18, u19, u20, u21, u22, u23, u24, u25, u26, u27, u28, u29, u30, u31, u32, u33, u34, u35, u36, u37, u38, u39, u40, u41, u42, u43, u44, u45, u46, u47, u48, u49, u50, u51, u52, u53, u54, u55, u56, u57, u58, u59, u60, u61, u62, u63, u64, u65, u66, u67, u68, u69, u70, u71, u72, u73, u74, u75, u76, u77, u78, u79, u80, u81, u82, u83, u84, u85, u86, u87, u88, u89, u90, u91, u92, u93, u94, u95, u96, u97, u98, u99, u100, u101, u102, u103, u104, u105, u106, u107, u108, u109, u110, u111, u112, u113, u114, u115, u116, u117, u118, u119, u120, u121, u122, u123, u124, u125, u126, u127, u128, u129, u130, u131, u132, u133, u134, u135, u136, u137, u138, u139, u140, u141, u142, u143, u144, u145, u146, u147, u148, u149, u150, u151, u152, u153, u154, u155, u156, u157, u158, u159, u160, u161, u162, u163, u164, u165, u166, u167, u168, u169, u170, u171, u172, u173, u174, u175, u176, u177, u178, u179, u180, u181, u182, u183, u184, u185, u186, u187, u188, u189, u190, u191, u192, u193, u194, u195, u196, u197, u198, u199, u200, u201, u202, u203, u204, u205, u206, u207, undef, undef, undef, undef, undef, undef, undef, undef, undef, undef, undef, undef, undef, undef, undef, undef, undef, undef], []⟩ wr := by
  have HN := hide hN
  have HMK := hide hmk
  have HNN := hide hn
  have HLL := hide hll
  have HSL := hide hsl
  have HB40 := hide hb40
  have hl40 : ll ≤ 40 := by omega
  have hs40 : sl ≤ 20 := by omega
  have hkI : (i : Int) < (ks.length : Int) := by omega
  have hbw : b0 ≠ wr.heap.size := by omega
  have dbr : decide (most < (ll : Int) + 2 * sl + 5) = false := by simp; omega
  have tok1 : True := trivial
  have tok2 : True := trivial
  clear hN hmk hn hll hsl hb40
  conv => arg 2; whnf
  cases calm
  · by_cases h5 : 0 < sl
    · have d5 : decide (0 < sl) = true := by simpa using h5
      have d6 : decide ((0 : Int) < (sl : Int)) = true := by simp; omega
      have g5 : st ≠ [] := by intro e; have := HSL.out; rw [e] at this; simp at this; omega
      have HAT : Hid (makeAt (winB op 0 40) false l st ⟨op, a, b, c, n⟩ = (l ++ [⟨13, winB a 0 6, 0, (ll : Int) + 2, 0⟩, one 20], st)) := by unfold Hid; rw [hw]; simp [makeAt, g5, HLL.out]
      clear g5
      go_wp2_with (first
        | (go_at_call 62; refine (within_in _ _ _ _ (by decide) (by decide) (by decide)).mono ?_; rintro e wz ⟨rfl, rfl⟩)
        | (go_at_call 64; refine (reg_any _ _).mono ?_; rintro e wq ⟨rfl, rfl⟩)
        | (at_builtin; have _t := tok1; refine wpList_pushI rfl _ _ rfl HMK.out (((Only.refl Nob wr).alloc _).alloc _) [⟨13, winB a 0 6, 0, (ll : Int) + 2, 0⟩, one 20] (G := wr.heap.size + 1) (cnt := 2) (readsP2 ⟨13, winB a 0 6, 0, (ll : Int) + 2, 0⟩ (one 20) _ (by simp)) rfl rfl rfl (by have := HB40.out; have := HLL.out; omega) ?_; clear tok1; intro A2 c2 w19 hm2 hz2; have HM2 := hide hm2; clear hm2))
      exact HN.out _ _ _ _ _ _ _ _ _ _ _ _ _ _ _ _ _ _ _ _ _ _ _ _ _ _ _ _ _ _ _ _ _ _ _ _ _ _ _ _ _ _ _ _ _ _ _ _ _ _ _ _ _ _ _ _ _ _ _ _ _ _ _ _ _ _ _ _ _ _ _ _ _ _ _ _ _ _ _ _ _ _ _ _ _ _ _ _ _ _ _ _ _ _ _ _ _ _ _ _ _ _ _ _ _ _ _ _ _ _ _ _ _ _ _ _ _ _ _ _ _ _ _ _ _ _ _ _ _ _ _ _ _ _ _ _ _ _ _ _ _ _ _ _ _ _ _ _ _ _ _ _ _ _ _ _ _ _ _ _ _ _ _ _ _ _ _ _ _ _ _ _ _ _ _ _ _ _ _ _ _ _ _ _ _ _ _ _ _ _ _ _ _ _ _ _ _ _ _ _ _ (by rw [HAT.out]; exact HM2.out)
    · have d5 : decide (0 < sl) = false := by simp; omega
      have d6 : decide ((0 : Int) < (sl : Int)) = false := by simp; omega
      have g5 : st = [] := by have := HSL.out; exact List.eq_nil_of_length_eq_zero (by omega)
      have HAT : Hid (makeAt (winB op 0 40) false l st ⟨op, a, b, c, n⟩ = (l ++ [simpleP ⟨op, a, b, c, n⟩], st)) := by unfold Hid; rw [hw]; simp [makeAt, g5]
      clear g5
      go_wp2_with (first
        | (go_at_call 62; refine (within_in _ _ _ _ (by decide) (by decide) (by decide)).mono ?_; rintro e wz ⟨rfl, rfl⟩)
        | (go_at_call 65; refine (simple_lit op a b c n _ HNN.out).mono ?_; rintro e w2 ⟨rfl, ho2⟩; have hs2 : wr.heap.size + 1 ≤ w2.heap.size := Nat.le_trans (by simp) ho2.size; have hon : Only Nob wr w2 := Only.trans ((Only.refl _ _).alloc _) ho2)
        | (at_builtin; have _t := tok1; refine wpList_pushI rfl _ _ rfl HMK.out (hon.alloc _) [simpleP ⟨op, a, b, c, n⟩] (G := w2.heap.size) (cnt := 1) (readsP1 (simpleP ⟨op, a, b, c, n⟩) _ rfl) rfl rfl rfl (by have := HB40.out; have := HLL.out; omega) ?_; clear tok1; intro A2 c2 w19 hm2 hz2; have HM2 := hide hm2; clear hm2))
      exact HN.out _ _ _ _ _ _ _ _ _ _ _ _ _ _ _ _ _ _ _ _ _ _ _ _ _ _ _ _ _ _ _ _ _ _ _ _ _ _ _ _ _ _ _ _ _ _ _ _ _ _ _ _ _ _ _ _ _ _ _ _ _ _ _ _ _ _ _ _ _ _ _ _ _ _ _ _ _ _ _ _ _ _ _ _ _ _ _ _ _ _ _ _ _ _ _ _ _ _ _ _ _ _ _ _ _ _ _ _ _ _ _ _ _ _ _ _ _ _ _ _ _ _ _ _ _ _ _ _ _ _ _ _ _ _ _ _ _ _ _ _ _ _ _ _ _ _ _ _ _ _ _ _ _ _ _ _ _ _ _ _ _ _ _ _ _ _ _ _ _ _ _ _ _ _ _ _ _ _ _ _ _ _ _ _ _ _ _ _ _ _ _ _ _ _ _ _ _ _ _ _ _ (by rw [HAT.out]; exact HM2.out)
  · have HAT : Hid (makeAt (winB op 0 40) true l st ⟨op, a, b, c, n⟩ = (l ++ [simpleP ⟨op, a, b, c, n⟩], st)) := by unfold Hid; rw [hw]; simp [makeAt]
    go_wp2_with (first
      | (go_at_call 62; refine (within_in _ _ _ _ (by decide) (by decide) (by decide)).mono ?_; rintro e wz ⟨rfl, rfl⟩)
      | (go_at_call 65; refine (simple_lit op a b c n _ HNN.out).mono ?_; rintro e w2 ⟨rfl, ho2⟩; have hs2 : wr.heap.size + 1 ≤ w2.heap.size := Nat.le_trans (by simp) ho2.size; have hon : Only Nob wr w2 := Only.trans ((Only.refl _ _).alloc _) ho2)
      | (at_builtin; have _t := tok1; refine wpList_pushI rfl _ _ rfl HMK.out (hon.alloc _) [simpleP ⟨op, a, b, c, n⟩] (G := w2.heap.size) (cnt := 1) (readsP1 (simpleP ⟨op, a, b, c, n⟩) _ rfl) rfl rfl rfl (by have := HB40.out; have := HLL.out; omega) ?_; clear tok1; intro A2 c2 w19 hm2 hz2; have HM2 := hide hm2; clear hm2))
    exact HN.out _ _ _ _ _ _ _ _ _ _ _ _ _ _ _ _ _ _ _ _ _ _ _ _ _ _ _ _ _ _ _ _ _ _ _ _ _ _ _ _ _ _ _ _ _ _ _ _ _ _ _ _ _ _ _ _ _ _ _ _ _ _ _ _ _ _ _ _ _ _ _ _ _ _ _ _ _ _ _ _ _ _ _ _ _ _ _ _ _ _ _ _ _ _ _ _ _ _ _ _ _ _ _ _ _ _ _ _ _ _ _ _ _ _ _ _ _ _ _ _ _ _ _ _ _ _ _ _ _ _ _ _ _ _ _ _ _ _ _ _ _ _ _ _ _ _ _ _ _ _ _ _ _ _ _ _ _ _ _ _ _ _ _ _ _ _ _ _ _ _ _ _ _ _ _ _ _ _ _ _ _ _ _ _ _ _ _ _ _ _ _ _ _ _ _ _ _ _ _ _ _ (by rw [HAT.out]; exact HM2.out)

set_option maxRecDepth 1000000 in
set_option maxHeartbeats 8000000 in
theorem way_32 (w : World) (b0 o0 cap : Nat) (ks : List PIns) (most : Int) (calm : Bool) (wr : World) (i : Nat) (l : List PIns) (st : List Int) (op a b c n : Int) (A1 : Option Addr) (cap1 : Nat) (C1 : Option Addr) (cap2 ll sl : Nat)
    (hk : ks.length ≤ 9223372036854775807) (hlt : i < ks.length) (hwlt : w.heap.size < wr.heap.size) (hblt : b0 < wr.heap.size)
    (i0' : wr.cell? ⟨b0, o0 + i * 5, none⟩ = some (.int .i64 op)) (i1' : wr.cell? ⟨b0, o0 + i * 5 + 1, none⟩ = some (.int .i64 a)) (i2' : wr.cell? ⟨b0, o0 + i * 5 + 2, none⟩ = some (.int .i64 b)) (i3' : wr.cell? ⟨b0, o0 + i * 5 + 3, none⟩ = some (.int .i64 c)) (i4' : wr.cell? ⟨b0, o0 + i * 5 + 4, none⟩ = some (.int .u64 n))
    (hn : 0 ≤ n ∧ n ≤ 18446744073709551615) (hmk : Making (w.alloc (.cells #[.slice none 0 0] 55)) wr (w.heap.size + 1) (.slice A1 ll cap1) (.slice C1 sl cap2) l st) (hll : l.length = ll) (hsl : st.length = sl) (hbr : (ll : Int) + 2 * sl + 5 ≤ most) (hb40 : ll + 2 * sl + 5 ≤ 40)
    (hw : winB op 0 40 = 32) (Q : Exit → Act → World → Prop) (u10 u11 u12 u13 u14 u15 u16 u17 u18 u19 u20 u21 u22 u23 u24 u25 u26 u27 u28 u29 u30 u31 u32 u33 u34 u35 u36 u37 u38 u39 u40 u41 u42 u43 u44 u45 u46 u47 u48 u49 u50 u51 u52 u53 u54 u55 u56 u57 u58 u59 u60 u61 u62 u63 u64 u65 u66 u67 u68 u69 u70 u71 u72 u73 u74 u75 u76 u77 u78 u79 u80 u81 u82 u83 u84 u85 u86 u87 u88 u89 u90 u91 u92 u93 u94 u95 u96 u97 u98 u99 u100 u101 u102 u103 u104 u105 u106 u107 u108 u109 u110 u111 u112 u113 u114 u115 u116 u117 u118 u119 u120 u121 u122 u123 u124 u125 u126 u127 u128 u129 u130 u131 u132 u133 u134 u135 u136 u137 u138 u139 u140 u141 u142 u143 u144 u145 u146 u147 u148 u149 u150 u151 u152 u153 u154 u155 u156 u157 u158 u159 u160 u161 u162 u163 u164 u165 u166 u167 u168 u169 u170 u171 u172 u173 u174 u175 u176 u177 u178 u179 u180 u181 u182 u183 u184 u185 u186 u187 u188 u189 u190 u191 u192 u193 u194 u195 u196 u197 u198 u199 u200 u201 u202 u203 u204 u205 u206 u207 : Value)
    (hN : ∀ (z10 z11 z12 z13 z14 z15 z16 z17 z18 z19 z20 z21 z22 z23 z24 z25 z26 z27 z28 z29 z30 z31 z32 z33 z34 z35 z36 z37 z38 z39 z40 z41 z42 z43 z44 z45 z46 z47 z48 z49 z50 z51 z52 z53 z54 z55 z56 z57 z58 z59 z60 z61 z62 z63 z64 z65 z66 z67 z68 z69 z70 z71 z72 z73 z74 z75 z76 z77 z78 z79 z80 z81 z82 z83 z84 z85 z86 z87 z88 z89 z90 z91 z92 z93 z94 z95 z96 z97 z98 z99 z100 z101 z102 z103 z104 z105 z106 z107 z108 z109 z110 z111 z112 z113 z114 z115 z116 z117 z118 z119 z120 z121 z122 z123 z124 z125 z126 z127 z128 z129 z130 z131 z132 z133 z134 z135 z136 z137 z138 z139 z140 z141 z142 z143 z144 z145 z146 z147 z148 z149 z150 z151 z152 z153 z154 z155 z156 z157 z158 z159 z160 z161 z162 z163 z164 z165 z166 z167 z168 z169 z170 z171 z172 z173 z174 z175 z176 z177 z178 z179 z180 z181 z182 z183 z184 z185 z186 z187 z188 z189 z190 z191 z192 z193 z194 z195 z196 z197 z198 z199 z200 z201 z202 z203 z204 z205 z206 z207 v' u' : Value) (wr' : World), Making (w.alloc (.cells #[.slice none 0 0] 55)) wr' (w.heap.size + 1) v' u' (makeAt (winB op 0 40) calm l st ⟨op, a, b, c, n⟩).1 (makeAt (winB op 0 40) calm l st ⟨op, a, b, c, n⟩).2 → Q .normal ⟨#[.slice (some ⟨b0, o0, none⟩) ks.length cap, .int .i64 most, .bool calm, undef, undef, undef, .pointer (some ⟨w.heap.size, 0, none⟩), v', u', .int .i64 (↑i + 1), z10, z11, z12, z13, z14, z15, z16, z17, z18, z19, z20, z21, z22, z23, z24, z25, z26, z27, z28, z29, z30, z31, z32, z33, z34, z35, z36, z37, z38, z39, z40, z41, z42, z43, z44, z45, z46, z47, z48, z49, z50, z51, z52, z53, z54, z55, z56, z57, z58, z59, z60, z61, z62, z63, z64, z65, z66, z67, z68, z69, z70, z71, z72, z73, z74, z75, z76, z77, z78, z79, z80, z81, z82, z83, z84, z85, z86, z87, z88, z89, z90, z91, z92, z93, z94, z95, z96, z97, z98, z99, z100, z101, z102, z103, z104, z105, z106, z107, z108, z109, z110, z111, z112, z113, z114, z115, z116, z117, z118, z119, z120, z121, z122, z123, z124, z125, z126, z127, z128, z129, z130, z131, z132, z133, z134, z135, z136, z137, z138, z139, z140, z141, z142, z143, z144, z145, z146, z147, z148, z149, z150, z151, z152, z153, z154, z155, z156, z157, z158, z159, z160, z161, z162, z163, z164, z165, z166, z167, z168, z169, z170, z171, z172, z173, z174, z175, z176, z177, z178, z179, z180, z181, z182, z183, z184, z185, z186, z187, z188, z189, z190, z191, z192, z193, z194, z195, z196, z197, z198, z199, z200, z201, z202, z203, z204, z205, z206, z207, undef, undef, undef, undef, undef, undef, undef, undef, undef, undef, undef, undef, undef, undef, undef, undef, undef, undef], []⟩ wr') :
    Code.wp Tryd.prog mkBody Q ⟨#[.slice (some ⟨b0, o0, none⟩) ks.length cap, .int .i64 most, .bool calm, undef, undef, undef, .pointer (some ⟨w.heap.size, 0, none⟩), .slice A1 ll cap1, .slice C1 sl cap2, .int .i64 i, u10, u11, u12, u13, u14, u15, u16, u17, u18, u19, u20, u21, u22, u23, u24, u25, u26, u27, u28, u29, u30, u31, u32, u33, u34, u35, u36, u37, u38, u39, u40, u41, u42, u43, u44, u45, u46, u47, u48, u49, u50, u51, u52, u53, u54, u55, u56, u57, u58, u59, u60, u61, u62, u63, u64, u65, u66, u67, u68, u69, u70, u71, u72, u73, u74, u75, u76, u77, u78, u79, u80, u81, u82, u83, u84, u85, u86, u87, u88, u89, u90, u91, u92, u93, u94, u95, u96, u97, u98, u99, u100, u101, u102, u103, u104, u105, u106, u107, u108, u109, u110, u111, u112, u113, u114, u115, u116, u117, u118, u119, u120, u121, u122, u123, u124, u125, u126, u127, u128, u129, u130, u131, u132, u133, u134, u135, u136, u137, u138, u139, u140, u141, u142, u143, u144, u145, u146, u147, u148, u149, u150, u151, u152, u153, u154, u155, u156, u157, u158, u159, u160, u161, u162, u163, u164, u165, u166, u167, u168, u169, u170, u171, u172, u173, u174, u175, u176, u177, u178, u179, u180, u181, u182, u183, u184, u185, u186, u187, u188, u189, u190, u191, u192, u193, u194, u195, u196, u197, u198, u199, u200, u201, u202, u203, u204, u205, u206, u207, undef, undef, undef, undef, undef, undef, undef, undef, undef, undef, undef, undef, undef, undef, undef, undef, undef, undef], []⟩ wr := by
  have HN := hide hN
  have HMK := hide hmk
  have HNN := hide hn
  have HLL := hide hll
  have HSL := hide hsl
  have HB40 := hide hb40
  have hl40 : ll ≤ 40 := by omega
  have hs40 : sl ≤ 20 := by omega
  have hkI : (i : Int) < (ks.length : Int) := by omega
  have hbw : b0 ≠ wr.heap.size := by omega
  have dbr : decide (most < (ll : Int) + 2 * sl + 5) = false := by simp; omega
  have tok1 : True := trivial
  have tok2 : True := trivial
  clear hN hmk hn hll hsl hb40
  conv => arg 2; whnf
  cases calm
  · have HAT : Hid (makeAt (winB op 0 40) false l st ⟨op, a, b, c, n⟩ = (l ++ [simpleP ⟨op, a, b, c, n⟩, ⟨13, winB b 0 6, 0, (ll : Int), 0⟩], st)) := by unfold Hid; rw [hw]; simp [makeAt, HLL.out]
    have KB := Blk.new wr 123 #[.int .i64 op, .int .i64 a, .int .i64 b, .int .i64 c, .int .u64 n]
    go_wp2_with ((go_at_call 62; refine (within_in _ _ _ _ (by decide) (by decide) (by decide)).mono ?_; rintro e wz ⟨rfl, rfl⟩))
    refine wp_region_noPanic ?_
    go_region_law (first
      | (refine step_pushI rfl _ _ rfl HMK.out (hon.alloc _) [(simpleP ⟨op, a, b, c, n⟩), ⟨13, winB b 0 6, 0, (ll : Int), 0⟩] (G := w2.heap.size) (cnt := 2) (readsP2 (simpleP ⟨op, a, b, c, n⟩) ⟨13, winB b 0 6, 0, (ll : Int), 0⟩ _ rfl) rfl rfl rfl (by have := HB40.out; have := HLL.out; omega) ?_; intro A2 c2 w19 hm2 hz2; have HM2 := hide hm2; clear hm2)
      | (go_simp; go_at_call 64; refine (reg_any _ _).mono ?_; rintro e wq ⟨rfl, rfl⟩)
      | (go_simp; go_at_call 65; refine (simple_lit op a b c n _ HNN.out).mono ?_; rintro e w2 ⟨rfl, ho2⟩; have hs2 : wr.heap.size + 1 ≤ w2.heap.size := Nat.le_trans (by simp) ho2.size; have hon : Only Nob wr w2 := Only.trans ((Only.refl _ _).alloc _).drew ho2; have kb2 := KB.drew.only ho2 (fun h => h); obtain ⟨q0, q1, q2, q3, q4⟩ := kb2.five; have q5 := kb2.frozen))
    all_goals
      (try refine NoPanic.normal ?_)
      go_wp2
      exact HN.out _ _ _ _ _ _ _ _ _ _ _ _ _ _ _ _ _ _ _ _ _ _ _ _ _ _ _ _ _ _ _ _ _ _ _ _ _ _ _ _ _ _ _ _ _ _ _ _ _ _ _ _ _ _ _ _ _ _ _ _ _ _ _ _ _ _ _ _ _ _ _ _ _ _ _ _ _ _ _ _ _ _ _ _ _ _ _ _ _ _ _ _ _ _ _ _ _ _ _ _ _ _ _ _ _ _ _ _ _ _ _ _ _ _ _ _ _ _ _ _ _ _ _ _ _ _ _ _ _ _ _ _ _ _ _ _ _ _ _ _ _ _ _ _ _ _ _ _ _ _ _ _ _ _ _ _ _ _ _ _ _ _ _ _ _ _ _ _ _ _ _ _ _ _ _ _ _ _ _ _ _ _ _ _ _ _ _ _ _ _ _ _ _ _ _ _ _ _ _ _ _ (by rw [HAT.out]; exact HM2.out)
  · have HAT : Hid (makeAt (winB op 0 40) true l st ⟨op, a, b, c, n⟩ = (l ++ [simpleP ⟨op, a, b, c, n⟩], st)) := by unfold Hid; rw [hw]; simp [makeAt]
    go_wp2_with (first
      | (go_at_call 62; refine (within_in _ _ _ _ (by decide) (by decide) (by decide)).mono ?_; rintro e wz ⟨rfl, rfl⟩)
      | (go_at_call 65; refine (simple_lit op a b c n _ HNN.out).mono ?_; rintro e w2 ⟨rfl, ho2⟩; have hs2 : wr.heap.size + 1 ≤ w2.heap.size := Nat.le_trans (by simp) ho2.size; have hon : Only Nob wr w2 := Only.trans ((Only.refl _ _).alloc _) ho2)
      | (at_builtin; have _t := tok1; refine wpList_pushI rfl _ _ rfl HMK.out (hon.alloc _) [simpleP ⟨op, a, b, c, n⟩] (G := w2.heap.size) (cnt := 1) (readsP1 (simpleP ⟨op, a, b, c, n⟩) _ rfl) rfl rfl rfl (by have := HB40.out; have := HLL.out; omega) ?_; clear tok1; intro A2 c2 w19 hm2 hz2; have HM2 := hide hm2; clear hm2))
    exact HN.out _ _ _ _ _ _ _ _ _ _ _ _ _ _ _ _ _ _ _ _ _ _ _ _ _ _ _ _ _ _ _ _ _ _ _ _ _ _ _ _ _ _ _ _ _ _ _ _ _ _ _ _ _ _ _ _ _ _ _ _ _ _ _ _ _ _ _ _ _ _ _ _ _ _ _ _ _ _ _ _ _ _ _ _ _ _ _ _ _ _ _ _ _ _ _ _ _ _ _ _ _ _ _ _ _ _ _ _ _ _ _ _ _ _ _ _ _ _ _ _ _ _ _ _ _ _ _ _ _ _ _ _ _ _ _ _ _ _ _ _ _ _ _ _ _ _ _ _ _ _ _ _ _ _ _ _ _ _ _ _ _ _ _ _ _ _ _ _ _ _ _ _ _ _ _ _ _ _ _ _ _ _ _ _ _ _ _ _ _ _ _ _ _ _ _ _ _ _ _ _ _ (by rw [HAT.out]; exact HM2.out)
end Go.Proofs.YtngahgfppbjebaaDoor
namespace Go.Proofs.YtngahgfppbjebaaDoor
open Go.RowKit
set_option linter.unusedVariables false
set_option linter.unusedSimpArgs false

set_option maxRecDepth 1000000 in
set_option maxHeartbeats 8000000 in
theorem way_30 (w : World) (b0 o0 cap : Nat) (ks : List PIns) (most : Int) (calm : Bool) (wr : World) (i : Nat) (l : List PIns) (st : List Int) (op a b c n : Int) (A1 : Option Addr) (cap1 : Nat) (C1 : Option Addr) (cap2 ll sl : Nat)
    (hk : ks.length ≤ 9223372036854775807) (hlt : i < ks.length) (hwlt : w.heap.size < wr.heap.size) (hblt : b0 < wr.heap.size)
    (i0' : wr.cell? ⟨b0, o0 + i * 5, none⟩ = some (.int .i64 op)) (i1' : wr.cell? ⟨b0, o0 + i * 5 + 1, none⟩ = some (.int .i64 a)) (i2' : wr.cell? ⟨b0, o0 + i * 5 + 2, none⟩ = some (.int .i64 b)) (i3' : wr.cell? ⟨b0, o0 + i * 5 + 3, none⟩ = some (.int .i64 c)) (i4' : wr.cell? ⟨b0, o0 + i * 5 + 4, none⟩ = some (.int .u64 n))
    (hn : 0 ≤ n ∧ n ≤ 18446744073709551615) (hmk : Making (w.alloc (.cells #[.slice none 0 0] 55)) wr (w.heap.size + 1) (.slice A1 ll cap1) (.slice C1 sl cap2) l st) (hll : l.length = ll) (hsl : st.length = sl) (hbr : (ll : Int) + 2 * sl + 5 ≤ most) (hb40 : ll + 2 * sl + 5 ≤ 40)
    (hw : winB op 0 40 = 30) (Q : Exit → Act → World → Prop) (u10 u11 u12 u13 u14 u15 u16 u17 u18 u19 u20 u21 u22 u23 u24 u25 u26 u27 u28 u29 u30 u31 u32 u33 u34 u35 u36 u37 u38 u39 u40 u41 u42 u43 u44 u45 u46 u47 u48 u49 u50 u51 u52 u53 u54 u55 u56 u57 u58 u59 u60 u61 u62 u63 u64 u65 u66 u67 u68 u69 u70 u71 u72 u73 u74 u75 u76 u77 u78 u79 u80 u81 u82 u83 u84 u85 u86 u87 u88 u89 u90 u91 u92 u93 u94 u95 u96 u97 u98 u99 u100 u101 u102 u103 u104 u105 u106 u107 u108 u109 u110 u111 u112 u113 u114 u115 u116 u117 u118 u119 u120 u121 u122 u123 u124 u125 u126 u127 u128 u129 u130 u131 u132 u133 u134 u135 u136 u137 u138 u139 u140 u141 u142 u143 u144 u145 u146 u147 u148 u149 u150 u151 u152 u153 u154 u155 u156 u157 u158 u159 u160 u161 u162 u163 u164 u165 u166 u167 u168 u169 u170 u171 u172 u173 u174 u175 u176 u177 u178 u179 u180 u181 u182 u183 u184 u185 u186 u187 u188 u189 u190 u191 u192 u193 u194 u195 u196 u197 u198 u199 u200 u201 u202 u203 u204 u205 u206 u207 : Value)
    (hN : ∀ (z10 z11 z12 z13 z14 z15 z16 z17 z18 z19 z20 z21 z22 z23 z24 z25 z26 z27 z28 z29 z30 z31 z32 z33 z34 z35 z36 z37 z38 z39 z40 z41 z42 z43 z44 z45 z46 z47 z48 z49 z50 z51 z52 z53 z54 z55 z56 z57 z58 z59 z60 z61 z62 z63 z64 z65 z66 z67 z68 z69 z70 z71 z72 z73 z74 z75 z76 z77 z78 z79 z80 z81 z82 z83 z84 z85 z86 z87 z88 z89 z90 z91 z92 z93 z94 z95 z96 z97 z98 z99 z100 z101 z102 z103 z104 z105 z106 z107 z108 z109 z110 z111 z112 z113 z114 z115 z116 z117 z118 z119 z120 z121 z122 z123 z124 z125 z126 z127 z128 z129 z130 z131 z132 z133 z134 z135 z136 z137 z138 z139 z140 z141 z142 z143 z144 z145 z146 z147 z148 z149 z150 z151 z152 z153 z154 z155 z156 z157 z158 z159 z160 z161 z162 z163 z164 z165 z166 z167 z168 z169 z170 z171 z172 z173 z174 z175 z176 z177 z178 z179 z180 z181 z182 z183 z184 z185 z186 z187 z188 z189 z190 z191 z192 z193 z194 z195 z196 z197 z198 z199 z200 z201 z202 z203 z204 z205 z206 z207 v' u' : Value) (wr' : World), Making (w.alloc (.cells #[.slice none 0 0] 55)) wr' (w.heap.size + 1) v' u' (makeAt (winB op 0 40) calm l st ⟨op, a, b, c, n⟩).1 (makeAt (winB op 0 40) calm l st ⟨op, a, b, c, n⟩).2 → Q .normal ⟨#[.slice (some ⟨b0, o0, none⟩) ks.length cap, .int .i64 most, .bool calm, undef, undef, undef, .pointer (some ⟨w.heap.size, 0, none⟩), v', u', .int .i64 (↑i + 1), z10, z11, z12, z13, z14, z15, z16, z17, z18, z19, z20, z21, z22, z23, z24, z25, z26, z27, z28, z29, z30, z31, z32, z33, z34, z35, z36, z37, z38, z39, z40, z41, z42, z43, z44, z45, z46, z47, z48, z49, z50, z51, z52, z53, z54, z55, z56, z57, z58, z59, z60, z61, z62, z63, z64, z65, z66, z67, z68, z69, z70, z71, z72, z73, z74, z75, z76, z77, z78, z79, z80, z81, z82, z83, z84, z85, z86, z87, z88, z89, z90, z91, z92, z93, z94, z95, z96, z97, z98, z99, z100, z101, z102, z103, z104, z105, z106, z107, z108, z109, z110, z111, z112, z113, z114, z115, z116, z117, z118, z119, z120, z121, z122, z123, z124, z125, z126, z127, z128, z129, z130, z131, z132, z133, z134, z135, z136, z137, z138, z139, z140, z141, z142, z143, z144, z145, z146, z147, z148, z149, z150, z151, z152, z153, z154, z155, z156, z157, z158, z159, z160, z161, z162, z163, z164, z165, z166, z167, z168, z169, z170, z171, z172, z173, z174, z175, z176, z177, z178, z179, z180, z181, z182, z183, z184, z185, z186, z187, z188, z189, z190, z191, z192, z193, z194, z195, z196, z197, z198, z199, z200, z201, z202, z203, z204, z205, z206, z207, undef, undef, undef, undef, undef, undef, undef, undef, undef, undef, undef, undef, undef, undef, undef, undef, undef, undef], []⟩ wr') :
    Code.wp Tryd.prog mkBody Q ⟨#[.slice (some ⟨b0, o0, none⟩) ks.length cap, .int .i64 most, .bool calm, undef, undef, undef, .pointer (some ⟨w.heap.size, 0, none⟩), .slice A1 ll cap1, .slice C1 sl cap2, .int .i64 i, u10, u11, u12, u13, u14, u15, u16, u17, u18, u19, u20, u21, u22, u23, u24, u25, u26, u27, u28, u29, u30, u31, u32, u33, u34, u35, u36, u37, u38, u39, u40, u41, u42, u43, u44, u45, u46, u47, u48, u49, u50, u51, u52, u53, u54, u55, u56, u57, u58, u59, u60, u61, u62, u63, u64, u65, u66, u67, u68, u69, u70, u71, u72, u73, u74, u75, u76, u77, u78, u79, u80, u81, u82, u83, u84, u85, u86, u87, u88, u89, u90, u91, u92, u93, u94, u95, u96, u97, u98, u99, u100, u101, u102, u103, u104, u105, u106, u107, u108, u109, u110, u111, u112, u113, u114, u115, u116, u117, u118, u119, u120, u121, u122, u123, u124, u125, u126, u127, u128, u129, u130, u131, u132, u133, u134, u135, u136, u137, u138, u139, u140, u141, u142, u143, u144, u145, u146, u147, u148, u149, u150, u151, u152, u153, u154, u155, u156, u157, u158, u159, u160, u161, u162, u163, u164, u165, u166, u167, u168, u169, u170, u171, u172, u173, u174, u175, u176, u177, u178, u179, u180, u181, u182, u183, u184, u185, u186, u187, u188, u189, u190, u191, u192, u193, u194, u195, u196, u197, u198, u199, u200, u201, u202, u203, u204, u205, u206, u207, undef, undef, undef, undef, undef, undef, undef, undef, undef, undef, undef, undef, undef, undef, undef, undef, undef, undef], []⟩ wr := by
  have HN := hide hN
  have HMK := hide hmk
  have HNN := hide hn
  have HLL := hide hll
  have HSL := hide hsl
  have HB40 := hide hb40
  have hl40 : ll ≤ 40 := by omega
  have hs40 : sl ≤ 20 := by omega
  have hkI : (i : Int) < (ks.length : Int) := by omega
  have hbw : b0 ≠ wr.heap.size := by omega
  have dbr : decide (most < (ll : Int) + 2 * sl + 5) = false := by simp; omega
  have tok1 : True := trivial
  have tok2 : True := trivial
  clear hN hmk hn hll hsl hb40
  conv => arg 2; whnf
  have HAT : Hid (makeAt (winB op 0 40) calm l st ⟨op, a, b, c, n⟩ = (l ++ [⟨13, winB b 0 6, 0, (ll : Int) + 2, 0⟩, simpleP ⟨op, a, b, c, n⟩], st)) := by unfold Hid; rw [hw]; simp [makeAt, HLL.out]
  have hw1 : IntKind.i64.wrap ((ll : Int) + 2) = (ll : Int) + 2 := IntWalk.i64_in _ (by omega)
  have KB := Blk.new wr 123 #[.int .i64 op, .int .i64 a, .int .i64 b, .int .i64 c, .int .u64 n]
  go_wp2_with ((go_at_call 62; refine (within_in _ _ _ _ (by decide) (by decide) (by decide)).mono ?_; rintro e wz ⟨rfl, rfl⟩))
  refine wp_region_noPanic ?_
  go_region_law (first
    | (refine step_pushI rfl _ _ rfl HMK.out (hon.alloc _) [⟨13, winB b 0 6, 0, (ll : Int) + 2, 0⟩, (simpleP ⟨op, a, b, c, n⟩)] (G := w2.heap.size) (cnt := 2) (readsP2 ⟨13, winB b 0 6, 0, (ll : Int) + 2, 0⟩ (simpleP ⟨op, a, b, c, n⟩) _ rfl) rfl rfl rfl (by have := HB40.out; have := HLL.out; omega) ?_; intro A2 c2 w19 hm2 hz2; have HM2 := hide hm2; clear hm2)
    | (go_simp; go_at_call 64; refine (reg_any _ _).mono ?_; rintro e wq ⟨rfl, rfl⟩)
    | (go_simp; go_at_call 65; refine (simple_lit op a b c n _ HNN.out).mono ?_; rintro e w2 ⟨rfl, ho2⟩; have hs2 : wr.heap.size + 1 ≤ w2.heap.size := Nat.le_trans (by simp) ho2.size; have hon : Only Nob wr w2 := Only.trans ((Only.refl _ _).alloc _).drew ho2; have kb2 := KB.drew.only ho2 (fun h => h); obtain ⟨q0, q1, q2, q3, q4⟩ := kb2.five; have q5 := kb2.frozen))
  all_goals
    (try refine NoPanic.normal ?_)
    clear hw1
    go_wp2
    exact HN.out _ _ _ _ _ _ _ _ _ _ _ _ _ _ _ _ _ _ _ _ _ _ _ _ _ _ _ _ _ _ _ _ _ _ _ _ _ _ _ _ _ _ _ _ _ _ _ _ _ _ _ _ _ _ _ _ _ _ _ _ _ _ _ _ _ _ _ _ _ _ _ _ _ _ _ _ _ _ _ _ _ _ _ _ _ _ _ _ _ _ _ _ _ _ _ _ _ _ _ _ _ _ _ _ _ _ _ _ _ _ _ _ _ _ _ _ _ _ _ _ _ _ _ _ _ _ _ _ _ _ _ _ _ _ _ _ _ _ _ _ _ _ _ _ _ _ _ _ _ _ _ _ _ _ _ _ _ _ _ _ _ _ _ _ _ _ _ _ _ _ _ _ _ _ _ _ _ _ _ _ _ _ _ _ _ _ _ _ _ _ _ _ _ _ _ _ _ _ _ _ _ (by rw [HAT.out]; exact HM2.out)

set_option maxRecDepth 1000000 in
set_option maxHeartbeats 8000000 in
theorem way_31 (w : World) (b0 o0 cap : Nat) (ks : List PIns) (most : Int) (calm : Bool) (wr : World) (i : Nat) (l : List PIns) (st : List Int) (op a b c n : Int) (A1 : Option Addr) (cap1 : Nat) (C1 : Option Addr) (cap2 ll sl : Nat)
    (hk : ks.length ≤ 9223372036854775807) (hlt : i < ks.length) (hwlt : w.heap.size < wr.heap.size) (hblt : b0 < wr.heap.size)
    (i0' : wr.cell? ⟨b0, o0 + i * 5, none⟩ = some (.int .i64 op)) (i1' : wr.cell? ⟨b0, o0 + i * 5 + 1, none⟩ = some (.int .i64 a)) (i2' : wr.cell? ⟨b0, o0 + i * 5 + 2, none⟩ = some (.int .i64 b)) (i3' : wr.cell? ⟨b0, o0 + i * 5 + 3, none⟩ = some (.int .i64 c)) (i4' : wr.cell? ⟨b0, o0 + i * 5 + 4, none⟩ = some (.int .u64 n))
    (hn : 0 ≤ n ∧ n ≤ 18446744073709551615) (hmk : Making (w.alloc (.cells #[.slice none 0 0] 55)) wr (w.heap.size + 1) (.slice A1 ll cap1) (.slice C1 sl cap2) l st) (hll : l.length = ll) (hsl : st.length = sl) (hbr : (ll : Int) + 2 * sl + 5 ≤ most) (hb40 : ll + 2 * sl + 5 ≤ 40)
    (hw : winB op 0 40 = 31) (Q : Exit → Act → World → Prop) (u10 u11 u12 u13 u14 u15 u16 u17 u18 u19 u20 u21 u22 u23 u24 u25 u26 u27 u28 u29 u30 u31 u32 u33 u34 u35 u36 u37 u38 u39 u40 u41 u42 u43 u44 u45 u46 u47 u48 u49 u50 u51 u52 u53 u54 u55 u56 u57 u58 u59 u60 u61 u62 u63 u64 u65 u66 u67 u68 u69 u70 u71 u72 u73 u74 u75 u76 u77 u78 u79 u80 u81 u82 u83 u84 u85 u86 u87 u88 u89 u90 u91 u92 u93 u94 u95 u96 u97 u98 u99 u100 u101 u102 u103 u104 u105 u106 u107 u108 u109 u110 u111 u112 u113 u114 u115 u116 u117 u118 u119 u120 u121 u122 u123 u124 u125 u126 u127 u128 u129 u130 u131 u132 u133 u134 u135 u136 u137 u138 u139 u140 u141 u142 u143 u144 u145 u146 u147 u148 u149 u150 u151 u152 u153 u154 u155 u156 u157 u158 u159 u160 u161 u162 u163 u164 u165 u166 u167 u168 u169 u170 u171 u172 u173 u174 u175 u176 u177 u178 u179 u180 u181 u182 u183 u184 u185 u186 u187 u188 u189 u190 u191 u192 u193 u194 u195 u196 u197 u198 u199 u200 u201 u202 u203 u204 u205 u206 u207 : Value)
    (hN : ∀ (z10 z11 z12 z13 z14 z15 z16 z17 z18 z19 z20 z21 z22 z23 z24 z25 z26 z27 z28 z29 z30 z31 z32 z33 z34 z35 z36 z37 z38 z39 z40 z41 z42 z43 z44 z45 z46 z47 z48 z49 z50 z51 z52 z53 z54 z55 z56 z57 z58 z59 z60 z61 z62 z63 z64 z65 z66 z67 z68 z69 z70 z71 z72 z73 z74 z75 z76 z77 z78 z79 z80 z81 z82 z83 z84 z85 z86 z87 z88 z89 z90 z91 z92 z93 z94 z95 z96 z97 z98 z99 z100 z101 z102 z103 z104 z105 z106 z107 z108 z109 z110 z111 z112 z113 z114 z115 z116 z117 z118 z119 z120 z121 z122 z123 z124 z125 z126 z127 z128 z129 z130 z131 z132 z133 z134 z135 z136 z137 z138 z139 z140 z141 z142 z143 z144 z145 z146 z147 z148 z149 z150 z151 z152 z153 z154 z155 z156 z157 z158 z159 z160 z161 z162 z163 z164 z165 z166 z167 z168 z169 z170 z171 z172 z173 z174 z175 z176 z177 z178 z179 z180 z181 z182 z183 z184 z185 z186 z187 z188 z189 z190 z191 z192 z193 z194 z195 z196 z197 z198 z199 z200 z201 z202 z203 z204 z205 z206 z207 v' u' : Value) (wr' : World), Making (w.alloc (.cells #[.slice none 0 0] 55)) wr' (w.heap.size + 1) v' u' (makeAt (winB op 0 40) calm l st ⟨op, a, b, c, n⟩).1 (makeAt (winB op 0 40) calm l st ⟨op, a, b, c, n⟩).2 → Q .normal ⟨#[.slice (some ⟨b0, o0, none⟩) ks.length cap, .int .i64 most, .bool calm, undef, undef, undef, .pointer (some ⟨w.heap.size, 0, none⟩), v', u', .int .i64 (↑i + 1), z10, z11, z12, z13, z14, z15, z16, z17, z18, z19, z20, z21, z22, z23, z24, z25, z26, z27, z28, z29, z30, z31, z32, z33, z34, z35, z36, z37, z38, z39, z40, z41, z42, z43, z44, z45, z46, z47, z48, z49, z50, z51, z52, z53, z54, z55, z56, z57, z58, z59, z60, z61, z62, z63, z64, z65, z66, z67, z68, z69, z70, z71, z72, z73, z74, z75, z76, z77, z78, z79, z80, z81, z82, z83, z84, z85, z86, z87, z88, z89, z90, z91, z92, z93, z94, z95, z96, z97, z98, z99, z100, z101, z102, z103, z104, z105, z106, z107, z108, z109, z110, z111, z112, z113, z114, z115, z116, z117, z118, z119, z120, z121, z122, z123, z124, z125, z126, z127, z128, z129, z130, z131, z132, z133, z134, z135, z136, z137, z138, z139, z140, z141, z142, z143, z144, z145, z146, z147, z148, z149, z150, z151, z152, z153, z154, z155, z156, z157, z158, z159, z160, z161, z162, z163, z164, z165, z166, z167, z168, z169, z170, z171, z172, z173, z174, z175, z176, z177, z178, z179, z180, z181, z182, z183, z184, z185, z186, z187, z188, z189, z190, z191, z192, z193, z194, z195, z196, z197, z198, z199, z200, z201, z202, z203, z204, z205, z206, z207, undef, undef, undef, undef, undef, undef, undef, undef, undef, undef, undef, undef, undef, undef, undef, undef, undef, undef], []⟩ wr') :
    Code.wp Tryd.prog mkBody Q ⟨#[.slice (some ⟨b0, o0, none⟩) ks.length cap, .int .i64 most, .bool calm, undef, undef, undef, .pointer (some ⟨w.heap.size, 0, none⟩), .slice A1 ll cap1, .slice C1 sl cap2, .int .i64 i, u10, u11, u12, u13, u14, u15, u16, u17, u18, u19, u20, u21, u22, u23, u24, u25, u26, u27, u28, u29, u30, u31, u32, u33, u34, u35, u36, u37, u38, u39, u40, u41, u42, u43, u44, u45, u46, u47, u48, u49, u50, u51, u52, u53, u54, u55, u56, u57, u58, u59, u60, u61, u62, u63, u64, u65, u66, u67, u68, u69, u70, u71, u72, u73, u74, u75, u76, u77, u78, u79, u80, u81, u82, u83, u84, u85, u86, u87, u88, u89, u90, u91, u92, u93, u94, u95, u96, u97, u98, u99, u100, u101, u102, u103, u104, u105, u106, u107, u108, u109, u110, u111, u112, u113, u114, u115, u116, u117, u118, u119, u120, u121, u122, u123, u124, u125, u126, u127, u128, u129, u130, u131, u132, u133, u134, u135, u136, u137, u138, u139, u140, u141, u142, u143, u144, u145, u146, u147, u148, u149, u150, u151, u152, u153, u154, u155, u156, u157, u158, u159, u160, u161, u162, u163, u164, u165, u166, u167, u168, u169, u170, u171, u172, u173, u174, u175, u176, u177, u178, u179, u180, u181, u182, u183, u184, u185, u186, u187, u188, u189, u190, u191, u192, u193, u194, u195, u196, u197, u198, u199, u200, u201, u202, u203, u204, u205, u206, u207, undef, undef, undef, undef, undef, undef, undef, undef, undef, undef, undef, undef, undef, undef, undef, undef, undef, undef], []⟩ wr := by
  have HN := hide hN
  have HMK := hide hmk
  have HNN := hide hn
  have HLL := hide hll
  have HSL := hide hsl
  have HB40 := hide hb40
  have hl40 : ll ≤ 40 := by omega
  have hs40 : sl ≤ 20 := by omega
  have hkI : (i : Int) < (ks.length : Int) := by omega
  have hbw : b0 ≠ wr.heap.size := by omega
  have dbr : decide (most < (ll : Int) + 2 * sl + 5) = false := by simp; omega
  have tok1 : True := trivial
  have tok2 : True := trivial
  clear hN hmk hn hll hsl hb40
  conv => arg 2; whnf
  have HAT : Hid (makeAt (winB op 0 40) calm l st ⟨op, a, b, c, n⟩ = (l ++ [⟨13, winB b 0 6, 0, (ll : Int) + 2, 0⟩, simpleP ⟨op, a, b, c, n⟩], st)) := by unfold Hid; rw [hw]; simp [makeAt, HLL.out]
  have hw1 : IntKind.i64.wrap ((ll : Int) + 2) = (ll : Int) + 2 := IntWalk.i64_in _ (by omega)
  have KB := Blk.new wr 123 #[.int .i64 op, .int .i64 a, .int .i64 b, .int .i64 c, .int .u64 n]
  go_wp2_with ((go_at_call 62; refine (within_in _ _ _ _ (by decide) (by decide) (by decide)).mono ?_; rintro e wz ⟨rfl, rfl⟩))
  refine wp_region_noPanic ?_
  go_region_law (first
    | (refine step_pushI rfl _ _ rfl HMK.out (hon.alloc _) [⟨13, winB b 0 6, 0, (ll : Int) + 2, 0⟩, (simpleP ⟨op, a, b, c, n⟩)] (G := w2.heap.size) (cnt := 2) (readsP2 ⟨13, winB b 0 6, 0, (ll : Int) + 2, 0⟩ (simpleP ⟨op, a, b, c, n⟩) _ rfl) rfl rfl rfl (by have := HB40.out; have := HLL.out; omega) ?_; intro A2 c2 w19 hm2 hz2; have HM2 := hide hm2; clear hm2)
    | (go_simp; go_at_call 64; refine (reg_any _ _).mono ?_; rintro e wq ⟨rfl, rfl⟩)
    | (go_simp; go_at_call 65; refine (simple_lit op a b c n _ HNN.out).mono ?_; rintro e w2 ⟨rfl, ho2⟩; have hs2 : wr.heap.size + 1 ≤ w2.heap.size := Nat.le_trans (by simp) ho2.size; have hon : Only Nob wr w2 := Only.trans ((Only.refl _ _).alloc _).drew ho2; have kb2 := KB.drew.only ho2 (fun h => h); obtain ⟨q0, q1, q2, q3, q4⟩ := kb2.five; have q5 := kb2.frozen))
  all_goals
    (try refine NoPanic.normal ?_)
    clear hw1
    go_wp2
    exact HN.out _ _ _ _ _ _ _ _ _ _ _ _ _ _ _ _ _ _ _ _ _ _ _ _ _ _ _ _ _ _ _ _ _ _ _ _ _ _ _ _ _ _ _ _ _ _ _ _ _ _ _ _ _ _ _ _ _ _ _ _ _ _ _ _ _ _ _ _ _ _ _ _ _ _ _ _ _ _ _ _ _ _ _ _ _ _ _ _ _ _ _ _ _ _ _ _ _ _ _ _ _ _ _ _ _ _ _ _ _ _ _ _ _ _ _ _ _ _ _ _ _ _ _ _ _ _ _ _ _ _ _ _ _ _ _ _ _ _ _ _ _ _ _ _ _ _ _ _ _ _ _ _ _ _ _ _ _ _ _ _ _ _ _ _ _ _ _ _ _ _ _ _ _ _ _ _ _ _ _ _ _ _ _ _ _ _ _ _ _ _ _ _ _ _ _ _ _ _ _ _ _ (by rw [HAT.out]; exact HM2.out)

set_option maxRecDepth 1000000 in
set_option maxHeartbeats 8000000 in
theorem way_other (w : World) (b0 o0 cap : Nat) (ks : List PIns) (most : Int) (calm : Bool) (wr : World) (i : Nat) (l : List PIns) (st : List Int) (op a b c n : Int) (A1 : Option Addr) (cap1 : Nat) (C1 : Option Addr) (cap2 ll sl : Nat)
    (hk : ks.length ≤ 9223372036854775807) (hlt : i < ks.length) (hwlt : w.heap.size < wr.heap.size) (hblt : b0 < wr.heap.size)
    (i0' : wr.cell? ⟨b0, o0 + i * 5, none⟩ = some (.int .i64 op)) (i1' : wr.cell? ⟨b0, o0 + i * 5 + 1, none⟩ = some (.int .i64 a)) (i2' : wr.cell? ⟨b0, o0 + i * 5 + 2, none⟩ = some (.int .i64 b)) (i3' : wr.cell? ⟨b0, o0 + i * 5 + 3, none⟩ = some (.int .i64 c)) (i4' : wr.cell? ⟨b0, o0 + i * 5 + 4, none⟩ = some (.int .u64 n))
    (hn : 0 ≤ n ∧ n ≤ 18446744073709551615) (hmk : Making (w.alloc (.cells #[.slice none 0 0] 55)) wr (w.heap.size + 1) (.slice A1 ll cap1) (.slice C1 sl cap2) l st) (hll : l.length = ll) (hsl : st.length = sl) (hbr : (ll : Int) + 2 * sl + 5 ≤ most) (hb40 : ll + 2 * sl + 5 ≤ 40)
    (n20 : winB op 0 40 ≠ 20) (n21 : winB op 0 40 ≠ 21) (n22 : winB op 0 40 ≠ 22) (n23 : winB op 0 40 ≠ 23) (n24 : winB op 0 40 ≠ 24) (n25 : winB op 0 40 ≠ 25) (n26 : winB op 0 40 ≠ 26) (n27 : winB op 0 40 ≠ 27) (n28 : winB op 0 40 ≠ 28) (n29 : winB op 0 40 ≠ 29) (n30 : winB op 0 40 ≠ 30) (n31 : winB op 0 40 ≠ 31) (n32 : winB op 0 40 ≠ 32) (Q : Exit → Act → World → Prop) (u10 u11 u12 u13 u14 u15 u16 u17 u18 u19 u20 u21 u22 u23 u24 u25 u26 u27 u28 u29 u30 u31 u32 u33 u34 u35 u36 u37 u38 u39 u40 u41 u42 u43 u44 u45 u46 u47 u48 u49 u50 u51 u52 u53 u54 u55 u56 u57 u58 u59 u60 u61 u62 u63 u64 u65 u66 u67 u68 u69 u70 u71 u72 u73 u74 u75 u76 u77 u78 u79 u80 u81 u82 u83 u84 u85 u86 u87 u88 u89 u90 u91 u92 u93 u94 u95 u96 u97 u98 u99 u100 u101 u102 u103 u104 u105 u106 u107 u108 u109 u110 u111 u112 u113 u114 u115 u116 u117 u118 u119 u120 u121 u122 u123 u124 u125 u126 u127 u128 u129 u130 u131 u132 u133 u134 u135 u136 u137 u138 u139 u140 u141 u142 u143 u144 u145 u146 u147 u148 u149 u150 u151 u152 u153 u154 u155 u156 u157 u158 u159 u160 u161 u162 u163 u164 u165 u166 u167 u168 u169 u170 u171 u172 u173 u174 u175 u176 u177 u178 u179 u180 u181 u182 u183 u184 u185 u186 u187 u188 u189 u190 u191 u192 u193 u194 u195 u196 u197 u198 u199 u200 u201 u202 u203 u204 u205 u206 u207 : Value)
    (hN : ∀ (z10 z11 z12 z13 z14 z15 z16 z17 z18 z19 z20 z21 z22 z23 z24 z25 z26 z27 z28 z29 z30 z31 z32 z33 z34 z35 z36 z37 z38 z39 z40 z41 z42 z43 z44 z45 z46 z47 z48 z49 z50 z51 z52 z53 z54 z55 z56 z57 z58 z59 z60 z61 z62 z63 z64 z65 z66 z67 z68 z69 z70 z71 z72 z73 z74 z75 z76 z77 z78 z79 z80 z81 z82 z83 z84 z85 z86 z87 z88 z89 z90 z91 z92 z93 z94 z95 z96 z97 z98 z99 z100 z101 z102 z103 z104 z105 z106 z107 z108 z109 z110 z111 z112 z113 z114 z115 z116 z117 z118 z119 z120 z121 z122 z123 z124 z125 z126 z127 z128 z129 z130 z131 z132 z133 z134 z135 z136 z137 z138 z139 z140 z141 z142 z143 z144 z145 z146 z147 z148 z149 z150 z151 z152 z153 z154 z155 z156 z157 z158 z159 z160 z161 z162 z163 z164 z165 z166 z167 z168 z169 z170 z171 z172 z173 z174 z175 z176 z177 z178 z179 z180 z181 z182 z183 z184 z185 z186 z187 z188 z189 z190 z191 z192 z193 z194 z195 z196 z197 z198 z199 z200 z201 z202 z203 z204 z205 z206 z207 v' u' : Value) (wr' : World), Making (w.alloc (.cells #[.slice none 0 0] 55)) wr' (w.heap.size + 1) v' u' (makeAt (winB op 0 40) calm l st ⟨op, a, b, c, n⟩).1 (makeAt (winB op 0 40) calm l st ⟨op, a, b, c, n⟩).2 → Q .normal ⟨#[.slice (some ⟨b0, o0, none⟩) ks.length cap, .int .i64 most, .bool calm, undef, undef, undef, .pointer (some ⟨w.heap.size, 0, none⟩), v', u', .int .i64 (↑i + 1), z10, z11, z12, z13, z14, z15, z16, z17, z18, z19, z20, z21, z22, z23, z24, z25, z26, z27, z28, z29, z30, z31, z32, z33, z34, z35, z36, z37, z38, z39, z40, z41, z42, z43, z44, z45, z46, z47, z48, z49, z50, z51, z52, z53, z54, z55, z56, z57, z58, z59, z60, z61, z62, z63, z64, z65, z66, z67, z68, z69, z70, z71, z72, z73, z74, z75, z76, z77, z78, z79, z80, z81, z82, z83, z84, z85, z86, z87, z88, z89, z90, z91, z92, z93, z94, z95, z96, z97, z98, z99, z100, z101, z102, z103, z104, z105, z106, z107, z108, z109, z110, z111, z112, z113, z114, z115, z116, z117, z118, z119, z120, z121, z122, z123, z124, z125, z126, z127, z128, z129, z130, z131, z132, z133, z134, z135, z136, z137, z138, z139, z140, z141, z142, z143, z144, z145, z146, z147, z148, z149, z150, z151, z152, z153, z154, z155, z156, z157, z158, z159, z160, z161, z162, z163, z164, z165, z166, z167, z168, z169, z170, z171, z172, z173, z174, z175, z176, z177, z178, z179, z180, z181, z182, z183, z184, z185, z186, z187, z188, z189, z190, z191, z192, z193, z194, z195, z196, z197, z198, z199, z200, z201, z202, z203, z204, z205, z206, z207, undef, undef, undef, undef, undef, undef, undef, undef, undef, undef, undef, undef, undef, undef, undef, undef, undef, undef], []⟩ wr') :
    Code.wp Tryd.prog mkBody Q ⟨#[.slice (some ⟨b0, o0, none⟩) ks.length cap, .int .i64 most, .bool calm, undef, undef, undef, .pointer (some ⟨w.heap.size, 0, none⟩), .slice A1 ll cap1, .slice C1 sl cap2, .int .i64 i, u10, u11, u12, u13, u14, u15, u16, u17, u18, u19, u20, u21, u22, u23, u24, u25, u26, u27, u28, u29, u30, u31, u32, u33, u34, u35, u36, u37, u38, u39, u40, u41, u42, u43, u44, u45, u46, u47, u48, u49, u50, u51, u52, u53, u54, u55, u56, u57, u58, u59, u60, u61, u62, u63, u64, u65, u66, u67, u68, u69, u70, u71, u72, u73, u74, u75, u76, u77, u78, u79, u80, u81, u82, u83, u84, u85, u86, u87, u88, u89, u90, u91, u92, u93, u94, u95, u96, u97, u98, u99, u100, u101, u102, u103, u104, u105, u106, u107, u108, u109, u110, u111, u112, u113, u114, u115, u116, u117, u118, u119, u120, u121, u122, u123, u124, u125, u126, u127, u128, u129, u130, u131, u132, u133, u134, u135, u136, u137, u138, u139, u140, u141, u142, u143, u144, u145, u146, u147, u148, u149, u150, u151, u152, u153, u154, u155, u156, u157, u158, u159, u160, u161, u162, u163, u164, u165, u166, u167, u168, u169, u170, u171, u172, u173, u174, u175, u176, u177, u178, u179, u180, u181, u182, u183, u184, u185, u186, u187, u188, u189, u190, u191, u192, u193, u194, u195, u196, u197, u198, u199, u200, u201, u202, u203, u204, u205, u206, u207, undef, undef, undef, undef, undef, undef, undef, undef, undef, undef, undef, undef, undef, undef, undef, undef, undef, undef], []⟩ wr := by
  have HN := hide hN
  have HMK := hide hmk
  have HNN := hide hn
  have HLL := hide hll
  have HSL := hide hsl
  have HB40 := hide hb40
  have hl40 : ll ≤ 40 := by omega
  have hs40 : sl ≤ 20 := by omega
  have hkI : (i : Int) < (ks.length : Int) := by omega
  have hbw : b0 ≠ wr.heap.size := by omega
  have dbr : decide (most < (ll : Int) + 2 * sl + 5) = false := by simp; omega
  have tok1 : True := trivial
  have tok2 : True := trivial
  clear hN hmk hn hll hsl hb40
  have HAT : Hid (makeAt (winB op 0 40) calm l st ⟨op, a, b, c, n⟩ = (l ++ [simpleP ⟨op, a, b, c, n⟩], st)) := by unfold Hid; simp [makeAt, n20, n21, n22, n23, n24, n25, n26, n27, n28, n29, n30, n31, n32]
  obtain ⟨ww, hww⟩ : ∃ ww, winB op 0 40 = ww := ⟨_, rfl⟩
  have c20 : (ww == 20) = false := by rw [beq_eq_false_iff_ne, ← hww]; exact n20
  have c21 : (ww == 21) = false := by rw [beq_eq_false_iff_ne, ← hww]; exact n21
  have c22 : (ww == 22) = false := by rw [beq_eq_false_iff_ne, ← hww]; exact n22
  have c23 : (ww == 23) = false := by rw [beq_eq_false_iff_ne, ← hww]; exact n23
  have c24 : (ww == 24) = false := by rw [beq_eq_false_iff_ne, ← hww]; exact n24
  have c25 : (ww == 25) = false := by rw [beq_eq_false_iff_ne, ← hww]; exact n25
  have c26 : (ww == 26) = false := by rw [beq_eq_false_iff_ne, ← hww]; exact n26
  have c27 : (ww == 27) = false := by rw [beq_eq_false_iff_ne, ← hww]; exact n27
  have c28 : (ww == 28) = false := by rw [beq_eq_false_iff_ne, ← hww]; exact n28
  have c29 : (ww == 29) = false := by rw [beq_eq_false_iff_ne, ← hww]; exact n29
  have c30 : (ww == 30) = false := by rw [beq_eq_false_iff_ne, ← hww]; exact n30
  have c31 : (ww == 31) = false := by rw [beq_eq_false_iff_ne, ← hww]; exact n31
  have c32 : (ww == 32) = false := by rw [beq_eq_false_iff_ne, ← hww]; exact n32
  have HWI : Hid (∀ wq, Calls Tryd.prog 62 #[.int .i64 op, .int .i64 0, .int .i64 40] wq fun e w' => e = .returned (.int .i64 ww) ∧ wq = w') := fun wq => by
    rw [← hww]
    exact within_in op 0 40 wq (by decide) (by decide) (by decide)
  clear hww n20 n21 n22 n23 n24 n25 n26 n27 n28 n29 n30 n31 n32
  conv => arg 2; whnf
  go_wp2_with (first
    | (go_at_call 62; refine (HWI.out _).mono ?_; rintro e wz ⟨rfl, rfl⟩)
    | (go_at_call 65; refine (simple_lit op a b c n _ HNN.out).mono ?_; rintro e w2 ⟨rfl, ho2⟩; have hs2 : wr.heap.size + 1 ≤ w2.heap.size := Nat.le_trans (by simp) ho2.size; have hon : Only Nob wr w2 := Only.trans ((Only.refl _ _).alloc _) ho2)
    | (at_builtin; have _t := tok1; refine wpList_pushI rfl _ _ rfl HMK.out (hon.alloc _) [simpleP ⟨op, a, b, c, n⟩] (G := w2.heap.size) (cnt := 1) (readsP1 (simpleP ⟨op, a, b, c, n⟩) _ rfl) rfl rfl rfl (by have := HB40.out; have := HLL.out; omega) ?_; clear tok1; intro A2 c2 w19 hm2 hz2; have HM2 := hide hm2; clear hm2))
  exact HN.out _ _ _ _ _ _ _ _ _ _ _ _ _ _ _ _ _ _ _ _ _ _ _ _ _ _ _ _ _ _ _ _ _ _ _ _ _ _ _ _ _ _ _ _ _ _ _ _ _ _ _ _ _ _ _ _ _ _ _ _ _ _ _ _ _ _ _ _ _ _ _ _ _ _ _ _ _ _ _ _ _ _ _ _ _ _ _ _ _ _ _ _ _ _ _ _ _ _ _ _ _ _ _ _ _ _ _ _ _ _ _ _ _ _ _ _ _ _ _ _ _ _ _ _ _ _ _ _ _ _ _ _ _ _ _ _ _ _ _ _ _ _ _ _ _ _ _ _ _ _ _ _ _ _ _ _ _ _ _ _ _ _ _ _ _ _ _ _ _ _ _ _ _ _ _ _ _ _ _ _ _ _ _ _ _ _ _ _ _ _ _ _ _ _ _ _ _ _ _ _ _ (by rw [HAT.out]; exact HM2.out)
end Go.Proofs.YtngahgfppbjebaaDoor
