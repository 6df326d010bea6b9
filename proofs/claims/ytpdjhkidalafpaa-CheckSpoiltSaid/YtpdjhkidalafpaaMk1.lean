/-
  The draws' Prog: ways through a round.
-/
import Derived.Test.YtpdjhkidalafpaaMkL
namespace Go.Proofs.Ytpdjhkidalafpaa
open Go.RowKit
set_option linter.unusedVariables false
set_option linter.unusedSimpArgs false

set_option maxRecDepth 1000000 in
set_option maxHeartbeats 8000000 in
theorem way_20 (w : World) (b0 o0 cap : Nat) (ks : List PIns) (most : Int) (calm : Bool) (wr : World) (i : Nat) (l : List PIns) (st : List Int) (op a b c n : Int) (A1 : Option Addr) (cap1 : Nat) (C1 : Option Addr) (cap2 ll sl : Nat)
    (hk : ks.length ≤ 9223372036854775807) (hlt : i < ks.length) (hwlt : w.heap.size < wr.heap.size) (hblt : b0 < wr.heap.size)
    (i0' : wr.cell? ⟨b0, o0 + i * 5, none⟩ = some (.int .i64 op)) (i1' : wr.cell? ⟨b0, o0 + i * 5 + 1, none⟩ = some (.int .i64 a)) (i2' : wr.cell? ⟨b0, o0 + i * 5 + 2, none⟩ = some (.int .i64 b)) (i3' : wr.cell? ⟨b0, o0 + i * 5 + 3, none⟩ = some (.int .i64 c)) (i4' : wr.cell? ⟨b0, o0 + i * 5 + 4, none⟩ = some (.int .u64 n))
    (hn : 0 ≤ n ∧ n ≤ 18446744073709551615) (hmk : Making (w.alloc (.cells #[.slice none 0 0] 37)) wr (w.heap.size + 1) (.slice A1 ll cap1) (.slice C1 sl cap2) l st) (hll : l.length = ll) (hsl : st.length = sl) (hbr : (ll : Int) + 2 * sl + 5 ≤ most) (hb40 : ll + 2 * sl + 5 ≤ 40)
    (hw : winB op 0 40 = 20) (Q : Exit → Act → World → Prop) (u10 u11 u12 u13 u14 u15 u16 u17 u18 u19 u20 u21 u22 u23 u24 u25 u26 u27 u28 u29 u30 u31 u32 u33 u34 u35 u36 u37 u38 u39 u40 u41 u42 u43 u44 u45 u46 u47 u48 u49 u50 u51 u52 u53 u54 u55 u56 u57 u58 u59 u60 u61 u62 u63 u64 u65 u66 u67 u68 u69 u70 u71 u72 u73 u74 u75 u76 u77 u78 u79 u80 u81 u82 u83 u84 u85 u86 u87 u88 u89 u90 u91 u92 u93 u94 u95 u96 u97 u98 u99 u100 u101 u102 u103 u104 u105 u106 u107 u108 u109 u110 u111 u112 u113 u114 u115 u116 u117 u118 u119 u120 u121 u122 u123 u124 u125 u126 u127 u128 u129 u130 u131 u132 u133 u134 u135 u136 u137 u138 u139 u140 u141 u142 u143 u144 u145 u146 u147 u148 u149 u150 u151 u152 u153 u154 u155 u156 u157 u158 u159 u160 u161 u162 u163 u164 u165 u166 u167 u168 u169 u170 u171 u172 u173 u174 u175 u176 u177 u178 u179 u180 u181 u182 u183 u184 u185 u186 u187 u188 u189 u190 u191 u192 u193 u194 u195 u196 u197 u198 u199 u200 u201 u202 u203 u204 u205 u206 u207 : Value)
    (hN : ∀ (z10 z11 z12 z13 z14 z15 z16 z17 z18 z19 z20 z21 z22 z23 z24 z25 z26 z27 z28 z29 z30 z31 z32 z33 z34 z35 z36 z37 z38 z39 z40 z41 z42 z43 z44 z45 z46 z47 z48 z49 z50 z51 z52 z53 z54 z55 z56 z57 z58 z59 z60 z61 z62 z63 z64 z65 z66 z67 z68 z69 z70 z71 z72 z73 z74 z75 z76 z77 z78 z79 z80 z81 z82 z83 z84 z85 z86 z87 z88 z89 z90 z91 z92 z93 z94 z95 z96 z97 z98 z99 z100 z101 z102 z103 z104 z105 z106 z107 z108 z109 z110 z111 z112 z113 z114 z115 z116 z117 z118 z119 z120 z121 z122 z123 z124 z125 z126 z127 z128 z129 z130 z131 z132 z133 z134 z135 z136 z137 z138 z139 z140 z141 z142 z143 z144 z145 z146 z147 z148 z149 z150 z151 z152 z153 z154 z155 z156 z157 z158 z159 z160 z161 z162 z163 z164 z165 z166 z167 z168 z169 z170 z171 z172 z173 z174 z175 z176 z177 z178 z179 z180 z181 z182 z183 z184 z185 z186 z187 z188 z189 z190 z191 z192 z193 z194 z195 z196 z197 z198 z199 z200 z201 z202 z203 z204 z205 z206 z207 v' u' : Value) (wr' : World), Making (w.alloc (.cells #[.slice none 0 0] 37)) wr' (w.heap.size + 1) v' u' (makeAt (winB op 0 40) calm l st ⟨op, a, b, c, n⟩).1 (makeAt (winB op 0 40) calm l st ⟨op, a, b, c, n⟩).2 → Q .normal ⟨#[.slice (some ⟨b0, o0, none⟩) ks.length cap, .int .i64 most, .bool calm, undef, undef, undef, .pointer (some ⟨w.heap.size, 0, none⟩), v', u', .int .i64 (↑i + 1), z10, z11, z12, z13, z14, z15, z16, z17, z18, z19, z20, z21, z22, z23, z24, z25, z26, z27, z28, z29, z30, z31, z32, z33, z34, z35, z36, z37, z38, z39, z40, z41, z42, z43, z44, z45, z46, z47, z48, z49, z50, z51, z52, z53, z54, z55, z56, z57, z58, z59, z60, z61, z62, z63, z64, z65, z66, z67, z68, z69, z70, z71, z72, z73, z74, z75, z76, z77, z78, z79, z80, z81, z82, z83, z84, z85, z86, z87, z88, z89, z90, z91, z92, z93, z94, z95, z96, z97, z98, z99, z100, z101, z102, z103, z104, z105, z106, z107, z108, z109, z110, z111, z112, z113, z114, z115, z116, z117, z118, z119, z120, z121, z122, z123, z124, z125, z126, z127, z128, z129, z130, z131, z132, z133, z134, z135, z136, z137, z138, z139, z140, z141, z142, z143, z144, z145, z146, z147, z148, z149, z150, z151, z152, z153, z154, z155, z156, z157, z158, z159, z160, z161, z162, z163, z164, z165, z166, z167, z168, z169, z170, z171, z172, z173, z174, z175, z176, z177, z178, z179, z180, z181, z182, z183, z184, z185, z186, z187, z188, z189, z190, z191, z192, z193, z194, z195, z196, z197, z198, z199, z200, z201, z202, z203, z204, z205, z206, z207, undef, undef, undef, undef, undef, undef, undef, undef, undef, undef, undef, undef, undef, undef, undef, undef, undef, undef], []⟩ wr') :
    Code.wp Try.prog mkBody Q ⟨#[.slice (some ⟨b0, o0, none⟩) ks.length cap, .int .i64 most, .bool calm, undef, undef, undef, .pointer (some ⟨w.heap.size, 0, none⟩), .slice A1 ll cap1, .slice C1 sl cap2, .int .i64 i, u10, u11, u12, u13, u14, u15, u16, u17, u18, u19, u20, u21, u22, u23, u24, u25, u26, u27, u28, u29, u30, u31, u32, u33, u34, u35, u36, u37, u38, u39, u40, u41, u42, u43, u44, u45, u46, u47, u48, u49, u50, u51, u52, u53, u54, u55, u56, u57, u58, u59, u60, u61, u62, u63, u64, u65, u66, u67, u68, u69, u70, u71, u72, u73, u74, u75, u76, u77, u78, u79, u80, u81, u82, u83, u84, u85, u86, u87, u88, u89, u90, u91, u92, u93, u94, u95, u96, u97, u98, u99, u100, u101, u102, u103, u104, u105, u106, u107, u108, u109, u110, u111, u112, u113, u114, u115, u116, u117, u118, u119, u120, u121, u122, u123, u124, u125, u126, u127, u128, u129, u130, u131, u132, u133, u134, u135, u136, u137, u138, u139, u140, u141, u142, u143, u144, u145, u146, u147, u148, u149, u150, u151, u152, u153, u154, u155, u156, u157, u158, u159, u160, u161, u162, u163, u164, u165, u166, u167, u168, u169, u170, u171, u172, u173, u174, u175, u176, u177, u178, u179, u180, u181, u182, u183, u184, u185, u186, u187, u188, u189, u190, u191, u192, u193, u194, u195, u196, u197, u198, u199, u200, u201, u202, u203, u204, u205, u206, u207, undef, undef, undef, undef, undef, undef, undef, undef, undef, undef, undef, undef, undef, undef, undef, undef, undef, undef], []⟩ wr := by
  have HN := hide hN
  have HMK := hide hmk
  have HNN := hide hn
  have HLL := hide hll
  have HSL := hide hsl
  have HB40 := hide hb40
  have hl40 : ll ≤ 40 := by omega
  have hs40 : sl ≤ 20 := by omega
  have hkI : (i : Int) < (ks.length : Int) := by omega
  have hbw : b0 ≠ wr.heap.size := by omega
  have dbr : decide (most < (ll : Int) + 2 * sl + 5) = false := by simp; omega
  have tok1 : True := trivial
  have tok2 : True := trivial
  clear hN hmk hn hll hsl hb40
  conv => arg 2; whnf
  by_cases h5 : sl < 5
  · have d5 : decide (sl < 5) = true := by simpa using h5
    have d6 : decide ((sl : Int) < 5) = true := by simp; omega
    have g5 : st.length < 5 := by have := HSL.out; omega
    have HAT : Hid (makeAt (winB op 0 40) calm l st ⟨op, a, b, c, n⟩ = (l ++ [one 14], 14 :: st)) := by unfold Hid; rw [hw]; simp [makeAt, g5]
    clear g5
    go_wp2_with (first
      | (go_at_call 18; refine (within_in _ _ _ _ (by decide) (by decide) (by decide)).mono ?_; rintro e wz ⟨rfl, rfl⟩)
      | (at_builtin; have _t := tok1; refine wpList_pushI rfl _ _ rfl HMK.out (((Only.refl Nob wr).alloc _).alloc _) [one 14] (G := wr.heap.size + 1) (cnt := 1) (readsP1 (one 14) _ (by simp)) rfl rfl rfl (by have := HB40.out; have := HLL.out; omega) ?_; clear tok1; intro A2 c2 w19 hm2 hz2; have HM2 := hide hm2; clear hm2)
      | (at_builtin; have _t := tok2; refine wpList_pushO rfl _ _ rfl HM2.out ((Only.refl Nob w19).alloc _) 14 (G := w19.heap.size) (readsI 14 _ rfl) rfl rfl (by have := HB40.out; have := HSL.out; omega) ?_; clear tok2; intro C2 c3 w29 hm3 hz3; have HM3 := hide hm3; clear hm3))
    exact HN.out _ _ _ _ _ _ _ _ _ _ _ _ _ _ _ _ _ _ _ _ _ _ _ _ _ _ _ _ _ _ _ _ _ _ _ _ _ _ _ _ _ _ _ _ _ _ _ _ _ _ _ _ _ _ _ _ _ _ _ _ _ _ _ _ _ _ _ _ _ _ _ _ _ _ _ _ _ _ _ _ _ _ _ _ _ _ _ _ _ _ _ _ _ _ _ _ _ _ _ _ _ _ _ _ _ _ _ _ _ _ _ _ _ _ _ _ _ _ _ _ _ _ _ _ _ _ _ _ _ _ _ _ _ _ _ _ _ _ _ _ _ _ _ _ _ _ _ _ _ _ _ _ _ _ _ _ _ _ _ _ _ _ _ _ _ _ _ _ _ _ _ _ _ _ _ _ _ _ _ _ _ _ _ _ _ _ _ _ _ _ _ _ _ _ _ _ _ _ _ _ _ (by rw [HAT.out]; exact HM3.out)
  · have d5 : decide (sl < 5) = false := by simp; omega
    have d6 : decide ((sl : Int) < 5) = false := by simp; omega
    have g5 : ¬ st.length < 5 := by have := HSL.out; omega
    have HAT : Hid (makeAt (winB op 0 40) calm l st ⟨op, a, b, c, n⟩ = (l ++ [simpleP ⟨op, a, b, c, n⟩], st)) := by unfold Hid; rw [hw]; simp [makeAt, g5]
    clear g5
    go_wp2_with (first
      | (go_at_call 18; refine (within_in _ _ _ _ (by decide) (by decide) (by decide)).mono ?_; rintro e wz ⟨rfl, rfl⟩)
      | (go_at_call 43; refine (simple_lit op a b c n _ HNN.out).mono ?_; rintro e w2 ⟨rfl, ho2⟩; have hs2 : wr.heap.size + 1 ≤ w2.heap.size := Nat.le_trans (by simp) ho2.size; have hon : Only Nob wr w2 := Only.trans ((Only.refl _ _).alloc _) ho2)
      | (at_builtin; have _t := tok1; refine wpList_pushI rfl _ _ rfl HMK.out (hon.alloc _) [simpleP ⟨op, a, b, c, n⟩] (G := w2.heap.size) (cnt := 1) (readsP1 (simpleP ⟨op, a, b, c, n⟩) _ rfl) rfl rfl rfl (by have := HB40.out; have := HLL.out; omega) ?_; clear tok1; intro A2 c2 w19 hm2 hz2; have HM2 := hide hm2; clear hm2))
    exact HN.out _ _ _ _ _ _ _ _ _ _ _ _ _ _ _ _ _ _ _ _ _ _ _ _ _ _ _ _ _ _ _ _ _ _ _ _ _ _ _ _ _ _ _ _ _ _ _ _ _ _ _ _ _ _ _ _ _ _ _ _ _ _ _ _ _ _ _ _ _ _ _ _ _ _ _ _ _ _ _ _ _ _ _ _ _ _ _ _ _ _ _ _ _ _ _ _ _ _ _ _ _ _ _ _ _ _ _ _ _ _ _ _ _ _ _ _ _ _ _ _ _ _ _ _ _ _ _ _ _ _ _ _ _ _ _ _ _ _ _ _ _ _ _ _ _ _ _ _ _ _ _ _ _ _ _ _ _ _ _ _ _ _ _ _ _ _ _ _ _ _ _ _ _ _ _ _ _ _ _ _ _ _ _ _ _ _ _ _ _ _ _ _ _ _ _ _ _ _ _ _ _ (by rw [HAT.out]; exact HM2.out)

set_option maxRecDepth 1000000 in
set_option maxHeartbeats 8000000 in
theorem way_21 (w : World) (b0 o0 cap : Nat) (ks : List PIns) (most : Int) (calm : Bool) (wr : World) (i : Nat) (l : List PIns) (st : List Int) (op a b c n : Int) (A1 : Option Addr) (cap1 : Nat) (C1 : Option Addr) (cap2 ll sl : Nat)
    (hk : ks.length ≤ 9223372036854775807) (hlt : i < ks.length) (hwlt : w.heap.size < wr.heap.size) (hblt : b0 < wr.heap.size)
    (i0' : wr.cell? ⟨b0, o0 + i * 5, none⟩ = some (.int .i64 op)) (i1' : wr.cell? ⟨b0, o0 + i * 5 + 1, none⟩ = some (.int .i64 a)) (i2' : wr.cell? ⟨b0, o0 + i * 5 + 2, none⟩ = some (.int .i64 b)) (i3' : wr.cell? ⟨b0, o0 + i * 5 + 3, none⟩ = some (.int .i64 c)) (i4' : wr.cell? ⟨b0, o0 + i * 5 + 4, none⟩ = some (.int .u64 n))
    (hn : 0 ≤ n ∧ n ≤ 18446744073709551615) (hmk : Making (w.alloc (.cells #[.slice none 0 0] 37)) wr (w.heap.size + 1) (.slice A1 ll cap1) (.slice C1 sl cap2) l st) (hll : l.length = ll) (hsl : st.length = sl) (hbr : (ll : Int) + 2 * sl + 5 ≤ most) (hb40 : ll + 2 * sl + 5 ≤ 40)
    (hw : winB op 0 40 = 21) (Q : Exit → Act → World → Prop) (u10 u11 u12 u13 u14 u15 u16 u17 u18 u19 u20 u21 u22 u23 u24 u25 u26 u27 u28 u29 u30 u31 u32 u33 u34 u35 u36 u37 u38 u39 u40 u41 u42 u43 u44 u45 u46 u47 u48 u49 u50 u51 u52 u53 u54 u55 u56 u57 u58 u59 u60 u61 u62 u63 u64 u65 u66 u67 u68 u69 u70 u71 u72 u73 u74 u75 u76 u77 u78 u79 u80 u81 u82 u83 u84 u85 u86 u87 u88 u89 u90 u91 u92 u93 u94 u95 u96 u97 u98 u99 u100 u101 u102 u103 u104 u105 u106 u107 u108 u109 u110 u111 u112 u113 u114 u115 u116 u117 u118 u119 u120 u121 u122 u123 u124 u125 u126 u127 u128 u129 u130 u131 u132 u133 u134 u135 u136 u137 u138 u139 u140 u141 u142 u143 u144 u145 u146 u147 u148 u149 u150 u151 u152 u153 u154 u155 u156 u157 u158 u159 u160 u161 u162 u163 u164 u165 u166 u167 u168 u169 u170 u171 u172 u173 u174 u175 u176 u177 u178 u179 u180 u181 u182 u183 u184 u185 u186 u187 u188 u189 u190 u191 u192 u193 u194 u195 u196 u197 u198 u199 u200 u201 u202 u203 u204 u205 u206 u207 : Value)
    (hN : ∀ (z10 z11 z12 z13 z14 z15 z16 z17 z18 z19 z20 z21 z22 z23 z24 z25 z26 z27 z28 z29 z30 z31 z32 z33 z34 z35 z36 z37 z38 z39 z40 z41 z42 z43 z44 z45 z46 z47 z48 z49 z50 z51 z52 z53 z54 z55 z56 z57 z58 z59 z60 z61 z62 z63 z64 z65 z66 z67 z68 z69 z70 z71 z72 z73 z74 z75 z76 z77 z78 z79 z80 z81 z82 z83 z84 z85 z86 z87 z88 z89 z90 z91 z92 z93 z94 z95 z96 z97 z98 z99 z100 z101 z102 z103 z104 z105 z106 z107 z108 z109 z110 z111 z112 z113 z114 z115 z116 z117 z118 z119 z120 z121 z122 z123 z124 z125 z126 z127 z128 z129 z130 z131 z132 z133 z134 z135 z136 z137 z138 z139 z140 z141 z142 z143 z144 z145 z146 z147 z148 z149 z150 z151 z152 z153 z154 z155 z156 z157 z158 z159 z160 z161 z162 z163 z164 z165 z166 z167 z168 z169 z170 z171 z172 z173 z174 z175 z176 z177 z178 z179 z180 z181 z182 z183 z184 z185 z186 z187 z188 z189 z190 z191 z192 z193 z194 z195 z196 z197 z198 z199 z200 z201 z202 z203 z204 z205 z206 z207 v' u' : Value) (wr' : World), Making (w.alloc (.cells #[.slice none 0 0] 37)) wr' (w.heap.size + 1) v' u' (makeAt (winB op 0 40) calm l st ⟨op, a, b, c, n⟩).1 (makeAt (winB op 0 40) calm l st ⟨op, a, b, c, n⟩).2 → Q .normal ⟨#[.slice (some ⟨b0, o0, none⟩) ks.length cap, .int .i64 most, .bool calm, undef, undef, undef, .pointer (some ⟨w.heap.size, 0, none⟩), v', u', .int .i64 (↑i + 1), z10, z11, z12, z13, z14, z15, z16, z17, z18, z19, z20, z21, z22, z23, z24, z25, z26, z27, z28, z29, z30, z31, z32, z33, z34, z35, z36, z37, z38, z39, z40, z41, z42, z43, z44, z45, z46, z47, z48, z49, z50, z51, z52, z53, z54, z55, z56, z57, z58, z59, z60, z61, z62, z63, z64, z65, z66, z67, z68, z69, z70, z71, z72, z73, z74, z75, z76, z77, z78, z79, z80, z81, z82, z83, z84, z85, z86, z87, z88, z89, z90, z91, z92, z93, z94, z95, z96, z97, z98, z99, z100, z101, z102, z103, z104, z105, z106, z107, z108, z109, z110, z111, z112, z113, z114, z115, z116, z117, z118, z119, z120, z121, z122, z123, z124, z125, z126, z127, z128, z129, z130, z131, z132, z133, z134, z135, z136, z137, z138, z139, z140, z141, z142, z143, z144, z145, z146, z147, z148, z149, z150, z151, z152, z153, z154, z155, z156, z157, z158, z159, z160, z161, z162, z163, z164, z165, z166, z167, z168, z169, z170, z171, z172, z173, z174, z175, z176, z177, z178, z179, z180, z181, z182, z183, z184, z185, z186, z187, z188, z189, z190, z191, z192, z193, z194, z195, z196, z197, z198, z199, z200, z201, z202, z203, z204, z205, z206, z207, undef, undef, undef, undef, undef, undef, undef, undef, undef, undef, undef, undef, undef, undef, undef, undef, undef, undef], []⟩ wr') :
    Code.wp Try.prog mkBody Q ⟨#[.slice (some ⟨b0, o0, none⟩) ks.length cap, .int .i64 most, .bool calm, undef, undef, undef, .pointer (some ⟨w.heap.size, 0, none⟩), .slice A1 ll cap1, .slice C1 sl cap2, .int .i64 i, u10, u11, u12, u13, u14, u15, u16, u17, u18, u19, u20, u21, u22, u23, u24, u25, u26, u27, u28, u29, u30, u31, u32, u33, u34, u35, u36, u37, u38, u39, u40, u41, u42, u43, u44, u45, u46, u47, u48, u49, u50, u51, u52, u53, u54, u55, u56, u57, u58, u59, u60, u61, u62, u63, u64, u65, u66, u67, u68, u69, u70, u71, u72, u73, u74, u75, u76, u77, u78, u79, u80, u81, u82, u83, u84, u85, u86, u87, u88, u89, u90, u91, u92, u93, u94, u95, u96, u97, u98, u99, u100, u101, u102, u103, u104, u105, u106, u107, u108, u109, u110, u111, u112, u113, u114, u115, u116, u117, u118, u119, u120, u121, u122, u123, u124, u125, u126, u127, u128, u129, u130, u131, u132, u133, u134, u135, u136, u137, u138, u139, u140, u141, u142, u143, u144, u145, u146, u147, u148, u149, u150, u151, u152, u153, u154, u155, u156, u157, u158, u159, u160, u161, u162, u163, u164, u165, u166, u167, u168, u169, u170, u171, u172, u173, u174, u175, u176, u177, u178, u179, u180, u181, u182, u183, u184, u185, u186, u187, u188, u189, u190, u191, u192, u193, u194, u195, u196, u197, u198, u199, u200, u201, u202, u203, u204, u205, u206, u207, undef, undef, undef, undef, undef, undef, undef, undef, undef, undef, undef, undef, undef, undef, undef, undef, undef, undef], []⟩ wr := by
  have HN := hide hN
  have HMK := hide hmk
  have HNN := hide hn
  have HLL := hide hll
  have HSL := hide hsl
  have HB40 := hide hb40
  have hl40 : ll ≤ 40 := by omega
  have hs40 : sl ≤ 20 := by omega
  have hkI : (i : Int) < (ks.length : Int) := by omega
  have hbw : b0 ≠ wr.heap.size := by omega
  have dbr : decide (most < (ll : Int) + 2 * sl + 5) = false := by simp; omega
  have tok1 : True := trivial
  have tok2 : True := trivial
  clear hN hmk hn hll hsl hb40
  conv => arg 2; whnf
  by_cases h5 : sl < 5
  · have d5 : decide (sl < 5) = true := by simpa using h5
    have d6 : decide ((sl : Int) < 5) = true := by simp; omega
    have g5 : st.length < 5 := by have := HSL.out; omega
    have HAT : Hid (makeAt (winB op 0 40) calm l st ⟨op, a, b, c, n⟩ = (l ++ [one 17], 17 :: st)) := by unfold Hid; rw [hw]; simp [makeAt, g5]
    clear g5
    go_wp2_with (first
      | (go_at_call 18; refine (within_in _ _ _ _ (by decide) (by decide) (by decide)).mono ?_; rintro e wz ⟨rfl, rfl⟩)
      | (at_builtin; have _t := tok1; refine wpList_pushI rfl _ _ rfl HMK.out (((Only.refl Nob wr).alloc _).alloc _) [one 17] (G := wr.heap.size + 1) (cnt := 1) (readsP1 (one 17) _ (by simp)) rfl rfl rfl (by have := HB40.out; have := HLL.out; omega) ?_; clear tok1; intro A2 c2 w19 hm2 hz2; have HM2 := hide hm2; clear hm2)
      | (at_builtin; have _t := tok2; refine wpList_pushO rfl _ _ rfl HM2.out ((Only.refl Nob w19).alloc _) 17 (G := w19.heap.size) (readsI 17 _ rfl) rfl rfl (by have := HB40.out; have := HSL.out; omega) ?_; clear tok2; intro C2 c3 w29 hm3 hz3; have HM3 := hide hm3; clear hm3))
    exact HN.out _ _ _ _ _ _ _ _ _ _ _ _ _ _ _ _ _ _ _ _ _ _ _ _ _ _ _ _ _ _ _ _ _ _ _ _ _ _ _ _ _ _ _ _ _ _ _ _ _ _ _ _ _ _ _ _ _ _ _ _ _ _ _ _ _ _ _ _ _ _ _ _ _ _ _ _ _ _ _ _ _ _ _ _ _ _ _ _ _ _ _ _ _ _ _ _ _ _ _ _ _ _ _ _ _ _ _ _ _ _ _ _ _ _ _ _ _ _ _ _ _ _ _ _ _ _ _ _ _ _ _ _ _ _ _ _ _ _ _ _ _ _ _ _ _ _ _ _ _ _ _ _ _ _ _ _ _ _ _ _ _ _ _ _ _ _ _ _ _ _ _ _ _ _ _ _ _ _ _ _ _ _ _ _ _ _ _ _ _ _ _ _ _ _ _ _ _ _ _ _ _ (by rw [HAT.out]; exact HM3.out)
  · have d5 : decide (sl < 5) = false := by simp; omega
    have d6 : decide ((sl : Int) < 5) = false := by simp; omega
    have g5 : ¬ st.length < 5 := by have := HSL.out; omega
    have HAT : Hid (makeAt (winB op 0 40) calm l st ⟨op, a, b, c, n⟩ = (l ++ [simpleP ⟨op, a, b, c, n⟩], st)) := by unfold Hid; rw [hw]; simp [makeAt, g5]
    clear g5
    go_wp2_with (first
      | (go_at_call 18; refine (within_in _ _ _ _ (by decide) (by decide) (by decide)).mono ?_; rintro e wz ⟨rfl, rfl⟩)
      | (go_at_call 43; refine (simple_lit op a b c n _ HNN.out).mono ?_; rintro e w2 ⟨rfl, ho2⟩; have hs2 : wr.heap.size + 1 ≤ w2.heap.size := Nat.le_trans (by simp) ho2.size; have hon : Only Nob wr w2 := Only.trans ((Only.refl _ _).alloc _) ho2)
      | (at_builtin; have _t := tok1; refine wpList_pushI rfl _ _ rfl HMK.out (hon.alloc _) [simpleP ⟨op, a, b, c, n⟩] (G := w2.heap.size) (cnt := 1) (readsP1 (simpleP ⟨op, a, b, c, n⟩) _ rfl) rfl rfl rfl (by have := HB40.out; have := HLL.out; omega) ?_; clear tok1; intro A2 c2 w19 hm2 hz2; have HM2 := hide hm2; clear hm2))
    exact HN.out _ _ _ _ _ _ _ _ _ _ _ _ _ _ _ _ _ _ _ _ _ _ _ _ _ _ _ _ _ _ _ _ _ _ _ _ _ _ _ _ _ _ _ _ _ _ _ _ _ _ _ _ _ _ _ _ _ _ _ _ _ _ _ _ _ _ _ _ _ _ _ _ _ _ _ _ _ _ _ _ _ _ _ _ _ _ _ _ _ _ _ _ _ _ _ _ _ _ _ _ _ _ _ _ _ _ _ _ _ _ _ _ _ _ _ _ _ _ _ _ _ _ _ _ _ _ _ _ _ _ _ _ _ _ _ _ _ _ _ _ _ _ _ _ _ _ _ _ _ _ _ _ _ _ _ _ _ _ _ _ _ _ _ _ _ _ _ _ _ _ _ _ _ _ _ _ _ _ _ _ _ _ _ _ _ _ _ _ _ _ _ _ _ _ _ _ _ _ _ _ _ (by rw [HAT.out]; exact HM2.out)

set_option maxRecDepth 1000000 in
set_option maxHeartbeats 8000000 in
theorem way_22 (w : World) (b0 o0 cap : Nat) (ks : List PIns) (most : Int) (calm : Bool) (wr : World) (i : Nat) (l : List PIns) (st : List Int) (op a b c n : Int) (A1 : Option Addr) (cap1 : Nat) (C1 : Option Addr) (cap2 ll sl : Nat)
    (hk : ks.length ≤ 9223372036854775807) (hlt : i < ks.length) (hwlt : w.heap.size < wr.heap.size) (hblt : b0 < wr.heap.size)
    (i0' : wr.cell? ⟨b0, o0 + i * 5, none⟩ = some (.int .i64 op)) (i1' : wr.cell? ⟨b0, o0 + i * 5 + 1, none⟩ = some (.int .i64 a)) (i2' : wr.cell? ⟨b0, o0 + i * 5 + 2, none⟩ = some (.int .i64 b)) (i3' : wr.cell? ⟨b0, o0 + i * 5 + 3, none⟩ = some (.int .i64 c)) (i4' : wr.cell? ⟨b0, o0 + i * 5 + 4, none⟩ = some (.int .u64 n))
    (hn : 0 ≤ n ∧ n ≤ 18446744073709551615) (hmk : Making (w.alloc (.cells #[.slice none 0 0] 37)) wr (w.heap.size + 1) (.slice A1 ll cap1) (.slice C1 sl cap2) l st) (hll : l.length = ll) (hsl : st.length = sl) (hbr : (ll : Int) + 2 * sl + 5 ≤ most) (hb40 : ll + 2 * sl + 5 ≤ 40)
    (hw : winB op 0 40 = 22) (Q : Exit → Act → World → Prop) (u10 u11 u12 u13 u14 u15 u16 u17 u18 u19 u20 u21 u22 u23 u24 u25 u26 u27 u28 u29 u30 u31 u32 u33 u34 u35 u36 u37 u38 u39 u40 u41 u42 u43 u44 u45 u46 u47 u48 u49 u50 u51 u52 u53 u54 u55 u56 u57 u58 u59 u60 u61 u62 u63 u64 u65 u66 u67 u68 u69 u70 u71 u72 u73 u74 u75 u76 u77 u78 u79 u80 u81 u82 u83 u84 u85 u86 u87 u88 u89 u90 u91 u92 u93 u94 u95 u96 u97 u98 u99 u100 u101 u102 u103 u104 u105 u106 u107 u108 u109 u110 u111 u112 u113 u114 u115 u116 u117 u118 u119 u120 u121 u122 u123 u124 u125 u126 u127 u128 u129 u130 u131 u132 u133 u134 u135 u136 u137 u138 u139 u140 u141 u142 u143 u144 u145 u146 u147 u148 u149 u150 u151 u152 u153 u154 u155 u156 u157 u158 u159 u160 u161 u162 u163 u164 u165 u166 u167 u168 u169 u170 u171 u172 u173 u174 u175 u176 u177 u178 u179 u180 u181 u182 u183 u184 u185 u186 u187 u188 u189 u190 u191 u192 u193 u194 u195 u196 u197 u198 u199 u200 u201 u202 u203 u204 u205 u206 u207 : Value)
    (hN : ∀ (z10 z11 z12 z13 z14 z15 z16 z17 z18 z19 z20 z21 z22 z23 z24 z25 z26 z27 z28 z29 z30 z31 z32 z33 z34 z35 z36 z37 z38 z39 z40 z41 z42 z43 z44 z45 z46 z47 z48 z49 z50 z51 z52 z53 z54 z55 z56 z57 z58 z59 z60 z61 z62 z63 z64 z65 z66 z67 z68 z69 z70 z71 z72 z73 z74 z75 z76 z77 z78 z79 z80 z81 z82 z83 z84 z85 z86 z87 z88 z89 z90 z91 z92 z93 z94 z95 z96 z97 z98 z99 z100 z101 z102 z103 z104 z105 z106 z107 z108 z109 z110 z111 z112 z113 z114 z115 z116 z117 z118 z119 z120 z121 z122 z123 z124 z125 z126 z127 z128 z129 z130 z131 z132 z133 z134 z135 z136 z137 z138 z139 z140 z141 z142 z143 z144 z145 z146 z147 z148 z149 z150 z151 z152 z153 z154 z155 z156 z157 z158 z159 z160 z161 z162 z163 z164 z165 z166 z167 z168 z169 z170 z171 z172 z173 z174 z175 z176 z177 z178 z179 z180 z181 z182 z183 z184 z185 z186 z187 z188 z189 z190 z191 z192 z193 z194 z195 z196 z197 z198 z199 z200 z201 z202 z203 z204 z205 z206 z207 v' u' : Value) (wr' : World), Making (w.alloc (.cells #[.slice none 0 0] 37)) wr' (w.heap.size + 1) v' u' (makeAt (winB op 0 40) calm l st ⟨op, a, b, c, n⟩).1 (makeAt (winB op 0 40) calm l st ⟨op, a, b, c, n⟩).2 → Q .normal ⟨#[.slice (some ⟨b0, o0, none⟩) ks.length cap, .int .i64 most, .bool calm, undef, undef, undef, .pointer (some ⟨w.heap.size, 0, none⟩), v', u', .int .i64 (↑i + 1), z10, z11, z12, z13, z14, z15, z16, z17, z18, z19, z20, z21, z22, z23, z24, z25, z26, z27, z28, z29, z30, z31, z32, z33, z34, z35, z36, z37, z38, z39, z40, z41, z42, z43, z44, z45, z46, z47, z48, z49, z50, z51, z52, z53, z54, z55, z56, z57, z58, z59, z60, z61, z62, z63, z64, z65, z66, z67, z68, z69, z70, z71, z72, z73, z74, z75, z76, z77, z78, z79, z80, z81, z82, z83, z84, z85, z86, z87, z88, z89, z90, z91, z92, z93, z94, z95, z96, z97, z98, z99, z100, z101, z102, z103, z104, z105, z106, z107, z108, z109, z110, z111, z112, z113, z114, z115, z116, z117, z118, z119, z120, z121, z122, z123, z124, z125, z126, z127, z128, z129, z130, z131, z132, z133, z134, z135, z136, z137, z138, z139, z140, z141, z142, z143, z144, z145, z146, z147, z148, z149, z150, z151, z152, z153, z154, z155, z156, z157, z158, z159, z160, z161, z162, z163, z164, z165, z166, z167, z168, z169, z170, z171, z172, z173, z174, z175, z176, z177, z178, z179, z180, z181, z182, z183, z184, z185, z186, z187, z188, z189, z190, z191, z192, z193, z194, z195, z196, z197, z198, z199, z200, z201, z202, z203, z204, z205, z206, z207, undef, undef, undef, undef, undef, undef, undef, undef, undef, undef, undef, undef, undef, undef, undef, undef, undef, undef], []⟩ wr') :
    Code.wp Try.prog mkBody Q ⟨#[.slice (some ⟨b0, o0, none⟩) ks.length cap, .int .i64 most, .bool calm, undef, undef, undef, .pointer (some ⟨w.heap.size, 0, none⟩), .slice A1 ll cap1, .slice C1 sl cap2, .int .i64 i, u10, u11, u12, u13, u14, u15, u16, u17, u18, u19, u20, u21, u22, u23, u24, u25, u26, u27, u28, u29, u30, u31, u32, u33, u34, u35, u36, u37, u38, u39, u40, u41, u42, u43, u44, u45, u46, u47, u48, u49, u50, u51, u52, u53, u54, u55, u56, u57, u58, u59, u60, u61, u62, u63, u64, u65, u66, u67, u68, u69, u70, u71, u72, u73, u74, u75, u76, u77, u78, u79, u80, u81, u82, u83, u84, u85, u86, u87, u88, u89, u90, u91, u92, u93, u94, u95, u96, u97, u98, u99, u100, u101, u102, u103, u104, u105, u106, u107, u108, u109, u110, u111, u112, u113, u114, u115, u116, u117, u118, u119, u120, u121, u122, u123, u124, u125, u126, u127, u128, u129, u130, u131, u132, u133, u134, u135, u136, u137, u138, u139, u140, u141, u142, u143, u144, u145, u146, u147, u148, u149, u150, u151, u152, u153, u154, u155, u156, u157, u158, u159, u160, u161, u162, u163, u164, u165, u166, u167, u168, u169, u170, u171, u172, u173, u174, u175, u176, u177, u178, u179, u180, u181, u182, u183, u184, u185, u186, u187, u188, u189, u190, u191, u192, u193, u194, u195, u196, u197, u198, u199, u200, u201, u202, u203, u204, u205, u206, u207, undef, undef, undef, undef, undef, undef, undef, undef, undef, undef, undef, undef, undef, undef, undef, undef, undef, undef], []⟩ wr := by
  have HN := hide hN
  have HMK := hide hmk
  have HNN := hide hn
  have HLL := hide hll
  have HSL := hide hsl
  have HB40 := hide hb40
  have hl40 : ll ≤ 40 := by omega
  have hs40 : sl ≤ 20 := by omega
  have hkI : (i : Int) < (ks.length : Int) := by omega
  have hbw : b0 ≠ wr.heap.size := by omega
  have dbr : decide (most < (ll : Int) + 2 * sl + 5) = false := by simp; omega
  have tok1 : True := trivial
  have tok2 : True := trivial
  clear hN hmk hn hll hsl hb40
  conv => arg 2; whnf
  by_cases h5 : sl < 5
  · have d5 : decide (sl < 5) = true := by simpa using h5
    have d6 : decide ((sl : Int) < 5) = true := by simp; omega
    have g5 : st.length < 5 := by have := HSL.out; omega
    have HAT : Hid (makeAt (winB op 0 40) calm l st ⟨op, a, b, c, n⟩ = (l ++ [one 17], 17 :: st)) := by unfold Hid; rw [hw]; simp [makeAt, g5]
    clear g5
    go_wp2_with (first
      | (go_at_call 18; refine (within_in _ _ _ _ (by decide) (by decide) (by decide)).mono ?_; rintro e wz ⟨rfl, rfl⟩)
      | (at_builtin; have _t := tok1; refine wpList_pushI rfl _ _ rfl HMK.out (((Only.refl Nob wr).alloc _).alloc _) [one 17] (G := wr.heap.size + 1) (cnt := 1) (readsP1 (one 17) _ (by simp)) rfl rfl rfl (by have := HB40.out; have := HLL.out; omega) ?_; clear tok1; intro A2 c2 w19 hm2 hz2; have HM2 := hide hm2; clear hm2)
      | (at_builtin; have _t := tok2; refine wpList_pushO rfl _ _ rfl HM2.out ((Only.refl Nob w19).alloc _) 17 (G := w19.heap.size) (readsI 17 _ rfl) rfl rfl (by have := HB40.out; have := HSL.out; omega) ?_; clear tok2; intro C2 c3 w29 hm3 hz3; have HM3 := hide hm3; clear hm3))
    exact HN.out _ _ _ _ _ _ _ _ _ _ _ _ _ _ _ _ _ _ _ _ _ _ _ _ _ _ _ _ _ _ _ _ _ _ _ _ _ _ _ _ _ _ _ _ _ _ _ _ _ _ _ _ _ _ _ _ _ _ _ _ _ _ _ _ _ _ _ _ _ _ _ _ _ _ _ _ _ _ _ _ _ _ _ _ _ _ _ _ _ _ _ _ _ _ _ _ _ _ _ _ _ _ _ _ _ _ _ _ _ _ _ _ _ _ _ _ _ _ _ _ _ _ _ _ _ _ _ _ _ _ _ _ _ _ _ _ _ _ _ _ _ _ _ _ _ _ _ _ _ _ _ _ _ _ _ _ _ _ _ _ _ _ _ _ _ _ _ _ _ _ _ _ _ _ _ _ _ _ _ _ _ _ _ _ _ _ _ _ _ _ _ _ _ _ _ _ _ _ _ _ _ (by rw [HAT.out]; exact HM3.out)
  · have d5 : decide (sl < 5) = false := by simp; omega
    have d6 : decide ((sl : Int) < 5) = false := by simp; omega
    have g5 : ¬ st.length < 5 := by have := HSL.out; omega
    have HAT : Hid (makeAt (winB op 0 40) calm l st ⟨op, a, b, c, n⟩ = (l ++ [simpleP ⟨op, a, b, c, n⟩], st)) := by unfold Hid; rw [hw]; simp [makeAt, g5]
    clear g5
    go_wp2_with (first
      | (go_at_call 18; refine (within_in _ _ _ _ (by decide) (by decide) (by decide)).mono ?_; rintro e wz ⟨rfl, rfl⟩)
      | (go_at_call 43; refine (simple_lit op a b c n _ HNN.out).mono ?_; rintro e w2 ⟨rfl, ho2⟩; have hs2 : wr.heap.size + 1 ≤ w2.heap.size := Nat.le_trans (by simp) ho2.size; have hon : Only Nob wr w2 := Only.trans ((Only.refl _ _).alloc _) ho2)
      | (at_builtin; have _t := tok1; refine wpList_pushI rfl _ _ rfl HMK.out (hon.alloc _) [simpleP ⟨op, a, b, c, n⟩] (G := w2.heap.size) (cnt := 1) (readsP1 (simpleP ⟨op, a, b, c, n⟩) _ rfl) rfl rfl rfl (by have := HB40.out; have := HLL.out; omega) ?_; clear tok1; intro A2 c2 w19 hm2 hz2; have HM2 := hide hm2; clear hm2))
    exact HN.out _ _ _ _ _ _ _ _ _ _ _ _ _ _ _ _ _ _ _ _ _ _ _ _ _ _ _ _ _ _ _ _ _ _ _ _ _ _ _ _ _ _ _ _ _ _ _ _ _ _ _ _ _ _ _ _ _ _ _ _ _ _ _ _ _ _ _ _ _ _ _ _ _ _ _ _ _ _ _ _ _ _ _ _ _ _ _ _ _ _ _ _ _ _ _ _ _ _ _ _ _ _ _ _ _ _ _ _ _ _ _ _ _ _ _ _ _ _ _ _ _ _ _ _ _ _ _ _ _ _ _ _ _ _ _ _ _ _ _ _ _ _ _ _ _ _ _ _ _ _ _ _ _ _ _ _ _ _ _ _ _ _ _ _ _ _ _ _ _ _ _ _ _ _ _ _ _ _ _ _ _ _ _ _ _ _ _ _ _ _ _ _ _ _ _ _ _ _ _ _ _ (by rw [HAT.out]; exact HM2.out)

set_option maxRecDepth 1000000 in
set_option maxHeartbeats 8000000 in
theorem way_25 (w : World) (b0 o0 cap : Nat) (ks : List PIns) (most : Int) (calm : Bool) (wr : World) (i : Nat) (l : List PIns) (st : List Int) (op a b c n : Int) (A1 : Option Addr) (cap1 : Nat) (C1 : Option Addr) (cap2 ll sl : Nat)
    (hk : ks.length ≤ 9223372036854775807) (hlt : i < ks.length) (hwlt : w.heap.size < wr.heap.size) (hblt : b0 < wr.heap.size)
    (i0' : wr.cell? ⟨b0, o0 + i * 5, none⟩ = some (.int .i64 op)) (i1' : wr.cell? ⟨b0, o0 + i * 5 + 1, none⟩ = some (.int .i64 a)) (i2' : wr.cell? ⟨b0, o0 + i * 5 + 2, none⟩ = some (.int .i64 b)) (i3' : wr.cell? ⟨b0, o0 + i * 5 + 3, none⟩ = some (.int .i64 c)) (i4' : wr.cell? ⟨b0, o0 + i * 5 + 4, none⟩ = some (.int .u64 n))
    (hn : 0 ≤ n ∧ n ≤ 18446744073709551615) (hmk : Making (w.alloc (.cells #[.slice none 0 0] 37)) wr (w.heap.size + 1) (.slice A1 ll cap1) (.slice C1 sl cap2) l st) (hll : l.length = ll) (hsl : st.length = sl) (hbr : (ll : Int) + 2 * sl + 5 ≤ most) (hb40 : ll + 2 * sl + 5 ≤ 40)
    (hw : winB op 0 40 = 25) (Q : Exit → Act → World → Prop) (u10 u11 u12 u13 u14 u15 u16 u17 u18 u19 u20 u21 u22 u23 u24 u25 u26 u27 u28 u29 u30 u31 u32 u33 u34 u35 u36 u37 u38 u39 u40 u41 u42 u43 u44 u45 u46 u47 u48 u49 u50 u51 u52 u53 u54 u55 u56 u57 u58 u59 u60 u61 u62 u63 u64 u65 u66 u67 u68 u69 u70 u71 u72 u73 u74 u75 u76 u77 u78 u79 u80 u81 u82 u83 u84 u85 u86 u87 u88 u89 u90 u91 u92 u93 u94 u95 u96 u97 u98 u99 u100 u101 u102 u103 u104 u105 u106 u107 u108 u109 u110 u111 u112 u113 u114 u115 u116 u117 u118 u119 u120 u121 u122 u123 u124 u125 u126 u127 u128 u129 u130 u131 u132 u133 u134 u135 u136 u137 u138 u139 u140 u141 u142 u143 u144 u145 u146 u147 u148 u149 u150 u151 u152 u153 u154 u155 u156 u157 u158 u159 u160 u161 u162 u163 u164 u165 u166 u167 u168 u169 u170 u171 u172 u173 u174 u175 u176 u177 u178 u179 u180 u181 u182 u183 u184 u185 u186 u187 u188 u189 u190 u191 u192 u193 u194 u195 u196 u197 u198 u199 u200 u201 u202 u203 u204 u205 u206 u207 : Value)
    (hN : ∀ (z10 z11 z12 z13 z14 z15 z16 z17 z18 z19 z20 z21 z22 z23 z24 z25 z26 z27 z28 z29 z30 z31 z32 z33 z34 z35 z36 z37 z38 z39 z40 z41 z42 z43 z44 z45 z46 z47 z48 z49 z50 z51 z52 z53 z54 z55 z56 z57 z58 z59 z60 z61 z62 z63 z64 z65 z66 z67 z68 z69 z70 z71 z72 z73 z74 z75 z76 z77 z78 z79 z80 z81 z82 z83 z84 z85 z86 z87 z88 z89 z90 z91 z92 z93 z94 z95 z96 z97 z98 z99 z100 z101 z102 z103 z104 z105 z106 z107 z108 z109 z110 z111 z112 z113 z114 z115 z116 z117 z118 z119 z120 z121 z122 z123 z124 z125 z126 z127 z128 z129 z130 z131 z132 z133 z134 z135 z136 z137 z138 z139 z140 z141 z142 z143 z144 z145 z146 z147 z148 z149 z150 z151 z152 z153 z154 z155 z156 z157 z158 z159 z160 z161 z162 z163 z164 z165 z166 z167 z168 z169 z170 z171 z172 z173 z174 z175 z176 z177 z178 z179 z180 z181 z182 z183 z184 z185 z186 z187 z188 z189 z190 z191 z192 z193 z194 z195 z196 z197 z198 z199 z200 z201 z202 z203 z204 z205 z206 z207 v' u' : Value) (wr' : World), Making (w.alloc (.cells #[.slice none 0 0] 37)) wr' (w.heap.size + 1) v' u' (makeAt (winB op 0 40) calm l st ⟨op, a, b, c, n⟩).1 (makeAt (winB op 0 40) calm l st ⟨op, a, b, c, n⟩).2 → Q .normal ⟨#[.slice (some ⟨b0, o0, none⟩) ks.length cap, .int .i64 most, .bool calm, undef, undef, undef, .pointer (some ⟨w.heap.size, 0, none⟩), v', u', .int .i64 (↑i + 1), z10, z11, z12, z13, z14, z15, z16, z17, z18, z19, z20, z21, z22, z23, z24, z25, z26, z27, z28, z29, z30, z31, z32, z33, z34, z35, z36, z37, z38, z39, z40, z41, z42, z43, z44, z45, z46, z47, z48, z49, z50, z51, z52, z53, z54, z55, z56, z57, z58, z59, z60, z61, z62, z63, z64, z65, z66, z67, z68, z69, z70, z71, z72, z73, z74, z75, z76, z77, z78, z79, z80, z81, z82, z83, z84, z85, z86, z87, z88, z89, z90, z91, z92, z93, z94, z95, z96, z97, z98, z99, z100, z101, z102, z103, z104, z105, z106, z107, z108, z109, z110, z111, z112, z113, z114, z115, z116, z117, z118, z119, z120, z121, z122, z123, z124, z125, z126, z127, z128, z129, z130, z131, z132, z133, z134, z135, z136, z137, z138, z139, z140, z141, z142, z143, z144, z145, z146, z147, z148, z149, z150, z151, z152, z153, z154, z155, z156, z157, z158, z159, z160, z161, z162, z163, z164, z165, z166, z167, z168, z169, z170, z171, z172, z173, z174, z175, z176, z177, z178, z179, z180, z181, z182, z183, z184, z185, z186, z187, z188, z189, z190, z191, z192, z193, z194, z195, z196, z197, z198, z199, z200, z201, z202, z203, z204, z205, z206, z207, undef, undef, undef, undef, undef, undef, undef, undef, undef, undef, undef, undef, undef, undef, undef, undef, undef, undef], []⟩ wr') :
    Code.wp Try.prog mkBody Q ⟨#[.slice (some ⟨b0, o0, none⟩) ks.length cap, .int .i64 most, .bool calm, undef, undef, undef, .pointer (some ⟨w.heap.size, 0, none⟩), .slice A1 ll cap1, .slice C1 sl cap2, .int .i64 i, u10, u11, u12, u13, u14, u15, u16, u17, u18, u19, u20, u21, u22, u23, u24, u25, u26, u27, u28, u29, u30, u31, u32, u33, u34, u35, u36, u37, u38, u39, u40, u41, u42, u43, u44, u45, u46, u47, u48, u49, u50, u51, u52, u53, u54, u55, u56, u57, u58, u59, u60, u61, u62, u63, u64, u65, u66, u67, u68, u69, u70, u71, u72, u73, u74, u75, u76, u77, u78, u79, u80, u81, u82, u83, u84, u85, u86, u87, u88, u89, u90, u91, u92, u93, u94, u95, u96, u97, u98, u99, u100, u101, u102, u103, u104, u105, u106, u107, u108, u109, u110, u111, u112, u113, u114, u115, u116, u117, u118, u119, u120, u121, u122, u123, u124, u125, u126, u127, u128, u129, u130, u131, u132, u133, u134, u135, u136, u137, u138, u139, u140, u141, u142, u143, u144, u145, u146, u147, u148, u149, u150, u151, u152, u153, u154, u155, u156, u157, u158, u159, u160, u161, u162, u163, u164, u165, u166, u167, u168, u169, u170, u171, u172, u173, u174, u175, u176, u177, u178, u179, u180, u181, u182, u183, u184, u185, u186, u187, u188, u189, u190, u191, u192, u193, u194, u195, u196, u197, u198, u199, u200, u201, u202, u203, u204, u205, u206, u207, undef, undef, undef, undef, undef, undef, undef, undef, undef, undef, undef, undef, undef, undef, undef, undef, undef, undef], []⟩ wr := by
  have HN := hide hN
  have HMK := hide hmk
  have HNN := hide hn
  have HLL := hide hll
  have HSL := hide hsl
  have HB40 := hide hb40
  have hl40 : ll ≤ 40 := by omega
  have hs40 : sl ≤ 20 := by omega
  have hkI : (i : Int) < (ks.length : Int) := by omega
  have hbw : b0 ≠ wr.heap.size := by omega
  have dbr : decide (most < (ll : Int) + 2 * sl + 5) = false := by simp; omega
  have tok1 : True := trivial
  have tok2 : True := trivial
  clear hN hmk hn hll hsl hb40
  conv => arg 2; whnf
  by_cases h5 : 0 < sl
  · have d5 : decide (0 < sl) = true := by simpa using h5
    have d6 : decide ((0 : Int) < (sl : Int)) = true := by simp; omega
    have htopc := HMK.out.stack.topc HSL.out h5
    obtain ⟨g9, x9, r9, hC9, hst9, hx9, hg9⟩ := htopc
    subst hC9
    have hg9w : g9 ≠ wr.heap.size := by omega
    have htI : (sl : Int) - 1 = ((sl - 1 : Nat) : Int) := by omega
    by_cases h6 : x9 = 14
    · have e6 : (x9 == 14) = true := by simpa using h6
      have HAT : Hid (makeAt (winB op 0 40) calm l st ⟨op, a, b, c, n⟩ = (l ++ [one 16], st)) := by unfold Hid; rw [hw]; simp [makeAt, hst9, h6]
      clear hst9 h6
      go_wp2_with (first
        | (go_at_call 18; refine (within_in _ _ _ _ (by decide) (by decide) (by decide)).mono ?_; rintro e wz ⟨rfl, rfl⟩)
        | (at_builtin; have _t := tok1; refine wpList_pushI rfl _ _ rfl HMK.out (((Only.refl Nob wr).alloc _).alloc _) [one 16] (G := wr.heap.size + 1) (cnt := 1) (readsP1 (one 16) _ (by simp)) rfl rfl rfl (by have := HB40.out; have := HLL.out; omega) ?_; clear tok1; intro A2 c2 w19 hm2 hz2; have HM2 := hide hm2; clear hm2))
      exact HN.out _ _ _ _ _ _ _ _ _ _ _ _ _ _ _ _ _ _ _ _ _ _ _ _ _ _ _ _ _ _ _ _ _ _ _ _ _ _ _ _ _ _ _ _ _ _ _ _ _ _ _ _ _ _ _ _ _ _ _ _ _ _ _ _ _ _ _ _ _ _ _ _ _ _ _ _ _ _ _ _ _ _ _ _ _ _ _ _ _ _ _ _ _ _ _ _ _ _ _ _ _ _ _ _ _ _ _ _ _ _ _ _ _ _ _ _ _ _ _ _ _ _ _ _ _ _ _ _ _ _ _ _ _ _ _ _ _ _ _ _ _ _ _ _ _ _ _ _ _ _ _ _ _ _ _ _ _ _ _ _ _ _ _ _ _ _ _ _ _ _ _ _ _ _ _ _ _ _ _ _ _ _ _ _ _ _ _ _ _ _ _ _ _ _ _ _ _ _ _ _ _ (by rw [HAT.out]; exact HM2.out)
    · have e6 : (x9 == 14) = false := by simpa using h6
      have HAT : Hid (makeAt (winB op 0 40) calm l st ⟨op, a, b, c, n⟩ = (l ++ [simpleP ⟨op, a, b, c, n⟩], st)) := by unfold Hid; rw [hw]; simp [makeAt, hst9, h6]
      clear hst9 h6
      go_wp2_with (first
        | (go_at_call 18; refine (within_in _ _ _ _ (by decide) (by decide) (by decide)).mono ?_; rintro e wz ⟨rfl, rfl⟩)
        | (go_at_call 43; refine (simple_lit op a b c n _ HNN.out).mono ?_; rintro e w2 ⟨rfl, ho2⟩; have hs2 : wr.heap.size + 1 ≤ w2.heap.size := Nat.le_trans (by simp) ho2.size; have hon : Only Nob wr w2 := Only.trans ((Only.refl _ _).alloc _) ho2)
        | (at_builtin; have _t := tok1; refine wpList_pushI rfl _ _ rfl HMK.out (hon.alloc _) [simpleP ⟨op, a, b, c, n⟩] (G := w2.heap.size) (cnt := 1) (readsP1 (simpleP ⟨op, a, b, c, n⟩) _ rfl) rfl rfl rfl (by have := HB40.out; have := HLL.out; omega) ?_; clear tok1; intro A2 c2 w19 hm2 hz2; have HM2 := hide hm2; clear hm2))
      exact HN.out _ _ _ _ _ _ _ _ _ _ _ _ _ _ _ _ _ _ _ _ _ _ _ _ _ _ _ _ _ _ _ _ _ _ _ _ _ _ _ _ _ _ _ _ _ _ _ _ _ _ _ _ _ _ _ _ _ _ _ _ _ _ _ _ _ _ _ _ _ _ _ _ _ _ _ _ _ _ _ _ _ _ _ _ _ _ _ _ _ _ _ _ _ _ _ _ _ _ _ _ _ _ _ _ _ _ _ _ _ _ _ _ _ _ _ _ _ _ _ _ _ _ _ _ _ _ _ _ _ _ _ _ _ _ _ _ _ _ _ _ _ _ _ _ _ _ _ _ _ _ _ _ _ _ _ _ _ _ _ _ _ _ _ _ _ _ _ _ _ _ _ _ _ _ _ _ _ _ _ _ _ _ _ _ _ _ _ _ _ _ _ _ _ _ _ _ _ _ _ _ _ (by rw [HAT.out]; exact HM2.out)
  · have d5 : decide (0 < sl) = false := by simp; omega
    have d6 : decide ((0 : Int) < (sl : Int)) = false := by simp; omega
    have g5 : st = [] := by have := HSL.out; exact List.eq_nil_of_length_eq_zero (by omega)
    have HAT : Hid (makeAt (winB op 0 40) calm l st ⟨op, a, b, c, n⟩ = (l ++ [simpleP ⟨op, a, b, c, n⟩], st)) := by unfold Hid; rw [hw]; simp [makeAt, g5]
    clear g5
    go_wp2_with (first
      | (go_at_call 18; refine (within_in _ _ _ _ (by decide) (by decide) (by decide)).mono ?_; rintro e wz ⟨rfl, rfl⟩)
      | (go_at_call 43; refine (simple_lit op a b c n _ HNN.out).mono ?_; rintro e w2 ⟨rfl, ho2⟩; have hs2 : wr.heap.size + 1 ≤ w2.heap.size := Nat.le_trans (by simp) ho2.size; have hon : Only Nob wr w2 := Only.trans ((Only.refl _ _).alloc _) ho2)
      | (at_builtin; have _t := tok1; refine wpList_pushI rfl _ _ rfl HMK.out (hon.alloc _) [simpleP ⟨op, a, b, c, n⟩] (G := w2.heap.size) (cnt := 1) (readsP1 (simpleP ⟨op, a, b, c, n⟩) _ rfl) rfl rfl rfl (by have := HB40.out; have := HLL.out; omega) ?_; clear tok1; intro A2 c2 w19 hm2 hz2; have HM2 := hide hm2; clear hm2))
    exact HN.out _ _ _ _ _ _ _ _ _ _ _ _ _ _ _ _ _ _ _ _ _ _ _ _ _ _ _ _ _ _ _ _ _ _ _ _ _ _ _ _ _ _ _ _ _ _ _ _ _ _ _ _ _ _ _ _ _ _ _ _ _ _ _ _ _ _ _ _ _ _ _ _ _ _ _ _ _ _ _ _ _ _ _ _ _ _ _ _ _ _ _ _ _ _ _ _ _ _ _ _ _ _ _ _ _ _ _ _ _ _ _ _ _ _ _ _ _ _ _ _ _ _ _ _ _ _ _ _ _ _ _ _ _ _ _ _ _ _ _ _ _ _ _ _ _ _ _ _ _ _ _ _ _ _ _ _ _ _ _ _ _ _ _ _ _ _ _ _ _ _ _ _ _ _ _ _ _ _ _ _ _ _ _ _ _ _ _ _ _ _ _ _ _ _ _ _ _ _ _ _ _ (by rw [HAT.out]; exact HM2.out)
end Go.Proofs.Ytpdjhkidalafpaa
