/-
  The contract of the draws' Prog: a program that may run, out of draws.
-/
import Derived.Test.YtngahgfppbjebaaDoorGrpMk2
import Derived.Test.YtngahgfppbjebaaDoorGrpMk4
import Derived.Test.YtngahgfppbjebaaDoorGrpMakeLaw
namespace Go.Proofs.YtngahgfppbjebaaDoor
open Go.RowKit
set_option linter.unusedVariables false
set_option linter.unusedSimpArgs false

theorem then_normal {K : Act → World → Prop} {Q : Exit → Act → World → Prop} {a : Act} {w : World} (h : K a w) : Exit.then K Q .normal a w := h

set_option maxRecDepth 1000000 in
set_option maxHeartbeats 8000000 in
theorem round_go (w : World) (b0 o0 cap : Nat) (ks : List PIns) (most : Int) (calm : Bool) (wr : World) (i : Nat) (l : List PIns) (st : List Int) (op a b c n : Int) (A1 : Option Addr) (cap1 : Nat) (C1 : Option Addr) (cap2 ll sl : Nat)
    (hk : ks.length ≤ 9223372036854775807) (hlt : i < ks.length) (hwlt : w.heap.size < wr.heap.size) (hblt : b0 < wr.heap.size)
    (i0' : wr.cell? ⟨b0, o0 + i * 5, none⟩ = some (.int .i64 op)) (i1' : wr.cell? ⟨b0, o0 + i * 5 + 1, none⟩ = some (.int .i64 a)) (i2' : wr.cell? ⟨b0, o0 + i * 5 + 2, none⟩ = some (.int .i64 b)) (i3' : wr.cell? ⟨b0, o0 + i * 5 + 3, none⟩ = some (.int .i64 c)) (i4' : wr.cell? ⟨b0, o0 + i * 5 + 4, none⟩ = some (.int .u64 n))
    (hn : 0 ≤ n ∧ n ≤ 18446744073709551615) (hmk : Making (w.alloc (.cells #[.slice none 0 0] 55)) wr (w.heap.size + 1) (.slice A1 ll cap1) (.slice C1 sl cap2) l st) (hll : l.length = ll) (hsl : st.length = sl) (hbr : (ll : Int) + 2 * sl + 5 ≤ most) (hb40 : ll + 2 * sl + 5 ≤ 40)
     (Q : Exit → Act → World → Prop) (u10 u11 u12 u13 u14 u15 u16 u17 u18 u19 u20 u21 u22 u23 u24 u25 u26 u27 u28 u29 u30 u31 u32 u33 u34 u35 u36 u37 u38 u39 u40 u41 u42 u43 u44 u45 u46 u47 u48 u49 u50 u51 u52 u53 u54 u55 u56 u57 u58 u59 u60 u61 u62 u63 u64 u65 u66 u67 u68 u69 u70 u71 u72 u73 u74 u75 u76 u77 u78 u79 u80 u81 u82 u83 u84 u85 u86 u87 u88 u89 u90 u91 u92 u93 u94 u95 u96 u97 u98 u99 u100 u101 u102 u103 u104 u105 u106 u107 u108 u109 u110 u111 u112 u113 u114 u115 u116 u117 u118 u119 u120 u121 u122 u123 u124 u125 u126 u127 u128 u129 u130 u131 u132 u133 u134 u135 u136 u137 u138 u139 u140 u141 u142 u143 u144 u145 u146 u147 u148 u149 u150 u151 u152 u153 u154 u155 u156 u157 u158 u159 u160 u161 u162 u163 u164 u165 u166 u167 u168 u169 u170 u171 u172 u173 u174 u175 u176 u177 u178 u179 u180 u181 u182 u183 u184 u185 u186 u187 u188 u189 u190 u191 u192 u193 u194 u195 u196 u197 u198 u199 u200 u201 u202 u203 u204 u205 u206 u207 : Value)
    (hN : ∀ (z10 z11 z12 z13 z14 z15 z16 z17 z18 z19 z20 z21 z22 z23 z24 z25 z26 z27 z28 z29 z30 z31 z32 z33 z34 z35 z36 z37 z38 z39 z40 z41 z42 z43 z44 z45 z46 z47 z48 z49 z50 z51 z52 z53 z54 z55 z56 z57 z58 z59 z60 z61 z62 z63 z64 z65 z66 z67 z68 z69 z70 z71 z72 z73 z74 z75 z76 z77 z78 z79 z80 z81 z82 z83 z84 z85 z86 z87 z88 z89 z90 z91 z92 z93 z94 z95 z96 z97 z98 z99 z100 z101 z102 z103 z104 z105 z106 z107 z108 z109 z110 z111 z112 z113 z114 z115 z116 z117 z118 z119 z120 z121 z122 z123 z124 z125 z126 z127 z128 z129 z130 z131 z132 z133 z134 z135 z136 z137 z138 z139 z140 z141 z142 z143 z144 z145 z146 z147 z148 z149 z150 z151 z152 z153 z154 z155 z156 z157 z158 z159 z160 z161 z162 z163 z164 z165 z166 z167 z168 z169 z170 z171 z172 z173 z174 z175 z176 z177 z178 z179 z180 z181 z182 z183 z184 z185 z186 z187 z188 z189 z190 z191 z192 z193 z194 z195 z196 z197 z198 z199 z200 z201 z202 z203 z204 z205 z206 z207 v' u' : Value) (wr' : World), Making (w.alloc (.cells #[.slice none 0 0] 55)) wr' (w.heap.size + 1) v' u' (makeAt (winB op 0 40) calm l st ⟨op, a, b, c, n⟩).1 (makeAt (winB op 0 40) calm l st ⟨op, a, b, c, n⟩).2 → Q .normal ⟨#[.slice (some ⟨b0, o0, none⟩) ks.length cap, .int .i64 most, .bool calm, undef, undef, undef, .pointer (some ⟨w.heap.size, 0, none⟩), v', u', .int .i64 (↑i + 1), z10, z11, z12, z13, z14, z15, z16, z17, z18, z19, z20, z21, z22, z23, z24, z25, z26, z27, z28, z29, z30, z31, z32, z33, z34, z35, z36, z37, z38, z39, z40, z41, z42, z43, z44, z45, z46, z47, z48, z49, z50, z51, z52, z53, z54, z55, z56, z57, z58, z59, z60, z61, z62, z63, z64, z65, z66, z67, z68, z69, z70, z71, z72, z73, z74, z75, z76, z77, z78, z79, z80, z81, z82, z83, z84, z85, z86, z87, z88, z89, z90, z91, z92, z93, z94, z95, z96, z97, z98, z99, z100, z101, z102, z103, z104, z105, z106, z107, z108, z109, z110, z111, z112, z113, z114, z115, z116, z117, z118, z119, z120, z121, z122, z123, z124, z125, z126, z127, z128, z129, z130, z131, z132, z133, z134, z135, z136, z137, z138, z139, z140, z141, z142, z143, z144, z145, z146, z147, z148, z149, z150, z151, z152, z153, z154, z155, z156, z157, z158, z159, z160, z161, z162, z163, z164, z165, z166, z167, z168, z169, z170, z171, z172, z173, z174, z175, z176, z177, z178, z179, z180, z181, z182, z183, z184, z185, z186, z187, z188, z189, z190, z191, z192, z193, z194, z195, z196, z197, z198, z199, z200, z201, z202, z203, z204, z205, z206, z207, undef, undef, undef, undef, undef, undef, undef, undef, undef, undef, undef, undef, undef, undef, undef, undef, undef, undef], []⟩ wr') :
    Code.wp Tryd.prog mkBody Q ⟨#[.slice (some ⟨b0, o0, none⟩) ks.length cap, .int .i64 most, .bool calm, undef, undef, undef, .pointer (some ⟨w.heap.size, 0, none⟩), .slice A1 ll cap1, .slice C1 sl cap2, .int .i64 i, u10, u11, u12, u13, u14, u15, u16, u17, u18, u19, u20, u21, u22, u23, u24, u25, u26, u27, u28, u29, u30, u31, u32, u33, u34, u35, u36, u37, u38, u39, u40, u41, u42, u43, u44, u45, u46, u47, u48, u49, u50, u51, u52, u53, u54, u55, u56, u57, u58, u59, u60, u61, u62, u63, u64, u65, u66, u67, u68, u69, u70, u71, u72, u73, u74, u75, u76, u77, u78, u79, u80, u81, u82, u83, u84, u85, u86, u87, u88, u89, u90, u91, u92, u93, u94, u95, u96, u97, u98, u99, u100, u101, u102, u103, u104, u105, u106, u107, u108, u109, u110, u111, u112, u113, u114, u115, u116, u117, u118, u119, u120, u121, u122, u123, u124, u125, u126, u127, u128, u129, u130, u131, u132, u133, u134, u135, u136, u137, u138, u139, u140, u141, u142, u143, u144, u145, u146, u147, u148, u149, u150, u151, u152, u153, u154, u155, u156, u157, u158, u159, u160, u161, u162, u163, u164, u165, u166, u167, u168, u169, u170, u171, u172, u173, u174, u175, u176, u177, u178, u179, u180, u181, u182, u183, u184, u185, u186, u187, u188, u189, u190, u191, u192, u193, u194, u195, u196, u197, u198, u199, u200, u201, u202, u203, u204, u205, u206, u207, undef, undef, undef, undef, undef, undef, undef, undef, undef, undef, undef, undef, undef, undef, undef, undef, undef, undef], []⟩ wr := by
  rcases (by have := winB_in (n := op) (lo := 0) (hi := 40) (by decide); omega : winB op 0 40 = 20 ∨ winB op 0 40 = 21 ∨ winB op 0 40 = 22 ∨ winB op 0 40 = 23 ∨ winB op 0 40 = 24 ∨ winB op 0 40 = 25 ∨ winB op 0 40 = 26 ∨ winB op 0 40 = 27 ∨ winB op 0 40 = 28 ∨ winB op 0 40 = 29 ∨ winB op 0 40 = 30 ∨ winB op 0 40 = 31 ∨ winB op 0 40 = 32 ∨ (winB op 0 40 ≠ 20 ∧ winB op 0 40 ≠ 21 ∧ winB op 0 40 ≠ 22 ∧ winB op 0 40 ≠ 23 ∧ winB op 0 40 ≠ 24 ∧ winB op 0 40 ≠ 25 ∧ winB op 0 40 ≠ 26 ∧ winB op 0 40 ≠ 27 ∧ winB op 0 40 ≠ 28 ∧ winB op 0 40 ≠ 29 ∧ winB op 0 40 ≠ 30 ∧ winB op 0 40 ≠ 31 ∧ winB op 0 40 ≠ 32)) with hw | hw | hw | hw | hw | hw | hw | hw | hw | hw | hw | hw | hw | ⟨n20, n21, n22, n23, n24, n25, n26, n27, n28, n29, n30, n31, n32⟩
  · exact way_20 w b0 o0 cap ks most calm wr i l st op a b c n A1 cap1 C1 cap2 ll sl hk hlt hwlt hblt i0' i1' i2' i3' i4' hn hmk hll hsl hbr hb40 hw Q u10 u11 u12 u13 u14 u15 u16 u17 u18 u19 u20 u21 u22 u23 u24 u25 u26 u27 u28 u29 u30 u31 u32 u33 u34 u35 u36 u37 u38 u39 u40 u41 u42 u43 u44 u45 u46 u47 u48 u49 u50 u51 u52 u53 u54 u55 u56 u57 u58 u59 u60 u61 u62 u63 u64 u65 u66 u67 u68 u69 u70 u71 u72 u73 u74 u75 u76 u77 u78 u79 u80 u81 u82 u83 u84 u85 u86 u87 u88 u89 u90 u91 u92 u93 u94 u95 u96 u97 u98 u99 u100 u101 u102 u103 u104 u105 u106 u107 u108 u109 u110 u111 u112 u113 u114 u115 u116 u117 u118 u119 u120 u121 u122 u123 u124 u125 u126 u127 u128 u129 u130 u131 u132 u133 u134 u135 u136 u137 u138 u139 u140 u141 u142 u143 u144 u145 u146 u147 u148 u149 u150 u151 u152 u153 u154 u155 u156 u157 u158 u159 u160 u161 u162 u163 u164 u165 u166 u167 u168 u169 u170 u171 u172 u173 u174 u175 u176 u177 u178 u179 u180 u181 u182 u183 u184 u185 u186 u187 u188 u189 u190 u191 u192 u193 u194 u195 u196 u197 u198 u199 u200 u201 u202 u203 u204 u205 u206 u207 hN
  · exact way_21 w b0 o0 cap ks most calm wr i l st op a b c n A1 cap1 C1 cap2 ll sl hk hlt hwlt hblt i0' i1' i2' i3' i4' hn hmk hll hsl hbr hb40 hw Q u10 u11 u12 u13 u14 u15 u16 u17 u18 u19 u20 u21 u22 u23 u24 u25 u26 u27 u28 u29 u30 u31 u32 u33 u34 u35 u36 u37 u38 u39 u40 u41 u42 u43 u44 u45 u46 u47 u48 u49 u50 u51 u52 u53 u54 u55 u56 u57 u58 u59 u60 u61 u62 u63 u64 u65 u66 u67 u68 u69 u70 u71 u72 u73 u74 u75 u76 u77 u78 u79 u80 u81 u82 u83 u84 u85 u86 u87 u88 u89 u90 u91 u92 u93 u94 u95 u96 u97 u98 u99 u100 u101 u102 u103 u104 u105 u106 u107 u108 u109 u110 u111 u112 u113 u114 u115 u116 u117 u118 u119 u120 u121 u122 u123 u124 u125 u126 u127 u128 u129 u130 u131 u132 u133 u134 u135 u136 u137 u138 u139 u140 u141 u142 u143 u144 u145 u146 u147 u148 u149 u150 u151 u152 u153 u154 u155 u156 u157 u158 u159 u160 u161 u162 u163 u164 u165 u166 u167 u168 u169 u170 u171 u172 u173 u174 u175 u176 u177 u178 u179 u180 u181 u182 u183 u184 u185 u186 u187 u188 u189 u190 u191 u192 u193 u194 u195 u196 u197 u198 u199 u200 u201 u202 u203 u204 u205 u206 u207 hN
  · exact way_22 w b0 o0 cap ks most calm wr i l st op a b c n A1 cap1 C1 cap2 ll sl hk hlt hwlt hblt i0' i1' i2' i3' i4' hn hmk hll hsl hbr hb40 hw Q u10 u11 u12 u13 u14 u15 u16 u17 u18 u19 u20 u21 u22 u23 u24 u25 u26 u27 u28 u29 u30 u31 u32 u33 u34 u35 u36 u37 u38 u39 u40 u41 u42 u43 u44 u45 u46 u47 u48 u49 u50 u51 u52 u53 u54 u55 u56 u57 u58 u59 u60 u61 u62 u63 u64 u65 u66 u67 u68 u69 u70 u71 u72 u73 u74 u75 u76 u77 u78 u79 u80 u81 u82 u83 u84 u85 u86 u87 u88 u89 u90 u91 u92 u93 u94 u95 u96 u97 u98 u99 u100 u101 u102 u103 u104 u105 u106 u107 u108 u109 u110 u111 u112 u113 u114 u115 u116 u117 u118 u119 u120 u121 u122 u123 u124 u125 u126 u127 u128 u129 u130 u131 u132 u133 u134 u135 u136 u137 u138 u139 u140 u141 u142 u143 u144 u145 u146 u147 u148 u149 u150 u151 u152 u153 u154 u155 u156 u157 u158 u159 u160 u161 u162 u163 u164 u165 u166 u167 u168 u169 u170 u171 u172 u173 u174 u175 u176 u177 u178 u179 u180 u181 u182 u183 u184 u185 u186 u187 u188 u189 u190 u191 u192 u193 u194 u195 u196 u197 u198 u199 u200 u201 u202 u203 u204 u205 u206 u207 hN
  · exact way_23 w b0 o0 cap ks most calm wr i l st op a b c n A1 cap1 C1 cap2 ll sl hk hlt hwlt hblt i0' i1' i2' i3' i4' hn hmk hll hsl hbr hb40 hw Q u10 u11 u12 u13 u14 u15 u16 u17 u18 u19 u20 u21 u22 u23 u24 u25 u26 u27 u28 u29 u30 u31 u32 u33 u34 u35 u36 u37 u38 u39 u40 u41 u42 u43 u44 u45 u46 u47 u48 u49 u50 u51 u52 u53 u54 u55 u56 u57 u58 u59 u60 u61 u62 u63 u64 u65 u66 u67 u68 u69 u70 u71 u72 u73 u74 u75 u76 u77 u78 u79 u80 u81 u82 u83 u84 u85 u86 u87 u88 u89 u90 u91 u92 u93 u94 u95 u96 u97 u98 u99 u100 u101 u102 u103 u104 u105 u106 u107 u108 u109 u110 u111 u112 u113 u114 u115 u116 u117 u118 u119 u120 u121 u122 u123 u124 u125 u126 u127 u128 u129 u130 u131 u132 u133 u134 u135 u136 u137 u138 u139 u140 u141 u142 u143 u144 u145 u146 u147 u148 u149 u150 u151 u152 u153 u154 u155 u156 u157 u158 u159 u160 u161 u162 u163 u164 u165 u166 u167 u168 u169 u170 u171 u172 u173 u174 u175 u176 u177 u178 u179 u180 u181 u182 u183 u184 u185 u186 u187 u188 u189 u190 u191 u192 u193 u194 u195 u196 u197 u198 u199 u200 u201 u202 u203 u204 u205 u206 u207 hN
  · exact way_24 w b0 o0 cap ks most calm wr i l st op a b c n A1 cap1 C1 cap2 ll sl hk hlt hwlt hblt i0' i1' i2' i3' i4' hn hmk hll hsl hbr hb40 hw Q u10 u11 u12 u13 u14 u15 u16 u17 u18 u19 u20 u21 u22 u23 u24 u25 u26 u27 u28 u29 u30 u31 u32 u33 u34 u35 u36 u37 u38 u39 u40 u41 u42 u43 u44 u45 u46 u47 u48 u49 u50 u51 u52 u53 u54 u55 u56 u57 u58 u59 u60 u61 u62 u63 u64 u65 u66 u67 u68 u69 u70 u71 u72 u73 u74 u75 u76 u77 u78 u79 u80 u81 u82 u83 u84 u85 u86 u87 u88 u89 u90 u91 u92 u93 u94 u95 u96 u97 u98 u99 u100 u101 u102 u103 u104 u105 u106 u107 u108 u109 u110 u111 u112 u113 u114 u115 u116 u117 u118 u119 u120 u121 u122 u123 u124 u125 u126 u127 u128 u129 u130 u131 u132 u133 u134 u135 u136 u137 u138 u139 u140 u141 u142 u143 u144 u145 u146 u147 u148 u149 u150 u151 u152 u153 u154 u155 u156 u157 u158 u159 u160 u161 u162 u163 u164 u165 u166 u167 u168 u169 u170 u171 u172 u173 u174 u175 u176 u177 u178 u179 u180 u181 u182 u183 u184 u185 u186 u187 u188 u189 u190 u191 u192 u193 u194 u195 u196 u197 u198 u199 u200 u201 u202 u203 u204 u205 u206 u207 hN
  · exact way_25 w b0 o0 cap ks most calm wr i l st op a b c n A1 cap1 C1 cap2 ll sl hk hlt hwlt hblt i0' i1' i2' i3' i4' hn hmk hll hsl hbr hb40 hw Q u10 u11 u12 u13 u14 u15 u16 u17 u18 u19 u20 u21 u22 u23 u24 u25 u26 u27 u28 u29 u30 u31 u32 u33 u34 u35 u36 u37 u38 u39 u40 u41 u42 u43 u44 u45 u46 u47 u48 u49 u50 u51 u52 u53 u54 u55 u56 u57 u58 u59 u60 u61 u62 u63 u64 u65 u66 u67 u68 u69 u70 u71 u72 u73 u74 u75 u76 u77 u78 u79 u80 u81 u82 u83 u84 u85 u86 u87 u88 u89 u90 u91 u92 u93 u94 u95 u96 u97 u98 u99 u100 u101 u102 u103 u104 u105 u106 u107 u108 u109 u110 u111 u112 u113 u114 u115 u116 u117 u118 u119 u120 u121 u122 u123 u124 u125 u126 u127 u128 u129 u130 u131 u132 u133 u134 u135 u136 u137 u138 u139 u140 u141 u142 u143 u144 u145 u146 u147 u148 u149 u150 u151 u152 u153 u154 u155 u156 u157 u158 u159 u160 u161 u162 u163 u164 u165 u166 u167 u168 u169 u170 u171 u172 u173 u174 u175 u176 u177 u178 u179 u180 u181 u182 u183 u184 u185 u186 u187 u188 u189 u190 u191 u192 u193 u194 u195 u196 u197 u198 u199 u200 u201 u202 u203 u204 u205 u206 u207 hN
  · exact way_26 w b0 o0 cap ks most calm wr i l st op a b c n A1 cap1 C1 cap2 ll sl hk hlt hwlt hblt i0' i1' i2' i3' i4' hn hmk hll hsl hbr hb40 hw Q u10 u11 u12 u13 u14 u15 u16 u17 u18 u19 u20 u21 u22 u23 u24 u25 u26 u27 u28 u29 u30 u31 u32 u33 u34 u35 u36 u37 u38 u39 u40 u41 u42 u43 u44 u45 u46 u47 u48 u49 u50 u51 u52 u53 u54 u55 u56 u57 u58 u59 u60 u61 u62 u63 u64 u65 u66 u67 u68 u69 u70 u71 u72 u73 u74 u75 u76 u77 u78 u79 u80 u81 u82 u83 u84 u85 u86 u87 u88 u89 u90 u91 u92 u93 u94 u95 u96 u97 u98 u99 u100 u101 u102 u103 u104 u105 u106 u107 u108 u109 u110 u111 u112 u113 u114 u115 u116 u117 u118 u119 u120 u121 u122 u123 u124 u125 u126 u127 u128 u129 u130 u131 u132 u133 u134 u135 u136 u137 u138 u139 u140 u141 u142 u143 u144 u145 u146 u147 u148 u149 u150 u151 u152 u153 u154 u155 u156 u157 u158 u159 u160 u161 u162 u163 u164 u165 u166 u167 u168 u169 u170 u171 u172 u173 u174 u175 u176 u177 u178 u179 u180 u181 u182 u183 u184 u185 u186 u187 u188 u189 u190 u191 u192 u193 u194 u195 u196 u197 u198 u199 u200 u201 u202 u203 u204 u205 u206 u207 hN
  · exact way_27 w b0 o0 cap ks most calm wr i l st op a b c n A1 cap1 C1 cap2 ll sl hk hlt hwlt hblt i0' i1' i2' i3' i4' hn hmk hll hsl hbr hb40 hw Q u10 u11 u12 u13 u14 u15 u16 u17 u18 u19 u20 u21 u22 u23 u24 u25 u26 u27 u28 u29 u30 u31 u32 u33 u34 u35 u36 u37 u38 u39 u40 u41 u42 u43 u44 u45 u46 u47 u48 u49 u50 u51 u52 u53 u54 u55 u56 u57 u58 u59 u60 u61 u62 u63 u64 u65 u66 u67 u68 u69 u70 u71 u72 u73 u74 u75 u76 u77 u78 u79 u80 u81 u82 u83 u84 u85 u86 u87 u88 u89 u90 u91 u92 u93 u94 u95 u96 u97 u98 u99 u100 u101 u102 u103 u104 u105 u106 u107 u108 u109 u110 u111 u112 u113 u114 u115 u116 u117 u118 u119 u120 u121 u122 u123 u124 u125 u126 u127 u128 u129 u130 u131 u132 u133 u134 u135 u136 u137 u138 u139 u140 u141 u142 u143 u144 u145 u146 u147 u148 u149 u150 u151 u152 u153 u154 u155 u156 u157 u158 u159 u160 u161 u162 u163 u164 u165 u166 u167 u168 u169 u170 u171 u172 u173 u174 u175 u176 u177 u178 u179 u180 u181 u182 u183 u184 u185 u186 u187 u188 u189 u190 u191 u192 u193 u194 u195 u196 u197 u198 u199 u200 u201 u202 u203 u204 u205 u206 u207 hN
  · exact way_28 w b0 o0 cap ks most calm wr i l st op a b c n A1 cap1 C1 cap2 ll sl hk hlt hwlt hblt i0' i1' i2' i3' i4' hn hmk hll hsl hbr hb40 hw Q u10 u11 u12 u13 u14 u15 u16 u17 u18 u19 u20 u21 u22 u23 u24 u25 u26 u27 u28 u29 u30 u31 u32 u33 u34 u35 u36 u37 u38 u39 u40 u41 u42 u43 u44 u45 u46 u47 u48 u49 u50 u51 u52 u53 u54 u55 u56 u57 u58 u59 u60 u61 u62 u63 u64 u65 u66 u67 u68 u69 u70 u71 u72 u73 u74 u75 u76 u77 u78 u79 u80 u81 u82 u83 u84 u85 u86 u87 u88 u89 u90 u91 u92 u93 u94 u95 u96 u97 u98 u99 u100 u101 u102 u103 u104 u105 u106 u107 u108 u109 u110 u111 u112 u113 u114 u115 u116 u117 u118 u119 u120 u121 u122 u123 u124 u125 u126 u127 u128 u129 u130 u131 u132 u133 u134 u135 u136 u137 u138 u139 u140 u141 u142 u143 u144 u145 u146 u147 u148 u149 u150 u151 u152 u153 u154 u155 u156 u157 u158 u159 u160 u161 u162 u163 u164 u165 u166 u167 u168 u169 u170 u171 u172 u173 u174 u175 u176 u177 u178 u179 u180 u181 u182 u183 u184 u185 u186 u187 u188 u189 u190 u191 u192 u193 u194 u195 u196 u197 u198 u199 u200 u201 u202 u203 u204 u205 u206 u207 hN
  · exact way_29 w b0 o0 cap ks most calm wr i l st op a b c n A1 cap1 C1 cap2 ll sl hk hlt hwlt hblt i0' i1' i2' i3' i4' hn hmk hll hsl hbr hb40 hw Q u10 u11 u12 u13 u14 u15 u16 u17 u18 u19 u20 u21 u22 u23 u24 u25 u26 u27 u28 u29 u30 u31 u32 u33 u34 u35 u36 u37 u38 u39 u40 u41 u42 u43 u44 u45 u46 u47 u48 u49 u50 u51 u52 u53 u54 u55 u56 u57 u58 u59 u60 u61 u62 u63 u64 u65 u66 u67 u68 u69 u70 u71 u72 u73 u74 u75 u76 u77 u78 u79 u80 u81 u82 u83 u84 u85 u86 u87 u88 u89 u90 u91 u92 u93 u94 u95 u96 u97 u98 u99 u100 u101 u102 u103 u104 u105 u106 u107 u108 u109 u110 u111 u112 u113 u114 u115 u116 u117 u118 u119 u120 u121 u122 u123 u124 u125 u126 u127 u128 u129 u130 u131 u132 u133 u134 u135 u136 u137 u138 u139 u140 u141 u142 u143 u144 u145 u146 u147 u148 u149 u150 u151 u152 u153 u154 u155 u156 u157 u158 u159 u160 u161 u162 u163 u164 u165 u166 u167 u168 u169 u170 u171 u172 u173 u174 u175 u176 u177 u178 u179 u180 u181 u182 u183 u184 u185 u186 u187 u188 u189 u190 u191 u192 u193 u194 u195 u196 u197 u198 u199 u200 u201 u202 u203 u204 u205 u206 u207 hN
  · exact way_30 w b0 o0 cap ks most calm wr i l st op a b c n A1 cap1 C1 cap2 ll sl hk hlt hwlt hblt i0' i1' i2' i3' i4' hn hmk hll hsl hbr hb40 hw Q u10 u11 u12 u13 u14 u15 u16 u17 u18 u19 u20 u21 u22 u23 u24 u25 u26 u27 u28 u29 u30 u31 u32 u33 u34 u35 u36 u37 u38 u39 u40 u41 u42 u43 u44 u45 u46 u47 u48 u49 u50 u51 u52 u53 u54 u55 u56 u57 u58 u59 u60 u61 u62 u63 u64 u65 u66 u67 u68 u69 u70 u71 u72 u73 u74 u75 u76 u77 u78 u79 u80 u81 u82 u83 u84 u85 u86 u87 u88 u89 u90 u91 u92 u93 u94 u95 u96 u97 u98 u99 u100 u101 u102 u103 u104 u105 u106 u107 u108 u109 u110 u111 u112 u113 u114 u115 u116 u117 u118 u119 u120 u121 u122 u123 u124 u125 u126 u127 u128 u129 u130 u131 u132 u133 u134 u135 u136 u137 u138 u139 u140 u141 u142 u143 u144 u145 u146 u147 u148 u149 u150 u151 u152 u153 u154 u155 u156 u157 u158 u159 u160 u161 u162 u163 u164 u165 u166 u167 u168 u169 u170 u171 u172 u173 u174 u175 u176 u177 u178 u179 u180 u181 u182 u183 u184 u185 u186 u187 u188 u189 u190 u191 u192 u193 u194 u195 u196 u197 u198 u199 u200 u201 u202 u203 u204 u205 u206 u207 hN
  · exact way_31 w b0 o0 cap ks most calm wr i l st op a b c n A1 cap1 C1 cap2 ll sl hk hlt hwlt hblt i0' i1' i2' i3' i4' hn hmk hll hsl hbr hb40 hw Q u10 u11 u12 u13 u14 u15 u16 u17 u18 u19 u20 u21 u22 u23 u24 u25 u26 u27 u28 u29 u30 u31 u32 u33 u34 u35 u36 u37 u38 u39 u40 u41 u42 u43 u44 u45 u46 u47 u48 u49 u50 u51 u52 u53 u54 u55 u56 u57 u58 u59 u60 u61 u62 u63 u64 u65 u66 u67 u68 u69 u70 u71 u72 u73 u74 u75 u76 u77 u78 u79 u80 u81 u82 u83 u84 u85 u86 u87 u88 u89 u90 u91 u92 u93 u94 u95 u96 u97 u98 u99 u100 u101 u102 u103 u104 u105 u106 u107 u108 u109 u110 u111 u112 u113 u114 u115 u116 u117 u118 u119 u120 u121 u122 u123 u124 u125 u126 u127 u128 u129 u130 u131 u132 u133 u134 u135 u136 u137 u138 u139 u140 u141 u142 u143 u144 u145 u146 u147 u148 u149 u150 u151 u152 u153 u154 u155 u156 u157 u158 u159 u160 u161 u162 u163 u164 u165 u166 u167 u168 u169 u170 u171 u172 u173 u174 u175 u176 u177 u178 u179 u180 u181 u182 u183 u184 u185 u186 u187 u188 u189 u190 u191 u192 u193 u194 u195 u196 u197 u198 u199 u200 u201 u202 u203 u204 u205 u206 u207 hN
  · exact way_32 w b0 o0 cap ks most calm wr i l st op a b c n A1 cap1 C1 cap2 ll sl hk hlt hwlt hblt i0' i1' i2' i3' i4' hn hmk hll hsl hbr hb40 hw Q u10 u11 u12 u13 u14 u15 u16 u17 u18 u19 u20 u21 u22 u23 u24 u25 u26 u27 u28 u29 u30 u31 u32 u33 u34 u35 u36 u37 u38 u39 u40 u41 u42 u43 u44 u45 u46 u47 u48 u49 u50 u51 u52 u53 u54 u55 u56 u57 u58 u59 u60 u61 u62 u63 u64 u65 u66 u67 u68 u69 u70 u71 u72 u73 u74 u75 u76 u77 u78 u79 u80 u81 u82 u83 u84 u85 u86 u87 u88 u89 u90 u91 u92 u93 u94 u95 u96 u97 u98 u99 u100 u101 u102 u103 u104 u105 u106 u107 u108 u109 u110 u111 u112 u113 u114 u115 u116 u117 u118 u119 u120 u121 u122 u123 u124 u125 u126 u127 u128 u129 u130 u131 u132 u133 u134 u135 u136 u137 u138 u139 u140 u141 u142 u143 u144 u145 u146 u147 u148 u149 u150 u151 u152 u153 u154 u155 u156 u157 u158 u159 u160 u161 u162 u163 u164 u165 u166 u167 u168 u169 u170 u171 u172 u173 u174 u175 u176 u177 u178 u179 u180 u181 u182 u183 u184 u185 u186 u187 u188 u189 u190 u191 u192 u193 u194 u195 u196 u197 u198 u199 u200 u201 u202 u203 u204 u205 u206 u207 hN
  · exact way_other w b0 o0 cap ks most calm wr i l st op a b c n A1 cap1 C1 cap2 ll sl hk hlt hwlt hblt i0' i1' i2' i3' i4' hn hmk hll hsl hbr hb40 n20 n21 n22 n23 n24 n25 n26 n27 n28 n29 n30 n31 n32 Q u10 u11 u12 u13 u14 u15 u16 u17 u18 u19 u20 u21 u22 u23 u24 u25 u26 u27 u28 u29 u30 u31 u32 u33 u34 u35 u36 u37 u38 u39 u40 u41 u42 u43 u44 u45 u46 u47 u48 u49 u50 u51 u52 u53 u54 u55 u56 u57 u58 u59 u60 u61 u62 u63 u64 u65 u66 u67 u68 u69 u70 u71 u72 u73 u74 u75 u76 u77 u78 u79 u80 u81 u82 u83 u84 u85 u86 u87 u88 u89 u90 u91 u92 u93 u94 u95 u96 u97 u98 u99 u100 u101 u102 u103 u104 u105 u106 u107 u108 u109 u110 u111 u112 u113 u114 u115 u116 u117 u118 u119 u120 u121 u122 u123 u124 u125 u126 u127 u128 u129 u130 u131 u132 u133 u134 u135 u136 u137 u138 u139 u140 u141 u142 u143 u144 u145 u146 u147 u148 u149 u150 u151 u152 u153 u154 u155 u156 u157 u158 u159 u160 u161 u162 u163 u164 u165 u166 u167 u168 u169 u170 u171 u172 u173 u174 u175 u176 u177 u178 u179 u180 u181 u182 u183 u184 u185 u186 u187 u188 u189 u190 u191 u192 u193 u194 u195 u196 u197 u198 u199 u200 u201 u202 u203 u204 u205 u206 u207 hN

set_option maxRecDepth 100000 in
set_option maxHeartbeats 20000000 in
theorem make_any (w : World) (A : Option Addr) (cap : Nat) (ks : List PIns) (most : Int) (calm : Bool) (hp : ProgIn w w.heap.size A ks) (hk : ks.length ≤ maxLen) (hwf : ∀ x ∈ ks, InsWf x.op x.a x.b x.c x.n) (hm : most ≤ 40) :
    Calls Tryd.prog 37 #[.slice A ks.length cap, .int .i64 most, .bool calm] w (MakePost w (makeP most calm ks)) := by
  obtain ⟨i0, hi, hz0, hz1, hz2⟩ := info_parts infoIns
  obtain ⟨j0, hj, hy0, hy1, hy2⟩ := info_parts infoInt
  have HP := hide hp
  have HWF := hide hwf
  have HQ : Hid (∀ w' v, PRow w' (w.heap.size + 1) v (makeP most calm ks) → Only Nob w w' → MakePost w (makeP most calm ks) (.returned (.agg #[v])) w') := fun w' v h1 h2 => ⟨v, rfl, h1, h2⟩
  unfold maxLen at hk
  clear hp hwf
  go_enter Tryd.func37, Tryd.ntmps37
  have hRES := Blk.new w 55 #[.slice none 0 0]
  have KRES := hide hRES
  clear hRES
  go_upto_block 0 with fail
  go_cut [7, 8] (fun v u wx => ∃ l st, Making (w.alloc (.cells #[.slice none 0 0] 55)) wx (w.heap.size + 1) v u l st ∧ l.length + 2 * st.length ≤ 40 ∧ Hid (makeL most calm ks [] [] = (l, st)))
  case first =>
    go_wp2_with fail
    go_loopw [7, 8, 9] (fun v u cc wr => ∃ (i : Nat) (l : List PIns) (st : List Int), i ≤ ks.length ∧ cc = .int .i64 i ∧ Making (w.alloc (.cells #[.slice none 0 0] 55)) wr (w.heap.size + 1) v u l st ∧ l.length + 2 * st.length ≤ 40 ∧ Hid (makeL most calm (ks.drop i) l st = makeL most calm ks [] []))
      (fun _ _ cc _ => ks.length - (intOf cc).toNat)
    case atStart => exact ⟨0, [], [], by omega, rfl, ⟨PRow.nil _ _, Stack.nil _ _, (fun g h => by simp [Value.ownBlock] at h), Below.refl _ _, by simp⟩, by simp, rfl⟩
    case round =>
      obtain ⟨i, l, st, hik, rfl, hmk, hbd, hml⟩ := hrel
      have hsz := hmk.size
      by_cases hlt : i < ks.length
      · have hpr : ProgIn wr w.heap.size A ks := (HP.out.alloc (Nat.le_refl _) _).keep (hmk.below.mono (by omega))
        obtain ⟨b0, o0, hA, hlb, hi2⟩ := hpr.at_ hlt
        subst hA
        have hdrop := make_drop most calm ks l st i hlt
        have hnw : InsWf (ks.getD i PIns.none).op (ks.getD i PIns.none).a (ks.getD i PIns.none).b (ks.getD i PIns.none).c (ks.getD i PIns.none).n := by
          rw [List.getD_eq_getElem?_getD, List.getElem?_eq_getElem hlt]
          exact HWF.out _ (List.getElem_mem hlt)
        generalize ks.getD i PIns.none = x at *
        obtain ⟨op, a, b, c, n⟩ := x
        dsimp only at hdrop hnw
        have HN : Hid (0 ≤ n ∧ n ≤ 18446744073709551615) := hnw.2.2.2.2
        obtain ⟨i0', i1', i2', i3', i4'⟩ := hi2
        dsimp only at i0' i1' i2' i3' i4'
        obtain ⟨A1, cap1, hv⟩ := hmk.row.slice
        obtain ⟨C1, cap2, hu⟩ := hmk.stack.slice
        subst hv
        subst hu
        have hblt : b0 < wr.heap.size := by omega
        have hbw : b0 ≠ wr.heap.size := by omega
        have hkI : (i : Int) < (ks.length : Int) := by omega
        have hwlt : w.heap.size < wr.heap.size := by omega
        have HMK := hide hmk
        have hl40 : l.length ≤ 40 := by omega
        have hs40 : st.length ≤ 20 := by omega
        clear hnw hmk hpr
        by_cases hbr : most < (l.length : Int) + 2 * st.length + 5
        · have HMD : Hid (makeL most calm ks [] [] = (l, st)) := by
            have := hml.out
            rw [hdrop, if_pos hbr] at this
            exact this.symm
          have dbr : decide (most < (l.length : Int) + 2 * st.length + 5) = true := by simpa using hbr
          have HBD := hide hbd
          clear hdrop hml hbd
          go_wp2_with fail
          go_meet
          exact ⟨l, st, ⟨HMK.out.row.alloc _, HMK.out.stack.alloc _, HMK.out.apart, HMK.out.below.alloc HMK.out.size _, by simp; omega⟩, HBD.out, HMD⟩
        · have HML : Hid (makeL most calm ks [] [] = makeL most calm (ks.drop (i + 1)) (makeAt (winB op 0 40) calm l st ⟨op, a, b, c, n⟩).1 (makeAt (winB op 0 40) calm l st ⟨op, a, b, c, n⟩).2) := by
            have := hml.out
            rw [hdrop, if_neg hbr] at this
            exact this.symm
          clear hdrop hml
          have hwb := winB_in (n := op) (lo := 0) (hi := 40) (by decide)
          refine round_go w b0 o0 cap ks most calm wr i l st op a b c n A1 cap1 C1 cap2 l.length st.length (by omega) hlt hwlt hblt i0' i1' i2' i3' i4' HN.out HMK.out rfl rfl (by omega) (by omega) _ _ _ _ _ _ _ _ _ _ _ _ _ _ _ _ _ _ _ _ _ _ _ _ _ _ _ _ _ _ _ _ _ _ _ _ _ _ _ _ _ _ _ _ _ _ _ _ _ _ _ _ _ _ _ _ _ _ _ _ _ _ _ _ _ _ _ _ _ _ _ _ _ _ _ _ _ _ _ _ _ _ _ _ _ _ _ _ _ _ _ _ _ _ _ _ _ _ _ _ _ _ _ _ _ _ _ _ _ _ _ _ _ _ _ _ _ _ _ _ _ _ _ _ _ _ _ _ _ _ _ _ _ _ _ _ _ _ _ _ _ _ _ _ _ _ _ _ _ _ _ _ _ _ _ _ _ _ _ _ _ _ _ _ _ _ _ _ _ _ _ _ _ _ _ _ _ _ _ _ _ _ _ _ _ _ _ _ _ _ _ _ _ _ _ _ _ _ _ ?_
          intro z10 z11 z12 z13 z14 z15 z16 z17 z18 z19 z20 z21 z22 z23 z24 z25 z26 z27 z28 z29 z30 z31 z32 z33 z34 z35 z36 z37 z38 z39 z40 z41 z42 z43 z44 z45 z46 z47 z48 z49 z50 z51 z52 z53 z54 z55 z56 z57 z58 z59 z60 z61 z62 z63 z64 z65 z66 z67 z68 z69 z70 z71 z72 z73 z74 z75 z76 z77 z78 z79 z80 z81 z82 z83 z84 z85 z86 z87 z88 z89 z90 z91 z92 z93 z94 z95 z96 z97 z98 z99 z100 z101 z102 z103 z104 z105 z106 z107 z108 z109 z110 z111 z112 z113 z114 z115 z116 z117 z118 z119 z120 z121 z122 z123 z124 z125 z126 z127 z128 z129 z130 z131 z132 z133 z134 z135 z136 z137 z138 z139 z140 z141 z142 z143 z144 z145 z146 z147 z148 z149 z150 z151 z152 z153 z154 z155 z156 z157 z158 z159 z160 z161 z162 z163 z164 z165 z166 z167 z168 z169 z170 z171 z172 z173 z174 z175 z176 z177 z178 z179 z180 z181 z182 z183 z184 z185 z186 z187 z188 z189 z190 z191 z192 z193 z194 z195 z196 z197 z198 z199 z200 z201 z202 z203 z204 z205 z206 z207 v' u' wr' hm'
          have HM' := hide hm'
          have HB' : Hid ((makeAt (winB op 0 40) calm l st ⟨op, a, b, c, n⟩).1.length + 2 * (makeAt (winB op 0 40) calm l st ⟨op, a, b, c, n⟩).2.length ≤ 40) := make_bound _ _ _ _ _ (by omega)
          clear hm'
          refine then_normal ?_
          refine ⟨?_, ?_⟩
          · (repeat apply Exists.intro)
            exact ⟨⟨i + 1, _, _, by omega, by go_num, HM'.out, HB'.out, by show _ = _; rw [HML.out]⟩, rfl⟩
          · show ks.length - (intOf (.int .i64 ((i : Int) + 1))).toNat < ks.length - (intOf (.int .i64 (i : Int))).toNat
            simp [intOf]
            omega
      · obtain rfl : i = ks.length := by omega
        have HMD : Hid (makeL most calm ks [] [] = (l, st)) := by
          have := hml.out
          rw [List.drop_length] at this
          exact this.symm
        have HMK := hide hmk
        have HBD := hide hbd
        clear hml hmk hbd
        go_wp2_with fail
        go_meet
        exact ⟨l, st, HMK.out, HBD.out, HMD⟩
  case rest =>
    obtain ⟨l, st, hmk, hbd, hml⟩ := hcut
    have hq : Hid (makeQ most calm ks = l ++ closeOf st) := by unfold Hid makeQ; rw [hml.out]
    have HQ0 := hq
    have HMK := hide hmk
    have hwt := weight_le st
    have hb40 : l.length + weight st ≤ 40 := by omega
    have HB40 := hide hb40
    clear hmk hbd hml hwt hb40 hq
    go_wp2_with fail
    go_loopg [7, 8] (weight st) (fun gk v u wr => ∃ (l : List PIns) (st : List Int), gk = weight st ∧ Making (w.alloc (.cells #[.slice none 0 0] 55)) wr (w.heap.size + 1) v u l st ∧ l.length + weight st ≤ 40 ∧ Hid (makeQ most calm ks = l ++ closeOf st))
    case atStart => exact ⟨l, st, rfl, HMK.out, HB40.out, HQ0⟩
    case round =>
      clear HMK HB40 HQ0
      obtain ⟨l, st, hgk, hmk, hbd, hq⟩ := hrel
      have hsz := hmk.size
      obtain ⟨A1, cap1, hv⟩ := hmk.row.slice
      obtain ⟨C1, cap2, hu⟩ := hmk.stack.slice
      subst hv
      subst hu
      have HMK := hide hmk
      have hwlt : w.heap.size < wr.heap.size := by omega
      have kres := KRES.out.below hmk.below (Nat.lt_succ_self _)
      have kres0 := kres.one
      have kresf := kres.frozen
      have HBD := hide hbd
      clear hmk kres hbd
      by_cases hst : st = []
      · subst hst
        simp only [List.length_nil]
        by_cases hl : l = []
        · have HMP : Hid (makeP most calm ks = [⟨1, 0, 0, 0, 1⟩]) := by
            unfold Hid makeP
            rw [hq.out, hl]
            rfl
          subst hl
          have tok1 : True := trivial
          simp only [List.length_nil]
          clear hq
          go_wp2_with (first
            | (at_builtin; have _t := tok1; refine wpList_pushI rfl _ _ rfl HMK.out ((Only.refl Nob wr).alloc _) [⟨1, 0, 0, 0, 1⟩] (G := wr.heap.size) (cnt := 1) (readsP1 ⟨1, 0, 0, 0, 1⟩ _ rfl) rfl rfl rfl (by decide) ?_; clear tok1; intro A9 c9 w19 hm2 hz2; have HM2 := hide hm2; have kr9 := KRES.out.below hm2.below (Nat.lt_succ_self _); have kr90 := kr9.one; have kr9f := kr9.frozen; clear hm2 kr9))
          refine bodyPost_ret (by simp [results, Tryd.results37, go_sem, kr90]; try rfl) rfl (HQ.out _ _ ?_ ?_)
          · rw [HMP.out]
            exact HM2.out.row.keepB fun g h1 _ => Below.heap_setCell _ _ _ _ (by simp; omega)
          · exact (Only.trans ((Only.refl Nob w).alloc _) (Only.of_below (HM2.out.below.mono (Nat.le_refl _)) (fun k h1 h2 => by simp at h1; omega))).setCell (.inr (Nat.le_refl _)) _
        · have HMP : Hid (makeP most calm ks = l) := by
            unfold Hid makeP
            rw [hq.out]
            simp [closeOf, hl]
          have dl : ((l.length : Int) == 0) = false := by
            have := List.length_pos_iff.2 hl
            rw [beq_eq_false_iff_ne]
            omega
          have dl2 : (l.length == 0) = false := by
            have := List.length_pos_iff.2 hl
            rw [beq_eq_false_iff_ne]
            omega
          clear hq
          go_wp2
          refine bodyPost_ret (by simp [results, Tryd.results37, go_sem, kres0]; try rfl) rfl (HQ.out _ _ ?_ ?_)
          · rw [HMP.out]
            exact HMK.out.row.keepB fun g h1 _ => Below.heap_setCell _ _ _ _ (by simp; omega)
          · exact (Only.trans ((Only.refl Nob w).alloc _) (Only.of_below (HMK.out.below.mono (Nat.le_refl _)) (fun k h1 h2 => by simp at h1; omega))).setCell (.inr (Nat.le_refl _)) _
      · obtain ⟨s1, s2, s3⟩ := shut_close l st hst
        have HNE := hide hst
        have hpos := List.length_pos_iff.2 hst
        have d0 : decide ((0 : Int) < (st.length : Int)) = true := by simp; omega
        have d1 : decide (0 < st.length) = true := by simp; omega
        have hstl : st.length ≤ weight st := len_weight st
        have HSL := hide hstl
        have HS1 := hide s1
        have HS2 := hide s2
        have HS3 := hide s3
        clear s1 s2 s3 hstl
        go_wp2_with (go_at_call 63; refine (shut_any (w.heap.size + 1) _ _ l st _ HMK.out.row HMK.out.stack HMK.out.apart HNE.out (by have := HBD.out; omega) (by have := HBD.out; have := HSL.out; omega) hsz).mono ?_; rintro e w3 ⟨v3, u3, rfl, hv3, hu3, ha3, hb3⟩)
        go_roundg (weight (shutP l st).2)
        case measure => have := HS2.out; omega
        case rel => exact ⟨(shutP l st).1, (shutP l st).2, rfl, ⟨hv3, hu3, ha3, HMK.out.below.trans hb3, Nat.le_trans hsz hb3.size⟩, by have := HS2.out; have := HS3.out; have := HBD.out; omega, by show _ = _; rw [HS1.out]; exact hq.out⟩
end Go.Proofs.YtngahgfppbjebaaDoor
