/-
  The last region of bucketlinelaw22.ClientPlays, alone. Printed by gen_clireg.py of this claim's writer.
-/
import Derived.Test.YtapgjjfndbfnpaaDoorCliReg
import Derived.Deep.MidRow
namespace Go.Proofs.YtapgjjfndbfnpaaDoor
open Go.RowKit
set_option linter.unusedSimpArgs false
set_option linter.unusedVariables false

theorem field_epoch3 (v0 v1 v2 v3 : Value) (W : World) : (Instr.field 82 (.agg #[v0, v1, v2, v3]) 0).run Tryd.prog W = .ok v0 W := by kernel_rfl
theorem copsize3 : (Tryd.prog.info? 56).map (·.size) = some 17 := by kernel_rfl

set_option maxRecDepth 100000 in
set_option maxHeartbeats 6400000 in
theorem reg45 {c m lo : Nat} {w : World} {R Q : ClR} {now id : Int} (u0 u1 u2 u3 u4 u5 u6 u7 u8 u10 u11 u12 u14 u15 u16 u17 u19 u20 u21 u22 u23 u24 u25 u26 u27 u28 u29 u30 u31 u32 u33 u34 u35 u36 u37 u38 u39 u40 u41 u42 u43 u44 u45 u46 u47 u48 u49 u50 u51 u52 u53 u54 u55 u56 u57 u58 u59 u60 u61 u62 u63 u64 u65 u66 u67 u68 u69 u70 u71 u72 u73 u74 u75 u76 u77 u78 u79 u80 u81 u82 u83 u84 u85 u86 u87 u88 u89 u90 u91 u92 u93 u94 u95 u96 u97 u98 u99 u100 u101 u102 u103 u104 u105 u106 u107 u108 u109 u110 u111 u112 u113 u114 u115 u116 u117 u118 u119 u120 u121 u122 u123 u124 u125 u126 u127 u128 u129 u130 u131 u132 u133 u134 u135 u136 u137 u138 u139 u140 u141 u142 u143 u144 u145 u146 u147 u148 u149 u150 u151 u152 u153 u154 u155 u156 u157 u158 u159 u160 u161 u162 u163 u164 u165 u166 u167 u168 u169 u170 u171 u172 u173 u174 u175 u176 u177 u178 u179 u180 u181 u182 u183 u184 u185 u186 u187 u188 u189 u190 u191 u192 u193 u194 u195 u196 u197 u198 u199 u200 u201 u202 u203 u204 u205 u206 u207 u208 u209 u210 u211 u212 u213 u214 u215 u216 u217 u218 u219 u220 u221 u222 u223 u224 u225 u226 u227 u228 u229 u230 u231 u232 u233 u234 u235 u236 u237 u238 u239 u240 u241 u242 u243 u244 u245 u246 u247 u248 u249 u250 u251 u252 u253 u254 u255 u256 u257 u258 u259 u260 u261 u262 u263 u264 u265 u266 u267 u268 u269 u270 u271 u272 u273 u274 u275 u276 u277 u278 u279 u280 u281 u282 u283 u284 u285 u286 u287 u288 u289 u290 u291 u292 u293 u294 u295 u296 u297 u298 u299 u300 u301 u302 u303 u304 u305 u306 u307 u308 u309 u310 u311 u312 u313 u314 u315 u316 u317 u318 u319 u320 u321 u322 u323 u324 u325 u326 u327 u328 u329 u330 u331 u332 u333 u334 u335 u336 u337 u338 u339 u340 u341 u342 u343 u344 u345 u346 u347 u348 u349 u350 u351 u352 u353 u354 u355 u356 u357 u358 u359 u360 u361 u362 u363 u364 u365 u366 u367 u368 u369 u370 u371 u372 : Value) {Q0 : Exit → Act → World → Prop} (hB : BothM lo c m w R Q)
    (hQ : ∀ (x272 x273 x274 x275 x276 x277 x278 x279 x280 x281 x282 x283 x284 x285 x286 x287 x288 x289 x290 x291 x292 x293 x294 : Value) (w7 : World) (R7 : ClR), BothM lo c m w7 R7 Q → R7.s = R.s → Below lo w w7 → Q0 .normal ⟨#[u0, u1, u2, u3, u4, u5, u6, u7, u8, .pointer (some ⟨c, 0, none⟩), u10, u11, u12, .int .i64 now, u14, u15, u16, u17, .int .i64 id, u19, u20, u21, u22, u23, u24, u25, u26, u27, u28, u29, u30, u31, u32, u33, u34, u35, u36, u37, u38, u39, u40, u41, u42, u43, u44, u45, u46, u47, u48, u49, u50, u51, u52, u53, u54, u55, u56, u57, u58, u59, u60, u61, u62, u63, u64, u65, u66, u67, u68, u69, u70, u71, u72, u73, u74, u75, u76, u77, u78, u79, u80, u81, u82, u83, u84, u85, u86, u87, u88, u89, u90, u91, u92, u93, u94, u95, u96, u97, u98, u99, u100, u101, u102, u103, u104, u105, u106, u107, u108, u109, u110, u111, u112, u113, u114, u115, u116, u117, u118, u119, u120, u121, u122, u123, u124, u125, u126, u127, u128, u129, u130, u131, u132, u133, u134, u135, u136, u137, u138, u139, u140, u141, u142, u143, u144, u145, u146, u147, u148, u149, u150, u151, u152, u153, u154, u155, u156, u157, u158, u159, u160, u161, u162, u163, u164, u165, u166, u167, u168, u169, u170, u171, u172, u173, u174, u175, u176, u177, u178, u179, u180, u181, u182, u183, u184, u185, u186, u187, u188, u189, u190, u191, u192, u193, u194, u195, u196, u197, u198, u199, u200, u201, u202, u203, u204, u205, u206, u207, u208, u209, u210, u211, u212, u213, u214, u215, u216, u217, u218, u219, u220, u221, u222, u223, u224, u225, u226, u227, u228, u229, u230, u231, u232, u233, u234, u235, u236, u237, u238, u239, u240, u241, u242, u243, u244, u245, u246, u247, u248, u249, u250, u251, u252, u253, u254, u255, u256, u257, u258, u259, u260, u261, u262, u263, u264, u265, u266, u267, u268, u269, u270, u271, x272, x273, x274, x275, x276, x277, x278, x279, x280, x281, x282, x283, x284, x285, x286, x287, x288, x289, x290, x291, x292, x293, x294, .bool false, u296, u297, u298, u299, u300, u301, u302, u303, u304, u305, u306, u307, u308, u309, u310, u311, u312, u313, u314, u315, u316, u317, u318, u319, u320, u321, u322, u323, u324, u325, u326, u327, u328, u329, u330, u331, u332, u333, u334, u335, u336, u337, u338, u339, u340, u341, u342, u343, u344, u345, u346, u347, u348, u349, u350, u351, u352, u353, u354, u355, u356, u357, u358, u359, u360, u361, u362, u363, u364, u365, u366, u367, u368, u369, u370, u371, u372], []⟩ w7) :
    (reg5 45).wp Tryd.prog Q0 ⟨#[u0, u1, u2, u3, u4, u5, u6, u7, u8, .pointer (some ⟨c, 0, none⟩), u10, u11, u12, .int .i64 now, u14, u15, u16, u17, .int .i64 id, u19, u20, u21, u22, u23, u24, u25, u26, u27, u28, u29, u30, u31, u32, u33, u34, u35, u36, u37, u38, u39, u40, u41, u42, u43, u44, u45, u46, u47, u48, u49, u50, u51, u52, u53, u54, u55, u56, u57, u58, u59, u60, u61, u62, u63, u64, u65, u66, u67, u68, u69, u70, u71, u72, u73, u74, u75, u76, u77, u78, u79, u80, u81, u82, u83, u84, u85, u86, u87, u88, u89, u90, u91, u92, u93, u94, u95, u96, u97, u98, u99, u100, u101, u102, u103, u104, u105, u106, u107, u108, u109, u110, u111, u112, u113, u114, u115, u116, u117, u118, u119, u120, u121, u122, u123, u124, u125, u126, u127, u128, u129, u130, u131, u132, u133, u134, u135, u136, u137, u138, u139, u140, u141, u142, u143, u144, u145, u146, u147, u148, u149, u150, u151, u152, u153, u154, u155, u156, u157, u158, u159, u160, u161, u162, u163, u164, u165, u166, u167, u168, u169, u170, u171, u172, u173, u174, u175, u176, u177, u178, u179, u180, u181, u182, u183, u184, u185, u186, u187, u188, u189, u190, u191, u192, u193, u194, u195, u196, u197, u198, u199, u200, u201, u202, u203, u204, u205, u206, u207, u208, u209, u210, u211, u212, u213, u214, u215, u216, u217, u218, u219, u220, u221, u222, u223, u224, u225, u226, u227, u228, u229, u230, u231, u232, u233, u234, u235, u236, u237, u238, u239, u240, u241, u242, u243, u244, u245, u246, u247, u248, u249, u250, u251, u252, u253, u254, u255, u256, u257, u258, u259, u260, u261, u262, u263, u264, u265, u266, u267, u268, u269, u270, u271, u272, u273, u274, u275, u276, u277, u278, u279, u280, u281, u282, u283, u284, u285, u286, u287, u288, u289, u290, u291, u292, u293, u294, u295, u296, u297, u298, u299, u300, u301, u302, u303, u304, u305, u306, u307, u308, u309, u310, u311, u312, u313, u314, u315, u316, u317, u318, u319, u320, u321, u322, u323, u324, u325, u326, u327, u328, u329, u330, u331, u332, u333, u334, u335, u336, u337, u338, u339, u340, u341, u342, u343, u344, u345, u346, u347, u348, u349, u350, u351, u352, u353, u354, u355, u356, u357, u358, u359, u360, u361, u362, u363, u364, u365, u366, u367, u368, u369, u370, u371, u372], []⟩ w := by
  have HQ := Lib.hid hQ
  have HB := Lib.hid hB
  have CF := Lib.hid (take_far _ lo c _ _ hB.hc (.agg #[.int .i64 id, .int .i64 0, .int .i64 0, .int .i64 0, .int .i64 0, .int .i64 0]) 101 (by decide) now)
  clear hQ hB
  conv => arg 2; whnf
  go_wp2_with fail
  refine CF.out.mono ?_
  rintro e w5 ⟨v5, rfl, hd5⟩
  obtain ⟨R5, hb5, hs5, ⟨a5, rfl⟩, hbl5⟩ := both_idle HB.out hd5
  have HB5 := Lib.hid hb5
  have HS5 := Lib.hid hs5
  have HBL5 := Lib.hid hbl5
  have CJ := Lib.hid (take_join _ lo c _ _ hb5.hc (.agg #[.int .i64 1, .int .i64 0]) 1 (by decide) (by decide) now)
  clear hd5 hb5 hs5 hbl5
  go_wp2_with fail
  refine CJ.out.mono ?_
  rintro e w6 ⟨v6, rfl, hd6⟩
  obtain ⟨R6, hb6, hs6, ⟨a6, rfl⟩, hbl6⟩ := both_idle HB5.out hd6
  have HB6 := Lib.hid hb6
  have HS6 := Lib.hid (hs6.trans HS5.out)
  have HBL6 := Lib.hid (HBL5.out.trans hbl6)
  have CNN := Lib.hid (take_nil _ lo c _ _ hb6.hc 1 (by decide) (by decide) now)
  clear hd6 hb6 hs6 hbl6
  go_wp2_with fail
  refine CNN.out.mono ?_
  rintro e w7 ⟨v7, rfl, hd7⟩
  obtain ⟨R7, hb7, hs7, ⟨a7, rfl⟩, hbl7⟩ := both_idle HB6.out hd7
  have HB7 := Lib.hid hb7
  have HS7 := Lib.hid (hs7.trans HS6.out)
  have HBL7 := Lib.hid (HBL6.out.trans hbl7)
  clear hd7 hb7 hs7 hbl7
  go_wp2_with fail
  exact HQ.out _ _ _ _ _ _ _ _ _ _ _ _ _ _ _ _ _ _ _ _ _ _ _ w7 R7 HB7.out HS7.out HBL7.out

set_option maxRecDepth 100000 in
set_option maxHeartbeats 6400000 in
theorem reg49 {m q2 g i cap k3 k4 : Nat} {wz : World} {a3 a4 : Option Addr} {o : OpW} {z : Array Value} (u0 u1 u2 u3 u4 u5 u6 u7 u8 u9 u10 u12 u13 u14 u15 u16 u17 u18 u19 u21 u22 u23 u24 u25 u26 u27 u28 u29 u30 u31 u32 u33 u34 u35 u36 u37 u38 u39 u40 u41 u42 u43 u44 u45 u46 u47 u48 u49 u50 u51 u52 u53 u54 u55 u56 u57 u58 u59 u60 u61 u62 u63 u64 u65 u66 u67 u68 u69 u70 u71 u72 u73 u74 u75 u76 u77 u78 u79 u80 u81 u82 u83 u84 u85 u86 u87 u88 u89 u90 u91 u92 u93 u94 u95 u96 u97 u98 u99 u100 u101 u102 u103 u104 u105 u106 u107 u108 u109 u110 u111 u112 u113 u114 u115 u116 u117 u118 u119 u120 u121 u122 u123 u124 u125 u126 u127 u128 u129 u130 u131 u132 u133 u134 u135 u136 u137 u138 u139 u140 u141 u142 u143 u144 u145 u146 u147 u148 u149 u150 u151 u152 u153 u154 u155 u156 u157 u158 u159 u160 u161 u162 u163 u164 u165 u166 u167 u168 u169 u170 u171 u172 u173 u174 u175 u176 u177 u178 u179 u180 u181 u182 u183 u184 u185 u186 u187 u188 u189 u190 u191 u192 u193 u194 u195 u196 u197 u198 u199 u200 u201 u202 u203 u204 u205 u206 u207 u208 u209 u210 u211 u212 u213 u214 u215 u216 u217 u218 u219 u220 u221 u222 u223 u224 u225 u226 u227 u228 u229 u230 u231 u232 u233 u234 u235 u236 u237 u238 u239 u240 u241 u242 u243 u244 u245 u246 u247 u248 u249 u250 u251 u252 u253 u254 u255 u256 u257 u258 u259 u260 u261 u262 u263 u264 u265 u266 u267 u268 u269 u270 u271 u272 u273 u274 u275 u276 u277 u278 u279 u280 u281 u282 u283 u284 u285 u286 u287 u288 u289 u290 u291 u292 u293 u294 u295 u296 u297 u298 u299 u300 u301 u302 u303 u304 u305 u306 u307 u308 u309 u310 u311 u312 u313 u314 u315 u316 u317 u318 u319 u320 u321 u322 u323 u324 u325 u326 u327 u328 u329 u330 u331 u332 u333 u334 u335 u336 u337 u338 u339 u340 u341 u342 u343 u344 u345 u346 u347 u348 u349 u350 u351 u352 u353 u354 u355 u356 u357 u358 u359 u360 u361 u362 u363 u364 u365 u366 u367 u368 u369 u370 u371 u372 : Value) {Q0 : Exit → Act → World → Prop}
    (z2 : wz.cell? ⟨m, 2, none⟩ = some (.slice (some ⟨g, 0, none⟩) (i + 1) cap)) (hrg : wz.rangeAt g (i * 17) [.int .i64 o.kind, .int .i64 o.id, .int .i64 o.start, .int .i64 o.end_, .string o.b.stream, .int .i64 o.b.expect, .int .i64 o.b.session, .int .i64 o.b.seq, .slice a3 o.b.events.length k3, .int .i64 o.out.code, .int .i64 o.out.pos, .int .i64 o.out.first, .int .i64 o.out.version, .string o.stream, .int .i64 o.from_, .int .i64 o.version, .slice a4 o.events.length k4]) (hg : wz.heap[q2]? = some (.cells z 79)) (hz : z.size = 17) (hm : m < wz.heap.size) (hgs : g < wz.heap.size) (hmq : m ≠ q2) (hgq : g ≠ q2) (hi60 : i ≤ 100)
    (hbl : ∀ (p : List PanicEntry) (a : Act) (w : World) (d : Option Tmp) (v : Value), Q0 (.panic p) (a.put d v) w → Q0 (.panic p) a w)
    (hQ : ∀ (x303 x304 x305 x306 x307 x308 x309 x310 x311 x312 x313 x314 : Value), Q0 .normal ⟨#[u0, u1, u2, u3, u4, u5, u6, u7, u8, u9, u10, .pointer (some ⟨m, 0, none⟩), u12, u13, u14, u15, u16, u17, u18, u19, .pointer (some ⟨q2, 0, none⟩), u21, u22, u23, u24, u25, u26, u27, u28, u29, u30, u31, u32, u33, u34, u35, u36, u37, u38, u39, u40, u41, u42, u43, u44, u45, u46, u47, u48, u49, u50, u51, u52, u53, u54, u55, u56, u57, u58, u59, u60, u61, u62, u63, u64, u65, u66, u67, u68, u69, u70, u71, u72, u73, u74, u75, u76, u77, u78, u79, u80, u81, u82, u83, u84, u85, u86, u87, u88, u89, u90, u91, u92, u93, u94, u95, u96, u97, u98, u99, u100, u101, u102, u103, u104, u105, u106, u107, u108, u109, u110, u111, u112, u113, u114, u115, u116, u117, u118, u119, u120, u121, u122, u123, u124, u125, u126, u127, u128, u129, u130, u131, u132, u133, u134, u135, u136, u137, u138, u139, u140, u141, u142, u143, u144, u145, u146, u147, u148, u149, u150, u151, u152, u153, u154, u155, u156, u157, u158, u159, u160, u161, u162, u163, u164, u165, u166, u167, u168, u169, u170, u171, u172, u173, u174, u175, u176, u177, u178, u179, u180, u181, u182, u183, u184, u185, u186, u187, u188, u189, u190, u191, u192, u193, u194, u195, u196, u197, u198, u199, u200, u201, u202, u203, u204, u205, u206, u207, u208, u209, u210, u211, u212, u213, u214, u215, u216, u217, u218, u219, u220, u221, u222, u223, u224, u225, u226, u227, u228, u229, u230, u231, u232, u233, u234, u235, u236, u237, u238, u239, u240, u241, u242, u243, u244, u245, u246, u247, u248, u249, u250, u251, u252, u253, u254, u255, u256, u257, u258, u259, u260, u261, u262, u263, u264, u265, u266, u267, u268, u269, u270, u271, u272, u273, u274, u275, u276, u277, u278, u279, u280, u281, u282, u283, u284, u285, u286, u287, u288, u289, u290, u291, u292, u293, u294, u295, u296, u297, u298, u299, u300, u301, u302, x303, x304, x305, x306, x307, x308, x309, x310, x311, x312, x313, x314, u315, u316, u317, u318, u319, u320, u321, u322, u323, u324, u325, u326, u327, u328, u329, u330, u331, u332, u333, u334, u335, u336, u337, u338, u339, u340, u341, u342, u343, u344, u345, u346, u347, u348, u349, u350, u351, u352, u353, u354, u355, u356, u357, u358, u359, u360, u361, u362, u363, u364, u365, u366, u367, u368, u369, u370, u371, u372], []⟩ (wz.drew.setCells q2 0 [.int .i64 o.kind, .int .i64 o.id, .int .i64 o.start, .int .i64 o.end_, .string o.b.stream, .int .i64 o.b.expect, .int .i64 o.b.session, .int .i64 o.b.seq, .slice a3 o.b.events.length k3, .int .i64 o.out.code, .int .i64 o.out.pos, .int .i64 o.out.first, .int .i64 o.out.version, .string o.stream, .int .i64 o.from_, .int .i64 o.version, .slice a4 o.events.length k4])) :
    (reg5 49).wp Tryd.prog Q0 ⟨#[u0, u1, u2, u3, u4, u5, u6, u7, u8, u9, u10, .pointer (some ⟨m, 0, none⟩), u12, u13, u14, u15, u16, u17, u18, u19, .pointer (some ⟨q2, 0, none⟩), u21, u22, u23, u24, u25, u26, u27, u28, u29, u30, u31, u32, u33, u34, u35, u36, u37, u38, u39, u40, u41, u42, u43, u44, u45, u46, u47, u48, u49, u50, u51, u52, u53, u54, u55, u56, u57, u58, u59, u60, u61, u62, u63, u64, u65, u66, u67, u68, u69, u70, u71, u72, u73, u74, u75, u76, u77, u78, u79, u80, u81, u82, u83, u84, u85, u86, u87, u88, u89, u90, u91, u92, u93, u94, u95, u96, u97, u98, u99, u100, u101, u102, u103, u104, u105, u106, u107, u108, u109, u110, u111, u112, u113, u114, u115, u116, u117, u118, u119, u120, u121, u122, u123, u124, u125, u126, u127, u128, u129, u130, u131, u132, u133, u134, u135, u136, u137, u138, u139, u140, u141, u142, u143, u144, u145, u146, u147, u148, u149, u150, u151, u152, u153, u154, u155, u156, u157, u158, u159, u160, u161, u162, u163, u164, u165, u166, u167, u168, u169, u170, u171, u172, u173, u174, u175, u176, u177, u178, u179, u180, u181, u182, u183, u184, u185, u186, u187, u188, u189, u190, u191, u192, u193, u194, u195, u196, u197, u198, u199, u200, u201, u202, u203, u204, u205, u206, u207, u208, u209, u210, u211, u212, u213, u214, u215, u216, u217, u218, u219, u220, u221, u222, u223, u224, u225, u226, u227, u228, u229, u230, u231, u232, u233, u234, u235, u236, u237, u238, u239, u240, u241, u242, u243, u244, u245, u246, u247, u248, u249, u250, u251, u252, u253, u254, u255, u256, u257, u258, u259, u260, u261, u262, u263, u264, u265, u266, u267, u268, u269, u270, u271, u272, u273, u274, u275, u276, u277, u278, u279, u280, u281, u282, u283, u284, u285, u286, u287, u288, u289, u290, u291, u292, u293, u294, u295, u296, u297, u298, u299, u300, u301, u302, u303, u304, u305, u306, u307, u308, u309, u310, u311, u312, u313, u314, u315, u316, u317, u318, u319, u320, u321, u322, u323, u324, u325, u326, u327, u328, u329, u330, u331, u332, u333, u334, u335, u336, u337, u338, u339, u340, u341, u342, u343, u344, u345, u346, u347, u348, u349, u350, u351, u352, u353, u354, u355, u356, u357, u358, u359, u360, u361, u362, u363, u364, u365, u366, u367, u368, u369, u370, u371, u372], []⟩ wz := by
  have HQ := Lib.hid hQ
  have HBL := Lib.hid hbl
  have HPL3 := Lib.hid (show (#[.int .i64 o.kind, .int .i64 o.id, .int .i64 o.start, .int .i64 o.end_, .string o.b.stream, .int .i64 o.b.expect, .int .i64 o.b.session, .int .i64 o.b.seq, .slice a3 o.b.events.length k3, .int .i64 o.out.code, .int .i64 o.out.pos, .int .i64 o.out.first, .int .i64 o.out.version, .string o.stream, .int .i64 o.from_, .int .i64 o.version, .slice a4 o.events.length k4] : Array Value).all (·.oneCell') = true by simp [Value.oneCell'])
  have MK9 := Lib.hid (fun (X' : World) (h1 : X'.cell? ⟨m, 2, none⟩ = wz.cell? ⟨m, 2, none⟩) (h2 : ∀ p, wz.cell? ⟨g, p, none⟩ = X'.cell? ⟨g, p, none⟩) => (show X'.cell? ⟨m, 2, none⟩ = some (.slice (some ⟨g, 0, none⟩) (i + 1) cap) ∧ X'.rangeAt g (i * 17) [.int .i64 o.kind, .int .i64 o.id, .int .i64 o.start, .int .i64 o.end_, .string o.b.stream, .int .i64 o.b.expect, .int .i64 o.b.session, .int .i64 o.b.seq, .slice a3 o.b.events.length k3, .int .i64 o.out.code, .int .i64 o.out.pos, .int .i64 o.out.first, .int .i64 o.out.version, .string o.stream, .int .i64 o.from_, .int .i64 o.version, .slice a4 o.events.length k4] from ⟨h1.trans z2, fun j v hj => (h2 _).symm.trans (hrg j v hj)⟩))
  have hoth : ∀ b p, b < wz.drew.heap.size → b ≠ q2 → (wz.drew.setCells q2 0 [.int .i64 o.kind, .int .i64 o.id, .int .i64 o.start, .int .i64 o.end_, .string o.b.stream, .int .i64 o.b.expect, .int .i64 o.b.session, .int .i64 o.b.seq, .slice a3 o.b.events.length k3, .int .i64 o.out.code, .int .i64 o.out.pos, .int .i64 o.out.first, .int .i64 o.out.version, .string o.stream, .int .i64 o.from_, .int .i64 o.version, .slice a4 o.events.length k4]).cell? ⟨b, p, none⟩ = wz.drew.cell? ⟨b, p, none⟩ := fun b p hl hb => World.cell?_of_block (World.heap_setCells_other wz.drew q2 0 [.int .i64 o.kind, .int .i64 o.id, .int .i64 o.start, .int .i64 o.end_, .string o.b.stream, .int .i64 o.b.expect, .int .i64 o.b.session, .int .i64 o.b.seq, .slice a3 o.b.events.length k3, .int .i64 o.out.code, .int .i64 o.out.pos, .int .i64 o.out.first, .int .i64 o.out.version, .string o.stream, .int .i64 o.from_, .int .i64 o.version, .slice a4 o.events.length k4] hl hb)
  have HS9 := Lib.hid (MK9.out _ (hoth m 2 hm hmq) (fun p => (hoth g p hgs hgq).symm))
  have HTH := Lib.hid (show wz.drew.there q2 0 17 from hz ▸ Rf.there_new (show wz.drew.heap[q2]? = _ from hg))
  have hi0 : (0 : Int) ≤ (i : Int) := by omega
  have hi1 : (i : Int) < (i : Int) + 1 := by omega
  have ewl : IntKind.i64.wrap (i : Int) = (i : Int) := by rw [IntKind.wrap_i64]; omega
  clear hQ hbl z2 hrg hoth hg hz hm hgs hmq hgq
  conv => arg 2; whnf
  refine region_begin (S := fun X' => X'.cell? ⟨m, 2, none⟩ = some (.slice (some ⟨g, 0, none⟩) (i + 1) cap) ∧ X'.rangeAt g (i * 17) [.int .i64 o.kind, .int .i64 o.id, .int .i64 o.start, .int .i64 o.end_, .string o.b.stream, .int .i64 o.b.expect, .int .i64 o.b.session, .int .i64 o.b.seq, .slice a3 o.b.events.length k3, .int .i64 o.out.code, .int .i64 o.out.pos, .int .i64 o.out.first, .int .i64 o.out.version, .string o.stream, .int .i64 o.from_, .int .i64 o.version, .slice a4 o.events.length k4]) 13 rfl (by kernel_rfl) (MK9.out wz.drew rfl (fun _ => rfl)) (fun hH0 => ?_)
  refine wpAnyH_take (i := 0) (oi := ?oz0) (v := ?vz0) ?hiz0 (by kernel_rfl) (by kernel_rfl) (by kernel_rfl) ?hQz0 ?hyz0 hH0 ?_
  case hiz0 => simp only [List.getElem?_toArray, List.getElem?_cons_zero]; rfl
  case hQz0 => exact fun p a w h => HBL.out p a w _ _ h
  case hyz0 => refine Or.inl ⟨by rfl, ?_⟩; intro W hSw; (try dsimp only at hSw); go_simp; try with_reducible rfl
  simp only [Act.put, List.setIfInBounds_toArray, List.set_cons_zero, List.set_cons_succ]
  refine wpAnyH_take (i := 1) (oi := ?oz1) (v := ?vz1) ?hiz1 (by kernel_rfl) (by kernel_rfl) (by kernel_rfl) ?hQz1 ?hyz1 hH0 ?_
  case hiz1 => simp only [List.getElem?_toArray, List.getElem?_cons_zero, List.getElem?_cons_succ]; rfl
  case hQz1 => exact fun p a w h => HBL.out p a w _ _ h
  case hyz1 => refine Or.inl ⟨by rfl, ?_⟩; intro W hSw; (try dsimp only at hSw); go_simp; try with_reducible rfl
  simp only [Act.put, List.setIfInBounds_toArray, List.set_cons_zero, List.set_cons_succ]
  refine wpAnyH_take (i := 2) (oi := ?oz2) (v := ?vz2) ?hiz2 (by kernel_rfl) (by kernel_rfl) (by kernel_rfl) ?hQz2 ?hyz2 hH0 ?_
  case hiz2 => simp only [List.getElem?_toArray, List.getElem?_cons_zero, List.getElem?_cons_succ]; rfl
  case hQz2 => exact fun p a w h => HBL.out p a w _ _ h
  case hyz2 => refine Or.inl ⟨by rfl, ?_⟩; intro W hSw; (try dsimp only at hSw); go_simp; try with_reducible rfl
  simp only [Act.put, List.setIfInBounds_toArray, List.set_cons_zero, List.set_cons_succ]
  refine wpAnyH_take (i := 3) (oi := ?oz3) (v := ?vz3) ?hiz3 (by kernel_rfl) (by kernel_rfl) (by kernel_rfl) ?hQz3 ?hyz3 hH0 ?_
  case hiz3 => simp only [List.getElem?_toArray, List.getElem?_cons_zero, List.getElem?_cons_succ]; rfl
  case hQz3 => exact fun p a w h => HBL.out p a w _ _ h
  case hyz3 => refine Or.inl ⟨by rfl, ?_⟩; intro W hSw; (try dsimp only at hSw); go_simp; try with_reducible rfl
  simp only [Act.put, List.setIfInBounds_toArray, List.set_cons_zero, List.set_cons_succ]
  refine wpAnyH_take (i := 4) (oi := ?oz4) (v := ?vz4) ?hiz4 (by kernel_rfl) (by kernel_rfl) (by kernel_rfl) ?hQz4 ?hyz4 hH0 ?_
  case hiz4 => simp only [List.getElem?_toArray, List.getElem?_cons_zero, List.getElem?_cons_succ]; rfl
  case hQz4 => exact fun p a w h => HBL.out p a w _ _ h
  case hyz4 => refine Or.inl ⟨by rfl, ?_⟩; intro W hSw; (try dsimp only at hSw); go_simp; try with_reducible rfl
  simp only [Act.put, List.setIfInBounds_toArray, List.set_cons_zero, List.set_cons_succ]
  refine wpAnyH_take (i := 5) (oi := ?oz5) (v := ?vz5) ?hiz5 (by kernel_rfl) (by kernel_rfl) (by kernel_rfl) ?hQz5 ?hyz5 hH0 ?_
  case hiz5 => simp only [List.getElem?_toArray, List.getElem?_cons_zero, List.getElem?_cons_succ]; rfl
  case hQz5 => exact fun p a w h => HBL.out p a w _ _ h
  case hyz5 => refine Or.inl ⟨by rfl, ?_⟩; intro W hSw; (try dsimp only at hSw); go_simp; try with_reducible rfl
  simp only [Act.put, List.setIfInBounds_toArray, List.set_cons_zero, List.set_cons_succ]
  refine wpAnyH_take (i := 6) (oi := ?oz6) (v := ?vz6) ?hiz6 (by kernel_rfl) (by kernel_rfl) (by kernel_rfl) ?hQz6 ?hyz6 hH0 ?_
  case hiz6 => simp only [List.getElem?_toArray, List.getElem?_cons_zero, List.getElem?_cons_succ]; rfl
  case hQz6 => exact fun p a w h => HBL.out p a w _ _ h
  case hyz6 => refine Or.inl ⟨by rfl, ?_⟩; intro W hSw; (try dsimp only at hSw); go_simp; try with_reducible rfl
  simp only [Act.put, List.setIfInBounds_toArray, List.set_cons_zero, List.set_cons_succ]
  refine wpAnyH_take (i := 7) (oi := ?oz7) (v := ?vz7) ?hiz7 (by kernel_rfl) (by kernel_rfl) (by kernel_rfl) ?hQz7 ?hyz7 hH0 ?_
  case hiz7 => simp only [List.getElem?_toArray, List.getElem?_cons_zero, List.getElem?_cons_succ]; rfl
  case hQz7 => exact fun p a w h => HBL.out p a w _ _ h
  case hyz7 => refine Or.inl ⟨by rfl, ?_⟩; intro W hSw; (try dsimp only at hSw); go_simp; try with_reducible rfl
  simp only [Act.put, List.setIfInBounds_toArray, List.set_cons_zero, List.set_cons_succ]
  refine wpAnyH_take (i := 8) (oi := ?oz8) (v := ?vz8) ?hiz8 (by kernel_rfl) (by kernel_rfl) (by kernel_rfl) ?hQz8 ?hyz8 hH0 ?_
  case hiz8 => simp only [List.getElem?_toArray, List.getElem?_cons_zero, List.getElem?_cons_succ]; rfl
  case hQz8 => exact fun p a w h => HBL.out p a w _ _ h
  case hyz8 => refine Or.inl ⟨by rfl, ?_⟩; intro W hSw; (try dsimp only at hSw); go_simp; try with_reducible rfl
  simp only [Act.put, List.setIfInBounds_toArray, List.set_cons_zero, List.set_cons_succ]
  refine wpAnyH_take (i := 9) (oi := ?oz9) (v := ?vz9) ?hiz9 (by kernel_rfl) (by kernel_rfl) (by kernel_rfl) ?hQz9 ?hyz9 hH0 ?_
  case hiz9 => simp only [List.getElem?_toArray, List.getElem?_cons_zero, List.getElem?_cons_succ]; rfl
  case hQz9 => exact fun p a w h => HBL.out p a w _ _ h
  case hyz9 => refine Or.inl ⟨by rfl, ?_⟩; intro W hSw; (try dsimp only at hSw); go_simp; try with_reducible rfl
  simp only [Act.put, List.setIfInBounds_toArray, List.set_cons_zero, List.set_cons_succ]
  refine wpAnyH_take (i := 10) (oi := ?oz10) (v := ?vz10) ?hiz10 (by kernel_rfl) (by kernel_rfl) (by kernel_rfl) ?hQz10 ?hyz10 hH0 ?_
  case hiz10 => simp only [List.getElem?_toArray, List.getElem?_cons_zero, List.getElem?_cons_succ]; rfl
  case hQz10 => exact fun p a w h => HBL.out p a w _ _ h
  case hyz10 => refine Or.inl ⟨by rfl, ?_⟩; intro W hSw; (try dsimp only at hSw); go_simp; try with_reducible rfl
  simp only [Act.put, List.setIfInBounds_toArray, List.set_cons_zero, List.set_cons_succ]
  refine wpAnyH_take (i := 11) (oi := ?oz11) (v := .agg #[.int .i64 o.kind, .int .i64 o.id, .int .i64 o.start, .int .i64 o.end_, .string o.b.stream, .int .i64 o.b.expect, .int .i64 o.b.session, .int .i64 o.b.seq, .slice a3 o.b.events.length k3, .int .i64 o.out.code, .int .i64 o.out.pos, .int .i64 o.out.first, .int .i64 o.out.version, .string o.stream, .int .i64 o.from_, .int .i64 o.version, .slice a4 o.events.length k4]) ?hiz11 (by kernel_rfl) (by kernel_rfl) (by kernel_rfl) ?hQz11 ?hyz11 hH0 ?_
  case hiz11 => simp only [List.getElem?_toArray, List.getElem?_cons_zero, List.getElem?_cons_succ]; rfl
  case hQz11 => exact fun p a w h => HBL.out p a w _ _ h
  case hyz11 => exact yieldsIf_load_mid (by rfl) 79 _ rfl g (i * 17) (by rfl) [.int .i64 o.kind, .int .i64 o.id, .int .i64 o.start, .int .i64 o.end_, .string o.b.stream, .int .i64 o.b.expect, .int .i64 o.b.session, .int .i64 o.b.seq, .slice a3 o.b.events.length k3, .int .i64 o.out.code, .int .i64 o.out.pos, .int .i64 o.out.first, .int .i64 o.out.version, .string o.stream, .int .i64 o.from_, .int .i64 o.version, .slice a4 o.events.length k4] _ (fun W hS => hS.2) Tryd.underlying79 rfl Rf.opsize
  simp only [Act.put, List.setIfInBounds_toArray, List.set_cons_zero, List.set_cons_succ]
  clear hH0
  refine wpAnyH_ready (rs := [12]) (by kernel_rfl) (by simp) ?_
  refine AllReadyH.cons (o := ?oz12) ?hoz12 (fun K' hK => ?_) AllReadyH.nil
  case hoz12 => simp only [List.getElem?_toArray, List.getElem?_cons_zero, List.getElem?_cons_succ]; rfl
  refine wp_store_mid 79 _ _ rfl q2 0 #[.int .i64 o.kind, .int .i64 o.id, .int .i64 o.start, .int .i64 o.end_, .string o.b.stream, .int .i64 o.b.expect, .int .i64 o.b.session, .int .i64 o.b.seq, .slice a3 o.b.events.length k3, .int .i64 o.out.code, .int .i64 o.out.pos, .int .i64 o.out.first, .int .i64 o.out.version, .string o.stream, .int .i64 o.from_, .int .i64 o.version, .slice a4 o.events.length k4] (by rfl) (by rfl) HTH.out Rf.opsize HPL3.out ?_
  refine hK.out _ _ HS9.out (fun hH1 => ?_)
  clear hK K' hH1
  refine wpAnyH_done (by kernel_rfl) ?_ _
  exact HQ.out _ _ _ _ _ _ _ _ _ _ _ _
end Go.Proofs.YtapgjjfndbfnpaaDoor
