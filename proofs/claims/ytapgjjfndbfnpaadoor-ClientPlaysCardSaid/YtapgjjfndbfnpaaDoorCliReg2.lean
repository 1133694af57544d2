/-
  The last region of bucketlinelaw22.ClientPlays, alone. Printed by gen_clireg.py of this claim's writer.
-/
import Derived.Test.YtapgjjfndbfnpaaDoorCliReg
import Derived.Deep.MidRow
namespace Go.Proofs.YtapgjjfndbfnpaaDoor
open Go.RowKit
set_option linter.unusedSimpArgs false
set_option linter.unusedVariables false

theorem field_epoch (v0 v1 v2 v3 : Value) (W : World) : (Instr.field 82 (.agg #[v0, v1, v2, v3]) 0).run Tryd.prog W = .ok v0 W := by kernel_rfl
theorem copsize : (Tryd.prog.info? 56).map (·.size) = some 17 := by kernel_rfl

set_option maxRecDepth 100000 in
set_option maxHeartbeats 6400000 in
theorem reg51z {c m q2 lo err1 : Nat} {w5 : World} {R1 Q1 : ClR} {vx vy : Value} {outs : List OutR} {ak xa2 : Option Addr} {capk xk2 : Nat} (u0 u1 u2 u3 u4 u5 u6 u7 u8 u13 u14 u15 u18 u19 u22 u23 u24 u25 u26 u27 u28 u29 u30 u31 u32 u33 u34 u35 u36 u37 u38 u39 u40 u41 u42 u43 u44 u45 u46 u47 u48 u49 u50 u51 u52 u53 u54 u55 u56 u57 u58 u59 u60 u61 u62 u63 u64 u65 u66 u67 u68 u69 u70 u71 u72 u73 u74 u75 u76 u77 u78 u79 u80 u81 u82 u83 u84 u85 u86 u87 u88 u89 u90 u91 u92 u93 u94 u95 u96 u97 u98 u99 u100 u101 u102 u103 u104 u105 u106 u107 u108 u109 u110 u111 u112 u113 u114 u115 u116 u117 u118 u119 u120 u121 u122 u123 u124 u125 u126 u127 u128 u129 u130 u131 u132 u133 u134 u135 u136 u137 u138 u139 u140 u141 u142 u143 u144 u145 u146 u147 u148 u149 u150 u151 u152 u153 u154 u155 u156 u157 u158 u159 u160 u161 u162 u163 u164 u165 u166 u167 u168 u169 u170 u171 u172 u173 u174 u175 u176 u177 u178 u179 u180 u181 u182 u183 u184 u185 u186 u187 u188 u189 u190 u191 u192 u193 u194 u195 u196 u197 u198 u199 u200 u201 u202 u203 u204 u205 u206 u207 u208 u209 u210 u211 u212 u213 u214 u215 u216 u217 u218 u219 u220 u221 u222 u223 u224 u225 u226 u227 u228 u229 u230 u231 u232 u233 u234 u235 u236 u237 u238 u239 u240 u241 u242 u243 u244 u245 u246 u247 u248 u249 u250 u251 u252 u253 u254 u255 u256 u257 u258 u259 u260 u261 u262 u263 u264 u265 u266 u267 u268 u269 u270 u271 u272 u273 u274 u275 u276 u277 u278 u279 u280 u281 u282 u283 u284 u285 u286 u287 u288 u289 u290 u291 u292 u293 u294 u295 u296 u297 u298 u299 u300 u301 u302 u303 u304 u305 u306 u307 u308 u309 u310 u311 u312 u313 u314 u315 u316 u317 u318 u319 u320 u321 u322 u323 u324 u325 u326 u327 u328 u329 u330 u331 u332 u333 u334 u335 u336 u337 u338 u339 u340 u341 u342 u343 u344 u345 u346 u347 u348 u349 u350 u351 u352 u353 u354 u355 u356 u357 u358 u359 u360 u361 u362 u363 u364 u365 u366 u367 u368 u369 u370 u371 u372 : Value) {Q0 : Exit → Act → World → Prop}
    (hB : BothM lo c m w5 R1 Q1) (htd : Told lo w5 vx vy R1.s outs) (hov : Q1.ov = .slice xa2 0 xk2) (hz0 : lastS R1.s = zeroOp) (hg : w5.heap[q2]? = some (.cells #[.int .i64 0, .int .i64 0, .int .i64 0, .int .i64 0, .string ⟨#[]⟩, .int .i64 0, .int .i64 0, .int .i64 0, .slice none 0 0, .int .i64 0, .int .i64 0, .int .i64 0, .int .i64 0, .string ⟨#[]⟩, .int .i64 0, .int .i64 0, .slice none 0 0] 79))
    (hbl : ∀ (p : List PanicEntry) (a : Act) (w : World) (d : Option Tmp) (v : Value), Q0 (.panic p) (a.put d v) w → Q0 (.panic p) a w)
    (hQ : ∀ (x317 x318 x319 x320 x321 x322 x323 x324 x325 x326 x327 x328 x329 x330 x331 x332 x333 x334 x335 x336 x337 x338 x339 x340 x341 x342 x343 x344 x345 x346 x347 x348 x349 x350 x351 x352 x353 x354 x355 x356 x357 x358 x359 x360 x361 x362 x363 x364 x365 x366 x367 x368 x369 x370 x371 : Value) (w9 : World), Below w5.heap.size w5 w9 → Q0 .normal ⟨#[u0, u1, u2, u3, u4, u5, u6, u7, u8, .pointer (some ⟨c, 0, none⟩), .int .i64 (err1 : Int), .pointer (some ⟨m, 0, none⟩), .int .i64 (err1 : Int), u13, u14, u15, vx, vy, u18, u19, .pointer (some ⟨q2, 0, none⟩), .slice ak 0 capk, u22, u23, u24, u25, u26, u27, u28, u29, u30, u31, u32, u33, u34, u35, u36, u37, u38, u39, u40, u41, u42, u43, u44, u45, u46, u47, u48, u49, u50, u51, u52, u53, u54, u55, u56, u57, u58, u59, u60, u61, u62, u63, u64, u65, u66, u67, u68, u69, u70, u71, u72, u73, u74, u75, u76, u77, u78, u79, u80, u81, u82, u83, u84, u85, u86, u87, u88, u89, u90, u91, u92, u93, u94, u95, u96, u97, u98, u99, u100, u101, u102, u103, u104, u105, u106, u107, u108, u109, u110, u111, u112, u113, u114, u115, u116, u117, u118, u119, u120, u121, u122, u123, u124, u125, u126, u127, u128, u129, u130, u131, u132, u133, u134, u135, u136, u137, u138, u139, u140, u141, u142, u143, u144, u145, u146, u147, u148, u149, u150, u151, u152, u153, u154, u155, u156, u157, u158, u159, u160, u161, u162, u163, u164, u165, u166, u167, u168, u169, u170, u171, u172, u173, u174, u175, u176, u177, u178, u179, u180, u181, u182, u183, u184, u185, u186, u187, u188, u189, u190, u191, u192, u193, u194, u195, u196, u197, u198, u199, u200, u201, u202, u203, u204, u205, u206, u207, u208, u209, u210, u211, u212, u213, u214, u215, u216, u217, u218, u219, u220, u221, u222, u223, u224, u225, u226, u227, u228, u229, u230, u231, u232, u233, u234, u235, u236, u237, u238, u239, u240, u241, u242, u243, u244, u245, u246, u247, u248, u249, u250, u251, u252, u253, u254, u255, u256, u257, u258, u259, u260, u261, u262, u263, u264, u265, u266, u267, u268, u269, u270, u271, u272, u273, u274, u275, u276, u277, u278, u279, u280, u281, u282, u283, u284, u285, u286, u287, u288, u289, u290, u291, u292, u293, u294, u295, u296, u297, u298, u299, u300, u301, u302, u303, u304, u305, u306, u307, u308, u309, u310, u311, u312, u313, u314, u315, u316, x317, x318, x319, x320, x321, x322, x323, x324, x325, x326, x327, x328, x329, x330, x331, x332, x333, x334, x335, x336, x337, x338, x339, x340, x341, x342, x343, x344, x345, x346, x347, x348, x349, x350, x351, x352, x353, x354, x355, x356, x357, x358, x359, x360, x361, x362, x363, x364, x365, x366, x367, x368, x369, x370, x371, .bool false], []⟩ w9) :
    (reg5 51).wp Tryd.prog Q0 ⟨#[u0, u1, u2, u3, u4, u5, u6, u7, u8, .pointer (some ⟨c, 0, none⟩), .int .i64 (err1 : Int), .pointer (some ⟨m, 0, none⟩), .int .i64 (err1 : Int), u13, u14, u15, vx, vy, u18, u19, .pointer (some ⟨q2, 0, none⟩), .slice ak 0 capk, u22, u23, u24, u25, u26, u27, u28, u29, u30, u31, u32, u33, u34, u35, u36, u37, u38, u39, u40, u41, u42, u43, u44, u45, u46, u47, u48, u49, u50, u51, u52, u53, u54, u55, u56, u57, u58, u59, u60, u61, u62, u63, u64, u65, u66, u67, u68, u69, u70, u71, u72, u73, u74, u75, u76, u77, u78, u79, u80, u81, u82, u83, u84, u85, u86, u87, u88, u89, u90, u91, u92, u93, u94, u95, u96, u97, u98, u99, u100, u101, u102, u103, u104, u105, u106, u107, u108, u109, u110, u111, u112, u113, u114, u115, u116, u117, u118, u119, u120, u121, u122, u123, u124, u125, u126, u127, u128, u129, u130, u131, u132, u133, u134, u135, u136, u137, u138, u139, u140, u141, u142, u143, u144, u145, u146, u147, u148, u149, u150, u151, u152, u153, u154, u155, u156, u157, u158, u159, u160, u161, u162, u163, u164, u165, u166, u167, u168, u169, u170, u171, u172, u173, u174, u175, u176, u177, u178, u179, u180, u181, u182, u183, u184, u185, u186, u187, u188, u189, u190, u191, u192, u193, u194, u195, u196, u197, u198, u199, u200, u201, u202, u203, u204, u205, u206, u207, u208, u209, u210, u211, u212, u213, u214, u215, u216, u217, u218, u219, u220, u221, u222, u223, u224, u225, u226, u227, u228, u229, u230, u231, u232, u233, u234, u235, u236, u237, u238, u239, u240, u241, u242, u243, u244, u245, u246, u247, u248, u249, u250, u251, u252, u253, u254, u255, u256, u257, u258, u259, u260, u261, u262, u263, u264, u265, u266, u267, u268, u269, u270, u271, u272, u273, u274, u275, u276, u277, u278, u279, u280, u281, u282, u283, u284, u285, u286, u287, u288, u289, u290, u291, u292, u293, u294, u295, u296, u297, u298, u299, u300, u301, u302, u303, u304, u305, u306, u307, u308, u309, u310, u311, u312, u313, u314, u315, u316, u317, u318, u319, u320, u321, u322, u323, u324, u325, u326, u327, u328, u329, u330, u331, u332, u333, u334, u335, u336, u337, u338, u339, u340, u341, u342, u343, u344, u345, u346, u347, u348, u349, u350, u351, u352, u353, u354, u355, u356, u357, u358, u359, u360, u361, u362, u363, u364, u365, u366, u367, u368, u369, u370, u371, u372], []⟩ w5 := by
  have HQ := Lib.hid hQ
  have HBL := Lib.hid hbl
  have HB5 := Lib.hid hB
  have HTD5 := Lib.hid htd
  have G5 := Lib.hid hg
  have HOV2 := Lib.hid hov
  have HZ0 := Lib.hid hz0
  have MKS := Lib.hid (fun (X' : World) (hb : Below w5.heap.size w5 X') => (show X'.cell? ⟨m, 2, none⟩ = some (.slice xa2 0 xk2) ∧ X'.cell? ⟨m, 3, none⟩ = some (.bool R1.s.pending) ∧ X'.cell? ⟨m, 6, none⟩ = some (.int .i64 R1.s.v.epoch) ∧ X'.rangeAt q2 0 [.int .i64 0, .int .i64 0, .int .i64 0, .int .i64 0, .string ⟨#[]⟩, .int .i64 0, .int .i64 0, .int .i64 0, .slice none 0 0, .int .i64 0, .int .i64 0, .int .i64 0, .int .i64 0, .string ⟨#[]⟩, .int .i64 0, .int .i64 0, .slice none 0 0] ∧ Below w5.heap.size w5 X' from ⟨by rw [← HOV2.out]; exact (HB5.out.hm.keep hb).c2, by rw [← HB5.out.same]; exact (HB5.out.hm.keep hb).c3, by rw [← HB5.out.same]; exact (HB5.out.hm.keep hb).c6,
    fun j v hj => by rw [hb.cell (p := ⟨q2, 0 + j, none⟩) (Array.getElem?_eq_some_iff.1 G5.out).1, Lib.cell_of_heap G5.out, Nat.zero_add, ← hj, ← Array.getElem?_toList], hb⟩))
  clear hQ hbl hB htd hg hov hz0
  conv => arg 2; whnf
  refine region_begin (S := fun X' => X'.cell? ⟨m, 2, none⟩ = some (.slice xa2 0 xk2) ∧ X'.cell? ⟨m, 3, none⟩ = some (.bool R1.s.pending) ∧ X'.cell? ⟨m, 6, none⟩ = some (.int .i64 R1.s.v.epoch) ∧ X'.rangeAt q2 0 [.int .i64 0, .int .i64 0, .int .i64 0, .int .i64 0, .string ⟨#[]⟩, .int .i64 0, .int .i64 0, .int .i64 0, .slice none 0 0, .int .i64 0, .int .i64 0, .int .i64 0, .int .i64 0, .string ⟨#[]⟩, .int .i64 0, .int .i64 0, .slice none 0 0] ∧ Below w5.heap.size w5 X') 56 rfl (by kernel_rfl) (MKS.out _ (Below.refl w5.heap.size w5).drew) (fun hH0 => ?_)
  refine wpAnyH_take (i := 0) (oi := ?on0) (v := ?vn0) ?hin0 (by kernel_rfl) (by kernel_rfl) (by kernel_rfl) ?hQn0 ?hyn0 hH0 ?_
  case hin0 => simp only [List.getElem?_toArray, List.getElem?_cons_zero]; rfl
  case hQn0 => exact fun p a w h => HBL.out p a w _ _ h
  case hyn0 => refine Or.inl ⟨by rfl, ?_⟩; intro W hSw; (try dsimp only at hSw); go_simp; try with_reducible rfl
  simp only [Act.put, List.setIfInBounds_toArray, List.set_cons_zero, List.set_cons_succ]
  refine wpAnyH_take (i := 1) (oi := ?on1) (v := ?vn1) ?hin1 (by kernel_rfl) (by kernel_rfl) (by kernel_rfl) ?hQn1 ?hyn1 hH0 ?_
  case hin1 => simp only [List.getElem?_toArray, List.getElem?_cons_zero, List.getElem?_cons_succ]; rfl
  case hQn1 => exact fun p a w h => HBL.out p a w _ _ h
  case hyn1 => refine Or.inl ⟨by rfl, ?_⟩; intro W hSw; (try dsimp only at hSw); go_simp; try with_reducible rfl
  simp only [Act.put, List.setIfInBounds_toArray, List.set_cons_zero, List.set_cons_succ]
  refine wpAnyH_take (i := 2) (oi := ?on2) (v := ?vn2) ?hin2 (by kernel_rfl) (by kernel_rfl) (by kernel_rfl) ?hQn2 ?hyn2 hH0 ?_
  case hin2 => simp only [List.getElem?_toArray, List.getElem?_cons_zero, List.getElem?_cons_succ]; rfl
  case hQn2 => exact fun p a w h => HBL.out p a w _ _ h
  case hyn2 => refine Or.inl ⟨by rfl, ?_⟩; intro W hSw; (try dsimp only at hSw); go_simp; try with_reducible rfl
  simp only [Act.put, List.setIfInBounds_toArray, List.set_cons_zero, List.set_cons_succ]
  refine wpAnyH_take (i := 3) (oi := ?on3) (v := ?vn3) ?hin3 (by kernel_rfl) (by kernel_rfl) (by kernel_rfl) ?hQn3 ?hyn3 hH0 ?_
  case hin3 => simp only [List.getElem?_toArray, List.getElem?_cons_zero, List.getElem?_cons_succ]; rfl
  case hQn3 => exact fun p a w h => HBL.out p a w _ _ h
  case hyn3 => refine Or.inl ⟨by rfl, ?_⟩; intro W hSw; (try dsimp only at hSw); go_simp; try with_reducible rfl
  simp only [Act.put, List.setIfInBounds_toArray, List.set_cons_zero, List.set_cons_succ]
  refine wpAnyH_take (i := 4) (oi := ?on4) (v := ?vn4) ?hin4 (by kernel_rfl) (by kernel_rfl) (by kernel_rfl) ?hQn4 ?hyn4 hH0 ?_
  case hin4 => simp only [List.getElem?_toArray, List.getElem?_cons_zero, List.getElem?_cons_succ]; rfl
  case hQn4 => exact fun p a w h => HBL.out p a w _ _ h
  case hyn4 => refine Or.inl ⟨by rfl, ?_⟩; intro W hSw; (try dsimp only at hSw); go_simp; try with_reducible rfl
  simp only [Act.put, List.setIfInBounds_toArray, List.set_cons_zero, List.set_cons_succ]
  refine wpAnyH_take (i := 5) (oi := ?on5) (v := ?vn5) ?hin5 (by kernel_rfl) (by kernel_rfl) (by kernel_rfl) ?hQn5 ?hyn5 hH0 ?_
  case hin5 => simp only [List.getElem?_toArray, List.getElem?_cons_zero, List.getElem?_cons_succ]; rfl
  case hQn5 => exact fun p a w h => HBL.out p a w _ _ h
  case hyn5 => refine Or.inl ⟨by rfl, ?_⟩; intro W hSw; (try dsimp only at hSw); go_simp; try with_reducible rfl
  simp only [Act.put, List.setIfInBounds_toArray, List.set_cons_zero, List.set_cons_succ]
  refine wpAnyH_take (i := 6) (oi := ?on6) (v := .agg #[.int .i64 0, .int .i64 0, .int .i64 0, .int .i64 0, .string ⟨#[]⟩, .int .i64 0, .int .i64 0, .int .i64 0, .slice none 0 0, .int .i64 0, .int .i64 0, .int .i64 0, .int .i64 0, .string ⟨#[]⟩, .int .i64 0, .int .i64 0, .slice none 0 0]) ?hin6 (by kernel_rfl) (by kernel_rfl) (by kernel_rfl) ?hQn6 ?hyn6 hH0 ?_
  case hin6 => simp only [List.getElem?_toArray, List.getElem?_cons_zero, List.getElem?_cons_succ]; rfl
  case hQn6 => exact fun p a w h => HBL.out p a w _ _ h
  case hyn6 => exact yieldsIf_load_mid (by rfl) 79 _ rfl q2 0 (by rfl) [.int .i64 0, .int .i64 0, .int .i64 0, .int .i64 0, .string ⟨#[]⟩, .int .i64 0, .int .i64 0, .int .i64 0, .slice none 0 0, .int .i64 0, .int .i64 0, .int .i64 0, .int .i64 0, .string ⟨#[]⟩, .int .i64 0, .int .i64 0, .slice none 0 0] _ (fun W hS => hS.2.2.2.1) Tryd.underlying79 rfl Rf.opsize
  simp only [Act.put, List.setIfInBounds_toArray, List.set_cons_zero, List.set_cons_succ]
  clear hH0
  have HB6 := Lib.hid (Below.refl w5.heap.size w5).drew
  generalize w5.drew = w6 at *
  have HT6 := Lib.hid (HTD5.out.below HB6.out)
  have CSY := Lib.hid (show Calls Tryd.prog 25 #[_, _, .agg #[.int .i64 0, .int .i64 0, .int .i64 0, .int .i64 0, .string ⟨#[]⟩, .int .i64 0, .int .i64 0, .int .i64 0, .slice none 0 0, .int .i64 0, .int .i64 0, .int .i64 0, .int .i64 0, .string ⟨#[]⟩, .int .i64 0, .int .i64 0, .slice none 0 0]] w6 (fun e w' => e = .returned (.bool true) ∧ Below w6.heap.size w6 w') from says_any lo outs _ _ zeroOp none none 0 0 w6 HT6.out.at_ HT6.out.routs HT6.out.ev (by rw [← HZ0.out]; exact HT6.out.good) (events_nil _ _) (by have := HT6.out.len; omega))
  refine wpAnyH_ready (rs := [7]) (by kernel_rfl) (by simp) ?_
  refine AllReadyH.cons (o := ?on7) ?hon7 (fun K' hK => ?_) AllReadyH.nil
  case hon7 => simp only [List.getElem?_toArray, List.getElem?_cons_zero, List.getElem?_cons_succ]; rfl
  go_simp
  refine CSY.out.mono ?_
  rintro e w7 ⟨rfl, hb7⟩
  have HB7 := Lib.hid (HB6.out.trans (hb7.mono HB6.out.size))
  have HM7 := Lib.hid (HB5.out.below HB7.out)
  clear hb7
  refine hK.out _ _ (MKS.out _ HB7.out) (fun hH1 => ?_)
  clear hK K'
  (try simp only [Act.put, List.setIfInBounds_toArray, List.set_cons_zero, List.set_cons_succ])
  refine wpAnyH_take (i := 8) (oi := ?on8) (v := ?vn8) ?hin8 (by kernel_rfl) (by kernel_rfl) (by kernel_rfl) ?hQn8 ?hyn8 hH1 ?_
  case hin8 => simp only [List.getElem?_toArray, List.getElem?_cons_zero, List.getElem?_cons_succ]; rfl
  case hQn8 => exact fun p a w h => HBL.out p a w _ _ h
  case hyn8 => refine Or.inl ⟨by rfl, ?_⟩; intro W hSw; (try dsimp only at hSw); go_simp; try with_reducible rfl
  simp only [Act.put, List.setIfInBounds_toArray, List.set_cons_zero, List.set_cons_succ]
  refine wpAnyH_take (i := 9) (oi := ?on9) (v := ?vn9) ?hin9 (by kernel_rfl) (by kernel_rfl) (by kernel_rfl) ?hQn9 ?hyn9 hH1 ?_
  case hin9 => simp only [List.getElem?_toArray, List.getElem?_cons_zero, List.getElem?_cons_succ]; rfl
  case hQn9 => exact fun p a w h => HBL.out p a w _ _ h
  case hyn9 => refine Or.inl ⟨by rfl, ?_⟩; intro W hSw; (try dsimp only at hSw); go_simp; try with_reducible rfl
  simp only [Act.put, List.setIfInBounds_toArray, List.set_cons_zero, List.set_cons_succ]
  refine wpAnyH_take (i := 10) (oi := ?on10) (v := ?vn10) ?hin10 (by kernel_rfl) (by kernel_rfl) (by kernel_rfl) ?hQn10 ?hyn10 hH1 ?_
  case hin10 => simp only [List.getElem?_toArray, List.getElem?_cons_zero, List.getElem?_cons_succ]; rfl
  case hQn10 => exact fun p a w h => HBL.out p a w _ _ h
  case hyn10 => refine Or.inl ⟨by rfl, ?_⟩; intro W hSw; (try dsimp only at hSw); go_simp; try with_reducible rfl
  simp only [Act.put, List.setIfInBounds_toArray, List.set_cons_zero, List.set_cons_succ]
  refine wpAnyH_take (i := 11) (oi := ?on11) (v := ?vn11) ?hin11 (by kernel_rfl) (by kernel_rfl) (by kernel_rfl) ?hQn11 ?hyn11 hH1 ?_
  case hin11 => simp only [List.getElem?_toArray, List.getElem?_cons_zero, List.getElem?_cons_succ]; rfl
  case hQn11 => exact fun p a w h => HBL.out p a w _ _ h
  case hyn11 => refine Or.inl ⟨by rfl, ?_⟩; intro W hSw; (try dsimp only at hSw); go_simp; try with_reducible rfl
  simp only [Act.put, List.setIfInBounds_toArray, List.set_cons_zero, List.set_cons_succ]
  refine wpAnyH_take (i := 13) (oi := ?on13) (v := ?vn13) ?hin13 (by kernel_rfl) (by kernel_rfl) (by kernel_rfl) ?hQn13 ?hyn13 hH1 ?_
  case hin13 => simp only [List.getElem?_toArray, List.getElem?_cons_zero, List.getElem?_cons_succ]; rfl
  case hQn13 => exact fun p a w h => HBL.out p a w _ _ h
  case hyn13 => refine Or.inl ⟨by rfl, ?_⟩; intro W hSw; (try dsimp only at hSw); go_simp; try with_reducible rfl
  simp only [Act.put, List.setIfInBounds_toArray, List.set_cons_zero, List.set_cons_succ]
  refine wpAnyH_take (i := 14) (oi := ?on14) (v := ?vn14) ?hin14 (by kernel_rfl) (by kernel_rfl) (by kernel_rfl) ?hQn14 ?hyn14 hH1 ?_
  case hin14 => simp only [List.getElem?_toArray, List.getElem?_cons_zero, List.getElem?_cons_succ]; rfl
  case hQn14 => exact fun p a w h => HBL.out p a w _ _ h
  case hyn14 => refine Or.inl ⟨by rfl, ?_⟩; intro W hSw; (try dsimp only at hSw); go_simp; try with_reducible rfl
  simp only [Act.put, List.setIfInBounds_toArray, List.set_cons_zero, List.set_cons_succ]
  refine wpAnyH_take (i := 15) (oi := ?on15) (v := ?vn15) ?hin15 (by kernel_rfl) (by kernel_rfl) (by kernel_rfl) ?hQn15 ?hyn15 hH1 ?_
  case hin15 => simp only [List.getElem?_toArray, List.getElem?_cons_zero, List.getElem?_cons_succ]; rfl
  case hQn15 => exact fun p a w h => HBL.out p a w _ _ h
  case hyn15 => refine Or.inl ⟨by rfl, ?_⟩; intro W hSw; (try dsimp only at hSw); go_simp; try with_reducible rfl
  simp only [Act.put, List.setIfInBounds_toArray, List.set_cons_zero, List.set_cons_succ]
  refine wpAnyH_take (i := 16) (oi := ?on16) (v := ?vn16) ?hin16 (by kernel_rfl) (by kernel_rfl) (by kernel_rfl) ?hQn16 ?hyn16 hH1 ?_
  case hin16 => simp only [List.getElem?_toArray, List.getElem?_cons_zero, List.getElem?_cons_succ]; rfl
  case hQn16 => exact fun p a w h => HBL.out p a w _ _ h
  case hyn16 => refine Or.inl ⟨by rfl, ?_⟩; intro W hSw; (try dsimp only at hSw); go_simp; try with_reducible rfl
  simp only [Act.put, List.setIfInBounds_toArray, List.set_cons_zero, List.set_cons_succ]
  clear hH1
  have CPD := Lib.hid (pending_any _ lo c R1 w7 HM7.out.hc)
  refine wpAnyH_ready (rs := [12]) (by kernel_rfl) (by simp) ?_
  refine AllReadyH.cons (o := ?on12) ?hon12 (fun K' hK => ?_) AllReadyH.nil
  case hon12 => simp only [List.getElem?_toArray, List.getElem?_cons_zero, List.getElem?_cons_succ]; rfl
  go_simp
  refine CPD.out.mono ?_
  rintro e w7' ⟨rfl, rfl⟩
  refine hK.out _ _ (MKS.out _ HB7.out) (fun hH2 => ?_)
  clear hK K'
  (try simp only [Act.put, List.setIfInBounds_toArray, List.set_cons_zero, List.set_cons_succ])
  refine wpAnyH_take (i := 17) (oi := ?on17) (v := ?vn17) ?hin17 (by kernel_rfl) (by kernel_rfl) (by kernel_rfl) ?hQn17 ?hyn17 hH2 ?_
  case hin17 => simp only [List.getElem?_toArray, List.getElem?_cons_zero, List.getElem?_cons_succ]; rfl
  case hQn17 => exact fun p a w h => HBL.out p a w _ _ h
  case hyn17 => refine Or.inl ⟨by rfl, ?_⟩; intro W hSw; (try dsimp only at hSw); go_simp; try with_reducible rfl
  simp only [Act.put, List.setIfInBounds_toArray, List.set_cons_zero, List.set_cons_succ]
  refine wpAnyH_take (i := 18) (oi := ?on18) (v := ?vn18) ?hin18 (by kernel_rfl) (by kernel_rfl) (by kernel_rfl) ?hQn18 ?hyn18 hH2 ?_
  case hin18 => simp only [List.getElem?_toArray, List.getElem?_cons_zero, List.getElem?_cons_succ]; rfl
  case hQn18 => exact fun p a w h => HBL.out p a w _ _ h
  case hyn18 => refine Or.inl ⟨by rfl, ?_⟩; intro W hSw; (try dsimp only at hSw); go_simp; try with_reducible rfl
  simp only [Act.put, List.setIfInBounds_toArray, List.set_cons_zero, List.set_cons_succ]
  refine wpAnyH_take (i := 19) (oi := ?on19) (v := ?vn19) ?hin19 (by kernel_rfl) (by kernel_rfl) (by kernel_rfl) ?hQn19 ?hyn19 hH2 ?_
  case hin19 => simp only [List.getElem?_toArray, List.getElem?_cons_zero, List.getElem?_cons_succ]; rfl
  case hQn19 => exact fun p a w h => HBL.out p a w _ _ h
  case hyn19 => refine Or.inl ⟨by rfl, ?_⟩; intro W hSw; (try dsimp only at hSw); go_simp; try with_reducible rfl
  simp only [Act.put, List.setIfInBounds_toArray, List.set_cons_zero, List.set_cons_succ]
  refine wpAnyH_take (i := 20) (oi := ?on20) (v := ?vn20) ?hin20 (by kernel_rfl) (by kernel_rfl) (by kernel_rfl) ?hQn20 ?hyn20 hH2 ?_
  case hin20 => simp only [List.getElem?_toArray, List.getElem?_cons_zero, List.getElem?_cons_succ]; rfl
  case hQn20 => exact fun p a w h => HBL.out p a w _ _ h
  case hyn20 => refine Or.inl ⟨by rfl, ?_⟩; intro W hSw; (try dsimp only at hSw); go_simp; try with_reducible rfl
  simp only [Act.put, List.setIfInBounds_toArray, List.set_cons_zero, List.set_cons_succ]
  refine wpAnyH_take (i := 21) (oi := ?on21) (v := ?vn21) ?hin21 (by kernel_rfl) (by kernel_rfl) (by kernel_rfl) ?hQn21 ?hyn21 hH2 ?_
  case hin21 => simp only [List.getElem?_toArray, List.getElem?_cons_zero, List.getElem?_cons_succ]; rfl
  case hQn21 => exact fun p a w h => HBL.out p a w _ _ h
  case hyn21 => refine Or.inl ⟨by rfl, ?_⟩; intro W hSw; (try dsimp only at hSw); go_simp; try with_reducible rfl
  simp only [Act.put, List.setIfInBounds_toArray, List.set_cons_zero, List.set_cons_succ]
  refine wpAnyH_take (i := 22) (oi := ?on22) (v := ?vn22) ?hin22 (by kernel_rfl) (by kernel_rfl) (by kernel_rfl) ?hQn22 ?hyn22 hH2 ?_
  case hin22 => simp only [List.getElem?_toArray, List.getElem?_cons_zero, List.getElem?_cons_succ]; rfl
  case hQn22 => exact fun p a w h => HBL.out p a w _ _ h
  case hyn22 => refine Or.inl ⟨by rfl, ?_⟩; intro W hSw; (try dsimp only at hSw); go_simp; try with_reducible rfl
  simp only [Act.put, List.setIfInBounds_toArray, List.set_cons_zero, List.set_cons_succ]
  refine wpAnyH_take (i := 23) (oi := ?on23) (v := ?vn23) ?hin23 (by kernel_rfl) (by kernel_rfl) (by kernel_rfl) ?hQn23 ?hyn23 hH2 ?_
  case hin23 => simp only [List.getElem?_toArray, List.getElem?_cons_zero, List.getElem?_cons_succ]; rfl
  case hQn23 => exact fun p a w h => HBL.out p a w _ _ h
  case hyn23 => refine Or.inl ⟨by rfl, ?_⟩; intro W hSw; (try dsimp only at hSw); go_simp; try with_reducible rfl
  simp only [Act.put, List.setIfInBounds_toArray, List.set_cons_zero, List.set_cons_succ]
  refine wpAnyH_take (i := 24) (oi := ?on24) (v := ?vn24) ?hin24 (by kernel_rfl) (by kernel_rfl) (by kernel_rfl) ?hQn24 ?hyn24 hH2 ?_
  case hin24 => simp only [List.getElem?_toArray, List.getElem?_cons_zero, List.getElem?_cons_succ]; rfl
  case hQn24 => exact fun p a w h => HBL.out p a w _ _ h
  case hyn24 => refine Or.inl ⟨by rfl, ?_⟩; intro W hSw; (try dsimp only at hSw); go_simp; try with_reducible rfl
  simp only [Act.put, List.setIfInBounds_toArray, List.set_cons_zero, List.set_cons_succ]
  refine wpAnyH_take (i := 25) (oi := ?on25) (v := ?vn25) ?hin25 (by kernel_rfl) (by kernel_rfl) (by kernel_rfl) ?hQn25 ?hyn25 hH2 ?_
  case hin25 => simp only [List.getElem?_toArray, List.getElem?_cons_zero, List.getElem?_cons_succ]; rfl
  case hQn25 => exact fun p a w h => HBL.out p a w _ _ h
  case hyn25 => refine Or.inl ⟨by rfl, ?_⟩; intro W hSw; (try dsimp only at hSw); go_simp; try with_reducible rfl
  simp only [Act.put, List.setIfInBounds_toArray, List.set_cons_zero, List.set_cons_succ]
  refine wpAnyH_take (i := 26) (oi := ?on26) (v := ?vn26) ?hin26 (by kernel_rfl) (by kernel_rfl) (by kernel_rfl) ?hQn26 ?hyn26 hH2 ?_
  case hin26 => simp only [List.getElem?_toArray, List.getElem?_cons_zero, List.getElem?_cons_succ]; rfl
  case hQn26 => exact fun p a w h => HBL.out p a w _ _ h
  case hyn26 => refine Or.inl ⟨by rfl, ?_⟩; intro W hSw; (try dsimp only at hSw); go_simp; try with_reducible rfl
  simp only [Act.put, List.setIfInBounds_toArray, List.set_cons_zero, List.set_cons_succ]
  refine wpAnyH_take (i := 27) (oi := ?on27) (v := ?vn27) ?hin27 (by kernel_rfl) (by kernel_rfl) (by kernel_rfl) ?hQn27 ?hyn27 hH2 ?_
  case hin27 => simp only [List.getElem?_toArray, List.getElem?_cons_zero, List.getElem?_cons_succ]; rfl
  case hQn27 => exact fun p a w h => HBL.out p a w _ _ h
  case hyn27 => refine Or.inl ⟨by rfl, ?_⟩; intro W hSw; (try dsimp only at hSw); go_simp; try with_reducible rfl
  simp only [Act.put, List.setIfInBounds_toArray, List.set_cons_zero, List.set_cons_succ]
  refine wpAnyH_take (i := 28) (oi := ?on28) (v := ?vn28) ?hin28 (by kernel_rfl) (by kernel_rfl) (by kernel_rfl) ?hQn28 ?hyn28 hH2 ?_
  case hin28 => simp only [List.getElem?_toArray, List.getElem?_cons_zero, List.getElem?_cons_succ]; rfl
  case hQn28 => exact fun p a w h => HBL.out p a w _ _ h
  case hyn28 => refine Or.inl ⟨by rfl, ?_⟩; intro W hSw; (try dsimp only at hSw); go_simp; try with_reducible rfl
  simp only [Act.put, List.setIfInBounds_toArray, List.set_cons_zero, List.set_cons_succ]
  refine wpAnyH_take (i := 29) (oi := ?on29) (v := ?vn29) ?hin29 (by kernel_rfl) (by kernel_rfl) (by kernel_rfl) ?hQn29 ?hyn29 hH2 ?_
  case hin29 => simp only [List.getElem?_toArray, List.getElem?_cons_zero, List.getElem?_cons_succ]; rfl
  case hQn29 => exact fun p a w h => HBL.out p a w _ _ h
  case hyn29 => refine Or.inl ⟨by rfl, ?_⟩; intro W hSw; (try dsimp only at hSw); go_simp; try with_reducible rfl
  simp only [Act.put, List.setIfInBounds_toArray, List.set_cons_zero, List.set_cons_succ]
  refine wpAnyH_take (i := 30) (oi := ?on30) (v := ?vn30) ?hin30 (by kernel_rfl) (by kernel_rfl) (by kernel_rfl) ?hQn30 ?hyn30 hH2 ?_
  case hin30 => simp only [List.getElem?_toArray, List.getElem?_cons_zero, List.getElem?_cons_succ]; rfl
  case hQn30 => exact fun p a w h => HBL.out p a w _ _ h
  case hyn30 => refine Or.inl ⟨by rfl, ?_⟩; intro W hSw; (try dsimp only at hSw); go_simp; try with_reducible rfl
  simp only [Act.put, List.setIfInBounds_toArray, List.set_cons_zero, List.set_cons_succ]
  refine wpAnyH_take (i := 31) (oi := ?on31) (v := ?vn31) ?hin31 (by kernel_rfl) (by kernel_rfl) (by kernel_rfl) ?hQn31 ?hyn31 hH2 ?_
  case hin31 => simp only [List.getElem?_toArray, List.getElem?_cons_zero, List.getElem?_cons_succ]; rfl
  case hQn31 => exact fun p a w h => HBL.out p a w _ _ h
  case hyn31 => refine Or.inl ⟨by rfl, ?_⟩; intro W hSw; (try dsimp only at hSw); go_simp; try with_reducible rfl
  simp only [Act.put, List.setIfInBounds_toArray, List.set_cons_zero, List.set_cons_succ]
  refine wpAnyH_take (i := 32) (oi := ?on32) (v := ?vn32) ?hin32 (by kernel_rfl) (by kernel_rfl) (by kernel_rfl) ?hQn32 ?hyn32 hH2 ?_
  case hin32 => simp only [List.getElem?_toArray, List.getElem?_cons_zero, List.getElem?_cons_succ]; rfl
  case hQn32 => exact fun p a w h => HBL.out p a w _ _ h
  case hyn32 => refine Or.inl ⟨by rfl, ?_⟩; intro W hSw; (try dsimp only at hSw); go_simp; try with_reducible rfl
  simp only [Act.put, List.setIfInBounds_toArray, List.set_cons_zero, List.set_cons_succ]
  refine wpAnyH_take (i := 33) (oi := ?on33) (v := ?vn33) ?hin33 (by kernel_rfl) (by kernel_rfl) (by kernel_rfl) ?hQn33 ?hyn33 hH2 ?_
  case hin33 => simp only [List.getElem?_toArray, List.getElem?_cons_zero, List.getElem?_cons_succ]; rfl
  case hQn33 => exact fun p a w h => HBL.out p a w _ _ h
  case hyn33 => refine Or.inl ⟨by rfl, ?_⟩; intro W hSw; (try dsimp only at hSw); go_simp; try with_reducible rfl
  simp only [Act.put, List.setIfInBounds_toArray, List.set_cons_zero, List.set_cons_succ]
  refine wpAnyH_take (i := 34) (oi := ?on34) (v := undef) ?hin34 (by kernel_rfl) (by kernel_rfl) (by kernel_rfl) ?hQn34 ?hyn34 hH2 ?_
  case hin34 => simp only [List.getElem?_toArray, List.getElem?_cons_zero, List.getElem?_cons_succ]; rfl
  case hQn34 => exact fun p a w h => HBL.out p a w _ _ h
  case hyn34 => exact Or.inr ⟨by rfl, rfl⟩
  simp only [Act.put, List.setIfInBounds_toArray, List.set_cons_zero, List.set_cons_succ]
  refine wpAnyH_take (i := 35) (oi := ?on35) (v := undef) ?hin35 (by kernel_rfl) (by kernel_rfl) (by kernel_rfl) ?hQn35 ?hyn35 hH2 ?_
  case hin35 => simp only [List.getElem?_toArray, List.getElem?_cons_zero, List.getElem?_cons_succ]; rfl
  case hQn35 => exact fun p a w h => HBL.out p a w _ _ h
  case hyn35 => exact Or.inr ⟨by rfl, rfl⟩
  simp only [Act.put, List.setIfInBounds_toArray, List.set_cons_zero, List.set_cons_succ]
  refine wpAnyH_take (i := 36) (oi := ?on36) (v := undef) ?hin36 (by kernel_rfl) (by kernel_rfl) (by kernel_rfl) ?hQn36 ?hyn36 hH2 ?_
  case hin36 => simp only [List.getElem?_toArray, List.getElem?_cons_zero, List.getElem?_cons_succ]; rfl
  case hQn36 => exact fun p a w h => HBL.out p a w _ _ h
  case hyn36 => exact Or.inr ⟨by rfl, rfl⟩
  simp only [Act.put, List.setIfInBounds_toArray, List.set_cons_zero, List.set_cons_succ]
  refine wpAnyH_take (i := 37) (oi := ?on37) (v := undef) ?hin37 (by kernel_rfl) (by kernel_rfl) (by kernel_rfl) ?hQn37 ?hyn37 hH2 ?_
  case hin37 => simp only [List.getElem?_toArray, List.getElem?_cons_zero, List.getElem?_cons_succ]; rfl
  case hQn37 => exact fun p a w h => HBL.out p a w _ _ h
  case hyn37 => exact Or.inr ⟨by rfl, rfl⟩
  simp only [Act.put, List.setIfInBounds_toArray, List.set_cons_zero, List.set_cons_succ]
  refine wpAnyH_take (i := 38) (oi := ?on38) (v := undef) ?hin38 (by kernel_rfl) (by kernel_rfl) (by kernel_rfl) ?hQn38 ?hyn38 hH2 ?_
  case hin38 => simp only [List.getElem?_toArray, List.getElem?_cons_zero, List.getElem?_cons_succ]; rfl
  case hQn38 => exact fun p a w h => HBL.out p a w _ _ h
  case hyn38 => exact Or.inr ⟨by rfl, rfl⟩
  simp only [Act.put, List.setIfInBounds_toArray, List.set_cons_zero, List.set_cons_succ]
  refine wpAnyH_take (i := 39) (oi := ?on39) (v := undef) ?hin39 (by kernel_rfl) (by kernel_rfl) (by kernel_rfl) ?hQn39 ?hyn39 hH2 ?_
  case hin39 => simp only [List.getElem?_toArray, List.getElem?_cons_zero, List.getElem?_cons_succ]; rfl
  case hQn39 => exact fun p a w h => HBL.out p a w _ _ h
  case hyn39 => exact Or.inr ⟨by rfl, rfl⟩
  simp only [Act.put, List.setIfInBounds_toArray, List.set_cons_zero, List.set_cons_succ]
  refine wpAnyH_take (i := 40) (oi := ?on40) (v := undef) ?hin40 (by kernel_rfl) (by kernel_rfl) (by kernel_rfl) ?hQn40 ?hyn40 hH2 ?_
  case hin40 => simp only [List.getElem?_toArray, List.getElem?_cons_zero, List.getElem?_cons_succ]; rfl
  case hQn40 => exact fun p a w h => HBL.out p a w _ _ h
  case hyn40 => exact Or.inr ⟨by rfl, rfl⟩
  simp only [Act.put, List.setIfInBounds_toArray, List.set_cons_zero, List.set_cons_succ]
  refine wpAnyH_take (i := 41) (oi := ?on41) (v := undef) ?hin41 (by kernel_rfl) (by kernel_rfl) (by kernel_rfl) ?hQn41 ?hyn41 hH2 ?_
  case hin41 => simp only [List.getElem?_toArray, List.getElem?_cons_zero, List.getElem?_cons_succ]; rfl
  case hQn41 => exact fun p a w h => HBL.out p a w _ _ h
  case hyn41 => exact Or.inr ⟨by rfl, rfl⟩
  simp only [Act.put, List.setIfInBounds_toArray, List.set_cons_zero, List.set_cons_succ]
  refine wpAnyH_take (i := 42) (oi := ?on42) (v := undef) ?hin42 (by kernel_rfl) (by kernel_rfl) (by kernel_rfl) ?hQn42 ?hyn42 hH2 ?_
  case hin42 => simp only [List.getElem?_toArray, List.getElem?_cons_zero, List.getElem?_cons_succ]; rfl
  case hQn42 => exact fun p a w h => HBL.out p a w _ _ h
  case hyn42 => exact Or.inr ⟨by rfl, rfl⟩
  simp only [Act.put, List.setIfInBounds_toArray, List.set_cons_zero, List.set_cons_succ]
  refine wpAnyH_take (i := 43) (oi := ?on43) (v := ?vn43) ?hin43 (by kernel_rfl) (by kernel_rfl) (by kernel_rfl) ?hQn43 ?hyn43 hH2 ?_
  case hin43 => simp only [List.getElem?_toArray, List.getElem?_cons_zero, List.getElem?_cons_succ]; rfl
  case hQn43 => exact fun p a w h => HBL.out p a w _ _ h
  case hyn43 => refine Or.inl ⟨by rfl, ?_⟩; intro W hSw; (try dsimp only at hSw); go_simp; try with_reducible rfl
  simp only [Act.put, List.setIfInBounds_toArray, List.set_cons_zero, List.set_cons_succ]
  refine wpAnyH_take (i := 44) (oi := ?on44) (v := ?vn44) ?hin44 (by kernel_rfl) (by kernel_rfl) (by kernel_rfl) ?hQn44 ?hyn44 hH2 ?_
  case hin44 => simp only [List.getElem?_toArray, List.getElem?_cons_zero, List.getElem?_cons_succ]; rfl
  case hQn44 => exact fun p a w h => HBL.out p a w _ _ h
  case hyn44 => refine Or.inl ⟨by rfl, ?_⟩; intro W hSw; (try dsimp only at hSw); go_simp; try with_reducible rfl
  simp only [Act.put, List.setIfInBounds_toArray, List.set_cons_zero, List.set_cons_succ]
  refine wpAnyH_take (i := 45) (oi := ?on45) (v := ?vn45) ?hin45 (by kernel_rfl) (by kernel_rfl) (by kernel_rfl) ?hQn45 ?hyn45 hH2 ?_
  case hin45 => simp only [List.getElem?_toArray, List.getElem?_cons_zero, List.getElem?_cons_succ]; rfl
  case hQn45 => exact fun p a w h => HBL.out p a w _ _ h
  case hyn45 => refine Or.inl ⟨by rfl, ?_⟩; intro W hSw; (try dsimp only at hSw); go_simp; try with_reducible rfl
  simp only [Act.put, List.setIfInBounds_toArray, List.set_cons_zero, List.set_cons_succ]
  refine wpAnyH_take (i := 46) (oi := ?on46) (v := ?vn46) ?hin46 (by kernel_rfl) (by kernel_rfl) (by kernel_rfl) ?hQn46 ?hyn46 hH2 ?_
  case hin46 => simp only [List.getElem?_toArray, List.getElem?_cons_zero, List.getElem?_cons_succ]; rfl
  case hQn46 => exact fun p a w h => HBL.out p a w _ _ h
  case hyn46 => refine Or.inl ⟨by rfl, ?_⟩; intro W hSw; (try dsimp only at hSw); go_simp; try with_reducible rfl
  simp only [Act.put, List.setIfInBounds_toArray, List.set_cons_zero, List.set_cons_succ]
  refine wpAnyH_take (i := 49) (oi := ?on49) (v := ?vn49) ?hin49 (by kernel_rfl) (by kernel_rfl) (by kernel_rfl) ?hQn49 ?hyn49 hH2 ?_
  case hin49 => simp only [List.getElem?_toArray, List.getElem?_cons_zero, List.getElem?_cons_succ]; rfl
  case hQn49 => exact fun p a w h => HBL.out p a w _ _ h
  case hyn49 => refine Or.inl ⟨by rfl, ?_⟩; intro W hSw; (try dsimp only at hSw); go_simp; try with_reducible rfl
  simp only [Act.put, List.setIfInBounds_toArray, List.set_cons_zero, List.set_cons_succ]
  refine wpAnyH_take (i := 50) (oi := ?on50) (v := ?vn50) ?hin50 (by kernel_rfl) (by kernel_rfl) (by kernel_rfl) ?hQn50 ?hyn50 hH2 ?_
  case hin50 => simp only [List.getElem?_toArray, List.getElem?_cons_zero, List.getElem?_cons_succ]; rfl
  case hQn50 => exact fun p a w h => HBL.out p a w _ _ h
  case hyn50 => refine Or.inl ⟨by rfl, ?_⟩; intro W hSw; (try dsimp only at hSw); go_simp; try with_reducible rfl
  simp only [Act.put, List.setIfInBounds_toArray, List.set_cons_zero, List.set_cons_succ]
  refine wpAnyH_take (i := 51) (oi := ?on51) (v := ?vn51) ?hin51 (by kernel_rfl) (by kernel_rfl) (by kernel_rfl) ?hQn51 ?hyn51 hH2 ?_
  case hin51 => simp only [List.getElem?_toArray, List.getElem?_cons_zero, List.getElem?_cons_succ]; rfl
  case hQn51 => exact fun p a w h => HBL.out p a w _ _ h
  case hyn51 => refine Or.inl ⟨by rfl, ?_⟩; intro W hSw; (try dsimp only at hSw); go_simp; try with_reducible rfl
  simp only [Act.put, List.setIfInBounds_toArray, List.set_cons_zero, List.set_cons_succ]
  refine wpAnyH_take (i := 52) (oi := ?on52) (v := ?vn52) ?hin52 (by kernel_rfl) (by kernel_rfl) (by kernel_rfl) ?hQn52 ?hyn52 hH2 ?_
  case hin52 => simp only [List.getElem?_toArray, List.getElem?_cons_zero, List.getElem?_cons_succ]; rfl
  case hQn52 => exact fun p a w h => HBL.out p a w _ _ h
  case hyn52 => refine Or.inl ⟨by rfl, ?_⟩; intro W hSw; (try dsimp only at hSw); go_simp; try with_reducible rfl
  simp only [Act.put, List.setIfInBounds_toArray, List.set_cons_zero, List.set_cons_succ]
  refine wpAnyH_take (i := 53) (oi := ?on53) (v := ?vn53) ?hin53 (by kernel_rfl) (by kernel_rfl) (by kernel_rfl) ?hQn53 ?hyn53 hH2 ?_
  case hin53 => simp only [List.getElem?_toArray, List.getElem?_cons_zero, List.getElem?_cons_succ]; rfl
  case hQn53 => exact fun p a w h => HBL.out p a w _ _ h
  case hyn53 => refine Or.inl ⟨by rfl, ?_⟩; intro W hSw; (try dsimp only at hSw); go_simp; try with_reducible rfl
  simp only [Act.put, List.setIfInBounds_toArray, List.set_cons_zero, List.set_cons_succ]
  clear hH2
  have HB8 := HB7
  have HM8 := HM7
  generalize w7 = w8 at *
  have CVW := Lib.hid (view_any _ lo c R1 w8 HM8.out.hc)
  have hFE := field_epoch
  refine wpAnyH_ready (rs := [47]) (by kernel_rfl) (by simp) ?_
  refine AllReadyH.cons (o := ?on47) ?hon47 (fun K' hK => ?_) AllReadyH.nil
  case hon47 => simp only [List.getElem?_toArray, List.getElem?_cons_zero, List.getElem?_cons_succ]; rfl
  go_simp
  refine CVW.out.mono ?_
  rintro e w9 ⟨v9a, v9b, v9c, rfl, hb9⟩
  have HB9 := Lib.hid (HB8.out.trans (hb9.mono HB8.out.size))
  clear hb9
  refine hK.out _ _ (MKS.out _ HB9.out) (fun hH4 => ?_)
  clear hK K'
  (try simp only [Act.put, List.setIfInBounds_toArray, List.set_cons_zero, List.set_cons_succ])
  refine wpAnyH_take (i := 48) (oi := ?on48) (v := ?vn48) ?hin48 (by kernel_rfl) (by kernel_rfl) (by kernel_rfl) ?hQn48 ?hyn48 hH4 ?_
  case hin48 => simp only [List.getElem?_toArray, List.getElem?_cons_zero, List.getElem?_cons_succ]; rfl
  case hQn48 => exact fun p a w h => HBL.out p a w _ _ h
  case hyn48 => refine Or.inl ⟨by rfl, ?_⟩; intro W hSw; (try dsimp only at hSw); go_simp; try with_reducible rfl
  simp only [Act.put, List.setIfInBounds_toArray, List.set_cons_zero, List.set_cons_succ]
  refine wpAnyH_take (i := 54) (oi := ?on54) (v := ?vn54) ?hin54 (by kernel_rfl) (by kernel_rfl) (by kernel_rfl) ?hQn54 ?hyn54 hH4 ?_
  case hin54 => simp only [List.getElem?_toArray, List.getElem?_cons_zero, List.getElem?_cons_succ]; rfl
  case hQn54 => exact fun p a w h => HBL.out p a w _ _ h
  case hyn54 => refine Or.inl ⟨by rfl, ?_⟩; intro W hSw; (try dsimp only at hSw); go_simp; try with_reducible rfl
  simp only [Act.put, List.setIfInBounds_toArray, List.set_cons_zero, List.set_cons_succ]
  refine wpAnyH_take (i := 55) (oi := ?on55) (v := ?vn55) ?hin55 (by kernel_rfl) (by kernel_rfl) (by kernel_rfl) ?hQn55 ?hyn55 hH4 ?_
  case hin55 => simp only [List.getElem?_toArray, List.getElem?_cons_zero, List.getElem?_cons_succ]; rfl
  case hQn55 => exact fun p a w h => HBL.out p a w _ _ h
  case hyn55 => refine Or.inl ⟨by rfl, ?_⟩; intro W hSw; (try dsimp only at hSw); go_simp; try with_reducible rfl
  simp only [Act.put, List.setIfInBounds_toArray, List.set_cons_zero, List.set_cons_succ]
  clear hH4
  refine wpAnyH_done (by kernel_rfl) ?_ _
  exact HQ.out _ _ _ _ _ _ _ _ _ _ _ _ _ _ _ _ _ _ _ _ _ _ _ _ _ _ _ _ _ _ _ _ _ _ _ _ _ _ _ _ _ _ _ _ _ _ _ _ _ _ _ _ _ _ _ w9 HB9.out

set_option maxRecDepth 100000 in
set_option maxHeartbeats 6400000 in
theorem reg51s {c m q2 lo err1 : Nat} {w5 : World} {R1 Q1 : ClR} {vx vy : Value} {outs : List OutR} {g gk cap capk i k1 k2 k3 k4 : Nat} {a1 a2 a3 a4 : Option Addr} {o : OpW} (u0 u1 u2 u3 u4 u5 u6 u7 u8 u13 u14 u15 u18 u19 u22 u23 u24 u25 u26 u27 u28 u29 u30 u31 u32 u33 u34 u35 u36 u37 u38 u39 u40 u41 u42 u43 u44 u45 u46 u47 u48 u49 u50 u51 u52 u53 u54 u55 u56 u57 u58 u59 u60 u61 u62 u63 u64 u65 u66 u67 u68 u69 u70 u71 u72 u73 u74 u75 u76 u77 u78 u79 u80 u81 u82 u83 u84 u85 u86 u87 u88 u89 u90 u91 u92 u93 u94 u95 u96 u97 u98 u99 u100 u101 u102 u103 u104 u105 u106 u107 u108 u109 u110 u111 u112 u113 u114 u115 u116 u117 u118 u119 u120 u121 u122 u123 u124 u125 u126 u127 u128 u129 u130 u131 u132 u133 u134 u135 u136 u137 u138 u139 u140 u141 u142 u143 u144 u145 u146 u147 u148 u149 u150 u151 u152 u153 u154 u155 u156 u157 u158 u159 u160 u161 u162 u163 u164 u165 u166 u167 u168 u169 u170 u171 u172 u173 u174 u175 u176 u177 u178 u179 u180 u181 u182 u183 u184 u185 u186 u187 u188 u189 u190 u191 u192 u193 u194 u195 u196 u197 u198 u199 u200 u201 u202 u203 u204 u205 u206 u207 u208 u209 u210 u211 u212 u213 u214 u215 u216 u217 u218 u219 u220 u221 u222 u223 u224 u225 u226 u227 u228 u229 u230 u231 u232 u233 u234 u235 u236 u237 u238 u239 u240 u241 u242 u243 u244 u245 u246 u247 u248 u249 u250 u251 u252 u253 u254 u255 u256 u257 u258 u259 u260 u261 u262 u263 u264 u265 u266 u267 u268 u269 u270 u271 u272 u273 u274 u275 u276 u277 u278 u279 u280 u281 u282 u283 u284 u285 u286 u287 u288 u289 u290 u291 u292 u293 u294 u295 u296 u297 u298 u299 u300 u301 u302 u303 u304 u305 u306 u307 u308 u309 u310 u311 u312 u313 u314 u315 u316 u317 u318 u319 u320 u321 u322 u323 u324 u325 u326 u327 u328 u329 u330 u331 u332 u333 u334 u335 u336 u337 u338 u339 u340 u341 u342 u343 u344 u345 u346 u347 u348 u349 u350 u351 u352 u353 u354 u355 u356 u357 u358 u359 u360 u361 u362 u363 u364 u365 u366 u367 u368 u369 u370 u371 u372 : Value) {Q0 : Exit → Act → World → Prop}
    (hB : BothM lo c m w5 R1 Q1) (htd : Told lo w5 vx vy R1.s outs) (hov : Q1.ov = .slice (some ⟨g, 0, none⟩) (i + 1) cap) (hoo : lastS R1.s = o) (hg : w5.heap[q2]? = some (.cells #[.int .i64 o.kind, .int .i64 o.id, .int .i64 o.start, .int .i64 o.end_, .string o.b.stream, .int .i64 o.b.expect, .int .i64 o.b.session, .int .i64 o.b.seq, .slice a3 o.b.events.length k3, .int .i64 o.out.code, .int .i64 o.out.pos, .int .i64 o.out.first, .int .i64 o.out.version, .string o.stream, .int .i64 o.from_, .int .i64 o.version, .slice a4 o.events.length k4] 79)) (hrk : w5.rangeAt gk (i * 17) [.int .i64 o.kind, .int .i64 o.id, .int .i64 o.start, .int .i64 o.end_, .string o.b.stream, .int .i64 o.b.expect, .int .i64 o.b.session, .int .i64 o.b.seq, .slice a1 o.b.events.length k1, .int .i64 o.out.code, .int .i64 o.out.pos, .int .i64 o.out.first, .int .i64 o.out.version, .string o.stream, .int .i64 o.from_, .int .i64 o.version, .slice a2 o.events.length k2]) (hgk : gk < w5.heap.size) (hi60 : i ≤ 100) (e1 : IsEvents w5.heap.size w5 (.slice a1 o.b.events.length k1) o.b.events) (e2 : IsEvents w5.heap.size w5 (.slice a2 o.events.length k2) o.events) (e3 : IsEvents w5.heap.size w5 (.slice a3 o.b.events.length k3) o.b.events) (e4 : IsEvents w5.heap.size w5 (.slice a4 o.events.length k4) o.events)
    (hbl : ∀ (p : List PanicEntry) (a : Act) (w : World) (d : Option Tmp) (v : Value), Q0 (.panic p) (a.put d v) w → Q0 (.panic p) a w)
    (hQ : ∀ (x317 x318 x319 x320 x321 x322 x323 x324 x325 x326 x327 x328 x329 x330 x331 x332 x333 x334 x335 x336 x337 x338 x339 x340 x341 x342 x343 x344 x345 x346 x347 x348 x349 x350 x351 x352 x353 x354 x355 x356 x357 x358 x359 x360 x361 x362 x363 x364 x365 x366 x367 x368 x369 x370 x371 : Value) (w9 : World), Below w5.heap.size w5 w9 → Q0 .normal ⟨#[u0, u1, u2, u3, u4, u5, u6, u7, u8, .pointer (some ⟨c, 0, none⟩), .int .i64 (err1 : Int), .pointer (some ⟨m, 0, none⟩), .int .i64 (err1 : Int), u13, u14, u15, vx, vy, u18, u19, .pointer (some ⟨q2, 0, none⟩), .slice (some ⟨gk, 0, none⟩) (i + 1) capk, u22, u23, u24, u25, u26, u27, u28, u29, u30, u31, u32, u33, u34, u35, u36, u37, u38, u39, u40, u41, u42, u43, u44, u45, u46, u47, u48, u49, u50, u51, u52, u53, u54, u55, u56, u57, u58, u59, u60, u61, u62, u63, u64, u65, u66, u67, u68, u69, u70, u71, u72, u73, u74, u75, u76, u77, u78, u79, u80, u81, u82, u83, u84, u85, u86, u87, u88, u89, u90, u91, u92, u93, u94, u95, u96, u97, u98, u99, u100, u101, u102, u103, u104, u105, u106, u107, u108, u109, u110, u111, u112, u113, u114, u115, u116, u117, u118, u119, u120, u121, u122, u123, u124, u125, u126, u127, u128, u129, u130, u131, u132, u133, u134, u135, u136, u137, u138, u139, u140, u141, u142, u143, u144, u145, u146, u147, u148, u149, u150, u151, u152, u153, u154, u155, u156, u157, u158, u159, u160, u161, u162, u163, u164, u165, u166, u167, u168, u169, u170, u171, u172, u173, u174, u175, u176, u177, u178, u179, u180, u181, u182, u183, u184, u185, u186, u187, u188, u189, u190, u191, u192, u193, u194, u195, u196, u197, u198, u199, u200, u201, u202, u203, u204, u205, u206, u207, u208, u209, u210, u211, u212, u213, u214, u215, u216, u217, u218, u219, u220, u221, u222, u223, u224, u225, u226, u227, u228, u229, u230, u231, u232, u233, u234, u235, u236, u237, u238, u239, u240, u241, u242, u243, u244, u245, u246, u247, u248, u249, u250, u251, u252, u253, u254, u255, u256, u257, u258, u259, u260, u261, u262, u263, u264, u265, u266, u267, u268, u269, u270, u271, u272, u273, u274, u275, u276, u277, u278, u279, u280, u281, u282, u283, u284, u285, u286, u287, u288, u289, u290, u291, u292, u293, u294, u295, u296, u297, u298, u299, u300, u301, u302, u303, u304, u305, u306, u307, u308, u309, u310, u311, u312, u313, u314, u315, u316, x317, x318, x319, x320, x321, x322, x323, x324, x325, x326, x327, x328, x329, x330, x331, x332, x333, x334, x335, x336, x337, x338, x339, x340, x341, x342, x343, x344, x345, x346, x347, x348, x349, x350, x351, x352, x353, x354, x355, x356, x357, x358, x359, x360, x361, x362, x363, x364, x365, x366, x367, x368, x369, x370, x371, .bool false], []⟩ w9) :
    (reg5 51).wp Tryd.prog Q0 ⟨#[u0, u1, u2, u3, u4, u5, u6, u7, u8, .pointer (some ⟨c, 0, none⟩), .int .i64 (err1 : Int), .pointer (some ⟨m, 0, none⟩), .int .i64 (err1 : Int), u13, u14, u15, vx, vy, u18, u19, .pointer (some ⟨q2, 0, none⟩), .slice (some ⟨gk, 0, none⟩) (i + 1) capk, u22, u23, u24, u25, u26, u27, u28, u29, u30, u31, u32, u33, u34, u35, u36, u37, u38, u39, u40, u41, u42, u43, u44, u45, u46, u47, u48, u49, u50, u51, u52, u53, u54, u55, u56, u57, u58, u59, u60, u61, u62, u63, u64, u65, u66, u67, u68, u69, u70, u71, u72, u73, u74, u75, u76, u77, u78, u79, u80, u81, u82, u83, u84, u85, u86, u87, u88, u89, u90, u91, u92, u93, u94, u95, u96, u97, u98, u99, u100, u101, u102, u103, u104, u105, u106, u107, u108, u109, u110, u111, u112, u113, u114, u115, u116, u117, u118, u119, u120, u121, u122, u123, u124, u125, u126, u127, u128, u129, u130, u131, u132, u133, u134, u135, u136, u137, u138, u139, u140, u141, u142, u143, u144, u145, u146, u147, u148, u149, u150, u151, u152, u153, u154, u155, u156, u157, u158, u159, u160, u161, u162, u163, u164, u165, u166, u167, u168, u169, u170, u171, u172, u173, u174, u175, u176, u177, u178, u179, u180, u181, u182, u183, u184, u185, u186, u187, u188, u189, u190, u191, u192, u193, u194, u195, u196, u197, u198, u199, u200, u201, u202, u203, u204, u205, u206, u207, u208, u209, u210, u211, u212, u213, u214, u215, u216, u217, u218, u219, u220, u221, u222, u223, u224, u225, u226, u227, u228, u229, u230, u231, u232, u233, u234, u235, u236, u237, u238, u239, u240, u241, u242, u243, u244, u245, u246, u247, u248, u249, u250, u251, u252, u253, u254, u255, u256, u257, u258, u259, u260, u261, u262, u263, u264, u265, u266, u267, u268, u269, u270, u271, u272, u273, u274, u275, u276, u277, u278, u279, u280, u281, u282, u283, u284, u285, u286, u287, u288, u289, u290, u291, u292, u293, u294, u295, u296, u297, u298, u299, u300, u301, u302, u303, u304, u305, u306, u307, u308, u309, u310, u311, u312, u313, u314, u315, u316, u317, u318, u319, u320, u321, u322, u323, u324, u325, u326, u327, u328, u329, u330, u331, u332, u333, u334, u335, u336, u337, u338, u339, u340, u341, u342, u343, u344, u345, u346, u347, u348, u349, u350, u351, u352, u353, u354, u355, u356, u357, u358, u359, u360, u361, u362, u363, u364, u365, u366, u367, u368, u369, u370, u371, u372], []⟩ w5 := by
  have HQ := Lib.hid hQ
  have HBL := Lib.hid hbl
  have HB5 := Lib.hid hB
  have HTD5 := Lib.hid htd
  have G5 := Lib.hid hg
  have HOV2 := Lib.hid hov
  have HOO := Lib.hid hoo
  have HRK := Lib.hid hrk
  have HGK := Lib.hid hgk
  have HEV1 := Lib.hid (fun (X' : World) (hb : Below w5.heap.size w5 X') => (show IsEvents w5.heap.size X' (.slice a1 o.b.events.length k1) o.b.events ∧ IsEvents w5.heap.size X' (.slice a2 o.events.length k2) o.events ∧ IsEvents w5.heap.size X' (.slice a3 o.b.events.length k3) o.b.events ∧ IsEvents w5.heap.size X' (.slice a4 o.events.length k4) o.events from ⟨e1.keep hb (Nat.le_refl _), e2.keep hb (Nat.le_refl _), e3.keep hb (Nat.le_refl _), e4.keep hb (Nat.le_refl _)⟩))
  have MKS := Lib.hid (fun (X' : World) (hb : Below w5.heap.size w5 X') => (show X'.cell? ⟨m, 2, none⟩ = some (.slice (some ⟨g, 0, none⟩) (i + 1) cap) ∧ X'.cell? ⟨m, 3, none⟩ = some (.bool R1.s.pending) ∧ X'.cell? ⟨m, 6, none⟩ = some (.int .i64 R1.s.v.epoch) ∧ X'.rangeAt q2 0 [.int .i64 o.kind, .int .i64 o.id, .int .i64 o.start, .int .i64 o.end_, .string o.b.stream, .int .i64 o.b.expect, .int .i64 o.b.session, .int .i64 o.b.seq, .slice a3 o.b.events.length k3, .int .i64 o.out.code, .int .i64 o.out.pos, .int .i64 o.out.first, .int .i64 o.out.version, .string o.stream, .int .i64 o.from_, .int .i64 o.version, .slice a4 o.events.length k4] ∧ X'.rangeAt gk (i * 17) [.int .i64 o.kind, .int .i64 o.id, .int .i64 o.start, .int .i64 o.end_, .string o.b.stream, .int .i64 o.b.expect, .int .i64 o.b.session, .int .i64 o.b.seq, .slice a1 o.b.events.length k1, .int .i64 o.out.code, .int .i64 o.out.pos, .int .i64 o.out.first, .int .i64 o.out.version, .string o.stream, .int .i64 o.from_, .int .i64 o.version, .slice a2 o.events.length k2] ∧ Below w5.heap.size w5 X' from ⟨by rw [← HOV2.out]; exact (HB5.out.hm.keep hb).c2, by rw [← HB5.out.same]; exact (HB5.out.hm.keep hb).c3, by rw [← HB5.out.same]; exact (HB5.out.hm.keep hb).c6,
    fun j v hj => by rw [hb.cell (p := ⟨q2, 0 + j, none⟩) (Array.getElem?_eq_some_iff.1 G5.out).1, Lib.cell_of_heap G5.out, Nat.zero_add, ← hj, ← Array.getElem?_toList],
    fun j v hj => (hb.cell (p := ⟨gk, i * 17 + j, none⟩) HGK.out).trans (HRK.out j v hj), hb⟩))
  have hi0 : (0 : Int) ≤ (i : Int) := by omega
  have hi1 : (i : Int) < (i : Int) + 1 := by omega
  have hi3 : (0 : Int) < (i : Int) + 1 := by omega
  have ewl : IntKind.i64.wrap (i : Int) = (i : Int) := by rw [IntKind.wrap_i64]; omega
  clear hQ hbl hB htd hg hov hoo hrk hgk e1 e2 e3 e4
  conv => arg 2; whnf
  refine region_begin (S := fun X' => X'.cell? ⟨m, 2, none⟩ = some (.slice (some ⟨g, 0, none⟩) (i + 1) cap) ∧ X'.cell? ⟨m, 3, none⟩ = some (.bool R1.s.pending) ∧ X'.cell? ⟨m, 6, none⟩ = some (.int .i64 R1.s.v.epoch) ∧ X'.rangeAt q2 0 [.int .i64 o.kind, .int .i64 o.id, .int .i64 o.start, .int .i64 o.end_, .string o.b.stream, .int .i64 o.b.expect, .int .i64 o.b.session, .int .i64 o.b.seq, .slice a3 o.b.events.length k3, .int .i64 o.out.code, .int .i64 o.out.pos, .int .i64 o.out.first, .int .i64 o.out.version, .string o.stream, .int .i64 o.from_, .int .i64 o.version, .slice a4 o.events.length k4] ∧ X'.rangeAt gk (i * 17) [.int .i64 o.kind, .int .i64 o.id, .int .i64 o.start, .int .i64 o.end_, .string o.b.stream, .int .i64 o.b.expect, .int .i64 o.b.session, .int .i64 o.b.seq, .slice a1 o.b.events.length k1, .int .i64 o.out.code, .int .i64 o.out.pos, .int .i64 o.out.first, .int .i64 o.out.version, .string o.stream, .int .i64 o.from_, .int .i64 o.version, .slice a2 o.events.length k2] ∧ Below w5.heap.size w5 X') 56 rfl (by kernel_rfl) (MKS.out _ (Below.refl w5.heap.size w5).drew) (fun hH0 => ?_)
  refine wpAnyH_take (i := 0) (oi := ?os0) (v := ?vs0) ?his0 (by kernel_rfl) (by kernel_rfl) (by kernel_rfl) ?hQs0 ?hys0 hH0 ?_
  case his0 => simp only [List.getElem?_toArray, List.getElem?_cons_zero]; rfl
  case hQs0 => exact fun p a w h => HBL.out p a w _ _ h
  case hys0 => refine Or.inl ⟨by rfl, ?_⟩; intro W hSw; (try dsimp only at hSw); go_simp; try with_reducible rfl
  simp only [Act.put, List.setIfInBounds_toArray, List.set_cons_zero, List.set_cons_succ]
  refine wpAnyH_take (i := 1) (oi := ?os1) (v := ?vs1) ?his1 (by kernel_rfl) (by kernel_rfl) (by kernel_rfl) ?hQs1 ?hys1 hH0 ?_
  case his1 => simp only [List.getElem?_toArray, List.getElem?_cons_zero, List.getElem?_cons_succ]; rfl
  case hQs1 => exact fun p a w h => HBL.out p a w _ _ h
  case hys1 => refine Or.inl ⟨by rfl, ?_⟩; intro W hSw; (try dsimp only at hSw); go_simp; try with_reducible rfl
  simp only [Act.put, List.setIfInBounds_toArray, List.set_cons_zero, List.set_cons_succ]
  refine wpAnyH_take (i := 2) (oi := ?os2) (v := ?vs2) ?his2 (by kernel_rfl) (by kernel_rfl) (by kernel_rfl) ?hQs2 ?hys2 hH0 ?_
  case his2 => simp only [List.getElem?_toArray, List.getElem?_cons_zero, List.getElem?_cons_succ]; rfl
  case hQs2 => exact fun p a w h => HBL.out p a w _ _ h
  case hys2 => refine Or.inl ⟨by rfl, ?_⟩; intro W hSw; (try dsimp only at hSw); go_simp; try with_reducible rfl
  simp only [Act.put, List.setIfInBounds_toArray, List.set_cons_zero, List.set_cons_succ]
  refine wpAnyH_take (i := 3) (oi := ?os3) (v := ?vs3) ?his3 (by kernel_rfl) (by kernel_rfl) (by kernel_rfl) ?hQs3 ?hys3 hH0 ?_
  case his3 => simp only [List.getElem?_toArray, List.getElem?_cons_zero, List.getElem?_cons_succ]; rfl
  case hQs3 => exact fun p a w h => HBL.out p a w _ _ h
  case hys3 => refine Or.inl ⟨by rfl, ?_⟩; intro W hSw; (try dsimp only at hSw); go_simp; try with_reducible rfl
  simp only [Act.put, List.setIfInBounds_toArray, List.set_cons_zero, List.set_cons_succ]
  refine wpAnyH_take (i := 4) (oi := ?os4) (v := ?vs4) ?his4 (by kernel_rfl) (by kernel_rfl) (by kernel_rfl) ?hQs4 ?hys4 hH0 ?_
  case his4 => simp only [List.getElem?_toArray, List.getElem?_cons_zero, List.getElem?_cons_succ]; rfl
  case hQs4 => exact fun p a w h => HBL.out p a w _ _ h
  case hys4 => refine Or.inl ⟨by rfl, ?_⟩; intro W hSw; (try dsimp only at hSw); go_simp; try with_reducible rfl
  simp only [Act.put, List.setIfInBounds_toArray, List.set_cons_zero, List.set_cons_succ]
  refine wpAnyH_take (i := 5) (oi := ?os5) (v := ?vs5) ?his5 (by kernel_rfl) (by kernel_rfl) (by kernel_rfl) ?hQs5 ?hys5 hH0 ?_
  case his5 => simp only [List.getElem?_toArray, List.getElem?_cons_zero, List.getElem?_cons_succ]; rfl
  case hQs5 => exact fun p a w h => HBL.out p a w _ _ h
  case hys5 => refine Or.inl ⟨by rfl, ?_⟩; intro W hSw; (try dsimp only at hSw); go_simp; try with_reducible rfl
  simp only [Act.put, List.setIfInBounds_toArray, List.set_cons_zero, List.set_cons_succ]
  refine wpAnyH_take (i := 6) (oi := ?os6) (v := .agg #[.int .i64 o.kind, .int .i64 o.id, .int .i64 o.start, .int .i64 o.end_, .string o.b.stream, .int .i64 o.b.expect, .int .i64 o.b.session, .int .i64 o.b.seq, .slice a3 o.b.events.length k3, .int .i64 o.out.code, .int .i64 o.out.pos, .int .i64 o.out.first, .int .i64 o.out.version, .string o.stream, .int .i64 o.from_, .int .i64 o.version, .slice a4 o.events.length k4]) ?his6 (by kernel_rfl) (by kernel_rfl) (by kernel_rfl) ?hQs6 ?hys6 hH0 ?_
  case his6 => simp only [List.getElem?_toArray, List.getElem?_cons_zero, List.getElem?_cons_succ]; rfl
  case hQs6 => exact fun p a w h => HBL.out p a w _ _ h
  case hys6 => exact yieldsIf_load_mid (by rfl) 79 _ rfl q2 0 (by rfl) [.int .i64 o.kind, .int .i64 o.id, .int .i64 o.start, .int .i64 o.end_, .string o.b.stream, .int .i64 o.b.expect, .int .i64 o.b.session, .int .i64 o.b.seq, .slice a3 o.b.events.length k3, .int .i64 o.out.code, .int .i64 o.out.pos, .int .i64 o.out.first, .int .i64 o.out.version, .string o.stream, .int .i64 o.from_, .int .i64 o.version, .slice a4 o.events.length k4] _ (fun W hS => hS.2.2.2.1) Tryd.underlying79 rfl Rf.opsize
  simp only [Act.put, List.setIfInBounds_toArray, List.set_cons_zero, List.set_cons_succ]
  clear hH0
  have HB6 := Lib.hid (Below.refl w5.heap.size w5).drew
  generalize w5.drew = w6 at *
  have HT6 := Lib.hid (HTD5.out.below HB6.out)
  have CSY := Lib.hid (says_any lo outs _ _ o a3 a4 k3 k4 w6 HT6.out.at_ HT6.out.routs HT6.out.ev (by rw [← HOO.out]; exact HT6.out.good) ((HEV1.out w6 HB6.out).2.2.1.up HB6.out.size) (by have := HT6.out.len; omega))
  refine wpAnyH_ready (rs := [7]) (by kernel_rfl) (by simp) ?_
  refine AllReadyH.cons (o := ?os7) ?hos7 (fun K' hK => ?_) AllReadyH.nil
  case hos7 => simp only [List.getElem?_toArray, List.getElem?_cons_zero, List.getElem?_cons_succ]; rfl
  go_simp
  refine CSY.out.mono ?_
  rintro e w7 ⟨rfl, hb7⟩
  have HB7 := Lib.hid (HB6.out.trans (hb7.mono HB6.out.size))
  have HM7 := Lib.hid (HB5.out.below HB7.out)
  clear hb7
  refine hK.out _ _ (MKS.out _ HB7.out) (fun hH1 => ?_)
  clear hK K'
  (try simp only [Act.put, List.setIfInBounds_toArray, List.set_cons_zero, List.set_cons_succ])
  refine wpAnyH_take (i := 8) (oi := ?os8) (v := ?vs8) ?his8 (by kernel_rfl) (by kernel_rfl) (by kernel_rfl) ?hQs8 ?hys8 hH1 ?_
  case his8 => simp only [List.getElem?_toArray, List.getElem?_cons_zero, List.getElem?_cons_succ]; rfl
  case hQs8 => exact fun p a w h => HBL.out p a w _ _ h
  case hys8 => refine Or.inl ⟨by rfl, ?_⟩; intro W hSw; (try dsimp only at hSw); go_simp; try with_reducible rfl
  simp only [Act.put, List.setIfInBounds_toArray, List.set_cons_zero, List.set_cons_succ]
  refine wpAnyH_take (i := 9) (oi := ?os9) (v := ?vs9) ?his9 (by kernel_rfl) (by kernel_rfl) (by kernel_rfl) ?hQs9 ?hys9 hH1 ?_
  case his9 => simp only [List.getElem?_toArray, List.getElem?_cons_zero, List.getElem?_cons_succ]; rfl
  case hQs9 => exact fun p a w h => HBL.out p a w _ _ h
  case hys9 => refine Or.inl ⟨by rfl, ?_⟩; intro W hSw; (try dsimp only at hSw); go_simp; try with_reducible rfl
  simp only [Act.put, List.setIfInBounds_toArray, List.set_cons_zero, List.set_cons_succ]
  refine wpAnyH_take (i := 10) (oi := ?os10) (v := ?vs10) ?his10 (by kernel_rfl) (by kernel_rfl) (by kernel_rfl) ?hQs10 ?hys10 hH1 ?_
  case his10 => simp only [List.getElem?_toArray, List.getElem?_cons_zero, List.getElem?_cons_succ]; rfl
  case hQs10 => exact fun p a w h => HBL.out p a w _ _ h
  case hys10 => refine Or.inl ⟨by rfl, ?_⟩; intro W hSw; (try dsimp only at hSw); go_simp; try with_reducible rfl
  simp only [Act.put, List.setIfInBounds_toArray, List.set_cons_zero, List.set_cons_succ]
  refine wpAnyH_take (i := 11) (oi := ?os11) (v := ?vs11) ?his11 (by kernel_rfl) (by kernel_rfl) (by kernel_rfl) ?hQs11 ?hys11 hH1 ?_
  case his11 => simp only [List.getElem?_toArray, List.getElem?_cons_zero, List.getElem?_cons_succ]; rfl
  case hQs11 => exact fun p a w h => HBL.out p a w _ _ h
  case hys11 => refine Or.inl ⟨by rfl, ?_⟩; intro W hSw; (try dsimp only at hSw); go_simp; try with_reducible rfl
  simp only [Act.put, List.setIfInBounds_toArray, List.set_cons_zero, List.set_cons_succ]
  refine wpAnyH_take (i := 13) (oi := ?os13) (v := ?vs13) ?his13 (by kernel_rfl) (by kernel_rfl) (by kernel_rfl) ?hQs13 ?hys13 hH1 ?_
  case his13 => simp only [List.getElem?_toArray, List.getElem?_cons_zero, List.getElem?_cons_succ]; rfl
  case hQs13 => exact fun p a w h => HBL.out p a w _ _ h
  case hys13 => refine Or.inl ⟨by rfl, ?_⟩; intro W hSw; (try dsimp only at hSw); go_simp; try with_reducible rfl
  simp only [Act.put, List.setIfInBounds_toArray, List.set_cons_zero, List.set_cons_succ]
  refine wpAnyH_take (i := 14) (oi := ?os14) (v := ?vs14) ?his14 (by kernel_rfl) (by kernel_rfl) (by kernel_rfl) ?hQs14 ?hys14 hH1 ?_
  case his14 => simp only [List.getElem?_toArray, List.getElem?_cons_zero, List.getElem?_cons_succ]; rfl
  case hQs14 => exact fun p a w h => HBL.out p a w _ _ h
  case hys14 => refine Or.inl ⟨by rfl, ?_⟩; intro W hSw; (try dsimp only at hSw); go_simp; try with_reducible rfl
  simp only [Act.put, List.setIfInBounds_toArray, List.set_cons_zero, List.set_cons_succ]
  refine wpAnyH_take (i := 15) (oi := ?os15) (v := ?vs15) ?his15 (by kernel_rfl) (by kernel_rfl) (by kernel_rfl) ?hQs15 ?hys15 hH1 ?_
  case his15 => simp only [List.getElem?_toArray, List.getElem?_cons_zero, List.getElem?_cons_succ]; rfl
  case hQs15 => exact fun p a w h => HBL.out p a w _ _ h
  case hys15 => refine Or.inl ⟨by rfl, ?_⟩; intro W hSw; (try dsimp only at hSw); go_simp; try with_reducible rfl
  simp only [Act.put, List.setIfInBounds_toArray, List.set_cons_zero, List.set_cons_succ]
  refine wpAnyH_take (i := 16) (oi := ?os16) (v := ?vs16) ?his16 (by kernel_rfl) (by kernel_rfl) (by kernel_rfl) ?hQs16 ?hys16 hH1 ?_
  case his16 => simp only [List.getElem?_toArray, List.getElem?_cons_zero, List.getElem?_cons_succ]; rfl
  case hQs16 => exact fun p a w h => HBL.out p a w _ _ h
  case hys16 => refine Or.inl ⟨by rfl, ?_⟩; intro W hSw; (try dsimp only at hSw); go_simp; try with_reducible rfl
  simp only [Act.put, List.setIfInBounds_toArray, List.set_cons_zero, List.set_cons_succ]
  clear hH1
  have CPD := Lib.hid (pending_any _ lo c R1 w7 HM7.out.hc)
  refine wpAnyH_ready (rs := [12]) (by kernel_rfl) (by simp) ?_
  refine AllReadyH.cons (o := ?os12) ?hos12 (fun K' hK => ?_) AllReadyH.nil
  case hos12 => simp only [List.getElem?_toArray, List.getElem?_cons_zero, List.getElem?_cons_succ]; rfl
  go_simp
  refine CPD.out.mono ?_
  rintro e w7' ⟨rfl, rfl⟩
  refine hK.out _ _ (MKS.out _ HB7.out) (fun hH2 => ?_)
  clear hK K'
  (try simp only [Act.put, List.setIfInBounds_toArray, List.set_cons_zero, List.set_cons_succ])
  refine wpAnyH_take (i := 17) (oi := ?os17) (v := ?vs17) ?his17 (by kernel_rfl) (by kernel_rfl) (by kernel_rfl) ?hQs17 ?hys17 hH2 ?_
  case his17 => simp only [List.getElem?_toArray, List.getElem?_cons_zero, List.getElem?_cons_succ]; rfl
  case hQs17 => exact fun p a w h => HBL.out p a w _ _ h
  case hys17 => refine Or.inl ⟨by rfl, ?_⟩; intro W hSw; (try dsimp only at hSw); go_simp; try with_reducible rfl
  simp only [Act.put, List.setIfInBounds_toArray, List.set_cons_zero, List.set_cons_succ]
  refine wpAnyH_take (i := 18) (oi := ?os18) (v := ?vs18) ?his18 (by kernel_rfl) (by kernel_rfl) (by kernel_rfl) ?hQs18 ?hys18 hH2 ?_
  case his18 => simp only [List.getElem?_toArray, List.getElem?_cons_zero, List.getElem?_cons_succ]; rfl
  case hQs18 => exact fun p a w h => HBL.out p a w _ _ h
  case hys18 => refine Or.inl ⟨by rfl, ?_⟩; intro W hSw; (try dsimp only at hSw); go_simp; try with_reducible rfl
  simp only [Act.put, List.setIfInBounds_toArray, List.set_cons_zero, List.set_cons_succ]
  refine wpAnyH_take (i := 19) (oi := ?os19) (v := ?vs19) ?his19 (by kernel_rfl) (by kernel_rfl) (by kernel_rfl) ?hQs19 ?hys19 hH2 ?_
  case his19 => simp only [List.getElem?_toArray, List.getElem?_cons_zero, List.getElem?_cons_succ]; rfl
  case hQs19 => exact fun p a w h => HBL.out p a w _ _ h
  case hys19 => refine Or.inl ⟨by rfl, ?_⟩; intro W hSw; (try dsimp only at hSw); go_simp; try with_reducible rfl
  simp only [Act.put, List.setIfInBounds_toArray, List.set_cons_zero, List.set_cons_succ]
  refine wpAnyH_take (i := 20) (oi := ?os20) (v := ?vs20) ?his20 (by kernel_rfl) (by kernel_rfl) (by kernel_rfl) ?hQs20 ?hys20 hH2 ?_
  case his20 => simp only [List.getElem?_toArray, List.getElem?_cons_zero, List.getElem?_cons_succ]; rfl
  case hQs20 => exact fun p a w h => HBL.out p a w _ _ h
  case hys20 => refine Or.inl ⟨by rfl, ?_⟩; intro W hSw; (try dsimp only at hSw); go_simp; try with_reducible rfl
  simp only [Act.put, List.setIfInBounds_toArray, List.set_cons_zero, List.set_cons_succ]
  refine wpAnyH_take (i := 21) (oi := ?os21) (v := ?vs21) ?his21 (by kernel_rfl) (by kernel_rfl) (by kernel_rfl) ?hQs21 ?hys21 hH2 ?_
  case his21 => simp only [List.getElem?_toArray, List.getElem?_cons_zero, List.getElem?_cons_succ]; rfl
  case hQs21 => exact fun p a w h => HBL.out p a w _ _ h
  case hys21 => refine Or.inl ⟨by rfl, ?_⟩; intro W hSw; (try dsimp only at hSw); go_simp; try with_reducible rfl
  simp only [Act.put, List.setIfInBounds_toArray, List.set_cons_zero, List.set_cons_succ]
  refine wpAnyH_take (i := 22) (oi := ?os22) (v := ?vs22) ?his22 (by kernel_rfl) (by kernel_rfl) (by kernel_rfl) ?hQs22 ?hys22 hH2 ?_
  case his22 => simp only [List.getElem?_toArray, List.getElem?_cons_zero, List.getElem?_cons_succ]; rfl
  case hQs22 => exact fun p a w h => HBL.out p a w _ _ h
  case hys22 => refine Or.inl ⟨by rfl, ?_⟩; intro W hSw; (try dsimp only at hSw); go_simp; try with_reducible rfl
  simp only [Act.put, List.setIfInBounds_toArray, List.set_cons_zero, List.set_cons_succ]
  refine wpAnyH_take (i := 23) (oi := ?os23) (v := ?vs23) ?his23 (by kernel_rfl) (by kernel_rfl) (by kernel_rfl) ?hQs23 ?hys23 hH2 ?_
  case his23 => simp only [List.getElem?_toArray, List.getElem?_cons_zero, List.getElem?_cons_succ]; rfl
  case hQs23 => exact fun p a w h => HBL.out p a w _ _ h
  case hys23 => refine Or.inl ⟨by rfl, ?_⟩; intro W hSw; (try dsimp only at hSw); go_simp; try with_reducible rfl
  simp only [Act.put, List.setIfInBounds_toArray, List.set_cons_zero, List.set_cons_succ]
  refine wpAnyH_take (i := 24) (oi := ?os24) (v := ?vs24) ?his24 (by kernel_rfl) (by kernel_rfl) (by kernel_rfl) ?hQs24 ?hys24 hH2 ?_
  case his24 => simp only [List.getElem?_toArray, List.getElem?_cons_zero, List.getElem?_cons_succ]; rfl
  case hQs24 => exact fun p a w h => HBL.out p a w _ _ h
  case hys24 => refine Or.inl ⟨by rfl, ?_⟩; intro W hSw; (try dsimp only at hSw); go_simp; try with_reducible rfl
  simp only [Act.put, List.setIfInBounds_toArray, List.set_cons_zero, List.set_cons_succ]
  refine wpAnyH_take (i := 25) (oi := ?os25) (v := ?vs25) ?his25 (by kernel_rfl) (by kernel_rfl) (by kernel_rfl) ?hQs25 ?hys25 hH2 ?_
  case his25 => simp only [List.getElem?_toArray, List.getElem?_cons_zero, List.getElem?_cons_succ]; rfl
  case hQs25 => exact fun p a w h => HBL.out p a w _ _ h
  case hys25 => refine Or.inl ⟨by rfl, ?_⟩; intro W hSw; (try dsimp only at hSw); go_simp; try with_reducible rfl
  simp only [Act.put, List.setIfInBounds_toArray, List.set_cons_zero, List.set_cons_succ]
  refine wpAnyH_take (i := 26) (oi := ?os26) (v := ?vs26) ?his26 (by kernel_rfl) (by kernel_rfl) (by kernel_rfl) ?hQs26 ?hys26 hH2 ?_
  case his26 => simp only [List.getElem?_toArray, List.getElem?_cons_zero, List.getElem?_cons_succ]; rfl
  case hQs26 => exact fun p a w h => HBL.out p a w _ _ h
  case hys26 => refine Or.inl ⟨by rfl, ?_⟩; intro W hSw; (try dsimp only at hSw); go_simp; try with_reducible rfl
  simp only [Act.put, List.setIfInBounds_toArray, List.set_cons_zero, List.set_cons_succ]
  refine wpAnyH_take (i := 27) (oi := ?os27) (v := ?vs27) ?his27 (by kernel_rfl) (by kernel_rfl) (by kernel_rfl) ?hQs27 ?hys27 hH2 ?_
  case his27 => simp only [List.getElem?_toArray, List.getElem?_cons_zero, List.getElem?_cons_succ]; rfl
  case hQs27 => exact fun p a w h => HBL.out p a w _ _ h
  case hys27 => refine Or.inl ⟨by rfl, ?_⟩; intro W hSw; (try dsimp only at hSw); go_simp; try with_reducible rfl
  simp only [Act.put, List.setIfInBounds_toArray, List.set_cons_zero, List.set_cons_succ]
  refine wpAnyH_take (i := 28) (oi := ?os28) (v := ?vs28) ?his28 (by kernel_rfl) (by kernel_rfl) (by kernel_rfl) ?hQs28 ?hys28 hH2 ?_
  case his28 => simp only [List.getElem?_toArray, List.getElem?_cons_zero, List.getElem?_cons_succ]; rfl
  case hQs28 => exact fun p a w h => HBL.out p a w _ _ h
  case hys28 => refine Or.inl ⟨by rfl, ?_⟩; intro W hSw; (try dsimp only at hSw); go_simp; try with_reducible rfl
  simp only [Act.put, List.setIfInBounds_toArray, List.set_cons_zero, List.set_cons_succ]
  refine wpAnyH_take (i := 29) (oi := ?os29) (v := ?vs29) ?his29 (by kernel_rfl) (by kernel_rfl) (by kernel_rfl) ?hQs29 ?hys29 hH2 ?_
  case his29 => simp only [List.getElem?_toArray, List.getElem?_cons_zero, List.getElem?_cons_succ]; rfl
  case hQs29 => exact fun p a w h => HBL.out p a w _ _ h
  case hys29 => refine Or.inl ⟨by rfl, ?_⟩; intro W hSw; (try dsimp only at hSw); go_simp; try with_reducible rfl
  simp only [Act.put, List.setIfInBounds_toArray, List.set_cons_zero, List.set_cons_succ]
  refine wpAnyH_take (i := 30) (oi := ?os30) (v := ?vs30) ?his30 (by kernel_rfl) (by kernel_rfl) (by kernel_rfl) ?hQs30 ?hys30 hH2 ?_
  case his30 => simp only [List.getElem?_toArray, List.getElem?_cons_zero, List.getElem?_cons_succ]; rfl
  case hQs30 => exact fun p a w h => HBL.out p a w _ _ h
  case hys30 => refine Or.inl ⟨by rfl, ?_⟩; intro W hSw; (try dsimp only at hSw); go_simp; try with_reducible rfl
  simp only [Act.put, List.setIfInBounds_toArray, List.set_cons_zero, List.set_cons_succ]
  refine wpAnyH_take (i := 31) (oi := ?os31) (v := ?vs31) ?his31 (by kernel_rfl) (by kernel_rfl) (by kernel_rfl) ?hQs31 ?hys31 hH2 ?_
  case his31 => simp only [List.getElem?_toArray, List.getElem?_cons_zero, List.getElem?_cons_succ]; rfl
  case hQs31 => exact fun p a w h => HBL.out p a w _ _ h
  case hys31 => refine Or.inl ⟨by rfl, ?_⟩; intro W hSw; (try dsimp only at hSw); go_simp; try with_reducible rfl
  simp only [Act.put, List.setIfInBounds_toArray, List.set_cons_zero, List.set_cons_succ]
  refine wpAnyH_take (i := 32) (oi := ?os32) (v := ?vs32) ?his32 (by kernel_rfl) (by kernel_rfl) (by kernel_rfl) ?hQs32 ?hys32 hH2 ?_
  case his32 => simp only [List.getElem?_toArray, List.getElem?_cons_zero, List.getElem?_cons_succ]; rfl
  case hQs32 => exact fun p a w h => HBL.out p a w _ _ h
  case hys32 => refine Or.inl ⟨by rfl, ?_⟩; intro W hSw; (try dsimp only at hSw); go_simp; try with_reducible rfl
  simp only [Act.put, List.setIfInBounds_toArray, List.set_cons_zero, List.set_cons_succ]
  refine wpAnyH_take (i := 33) (oi := ?os33) (v := ?vs33) ?his33 (by kernel_rfl) (by kernel_rfl) (by kernel_rfl) ?hQs33 ?hys33 hH2 ?_
  case his33 => simp only [List.getElem?_toArray, List.getElem?_cons_zero, List.getElem?_cons_succ]; rfl
  case hQs33 => exact fun p a w h => HBL.out p a w _ _ h
  case hys33 => refine Or.inl ⟨by rfl, ?_⟩; intro W hSw; (try dsimp only at hSw); go_simp; try with_reducible rfl
  simp only [Act.put, List.setIfInBounds_toArray, List.set_cons_zero, List.set_cons_succ]
  refine wpAnyH_take (i := 34) (oi := ?os34) (v := ?vs34) ?his34 (by kernel_rfl) (by kernel_rfl) (by kernel_rfl) ?hQs34 ?hys34 hH2 ?_
  case his34 => simp only [List.getElem?_toArray, List.getElem?_cons_zero, List.getElem?_cons_succ]; rfl
  case hQs34 => exact fun p a w h => HBL.out p a w _ _ h
  case hys34 => refine Or.inl ⟨by rfl, ?_⟩; intro W hSw; (try dsimp only at hSw); go_simp; try with_reducible rfl
  simp only [Act.put, List.setIfInBounds_toArray, List.set_cons_zero, List.set_cons_succ]
  refine wpAnyH_take (i := 35) (oi := ?os35) (v := ?vs35) ?his35 (by kernel_rfl) (by kernel_rfl) (by kernel_rfl) ?hQs35 ?hys35 hH2 ?_
  case his35 => simp only [List.getElem?_toArray, List.getElem?_cons_zero, List.getElem?_cons_succ]; rfl
  case hQs35 => exact fun p a w h => HBL.out p a w _ _ h
  case hys35 => refine Or.inl ⟨by rfl, ?_⟩; intro W hSw; (try dsimp only at hSw); go_simp; try with_reducible rfl
  simp only [Act.put, List.setIfInBounds_toArray, List.set_cons_zero, List.set_cons_succ]
  refine wpAnyH_take (i := 36) (oi := ?os36) (v := ?vs36) ?his36 (by kernel_rfl) (by kernel_rfl) (by kernel_rfl) ?hQs36 ?hys36 hH2 ?_
  case his36 => simp only [List.getElem?_toArray, List.getElem?_cons_zero, List.getElem?_cons_succ]; rfl
  case hQs36 => exact fun p a w h => HBL.out p a w _ _ h
  case hys36 => refine Or.inl ⟨by rfl, ?_⟩; intro W hSw; (try dsimp only at hSw); go_simp; try with_reducible rfl
  simp only [Act.put, List.setIfInBounds_toArray, List.set_cons_zero, List.set_cons_succ]
  refine wpAnyH_take (i := 37) (oi := ?os37) (v := ?vs37) ?his37 (by kernel_rfl) (by kernel_rfl) (by kernel_rfl) ?hQs37 ?hys37 hH2 ?_
  case his37 => simp only [List.getElem?_toArray, List.getElem?_cons_zero, List.getElem?_cons_succ]; rfl
  case hQs37 => exact fun p a w h => HBL.out p a w _ _ h
  case hys37 => refine Or.inl ⟨by rfl, ?_⟩; intro W hSw; (try dsimp only at hSw); go_simp; try with_reducible rfl
  simp only [Act.put, List.setIfInBounds_toArray, List.set_cons_zero, List.set_cons_succ]
  refine wpAnyH_take (i := 38) (oi := ?os38) (v := ?vs38) ?his38 (by kernel_rfl) (by kernel_rfl) (by kernel_rfl) ?hQs38 ?hys38 hH2 ?_
  case his38 => simp only [List.getElem?_toArray, List.getElem?_cons_zero, List.getElem?_cons_succ]; rfl
  case hQs38 => exact fun p a w h => HBL.out p a w _ _ h
  case hys38 => refine Or.inl ⟨by rfl, ?_⟩; intro W hSw; (try dsimp only at hSw); go_simp; try with_reducible rfl
  simp only [Act.put, List.setIfInBounds_toArray, List.set_cons_zero, List.set_cons_succ]
  refine wpAnyH_take (i := 39) (oi := ?os39) (v := .agg #[.int .i64 o.kind, .int .i64 o.id, .int .i64 o.start, .int .i64 o.end_, .string o.b.stream, .int .i64 o.b.expect, .int .i64 o.b.session, .int .i64 o.b.seq, .slice a1 o.b.events.length k1, .int .i64 o.out.code, .int .i64 o.out.pos, .int .i64 o.out.first, .int .i64 o.out.version, .string o.stream, .int .i64 o.from_, .int .i64 o.version, .slice a2 o.events.length k2]) ?his39 (by kernel_rfl) (by kernel_rfl) (by kernel_rfl) ?hQs39 ?hys39 hH2 ?_
  case his39 => simp only [List.getElem?_toArray, List.getElem?_cons_zero, List.getElem?_cons_succ]; rfl
  case hQs39 => exact fun p a w h => HBL.out p a w _ _ h
  case hys39 => exact yieldsIf_load_mid (by rfl) 56 _ rfl gk (i * 17) (by rfl) [.int .i64 o.kind, .int .i64 o.id, .int .i64 o.start, .int .i64 o.end_, .string o.b.stream, .int .i64 o.b.expect, .int .i64 o.b.session, .int .i64 o.b.seq, .slice a1 o.b.events.length k1, .int .i64 o.out.code, .int .i64 o.out.pos, .int .i64 o.out.first, .int .i64 o.out.version, .string o.stream, .int .i64 o.from_, .int .i64 o.version, .slice a2 o.events.length k2] _ (fun W hS => hS.2.2.2.2.1) Tryd.underlying56 rfl copsize
  simp only [Act.put, List.setIfInBounds_toArray, List.set_cons_zero, List.set_cons_succ]
  refine wpAnyH_take (i := 40) (oi := ?os40) (v := .agg #[.int .i64 o.kind, .int .i64 o.id, .int .i64 o.start, .int .i64 o.end_, .string o.b.stream, .int .i64 o.b.expect, .int .i64 o.b.session, .int .i64 o.b.seq, .slice a3 o.b.events.length k3, .int .i64 o.out.code, .int .i64 o.out.pos, .int .i64 o.out.first, .int .i64 o.out.version, .string o.stream, .int .i64 o.from_, .int .i64 o.version, .slice a4 o.events.length k4]) ?his40 (by kernel_rfl) (by kernel_rfl) (by kernel_rfl) ?hQs40 ?hys40 hH2 ?_
  case his40 => simp only [List.getElem?_toArray, List.getElem?_cons_zero, List.getElem?_cons_succ]; rfl
  case hQs40 => exact fun p a w h => HBL.out p a w _ _ h
  case hys40 => exact yieldsIf_load_mid (by rfl) 79 _ rfl q2 0 (by rfl) [.int .i64 o.kind, .int .i64 o.id, .int .i64 o.start, .int .i64 o.end_, .string o.b.stream, .int .i64 o.b.expect, .int .i64 o.b.session, .int .i64 o.b.seq, .slice a3 o.b.events.length k3, .int .i64 o.out.code, .int .i64 o.out.pos, .int .i64 o.out.first, .int .i64 o.out.version, .string o.stream, .int .i64 o.from_, .int .i64 o.version, .slice a4 o.events.length k4] _ (fun W hS => hS.2.2.2.1) Tryd.underlying79 rfl Rf.opsize
  simp only [Act.put, List.setIfInBounds_toArray, List.set_cons_zero, List.set_cons_succ]
  clear hH2
  have CSM := Lib.hid (same_any o a1 a2 a3 a4 k1 k2 k3 k4 w7 ((HEV1.out w7 HB7.out).1.up HB7.out.size) ((HEV1.out w7 HB7.out).2.1.up HB7.out.size) ((HEV1.out w7 HB7.out).2.2.1.up HB7.out.size) ((HEV1.out w7 HB7.out).2.2.2.up HB7.out.size))
  refine wpAnyH_ready (rs := [41]) (by kernel_rfl) (by simp) ?_
  refine AllReadyH.cons (o := ?os41) ?hos41 (fun K' hK => ?_) AllReadyH.nil
  case hos41 => simp only [List.getElem?_toArray, List.getElem?_cons_zero, List.getElem?_cons_succ]; rfl
  go_simp
  refine CSM.out.mono ?_
  rintro e w8 ⟨rfl, hb8⟩
  have HB8 := Lib.hid (HB7.out.trans (hb8.mono HB7.out.size))
  have HM8 := Lib.hid (HB5.out.below HB8.out)
  clear hb8
  refine hK.out _ _ (MKS.out _ HB8.out) (fun hH3 => ?_)
  clear hK K'
  (try simp only [Act.put, List.setIfInBounds_toArray, List.set_cons_zero, List.set_cons_succ])
  refine wpAnyH_take (i := 42) (oi := ?os42) (v := ?vs42) ?his42 (by kernel_rfl) (by kernel_rfl) (by kernel_rfl) ?hQs42 ?hys42 hH3 ?_
  case his42 => simp only [List.getElem?_toArray, List.getElem?_cons_zero, List.getElem?_cons_succ]; rfl
  case hQs42 => exact fun p a w h => HBL.out p a w _ _ h
  case hys42 => refine Or.inl ⟨by rfl, ?_⟩; intro W hSw; (try dsimp only at hSw); go_simp; try with_reducible rfl
  simp only [Act.put, List.setIfInBounds_toArray, List.set_cons_zero, List.set_cons_succ]
  refine wpAnyH_take (i := 43) (oi := ?os43) (v := ?vs43) ?his43 (by kernel_rfl) (by kernel_rfl) (by kernel_rfl) ?hQs43 ?hys43 hH3 ?_
  case his43 => simp only [List.getElem?_toArray, List.getElem?_cons_zero, List.getElem?_cons_succ]; rfl
  case hQs43 => exact fun p a w h => HBL.out p a w _ _ h
  case hys43 => refine Or.inl ⟨by rfl, ?_⟩; intro W hSw; (try dsimp only at hSw); go_simp; try with_reducible rfl
  simp only [Act.put, List.setIfInBounds_toArray, List.set_cons_zero, List.set_cons_succ]
  refine wpAnyH_take (i := 44) (oi := ?os44) (v := ?vs44) ?his44 (by kernel_rfl) (by kernel_rfl) (by kernel_rfl) ?hQs44 ?hys44 hH3 ?_
  case his44 => simp only [List.getElem?_toArray, List.getElem?_cons_zero, List.getElem?_cons_succ]; rfl
  case hQs44 => exact fun p a w h => HBL.out p a w _ _ h
  case hys44 => refine Or.inl ⟨by rfl, ?_⟩; intro W hSw; (try dsimp only at hSw); go_simp; try with_reducible rfl
  simp only [Act.put, List.setIfInBounds_toArray, List.set_cons_zero, List.set_cons_succ]
  refine wpAnyH_take (i := 45) (oi := ?os45) (v := ?vs45) ?his45 (by kernel_rfl) (by kernel_rfl) (by kernel_rfl) ?hQs45 ?hys45 hH3 ?_
  case his45 => simp only [List.getElem?_toArray, List.getElem?_cons_zero, List.getElem?_cons_succ]; rfl
  case hQs45 => exact fun p a w h => HBL.out p a w _ _ h
  case hys45 => refine Or.inl ⟨by rfl, ?_⟩; intro W hSw; (try dsimp only at hSw); go_simp; try with_reducible rfl
  simp only [Act.put, List.setIfInBounds_toArray, List.set_cons_zero, List.set_cons_succ]
  refine wpAnyH_take (i := 46) (oi := ?os46) (v := ?vs46) ?his46 (by kernel_rfl) (by kernel_rfl) (by kernel_rfl) ?hQs46 ?hys46 hH3 ?_
  case his46 => simp only [List.getElem?_toArray, List.getElem?_cons_zero, List.getElem?_cons_succ]; rfl
  case hQs46 => exact fun p a w h => HBL.out p a w _ _ h
  case hys46 => refine Or.inl ⟨by rfl, ?_⟩; intro W hSw; (try dsimp only at hSw); go_simp; try with_reducible rfl
  simp only [Act.put, List.setIfInBounds_toArray, List.set_cons_zero, List.set_cons_succ]
  refine wpAnyH_take (i := 49) (oi := ?os49) (v := ?vs49) ?his49 (by kernel_rfl) (by kernel_rfl) (by kernel_rfl) ?hQs49 ?hys49 hH3 ?_
  case his49 => simp only [List.getElem?_toArray, List.getElem?_cons_zero, List.getElem?_cons_succ]; rfl
  case hQs49 => exact fun p a w h => HBL.out p a w _ _ h
  case hys49 => refine Or.inl ⟨by rfl, ?_⟩; intro W hSw; (try dsimp only at hSw); go_simp; try with_reducible rfl
  simp only [Act.put, List.setIfInBounds_toArray, List.set_cons_zero, List.set_cons_succ]
  refine wpAnyH_take (i := 50) (oi := ?os50) (v := ?vs50) ?his50 (by kernel_rfl) (by kernel_rfl) (by kernel_rfl) ?hQs50 ?hys50 hH3 ?_
  case his50 => simp only [List.getElem?_toArray, List.getElem?_cons_zero, List.getElem?_cons_succ]; rfl
  case hQs50 => exact fun p a w h => HBL.out p a w _ _ h
  case hys50 => refine Or.inl ⟨by rfl, ?_⟩; intro W hSw; (try dsimp only at hSw); go_simp; try with_reducible rfl
  simp only [Act.put, List.setIfInBounds_toArray, List.set_cons_zero, List.set_cons_succ]
  refine wpAnyH_take (i := 51) (oi := ?os51) (v := ?vs51) ?his51 (by kernel_rfl) (by kernel_rfl) (by kernel_rfl) ?hQs51 ?hys51 hH3 ?_
  case his51 => simp only [List.getElem?_toArray, List.getElem?_cons_zero, List.getElem?_cons_succ]; rfl
  case hQs51 => exact fun p a w h => HBL.out p a w _ _ h
  case hys51 => refine Or.inl ⟨by rfl, ?_⟩; intro W hSw; (try dsimp only at hSw); go_simp; try with_reducible rfl
  simp only [Act.put, List.setIfInBounds_toArray, List.set_cons_zero, List.set_cons_succ]
  refine wpAnyH_take (i := 52) (oi := ?os52) (v := ?vs52) ?his52 (by kernel_rfl) (by kernel_rfl) (by kernel_rfl) ?hQs52 ?hys52 hH3 ?_
  case his52 => simp only [List.getElem?_toArray, List.getElem?_cons_zero, List.getElem?_cons_succ]; rfl
  case hQs52 => exact fun p a w h => HBL.out p a w _ _ h
  case hys52 => refine Or.inl ⟨by rfl, ?_⟩; intro W hSw; (try dsimp only at hSw); go_simp; try with_reducible rfl
  simp only [Act.put, List.setIfInBounds_toArray, List.set_cons_zero, List.set_cons_succ]
  refine wpAnyH_take (i := 53) (oi := ?os53) (v := ?vs53) ?his53 (by kernel_rfl) (by kernel_rfl) (by kernel_rfl) ?hQs53 ?hys53 hH3 ?_
  case his53 => simp only [List.getElem?_toArray, List.getElem?_cons_zero, List.getElem?_cons_succ]; rfl
  case hQs53 => exact fun p a w h => HBL.out p a w _ _ h
  case hys53 => refine Or.inl ⟨by rfl, ?_⟩; intro W hSw; (try dsimp only at hSw); go_simp; try with_reducible rfl
  simp only [Act.put, List.setIfInBounds_toArray, List.set_cons_zero, List.set_cons_succ]
  clear hH3
  have CVW := Lib.hid (view_any _ lo c R1 w8 HM8.out.hc)
  have hFE := field_epoch
  refine wpAnyH_ready (rs := [47]) (by kernel_rfl) (by simp) ?_
  refine AllReadyH.cons (o := ?os47) ?hos47 (fun K' hK => ?_) AllReadyH.nil
  case hos47 => simp only [List.getElem?_toArray, List.getElem?_cons_zero, List.getElem?_cons_succ]; rfl
  go_simp
  refine CVW.out.mono ?_
  rintro e w9 ⟨v9a, v9b, v9c, rfl, hb9⟩
  have HB9 := Lib.hid (HB8.out.trans (hb9.mono HB8.out.size))
  clear hb9
  refine hK.out _ _ (MKS.out _ HB9.out) (fun hH4 => ?_)
  clear hK K'
  (try simp only [Act.put, List.setIfInBounds_toArray, List.set_cons_zero, List.set_cons_succ])
  refine wpAnyH_take (i := 48) (oi := ?os48) (v := ?vs48) ?his48 (by kernel_rfl) (by kernel_rfl) (by kernel_rfl) ?hQs48 ?hys48 hH4 ?_
  case his48 => simp only [List.getElem?_toArray, List.getElem?_cons_zero, List.getElem?_cons_succ]; rfl
  case hQs48 => exact fun p a w h => HBL.out p a w _ _ h
  case hys48 => refine Or.inl ⟨by rfl, ?_⟩; intro W hSw; (try dsimp only at hSw); go_simp; try with_reducible rfl
  simp only [Act.put, List.setIfInBounds_toArray, List.set_cons_zero, List.set_cons_succ]
  refine wpAnyH_take (i := 54) (oi := ?os54) (v := ?vs54) ?his54 (by kernel_rfl) (by kernel_rfl) (by kernel_rfl) ?hQs54 ?hys54 hH4 ?_
  case his54 => simp only [List.getElem?_toArray, List.getElem?_cons_zero, List.getElem?_cons_succ]; rfl
  case hQs54 => exact fun p a w h => HBL.out p a w _ _ h
  case hys54 => refine Or.inl ⟨by rfl, ?_⟩; intro W hSw; (try dsimp only at hSw); go_simp; try with_reducible rfl
  simp only [Act.put, List.setIfInBounds_toArray, List.set_cons_zero, List.set_cons_succ]
  refine wpAnyH_take (i := 55) (oi := ?os55) (v := ?vs55) ?his55 (by kernel_rfl) (by kernel_rfl) (by kernel_rfl) ?hQs55 ?hys55 hH4 ?_
  case his55 => simp only [List.getElem?_toArray, List.getElem?_cons_zero, List.getElem?_cons_succ]; rfl
  case hQs55 => exact fun p a w h => HBL.out p a w _ _ h
  case hys55 => refine Or.inl ⟨by rfl, ?_⟩; intro W hSw; (try dsimp only at hSw); go_simp; try with_reducible rfl
  simp only [Act.put, List.setIfInBounds_toArray, List.set_cons_zero, List.set_cons_succ]
  clear hH4
  refine wpAnyH_done (by kernel_rfl) ?_ _
  exact HQ.out _ _ _ _ _ _ _ _ _ _ _ _ _ _ _ _ _ _ _ _ _ _ _ _ _ _ _ _ _ _ _ _ _ _ _ _ _ _ _ _ _ _ _ _ _ _ _ _ _ _ _ _ _ _ _ w9 HB9.out
end Go.Proofs.YtapgjjfndbfnpaaDoor
