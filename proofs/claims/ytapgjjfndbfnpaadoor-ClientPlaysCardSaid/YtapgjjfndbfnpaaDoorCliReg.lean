/-
  Some regions of bucketlinelaw22.ClientPlays, each alone. Printed by gen_clireg.py of this claim's writer.
-/
import Derived.Test.YtapgjjfndbfnpaaDoorCliPla
namespace Go.Proofs.YtapgjjfndbfnpaaDoor
open Go.RowKit
set_option linter.unusedSimpArgs false
set_option linter.unusedVariables false

/-- A region of a function's code, by its number. -/
def regAt (n : Nat) : Code → Option Code
  | .region i ops d => if i = n then some (.region i ops d) else none
  | .seq a b => match regAt n a with
    | some c => some c
    | none => regAt n b
  | .cond _ a b => match regAt n a with
    | some c => some c
    | none => regAt n b
  | .block _ b => regAt n b
  | .loop b => regAt n b
  | .rangeFunc _ _ _ b => regAt n b
  | .scope b => regAt n b
  | _ => none
noncomputable def reg5 (n : Nat) : Code := ((Tryd.f5).body.bind (regAt n)).getD .skip

theorem Rf.rdoes_step {X : Nat → Prop} {lo c : Nat} {R : ClR} {w w1 w' : World} {s' : ClW} {l : List OutW} {v : Value} (hb : Below w.heap.size w w1) (h : Rf.RDoes X lo c R w1 s' l v w') : Rf.RDoes X lo c R w s' l v w' := by
  obtain ⟨R', h1, h2, h3, h4⟩ := h
  exact ⟨R', h1, h2, (step_below hb rfl).trans h3, Rf.routs_less hb.size h4⟩

set_option maxRecDepth 100000 in
set_option maxHeartbeats 6400000 in
theorem reg33 {c m q lo : Nat} {w : World} {R Q : ClR} {now id wait : Int} {k : Nat} {r : AcR} {ba ca sa oa ea : Option Addr} {bk ck sk ok ek : Nat} (u0 u1 u2 u3 u4 u5 u6 u7 u8 u10 u12 u14 u16 u17 u19 u20 u21 u22 u23 u24 u25 u26 u27 u28 u29 u30 u31 u32 u33 u34 u35 u36 u37 u38 u39 u40 u41 u42 u43 u44 u45 u46 u47 u48 u49 u50 u51 u52 u53 u54 u55 u56 u57 u58 u59 u60 u61 u62 u63 u64 u65 u66 u67 u68 u69 u70 u71 u72 u73 u74 u75 u76 u77 u78 u79 u80 u81 u82 u83 u84 u85 u86 u87 u88 u89 u90 u91 u92 u93 u94 u95 u96 u97 u98 u99 u100 u101 u102 u103 u104 u105 u106 u107 u108 u109 u110 u111 u112 u113 u114 u115 u116 u117 u118 u119 u120 u121 u122 u123 u124 u125 u126 u127 u128 u129 u130 u131 u132 u133 u134 u135 u136 u137 u138 u139 u140 u141 u142 u143 u144 u145 u146 u147 u148 u149 u150 u151 u152 u153 u154 u155 u156 u157 u158 u159 u160 u161 u162 u163 u164 u165 u166 u167 u168 u169 u170 u171 u172 u173 u174 u175 u176 u177 u178 u179 u180 u181 u182 u183 u184 u185 u186 u187 u188 u189 u190 u191 u192 u193 u194 u195 u196 u197 u198 u199 u200 u201 u202 u203 u204 u205 u206 u207 u208 u209 u210 u211 u212 u213 u214 u215 u216 u217 u218 u219 u220 u221 u222 u223 u224 u225 u226 u227 u228 u229 u230 u231 u232 u233 u234 u235 u236 u237 u238 u239 u240 u241 u242 u243 u244 u245 u246 u247 u248 u249 u250 u251 u252 u253 u254 u255 u256 u257 u258 u259 u260 u261 u262 u263 u264 u265 u266 u267 u268 u269 u270 u271 u272 u273 u274 u275 u276 u277 u278 u279 u280 u281 u282 u283 u284 u285 u286 u287 u288 u289 u290 u291 u292 u293 u294 u295 u296 u297 u298 u299 u300 u301 u302 u303 u304 u305 u306 u307 u308 u309 u310 u311 u312 u313 u314 u315 u316 u317 u318 u319 u320 u321 u322 u323 u324 u325 u326 u327 u328 u329 u330 u331 u332 u333 u334 u335 u336 u337 u338 u339 u340 u341 u342 u343 u344 u345 u346 u347 u348 u349 u350 u351 u352 u353 u354 u355 u356 u357 u358 u359 u360 u361 u362 u363 u364 u365 u366 u367 u368 u369 u370 u371 u372 : Value) {Q0 : Exit → Act → World → Prop}
    (hB : BothM lo c m w R Q) (hinv : InvT wait now k R.s) (hk : k ≤ 60) (hg : w.heap[q]? = some (.cells #[.int .i64 r.a.op, .int .i64 r.a.n, .int .i64 r.a.m, .string r.a.b.stream, .int .i64 r.a.b.expect, .int .i64 r.a.b.session, .int .i64 r.a.b.seq, .slice ba r.a.b.events.length bk, .string r.a.stream, .int .i64 r.a.from_, .int .i64 r.a.v.epoch, .slice ca r.a.v.chain.length ck, .slice sa r.a.v.since.length sk, .slice oa r.a.v.boot.length ok, .int .i64 r.a.out.code, .int .i64 r.a.out.pos, .int .i64 r.a.out.first, .int .i64 r.a.out.version, .slice ea r.a.events.length ek] 33)) (hi1 : Vw.I64 r.a.n) (hi2 : Vw.I64 r.a.m) (hqm : ¬ R.mut c q)
    (hbl : ∀ (p : List PanicEntry) (a : Act) (w : World) (d : Option Tmp) (v : Value), Q0 (.panic p) (a.put d v) w → Q0 (.panic p) a w)
    (hQ : ∀ (v : Value) (x190 x191 x192 x193 x194 x195 x196 x197 x198 x199 x200 x201 x202 x203 x204 x205 : Value) (w4 : World) (R1 : ClR) (outs : List OutR), Half lo c m w w4 R1 Q (answerS R.s 1 id ((pickT r.a.m 3 / 2 : Nat) : Int) now (fun o => { o with out := r.a.out })).1 v outs →
      outs.map OutR.plain = (answerS R.s 1 id ((pickT r.a.m 3 / 2 : Nat) : Int) now (fun o => { o with out := r.a.out })).2 → w4.heap[q]? = w.heap[q]? → Q0 .normal ⟨#[u0, u1, u2, u3, u4, u5, u6, u7, u8, .pointer (some ⟨c, 0, none⟩), u10, .pointer (some ⟨m, 0, none⟩), u12, .int .i64 now, u14, .pointer (some ⟨q, 0, none⟩), v, u17, .int .i64 id, u19, u20, u21, u22, u23, u24, u25, u26, u27, u28, u29, u30, u31, u32, u33, u34, u35, u36, u37, u38, u39, u40, u41, u42, u43, u44, u45, u46, u47, u48, u49, u50, u51, u52, u53, u54, u55, u56, u57, u58, u59, u60, u61, u62, u63, u64, u65, u66, u67, u68, u69, u70, u71, u72, u73, u74, u75, u76, u77, u78, u79, u80, u81, u82, u83, u84, u85, u86, u87, u88, u89, u90, u91, u92, u93, u94, u95, u96, u97, u98, u99, u100, u101, u102, u103, u104, u105, u106, u107, u108, u109, u110, u111, u112, u113, u114, u115, u116, u117, u118, u119, u120, u121, u122, u123, u124, u125, u126, u127, u128, u129, u130, u131, u132, u133, u134, u135, u136, u137, u138, u139, u140, u141, u142, u143, u144, u145, u146, u147, u148, u149, u150, u151, u152, u153, u154, u155, u156, u157, u158, u159, u160, u161, u162, u163, u164, u165, u166, u167, u168, u169, u170, u171, u172, u173, u174, u175, u176, u177, u178, u179, u180, u181, u182, u183, u184, u185, u186, u187, u188, u189, x190, x191, x192, x193, x194, x195, x196, x197, x198, x199, x200, x201, x202, x203, x204, x205, u206, u207, u208, u209, u210, u211, u212, u213, u214, u215, u216, u217, u218, u219, u220, u221, u222, u223, u224, u225, u226, u227, u228, u229, u230, u231, u232, u233, u234, u235, u236, u237, u238, u239, u240, u241, u242, u243, u244, u245, u246, u247, u248, u249, u250, u251, u252, u253, u254, u255, u256, u257, u258, u259, u260, u261, u262, u263, u264, u265, u266, u267, u268, u269, u270, u271, u272, u273, u274, u275, u276, u277, u278, u279, u280, u281, u282, u283, u284, u285, u286, u287, u288, u289, u290, u291, u292, u293, u294, u295, u296, u297, u298, u299, u300, u301, u302, u303, u304, u305, u306, u307, u308, u309, u310, u311, u312, u313, u314, u315, u316, u317, u318, u319, u320, u321, u322, u323, u324, u325, u326, u327, u328, u329, u330, u331, u332, u333, u334, u335, u336, u337, u338, u339, u340, u341, u342, u343, u344, u345, u346, u347, u348, u349, u350, u351, u352, u353, u354, u355, u356, u357, u358, u359, u360, u361, u362, u363, u364, u365, u366, u367, u368, u369, u370, u371, u372], []⟩ w4) :
    (reg5 33).wp Tryd.prog Q0 ⟨#[u0, u1, u2, u3, u4, u5, u6, u7, u8, .pointer (some ⟨c, 0, none⟩), u10, .pointer (some ⟨m, 0, none⟩), u12, .int .i64 now, u14, .pointer (some ⟨q, 0, none⟩), u16, u17, .int .i64 id, u19, u20, u21, u22, u23, u24, u25, u26, u27, u28, u29, u30, u31, u32, u33, u34, u35, u36, u37, u38, u39, u40, u41, u42, u43, u44, u45, u46, u47, u48, u49, u50, u51, u52, u53, u54, u55, u56, u57, u58, u59, u60, u61, u62, u63, u64, u65, u66, u67, u68, u69, u70, u71, u72, u73, u74, u75, u76, u77, u78, u79, u80, u81, u82, u83, u84, u85, u86, u87, u88, u89, u90, u91, u92, u93, u94, u95, u96, u97, u98, u99, u100, u101, u102, u103, u104, u105, u106, u107, u108, u109, u110, u111, u112, u113, u114, u115, u116, u117, u118, u119, u120, u121, u122, u123, u124, u125, u126, u127, u128, u129, u130, u131, u132, u133, u134, u135, u136, u137, u138, u139, u140, u141, u142, u143, u144, u145, u146, u147, u148, u149, u150, u151, u152, u153, u154, u155, u156, u157, u158, u159, u160, u161, u162, u163, u164, u165, u166, u167, u168, u169, u170, u171, u172, u173, u174, u175, u176, u177, u178, u179, u180, u181, u182, u183, u184, u185, u186, u187, u188, u189, u190, u191, u192, u193, u194, u195, u196, u197, u198, u199, u200, u201, u202, u203, u204, u205, u206, u207, u208, u209, u210, u211, u212, u213, u214, u215, u216, u217, u218, u219, u220, u221, u222, u223, u224, u225, u226, u227, u228, u229, u230, u231, u232, u233, u234, u235, u236, u237, u238, u239, u240, u241, u242, u243, u244, u245, u246, u247, u248, u249, u250, u251, u252, u253, u254, u255, u256, u257, u258, u259, u260, u261, u262, u263, u264, u265, u266, u267, u268, u269, u270, u271, u272, u273, u274, u275, u276, u277, u278, u279, u280, u281, u282, u283, u284, u285, u286, u287, u288, u289, u290, u291, u292, u293, u294, u295, u296, u297, u298, u299, u300, u301, u302, u303, u304, u305, u306, u307, u308, u309, u310, u311, u312, u313, u314, u315, u316, u317, u318, u319, u320, u321, u322, u323, u324, u325, u326, u327, u328, u329, u330, u331, u332, u333, u334, u335, u336, u337, u338, u339, u340, u341, u342, u343, u344, u345, u346, u347, u348, u349, u350, u351, u352, u353, u354, u355, u356, u357, u358, u359, u360, u361, u362, u363, u364, u365, u366, u367, u368, u369, u370, u371, u372], []⟩ w := by
  have HQ := Lib.hid hQ
  have HBL := Lib.hid hbl
  have HB := Lib.hid hB
  have HINV := Lib.hid hinv
  have HG := Lib.hid hg
  have HQM := Lib.hid hqm
  have MKS := Lib.hid (fun (X' : World) (hg : X'.heap[q]? = some (.cells #[.int .i64 r.a.op, .int .i64 r.a.n, .int .i64 r.a.m, .string r.a.b.stream, .int .i64 r.a.b.expect, .int .i64 r.a.b.session, .int .i64 r.a.b.seq, .slice ba r.a.b.events.length bk, .string r.a.stream, .int .i64 r.a.from_, .int .i64 r.a.v.epoch, .slice ca r.a.v.chain.length ck, .slice sa r.a.v.since.length sk, .slice oa r.a.v.boot.length ok, .int .i64 r.a.out.code, .int .i64 r.a.out.pos, .int .i64 r.a.out.first, .int .i64 r.a.out.version, .slice ea r.a.events.length ek] 33)) => (show X'.cell? ⟨q, 1, none⟩ = some (.int .i64 r.a.n) ∧ X'.cell? ⟨q, 2, none⟩ = some (.int .i64 r.a.m) ∧ X'.cell? ⟨q, 14, none⟩ = some (.int .i64 r.a.out.code) ∧ X'.cell? ⟨q, 15, none⟩ = some (.int .i64 r.a.out.pos) ∧ X'.cell? ⟨q, 16, none⟩ = some (.int .i64 r.a.out.first) ∧ X'.cell? ⟨q, 17, none⟩ = some (.int .i64 r.a.out.version) from ⟨by rw [Lib.cell_of_heap hg]; rfl, by rw [Lib.cell_of_heap hg]; rfl, by rw [Lib.cell_of_heap hg]; rfl, by rw [Lib.cell_of_heap hg]; rfl, by rw [Lib.cell_of_heap hg]; rfl, by rw [Lib.cell_of_heap hg]; rfl⟩))
  obtain ⟨pa, hpa⟩ : ∃ pa : Nat, pickT r.a.n 3 = pa := ⟨_, rfl⟩
  have hpal : pa < 3 := by rw [← hpa]; exact pick_lt r.a.n 3 (by omega)
  obtain ⟨pb, hpb⟩ : ∃ pb : Nat, pickT r.a.m 3 = pb := ⟨_, rfl⟩
  have hpbl : pb < 3 := by rw [← hpb]; exact pick_lt r.a.m 3 (by omega)
  have CPA := Lib.hid (fun (X' : World) => (show Calls Tryd.prog 14 #[.int .i64 r.a.n, .int .i64 3] X' fun r w' => r = .returned (.int .i64 (pa : Int)) ∧ X' = w' by have h := pick_any r.a.n hi1 3 (by omega) (by omega) X'; rw [hpa] at h; exact h))
  have CPB := Lib.hid (fun (X' : World) => (show Calls Tryd.prog 14 #[.int .i64 r.a.m, .int .i64 3] X' fun r w' => r = .returned (.int .i64 (pb : Int)) ∧ X' = w' by have h := pick_any r.a.m hi2 3 (by omega) (by omega) X'; rw [hpb] at h; exact h))
  have heb : (pb : Int).tdiv 2 = ((pb / 2 : Nat) : Int) := by rw [Int.tdiv_eq_ediv_of_nonneg (by omega)]; rfl
  obtain ⟨eb, heq⟩ : ∃ eb : Nat, pb / 2 = eb := ⟨_, rfl⟩
  rw [heq] at heb
  have ewb : IntKind.i64.wrap (eb : Int) = (eb : Int) := by rw [IntKind.wrap_i64]; omega
  have ewa : IntKind.i64.wrap (1 + (pa : Int)) = 1 + (pa : Int) := by rw [IntKind.wrap_i64]; omega
  rw [hpb, heq] at HQ
  obtain ⟨s2, outs2, hap⟩ := (show ∃ a b, answerS R.s 1 id (eb : Int) now (fun o => { o with out := r.a.out }) = (a, b) from ⟨_, _, rfl⟩)
  rw [hap] at HQ
  have HAP := Lib.hid hap
  clear hQ hbl hB hinv hg hqm hpa hpb heq hap
  conv => arg 2; whnf
  refine region_begin (S := fun X' => X'.cell? ⟨q, 1, none⟩ = some (.int .i64 r.a.n) ∧ X'.cell? ⟨q, 2, none⟩ = some (.int .i64 r.a.m) ∧ X'.cell? ⟨q, 14, none⟩ = some (.int .i64 r.a.out.code) ∧ X'.cell? ⟨q, 15, none⟩ = some (.int .i64 r.a.out.pos) ∧ X'.cell? ⟨q, 16, none⟩ = some (.int .i64 r.a.out.first) ∧ X'.cell? ⟨q, 17, none⟩ = some (.int .i64 r.a.out.version)) 17 rfl (by kernel_rfl) (MKS.out _ (show w.drew.heap[q]? = _ from HG.out)) (fun hH0 => ?_)
  refine wpAnyH_take (i := 0) (oi := ?oa0) (v := ?va0) ?hia0 (by kernel_rfl) (by kernel_rfl) (by kernel_rfl) ?hQa0 ?hya0 hH0 ?_
  case hia0 => simp only [List.getElem?_toArray, List.getElem?_cons_zero]; rfl
  case hQa0 => exact fun p a w h => HBL.out p a w _ _ h
  case hya0 => refine Or.inl ⟨by rfl, ?_⟩; intro W hSw; (try dsimp only at hSw); go_simp; try with_reducible rfl
  simp only [Act.put, List.setIfInBounds_toArray, List.set_cons_zero, List.set_cons_succ]
  refine wpAnyH_take (i := 1) (oi := ?oa1) (v := ?va1) ?hia1 (by kernel_rfl) (by kernel_rfl) (by kernel_rfl) ?hQa1 ?hya1 hH0 ?_
  case hia1 => simp only [List.getElem?_toArray, List.getElem?_cons_zero, List.getElem?_cons_succ]; rfl
  case hQa1 => exact fun p a w h => HBL.out p a w _ _ h
  case hya1 => refine Or.inl ⟨by rfl, ?_⟩; intro W hSw; (try dsimp only at hSw); go_simp; try with_reducible rfl
  simp only [Act.put, List.setIfInBounds_toArray, List.set_cons_zero, List.set_cons_succ]
  refine wpAnyH_take (i := 2) (oi := ?oa2) (v := ?va2) ?hia2 (by kernel_rfl) (by kernel_rfl) (by kernel_rfl) ?hQa2 ?hya2 hH0 ?_
  case hia2 => simp only [List.getElem?_toArray, List.getElem?_cons_zero, List.getElem?_cons_succ]; rfl
  case hQa2 => exact fun p a w h => HBL.out p a w _ _ h
  case hya2 => refine Or.inl ⟨by rfl, ?_⟩; intro W hSw; (try dsimp only at hSw); go_simp; try with_reducible rfl
  simp only [Act.put, List.setIfInBounds_toArray, List.set_cons_zero, List.set_cons_succ]
  refine wpAnyH_take (i := 5) (oi := ?oa5) (v := ?va5) ?hia5 (by kernel_rfl) (by kernel_rfl) (by kernel_rfl) ?hQa5 ?hya5 hH0 ?_
  case hia5 => simp only [List.getElem?_toArray, List.getElem?_cons_zero, List.getElem?_cons_succ]; rfl
  case hQa5 => exact fun p a w h => HBL.out p a w _ _ h
  case hya5 => refine Or.inl ⟨by rfl, ?_⟩; intro W hSw; (try dsimp only at hSw); go_simp; try with_reducible rfl
  simp only [Act.put, List.setIfInBounds_toArray, List.set_cons_zero, List.set_cons_succ]
  refine wpAnyH_take (i := 6) (oi := ?oa6) (v := ?va6) ?hia6 (by kernel_rfl) (by kernel_rfl) (by kernel_rfl) ?hQa6 ?hya6 hH0 ?_
  case hia6 => simp only [List.getElem?_toArray, List.getElem?_cons_zero, List.getElem?_cons_succ]; rfl
  case hQa6 => exact fun p a w h => HBL.out p a w _ _ h
  case hya6 => refine Or.inl ⟨by rfl, ?_⟩; intro W hSw; (try dsimp only at hSw); go_simp; try with_reducible rfl
  simp only [Act.put, List.setIfInBounds_toArray, List.set_cons_zero, List.set_cons_succ]
  refine wpAnyH_take (i := 7) (oi := ?oa7) (v := ?va7) ?hia7 (by kernel_rfl) (by kernel_rfl) (by kernel_rfl) ?hQa7 ?hya7 hH0 ?_
  case hia7 => simp only [List.getElem?_toArray, List.getElem?_cons_zero, List.getElem?_cons_succ]; rfl
  case hQa7 => exact fun p a w h => HBL.out p a w _ _ h
  case hya7 => refine Or.inl ⟨by rfl, ?_⟩; intro W hSw; (try dsimp only at hSw); go_simp; try with_reducible rfl
  simp only [Act.put, List.setIfInBounds_toArray, List.set_cons_zero, List.set_cons_succ]
  refine wpAnyH_take (i := 10) (oi := ?oa10) (v := ?va10) ?hia10 (by kernel_rfl) (by kernel_rfl) (by kernel_rfl) ?hQa10 ?hya10 hH0 ?_
  case hia10 => simp only [List.getElem?_toArray, List.getElem?_cons_zero, List.getElem?_cons_succ]; rfl
  case hQa10 => exact fun p a w h => HBL.out p a w _ _ h
  case hya10 => refine Or.inl ⟨by rfl, ?_⟩; intro W hSw; (try dsimp only at hSw); go_simp; try with_reducible rfl
  simp only [Act.put, List.setIfInBounds_toArray, List.set_cons_zero, List.set_cons_succ]
  refine wpAnyH_take (i := 11) (oi := ?oa11) (v := ?va11) ?hia11 (by kernel_rfl) (by kernel_rfl) (by kernel_rfl) ?hQa11 ?hya11 hH0 ?_
  case hia11 => simp only [List.getElem?_toArray, List.getElem?_cons_zero, List.getElem?_cons_succ]; rfl
  case hQa11 => exact fun p a w h => HBL.out p a w _ _ h
  case hya11 => refine Or.inl ⟨by rfl, ?_⟩; intro W hSw; (try dsimp only at hSw); go_simp; try with_reducible rfl
  simp only [Act.put, List.setIfInBounds_toArray, List.set_cons_zero, List.set_cons_succ]
  refine wpAnyH_take (i := 14) (oi := ?oa14) (v := ?va14) ?hia14 (by kernel_rfl) (by kernel_rfl) (by kernel_rfl) ?hQa14 ?hya14 hH0 ?_
  case hia14 => simp only [List.getElem?_toArray, List.getElem?_cons_zero, List.getElem?_cons_succ]; rfl
  case hQa14 => exact fun p a w h => HBL.out p a w _ _ h
  case hya14 => refine Or.inl ⟨by rfl, ?_⟩; intro W hSw; (try dsimp only at hSw); go_simp; try with_reducible rfl
  simp only [Act.put, List.setIfInBounds_toArray, List.set_cons_zero, List.set_cons_succ]
  clear hH0
  have HBe := Lib.hid (HB.out.below (Below.refl w.heap.size w).drew)
  have Ge := Lib.hid (show w.drew.heap[q]? = _ from HG.out)
  have HDE := Lib.hid (Below.refl w.heap.size w).drew
  generalize w.drew = we at *
  refine wpAnyH_ready (rs := [3]) (by kernel_rfl) (by simp) ?_
  refine AllReadyH.cons (o := ?oa3) ?hoa3 (fun K' hK => ?_) AllReadyH.nil
  case hoa3 => simp only [List.getElem?_toArray, List.getElem?_cons_zero, List.getElem?_cons_succ]; rfl
  go_simp
  refine (CPA.out _).mono ?_
  rintro e we' ⟨rfl, rfl⟩
  refine hK.out _ _ (MKS.out _ Ge.out) (fun hH1 => ?_)
  clear hK K'
  (try simp only [Act.put, List.setIfInBounds_toArray, List.set_cons_zero, List.set_cons_succ])
  refine wpAnyH_take (i := 4) (oi := ?oa4) (v := ?va4) ?hia4 (by kernel_rfl) (by kernel_rfl) (by kernel_rfl) ?hQa4 ?hya4 hH1 ?_
  case hia4 => simp only [List.getElem?_toArray, List.getElem?_cons_zero, List.getElem?_cons_succ]; rfl
  case hQa4 => exact fun p a w h => HBL.out p a w _ _ h
  case hya4 => refine Or.inl ⟨by rfl, ?_⟩; intro W hSw; (try dsimp only at hSw); go_simp; try with_reducible rfl
  simp only [Act.put, List.setIfInBounds_toArray, List.set_cons_zero, List.set_cons_succ]
  clear hH1
  refine wpAnyH_ready (rs := [8]) (by kernel_rfl) (by simp) ?_
  refine AllReadyH.cons (o := ?oa8) ?hoa8 (fun K' hK => ?_) AllReadyH.nil
  case hoa8 => simp only [List.getElem?_toArray, List.getElem?_cons_zero, List.getElem?_cons_succ]; rfl
  go_simp
  refine (CPB.out _).mono ?_
  rintro e we' ⟨rfl, rfl⟩
  refine hK.out _ _ (MKS.out _ Ge.out) (fun hH2 => ?_)
  clear hK K'
  (try simp only [Act.put, List.setIfInBounds_toArray, List.set_cons_zero, List.set_cons_succ])
  refine wpAnyH_take (i := 9) (oi := ?oa9) (v := ?va9) ?hia9 (by kernel_rfl) (by kernel_rfl) (by kernel_rfl) ?hQa9 ?hya9 hH2 ?_
  case hia9 => simp only [List.getElem?_toArray, List.getElem?_cons_zero, List.getElem?_cons_succ]; rfl
  case hQa9 => exact fun p a w h => HBL.out p a w _ _ h
  case hya9 => refine Or.inl ⟨by rfl, ?_⟩; intro W hSw; (try dsimp only at hSw); go_simp; try with_reducible rfl
  simp only [Act.put, List.setIfInBounds_toArray, List.set_cons_zero, List.set_cons_succ]
  refine wpAnyH_take (i := 12) (oi := ?oa12) (v := ?va12) ?hia12 (by kernel_rfl) (by kernel_rfl) (by kernel_rfl) ?hQa12 ?hya12 hH2 ?_
  case hia12 => simp only [List.getElem?_toArray, List.getElem?_cons_zero, List.getElem?_cons_succ]; rfl
  case hQa12 => exact fun p a w h => HBL.out p a w _ _ h
  case hya12 => refine Or.inl ⟨by rfl, ?_⟩; intro W hSw; (try dsimp only at hSw); go_simp; try with_reducible rfl
  simp only [Act.put, List.setIfInBounds_toArray, List.set_cons_zero, List.set_cons_succ]
  refine wpAnyH_take (i := 13) (oi := ?oa13) (v := ?va13) ?hia13 (by kernel_rfl) (by kernel_rfl) (by kernel_rfl) ?hQa13 ?hya13 hH2 ?_
  case hia13 => simp only [List.getElem?_toArray, List.getElem?_cons_zero, List.getElem?_cons_succ]; rfl
  case hQa13 => exact fun p a w h => HBL.out p a w _ _ h
  case hya13 => refine Or.inl ⟨by rfl, ?_⟩; intro W hSw; (try dsimp only at hSw); go_simp; try with_reducible rfl
  simp only [Act.put, List.setIfInBounds_toArray, List.set_cons_zero, List.set_cons_succ]
  clear hH2
  have CA := Lib.hid (take_reply (fun k => Q.mut m k) lo c R we HBe.out.hc (by have h1 := HBe.out.hc.len; have h2 := HINV.out.ln; omega) (1 + (pa : Int)) (by omega) (by omega) id (eb : Int) r.a.out now (fun e => HINV.out.p.pd e) s2 outs2 HAP.out)
  refine wpAnyH_ready (rs := [15]) (by kernel_rfl) (by simp) ?_
  refine AllReadyH.cons (o := ?oa15) ?hoa15 (fun K' hK => ?_) AllReadyH.nil
  case hoa15 => simp only [List.getElem?_toArray, List.getElem?_cons_zero, List.getElem?_cons_succ]; rfl
  go_simp
  refine CA.out.mono ?_
  rintro e w4 ⟨v, rfl, hd⟩
  obtain ⟨R1, outs, hh, hpl, hst⟩ := half_of HBe.out hd
  have HH := Lib.hid hh
  have HPLN := Lib.hid hpl
  have G4 := Lib.hid ((hst.kept.block q (Array.getElem?_eq_some_iff.1 Ge.out).1 HQM.out).trans Ge.out)
  clear hd hh hpl hst
  refine hK.out _ _ (MKS.out _ G4.out) (fun hH3 => ?_)
  clear hK K'
  (try simp only [Act.put, List.setIfInBounds_toArray, List.set_cons_zero, List.set_cons_succ])
  refine wpAnyH_take (i := 16) (oi := ?oa16) (v := ?va16) ?hia16 (by kernel_rfl) (by kernel_rfl) (by kernel_rfl) ?hQa16 ?hya16 hH3 ?_
  case hia16 => simp only [List.getElem?_toArray, List.getElem?_cons_zero, List.getElem?_cons_succ]; rfl
  case hQa16 => exact fun p a w h => HBL.out p a w _ _ h
  case hya16 => refine Or.inl ⟨by rfl, ?_⟩; intro W hSw; (try dsimp only at hSw); go_simp; try with_reducible rfl
  simp only [Act.put, List.setIfInBounds_toArray, List.set_cons_zero, List.set_cons_succ]
  clear hH3
  refine wpAnyH_done (by kernel_rfl) ?_ _
  exact HQ.out v _ _ _ _ _ _ _ _ _ _ _ _ _ _ _ _ w4 R1 outs ⟨HH.out.st, HH.out.hc, HH.out.hm, HH.out.at_, HH.out.ok, (HDE.out.mono (by have h1 := HB.out.hc.hlo; have h2 := HB.out.hc.clt; omega)).trans HH.out.below⟩ HPLN.out (G4.out.trans HG.out.symm)

set_option maxRecDepth 100000 in
set_option maxHeartbeats 6400000 in
theorem reg34 {m q lo : Nat} {w : World} {Q : ClR} {X : Nat → Prop} {now id : Int} {r : AcR} {ba ca sa oa ea : Option Addr} {bk ck sk ok ek : Nat} (u0 u1 u2 u3 u4 u5 u6 u7 u8 u9 u10 u12 u14 u16 u17 u19 u20 u21 u22 u23 u24 u25 u26 u27 u28 u29 u30 u31 u32 u33 u34 u35 u36 u37 u38 u39 u40 u41 u42 u43 u44 u45 u46 u47 u48 u49 u50 u51 u52 u53 u54 u55 u56 u57 u58 u59 u60 u61 u62 u63 u64 u65 u66 u67 u68 u69 u70 u71 u72 u73 u74 u75 u76 u77 u78 u79 u80 u81 u82 u83 u84 u85 u86 u87 u88 u89 u90 u91 u92 u93 u94 u95 u96 u97 u98 u99 u100 u101 u102 u103 u104 u105 u106 u107 u108 u109 u110 u111 u112 u113 u114 u115 u116 u117 u118 u119 u120 u121 u122 u123 u124 u125 u126 u127 u128 u129 u130 u131 u132 u133 u134 u135 u136 u137 u138 u139 u140 u141 u142 u143 u144 u145 u146 u147 u148 u149 u150 u151 u152 u153 u154 u155 u156 u157 u158 u159 u160 u161 u162 u163 u164 u165 u166 u167 u168 u169 u170 u171 u172 u173 u174 u175 u176 u177 u178 u179 u180 u181 u182 u183 u184 u185 u186 u187 u188 u189 u190 u191 u192 u193 u194 u195 u196 u197 u198 u199 u200 u201 u202 u203 u204 u205 u206 u207 u208 u209 u210 u211 u212 u213 u214 u215 u216 u217 u218 u219 u220 u221 u222 u223 u224 u225 u226 u227 u228 u229 u230 u231 u232 u233 u234 u235 u236 u237 u238 u239 u240 u241 u242 u243 u244 u245 u246 u247 u248 u249 u250 u251 u252 u253 u254 u255 u256 u257 u258 u259 u260 u261 u262 u263 u264 u265 u266 u267 u268 u269 u270 u271 u272 u273 u274 u275 u276 u277 u278 u279 u280 u281 u282 u283 u284 u285 u286 u287 u288 u289 u290 u291 u292 u293 u294 u295 u296 u297 u298 u299 u300 u301 u302 u303 u304 u305 u306 u307 u308 u309 u310 u311 u312 u313 u314 u315 u316 u317 u318 u319 u320 u321 u322 u323 u324 u325 u326 u327 u328 u329 u330 u331 u332 u333 u334 u335 u336 u337 u338 u339 u340 u341 u342 u343 u344 u345 u346 u347 u348 u349 u350 u351 u352 u353 u354 u355 u356 u357 u358 u359 u360 u361 u362 u363 u364 u365 u366 u367 u368 u369 u370 u371 u372 : Value) {Q0 : Exit → Act → World → Prop} {s2 : ClW} {outs2 : List OutW}
    (hm : Rf.ClM X lo w m Q) (hln : Q.rs.length ≤ 100000) (hn : Q.s.pending = true → Q.s.ops ≠ []) (hg : w.heap[q]? = some (.cells #[.int .i64 r.a.op, .int .i64 r.a.n, .int .i64 r.a.m, .string r.a.b.stream, .int .i64 r.a.b.expect, .int .i64 r.a.b.session, .int .i64 r.a.b.seq, .slice ba r.a.b.events.length bk, .string r.a.stream, .int .i64 r.a.from_, .int .i64 r.a.v.epoch, .slice ca r.a.v.chain.length ck, .slice sa r.a.v.since.length sk, .slice oa r.a.v.boot.length ok, .int .i64 r.a.out.code, .int .i64 r.a.out.pos, .int .i64 r.a.out.first, .int .i64 r.a.out.version, .slice ea r.a.events.length ek] 33)) (hi2 : Vw.I64 r.a.m) (hev : EvA (fun k => Q.mut m k ∨ X k) w (.slice none 0 0) []) (hqm : ¬ Q.mut m q)
    (hap : answerS Q.s 1 id ((pickT r.a.m 3 / 2 : Nat) : Int) now (fun o => { o with out := r.a.out }) = (s2, outs2))
    (hbl : ∀ (p : List PanicEntry) (a : Act) (w : World) (d : Option Tmp) (v : Value), Q0 (.panic p) (a.put d v) w → Q0 (.panic p) a w)
    (hQ : ∀ (v : Value) (x206 x207 x208 x209 x210 x211 x212 x213 x214 x215 : Value) (w6 : World), Rf.RDoes X lo m Q w s2 outs2 v w6 → Q0 .normal ⟨#[u0, u1, u2, u3, u4, u5, u6, u7, u8, u9, u10, .pointer (some ⟨m, 0, none⟩), u12, .int .i64 now, u14, .pointer (some ⟨q, 0, none⟩), u16, v, .int .i64 id, u19, u20, u21, u22, u23, u24, u25, u26, u27, u28, u29, u30, u31, u32, u33, u34, u35, u36, u37, u38, u39, u40, u41, u42, u43, u44, u45, u46, u47, u48, u49, u50, u51, u52, u53, u54, u55, u56, u57, u58, u59, u60, u61, u62, u63, u64, u65, u66, u67, u68, u69, u70, u71, u72, u73, u74, u75, u76, u77, u78, u79, u80, u81, u82, u83, u84, u85, u86, u87, u88, u89, u90, u91, u92, u93, u94, u95, u96, u97, u98, u99, u100, u101, u102, u103, u104, u105, u106, u107, u108, u109, u110, u111, u112, u113, u114, u115, u116, u117, u118, u119, u120, u121, u122, u123, u124, u125, u126, u127, u128, u129, u130, u131, u132, u133, u134, u135, u136, u137, u138, u139, u140, u141, u142, u143, u144, u145, u146, u147, u148, u149, u150, u151, u152, u153, u154, u155, u156, u157, u158, u159, u160, u161, u162, u163, u164, u165, u166, u167, u168, u169, u170, u171, u172, u173, u174, u175, u176, u177, u178, u179, u180, u181, u182, u183, u184, u185, u186, u187, u188, u189, u190, u191, u192, u193, u194, u195, u196, u197, u198, u199, u200, u201, u202, u203, u204, u205, x206, x207, x208, x209, x210, x211, x212, x213, x214, x215, u216, u217, u218, u219, u220, u221, u222, u223, u224, u225, u226, u227, u228, u229, u230, u231, u232, u233, u234, u235, u236, u237, u238, u239, u240, u241, u242, u243, u244, u245, u246, u247, u248, u249, u250, u251, u252, u253, u254, u255, u256, u257, u258, u259, u260, u261, u262, u263, u264, u265, u266, u267, u268, u269, u270, u271, u272, u273, u274, u275, u276, u277, u278, u279, u280, u281, u282, u283, u284, u285, u286, u287, u288, u289, u290, u291, u292, u293, u294, u295, u296, u297, u298, u299, u300, u301, u302, u303, u304, u305, u306, u307, u308, u309, u310, u311, u312, u313, u314, u315, u316, u317, u318, u319, u320, u321, u322, u323, u324, u325, u326, u327, u328, u329, u330, u331, u332, u333, u334, u335, u336, u337, u338, u339, u340, u341, u342, u343, u344, u345, u346, u347, u348, u349, u350, u351, u352, u353, u354, u355, u356, u357, u358, u359, u360, u361, u362, u363, u364, u365, u366, u367, u368, u369, u370, u371, u372], []⟩ w6) :
    (reg5 34).wp Tryd.prog Q0 ⟨#[u0, u1, u2, u3, u4, u5, u6, u7, u8, u9, u10, .pointer (some ⟨m, 0, none⟩), u12, .int .i64 now, u14, .pointer (some ⟨q, 0, none⟩), u16, u17, .int .i64 id, u19, u20, u21, u22, u23, u24, u25, u26, u27, u28, u29, u30, u31, u32, u33, u34, u35, u36, u37, u38, u39, u40, u41, u42, u43, u44, u45, u46, u47, u48, u49, u50, u51, u52, u53, u54, u55, u56, u57, u58, u59, u60, u61, u62, u63, u64, u65, u66, u67, u68, u69, u70, u71, u72, u73, u74, u75, u76, u77, u78, u79, u80, u81, u82, u83, u84, u85, u86, u87, u88, u89, u90, u91, u92, u93, u94, u95, u96, u97, u98, u99, u100, u101, u102, u103, u104, u105, u106, u107, u108, u109, u110, u111, u112, u113, u114, u115, u116, u117, u118, u119, u120, u121, u122, u123, u124, u125, u126, u127, u128, u129, u130, u131, u132, u133, u134, u135, u136, u137, u138, u139, u140, u141, u142, u143, u144, u145, u146, u147, u148, u149, u150, u151, u152, u153, u154, u155, u156, u157, u158, u159, u160, u161, u162, u163, u164, u165, u166, u167, u168, u169, u170, u171, u172, u173, u174, u175, u176, u177, u178, u179, u180, u181, u182, u183, u184, u185, u186, u187, u188, u189, u190, u191, u192, u193, u194, u195, u196, u197, u198, u199, u200, u201, u202, u203, u204, u205, u206, u207, u208, u209, u210, u211, u212, u213, u214, u215, u216, u217, u218, u219, u220, u221, u222, u223, u224, u225, u226, u227, u228, u229, u230, u231, u232, u233, u234, u235, u236, u237, u238, u239, u240, u241, u242, u243, u244, u245, u246, u247, u248, u249, u250, u251, u252, u253, u254, u255, u256, u257, u258, u259, u260, u261, u262, u263, u264, u265, u266, u267, u268, u269, u270, u271, u272, u273, u274, u275, u276, u277, u278, u279, u280, u281, u282, u283, u284, u285, u286, u287, u288, u289, u290, u291, u292, u293, u294, u295, u296, u297, u298, u299, u300, u301, u302, u303, u304, u305, u306, u307, u308, u309, u310, u311, u312, u313, u314, u315, u316, u317, u318, u319, u320, u321, u322, u323, u324, u325, u326, u327, u328, u329, u330, u331, u332, u333, u334, u335, u336, u337, u338, u339, u340, u341, u342, u343, u344, u345, u346, u347, u348, u349, u350, u351, u352, u353, u354, u355, u356, u357, u358, u359, u360, u361, u362, u363, u364, u365, u366, u367, u368, u369, u370, u371, u372], []⟩ w := by
  have HQ := Lib.hid hQ
  have HBL := Lib.hid hbl
  have HM := Lib.hid hm
  have HG := Lib.hid hg
  have HQM := Lib.hid hqm
  have HEV := Lib.hid hev
  have MKS := Lib.hid (fun (X' : World) (hg : X'.heap[q]? = some (.cells #[.int .i64 r.a.op, .int .i64 r.a.n, .int .i64 r.a.m, .string r.a.b.stream, .int .i64 r.a.b.expect, .int .i64 r.a.b.session, .int .i64 r.a.b.seq, .slice ba r.a.b.events.length bk, .string r.a.stream, .int .i64 r.a.from_, .int .i64 r.a.v.epoch, .slice ca r.a.v.chain.length ck, .slice sa r.a.v.since.length sk, .slice oa r.a.v.boot.length ok, .int .i64 r.a.out.code, .int .i64 r.a.out.pos, .int .i64 r.a.out.first, .int .i64 r.a.out.version, .slice ea r.a.events.length ek] 33)) => (show X'.cell? ⟨q, 2, none⟩ = some (.int .i64 r.a.m) ∧ X'.cell? ⟨q, 14, none⟩ = some (.int .i64 r.a.out.code) ∧ X'.cell? ⟨q, 15, none⟩ = some (.int .i64 r.a.out.pos) ∧ X'.cell? ⟨q, 16, none⟩ = some (.int .i64 r.a.out.first) ∧ X'.cell? ⟨q, 17, none⟩ = some (.int .i64 r.a.out.version) from ⟨by rw [Lib.cell_of_heap hg]; rfl, by rw [Lib.cell_of_heap hg]; rfl, by rw [Lib.cell_of_heap hg]; rfl, by rw [Lib.cell_of_heap hg]; rfl, by rw [Lib.cell_of_heap hg]; rfl⟩))
  obtain ⟨pb, hpb⟩ : ∃ pb : Nat, pickT r.a.m 3 = pb := ⟨_, rfl⟩
  have hpbl : pb < 3 := by rw [← hpb]; exact pick_lt r.a.m 3 (by omega)
  have CPB := Lib.hid (fun (X' : World) => (show Calls Tryd.prog 14 #[.int .i64 r.a.m, .int .i64 3] X' fun r w' => r = .returned (.int .i64 (pb : Int)) ∧ X' = w' by have h := pick_any r.a.m hi2 3 (by omega) (by omega) X'; rw [hpb] at h; exact h))
  have heb : (pb : Int).tdiv 2 = ((pb / 2 : Nat) : Int) := by rw [Int.tdiv_eq_ediv_of_nonneg (by omega)]; rfl
  obtain ⟨eb, heq⟩ : ∃ eb : Nat, pb / 2 = eb := ⟨_, rfl⟩
  rw [heq] at heb
  have ewb : IntKind.i64.wrap (eb : Int) = (eb : Int) := by rw [IntKind.wrap_i64]; omega
  rw [hpb, heq] at hap
  have HAP := Lib.hid hap
  have HNP := Lib.hid hn
  clear hQ hbl hm hg hqm hpb heq hap hev hn
  conv => arg 2; whnf
  refine region_begin (S := fun X' => X'.cell? ⟨q, 2, none⟩ = some (.int .i64 r.a.m) ∧ X'.cell? ⟨q, 14, none⟩ = some (.int .i64 r.a.out.code) ∧ X'.cell? ⟨q, 15, none⟩ = some (.int .i64 r.a.out.pos) ∧ X'.cell? ⟨q, 16, none⟩ = some (.int .i64 r.a.out.first) ∧ X'.cell? ⟨q, 17, none⟩ = some (.int .i64 r.a.out.version)) 11 rfl (by kernel_rfl) (MKS.out _ (show w.drew.heap[q]? = _ from HG.out)) (fun hH0 => ?_)
  refine wpAnyH_take (i := 0) (oi := ?ob34_0) (v := ?vb34_0) ?hib34_0 (by kernel_rfl) (by kernel_rfl) (by kernel_rfl) ?hQb34_0 ?hyb34_0 hH0 ?_
  case hib34_0 => simp only [List.getElem?_toArray, List.getElem?_cons_zero]; rfl
  case hQb34_0 => exact fun p a w h => HBL.out p a w _ _ h
  case hyb34_0 => refine Or.inl ⟨by rfl, ?_⟩; intro W hSw; (try dsimp only at hSw); go_simp; try with_reducible rfl
  simp only [Act.put, List.setIfInBounds_toArray, List.set_cons_zero, List.set_cons_succ]
  refine wpAnyH_take (i := 1) (oi := ?ob34_1) (v := ?vb34_1) ?hib34_1 (by kernel_rfl) (by kernel_rfl) (by kernel_rfl) ?hQb34_1 ?hyb34_1 hH0 ?_
  case hib34_1 => simp only [List.getElem?_toArray, List.getElem?_cons_zero, List.getElem?_cons_succ]; rfl
  case hQb34_1 => exact fun p a w h => HBL.out p a w _ _ h
  case hyb34_1 => refine Or.inl ⟨by rfl, ?_⟩; intro W hSw; (try dsimp only at hSw); go_simp; try with_reducible rfl
  simp only [Act.put, List.setIfInBounds_toArray, List.set_cons_zero, List.set_cons_succ]
  refine wpAnyH_take (i := 2) (oi := ?ob34_2) (v := ?vb34_2) ?hib34_2 (by kernel_rfl) (by kernel_rfl) (by kernel_rfl) ?hQb34_2 ?hyb34_2 hH0 ?_
  case hib34_2 => simp only [List.getElem?_toArray, List.getElem?_cons_zero, List.getElem?_cons_succ]; rfl
  case hQb34_2 => exact fun p a w h => HBL.out p a w _ _ h
  case hyb34_2 => refine Or.inl ⟨by rfl, ?_⟩; intro W hSw; (try dsimp only at hSw); go_simp; try with_reducible rfl
  simp only [Act.put, List.setIfInBounds_toArray, List.set_cons_zero, List.set_cons_succ]
  refine wpAnyH_take (i := 3) (oi := ?ob34_3) (v := ?vb34_3) ?hib34_3 (by kernel_rfl) (by kernel_rfl) (by kernel_rfl) ?hQb34_3 ?hyb34_3 hH0 ?_
  case hib34_3 => simp only [List.getElem?_toArray, List.getElem?_cons_zero, List.getElem?_cons_succ]; rfl
  case hQb34_3 => exact fun p a w h => HBL.out p a w _ _ h
  case hyb34_3 => refine Or.inl ⟨by rfl, ?_⟩; intro W hSw; (try dsimp only at hSw); go_simp; try with_reducible rfl
  simp only [Act.put, List.setIfInBounds_toArray, List.set_cons_zero, List.set_cons_succ]
  refine wpAnyH_take (i := 6) (oi := ?ob34_6) (v := ?vb34_6) ?hib34_6 (by kernel_rfl) (by kernel_rfl) (by kernel_rfl) ?hQb34_6 ?hyb34_6 hH0 ?_
  case hib34_6 => simp only [List.getElem?_toArray, List.getElem?_cons_zero, List.getElem?_cons_succ]; rfl
  case hQb34_6 => exact fun p a w h => HBL.out p a w _ _ h
  case hyb34_6 => refine Or.inl ⟨by rfl, ?_⟩; intro W hSw; (try dsimp only at hSw); go_simp; try with_reducible rfl
  simp only [Act.put, List.setIfInBounds_toArray, List.set_cons_zero, List.set_cons_succ]
  refine wpAnyH_take (i := 7) (oi := ?ob34_7) (v := ?vb34_7) ?hib34_7 (by kernel_rfl) (by kernel_rfl) (by kernel_rfl) ?hQb34_7 ?hyb34_7 hH0 ?_
  case hib34_7 => simp only [List.getElem?_toArray, List.getElem?_cons_zero, List.getElem?_cons_succ]; rfl
  case hQb34_7 => exact fun p a w h => HBL.out p a w _ _ h
  case hyb34_7 => refine Or.inl ⟨by rfl, ?_⟩; intro W hSw; (try dsimp only at hSw); go_simp; try with_reducible rfl
  simp only [Act.put, List.setIfInBounds_toArray, List.set_cons_zero, List.set_cons_succ]
  refine wpAnyH_take (i := 8) (oi := ?ob34_8) (v := ?vb34_8) ?hib34_8 (by kernel_rfl) (by kernel_rfl) (by kernel_rfl) ?hQb34_8 ?hyb34_8 hH0 ?_
  case hib34_8 => simp only [List.getElem?_toArray, List.getElem?_cons_zero, List.getElem?_cons_succ]; rfl
  case hQb34_8 => exact fun p a w h => HBL.out p a w _ _ h
  case hyb34_8 => refine Or.inl ⟨by rfl, ?_⟩; intro W hSw; (try dsimp only at hSw); go_simp; try with_reducible rfl
  simp only [Act.put, List.setIfInBounds_toArray, List.set_cons_zero, List.set_cons_succ]
  clear hH0
  have HDE := Lib.hid (Below.refl w.heap.size w).drew
  have HMe := Lib.hid (HM.out.keep HDE.out)
  have Ge := Lib.hid (show w.drew.heap[q]? = _ from HG.out)
  have HEe := Lib.hid (HEV.out.keep (T := fun _ => False) (U := fun k => Q.mut m k ∨ X k) (kept_below HDE.out) (fun _ _ h => h.elim) (fun _ _ h => h))
  generalize w.drew = we at *
  refine wpAnyH_ready (rs := [4]) (by kernel_rfl) (by simp) ?_
  refine AllReadyH.cons (o := ?ob34_4) ?hob34_4 (fun K' hK => ?_) AllReadyH.nil
  case hob34_4 => simp only [List.getElem?_toArray, List.getElem?_cons_zero, List.getElem?_cons_succ]; rfl
  go_simp
  refine (CPB.out _).mono ?_
  rintro e we' ⟨rfl, rfl⟩
  refine hK.out _ _ (MKS.out _ Ge.out) (fun hH1 => ?_)
  clear hK K'
  (try simp only [Act.put, List.setIfInBounds_toArray, List.set_cons_zero, List.set_cons_succ])
  refine wpAnyH_take (i := 5) (oi := ?ob34_5) (v := ?vb34_5) ?hib34_5 (by kernel_rfl) (by kernel_rfl) (by kernel_rfl) ?hQb34_5 ?hyb34_5 hH1 ?_
  case hib34_5 => simp only [List.getElem?_toArray, List.getElem?_cons_zero, List.getElem?_cons_succ]; rfl
  case hQb34_5 => exact fun p a w h => HBL.out p a w _ _ h
  case hyb34_5 => refine Or.inl ⟨by rfl, ?_⟩; intro W hSw; (try dsimp only at hSw); go_simp; try with_reducible rfl
  simp only [Act.put, List.setIfInBounds_toArray, List.set_cons_zero, List.set_cons_succ]
  clear hH1
  have CB := Lib.hid (Rf.answer1_any X lo m Q we HMe.out hln id (eb : Int) r.a.out 0 none 0 [] (eva_nil _ _) now HNP.out s2 outs2 HAP.out)
  refine wpAnyH_ready (rs := [9]) (by kernel_rfl) (by simp) ?_
  refine AllReadyH.cons (o := ?ob34_c) ?hob34_c (fun K' hK => ?_) AllReadyH.nil
  case hob34_c => simp only [List.getElem?_toArray, List.getElem?_cons_zero, List.getElem?_cons_succ]; rfl
  go_simp
  refine CB.out.mono ?_
  rintro e w6 ⟨v, rfl, hd⟩
  have G6 := Lib.hid (show w6.heap[q]? = some _ from by
    obtain ⟨Q2, -, h2, h3, -⟩ := hd
    exact (h3.kept.block q (Array.getElem?_eq_some_iff.1 Ge.out).1 HQM.out).trans Ge.out)
  have HD := Lib.hid (Rf.rdoes_step HDE.out hd)
  clear hd
  refine hK.out _ _ (MKS.out _ G6.out) (fun hH2 => ?_)
  clear hK K'
  (try simp only [Act.put, List.setIfInBounds_toArray, List.set_cons_zero, List.set_cons_succ])
  refine wpAnyH_take (i := 10) (oi := ?ob34_e) (v := ?vb34_e) ?hib34_e (by kernel_rfl) (by kernel_rfl) (by kernel_rfl) ?hQb34_e ?hyb34_e hH2 ?_
  case hib34_e => simp only [List.getElem?_toArray, List.getElem?_cons_zero, List.getElem?_cons_succ]; rfl
  case hQb34_e => exact fun p a w h => HBL.out p a w _ _ h
  case hyb34_e => refine Or.inl ⟨by rfl, ?_⟩; intro W hSw; (try dsimp only at hSw); go_simp; try with_reducible rfl
  simp only [Act.put, List.setIfInBounds_toArray, List.set_cons_zero, List.set_cons_succ]
  clear hH2
  refine wpAnyH_done (by kernel_rfl) ?_ _
  exact HQ.out v _ _ _ _ _ _ _ _ _ _ w6 HD.out

set_option maxRecDepth 100000 in
set_option maxHeartbeats 6400000 in
theorem reg36 {c m q lo : Nat} {w : World} {R Q : ClR} {now id wait : Int} {k : Nat} {r : AcR} {ba ca sa oa ea : Option Addr} {bk ck sk ok ek : Nat} (u0 u1 u2 u3 u4 u5 u6 u7 u8 u10 u12 u14 u16 u17 u19 u20 u21 u22 u23 u24 u25 u26 u27 u28 u29 u30 u31 u32 u33 u34 u35 u36 u37 u38 u39 u40 u41 u42 u43 u44 u45 u46 u47 u48 u49 u50 u51 u52 u53 u54 u55 u56 u57 u58 u59 u60 u61 u62 u63 u64 u65 u66 u67 u68 u69 u70 u71 u72 u73 u74 u75 u76 u77 u78 u79 u80 u81 u82 u83 u84 u85 u86 u87 u88 u89 u90 u91 u92 u93 u94 u95 u96 u97 u98 u99 u100 u101 u102 u103 u104 u105 u106 u107 u108 u109 u110 u111 u112 u113 u114 u115 u116 u117 u118 u119 u120 u121 u122 u123 u124 u125 u126 u127 u128 u129 u130 u131 u132 u133 u134 u135 u136 u137 u138 u139 u140 u141 u142 u143 u144 u145 u146 u147 u148 u149 u150 u151 u152 u153 u154 u155 u156 u157 u158 u159 u160 u161 u162 u163 u164 u165 u166 u167 u168 u169 u170 u171 u172 u173 u174 u175 u176 u177 u178 u179 u180 u181 u182 u183 u184 u185 u186 u187 u188 u189 u190 u191 u192 u193 u194 u195 u196 u197 u198 u199 u200 u201 u202 u203 u204 u205 u206 u207 u208 u209 u210 u211 u212 u213 u214 u215 u216 u217 u218 u219 u220 u221 u222 u223 u224 u225 u226 u227 u228 u229 u230 u231 u232 u233 u234 u235 u236 u237 u238 u239 u240 u241 u242 u243 u244 u245 u246 u247 u248 u249 u250 u251 u252 u253 u254 u255 u256 u257 u258 u259 u260 u261 u262 u263 u264 u265 u266 u267 u268 u269 u270 u271 u272 u273 u274 u275 u276 u277 u278 u279 u280 u281 u282 u283 u284 u285 u286 u287 u288 u289 u290 u291 u292 u293 u294 u295 u296 u297 u298 u299 u300 u301 u302 u303 u304 u305 u306 u307 u308 u309 u310 u311 u312 u313 u314 u315 u316 u317 u318 u319 u320 u321 u322 u323 u324 u325 u326 u327 u328 u329 u330 u331 u332 u333 u334 u335 u336 u337 u338 u339 u340 u341 u342 u343 u344 u345 u346 u347 u348 u349 u350 u351 u352 u353 u354 u355 u356 u357 u358 u359 u360 u361 u362 u363 u364 u365 u366 u367 u368 u369 u370 u371 u372 : Value) {Q0 : Exit → Act → World → Prop}
    (hB : BothM lo c m w R Q) (hinv : InvT wait now k R.s) (hk : k ≤ 60) (hg : w.heap[q]? = some (.cells #[.int .i64 r.a.op, .int .i64 r.a.n, .int .i64 r.a.m, .string r.a.b.stream, .int .i64 r.a.b.expect, .int .i64 r.a.b.session, .int .i64 r.a.b.seq, .slice ba r.a.b.events.length bk, .string r.a.stream, .int .i64 r.a.from_, .int .i64 r.a.v.epoch, .slice ca r.a.v.chain.length ck, .slice sa r.a.v.since.length sk, .slice oa r.a.v.boot.length ok, .int .i64 r.a.out.code, .int .i64 r.a.out.pos, .int .i64 r.a.out.first, .int .i64 r.a.out.version, .slice ea r.a.events.length ek] 33)) (hi1 : Vw.I64 r.a.n) (hi2 : Vw.I64 r.a.m) (hqm : ¬ R.mut c q)
    (hev : EvA (fun k => R.mut c k ∨ Q.mut m k) w (.slice ea r.a.events.length ek) r.a.events) (hel : r.a.events.length ≤ 1000)
    (hbl : ∀ (p : List PanicEntry) (a : Act) (w : World) (d : Option Tmp) (v : Value), Q0 (.panic p) (a.put d v) w → Q0 (.panic p) a w)
    (hQ : ∀ (v : Value) (x218 x219 x220 x221 x222 x223 x224 x225 x226 x227 x228 x229 x230 x231 x232 x233 x234 x235 : Value) (w4 : World) (R1 : ClR) (outs : List OutR), Half lo c m w w4 R1 Q (answerS R.s 2 id ((pickT r.a.m 3 / 2 : Nat) : Int) now (fun o => { o with version := r.a.m, events := r.a.events })).1 v outs →
      outs.map OutR.plain = (answerS R.s 2 id ((pickT r.a.m 3 / 2 : Nat) : Int) now (fun o => { o with version := r.a.m, events := r.a.events })).2 → w4.heap[q]? = w.heap[q]? → Q0 .normal ⟨#[u0, u1, u2, u3, u4, u5, u6, u7, u8, .pointer (some ⟨c, 0, none⟩), u10, .pointer (some ⟨m, 0, none⟩), u12, .int .i64 now, u14, .pointer (some ⟨q, 0, none⟩), v, u17, .int .i64 id, u19, u20, u21, u22, u23, u24, u25, u26, u27, u28, u29, u30, u31, u32, u33, u34, u35, u36, u37, u38, u39, u40, u41, u42, u43, u44, u45, u46, u47, u48, u49, u50, u51, u52, u53, u54, u55, u56, u57, u58, u59, u60, u61, u62, u63, u64, u65, u66, u67, u68, u69, u70, u71, u72, u73, u74, u75, u76, u77, u78, u79, u80, u81, u82, u83, u84, u85, u86, u87, u88, u89, u90, u91, u92, u93, u94, u95, u96, u97, u98, u99, u100, u101, u102, u103, u104, u105, u106, u107, u108, u109, u110, u111, u112, u113, u114, u115, u116, u117, u118, u119, u120, u121, u122, u123, u124, u125, u126, u127, u128, u129, u130, u131, u132, u133, u134, u135, u136, u137, u138, u139, u140, u141, u142, u143, u144, u145, u146, u147, u148, u149, u150, u151, u152, u153, u154, u155, u156, u157, u158, u159, u160, u161, u162, u163, u164, u165, u166, u167, u168, u169, u170, u171, u172, u173, u174, u175, u176, u177, u178, u179, u180, u181, u182, u183, u184, u185, u186, u187, u188, u189, u190, u191, u192, u193, u194, u195, u196, u197, u198, u199, u200, u201, u202, u203, u204, u205, u206, u207, u208, u209, u210, u211, u212, u213, u214, u215, u216, u217, x218, x219, x220, x221, x222, x223, x224, x225, x226, x227, x228, x229, x230, x231, x232, x233, x234, x235, u236, u237, u238, u239, u240, u241, u242, u243, u244, u245, u246, u247, u248, u249, u250, u251, u252, u253, u254, u255, u256, u257, u258, u259, u260, u261, u262, u263, u264, u265, u266, u267, u268, u269, u270, u271, u272, u273, u274, u275, u276, u277, u278, u279, u280, u281, u282, u283, u284, u285, u286, u287, u288, u289, u290, u291, u292, u293, u294, u295, u296, u297, u298, u299, u300, u301, u302, u303, u304, u305, u306, u307, u308, u309, u310, u311, u312, u313, u314, u315, u316, u317, u318, u319, u320, u321, u322, u323, u324, u325, u326, u327, u328, u329, u330, u331, u332, u333, u334, u335, u336, u337, u338, u339, u340, u341, u342, u343, u344, u345, u346, u347, u348, u349, u350, u351, u352, u353, u354, u355, u356, u357, u358, u359, u360, u361, u362, u363, u364, u365, u366, u367, u368, u369, u370, u371, u372], []⟩ w4) :
    (reg5 36).wp Tryd.prog Q0 ⟨#[u0, u1, u2, u3, u4, u5, u6, u7, u8, .pointer (some ⟨c, 0, none⟩), u10, .pointer (some ⟨m, 0, none⟩), u12, .int .i64 now, u14, .pointer (some ⟨q, 0, none⟩), u16, u17, .int .i64 id, u19, u20, u21, u22, u23, u24, u25, u26, u27, u28, u29, u30, u31, u32, u33, u34, u35, u36, u37, u38, u39, u40, u41, u42, u43, u44, u45, u46, u47, u48, u49, u50, u51, u52, u53, u54, u55, u56, u57, u58, u59, u60, u61, u62, u63, u64, u65, u66, u67, u68, u69, u70, u71, u72, u73, u74, u75, u76, u77, u78, u79, u80, u81, u82, u83, u84, u85, u86, u87, u88, u89, u90, u91, u92, u93, u94, u95, u96, u97, u98, u99, u100, u101, u102, u103, u104, u105, u106, u107, u108, u109, u110, u111, u112, u113, u114, u115, u116, u117, u118, u119, u120, u121, u122, u123, u124, u125, u126, u127, u128, u129, u130, u131, u132, u133, u134, u135, u136, u137, u138, u139, u140, u141, u142, u143, u144, u145, u146, u147, u148, u149, u150, u151, u152, u153, u154, u155, u156, u157, u158, u159, u160, u161, u162, u163, u164, u165, u166, u167, u168, u169, u170, u171, u172, u173, u174, u175, u176, u177, u178, u179, u180, u181, u182, u183, u184, u185, u186, u187, u188, u189, u190, u191, u192, u193, u194, u195, u196, u197, u198, u199, u200, u201, u202, u203, u204, u205, u206, u207, u208, u209, u210, u211, u212, u213, u214, u215, u216, u217, u218, u219, u220, u221, u222, u223, u224, u225, u226, u227, u228, u229, u230, u231, u232, u233, u234, u235, u236, u237, u238, u239, u240, u241, u242, u243, u244, u245, u246, u247, u248, u249, u250, u251, u252, u253, u254, u255, u256, u257, u258, u259, u260, u261, u262, u263, u264, u265, u266, u267, u268, u269, u270, u271, u272, u273, u274, u275, u276, u277, u278, u279, u280, u281, u282, u283, u284, u285, u286, u287, u288, u289, u290, u291, u292, u293, u294, u295, u296, u297, u298, u299, u300, u301, u302, u303, u304, u305, u306, u307, u308, u309, u310, u311, u312, u313, u314, u315, u316, u317, u318, u319, u320, u321, u322, u323, u324, u325, u326, u327, u328, u329, u330, u331, u332, u333, u334, u335, u336, u337, u338, u339, u340, u341, u342, u343, u344, u345, u346, u347, u348, u349, u350, u351, u352, u353, u354, u355, u356, u357, u358, u359, u360, u361, u362, u363, u364, u365, u366, u367, u368, u369, u370, u371, u372], []⟩ w := by
  have HQ := Lib.hid hQ
  have HBL := Lib.hid hbl
  have HB := Lib.hid hB
  have HINV := Lib.hid hinv
  have HG := Lib.hid hg
  have HQM := Lib.hid hqm
  have HEV := Lib.hid hev
  have MKS := Lib.hid (fun (X' : World) (hg : X'.heap[q]? = some (.cells #[.int .i64 r.a.op, .int .i64 r.a.n, .int .i64 r.a.m, .string r.a.b.stream, .int .i64 r.a.b.expect, .int .i64 r.a.b.session, .int .i64 r.a.b.seq, .slice ba r.a.b.events.length bk, .string r.a.stream, .int .i64 r.a.from_, .int .i64 r.a.v.epoch, .slice ca r.a.v.chain.length ck, .slice sa r.a.v.since.length sk, .slice oa r.a.v.boot.length ok, .int .i64 r.a.out.code, .int .i64 r.a.out.pos, .int .i64 r.a.out.first, .int .i64 r.a.out.version, .slice ea r.a.events.length ek] 33)) => (show X'.cell? ⟨q, 1, none⟩ = some (.int .i64 r.a.n) ∧ X'.cell? ⟨q, 2, none⟩ = some (.int .i64 r.a.m) ∧ X'.cell? ⟨q, 18, none⟩ = some (.slice ea r.a.events.length ek) from ⟨by rw [Lib.cell_of_heap hg]; rfl, by rw [Lib.cell_of_heap hg]; rfl, by rw [Lib.cell_of_heap hg]; rfl⟩))
  obtain ⟨pa, hpa⟩ : ∃ pa : Nat, pickT r.a.n 3 = pa := ⟨_, rfl⟩
  have hpal : pa < 3 := by rw [← hpa]; exact pick_lt r.a.n 3 (by omega)
  obtain ⟨pb, hpb⟩ : ∃ pb : Nat, pickT r.a.m 3 = pb := ⟨_, rfl⟩
  have hpbl : pb < 3 := by rw [← hpb]; exact pick_lt r.a.m 3 (by omega)
  have CPA := Lib.hid (fun (X' : World) => (show Calls Tryd.prog 14 #[.int .i64 r.a.n, .int .i64 3] X' fun r w' => r = .returned (.int .i64 (pa : Int)) ∧ X' = w' by have h := pick_any r.a.n hi1 3 (by omega) (by omega) X'; rw [hpa] at h; exact h))
  have CPB := Lib.hid (fun (X' : World) => (show Calls Tryd.prog 14 #[.int .i64 r.a.m, .int .i64 3] X' fun r w' => r = .returned (.int .i64 (pb : Int)) ∧ X' = w' by have h := pick_any r.a.m hi2 3 (by omega) (by omega) X'; rw [hpb] at h; exact h))
  have heb : (pb : Int).tdiv 2 = ((pb / 2 : Nat) : Int) := by rw [Int.tdiv_eq_ediv_of_nonneg (by omega)]; rfl
  obtain ⟨eb, heq⟩ : ∃ eb : Nat, pb / 2 = eb := ⟨_, rfl⟩
  rw [heq] at heb
  have ewb : IntKind.i64.wrap (eb : Int) = (eb : Int) := by rw [IntKind.wrap_i64]; omega
  have ewa : IntKind.i64.wrap (1 + (pa : Int)) = 1 + (pa : Int) := by rw [IntKind.wrap_i64]; omega
  rw [hpb, heq] at HQ
  obtain ⟨s2, outs2, hap⟩ := (show ∃ a b, answerS R.s 2 id (eb : Int) now (fun o => { o with version := r.a.m, events := r.a.events }) = (a, b) from ⟨_, _, rfl⟩)
  rw [hap] at HQ
  have HAP := Lib.hid hap
  clear hQ hbl hB hinv hg hqm hpa hpb heq hap hev
  conv => arg 2; whnf
  refine region_begin (S := fun X' => X'.cell? ⟨q, 1, none⟩ = some (.int .i64 r.a.n) ∧ X'.cell? ⟨q, 2, none⟩ = some (.int .i64 r.a.m) ∧ X'.cell? ⟨q, 18, none⟩ = some (.slice ea r.a.events.length ek)) 19 rfl (by kernel_rfl) (MKS.out _ (show w.drew.heap[q]? = _ from HG.out)) (fun hH0 => ?_)
  refine wpAnyH_take (i := 0) (oi := ?oc0) (v := ?vc0) ?hic0 (by kernel_rfl) (by kernel_rfl) (by kernel_rfl) ?hQc0 ?hyc0 hH0 ?_
  case hic0 => simp only [List.getElem?_toArray, List.getElem?_cons_zero]; rfl
  case hQc0 => exact fun p a w h => HBL.out p a w _ _ h
  case hyc0 => refine Or.inl ⟨by rfl, ?_⟩; intro W hSw; (try dsimp only at hSw); go_simp; try with_reducible rfl
  simp only [Act.put, List.setIfInBounds_toArray, List.set_cons_zero, List.set_cons_succ]
  refine wpAnyH_take (i := 1) (oi := ?oc1) (v := ?vc1) ?hic1 (by kernel_rfl) (by kernel_rfl) (by kernel_rfl) ?hQc1 ?hyc1 hH0 ?_
  case hic1 => simp only [List.getElem?_toArray, List.getElem?_cons_zero, List.getElem?_cons_succ]; rfl
  case hQc1 => exact fun p a w h => HBL.out p a w _ _ h
  case hyc1 => refine Or.inl ⟨by rfl, ?_⟩; intro W hSw; (try dsimp only at hSw); go_simp; try with_reducible rfl
  simp only [Act.put, List.setIfInBounds_toArray, List.set_cons_zero, List.set_cons_succ]
  refine wpAnyH_take (i := 2) (oi := ?oc2) (v := ?vc2) ?hic2 (by kernel_rfl) (by kernel_rfl) (by kernel_rfl) ?hQc2 ?hyc2 hH0 ?_
  case hic2 => simp only [List.getElem?_toArray, List.getElem?_cons_zero, List.getElem?_cons_succ]; rfl
  case hQc2 => exact fun p a w h => HBL.out p a w _ _ h
  case hyc2 => refine Or.inl ⟨by rfl, ?_⟩; intro W hSw; (try dsimp only at hSw); go_simp; try with_reducible rfl
  simp only [Act.put, List.setIfInBounds_toArray, List.set_cons_zero, List.set_cons_succ]
  refine wpAnyH_take (i := 5) (oi := ?oc5) (v := ?vc5) ?hic5 (by kernel_rfl) (by kernel_rfl) (by kernel_rfl) ?hQc5 ?hyc5 hH0 ?_
  case hic5 => simp only [List.getElem?_toArray, List.getElem?_cons_zero, List.getElem?_cons_succ]; rfl
  case hQc5 => exact fun p a w h => HBL.out p a w _ _ h
  case hyc5 => refine Or.inl ⟨by rfl, ?_⟩; intro W hSw; (try dsimp only at hSw); go_simp; try with_reducible rfl
  simp only [Act.put, List.setIfInBounds_toArray, List.set_cons_zero, List.set_cons_succ]
  refine wpAnyH_take (i := 6) (oi := ?oc6) (v := ?vc6) ?hic6 (by kernel_rfl) (by kernel_rfl) (by kernel_rfl) ?hQc6 ?hyc6 hH0 ?_
  case hic6 => simp only [List.getElem?_toArray, List.getElem?_cons_zero, List.getElem?_cons_succ]; rfl
  case hQc6 => exact fun p a w h => HBL.out p a w _ _ h
  case hyc6 => refine Or.inl ⟨by rfl, ?_⟩; intro W hSw; (try dsimp only at hSw); go_simp; try with_reducible rfl
  simp only [Act.put, List.setIfInBounds_toArray, List.set_cons_zero, List.set_cons_succ]
  refine wpAnyH_take (i := 7) (oi := ?oc7) (v := ?vc7) ?hic7 (by kernel_rfl) (by kernel_rfl) (by kernel_rfl) ?hQc7 ?hyc7 hH0 ?_
  case hic7 => simp only [List.getElem?_toArray, List.getElem?_cons_zero, List.getElem?_cons_succ]; rfl
  case hQc7 => exact fun p a w h => HBL.out p a w _ _ h
  case hyc7 => refine Or.inl ⟨by rfl, ?_⟩; intro W hSw; (try dsimp only at hSw); go_simp; try with_reducible rfl
  simp only [Act.put, List.setIfInBounds_toArray, List.set_cons_zero, List.set_cons_succ]
  refine wpAnyH_take (i := 10) (oi := ?oc10) (v := ?vc10) ?hic10 (by kernel_rfl) (by kernel_rfl) (by kernel_rfl) ?hQc10 ?hyc10 hH0 ?_
  case hic10 => simp only [List.getElem?_toArray, List.getElem?_cons_zero, List.getElem?_cons_succ]; rfl
  case hQc10 => exact fun p a w h => HBL.out p a w _ _ h
  case hyc10 => refine Or.inl ⟨by rfl, ?_⟩; intro W hSw; (try dsimp only at hSw); go_simp; try with_reducible rfl
  simp only [Act.put, List.setIfInBounds_toArray, List.set_cons_zero, List.set_cons_succ]
  refine wpAnyH_take (i := 11) (oi := ?oc11) (v := ?vc11) ?hic11 (by kernel_rfl) (by kernel_rfl) (by kernel_rfl) ?hQc11 ?hyc11 hH0 ?_
  case hic11 => simp only [List.getElem?_toArray, List.getElem?_cons_zero, List.getElem?_cons_succ]; rfl
  case hQc11 => exact fun p a w h => HBL.out p a w _ _ h
  case hyc11 => refine Or.inl ⟨by rfl, ?_⟩; intro W hSw; (try dsimp only at hSw); go_simp; try with_reducible rfl
  simp only [Act.put, List.setIfInBounds_toArray, List.set_cons_zero, List.set_cons_succ]
  refine wpAnyH_take (i := 12) (oi := ?oc12) (v := ?vc12) ?hic12 (by kernel_rfl) (by kernel_rfl) (by kernel_rfl) ?hQc12 ?hyc12 hH0 ?_
  case hic12 => simp only [List.getElem?_toArray, List.getElem?_cons_zero, List.getElem?_cons_succ]; rfl
  case hQc12 => exact fun p a w h => HBL.out p a w _ _ h
  case hyc12 => refine Or.inl ⟨by rfl, ?_⟩; intro W hSw; (try dsimp only at hSw); go_simp; try with_reducible rfl
  simp only [Act.put, List.setIfInBounds_toArray, List.set_cons_zero, List.set_cons_succ]
  refine wpAnyH_take (i := 13) (oi := ?oc13) (v := ?vc13) ?hic13 (by kernel_rfl) (by kernel_rfl) (by kernel_rfl) ?hQc13 ?hyc13 hH0 ?_
  case hic13 => simp only [List.getElem?_toArray, List.getElem?_cons_zero, List.getElem?_cons_succ]; rfl
  case hQc13 => exact fun p a w h => HBL.out p a w _ _ h
  case hyc13 => refine Or.inl ⟨by rfl, ?_⟩; intro W hSw; (try dsimp only at hSw); go_simp; try with_reducible rfl
  simp only [Act.put, List.setIfInBounds_toArray, List.set_cons_zero, List.set_cons_succ]
  refine wpAnyH_take (i := 16) (oi := ?oc16) (v := ?vc16) ?hic16 (by kernel_rfl) (by kernel_rfl) (by kernel_rfl) ?hQc16 ?hyc16 hH0 ?_
  case hic16 => simp only [List.getElem?_toArray, List.getElem?_cons_zero, List.getElem?_cons_succ]; rfl
  case hQc16 => exact fun p a w h => HBL.out p a w _ _ h
  case hyc16 => refine Or.inl ⟨by rfl, ?_⟩; intro W hSw; (try dsimp only at hSw); go_simp; try with_reducible rfl
  simp only [Act.put, List.setIfInBounds_toArray, List.set_cons_zero, List.set_cons_succ]
  clear hH0
  have HBe := Lib.hid (HB.out.below (Below.refl w.heap.size w).drew)
  have Ge := Lib.hid (show w.drew.heap[q]? = _ from HG.out)
  have HDE := Lib.hid (Below.refl w.heap.size w).drew
  have HEe := Lib.hid (HEV.out.keep (T := fun _ => False) (U := fun k => R.mut c k ∨ Q.mut m k) (kept_below HDE.out) (fun _ _ h => h.elim) (fun _ _ h => h))
  generalize w.drew = we at *
  refine wpAnyH_ready (rs := [3]) (by kernel_rfl) (by simp) ?_
  refine AllReadyH.cons (o := ?oc3) ?hoc3 (fun K' hK => ?_) AllReadyH.nil
  case hoc3 => simp only [List.getElem?_toArray, List.getElem?_cons_zero, List.getElem?_cons_succ]; rfl
  go_simp
  refine (CPA.out _).mono ?_
  rintro e we' ⟨rfl, rfl⟩
  refine hK.out _ _ (MKS.out _ Ge.out) (fun hH1 => ?_)
  clear hK K'
  (try simp only [Act.put, List.setIfInBounds_toArray, List.set_cons_zero, List.set_cons_succ])
  refine wpAnyH_take (i := 4) (oi := ?oc4) (v := ?vc4) ?hic4 (by kernel_rfl) (by kernel_rfl) (by kernel_rfl) ?hQc4 ?hyc4 hH1 ?_
  case hic4 => simp only [List.getElem?_toArray, List.getElem?_cons_zero, List.getElem?_cons_succ]; rfl
  case hQc4 => exact fun p a w h => HBL.out p a w _ _ h
  case hyc4 => refine Or.inl ⟨by rfl, ?_⟩; intro W hSw; (try dsimp only at hSw); go_simp; try with_reducible rfl
  simp only [Act.put, List.setIfInBounds_toArray, List.set_cons_zero, List.set_cons_succ]
  clear hH1
  refine wpAnyH_ready (rs := [8]) (by kernel_rfl) (by simp) ?_
  refine AllReadyH.cons (o := ?oc8) ?hoc8 (fun K' hK => ?_) AllReadyH.nil
  case hoc8 => simp only [List.getElem?_toArray, List.getElem?_cons_zero, List.getElem?_cons_succ]; rfl
  go_simp
  refine (CPB.out _).mono ?_
  rintro e we' ⟨rfl, rfl⟩
  refine hK.out _ _ (MKS.out _ Ge.out) (fun hH2 => ?_)
  clear hK K'
  (try simp only [Act.put, List.setIfInBounds_toArray, List.set_cons_zero, List.set_cons_succ])
  refine wpAnyH_take (i := 9) (oi := ?oc9) (v := ?vc9) ?hic9 (by kernel_rfl) (by kernel_rfl) (by kernel_rfl) ?hQc9 ?hyc9 hH2 ?_
  case hic9 => simp only [List.getElem?_toArray, List.getElem?_cons_zero, List.getElem?_cons_succ]; rfl
  case hQc9 => exact fun p a w h => HBL.out p a w _ _ h
  case hyc9 => refine Or.inl ⟨by rfl, ?_⟩; intro W hSw; (try dsimp only at hSw); go_simp; try with_reducible rfl
  simp only [Act.put, List.setIfInBounds_toArray, List.set_cons_zero, List.set_cons_succ]
  refine wpAnyH_take (i := 14) (oi := ?oc14) (v := ?vc14) ?hic14 (by kernel_rfl) (by kernel_rfl) (by kernel_rfl) ?hQc14 ?hyc14 hH2 ?_
  case hic14 => simp only [List.getElem?_toArray, List.getElem?_cons_zero, List.getElem?_cons_succ]; rfl
  case hQc14 => exact fun p a w h => HBL.out p a w _ _ h
  case hyc14 => refine Or.inl ⟨by rfl, ?_⟩; intro W hSw; (try dsimp only at hSw); go_simp; try with_reducible rfl
  simp only [Act.put, List.setIfInBounds_toArray, List.set_cons_zero, List.set_cons_succ]
  refine wpAnyH_take (i := 15) (oi := ?oc15) (v := ?vc15) ?hic15 (by kernel_rfl) (by kernel_rfl) (by kernel_rfl) ?hQc15 ?hyc15 hH2 ?_
  case hic15 => simp only [List.getElem?_toArray, List.getElem?_cons_zero, List.getElem?_cons_succ]; rfl
  case hQc15 => exact fun p a w h => HBL.out p a w _ _ h
  case hyc15 => refine Or.inl ⟨by rfl, ?_⟩; intro W hSw; (try dsimp only at hSw); go_simp; try with_reducible rfl
  simp only [Act.put, List.setIfInBounds_toArray, List.set_cons_zero, List.set_cons_succ]
  clear hH2
  have CA := Lib.hid (take_result (fun k => Q.mut m k) lo c R we HBe.out.hc (by have h1 := HBe.out.hc.len; have h2 := HINV.out.ln; omega) (1 + (pa : Int)) (by omega) (by omega) id (eb : Int) r.a.m (.slice ea r.a.events.length ek) r.a.events HEe.out hel now (fun e => HINV.out.p.pd e) s2 outs2 HAP.out)
  refine wpAnyH_ready (rs := [17]) (by kernel_rfl) (by simp) ?_
  refine AllReadyH.cons (o := ?oc17) ?hoc17 (fun K' hK => ?_) AllReadyH.nil
  case hoc17 => simp only [List.getElem?_toArray, List.getElem?_cons_zero, List.getElem?_cons_succ]; rfl
  go_simp
  refine CA.out.mono ?_
  rintro e w4 ⟨v, rfl, hd⟩
  obtain ⟨R1, outs, hh, hpl, hst⟩ := half_of HBe.out hd
  have HH := Lib.hid hh
  have HPLN := Lib.hid hpl
  have G4 := Lib.hid ((hst.kept.block q (Array.getElem?_eq_some_iff.1 Ge.out).1 HQM.out).trans Ge.out)
  clear hd hh hpl hst
  refine hK.out _ _ (MKS.out _ G4.out) (fun hH3 => ?_)
  clear hK K'
  (try simp only [Act.put, List.setIfInBounds_toArray, List.set_cons_zero, List.set_cons_succ])
  refine wpAnyH_take (i := 18) (oi := ?oc18) (v := ?vc18) ?hic18 (by kernel_rfl) (by kernel_rfl) (by kernel_rfl) ?hQc18 ?hyc18 hH3 ?_
  case hic18 => simp only [List.getElem?_toArray, List.getElem?_cons_zero, List.getElem?_cons_succ]; rfl
  case hQc18 => exact fun p a w h => HBL.out p a w _ _ h
  case hyc18 => refine Or.inl ⟨by rfl, ?_⟩; intro W hSw; (try dsimp only at hSw); go_simp; try with_reducible rfl
  simp only [Act.put, List.setIfInBounds_toArray, List.set_cons_zero, List.set_cons_succ]
  clear hH3
  refine wpAnyH_done (by kernel_rfl) ?_ _
  exact HQ.out v _ _ _ _ _ _ _ _ _ _ _ _ _ _ _ _ _ _ w4 R1 outs ⟨HH.out.st, HH.out.hc, HH.out.hm, HH.out.at_, HH.out.ok, (HDE.out.mono (by have h1 := HB.out.hc.hlo; have h2 := HB.out.hc.clt; omega)).trans HH.out.below⟩ HPLN.out (G4.out.trans HG.out.symm)

set_option maxRecDepth 100000 in
set_option maxHeartbeats 6400000 in
theorem reg37 {m q lo : Nat} {w : World} {Q : ClR} {X : Nat → Prop} {now id : Int} {r : AcR} {ba ca sa oa ea : Option Addr} {bk ck sk ok ek : Nat} (u0 u1 u2 u3 u4 u5 u6 u7 u8 u9 u10 u12 u14 u16 u17 u19 u20 u21 u22 u23 u24 u25 u26 u27 u28 u29 u30 u31 u32 u33 u34 u35 u36 u37 u38 u39 u40 u41 u42 u43 u44 u45 u46 u47 u48 u49 u50 u51 u52 u53 u54 u55 u56 u57 u58 u59 u60 u61 u62 u63 u64 u65 u66 u67 u68 u69 u70 u71 u72 u73 u74 u75 u76 u77 u78 u79 u80 u81 u82 u83 u84 u85 u86 u87 u88 u89 u90 u91 u92 u93 u94 u95 u96 u97 u98 u99 u100 u101 u102 u103 u104 u105 u106 u107 u108 u109 u110 u111 u112 u113 u114 u115 u116 u117 u118 u119 u120 u121 u122 u123 u124 u125 u126 u127 u128 u129 u130 u131 u132 u133 u134 u135 u136 u137 u138 u139 u140 u141 u142 u143 u144 u145 u146 u147 u148 u149 u150 u151 u152 u153 u154 u155 u156 u157 u158 u159 u160 u161 u162 u163 u164 u165 u166 u167 u168 u169 u170 u171 u172 u173 u174 u175 u176 u177 u178 u179 u180 u181 u182 u183 u184 u185 u186 u187 u188 u189 u190 u191 u192 u193 u194 u195 u196 u197 u198 u199 u200 u201 u202 u203 u204 u205 u206 u207 u208 u209 u210 u211 u212 u213 u214 u215 u216 u217 u218 u219 u220 u221 u222 u223 u224 u225 u226 u227 u228 u229 u230 u231 u232 u233 u234 u235 u236 u237 u238 u239 u240 u241 u242 u243 u244 u245 u246 u247 u248 u249 u250 u251 u252 u253 u254 u255 u256 u257 u258 u259 u260 u261 u262 u263 u264 u265 u266 u267 u268 u269 u270 u271 u272 u273 u274 u275 u276 u277 u278 u279 u280 u281 u282 u283 u284 u285 u286 u287 u288 u289 u290 u291 u292 u293 u294 u295 u296 u297 u298 u299 u300 u301 u302 u303 u304 u305 u306 u307 u308 u309 u310 u311 u312 u313 u314 u315 u316 u317 u318 u319 u320 u321 u322 u323 u324 u325 u326 u327 u328 u329 u330 u331 u332 u333 u334 u335 u336 u337 u338 u339 u340 u341 u342 u343 u344 u345 u346 u347 u348 u349 u350 u351 u352 u353 u354 u355 u356 u357 u358 u359 u360 u361 u362 u363 u364 u365 u366 u367 u368 u369 u370 u371 u372 : Value) {Q0 : Exit → Act → World → Prop} {s2 : ClW} {outs2 : List OutW}
    (hm : Rf.ClM X lo w m Q) (hln : Q.rs.length ≤ 100000) (hn : Q.s.pending = true → Q.s.ops ≠ []) (hg : w.heap[q]? = some (.cells #[.int .i64 r.a.op, .int .i64 r.a.n, .int .i64 r.a.m, .string r.a.b.stream, .int .i64 r.a.b.expect, .int .i64 r.a.b.session, .int .i64 r.a.b.seq, .slice ba r.a.b.events.length bk, .string r.a.stream, .int .i64 r.a.from_, .int .i64 r.a.v.epoch, .slice ca r.a.v.chain.length ck, .slice sa r.a.v.since.length sk, .slice oa r.a.v.boot.length ok, .int .i64 r.a.out.code, .int .i64 r.a.out.pos, .int .i64 r.a.out.first, .int .i64 r.a.out.version, .slice ea r.a.events.length ek] 33)) (hi2 : Vw.I64 r.a.m) (hev : EvA (fun k => Q.mut m k ∨ X k) w (.slice ea r.a.events.length ek) r.a.events) (hqm : ¬ Q.mut m q)
    (hap : answerS Q.s 2 id ((pickT r.a.m 3 / 2 : Nat) : Int) now (fun o => { o with version := r.a.m, events := r.a.events }) = (s2, outs2))
    (hbl : ∀ (p : List PanicEntry) (a : Act) (w : World) (d : Option Tmp) (v : Value), Q0 (.panic p) (a.put d v) w → Q0 (.panic p) a w)
    (hQ : ∀ (v : Value) (x236 x237 x238 x239 x240 x241 x242 x243 x244 x245 x246 x247 x248 x249 : Value) (w6 : World), Rf.RDoes X lo m Q w s2 outs2 v w6 → Q0 .normal ⟨#[u0, u1, u2, u3, u4, u5, u6, u7, u8, u9, u10, .pointer (some ⟨m, 0, none⟩), u12, .int .i64 now, u14, .pointer (some ⟨q, 0, none⟩), u16, v, .int .i64 id, u19, u20, u21, u22, u23, u24, u25, u26, u27, u28, u29, u30, u31, u32, u33, u34, u35, u36, u37, u38, u39, u40, u41, u42, u43, u44, u45, u46, u47, u48, u49, u50, u51, u52, u53, u54, u55, u56, u57, u58, u59, u60, u61, u62, u63, u64, u65, u66, u67, u68, u69, u70, u71, u72, u73, u74, u75, u76, u77, u78, u79, u80, u81, u82, u83, u84, u85, u86, u87, u88, u89, u90, u91, u92, u93, u94, u95, u96, u97, u98, u99, u100, u101, u102, u103, u104, u105, u106, u107, u108, u109, u110, u111, u112, u113, u114, u115, u116, u117, u118, u119, u120, u121, u122, u123, u124, u125, u126, u127, u128, u129, u130, u131, u132, u133, u134, u135, u136, u137, u138, u139, u140, u141, u142, u143, u144, u145, u146, u147, u148, u149, u150, u151, u152, u153, u154, u155, u156, u157, u158, u159, u160, u161, u162, u163, u164, u165, u166, u167, u168, u169, u170, u171, u172, u173, u174, u175, u176, u177, u178, u179, u180, u181, u182, u183, u184, u185, u186, u187, u188, u189, u190, u191, u192, u193, u194, u195, u196, u197, u198, u199, u200, u201, u202, u203, u204, u205, u206, u207, u208, u209, u210, u211, u212, u213, u214, u215, u216, u217, u218, u219, u220, u221, u222, u223, u224, u225, u226, u227, u228, u229, u230, u231, u232, u233, u234, u235, x236, x237, x238, x239, x240, x241, x242, x243, x244, x245, x246, x247, x248, x249, u250, u251, u252, u253, u254, u255, u256, u257, u258, u259, u260, u261, u262, u263, u264, u265, u266, u267, u268, u269, u270, u271, u272, u273, u274, u275, u276, u277, u278, u279, u280, u281, u282, u283, u284, u285, u286, u287, u288, u289, u290, u291, u292, u293, u294, u295, u296, u297, u298, u299, u300, u301, u302, u303, u304, u305, u306, u307, u308, u309, u310, u311, u312, u313, u314, u315, u316, u317, u318, u319, u320, u321, u322, u323, u324, u325, u326, u327, u328, u329, u330, u331, u332, u333, u334, u335, u336, u337, u338, u339, u340, u341, u342, u343, u344, u345, u346, u347, u348, u349, u350, u351, u352, u353, u354, u355, u356, u357, u358, u359, u360, u361, u362, u363, u364, u365, u366, u367, u368, u369, u370, u371, u372], []⟩ w6) :
    (reg5 37).wp Tryd.prog Q0 ⟨#[u0, u1, u2, u3, u4, u5, u6, u7, u8, u9, u10, .pointer (some ⟨m, 0, none⟩), u12, .int .i64 now, u14, .pointer (some ⟨q, 0, none⟩), u16, u17, .int .i64 id, u19, u20, u21, u22, u23, u24, u25, u26, u27, u28, u29, u30, u31, u32, u33, u34, u35, u36, u37, u38, u39, u40, u41, u42, u43, u44, u45, u46, u47, u48, u49, u50, u51, u52, u53, u54, u55, u56, u57, u58, u59, u60, u61, u62, u63, u64, u65, u66, u67, u68, u69, u70, u71, u72, u73, u74, u75, u76, u77, u78, u79, u80, u81, u82, u83, u84, u85, u86, u87, u88, u89, u90, u91, u92, u93, u94, u95, u96, u97, u98, u99, u100, u101, u102, u103, u104, u105, u106, u107, u108, u109, u110, u111, u112, u113, u114, u115, u116, u117, u118, u119, u120, u121, u122, u123, u124, u125, u126, u127, u128, u129, u130, u131, u132, u133, u134, u135, u136, u137, u138, u139, u140, u141, u142, u143, u144, u145, u146, u147, u148, u149, u150, u151, u152, u153, u154, u155, u156, u157, u158, u159, u160, u161, u162, u163, u164, u165, u166, u167, u168, u169, u170, u171, u172, u173, u174, u175, u176, u177, u178, u179, u180, u181, u182, u183, u184, u185, u186, u187, u188, u189, u190, u191, u192, u193, u194, u195, u196, u197, u198, u199, u200, u201, u202, u203, u204, u205, u206, u207, u208, u209, u210, u211, u212, u213, u214, u215, u216, u217, u218, u219, u220, u221, u222, u223, u224, u225, u226, u227, u228, u229, u230, u231, u232, u233, u234, u235, u236, u237, u238, u239, u240, u241, u242, u243, u244, u245, u246, u247, u248, u249, u250, u251, u252, u253, u254, u255, u256, u257, u258, u259, u260, u261, u262, u263, u264, u265, u266, u267, u268, u269, u270, u271, u272, u273, u274, u275, u276, u277, u278, u279, u280, u281, u282, u283, u284, u285, u286, u287, u288, u289, u290, u291, u292, u293, u294, u295, u296, u297, u298, u299, u300, u301, u302, u303, u304, u305, u306, u307, u308, u309, u310, u311, u312, u313, u314, u315, u316, u317, u318, u319, u320, u321, u322, u323, u324, u325, u326, u327, u328, u329, u330, u331, u332, u333, u334, u335, u336, u337, u338, u339, u340, u341, u342, u343, u344, u345, u346, u347, u348, u349, u350, u351, u352, u353, u354, u355, u356, u357, u358, u359, u360, u361, u362, u363, u364, u365, u366, u367, u368, u369, u370, u371, u372], []⟩ w := by
  have HQ := Lib.hid hQ
  have HBL := Lib.hid hbl
  have HM := Lib.hid hm
  have HG := Lib.hid hg
  have HQM := Lib.hid hqm
  have HEV := Lib.hid hev
  have MKS := Lib.hid (fun (X' : World) (hg : X'.heap[q]? = some (.cells #[.int .i64 r.a.op, .int .i64 r.a.n, .int .i64 r.a.m, .string r.a.b.stream, .int .i64 r.a.b.expect, .int .i64 r.a.b.session, .int .i64 r.a.b.seq, .slice ba r.a.b.events.length bk, .string r.a.stream, .int .i64 r.a.from_, .int .i64 r.a.v.epoch, .slice ca r.a.v.chain.length ck, .slice sa r.a.v.since.length sk, .slice oa r.a.v.boot.length ok, .int .i64 r.a.out.code, .int .i64 r.a.out.pos, .int .i64 r.a.out.first, .int .i64 r.a.out.version, .slice ea r.a.events.length ek] 33)) => (show X'.cell? ⟨q, 2, none⟩ = some (.int .i64 r.a.m) ∧ X'.cell? ⟨q, 14, none⟩ = some (.int .i64 r.a.out.code) ∧ X'.cell? ⟨q, 15, none⟩ = some (.int .i64 r.a.out.pos) ∧ X'.cell? ⟨q, 16, none⟩ = some (.int .i64 r.a.out.first) ∧ X'.cell? ⟨q, 17, none⟩ = some (.int .i64 r.a.out.version) ∧ X'.cell? ⟨q, 18, none⟩ = some (.slice ea r.a.events.length ek) from ⟨by rw [Lib.cell_of_heap hg]; rfl, by rw [Lib.cell_of_heap hg]; rfl, by rw [Lib.cell_of_heap hg]; rfl, by rw [Lib.cell_of_heap hg]; rfl, by rw [Lib.cell_of_heap hg]; rfl, by rw [Lib.cell_of_heap hg]; rfl⟩))
  obtain ⟨pb, hpb⟩ : ∃ pb : Nat, pickT r.a.m 3 = pb := ⟨_, rfl⟩
  have hpbl : pb < 3 := by rw [← hpb]; exact pick_lt r.a.m 3 (by omega)
  have CPB := Lib.hid (fun (X' : World) => (show Calls Tryd.prog 14 #[.int .i64 r.a.m, .int .i64 3] X' fun r w' => r = .returned (.int .i64 (pb : Int)) ∧ X' = w' by have h := pick_any r.a.m hi2 3 (by omega) (by omega) X'; rw [hpb] at h; exact h))
  have heb : (pb : Int).tdiv 2 = ((pb / 2 : Nat) : Int) := by rw [Int.tdiv_eq_ediv_of_nonneg (by omega)]; rfl
  obtain ⟨eb, heq⟩ : ∃ eb : Nat, pb / 2 = eb := ⟨_, rfl⟩
  rw [heq] at heb
  have ewb : IntKind.i64.wrap (eb : Int) = (eb : Int) := by rw [IntKind.wrap_i64]; omega
  rw [hpb, heq] at hap
  have HAP := Lib.hid hap
  have HNP := Lib.hid hn
  clear hQ hbl hm hg hqm hpb heq hap hev hn
  conv => arg 2; whnf
  refine region_begin (S := fun X' => X'.cell? ⟨q, 2, none⟩ = some (.int .i64 r.a.m) ∧ X'.cell? ⟨q, 14, none⟩ = some (.int .i64 r.a.out.code) ∧ X'.cell? ⟨q, 15, none⟩ = some (.int .i64 r.a.out.pos) ∧ X'.cell? ⟨q, 16, none⟩ = some (.int .i64 r.a.out.first) ∧ X'.cell? ⟨q, 17, none⟩ = some (.int .i64 r.a.out.version) ∧ X'.cell? ⟨q, 18, none⟩ = some (.slice ea r.a.events.length ek)) 15 rfl (by kernel_rfl) (MKS.out _ (show w.drew.heap[q]? = _ from HG.out)) (fun hH0 => ?_)
  refine wpAnyH_take (i := 0) (oi := ?ob37_0) (v := ?vb37_0) ?hib37_0 (by kernel_rfl) (by kernel_rfl) (by kernel_rfl) ?hQb37_0 ?hyb37_0 hH0 ?_
  case hib37_0 => simp only [List.getElem?_toArray, List.getElem?_cons_zero]; rfl
  case hQb37_0 => exact fun p a w h => HBL.out p a w _ _ h
  case hyb37_0 => refine Or.inl ⟨by rfl, ?_⟩; intro W hSw; (try dsimp only at hSw); go_simp; try with_reducible rfl
  simp only [Act.put, List.setIfInBounds_toArray, List.set_cons_zero, List.set_cons_succ]
  refine wpAnyH_take (i := 1) (oi := ?ob37_1) (v := ?vb37_1) ?hib37_1 (by kernel_rfl) (by kernel_rfl) (by kernel_rfl) ?hQb37_1 ?hyb37_1 hH0 ?_
  case hib37_1 => simp only [List.getElem?_toArray, List.getElem?_cons_zero, List.getElem?_cons_succ]; rfl
  case hQb37_1 => exact fun p a w h => HBL.out p a w _ _ h
  case hyb37_1 => refine Or.inl ⟨by rfl, ?_⟩; intro W hSw; (try dsimp only at hSw); go_simp; try with_reducible rfl
  simp only [Act.put, List.setIfInBounds_toArray, List.set_cons_zero, List.set_cons_succ]
  refine wpAnyH_take (i := 2) (oi := ?ob37_2) (v := ?vb37_2) ?hib37_2 (by kernel_rfl) (by kernel_rfl) (by kernel_rfl) ?hQb37_2 ?hyb37_2 hH0 ?_
  case hib37_2 => simp only [List.getElem?_toArray, List.getElem?_cons_zero, List.getElem?_cons_succ]; rfl
  case hQb37_2 => exact fun p a w h => HBL.out p a w _ _ h
  case hyb37_2 => refine Or.inl ⟨by rfl, ?_⟩; intro W hSw; (try dsimp only at hSw); go_simp; try with_reducible rfl
  simp only [Act.put, List.setIfInBounds_toArray, List.set_cons_zero, List.set_cons_succ]
  refine wpAnyH_take (i := 3) (oi := ?ob37_3) (v := ?vb37_3) ?hib37_3 (by kernel_rfl) (by kernel_rfl) (by kernel_rfl) ?hQb37_3 ?hyb37_3 hH0 ?_
  case hib37_3 => simp only [List.getElem?_toArray, List.getElem?_cons_zero, List.getElem?_cons_succ]; rfl
  case hQb37_3 => exact fun p a w h => HBL.out p a w _ _ h
  case hyb37_3 => refine Or.inl ⟨by rfl, ?_⟩; intro W hSw; (try dsimp only at hSw); go_simp; try with_reducible rfl
  simp only [Act.put, List.setIfInBounds_toArray, List.set_cons_zero, List.set_cons_succ]
  refine wpAnyH_take (i := 6) (oi := ?ob37_6) (v := ?vb37_6) ?hib37_6 (by kernel_rfl) (by kernel_rfl) (by kernel_rfl) ?hQb37_6 ?hyb37_6 hH0 ?_
  case hib37_6 => simp only [List.getElem?_toArray, List.getElem?_cons_zero, List.getElem?_cons_succ]; rfl
  case hQb37_6 => exact fun p a w h => HBL.out p a w _ _ h
  case hyb37_6 => refine Or.inl ⟨by rfl, ?_⟩; intro W hSw; (try dsimp only at hSw); go_simp; try with_reducible rfl
  simp only [Act.put, List.setIfInBounds_toArray, List.set_cons_zero, List.set_cons_succ]
  refine wpAnyH_take (i := 7) (oi := ?ob37_7) (v := ?vb37_7) ?hib37_7 (by kernel_rfl) (by kernel_rfl) (by kernel_rfl) ?hQb37_7 ?hyb37_7 hH0 ?_
  case hib37_7 => simp only [List.getElem?_toArray, List.getElem?_cons_zero, List.getElem?_cons_succ]; rfl
  case hQb37_7 => exact fun p a w h => HBL.out p a w _ _ h
  case hyb37_7 => refine Or.inl ⟨by rfl, ?_⟩; intro W hSw; (try dsimp only at hSw); go_simp; try with_reducible rfl
  simp only [Act.put, List.setIfInBounds_toArray, List.set_cons_zero, List.set_cons_succ]
  refine wpAnyH_take (i := 8) (oi := ?ob37_8) (v := ?vb37_8) ?hib37_8 (by kernel_rfl) (by kernel_rfl) (by kernel_rfl) ?hQb37_8 ?hyb37_8 hH0 ?_
  case hib37_8 => simp only [List.getElem?_toArray, List.getElem?_cons_zero, List.getElem?_cons_succ]; rfl
  case hQb37_8 => exact fun p a w h => HBL.out p a w _ _ h
  case hyb37_8 => refine Or.inl ⟨by rfl, ?_⟩; intro W hSw; (try dsimp only at hSw); go_simp; try with_reducible rfl
  simp only [Act.put, List.setIfInBounds_toArray, List.set_cons_zero, List.set_cons_succ]
  refine wpAnyH_take (i := 9) (oi := ?ob37_9) (v := ?vb37_9) ?hib37_9 (by kernel_rfl) (by kernel_rfl) (by kernel_rfl) ?hQb37_9 ?hyb37_9 hH0 ?_
  case hib37_9 => simp only [List.getElem?_toArray, List.getElem?_cons_zero, List.getElem?_cons_succ]; rfl
  case hQb37_9 => exact fun p a w h => HBL.out p a w _ _ h
  case hyb37_9 => refine Or.inl ⟨by rfl, ?_⟩; intro W hSw; (try dsimp only at hSw); go_simp; try with_reducible rfl
  simp only [Act.put, List.setIfInBounds_toArray, List.set_cons_zero, List.set_cons_succ]
  refine wpAnyH_take (i := 10) (oi := ?ob37_10) (v := ?vb37_10) ?hib37_10 (by kernel_rfl) (by kernel_rfl) (by kernel_rfl) ?hQb37_10 ?hyb37_10 hH0 ?_
  case hib37_10 => simp only [List.getElem?_toArray, List.getElem?_cons_zero, List.getElem?_cons_succ]; rfl
  case hQb37_10 => exact fun p a w h => HBL.out p a w _ _ h
  case hyb37_10 => refine Or.inl ⟨by rfl, ?_⟩; intro W hSw; (try dsimp only at hSw); go_simp; try with_reducible rfl
  simp only [Act.put, List.setIfInBounds_toArray, List.set_cons_zero, List.set_cons_succ]
  refine wpAnyH_take (i := 11) (oi := ?ob37_11) (v := ?vb37_11) ?hib37_11 (by kernel_rfl) (by kernel_rfl) (by kernel_rfl) ?hQb37_11 ?hyb37_11 hH0 ?_
  case hib37_11 => simp only [List.getElem?_toArray, List.getElem?_cons_zero, List.getElem?_cons_succ]; rfl
  case hQb37_11 => exact fun p a w h => HBL.out p a w _ _ h
  case hyb37_11 => refine Or.inl ⟨by rfl, ?_⟩; intro W hSw; (try dsimp only at hSw); go_simp; try with_reducible rfl
  simp only [Act.put, List.setIfInBounds_toArray, List.set_cons_zero, List.set_cons_succ]
  refine wpAnyH_take (i := 12) (oi := ?ob37_12) (v := ?vb37_12) ?hib37_12 (by kernel_rfl) (by kernel_rfl) (by kernel_rfl) ?hQb37_12 ?hyb37_12 hH0 ?_
  case hib37_12 => simp only [List.getElem?_toArray, List.getElem?_cons_zero, List.getElem?_cons_succ]; rfl
  case hQb37_12 => exact fun p a w h => HBL.out p a w _ _ h
  case hyb37_12 => refine Or.inl ⟨by rfl, ?_⟩; intro W hSw; (try dsimp only at hSw); go_simp; try with_reducible rfl
  simp only [Act.put, List.setIfInBounds_toArray, List.set_cons_zero, List.set_cons_succ]
  clear hH0
  have HDE := Lib.hid (Below.refl w.heap.size w).drew
  have HMe := Lib.hid (HM.out.keep HDE.out)
  have Ge := Lib.hid (show w.drew.heap[q]? = _ from HG.out)
  have HEe := Lib.hid (HEV.out.keep (T := fun _ => False) (U := fun k => Q.mut m k ∨ X k) (kept_below HDE.out) (fun _ _ h => h.elim) (fun _ _ h => h))
  generalize w.drew = we at *
  refine wpAnyH_ready (rs := [4]) (by kernel_rfl) (by simp) ?_
  refine AllReadyH.cons (o := ?ob37_4) ?hob37_4 (fun K' hK => ?_) AllReadyH.nil
  case hob37_4 => simp only [List.getElem?_toArray, List.getElem?_cons_zero, List.getElem?_cons_succ]; rfl
  go_simp
  refine (CPB.out _).mono ?_
  rintro e we' ⟨rfl, rfl⟩
  refine hK.out _ _ (MKS.out _ Ge.out) (fun hH1 => ?_)
  clear hK K'
  (try simp only [Act.put, List.setIfInBounds_toArray, List.set_cons_zero, List.set_cons_succ])
  refine wpAnyH_take (i := 5) (oi := ?ob37_5) (v := ?vb37_5) ?hib37_5 (by kernel_rfl) (by kernel_rfl) (by kernel_rfl) ?hQb37_5 ?hyb37_5 hH1 ?_
  case hib37_5 => simp only [List.getElem?_toArray, List.getElem?_cons_zero, List.getElem?_cons_succ]; rfl
  case hQb37_5 => exact fun p a w h => HBL.out p a w _ _ h
  case hyb37_5 => refine Or.inl ⟨by rfl, ?_⟩; intro W hSw; (try dsimp only at hSw); go_simp; try with_reducible rfl
  simp only [Act.put, List.setIfInBounds_toArray, List.set_cons_zero, List.set_cons_succ]
  clear hH1
  have CB := Lib.hid (Rf.answer2_any X lo m Q we HMe.out hln id (eb : Int) r.a.out r.a.m ea ek r.a.events HEe.out now HNP.out s2 outs2 HAP.out)
  refine wpAnyH_ready (rs := [13]) (by kernel_rfl) (by simp) ?_
  refine AllReadyH.cons (o := ?ob37_c) ?hob37_c (fun K' hK => ?_) AllReadyH.nil
  case hob37_c => simp only [List.getElem?_toArray, List.getElem?_cons_zero, List.getElem?_cons_succ]; rfl
  go_simp
  refine CB.out.mono ?_
  rintro e w6 ⟨v, rfl, hd⟩
  have G6 := Lib.hid (show w6.heap[q]? = some _ from by
    obtain ⟨Q2, -, h2, h3, -⟩ := hd
    exact (h3.kept.block q (Array.getElem?_eq_some_iff.1 Ge.out).1 HQM.out).trans Ge.out)
  have HD := Lib.hid (Rf.rdoes_step HDE.out hd)
  clear hd
  refine hK.out _ _ (MKS.out _ G6.out) (fun hH2 => ?_)
  clear hK K'
  (try simp only [Act.put, List.setIfInBounds_toArray, List.set_cons_zero, List.set_cons_succ])
  refine wpAnyH_take (i := 14) (oi := ?ob37_e) (v := ?vb37_e) ?hib37_e (by kernel_rfl) (by kernel_rfl) (by kernel_rfl) ?hQb37_e ?hyb37_e hH2 ?_
  case hib37_e => simp only [List.getElem?_toArray, List.getElem?_cons_zero, List.getElem?_cons_succ]; rfl
  case hQb37_e => exact fun p a w h => HBL.out p a w _ _ h
  case hyb37_e => refine Or.inl ⟨by rfl, ?_⟩; intro W hSw; (try dsimp only at hSw); go_simp; try with_reducible rfl
  simp only [Act.put, List.setIfInBounds_toArray, List.set_cons_zero, List.set_cons_succ]
  clear hH2
  refine wpAnyH_done (by kernel_rfl) ?_ _
  exact HQ.out v _ _ _ _ _ _ _ _ _ _ _ _ _ _ w6 HD.out
end Go.Proofs.YtapgjjfndbfnpaaDoor
