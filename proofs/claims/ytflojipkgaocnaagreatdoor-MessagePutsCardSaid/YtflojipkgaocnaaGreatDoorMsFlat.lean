/-
  The walk of bucketlinelaw7.flat. Printed by gen_msflat.py of this claim's writer.
-/
import Derived.Test.YtflojipkgaocnaaGreatDoorMsTake
import Derived.Laws.ResultCell
namespace Go.Proofs.YtflojipkgaocnaaGreatDoor
open Go.RowKit
set_option linter.unusedSimpArgs false
set_option linter.unusedVariables false

structure FW where
  kind : Int
  nums : List Int
  chain : List Int
  since : List Int
  boot : List Int
  marks : List (Int × Int)
  entries : List EN
  events : List EV
  b : BW
  stream : ByteArray
def zeroF (k : Int) (n : List Int) : FW := ⟨k, n, [], [], [], [], [], [], zeroB, ⟨#[]⟩⟩
def flatM : Msg → FW
  | .beat a b c => zeroF 1 [a, b, c]
  | .join a b => zeroF 2 [a, b]
  | .lease a b => zeroF 3 [a, b]
  | .view a c s b => { zeroF 4 [a] with chain := c, since := s, boot := b }
  | .whr a => zeroF 5 [a]
  | .hav a b c l => { zeroF 6 [a, b, c] with marks := l }
  | .logs a b c d e f l => { zeroF 7 [a, b, c, d, e, f] with entries := l }
  | .ack a b c => zeroF 8 [a, b, c]
  | .ask a b c d => zeroF 9 [a, b, c, d]
  | .told a b c d => zeroF 10 [a, b, c, d]
  | .app a b => { zeroF 11 [a] with b := b }
  | .red a s f => { zeroF 12 [a, f] with stream := s }
  | .rep a b c d e f => zeroF 13 [a, b, c, d, e, f]
  | .res a b c l => { zeroF 14 [a, b, c] with events := l }
/-- A flat message, by its value. -/
def IsFlat (B : Nat) (w : World) (v : Value) (f : FW) : Prop :=
  ∃ nv cv sv bv mv ev vv lv, v = .agg #[.int .i64 f.kind, nv, cv, sv, bv, mv, ev, vv, .string f.b.stream, .int .i64 f.b.expect, .int .i64 f.b.session, .int .i64 f.b.seq, lv, .string f.stream] ∧
    IsNums B w nv f.nums ∧ IsNums B w cv f.chain ∧ IsNums B w sv f.since ∧ IsNums B w bv f.boot ∧ IsMarks B w mv f.marks ∧ IsEntries B w ev f.entries ∧ IsEvents B w vv f.events ∧ IsEvents B w lv f.b.events
theorem IsFlat.keep {B B' : Nat} {w w' : World} {v : Value} {f : FW} (h : IsFlat B w v f) (hb : Below B' w w') (hB : B ≤ B') : IsFlat B w' v f := by
  obtain ⟨nv, cv, sv, bv, mv, ev, vv, lv, h0, h1, h2, h3, h4, h5, h6, h7, h8⟩ := h
  exact ⟨nv, cv, sv, bv, mv, ev, vv, lv, h0, h1.keep hb hB, h2.keep hb hB, h3.keep hb hB, h4.keep hb hB, h5.keep hb hB, h6.keep hb hB, h7.keep hb hB, h8.keep hb hB⟩
theorem IsFlat.up {B B' : Nat} {w : World} {v : Value} {f : FW} (h : IsFlat B w v f) (hB : B ≤ B') : IsFlat B' w v f := by
  obtain ⟨nv, cv, sv, bv, mv, ev, vv, lv, h0, h1, h2, h3, h4, h5, h6, h7, h8⟩ := h
  exact ⟨nv, cv, sv, bv, mv, ev, vv, lv, h0, h1.up hB, h2.up hB, h3.up hB, h4.up hB, h5.up hB, h6.up hB, h7.up hB, h8.up hB⟩
def GotFlat (f : FW) (w : World) (r : Ending) (w' : World) : Prop := ∃ v, r = .returned (.tuple #[v, .bool true]) ∧ IsFlat w'.heap.size w' v f ∧ Below w.heap.size w w'
theorem fsize : (Tryz.prog.info? 37).map (·.size) = some 14 := by kernel_rfl
theorem ret_cell1 {P : Program} {fn : Func} {p u : Tmp} {ty t : TypeId} (h : fn.results = #[.cell p ty, .tmp u]) (tmps : Array Value) (w : World) (g : Nat) (cs : Array Value) {fr : Nat × Nat} (d : TypeDesc)
    (hp : tmps.getD p undef = .pointer (some ⟨g, 0, none⟩)) (hg : w.heap[g]? = some (.cells cs t fr))
    (hu : P.underlying ty = some d) (hd : (match d with | .struct _ | .array _ _ => true | _ => false) = true) (hi : (P.info? ty).map (·.size) = some cs.size) :
    (results fn tmps).run P w = .ok (.tuple #[.agg cs, tmps.getD u undef]) w := by
  rw [results_cell_tmp h, hp]
  simp only [asAddr, Sem.run_pure, Result.andThen_ok]
  rw [run_loadVar_row _ g t ty _ fr d hg hu hd hi]
  simp

theorem blk_set14 {w : World} {g : Nat} {a0 a1 a2 a3 a4 a5 a6 a7 a8 a9 a10 a11 a12 a13 : Value} {t : TypeId} {fr : Nat × Nat} (h : w.heap[g]? = some (.cells #[a0, a1, a2, a3, a4, a5, a6, a7, a8, a9, a10, a11, a12, a13] t fr)) (v0 v1 v2 v3 v4 v5 v6 v7 v8 v9 v10 v11 v12 v13 : Value) :
    (((((((((((((((w.setCell ⟨g, 0, none⟩ v0).setCell ⟨g, 1, none⟩ v1).setCell ⟨g, 2, none⟩ v2).setCell ⟨g, 3, none⟩ v3).setCell ⟨g, 4, none⟩ v4).setCell ⟨g, 5, none⟩ v5).setCell ⟨g, 6, none⟩ v6).setCell ⟨g, 7, none⟩ v7).setCell ⟨g, 8, none⟩ v8).setCell ⟨g, 9, none⟩ v9).setCell ⟨g, 10, none⟩ v10).setCell ⟨g, 11, none⟩ v11).setCell ⟨g, 12, none⟩ v12).setCell ⟨g, 13, none⟩ v13)).heap[g]? = some (.cells #[v0, v1, v2, v3, v4, v5, v6, v7, v8, v9, v10, v11, v12, v13] t fr) := by
  have h1 := blk_set (blk_set (blk_set (blk_set (blk_set (blk_set (blk_set (blk_set (blk_set (blk_set (blk_set (blk_set (blk_set (blk_set h 0 v0) 1 v1) 2 v2) 3 v3) 4 v4) 5 v5) 6 v6) 7 v7) 8 v8) 9 v9) 10 v10) 11 v11) 12 v12) 13 v13
  simp only [List.setIfInBounds_toArray, List.set_cons_zero, List.set_cons_succ] at h1
  exact h1
theorem below_set14 {w W : World} {B g : Nat} (h : Below B w W) (hg : B ≤ g) (v0 v1 v2 v3 v4 v5 v6 v7 v8 v9 v10 v11 v12 v13 : Value) : Below B w (((((((((((((((W.setCell ⟨g, 0, none⟩ v0).setCell ⟨g, 1, none⟩ v1).setCell ⟨g, 2, none⟩ v2).setCell ⟨g, 3, none⟩ v3).setCell ⟨g, 4, none⟩ v4).setCell ⟨g, 5, none⟩ v5).setCell ⟨g, 6, none⟩ v6).setCell ⟨g, 7, none⟩ v7).setCell ⟨g, 8, none⟩ v8).setCell ⟨g, 9, none⟩ v9).setCell ⟨g, 10, none⟩ v10).setCell ⟨g, 11, none⟩ v11).setCell ⟨g, 12, none⟩ v12).setCell ⟨g, 13, none⟩ v13)) :=
  (((((((((((((h.setCell (p := ⟨g, 0, none⟩) hg _).setCell (p := ⟨g, 1, none⟩) hg _).setCell (p := ⟨g, 2, none⟩) hg _).setCell (p := ⟨g, 3, none⟩) hg _).setCell (p := ⟨g, 4, none⟩) hg _).setCell (p := ⟨g, 5, none⟩) hg _).setCell (p := ⟨g, 6, none⟩) hg _).setCell (p := ⟨g, 7, none⟩) hg _).setCell (p := ⟨g, 8, none⟩) hg _).setCell (p := ⟨g, 9, none⟩) hg _).setCell (p := ⟨g, 10, none⟩) hg _).setCell (p := ⟨g, 11, none⟩) hg _).setCell (p := ⟨g, 12, none⟩) hg _).setCell (p := ⟨g, 13, none⟩) hg _

set_option maxRecDepth 100000 in
set_option maxHeartbeats 6400000 in
theorem flat_whr (B : Nat) (v : Value) (a : Int) (w : World) (h : IsMsg B w v (.whr a)) (hB : B ≤ w.heap.size) :
    Calls Tryz.prog 7 #[v] w fun r w' => GotFlat (flatM (.whr a)) w r w' := by
  have HK : HasKind v 5 := hasKind h
  obtain rfl := h
  obtain ⟨T, p, F, hv, hm, hcf, hc⟩ := HK
  injection hv with hv1 hv2
  subst hv1 hv2
  have HC := Lib.hid hc
  have qn : ∀ (W : World) (v : Value), (binOp .eql 34 (.iface 65 v) .nilIface).run Tryz.prog W = .ok (.bool false) W := fun W v => by kernel_rfl
  have a0 : ∀ (W : World) (v : Value), (Instr.typeAssert (.iface 65 v) 34 57 true).run Tryz.prog W = .ok (.tuple #[(.agg #[.int .i64 0, .int .i64 0, .int .i64 0]), .bool false]) W := fun W v => by kernel_rfl
  have a1 : ∀ (W : World) (v : Value), (Instr.typeAssert (.iface 65 v) 34 59 true).run Tryz.prog W = .ok (.tuple #[(.agg #[.int .i64 0, .int .i64 0]), .bool false]) W := fun W v => by kernel_rfl
  have a2 : ∀ (W : World) (v : Value), (Instr.typeAssert (.iface 65 v) 34 61 true).run Tryz.prog W = .ok (.tuple #[(.agg #[.int .i64 0, .int .i64 0]), .bool false]) W := fun W v => by kernel_rfl
  have a3 : ∀ (W : World) (v : Value), (Instr.typeAssert (.iface 65 v) 34 63 true).run Tryz.prog W = .ok (.tuple #[(.agg #[.int .i64 0, .slice none 0 0, .slice none 0 0, .slice none 0 0]), .bool false]) W := fun W v => by kernel_rfl
  have a4 : ∀ (W : World) (v : Value), (Instr.typeAssert (.iface 65 v) 34 65 true).run Tryz.prog W = .ok (.tuple #[v, .bool true]) W := fun W v => by kernel_rfl
  have HG0 := Lib.hid (heap_alloc_new w (.cells #[.int .i64 0, .slice none 0 0, .slice none 0 0, .slice none 0 0, .slice none 0 0, .slice none 0 0, .slice none 0 0, .slice none 0 0, .string ⟨#[]⟩, .int .i64 0, .int .i64 0, .int .i64 0, .slice none 0 0, .string ⟨#[]⟩] 37))
  have HB0 := Lib.hid ((Below.refl w.heap.size w).alloc (Nat.le_refl _) (.cells #[.int .i64 0, .slice none 0 0, .slice none 0 0, .slice none 0 0, .slice none 0 0, .slice none 0 0, .slice none 0 0, .slice none 0 0, .string ⟨#[]⟩, .int .i64 0, .int .i64 0, .int .i64 0, .slice none 0 0, .string ⟨#[]⟩] 37))
  clear hc
  go_enter Tryz.func7, Tryz.ntmps7
  go_wp2_with fail
  refine (HC.out _).mono ?_
  rintro r w1 ⟨rfl, hb1⟩
  have HB1 := Lib.hid (bstep HB0.out hb1)
  have hg1 := (hb1.block w.heap.size (by simp only [World.size_alloc]; omega)).trans HG0.out
  have HG1 := Lib.hid hg1
  have hlt1 : w.heap.size < w1.heap.size := (Array.getElem?_eq_some_iff.1 hg1).1
  have z0 : w1.cell? ⟨w.heap.size, 0, none⟩ = some (.int .i64 0) := by rw [Lib.cell_of_heap hg1]; rfl
  have k0 : w1.frozen? ⟨w.heap.size, 0, none⟩ = false := Lib.frozen_of_heap hg1 0
  have z1 : w1.cell? ⟨w.heap.size, 1, none⟩ = some (.slice none 0 0) := by rw [Lib.cell_of_heap hg1]; rfl
  have k1 : w1.frozen? ⟨w.heap.size, 1, none⟩ = false := Lib.frozen_of_heap hg1 1
  have z2 : w1.cell? ⟨w.heap.size, 2, none⟩ = some (.slice none 0 0) := by rw [Lib.cell_of_heap hg1]; rfl
  have k2 : w1.frozen? ⟨w.heap.size, 2, none⟩ = false := Lib.frozen_of_heap hg1 2
  have z3 : w1.cell? ⟨w.heap.size, 3, none⟩ = some (.slice none 0 0) := by rw [Lib.cell_of_heap hg1]; rfl
  have k3 : w1.frozen? ⟨w.heap.size, 3, none⟩ = false := Lib.frozen_of_heap hg1 3
  have z4 : w1.cell? ⟨w.heap.size, 4, none⟩ = some (.slice none 0 0) := by rw [Lib.cell_of_heap hg1]; rfl
  have k4 : w1.frozen? ⟨w.heap.size, 4, none⟩ = false := Lib.frozen_of_heap hg1 4
  have z5 : w1.cell? ⟨w.heap.size, 5, none⟩ = some (.slice none 0 0) := by rw [Lib.cell_of_heap hg1]; rfl
  have k5 : w1.frozen? ⟨w.heap.size, 5, none⟩ = false := Lib.frozen_of_heap hg1 5
  have z6 : w1.cell? ⟨w.heap.size, 6, none⟩ = some (.slice none 0 0) := by rw [Lib.cell_of_heap hg1]; rfl
  have k6 : w1.frozen? ⟨w.heap.size, 6, none⟩ = false := Lib.frozen_of_heap hg1 6
  have z7 : w1.cell? ⟨w.heap.size, 7, none⟩ = some (.slice none 0 0) := by rw [Lib.cell_of_heap hg1]; rfl
  have k7 : w1.frozen? ⟨w.heap.size, 7, none⟩ = false := Lib.frozen_of_heap hg1 7
  have z8 : w1.cell? ⟨w.heap.size, 8, none⟩ = some (.string ⟨#[]⟩) := by rw [Lib.cell_of_heap hg1]; rfl
  have k8 : w1.frozen? ⟨w.heap.size, 8, none⟩ = false := Lib.frozen_of_heap hg1 8
  have z9 : w1.cell? ⟨w.heap.size, 9, none⟩ = some (.int .i64 0) := by rw [Lib.cell_of_heap hg1]; rfl
  have k9 : w1.frozen? ⟨w.heap.size, 9, none⟩ = false := Lib.frozen_of_heap hg1 9
  have z10 : w1.cell? ⟨w.heap.size, 10, none⟩ = some (.int .i64 0) := by rw [Lib.cell_of_heap hg1]; rfl
  have k10 : w1.frozen? ⟨w.heap.size, 10, none⟩ = false := Lib.frozen_of_heap hg1 10
  have z11 : w1.cell? ⟨w.heap.size, 11, none⟩ = some (.int .i64 0) := by rw [Lib.cell_of_heap hg1]; rfl
  have k11 : w1.frozen? ⟨w.heap.size, 11, none⟩ = false := Lib.frozen_of_heap hg1 11
  have z12 : w1.cell? ⟨w.heap.size, 12, none⟩ = some (.slice none 0 0) := by rw [Lib.cell_of_heap hg1]; rfl
  have k12 : w1.frozen? ⟨w.heap.size, 12, none⟩ = false := Lib.frozen_of_heap hg1 12
  have z13 : w1.cell? ⟨w.heap.size, 13, none⟩ = some (.string ⟨#[]⟩) := by rw [Lib.cell_of_heap hg1]; rfl
  have k13 : w1.frozen? ⟨w.heap.size, 13, none⟩ = false := Lib.frozen_of_heap hg1 13
  have n1 : w.heap.size < w1.heap.size + 1 := by omega
  have n2 : w.heap.size < w1.heap.size + 1 + 1 := by omega
  clear hb1 hg1
  go_wp2_with fail
  (try simp only [Exit.inBlock, Exit.then])
  refine bodyPost_ret (ret_cell1 (t := 37) (fr := (0, 0)) rfl _ _ w.heap.size #[.int .i64 5, .slice (some ⟨w1.heap.size + 1 + 1, 0, none⟩) 1 1, .slice none 0 0, .slice none 0 0, .slice none 0 0, .slice none 0 0, .slice none 0 0, .slice none 0 0, .string ⟨#[]⟩, .int .i64 0, .int .i64 0, .int .i64 0, .slice none 0 0, .string ⟨#[]⟩] _ (by rfl) ?hg Tryz.underlying37 rfl fsize) rfl ?_
  case hg =>
    rw [heap_alloc_old _ _ (by simp only [World.size_alloc, World.size_setCell]; omega), heap_alloc_old _ _ (by simp only [World.size_alloc, World.size_setCell]; omega), heap_alloc_old _ _ (by simp only [World.size_alloc, World.size_setCell]; omega)]
    exact blk_set14 HG1.out (.int .i64 5) (.slice (some ⟨w1.heap.size + 1 + 1, 0, none⟩) 1 1) (.slice none 0 0) (.slice none 0 0) (.slice none 0 0) (.slice none 0 0) (.slice none 0 0) (.slice none 0 0) (.string ⟨#[]⟩) (.int .i64 0) (.int .i64 0) (.int .i64 0) (.slice none 0 0) (.string ⟨#[]⟩)
  have HBW := (((below_set14 HB1.out (Nat.le_refl _) (.int .i64 5) (.slice (some ⟨w1.heap.size + 1 + 1, 0, none⟩) 1 1) (.slice none 0 0) (.slice none 0 0) (.slice none 0 0) (.slice none 0 0) (.slice none 0 0) (.slice none 0 0) (.string ⟨#[]⟩) (.int .i64 0) (.int .i64 0) (.int .i64 0) (.slice none 0 0) (.string ⟨#[]⟩)).alloc (by simp only [World.size_setCell]; omega) (.cells #[.int .i64 5, .slice (some ⟨w1.heap.size + 1 + 1, 0, none⟩) 1 1, .slice none 0 0, .slice none 0 0, .slice none 0 0, .slice none 0 0, .slice none 0 0, .slice none 0 0, .string ⟨#[]⟩, .int .i64 0, .int .i64 0, .int .i64 0, .slice none 0 0, .string ⟨#[]⟩] 37)).alloc (by simp only [World.size_alloc, World.size_setCell]; omega) (.cells #[.int .i64 a] 65)).alloc (by simp only [World.size_alloc, World.size_setCell]; omega) (.cells #[.int .i64 a] 3)
  exact ⟨_, rfl, ⟨_, _, _, _, _, _, _, _, rfl, row_block [a] _ _ _ (by unfold maxLen; simp only [List.length_cons, List.length_nil]; omega) _ (by simp only [World.size_alloc, World.size_setCell]), row_nil _ _, row_nil _ _, row_nil _ _, row_nil _ _, entries_nil _ _, events_nil _ _, events_nil _ _⟩, HBW⟩
end Go.Proofs.YtflojipkgaocnaaGreatDoor
