/-
  MsFlatA, MsFlatB, MsSame6, MsSame7, MsLaw4, in one text.
-/
import Derived.Test.YtflojipkgaocnaaDoorMsFlat
import Derived.Test.YtflojipkgaocnaaDoorMsData
import Derived.BigQuiet
import Derived.Laws.StructEq
import Derived.Deep.QuietTactic
import Derived.Deep.RegionHeld3
import Derived.Test.YtflojipkgaocnaaDoorMsTwo
import Derived.IntWalk
import Derived.Test.YtflojipkgaocnaaDoorMsShown
namespace Go.Proofs.YtflojipkgaocnaaDoor
open Go.RowKit
set_option linter.unusedSimpArgs false
set_option linter.unusedVariables false

set_option maxRecDepth 100000 in
set_option maxHeartbeats 6400000 in
theorem flat_beat (B : Nat) (v : Value) (a b c : Int) (w : World) (h : IsMsg B w v (.beat a b c)) (hB : B ≤ w.heap.size) :
    Calls Tryd.prog 14 #[v] w fun r w' => GotFlat (flatM (.beat a b c)) w r w' := by
  have HK : HasKind v 1 := hasKind h
  obtain rfl := h
  obtain ⟨T, p, F, hv, hm, hcf, hc⟩ := HK
  injection hv with hv1 hv2
  subst hv1 hv2
  have HC := Lib.hid hc
  have qn : ∀ (W : World) (v : Value), (binOp .eql 34 (.iface 59 v) .nilIface).run Tryd.prog W = .ok (.bool false) W := fun W v => by kernel_rfl
  have a0 : ∀ (W : World) (v : Value), (Instr.typeAssert (.iface 59 v) 34 59 true).run Tryd.prog W = .ok (.tuple #[v, .bool true]) W := fun W v => by kernel_rfl
  have HG0 := Lib.hid (heap_alloc_new w (.cells #[.int .i64 0, .slice none 0 0, .slice none 0 0, .slice none 0 0, .slice none 0 0, .slice none 0 0, .slice none 0 0, .slice none 0 0, .string ⟨#[]⟩, .int .i64 0, .int .i64 0, .int .i64 0, .slice none 0 0, .string ⟨#[]⟩] 44))
  have HB0 := Lib.hid ((Below.refl w.heap.size w).alloc (Nat.le_refl _) (.cells #[.int .i64 0, .slice none 0 0, .slice none 0 0, .slice none 0 0, .slice none 0 0, .slice none 0 0, .slice none 0 0, .slice none 0 0, .string ⟨#[]⟩, .int .i64 0, .int .i64 0, .int .i64 0, .slice none 0 0, .string ⟨#[]⟩] 44))
  clear hc
  go_enter Tryd.func14, Tryd.ntmps14
  go_wp2_with fail
  refine (HC.out _).mono ?_
  rintro r w1 ⟨rfl, hb1⟩
  have HB1 := Lib.hid (bstep HB0.out hb1)
  have hg1 := (hb1.block w.heap.size (by simp only [World.size_alloc]; omega)).trans HG0.out
  have HG1 := Lib.hid hg1
  have hlt1 : w.heap.size < w1.heap.size := (Array.getElem?_eq_some_iff.1 hg1).1
  have z0 : w1.cell? ⟨w.heap.size, 0, none⟩ = some (.int .i64 0) := by rw [Lib.cell_of_heap hg1]; rfl
  have k0 : w1.frozen? ⟨w.heap.size, 0, none⟩ = false := Lib.frozen_of_heap hg1 0
  have z1 : w1.cell? ⟨w.heap.size, 1, none⟩ = some (.slice none 0 0) := by rw [Lib.cell_of_heap hg1]; rfl
  have k1 : w1.frozen? ⟨w.heap.size, 1, none⟩ = false := Lib.frozen_of_heap hg1 1
  have z2 : w1.cell? ⟨w.heap.size, 2, none⟩ = some (.slice none 0 0) := by rw [Lib.cell_of_heap hg1]; rfl
  have k2 : w1.frozen? ⟨w.heap.size, 2, none⟩ = false := Lib.frozen_of_heap hg1 2
  have z3 : w1.cell? ⟨w.heap.size, 3, none⟩ = some (.slice none 0 0) := by rw [Lib.cell_of_heap hg1]; rfl
  have k3 : w1.frozen? ⟨w.heap.size, 3, none⟩ = false := Lib.frozen_of_heap hg1 3
  have z4 : w1.cell? ⟨w.heap.size, 4, none⟩ = some (.slice none 0 0) := by rw [Lib.cell_of_heap hg1]; rfl
  have k4 : w1.frozen? ⟨w.heap.size, 4, none⟩ = false := Lib.frozen_of_heap hg1 4
  have z5 : w1.cell? ⟨w.heap.size, 5, none⟩ = some (.slice none 0 0) := by rw [Lib.cell_of_heap hg1]; rfl
  have k5 : w1.frozen? ⟨w.heap.size, 5, none⟩ = false := Lib.frozen_of_heap hg1 5
  have z6 : w1.cell? ⟨w.heap.size, 6, none⟩ = some (.slice none 0 0) := by rw [Lib.cell_of_heap hg1]; rfl
  have k6 : w1.frozen? ⟨w.heap.size, 6, none⟩ = false := Lib.frozen_of_heap hg1 6
  have z7 : w1.cell? ⟨w.heap.size, 7, none⟩ = some (.slice none 0 0) := by rw [Lib.cell_of_heap hg1]; rfl
  have k7 : w1.frozen? ⟨w.heap.size, 7, none⟩ = false := Lib.frozen_of_heap hg1 7
  have z8 : w1.cell? ⟨w.heap.size, 8, none⟩ = some (.string ⟨#[]⟩) := by rw [Lib.cell_of_heap hg1]; rfl
  have k8 : w1.frozen? ⟨w.heap.size, 8, none⟩ = false := Lib.frozen_of_heap hg1 8
  have z9 : w1.cell? ⟨w.heap.size, 9, none⟩ = some (.int .i64 0) := by rw [Lib.cell_of_heap hg1]; rfl
  have k9 : w1.frozen? ⟨w.heap.size, 9, none⟩ = false := Lib.frozen_of_heap hg1 9
  have z10 : w1.cell? ⟨w.heap.size, 10, none⟩ = some (.int .i64 0) := by rw [Lib.cell_of_heap hg1]; rfl
  have k10 : w1.frozen? ⟨w.heap.size, 10, none⟩ = false := Lib.frozen_of_heap hg1 10
  have z11 : w1.cell? ⟨w.heap.size, 11, none⟩ = some (.int .i64 0) := by rw [Lib.cell_of_heap hg1]; rfl
  have k11 : w1.frozen? ⟨w.heap.size, 11, none⟩ = false := Lib.frozen_of_heap hg1 11
  have z12 : w1.cell? ⟨w.heap.size, 12, none⟩ = some (.slice none 0 0) := by rw [Lib.cell_of_heap hg1]; rfl
  have k12 : w1.frozen? ⟨w.heap.size, 12, none⟩ = false := Lib.frozen_of_heap hg1 12
  have z13 : w1.cell? ⟨w.heap.size, 13, none⟩ = some (.string ⟨#[]⟩) := by rw [Lib.cell_of_heap hg1]; rfl
  have k13 : w1.frozen? ⟨w.heap.size, 13, none⟩ = false := Lib.frozen_of_heap hg1 13
  have n1 : w.heap.size < w1.heap.size + 1 := by omega
  have n2 : w.heap.size < w1.heap.size + 1 + 1 := by omega
  clear hb1 hg1
  go_wp2_with fail
  (try simp only [Exit.inBlock, Exit.then])
  refine bodyPost_ret (ret_cell1 (t := 44) (fr := (0, 0)) rfl _ _ w.heap.size #[.int .i64 1, .slice (some ⟨w1.heap.size + 1 + 1, 0, none⟩) 3 3, .slice none 0 0, .slice none 0 0, .slice none 0 0, .slice none 0 0, .slice none 0 0, .slice none 0 0, .string ⟨#[]⟩, .int .i64 0, .int .i64 0, .int .i64 0, .slice none 0 0, .string ⟨#[]⟩] _ (by rfl) ?hg Tryd.underlying44 rfl fsize) rfl ?_
  case hg =>
    rw [heap_alloc_old _ _ (by simp only [World.size_alloc, World.size_setCell]; omega), heap_alloc_old _ _ (by simp only [World.size_alloc, World.size_setCell]; omega), heap_alloc_old _ _ (by simp only [World.size_alloc, World.size_setCell]; omega)]
    exact blk_set14 HG1.out (.int .i64 1) (.slice (some ⟨w1.heap.size + 1 + 1, 0, none⟩) 3 3) (.slice none 0 0) (.slice none 0 0) (.slice none 0 0) (.slice none 0 0) (.slice none 0 0) (.slice none 0 0) (.string ⟨#[]⟩) (.int .i64 0) (.int .i64 0) (.int .i64 0) (.slice none 0 0) (.string ⟨#[]⟩)
  have HBW := (((below_set14 HB1.out (Nat.le_refl _) (.int .i64 1) (.slice (some ⟨w1.heap.size + 1 + 1, 0, none⟩) 3 3) (.slice none 0 0) (.slice none 0 0) (.slice none 0 0) (.slice none 0 0) (.slice none 0 0) (.slice none 0 0) (.string ⟨#[]⟩) (.int .i64 0) (.int .i64 0) (.int .i64 0) (.slice none 0 0) (.string ⟨#[]⟩)).alloc (by simp only [World.size_setCell]; omega) (.cells #[.int .i64 1, .slice (some ⟨w1.heap.size + 1 + 1, 0, none⟩) 3 3, .slice none 0 0, .slice none 0 0, .slice none 0 0, .slice none 0 0, .slice none 0 0, .slice none 0 0, .string ⟨#[]⟩, .int .i64 0, .int .i64 0, .int .i64 0, .slice none 0 0, .string ⟨#[]⟩] 44)).alloc (by simp only [World.size_alloc, World.size_setCell]; omega) (.cells #[.int .i64 a, .int .i64 b, .int .i64 c] 59)).alloc (by simp only [World.size_alloc, World.size_setCell]; omega) (.cells #[.int .i64 a, .int .i64 b, .int .i64 c] 3)
  exact ⟨_, rfl, ⟨_, _, _, _, _, _, _, _, rfl, row_block [a, b, c] _ _ _ (by unfold maxLen; simp only [List.length_cons, List.length_nil]; omega) _ (by simp only [World.size_alloc, World.size_setCell]), row_nil _ _, row_nil _ _, row_nil _ _, row_nil _ _, entries_nil _ _, events_nil _ _, events_nil _ _⟩, HBW⟩

set_option maxRecDepth 100000 in
set_option maxHeartbeats 6400000 in
theorem flat_join (B : Nat) (v : Value) (a b : Int) (w : World) (h : IsMsg B w v (.join a b)) (hB : B ≤ w.heap.size) :
    Calls Tryd.prog 14 #[v] w fun r w' => GotFlat (flatM (.join a b)) w r w' := by
  have HK : HasKind v 2 := hasKind h
  obtain rfl := h
  obtain ⟨T, p, F, hv, hm, hcf, hc⟩ := HK
  injection hv with hv1 hv2
  subst hv1 hv2
  have HC := Lib.hid hc
  have qn : ∀ (W : World) (v : Value), (binOp .eql 34 (.iface 61 v) .nilIface).run Tryd.prog W = .ok (.bool false) W := fun W v => by kernel_rfl
  have a0 : ∀ (W : World) (v : Value), (Instr.typeAssert (.iface 61 v) 34 59 true).run Tryd.prog W = .ok (.tuple #[(.agg #[.int .i64 0, .int .i64 0, .int .i64 0]), .bool false]) W := fun W v => by kernel_rfl
  have a1 : ∀ (W : World) (v : Value), (Instr.typeAssert (.iface 61 v) 34 61 true).run Tryd.prog W = .ok (.tuple #[v, .bool true]) W := fun W v => by kernel_rfl
  have HG0 := Lib.hid (heap_alloc_new w (.cells #[.int .i64 0, .slice none 0 0, .slice none 0 0, .slice none 0 0, .slice none 0 0, .slice none 0 0, .slice none 0 0, .slice none 0 0, .string ⟨#[]⟩, .int .i64 0, .int .i64 0, .int .i64 0, .slice none 0 0, .string ⟨#[]⟩] 44))
  have HB0 := Lib.hid ((Below.refl w.heap.size w).alloc (Nat.le_refl _) (.cells #[.int .i64 0, .slice none 0 0, .slice none 0 0, .slice none 0 0, .slice none 0 0, .slice none 0 0, .slice none 0 0, .slice none 0 0, .string ⟨#[]⟩, .int .i64 0, .int .i64 0, .int .i64 0, .slice none 0 0, .string ⟨#[]⟩] 44))
  clear hc
  go_enter Tryd.func14, Tryd.ntmps14
  go_wp2_with fail
  refine (HC.out _).mono ?_
  rintro r w1 ⟨rfl, hb1⟩
  have HB1 := Lib.hid (bstep HB0.out hb1)
  have hg1 := (hb1.block w.heap.size (by simp only [World.size_alloc]; omega)).trans HG0.out
  have HG1 := Lib.hid hg1
  have hlt1 : w.heap.size < w1.heap.size := (Array.getElem?_eq_some_iff.1 hg1).1
  have z0 : w1.cell? ⟨w.heap.size, 0, none⟩ = some (.int .i64 0) := by rw [Lib.cell_of_heap hg1]; rfl
  have k0 : w1.frozen? ⟨w.heap.size, 0, none⟩ = false := Lib.frozen_of_heap hg1 0
  have z1 : w1.cell? ⟨w.heap.size, 1, none⟩ = some (.slice none 0 0) := by rw [Lib.cell_of_heap hg1]; rfl
  have k1 : w1.frozen? ⟨w.heap.size, 1, none⟩ = false := Lib.frozen_of_heap hg1 1
  have z2 : w1.cell? ⟨w.heap.size, 2, none⟩ = some (.slice none 0 0) := by rw [Lib.cell_of_heap hg1]; rfl
  have k2 : w1.frozen? ⟨w.heap.size, 2, none⟩ = false := Lib.frozen_of_heap hg1 2
  have z3 : w1.cell? ⟨w.heap.size, 3, none⟩ = some (.slice none 0 0) := by rw [Lib.cell_of_heap hg1]; rfl
  have k3 : w1.frozen? ⟨w.heap.size, 3, none⟩ = false := Lib.frozen_of_heap hg1 3
  have z4 : w1.cell? ⟨w.heap.size, 4, none⟩ = some (.slice none 0 0) := by rw [Lib.cell_of_heap hg1]; rfl
  have k4 : w1.frozen? ⟨w.heap.size, 4, none⟩ = false := Lib.frozen_of_heap hg1 4
  have z5 : w1.cell? ⟨w.heap.size, 5, none⟩ = some (.slice none 0 0) := by rw [Lib.cell_of_heap hg1]; rfl
  have k5 : w1.frozen? ⟨w.heap.size, 5, none⟩ = false := Lib.frozen_of_heap hg1 5
  have z6 : w1.cell? ⟨w.heap.size, 6, none⟩ = some (.slice none 0 0) := by rw [Lib.cell_of_heap hg1]; rfl
  have k6 : w1.frozen? ⟨w.heap.size, 6, none⟩ = false := Lib.frozen_of_heap hg1 6
  have z7 : w1.cell? ⟨w.heap.size, 7, none⟩ = some (.slice none 0 0) := by rw [Lib.cell_of_heap hg1]; rfl
  have k7 : w1.frozen? ⟨w.heap.size, 7, none⟩ = false := Lib.frozen_of_heap hg1 7
  have z8 : w1.cell? ⟨w.heap.size, 8, none⟩ = some (.string ⟨#[]⟩) := by rw [Lib.cell_of_heap hg1]; rfl
  have k8 : w1.frozen? ⟨w.heap.size, 8, none⟩ = false := Lib.frozen_of_heap hg1 8
  have z9 : w1.cell? ⟨w.heap.size, 9, none⟩ = some (.int .i64 0) := by rw [Lib.cell_of_heap hg1]; rfl
  have k9 : w1.frozen? ⟨w.heap.size, 9, none⟩ = false := Lib.frozen_of_heap hg1 9
  have z10 : w1.cell? ⟨w.heap.size, 10, none⟩ = some (.int .i64 0) := by rw [Lib.cell_of_heap hg1]; rfl
  have k10 : w1.frozen? ⟨w.heap.size, 10, none⟩ = false := Lib.frozen_of_heap hg1 10
  have z11 : w1.cell? ⟨w.heap.size, 11, none⟩ = some (.int .i64 0) := by rw [Lib.cell_of_heap hg1]; rfl
  have k11 : w1.frozen? ⟨w.heap.size, 11, none⟩ = false := Lib.frozen_of_heap hg1 11
  have z12 : w1.cell? ⟨w.heap.size, 12, none⟩ = some (.slice none 0 0) := by rw [Lib.cell_of_heap hg1]; rfl
  have k12 : w1.frozen? ⟨w.heap.size, 12, none⟩ = false := Lib.frozen_of_heap hg1 12
  have z13 : w1.cell? ⟨w.heap.size, 13, none⟩ = some (.string ⟨#[]⟩) := by rw [Lib.cell_of_heap hg1]; rfl
  have k13 : w1.frozen? ⟨w.heap.size, 13, none⟩ = false := Lib.frozen_of_heap hg1 13
  have n1 : w.heap.size < w1.heap.size + 1 := by omega
  have n2 : w.heap.size < w1.heap.size + 1 + 1 := by omega
  clear hb1 hg1
  go_wp2_with fail
  (try simp only [Exit.inBlock, Exit.then])
  refine bodyPost_ret (ret_cell1 (t := 44) (fr := (0, 0)) rfl _ _ w.heap.size #[.int .i64 2, .slice (some ⟨w1.heap.size + 1 + 1, 0, none⟩) 2 2, .slice none 0 0, .slice none 0 0, .slice none 0 0, .slice none 0 0, .slice none 0 0, .slice none 0 0, .string ⟨#[]⟩, .int .i64 0, .int .i64 0, .int .i64 0, .slice none 0 0, .string ⟨#[]⟩] _ (by rfl) ?hg Tryd.underlying44 rfl fsize) rfl ?_
  case hg =>
    rw [heap_alloc_old _ _ (by simp only [World.size_alloc, World.size_setCell]; omega), heap_alloc_old _ _ (by simp only [World.size_alloc, World.size_setCell]; omega), heap_alloc_old _ _ (by simp only [World.size_alloc, World.size_setCell]; omega)]
    exact blk_set14 HG1.out (.int .i64 2) (.slice (some ⟨w1.heap.size + 1 + 1, 0, none⟩) 2 2) (.slice none 0 0) (.slice none 0 0) (.slice none 0 0) (.slice none 0 0) (.slice none 0 0) (.slice none 0 0) (.string ⟨#[]⟩) (.int .i64 0) (.int .i64 0) (.int .i64 0) (.slice none 0 0) (.string ⟨#[]⟩)
  have HBW := (((below_set14 HB1.out (Nat.le_refl _) (.int .i64 2) (.slice (some ⟨w1.heap.size + 1 + 1, 0, none⟩) 2 2) (.slice none 0 0) (.slice none 0 0) (.slice none 0 0) (.slice none 0 0) (.slice none 0 0) (.slice none 0 0) (.string ⟨#[]⟩) (.int .i64 0) (.int .i64 0) (.int .i64 0) (.slice none 0 0) (.string ⟨#[]⟩)).alloc (by simp only [World.size_setCell]; omega) (.cells #[.int .i64 2, .slice (some ⟨w1.heap.size + 1 + 1, 0, none⟩) 2 2, .slice none 0 0, .slice none 0 0, .slice none 0 0, .slice none 0 0, .slice none 0 0, .slice none 0 0, .string ⟨#[]⟩, .int .i64 0, .int .i64 0, .int .i64 0, .slice none 0 0, .string ⟨#[]⟩] 44)).alloc (by simp only [World.size_alloc, World.size_setCell]; omega) (.cells #[.int .i64 a, .int .i64 b] 61)).alloc (by simp only [World.size_alloc, World.size_setCell]; omega) (.cells #[.int .i64 a, .int .i64 b] 3)
  exact ⟨_, rfl, ⟨_, _, _, _, _, _, _, _, rfl, row_block [a, b] _ _ _ (by unfold maxLen; simp only [List.length_cons, List.length_nil]; omega) _ (by simp only [World.size_alloc, World.size_setCell]), row_nil _ _, row_nil _ _, row_nil _ _, row_nil _ _, entries_nil _ _, events_nil _ _, events_nil _ _⟩, HBW⟩

set_option maxRecDepth 100000 in
set_option maxHeartbeats 6400000 in
theorem flat_lease (B : Nat) (v : Value) (a b : Int) (w : World) (h : IsMsg B w v (.lease a b)) (hB : B ≤ w.heap.size) :
    Calls Tryd.prog 14 #[v] w fun r w' => GotFlat (flatM (.lease a b)) w r w' := by
  have HK : HasKind v 3 := hasKind h
  obtain rfl := h
  obtain ⟨T, p, F, hv, hm, hcf, hc⟩ := HK
  injection hv with hv1 hv2
  subst hv1 hv2
  have HC := Lib.hid hc
  have qn : ∀ (W : World) (v : Value), (binOp .eql 34 (.iface 63 v) .nilIface).run Tryd.prog W = .ok (.bool false) W := fun W v => by kernel_rfl
  have a0 : ∀ (W : World) (v : Value), (Instr.typeAssert (.iface 63 v) 34 59 true).run Tryd.prog W = .ok (.tuple #[(.agg #[.int .i64 0, .int .i64 0, .int .i64 0]), .bool false]) W := fun W v => by kernel_rfl
  have a1 : ∀ (W : World) (v : Value), (Instr.typeAssert (.iface 63 v) 34 61 true).run Tryd.prog W = .ok (.tuple #[(.agg #[.int .i64 0, .int .i64 0]), .bool false]) W := fun W v => by kernel_rfl
  have a2 : ∀ (W : World) (v : Value), (Instr.typeAssert (.iface 63 v) 34 63 true).run Tryd.prog W = .ok (.tuple #[v, .bool true]) W := fun W v => by kernel_rfl
  have HG0 := Lib.hid (heap_alloc_new w (.cells #[.int .i64 0, .slice none 0 0, .slice none 0 0, .slice none 0 0, .slice none 0 0, .slice none 0 0, .slice none 0 0, .slice none 0 0, .string ⟨#[]⟩, .int .i64 0, .int .i64 0, .int .i64 0, .slice none 0 0, .string ⟨#[]⟩] 44))
  have HB0 := Lib.hid ((Below.refl w.heap.size w).alloc (Nat.le_refl _) (.cells #[.int .i64 0, .slice none 0 0, .slice none 0 0, .slice none 0 0, .slice none 0 0, .slice none 0 0, .slice none 0 0, .slice none 0 0, .string ⟨#[]⟩, .int .i64 0, .int .i64 0, .int .i64 0, .slice none 0 0, .string ⟨#[]⟩] 44))
  clear hc
  go_enter Tryd.func14, Tryd.ntmps14
  go_wp2_with fail
  refine (HC.out _).mono ?_
  rintro r w1 ⟨rfl, hb1⟩
  have HB1 := Lib.hid (bstep HB0.out hb1)
  have hg1 := (hb1.block w.heap.size (by simp only [World.size_alloc]; omega)).trans HG0.out
  have HG1 := Lib.hid hg1
  have hlt1 : w.heap.size < w1.heap.size := (Array.getElem?_eq_some_iff.1 hg1).1
  have z0 : w1.cell? ⟨w.heap.size, 0, none⟩ = some (.int .i64 0) := by rw [Lib.cell_of_heap hg1]; rfl
  have k0 : w1.frozen? ⟨w.heap.size, 0, none⟩ = false := Lib.frozen_of_heap hg1 0
  have z1 : w1.cell? ⟨w.heap.size, 1, none⟩ = some (.slice none 0 0) := by rw [Lib.cell_of_heap hg1]; rfl
  have k1 : w1.frozen? ⟨w.heap.size, 1, none⟩ = false := Lib.frozen_of_heap hg1 1
  have z2 : w1.cell? ⟨w.heap.size, 2, none⟩ = some (.slice none 0 0) := by rw [Lib.cell_of_heap hg1]; rfl
  have k2 : w1.frozen? ⟨w.heap.size, 2, none⟩ = false := Lib.frozen_of_heap hg1 2
  have z3 : w1.cell? ⟨w.heap.size, 3, none⟩ = some (.slice none 0 0) := by rw [Lib.cell_of_heap hg1]; rfl
  have k3 : w1.frozen? ⟨w.heap.size, 3, none⟩ = false := Lib.frozen_of_heap hg1 3
  have z4 : w1.cell? ⟨w.heap.size, 4, none⟩ = some (.slice none 0 0) := by rw [Lib.cell_of_heap hg1]; rfl
  have k4 : w1.frozen? ⟨w.heap.size, 4, none⟩ = false := Lib.frozen_of_heap hg1 4
  have z5 : w1.cell? ⟨w.heap.size, 5, none⟩ = some (.slice none 0 0) := by rw [Lib.cell_of_heap hg1]; rfl
  have k5 : w1.frozen? ⟨w.heap.size, 5, none⟩ = false := Lib.frozen_of_heap hg1 5
  have z6 : w1.cell? ⟨w.heap.size, 6, none⟩ = some (.slice none 0 0) := by rw [Lib.cell_of_heap hg1]; rfl
  have k6 : w1.frozen? ⟨w.heap.size, 6, none⟩ = false := Lib.frozen_of_heap hg1 6
  have z7 : w1.cell? ⟨w.heap.size, 7, none⟩ = some (.slice none 0 0) := by rw [Lib.cell_of_heap hg1]; rfl
  have k7 : w1.frozen? ⟨w.heap.size, 7, none⟩ = false := Lib.frozen_of_heap hg1 7
  have z8 : w1.cell? ⟨w.heap.size, 8, none⟩ = some (.string ⟨#[]⟩) := by rw [Lib.cell_of_heap hg1]; rfl
  have k8 : w1.frozen? ⟨w.heap.size, 8, none⟩ = false := Lib.frozen_of_heap hg1 8
  have z9 : w1.cell? ⟨w.heap.size, 9, none⟩ = some (.int .i64 0) := by rw [Lib.cell_of_heap hg1]; rfl
  have k9 : w1.frozen? ⟨w.heap.size, 9, none⟩ = false := Lib.frozen_of_heap hg1 9
  have z10 : w1.cell? ⟨w.heap.size, 10, none⟩ = some (.int .i64 0) := by rw [Lib.cell_of_heap hg1]; rfl
  have k10 : w1.frozen? ⟨w.heap.size, 10, none⟩ = false := Lib.frozen_of_heap hg1 10
  have z11 : w1.cell? ⟨w.heap.size, 11, none⟩ = some (.int .i64 0) := by rw [Lib.cell_of_heap hg1]; rfl
  have k11 : w1.frozen? ⟨w.heap.size, 11, none⟩ = false := Lib.frozen_of_heap hg1 11
  have z12 : w1.cell? ⟨w.heap.size, 12, none⟩ = some (.slice none 0 0) := by rw [Lib.cell_of_heap hg1]; rfl
  have k12 : w1.frozen? ⟨w.heap.size, 12, none⟩ = false := Lib.frozen_of_heap hg1 12
  have z13 : w1.cell? ⟨w.heap.size, 13, none⟩ = some (.string ⟨#[]⟩) := by rw [Lib.cell_of_heap hg1]; rfl
  have k13 : w1.frozen? ⟨w.heap.size, 13, none⟩ = false := Lib.frozen_of_heap hg1 13
  have n1 : w.heap.size < w1.heap.size + 1 := by omega
  have n2 : w.heap.size < w1.heap.size + 1 + 1 := by omega
  clear hb1 hg1
  go_wp2_with fail
  (try simp only [Exit.inBlock, Exit.then])
  refine bodyPost_ret (ret_cell1 (t := 44) (fr := (0, 0)) rfl _ _ w.heap.size #[.int .i64 3, .slice (some ⟨w1.heap.size + 1 + 1, 0, none⟩) 2 2, .slice none 0 0, .slice none 0 0, .slice none 0 0, .slice none 0 0, .slice none 0 0, .slice none 0 0, .string ⟨#[]⟩, .int .i64 0, .int .i64 0, .int .i64 0, .slice none 0 0, .string ⟨#[]⟩] _ (by rfl) ?hg Tryd.underlying44 rfl fsize) rfl ?_
  case hg =>
    rw [heap_alloc_old _ _ (by simp only [World.size_alloc, World.size_setCell]; omega), heap_alloc_old _ _ (by simp only [World.size_alloc, World.size_setCell]; omega), heap_alloc_old _ _ (by simp only [World.size_alloc, World.size_setCell]; omega)]
    exact blk_set14 HG1.out (.int .i64 3) (.slice (some ⟨w1.heap.size + 1 + 1, 0, none⟩) 2 2) (.slice none 0 0) (.slice none 0 0) (.slice none 0 0) (.slice none 0 0) (.slice none 0 0) (.slice none 0 0) (.string ⟨#[]⟩) (.int .i64 0) (.int .i64 0) (.int .i64 0) (.slice none 0 0) (.string ⟨#[]⟩)
  have HBW := (((below_set14 HB1.out (Nat.le_refl _) (.int .i64 3) (.slice (some ⟨w1.heap.size + 1 + 1, 0, none⟩) 2 2) (.slice none 0 0) (.slice none 0 0) (.slice none 0 0) (.slice none 0 0) (.slice none 0 0) (.slice none 0 0) (.string ⟨#[]⟩) (.int .i64 0) (.int .i64 0) (.int .i64 0) (.slice none 0 0) (.string ⟨#[]⟩)).alloc (by simp only [World.size_setCell]; omega) (.cells #[.int .i64 3, .slice (some ⟨w1.heap.size + 1 + 1, 0, none⟩) 2 2, .slice none 0 0, .slice none 0 0, .slice none 0 0, .slice none 0 0, .slice none 0 0, .slice none 0 0, .string ⟨#[]⟩, .int .i64 0, .int .i64 0, .int .i64 0, .slice none 0 0, .string ⟨#[]⟩] 44)).alloc (by simp only [World.size_alloc, World.size_setCell]; omega) (.cells #[.int .i64 a, .int .i64 b] 63)).alloc (by simp only [World.size_alloc, World.size_setCell]; omega) (.cells #[.int .i64 a, .int .i64 b] 3)
  exact ⟨_, rfl, ⟨_, _, _, _, _, _, _, _, rfl, row_block [a, b] _ _ _ (by unfold maxLen; simp only [List.length_cons, List.length_nil]; omega) _ (by simp only [World.size_alloc, World.size_setCell]), row_nil _ _, row_nil _ _, row_nil _ _, row_nil _ _, entries_nil _ _, events_nil _ _, events_nil _ _⟩, HBW⟩

set_option maxRecDepth 100000 in
set_option maxHeartbeats 6400000 in
theorem flat_view (B : Nat) (v : Value) (a : Int) (c s b : List Int) (w : World) (h : IsMsg B w v (.view a c s b)) (hB : B ≤ w.heap.size) :
    Calls Tryd.prog 14 #[v] w fun r w' => GotFlat (flatM (.view a c s b)) w r w' := by
  have HK : HasKind v 4 := hasKind h
  obtain ⟨cv, sv, bv, rfl, i1, i2, i3⟩ := h
  obtain ⟨p1, q1, rfl⟩ := i1.form
  obtain ⟨p2, q2, rfl⟩ := i2.form
  obtain ⟨p3, q3, rfl⟩ := i3.form
  have I1 := Lib.hid i1
  have I2 := Lib.hid i2
  have I3 := Lib.hid i3
  clear i1 i2 i3
  obtain ⟨T, p, F, hv, hm, hcf, hc⟩ := HK
  injection hv with hv1 hv2
  subst hv1 hv2
  have HC := Lib.hid hc
  have qn : ∀ (W : World) (v : Value), (binOp .eql 34 (.iface 65 v) .nilIface).run Tryd.prog W = .ok (.bool false) W := fun W v => by kernel_rfl
  have a0 : ∀ (W : World) (v : Value), (Instr.typeAssert (.iface 65 v) 34 59 true).run Tryd.prog W = .ok (.tuple #[(.agg #[.int .i64 0, .int .i64 0, .int .i64 0]), .bool false]) W := fun W v => by kernel_rfl
  have a1 : ∀ (W : World) (v : Value), (Instr.typeAssert (.iface 65 v) 34 61 true).run Tryd.prog W = .ok (.tuple #[(.agg #[.int .i64 0, .int .i64 0]), .bool false]) W := fun W v => by kernel_rfl
  have a2 : ∀ (W : World) (v : Value), (Instr.typeAssert (.iface 65 v) 34 63 true).run Tryd.prog W = .ok (.tuple #[(.agg #[.int .i64 0, .int .i64 0]), .bool false]) W := fun W v => by kernel_rfl
  have a3 : ∀ (W : World) (v : Value), (Instr.typeAssert (.iface 65 v) 34 65 true).run Tryd.prog W = .ok (.tuple #[v, .bool true]) W := fun W v => by kernel_rfl
  have HG0 := Lib.hid (heap_alloc_new w (.cells #[.int .i64 0, .slice none 0 0, .slice none 0 0, .slice none 0 0, .slice none 0 0, .slice none 0 0, .slice none 0 0, .slice none 0 0, .string ⟨#[]⟩, .int .i64 0, .int .i64 0, .int .i64 0, .slice none 0 0, .string ⟨#[]⟩] 44))
  have HB0 := Lib.hid ((Below.refl w.heap.size w).alloc (Nat.le_refl _) (.cells #[.int .i64 0, .slice none 0 0, .slice none 0 0, .slice none 0 0, .slice none 0 0, .slice none 0 0, .slice none 0 0, .slice none 0 0, .string ⟨#[]⟩, .int .i64 0, .int .i64 0, .int .i64 0, .slice none 0 0, .string ⟨#[]⟩] 44))
  clear hc
  go_enter Tryd.func14, Tryd.ntmps14
  go_wp2_with fail
  refine (HC.out _).mono ?_
  rintro r w1 ⟨rfl, hb1⟩
  have HB1 := Lib.hid (bstep HB0.out hb1)
  have hg1 := (hb1.block w.heap.size (by simp only [World.size_alloc]; omega)).trans HG0.out
  have HG1 := Lib.hid hg1
  have hlt1 : w.heap.size < w1.heap.size := (Array.getElem?_eq_some_iff.1 hg1).1
  have z0 : w1.cell? ⟨w.heap.size, 0, none⟩ = some (.int .i64 0) := by rw [Lib.cell_of_heap hg1]; rfl
  have k0 : w1.frozen? ⟨w.heap.size, 0, none⟩ = false := Lib.frozen_of_heap hg1 0
  have z1 : w1.cell? ⟨w.heap.size, 1, none⟩ = some (.slice none 0 0) := by rw [Lib.cell_of_heap hg1]; rfl
  have k1 : w1.frozen? ⟨w.heap.size, 1, none⟩ = false := Lib.frozen_of_heap hg1 1
  have z2 : w1.cell? ⟨w.heap.size, 2, none⟩ = some (.slice none 0 0) := by rw [Lib.cell_of_heap hg1]; rfl
  have k2 : w1.frozen? ⟨w.heap.size, 2, none⟩ = false := Lib.frozen_of_heap hg1 2
  have z3 : w1.cell? ⟨w.heap.size, 3, none⟩ = some (.slice none 0 0) := by rw [Lib.cell_of_heap hg1]; rfl
  have k3 : w1.frozen? ⟨w.heap.size, 3, none⟩ = false := Lib.frozen_of_heap hg1 3
  have z4 : w1.cell? ⟨w.heap.size, 4, none⟩ = some (.slice none 0 0) := by rw [Lib.cell_of_heap hg1]; rfl
  have k4 : w1.frozen? ⟨w.heap.size, 4, none⟩ = false := Lib.frozen_of_heap hg1 4
  have z5 : w1.cell? ⟨w.heap.size, 5, none⟩ = some (.slice none 0 0) := by rw [Lib.cell_of_heap hg1]; rfl
  have k5 : w1.frozen? ⟨w.heap.size, 5, none⟩ = false := Lib.frozen_of_heap hg1 5
  have z6 : w1.cell? ⟨w.heap.size, 6, none⟩ = some (.slice none 0 0) := by rw [Lib.cell_of_heap hg1]; rfl
  have k6 : w1.frozen? ⟨w.heap.size, 6, none⟩ = false := Lib.frozen_of_heap hg1 6
  have z7 : w1.cell? ⟨w.heap.size, 7, none⟩ = some (.slice none 0 0) := by rw [Lib.cell_of_heap hg1]; rfl
  have k7 : w1.frozen? ⟨w.heap.size, 7, none⟩ = false := Lib.frozen_of_heap hg1 7
  have z8 : w1.cell? ⟨w.heap.size, 8, none⟩ = some (.string ⟨#[]⟩) := by rw [Lib.cell_of_heap hg1]; rfl
  have k8 : w1.frozen? ⟨w.heap.size, 8, none⟩ = false := Lib.frozen_of_heap hg1 8
  have z9 : w1.cell? ⟨w.heap.size, 9, none⟩ = some (.int .i64 0) := by rw [Lib.cell_of_heap hg1]; rfl
  have k9 : w1.frozen? ⟨w.heap.size, 9, none⟩ = false := Lib.frozen_of_heap hg1 9
  have z10 : w1.cell? ⟨w.heap.size, 10, none⟩ = some (.int .i64 0) := by rw [Lib.cell_of_heap hg1]; rfl
  have k10 : w1.frozen? ⟨w.heap.size, 10, none⟩ = false := Lib.frozen_of_heap hg1 10
  have z11 : w1.cell? ⟨w.heap.size, 11, none⟩ = some (.int .i64 0) := by rw [Lib.cell_of_heap hg1]; rfl
  have k11 : w1.frozen? ⟨w.heap.size, 11, none⟩ = false := Lib.frozen_of_heap hg1 11
  have z12 : w1.cell? ⟨w.heap.size, 12, none⟩ = some (.slice none 0 0) := by rw [Lib.cell_of_heap hg1]; rfl
  have k12 : w1.frozen? ⟨w.heap.size, 12, none⟩ = false := Lib.frozen_of_heap hg1 12
  have z13 : w1.cell? ⟨w.heap.size, 13, none⟩ = some (.string ⟨#[]⟩) := by rw [Lib.cell_of_heap hg1]; rfl
  have k13 : w1.frozen? ⟨w.heap.size, 13, none⟩ = false := Lib.frozen_of_heap hg1 13
  have n1 : w.heap.size < w1.heap.size + 1 := by omega
  have n2 : w.heap.size < w1.heap.size + 1 + 1 := by omega
  clear hb1 hg1
  go_wp2_with fail
  (try simp only [Exit.inBlock, Exit.then])
  refine bodyPost_ret (ret_cell1 (t := 44) (fr := (0, 0)) rfl _ _ w.heap.size #[.int .i64 4, .slice (some ⟨w1.heap.size + 1 + 1, 0, none⟩) 1 1, .slice p1 c.length q1, .slice p2 s.length q2, .slice p3 b.length q3, .slice none 0 0, .slice none 0 0, .slice none 0 0, .string ⟨#[]⟩, .int .i64 0, .int .i64 0, .int .i64 0, .slice none 0 0, .string ⟨#[]⟩] _ (by rfl) ?hg Tryd.underlying44 rfl fsize) rfl ?_
  case hg =>
    rw [heap_alloc_old _ _ (by simp only [World.size_alloc, World.size_setCell]; omega), heap_alloc_old _ _ (by simp only [World.size_alloc, World.size_setCell]; omega), heap_alloc_old _ _ (by simp only [World.size_alloc, World.size_setCell]; omega)]
    exact blk_set14 HG1.out (.int .i64 4) (.slice (some ⟨w1.heap.size + 1 + 1, 0, none⟩) 1 1) (.slice p1 c.length q1) (.slice p2 s.length q2) (.slice p3 b.length q3) (.slice none 0 0) (.slice none 0 0) (.slice none 0 0) (.string ⟨#[]⟩) (.int .i64 0) (.int .i64 0) (.int .i64 0) (.slice none 0 0) (.string ⟨#[]⟩)
  have HBW := (((below_set14 HB1.out (Nat.le_refl _) (.int .i64 4) (.slice (some ⟨w1.heap.size + 1 + 1, 0, none⟩) 1 1) (.slice p1 c.length q1) (.slice p2 s.length q2) (.slice p3 b.length q3) (.slice none 0 0) (.slice none 0 0) (.slice none 0 0) (.string ⟨#[]⟩) (.int .i64 0) (.int .i64 0) (.int .i64 0) (.slice none 0 0) (.string ⟨#[]⟩)).alloc (by simp only [World.size_setCell]; omega) (.cells #[.int .i64 4, .slice (some ⟨w1.heap.size + 1 + 1, 0, none⟩) 1 1, .slice p1 c.length q1, .slice p2 s.length q2, .slice p3 b.length q3, .slice none 0 0, .slice none 0 0, .slice none 0 0, .string ⟨#[]⟩, .int .i64 0, .int .i64 0, .int .i64 0, .slice none 0 0, .string ⟨#[]⟩] 44)).alloc (by simp only [World.size_alloc, World.size_setCell]; omega) (.cells #[.int .i64 a, .slice p1 c.length q1, .slice p2 s.length q2, .slice p3 b.length q3] 65)).alloc (by simp only [World.size_alloc, World.size_setCell]; omega) (.cells #[.int .i64 a] 3)
  exact ⟨_, rfl, ⟨_, _, _, _, _, _, _, _, rfl, row_block [a] _ _ _ (by unfold maxLen; simp only [List.length_cons, List.length_nil]; omega) _ (by simp only [World.size_alloc, World.size_setCell]), ((I1.out.keep HBW hB).up (Nat.le_trans hB HBW.size)), ((I2.out.keep HBW hB).up (Nat.le_trans hB HBW.size)), ((I3.out.keep HBW hB).up (Nat.le_trans hB HBW.size)), row_nil _ _, entries_nil _ _, events_nil _ _, events_nil _ _⟩, HBW⟩

set_option maxRecDepth 100000 in
set_option maxHeartbeats 6400000 in
theorem flat_hav (B : Nat) (v : Value) (a b c : Int) (l : List (Int × Int)) (w : World) (h : IsMsg B w v (.hav a b c l)) (hB : B ≤ w.heap.size) :
    Calls Tryd.prog 14 #[v] w fun r w' => GotFlat (flatM (.hav a b c l)) w r w' := by
  have HK : HasKind v 6 := hasKind h
  obtain ⟨lv, rfl, i1⟩ := h
  obtain ⟨p1, q1, rfl⟩ := i1.form
  have I1 := Lib.hid i1
  clear i1
  obtain ⟨T, p, F, hv, hm, hcf, hc⟩ := HK
  injection hv with hv1 hv2
  subst hv1 hv2
  have HC := Lib.hid hc
  have qn : ∀ (W : World) (v : Value), (binOp .eql 34 (.iface 69 v) .nilIface).run Tryd.prog W = .ok (.bool false) W := fun W v => by kernel_rfl
  have a0 : ∀ (W : World) (v : Value), (Instr.typeAssert (.iface 69 v) 34 59 true).run Tryd.prog W = .ok (.tuple #[(.agg #[.int .i64 0, .int .i64 0, .int .i64 0]), .bool false]) W := fun W v => by kernel_rfl
  have a1 : ∀ (W : World) (v : Value), (Instr.typeAssert (.iface 69 v) 34 61 true).run Tryd.prog W = .ok (.tuple #[(.agg #[.int .i64 0, .int .i64 0]), .bool false]) W := fun W v => by kernel_rfl
  have a2 : ∀ (W : World) (v : Value), (Instr.typeAssert (.iface 69 v) 34 63 true).run Tryd.prog W = .ok (.tuple #[(.agg #[.int .i64 0, .int .i64 0]), .bool false]) W := fun W v => by kernel_rfl
  have a3 : ∀ (W : World) (v : Value), (Instr.typeAssert (.iface 69 v) 34 65 true).run Tryd.prog W = .ok (.tuple #[(.agg #[.int .i64 0, .slice none 0 0, .slice none 0 0, .slice none 0 0]), .bool false]) W := fun W v => by kernel_rfl
  have a4 : ∀ (W : World) (v : Value), (Instr.typeAssert (.iface 69 v) 34 67 true).run Tryd.prog W = .ok (.tuple #[(.agg #[.int .i64 0]), .bool false]) W := fun W v => by kernel_rfl
  have a5 : ∀ (W : World) (v : Value), (Instr.typeAssert (.iface 69 v) 34 69 true).run Tryd.prog W = .ok (.tuple #[v, .bool true]) W := fun W v => by kernel_rfl
  have HG0 := Lib.hid (heap_alloc_new w (.cells #[.int .i64 0, .slice none 0 0, .slice none 0 0, .slice none 0 0, .slice none 0 0, .slice none 0 0, .slice none 0 0, .slice none 0 0, .string ⟨#[]⟩, .int .i64 0, .int .i64 0, .int .i64 0, .slice none 0 0, .string ⟨#[]⟩] 44))
  have HB0 := Lib.hid ((Below.refl w.heap.size w).alloc (Nat.le_refl _) (.cells #[.int .i64 0, .slice none 0 0, .slice none 0 0, .slice none 0 0, .slice none 0 0, .slice none 0 0, .slice none 0 0, .slice none 0 0, .string ⟨#[]⟩, .int .i64 0, .int .i64 0, .int .i64 0, .slice none 0 0, .string ⟨#[]⟩] 44))
  clear hc
  go_enter Tryd.func14, Tryd.ntmps14
  go_wp2_with fail
  refine (HC.out _).mono ?_
  rintro r w1 ⟨rfl, hb1⟩
  have HB1 := Lib.hid (bstep HB0.out hb1)
  have hg1 := (hb1.block w.heap.size (by simp only [World.size_alloc]; omega)).trans HG0.out
  have HG1 := Lib.hid hg1
  have hlt1 : w.heap.size < w1.heap.size := (Array.getElem?_eq_some_iff.1 hg1).1
  have z0 : w1.cell? ⟨w.heap.size, 0, none⟩ = some (.int .i64 0) := by rw [Lib.cell_of_heap hg1]; rfl
  have k0 : w1.frozen? ⟨w.heap.size, 0, none⟩ = false := Lib.frozen_of_heap hg1 0
  have z1 : w1.cell? ⟨w.heap.size, 1, none⟩ = some (.slice none 0 0) := by rw [Lib.cell_of_heap hg1]; rfl
  have k1 : w1.frozen? ⟨w.heap.size, 1, none⟩ = false := Lib.frozen_of_heap hg1 1
  have z2 : w1.cell? ⟨w.heap.size, 2, none⟩ = some (.slice none 0 0) := by rw [Lib.cell_of_heap hg1]; rfl
  have k2 : w1.frozen? ⟨w.heap.size, 2, none⟩ = false := Lib.frozen_of_heap hg1 2
  have z3 : w1.cell? ⟨w.heap.size, 3, none⟩ = some (.slice none 0 0) := by rw [Lib.cell_of_heap hg1]; rfl
  have k3 : w1.frozen? ⟨w.heap.size, 3, none⟩ = false := Lib.frozen_of_heap hg1 3
  have z4 : w1.cell? ⟨w.heap.size, 4, none⟩ = some (.slice none 0 0) := by rw [Lib.cell_of_heap hg1]; rfl
  have k4 : w1.frozen? ⟨w.heap.size, 4, none⟩ = false := Lib.frozen_of_heap hg1 4
  have z5 : w1.cell? ⟨w.heap.size, 5, none⟩ = some (.slice none 0 0) := by rw [Lib.cell_of_heap hg1]; rfl
  have k5 : w1.frozen? ⟨w.heap.size, 5, none⟩ = false := Lib.frozen_of_heap hg1 5
  have z6 : w1.cell? ⟨w.heap.size, 6, none⟩ = some (.slice none 0 0) := by rw [Lib.cell_of_heap hg1]; rfl
  have k6 : w1.frozen? ⟨w.heap.size, 6, none⟩ = false := Lib.frozen_of_heap hg1 6
  have z7 : w1.cell? ⟨w.heap.size, 7, none⟩ = some (.slice none 0 0) := by rw [Lib.cell_of_heap hg1]; rfl
  have k7 : w1.frozen? ⟨w.heap.size, 7, none⟩ = false := Lib.frozen_of_heap hg1 7
  have z8 : w1.cell? ⟨w.heap.size, 8, none⟩ = some (.string ⟨#[]⟩) := by rw [Lib.cell_of_heap hg1]; rfl
  have k8 : w1.frozen? ⟨w.heap.size, 8, none⟩ = false := Lib.frozen_of_heap hg1 8
  have z9 : w1.cell? ⟨w.heap.size, 9, none⟩ = some (.int .i64 0) := by rw [Lib.cell_of_heap hg1]; rfl
  have k9 : w1.frozen? ⟨w.heap.size, 9, none⟩ = false := Lib.frozen_of_heap hg1 9
  have z10 : w1.cell? ⟨w.heap.size, 10, none⟩ = some (.int .i64 0) := by rw [Lib.cell_of_heap hg1]; rfl
  have k10 : w1.frozen? ⟨w.heap.size, 10, none⟩ = false := Lib.frozen_of_heap hg1 10
  have z11 : w1.cell? ⟨w.heap.size, 11, none⟩ = some (.int .i64 0) := by rw [Lib.cell_of_heap hg1]; rfl
  have k11 : w1.frozen? ⟨w.heap.size, 11, none⟩ = false := Lib.frozen_of_heap hg1 11
  have z12 : w1.cell? ⟨w.heap.size, 12, none⟩ = some (.slice none 0 0) := by rw [Lib.cell_of_heap hg1]; rfl
  have k12 : w1.frozen? ⟨w.heap.size, 12, none⟩ = false := Lib.frozen_of_heap hg1 12
  have z13 : w1.cell? ⟨w.heap.size, 13, none⟩ = some (.string ⟨#[]⟩) := by rw [Lib.cell_of_heap hg1]; rfl
  have k13 : w1.frozen? ⟨w.heap.size, 13, none⟩ = false := Lib.frozen_of_heap hg1 13
  have n1 : w.heap.size < w1.heap.size + 1 := by omega
  have n2 : w.heap.size < w1.heap.size + 1 + 1 := by omega
  clear hb1 hg1
  go_wp2_with fail
  (try simp only [Exit.inBlock, Exit.then])
  refine bodyPost_ret (ret_cell1 (t := 44) (fr := (0, 0)) rfl _ _ w.heap.size #[.int .i64 6, .slice (some ⟨w1.heap.size + 1 + 1, 0, none⟩) 3 3, .slice none 0 0, .slice none 0 0, .slice none 0 0, .slice p1 l.length q1, .slice none 0 0, .slice none 0 0, .string ⟨#[]⟩, .int .i64 0, .int .i64 0, .int .i64 0, .slice none 0 0, .string ⟨#[]⟩] _ (by rfl) ?hg Tryd.underlying44 rfl fsize) rfl ?_
  case hg =>
    rw [heap_alloc_old _ _ (by simp only [World.size_alloc, World.size_setCell]; omega), heap_alloc_old _ _ (by simp only [World.size_alloc, World.size_setCell]; omega), heap_alloc_old _ _ (by simp only [World.size_alloc, World.size_setCell]; omega)]
    exact blk_set14 HG1.out (.int .i64 6) (.slice (some ⟨w1.heap.size + 1 + 1, 0, none⟩) 3 3) (.slice none 0 0) (.slice none 0 0) (.slice none 0 0) (.slice p1 l.length q1) (.slice none 0 0) (.slice none 0 0) (.string ⟨#[]⟩) (.int .i64 0) (.int .i64 0) (.int .i64 0) (.slice none 0 0) (.string ⟨#[]⟩)
  have HBW := (((below_set14 HB1.out (Nat.le_refl _) (.int .i64 6) (.slice (some ⟨w1.heap.size + 1 + 1, 0, none⟩) 3 3) (.slice none 0 0) (.slice none 0 0) (.slice none 0 0) (.slice p1 l.length q1) (.slice none 0 0) (.slice none 0 0) (.string ⟨#[]⟩) (.int .i64 0) (.int .i64 0) (.int .i64 0) (.slice none 0 0) (.string ⟨#[]⟩)).alloc (by simp only [World.size_setCell]; omega) (.cells #[.int .i64 6, .slice (some ⟨w1.heap.size + 1 + 1, 0, none⟩) 3 3, .slice none 0 0, .slice none 0 0, .slice none 0 0, .slice p1 l.length q1, .slice none 0 0, .slice none 0 0, .string ⟨#[]⟩, .int .i64 0, .int .i64 0, .int .i64 0, .slice none 0 0, .string ⟨#[]⟩] 44)).alloc (by simp only [World.size_alloc, World.size_setCell]; omega) (.cells #[.int .i64 a, .int .i64 b, .int .i64 c, .slice p1 l.length q1] 69)).alloc (by simp only [World.size_alloc, World.size_setCell]; omega) (.cells #[.int .i64 a, .int .i64 b, .int .i64 c] 3)
  exact ⟨_, rfl, ⟨_, _, _, _, _, _, _, _, rfl, row_block [a, b, c] _ _ _ (by unfold maxLen; simp only [List.length_cons, List.length_nil]; omega) _ (by simp only [World.size_alloc, World.size_setCell]), row_nil _ _, row_nil _ _, row_nil _ _, ((I1.out.keep HBW hB).up (Nat.le_trans hB HBW.size)), entries_nil _ _, events_nil _ _, events_nil _ _⟩, HBW⟩

set_option maxRecDepth 100000 in
set_option maxHeartbeats 6400000 in
theorem flat_logs (B : Nat) (v : Value) (a b c d e f : Int) (l : List EN) (w : World) (h : IsMsg B w v (.logs a b c d e f l)) (hB : B ≤ w.heap.size) :
    Calls Tryd.prog 14 #[v] w fun r w' => GotFlat (flatM (.logs a b c d e f l)) w r w' := by
  have HK : HasKind v 7 := hasKind h
  obtain ⟨lv, rfl, i1⟩ := h
  obtain ⟨p1, q1, rfl⟩ := i1.form
  have I1 := Lib.hid i1
  clear i1
  obtain ⟨T, p, F, hv, hm, hcf, hc⟩ := HK
  injection hv with hv1 hv2
  subst hv1 hv2
  have HC := Lib.hid hc
  have qn : ∀ (W : World) (v : Value), (binOp .eql 34 (.iface 71 v) .nilIface).run Tryd.prog W = .ok (.bool false) W := fun W v => by kernel_rfl
  have a0 : ∀ (W : World) (v : Value), (Instr.typeAssert (.iface 71 v) 34 59 true).run Tryd.prog W = .ok (.tuple #[(.agg #[.int .i64 0, .int .i64 0, .int .i64 0]), .bool false]) W := fun W v => by kernel_rfl
  have a1 : ∀ (W : World) (v : Value), (Instr.typeAssert (.iface 71 v) 34 61 true).run Tryd.prog W = .ok (.tuple #[(.agg #[.int .i64 0, .int .i64 0]), .bool false]) W := fun W v => by kernel_rfl
  have a2 : ∀ (W : World) (v : Value), (Instr.typeAssert (.iface 71 v) 34 63 true).run Tryd.prog W = .ok (.tuple #[(.agg #[.int .i64 0, .int .i64 0]), .bool false]) W := fun W v => by kernel_rfl
  have a3 : ∀ (W : World) (v : Value), (Instr.typeAssert (.iface 71 v) 34 65 true).run Tryd.prog W = .ok (.tuple #[(.agg #[.int .i64 0, .slice none 0 0, .slice none 0 0, .slice none 0 0]), .bool false]) W := fun W v => by kernel_rfl
  have a4 : ∀ (W : World) (v : Value), (Instr.typeAssert (.iface 71 v) 34 67 true).run Tryd.prog W = .ok (.tuple #[(.agg #[.int .i64 0]), .bool false]) W := fun W v => by kernel_rfl
  have a5 : ∀ (W : World) (v : Value), (Instr.typeAssert (.iface 71 v) 34 69 true).run Tryd.prog W = .ok (.tuple #[(.agg #[.int .i64 0, .int .i64 0, .int .i64 0, .slice none 0 0]), .bool false]) W := fun W v => by kernel_rfl
  have a6 : ∀ (W : World) (v : Value), (Instr.typeAssert (.iface 71 v) 34 71 true).run Tryd.prog W = .ok (.tuple #[v, .bool true]) W := fun W v => by kernel_rfl
  have HG0 := Lib.hid (heap_alloc_new w (.cells #[.int .i64 0, .slice none 0 0, .slice none 0 0, .slice none 0 0, .slice none 0 0, .slice none 0 0, .slice none 0 0, .slice none 0 0, .string ⟨#[]⟩, .int .i64 0, .int .i64 0, .int .i64 0, .slice none 0 0, .string ⟨#[]⟩] 44))
  have HB0 := Lib.hid ((Below.refl w.heap.size w).alloc (Nat.le_refl _) (.cells #[.int .i64 0, .slice none 0 0, .slice none 0 0, .slice none 0 0, .slice none 0 0, .slice none 0 0, .slice none 0 0, .slice none 0 0, .string ⟨#[]⟩, .int .i64 0, .int .i64 0, .int .i64 0, .slice none 0 0, .string ⟨#[]⟩] 44))
  clear hc
  go_enter Tryd.func14, Tryd.ntmps14
  go_wp2_with fail
  refine (HC.out _).mono ?_
  rintro r w1 ⟨rfl, hb1⟩
  have HB1 := Lib.hid (bstep HB0.out hb1)
  have hg1 := (hb1.block w.heap.size (by simp only [World.size_alloc]; omega)).trans HG0.out
  have HG1 := Lib.hid hg1
  have hlt1 : w.heap.size < w1.heap.size := (Array.getElem?_eq_some_iff.1 hg1).1
  have z0 : w1.cell? ⟨w.heap.size, 0, none⟩ = some (.int .i64 0) := by rw [Lib.cell_of_heap hg1]; rfl
  have k0 : w1.frozen? ⟨w.heap.size, 0, none⟩ = false := Lib.frozen_of_heap hg1 0
  have z1 : w1.cell? ⟨w.heap.size, 1, none⟩ = some (.slice none 0 0) := by rw [Lib.cell_of_heap hg1]; rfl
  have k1 : w1.frozen? ⟨w.heap.size, 1, none⟩ = false := Lib.frozen_of_heap hg1 1
  have z2 : w1.cell? ⟨w.heap.size, 2, none⟩ = some (.slice none 0 0) := by rw [Lib.cell_of_heap hg1]; rfl
  have k2 : w1.frozen? ⟨w.heap.size, 2, none⟩ = false := Lib.frozen_of_heap hg1 2
  have z3 : w1.cell? ⟨w.heap.size, 3, none⟩ = some (.slice none 0 0) := by rw [Lib.cell_of_heap hg1]; rfl
  have k3 : w1.frozen? ⟨w.heap.size, 3, none⟩ = false := Lib.frozen_of_heap hg1 3
  have z4 : w1.cell? ⟨w.heap.size, 4, none⟩ = some (.slice none 0 0) := by rw [Lib.cell_of_heap hg1]; rfl
  have k4 : w1.frozen? ⟨w.heap.size, 4, none⟩ = false := Lib.frozen_of_heap hg1 4
  have z5 : w1.cell? ⟨w.heap.size, 5, none⟩ = some (.slice none 0 0) := by rw [Lib.cell_of_heap hg1]; rfl
  have k5 : w1.frozen? ⟨w.heap.size, 5, none⟩ = false := Lib.frozen_of_heap hg1 5
  have z6 : w1.cell? ⟨w.heap.size, 6, none⟩ = some (.slice none 0 0) := by rw [Lib.cell_of_heap hg1]; rfl
  have k6 : w1.frozen? ⟨w.heap.size, 6, none⟩ = false := Lib.frozen_of_heap hg1 6
  have z7 : w1.cell? ⟨w.heap.size, 7, none⟩ = some (.slice none 0 0) := by rw [Lib.cell_of_heap hg1]; rfl
  have k7 : w1.frozen? ⟨w.heap.size, 7, none⟩ = false := Lib.frozen_of_heap hg1 7
  have z8 : w1.cell? ⟨w.heap.size, 8, none⟩ = some (.string ⟨#[]⟩) := by rw [Lib.cell_of_heap hg1]; rfl
  have k8 : w1.frozen? ⟨w.heap.size, 8, none⟩ = false := Lib.frozen_of_heap hg1 8
  have z9 : w1.cell? ⟨w.heap.size, 9, none⟩ = some (.int .i64 0) := by rw [Lib.cell_of_heap hg1]; rfl
  have k9 : w1.frozen? ⟨w.heap.size, 9, none⟩ = false := Lib.frozen_of_heap hg1 9
  have z10 : w1.cell? ⟨w.heap.size, 10, none⟩ = some (.int .i64 0) := by rw [Lib.cell_of_heap hg1]; rfl
  have k10 : w1.frozen? ⟨w.heap.size, 10, none⟩ = false := Lib.frozen_of_heap hg1 10
  have z11 : w1.cell? ⟨w.heap.size, 11, none⟩ = some (.int .i64 0) := by rw [Lib.cell_of_heap hg1]; rfl
  have k11 : w1.frozen? ⟨w.heap.size, 11, none⟩ = false := Lib.frozen_of_heap hg1 11
  have z12 : w1.cell? ⟨w.heap.size, 12, none⟩ = some (.slice none 0 0) := by rw [Lib.cell_of_heap hg1]; rfl
  have k12 : w1.frozen? ⟨w.heap.size, 12, none⟩ = false := Lib.frozen_of_heap hg1 12
  have z13 : w1.cell? ⟨w.heap.size, 13, none⟩ = some (.string ⟨#[]⟩) := by rw [Lib.cell_of_heap hg1]; rfl
  have k13 : w1.frozen? ⟨w.heap.size, 13, none⟩ = false := Lib.frozen_of_heap hg1 13
  have n1 : w.heap.size < w1.heap.size + 1 := by omega
  have n2 : w.heap.size < w1.heap.size + 1 + 1 := by omega
  clear hb1 hg1
  go_wp2_with fail
  (try simp only [Exit.inBlock, Exit.then])
  refine bodyPost_ret (ret_cell1 (t := 44) (fr := (0, 0)) rfl _ _ w.heap.size #[.int .i64 7, .slice (some ⟨w1.heap.size + 1 + 1, 0, none⟩) 6 6, .slice none 0 0, .slice none 0 0, .slice none 0 0, .slice none 0 0, .slice p1 l.length q1, .slice none 0 0, .string ⟨#[]⟩, .int .i64 0, .int .i64 0, .int .i64 0, .slice none 0 0, .string ⟨#[]⟩] _ (by rfl) ?hg Tryd.underlying44 rfl fsize) rfl ?_
  case hg =>
    rw [heap_alloc_old _ _ (by simp only [World.size_alloc, World.size_setCell]; omega), heap_alloc_old _ _ (by simp only [World.size_alloc, World.size_setCell]; omega), heap_alloc_old _ _ (by simp only [World.size_alloc, World.size_setCell]; omega)]
    exact blk_set14 HG1.out (.int .i64 7) (.slice (some ⟨w1.heap.size + 1 + 1, 0, none⟩) 6 6) (.slice none 0 0) (.slice none 0 0) (.slice none 0 0) (.slice none 0 0) (.slice p1 l.length q1) (.slice none 0 0) (.string ⟨#[]⟩) (.int .i64 0) (.int .i64 0) (.int .i64 0) (.slice none 0 0) (.string ⟨#[]⟩)
  have HBW := (((below_set14 HB1.out (Nat.le_refl _) (.int .i64 7) (.slice (some ⟨w1.heap.size + 1 + 1, 0, none⟩) 6 6) (.slice none 0 0) (.slice none 0 0) (.slice none 0 0) (.slice none 0 0) (.slice p1 l.length q1) (.slice none 0 0) (.string ⟨#[]⟩) (.int .i64 0) (.int .i64 0) (.int .i64 0) (.slice none 0 0) (.string ⟨#[]⟩)).alloc (by simp only [World.size_setCell]; omega) (.cells #[.int .i64 7, .slice (some ⟨w1.heap.size + 1 + 1, 0, none⟩) 6 6, .slice none 0 0, .slice none 0 0, .slice none 0 0, .slice none 0 0, .slice p1 l.length q1, .slice none 0 0, .string ⟨#[]⟩, .int .i64 0, .int .i64 0, .int .i64 0, .slice none 0 0, .string ⟨#[]⟩] 44)).alloc (by simp only [World.size_alloc, World.size_setCell]; omega) (.cells #[.int .i64 a, .int .i64 b, .int .i64 c, .int .i64 d, .int .i64 e, .int .i64 f, .slice p1 l.length q1] 71)).alloc (by simp only [World.size_alloc, World.size_setCell]; omega) (.cells #[.int .i64 a, .int .i64 b, .int .i64 c, .int .i64 d, .int .i64 e, .int .i64 f] 3)
  exact ⟨_, rfl, ⟨_, _, _, _, _, _, _, _, rfl, row_block [a, b, c, d, e, f] _ _ _ (by unfold maxLen; simp only [List.length_cons, List.length_nil]; omega) _ (by simp only [World.size_alloc, World.size_setCell]), row_nil _ _, row_nil _ _, row_nil _ _, row_nil _ _, ((I1.out.keep HBW hB).up (Nat.le_trans hB HBW.size)), events_nil _ _, events_nil _ _⟩, HBW⟩
end Go.Proofs.YtflojipkgaocnaaDoor
namespace Go.Proofs.YtflojipkgaocnaaDoor
open Go.RowKit
set_option linter.unusedSimpArgs false
set_option linter.unusedVariables false

set_option maxRecDepth 100000 in
set_option maxHeartbeats 6400000 in
theorem flat_ack (B : Nat) (v : Value) (a b c : Int) (w : World) (h : IsMsg B w v (.ack a b c)) (hB : B ≤ w.heap.size) :
    Calls Tryd.prog 14 #[v] w fun r w' => GotFlat (flatM (.ack a b c)) w r w' := by
  have HK : HasKind v 8 := hasKind h
  obtain rfl := h
  obtain ⟨T, p, F, hv, hm, hcf, hc⟩ := HK
  injection hv with hv1 hv2
  subst hv1 hv2
  have HC := Lib.hid hc
  have qn : ∀ (W : World) (v : Value), (binOp .eql 34 (.iface 53 v) .nilIface).run Tryd.prog W = .ok (.bool false) W := fun W v => by kernel_rfl
  have a0 : ∀ (W : World) (v : Value), (Instr.typeAssert (.iface 53 v) 34 59 true).run Tryd.prog W = .ok (.tuple #[(.agg #[.int .i64 0, .int .i64 0, .int .i64 0]), .bool false]) W := fun W v => by kernel_rfl
  have a1 : ∀ (W : World) (v : Value), (Instr.typeAssert (.iface 53 v) 34 61 true).run Tryd.prog W = .ok (.tuple #[(.agg #[.int .i64 0, .int .i64 0]), .bool false]) W := fun W v => by kernel_rfl
  have a2 : ∀ (W : World) (v : Value), (Instr.typeAssert (.iface 53 v) 34 63 true).run Tryd.prog W = .ok (.tuple #[(.agg #[.int .i64 0, .int .i64 0]), .bool false]) W := fun W v => by kernel_rfl
  have a3 : ∀ (W : World) (v : Value), (Instr.typeAssert (.iface 53 v) 34 65 true).run Tryd.prog W = .ok (.tuple #[(.agg #[.int .i64 0, .slice none 0 0, .slice none 0 0, .slice none 0 0]), .bool false]) W := fun W v => by kernel_rfl
  have a4 : ∀ (W : World) (v : Value), (Instr.typeAssert (.iface 53 v) 34 67 true).run Tryd.prog W = .ok (.tuple #[(.agg #[.int .i64 0]), .bool false]) W := fun W v => by kernel_rfl
  have a5 : ∀ (W : World) (v : Value), (Instr.typeAssert (.iface 53 v) 34 69 true).run Tryd.prog W = .ok (.tuple #[(.agg #[.int .i64 0, .int .i64 0, .int .i64 0, .slice none 0 0]), .bool false]) W := fun W v => by kernel_rfl
  have a6 : ∀ (W : World) (v : Value), (Instr.typeAssert (.iface 53 v) 34 71 true).run Tryd.prog W = .ok (.tuple #[(.agg #[.int .i64 0, .int .i64 0, .int .i64 0, .int .i64 0, .int .i64 0, .int .i64 0, .slice none 0 0]), .bool false]) W := fun W v => by kernel_rfl
  have a7 : ∀ (W : World) (v : Value), (Instr.typeAssert (.iface 53 v) 34 53 true).run Tryd.prog W = .ok (.tuple #[v, .bool true]) W := fun W v => by kernel_rfl
  have HG0 := Lib.hid (heap_alloc_new w (.cells #[.int .i64 0, .slice none 0 0, .slice none 0 0, .slice none 0 0, .slice none 0 0, .slice none 0 0, .slice none 0 0, .slice none 0 0, .string ⟨#[]⟩, .int .i64 0, .int .i64 0, .int .i64 0, .slice none 0 0, .string ⟨#[]⟩] 44))
  have HB0 := Lib.hid ((Below.refl w.heap.size w).alloc (Nat.le_refl _) (.cells #[.int .i64 0, .slice none 0 0, .slice none 0 0, .slice none 0 0, .slice none 0 0, .slice none 0 0, .slice none 0 0, .slice none 0 0, .string ⟨#[]⟩, .int .i64 0, .int .i64 0, .int .i64 0, .slice none 0 0, .string ⟨#[]⟩] 44))
  clear hc
  go_enter Tryd.func14, Tryd.ntmps14
  go_wp2_with fail
  refine (HC.out _).mono ?_
  rintro r w1 ⟨rfl, hb1⟩
  have HB1 := Lib.hid (bstep HB0.out hb1)
  have hg1 := (hb1.block w.heap.size (by simp only [World.size_alloc]; omega)).trans HG0.out
  have HG1 := Lib.hid hg1
  have hlt1 : w.heap.size < w1.heap.size := (Array.getElem?_eq_some_iff.1 hg1).1
  have z0 : w1.cell? ⟨w.heap.size, 0, none⟩ = some (.int .i64 0) := by rw [Lib.cell_of_heap hg1]; rfl
  have k0 : w1.frozen? ⟨w.heap.size, 0, none⟩ = false := Lib.frozen_of_heap hg1 0
  have z1 : w1.cell? ⟨w.heap.size, 1, none⟩ = some (.slice none 0 0) := by rw [Lib.cell_of_heap hg1]; rfl
  have k1 : w1.frozen? ⟨w.heap.size, 1, none⟩ = false := Lib.frozen_of_heap hg1 1
  have z2 : w1.cell? ⟨w.heap.size, 2, none⟩ = some (.slice none 0 0) := by rw [Lib.cell_of_heap hg1]; rfl
  have k2 : w1.frozen? ⟨w.heap.size, 2, none⟩ = false := Lib.frozen_of_heap hg1 2
  have z3 : w1.cell? ⟨w.heap.size, 3, none⟩ = some (.slice none 0 0) := by rw [Lib.cell_of_heap hg1]; rfl
  have k3 : w1.frozen? ⟨w.heap.size, 3, none⟩ = false := Lib.frozen_of_heap hg1 3
  have z4 : w1.cell? ⟨w.heap.size, 4, none⟩ = some (.slice none 0 0) := by rw [Lib.cell_of_heap hg1]; rfl
  have k4 : w1.frozen? ⟨w.heap.size, 4, none⟩ = false := Lib.frozen_of_heap hg1 4
  have z5 : w1.cell? ⟨w.heap.size, 5, none⟩ = some (.slice none 0 0) := by rw [Lib.cell_of_heap hg1]; rfl
  have k5 : w1.frozen? ⟨w.heap.size, 5, none⟩ = false := Lib.frozen_of_heap hg1 5
  have z6 : w1.cell? ⟨w.heap.size, 6, none⟩ = some (.slice none 0 0) := by rw [Lib.cell_of_heap hg1]; rfl
  have k6 : w1.frozen? ⟨w.heap.size, 6, none⟩ = false := Lib.frozen_of_heap hg1 6
  have z7 : w1.cell? ⟨w.heap.size, 7, none⟩ = some (.slice none 0 0) := by rw [Lib.cell_of_heap hg1]; rfl
  have k7 : w1.frozen? ⟨w.heap.size, 7, none⟩ = false := Lib.frozen_of_heap hg1 7
  have z8 : w1.cell? ⟨w.heap.size, 8, none⟩ = some (.string ⟨#[]⟩) := by rw [Lib.cell_of_heap hg1]; rfl
  have k8 : w1.frozen? ⟨w.heap.size, 8, none⟩ = false := Lib.frozen_of_heap hg1 8
  have z9 : w1.cell? ⟨w.heap.size, 9, none⟩ = some (.int .i64 0) := by rw [Lib.cell_of_heap hg1]; rfl
  have k9 : w1.frozen? ⟨w.heap.size, 9, none⟩ = false := Lib.frozen_of_heap hg1 9
  have z10 : w1.cell? ⟨w.heap.size, 10, none⟩ = some (.int .i64 0) := by rw [Lib.cell_of_heap hg1]; rfl
  have k10 : w1.frozen? ⟨w.heap.size, 10, none⟩ = false := Lib.frozen_of_heap hg1 10
  have z11 : w1.cell? ⟨w.heap.size, 11, none⟩ = some (.int .i64 0) := by rw [Lib.cell_of_heap hg1]; rfl
  have k11 : w1.frozen? ⟨w.heap.size, 11, none⟩ = false := Lib.frozen_of_heap hg1 11
  have z12 : w1.cell? ⟨w.heap.size, 12, none⟩ = some (.slice none 0 0) := by rw [Lib.cell_of_heap hg1]; rfl
  have k12 : w1.frozen? ⟨w.heap.size, 12, none⟩ = false := Lib.frozen_of_heap hg1 12
  have z13 : w1.cell? ⟨w.heap.size, 13, none⟩ = some (.string ⟨#[]⟩) := by rw [Lib.cell_of_heap hg1]; rfl
  have k13 : w1.frozen? ⟨w.heap.size, 13, none⟩ = false := Lib.frozen_of_heap hg1 13
  have n1 : w.heap.size < w1.heap.size + 1 := by omega
  have n2 : w.heap.size < w1.heap.size + 1 + 1 := by omega
  clear hb1 hg1
  go_wp2_with fail
  (try simp only [Exit.inBlock, Exit.then])
  refine bodyPost_ret (ret_cell1 (t := 44) (fr := (0, 0)) rfl _ _ w.heap.size #[.int .i64 8, .slice (some ⟨w1.heap.size + 1 + 1, 0, none⟩) 3 3, .slice none 0 0, .slice none 0 0, .slice none 0 0, .slice none 0 0, .slice none 0 0, .slice none 0 0, .string ⟨#[]⟩, .int .i64 0, .int .i64 0, .int .i64 0, .slice none 0 0, .string ⟨#[]⟩] _ (by rfl) ?hg Tryd.underlying44 rfl fsize) rfl ?_
  case hg =>
    rw [heap_alloc_old _ _ (by simp only [World.size_alloc, World.size_setCell]; omega), heap_alloc_old _ _ (by simp only [World.size_alloc, World.size_setCell]; omega), heap_alloc_old _ _ (by simp only [World.size_alloc, World.size_setCell]; omega)]
    exact blk_set14 HG1.out (.int .i64 8) (.slice (some ⟨w1.heap.size + 1 + 1, 0, none⟩) 3 3) (.slice none 0 0) (.slice none 0 0) (.slice none 0 0) (.slice none 0 0) (.slice none 0 0) (.slice none 0 0) (.string ⟨#[]⟩) (.int .i64 0) (.int .i64 0) (.int .i64 0) (.slice none 0 0) (.string ⟨#[]⟩)
  have HBW := (((below_set14 HB1.out (Nat.le_refl _) (.int .i64 8) (.slice (some ⟨w1.heap.size + 1 + 1, 0, none⟩) 3 3) (.slice none 0 0) (.slice none 0 0) (.slice none 0 0) (.slice none 0 0) (.slice none 0 0) (.slice none 0 0) (.string ⟨#[]⟩) (.int .i64 0) (.int .i64 0) (.int .i64 0) (.slice none 0 0) (.string ⟨#[]⟩)).alloc (by simp only [World.size_setCell]; omega) (.cells #[.int .i64 8, .slice (some ⟨w1.heap.size + 1 + 1, 0, none⟩) 3 3, .slice none 0 0, .slice none 0 0, .slice none 0 0, .slice none 0 0, .slice none 0 0, .slice none 0 0, .string ⟨#[]⟩, .int .i64 0, .int .i64 0, .int .i64 0, .slice none 0 0, .string ⟨#[]⟩] 44)).alloc (by simp only [World.size_alloc, World.size_setCell]; omega) (.cells #[.int .i64 a, .int .i64 b, .int .i64 c] 53)).alloc (by simp only [World.size_alloc, World.size_setCell]; omega) (.cells #[.int .i64 a, .int .i64 b, .int .i64 c] 3)
  exact ⟨_, rfl, ⟨_, _, _, _, _, _, _, _, rfl, row_block [a, b, c] _ _ _ (by unfold maxLen; simp only [List.length_cons, List.length_nil]; omega) _ (by simp only [World.size_alloc, World.size_setCell]), row_nil _ _, row_nil _ _, row_nil _ _, row_nil _ _, entries_nil _ _, events_nil _ _, events_nil _ _⟩, HBW⟩

set_option maxRecDepth 100000 in
set_option maxHeartbeats 6400000 in
theorem flat_ask (B : Nat) (v : Value) (a b c d : Int) (w : World) (h : IsMsg B w v (.ask a b c d)) (hB : B ≤ w.heap.size) :
    Calls Tryd.prog 14 #[v] w fun r w' => GotFlat (flatM (.ask a b c d)) w r w' := by
  have HK : HasKind v 9 := hasKind h
  obtain rfl := h
  obtain ⟨T, p, F, hv, hm, hcf, hc⟩ := HK
  injection hv with hv1 hv2
  subst hv1 hv2
  have HC := Lib.hid hc
  have qn : ∀ (W : World) (v : Value), (binOp .eql 34 (.iface 73 v) .nilIface).run Tryd.prog W = .ok (.bool false) W := fun W v => by kernel_rfl
  have a0 : ∀ (W : World) (v : Value), (Instr.typeAssert (.iface 73 v) 34 59 true).run Tryd.prog W = .ok (.tuple #[(.agg #[.int .i64 0, .int .i64 0, .int .i64 0]), .bool false]) W := fun W v => by kernel_rfl
  have a1 : ∀ (W : World) (v : Value), (Instr.typeAssert (.iface 73 v) 34 61 true).run Tryd.prog W = .ok (.tuple #[(.agg #[.int .i64 0, .int .i64 0]), .bool false]) W := fun W v => by kernel_rfl
  have a2 : ∀ (W : World) (v : Value), (Instr.typeAssert (.iface 73 v) 34 63 true).run Tryd.prog W = .ok (.tuple #[(.agg #[.int .i64 0, .int .i64 0]), .bool false]) W := fun W v => by kernel_rfl
  have a3 : ∀ (W : World) (v : Value), (Instr.typeAssert (.iface 73 v) 34 65 true).run Tryd.prog W = .ok (.tuple #[(.agg #[.int .i64 0, .slice none 0 0, .slice none 0 0, .slice none 0 0]), .bool false]) W := fun W v => by kernel_rfl
  have a4 : ∀ (W : World) (v : Value), (Instr.typeAssert (.iface 73 v) 34 67 true).run Tryd.prog W = .ok (.tuple #[(.agg #[.int .i64 0]), .bool false]) W := fun W v => by kernel_rfl
  have a5 : ∀ (W : World) (v : Value), (Instr.typeAssert (.iface 73 v) 34 69 true).run Tryd.prog W = .ok (.tuple #[(.agg #[.int .i64 0, .int .i64 0, .int .i64 0, .slice none 0 0]), .bool false]) W := fun W v => by kernel_rfl
  have a6 : ∀ (W : World) (v : Value), (Instr.typeAssert (.iface 73 v) 34 71 true).run Tryd.prog W = .ok (.tuple #[(.agg #[.int .i64 0, .int .i64 0, .int .i64 0, .int .i64 0, .int .i64 0, .int .i64 0, .slice none 0 0]), .bool false]) W := fun W v => by kernel_rfl
  have a7 : ∀ (W : World) (v : Value), (Instr.typeAssert (.iface 73 v) 34 53 true).run Tryd.prog W = .ok (.tuple #[(.agg #[.int .i64 0, .int .i64 0, .int .i64 0]), .bool false]) W := fun W v => by kernel_rfl
  have a8 : ∀ (W : World) (v : Value), (Instr.typeAssert (.iface 73 v) 34 73 true).run Tryd.prog W = .ok (.tuple #[v, .bool true]) W := fun W v => by kernel_rfl
  have HG0 := Lib.hid (heap_alloc_new w (.cells #[.int .i64 0, .slice none 0 0, .slice none 0 0, .slice none 0 0, .slice none 0 0, .slice none 0 0, .slice none 0 0, .slice none 0 0, .string ⟨#[]⟩, .int .i64 0, .int .i64 0, .int .i64 0, .slice none 0 0, .string ⟨#[]⟩] 44))
  have HB0 := Lib.hid ((Below.refl w.heap.size w).alloc (Nat.le_refl _) (.cells #[.int .i64 0, .slice none 0 0, .slice none 0 0, .slice none 0 0, .slice none 0 0, .slice none 0 0, .slice none 0 0, .slice none 0 0, .string ⟨#[]⟩, .int .i64 0, .int .i64 0, .int .i64 0, .slice none 0 0, .string ⟨#[]⟩] 44))
  clear hc
  go_enter Tryd.func14, Tryd.ntmps14
  go_wp2_with fail
  refine (HC.out _).mono ?_
  rintro r w1 ⟨rfl, hb1⟩
  have HB1 := Lib.hid (bstep HB0.out hb1)
  have hg1 := (hb1.block w.heap.size (by simp only [World.size_alloc]; omega)).trans HG0.out
  have HG1 := Lib.hid hg1
  have hlt1 : w.heap.size < w1.heap.size := (Array.getElem?_eq_some_iff.1 hg1).1
  have z0 : w1.cell? ⟨w.heap.size, 0, none⟩ = some (.int .i64 0) := by rw [Lib.cell_of_heap hg1]; rfl
  have k0 : w1.frozen? ⟨w.heap.size, 0, none⟩ = false := Lib.frozen_of_heap hg1 0
  have z1 : w1.cell? ⟨w.heap.size, 1, none⟩ = some (.slice none 0 0) := by rw [Lib.cell_of_heap hg1]; rfl
  have k1 : w1.frozen? ⟨w.heap.size, 1, none⟩ = false := Lib.frozen_of_heap hg1 1
  have z2 : w1.cell? ⟨w.heap.size, 2, none⟩ = some (.slice none 0 0) := by rw [Lib.cell_of_heap hg1]; rfl
  have k2 : w1.frozen? ⟨w.heap.size, 2, none⟩ = false := Lib.frozen_of_heap hg1 2
  have z3 : w1.cell? ⟨w.heap.size, 3, none⟩ = some (.slice none 0 0) := by rw [Lib.cell_of_heap hg1]; rfl
  have k3 : w1.frozen? ⟨w.heap.size, 3, none⟩ = false := Lib.frozen_of_heap hg1 3
  have z4 : w1.cell? ⟨w.heap.size, 4, none⟩ = some (.slice none 0 0) := by rw [Lib.cell_of_heap hg1]; rfl
  have k4 : w1.frozen? ⟨w.heap.size, 4, none⟩ = false := Lib.frozen_of_heap hg1 4
  have z5 : w1.cell? ⟨w.heap.size, 5, none⟩ = some (.slice none 0 0) := by rw [Lib.cell_of_heap hg1]; rfl
  have k5 : w1.frozen? ⟨w.heap.size, 5, none⟩ = false := Lib.frozen_of_heap hg1 5
  have z6 : w1.cell? ⟨w.heap.size, 6, none⟩ = some (.slice none 0 0) := by rw [Lib.cell_of_heap hg1]; rfl
  have k6 : w1.frozen? ⟨w.heap.size, 6, none⟩ = false := Lib.frozen_of_heap hg1 6
  have z7 : w1.cell? ⟨w.heap.size, 7, none⟩ = some (.slice none 0 0) := by rw [Lib.cell_of_heap hg1]; rfl
  have k7 : w1.frozen? ⟨w.heap.size, 7, none⟩ = false := Lib.frozen_of_heap hg1 7
  have z8 : w1.cell? ⟨w.heap.size, 8, none⟩ = some (.string ⟨#[]⟩) := by rw [Lib.cell_of_heap hg1]; rfl
  have k8 : w1.frozen? ⟨w.heap.size, 8, none⟩ = false := Lib.frozen_of_heap hg1 8
  have z9 : w1.cell? ⟨w.heap.size, 9, none⟩ = some (.int .i64 0) := by rw [Lib.cell_of_heap hg1]; rfl
  have k9 : w1.frozen? ⟨w.heap.size, 9, none⟩ = false := Lib.frozen_of_heap hg1 9
  have z10 : w1.cell? ⟨w.heap.size, 10, none⟩ = some (.int .i64 0) := by rw [Lib.cell_of_heap hg1]; rfl
  have k10 : w1.frozen? ⟨w.heap.size, 10, none⟩ = false := Lib.frozen_of_heap hg1 10
  have z11 : w1.cell? ⟨w.heap.size, 11, none⟩ = some (.int .i64 0) := by rw [Lib.cell_of_heap hg1]; rfl
  have k11 : w1.frozen? ⟨w.heap.size, 11, none⟩ = false := Lib.frozen_of_heap hg1 11
  have z12 : w1.cell? ⟨w.heap.size, 12, none⟩ = some (.slice none 0 0) := by rw [Lib.cell_of_heap hg1]; rfl
  have k12 : w1.frozen? ⟨w.heap.size, 12, none⟩ = false := Lib.frozen_of_heap hg1 12
  have z13 : w1.cell? ⟨w.heap.size, 13, none⟩ = some (.string ⟨#[]⟩) := by rw [Lib.cell_of_heap hg1]; rfl
  have k13 : w1.frozen? ⟨w.heap.size, 13, none⟩ = false := Lib.frozen_of_heap hg1 13
  have n1 : w.heap.size < w1.heap.size + 1 := by omega
  have n2 : w.heap.size < w1.heap.size + 1 + 1 := by omega
  clear hb1 hg1
  go_wp2_with fail
  (try simp only [Exit.inBlock, Exit.then])
  refine bodyPost_ret (ret_cell1 (t := 44) (fr := (0, 0)) rfl _ _ w.heap.size #[.int .i64 9, .slice (some ⟨w1.heap.size + 1 + 1, 0, none⟩) 4 4, .slice none 0 0, .slice none 0 0, .slice none 0 0, .slice none 0 0, .slice none 0 0, .slice none 0 0, .string ⟨#[]⟩, .int .i64 0, .int .i64 0, .int .i64 0, .slice none 0 0, .string ⟨#[]⟩] _ (by rfl) ?hg Tryd.underlying44 rfl fsize) rfl ?_
  case hg =>
    rw [heap_alloc_old _ _ (by simp only [World.size_alloc, World.size_setCell]; omega), heap_alloc_old _ _ (by simp only [World.size_alloc, World.size_setCell]; omega), heap_alloc_old _ _ (by simp only [World.size_alloc, World.size_setCell]; omega)]
    exact blk_set14 HG1.out (.int .i64 9) (.slice (some ⟨w1.heap.size + 1 + 1, 0, none⟩) 4 4) (.slice none 0 0) (.slice none 0 0) (.slice none 0 0) (.slice none 0 0) (.slice none 0 0) (.slice none 0 0) (.string ⟨#[]⟩) (.int .i64 0) (.int .i64 0) (.int .i64 0) (.slice none 0 0) (.string ⟨#[]⟩)
  have HBW := (((below_set14 HB1.out (Nat.le_refl _) (.int .i64 9) (.slice (some ⟨w1.heap.size + 1 + 1, 0, none⟩) 4 4) (.slice none 0 0) (.slice none 0 0) (.slice none 0 0) (.slice none 0 0) (.slice none 0 0) (.slice none 0 0) (.string ⟨#[]⟩) (.int .i64 0) (.int .i64 0) (.int .i64 0) (.slice none 0 0) (.string ⟨#[]⟩)).alloc (by simp only [World.size_setCell]; omega) (.cells #[.int .i64 9, .slice (some ⟨w1.heap.size + 1 + 1, 0, none⟩) 4 4, .slice none 0 0, .slice none 0 0, .slice none 0 0, .slice none 0 0, .slice none 0 0, .slice none 0 0, .string ⟨#[]⟩, .int .i64 0, .int .i64 0, .int .i64 0, .slice none 0 0, .string ⟨#[]⟩] 44)).alloc (by simp only [World.size_alloc, World.size_setCell]; omega) (.cells #[.int .i64 a, .int .i64 b, .int .i64 c, .int .i64 d] 73)).alloc (by simp only [World.size_alloc, World.size_setCell]; omega) (.cells #[.int .i64 a, .int .i64 b, .int .i64 c, .int .i64 d] 3)
  exact ⟨_, rfl, ⟨_, _, _, _, _, _, _, _, rfl, row_block [a, b, c, d] _ _ _ (by unfold maxLen; simp only [List.length_cons, List.length_nil]; omega) _ (by simp only [World.size_alloc, World.size_setCell]), row_nil _ _, row_nil _ _, row_nil _ _, row_nil _ _, entries_nil _ _, events_nil _ _, events_nil _ _⟩, HBW⟩

set_option maxRecDepth 100000 in
set_option maxHeartbeats 6400000 in
theorem flat_told (B : Nat) (v : Value) (a b c d : Int) (w : World) (h : IsMsg B w v (.told a b c d)) (hB : B ≤ w.heap.size) :
    Calls Tryd.prog 14 #[v] w fun r w' => GotFlat (flatM (.told a b c d)) w r w' := by
  have HK : HasKind v 10 := hasKind h
  obtain rfl := h
  obtain ⟨T, p, F, hv, hm, hcf, hc⟩ := HK
  injection hv with hv1 hv2
  subst hv1 hv2
  have HC := Lib.hid hc
  have qn : ∀ (W : World) (v : Value), (binOp .eql 34 (.iface 75 v) .nilIface).run Tryd.prog W = .ok (.bool false) W := fun W v => by kernel_rfl
  have a0 : ∀ (W : World) (v : Value), (Instr.typeAssert (.iface 75 v) 34 59 true).run Tryd.prog W = .ok (.tuple #[(.agg #[.int .i64 0, .int .i64 0, .int .i64 0]), .bool false]) W := fun W v => by kernel_rfl
  have a1 : ∀ (W : World) (v : Value), (Instr.typeAssert (.iface 75 v) 34 61 true).run Tryd.prog W = .ok (.tuple #[(.agg #[.int .i64 0, .int .i64 0]), .bool false]) W := fun W v => by kernel_rfl
  have a2 : ∀ (W : World) (v : Value), (Instr.typeAssert (.iface 75 v) 34 63 true).run Tryd.prog W = .ok (.tuple #[(.agg #[.int .i64 0, .int .i64 0]), .bool false]) W := fun W v => by kernel_rfl
  have a3 : ∀ (W : World) (v : Value), (Instr.typeAssert (.iface 75 v) 34 65 true).run Tryd.prog W = .ok (.tuple #[(.agg #[.int .i64 0, .slice none 0 0, .slice none 0 0, .slice none 0 0]), .bool false]) W := fun W v => by kernel_rfl
  have a4 : ∀ (W : World) (v : Value), (Instr.typeAssert (.iface 75 v) 34 67 true).run Tryd.prog W = .ok (.tuple #[(.agg #[.int .i64 0]), .bool false]) W := fun W v => by kernel_rfl
  have a5 : ∀ (W : World) (v : Value), (Instr.typeAssert (.iface 75 v) 34 69 true).run Tryd.prog W = .ok (.tuple #[(.agg #[.int .i64 0, .int .i64 0, .int .i64 0, .slice none 0 0]), .bool false]) W := fun W v => by kernel_rfl
  have a6 : ∀ (W : World) (v : Value), (Instr.typeAssert (.iface 75 v) 34 71 true).run Tryd.prog W = .ok (.tuple #[(.agg #[.int .i64 0, .int .i64 0, .int .i64 0, .int .i64 0, .int .i64 0, .int .i64 0, .slice none 0 0]), .bool false]) W := fun W v => by kernel_rfl
  have a7 : ∀ (W : World) (v : Value), (Instr.typeAssert (.iface 75 v) 34 53 true).run Tryd.prog W = .ok (.tuple #[(.agg #[.int .i64 0, .int .i64 0, .int .i64 0]), .bool false]) W := fun W v => by kernel_rfl
  have a8 : ∀ (W : World) (v : Value), (Instr.typeAssert (.iface 75 v) 34 73 true).run Tryd.prog W = .ok (.tuple #[(.agg #[.int .i64 0, .int .i64 0, .int .i64 0, .int .i64 0]), .bool false]) W := fun W v => by kernel_rfl
  have a9 : ∀ (W : World) (v : Value), (Instr.typeAssert (.iface 75 v) 34 75 true).run Tryd.prog W = .ok (.tuple #[v, .bool true]) W := fun W v => by kernel_rfl
  have HG0 := Lib.hid (heap_alloc_new w (.cells #[.int .i64 0, .slice none 0 0, .slice none 0 0, .slice none 0 0, .slice none 0 0, .slice none 0 0, .slice none 0 0, .slice none 0 0, .string ⟨#[]⟩, .int .i64 0, .int .i64 0, .int .i64 0, .slice none 0 0, .string ⟨#[]⟩] 44))
  have HB0 := Lib.hid ((Below.refl w.heap.size w).alloc (Nat.le_refl _) (.cells #[.int .i64 0, .slice none 0 0, .slice none 0 0, .slice none 0 0, .slice none 0 0, .slice none 0 0, .slice none 0 0, .slice none 0 0, .string ⟨#[]⟩, .int .i64 0, .int .i64 0, .int .i64 0, .slice none 0 0, .string ⟨#[]⟩] 44))
  clear hc
  go_enter Tryd.func14, Tryd.ntmps14
  go_wp2_with fail
  refine (HC.out _).mono ?_
  rintro r w1 ⟨rfl, hb1⟩
  have HB1 := Lib.hid (bstep HB0.out hb1)
  have hg1 := (hb1.block w.heap.size (by simp only [World.size_alloc]; omega)).trans HG0.out
  have HG1 := Lib.hid hg1
  have hlt1 : w.heap.size < w1.heap.size := (Array.getElem?_eq_some_iff.1 hg1).1
  have z0 : w1.cell? ⟨w.heap.size, 0, none⟩ = some (.int .i64 0) := by rw [Lib.cell_of_heap hg1]; rfl
  have k0 : w1.frozen? ⟨w.heap.size, 0, none⟩ = false := Lib.frozen_of_heap hg1 0
  have z1 : w1.cell? ⟨w.heap.size, 1, none⟩ = some (.slice none 0 0) := by rw [Lib.cell_of_heap hg1]; rfl
  have k1 : w1.frozen? ⟨w.heap.size, 1, none⟩ = false := Lib.frozen_of_heap hg1 1
  have z2 : w1.cell? ⟨w.heap.size, 2, none⟩ = some (.slice none 0 0) := by rw [Lib.cell_of_heap hg1]; rfl
  have k2 : w1.frozen? ⟨w.heap.size, 2, none⟩ = false := Lib.frozen_of_heap hg1 2
  have z3 : w1.cell? ⟨w.heap.size, 3, none⟩ = some (.slice none 0 0) := by rw [Lib.cell_of_heap hg1]; rfl
  have k3 : w1.frozen? ⟨w.heap.size, 3, none⟩ = false := Lib.frozen_of_heap hg1 3
  have z4 : w1.cell? ⟨w.heap.size, 4, none⟩ = some (.slice none 0 0) := by rw [Lib.cell_of_heap hg1]; rfl
  have k4 : w1.frozen? ⟨w.heap.size, 4, none⟩ = false := Lib.frozen_of_heap hg1 4
  have z5 : w1.cell? ⟨w.heap.size, 5, none⟩ = some (.slice none 0 0) := by rw [Lib.cell_of_heap hg1]; rfl
  have k5 : w1.frozen? ⟨w.heap.size, 5, none⟩ = false := Lib.frozen_of_heap hg1 5
  have z6 : w1.cell? ⟨w.heap.size, 6, none⟩ = some (.slice none 0 0) := by rw [Lib.cell_of_heap hg1]; rfl
  have k6 : w1.frozen? ⟨w.heap.size, 6, none⟩ = false := Lib.frozen_of_heap hg1 6
  have z7 : w1.cell? ⟨w.heap.size, 7, none⟩ = some (.slice none 0 0) := by rw [Lib.cell_of_heap hg1]; rfl
  have k7 : w1.frozen? ⟨w.heap.size, 7, none⟩ = false := Lib.frozen_of_heap hg1 7
  have z8 : w1.cell? ⟨w.heap.size, 8, none⟩ = some (.string ⟨#[]⟩) := by rw [Lib.cell_of_heap hg1]; rfl
  have k8 : w1.frozen? ⟨w.heap.size, 8, none⟩ = false := Lib.frozen_of_heap hg1 8
  have z9 : w1.cell? ⟨w.heap.size, 9, none⟩ = some (.int .i64 0) := by rw [Lib.cell_of_heap hg1]; rfl
  have k9 : w1.frozen? ⟨w.heap.size, 9, none⟩ = false := Lib.frozen_of_heap hg1 9
  have z10 : w1.cell? ⟨w.heap.size, 10, none⟩ = some (.int .i64 0) := by rw [Lib.cell_of_heap hg1]; rfl
  have k10 : w1.frozen? ⟨w.heap.size, 10, none⟩ = false := Lib.frozen_of_heap hg1 10
  have z11 : w1.cell? ⟨w.heap.size, 11, none⟩ = some (.int .i64 0) := by rw [Lib.cell_of_heap hg1]; rfl
  have k11 : w1.frozen? ⟨w.heap.size, 11, none⟩ = false := Lib.frozen_of_heap hg1 11
  have z12 : w1.cell? ⟨w.heap.size, 12, none⟩ = some (.slice none 0 0) := by rw [Lib.cell_of_heap hg1]; rfl
  have k12 : w1.frozen? ⟨w.heap.size, 12, none⟩ = false := Lib.frozen_of_heap hg1 12
  have z13 : w1.cell? ⟨w.heap.size, 13, none⟩ = some (.string ⟨#[]⟩) := by rw [Lib.cell_of_heap hg1]; rfl
  have k13 : w1.frozen? ⟨w.heap.size, 13, none⟩ = false := Lib.frozen_of_heap hg1 13
  have n1 : w.heap.size < w1.heap.size + 1 := by omega
  have n2 : w.heap.size < w1.heap.size + 1 + 1 := by omega
  clear hb1 hg1
  go_wp2_with fail
  (try simp only [Exit.inBlock, Exit.then])
  refine bodyPost_ret (ret_cell1 (t := 44) (fr := (0, 0)) rfl _ _ w.heap.size #[.int .i64 10, .slice (some ⟨w1.heap.size + 1 + 1, 0, none⟩) 4 4, .slice none 0 0, .slice none 0 0, .slice none 0 0, .slice none 0 0, .slice none 0 0, .slice none 0 0, .string ⟨#[]⟩, .int .i64 0, .int .i64 0, .int .i64 0, .slice none 0 0, .string ⟨#[]⟩] _ (by rfl) ?hg Tryd.underlying44 rfl fsize) rfl ?_
  case hg =>
    rw [heap_alloc_old _ _ (by simp only [World.size_alloc, World.size_setCell]; omega), heap_alloc_old _ _ (by simp only [World.size_alloc, World.size_setCell]; omega), heap_alloc_old _ _ (by simp only [World.size_alloc, World.size_setCell]; omega)]
    exact blk_set14 HG1.out (.int .i64 10) (.slice (some ⟨w1.heap.size + 1 + 1, 0, none⟩) 4 4) (.slice none 0 0) (.slice none 0 0) (.slice none 0 0) (.slice none 0 0) (.slice none 0 0) (.slice none 0 0) (.string ⟨#[]⟩) (.int .i64 0) (.int .i64 0) (.int .i64 0) (.slice none 0 0) (.string ⟨#[]⟩)
  have HBW := (((below_set14 HB1.out (Nat.le_refl _) (.int .i64 10) (.slice (some ⟨w1.heap.size + 1 + 1, 0, none⟩) 4 4) (.slice none 0 0) (.slice none 0 0) (.slice none 0 0) (.slice none 0 0) (.slice none 0 0) (.slice none 0 0) (.string ⟨#[]⟩) (.int .i64 0) (.int .i64 0) (.int .i64 0) (.slice none 0 0) (.string ⟨#[]⟩)).alloc (by simp only [World.size_setCell]; omega) (.cells #[.int .i64 10, .slice (some ⟨w1.heap.size + 1 + 1, 0, none⟩) 4 4, .slice none 0 0, .slice none 0 0, .slice none 0 0, .slice none 0 0, .slice none 0 0, .slice none 0 0, .string ⟨#[]⟩, .int .i64 0, .int .i64 0, .int .i64 0, .slice none 0 0, .string ⟨#[]⟩] 44)).alloc (by simp only [World.size_alloc, World.size_setCell]; omega) (.cells #[.int .i64 a, .int .i64 b, .int .i64 c, .int .i64 d] 75)).alloc (by simp only [World.size_alloc, World.size_setCell]; omega) (.cells #[.int .i64 a, .int .i64 b, .int .i64 c, .int .i64 d] 3)
  exact ⟨_, rfl, ⟨_, _, _, _, _, _, _, _, rfl, row_block [a, b, c, d] _ _ _ (by unfold maxLen; simp only [List.length_cons, List.length_nil]; omega) _ (by simp only [World.size_alloc, World.size_setCell]), row_nil _ _, row_nil _ _, row_nil _ _, row_nil _ _, entries_nil _ _, events_nil _ _, events_nil _ _⟩, HBW⟩

set_option maxRecDepth 100000 in
set_option maxHeartbeats 6400000 in
theorem flat_app (B : Nat) (v : Value) (a : Int) (b : BW) (w : World) (h : IsMsg B w v (.app a b)) (hB : B ≤ w.heap.size) :
    Calls Tryd.prog 14 #[v] w fun r w' => GotFlat (flatM (.app a b)) w r w' := by
  have HK : HasKind v 11 := hasKind h
  obtain ⟨lv, rfl, i1⟩ := h
  obtain ⟨p1, q1, rfl⟩ := i1.form
  have I1 := Lib.hid i1
  clear i1
  obtain ⟨T, p, F, hv, hm, hcf, hc⟩ := HK
  injection hv with hv1 hv2
  subst hv1 hv2
  have HC := Lib.hid hc
  have qn : ∀ (W : World) (v : Value), (binOp .eql 34 (.iface 77 v) .nilIface).run Tryd.prog W = .ok (.bool false) W := fun W v => by kernel_rfl
  have a0 : ∀ (W : World) (v : Value), (Instr.typeAssert (.iface 77 v) 34 59 true).run Tryd.prog W = .ok (.tuple #[(.agg #[.int .i64 0, .int .i64 0, .int .i64 0]), .bool false]) W := fun W v => by kernel_rfl
  have a1 : ∀ (W : World) (v : Value), (Instr.typeAssert (.iface 77 v) 34 61 true).run Tryd.prog W = .ok (.tuple #[(.agg #[.int .i64 0, .int .i64 0]), .bool false]) W := fun W v => by kernel_rfl
  have a2 : ∀ (W : World) (v : Value), (Instr.typeAssert (.iface 77 v) 34 63 true).run Tryd.prog W = .ok (.tuple #[(.agg #[.int .i64 0, .int .i64 0]), .bool false]) W := fun W v => by kernel_rfl
  have a3 : ∀ (W : World) (v : Value), (Instr.typeAssert (.iface 77 v) 34 65 true).run Tryd.prog W = .ok (.tuple #[(.agg #[.int .i64 0, .slice none 0 0, .slice none 0 0, .slice none 0 0]), .bool false]) W := fun W v => by kernel_rfl
  have a4 : ∀ (W : World) (v : Value), (Instr.typeAssert (.iface 77 v) 34 67 true).run Tryd.prog W = .ok (.tuple #[(.agg #[.int .i64 0]), .bool false]) W := fun W v => by kernel_rfl
  have a5 : ∀ (W : World) (v : Value), (Instr.typeAssert (.iface 77 v) 34 69 true).run Tryd.prog W = .ok (.tuple #[(.agg #[.int .i64 0, .int .i64 0, .int .i64 0, .slice none 0 0]), .bool false]) W := fun W v => by kernel_rfl
  have a6 : ∀ (W : World) (v : Value), (Instr.typeAssert (.iface 77 v) 34 71 true).run Tryd.prog W = .ok (.tuple #[(.agg #[.int .i64 0, .int .i64 0, .int .i64 0, .int .i64 0, .int .i64 0, .int .i64 0, .slice none 0 0]), .bool false]) W := fun W v => by kernel_rfl
  have a7 : ∀ (W : World) (v : Value), (Instr.typeAssert (.iface 77 v) 34 53 true).run Tryd.prog W = .ok (.tuple #[(.agg #[.int .i64 0, .int .i64 0, .int .i64 0]), .bool false]) W := fun W v => by kernel_rfl
  have a8 : ∀ (W : World) (v : Value), (Instr.typeAssert (.iface 77 v) 34 73 true).run Tryd.prog W = .ok (.tuple #[(.agg #[.int .i64 0, .int .i64 0, .int .i64 0, .int .i64 0]), .bool false]) W := fun W v => by kernel_rfl
  have a9 : ∀ (W : World) (v : Value), (Instr.typeAssert (.iface 77 v) 34 75 true).run Tryd.prog W = .ok (.tuple #[(.agg #[.int .i64 0, .int .i64 0, .int .i64 0, .int .i64 0]), .bool false]) W := fun W v => by kernel_rfl
  have a10 : ∀ (W : World) (v : Value), (Instr.typeAssert (.iface 77 v) 34 77 true).run Tryd.prog W = .ok (.tuple #[v, .bool true]) W := fun W v => by kernel_rfl
  have HG0 := Lib.hid (heap_alloc_new w (.cells #[.int .i64 0, .slice none 0 0, .slice none 0 0, .slice none 0 0, .slice none 0 0, .slice none 0 0, .slice none 0 0, .slice none 0 0, .string ⟨#[]⟩, .int .i64 0, .int .i64 0, .int .i64 0, .slice none 0 0, .string ⟨#[]⟩] 44))
  have HB0 := Lib.hid ((Below.refl w.heap.size w).alloc (Nat.le_refl _) (.cells #[.int .i64 0, .slice none 0 0, .slice none 0 0, .slice none 0 0, .slice none 0 0, .slice none 0 0, .slice none 0 0, .slice none 0 0, .string ⟨#[]⟩, .int .i64 0, .int .i64 0, .int .i64 0, .slice none 0 0, .string ⟨#[]⟩] 44))
  clear hc
  go_enter Tryd.func14, Tryd.ntmps14
  go_wp2_with fail
  refine (HC.out _).mono ?_
  rintro r w1 ⟨rfl, hb1⟩
  have HB1 := Lib.hid (bstep HB0.out hb1)
  have hg1 := (hb1.block w.heap.size (by simp only [World.size_alloc]; omega)).trans HG0.out
  have HG1 := Lib.hid hg1
  have hlt1 : w.heap.size < w1.heap.size := (Array.getElem?_eq_some_iff.1 hg1).1
  have z0 : w1.cell? ⟨w.heap.size, 0, none⟩ = some (.int .i64 0) := by rw [Lib.cell_of_heap hg1]; rfl
  have k0 : w1.frozen? ⟨w.heap.size, 0, none⟩ = false := Lib.frozen_of_heap hg1 0
  have z1 : w1.cell? ⟨w.heap.size, 1, none⟩ = some (.slice none 0 0) := by rw [Lib.cell_of_heap hg1]; rfl
  have k1 : w1.frozen? ⟨w.heap.size, 1, none⟩ = false := Lib.frozen_of_heap hg1 1
  have z2 : w1.cell? ⟨w.heap.size, 2, none⟩ = some (.slice none 0 0) := by rw [Lib.cell_of_heap hg1]; rfl
  have k2 : w1.frozen? ⟨w.heap.size, 2, none⟩ = false := Lib.frozen_of_heap hg1 2
  have z3 : w1.cell? ⟨w.heap.size, 3, none⟩ = some (.slice none 0 0) := by rw [Lib.cell_of_heap hg1]; rfl
  have k3 : w1.frozen? ⟨w.heap.size, 3, none⟩ = false := Lib.frozen_of_heap hg1 3
  have z4 : w1.cell? ⟨w.heap.size, 4, none⟩ = some (.slice none 0 0) := by rw [Lib.cell_of_heap hg1]; rfl
  have k4 : w1.frozen? ⟨w.heap.size, 4, none⟩ = false := Lib.frozen_of_heap hg1 4
  have z5 : w1.cell? ⟨w.heap.size, 5, none⟩ = some (.slice none 0 0) := by rw [Lib.cell_of_heap hg1]; rfl
  have k5 : w1.frozen? ⟨w.heap.size, 5, none⟩ = false := Lib.frozen_of_heap hg1 5
  have z6 : w1.cell? ⟨w.heap.size, 6, none⟩ = some (.slice none 0 0) := by rw [Lib.cell_of_heap hg1]; rfl
  have k6 : w1.frozen? ⟨w.heap.size, 6, none⟩ = false := Lib.frozen_of_heap hg1 6
  have z7 : w1.cell? ⟨w.heap.size, 7, none⟩ = some (.slice none 0 0) := by rw [Lib.cell_of_heap hg1]; rfl
  have k7 : w1.frozen? ⟨w.heap.size, 7, none⟩ = false := Lib.frozen_of_heap hg1 7
  have z8 : w1.cell? ⟨w.heap.size, 8, none⟩ = some (.string ⟨#[]⟩) := by rw [Lib.cell_of_heap hg1]; rfl
  have k8 : w1.frozen? ⟨w.heap.size, 8, none⟩ = false := Lib.frozen_of_heap hg1 8
  have z9 : w1.cell? ⟨w.heap.size, 9, none⟩ = some (.int .i64 0) := by rw [Lib.cell_of_heap hg1]; rfl
  have k9 : w1.frozen? ⟨w.heap.size, 9, none⟩ = false := Lib.frozen_of_heap hg1 9
  have z10 : w1.cell? ⟨w.heap.size, 10, none⟩ = some (.int .i64 0) := by rw [Lib.cell_of_heap hg1]; rfl
  have k10 : w1.frozen? ⟨w.heap.size, 10, none⟩ = false := Lib.frozen_of_heap hg1 10
  have z11 : w1.cell? ⟨w.heap.size, 11, none⟩ = some (.int .i64 0) := by rw [Lib.cell_of_heap hg1]; rfl
  have k11 : w1.frozen? ⟨w.heap.size, 11, none⟩ = false := Lib.frozen_of_heap hg1 11
  have z12 : w1.cell? ⟨w.heap.size, 12, none⟩ = some (.slice none 0 0) := by rw [Lib.cell_of_heap hg1]; rfl
  have k12 : w1.frozen? ⟨w.heap.size, 12, none⟩ = false := Lib.frozen_of_heap hg1 12
  have z13 : w1.cell? ⟨w.heap.size, 13, none⟩ = some (.string ⟨#[]⟩) := by rw [Lib.cell_of_heap hg1]; rfl
  have k13 : w1.frozen? ⟨w.heap.size, 13, none⟩ = false := Lib.frozen_of_heap hg1 13
  have n1 : w.heap.size < w1.heap.size + 1 := by omega
  have n2 : w.heap.size < w1.heap.size + 1 + 1 := by omega
  clear hb1 hg1
  go_wp2_with fail
  (try simp only [Exit.inBlock, Exit.then])
  refine bodyPost_ret (ret_cell1 (t := 44) (fr := (0, 0)) rfl _ _ w.heap.size #[.int .i64 11, .slice (some ⟨w1.heap.size + 1 + 1, 0, none⟩) 1 1, .slice none 0 0, .slice none 0 0, .slice none 0 0, .slice none 0 0, .slice none 0 0, .slice none 0 0, .string b.stream, .int .i64 b.expect, .int .i64 b.session, .int .i64 b.seq, .slice p1 b.events.length q1, .string ⟨#[]⟩] _ (by rfl) ?hg Tryd.underlying44 rfl fsize) rfl ?_
  case hg =>
    rw [heap_alloc_old _ _ (by simp only [World.size_alloc, World.size_setCell]; omega), heap_alloc_old _ _ (by simp only [World.size_alloc, World.size_setCell]; omega), heap_alloc_old _ _ (by simp only [World.size_alloc, World.size_setCell]; omega)]
    exact blk_set14 HG1.out (.int .i64 11) (.slice (some ⟨w1.heap.size + 1 + 1, 0, none⟩) 1 1) (.slice none 0 0) (.slice none 0 0) (.slice none 0 0) (.slice none 0 0) (.slice none 0 0) (.slice none 0 0) (.string b.stream) (.int .i64 b.expect) (.int .i64 b.session) (.int .i64 b.seq) (.slice p1 b.events.length q1) (.string ⟨#[]⟩)
  have HBW := (((below_set14 HB1.out (Nat.le_refl _) (.int .i64 11) (.slice (some ⟨w1.heap.size + 1 + 1, 0, none⟩) 1 1) (.slice none 0 0) (.slice none 0 0) (.slice none 0 0) (.slice none 0 0) (.slice none 0 0) (.slice none 0 0) (.string b.stream) (.int .i64 b.expect) (.int .i64 b.session) (.int .i64 b.seq) (.slice p1 b.events.length q1) (.string ⟨#[]⟩)).alloc (by simp only [World.size_setCell]; omega) (.cells #[.int .i64 11, .slice (some ⟨w1.heap.size + 1 + 1, 0, none⟩) 1 1, .slice none 0 0, .slice none 0 0, .slice none 0 0, .slice none 0 0, .slice none 0 0, .slice none 0 0, .string b.stream, .int .i64 b.expect, .int .i64 b.session, .int .i64 b.seq, .slice p1 b.events.length q1, .string ⟨#[]⟩] 44)).alloc (by simp only [World.size_alloc, World.size_setCell]; omega) (.cells #[.int .i64 a, .string b.stream, .int .i64 b.expect, .int .i64 b.session, .int .i64 b.seq, .slice p1 b.events.length q1] 77)).alloc (by simp only [World.size_alloc, World.size_setCell]; omega) (.cells #[.int .i64 a] 3)
  exact ⟨_, rfl, ⟨_, _, _, _, _, _, _, _, rfl, row_block [a] _ _ _ (by unfold maxLen; simp only [List.length_cons, List.length_nil]; omega) _ (by simp only [World.size_alloc, World.size_setCell]), row_nil _ _, row_nil _ _, row_nil _ _, row_nil _ _, entries_nil _ _, events_nil _ _, ((I1.out.keep HBW hB).up (Nat.le_trans hB HBW.size))⟩, HBW⟩

set_option maxRecDepth 100000 in
set_option maxHeartbeats 6400000 in
theorem flat_red (B : Nat) (v : Value) (a : Int) (s : ByteArray) (f : Int) (w : World) (h : IsMsg B w v (.red a s f)) (hB : B ≤ w.heap.size) :
    Calls Tryd.prog 14 #[v] w fun r w' => GotFlat (flatM (.red a s f)) w r w' := by
  have HK : HasKind v 12 := hasKind h
  obtain rfl := h
  obtain ⟨T, p, F, hv, hm, hcf, hc⟩ := HK
  injection hv with hv1 hv2
  subst hv1 hv2
  have HC := Lib.hid hc
  have qn : ∀ (W : World) (v : Value), (binOp .eql 34 (.iface 79 v) .nilIface).run Tryd.prog W = .ok (.bool false) W := fun W v => by kernel_rfl
  have a0 : ∀ (W : World) (v : Value), (Instr.typeAssert (.iface 79 v) 34 59 true).run Tryd.prog W = .ok (.tuple #[(.agg #[.int .i64 0, .int .i64 0, .int .i64 0]), .bool false]) W := fun W v => by kernel_rfl
  have a1 : ∀ (W : World) (v : Value), (Instr.typeAssert (.iface 79 v) 34 61 true).run Tryd.prog W = .ok (.tuple #[(.agg #[.int .i64 0, .int .i64 0]), .bool false]) W := fun W v => by kernel_rfl
  have a2 : ∀ (W : World) (v : Value), (Instr.typeAssert (.iface 79 v) 34 63 true).run Tryd.prog W = .ok (.tuple #[(.agg #[.int .i64 0, .int .i64 0]), .bool false]) W := fun W v => by kernel_rfl
  have a3 : ∀ (W : World) (v : Value), (Instr.typeAssert (.iface 79 v) 34 65 true).run Tryd.prog W = .ok (.tuple #[(.agg #[.int .i64 0, .slice none 0 0, .slice none 0 0, .slice none 0 0]), .bool false]) W := fun W v => by kernel_rfl
  have a4 : ∀ (W : World) (v : Value), (Instr.typeAssert (.iface 79 v) 34 67 true).run Tryd.prog W = .ok (.tuple #[(.agg #[.int .i64 0]), .bool false]) W := fun W v => by kernel_rfl
  have a5 : ∀ (W : World) (v : Value), (Instr.typeAssert (.iface 79 v) 34 69 true).run Tryd.prog W = .ok (.tuple #[(.agg #[.int .i64 0, .int .i64 0, .int .i64 0, .slice none 0 0]), .bool false]) W := fun W v => by kernel_rfl
  have a6 : ∀ (W : World) (v : Value), (Instr.typeAssert (.iface 79 v) 34 71 true).run Tryd.prog W = .ok (.tuple #[(.agg #[.int .i64 0, .int .i64 0, .int .i64 0, .int .i64 0, .int .i64 0, .int .i64 0, .slice none 0 0]), .bool false]) W := fun W v => by kernel_rfl
  have a7 : ∀ (W : World) (v : Value), (Instr.typeAssert (.iface 79 v) 34 53 true).run Tryd.prog W = .ok (.tuple #[(.agg #[.int .i64 0, .int .i64 0, .int .i64 0]), .bool false]) W := fun W v => by kernel_rfl
  have a8 : ∀ (W : World) (v : Value), (Instr.typeAssert (.iface 79 v) 34 73 true).run Tryd.prog W = .ok (.tuple #[(.agg #[.int .i64 0, .int .i64 0, .int .i64 0, .int .i64 0]), .bool false]) W := fun W v => by kernel_rfl
  have a9 : ∀ (W : World) (v : Value), (Instr.typeAssert (.iface 79 v) 34 75 true).run Tryd.prog W = .ok (.tuple #[(.agg #[.int .i64 0, .int .i64 0, .int .i64 0, .int .i64 0]), .bool false]) W := fun W v => by kernel_rfl
  have a10 : ∀ (W : World) (v : Value), (Instr.typeAssert (.iface 79 v) 34 77 true).run Tryd.prog W = .ok (.tuple #[(.agg #[.int .i64 0, .string ByteArray.empty, .int .i64 0, .int .i64 0, .int .i64 0, .slice none 0 0]), .bool false]) W := fun W v => by kernel_rfl
  have a11 : ∀ (W : World) (v : Value), (Instr.typeAssert (.iface 79 v) 34 79 true).run Tryd.prog W = .ok (.tuple #[v, .bool true]) W := fun W v => by kernel_rfl
  have HG0 := Lib.hid (heap_alloc_new w (.cells #[.int .i64 0, .slice none 0 0, .slice none 0 0, .slice none 0 0, .slice none 0 0, .slice none 0 0, .slice none 0 0, .slice none 0 0, .string ⟨#[]⟩, .int .i64 0, .int .i64 0, .int .i64 0, .slice none 0 0, .string ⟨#[]⟩] 44))
  have HB0 := Lib.hid ((Below.refl w.heap.size w).alloc (Nat.le_refl _) (.cells #[.int .i64 0, .slice none 0 0, .slice none 0 0, .slice none 0 0, .slice none 0 0, .slice none 0 0, .slice none 0 0, .slice none 0 0, .string ⟨#[]⟩, .int .i64 0, .int .i64 0, .int .i64 0, .slice none 0 0, .string ⟨#[]⟩] 44))
  clear hc
  go_enter Tryd.func14, Tryd.ntmps14
  go_wp2_with fail
  refine (HC.out _).mono ?_
  rintro r w1 ⟨rfl, hb1⟩
  have HB1 := Lib.hid (bstep HB0.out hb1)
  have hg1 := (hb1.block w.heap.size (by simp only [World.size_alloc]; omega)).trans HG0.out
  have HG1 := Lib.hid hg1
  have hlt1 : w.heap.size < w1.heap.size := (Array.getElem?_eq_some_iff.1 hg1).1
  have z0 : w1.cell? ⟨w.heap.size, 0, none⟩ = some (.int .i64 0) := by rw [Lib.cell_of_heap hg1]; rfl
  have k0 : w1.frozen? ⟨w.heap.size, 0, none⟩ = false := Lib.frozen_of_heap hg1 0
  have z1 : w1.cell? ⟨w.heap.size, 1, none⟩ = some (.slice none 0 0) := by rw [Lib.cell_of_heap hg1]; rfl
  have k1 : w1.frozen? ⟨w.heap.size, 1, none⟩ = false := Lib.frozen_of_heap hg1 1
  have z2 : w1.cell? ⟨w.heap.size, 2, none⟩ = some (.slice none 0 0) := by rw [Lib.cell_of_heap hg1]; rfl
  have k2 : w1.frozen? ⟨w.heap.size, 2, none⟩ = false := Lib.frozen_of_heap hg1 2
  have z3 : w1.cell? ⟨w.heap.size, 3, none⟩ = some (.slice none 0 0) := by rw [Lib.cell_of_heap hg1]; rfl
  have k3 : w1.frozen? ⟨w.heap.size, 3, none⟩ = false := Lib.frozen_of_heap hg1 3
  have z4 : w1.cell? ⟨w.heap.size, 4, none⟩ = some (.slice none 0 0) := by rw [Lib.cell_of_heap hg1]; rfl
  have k4 : w1.frozen? ⟨w.heap.size, 4, none⟩ = false := Lib.frozen_of_heap hg1 4
  have z5 : w1.cell? ⟨w.heap.size, 5, none⟩ = some (.slice none 0 0) := by rw [Lib.cell_of_heap hg1]; rfl
  have k5 : w1.frozen? ⟨w.heap.size, 5, none⟩ = false := Lib.frozen_of_heap hg1 5
  have z6 : w1.cell? ⟨w.heap.size, 6, none⟩ = some (.slice none 0 0) := by rw [Lib.cell_of_heap hg1]; rfl
  have k6 : w1.frozen? ⟨w.heap.size, 6, none⟩ = false := Lib.frozen_of_heap hg1 6
  have z7 : w1.cell? ⟨w.heap.size, 7, none⟩ = some (.slice none 0 0) := by rw [Lib.cell_of_heap hg1]; rfl
  have k7 : w1.frozen? ⟨w.heap.size, 7, none⟩ = false := Lib.frozen_of_heap hg1 7
  have z8 : w1.cell? ⟨w.heap.size, 8, none⟩ = some (.string ⟨#[]⟩) := by rw [Lib.cell_of_heap hg1]; rfl
  have k8 : w1.frozen? ⟨w.heap.size, 8, none⟩ = false := Lib.frozen_of_heap hg1 8
  have z9 : w1.cell? ⟨w.heap.size, 9, none⟩ = some (.int .i64 0) := by rw [Lib.cell_of_heap hg1]; rfl
  have k9 : w1.frozen? ⟨w.heap.size, 9, none⟩ = false := Lib.frozen_of_heap hg1 9
  have z10 : w1.cell? ⟨w.heap.size, 10, none⟩ = some (.int .i64 0) := by rw [Lib.cell_of_heap hg1]; rfl
  have k10 : w1.frozen? ⟨w.heap.size, 10, none⟩ = false := Lib.frozen_of_heap hg1 10
  have z11 : w1.cell? ⟨w.heap.size, 11, none⟩ = some (.int .i64 0) := by rw [Lib.cell_of_heap hg1]; rfl
  have k11 : w1.frozen? ⟨w.heap.size, 11, none⟩ = false := Lib.frozen_of_heap hg1 11
  have z12 : w1.cell? ⟨w.heap.size, 12, none⟩ = some (.slice none 0 0) := by rw [Lib.cell_of_heap hg1]; rfl
  have k12 : w1.frozen? ⟨w.heap.size, 12, none⟩ = false := Lib.frozen_of_heap hg1 12
  have z13 : w1.cell? ⟨w.heap.size, 13, none⟩ = some (.string ⟨#[]⟩) := by rw [Lib.cell_of_heap hg1]; rfl
  have k13 : w1.frozen? ⟨w.heap.size, 13, none⟩ = false := Lib.frozen_of_heap hg1 13
  have n1 : w.heap.size < w1.heap.size + 1 := by omega
  have n2 : w.heap.size < w1.heap.size + 1 + 1 := by omega
  clear hb1 hg1
  go_wp2_with fail
  (try simp only [Exit.inBlock, Exit.then])
  refine bodyPost_ret (ret_cell1 (t := 44) (fr := (0, 0)) rfl _ _ w.heap.size #[.int .i64 12, .slice (some ⟨w1.heap.size + 1 + 1, 0, none⟩) 2 2, .slice none 0 0, .slice none 0 0, .slice none 0 0, .slice none 0 0, .slice none 0 0, .slice none 0 0, .string ⟨#[]⟩, .int .i64 0, .int .i64 0, .int .i64 0, .slice none 0 0, .string s] _ (by rfl) ?hg Tryd.underlying44 rfl fsize) rfl ?_
  case hg =>
    rw [heap_alloc_old _ _ (by simp only [World.size_alloc, World.size_setCell]; omega), heap_alloc_old _ _ (by simp only [World.size_alloc, World.size_setCell]; omega), heap_alloc_old _ _ (by simp only [World.size_alloc, World.size_setCell]; omega)]
    exact blk_set14 HG1.out (.int .i64 12) (.slice (some ⟨w1.heap.size + 1 + 1, 0, none⟩) 2 2) (.slice none 0 0) (.slice none 0 0) (.slice none 0 0) (.slice none 0 0) (.slice none 0 0) (.slice none 0 0) (.string ⟨#[]⟩) (.int .i64 0) (.int .i64 0) (.int .i64 0) (.slice none 0 0) (.string s)
  have HBW := (((below_set14 HB1.out (Nat.le_refl _) (.int .i64 12) (.slice (some ⟨w1.heap.size + 1 + 1, 0, none⟩) 2 2) (.slice none 0 0) (.slice none 0 0) (.slice none 0 0) (.slice none 0 0) (.slice none 0 0) (.slice none 0 0) (.string ⟨#[]⟩) (.int .i64 0) (.int .i64 0) (.int .i64 0) (.slice none 0 0) (.string s)).alloc (by simp only [World.size_setCell]; omega) (.cells #[.int .i64 12, .slice (some ⟨w1.heap.size + 1 + 1, 0, none⟩) 2 2, .slice none 0 0, .slice none 0 0, .slice none 0 0, .slice none 0 0, .slice none 0 0, .slice none 0 0, .string ⟨#[]⟩, .int .i64 0, .int .i64 0, .int .i64 0, .slice none 0 0, .string s] 44)).alloc (by simp only [World.size_alloc, World.size_setCell]; omega) (.cells #[.int .i64 a, .string s, .int .i64 f] 79)).alloc (by simp only [World.size_alloc, World.size_setCell]; omega) (.cells #[.int .i64 a, .int .i64 f] 3)
  exact ⟨_, rfl, ⟨_, _, _, _, _, _, _, _, rfl, row_block [a, f] _ _ _ (by unfold maxLen; simp only [List.length_cons, List.length_nil]; omega) _ (by simp only [World.size_alloc, World.size_setCell]), row_nil _ _, row_nil _ _, row_nil _ _, row_nil _ _, entries_nil _ _, events_nil _ _, events_nil _ _⟩, HBW⟩

set_option maxRecDepth 100000 in
set_option maxHeartbeats 6400000 in
theorem flat_rep (B : Nat) (v : Value) (a b c d e f : Int) (w : World) (h : IsMsg B w v (.rep a b c d e f)) (hB : B ≤ w.heap.size) :
    Calls Tryd.prog 14 #[v] w fun r w' => GotFlat (flatM (.rep a b c d e f)) w r w' := by
  have HK : HasKind v 13 := hasKind h
  obtain rfl := h
  obtain ⟨T, p, F, hv, hm, hcf, hc⟩ := HK
  injection hv with hv1 hv2
  subst hv1 hv2
  have HC := Lib.hid hc
  have qn : ∀ (W : World) (v : Value), (binOp .eql 34 (.iface 83 v) .nilIface).run Tryd.prog W = .ok (.bool false) W := fun W v => by kernel_rfl
  have a0 : ∀ (W : World) (v : Value), (Instr.typeAssert (.iface 83 v) 34 59 true).run Tryd.prog W = .ok (.tuple #[(.agg #[.int .i64 0, .int .i64 0, .int .i64 0]), .bool false]) W := fun W v => by kernel_rfl
  have a1 : ∀ (W : World) (v : Value), (Instr.typeAssert (.iface 83 v) 34 61 true).run Tryd.prog W = .ok (.tuple #[(.agg #[.int .i64 0, .int .i64 0]), .bool false]) W := fun W v => by kernel_rfl
  have a2 : ∀ (W : World) (v : Value), (Instr.typeAssert (.iface 83 v) 34 63 true).run Tryd.prog W = .ok (.tuple #[(.agg #[.int .i64 0, .int .i64 0]), .bool false]) W := fun W v => by kernel_rfl
  have a3 : ∀ (W : World) (v : Value), (Instr.typeAssert (.iface 83 v) 34 65 true).run Tryd.prog W = .ok (.tuple #[(.agg #[.int .i64 0, .slice none 0 0, .slice none 0 0, .slice none 0 0]), .bool false]) W := fun W v => by kernel_rfl
  have a4 : ∀ (W : World) (v : Value), (Instr.typeAssert (.iface 83 v) 34 67 true).run Tryd.prog W = .ok (.tuple #[(.agg #[.int .i64 0]), .bool false]) W := fun W v => by kernel_rfl
  have a5 : ∀ (W : World) (v : Value), (Instr.typeAssert (.iface 83 v) 34 69 true).run Tryd.prog W = .ok (.tuple #[(.agg #[.int .i64 0, .int .i64 0, .int .i64 0, .slice none 0 0]), .bool false]) W := fun W v => by kernel_rfl
  have a6 : ∀ (W : World) (v : Value), (Instr.typeAssert (.iface 83 v) 34 71 true).run Tryd.prog W = .ok (.tuple #[(.agg #[.int .i64 0, .int .i64 0, .int .i64 0, .int .i64 0, .int .i64 0, .int .i64 0, .slice none 0 0]), .bool false]) W := fun W v => by kernel_rfl
  have a7 : ∀ (W : World) (v : Value), (Instr.typeAssert (.iface 83 v) 34 53 true).run Tryd.prog W = .ok (.tuple #[(.agg #[.int .i64 0, .int .i64 0, .int .i64 0]), .bool false]) W := fun W v => by kernel_rfl
  have a8 : ∀ (W : World) (v : Value), (Instr.typeAssert (.iface 83 v) 34 73 true).run Tryd.prog W = .ok (.tuple #[(.agg #[.int .i64 0, .int .i64 0, .int .i64 0, .int .i64 0]), .bool false]) W := fun W v => by kernel_rfl
  have a9 : ∀ (W : World) (v : Value), (Instr.typeAssert (.iface 83 v) 34 75 true).run Tryd.prog W = .ok (.tuple #[(.agg #[.int .i64 0, .int .i64 0, .int .i64 0, .int .i64 0]), .bool false]) W := fun W v => by kernel_rfl
  have a10 : ∀ (W : World) (v : Value), (Instr.typeAssert (.iface 83 v) 34 77 true).run Tryd.prog W = .ok (.tuple #[(.agg #[.int .i64 0, .string ByteArray.empty, .int .i64 0, .int .i64 0, .int .i64 0, .slice none 0 0]), .bool false]) W := fun W v => by kernel_rfl
  have a11 : ∀ (W : World) (v : Value), (Instr.typeAssert (.iface 83 v) 34 79 true).run Tryd.prog W = .ok (.tuple #[(.agg #[.int .i64 0, .string ByteArray.empty, .int .i64 0]), .bool false]) W := fun W v => by kernel_rfl
  have a12 : ∀ (W : World) (v : Value), (Instr.typeAssert (.iface 83 v) 34 83 true).run Tryd.prog W = .ok (.tuple #[v, .bool true]) W := fun W v => by kernel_rfl
  have HG0 := Lib.hid (heap_alloc_new w (.cells #[.int .i64 0, .slice none 0 0, .slice none 0 0, .slice none 0 0, .slice none 0 0, .slice none 0 0, .slice none 0 0, .slice none 0 0, .string ⟨#[]⟩, .int .i64 0, .int .i64 0, .int .i64 0, .slice none 0 0, .string ⟨#[]⟩] 44))
  have HB0 := Lib.hid ((Below.refl w.heap.size w).alloc (Nat.le_refl _) (.cells #[.int .i64 0, .slice none 0 0, .slice none 0 0, .slice none 0 0, .slice none 0 0, .slice none 0 0, .slice none 0 0, .slice none 0 0, .string ⟨#[]⟩, .int .i64 0, .int .i64 0, .int .i64 0, .slice none 0 0, .string ⟨#[]⟩] 44))
  clear hc
  go_enter Tryd.func14, Tryd.ntmps14
  go_wp2_with fail
  refine (HC.out _).mono ?_
  rintro r w1 ⟨rfl, hb1⟩
  have HB1 := Lib.hid (bstep HB0.out hb1)
  have hg1 := (hb1.block w.heap.size (by simp only [World.size_alloc]; omega)).trans HG0.out
  have HG1 := Lib.hid hg1
  have hlt1 : w.heap.size < w1.heap.size := (Array.getElem?_eq_some_iff.1 hg1).1
  have z0 : w1.cell? ⟨w.heap.size, 0, none⟩ = some (.int .i64 0) := by rw [Lib.cell_of_heap hg1]; rfl
  have k0 : w1.frozen? ⟨w.heap.size, 0, none⟩ = false := Lib.frozen_of_heap hg1 0
  have z1 : w1.cell? ⟨w.heap.size, 1, none⟩ = some (.slice none 0 0) := by rw [Lib.cell_of_heap hg1]; rfl
  have k1 : w1.frozen? ⟨w.heap.size, 1, none⟩ = false := Lib.frozen_of_heap hg1 1
  have z2 : w1.cell? ⟨w.heap.size, 2, none⟩ = some (.slice none 0 0) := by rw [Lib.cell_of_heap hg1]; rfl
  have k2 : w1.frozen? ⟨w.heap.size, 2, none⟩ = false := Lib.frozen_of_heap hg1 2
  have z3 : w1.cell? ⟨w.heap.size, 3, none⟩ = some (.slice none 0 0) := by rw [Lib.cell_of_heap hg1]; rfl
  have k3 : w1.frozen? ⟨w.heap.size, 3, none⟩ = false := Lib.frozen_of_heap hg1 3
  have z4 : w1.cell? ⟨w.heap.size, 4, none⟩ = some (.slice none 0 0) := by rw [Lib.cell_of_heap hg1]; rfl
  have k4 : w1.frozen? ⟨w.heap.size, 4, none⟩ = false := Lib.frozen_of_heap hg1 4
  have z5 : w1.cell? ⟨w.heap.size, 5, none⟩ = some (.slice none 0 0) := by rw [Lib.cell_of_heap hg1]; rfl
  have k5 : w1.frozen? ⟨w.heap.size, 5, none⟩ = false := Lib.frozen_of_heap hg1 5
  have z6 : w1.cell? ⟨w.heap.size, 6, none⟩ = some (.slice none 0 0) := by rw [Lib.cell_of_heap hg1]; rfl
  have k6 : w1.frozen? ⟨w.heap.size, 6, none⟩ = false := Lib.frozen_of_heap hg1 6
  have z7 : w1.cell? ⟨w.heap.size, 7, none⟩ = some (.slice none 0 0) := by rw [Lib.cell_of_heap hg1]; rfl
  have k7 : w1.frozen? ⟨w.heap.size, 7, none⟩ = false := Lib.frozen_of_heap hg1 7
  have z8 : w1.cell? ⟨w.heap.size, 8, none⟩ = some (.string ⟨#[]⟩) := by rw [Lib.cell_of_heap hg1]; rfl
  have k8 : w1.frozen? ⟨w.heap.size, 8, none⟩ = false := Lib.frozen_of_heap hg1 8
  have z9 : w1.cell? ⟨w.heap.size, 9, none⟩ = some (.int .i64 0) := by rw [Lib.cell_of_heap hg1]; rfl
  have k9 : w1.frozen? ⟨w.heap.size, 9, none⟩ = false := Lib.frozen_of_heap hg1 9
  have z10 : w1.cell? ⟨w.heap.size, 10, none⟩ = some (.int .i64 0) := by rw [Lib.cell_of_heap hg1]; rfl
  have k10 : w1.frozen? ⟨w.heap.size, 10, none⟩ = false := Lib.frozen_of_heap hg1 10
  have z11 : w1.cell? ⟨w.heap.size, 11, none⟩ = some (.int .i64 0) := by rw [Lib.cell_of_heap hg1]; rfl
  have k11 : w1.frozen? ⟨w.heap.size, 11, none⟩ = false := Lib.frozen_of_heap hg1 11
  have z12 : w1.cell? ⟨w.heap.size, 12, none⟩ = some (.slice none 0 0) := by rw [Lib.cell_of_heap hg1]; rfl
  have k12 : w1.frozen? ⟨w.heap.size, 12, none⟩ = false := Lib.frozen_of_heap hg1 12
  have z13 : w1.cell? ⟨w.heap.size, 13, none⟩ = some (.string ⟨#[]⟩) := by rw [Lib.cell_of_heap hg1]; rfl
  have k13 : w1.frozen? ⟨w.heap.size, 13, none⟩ = false := Lib.frozen_of_heap hg1 13
  have n1 : w.heap.size < w1.heap.size + 1 := by omega
  have n2 : w.heap.size < w1.heap.size + 1 + 1 := by omega
  clear hb1 hg1
  go_wp2_with fail
  (try simp only [Exit.inBlock, Exit.then])
  refine bodyPost_ret (ret_cell1 (t := 44) (fr := (0, 0)) rfl _ _ w.heap.size #[.int .i64 13, .slice (some ⟨w1.heap.size + 1 + 1, 0, none⟩) 6 6, .slice none 0 0, .slice none 0 0, .slice none 0 0, .slice none 0 0, .slice none 0 0, .slice none 0 0, .string ⟨#[]⟩, .int .i64 0, .int .i64 0, .int .i64 0, .slice none 0 0, .string ⟨#[]⟩] _ (by rfl) ?hg Tryd.underlying44 rfl fsize) rfl ?_
  case hg =>
    rw [heap_alloc_old _ _ (by simp only [World.size_alloc, World.size_setCell]; omega), heap_alloc_old _ _ (by simp only [World.size_alloc, World.size_setCell]; omega), heap_alloc_old _ _ (by simp only [World.size_alloc, World.size_setCell]; omega)]
    exact blk_set14 HG1.out (.int .i64 13) (.slice (some ⟨w1.heap.size + 1 + 1, 0, none⟩) 6 6) (.slice none 0 0) (.slice none 0 0) (.slice none 0 0) (.slice none 0 0) (.slice none 0 0) (.slice none 0 0) (.string ⟨#[]⟩) (.int .i64 0) (.int .i64 0) (.int .i64 0) (.slice none 0 0) (.string ⟨#[]⟩)
  have HBW := (((below_set14 HB1.out (Nat.le_refl _) (.int .i64 13) (.slice (some ⟨w1.heap.size + 1 + 1, 0, none⟩) 6 6) (.slice none 0 0) (.slice none 0 0) (.slice none 0 0) (.slice none 0 0) (.slice none 0 0) (.slice none 0 0) (.string ⟨#[]⟩) (.int .i64 0) (.int .i64 0) (.int .i64 0) (.slice none 0 0) (.string ⟨#[]⟩)).alloc (by simp only [World.size_setCell]; omega) (.cells #[.int .i64 13, .slice (some ⟨w1.heap.size + 1 + 1, 0, none⟩) 6 6, .slice none 0 0, .slice none 0 0, .slice none 0 0, .slice none 0 0, .slice none 0 0, .slice none 0 0, .string ⟨#[]⟩, .int .i64 0, .int .i64 0, .int .i64 0, .slice none 0 0, .string ⟨#[]⟩] 44)).alloc (by simp only [World.size_alloc, World.size_setCell]; omega) (.cells #[.int .i64 a, .int .i64 b, .int .i64 c, .int .i64 d, .int .i64 e, .int .i64 f] 83)).alloc (by simp only [World.size_alloc, World.size_setCell]; omega) (.cells #[.int .i64 a, .int .i64 b, .int .i64 c, .int .i64 d, .int .i64 e, .int .i64 f] 3)
  exact ⟨_, rfl, ⟨_, _, _, _, _, _, _, _, rfl, row_block [a, b, c, d, e, f] _ _ _ (by unfold maxLen; simp only [List.length_cons, List.length_nil]; omega) _ (by simp only [World.size_alloc, World.size_setCell]), row_nil _ _, row_nil _ _, row_nil _ _, row_nil _ _, entries_nil _ _, events_nil _ _, events_nil _ _⟩, HBW⟩

set_option maxRecDepth 100000 in
set_option maxHeartbeats 6400000 in
theorem flat_res (B : Nat) (v : Value) (a b c : Int) (l : List EV) (w : World) (h : IsMsg B w v (.res a b c l)) (hB : B ≤ w.heap.size) :
    Calls Tryd.prog 14 #[v] w fun r w' => GotFlat (flatM (.res a b c l)) w r w' := by
  have HK : HasKind v 14 := hasKind h
  obtain ⟨lv, rfl, i1⟩ := h
  obtain ⟨p1, q1, rfl⟩ := i1.form
  have I1 := Lib.hid i1
  clear i1
  obtain ⟨T, p, F, hv, hm, hcf, hc⟩ := HK
  injection hv with hv1 hv2
  subst hv1 hv2
  have HC := Lib.hid hc
  have qn : ∀ (W : World) (v : Value), (binOp .eql 34 (.iface 85 v) .nilIface).run Tryd.prog W = .ok (.bool false) W := fun W v => by kernel_rfl
  have a0 : ∀ (W : World) (v : Value), (Instr.typeAssert (.iface 85 v) 34 59 true).run Tryd.prog W = .ok (.tuple #[(.agg #[.int .i64 0, .int .i64 0, .int .i64 0]), .bool false]) W := fun W v => by kernel_rfl
  have a1 : ∀ (W : World) (v : Value), (Instr.typeAssert (.iface 85 v) 34 61 true).run Tryd.prog W = .ok (.tuple #[(.agg #[.int .i64 0, .int .i64 0]), .bool false]) W := fun W v => by kernel_rfl
  have a2 : ∀ (W : World) (v : Value), (Instr.typeAssert (.iface 85 v) 34 63 true).run Tryd.prog W = .ok (.tuple #[(.agg #[.int .i64 0, .int .i64 0]), .bool false]) W := fun W v => by kernel_rfl
  have a3 : ∀ (W : World) (v : Value), (Instr.typeAssert (.iface 85 v) 34 65 true).run Tryd.prog W = .ok (.tuple #[(.agg #[.int .i64 0, .slice none 0 0, .slice none 0 0, .slice none 0 0]), .bool false]) W := fun W v => by kernel_rfl
  have a4 : ∀ (W : World) (v : Value), (Instr.typeAssert (.iface 85 v) 34 67 true).run Tryd.prog W = .ok (.tuple #[(.agg #[.int .i64 0]), .bool false]) W := fun W v => by kernel_rfl
  have a5 : ∀ (W : World) (v : Value), (Instr.typeAssert (.iface 85 v) 34 69 true).run Tryd.prog W = .ok (.tuple #[(.agg #[.int .i64 0, .int .i64 0, .int .i64 0, .slice none 0 0]), .bool false]) W := fun W v => by kernel_rfl
  have a6 : ∀ (W : World) (v : Value), (Instr.typeAssert (.iface 85 v) 34 71 true).run Tryd.prog W = .ok (.tuple #[(.agg #[.int .i64 0, .int .i64 0, .int .i64 0, .int .i64 0, .int .i64 0, .int .i64 0, .slice none 0 0]), .bool false]) W := fun W v => by kernel_rfl
  have a7 : ∀ (W : World) (v : Value), (Instr.typeAssert (.iface 85 v) 34 53 true).run Tryd.prog W = .ok (.tuple #[(.agg #[.int .i64 0, .int .i64 0, .int .i64 0]), .bool false]) W := fun W v => by kernel_rfl
  have a8 : ∀ (W : World) (v : Value), (Instr.typeAssert (.iface 85 v) 34 73 true).run Tryd.prog W = .ok (.tuple #[(.agg #[.int .i64 0, .int .i64 0, .int .i64 0, .int .i64 0]), .bool false]) W := fun W v => by kernel_rfl
  have a9 : ∀ (W : World) (v : Value), (Instr.typeAssert (.iface 85 v) 34 75 true).run Tryd.prog W = .ok (.tuple #[(.agg #[.int .i64 0, .int .i64 0, .int .i64 0, .int .i64 0]), .bool false]) W := fun W v => by kernel_rfl
  have a10 : ∀ (W : World) (v : Value), (Instr.typeAssert (.iface 85 v) 34 77 true).run Tryd.prog W = .ok (.tuple #[(.agg #[.int .i64 0, .string ByteArray.empty, .int .i64 0, .int .i64 0, .int .i64 0, .slice none 0 0]), .bool false]) W := fun W v => by kernel_rfl
  have a11 : ∀ (W : World) (v : Value), (Instr.typeAssert (.iface 85 v) 34 79 true).run Tryd.prog W = .ok (.tuple #[(.agg #[.int .i64 0, .string ByteArray.empty, .int .i64 0]), .bool false]) W := fun W v => by kernel_rfl
  have a12 : ∀ (W : World) (v : Value), (Instr.typeAssert (.iface 85 v) 34 83 true).run Tryd.prog W = .ok (.tuple #[(.agg #[.int .i64 0, .int .i64 0, .int .i64 0, .int .i64 0, .int .i64 0, .int .i64 0]), .bool false]) W := fun W v => by kernel_rfl
  have a13 : ∀ (W : World) (v : Value), (Instr.typeAssert (.iface 85 v) 34 85 true).run Tryd.prog W = .ok (.tuple #[v, .bool true]) W := fun W v => by kernel_rfl
  have HG0 := Lib.hid (heap_alloc_new w (.cells #[.int .i64 0, .slice none 0 0, .slice none 0 0, .slice none 0 0, .slice none 0 0, .slice none 0 0, .slice none 0 0, .slice none 0 0, .string ⟨#[]⟩, .int .i64 0, .int .i64 0, .int .i64 0, .slice none 0 0, .string ⟨#[]⟩] 44))
  have HB0 := Lib.hid ((Below.refl w.heap.size w).alloc (Nat.le_refl _) (.cells #[.int .i64 0, .slice none 0 0, .slice none 0 0, .slice none 0 0, .slice none 0 0, .slice none 0 0, .slice none 0 0, .slice none 0 0, .string ⟨#[]⟩, .int .i64 0, .int .i64 0, .int .i64 0, .slice none 0 0, .string ⟨#[]⟩] 44))
  clear hc
  go_enter Tryd.func14, Tryd.ntmps14
  go_wp2_with fail
  refine (HC.out _).mono ?_
  rintro r w1 ⟨rfl, hb1⟩
  have HB1 := Lib.hid (bstep HB0.out hb1)
  have hg1 := (hb1.block w.heap.size (by simp only [World.size_alloc]; omega)).trans HG0.out
  have HG1 := Lib.hid hg1
  have hlt1 : w.heap.size < w1.heap.size := (Array.getElem?_eq_some_iff.1 hg1).1
  have z0 : w1.cell? ⟨w.heap.size, 0, none⟩ = some (.int .i64 0) := by rw [Lib.cell_of_heap hg1]; rfl
  have k0 : w1.frozen? ⟨w.heap.size, 0, none⟩ = false := Lib.frozen_of_heap hg1 0
  have z1 : w1.cell? ⟨w.heap.size, 1, none⟩ = some (.slice none 0 0) := by rw [Lib.cell_of_heap hg1]; rfl
  have k1 : w1.frozen? ⟨w.heap.size, 1, none⟩ = false := Lib.frozen_of_heap hg1 1
  have z2 : w1.cell? ⟨w.heap.size, 2, none⟩ = some (.slice none 0 0) := by rw [Lib.cell_of_heap hg1]; rfl
  have k2 : w1.frozen? ⟨w.heap.size, 2, none⟩ = false := Lib.frozen_of_heap hg1 2
  have z3 : w1.cell? ⟨w.heap.size, 3, none⟩ = some (.slice none 0 0) := by rw [Lib.cell_of_heap hg1]; rfl
  have k3 : w1.frozen? ⟨w.heap.size, 3, none⟩ = false := Lib.frozen_of_heap hg1 3
  have z4 : w1.cell? ⟨w.heap.size, 4, none⟩ = some (.slice none 0 0) := by rw [Lib.cell_of_heap hg1]; rfl
  have k4 : w1.frozen? ⟨w.heap.size, 4, none⟩ = false := Lib.frozen_of_heap hg1 4
  have z5 : w1.cell? ⟨w.heap.size, 5, none⟩ = some (.slice none 0 0) := by rw [Lib.cell_of_heap hg1]; rfl
  have k5 : w1.frozen? ⟨w.heap.size, 5, none⟩ = false := Lib.frozen_of_heap hg1 5
  have z6 : w1.cell? ⟨w.heap.size, 6, none⟩ = some (.slice none 0 0) := by rw [Lib.cell_of_heap hg1]; rfl
  have k6 : w1.frozen? ⟨w.heap.size, 6, none⟩ = false := Lib.frozen_of_heap hg1 6
  have z7 : w1.cell? ⟨w.heap.size, 7, none⟩ = some (.slice none 0 0) := by rw [Lib.cell_of_heap hg1]; rfl
  have k7 : w1.frozen? ⟨w.heap.size, 7, none⟩ = false := Lib.frozen_of_heap hg1 7
  have z8 : w1.cell? ⟨w.heap.size, 8, none⟩ = some (.string ⟨#[]⟩) := by rw [Lib.cell_of_heap hg1]; rfl
  have k8 : w1.frozen? ⟨w.heap.size, 8, none⟩ = false := Lib.frozen_of_heap hg1 8
  have z9 : w1.cell? ⟨w.heap.size, 9, none⟩ = some (.int .i64 0) := by rw [Lib.cell_of_heap hg1]; rfl
  have k9 : w1.frozen? ⟨w.heap.size, 9, none⟩ = false := Lib.frozen_of_heap hg1 9
  have z10 : w1.cell? ⟨w.heap.size, 10, none⟩ = some (.int .i64 0) := by rw [Lib.cell_of_heap hg1]; rfl
  have k10 : w1.frozen? ⟨w.heap.size, 10, none⟩ = false := Lib.frozen_of_heap hg1 10
  have z11 : w1.cell? ⟨w.heap.size, 11, none⟩ = some (.int .i64 0) := by rw [Lib.cell_of_heap hg1]; rfl
  have k11 : w1.frozen? ⟨w.heap.size, 11, none⟩ = false := Lib.frozen_of_heap hg1 11
  have z12 : w1.cell? ⟨w.heap.size, 12, none⟩ = some (.slice none 0 0) := by rw [Lib.cell_of_heap hg1]; rfl
  have k12 : w1.frozen? ⟨w.heap.size, 12, none⟩ = false := Lib.frozen_of_heap hg1 12
  have z13 : w1.cell? ⟨w.heap.size, 13, none⟩ = some (.string ⟨#[]⟩) := by rw [Lib.cell_of_heap hg1]; rfl
  have k13 : w1.frozen? ⟨w.heap.size, 13, none⟩ = false := Lib.frozen_of_heap hg1 13
  have n1 : w.heap.size < w1.heap.size + 1 := by omega
  have n2 : w.heap.size < w1.heap.size + 1 + 1 := by omega
  clear hb1 hg1
  go_wp2_with fail
  (try simp only [Exit.inBlock, Exit.then])
  refine bodyPost_ret (ret_cell1 (t := 44) (fr := (0, 0)) rfl _ _ w.heap.size #[.int .i64 14, .slice (some ⟨w1.heap.size + 1 + 1, 0, none⟩) 3 3, .slice none 0 0, .slice none 0 0, .slice none 0 0, .slice none 0 0, .slice none 0 0, .slice p1 l.length q1, .string ⟨#[]⟩, .int .i64 0, .int .i64 0, .int .i64 0, .slice none 0 0, .string ⟨#[]⟩] _ (by rfl) ?hg Tryd.underlying44 rfl fsize) rfl ?_
  case hg =>
    rw [heap_alloc_old _ _ (by simp only [World.size_alloc, World.size_setCell]; omega), heap_alloc_old _ _ (by simp only [World.size_alloc, World.size_setCell]; omega), heap_alloc_old _ _ (by simp only [World.size_alloc, World.size_setCell]; omega)]
    exact blk_set14 HG1.out (.int .i64 14) (.slice (some ⟨w1.heap.size + 1 + 1, 0, none⟩) 3 3) (.slice none 0 0) (.slice none 0 0) (.slice none 0 0) (.slice none 0 0) (.slice none 0 0) (.slice p1 l.length q1) (.string ⟨#[]⟩) (.int .i64 0) (.int .i64 0) (.int .i64 0) (.slice none 0 0) (.string ⟨#[]⟩)
  have HBW := (((below_set14 HB1.out (Nat.le_refl _) (.int .i64 14) (.slice (some ⟨w1.heap.size + 1 + 1, 0, none⟩) 3 3) (.slice none 0 0) (.slice none 0 0) (.slice none 0 0) (.slice none 0 0) (.slice none 0 0) (.slice p1 l.length q1) (.string ⟨#[]⟩) (.int .i64 0) (.int .i64 0) (.int .i64 0) (.slice none 0 0) (.string ⟨#[]⟩)).alloc (by simp only [World.size_setCell]; omega) (.cells #[.int .i64 14, .slice (some ⟨w1.heap.size + 1 + 1, 0, none⟩) 3 3, .slice none 0 0, .slice none 0 0, .slice none 0 0, .slice none 0 0, .slice none 0 0, .slice p1 l.length q1, .string ⟨#[]⟩, .int .i64 0, .int .i64 0, .int .i64 0, .slice none 0 0, .string ⟨#[]⟩] 44)).alloc (by simp only [World.size_alloc, World.size_setCell]; omega) (.cells #[.int .i64 a, .int .i64 b, .int .i64 c, .slice p1 l.length q1] 85)).alloc (by simp only [World.size_alloc, World.size_setCell]; omega) (.cells #[.int .i64 a, .int .i64 b, .int .i64 c] 3)
  exact ⟨_, rfl, ⟨_, _, _, _, _, _, _, _, rfl, row_block [a, b, c] _ _ _ (by unfold maxLen; simp only [List.length_cons, List.length_nil]; omega) _ (by simp only [World.size_alloc, World.size_setCell]), row_nil _ _, row_nil _ _, row_nil _ _, row_nil _ _, entries_nil _ _, ((I1.out.keep HBW hB).up (Nat.le_trans hB HBW.size)), events_nil _ _⟩, HBW⟩

theorem flat_any (B : Nat) (v : Value) (m : Msg) (w : World) (h : IsMsg B w v m) (hB : B ≤ w.heap.size) : Calls Tryd.prog 14 #[v] w fun r w' => GotFlat (flatM m) w r w' := by
  cases m
  case beat => exact flat_beat B v _ _ _ w h hB
  case join => exact flat_join B v _ _ w h hB
  case lease => exact flat_lease B v _ _ w h hB
  case view => exact flat_view B v _ _ _ _ w h hB
  case whr => exact flat_whr B v _ w h hB
  case hav => exact flat_hav B v _ _ _ _ w h hB
  case logs => exact flat_logs B v _ _ _ _ _ _ _ w h hB
  case ack => exact flat_ack B v _ _ _ w h hB
  case ask => exact flat_ask B v _ _ _ _ w h hB
  case told => exact flat_told B v _ _ _ _ w h hB
  case app => exact flat_app B v _ _ w h hB
  case red => exact flat_red B v _ _ _ w h hB
  case rep => exact flat_rep B v _ _ _ _ _ _ w h hB
  case res => exact flat_res B v _ _ _ _ w h hB
end Go.Proofs.YtflojipkgaocnaaDoor
namespace Go.Proofs.YtflojipkgaocnaaDoor
open Go.RowKit
set_option linter.unusedSimpArgs false
set_option linter.unusedVariables false

theorem four_size {w X : World} {o1 o2 o3 o4 : Obj} (h : Below (w.heap.size + 4) ((((w.alloc o1).alloc o2).alloc o3).alloc o4) X) : w.heap.size + 4 ≤ X.heap.size := by have := h.size; simpa using this
theorem four_below {w X : World} {o1 o2 o3 o4 : Obj} (h : Below (w.heap.size + 4) ((((w.alloc o1).alloc o2).alloc o3).alloc o4) X) : Below w.heap.size w X :=
  (((((Below.refl _ _).alloc (Nat.le_refl _) o1).alloc (by rw [World.size_alloc]; omega) o2).alloc (by rw [World.size_alloc, World.size_alloc]; omega) o3).alloc (by rw [World.size_alloc, World.size_alloc, World.size_alloc]; omega) o4).trans (h.mono (by omega))
theorem four_cells {w X : World} {o1 o2 : Obj} {x0 x1 x2 x3 x4 y0 y1 y2 y3 y4 : Value} {t u : TypeId} (h : Below (w.heap.size + 4) ((((w.alloc o1).alloc o2).alloc (.cells #[x0, x1, x2, x3, x4] t)).alloc (.cells #[y0, y1, y2, y3, y4] u)) X) :
    X.cell? ⟨w.heap.size + 2, 4, none⟩ = some x4 ∧ X.cell? ⟨w.heap.size + 3, 4, none⟩ = some y4 := by
  have h1 := h.block (w.heap.size + 2) (by omega)
  have h2 := h.block (w.heap.size + 3) (by omega)
  have k1 := heap_alloc_new ((w.alloc o1).alloc o2) (.cells #[x0, x1, x2, x3, x4] t)
  have k2 := heap_alloc_new (((w.alloc o1).alloc o2).alloc (.cells #[x0, x1, x2, x3, x4] t)) (.cells #[y0, y1, y2, y3, y4] u)
  have k3 := ((Below.refl (((w.alloc o1).alloc o2).alloc (.cells #[x0, x1, x2, x3, x4] t)).heap.size (((w.alloc o1).alloc o2).alloc (.cells #[x0, x1, x2, x3, x4] t))).alloc (Nat.le_refl _) (.cells #[y0, y1, y2, y3, y4] u)).block (w.heap.size + 2) (by simp only [World.size_alloc]; omega)
  simp only [World.size_alloc] at k1 k2
  exact ⟨by rw [Lib.cell_of_heap (h1.trans (k3.trans k1))]; rfl, by rw [Lib.cell_of_heap (h2.trans k2)]; rfl⟩

set_option maxRecDepth 100000 in
set_option maxHeartbeats 3200000 in
theorem same6_lit (B : Nat) (e : EN) (a1 a2 : Option Addr) (c1 c2 : Nat) (w : World) (h1 : IsEvents B w (.slice a1 e.b.events.length c1) e.b.events) (h2 : IsEvents B w (.slice a2 e.b.events.length c2) e.b.events) (hB : B ≤ w.heap.size) :
    Calls Tryd.prog 27 #[.agg #[.int .i64 e.pos, .int .i64 e.epoch, .string e.b.stream, .int .i64 e.b.expect, .int .i64 e.b.session, .int .i64 e.b.seq, .slice a1 e.b.events.length c1], .agg #[.int .i64 e.pos, .int .i64 e.epoch, .string e.b.stream, .int .i64 e.b.expect, .int .i64 e.b.session, .int .i64 e.b.seq, .slice a2 e.b.events.length c2]] w fun r w' => r = .returned (.bool true) ∧ Below w.heap.size w w' := by
  have H1 := Lib.hid h1
  have H2 := Lib.hid h2
  have HB := Lib.hid hB
  have hmax : e.b.events.length ≤ 9223372036854775807 := by obtain ⟨_, _, _, h3, h4, _⟩ := h1; unfold maxLen at h4; omega
  have BZ0 := Lib.hid (Below.refl (w.heap.size + 4) ((((w.alloc (.cells #[.int .i64 e.pos, .int .i64 e.epoch, .string e.b.stream, .int .i64 e.b.expect, .int .i64 e.b.session, .int .i64 e.b.seq, .slice a1 e.b.events.length c1] 55)).alloc (.cells #[.int .i64 e.pos, .int .i64 e.epoch, .string e.b.stream, .int .i64 e.b.expect, .int .i64 e.b.session, .int .i64 e.b.seq, .slice a2 e.b.events.length c2] 55)).alloc (.cells #[.string e.b.stream, .int .i64 e.b.expect, .int .i64 e.b.session, .int .i64 e.b.seq, .slice a1 e.b.events.length c1] 28)).alloc (.cells #[.string e.b.stream, .int .i64 e.b.expect, .int .i64 e.b.session, .int .i64 e.b.seq, .slice a2 e.b.events.length c2] 28)))
  have es : (e.b.stream.toList == e.b.stream.toList) = true := beq_self_eq_true _
  clear h1 h2 hB
  go_enter Tryd.func27, Tryd.ntmps27
  go_wp2_with fail
  go_loopw [7] (fun t7 wr => ∃ k : Nat, k ≤ e.b.events.length ∧ t7 = .int .i64 k ∧ Below (w.heap.size + 4) ((((w.alloc (.cells #[.int .i64 e.pos, .int .i64 e.epoch, .string e.b.stream, .int .i64 e.b.expect, .int .i64 e.b.session, .int .i64 e.b.seq, .slice a1 e.b.events.length c1] 55)).alloc (.cells #[.int .i64 e.pos, .int .i64 e.epoch, .string e.b.stream, .int .i64 e.b.expect, .int .i64 e.b.session, .int .i64 e.b.seq, .slice a2 e.b.events.length c2] 55)).alloc (.cells #[.string e.b.stream, .int .i64 e.b.expect, .int .i64 e.b.session, .int .i64 e.b.seq, .slice a1 e.b.events.length c1] 28)).alloc (.cells #[.string e.b.stream, .int .i64 e.b.expect, .int .i64 e.b.session, .int .i64 e.b.seq, .slice a2 e.b.events.length c2] 28)) wr) (fun t7 _ => e.b.events.length - (intOf t7).toNat)
  case atStart => exact ⟨0, Nat.zero_le _, rfl, BZ0.out⟩
  case round =>
    obtain ⟨k, hk, rfl, hbl⟩ := hrel
    obtain ⟨y4, x4⟩ := four_cells hbl
    by_cases hlt : k < e.b.events.length
    · obtain ⟨b1, o1, q1, he, _, _, hc1, hc2⟩ := (H1.out.keep (four_below hbl) HB.out).get k hlt
      obtain ⟨rfl, -, rfl⟩ : a1 = some ⟨b1, o1, none⟩ ∧ e.b.events.length = e.b.events.length ∧ c1 = q1 := by injection he with e1 e2 e3; exact ⟨e1, e2, e3⟩
      clear he
      obtain ⟨b2, o2, q2, he, _, _, hd1, hd2⟩ := (H2.out.keep (four_below hbl) HB.out).get k hlt
      obtain ⟨rfl, -, rfl⟩ : a2 = some ⟨b2, o2, none⟩ ∧ e.b.events.length = e.b.events.length ∧ c2 = q2 := by injection he with e1 e2 e3; exact ⟨e1, e2, e3⟩
      clear he
      obtain ⟨y, hy⟩ : ∃ y, e.b.events[k] = y := ⟨_, rfl⟩
      rw [hy] at hc1 hc2 hd1 hd2
      have i1 : (0 : Int) ≤ (k : Int) := by omega
      have i2 : (k : Int) < (e.b.events.length : Int) := by omega
      have s1 : (y.kind.toList == y.kind.toList) = true := beq_self_eq_true _
      have s2 : (y.data.toList == y.data.toList) = true := beq_self_eq_true _
      clear hy
      go_wp2_with fail
      go_quiet (fail)
      go_wp2_with fail
      go_roundw
      case rel => exact ⟨k + 1, by omega, by go_num, below_drewN hbl _⟩
      case measure => simp [intOf]; omega
    · have g2 : ¬ ((k : Int) < (e.b.events.length : Int)) := by omega
      go_wp2_with fail
      go_ret
      exact ⟨rfl, four_below hbl⟩

theorem same6_any (B : Nat) (e : EN) (lv lu : Value) (w : World) (h1 : IsEvents B w lv e.b.events) (h2 : IsEvents B w lu e.b.events) (hB : B ≤ w.heap.size) :
    Calls Tryd.prog 27 #[.agg #[.int .i64 e.pos, .int .i64 e.epoch, .string e.b.stream, .int .i64 e.b.expect, .int .i64 e.b.session, .int .i64 e.b.seq, lv], .agg #[.int .i64 e.pos, .int .i64 e.epoch, .string e.b.stream, .int .i64 e.b.expect, .int .i64 e.b.session, .int .i64 e.b.seq, lu]] w fun r w' => r = .returned (.bool true) ∧ Below w.heap.size w w' := by
  obtain ⟨a1, c1, rfl⟩ := h1.form
  obtain ⟨a2, c2, rfl⟩ := h2.form
  exact same6_lit B e a1 a2 c1 c2 w h1 h2 hB

set_option maxRecDepth 100000 in
set_option maxHeartbeats 3200000 in
theorem sameRow_any (B : Nat) (v u : Value) (l : List EN) (w : World) (h1 : IsEntries B w v l) (h2 : IsEntries B w u l) (hB : B ≤ w.heap.size) :
    Calls Tryd.prog 26 #[v, u] w fun r w' => r = .returned (.bool true) ∧ Below w.heap.size w w' := by
  have H1 := Lib.hid h1
  have H2 := Lib.hid h2
  have HB := Lib.hid hB
  have hmax : l.length ≤ 9223372036854775807 := by obtain ⟨P, rfl, h3, _⟩ := h1; obtain ⟨_, _, _, h4, h5, _⟩ := h3; unfold maxLen at h5; rw [List.length_map]; omega
  obtain ⟨a1, c1, rfl⟩ := h1.form
  obtain ⟨a2, c2, rfl⟩ := h2.form
  clear h1 h2 hB
  go_enter Tryd.func26, Tryd.ntmps26
  go_wp2_with fail
  go_loopw [5] (fun t5 wr => ∃ k : Nat, k ≤ l.length ∧ t5 = .int .i64 k ∧ Below w.heap.size w wr) (fun t5 _ => l.length - (intOf t5).toNat)
  case atStart => exact ⟨0, Nat.zero_le _, rfl, Below.refl _ _⟩
  case round =>
    obtain ⟨k, hk, rfl, hbl⟩ := hrel
    by_cases hlt : k < l.length
    · obtain ⟨b1, o1, q1, he, hb1, _, c0, c1', c2', c3, c4, c5, x1, y1, c6, hx⟩ := (H1.out.keep hbl HB.out).get k hlt
      obtain ⟨rfl, -, rfl⟩ : a1 = some ⟨b1, o1, none⟩ ∧ l.length = l.length ∧ c1 = q1 := by injection he with e1 e2 e3; exact ⟨e1, e2, e3⟩
      clear he
      obtain ⟨b2, o2, q2, he, hb2, _, d0, d1, d2, d3, d4, d5, x2, y2, d6, hy⟩ := (H2.out.keep hbl HB.out).get k hlt
      obtain ⟨rfl, -, rfl⟩ : a2 = some ⟨b2, o2, none⟩ ∧ l.length = l.length ∧ c2 = q2 := by injection he with e1 e2 e3; exact ⟨e1, e2, e3⟩
      clear he
      obtain ⟨e, hee⟩ : ∃ e, l[k] = e := ⟨_, rfl⟩
      rw [hee] at c0 c1' c2' c3 c4 c5 c6 hx d0 d1 d2 d3 d4 d5 d6 hy
      have HX := Lib.hid hx
      have HY := Lib.hid hy
      have i1 : (0 : Int) ≤ (k : Int) := by omega
      have i2 : (k : Int) < (l.length : Int) := by omega
      clear hee hx hy
      have hbr : B ≤ wr.heap.size := Nat.le_trans HB.out hbl.size
      have HBR := Lib.hid hbr
      have CS := Lib.hid (fun (X : World) (hX : Below wr.heap.size wr X) => same6_any B e _ _ X (HX.out.keep hX HBR.out) (HY.out.keep hX HBR.out) (Nat.le_trans HBR.out hX.size))
      have HBL := Lib.hid hbl
      have hl1 : b1 < wr.heap.size := by omega
      have hl2 : b2 < wr.heap.size := by omega
      have MKS := Lib.hid (fun (X' : World) (hk : Below wr.heap.size wr X') => (show X'.cell? ⟨b1, o1 + k * 7, none⟩ = some (.int .i64 e.pos) ∧ X'.cell? ⟨b1, o1 + k * 7 + 1, none⟩ = some (.int .i64 e.epoch) ∧ X'.cell? ⟨b1, o1 + k * 7 + 2, none⟩ = some (.string e.b.stream) ∧ X'.cell? ⟨b1, o1 + k * 7 + 3, none⟩ = some (.int .i64 e.b.expect) ∧ X'.cell? ⟨b1, o1 + k * 7 + 4, none⟩ = some (.int .i64 e.b.session) ∧ X'.cell? ⟨b1, o1 + k * 7 + 5, none⟩ = some (.int .i64 e.b.seq) ∧ X'.cell? ⟨b1, o1 + k * 7 + 6, none⟩ = some (.slice x1 e.b.events.length y1) ∧ X'.cell? ⟨b2, o2 + k * 7, none⟩ = some (.int .i64 e.pos) ∧ X'.cell? ⟨b2, o2 + k * 7 + 1, none⟩ = some (.int .i64 e.epoch) ∧ X'.cell? ⟨b2, o2 + k * 7 + 2, none⟩ = some (.string e.b.stream) ∧ X'.cell? ⟨b2, o2 + k * 7 + 3, none⟩ = some (.int .i64 e.b.expect) ∧ X'.cell? ⟨b2, o2 + k * 7 + 4, none⟩ = some (.int .i64 e.b.session) ∧ X'.cell? ⟨b2, o2 + k * 7 + 5, none⟩ = some (.int .i64 e.b.seq) ∧ X'.cell? ⟨b2, o2 + k * 7 + 6, none⟩ = some (.slice x2 e.b.events.length y2) ∧ Below wr.heap.size wr X' from ⟨(hk.cell (p := ⟨b1, o1 + k * 7, none⟩) hl1).trans c0, (hk.cell (p := ⟨b1, o1 + k * 7 + 1, none⟩) hl1).trans c1', (hk.cell (p := ⟨b1, o1 + k * 7 + 2, none⟩) hl1).trans c2', (hk.cell (p := ⟨b1, o1 + k * 7 + 3, none⟩) hl1).trans c3, (hk.cell (p := ⟨b1, o1 + k * 7 + 4, none⟩) hl1).trans c4, (hk.cell (p := ⟨b1, o1 + k * 7 + 5, none⟩) hl1).trans c5, (hk.cell (p := ⟨b1, o1 + k * 7 + 6, none⟩) hl1).trans c6, (hk.cell (p := ⟨b2, o2 + k * 7, none⟩) hl2).trans d0, (hk.cell (p := ⟨b2, o2 + k * 7 + 1, none⟩) hl2).trans d1, (hk.cell (p := ⟨b2, o2 + k * 7 + 2, none⟩) hl2).trans d2, (hk.cell (p := ⟨b2, o2 + k * 7 + 3, none⟩) hl2).trans d3, (hk.cell (p := ⟨b2, o2 + k * 7 + 4, none⟩) hl2).trans d4, (hk.cell (p := ⟨b2, o2 + k * 7 + 5, none⟩) hl2).trans d5, (hk.cell (p := ⟨b2, o2 + k * 7 + 6, none⟩) hl2).trans d6, hk⟩))
      have hh := MKS.out _ (Below.refl wr.heap.size wr).drew
      clear hbr hbl hb1 hb2 c0 c1' c2' c3 c4 c5 c6 d0 d1 d2 d3 d4 d5 d6 hl1 hl2
      go_wp2_with fail
      go_region_held3 (fun X' => X'.cell? ⟨b1, o1 + k * 7, none⟩ = some (.int .i64 e.pos) ∧ X'.cell? ⟨b1, o1 + k * 7 + 1, none⟩ = some (.int .i64 e.epoch) ∧ X'.cell? ⟨b1, o1 + k * 7 + 2, none⟩ = some (.string e.b.stream) ∧ X'.cell? ⟨b1, o1 + k * 7 + 3, none⟩ = some (.int .i64 e.b.expect) ∧ X'.cell? ⟨b1, o1 + k * 7 + 4, none⟩ = some (.int .i64 e.b.session) ∧ X'.cell? ⟨b1, o1 + k * 7 + 5, none⟩ = some (.int .i64 e.b.seq) ∧ X'.cell? ⟨b1, o1 + k * 7 + 6, none⟩ = some (.slice x1 e.b.events.length y1) ∧ X'.cell? ⟨b2, o2 + k * 7, none⟩ = some (.int .i64 e.pos) ∧ X'.cell? ⟨b2, o2 + k * 7 + 1, none⟩ = some (.int .i64 e.epoch) ∧ X'.cell? ⟨b2, o2 + k * 7 + 2, none⟩ = some (.string e.b.stream) ∧ X'.cell? ⟨b2, o2 + k * 7 + 3, none⟩ = some (.int .i64 e.b.expect) ∧ X'.cell? ⟨b2, o2 + k * 7 + 4, none⟩ = some (.int .i64 e.b.session) ∧ X'.cell? ⟨b2, o2 + k * 7 + 5, none⟩ = some (.int .i64 e.b.seq) ∧ X'.cell? ⟨b2, o2 + k * 7 + 6, none⟩ = some (.slice x2 e.b.events.length y2) ∧ Below wr.heap.size wr X') (first | exact hh | assumption | exact MKS.out _ (bstep hh.2.2.2.2.2.2.2.2.2.2.2.2.2.2 (by assumption)))
        (first | ((with_reducible refine (CS.out _ hh.2.2.2.2.2.2.2.2.2.2.2.2.2.2).mono ?_); rintro r w2 ⟨rfl, hb2⟩))
      all_goals
        have HF := Lib.hid (bstep hh.2.2.2.2.2.2.2.2.2.2.2.2.2.2 hb2)
        clear hb2
        go_wp2_with fail
        go_roundw
        case rel => exact ⟨k + 1, by omega, by go_num, bstep HBL.out HF.out⟩
        case measure => simp [intOf]; omega
    · have g2 : ¬ ((k : Int) < (l.length : Int)) := by omega
      go_wp2_with fail
      go_ret
      exact ⟨rfl, hbl⟩
end Go.Proofs.YtflojipkgaocnaaDoor
namespace Go.Proofs.YtflojipkgaocnaaDoor
open Go.RowKit
set_option linter.unusedSimpArgs false
set_option linter.unusedVariables false

set_option maxRecDepth 100000 in
set_option maxHeartbeats 12800000 in
theorem same7_lit (B : Nat) (kn : Int) (nu ch si bo : List Int) (mk : List (Int × Int)) (en : List EN) (ev : List EV) (b : BW) (st : ByteArray) (na1 ca1 sa1 oa1 ma1 ea1 va1 la1 na2 ca2 sa2 oa2 ma2 ea2 va2 la2 : Option Addr) (nc1 cc1 sc1 oc1 mc1 ec1 vc1 lc1 nc2 cc2 sc2 oc2 mc2 ec2 vc2 lc2 : Nat) (w : World) (N1 : IsNums B w (.slice na1 nu.length nc1) nu) (C1 : IsNums B w (.slice ca1 ch.length cc1) ch) (S1 : IsNums B w (.slice sa1 si.length sc1) si) (O1 : IsNums B w (.slice oa1 bo.length oc1) bo) (M1 : IsMarks B w (.slice ma1 mk.length mc1) mk) (E1 : IsEntries B w (.slice ea1 en.length ec1) en) (V1 : IsEvents B w (.slice va1 ev.length vc1) ev) (L1 : IsEvents B w (.slice la1 b.events.length lc1) b.events) (N2 : IsNums B w (.slice na2 nu.length nc2) nu) (C2 : IsNums B w (.slice ca2 ch.length cc2) ch) (S2 : IsNums B w (.slice sa2 si.length sc2) si) (O2 : IsNums B w (.slice oa2 bo.length oc2) bo) (M2 : IsMarks B w (.slice ma2 mk.length mc2) mk) (E2 : IsEntries B w (.slice ea2 en.length ec2) en) (V2 : IsEvents B w (.slice va2 ev.length vc2) ev) (L2 : IsEvents B w (.slice la2 b.events.length lc2) b.events) (hB : B ≤ w.heap.size) :
    Calls Tryd.prog 15 #[.agg #[.int .i64 kn, .slice na1 nu.length nc1, .slice ca1 ch.length cc1, .slice sa1 si.length sc1, .slice oa1 bo.length oc1, .slice ma1 mk.length mc1, .slice ea1 en.length ec1, .slice va1 ev.length vc1, .string b.stream, .int .i64 b.expect, .int .i64 b.session, .int .i64 b.seq, .slice la1 b.events.length lc1, .string st], .agg #[.int .i64 kn, .slice na2 nu.length nc2, .slice ca2 ch.length cc2, .slice sa2 si.length sc2, .slice oa2 bo.length oc2, .slice ma2 mk.length mc2, .slice ea2 en.length ec2, .slice va2 ev.length vc2, .string b.stream, .int .i64 b.expect, .int .i64 b.session, .int .i64 b.seq, .slice la2 b.events.length lc2, .string st]] w fun r w' => r = .returned (.bool true) ∧ Below w.heap.size w w' := by
  have HN1 := Lib.hid N1
  have HC1 := Lib.hid C1
  have HS1 := Lib.hid S1
  have HO1 := Lib.hid O1
  have HM1 := Lib.hid M1
  have HE1 := Lib.hid E1
  have HV1 := Lib.hid V1
  have HL1 := Lib.hid L1
  have HN2 := Lib.hid N2
  have HC2 := Lib.hid C2
  have HS2 := Lib.hid S2
  have HO2 := Lib.hid O2
  have HM2 := Lib.hid M2
  have HE2 := Lib.hid E2
  have HV2 := Lib.hid V2
  have HL2 := Lib.hid L2
  have mn : nu.length ≤ 9223372036854775807 := by obtain ⟨_, _, _, h3, h4, _⟩ := N1; unfold maxLen at h4; omega
  have mc : ch.length ≤ 9223372036854775807 := by obtain ⟨_, _, _, h3, h4, _⟩ := C1; unfold maxLen at h4; omega
  have ms : si.length ≤ 9223372036854775807 := by obtain ⟨_, _, _, h3, h4, _⟩ := S1; unfold maxLen at h4; omega
  have mo : bo.length ≤ 9223372036854775807 := by obtain ⟨_, _, _, h3, h4, _⟩ := O1; unfold maxLen at h4; omega
  have mm : mk.length ≤ 9223372036854775807 := by obtain ⟨_, _, _, h3, h4, _⟩ := M1; unfold maxLen at h4; omega
  have mv : ev.length ≤ 9223372036854775807 := by obtain ⟨_, _, _, h3, h4, _⟩ := V1; unfold maxLen at h4; omega
  have ml : b.events.length ≤ 9223372036854775807 := by obtain ⟨_, _, _, h3, h4, _⟩ := L1; unfold maxLen at h4; omega
  have HB := Lib.hid hB
  have BZ := Lib.hid (Below.refl (w.heap.size + 2) ((w.alloc (.cells #[.int .i64 kn, .slice na1 nu.length nc1, .slice ca1 ch.length cc1, .slice sa1 si.length sc1, .slice oa1 bo.length oc1, .slice ma1 mk.length mc1, .slice ea1 en.length ec1, .slice va1 ev.length vc1, .string b.stream, .int .i64 b.expect, .int .i64 b.session, .int .i64 b.seq, .slice la1 b.events.length lc1, .string st] 44)).alloc (.cells #[.int .i64 kn, .slice na2 nu.length nc2, .slice ca2 ch.length cc2, .slice sa2 si.length sc2, .slice oa2 bo.length oc2, .slice ma2 mk.length mc2, .slice ea2 en.length ec2, .slice va2 ev.length vc2, .string b.stream, .int .i64 b.expect, .int .i64 b.session, .int .i64 b.seq, .slice la2 b.events.length lc2, .string st] 44)))
  have es : (b.stream.toList == b.stream.toList) = true := beq_self_eq_true _
  have et : (st.toList == st.toList) = true := beq_self_eq_true _
  have CR := Lib.hid (fun (X : World) (hX : Below w.heap.size w X) => sameRow_any B _ _ en X (HE1.out.keep hX HB.out) (HE2.out.keep hX HB.out) (Nat.le_trans HB.out hX.size))
  clear hB N1 C1 S1 O1 M1 E1 V1 L1 N2 C2 S2 O2 M2 E2 V2 L2
  go_enter Tryd.func15, Tryd.ntmps15
  go_wp2_with fail
  refine (CR.out _ (two_below BZ.out)).mono ?_
  rintro r w1 ⟨rfl, hb1⟩
  have BZ0 := Lib.hid (two_more BZ.out hb1)
  clear hb1
  go_wp2_with fail
  go_loopw [5] (fun t5 wr => ∃ k : Nat, k ≤ nu.length ∧ t5 = .int .i64 k ∧ Below (w.heap.size + 2) ((w.alloc (.cells #[.int .i64 kn, .slice na1 nu.length nc1, .slice ca1 ch.length cc1, .slice sa1 si.length sc1, .slice oa1 bo.length oc1, .slice ma1 mk.length mc1, .slice ea1 en.length ec1, .slice va1 ev.length vc1, .string b.stream, .int .i64 b.expect, .int .i64 b.session, .int .i64 b.seq, .slice la1 b.events.length lc1, .string st] 44)).alloc (.cells #[.int .i64 kn, .slice na2 nu.length nc2, .slice ca2 ch.length cc2, .slice sa2 si.length sc2, .slice oa2 bo.length oc2, .slice ma2 mk.length mc2, .slice ea2 en.length ec2, .slice va2 ev.length vc2, .string b.stream, .int .i64 b.expect, .int .i64 b.session, .int .i64 b.seq, .slice la2 b.events.length lc2, .string st] 44)) wr) (fun t5 _ => nu.length - (intOf t5).toNat)
  case atStart => exact ⟨0, Nat.zero_le _, rfl, BZ0.out⟩
  case round =>
    skip
    obtain ⟨k, hk, rfl, hbl⟩ := hrel
    have y1 := heap_range (two_heapA hbl) 1 _ rfl
    have y2 := heap_range (two_heapB hbl) 1 _ rfl
    simp only [Nat.zero_add] at y1 y2
    by_cases hlt : k < nu.length
    · obtain ⟨b1, o1, q1, he, _, _, hc1⟩ := (HN1.out.keep (two_below hbl) HB.out).at1 k hlt
      obtain ⟨e1, -, e3⟩ : na1 = some ⟨b1, o1, none⟩ ∧ nu.length = nu.length ∧ nc1 = q1 := by injection he with e1 e2 e3; exact ⟨e1, e2, e3⟩
      rw [e1, e3] at y1
      clear he e1 e3
      obtain ⟨b2, o2, q2, he, _, _, hd1⟩ := (HN2.out.keep (two_below hbl) HB.out).at1 k hlt
      obtain ⟨e1, -, e3⟩ : na2 = some ⟨b2, o2, none⟩ ∧ nu.length = nu.length ∧ nc2 = q2 := by injection he with e1 e2 e3; exact ⟨e1, e2, e3⟩
      rw [e1, e3] at y2
      clear he e1 e3
      obtain ⟨y, hy⟩ : ∃ y, nu[k] = y := ⟨_, rfl⟩
      rw [hy] at hc1 hd1
      have i1 : (0 : Int) ≤ (k : Int) := by omega
      have i2 : (k : Int) < (nu.length : Int) := by omega
      clear hy
      have HBL := Lib.hid hbl
      clear hbl
      go_wp2_with fail
      go_quiet (fail)
      go_wp2_with fail
      go_roundw
      case rel => exact ⟨k + 1, by omega, by go_num, below_drewN HBL.out _⟩
      case measure => simp [intOf]; omega
    · have g2 : ¬ ((k : Int) < (nu.length : Int)) := by omega
      have HBL := Lib.hid hbl
      clear hbl
      go_wp2_with fail
      have hbl := HBL.out
      clear HBL g2 y1 y2
      go_loopw [6] (fun t6 wr => ∃ k : Nat, k ≤ ch.length ∧ t6 = .int .i64 k ∧ Below (w.heap.size + 2) ((w.alloc (.cells #[.int .i64 kn, .slice na1 nu.length nc1, .slice ca1 ch.length cc1, .slice sa1 si.length sc1, .slice oa1 bo.length oc1, .slice ma1 mk.length mc1, .slice ea1 en.length ec1, .slice va1 ev.length vc1, .string b.stream, .int .i64 b.expect, .int .i64 b.session, .int .i64 b.seq, .slice la1 b.events.length lc1, .string st] 44)).alloc (.cells #[.int .i64 kn, .slice na2 nu.length nc2, .slice ca2 ch.length cc2, .slice sa2 si.length sc2, .slice oa2 bo.length oc2, .slice ma2 mk.length mc2, .slice ea2 en.length ec2, .slice va2 ev.length vc2, .string b.stream, .int .i64 b.expect, .int .i64 b.session, .int .i64 b.seq, .slice la2 b.events.length lc2, .string st] 44)) wr) (fun t6 _ => ch.length - (intOf t6).toNat)
      case atStart => exact ⟨0, Nat.zero_le _, rfl, hbl⟩
      case round =>
        clear hbl
        obtain ⟨k, hk, rfl, hbl⟩ := hrel
        have y1 := heap_range (two_heapA hbl) 2 _ rfl
        have y2 := heap_range (two_heapB hbl) 2 _ rfl
        simp only [Nat.zero_add] at y1 y2
        by_cases hlt : k < ch.length
        · obtain ⟨b1, o1, q1, he, _, _, hc1⟩ := (HC1.out.keep (two_below hbl) HB.out).at1 k hlt
          obtain ⟨e1, -, e3⟩ : ca1 = some ⟨b1, o1, none⟩ ∧ ch.length = ch.length ∧ cc1 = q1 := by injection he with e1 e2 e3; exact ⟨e1, e2, e3⟩
          rw [e1, e3] at y1
          clear he e1 e3
          obtain ⟨b2, o2, q2, he, _, _, hd1⟩ := (HC2.out.keep (two_below hbl) HB.out).at1 k hlt
          obtain ⟨e1, -, e3⟩ : ca2 = some ⟨b2, o2, none⟩ ∧ ch.length = ch.length ∧ cc2 = q2 := by injection he with e1 e2 e3; exact ⟨e1, e2, e3⟩
          rw [e1, e3] at y2
          clear he e1 e3
          obtain ⟨y, hy⟩ : ∃ y, ch[k] = y := ⟨_, rfl⟩
          rw [hy] at hc1 hd1
          have i1 : (0 : Int) ≤ (k : Int) := by omega
          have i2 : (k : Int) < (ch.length : Int) := by omega
          clear hy
          have HBL := Lib.hid hbl
          clear hbl
          go_wp2_with fail
          go_quiet (fail)
          go_wp2_with fail
          go_roundw
          case rel => exact ⟨k + 1, by omega, by go_num, below_drewN HBL.out _⟩
          case measure => simp [intOf]; omega
        · have g2 : ¬ ((k : Int) < (ch.length : Int)) := by omega
          have HBL := Lib.hid hbl
          clear hbl
          go_wp2_with fail
          have hbl := HBL.out
          clear HBL g2 y1 y2
          go_loopw [7] (fun t7 wr => ∃ k : Nat, k ≤ si.length ∧ t7 = .int .i64 k ∧ Below (w.heap.size + 2) ((w.alloc (.cells #[.int .i64 kn, .slice na1 nu.length nc1, .slice ca1 ch.length cc1, .slice sa1 si.length sc1, .slice oa1 bo.length oc1, .slice ma1 mk.length mc1, .slice ea1 en.length ec1, .slice va1 ev.length vc1, .string b.stream, .int .i64 b.expect, .int .i64 b.session, .int .i64 b.seq, .slice la1 b.events.length lc1, .string st] 44)).alloc (.cells #[.int .i64 kn, .slice na2 nu.length nc2, .slice ca2 ch.length cc2, .slice sa2 si.length sc2, .slice oa2 bo.length oc2, .slice ma2 mk.length mc2, .slice ea2 en.length ec2, .slice va2 ev.length vc2, .string b.stream, .int .i64 b.expect, .int .i64 b.session, .int .i64 b.seq, .slice la2 b.events.length lc2, .string st] 44)) wr) (fun t7 _ => si.length - (intOf t7).toNat)
          case atStart => exact ⟨0, Nat.zero_le _, rfl, hbl⟩
          case round =>
            clear hbl
            obtain ⟨k, hk, rfl, hbl⟩ := hrel
            have y1 := heap_range (two_heapA hbl) 3 _ rfl
            have y2 := heap_range (two_heapB hbl) 3 _ rfl
            simp only [Nat.zero_add] at y1 y2
            by_cases hlt : k < si.length
            · obtain ⟨b1, o1, q1, he, _, _, hc1⟩ := (HS1.out.keep (two_below hbl) HB.out).at1 k hlt
              obtain ⟨e1, -, e3⟩ : sa1 = some ⟨b1, o1, none⟩ ∧ si.length = si.length ∧ sc1 = q1 := by injection he with e1 e2 e3; exact ⟨e1, e2, e3⟩
              rw [e1, e3] at y1
              clear he e1 e3
              obtain ⟨b2, o2, q2, he, _, _, hd1⟩ := (HS2.out.keep (two_below hbl) HB.out).at1 k hlt
              obtain ⟨e1, -, e3⟩ : sa2 = some ⟨b2, o2, none⟩ ∧ si.length = si.length ∧ sc2 = q2 := by injection he with e1 e2 e3; exact ⟨e1, e2, e3⟩
              rw [e1, e3] at y2
              clear he e1 e3
              obtain ⟨y, hy⟩ : ∃ y, si[k] = y := ⟨_, rfl⟩
              rw [hy] at hc1 hd1
              have i1 : (0 : Int) ≤ (k : Int) := by omega
              have i2 : (k : Int) < (si.length : Int) := by omega
              clear hy
              have HBL := Lib.hid hbl
              clear hbl
              go_wp2_with fail
              go_quiet (fail)
              go_wp2_with fail
              go_roundw
              case rel => exact ⟨k + 1, by omega, by go_num, below_drewN HBL.out _⟩
              case measure => simp [intOf]; omega
            · have g2 : ¬ ((k : Int) < (si.length : Int)) := by omega
              have HBL := Lib.hid hbl
              clear hbl
              go_wp2_with fail
              have hbl := HBL.out
              clear HBL g2 y1 y2
              go_loopw [8] (fun t8 wr => ∃ k : Nat, k ≤ bo.length ∧ t8 = .int .i64 k ∧ Below (w.heap.size + 2) ((w.alloc (.cells #[.int .i64 kn, .slice na1 nu.length nc1, .slice ca1 ch.length cc1, .slice sa1 si.length sc1, .slice oa1 bo.length oc1, .slice ma1 mk.length mc1, .slice ea1 en.length ec1, .slice va1 ev.length vc1, .string b.stream, .int .i64 b.expect, .int .i64 b.session, .int .i64 b.seq, .slice la1 b.events.length lc1, .string st] 44)).alloc (.cells #[.int .i64 kn, .slice na2 nu.length nc2, .slice ca2 ch.length cc2, .slice sa2 si.length sc2, .slice oa2 bo.length oc2, .slice ma2 mk.length mc2, .slice ea2 en.length ec2, .slice va2 ev.length vc2, .string b.stream, .int .i64 b.expect, .int .i64 b.session, .int .i64 b.seq, .slice la2 b.events.length lc2, .string st] 44)) wr) (fun t8 _ => bo.length - (intOf t8).toNat)
              case atStart => exact ⟨0, Nat.zero_le _, rfl, hbl⟩
              case round =>
                clear hbl
                obtain ⟨k, hk, rfl, hbl⟩ := hrel
                have y1 := heap_range (two_heapA hbl) 4 _ rfl
                have y2 := heap_range (two_heapB hbl) 4 _ rfl
                simp only [Nat.zero_add] at y1 y2
                by_cases hlt : k < bo.length
                · obtain ⟨b1, o1, q1, he, _, _, hc1⟩ := (HO1.out.keep (two_below hbl) HB.out).at1 k hlt
                  obtain ⟨e1, -, e3⟩ : oa1 = some ⟨b1, o1, none⟩ ∧ bo.length = bo.length ∧ oc1 = q1 := by injection he with e1 e2 e3; exact ⟨e1, e2, e3⟩
                  rw [e1, e3] at y1
                  clear he e1 e3
                  obtain ⟨b2, o2, q2, he, _, _, hd1⟩ := (HO2.out.keep (two_below hbl) HB.out).at1 k hlt
                  obtain ⟨e1, -, e3⟩ : oa2 = some ⟨b2, o2, none⟩ ∧ bo.length = bo.length ∧ oc2 = q2 := by injection he with e1 e2 e3; exact ⟨e1, e2, e3⟩
                  rw [e1, e3] at y2
                  clear he e1 e3
                  obtain ⟨y, hy⟩ : ∃ y, bo[k] = y := ⟨_, rfl⟩
                  rw [hy] at hc1 hd1
                  have i1 : (0 : Int) ≤ (k : Int) := by omega
                  have i2 : (k : Int) < (bo.length : Int) := by omega
                  clear hy
                  have HBL := Lib.hid hbl
                  clear hbl
                  go_wp2_with fail
                  go_quiet (fail)
                  go_wp2_with fail
                  go_roundw
                  case rel => exact ⟨k + 1, by omega, by go_num, below_drewN HBL.out _⟩
                  case measure => simp [intOf]; omega
                · have g2 : ¬ ((k : Int) < (bo.length : Int)) := by omega
                  have HBL := Lib.hid hbl
                  clear hbl
                  go_wp2_with fail
                  have hbl := HBL.out
                  clear HBL g2 y1 y2
                  go_loopw [9] (fun t9 wr => ∃ k : Nat, k ≤ mk.length ∧ t9 = .int .i64 k ∧ Below (w.heap.size + 2) ((w.alloc (.cells #[.int .i64 kn, .slice na1 nu.length nc1, .slice ca1 ch.length cc1, .slice sa1 si.length sc1, .slice oa1 bo.length oc1, .slice ma1 mk.length mc1, .slice ea1 en.length ec1, .slice va1 ev.length vc1, .string b.stream, .int .i64 b.expect, .int .i64 b.session, .int .i64 b.seq, .slice la1 b.events.length lc1, .string st] 44)).alloc (.cells #[.int .i64 kn, .slice na2 nu.length nc2, .slice ca2 ch.length cc2, .slice sa2 si.length sc2, .slice oa2 bo.length oc2, .slice ma2 mk.length mc2, .slice ea2 en.length ec2, .slice va2 ev.length vc2, .string b.stream, .int .i64 b.expect, .int .i64 b.session, .int .i64 b.seq, .slice la2 b.events.length lc2, .string st] 44)) wr) (fun t9 _ => mk.length - (intOf t9).toNat)
                  case atStart => exact ⟨0, Nat.zero_le _, rfl, hbl⟩
                  case round =>
                    clear hbl
                    obtain ⟨k, hk, rfl, hbl⟩ := hrel
                    have y1 := heap_range (two_heapA hbl) 5 _ rfl
                    have y2 := heap_range (two_heapB hbl) 5 _ rfl
                    simp only [Nat.zero_add] at y1 y2
                    by_cases hlt : k < mk.length
                    · obtain ⟨b1, o1, q1, he, _, _, hc1, hc2⟩ := (HM1.out.keep (two_below hbl) HB.out).at2 k hlt
                      obtain ⟨e1, -, e3⟩ : ma1 = some ⟨b1, o1, none⟩ ∧ mk.length = mk.length ∧ mc1 = q1 := by injection he with e1 e2 e3; exact ⟨e1, e2, e3⟩
                      rw [e1, e3] at y1
                      clear he e1 e3
                      obtain ⟨b2, o2, q2, he, _, _, hd1, hd2⟩ := (HM2.out.keep (two_below hbl) HB.out).at2 k hlt
                      obtain ⟨e1, -, e3⟩ : ma2 = some ⟨b2, o2, none⟩ ∧ mk.length = mk.length ∧ mc2 = q2 := by injection he with e1 e2 e3; exact ⟨e1, e2, e3⟩
                      rw [e1, e3] at y2
                      clear he e1 e3
                      obtain ⟨y, hy⟩ : ∃ y, mk[k] = y := ⟨_, rfl⟩
                      rw [hy] at hc1 hc2 hd1 hd2
                      have i1 : (0 : Int) ≤ (k : Int) := by omega
                      have i2 : (k : Int) < (mk.length : Int) := by omega
                      clear hy
                      have HBL := Lib.hid hbl
                      clear hbl
                      go_wp2_with fail
                      go_quiet (fail)
                      go_wp2_with fail
                      go_roundw
                      case rel => exact ⟨k + 1, by omega, by go_num, below_drewN HBL.out _⟩
                      case measure => simp [intOf]; omega
                    · have g2 : ¬ ((k : Int) < (mk.length : Int)) := by omega
                      have HBL := Lib.hid hbl
                      clear hbl
                      go_wp2_with fail
                      have hbl := HBL.out
                      clear HBL g2 y1 y2
                      go_loopw [10] (fun t10 wr => ∃ k : Nat, k ≤ ev.length ∧ t10 = .int .i64 k ∧ Below (w.heap.size + 2) ((w.alloc (.cells #[.int .i64 kn, .slice na1 nu.length nc1, .slice ca1 ch.length cc1, .slice sa1 si.length sc1, .slice oa1 bo.length oc1, .slice ma1 mk.length mc1, .slice ea1 en.length ec1, .slice va1 ev.length vc1, .string b.stream, .int .i64 b.expect, .int .i64 b.session, .int .i64 b.seq, .slice la1 b.events.length lc1, .string st] 44)).alloc (.cells #[.int .i64 kn, .slice na2 nu.length nc2, .slice ca2 ch.length cc2, .slice sa2 si.length sc2, .slice oa2 bo.length oc2, .slice ma2 mk.length mc2, .slice ea2 en.length ec2, .slice va2 ev.length vc2, .string b.stream, .int .i64 b.expect, .int .i64 b.session, .int .i64 b.seq, .slice la2 b.events.length lc2, .string st] 44)) wr) (fun t10 _ => ev.length - (intOf t10).toNat)
                      case atStart => exact ⟨0, Nat.zero_le _, rfl, hbl⟩
                      case round =>
                        clear hbl
                        obtain ⟨k, hk, rfl, hbl⟩ := hrel
                        have y1 := heap_range (two_heapA hbl) 7 _ rfl
                        have y2 := heap_range (two_heapB hbl) 7 _ rfl
                        simp only [Nat.zero_add] at y1 y2
                        by_cases hlt : k < ev.length
                        · obtain ⟨b1, o1, q1, he, _, _, hc1, hc2⟩ := (HV1.out.keep (two_below hbl) HB.out).get k hlt
                          obtain ⟨e1, -, e3⟩ : va1 = some ⟨b1, o1, none⟩ ∧ ev.length = ev.length ∧ vc1 = q1 := by injection he with e1 e2 e3; exact ⟨e1, e2, e3⟩
                          rw [e1, e3] at y1
                          clear he e1 e3
                          obtain ⟨b2, o2, q2, he, _, _, hd1, hd2⟩ := (HV2.out.keep (two_below hbl) HB.out).get k hlt
                          obtain ⟨e1, -, e3⟩ : va2 = some ⟨b2, o2, none⟩ ∧ ev.length = ev.length ∧ vc2 = q2 := by injection he with e1 e2 e3; exact ⟨e1, e2, e3⟩
                          rw [e1, e3] at y2
                          clear he e1 e3
                          obtain ⟨y, hy⟩ : ∃ y, ev[k] = y := ⟨_, rfl⟩
                          rw [hy] at hc1 hc2 hd1 hd2
                          have s1 : (y.kind.toList == y.kind.toList) = true := beq_self_eq_true _
                          have s2 : (y.data.toList == y.data.toList) = true := beq_self_eq_true _
                          have i1 : (0 : Int) ≤ (k : Int) := by omega
                          have i2 : (k : Int) < (ev.length : Int) := by omega
                          clear hy
                          have HBL := Lib.hid hbl
                          clear hbl
                          go_wp2_with fail
                          go_quiet (fail)
                          go_wp2_with fail
                          go_roundw
                          case rel => exact ⟨k + 1, by omega, by go_num, below_drewN HBL.out _⟩
                          case measure => simp [intOf]; omega
                        · have g2 : ¬ ((k : Int) < (ev.length : Int)) := by omega
                          have HBL := Lib.hid hbl
                          have CS := Lib.hid (same6_any B ⟨0, 0, b⟩ _ _ _ (HL1.out.keep (two_below hbl) HB.out) (HL2.out.keep (two_below hbl) HB.out) (Nat.le_trans HB.out (two_below hbl).size))
                          have G1 := Lib.hid (two_heapA hbl)
                          have G2 := Lib.hid (two_heapB hbl)
                          have z8 : wr.cell? ⟨w.heap.size, 8, none⟩ = some (.string b.stream) := Lib.cell_of_heap G1.out 8
                          have z9 : wr.cell? ⟨w.heap.size, 9, none⟩ = some (.int .i64 b.expect) := Lib.cell_of_heap G1.out 9
                          have z10 : wr.cell? ⟨w.heap.size, 10, none⟩ = some (.int .i64 b.session) := Lib.cell_of_heap G1.out 10
                          have z11 : wr.cell? ⟨w.heap.size, 11, none⟩ = some (.int .i64 b.seq) := Lib.cell_of_heap G1.out 11
                          have z12 : wr.cell? ⟨w.heap.size, 12, none⟩ = some (.slice la1 b.events.length lc1) := Lib.cell_of_heap G1.out 12
                          have u8 : wr.cell? ⟨w.heap.size + 1, 8, none⟩ = some (.string b.stream) := Lib.cell_of_heap G2.out 8
                          have u9 : wr.cell? ⟨w.heap.size + 1, 9, none⟩ = some (.int .i64 b.expect) := Lib.cell_of_heap G2.out 9
                          have u10 : wr.cell? ⟨w.heap.size + 1, 10, none⟩ = some (.int .i64 b.session) := Lib.cell_of_heap G2.out 10
                          have u11 : wr.cell? ⟨w.heap.size + 1, 11, none⟩ = some (.int .i64 b.seq) := Lib.cell_of_heap G2.out 11
                          have u12 : wr.cell? ⟨w.heap.size + 1, 12, none⟩ = some (.slice la2 b.events.length lc2) := Lib.cell_of_heap G2.out 12
                          clear G1 G2
                          clear hbl
                          go_wp2_with fail
                          refine CS.out.mono ?_
                          rintro r w2 ⟨rfl, hb2⟩
                          go_wp2_with fail
                          go_ret
                          exact ⟨rfl, bstep (two_below HBL.out) hb2⟩

theorem same7_any (B : Nat) (v u : Value) (f : FW) (w : World) (hf1 : IsFlat B w v f) (hf2 : IsFlat B w u f) (hB : B ≤ w.heap.size) :
    Calls Tryd.prog 15 #[v, u] w fun r w' => r = .returned (.bool true) ∧ Below w.heap.size w w' := by
  obtain ⟨nv, cv, sv, bv, mv, ev, vv, lv, rfl, h1, h2, h3, h4, h5, h6, h7, h8⟩ := hf1
  obtain ⟨nu, cu, su, bu, mu, eu, vu, lu, rfl, k1, k2, k3, k4, k5, k6, k7, k8⟩ := hf2
  obtain ⟨na1, nc1, rfl⟩ := h1.form
  obtain ⟨ca1, cc1, rfl⟩ := h2.form
  obtain ⟨sa1, sc1, rfl⟩ := h3.form
  obtain ⟨oa1, oc1, rfl⟩ := h4.form
  obtain ⟨ma1, mc1, rfl⟩ := h5.form
  obtain ⟨ea1, ec1, rfl⟩ := h6.form
  obtain ⟨va1, vc1, rfl⟩ := h7.form
  obtain ⟨la1, lc1, rfl⟩ := h8.form
  obtain ⟨na2, nc2, rfl⟩ := k1.form
  obtain ⟨ca2, cc2, rfl⟩ := k2.form
  obtain ⟨sa2, sc2, rfl⟩ := k3.form
  obtain ⟨oa2, oc2, rfl⟩ := k4.form
  obtain ⟨ma2, mc2, rfl⟩ := k5.form
  obtain ⟨ea2, ec2, rfl⟩ := k6.form
  obtain ⟨va2, vc2, rfl⟩ := k7.form
  obtain ⟨la2, lc2, rfl⟩ := k8.form
  exact same7_lit B _ _ _ _ _ _ _ _ _ _ na1 ca1 sa1 oa1 ma1 ea1 va1 la1 na2 ca2 sa2 oa2 ma2 ea2 va2 la2 nc1 cc1 sc1 oc1 mc1 ec1 vc1 lc1 nc2 cc2 sc2 oc2 mc2 ec2 vc2 lc2 w h1 h2 h3 h4 h5 h6 h7 h8 k1 k2 k3 k4 k5 k6 k7 k8 hB
end Go.Proofs.YtflojipkgaocnaaDoor
namespace Go.Proofs.YtflojipkgaocnaaDoor
open Go.RowKit
set_option linter.unusedSimpArgs false
set_option linter.unusedVariables false

theorem takeM_str (s : ByteArray) (l : List UInt8) (hs : s.data.toList = l) (x : Option Msg) (e : Nat) (h : takeM l = (x, e)) (hl : l.length ≤ 1000000) (w : World) (hT : Tabs w) :
    Calls Tryd.prog 13 #[.string s] w fun r w' => GotTake x e w r w' := by
  subst hs
  exact takeM_any s.data.toList x e h hl w hT
theorem less_one {p : ByteArray} (h : 0 < p.size) (h2 : p.size ≤ 1000000) : ∃ k : Nat, (p.size : Int) - 1 = (k : Int) ∧ IntKind.i64.wrap (k : Int) = (k : Int) ∧ (0 : Int) ≤ (k : Int) ∧ (k : Int) ≤ (p.size : Int) ∧ p.extract 0 k = bstr p.data.toList.dropLast := by
  have e1 : (p.size : Int) - 1 = ((p.size - 1 : Nat) : Int) := by omega
  refine ⟨p.size - 1, e1, by rw [IntKind.wrap_i64]; omega, by omega, by omega, ?_⟩
  have h3 := bstr_take p.data.toList (p.size - 1)
  rw [bstr_of] at h3
  rw [h3, List.dropLast_eq_take, size_listE]

set_option maxRecDepth 100000 in
set_option maxHeartbeats 12800000 in
theorem back_lit (k n0 n1 n2 n3 n4 n5 : Int) (ch si bo : List Int) (mk : List (Int × Int)) (en : List EN) (ev : List EV) (b : BW) (st : ByteArray) (ca sa ba ma ea va la : Option Addr) (ck sk bk mc ec vk lk : Nat) (x : UInt8) (W : World) (h : DOk W.heap.size W ⟨k, n0, n1, n2, n3, n4, n5, ch, si, bo, mk, en, ev, b, st⟩ ⟨.slice ca ch.length ck, .slice sa si.length sk, .slice ba bo.length bk, .slice ma mk.length mc, .slice ea en.length ec, .slice va ev.length vk, .slice la b.events.length lk⟩) (hsz : SizeD ⟨k, n0, n1, n2, n3, n4, n5, ch, si, bo, mk, en, ev, b, st⟩) (hT : Tabs W) (xm : Option Msg) (hm : madeD ⟨k, n0, n1, n2, n3, n4, n5, ch, si, bo, mk, en, ev, b, st⟩ = xm) :
    Calls Tryd.prog 3 #[.agg #[.int .i64 k, .int .i64 n0, .int .i64 n1, .int .i64 n2, .int .i64 n3, .int .i64 n4, .int .i64 n5, .slice ca ch.length ck, .slice sa si.length sk, .slice ba bo.length bk, .slice ma mk.length mc, .slice ea en.length ec, .slice va ev.length vk, .string b.stream, .int .i64 b.expect, .int .i64 b.session, .int .i64 b.seq, .slice la b.events.length lk, .string st], .int .u8 (x.toNat : Int)] W fun r w' => r = .returned (.bool true) ∧ Below W.heap.size W w' := by
  have HT := Lib.hid hT
  have q1 := iface_neq
  have q2 := iface_eql
  have q3 := nil_eql
  have q4 := nil_neq
  have CS := Lib.hid (fun (X : World) (hX : Below W.heap.size W X) => small_any W.heap.size (.agg #[.int .i64 k, .int .i64 n0, .int .i64 n1, .int .i64 n2, .int .i64 n3, .int .i64 n4, .int .i64 n5, .slice ca ch.length ck, .slice sa si.length sk, .slice ba bo.length bk, .slice ma mk.length mc, .slice ea en.length ec, .slice va ev.length vk, .string b.stream, .int .i64 b.expect, .int .i64 b.session, .int .i64 b.seq, .slice la b.events.length lk, .string st]) ⟨k, n0, n1, n2, n3, n4, n5, ch, si, bo, mk, en, ev, b, st⟩ ⟨.slice ca ch.length ck, .slice sa si.length sk, .slice ba bo.length bk, .slice ma mk.length mc, .slice ea en.length ec, .slice va ev.length vk, .slice la b.events.length lk⟩ X rfl (h.keep hX (Nat.le_refl _)) hX.size hsz)
  have CM := Lib.hid (fun (X : World) (hX : Below W.heap.size W X) => made_any W.heap.size (.agg #[.int .i64 k, .int .i64 n0, .int .i64 n1, .int .i64 n2, .int .i64 n3, .int .i64 n4, .int .i64 n5, .slice ca ch.length ck, .slice sa si.length sk, .slice ba bo.length bk, .slice ma mk.length mc, .slice ea en.length ec, .slice va ev.length vk, .string b.stream, .int .i64 b.expect, .int .i64 b.session, .int .i64 b.seq, .slice la b.events.length lk, .string st]) ⟨k, n0, n1, n2, n3, n4, n5, ch, si, bo, mk, en, ev, b, st⟩ ⟨.slice ca ch.length ck, .slice sa si.length sk, .slice ba bo.length bk, .slice ma mk.length mc, .slice ea en.length ec, .slice va ev.length vk, .slice la b.events.length lk⟩ _ hm X rfl (h.keep hX (Nat.le_refl _)) hX.size)
  have HA := Lib.hid ((Below.refl W.heap.size W).alloc (Nat.le_refl _) (.cells #[.int .i64 k, .int .i64 n0, .int .i64 n1, .int .i64 n2, .int .i64 n3, .int .i64 n4, .int .i64 n5, .slice ca ch.length ck, .slice sa si.length sk, .slice ba bo.length bk, .slice ma mk.length mc, .slice ea en.length ec, .slice va ev.length vk, .string b.stream, .int .i64 b.expect, .int .i64 b.session, .int .i64 b.seq, .slice la b.events.length lk, .string st] 30))
  have HB0 := Lib.hid (bx_new (w := W) (.cells #[.int .i64 k, .int .i64 n0, .int .i64 n1, .int .i64 n2, .int .i64 n3, .int .i64 n4, .int .i64 n5, .slice ca ch.length ck, .slice sa si.length sk, .slice ba bo.length bk, .slice ma mk.length mc, .slice ea en.length ec, .slice va ev.length vk, .string b.stream, .int .i64 b.expect, .int .i64 b.session, .int .i64 b.seq, .slice la b.events.length lk, .string st] 30))
  have HMM := Lib.hid hm
  clear h hsz hT hm
  go_enter Tryd.func3, Tryd.ntmps3
  go_wp2_with fail
  refine (shown_any _ (tabs_below HT.out HA.out)).mono ?_
  rintro r w1 ⟨rfl, hb1⟩
  have HRG := Lib.hid (bx_more HB0.out hb1)
  clear hb1
  go_wp2_with (refine wpList_load_mid rfl 30 _ rfl W.heap.size 0 (by rfl) [.int .i64 k, .int .i64 n0, .int .i64 n1, .int .i64 n2, .int .i64 n3, .int .i64 n4, .int .i64 n5, .slice ca ch.length ck, .slice sa si.length sk, .slice ba bo.length bk, .slice ma mk.length mc, .slice ea en.length ec, .slice va ev.length vk, .string b.stream, .int .i64 b.expect, .int .i64 b.session, .int .i64 b.seq, .slice la b.events.length lk, .string st] _ (box_range HRG.out) Tryd.underlying30 rfl (by kernel_rfl) ?_)
  refine (CS.out _ (bx_below HRG.out)).mono ?_
  rintro r w2 ⟨q, rfl, hq, hb2⟩
  have HQ := Lib.hid hq
  replace HRG := Lib.hid (bx_more HRG.out hb2)
  clear hb2 hq
  go_wp2_with (refine wpList_load_mid rfl 30 _ rfl W.heap.size 0 (by rfl) [.int .i64 k, .int .i64 n0, .int .i64 n1, .int .i64 n2, .int .i64 n3, .int .i64 n4, .int .i64 n5, .slice ca ch.length ck, .slice sa si.length sk, .slice ba bo.length bk, .slice ma mk.length mc, .slice ea en.length ec, .slice va ev.length vk, .string b.stream, .int .i64 b.expect, .int .i64 b.session, .int .i64 b.seq, .slice la b.events.length lk, .string st] _ (box_range HRG.out) Tryd.underlying30 rfl (by kernel_rfl) ?_)
  refine (CM.out _ (bx_below HRG.out)).mono ?_
  rintro r w3 ⟨v3, rfl, hn3, hm3, hb3⟩
  replace HRG := Lib.hid (bx_more HRG.out hb3)
  clear hb3
  cases q with
  | false =>
    go_wp2_with fail
    go_ret
    exact ⟨rfl, bx_below HRG.out⟩
  | true =>
  cases xm with
  | none =>
    obtain rfl := hn3 rfl
    go_wp2_with fail
    go_ret
    exact ⟨rfl, bx_below HRG.out⟩
  | some m =>
  have HM := Lib.hid (hm3 m rfl)
  obtain ⟨Tv, pv, Fv, rfl, hmt, hcf, hc⟩ := hasKind HM.out
  have HL := Lib.hid (made_light (HQ.out rfl) HMM.out)
  have HW3 := Lib.hid (bx_below HRG.out)
  clear hn3 hm3 hmt hcf hc HQ HMM CS CM HRG
  obtain ⟨sp, hsp⟩ : ∃ sp, putM m = sp := ⟨_, rfl⟩
  have CP := Lib.hid (fun (X : World) (u : Value) (B : Nat) (hu : IsMsg B X u m) (hB : B ≤ X.heap.size) (hX : Below W.heap.size W X) => putM_any B u m sp hsp X hu hB (tabs_below HT.out hX) HL.out)
  have CR := Lib.hid (fun (X : World) (u : Value) (B : Nat) (q : Bool) (hq : rightM m = q) (hu : IsMsg B X u m) (hB : B ≤ X.heap.size) (hX : Below W.heap.size W X) => rightM_any B u m q hq X hu hB (tabs_below HT.out hX) HL.out)
  have CE := Lib.hid (fun (X : World) (u : Value) (B n : Nat) (hn : epochM m = 0) (hu : IsMsg B X u m) (hB : B ≤ X.heap.size) (hX : Below W.heap.size W X) => epochM_any B u m 0 hn X hu hB (tabs_below HT.out hX) HL.out)
  have gA : sp.toList.isEmpty = !rightM m := by rw [← hsp]; exact right_iff_put m
  have K3 := Lib.hid (Below.refl w3.heap.size w3)
  go_wp2_with fail
  refine (CP.out _ _ _ HM.out (Nat.le_refl _) HW3.out).mono ?_
  rintro r w4 ⟨rfl, hb4⟩
  have K4 := Lib.hid hb4
  clear hb4 CP
  go_wp2_with fail
  by_cases hr : rightM m = true
  · have C1 := Lib.hid (CR.out _ _ _ true hr (HM.out.keep K4.out (Nat.le_refl _)) K4.out.size (bstep HW3.out K4.out))
    have ht := takeM_put hr
    have hz := putM_le hr
    have hlt := takeM_less hr
    have hmo := takeM_more hr
    rw [hsp] at ht hz hlt hmo
    have hpos : 0 < sp.size := by rw [← hsp]; exact (first_kind hr).1
    obtain ⟨kk, j1, j2, j3, j4, hex⟩ := less_one hpos (by omega)
    have CT1 := Lib.hid (fun (X : World) (hX : Below W.heap.size W X) => takeM_str sp _ rfl _ _ ht (by rw [size_listE]; omega) X (tabs_below HT.out hX))
    have CT2 := Lib.hid (fun (X : World) (hX : Below W.heap.size W X) => takeM_str (sp.extract 0 kk) sp.data.toList.dropLast (by rw [hex]; rfl) _ _ hlt (by rw [List.length_dropLast, size_listE]; omega) X (tabs_below HT.out hX))
    have CT3 := Lib.hid (fun (X : World) (s : ByteArray) (x : UInt8) (hs : s.data.toList = sp.data.toList ++ [x]) (hX : Below W.heap.size W X) => takeM_str s _ hs _ _ (hmo x) (by rw [List.length_append, size_listE]; simp; omega) X (tabs_below HT.out hX))
    have aS : ∀ (X : World) (s : ByteArray), s.size = 1 → (Op.stringOp .add sp s).run Tryd.prog X = .ok (.string (sp ++ s)) X := fun X s h => run_string_add_sum (P := Tryd.prog) (w := X) _ _ (by omega)
    have AS := Lib.hid aS
    have CF := Lib.hid (fun (X : World) (u : Value) (B : Nat) (hu : IsMsg B X u m) (hB : B ≤ X.heap.size) => flat_any B u m X hu hB)
    clear ht hlt hmo hex hsp gA CR CE hr aS
    refine C1.out.mono ?_
    rintro r w5 ⟨rfl, hb5⟩
    have K5 := Lib.hid (bstep K4.out hb5)
    clear hb5 K4 C1
    go_wp2_with fail
    refine (CT1.out _ (bstep HW3.out K5.out)).mono ?_
    rintro r w6 ⟨v6, rfl, -, hm6, hb6⟩
    have HM6 := Lib.hid (hm6 m rfl)
    have K6 := Lib.hid (bstep K5.out hb6)
    obtain ⟨T6, p6, F6, rfl, hmt, hcf, hc⟩ := hasKind HM6.out
    clear hb6 K5 CT1 hm6 hmt hcf hc
    go_wp2_with fail
    refine (CT2.out _ (bstep HW3.out K6.out)).mono ?_
    rintro r w7 ⟨v7, rfl, hn7, -, hb7⟩
    obtain rfl := hn7 rfl
    have K7 := Lib.hid (bstep K6.out hb7)
    have L7 := Lib.hid hb7
    clear hb7 K6 CT2 hn7
    have aS := fun (X : World) => AS.out X (bstr [x]) (by rw [bstr_size]; rfl)
    have hcv : ∀ X : World, (convert 42 9 (.slice (some ⟨X.heap.size, 0, none⟩) 1 1)).run Tryd.prog (X.alloc (.cells #[.int .u8 (x.toNat : Int)] 5)) = .ok (.string (bstr [x])) (X.alloc (.cells #[.int .u8 (x.toNat : Int)] 5)) := fun X => conv_block X 42 9 5 1 [x] Tryd.underlying42 Tryd.underlying5 Tryd.underlying9
    go_wp2_with fail
    clear aS hcv AS
    refine (CT3.out _ _ x (by simp [bstr]) ((bstep HW3.out K7.out).alloc (bstep HW3.out K7.out).size _)).mono ?_
    rintro r w8 ⟨v8, rfl, hn8, -, hb8⟩
    obtain rfl := hn8 rfl
    have L8 := Lib.hid (bstep (L7.out.alloc L7.out.size _) hb8)
    have K8 := Lib.hid (bstep (K7.out.alloc K7.out.size _) hb8)
    clear hb8 CT3 hn8 K7 L7
    go_wp2_with fail
    refine (CF.out _ _ _ (HM.out.keep K8.out (Nat.le_refl _)) K8.out.size).mono ?_
    rintro r w9 ⟨v9, rfl, hf, hb9⟩
    have L9 := Lib.hid (bstep L8.out hb9)
    have K9 := Lib.hid (bstep K8.out hb9)
    obtain ⟨fl, hfl⟩ : ∃ f, flatM m = f := ⟨_, rfl⟩
    rw [hfl] at hf
    have HF := Lib.hid hf
    obtain ⟨nv, cv, sv, bv, mv, ev, vv, lv, rfl, p1, p2, p3, p4, p5, p6, p7, p8⟩ := hf
    obtain ⟨pa1, pc1, rfl⟩ := p1.form
    obtain ⟨pa2, pc2, rfl⟩ := p2.form
    obtain ⟨pa3, pc3, rfl⟩ := p3.form
    obtain ⟨pa4, pc4, rfl⟩ := p4.form
    obtain ⟨pa5, pc5, rfl⟩ := p5.form
    obtain ⟨pa6, pc6, rfl⟩ := p6.form
    obtain ⟨pa7, pc7, rfl⟩ := p7.form
    obtain ⟨pa8, pc8, rfl⟩ := p8.form
    clear p1 p2 p3 p4 p5 p6 p7 p8 hb9 K8 L8
    have Hp := Lib.hid (heap_alloc_new w9 (.cells #[.int .i64 fl.kind, .slice pa1 fl.nums.length pc1, .slice pa2 fl.chain.length pc2, .slice pa3 fl.since.length pc3, .slice pa4 fl.boot.length pc4, .slice pa5 fl.marks.length pc5, .slice pa6 fl.entries.length pc6, .slice pa7 fl.events.length pc7, .string fl.b.stream, .int .i64 fl.b.expect, .int .i64 fl.b.session, .int .i64 fl.b.seq, .slice pa8 fl.b.events.length pc8, .string fl.stream] 44))
    have HL9 := Lib.hid (L9.out.alloc L9.out.size (.cells #[.int .i64 fl.kind, .slice pa1 fl.nums.length pc1, .slice pa2 fl.chain.length pc2, .slice pa3 fl.since.length pc3, .slice pa4 fl.boot.length pc4, .slice pa5 fl.marks.length pc5, .slice pa6 fl.entries.length pc6, .slice pa7 fl.events.length pc7, .string fl.b.stream, .int .i64 fl.b.expect, .int .i64 fl.b.session, .int .i64 fl.b.seq, .slice pa8 fl.b.events.length pc8, .string fl.stream] 44))
    have HZ9 := Lib.hid (show w9.heap.size < (w9.alloc (.cells #[.int .i64 fl.kind, .slice pa1 fl.nums.length pc1, .slice pa2 fl.chain.length pc2, .slice pa3 fl.since.length pc3, .slice pa4 fl.boot.length pc4, .slice pa5 fl.marks.length pc5, .slice pa6 fl.entries.length pc6, .slice pa7 fl.events.length pc7, .string fl.b.stream, .int .i64 fl.b.expect, .int .i64 fl.b.session, .int .i64 fl.b.seq, .slice pa8 fl.b.events.length pc8, .string fl.stream] 44)).heap.size by rw [World.size_alloc]; omega)
    have HK9 := Lib.hid ((Below.refl w9.heap.size w9).alloc (Nat.le_refl _) (.cells #[.int .i64 fl.kind, .slice pa1 fl.nums.length pc1, .slice pa2 fl.chain.length pc2, .slice pa3 fl.since.length pc3, .slice pa4 fl.boot.length pc4, .slice pa5 fl.marks.length pc5, .slice pa6 fl.entries.length pc6, .slice pa7 fl.events.length pc7, .string fl.b.stream, .int .i64 fl.b.expect, .int .i64 fl.b.session, .int .i64 fl.b.seq, .slice pa8 fl.b.events.length pc8, .string fl.stream] 44))
    go_wp2_with fail
    refine (CF.out _ _ _ (HM6.out.keep HL9.out (Nat.le_refl _)) HL9.out.size).mono ?_
    rintro r w10 ⟨v10, rfl, hf, hb10⟩
    rw [hfl] at hf
    have HU := Lib.hid hf
    obtain ⟨nv, cv, sv, bv, mv, ev, vv, lv, rfl, p1, p2, p3, p4, p5, p6, p7, p8⟩ := hf
    obtain ⟨ua1, uc1, rfl⟩ := p1.form
    obtain ⟨ua2, uc2, rfl⟩ := p2.form
    obtain ⟨ua3, uc3, rfl⟩ := p3.form
    obtain ⟨ua4, uc4, rfl⟩ := p4.form
    obtain ⟨ua5, uc5, rfl⟩ := p5.form
    obtain ⟨ua6, uc6, rfl⟩ := p6.form
    obtain ⟨ua7, uc7, rfl⟩ := p7.form
    obtain ⟨ua8, uc8, rfl⟩ := p8.form
    clear p1 p2 p3 p4 p5 p6 p7 p8
    have HU10 := Lib.hid ((Below.refl w10.heap.size w10).alloc (Nat.le_refl _) (.cells #[.int .i64 fl.kind, .slice ua1 fl.nums.length uc1, .slice ua2 fl.chain.length uc2, .slice ua3 fl.since.length uc3, .slice ua4 fl.boot.length uc4, .slice ua5 fl.marks.length uc5, .slice ua6 fl.entries.length uc6, .slice ua7 fl.events.length uc7, .string fl.b.stream, .int .i64 fl.b.expect, .int .i64 fl.b.session, .int .i64 fl.b.seq, .slice ua8 fl.b.events.length uc8, .string fl.stream] 44))
    have H12 := Lib.hid (HK9.out.trans (hb10.mono (Nat.le_of_lt HZ9.out)))
    have H13 := Lib.hid (H12.out.alloc H12.out.size (.cells #[.int .i64 fl.kind, .slice ua1 fl.nums.length uc1, .slice ua2 fl.chain.length uc2, .slice ua3 fl.since.length uc3, .slice ua4 fl.boot.length uc4, .slice ua5 fl.marks.length uc5, .slice ua6 fl.entries.length uc6, .slice ua7 fl.events.length uc7, .string fl.b.stream, .int .i64 fl.b.expect, .int .i64 fl.b.session, .int .i64 fl.b.seq, .slice ua8 fl.b.events.length uc8, .string fl.stream] 44))
    have Hu := Lib.hid (heap_alloc_new w10 (.cells #[.int .i64 fl.kind, .slice ua1 fl.nums.length uc1, .slice ua2 fl.chain.length uc2, .slice ua3 fl.since.length uc3, .slice ua4 fl.boot.length uc4, .slice ua5 fl.marks.length uc5, .slice ua6 fl.entries.length uc6, .slice ua7 fl.events.length uc7, .string fl.b.stream, .int .i64 fl.b.expect, .int .i64 fl.b.session, .int .i64 fl.b.seq, .slice ua8 fl.b.events.length uc8, .string fl.stream] 44))
    have hlt9 : w9.heap.size < w10.heap.size := Nat.lt_of_lt_of_le HZ9.out hb10.size
    replace Hp := Lib.hid ((HU10.out.block w9.heap.size hlt9).trans ((hb10.block w9.heap.size HZ9.out).trans Hp.out))
    have HW10 := Lib.hid ((bstep HW3.out K9.out).trans (H13.out.mono (bstep HW3.out K9.out).size))
    have CSM := Lib.hid (same7_any w10.heap.size _ _ fl (w10.alloc (.cells #[.int .i64 fl.kind, .slice ua1 fl.nums.length uc1, .slice ua2 fl.chain.length uc2, .slice ua3 fl.since.length uc3, .slice ua4 fl.boot.length uc4, .slice ua5 fl.marks.length uc5, .slice ua6 fl.entries.length uc6, .slice ua7 fl.events.length uc7, .string fl.b.stream, .int .i64 fl.b.expect, .int .i64 fl.b.session, .int .i64 fl.b.seq, .slice ua8 fl.b.events.length uc8, .string fl.stream] 44)) ((HF.out.keep H13.out (Nat.le_refl _)).up (Nat.le_of_lt hlt9)) (HU.out.keep HU10.out (Nat.le_refl _)) HU10.out.size)
    clear hb10 hlt9 HL9 HZ9 HK9 HF HU HU10 H12 H13 CF K9 HW3 L9 HM6 HM
    have z0 : (w10.alloc (.cells #[.int .i64 fl.kind, .slice ua1 fl.nums.length uc1, .slice ua2 fl.chain.length uc2, .slice ua3 fl.since.length uc3, .slice ua4 fl.boot.length uc4, .slice ua5 fl.marks.length uc5, .slice ua6 fl.entries.length uc6, .slice ua7 fl.events.length uc7, .string fl.b.stream, .int .i64 fl.b.expect, .int .i64 fl.b.session, .int .i64 fl.b.seq, .slice ua8 fl.b.events.length uc8, .string fl.stream] 44)).cell? ⟨w9.heap.size, 0, none⟩ = some (.int .i64 fl.kind) := Lib.cell_of_heap Hp.out 0
    have z1 : (w10.alloc (.cells #[.int .i64 fl.kind, .slice ua1 fl.nums.length uc1, .slice ua2 fl.chain.length uc2, .slice ua3 fl.since.length uc3, .slice ua4 fl.boot.length uc4, .slice ua5 fl.marks.length uc5, .slice ua6 fl.entries.length uc6, .slice ua7 fl.events.length uc7, .string fl.b.stream, .int .i64 fl.b.expect, .int .i64 fl.b.session, .int .i64 fl.b.seq, .slice ua8 fl.b.events.length uc8, .string fl.stream] 44)).cell? ⟨w9.heap.size, 1, none⟩ = some (.slice pa1 fl.nums.length pc1) := Lib.cell_of_heap Hp.out 1
    have z2 : (w10.alloc (.cells #[.int .i64 fl.kind, .slice ua1 fl.nums.length uc1, .slice ua2 fl.chain.length uc2, .slice ua3 fl.since.length uc3, .slice ua4 fl.boot.length uc4, .slice ua5 fl.marks.length uc5, .slice ua6 fl.entries.length uc6, .slice ua7 fl.events.length uc7, .string fl.b.stream, .int .i64 fl.b.expect, .int .i64 fl.b.session, .int .i64 fl.b.seq, .slice ua8 fl.b.events.length uc8, .string fl.stream] 44)).cell? ⟨w9.heap.size, 2, none⟩ = some (.slice pa2 fl.chain.length pc2) := Lib.cell_of_heap Hp.out 2
    have z3 : (w10.alloc (.cells #[.int .i64 fl.kind, .slice ua1 fl.nums.length uc1, .slice ua2 fl.chain.length uc2, .slice ua3 fl.since.length uc3, .slice ua4 fl.boot.length uc4, .slice ua5 fl.marks.length uc5, .slice ua6 fl.entries.length uc6, .slice ua7 fl.events.length uc7, .string fl.b.stream, .int .i64 fl.b.expect, .int .i64 fl.b.session, .int .i64 fl.b.seq, .slice ua8 fl.b.events.length uc8, .string fl.stream] 44)).cell? ⟨w9.heap.size, 3, none⟩ = some (.slice pa3 fl.since.length pc3) := Lib.cell_of_heap Hp.out 3
    have z4 : (w10.alloc (.cells #[.int .i64 fl.kind, .slice ua1 fl.nums.length uc1, .slice ua2 fl.chain.length uc2, .slice ua3 fl.since.length uc3, .slice ua4 fl.boot.length uc4, .slice ua5 fl.marks.length uc5, .slice ua6 fl.entries.length uc6, .slice ua7 fl.events.length uc7, .string fl.b.stream, .int .i64 fl.b.expect, .int .i64 fl.b.session, .int .i64 fl.b.seq, .slice ua8 fl.b.events.length uc8, .string fl.stream] 44)).cell? ⟨w9.heap.size, 4, none⟩ = some (.slice pa4 fl.boot.length pc4) := Lib.cell_of_heap Hp.out 4
    have z5 : (w10.alloc (.cells #[.int .i64 fl.kind, .slice ua1 fl.nums.length uc1, .slice ua2 fl.chain.length uc2, .slice ua3 fl.since.length uc3, .slice ua4 fl.boot.length uc4, .slice ua5 fl.marks.length uc5, .slice ua6 fl.entries.length uc6, .slice ua7 fl.events.length uc7, .string fl.b.stream, .int .i64 fl.b.expect, .int .i64 fl.b.session, .int .i64 fl.b.seq, .slice ua8 fl.b.events.length uc8, .string fl.stream] 44)).cell? ⟨w9.heap.size, 5, none⟩ = some (.slice pa5 fl.marks.length pc5) := Lib.cell_of_heap Hp.out 5
    have z6 : (w10.alloc (.cells #[.int .i64 fl.kind, .slice ua1 fl.nums.length uc1, .slice ua2 fl.chain.length uc2, .slice ua3 fl.since.length uc3, .slice ua4 fl.boot.length uc4, .slice ua5 fl.marks.length uc5, .slice ua6 fl.entries.length uc6, .slice ua7 fl.events.length uc7, .string fl.b.stream, .int .i64 fl.b.expect, .int .i64 fl.b.session, .int .i64 fl.b.seq, .slice ua8 fl.b.events.length uc8, .string fl.stream] 44)).cell? ⟨w9.heap.size, 6, none⟩ = some (.slice pa6 fl.entries.length pc6) := Lib.cell_of_heap Hp.out 6
    have z7 : (w10.alloc (.cells #[.int .i64 fl.kind, .slice ua1 fl.nums.length uc1, .slice ua2 fl.chain.length uc2, .slice ua3 fl.since.length uc3, .slice ua4 fl.boot.length uc4, .slice ua5 fl.marks.length uc5, .slice ua6 fl.entries.length uc6, .slice ua7 fl.events.length uc7, .string fl.b.stream, .int .i64 fl.b.expect, .int .i64 fl.b.session, .int .i64 fl.b.seq, .slice ua8 fl.b.events.length uc8, .string fl.stream] 44)).cell? ⟨w9.heap.size, 7, none⟩ = some (.slice pa7 fl.events.length pc7) := Lib.cell_of_heap Hp.out 7
    have z8 : (w10.alloc (.cells #[.int .i64 fl.kind, .slice ua1 fl.nums.length uc1, .slice ua2 fl.chain.length uc2, .slice ua3 fl.since.length uc3, .slice ua4 fl.boot.length uc4, .slice ua5 fl.marks.length uc5, .slice ua6 fl.entries.length uc6, .slice ua7 fl.events.length uc7, .string fl.b.stream, .int .i64 fl.b.expect, .int .i64 fl.b.session, .int .i64 fl.b.seq, .slice ua8 fl.b.events.length uc8, .string fl.stream] 44)).cell? ⟨w9.heap.size, 8, none⟩ = some (.string fl.b.stream) := Lib.cell_of_heap Hp.out 8
    have z9 : (w10.alloc (.cells #[.int .i64 fl.kind, .slice ua1 fl.nums.length uc1, .slice ua2 fl.chain.length uc2, .slice ua3 fl.since.length uc3, .slice ua4 fl.boot.length uc4, .slice ua5 fl.marks.length uc5, .slice ua6 fl.entries.length uc6, .slice ua7 fl.events.length uc7, .string fl.b.stream, .int .i64 fl.b.expect, .int .i64 fl.b.session, .int .i64 fl.b.seq, .slice ua8 fl.b.events.length uc8, .string fl.stream] 44)).cell? ⟨w9.heap.size, 9, none⟩ = some (.int .i64 fl.b.expect) := Lib.cell_of_heap Hp.out 9
    have z10 : (w10.alloc (.cells #[.int .i64 fl.kind, .slice ua1 fl.nums.length uc1, .slice ua2 fl.chain.length uc2, .slice ua3 fl.since.length uc3, .slice ua4 fl.boot.length uc4, .slice ua5 fl.marks.length uc5, .slice ua6 fl.entries.length uc6, .slice ua7 fl.events.length uc7, .string fl.b.stream, .int .i64 fl.b.expect, .int .i64 fl.b.session, .int .i64 fl.b.seq, .slice ua8 fl.b.events.length uc8, .string fl.stream] 44)).cell? ⟨w9.heap.size, 10, none⟩ = some (.int .i64 fl.b.session) := Lib.cell_of_heap Hp.out 10
    have z11 : (w10.alloc (.cells #[.int .i64 fl.kind, .slice ua1 fl.nums.length uc1, .slice ua2 fl.chain.length uc2, .slice ua3 fl.since.length uc3, .slice ua4 fl.boot.length uc4, .slice ua5 fl.marks.length uc5, .slice ua6 fl.entries.length uc6, .slice ua7 fl.events.length uc7, .string fl.b.stream, .int .i64 fl.b.expect, .int .i64 fl.b.session, .int .i64 fl.b.seq, .slice ua8 fl.b.events.length uc8, .string fl.stream] 44)).cell? ⟨w9.heap.size, 11, none⟩ = some (.int .i64 fl.b.seq) := Lib.cell_of_heap Hp.out 11
    have z12 : (w10.alloc (.cells #[.int .i64 fl.kind, .slice ua1 fl.nums.length uc1, .slice ua2 fl.chain.length uc2, .slice ua3 fl.since.length uc3, .slice ua4 fl.boot.length uc4, .slice ua5 fl.marks.length uc5, .slice ua6 fl.entries.length uc6, .slice ua7 fl.events.length uc7, .string fl.b.stream, .int .i64 fl.b.expect, .int .i64 fl.b.session, .int .i64 fl.b.seq, .slice ua8 fl.b.events.length uc8, .string fl.stream] 44)).cell? ⟨w9.heap.size, 12, none⟩ = some (.slice pa8 fl.b.events.length pc8) := Lib.cell_of_heap Hp.out 12
    have z13 : (w10.alloc (.cells #[.int .i64 fl.kind, .slice ua1 fl.nums.length uc1, .slice ua2 fl.chain.length uc2, .slice ua3 fl.since.length uc3, .slice ua4 fl.boot.length uc4, .slice ua5 fl.marks.length uc5, .slice ua6 fl.entries.length uc6, .slice ua7 fl.events.length uc7, .string fl.b.stream, .int .i64 fl.b.expect, .int .i64 fl.b.session, .int .i64 fl.b.seq, .slice ua8 fl.b.events.length uc8, .string fl.stream] 44)).cell? ⟨w9.heap.size, 13, none⟩ = some (.string fl.stream) := Lib.cell_of_heap Hp.out 13
    have u0 : (w10.alloc (.cells #[.int .i64 fl.kind, .slice ua1 fl.nums.length uc1, .slice ua2 fl.chain.length uc2, .slice ua3 fl.since.length uc3, .slice ua4 fl.boot.length uc4, .slice ua5 fl.marks.length uc5, .slice ua6 fl.entries.length uc6, .slice ua7 fl.events.length uc7, .string fl.b.stream, .int .i64 fl.b.expect, .int .i64 fl.b.session, .int .i64 fl.b.seq, .slice ua8 fl.b.events.length uc8, .string fl.stream] 44)).cell? ⟨w10.heap.size, 0, none⟩ = some (.int .i64 fl.kind) := Lib.cell_of_heap Hu.out 0
    have u1 : (w10.alloc (.cells #[.int .i64 fl.kind, .slice ua1 fl.nums.length uc1, .slice ua2 fl.chain.length uc2, .slice ua3 fl.since.length uc3, .slice ua4 fl.boot.length uc4, .slice ua5 fl.marks.length uc5, .slice ua6 fl.entries.length uc6, .slice ua7 fl.events.length uc7, .string fl.b.stream, .int .i64 fl.b.expect, .int .i64 fl.b.session, .int .i64 fl.b.seq, .slice ua8 fl.b.events.length uc8, .string fl.stream] 44)).cell? ⟨w10.heap.size, 1, none⟩ = some (.slice ua1 fl.nums.length uc1) := Lib.cell_of_heap Hu.out 1
    have u2 : (w10.alloc (.cells #[.int .i64 fl.kind, .slice ua1 fl.nums.length uc1, .slice ua2 fl.chain.length uc2, .slice ua3 fl.since.length uc3, .slice ua4 fl.boot.length uc4, .slice ua5 fl.marks.length uc5, .slice ua6 fl.entries.length uc6, .slice ua7 fl.events.length uc7, .string fl.b.stream, .int .i64 fl.b.expect, .int .i64 fl.b.session, .int .i64 fl.b.seq, .slice ua8 fl.b.events.length uc8, .string fl.stream] 44)).cell? ⟨w10.heap.size, 2, none⟩ = some (.slice ua2 fl.chain.length uc2) := Lib.cell_of_heap Hu.out 2
    have u3 : (w10.alloc (.cells #[.int .i64 fl.kind, .slice ua1 fl.nums.length uc1, .slice ua2 fl.chain.length uc2, .slice ua3 fl.since.length uc3, .slice ua4 fl.boot.length uc4, .slice ua5 fl.marks.length uc5, .slice ua6 fl.entries.length uc6, .slice ua7 fl.events.length uc7, .string fl.b.stream, .int .i64 fl.b.expect, .int .i64 fl.b.session, .int .i64 fl.b.seq, .slice ua8 fl.b.events.length uc8, .string fl.stream] 44)).cell? ⟨w10.heap.size, 3, none⟩ = some (.slice ua3 fl.since.length uc3) := Lib.cell_of_heap Hu.out 3
    have u4 : (w10.alloc (.cells #[.int .i64 fl.kind, .slice ua1 fl.nums.length uc1, .slice ua2 fl.chain.length uc2, .slice ua3 fl.since.length uc3, .slice ua4 fl.boot.length uc4, .slice ua5 fl.marks.length uc5, .slice ua6 fl.entries.length uc6, .slice ua7 fl.events.length uc7, .string fl.b.stream, .int .i64 fl.b.expect, .int .i64 fl.b.session, .int .i64 fl.b.seq, .slice ua8 fl.b.events.length uc8, .string fl.stream] 44)).cell? ⟨w10.heap.size, 4, none⟩ = some (.slice ua4 fl.boot.length uc4) := Lib.cell_of_heap Hu.out 4
    have u5 : (w10.alloc (.cells #[.int .i64 fl.kind, .slice ua1 fl.nums.length uc1, .slice ua2 fl.chain.length uc2, .slice ua3 fl.since.length uc3, .slice ua4 fl.boot.length uc4, .slice ua5 fl.marks.length uc5, .slice ua6 fl.entries.length uc6, .slice ua7 fl.events.length uc7, .string fl.b.stream, .int .i64 fl.b.expect, .int .i64 fl.b.session, .int .i64 fl.b.seq, .slice ua8 fl.b.events.length uc8, .string fl.stream] 44)).cell? ⟨w10.heap.size, 5, none⟩ = some (.slice ua5 fl.marks.length uc5) := Lib.cell_of_heap Hu.out 5
    have u6 : (w10.alloc (.cells #[.int .i64 fl.kind, .slice ua1 fl.nums.length uc1, .slice ua2 fl.chain.length uc2, .slice ua3 fl.since.length uc3, .slice ua4 fl.boot.length uc4, .slice ua5 fl.marks.length uc5, .slice ua6 fl.entries.length uc6, .slice ua7 fl.events.length uc7, .string fl.b.stream, .int .i64 fl.b.expect, .int .i64 fl.b.session, .int .i64 fl.b.seq, .slice ua8 fl.b.events.length uc8, .string fl.stream] 44)).cell? ⟨w10.heap.size, 6, none⟩ = some (.slice ua6 fl.entries.length uc6) := Lib.cell_of_heap Hu.out 6
    have u7 : (w10.alloc (.cells #[.int .i64 fl.kind, .slice ua1 fl.nums.length uc1, .slice ua2 fl.chain.length uc2, .slice ua3 fl.since.length uc3, .slice ua4 fl.boot.length uc4, .slice ua5 fl.marks.length uc5, .slice ua6 fl.entries.length uc6, .slice ua7 fl.events.length uc7, .string fl.b.stream, .int .i64 fl.b.expect, .int .i64 fl.b.session, .int .i64 fl.b.seq, .slice ua8 fl.b.events.length uc8, .string fl.stream] 44)).cell? ⟨w10.heap.size, 7, none⟩ = some (.slice ua7 fl.events.length uc7) := Lib.cell_of_heap Hu.out 7
    have u8 : (w10.alloc (.cells #[.int .i64 fl.kind, .slice ua1 fl.nums.length uc1, .slice ua2 fl.chain.length uc2, .slice ua3 fl.since.length uc3, .slice ua4 fl.boot.length uc4, .slice ua5 fl.marks.length uc5, .slice ua6 fl.entries.length uc6, .slice ua7 fl.events.length uc7, .string fl.b.stream, .int .i64 fl.b.expect, .int .i64 fl.b.session, .int .i64 fl.b.seq, .slice ua8 fl.b.events.length uc8, .string fl.stream] 44)).cell? ⟨w10.heap.size, 8, none⟩ = some (.string fl.b.stream) := Lib.cell_of_heap Hu.out 8
    have u9 : (w10.alloc (.cells #[.int .i64 fl.kind, .slice ua1 fl.nums.length uc1, .slice ua2 fl.chain.length uc2, .slice ua3 fl.since.length uc3, .slice ua4 fl.boot.length uc4, .slice ua5 fl.marks.length uc5, .slice ua6 fl.entries.length uc6, .slice ua7 fl.events.length uc7, .string fl.b.stream, .int .i64 fl.b.expect, .int .i64 fl.b.session, .int .i64 fl.b.seq, .slice ua8 fl.b.events.length uc8, .string fl.stream] 44)).cell? ⟨w10.heap.size, 9, none⟩ = some (.int .i64 fl.b.expect) := Lib.cell_of_heap Hu.out 9
    have u10 : (w10.alloc (.cells #[.int .i64 fl.kind, .slice ua1 fl.nums.length uc1, .slice ua2 fl.chain.length uc2, .slice ua3 fl.since.length uc3, .slice ua4 fl.boot.length uc4, .slice ua5 fl.marks.length uc5, .slice ua6 fl.entries.length uc6, .slice ua7 fl.events.length uc7, .string fl.b.stream, .int .i64 fl.b.expect, .int .i64 fl.b.session, .int .i64 fl.b.seq, .slice ua8 fl.b.events.length uc8, .string fl.stream] 44)).cell? ⟨w10.heap.size, 10, none⟩ = some (.int .i64 fl.b.session) := Lib.cell_of_heap Hu.out 10
    have u11 : (w10.alloc (.cells #[.int .i64 fl.kind, .slice ua1 fl.nums.length uc1, .slice ua2 fl.chain.length uc2, .slice ua3 fl.since.length uc3, .slice ua4 fl.boot.length uc4, .slice ua5 fl.marks.length uc5, .slice ua6 fl.entries.length uc6, .slice ua7 fl.events.length uc7, .string fl.b.stream, .int .i64 fl.b.expect, .int .i64 fl.b.session, .int .i64 fl.b.seq, .slice ua8 fl.b.events.length uc8, .string fl.stream] 44)).cell? ⟨w10.heap.size, 11, none⟩ = some (.int .i64 fl.b.seq) := Lib.cell_of_heap Hu.out 11
    have u12 : (w10.alloc (.cells #[.int .i64 fl.kind, .slice ua1 fl.nums.length uc1, .slice ua2 fl.chain.length uc2, .slice ua3 fl.since.length uc3, .slice ua4 fl.boot.length uc4, .slice ua5 fl.marks.length uc5, .slice ua6 fl.entries.length uc6, .slice ua7 fl.events.length uc7, .string fl.b.stream, .int .i64 fl.b.expect, .int .i64 fl.b.session, .int .i64 fl.b.seq, .slice ua8 fl.b.events.length uc8, .string fl.stream] 44)).cell? ⟨w10.heap.size, 12, none⟩ = some (.slice ua8 fl.b.events.length uc8) := Lib.cell_of_heap Hu.out 12
    have u13 : (w10.alloc (.cells #[.int .i64 fl.kind, .slice ua1 fl.nums.length uc1, .slice ua2 fl.chain.length uc2, .slice ua3 fl.since.length uc3, .slice ua4 fl.boot.length uc4, .slice ua5 fl.marks.length uc5, .slice ua6 fl.entries.length uc6, .slice ua7 fl.events.length uc7, .string fl.b.stream, .int .i64 fl.b.expect, .int .i64 fl.b.session, .int .i64 fl.b.seq, .slice ua8 fl.b.events.length uc8, .string fl.stream] 44)).cell? ⟨w10.heap.size, 13, none⟩ = some (.string fl.stream) := Lib.cell_of_heap Hu.out 13
    go_wp2_with fail
    refine CSM.out.mono ?_
    rintro r w11 ⟨rfl, hb11⟩
    go_wp2_with fail
    go_ret
    exact ⟨rfl, bstep HW10.out hb11⟩
  · have hr' : rightM m = false := by cases e : rightM m; rfl; exact absurd e hr
    have gB : sp.toList.isEmpty = true := by rw [gA, hr']; rfl
    refine (CR.out _ _ _ false hr' (HM.out.keep K4.out (Nat.le_refl _)) K4.out.size (bstep HW3.out K4.out)).mono ?_
    rintro r w5 ⟨rfl, hb5⟩
    have K5 := Lib.hid (bstep K4.out hb5)
    have he := not_epoch hr'
    clear gA
    clear hb5 K4 hsp hr hr'
    have HE := Lib.hid he
    clear he
    go_wp2_with fail
    refine (CE.out _ _ _ 0 HE.out (HM.out.keep K5.out (Nat.le_refl _)) K5.out.size (bstep HW3.out K5.out)).mono ?_
    rintro r w6 ⟨rfl, hb6⟩
    go_wp2_with fail
    go_ret
    exact ⟨rfl, bstep (bstep HW3.out K5.out) hb6⟩

theorem walkMessageBack (v : Value) (d : DW) (s : DS) (c : Int) (wc : (Lit.int .u8 c).wf = true) (W : World) (hv : v = .agg (d.cells s).toArray) (h : DOk W.heap.size W d s) (hsz : SizeD d) (hT : Tabs W) :
    Calls Tryd.prog 3 #[v, .int .u8 c] W fun r w' => r = .returned (.bool true) ∧ Below W.heap.size W w' := by
  obtain ⟨ca, ck, sa, sk, ba, bk, ma, mc, ea, ec, va, vk, la, lk, rfl⟩ := h.forms
  obtain ⟨k, n0, n1, n2, n3, n4, n5, ch, si, bo, mk, en, ev, b, st⟩ := d
  subst hv
  have hb0 : IntKind.u8.min ≤ c ∧ c ≤ IntKind.u8.max := by simpa [Lit.wf] using wc
  have hb : 0 ≤ c ∧ c ≤ 255 := hb0
  obtain ⟨x, rfl⟩ : ∃ x : UInt8, c = (x.toNat : Int) := ⟨UInt8.ofNat c.toNat, by rw [toNat_of (by omega)]; omega⟩
  exact back_lit k n0 n1 n2 n3 n4 n5 ch si bo mk en ev b st ca sa ba ma ea va la ck sk bk mc ec vk lk x W h hsz hT _ rfl
end Go.Proofs.YtflojipkgaocnaaDoor
