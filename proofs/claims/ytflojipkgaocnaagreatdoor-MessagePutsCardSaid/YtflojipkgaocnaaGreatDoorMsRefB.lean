/-
  MsDr, MsFlatA, MsFlatB, MsRef7, in one text.
-/
import Derived.Test.YtflojipkgaocnaaGreatDoorMsMade
import Derived.Test.YtflojipkgaocnaaGreatDoorMsSmall
import Derived.Test.YtflojipkgaocnaaGreatDoorMsTake
import Derived.Deep.MidRow
import Derived.Test.YtflojipkgaocnaaGreatDoorMsFlat
import Derived.Test.YtflojipkgaocnaaGreatDoorMsRefA
import Derived.IntWalk
namespace Go.Proofs.YtflojipkgaocnaaGreatDoor
open Go.RowKit
set_option linter.unusedVariables false

theorem box_range {w W : World} {cs : List Value} {t : TypeId} (hb : Below (w.heap.size + 1) (w.alloc (.cells cs.toArray t)) W) : W.rangeAt w.heap.size 0 cs := fun j v h => by
  rw [Nat.zero_add]
  exact box19 hb j v (by rw [List.getElem?_toArray]; exact h)
theorem putM_le {m : Msg} (h : rightM m = true) : (putM m).size ≤ 500000 := by
  have hk := right_okM h
  have hr := rest_le (ok_light hk)
  rw [putM, if_pos h, bstr_size, List.length_cons, bodyM, List.length_append]
  have hc := catI_le m.nums
  have hn : m.nums.length ≤ 6 := by cases m <;> simp [Msg.nums]
  have hrest : m.rest.length ≤ 400000 := by
    clear hr hc hn h
    cases m <;> simp only [Msg.rest, List.length_append, List.length_nil] <;> try omega
    case view a c s b =>
      have h1 := putL_le c (Nat.le_trans hk.2.1.1 (by omega))
      have h2 := putL_le s (Nat.le_trans hk.2.2.1.1 (by omega))
      have h3 := putL_le b (Nat.le_trans hk.2.2.2.1 (by omega))
      omega
    case hav a b c l =>
      have h1 := catM_le l
      have h2 := putN_len6 (clampN_le (l.length : Int))
      have h3 := hk.2.2.2.1
      unfold putL
      rw [List.length_append]
      omega
    case logs a b c d e f l =>
      have h1 := catR_le l
      have h2 := putN_len6 (clampN_le (l.length : Int))
      have h3 := hk.2.2.2.2.2.2.1
      unfold putRow
      split
      · exact Nat.zero_le _
      · rw [bstr_list]
        unfold putL
        rw [List.length_append]
        omega
    case app a b =>
      have h1 := putB_le b
      rw [size_listE]
      omega
    case red a s f =>
      have h1 := pT_size s
      have h2 := putI_le f
      have h3 : (putT s.data.toList).length = (pT s).size := by rw [pT, bstr_size]
      have h4 : s.size ≤ _ := hk.2.1
      omega
    case res a b c l =>
      have h1 := catE_le l
      have h2 := putN_len6 (clampN_le (l.length : Int))
      have h3 := hk.2.2.2.1
      unfold putL
      rw [List.length_append]
      omega
  omega
theorem made_cases {d : DW} {m : Msg} (hm : madeD d = some m) : (d.kind = 1 ∧ m = .beat d.n0 d.n1 d.n2) ∨ (d.kind = 2 ∧ m = .join d.n0 d.n1) ∨ (d.kind = 3 ∧ m = .lease d.n0 d.n1) ∨ (d.kind = 4 ∧ m = .view d.n0 d.chain d.since d.boot) ∨ (d.kind = 5 ∧ m = .whr d.n0) ∨ (d.kind = 6 ∧ m = .hav d.n0 d.n1 d.n2 d.marks) ∨ (d.kind = 7 ∧ m = .logs d.n0 d.n1 d.n2 d.n3 d.n4 d.n5 d.entries) ∨ (d.kind = 8 ∧ m = .ack d.n0 d.n1 d.n2) ∨ (d.kind = 9 ∧ m = .ask d.n0 d.n1 d.n2 d.n3) ∨ (d.kind = 10 ∧ m = .told d.n0 d.n1 d.n2 d.n3) ∨ (d.kind = 11 ∧ m = .app d.n0 d.b) ∨ (d.kind = 12 ∧ m = .red d.n0 d.stream d.n1) ∨ (d.kind = 13 ∧ m = .rep d.n0 d.n1 d.n2 d.n3 d.n4 d.n5) ∨ (d.kind = 14 ∧ m = .res d.n0 d.n1 d.n2 d.events) := by
  unfold madeD at hm
  by_cases k1 : d.kind = 1
  · rw [if_pos k1] at hm
    exact .inl ⟨k1, (Option.some.inj hm).symm⟩
  rw [if_neg k1] at hm
  by_cases k2 : d.kind = 2
  · rw [if_pos k2] at hm
    exact .inr (.inl ⟨k2, (Option.some.inj hm).symm⟩)
  rw [if_neg k2] at hm
  by_cases k3 : d.kind = 3
  · rw [if_pos k3] at hm
    exact .inr (.inr (.inl ⟨k3, (Option.some.inj hm).symm⟩))
  rw [if_neg k3] at hm
  by_cases k4 : d.kind = 4
  · rw [if_pos k4] at hm
    exact .inr (.inr (.inr (.inl ⟨k4, (Option.some.inj hm).symm⟩)))
  rw [if_neg k4] at hm
  by_cases k5 : d.kind = 5
  · rw [if_pos k5] at hm
    exact .inr (.inr (.inr (.inr (.inl ⟨k5, (Option.some.inj hm).symm⟩))))
  rw [if_neg k5] at hm
  by_cases k6 : d.kind = 6
  · rw [if_pos k6] at hm
    exact .inr (.inr (.inr (.inr (.inr (.inl ⟨k6, (Option.some.inj hm).symm⟩)))))
  rw [if_neg k6] at hm
  by_cases k7 : d.kind = 7
  · rw [if_pos k7] at hm
    exact .inr (.inr (.inr (.inr (.inr (.inr (.inl ⟨k7, (Option.some.inj hm).symm⟩))))))
  rw [if_neg k7] at hm
  by_cases k8 : d.kind = 8
  · rw [if_pos k8] at hm
    exact .inr (.inr (.inr (.inr (.inr (.inr (.inr (.inl ⟨k8, (Option.some.inj hm).symm⟩)))))))
  rw [if_neg k8] at hm
  by_cases k9 : d.kind = 9
  · rw [if_pos k9] at hm
    exact .inr (.inr (.inr (.inr (.inr (.inr (.inr (.inr (.inl ⟨k9, (Option.some.inj hm).symm⟩))))))))
  rw [if_neg k9] at hm
  by_cases k10 : d.kind = 10
  · rw [if_pos k10] at hm
    exact .inr (.inr (.inr (.inr (.inr (.inr (.inr (.inr (.inr (.inl ⟨k10, (Option.some.inj hm).symm⟩)))))))))
  rw [if_neg k10] at hm
  by_cases k11 : d.kind = 11
  · rw [if_pos k11] at hm
    exact .inr (.inr (.inr (.inr (.inr (.inr (.inr (.inr (.inr (.inr (.inl ⟨k11, (Option.some.inj hm).symm⟩))))))))))
  rw [if_neg k11] at hm
  by_cases k12 : d.kind = 12
  · rw [if_pos k12] at hm
    exact .inr (.inr (.inr (.inr (.inr (.inr (.inr (.inr (.inr (.inr (.inr (.inl ⟨k12, (Option.some.inj hm).symm⟩)))))))))))
  rw [if_neg k12] at hm
  by_cases k13 : d.kind = 13
  · rw [if_pos k13] at hm
    exact .inr (.inr (.inr (.inr (.inr (.inr (.inr (.inr (.inr (.inr (.inr (.inr (.inl ⟨k13, (Option.some.inj hm).symm⟩))))))))))))
  rw [if_neg k13] at hm
  by_cases k14 : d.kind = 14
  · rw [if_pos k14] at hm
    exact .inr (.inr (.inr (.inr (.inr (.inr (.inr (.inr (.inr (.inr (.inr (.inr (.inr (⟨k14, (Option.some.inj hm).symm⟩)))))))))))))
  rw [if_neg k14] at hm
  cases hm
theorem made_light {d : DW} {m : Msg} (h : SmallD d) (hm : madeD d = some m) : LightM m := by
  have h1 := h.c
  have h2 := h.i
  have h3 := h.o
  have h4 := h.m
  have h5 := h.e
  have h6 := h.v
  have h7 := h.s
  rcases made_cases hm with ⟨-, rfl⟩ | ⟨-, rfl⟩ | ⟨-, rfl⟩ | ⟨-, rfl⟩ | ⟨-, rfl⟩ | ⟨-, rfl⟩ | ⟨-, rfl⟩ | ⟨-, rfl⟩ | ⟨-, rfl⟩ | ⟨-, rfl⟩ | ⟨-, rfl⟩ | ⟨-, rfl⟩ | ⟨-, rfl⟩ | ⟨-, rfl⟩ <;> simp only [LightM] <;> omega
theorem made_kind {d : DW} {m : Msg} (hm : madeD d = some m) : (m.kind : Int) = d.kind := by
  rcases made_cases hm with ⟨hk, rfl⟩ | ⟨hk, rfl⟩ | ⟨hk, rfl⟩ | ⟨hk, rfl⟩ | ⟨hk, rfl⟩ | ⟨hk, rfl⟩ | ⟨hk, rfl⟩ | ⟨hk, rfl⟩ | ⟨hk, rfl⟩ | ⟨hk, rfl⟩ | ⟨hk, rfl⟩ | ⟨hk, rfl⟩ | ⟨hk, rfl⟩ | ⟨hk, rfl⟩ <;> exact hk.symm
theorem made_nums {d : DW} {m : Msg} (hm : madeD d = some m) : m.nums.head? = some d.n0 := by
  rcases made_cases hm with ⟨-, rfl⟩ | ⟨-, rfl⟩ | ⟨-, rfl⟩ | ⟨-, rfl⟩ | ⟨-, rfl⟩ | ⟨-, rfl⟩ | ⟨-, rfl⟩ | ⟨-, rfl⟩ | ⟨-, rfl⟩ | ⟨-, rfl⟩ | ⟨-, rfl⟩ | ⟨-, rfl⟩ | ⟨-, rfl⟩ | ⟨-, rfl⟩ <;> rfl
theorem made_epoch {d : DW} {m : Msg} (hm : madeD d = some m) : epochM m = 0 ∨ epochM m = d.n0 ∨ epochM m = d.n1 := by
  unfold epochM
  by_cases h : rightM m = true
  · rw [if_pos h]
    rcases made_cases hm with ⟨-, rfl⟩ | ⟨-, rfl⟩ | ⟨-, rfl⟩ | ⟨-, rfl⟩ | ⟨-, rfl⟩ | ⟨-, rfl⟩ | ⟨-, rfl⟩ | ⟨-, rfl⟩ | ⟨-, rfl⟩ | ⟨-, rfl⟩ | ⟨-, rfl⟩ | ⟨-, rfl⟩ | ⟨-, rfl⟩ | ⟨-, rfl⟩ <;> first | exact .inl rfl | exact .inr (.inl rfl) | exact .inr (.inr rfl)
  · rw [if_neg h]
    exact .inl rfl
theorem not_epoch {m : Msg} (h : rightM m = false) : epochM m = 0 := by
  unfold epochM
  rw [if_neg (by rw [h]; decide)]
theorem iface_neq (T : TypeId) (p : Value) (W : World) : (binOp .neq 34 (.iface T p) .nilIface).run Tryz.prog W = .ok (.bool true) W := by kernel_rfl
theorem iface_eql (T : TypeId) (p : Value) (W : World) : (binOp .eql 34 (.iface T p) .nilIface).run Tryz.prog W = .ok (.bool false) W := by kernel_rfl
theorem nil_eql (W : World) : (binOp .eql 34 .nilIface .nilIface).run Tryz.prog W = .ok (.bool true) W := by kernel_rfl
theorem nil_neq (W : World) : (binOp .neq 34 .nilIface .nilIface).run Tryz.prog W = .ok (.bool false) W := by kernel_rfl
end Go.Proofs.YtflojipkgaocnaaGreatDoor
namespace Go.Proofs.YtflojipkgaocnaaGreatDoor
open Go.RowKit
set_option linter.unusedSimpArgs false
set_option linter.unusedVariables false

set_option maxRecDepth 100000 in
set_option maxHeartbeats 6400000 in
theorem flat_beat (B : Nat) (v : Value) (a b c : Int) (w : World) (h : IsMsg B w v (.beat a b c)) (hB : B ≤ w.heap.size) :
    Calls Tryz.prog 7 #[v] w fun r w' => GotFlat (flatM (.beat a b c)) w r w' := by
  have HK : HasKind v 1 := hasKind h
  obtain rfl := h
  obtain ⟨T, p, F, hv, hm, hcf, hc⟩ := HK
  injection hv with hv1 hv2
  subst hv1 hv2
  have HC := Lib.hid hc
  have qn : ∀ (W : World) (v : Value), (binOp .eql 34 (.iface 57 v) .nilIface).run Tryz.prog W = .ok (.bool false) W := fun W v => by kernel_rfl
  have a0 : ∀ (W : World) (v : Value), (Instr.typeAssert (.iface 57 v) 34 57 true).run Tryz.prog W = .ok (.tuple #[v, .bool true]) W := fun W v => by kernel_rfl
  have HG0 := Lib.hid (heap_alloc_new w (.cells #[.int .i64 0, .slice none 0 0, .slice none 0 0, .slice none 0 0, .slice none 0 0, .slice none 0 0, .slice none 0 0, .slice none 0 0, .string ⟨#[]⟩, .int .i64 0, .int .i64 0, .int .i64 0, .slice none 0 0, .string ⟨#[]⟩] 37))
  have HB0 := Lib.hid ((Below.refl w.heap.size w).alloc (Nat.le_refl _) (.cells #[.int .i64 0, .slice none 0 0, .slice none 0 0, .slice none 0 0, .slice none 0 0, .slice none 0 0, .slice none 0 0, .slice none 0 0, .string ⟨#[]⟩, .int .i64 0, .int .i64 0, .int .i64 0, .slice none 0 0, .string ⟨#[]⟩] 37))
  clear hc
  go_enter Tryz.func7, Tryz.ntmps7
  go_wp2_with fail
  refine (HC.out _).mono ?_
  rintro r w1 ⟨rfl, hb1⟩
  have HB1 := Lib.hid (bstep HB0.out hb1)
  have hg1 := (hb1.block w.heap.size (by simp only [World.size_alloc]; omega)).trans HG0.out
  have HG1 := Lib.hid hg1
  have hlt1 : w.heap.size < w1.heap.size := (Array.getElem?_eq_some_iff.1 hg1).1
  have z0 : w1.cell? ⟨w.heap.size, 0, none⟩ = some (.int .i64 0) := by rw [Lib.cell_of_heap hg1]; rfl
  have k0 : w1.frozen? ⟨w.heap.size, 0, none⟩ = false := Lib.frozen_of_heap hg1 0
  have z1 : w1.cell? ⟨w.heap.size, 1, none⟩ = some (.slice none 0 0) := by rw [Lib.cell_of_heap hg1]; rfl
  have k1 : w1.frozen? ⟨w.heap.size, 1, none⟩ = false := Lib.frozen_of_heap hg1 1
  have z2 : w1.cell? ⟨w.heap.size, 2, none⟩ = some (.slice none 0 0) := by rw [Lib.cell_of_heap hg1]; rfl
  have k2 : w1.frozen? ⟨w.heap.size, 2, none⟩ = false := Lib.frozen_of_heap hg1 2
  have z3 : w1.cell? ⟨w.heap.size, 3, none⟩ = some (.slice none 0 0) := by rw [Lib.cell_of_heap hg1]; rfl
  have k3 : w1.frozen? ⟨w.heap.size, 3, none⟩ = false := Lib.frozen_of_heap hg1 3
  have z4 : w1.cell? ⟨w.heap.size, 4, none⟩ = some (.slice none 0 0) := by rw [Lib.cell_of_heap hg1]; rfl
  have k4 : w1.frozen? ⟨w.heap.size, 4, none⟩ = false := Lib.frozen_of_heap hg1 4
  have z5 : w1.cell? ⟨w.heap.size, 5, none⟩ = some (.slice none 0 0) := by rw [Lib.cell_of_heap hg1]; rfl
  have k5 : w1.frozen? ⟨w.heap.size, 5, none⟩ = false := Lib.frozen_of_heap hg1 5
  have z6 : w1.cell? ⟨w.heap.size, 6, none⟩ = some (.slice none 0 0) := by rw [Lib.cell_of_heap hg1]; rfl
  have k6 : w1.frozen? ⟨w.heap.size, 6, none⟩ = false := Lib.frozen_of_heap hg1 6
  have z7 : w1.cell? ⟨w.heap.size, 7, none⟩ = some (.slice none 0 0) := by rw [Lib.cell_of_heap hg1]; rfl
  have k7 : w1.frozen? ⟨w.heap.size, 7, none⟩ = false := Lib.frozen_of_heap hg1 7
  have z8 : w1.cell? ⟨w.heap.size, 8, none⟩ = some (.string ⟨#[]⟩) := by rw [Lib.cell_of_heap hg1]; rfl
  have k8 : w1.frozen? ⟨w.heap.size, 8, none⟩ = false := Lib.frozen_of_heap hg1 8
  have z9 : w1.cell? ⟨w.heap.size, 9, none⟩ = some (.int .i64 0) := by rw [Lib.cell_of_heap hg1]; rfl
  have k9 : w1.frozen? ⟨w.heap.size, 9, none⟩ = false := Lib.frozen_of_heap hg1 9
  have z10 : w1.cell? ⟨w.heap.size, 10, none⟩ = some (.int .i64 0) := by rw [Lib.cell_of_heap hg1]; rfl
  have k10 : w1.frozen? ⟨w.heap.size, 10, none⟩ = false := Lib.frozen_of_heap hg1 10
  have z11 : w1.cell? ⟨w.heap.size, 11, none⟩ = some (.int .i64 0) := by rw [Lib.cell_of_heap hg1]; rfl
  have k11 : w1.frozen? ⟨w.heap.size, 11, none⟩ = false := Lib.frozen_of_heap hg1 11
  have z12 : w1.cell? ⟨w.heap.size, 12, none⟩ = some (.slice none 0 0) := by rw [Lib.cell_of_heap hg1]; rfl
  have k12 : w1.frozen? ⟨w.heap.size, 12, none⟩ = false := Lib.frozen_of_heap hg1 12
  have z13 : w1.cell? ⟨w.heap.size, 13, none⟩ = some (.string ⟨#[]⟩) := by rw [Lib.cell_of_heap hg1]; rfl
  have k13 : w1.frozen? ⟨w.heap.size, 13, none⟩ = false := Lib.frozen_of_heap hg1 13
  have n1 : w.heap.size < w1.heap.size + 1 := by omega
  have n2 : w.heap.size < w1.heap.size + 1 + 1 := by omega
  clear hb1 hg1
  go_wp2_with fail
  (try simp only [Exit.inBlock, Exit.then])
  refine bodyPost_ret (ret_cell1 (t := 37) (fr := (0, 0)) rfl _ _ w.heap.size #[.int .i64 1, .slice (some ⟨w1.heap.size + 1 + 1, 0, none⟩) 3 3, .slice none 0 0, .slice none 0 0, .slice none 0 0, .slice none 0 0, .slice none 0 0, .slice none 0 0, .string ⟨#[]⟩, .int .i64 0, .int .i64 0, .int .i64 0, .slice none 0 0, .string ⟨#[]⟩] _ (by rfl) ?hg Tryz.underlying37 rfl fsize) rfl ?_
  case hg =>
    rw [heap_alloc_old _ _ (by simp only [World.size_alloc, World.size_setCell]; omega), heap_alloc_old _ _ (by simp only [World.size_alloc, World.size_setCell]; omega), heap_alloc_old _ _ (by simp only [World.size_alloc, World.size_setCell]; omega)]
    exact blk_set14 HG1.out (.int .i64 1) (.slice (some ⟨w1.heap.size + 1 + 1, 0, none⟩) 3 3) (.slice none 0 0) (.slice none 0 0) (.slice none 0 0) (.slice none 0 0) (.slice none 0 0) (.slice none 0 0) (.string ⟨#[]⟩) (.int .i64 0) (.int .i64 0) (.int .i64 0) (.slice none 0 0) (.string ⟨#[]⟩)
  have HBW := (((below_set14 HB1.out (Nat.le_refl _) (.int .i64 1) (.slice (some ⟨w1.heap.size + 1 + 1, 0, none⟩) 3 3) (.slice none 0 0) (.slice none 0 0) (.slice none 0 0) (.slice none 0 0) (.slice none 0 0) (.slice none 0 0) (.string ⟨#[]⟩) (.int .i64 0) (.int .i64 0) (.int .i64 0) (.slice none 0 0) (.string ⟨#[]⟩)).alloc (by simp only [World.size_setCell]; omega) (.cells #[.int .i64 1, .slice (some ⟨w1.heap.size + 1 + 1, 0, none⟩) 3 3, .slice none 0 0, .slice none 0 0, .slice none 0 0, .slice none 0 0, .slice none 0 0, .slice none 0 0, .string ⟨#[]⟩, .int .i64 0, .int .i64 0, .int .i64 0, .slice none 0 0, .string ⟨#[]⟩] 37)).alloc (by simp only [World.size_alloc, World.size_setCell]; omega) (.cells #[.int .i64 a, .int .i64 b, .int .i64 c] 57)).alloc (by simp only [World.size_alloc, World.size_setCell]; omega) (.cells #[.int .i64 a, .int .i64 b, .int .i64 c] 3)
  exact ⟨_, rfl, ⟨_, _, _, _, _, _, _, _, rfl, row_block [a, b, c] _ _ _ (by unfold maxLen; simp only [List.length_cons, List.length_nil]; omega) _ (by simp only [World.size_alloc, World.size_setCell]), row_nil _ _, row_nil _ _, row_nil _ _, row_nil _ _, entries_nil _ _, events_nil _ _, events_nil _ _⟩, HBW⟩

set_option maxRecDepth 100000 in
set_option maxHeartbeats 6400000 in
theorem flat_join (B : Nat) (v : Value) (a b : Int) (w : World) (h : IsMsg B w v (.join a b)) (hB : B ≤ w.heap.size) :
    Calls Tryz.prog 7 #[v] w fun r w' => GotFlat (flatM (.join a b)) w r w' := by
  have HK : HasKind v 2 := hasKind h
  obtain rfl := h
  obtain ⟨T, p, F, hv, hm, hcf, hc⟩ := HK
  injection hv with hv1 hv2
  subst hv1 hv2
  have HC := Lib.hid hc
  have qn : ∀ (W : World) (v : Value), (binOp .eql 34 (.iface 59 v) .nilIface).run Tryz.prog W = .ok (.bool false) W := fun W v => by kernel_rfl
  have a0 : ∀ (W : World) (v : Value), (Instr.typeAssert (.iface 59 v) 34 57 true).run Tryz.prog W = .ok (.tuple #[(.agg #[.int .i64 0, .int .i64 0, .int .i64 0]), .bool false]) W := fun W v => by kernel_rfl
  have a1 : ∀ (W : World) (v : Value), (Instr.typeAssert (.iface 59 v) 34 59 true).run Tryz.prog W = .ok (.tuple #[v, .bool true]) W := fun W v => by kernel_rfl
  have HG0 := Lib.hid (heap_alloc_new w (.cells #[.int .i64 0, .slice none 0 0, .slice none 0 0, .slice none 0 0, .slice none 0 0, .slice none 0 0, .slice none 0 0, .slice none 0 0, .string ⟨#[]⟩, .int .i64 0, .int .i64 0, .int .i64 0, .slice none 0 0, .string ⟨#[]⟩] 37))
  have HB0 := Lib.hid ((Below.refl w.heap.size w).alloc (Nat.le_refl _) (.cells #[.int .i64 0, .slice none 0 0, .slice none 0 0, .slice none 0 0, .slice none 0 0, .slice none 0 0, .slice none 0 0, .slice none 0 0, .string ⟨#[]⟩, .int .i64 0, .int .i64 0, .int .i64 0, .slice none 0 0, .string ⟨#[]⟩] 37))
  clear hc
  go_enter Tryz.func7, Tryz.ntmps7
  go_wp2_with fail
  refine (HC.out _).mono ?_
  rintro r w1 ⟨rfl, hb1⟩
  have HB1 := Lib.hid (bstep HB0.out hb1)
  have hg1 := (hb1.block w.heap.size (by simp only [World.size_alloc]; omega)).trans HG0.out
  have HG1 := Lib.hid hg1
  have hlt1 : w.heap.size < w1.heap.size := (Array.getElem?_eq_some_iff.1 hg1).1
  have z0 : w1.cell? ⟨w.heap.size, 0, none⟩ = some (.int .i64 0) := by rw [Lib.cell_of_heap hg1]; rfl
  have k0 : w1.frozen? ⟨w.heap.size, 0, none⟩ = false := Lib.frozen_of_heap hg1 0
  have z1 : w1.cell? ⟨w.heap.size, 1, none⟩ = some (.slice none 0 0) := by rw [Lib.cell_of_heap hg1]; rfl
  have k1 : w1.frozen? ⟨w.heap.size, 1, none⟩ = false := Lib.frozen_of_heap hg1 1
  have z2 : w1.cell? ⟨w.heap.size, 2, none⟩ = some (.slice none 0 0) := by rw [Lib.cell_of_heap hg1]; rfl
  have k2 : w1.frozen? ⟨w.heap.size, 2, none⟩ = false := Lib.frozen_of_heap hg1 2
  have z3 : w1.cell? ⟨w.heap.size, 3, none⟩ = some (.slice none 0 0) := by rw [Lib.cell_of_heap hg1]; rfl
  have k3 : w1.frozen? ⟨w.heap.size, 3, none⟩ = false := Lib.frozen_of_heap hg1 3
  have z4 : w1.cell? ⟨w.heap.size, 4, none⟩ = some (.slice none 0 0) := by rw [Lib.cell_of_heap hg1]; rfl
  have k4 : w1.frozen? ⟨w.heap.size, 4, none⟩ = false := Lib.frozen_of_heap hg1 4
  have z5 : w1.cell? ⟨w.heap.size, 5, none⟩ = some (.slice none 0 0) := by rw [Lib.cell_of_heap hg1]; rfl
  have k5 : w1.frozen? ⟨w.heap.size, 5, none⟩ = false := Lib.frozen_of_heap hg1 5
  have z6 : w1.cell? ⟨w.heap.size, 6, none⟩ = some (.slice none 0 0) := by rw [Lib.cell_of_heap hg1]; rfl
  have k6 : w1.frozen? ⟨w.heap.size, 6, none⟩ = false := Lib.frozen_of_heap hg1 6
  have z7 : w1.cell? ⟨w.heap.size, 7, none⟩ = some (.slice none 0 0) := by rw [Lib.cell_of_heap hg1]; rfl
  have k7 : w1.frozen? ⟨w.heap.size, 7, none⟩ = false := Lib.frozen_of_heap hg1 7
  have z8 : w1.cell? ⟨w.heap.size, 8, none⟩ = some (.string ⟨#[]⟩) := by rw [Lib.cell_of_heap hg1]; rfl
  have k8 : w1.frozen? ⟨w.heap.size, 8, none⟩ = false := Lib.frozen_of_heap hg1 8
  have z9 : w1.cell? ⟨w.heap.size, 9, none⟩ = some (.int .i64 0) := by rw [Lib.cell_of_heap hg1]; rfl
  have k9 : w1.frozen? ⟨w.heap.size, 9, none⟩ = false := Lib.frozen_of_heap hg1 9
  have z10 : w1.cell? ⟨w.heap.size, 10, none⟩ = some (.int .i64 0) := by rw [Lib.cell_of_heap hg1]; rfl
  have k10 : w1.frozen? ⟨w.heap.size, 10, none⟩ = false := Lib.frozen_of_heap hg1 10
  have z11 : w1.cell? ⟨w.heap.size, 11, none⟩ = some (.int .i64 0) := by rw [Lib.cell_of_heap hg1]; rfl
  have k11 : w1.frozen? ⟨w.heap.size, 11, none⟩ = false := Lib.frozen_of_heap hg1 11
  have z12 : w1.cell? ⟨w.heap.size, 12, none⟩ = some (.slice none 0 0) := by rw [Lib.cell_of_heap hg1]; rfl
  have k12 : w1.frozen? ⟨w.heap.size, 12, none⟩ = false := Lib.frozen_of_heap hg1 12
  have z13 : w1.cell? ⟨w.heap.size, 13, none⟩ = some (.string ⟨#[]⟩) := by rw [Lib.cell_of_heap hg1]; rfl
  have k13 : w1.frozen? ⟨w.heap.size, 13, none⟩ = false := Lib.frozen_of_heap hg1 13
  have n1 : w.heap.size < w1.heap.size + 1 := by omega
  have n2 : w.heap.size < w1.heap.size + 1 + 1 := by omega
  clear hb1 hg1
  go_wp2_with fail
  (try simp only [Exit.inBlock, Exit.then])
  refine bodyPost_ret (ret_cell1 (t := 37) (fr := (0, 0)) rfl _ _ w.heap.size #[.int .i64 2, .slice (some ⟨w1.heap.size + 1 + 1, 0, none⟩) 2 2, .slice none 0 0, .slice none 0 0, .slice none 0 0, .slice none 0 0, .slice none 0 0, .slice none 0 0, .string ⟨#[]⟩, .int .i64 0, .int .i64 0, .int .i64 0, .slice none 0 0, .string ⟨#[]⟩] _ (by rfl) ?hg Tryz.underlying37 rfl fsize) rfl ?_
  case hg =>
    rw [heap_alloc_old _ _ (by simp only [World.size_alloc, World.size_setCell]; omega), heap_alloc_old _ _ (by simp only [World.size_alloc, World.size_setCell]; omega), heap_alloc_old _ _ (by simp only [World.size_alloc, World.size_setCell]; omega)]
    exact blk_set14 HG1.out (.int .i64 2) (.slice (some ⟨w1.heap.size + 1 + 1, 0, none⟩) 2 2) (.slice none 0 0) (.slice none 0 0) (.slice none 0 0) (.slice none 0 0) (.slice none 0 0) (.slice none 0 0) (.string ⟨#[]⟩) (.int .i64 0) (.int .i64 0) (.int .i64 0) (.slice none 0 0) (.string ⟨#[]⟩)
  have HBW := (((below_set14 HB1.out (Nat.le_refl _) (.int .i64 2) (.slice (some ⟨w1.heap.size + 1 + 1, 0, none⟩) 2 2) (.slice none 0 0) (.slice none 0 0) (.slice none 0 0) (.slice none 0 0) (.slice none 0 0) (.slice none 0 0) (.string ⟨#[]⟩) (.int .i64 0) (.int .i64 0) (.int .i64 0) (.slice none 0 0) (.string ⟨#[]⟩)).alloc (by simp only [World.size_setCell]; omega) (.cells #[.int .i64 2, .slice (some ⟨w1.heap.size + 1 + 1, 0, none⟩) 2 2, .slice none 0 0, .slice none 0 0, .slice none 0 0, .slice none 0 0, .slice none 0 0, .slice none 0 0, .string ⟨#[]⟩, .int .i64 0, .int .i64 0, .int .i64 0, .slice none 0 0, .string ⟨#[]⟩] 37)).alloc (by simp only [World.size_alloc, World.size_setCell]; omega) (.cells #[.int .i64 a, .int .i64 b] 59)).alloc (by simp only [World.size_alloc, World.size_setCell]; omega) (.cells #[.int .i64 a, .int .i64 b] 3)
  exact ⟨_, rfl, ⟨_, _, _, _, _, _, _, _, rfl, row_block [a, b] _ _ _ (by unfold maxLen; simp only [List.length_cons, List.length_nil]; omega) _ (by simp only [World.size_alloc, World.size_setCell]), row_nil _ _, row_nil _ _, row_nil _ _, row_nil _ _, entries_nil _ _, events_nil _ _, events_nil _ _⟩, HBW⟩

set_option maxRecDepth 100000 in
set_option maxHeartbeats 6400000 in
theorem flat_lease (B : Nat) (v : Value) (a b : Int) (w : World) (h : IsMsg B w v (.lease a b)) (hB : B ≤ w.heap.size) :
    Calls Tryz.prog 7 #[v] w fun r w' => GotFlat (flatM (.lease a b)) w r w' := by
  have HK : HasKind v 3 := hasKind h
  obtain rfl := h
  obtain ⟨T, p, F, hv, hm, hcf, hc⟩ := HK
  injection hv with hv1 hv2
  subst hv1 hv2
  have HC := Lib.hid hc
  have qn : ∀ (W : World) (v : Value), (binOp .eql 34 (.iface 61 v) .nilIface).run Tryz.prog W = .ok (.bool false) W := fun W v => by kernel_rfl
  have a0 : ∀ (W : World) (v : Value), (Instr.typeAssert (.iface 61 v) 34 57 true).run Tryz.prog W = .ok (.tuple #[(.agg #[.int .i64 0, .int .i64 0, .int .i64 0]), .bool false]) W := fun W v => by kernel_rfl
  have a1 : ∀ (W : World) (v : Value), (Instr.typeAssert (.iface 61 v) 34 59 true).run Tryz.prog W = .ok (.tuple #[(.agg #[.int .i64 0, .int .i64 0]), .bool false]) W := fun W v => by kernel_rfl
  have a2 : ∀ (W : World) (v : Value), (Instr.typeAssert (.iface 61 v) 34 61 true).run Tryz.prog W = .ok (.tuple #[v, .bool true]) W := fun W v => by kernel_rfl
  have HG0 := Lib.hid (heap_alloc_new w (.cells #[.int .i64 0, .slice none 0 0, .slice none 0 0, .slice none 0 0, .slice none 0 0, .slice none 0 0, .slice none 0 0, .slice none 0 0, .string ⟨#[]⟩, .int .i64 0, .int .i64 0, .int .i64 0, .slice none 0 0, .string ⟨#[]⟩] 37))
  have HB0 := Lib.hid ((Below.refl w.heap.size w).alloc (Nat.le_refl _) (.cells #[.int .i64 0, .slice none 0 0, .slice none 0 0, .slice none 0 0, .slice none 0 0, .slice none 0 0, .slice none 0 0, .slice none 0 0, .string ⟨#[]⟩, .int .i64 0, .int .i64 0, .int .i64 0, .slice none 0 0, .string ⟨#[]⟩] 37))
  clear hc
  go_enter Tryz.func7, Tryz.ntmps7
  go_wp2_with fail
  refine (HC.out _).mono ?_
  rintro r w1 ⟨rfl, hb1⟩
  have HB1 := Lib.hid (bstep HB0.out hb1)
  have hg1 := (hb1.block w.heap.size (by simp only [World.size_alloc]; omega)).trans HG0.out
  have HG1 := Lib.hid hg1
  have hlt1 : w.heap.size < w1.heap.size := (Array.getElem?_eq_some_iff.1 hg1).1
  have z0 : w1.cell? ⟨w.heap.size, 0, none⟩ = some (.int .i64 0) := by rw [Lib.cell_of_heap hg1]; rfl
  have k0 : w1.frozen? ⟨w.heap.size, 0, none⟩ = false := Lib.frozen_of_heap hg1 0
  have z1 : w1.cell? ⟨w.heap.size, 1, none⟩ = some (.slice none 0 0) := by rw [Lib.cell_of_heap hg1]; rfl
  have k1 : w1.frozen? ⟨w.heap.size, 1, none⟩ = false := Lib.frozen_of_heap hg1 1
  have z2 : w1.cell? ⟨w.heap.size, 2, none⟩ = some (.slice none 0 0) := by rw [Lib.cell_of_heap hg1]; rfl
  have k2 : w1.frozen? ⟨w.heap.size, 2, none⟩ = false := Lib.frozen_of_heap hg1 2
  have z3 : w1.cell? ⟨w.heap.size, 3, none⟩ = some (.slice none 0 0) := by rw [Lib.cell_of_heap hg1]; rfl
  have k3 : w1.frozen? ⟨w.heap.size, 3, none⟩ = false := Lib.frozen_of_heap hg1 3
  have z4 : w1.cell? ⟨w.heap.size, 4, none⟩ = some (.slice none 0 0) := by rw [Lib.cell_of_heap hg1]; rfl
  have k4 : w1.frozen? ⟨w.heap.size, 4, none⟩ = false := Lib.frozen_of_heap hg1 4
  have z5 : w1.cell? ⟨w.heap.size, 5, none⟩ = some (.slice none 0 0) := by rw [Lib.cell_of_heap hg1]; rfl
  have k5 : w1.frozen? ⟨w.heap.size, 5, none⟩ = false := Lib.frozen_of_heap hg1 5
  have z6 : w1.cell? ⟨w.heap.size, 6, none⟩ = some (.slice none 0 0) := by rw [Lib.cell_of_heap hg1]; rfl
  have k6 : w1.frozen? ⟨w.heap.size, 6, none⟩ = false := Lib.frozen_of_heap hg1 6
  have z7 : w1.cell? ⟨w.heap.size, 7, none⟩ = some (.slice none 0 0) := by rw [Lib.cell_of_heap hg1]; rfl
  have k7 : w1.frozen? ⟨w.heap.size, 7, none⟩ = false := Lib.frozen_of_heap hg1 7
  have z8 : w1.cell? ⟨w.heap.size, 8, none⟩ = some (.string ⟨#[]⟩) := by rw [Lib.cell_of_heap hg1]; rfl
  have k8 : w1.frozen? ⟨w.heap.size, 8, none⟩ = false := Lib.frozen_of_heap hg1 8
  have z9 : w1.cell? ⟨w.heap.size, 9, none⟩ = some (.int .i64 0) := by rw [Lib.cell_of_heap hg1]; rfl
  have k9 : w1.frozen? ⟨w.heap.size, 9, none⟩ = false := Lib.frozen_of_heap hg1 9
  have z10 : w1.cell? ⟨w.heap.size, 10, none⟩ = some (.int .i64 0) := by rw [Lib.cell_of_heap hg1]; rfl
  have k10 : w1.frozen? ⟨w.heap.size, 10, none⟩ = false := Lib.frozen_of_heap hg1 10
  have z11 : w1.cell? ⟨w.heap.size, 11, none⟩ = some (.int .i64 0) := by rw [Lib.cell_of_heap hg1]; rfl
  have k11 : w1.frozen? ⟨w.heap.size, 11, none⟩ = false := Lib.frozen_of_heap hg1 11
  have z12 : w1.cell? ⟨w.heap.size, 12, none⟩ = some (.slice none 0 0) := by rw [Lib.cell_of_heap hg1]; rfl
  have k12 : w1.frozen? ⟨w.heap.size, 12, none⟩ = false := Lib.frozen_of_heap hg1 12
  have z13 : w1.cell? ⟨w.heap.size, 13, none⟩ = some (.string ⟨#[]⟩) := by rw [Lib.cell_of_heap hg1]; rfl
  have k13 : w1.frozen? ⟨w.heap.size, 13, none⟩ = false := Lib.frozen_of_heap hg1 13
  have n1 : w.heap.size < w1.heap.size + 1 := by omega
  have n2 : w.heap.size < w1.heap.size + 1 + 1 := by omega
  clear hb1 hg1
  go_wp2_with fail
  (try simp only [Exit.inBlock, Exit.then])
  refine bodyPost_ret (ret_cell1 (t := 37) (fr := (0, 0)) rfl _ _ w.heap.size #[.int .i64 3, .slice (some ⟨w1.heap.size + 1 + 1, 0, none⟩) 2 2, .slice none 0 0, .slice none 0 0, .slice none 0 0, .slice none 0 0, .slice none 0 0, .slice none 0 0, .string ⟨#[]⟩, .int .i64 0, .int .i64 0, .int .i64 0, .slice none 0 0, .string ⟨#[]⟩] _ (by rfl) ?hg Tryz.underlying37 rfl fsize) rfl ?_
  case hg =>
    rw [heap_alloc_old _ _ (by simp only [World.size_alloc, World.size_setCell]; omega), heap_alloc_old _ _ (by simp only [World.size_alloc, World.size_setCell]; omega), heap_alloc_old _ _ (by simp only [World.size_alloc, World.size_setCell]; omega)]
    exact blk_set14 HG1.out (.int .i64 3) (.slice (some ⟨w1.heap.size + 1 + 1, 0, none⟩) 2 2) (.slice none 0 0) (.slice none 0 0) (.slice none 0 0) (.slice none 0 0) (.slice none 0 0) (.slice none 0 0) (.string ⟨#[]⟩) (.int .i64 0) (.int .i64 0) (.int .i64 0) (.slice none 0 0) (.string ⟨#[]⟩)
  have HBW := (((below_set14 HB1.out (Nat.le_refl _) (.int .i64 3) (.slice (some ⟨w1.heap.size + 1 + 1, 0, none⟩) 2 2) (.slice none 0 0) (.slice none 0 0) (.slice none 0 0) (.slice none 0 0) (.slice none 0 0) (.slice none 0 0) (.string ⟨#[]⟩) (.int .i64 0) (.int .i64 0) (.int .i64 0) (.slice none 0 0) (.string ⟨#[]⟩)).alloc (by simp only [World.size_setCell]; omega) (.cells #[.int .i64 3, .slice (some ⟨w1.heap.size + 1 + 1, 0, none⟩) 2 2, .slice none 0 0, .slice none 0 0, .slice none 0 0, .slice none 0 0, .slice none 0 0, .slice none 0 0, .string ⟨#[]⟩, .int .i64 0, .int .i64 0, .int .i64 0, .slice none 0 0, .string ⟨#[]⟩] 37)).alloc (by simp only [World.size_alloc, World.size_setCell]; omega) (.cells #[.int .i64 a, .int .i64 b] 61)).alloc (by simp only [World.size_alloc, World.size_setCell]; omega) (.cells #[.int .i64 a, .int .i64 b] 3)
  exact ⟨_, rfl, ⟨_, _, _, _, _, _, _, _, rfl, row_block [a, b] _ _ _ (by unfold maxLen; simp only [List.length_cons, List.length_nil]; omega) _ (by simp only [World.size_alloc, World.size_setCell]), row_nil _ _, row_nil _ _, row_nil _ _, row_nil _ _, entries_nil _ _, events_nil _ _, events_nil _ _⟩, HBW⟩

set_option maxRecDepth 100000 in
set_option maxHeartbeats 6400000 in
theorem flat_view (B : Nat) (v : Value) (a : Int) (c s b : List Int) (w : World) (h : IsMsg B w v (.view a c s b)) (hB : B ≤ w.heap.size) :
    Calls Tryz.prog 7 #[v] w fun r w' => GotFlat (flatM (.view a c s b)) w r w' := by
  have HK : HasKind v 4 := hasKind h
  obtain ⟨cv, sv, bv, rfl, i1, i2, i3⟩ := h
  obtain ⟨p1, q1, rfl⟩ := i1.form
  obtain ⟨p2, q2, rfl⟩ := i2.form
  obtain ⟨p3, q3, rfl⟩ := i3.form
  have I1 := Lib.hid i1
  have I2 := Lib.hid i2
  have I3 := Lib.hid i3
  clear i1 i2 i3
  obtain ⟨T, p, F, hv, hm, hcf, hc⟩ := HK
  injection hv with hv1 hv2
  subst hv1 hv2
  have HC := Lib.hid hc
  have qn : ∀ (W : World) (v : Value), (binOp .eql 34 (.iface 63 v) .nilIface).run Tryz.prog W = .ok (.bool false) W := fun W v => by kernel_rfl
  have a0 : ∀ (W : World) (v : Value), (Instr.typeAssert (.iface 63 v) 34 57 true).run Tryz.prog W = .ok (.tuple #[(.agg #[.int .i64 0, .int .i64 0, .int .i64 0]), .bool false]) W := fun W v => by kernel_rfl
  have a1 : ∀ (W : World) (v : Value), (Instr.typeAssert (.iface 63 v) 34 59 true).run Tryz.prog W = .ok (.tuple #[(.agg #[.int .i64 0, .int .i64 0]), .bool false]) W := fun W v => by kernel_rfl
  have a2 : ∀ (W : World) (v : Value), (Instr.typeAssert (.iface 63 v) 34 61 true).run Tryz.prog W = .ok (.tuple #[(.agg #[.int .i64 0, .int .i64 0]), .bool false]) W := fun W v => by kernel_rfl
  have a3 : ∀ (W : World) (v : Value), (Instr.typeAssert (.iface 63 v) 34 63 true).run Tryz.prog W = .ok (.tuple #[v, .bool true]) W := fun W v => by kernel_rfl
  have HG0 := Lib.hid (heap_alloc_new w (.cells #[.int .i64 0, .slice none 0 0, .slice none 0 0, .slice none 0 0, .slice none 0 0, .slice none 0 0, .slice none 0 0, .slice none 0 0, .string ⟨#[]⟩, .int .i64 0, .int .i64 0, .int .i64 0, .slice none 0 0, .string ⟨#[]⟩] 37))
  have HB0 := Lib.hid ((Below.refl w.heap.size w).alloc (Nat.le_refl _) (.cells #[.int .i64 0, .slice none 0 0, .slice none 0 0, .slice none 0 0, .slice none 0 0, .slice none 0 0, .slice none 0 0, .slice none 0 0, .string ⟨#[]⟩, .int .i64 0, .int .i64 0, .int .i64 0, .slice none 0 0, .string ⟨#[]⟩] 37))
  clear hc
  go_enter Tryz.func7, Tryz.ntmps7
  go_wp2_with fail
  refine (HC.out _).mono ?_
  rintro r w1 ⟨rfl, hb1⟩
  have HB1 := Lib.hid (bstep HB0.out hb1)
  have hg1 := (hb1.block w.heap.size (by simp only [World.size_alloc]; omega)).trans HG0.out
  have HG1 := Lib.hid hg1
  have hlt1 : w.heap.size < w1.heap.size := (Array.getElem?_eq_some_iff.1 hg1).1
  have z0 : w1.cell? ⟨w.heap.size, 0, none⟩ = some (.int .i64 0) := by rw [Lib.cell_of_heap hg1]; rfl
  have k0 : w1.frozen? ⟨w.heap.size, 0, none⟩ = false := Lib.frozen_of_heap hg1 0
  have z1 : w1.cell? ⟨w.heap.size, 1, none⟩ = some (.slice none 0 0) := by rw [Lib.cell_of_heap hg1]; rfl
  have k1 : w1.frozen? ⟨w.heap.size, 1, none⟩ = false := Lib.frozen_of_heap hg1 1
  have z2 : w1.cell? ⟨w.heap.size, 2, none⟩ = some (.slice none 0 0) := by rw [Lib.cell_of_heap hg1]; rfl
  have k2 : w1.frozen? ⟨w.heap.size, 2, none⟩ = false := Lib.frozen_of_heap hg1 2
  have z3 : w1.cell? ⟨w.heap.size, 3, none⟩ = some (.slice none 0 0) := by rw [Lib.cell_of_heap hg1]; rfl
  have k3 : w1.frozen? ⟨w.heap.size, 3, none⟩ = false := Lib.frozen_of_heap hg1 3
  have z4 : w1.cell? ⟨w.heap.size, 4, none⟩ = some (.slice none 0 0) := by rw [Lib.cell_of_heap hg1]; rfl
  have k4 : w1.frozen? ⟨w.heap.size, 4, none⟩ = false := Lib.frozen_of_heap hg1 4
  have z5 : w1.cell? ⟨w.heap.size, 5, none⟩ = some (.slice none 0 0) := by rw [Lib.cell_of_heap hg1]; rfl
  have k5 : w1.frozen? ⟨w.heap.size, 5, none⟩ = false := Lib.frozen_of_heap hg1 5
  have z6 : w1.cell? ⟨w.heap.size, 6, none⟩ = some (.slice none 0 0) := by rw [Lib.cell_of_heap hg1]; rfl
  have k6 : w1.frozen? ⟨w.heap.size, 6, none⟩ = false := Lib.frozen_of_heap hg1 6
  have z7 : w1.cell? ⟨w.heap.size, 7, none⟩ = some (.slice none 0 0) := by rw [Lib.cell_of_heap hg1]; rfl
  have k7 : w1.frozen? ⟨w.heap.size, 7, none⟩ = false := Lib.frozen_of_heap hg1 7
  have z8 : w1.cell? ⟨w.heap.size, 8, none⟩ = some (.string ⟨#[]⟩) := by rw [Lib.cell_of_heap hg1]; rfl
  have k8 : w1.frozen? ⟨w.heap.size, 8, none⟩ = false := Lib.frozen_of_heap hg1 8
  have z9 : w1.cell? ⟨w.heap.size, 9, none⟩ = some (.int .i64 0) := by rw [Lib.cell_of_heap hg1]; rfl
  have k9 : w1.frozen? ⟨w.heap.size, 9, none⟩ = false := Lib.frozen_of_heap hg1 9
  have z10 : w1.cell? ⟨w.heap.size, 10, none⟩ = some (.int .i64 0) := by rw [Lib.cell_of_heap hg1]; rfl
  have k10 : w1.frozen? ⟨w.heap.size, 10, none⟩ = false := Lib.frozen_of_heap hg1 10
  have z11 : w1.cell? ⟨w.heap.size, 11, none⟩ = some (.int .i64 0) := by rw [Lib.cell_of_heap hg1]; rfl
  have k11 : w1.frozen? ⟨w.heap.size, 11, none⟩ = false := Lib.frozen_of_heap hg1 11
  have z12 : w1.cell? ⟨w.heap.size, 12, none⟩ = some (.slice none 0 0) := by rw [Lib.cell_of_heap hg1]; rfl
  have k12 : w1.frozen? ⟨w.heap.size, 12, none⟩ = false := Lib.frozen_of_heap hg1 12
  have z13 : w1.cell? ⟨w.heap.size, 13, none⟩ = some (.string ⟨#[]⟩) := by rw [Lib.cell_of_heap hg1]; rfl
  have k13 : w1.frozen? ⟨w.heap.size, 13, none⟩ = false := Lib.frozen_of_heap hg1 13
  have n1 : w.heap.size < w1.heap.size + 1 := by omega
  have n2 : w.heap.size < w1.heap.size + 1 + 1 := by omega
  clear hb1 hg1
  go_wp2_with fail
  (try simp only [Exit.inBlock, Exit.then])
  refine bodyPost_ret (ret_cell1 (t := 37) (fr := (0, 0)) rfl _ _ w.heap.size #[.int .i64 4, .slice (some ⟨w1.heap.size + 1 + 1, 0, none⟩) 1 1, .slice p1 c.length q1, .slice p2 s.length q2, .slice p3 b.length q3, .slice none 0 0, .slice none 0 0, .slice none 0 0, .string ⟨#[]⟩, .int .i64 0, .int .i64 0, .int .i64 0, .slice none 0 0, .string ⟨#[]⟩] _ (by rfl) ?hg Tryz.underlying37 rfl fsize) rfl ?_
  case hg =>
    rw [heap_alloc_old _ _ (by simp only [World.size_alloc, World.size_setCell]; omega), heap_alloc_old _ _ (by simp only [World.size_alloc, World.size_setCell]; omega), heap_alloc_old _ _ (by simp only [World.size_alloc, World.size_setCell]; omega)]
    exact blk_set14 HG1.out (.int .i64 4) (.slice (some ⟨w1.heap.size + 1 + 1, 0, none⟩) 1 1) (.slice p1 c.length q1) (.slice p2 s.length q2) (.slice p3 b.length q3) (.slice none 0 0) (.slice none 0 0) (.slice none 0 0) (.string ⟨#[]⟩) (.int .i64 0) (.int .i64 0) (.int .i64 0) (.slice none 0 0) (.string ⟨#[]⟩)
  have HBW := (((below_set14 HB1.out (Nat.le_refl _) (.int .i64 4) (.slice (some ⟨w1.heap.size + 1 + 1, 0, none⟩) 1 1) (.slice p1 c.length q1) (.slice p2 s.length q2) (.slice p3 b.length q3) (.slice none 0 0) (.slice none 0 0) (.slice none 0 0) (.string ⟨#[]⟩) (.int .i64 0) (.int .i64 0) (.int .i64 0) (.slice none 0 0) (.string ⟨#[]⟩)).alloc (by simp only [World.size_setCell]; omega) (.cells #[.int .i64 4, .slice (some ⟨w1.heap.size + 1 + 1, 0, none⟩) 1 1, .slice p1 c.length q1, .slice p2 s.length q2, .slice p3 b.length q3, .slice none 0 0, .slice none 0 0, .slice none 0 0, .string ⟨#[]⟩, .int .i64 0, .int .i64 0, .int .i64 0, .slice none 0 0, .string ⟨#[]⟩] 37)).alloc (by simp only [World.size_alloc, World.size_setCell]; omega) (.cells #[.int .i64 a, .slice p1 c.length q1, .slice p2 s.length q2, .slice p3 b.length q3] 63)).alloc (by simp only [World.size_alloc, World.size_setCell]; omega) (.cells #[.int .i64 a] 3)
  exact ⟨_, rfl, ⟨_, _, _, _, _, _, _, _, rfl, row_block [a] _ _ _ (by unfold maxLen; simp only [List.length_cons, List.length_nil]; omega) _ (by simp only [World.size_alloc, World.size_setCell]), ((I1.out.keep HBW hB).up (Nat.le_trans hB HBW.size)), ((I2.out.keep HBW hB).up (Nat.le_trans hB HBW.size)), ((I3.out.keep HBW hB).up (Nat.le_trans hB HBW.size)), row_nil _ _, entries_nil _ _, events_nil _ _, events_nil _ _⟩, HBW⟩

set_option maxRecDepth 100000 in
set_option maxHeartbeats 6400000 in
theorem flat_hav (B : Nat) (v : Value) (a b c : Int) (l : List (Int × Int)) (w : World) (h : IsMsg B w v (.hav a b c l)) (hB : B ≤ w.heap.size) :
    Calls Tryz.prog 7 #[v] w fun r w' => GotFlat (flatM (.hav a b c l)) w r w' := by
  have HK : HasKind v 6 := hasKind h
  obtain ⟨lv, rfl, i1⟩ := h
  obtain ⟨p1, q1, rfl⟩ := i1.form
  have I1 := Lib.hid i1
  clear i1
  obtain ⟨T, p, F, hv, hm, hcf, hc⟩ := HK
  injection hv with hv1 hv2
  subst hv1 hv2
  have HC := Lib.hid hc
  have qn : ∀ (W : World) (v : Value), (binOp .eql 34 (.iface 67 v) .nilIface).run Tryz.prog W = .ok (.bool false) W := fun W v => by kernel_rfl
  have a0 : ∀ (W : World) (v : Value), (Instr.typeAssert (.iface 67 v) 34 57 true).run Tryz.prog W = .ok (.tuple #[(.agg #[.int .i64 0, .int .i64 0, .int .i64 0]), .bool false]) W := fun W v => by kernel_rfl
  have a1 : ∀ (W : World) (v : Value), (Instr.typeAssert (.iface 67 v) 34 59 true).run Tryz.prog W = .ok (.tuple #[(.agg #[.int .i64 0, .int .i64 0]), .bool false]) W := fun W v => by kernel_rfl
  have a2 : ∀ (W : World) (v : Value), (Instr.typeAssert (.iface 67 v) 34 61 true).run Tryz.prog W = .ok (.tuple #[(.agg #[.int .i64 0, .int .i64 0]), .bool false]) W := fun W v => by kernel_rfl
  have a3 : ∀ (W : World) (v : Value), (Instr.typeAssert (.iface 67 v) 34 63 true).run Tryz.prog W = .ok (.tuple #[(.agg #[.int .i64 0, .slice none 0 0, .slice none 0 0, .slice none 0 0]), .bool false]) W := fun W v => by kernel_rfl
  have a4 : ∀ (W : World) (v : Value), (Instr.typeAssert (.iface 67 v) 34 65 true).run Tryz.prog W = .ok (.tuple #[(.agg #[.int .i64 0]), .bool false]) W := fun W v => by kernel_rfl
  have a5 : ∀ (W : World) (v : Value), (Instr.typeAssert (.iface 67 v) 34 67 true).run Tryz.prog W = .ok (.tuple #[v, .bool true]) W := fun W v => by kernel_rfl
  have HG0 := Lib.hid (heap_alloc_new w (.cells #[.int .i64 0, .slice none 0 0, .slice none 0 0, .slice none 0 0, .slice none 0 0, .slice none 0 0, .slice none 0 0, .slice none 0 0, .string ⟨#[]⟩, .int .i64 0, .int .i64 0, .int .i64 0, .slice none 0 0, .string ⟨#[]⟩] 37))
  have HB0 := Lib.hid ((Below.refl w.heap.size w).alloc (Nat.le_refl _) (.cells #[.int .i64 0, .slice none 0 0, .slice none 0 0, .slice none 0 0, .slice none 0 0, .slice none 0 0, .slice none 0 0, .slice none 0 0, .string ⟨#[]⟩, .int .i64 0, .int .i64 0, .int .i64 0, .slice none 0 0, .string ⟨#[]⟩] 37))
  clear hc
  go_enter Tryz.func7, Tryz.ntmps7
  go_wp2_with fail
  refine (HC.out _).mono ?_
  rintro r w1 ⟨rfl, hb1⟩
  have HB1 := Lib.hid (bstep HB0.out hb1)
  have hg1 := (hb1.block w.heap.size (by simp only [World.size_alloc]; omega)).trans HG0.out
  have HG1 := Lib.hid hg1
  have hlt1 : w.heap.size < w1.heap.size := (Array.getElem?_eq_some_iff.1 hg1).1
  have z0 : w1.cell? ⟨w.heap.size, 0, none⟩ = some (.int .i64 0) := by rw [Lib.cell_of_heap hg1]; rfl
  have k0 : w1.frozen? ⟨w.heap.size, 0, none⟩ = false := Lib.frozen_of_heap hg1 0
  have z1 : w1.cell? ⟨w.heap.size, 1, none⟩ = some (.slice none 0 0) := by rw [Lib.cell_of_heap hg1]; rfl
  have k1 : w1.frozen? ⟨w.heap.size, 1, none⟩ = false := Lib.frozen_of_heap hg1 1
  have z2 : w1.cell? ⟨w.heap.size, 2, none⟩ = some (.slice none 0 0) := by rw [Lib.cell_of_heap hg1]; rfl
  have k2 : w1.frozen? ⟨w.heap.size, 2, none⟩ = false := Lib.frozen_of_heap hg1 2
  have z3 : w1.cell? ⟨w.heap.size, 3, none⟩ = some (.slice none 0 0) := by rw [Lib.cell_of_heap hg1]; rfl
  have k3 : w1.frozen? ⟨w.heap.size, 3, none⟩ = false := Lib.frozen_of_heap hg1 3
  have z4 : w1.cell? ⟨w.heap.size, 4, none⟩ = some (.slice none 0 0) := by rw [Lib.cell_of_heap hg1]; rfl
  have k4 : w1.frozen? ⟨w.heap.size, 4, none⟩ = false := Lib.frozen_of_heap hg1 4
  have z5 : w1.cell? ⟨w.heap.size, 5, none⟩ = some (.slice none 0 0) := by rw [Lib.cell_of_heap hg1]; rfl
  have k5 : w1.frozen? ⟨w.heap.size, 5, none⟩ = false := Lib.frozen_of_heap hg1 5
  have z6 : w1.cell? ⟨w.heap.size, 6, none⟩ = some (.slice none 0 0) := by rw [Lib.cell_of_heap hg1]; rfl
  have k6 : w1.frozen? ⟨w.heap.size, 6, none⟩ = false := Lib.frozen_of_heap hg1 6
  have z7 : w1.cell? ⟨w.heap.size, 7, none⟩ = some (.slice none 0 0) := by rw [Lib.cell_of_heap hg1]; rfl
  have k7 : w1.frozen? ⟨w.heap.size, 7, none⟩ = false := Lib.frozen_of_heap hg1 7
  have z8 : w1.cell? ⟨w.heap.size, 8, none⟩ = some (.string ⟨#[]⟩) := by rw [Lib.cell_of_heap hg1]; rfl
  have k8 : w1.frozen? ⟨w.heap.size, 8, none⟩ = false := Lib.frozen_of_heap hg1 8
  have z9 : w1.cell? ⟨w.heap.size, 9, none⟩ = some (.int .i64 0) := by rw [Lib.cell_of_heap hg1]; rfl
  have k9 : w1.frozen? ⟨w.heap.size, 9, none⟩ = false := Lib.frozen_of_heap hg1 9
  have z10 : w1.cell? ⟨w.heap.size, 10, none⟩ = some (.int .i64 0) := by rw [Lib.cell_of_heap hg1]; rfl
  have k10 : w1.frozen? ⟨w.heap.size, 10, none⟩ = false := Lib.frozen_of_heap hg1 10
  have z11 : w1.cell? ⟨w.heap.size, 11, none⟩ = some (.int .i64 0) := by rw [Lib.cell_of_heap hg1]; rfl
  have k11 : w1.frozen? ⟨w.heap.size, 11, none⟩ = false := Lib.frozen_of_heap hg1 11
  have z12 : w1.cell? ⟨w.heap.size, 12, none⟩ = some (.slice none 0 0) := by rw [Lib.cell_of_heap hg1]; rfl
  have k12 : w1.frozen? ⟨w.heap.size, 12, none⟩ = false := Lib.frozen_of_heap hg1 12
  have z13 : w1.cell? ⟨w.heap.size, 13, none⟩ = some (.string ⟨#[]⟩) := by rw [Lib.cell_of_heap hg1]; rfl
  have k13 : w1.frozen? ⟨w.heap.size, 13, none⟩ = false := Lib.frozen_of_heap hg1 13
  have n1 : w.heap.size < w1.heap.size + 1 := by omega
  have n2 : w.heap.size < w1.heap.size + 1 + 1 := by omega
  clear hb1 hg1
  go_wp2_with fail
  (try simp only [Exit.inBlock, Exit.then])
  refine bodyPost_ret (ret_cell1 (t := 37) (fr := (0, 0)) rfl _ _ w.heap.size #[.int .i64 6, .slice (some ⟨w1.heap.size + 1 + 1, 0, none⟩) 3 3, .slice none 0 0, .slice none 0 0, .slice none 0 0, .slice p1 l.length q1, .slice none 0 0, .slice none 0 0, .string ⟨#[]⟩, .int .i64 0, .int .i64 0, .int .i64 0, .slice none 0 0, .string ⟨#[]⟩] _ (by rfl) ?hg Tryz.underlying37 rfl fsize) rfl ?_
  case hg =>
    rw [heap_alloc_old _ _ (by simp only [World.size_alloc, World.size_setCell]; omega), heap_alloc_old _ _ (by simp only [World.size_alloc, World.size_setCell]; omega), heap_alloc_old _ _ (by simp only [World.size_alloc, World.size_setCell]; omega)]
    exact blk_set14 HG1.out (.int .i64 6) (.slice (some ⟨w1.heap.size + 1 + 1, 0, none⟩) 3 3) (.slice none 0 0) (.slice none 0 0) (.slice none 0 0) (.slice p1 l.length q1) (.slice none 0 0) (.slice none 0 0) (.string ⟨#[]⟩) (.int .i64 0) (.int .i64 0) (.int .i64 0) (.slice none 0 0) (.string ⟨#[]⟩)
  have HBW := (((below_set14 HB1.out (Nat.le_refl _) (.int .i64 6) (.slice (some ⟨w1.heap.size + 1 + 1, 0, none⟩) 3 3) (.slice none 0 0) (.slice none 0 0) (.slice none 0 0) (.slice p1 l.length q1) (.slice none 0 0) (.slice none 0 0) (.string ⟨#[]⟩) (.int .i64 0) (.int .i64 0) (.int .i64 0) (.slice none 0 0) (.string ⟨#[]⟩)).alloc (by simp only [World.size_setCell]; omega) (.cells #[.int .i64 6, .slice (some ⟨w1.heap.size + 1 + 1, 0, none⟩) 3 3, .slice none 0 0, .slice none 0 0, .slice none 0 0, .slice p1 l.length q1, .slice none 0 0, .slice none 0 0, .string ⟨#[]⟩, .int .i64 0, .int .i64 0, .int .i64 0, .slice none 0 0, .string ⟨#[]⟩] 37)).alloc (by simp only [World.size_alloc, World.size_setCell]; omega) (.cells #[.int .i64 a, .int .i64 b, .int .i64 c, .slice p1 l.length q1] 67)).alloc (by simp only [World.size_alloc, World.size_setCell]; omega) (.cells #[.int .i64 a, .int .i64 b, .int .i64 c] 3)
  exact ⟨_, rfl, ⟨_, _, _, _, _, _, _, _, rfl, row_block [a, b, c] _ _ _ (by unfold maxLen; simp only [List.length_cons, List.length_nil]; omega) _ (by simp only [World.size_alloc, World.size_setCell]), row_nil _ _, row_nil _ _, row_nil _ _, ((I1.out.keep HBW hB).up (Nat.le_trans hB HBW.size)), entries_nil _ _, events_nil _ _, events_nil _ _⟩, HBW⟩

set_option maxRecDepth 100000 in
set_option maxHeartbeats 6400000 in
theorem flat_logs (B : Nat) (v : Value) (a b c d e f : Int) (l : List EN) (w : World) (h : IsMsg B w v (.logs a b c d e f l)) (hB : B ≤ w.heap.size) :
    Calls Tryz.prog 7 #[v] w fun r w' => GotFlat (flatM (.logs a b c d e f l)) w r w' := by
  have HK : HasKind v 7 := hasKind h
  obtain ⟨lv, rfl, i1⟩ := h
  obtain ⟨p1, q1, rfl⟩ := i1.form
  have I1 := Lib.hid i1
  clear i1
  obtain ⟨T, p, F, hv, hm, hcf, hc⟩ := HK
  injection hv with hv1 hv2
  subst hv1 hv2
  have HC := Lib.hid hc
  have qn : ∀ (W : World) (v : Value), (binOp .eql 34 (.iface 69 v) .nilIface).run Tryz.prog W = .ok (.bool false) W := fun W v => by kernel_rfl
  have a0 : ∀ (W : World) (v : Value), (Instr.typeAssert (.iface 69 v) 34 57 true).run Tryz.prog W = .ok (.tuple #[(.agg #[.int .i64 0, .int .i64 0, .int .i64 0]), .bool false]) W := fun W v => by kernel_rfl
  have a1 : ∀ (W : World) (v : Value), (Instr.typeAssert (.iface 69 v) 34 59 true).run Tryz.prog W = .ok (.tuple #[(.agg #[.int .i64 0, .int .i64 0]), .bool false]) W := fun W v => by kernel_rfl
  have a2 : ∀ (W : World) (v : Value), (Instr.typeAssert (.iface 69 v) 34 61 true).run Tryz.prog W = .ok (.tuple #[(.agg #[.int .i64 0, .int .i64 0]), .bool false]) W := fun W v => by kernel_rfl
  have a3 : ∀ (W : World) (v : Value), (Instr.typeAssert (.iface 69 v) 34 63 true).run Tryz.prog W = .ok (.tuple #[(.agg #[.int .i64 0, .slice none 0 0, .slice none 0 0, .slice none 0 0]), .bool false]) W := fun W v => by kernel_rfl
  have a4 : ∀ (W : World) (v : Value), (Instr.typeAssert (.iface 69 v) 34 65 true).run Tryz.prog W = .ok (.tuple #[(.agg #[.int .i64 0]), .bool false]) W := fun W v => by kernel_rfl
  have a5 : ∀ (W : World) (v : Value), (Instr.typeAssert (.iface 69 v) 34 67 true).run Tryz.prog W = .ok (.tuple #[(.agg #[.int .i64 0, .int .i64 0, .int .i64 0, .slice none 0 0]), .bool false]) W := fun W v => by kernel_rfl
  have a6 : ∀ (W : World) (v : Value), (Instr.typeAssert (.iface 69 v) 34 69 true).run Tryz.prog W = .ok (.tuple #[v, .bool true]) W := fun W v => by kernel_rfl
  have HG0 := Lib.hid (heap_alloc_new w (.cells #[.int .i64 0, .slice none 0 0, .slice none 0 0, .slice none 0 0, .slice none 0 0, .slice none 0 0, .slice none 0 0, .slice none 0 0, .string ⟨#[]⟩, .int .i64 0, .int .i64 0, .int .i64 0, .slice none 0 0, .string ⟨#[]⟩] 37))
  have HB0 := Lib.hid ((Below.refl w.heap.size w).alloc (Nat.le_refl _) (.cells #[.int .i64 0, .slice none 0 0, .slice none 0 0, .slice none 0 0, .slice none 0 0, .slice none 0 0, .slice none 0 0, .slice none 0 0, .string ⟨#[]⟩, .int .i64 0, .int .i64 0, .int .i64 0, .slice none 0 0, .string ⟨#[]⟩] 37))
  clear hc
  go_enter Tryz.func7, Tryz.ntmps7
  go_wp2_with fail
  refine (HC.out _).mono ?_
  rintro r w1 ⟨rfl, hb1⟩
  have HB1 := Lib.hid (bstep HB0.out hb1)
  have hg1 := (hb1.block w.heap.size (by simp only [World.size_alloc]; omega)).trans HG0.out
  have HG1 := Lib.hid hg1
  have hlt1 : w.heap.size < w1.heap.size := (Array.getElem?_eq_some_iff.1 hg1).1
  have z0 : w1.cell? ⟨w.heap.size, 0, none⟩ = some (.int .i64 0) := by rw [Lib.cell_of_heap hg1]; rfl
  have k0 : w1.frozen? ⟨w.heap.size, 0, none⟩ = false := Lib.frozen_of_heap hg1 0
  have z1 : w1.cell? ⟨w.heap.size, 1, none⟩ = some (.slice none 0 0) := by rw [Lib.cell_of_heap hg1]; rfl
  have k1 : w1.frozen? ⟨w.heap.size, 1, none⟩ = false := Lib.frozen_of_heap hg1 1
  have z2 : w1.cell? ⟨w.heap.size, 2, none⟩ = some (.slice none 0 0) := by rw [Lib.cell_of_heap hg1]; rfl
  have k2 : w1.frozen? ⟨w.heap.size, 2, none⟩ = false := Lib.frozen_of_heap hg1 2
  have z3 : w1.cell? ⟨w.heap.size, 3, none⟩ = some (.slice none 0 0) := by rw [Lib.cell_of_heap hg1]; rfl
  have k3 : w1.frozen? ⟨w.heap.size, 3, none⟩ = false := Lib.frozen_of_heap hg1 3
  have z4 : w1.cell? ⟨w.heap.size, 4, none⟩ = some (.slice none 0 0) := by rw [Lib.cell_of_heap hg1]; rfl
  have k4 : w1.frozen? ⟨w.heap.size, 4, none⟩ = false := Lib.frozen_of_heap hg1 4
  have z5 : w1.cell? ⟨w.heap.size, 5, none⟩ = some (.slice none 0 0) := by rw [Lib.cell_of_heap hg1]; rfl
  have k5 : w1.frozen? ⟨w.heap.size, 5, none⟩ = false := Lib.frozen_of_heap hg1 5
  have z6 : w1.cell? ⟨w.heap.size, 6, none⟩ = some (.slice none 0 0) := by rw [Lib.cell_of_heap hg1]; rfl
  have k6 : w1.frozen? ⟨w.heap.size, 6, none⟩ = false := Lib.frozen_of_heap hg1 6
  have z7 : w1.cell? ⟨w.heap.size, 7, none⟩ = some (.slice none 0 0) := by rw [Lib.cell_of_heap hg1]; rfl
  have k7 : w1.frozen? ⟨w.heap.size, 7, none⟩ = false := Lib.frozen_of_heap hg1 7
  have z8 : w1.cell? ⟨w.heap.size, 8, none⟩ = some (.string ⟨#[]⟩) := by rw [Lib.cell_of_heap hg1]; rfl
  have k8 : w1.frozen? ⟨w.heap.size, 8, none⟩ = false := Lib.frozen_of_heap hg1 8
  have z9 : w1.cell? ⟨w.heap.size, 9, none⟩ = some (.int .i64 0) := by rw [Lib.cell_of_heap hg1]; rfl
  have k9 : w1.frozen? ⟨w.heap.size, 9, none⟩ = false := Lib.frozen_of_heap hg1 9
  have z10 : w1.cell? ⟨w.heap.size, 10, none⟩ = some (.int .i64 0) := by rw [Lib.cell_of_heap hg1]; rfl
  have k10 : w1.frozen? ⟨w.heap.size, 10, none⟩ = false := Lib.frozen_of_heap hg1 10
  have z11 : w1.cell? ⟨w.heap.size, 11, none⟩ = some (.int .i64 0) := by rw [Lib.cell_of_heap hg1]; rfl
  have k11 : w1.frozen? ⟨w.heap.size, 11, none⟩ = false := Lib.frozen_of_heap hg1 11
  have z12 : w1.cell? ⟨w.heap.size, 12, none⟩ = some (.slice none 0 0) := by rw [Lib.cell_of_heap hg1]; rfl
  have k12 : w1.frozen? ⟨w.heap.size, 12, none⟩ = false := Lib.frozen_of_heap hg1 12
  have z13 : w1.cell? ⟨w.heap.size, 13, none⟩ = some (.string ⟨#[]⟩) := by rw [Lib.cell_of_heap hg1]; rfl
  have k13 : w1.frozen? ⟨w.heap.size, 13, none⟩ = false := Lib.frozen_of_heap hg1 13
  have n1 : w.heap.size < w1.heap.size + 1 := by omega
  have n2 : w.heap.size < w1.heap.size + 1 + 1 := by omega
  clear hb1 hg1
  go_wp2_with fail
  (try simp only [Exit.inBlock, Exit.then])
  refine bodyPost_ret (ret_cell1 (t := 37) (fr := (0, 0)) rfl _ _ w.heap.size #[.int .i64 7, .slice (some ⟨w1.heap.size + 1 + 1, 0, none⟩) 6 6, .slice none 0 0, .slice none 0 0, .slice none 0 0, .slice none 0 0, .slice p1 l.length q1, .slice none 0 0, .string ⟨#[]⟩, .int .i64 0, .int .i64 0, .int .i64 0, .slice none 0 0, .string ⟨#[]⟩] _ (by rfl) ?hg Tryz.underlying37 rfl fsize) rfl ?_
  case hg =>
    rw [heap_alloc_old _ _ (by simp only [World.size_alloc, World.size_setCell]; omega), heap_alloc_old _ _ (by simp only [World.size_alloc, World.size_setCell]; omega), heap_alloc_old _ _ (by simp only [World.size_alloc, World.size_setCell]; omega)]
    exact blk_set14 HG1.out (.int .i64 7) (.slice (some ⟨w1.heap.size + 1 + 1, 0, none⟩) 6 6) (.slice none 0 0) (.slice none 0 0) (.slice none 0 0) (.slice none 0 0) (.slice p1 l.length q1) (.slice none 0 0) (.string ⟨#[]⟩) (.int .i64 0) (.int .i64 0) (.int .i64 0) (.slice none 0 0) (.string ⟨#[]⟩)
  have HBW := (((below_set14 HB1.out (Nat.le_refl _) (.int .i64 7) (.slice (some ⟨w1.heap.size + 1 + 1, 0, none⟩) 6 6) (.slice none 0 0) (.slice none 0 0) (.slice none 0 0) (.slice none 0 0) (.slice p1 l.length q1) (.slice none 0 0) (.string ⟨#[]⟩) (.int .i64 0) (.int .i64 0) (.int .i64 0) (.slice none 0 0) (.string ⟨#[]⟩)).alloc (by simp only [World.size_setCell]; omega) (.cells #[.int .i64 7, .slice (some ⟨w1.heap.size + 1 + 1, 0, none⟩) 6 6, .slice none 0 0, .slice none 0 0, .slice none 0 0, .slice none 0 0, .slice p1 l.length q1, .slice none 0 0, .string ⟨#[]⟩, .int .i64 0, .int .i64 0, .int .i64 0, .slice none 0 0, .string ⟨#[]⟩] 37)).alloc (by simp only [World.size_alloc, World.size_setCell]; omega) (.cells #[.int .i64 a, .int .i64 b, .int .i64 c, .int .i64 d, .int .i64 e, .int .i64 f, .slice p1 l.length q1] 69)).alloc (by simp only [World.size_alloc, World.size_setCell]; omega) (.cells #[.int .i64 a, .int .i64 b, .int .i64 c, .int .i64 d, .int .i64 e, .int .i64 f] 3)
  exact ⟨_, rfl, ⟨_, _, _, _, _, _, _, _, rfl, row_block [a, b, c, d, e, f] _ _ _ (by unfold maxLen; simp only [List.length_cons, List.length_nil]; omega) _ (by simp only [World.size_alloc, World.size_setCell]), row_nil _ _, row_nil _ _, row_nil _ _, row_nil _ _, ((I1.out.keep HBW hB).up (Nat.le_trans hB HBW.size)), events_nil _ _, events_nil _ _⟩, HBW⟩
end Go.Proofs.YtflojipkgaocnaaGreatDoor
namespace Go.Proofs.YtflojipkgaocnaaGreatDoor
open Go.RowKit
set_option linter.unusedSimpArgs false
set_option linter.unusedVariables false

set_option maxRecDepth 100000 in
set_option maxHeartbeats 6400000 in
theorem flat_ack (B : Nat) (v : Value) (a b c : Int) (w : World) (h : IsMsg B w v (.ack a b c)) (hB : B ≤ w.heap.size) :
    Calls Tryz.prog 7 #[v] w fun r w' => GotFlat (flatM (.ack a b c)) w r w' := by
  have HK : HasKind v 8 := hasKind h
  obtain rfl := h
  obtain ⟨T, p, F, hv, hm, hcf, hc⟩ := HK
  injection hv with hv1 hv2
  subst hv1 hv2
  have HC := Lib.hid hc
  have qn : ∀ (W : World) (v : Value), (binOp .eql 34 (.iface 51 v) .nilIface).run Tryz.prog W = .ok (.bool false) W := fun W v => by kernel_rfl
  have a0 : ∀ (W : World) (v : Value), (Instr.typeAssert (.iface 51 v) 34 57 true).run Tryz.prog W = .ok (.tuple #[(.agg #[.int .i64 0, .int .i64 0, .int .i64 0]), .bool false]) W := fun W v => by kernel_rfl
  have a1 : ∀ (W : World) (v : Value), (Instr.typeAssert (.iface 51 v) 34 59 true).run Tryz.prog W = .ok (.tuple #[(.agg #[.int .i64 0, .int .i64 0]), .bool false]) W := fun W v => by kernel_rfl
  have a2 : ∀ (W : World) (v : Value), (Instr.typeAssert (.iface 51 v) 34 61 true).run Tryz.prog W = .ok (.tuple #[(.agg #[.int .i64 0, .int .i64 0]), .bool false]) W := fun W v => by kernel_rfl
  have a3 : ∀ (W : World) (v : Value), (Instr.typeAssert (.iface 51 v) 34 63 true).run Tryz.prog W = .ok (.tuple #[(.agg #[.int .i64 0, .slice none 0 0, .slice none 0 0, .slice none 0 0]), .bool false]) W := fun W v => by kernel_rfl
  have a4 : ∀ (W : World) (v : Value), (Instr.typeAssert (.iface 51 v) 34 65 true).run Tryz.prog W = .ok (.tuple #[(.agg #[.int .i64 0]), .bool false]) W := fun W v => by kernel_rfl
  have a5 : ∀ (W : World) (v : Value), (Instr.typeAssert (.iface 51 v) 34 67 true).run Tryz.prog W = .ok (.tuple #[(.agg #[.int .i64 0, .int .i64 0, .int .i64 0, .slice none 0 0]), .bool false]) W := fun W v => by kernel_rfl
  have a6 : ∀ (W : World) (v : Value), (Instr.typeAssert (.iface 51 v) 34 69 true).run Tryz.prog W = .ok (.tuple #[(.agg #[.int .i64 0, .int .i64 0, .int .i64 0, .int .i64 0, .int .i64 0, .int .i64 0, .slice none 0 0]), .bool false]) W := fun W v => by kernel_rfl
  have a7 : ∀ (W : World) (v : Value), (Instr.typeAssert (.iface 51 v) 34 51 true).run Tryz.prog W = .ok (.tuple #[v, .bool true]) W := fun W v => by kernel_rfl
  have HG0 := Lib.hid (heap_alloc_new w (.cells #[.int .i64 0, .slice none 0 0, .slice none 0 0, .slice none 0 0, .slice none 0 0, .slice none 0 0, .slice none 0 0, .slice none 0 0, .string ⟨#[]⟩, .int .i64 0, .int .i64 0, .int .i64 0, .slice none 0 0, .string ⟨#[]⟩] 37))
  have HB0 := Lib.hid ((Below.refl w.heap.size w).alloc (Nat.le_refl _) (.cells #[.int .i64 0, .slice none 0 0, .slice none 0 0, .slice none 0 0, .slice none 0 0, .slice none 0 0, .slice none 0 0, .slice none 0 0, .string ⟨#[]⟩, .int .i64 0, .int .i64 0, .int .i64 0, .slice none 0 0, .string ⟨#[]⟩] 37))
  clear hc
  go_enter Tryz.func7, Tryz.ntmps7
  go_wp2_with fail
  refine (HC.out _).mono ?_
  rintro r w1 ⟨rfl, hb1⟩
  have HB1 := Lib.hid (bstep HB0.out hb1)
  have hg1 := (hb1.block w.heap.size (by simp only [World.size_alloc]; omega)).trans HG0.out
  have HG1 := Lib.hid hg1
  have hlt1 : w.heap.size < w1.heap.size := (Array.getElem?_eq_some_iff.1 hg1).1
  have z0 : w1.cell? ⟨w.heap.size, 0, none⟩ = some (.int .i64 0) := by rw [Lib.cell_of_heap hg1]; rfl
  have k0 : w1.frozen? ⟨w.heap.size, 0, none⟩ = false := Lib.frozen_of_heap hg1 0
  have z1 : w1.cell? ⟨w.heap.size, 1, none⟩ = some (.slice none 0 0) := by rw [Lib.cell_of_heap hg1]; rfl
  have k1 : w1.frozen? ⟨w.heap.size, 1, none⟩ = false := Lib.frozen_of_heap hg1 1
  have z2 : w1.cell? ⟨w.heap.size, 2, none⟩ = some (.slice none 0 0) := by rw [Lib.cell_of_heap hg1]; rfl
  have k2 : w1.frozen? ⟨w.heap.size, 2, none⟩ = false := Lib.frozen_of_heap hg1 2
  have z3 : w1.cell? ⟨w.heap.size, 3, none⟩ = some (.slice none 0 0) := by rw [Lib.cell_of_heap hg1]; rfl
  have k3 : w1.frozen? ⟨w.heap.size, 3, none⟩ = false := Lib.frozen_of_heap hg1 3
  have z4 : w1.cell? ⟨w.heap.size, 4, none⟩ = some (.slice none 0 0) := by rw [Lib.cell_of_heap hg1]; rfl
  have k4 : w1.frozen? ⟨w.heap.size, 4, none⟩ = false := Lib.frozen_of_heap hg1 4
  have z5 : w1.cell? ⟨w.heap.size, 5, none⟩ = some (.slice none 0 0) := by rw [Lib.cell_of_heap hg1]; rfl
  have k5 : w1.frozen? ⟨w.heap.size, 5, none⟩ = false := Lib.frozen_of_heap hg1 5
  have z6 : w1.cell? ⟨w.heap.size, 6, none⟩ = some (.slice none 0 0) := by rw [Lib.cell_of_heap hg1]; rfl
  have k6 : w1.frozen? ⟨w.heap.size, 6, none⟩ = false := Lib.frozen_of_heap hg1 6
  have z7 : w1.cell? ⟨w.heap.size, 7, none⟩ = some (.slice none 0 0) := by rw [Lib.cell_of_heap hg1]; rfl
  have k7 : w1.frozen? ⟨w.heap.size, 7, none⟩ = false := Lib.frozen_of_heap hg1 7
  have z8 : w1.cell? ⟨w.heap.size, 8, none⟩ = some (.string ⟨#[]⟩) := by rw [Lib.cell_of_heap hg1]; rfl
  have k8 : w1.frozen? ⟨w.heap.size, 8, none⟩ = false := Lib.frozen_of_heap hg1 8
  have z9 : w1.cell? ⟨w.heap.size, 9, none⟩ = some (.int .i64 0) := by rw [Lib.cell_of_heap hg1]; rfl
  have k9 : w1.frozen? ⟨w.heap.size, 9, none⟩ = false := Lib.frozen_of_heap hg1 9
  have z10 : w1.cell? ⟨w.heap.size, 10, none⟩ = some (.int .i64 0) := by rw [Lib.cell_of_heap hg1]; rfl
  have k10 : w1.frozen? ⟨w.heap.size, 10, none⟩ = false := Lib.frozen_of_heap hg1 10
  have z11 : w1.cell? ⟨w.heap.size, 11, none⟩ = some (.int .i64 0) := by rw [Lib.cell_of_heap hg1]; rfl
  have k11 : w1.frozen? ⟨w.heap.size, 11, none⟩ = false := Lib.frozen_of_heap hg1 11
  have z12 : w1.cell? ⟨w.heap.size, 12, none⟩ = some (.slice none 0 0) := by rw [Lib.cell_of_heap hg1]; rfl
  have k12 : w1.frozen? ⟨w.heap.size, 12, none⟩ = false := Lib.frozen_of_heap hg1 12
  have z13 : w1.cell? ⟨w.heap.size, 13, none⟩ = some (.string ⟨#[]⟩) := by rw [Lib.cell_of_heap hg1]; rfl
  have k13 : w1.frozen? ⟨w.heap.size, 13, none⟩ = false := Lib.frozen_of_heap hg1 13
  have n1 : w.heap.size < w1.heap.size + 1 := by omega
  have n2 : w.heap.size < w1.heap.size + 1 + 1 := by omega
  clear hb1 hg1
  go_wp2_with fail
  (try simp only [Exit.inBlock, Exit.then])
  refine bodyPost_ret (ret_cell1 (t := 37) (fr := (0, 0)) rfl _ _ w.heap.size #[.int .i64 8, .slice (some ⟨w1.heap.size + 1 + 1, 0, none⟩) 3 3, .slice none 0 0, .slice none 0 0, .slice none 0 0, .slice none 0 0, .slice none 0 0, .slice none 0 0, .string ⟨#[]⟩, .int .i64 0, .int .i64 0, .int .i64 0, .slice none 0 0, .string ⟨#[]⟩] _ (by rfl) ?hg Tryz.underlying37 rfl fsize) rfl ?_
  case hg =>
    rw [heap_alloc_old _ _ (by simp only [World.size_alloc, World.size_setCell]; omega), heap_alloc_old _ _ (by simp only [World.size_alloc, World.size_setCell]; omega), heap_alloc_old _ _ (by simp only [World.size_alloc, World.size_setCell]; omega)]
    exact blk_set14 HG1.out (.int .i64 8) (.slice (some ⟨w1.heap.size + 1 + 1, 0, none⟩) 3 3) (.slice none 0 0) (.slice none 0 0) (.slice none 0 0) (.slice none 0 0) (.slice none 0 0) (.slice none 0 0) (.string ⟨#[]⟩) (.int .i64 0) (.int .i64 0) (.int .i64 0) (.slice none 0 0) (.string ⟨#[]⟩)
  have HBW := (((below_set14 HB1.out (Nat.le_refl _) (.int .i64 8) (.slice (some ⟨w1.heap.size + 1 + 1, 0, none⟩) 3 3) (.slice none 0 0) (.slice none 0 0) (.slice none 0 0) (.slice none 0 0) (.slice none 0 0) (.slice none 0 0) (.string ⟨#[]⟩) (.int .i64 0) (.int .i64 0) (.int .i64 0) (.slice none 0 0) (.string ⟨#[]⟩)).alloc (by simp only [World.size_setCell]; omega) (.cells #[.int .i64 8, .slice (some ⟨w1.heap.size + 1 + 1, 0, none⟩) 3 3, .slice none 0 0, .slice none 0 0, .slice none 0 0, .slice none 0 0, .slice none 0 0, .slice none 0 0, .string ⟨#[]⟩, .int .i64 0, .int .i64 0, .int .i64 0, .slice none 0 0, .string ⟨#[]⟩] 37)).alloc (by simp only [World.size_alloc, World.size_setCell]; omega) (.cells #[.int .i64 a, .int .i64 b, .int .i64 c] 51)).alloc (by simp only [World.size_alloc, World.size_setCell]; omega) (.cells #[.int .i64 a, .int .i64 b, .int .i64 c] 3)
  exact ⟨_, rfl, ⟨_, _, _, _, _, _, _, _, rfl, row_block [a, b, c] _ _ _ (by unfold maxLen; simp only [List.length_cons, List.length_nil]; omega) _ (by simp only [World.size_alloc, World.size_setCell]), row_nil _ _, row_nil _ _, row_nil _ _, row_nil _ _, entries_nil _ _, events_nil _ _, events_nil _ _⟩, HBW⟩

set_option maxRecDepth 100000 in
set_option maxHeartbeats 6400000 in
theorem flat_ask (B : Nat) (v : Value) (a b c d : Int) (w : World) (h : IsMsg B w v (.ask a b c d)) (hB : B ≤ w.heap.size) :
    Calls Tryz.prog 7 #[v] w fun r w' => GotFlat (flatM (.ask a b c d)) w r w' := by
  have HK : HasKind v 9 := hasKind h
  obtain rfl := h
  obtain ⟨T, p, F, hv, hm, hcf, hc⟩ := HK
  injection hv with hv1 hv2
  subst hv1 hv2
  have HC := Lib.hid hc
  have qn : ∀ (W : World) (v : Value), (binOp .eql 34 (.iface 71 v) .nilIface).run Tryz.prog W = .ok (.bool false) W := fun W v => by kernel_rfl
  have a0 : ∀ (W : World) (v : Value), (Instr.typeAssert (.iface 71 v) 34 57 true).run Tryz.prog W = .ok (.tuple #[(.agg #[.int .i64 0, .int .i64 0, .int .i64 0]), .bool false]) W := fun W v => by kernel_rfl
  have a1 : ∀ (W : World) (v : Value), (Instr.typeAssert (.iface 71 v) 34 59 true).run Tryz.prog W = .ok (.tuple #[(.agg #[.int .i64 0, .int .i64 0]), .bool false]) W := fun W v => by kernel_rfl
  have a2 : ∀ (W : World) (v : Value), (Instr.typeAssert (.iface 71 v) 34 61 true).run Tryz.prog W = .ok (.tuple #[(.agg #[.int .i64 0, .int .i64 0]), .bool false]) W := fun W v => by kernel_rfl
  have a3 : ∀ (W : World) (v : Value), (Instr.typeAssert (.iface 71 v) 34 63 true).run Tryz.prog W = .ok (.tuple #[(.agg #[.int .i64 0, .slice none 0 0, .slice none 0 0, .slice none 0 0]), .bool false]) W := fun W v => by kernel_rfl
  have a4 : ∀ (W : World) (v : Value), (Instr.typeAssert (.iface 71 v) 34 65 true).run Tryz.prog W = .ok (.tuple #[(.agg #[.int .i64 0]), .bool false]) W := fun W v => by kernel_rfl
  have a5 : ∀ (W : World) (v : Value), (Instr.typeAssert (.iface 71 v) 34 67 true).run Tryz.prog W = .ok (.tuple #[(.agg #[.int .i64 0, .int .i64 0, .int .i64 0, .slice none 0 0]), .bool false]) W := fun W v => by kernel_rfl
  have a6 : ∀ (W : World) (v : Value), (Instr.typeAssert (.iface 71 v) 34 69 true).run Tryz.prog W = .ok (.tuple #[(.agg #[.int .i64 0, .int .i64 0, .int .i64 0, .int .i64 0, .int .i64 0, .int .i64 0, .slice none 0 0]), .bool false]) W := fun W v => by kernel_rfl
  have a7 : ∀ (W : World) (v : Value), (Instr.typeAssert (.iface 71 v) 34 51 true).run Tryz.prog W = .ok (.tuple #[(.agg #[.int .i64 0, .int .i64 0, .int .i64 0]), .bool false]) W := fun W v => by kernel_rfl
  have a8 : ∀ (W : World) (v : Value), (Instr.typeAssert (.iface 71 v) 34 71 true).run Tryz.prog W = .ok (.tuple #[v, .bool true]) W := fun W v => by kernel_rfl
  have HG0 := Lib.hid (heap_alloc_new w (.cells #[.int .i64 0, .slice none 0 0, .slice none 0 0, .slice none 0 0, .slice none 0 0, .slice none 0 0, .slice none 0 0, .slice none 0 0, .string ⟨#[]⟩, .int .i64 0, .int .i64 0, .int .i64 0, .slice none 0 0, .string ⟨#[]⟩] 37))
  have HB0 := Lib.hid ((Below.refl w.heap.size w).alloc (Nat.le_refl _) (.cells #[.int .i64 0, .slice none 0 0, .slice none 0 0, .slice none 0 0, .slice none 0 0, .slice none 0 0, .slice none 0 0, .slice none 0 0, .string ⟨#[]⟩, .int .i64 0, .int .i64 0, .int .i64 0, .slice none 0 0, .string ⟨#[]⟩] 37))
  clear hc
  go_enter Tryz.func7, Tryz.ntmps7
  go_wp2_with fail
  refine (HC.out _).mono ?_
  rintro r w1 ⟨rfl, hb1⟩
  have HB1 := Lib.hid (bstep HB0.out hb1)
  have hg1 := (hb1.block w.heap.size (by simp only [World.size_alloc]; omega)).trans HG0.out
  have HG1 := Lib.hid hg1
  have hlt1 : w.heap.size < w1.heap.size := (Array.getElem?_eq_some_iff.1 hg1).1
  have z0 : w1.cell? ⟨w.heap.size, 0, none⟩ = some (.int .i64 0) := by rw [Lib.cell_of_heap hg1]; rfl
  have k0 : w1.frozen? ⟨w.heap.size, 0, none⟩ = false := Lib.frozen_of_heap hg1 0
  have z1 : w1.cell? ⟨w.heap.size, 1, none⟩ = some (.slice none 0 0) := by rw [Lib.cell_of_heap hg1]; rfl
  have k1 : w1.frozen? ⟨w.heap.size, 1, none⟩ = false := Lib.frozen_of_heap hg1 1
  have z2 : w1.cell? ⟨w.heap.size, 2, none⟩ = some (.slice none 0 0) := by rw [Lib.cell_of_heap hg1]; rfl
  have k2 : w1.frozen? ⟨w.heap.size, 2, none⟩ = false := Lib.frozen_of_heap hg1 2
  have z3 : w1.cell? ⟨w.heap.size, 3, none⟩ = some (.slice none 0 0) := by rw [Lib.cell_of_heap hg1]; rfl
  have k3 : w1.frozen? ⟨w.heap.size, 3, none⟩ = false := Lib.frozen_of_heap hg1 3
  have z4 : w1.cell? ⟨w.heap.size, 4, none⟩ = some (.slice none 0 0) := by rw [Lib.cell_of_heap hg1]; rfl
  have k4 : w1.frozen? ⟨w.heap.size, 4, none⟩ = false := Lib.frozen_of_heap hg1 4
  have z5 : w1.cell? ⟨w.heap.size, 5, none⟩ = some (.slice none 0 0) := by rw [Lib.cell_of_heap hg1]; rfl
  have k5 : w1.frozen? ⟨w.heap.size, 5, none⟩ = false := Lib.frozen_of_heap hg1 5
  have z6 : w1.cell? ⟨w.heap.size, 6, none⟩ = some (.slice none 0 0) := by rw [Lib.cell_of_heap hg1]; rfl
  have k6 : w1.frozen? ⟨w.heap.size, 6, none⟩ = false := Lib.frozen_of_heap hg1 6
  have z7 : w1.cell? ⟨w.heap.size, 7, none⟩ = some (.slice none 0 0) := by rw [Lib.cell_of_heap hg1]; rfl
  have k7 : w1.frozen? ⟨w.heap.size, 7, none⟩ = false := Lib.frozen_of_heap hg1 7
  have z8 : w1.cell? ⟨w.heap.size, 8, none⟩ = some (.string ⟨#[]⟩) := by rw [Lib.cell_of_heap hg1]; rfl
  have k8 : w1.frozen? ⟨w.heap.size, 8, none⟩ = false := Lib.frozen_of_heap hg1 8
  have z9 : w1.cell? ⟨w.heap.size, 9, none⟩ = some (.int .i64 0) := by rw [Lib.cell_of_heap hg1]; rfl
  have k9 : w1.frozen? ⟨w.heap.size, 9, none⟩ = false := Lib.frozen_of_heap hg1 9
  have z10 : w1.cell? ⟨w.heap.size, 10, none⟩ = some (.int .i64 0) := by rw [Lib.cell_of_heap hg1]; rfl
  have k10 : w1.frozen? ⟨w.heap.size, 10, none⟩ = false := Lib.frozen_of_heap hg1 10
  have z11 : w1.cell? ⟨w.heap.size, 11, none⟩ = some (.int .i64 0) := by rw [Lib.cell_of_heap hg1]; rfl
  have k11 : w1.frozen? ⟨w.heap.size, 11, none⟩ = false := Lib.frozen_of_heap hg1 11
  have z12 : w1.cell? ⟨w.heap.size, 12, none⟩ = some (.slice none 0 0) := by rw [Lib.cell_of_heap hg1]; rfl
  have k12 : w1.frozen? ⟨w.heap.size, 12, none⟩ = false := Lib.frozen_of_heap hg1 12
  have z13 : w1.cell? ⟨w.heap.size, 13, none⟩ = some (.string ⟨#[]⟩) := by rw [Lib.cell_of_heap hg1]; rfl
  have k13 : w1.frozen? ⟨w.heap.size, 13, none⟩ = false := Lib.frozen_of_heap hg1 13
  have n1 : w.heap.size < w1.heap.size + 1 := by omega
  have n2 : w.heap.size < w1.heap.size + 1 + 1 := by omega
  clear hb1 hg1
  go_wp2_with fail
  (try simp only [Exit.inBlock, Exit.then])
  refine bodyPost_ret (ret_cell1 (t := 37) (fr := (0, 0)) rfl _ _ w.heap.size #[.int .i64 9, .slice (some ⟨w1.heap.size + 1 + 1, 0, none⟩) 4 4, .slice none 0 0, .slice none 0 0, .slice none 0 0, .slice none 0 0, .slice none 0 0, .slice none 0 0, .string ⟨#[]⟩, .int .i64 0, .int .i64 0, .int .i64 0, .slice none 0 0, .string ⟨#[]⟩] _ (by rfl) ?hg Tryz.underlying37 rfl fsize) rfl ?_
  case hg =>
    rw [heap_alloc_old _ _ (by simp only [World.size_alloc, World.size_setCell]; omega), heap_alloc_old _ _ (by simp only [World.size_alloc, World.size_setCell]; omega), heap_alloc_old _ _ (by simp only [World.size_alloc, World.size_setCell]; omega)]
    exact blk_set14 HG1.out (.int .i64 9) (.slice (some ⟨w1.heap.size + 1 + 1, 0, none⟩) 4 4) (.slice none 0 0) (.slice none 0 0) (.slice none 0 0) (.slice none 0 0) (.slice none 0 0) (.slice none 0 0) (.string ⟨#[]⟩) (.int .i64 0) (.int .i64 0) (.int .i64 0) (.slice none 0 0) (.string ⟨#[]⟩)
  have HBW := (((below_set14 HB1.out (Nat.le_refl _) (.int .i64 9) (.slice (some ⟨w1.heap.size + 1 + 1, 0, none⟩) 4 4) (.slice none 0 0) (.slice none 0 0) (.slice none 0 0) (.slice none 0 0) (.slice none 0 0) (.slice none 0 0) (.string ⟨#[]⟩) (.int .i64 0) (.int .i64 0) (.int .i64 0) (.slice none 0 0) (.string ⟨#[]⟩)).alloc (by simp only [World.size_setCell]; omega) (.cells #[.int .i64 9, .slice (some ⟨w1.heap.size + 1 + 1, 0, none⟩) 4 4, .slice none 0 0, .slice none 0 0, .slice none 0 0, .slice none 0 0, .slice none 0 0, .slice none 0 0, .string ⟨#[]⟩, .int .i64 0, .int .i64 0, .int .i64 0, .slice none 0 0, .string ⟨#[]⟩] 37)).alloc (by simp only [World.size_alloc, World.size_setCell]; omega) (.cells #[.int .i64 a, .int .i64 b, .int .i64 c, .int .i64 d] 71)).alloc (by simp only [World.size_alloc, World.size_setCell]; omega) (.cells #[.int .i64 a, .int .i64 b, .int .i64 c, .int .i64 d] 3)
  exact ⟨_, rfl, ⟨_, _, _, _, _, _, _, _, rfl, row_block [a, b, c, d] _ _ _ (by unfold maxLen; simp only [List.length_cons, List.length_nil]; omega) _ (by simp only [World.size_alloc, World.size_setCell]), row_nil _ _, row_nil _ _, row_nil _ _, row_nil _ _, entries_nil _ _, events_nil _ _, events_nil _ _⟩, HBW⟩

set_option maxRecDepth 100000 in
set_option maxHeartbeats 6400000 in
theorem flat_told (B : Nat) (v : Value) (a b c d : Int) (w : World) (h : IsMsg B w v (.told a b c d)) (hB : B ≤ w.heap.size) :
    Calls Tryz.prog 7 #[v] w fun r w' => GotFlat (flatM (.told a b c d)) w r w' := by
  have HK : HasKind v 10 := hasKind h
  obtain rfl := h
  obtain ⟨T, p, F, hv, hm, hcf, hc⟩ := HK
  injection hv with hv1 hv2
  subst hv1 hv2
  have HC := Lib.hid hc
  have qn : ∀ (W : World) (v : Value), (binOp .eql 34 (.iface 73 v) .nilIface).run Tryz.prog W = .ok (.bool false) W := fun W v => by kernel_rfl
  have a0 : ∀ (W : World) (v : Value), (Instr.typeAssert (.iface 73 v) 34 57 true).run Tryz.prog W = .ok (.tuple #[(.agg #[.int .i64 0, .int .i64 0, .int .i64 0]), .bool false]) W := fun W v => by kernel_rfl
  have a1 : ∀ (W : World) (v : Value), (Instr.typeAssert (.iface 73 v) 34 59 true).run Tryz.prog W = .ok (.tuple #[(.agg #[.int .i64 0, .int .i64 0]), .bool false]) W := fun W v => by kernel_rfl
  have a2 : ∀ (W : World) (v : Value), (Instr.typeAssert (.iface 73 v) 34 61 true).run Tryz.prog W = .ok (.tuple #[(.agg #[.int .i64 0, .int .i64 0]), .bool false]) W := fun W v => by kernel_rfl
  have a3 : ∀ (W : World) (v : Value), (Instr.typeAssert (.iface 73 v) 34 63 true).run Tryz.prog W = .ok (.tuple #[(.agg #[.int .i64 0, .slice none 0 0, .slice none 0 0, .slice none 0 0]), .bool false]) W := fun W v => by kernel_rfl
  have a4 : ∀ (W : World) (v : Value), (Instr.typeAssert (.iface 73 v) 34 65 true).run Tryz.prog W = .ok (.tuple #[(.agg #[.int .i64 0]), .bool false]) W := fun W v => by kernel_rfl
  have a5 : ∀ (W : World) (v : Value), (Instr.typeAssert (.iface 73 v) 34 67 true).run Tryz.prog W = .ok (.tuple #[(.agg #[.int .i64 0, .int .i64 0, .int .i64 0, .slice none 0 0]), .bool false]) W := fun W v => by kernel_rfl
  have a6 : ∀ (W : World) (v : Value), (Instr.typeAssert (.iface 73 v) 34 69 true).run Tryz.prog W = .ok (.tuple #[(.agg #[.int .i64 0, .int .i64 0, .int .i64 0, .int .i64 0, .int .i64 0, .int .i64 0, .slice none 0 0]), .bool false]) W := fun W v => by kernel_rfl
  have a7 : ∀ (W : World) (v : Value), (Instr.typeAssert (.iface 73 v) 34 51 true).run Tryz.prog W = .ok (.tuple #[(.agg #[.int .i64 0, .int .i64 0, .int .i64 0]), .bool false]) W := fun W v => by kernel_rfl
  have a8 : ∀ (W : World) (v : Value), (Instr.typeAssert (.iface 73 v) 34 71 true).run Tryz.prog W = .ok (.tuple #[(.agg #[.int .i64 0, .int .i64 0, .int .i64 0, .int .i64 0]), .bool false]) W := fun W v => by kernel_rfl
  have a9 : ∀ (W : World) (v : Value), (Instr.typeAssert (.iface 73 v) 34 73 true).run Tryz.prog W = .ok (.tuple #[v, .bool true]) W := fun W v => by kernel_rfl
  have HG0 := Lib.hid (heap_alloc_new w (.cells #[.int .i64 0, .slice none 0 0, .slice none 0 0, .slice none 0 0, .slice none 0 0, .slice none 0 0, .slice none 0 0, .slice none 0 0, .string ⟨#[]⟩, .int .i64 0, .int .i64 0, .int .i64 0, .slice none 0 0, .string ⟨#[]⟩] 37))
  have HB0 := Lib.hid ((Below.refl w.heap.size w).alloc (Nat.le_refl _) (.cells #[.int .i64 0, .slice none 0 0, .slice none 0 0, .slice none 0 0, .slice none 0 0, .slice none 0 0, .slice none 0 0, .slice none 0 0, .string ⟨#[]⟩, .int .i64 0, .int .i64 0, .int .i64 0, .slice none 0 0, .string ⟨#[]⟩] 37))
  clear hc
  go_enter Tryz.func7, Tryz.ntmps7
  go_wp2_with fail
  refine (HC.out _).mono ?_
  rintro r w1 ⟨rfl, hb1⟩
  have HB1 := Lib.hid (bstep HB0.out hb1)
  have hg1 := (hb1.block w.heap.size (by simp only [World.size_alloc]; omega)).trans HG0.out
  have HG1 := Lib.hid hg1
  have hlt1 : w.heap.size < w1.heap.size := (Array.getElem?_eq_some_iff.1 hg1).1
  have z0 : w1.cell? ⟨w.heap.size, 0, none⟩ = some (.int .i64 0) := by rw [Lib.cell_of_heap hg1]; rfl
  have k0 : w1.frozen? ⟨w.heap.size, 0, none⟩ = false := Lib.frozen_of_heap hg1 0
  have z1 : w1.cell? ⟨w.heap.size, 1, none⟩ = some (.slice none 0 0) := by rw [Lib.cell_of_heap hg1]; rfl
  have k1 : w1.frozen? ⟨w.heap.size, 1, none⟩ = false := Lib.frozen_of_heap hg1 1
  have z2 : w1.cell? ⟨w.heap.size, 2, none⟩ = some (.slice none 0 0) := by rw [Lib.cell_of_heap hg1]; rfl
  have k2 : w1.frozen? ⟨w.heap.size, 2, none⟩ = false := Lib.frozen_of_heap hg1 2
  have z3 : w1.cell? ⟨w.heap.size, 3, none⟩ = some (.slice none 0 0) := by rw [Lib.cell_of_heap hg1]; rfl
  have k3 : w1.frozen? ⟨w.heap.size, 3, none⟩ = false := Lib.frozen_of_heap hg1 3
  have z4 : w1.cell? ⟨w.heap.size, 4, none⟩ = some (.slice none 0 0) := by rw [Lib.cell_of_heap hg1]; rfl
  have k4 : w1.frozen? ⟨w.heap.size, 4, none⟩ = false := Lib.frozen_of_heap hg1 4
  have z5 : w1.cell? ⟨w.heap.size, 5, none⟩ = some (.slice none 0 0) := by rw [Lib.cell_of_heap hg1]; rfl
  have k5 : w1.frozen? ⟨w.heap.size, 5, none⟩ = false := Lib.frozen_of_heap hg1 5
  have z6 : w1.cell? ⟨w.heap.size, 6, none⟩ = some (.slice none 0 0) := by rw [Lib.cell_of_heap hg1]; rfl
  have k6 : w1.frozen? ⟨w.heap.size, 6, none⟩ = false := Lib.frozen_of_heap hg1 6
  have z7 : w1.cell? ⟨w.heap.size, 7, none⟩ = some (.slice none 0 0) := by rw [Lib.cell_of_heap hg1]; rfl
  have k7 : w1.frozen? ⟨w.heap.size, 7, none⟩ = false := Lib.frozen_of_heap hg1 7
  have z8 : w1.cell? ⟨w.heap.size, 8, none⟩ = some (.string ⟨#[]⟩) := by rw [Lib.cell_of_heap hg1]; rfl
  have k8 : w1.frozen? ⟨w.heap.size, 8, none⟩ = false := Lib.frozen_of_heap hg1 8
  have z9 : w1.cell? ⟨w.heap.size, 9, none⟩ = some (.int .i64 0) := by rw [Lib.cell_of_heap hg1]; rfl
  have k9 : w1.frozen? ⟨w.heap.size, 9, none⟩ = false := Lib.frozen_of_heap hg1 9
  have z10 : w1.cell? ⟨w.heap.size, 10, none⟩ = some (.int .i64 0) := by rw [Lib.cell_of_heap hg1]; rfl
  have k10 : w1.frozen? ⟨w.heap.size, 10, none⟩ = false := Lib.frozen_of_heap hg1 10
  have z11 : w1.cell? ⟨w.heap.size, 11, none⟩ = some (.int .i64 0) := by rw [Lib.cell_of_heap hg1]; rfl
  have k11 : w1.frozen? ⟨w.heap.size, 11, none⟩ = false := Lib.frozen_of_heap hg1 11
  have z12 : w1.cell? ⟨w.heap.size, 12, none⟩ = some (.slice none 0 0) := by rw [Lib.cell_of_heap hg1]; rfl
  have k12 : w1.frozen? ⟨w.heap.size, 12, none⟩ = false := Lib.frozen_of_heap hg1 12
  have z13 : w1.cell? ⟨w.heap.size, 13, none⟩ = some (.string ⟨#[]⟩) := by rw [Lib.cell_of_heap hg1]; rfl
  have k13 : w1.frozen? ⟨w.heap.size, 13, none⟩ = false := Lib.frozen_of_heap hg1 13
  have n1 : w.heap.size < w1.heap.size + 1 := by omega
  have n2 : w.heap.size < w1.heap.size + 1 + 1 := by omega
  clear hb1 hg1
  go_wp2_with fail
  (try simp only [Exit.inBlock, Exit.then])
  refine bodyPost_ret (ret_cell1 (t := 37) (fr := (0, 0)) rfl _ _ w.heap.size #[.int .i64 10, .slice (some ⟨w1.heap.size + 1 + 1, 0, none⟩) 4 4, .slice none 0 0, .slice none 0 0, .slice none 0 0, .slice none 0 0, .slice none 0 0, .slice none 0 0, .string ⟨#[]⟩, .int .i64 0, .int .i64 0, .int .i64 0, .slice none 0 0, .string ⟨#[]⟩] _ (by rfl) ?hg Tryz.underlying37 rfl fsize) rfl ?_
  case hg =>
    rw [heap_alloc_old _ _ (by simp only [World.size_alloc, World.size_setCell]; omega), heap_alloc_old _ _ (by simp only [World.size_alloc, World.size_setCell]; omega), heap_alloc_old _ _ (by simp only [World.size_alloc, World.size_setCell]; omega)]
    exact blk_set14 HG1.out (.int .i64 10) (.slice (some ⟨w1.heap.size + 1 + 1, 0, none⟩) 4 4) (.slice none 0 0) (.slice none 0 0) (.slice none 0 0) (.slice none 0 0) (.slice none 0 0) (.slice none 0 0) (.string ⟨#[]⟩) (.int .i64 0) (.int .i64 0) (.int .i64 0) (.slice none 0 0) (.string ⟨#[]⟩)
  have HBW := (((below_set14 HB1.out (Nat.le_refl _) (.int .i64 10) (.slice (some ⟨w1.heap.size + 1 + 1, 0, none⟩) 4 4) (.slice none 0 0) (.slice none 0 0) (.slice none 0 0) (.slice none 0 0) (.slice none 0 0) (.slice none 0 0) (.string ⟨#[]⟩) (.int .i64 0) (.int .i64 0) (.int .i64 0) (.slice none 0 0) (.string ⟨#[]⟩)).alloc (by simp only [World.size_setCell]; omega) (.cells #[.int .i64 10, .slice (some ⟨w1.heap.size + 1 + 1, 0, none⟩) 4 4, .slice none 0 0, .slice none 0 0, .slice none 0 0, .slice none 0 0, .slice none 0 0, .slice none 0 0, .string ⟨#[]⟩, .int .i64 0, .int .i64 0, .int .i64 0, .slice none 0 0, .string ⟨#[]⟩] 37)).alloc (by simp only [World.size_alloc, World.size_setCell]; omega) (.cells #[.int .i64 a, .int .i64 b, .int .i64 c, .int .i64 d] 73)).alloc (by simp only [World.size_alloc, World.size_setCell]; omega) (.cells #[.int .i64 a, .int .i64 b, .int .i64 c, .int .i64 d] 3)
  exact ⟨_, rfl, ⟨_, _, _, _, _, _, _, _, rfl, row_block [a, b, c, d] _ _ _ (by unfold maxLen; simp only [List.length_cons, List.length_nil]; omega) _ (by simp only [World.size_alloc, World.size_setCell]), row_nil _ _, row_nil _ _, row_nil _ _, row_nil _ _, entries_nil _ _, events_nil _ _, events_nil _ _⟩, HBW⟩

set_option maxRecDepth 100000 in
set_option maxHeartbeats 6400000 in
theorem flat_app (B : Nat) (v : Value) (a : Int) (b : BW) (w : World) (h : IsMsg B w v (.app a b)) (hB : B ≤ w.heap.size) :
    Calls Tryz.prog 7 #[v] w fun r w' => GotFlat (flatM (.app a b)) w r w' := by
  have HK : HasKind v 11 := hasKind h
  obtain ⟨lv, rfl, i1⟩ := h
  obtain ⟨p1, q1, rfl⟩ := i1.form
  have I1 := Lib.hid i1
  clear i1
  obtain ⟨T, p, F, hv, hm, hcf, hc⟩ := HK
  injection hv with hv1 hv2
  subst hv1 hv2
  have HC := Lib.hid hc
  have qn : ∀ (W : World) (v : Value), (binOp .eql 34 (.iface 75 v) .nilIface).run Tryz.prog W = .ok (.bool false) W := fun W v => by kernel_rfl
  have a0 : ∀ (W : World) (v : Value), (Instr.typeAssert (.iface 75 v) 34 57 true).run Tryz.prog W = .ok (.tuple #[(.agg #[.int .i64 0, .int .i64 0, .int .i64 0]), .bool false]) W := fun W v => by kernel_rfl
  have a1 : ∀ (W : World) (v : Value), (Instr.typeAssert (.iface 75 v) 34 59 true).run Tryz.prog W = .ok (.tuple #[(.agg #[.int .i64 0, .int .i64 0]), .bool false]) W := fun W v => by kernel_rfl
  have a2 : ∀ (W : World) (v : Value), (Instr.typeAssert (.iface 75 v) 34 61 true).run Tryz.prog W = .ok (.tuple #[(.agg #[.int .i64 0, .int .i64 0]), .bool false]) W := fun W v => by kernel_rfl
  have a3 : ∀ (W : World) (v : Value), (Instr.typeAssert (.iface 75 v) 34 63 true).run Tryz.prog W = .ok (.tuple #[(.agg #[.int .i64 0, .slice none 0 0, .slice none 0 0, .slice none 0 0]), .bool false]) W := fun W v => by kernel_rfl
  have a4 : ∀ (W : World) (v : Value), (Instr.typeAssert (.iface 75 v) 34 65 true).run Tryz.prog W = .ok (.tuple #[(.agg #[.int .i64 0]), .bool false]) W := fun W v => by kernel_rfl
  have a5 : ∀ (W : World) (v : Value), (Instr.typeAssert (.iface 75 v) 34 67 true).run Tryz.prog W = .ok (.tuple #[(.agg #[.int .i64 0, .int .i64 0, .int .i64 0, .slice none 0 0]), .bool false]) W := fun W v => by kernel_rfl
  have a6 : ∀ (W : World) (v : Value), (Instr.typeAssert (.iface 75 v) 34 69 true).run Tryz.prog W = .ok (.tuple #[(.agg #[.int .i64 0, .int .i64 0, .int .i64 0, .int .i64 0, .int .i64 0, .int .i64 0, .slice none 0 0]), .bool false]) W := fun W v => by kernel_rfl
  have a7 : ∀ (W : World) (v : Value), (Instr.typeAssert (.iface 75 v) 34 51 true).run Tryz.prog W = .ok (.tuple #[(.agg #[.int .i64 0, .int .i64 0, .int .i64 0]), .bool false]) W := fun W v => by kernel_rfl
  have a8 : ∀ (W : World) (v : Value), (Instr.typeAssert (.iface 75 v) 34 71 true).run Tryz.prog W = .ok (.tuple #[(.agg #[.int .i64 0, .int .i64 0, .int .i64 0, .int .i64 0]), .bool false]) W := fun W v => by kernel_rfl
  have a9 : ∀ (W : World) (v : Value), (Instr.typeAssert (.iface 75 v) 34 73 true).run Tryz.prog W = .ok (.tuple #[(.agg #[.int .i64 0, .int .i64 0, .int .i64 0, .int .i64 0]), .bool false]) W := fun W v => by kernel_rfl
  have a10 : ∀ (W : World) (v : Value), (Instr.typeAssert (.iface 75 v) 34 75 true).run Tryz.prog W = .ok (.tuple #[v, .bool true]) W := fun W v => by kernel_rfl
  have HG0 := Lib.hid (heap_alloc_new w (.cells #[.int .i64 0, .slice none 0 0, .slice none 0 0, .slice none 0 0, .slice none 0 0, .slice none 0 0, .slice none 0 0, .slice none 0 0, .string ⟨#[]⟩, .int .i64 0, .int .i64 0, .int .i64 0, .slice none 0 0, .string ⟨#[]⟩] 37))
  have HB0 := Lib.hid ((Below.refl w.heap.size w).alloc (Nat.le_refl _) (.cells #[.int .i64 0, .slice none 0 0, .slice none 0 0, .slice none 0 0, .slice none 0 0, .slice none 0 0, .slice none 0 0, .slice none 0 0, .string ⟨#[]⟩, .int .i64 0, .int .i64 0, .int .i64 0, .slice none 0 0, .string ⟨#[]⟩] 37))
  clear hc
  go_enter Tryz.func7, Tryz.ntmps7
  go_wp2_with fail
  refine (HC.out _).mono ?_
  rintro r w1 ⟨rfl, hb1⟩
  have HB1 := Lib.hid (bstep HB0.out hb1)
  have hg1 := (hb1.block w.heap.size (by simp only [World.size_alloc]; omega)).trans HG0.out
  have HG1 := Lib.hid hg1
  have hlt1 : w.heap.size < w1.heap.size := (Array.getElem?_eq_some_iff.1 hg1).1
  have z0 : w1.cell? ⟨w.heap.size, 0, none⟩ = some (.int .i64 0) := by rw [Lib.cell_of_heap hg1]; rfl
  have k0 : w1.frozen? ⟨w.heap.size, 0, none⟩ = false := Lib.frozen_of_heap hg1 0
  have z1 : w1.cell? ⟨w.heap.size, 1, none⟩ = some (.slice none 0 0) := by rw [Lib.cell_of_heap hg1]; rfl
  have k1 : w1.frozen? ⟨w.heap.size, 1, none⟩ = false := Lib.frozen_of_heap hg1 1
  have z2 : w1.cell? ⟨w.heap.size, 2, none⟩ = some (.slice none 0 0) := by rw [Lib.cell_of_heap hg1]; rfl
  have k2 : w1.frozen? ⟨w.heap.size, 2, none⟩ = false := Lib.frozen_of_heap hg1 2
  have z3 : w1.cell? ⟨w.heap.size, 3, none⟩ = some (.slice none 0 0) := by rw [Lib.cell_of_heap hg1]; rfl
  have k3 : w1.frozen? ⟨w.heap.size, 3, none⟩ = false := Lib.frozen_of_heap hg1 3
  have z4 : w1.cell? ⟨w.heap.size, 4, none⟩ = some (.slice none 0 0) := by rw [Lib.cell_of_heap hg1]; rfl
  have k4 : w1.frozen? ⟨w.heap.size, 4, none⟩ = false := Lib.frozen_of_heap hg1 4
  have z5 : w1.cell? ⟨w.heap.size, 5, none⟩ = some (.slice none 0 0) := by rw [Lib.cell_of_heap hg1]; rfl
  have k5 : w1.frozen? ⟨w.heap.size, 5, none⟩ = false := Lib.frozen_of_heap hg1 5
  have z6 : w1.cell? ⟨w.heap.size, 6, none⟩ = some (.slice none 0 0) := by rw [Lib.cell_of_heap hg1]; rfl
  have k6 : w1.frozen? ⟨w.heap.size, 6, none⟩ = false := Lib.frozen_of_heap hg1 6
  have z7 : w1.cell? ⟨w.heap.size, 7, none⟩ = some (.slice none 0 0) := by rw [Lib.cell_of_heap hg1]; rfl
  have k7 : w1.frozen? ⟨w.heap.size, 7, none⟩ = false := Lib.frozen_of_heap hg1 7
  have z8 : w1.cell? ⟨w.heap.size, 8, none⟩ = some (.string ⟨#[]⟩) := by rw [Lib.cell_of_heap hg1]; rfl
  have k8 : w1.frozen? ⟨w.heap.size, 8, none⟩ = false := Lib.frozen_of_heap hg1 8
  have z9 : w1.cell? ⟨w.heap.size, 9, none⟩ = some (.int .i64 0) := by rw [Lib.cell_of_heap hg1]; rfl
  have k9 : w1.frozen? ⟨w.heap.size, 9, none⟩ = false := Lib.frozen_of_heap hg1 9
  have z10 : w1.cell? ⟨w.heap.size, 10, none⟩ = some (.int .i64 0) := by rw [Lib.cell_of_heap hg1]; rfl
  have k10 : w1.frozen? ⟨w.heap.size, 10, none⟩ = false := Lib.frozen_of_heap hg1 10
  have z11 : w1.cell? ⟨w.heap.size, 11, none⟩ = some (.int .i64 0) := by rw [Lib.cell_of_heap hg1]; rfl
  have k11 : w1.frozen? ⟨w.heap.size, 11, none⟩ = false := Lib.frozen_of_heap hg1 11
  have z12 : w1.cell? ⟨w.heap.size, 12, none⟩ = some (.slice none 0 0) := by rw [Lib.cell_of_heap hg1]; rfl
  have k12 : w1.frozen? ⟨w.heap.size, 12, none⟩ = false := Lib.frozen_of_heap hg1 12
  have z13 : w1.cell? ⟨w.heap.size, 13, none⟩ = some (.string ⟨#[]⟩) := by rw [Lib.cell_of_heap hg1]; rfl
  have k13 : w1.frozen? ⟨w.heap.size, 13, none⟩ = false := Lib.frozen_of_heap hg1 13
  have n1 : w.heap.size < w1.heap.size + 1 := by omega
  have n2 : w.heap.size < w1.heap.size + 1 + 1 := by omega
  clear hb1 hg1
  go_wp2_with fail
  (try simp only [Exit.inBlock, Exit.then])
  refine bodyPost_ret (ret_cell1 (t := 37) (fr := (0, 0)) rfl _ _ w.heap.size #[.int .i64 11, .slice (some ⟨w1.heap.size + 1 + 1, 0, none⟩) 1 1, .slice none 0 0, .slice none 0 0, .slice none 0 0, .slice none 0 0, .slice none 0 0, .slice none 0 0, .string b.stream, .int .i64 b.expect, .int .i64 b.session, .int .i64 b.seq, .slice p1 b.events.length q1, .string ⟨#[]⟩] _ (by rfl) ?hg Tryz.underlying37 rfl fsize) rfl ?_
  case hg =>
    rw [heap_alloc_old _ _ (by simp only [World.size_alloc, World.size_setCell]; omega), heap_alloc_old _ _ (by simp only [World.size_alloc, World.size_setCell]; omega), heap_alloc_old _ _ (by simp only [World.size_alloc, World.size_setCell]; omega)]
    exact blk_set14 HG1.out (.int .i64 11) (.slice (some ⟨w1.heap.size + 1 + 1, 0, none⟩) 1 1) (.slice none 0 0) (.slice none 0 0) (.slice none 0 0) (.slice none 0 0) (.slice none 0 0) (.slice none 0 0) (.string b.stream) (.int .i64 b.expect) (.int .i64 b.session) (.int .i64 b.seq) (.slice p1 b.events.length q1) (.string ⟨#[]⟩)
  have HBW := (((below_set14 HB1.out (Nat.le_refl _) (.int .i64 11) (.slice (some ⟨w1.heap.size + 1 + 1, 0, none⟩) 1 1) (.slice none 0 0) (.slice none 0 0) (.slice none 0 0) (.slice none 0 0) (.slice none 0 0) (.slice none 0 0) (.string b.stream) (.int .i64 b.expect) (.int .i64 b.session) (.int .i64 b.seq) (.slice p1 b.events.length q1) (.string ⟨#[]⟩)).alloc (by simp only [World.size_setCell]; omega) (.cells #[.int .i64 11, .slice (some ⟨w1.heap.size + 1 + 1, 0, none⟩) 1 1, .slice none 0 0, .slice none 0 0, .slice none 0 0, .slice none 0 0, .slice none 0 0, .slice none 0 0, .string b.stream, .int .i64 b.expect, .int .i64 b.session, .int .i64 b.seq, .slice p1 b.events.length q1, .string ⟨#[]⟩] 37)).alloc (by simp only [World.size_alloc, World.size_setCell]; omega) (.cells #[.int .i64 a, .string b.stream, .int .i64 b.expect, .int .i64 b.session, .int .i64 b.seq, .slice p1 b.events.length q1] 75)).alloc (by simp only [World.size_alloc, World.size_setCell]; omega) (.cells #[.int .i64 a] 3)
  exact ⟨_, rfl, ⟨_, _, _, _, _, _, _, _, rfl, row_block [a] _ _ _ (by unfold maxLen; simp only [List.length_cons, List.length_nil]; omega) _ (by simp only [World.size_alloc, World.size_setCell]), row_nil _ _, row_nil _ _, row_nil _ _, row_nil _ _, entries_nil _ _, events_nil _ _, ((I1.out.keep HBW hB).up (Nat.le_trans hB HBW.size))⟩, HBW⟩

set_option maxRecDepth 100000 in
set_option maxHeartbeats 6400000 in
theorem flat_red (B : Nat) (v : Value) (a : Int) (s : ByteArray) (f : Int) (w : World) (h : IsMsg B w v (.red a s f)) (hB : B ≤ w.heap.size) :
    Calls Tryz.prog 7 #[v] w fun r w' => GotFlat (flatM (.red a s f)) w r w' := by
  have HK : HasKind v 12 := hasKind h
  obtain rfl := h
  obtain ⟨T, p, F, hv, hm, hcf, hc⟩ := HK
  injection hv with hv1 hv2
  subst hv1 hv2
  have HC := Lib.hid hc
  have qn : ∀ (W : World) (v : Value), (binOp .eql 34 (.iface 77 v) .nilIface).run Tryz.prog W = .ok (.bool false) W := fun W v => by kernel_rfl
  have a0 : ∀ (W : World) (v : Value), (Instr.typeAssert (.iface 77 v) 34 57 true).run Tryz.prog W = .ok (.tuple #[(.agg #[.int .i64 0, .int .i64 0, .int .i64 0]), .bool false]) W := fun W v => by kernel_rfl
  have a1 : ∀ (W : World) (v : Value), (Instr.typeAssert (.iface 77 v) 34 59 true).run Tryz.prog W = .ok (.tuple #[(.agg #[.int .i64 0, .int .i64 0]), .bool false]) W := fun W v => by kernel_rfl
  have a2 : ∀ (W : World) (v : Value), (Instr.typeAssert (.iface 77 v) 34 61 true).run Tryz.prog W = .ok (.tuple #[(.agg #[.int .i64 0, .int .i64 0]), .bool false]) W := fun W v => by kernel_rfl
  have a3 : ∀ (W : World) (v : Value), (Instr.typeAssert (.iface 77 v) 34 63 true).run Tryz.prog W = .ok (.tuple #[(.agg #[.int .i64 0, .slice none 0 0, .slice none 0 0, .slice none 0 0]), .bool false]) W := fun W v => by kernel_rfl
  have a4 : ∀ (W : World) (v : Value), (Instr.typeAssert (.iface 77 v) 34 65 true).run Tryz.prog W = .ok (.tuple #[(.agg #[.int .i64 0]), .bool false]) W := fun W v => by kernel_rfl
  have a5 : ∀ (W : World) (v : Value), (Instr.typeAssert (.iface 77 v) 34 67 true).run Tryz.prog W = .ok (.tuple #[(.agg #[.int .i64 0, .int .i64 0, .int .i64 0, .slice none 0 0]), .bool false]) W := fun W v => by kernel_rfl
  have a6 : ∀ (W : World) (v : Value), (Instr.typeAssert (.iface 77 v) 34 69 true).run Tryz.prog W = .ok (.tuple #[(.agg #[.int .i64 0, .int .i64 0, .int .i64 0, .int .i64 0, .int .i64 0, .int .i64 0, .slice none 0 0]), .bool false]) W := fun W v => by kernel_rfl
  have a7 : ∀ (W : World) (v : Value), (Instr.typeAssert (.iface 77 v) 34 51 true).run Tryz.prog W = .ok (.tuple #[(.agg #[.int .i64 0, .int .i64 0, .int .i64 0]), .bool false]) W := fun W v => by kernel_rfl
  have a8 : ∀ (W : World) (v : Value), (Instr.typeAssert (.iface 77 v) 34 71 true).run Tryz.prog W = .ok (.tuple #[(.agg #[.int .i64 0, .int .i64 0, .int .i64 0, .int .i64 0]), .bool false]) W := fun W v => by kernel_rfl
  have a9 : ∀ (W : World) (v : Value), (Instr.typeAssert (.iface 77 v) 34 73 true).run Tryz.prog W = .ok (.tuple #[(.agg #[.int .i64 0, .int .i64 0, .int .i64 0, .int .i64 0]), .bool false]) W := fun W v => by kernel_rfl
  have a10 : ∀ (W : World) (v : Value), (Instr.typeAssert (.iface 77 v) 34 75 true).run Tryz.prog W = .ok (.tuple #[(.agg #[.int .i64 0, .string ByteArray.empty, .int .i64 0, .int .i64 0, .int .i64 0, .slice none 0 0]), .bool false]) W := fun W v => by kernel_rfl
  have a11 : ∀ (W : World) (v : Value), (Instr.typeAssert (.iface 77 v) 34 77 true).run Tryz.prog W = .ok (.tuple #[v, .bool true]) W := fun W v => by kernel_rfl
  have HG0 := Lib.hid (heap_alloc_new w (.cells #[.int .i64 0, .slice none 0 0, .slice none 0 0, .slice none 0 0, .slice none 0 0, .slice none 0 0, .slice none 0 0, .slice none 0 0, .string ⟨#[]⟩, .int .i64 0, .int .i64 0, .int .i64 0, .slice none 0 0, .string ⟨#[]⟩] 37))
  have HB0 := Lib.hid ((Below.refl w.heap.size w).alloc (Nat.le_refl _) (.cells #[.int .i64 0, .slice none 0 0, .slice none 0 0, .slice none 0 0, .slice none 0 0, .slice none 0 0, .slice none 0 0, .slice none 0 0, .string ⟨#[]⟩, .int .i64 0, .int .i64 0, .int .i64 0, .slice none 0 0, .string ⟨#[]⟩] 37))
  clear hc
  go_enter Tryz.func7, Tryz.ntmps7
  go_wp2_with fail
  refine (HC.out _).mono ?_
  rintro r w1 ⟨rfl, hb1⟩
  have HB1 := Lib.hid (bstep HB0.out hb1)
  have hg1 := (hb1.block w.heap.size (by simp only [World.size_alloc]; omega)).trans HG0.out
  have HG1 := Lib.hid hg1
  have hlt1 : w.heap.size < w1.heap.size := (Array.getElem?_eq_some_iff.1 hg1).1
  have z0 : w1.cell? ⟨w.heap.size, 0, none⟩ = some (.int .i64 0) := by rw [Lib.cell_of_heap hg1]; rfl
  have k0 : w1.frozen? ⟨w.heap.size, 0, none⟩ = false := Lib.frozen_of_heap hg1 0
  have z1 : w1.cell? ⟨w.heap.size, 1, none⟩ = some (.slice none 0 0) := by rw [Lib.cell_of_heap hg1]; rfl
  have k1 : w1.frozen? ⟨w.heap.size, 1, none⟩ = false := Lib.frozen_of_heap hg1 1
  have z2 : w1.cell? ⟨w.heap.size, 2, none⟩ = some (.slice none 0 0) := by rw [Lib.cell_of_heap hg1]; rfl
  have k2 : w1.frozen? ⟨w.heap.size, 2, none⟩ = false := Lib.frozen_of_heap hg1 2
  have z3 : w1.cell? ⟨w.heap.size, 3, none⟩ = some (.slice none 0 0) := by rw [Lib.cell_of_heap hg1]; rfl
  have k3 : w1.frozen? ⟨w.heap.size, 3, none⟩ = false := Lib.frozen_of_heap hg1 3
  have z4 : w1.cell? ⟨w.heap.size, 4, none⟩ = some (.slice none 0 0) := by rw [Lib.cell_of_heap hg1]; rfl
  have k4 : w1.frozen? ⟨w.heap.size, 4, none⟩ = false := Lib.frozen_of_heap hg1 4
  have z5 : w1.cell? ⟨w.heap.size, 5, none⟩ = some (.slice none 0 0) := by rw [Lib.cell_of_heap hg1]; rfl
  have k5 : w1.frozen? ⟨w.heap.size, 5, none⟩ = false := Lib.frozen_of_heap hg1 5
  have z6 : w1.cell? ⟨w.heap.size, 6, none⟩ = some (.slice none 0 0) := by rw [Lib.cell_of_heap hg1]; rfl
  have k6 : w1.frozen? ⟨w.heap.size, 6, none⟩ = false := Lib.frozen_of_heap hg1 6
  have z7 : w1.cell? ⟨w.heap.size, 7, none⟩ = some (.slice none 0 0) := by rw [Lib.cell_of_heap hg1]; rfl
  have k7 : w1.frozen? ⟨w.heap.size, 7, none⟩ = false := Lib.frozen_of_heap hg1 7
  have z8 : w1.cell? ⟨w.heap.size, 8, none⟩ = some (.string ⟨#[]⟩) := by rw [Lib.cell_of_heap hg1]; rfl
  have k8 : w1.frozen? ⟨w.heap.size, 8, none⟩ = false := Lib.frozen_of_heap hg1 8
  have z9 : w1.cell? ⟨w.heap.size, 9, none⟩ = some (.int .i64 0) := by rw [Lib.cell_of_heap hg1]; rfl
  have k9 : w1.frozen? ⟨w.heap.size, 9, none⟩ = false := Lib.frozen_of_heap hg1 9
  have z10 : w1.cell? ⟨w.heap.size, 10, none⟩ = some (.int .i64 0) := by rw [Lib.cell_of_heap hg1]; rfl
  have k10 : w1.frozen? ⟨w.heap.size, 10, none⟩ = false := Lib.frozen_of_heap hg1 10
  have z11 : w1.cell? ⟨w.heap.size, 11, none⟩ = some (.int .i64 0) := by rw [Lib.cell_of_heap hg1]; rfl
  have k11 : w1.frozen? ⟨w.heap.size, 11, none⟩ = false := Lib.frozen_of_heap hg1 11
  have z12 : w1.cell? ⟨w.heap.size, 12, none⟩ = some (.slice none 0 0) := by rw [Lib.cell_of_heap hg1]; rfl
  have k12 : w1.frozen? ⟨w.heap.size, 12, none⟩ = false := Lib.frozen_of_heap hg1 12
  have z13 : w1.cell? ⟨w.heap.size, 13, none⟩ = some (.string ⟨#[]⟩) := by rw [Lib.cell_of_heap hg1]; rfl
  have k13 : w1.frozen? ⟨w.heap.size, 13, none⟩ = false := Lib.frozen_of_heap hg1 13
  have n1 : w.heap.size < w1.heap.size + 1 := by omega
  have n2 : w.heap.size < w1.heap.size + 1 + 1 := by omega
  clear hb1 hg1
  go_wp2_with fail
  (try simp only [Exit.inBlock, Exit.then])
  refine bodyPost_ret (ret_cell1 (t := 37) (fr := (0, 0)) rfl _ _ w.heap.size #[.int .i64 12, .slice (some ⟨w1.heap.size + 1 + 1, 0, none⟩) 2 2, .slice none 0 0, .slice none 0 0, .slice none 0 0, .slice none 0 0, .slice none 0 0, .slice none 0 0, .string ⟨#[]⟩, .int .i64 0, .int .i64 0, .int .i64 0, .slice none 0 0, .string s] _ (by rfl) ?hg Tryz.underlying37 rfl fsize) rfl ?_
  case hg =>
    rw [heap_alloc_old _ _ (by simp only [World.size_alloc, World.size_setCell]; omega), heap_alloc_old _ _ (by simp only [World.size_alloc, World.size_setCell]; omega), heap_alloc_old _ _ (by simp only [World.size_alloc, World.size_setCell]; omega)]
    exact blk_set14 HG1.out (.int .i64 12) (.slice (some ⟨w1.heap.size + 1 + 1, 0, none⟩) 2 2) (.slice none 0 0) (.slice none 0 0) (.slice none 0 0) (.slice none 0 0) (.slice none 0 0) (.slice none 0 0) (.string ⟨#[]⟩) (.int .i64 0) (.int .i64 0) (.int .i64 0) (.slice none 0 0) (.string s)
  have HBW := (((below_set14 HB1.out (Nat.le_refl _) (.int .i64 12) (.slice (some ⟨w1.heap.size + 1 + 1, 0, none⟩) 2 2) (.slice none 0 0) (.slice none 0 0) (.slice none 0 0) (.slice none 0 0) (.slice none 0 0) (.slice none 0 0) (.string ⟨#[]⟩) (.int .i64 0) (.int .i64 0) (.int .i64 0) (.slice none 0 0) (.string s)).alloc (by simp only [World.size_setCell]; omega) (.cells #[.int .i64 12, .slice (some ⟨w1.heap.size + 1 + 1, 0, none⟩) 2 2, .slice none 0 0, .slice none 0 0, .slice none 0 0, .slice none 0 0, .slice none 0 0, .slice none 0 0, .string ⟨#[]⟩, .int .i64 0, .int .i64 0, .int .i64 0, .slice none 0 0, .string s] 37)).alloc (by simp only [World.size_alloc, World.size_setCell]; omega) (.cells #[.int .i64 a, .string s, .int .i64 f] 77)).alloc (by simp only [World.size_alloc, World.size_setCell]; omega) (.cells #[.int .i64 a, .int .i64 f] 3)
  exact ⟨_, rfl, ⟨_, _, _, _, _, _, _, _, rfl, row_block [a, f] _ _ _ (by unfold maxLen; simp only [List.length_cons, List.length_nil]; omega) _ (by simp only [World.size_alloc, World.size_setCell]), row_nil _ _, row_nil _ _, row_nil _ _, row_nil _ _, entries_nil _ _, events_nil _ _, events_nil _ _⟩, HBW⟩

set_option maxRecDepth 100000 in
set_option maxHeartbeats 6400000 in
theorem flat_rep (B : Nat) (v : Value) (a b c d e f : Int) (w : World) (h : IsMsg B w v (.rep a b c d e f)) (hB : B ≤ w.heap.size) :
    Calls Tryz.prog 7 #[v] w fun r w' => GotFlat (flatM (.rep a b c d e f)) w r w' := by
  have HK : HasKind v 13 := hasKind h
  obtain rfl := h
  obtain ⟨T, p, F, hv, hm, hcf, hc⟩ := HK
  injection hv with hv1 hv2
  subst hv1 hv2
  have HC := Lib.hid hc
  have qn : ∀ (W : World) (v : Value), (binOp .eql 34 (.iface 81 v) .nilIface).run Tryz.prog W = .ok (.bool false) W := fun W v => by kernel_rfl
  have a0 : ∀ (W : World) (v : Value), (Instr.typeAssert (.iface 81 v) 34 57 true).run Tryz.prog W = .ok (.tuple #[(.agg #[.int .i64 0, .int .i64 0, .int .i64 0]), .bool false]) W := fun W v => by kernel_rfl
  have a1 : ∀ (W : World) (v : Value), (Instr.typeAssert (.iface 81 v) 34 59 true).run Tryz.prog W = .ok (.tuple #[(.agg #[.int .i64 0, .int .i64 0]), .bool false]) W := fun W v => by kernel_rfl
  have a2 : ∀ (W : World) (v : Value), (Instr.typeAssert (.iface 81 v) 34 61 true).run Tryz.prog W = .ok (.tuple #[(.agg #[.int .i64 0, .int .i64 0]), .bool false]) W := fun W v => by kernel_rfl
  have a3 : ∀ (W : World) (v : Value), (Instr.typeAssert (.iface 81 v) 34 63 true).run Tryz.prog W = .ok (.tuple #[(.agg #[.int .i64 0, .slice none 0 0, .slice none 0 0, .slice none 0 0]), .bool false]) W := fun W v => by kernel_rfl
  have a4 : ∀ (W : World) (v : Value), (Instr.typeAssert (.iface 81 v) 34 65 true).run Tryz.prog W = .ok (.tuple #[(.agg #[.int .i64 0]), .bool false]) W := fun W v => by kernel_rfl
  have a5 : ∀ (W : World) (v : Value), (Instr.typeAssert (.iface 81 v) 34 67 true).run Tryz.prog W = .ok (.tuple #[(.agg #[.int .i64 0, .int .i64 0, .int .i64 0, .slice none 0 0]), .bool false]) W := fun W v => by kernel_rfl
  have a6 : ∀ (W : World) (v : Value), (Instr.typeAssert (.iface 81 v) 34 69 true).run Tryz.prog W = .ok (.tuple #[(.agg #[.int .i64 0, .int .i64 0, .int .i64 0, .int .i64 0, .int .i64 0, .int .i64 0, .slice none 0 0]), .bool false]) W := fun W v => by kernel_rfl
  have a7 : ∀ (W : World) (v : Value), (Instr.typeAssert (.iface 81 v) 34 51 true).run Tryz.prog W = .ok (.tuple #[(.agg #[.int .i64 0, .int .i64 0, .int .i64 0]), .bool false]) W := fun W v => by kernel_rfl
  have a8 : ∀ (W : World) (v : Value), (Instr.typeAssert (.iface 81 v) 34 71 true).run Tryz.prog W = .ok (.tuple #[(.agg #[.int .i64 0, .int .i64 0, .int .i64 0, .int .i64 0]), .bool false]) W := fun W v => by kernel_rfl
  have a9 : ∀ (W : World) (v : Value), (Instr.typeAssert (.iface 81 v) 34 73 true).run Tryz.prog W = .ok (.tuple #[(.agg #[.int .i64 0, .int .i64 0, .int .i64 0, .int .i64 0]), .bool false]) W := fun W v => by kernel_rfl
  have a10 : ∀ (W : World) (v : Value), (Instr.typeAssert (.iface 81 v) 34 75 true).run Tryz.prog W = .ok (.tuple #[(.agg #[.int .i64 0, .string ByteArray.empty, .int .i64 0, .int .i64 0, .int .i64 0, .slice none 0 0]), .bool false]) W := fun W v => by kernel_rfl
  have a11 : ∀ (W : World) (v : Value), (Instr.typeAssert (.iface 81 v) 34 77 true).run Tryz.prog W = .ok (.tuple #[(.agg #[.int .i64 0, .string ByteArray.empty, .int .i64 0]), .bool false]) W := fun W v => by kernel_rfl
  have a12 : ∀ (W : World) (v : Value), (Instr.typeAssert (.iface 81 v) 34 81 true).run Tryz.prog W = .ok (.tuple #[v, .bool true]) W := fun W v => by kernel_rfl
  have HG0 := Lib.hid (heap_alloc_new w (.cells #[.int .i64 0, .slice none 0 0, .slice none 0 0, .slice none 0 0, .slice none 0 0, .slice none 0 0, .slice none 0 0, .slice none 0 0, .string ⟨#[]⟩, .int .i64 0, .int .i64 0, .int .i64 0, .slice none 0 0, .string ⟨#[]⟩] 37))
  have HB0 := Lib.hid ((Below.refl w.heap.size w).alloc (Nat.le_refl _) (.cells #[.int .i64 0, .slice none 0 0, .slice none 0 0, .slice none 0 0, .slice none 0 0, .slice none 0 0, .slice none 0 0, .slice none 0 0, .string ⟨#[]⟩, .int .i64 0, .int .i64 0, .int .i64 0, .slice none 0 0, .string ⟨#[]⟩] 37))
  clear hc
  go_enter Tryz.func7, Tryz.ntmps7
  go_wp2_with fail
  refine (HC.out _).mono ?_
  rintro r w1 ⟨rfl, hb1⟩
  have HB1 := Lib.hid (bstep HB0.out hb1)
  have hg1 := (hb1.block w.heap.size (by simp only [World.size_alloc]; omega)).trans HG0.out
  have HG1 := Lib.hid hg1
  have hlt1 : w.heap.size < w1.heap.size := (Array.getElem?_eq_some_iff.1 hg1).1
  have z0 : w1.cell? ⟨w.heap.size, 0, none⟩ = some (.int .i64 0) := by rw [Lib.cell_of_heap hg1]; rfl
  have k0 : w1.frozen? ⟨w.heap.size, 0, none⟩ = false := Lib.frozen_of_heap hg1 0
  have z1 : w1.cell? ⟨w.heap.size, 1, none⟩ = some (.slice none 0 0) := by rw [Lib.cell_of_heap hg1]; rfl
  have k1 : w1.frozen? ⟨w.heap.size, 1, none⟩ = false := Lib.frozen_of_heap hg1 1
  have z2 : w1.cell? ⟨w.heap.size, 2, none⟩ = some (.slice none 0 0) := by rw [Lib.cell_of_heap hg1]; rfl
  have k2 : w1.frozen? ⟨w.heap.size, 2, none⟩ = false := Lib.frozen_of_heap hg1 2
  have z3 : w1.cell? ⟨w.heap.size, 3, none⟩ = some (.slice none 0 0) := by rw [Lib.cell_of_heap hg1]; rfl
  have k3 : w1.frozen? ⟨w.heap.size, 3, none⟩ = false := Lib.frozen_of_heap hg1 3
  have z4 : w1.cell? ⟨w.heap.size, 4, none⟩ = some (.slice none 0 0) := by rw [Lib.cell_of_heap hg1]; rfl
  have k4 : w1.frozen? ⟨w.heap.size, 4, none⟩ = false := Lib.frozen_of_heap hg1 4
  have z5 : w1.cell? ⟨w.heap.size, 5, none⟩ = some (.slice none 0 0) := by rw [Lib.cell_of_heap hg1]; rfl
  have k5 : w1.frozen? ⟨w.heap.size, 5, none⟩ = false := Lib.frozen_of_heap hg1 5
  have z6 : w1.cell? ⟨w.heap.size, 6, none⟩ = some (.slice none 0 0) := by rw [Lib.cell_of_heap hg1]; rfl
  have k6 : w1.frozen? ⟨w.heap.size, 6, none⟩ = false := Lib.frozen_of_heap hg1 6
  have z7 : w1.cell? ⟨w.heap.size, 7, none⟩ = some (.slice none 0 0) := by rw [Lib.cell_of_heap hg1]; rfl
  have k7 : w1.frozen? ⟨w.heap.size, 7, none⟩ = false := Lib.frozen_of_heap hg1 7
  have z8 : w1.cell? ⟨w.heap.size, 8, none⟩ = some (.string ⟨#[]⟩) := by rw [Lib.cell_of_heap hg1]; rfl
  have k8 : w1.frozen? ⟨w.heap.size, 8, none⟩ = false := Lib.frozen_of_heap hg1 8
  have z9 : w1.cell? ⟨w.heap.size, 9, none⟩ = some (.int .i64 0) := by rw [Lib.cell_of_heap hg1]; rfl
  have k9 : w1.frozen? ⟨w.heap.size, 9, none⟩ = false := Lib.frozen_of_heap hg1 9
  have z10 : w1.cell? ⟨w.heap.size, 10, none⟩ = some (.int .i64 0) := by rw [Lib.cell_of_heap hg1]; rfl
  have k10 : w1.frozen? ⟨w.heap.size, 10, none⟩ = false := Lib.frozen_of_heap hg1 10
  have z11 : w1.cell? ⟨w.heap.size, 11, none⟩ = some (.int .i64 0) := by rw [Lib.cell_of_heap hg1]; rfl
  have k11 : w1.frozen? ⟨w.heap.size, 11, none⟩ = false := Lib.frozen_of_heap hg1 11
  have z12 : w1.cell? ⟨w.heap.size, 12, none⟩ = some (.slice none 0 0) := by rw [Lib.cell_of_heap hg1]; rfl
  have k12 : w1.frozen? ⟨w.heap.size, 12, none⟩ = false := Lib.frozen_of_heap hg1 12
  have z13 : w1.cell? ⟨w.heap.size, 13, none⟩ = some (.string ⟨#[]⟩) := by rw [Lib.cell_of_heap hg1]; rfl
  have k13 : w1.frozen? ⟨w.heap.size, 13, none⟩ = false := Lib.frozen_of_heap hg1 13
  have n1 : w.heap.size < w1.heap.size + 1 := by omega
  have n2 : w.heap.size < w1.heap.size + 1 + 1 := by omega
  clear hb1 hg1
  go_wp2_with fail
  (try simp only [Exit.inBlock, Exit.then])
  refine bodyPost_ret (ret_cell1 (t := 37) (fr := (0, 0)) rfl _ _ w.heap.size #[.int .i64 13, .slice (some ⟨w1.heap.size + 1 + 1, 0, none⟩) 6 6, .slice none 0 0, .slice none 0 0, .slice none 0 0, .slice none 0 0, .slice none 0 0, .slice none 0 0, .string ⟨#[]⟩, .int .i64 0, .int .i64 0, .int .i64 0, .slice none 0 0, .string ⟨#[]⟩] _ (by rfl) ?hg Tryz.underlying37 rfl fsize) rfl ?_
  case hg =>
    rw [heap_alloc_old _ _ (by simp only [World.size_alloc, World.size_setCell]; omega), heap_alloc_old _ _ (by simp only [World.size_alloc, World.size_setCell]; omega), heap_alloc_old _ _ (by simp only [World.size_alloc, World.size_setCell]; omega)]
    exact blk_set14 HG1.out (.int .i64 13) (.slice (some ⟨w1.heap.size + 1 + 1, 0, none⟩) 6 6) (.slice none 0 0) (.slice none 0 0) (.slice none 0 0) (.slice none 0 0) (.slice none 0 0) (.slice none 0 0) (.string ⟨#[]⟩) (.int .i64 0) (.int .i64 0) (.int .i64 0) (.slice none 0 0) (.string ⟨#[]⟩)
  have HBW := (((below_set14 HB1.out (Nat.le_refl _) (.int .i64 13) (.slice (some ⟨w1.heap.size + 1 + 1, 0, none⟩) 6 6) (.slice none 0 0) (.slice none 0 0) (.slice none 0 0) (.slice none 0 0) (.slice none 0 0) (.slice none 0 0) (.string ⟨#[]⟩) (.int .i64 0) (.int .i64 0) (.int .i64 0) (.slice none 0 0) (.string ⟨#[]⟩)).alloc (by simp only [World.size_setCell]; omega) (.cells #[.int .i64 13, .slice (some ⟨w1.heap.size + 1 + 1, 0, none⟩) 6 6, .slice none 0 0, .slice none 0 0, .slice none 0 0, .slice none 0 0, .slice none 0 0, .slice none 0 0, .string ⟨#[]⟩, .int .i64 0, .int .i64 0, .int .i64 0, .slice none 0 0, .string ⟨#[]⟩] 37)).alloc (by simp only [World.size_alloc, World.size_setCell]; omega) (.cells #[.int .i64 a, .int .i64 b, .int .i64 c, .int .i64 d, .int .i64 e, .int .i64 f] 81)).alloc (by simp only [World.size_alloc, World.size_setCell]; omega) (.cells #[.int .i64 a, .int .i64 b, .int .i64 c, .int .i64 d, .int .i64 e, .int .i64 f] 3)
  exact ⟨_, rfl, ⟨_, _, _, _, _, _, _, _, rfl, row_block [a, b, c, d, e, f] _ _ _ (by unfold maxLen; simp only [List.length_cons, List.length_nil]; omega) _ (by simp only [World.size_alloc, World.size_setCell]), row_nil _ _, row_nil _ _, row_nil _ _, row_nil _ _, entries_nil _ _, events_nil _ _, events_nil _ _⟩, HBW⟩

set_option maxRecDepth 100000 in
set_option maxHeartbeats 6400000 in
theorem flat_res (B : Nat) (v : Value) (a b c : Int) (l : List EV) (w : World) (h : IsMsg B w v (.res a b c l)) (hB : B ≤ w.heap.size) :
    Calls Tryz.prog 7 #[v] w fun r w' => GotFlat (flatM (.res a b c l)) w r w' := by
  have HK : HasKind v 14 := hasKind h
  obtain ⟨lv, rfl, i1⟩ := h
  obtain ⟨p1, q1, rfl⟩ := i1.form
  have I1 := Lib.hid i1
  clear i1
  obtain ⟨T, p, F, hv, hm, hcf, hc⟩ := HK
  injection hv with hv1 hv2
  subst hv1 hv2
  have HC := Lib.hid hc
  have qn : ∀ (W : World) (v : Value), (binOp .eql 34 (.iface 83 v) .nilIface).run Tryz.prog W = .ok (.bool false) W := fun W v => by kernel_rfl
  have a0 : ∀ (W : World) (v : Value), (Instr.typeAssert (.iface 83 v) 34 57 true).run Tryz.prog W = .ok (.tuple #[(.agg #[.int .i64 0, .int .i64 0, .int .i64 0]), .bool false]) W := fun W v => by kernel_rfl
  have a1 : ∀ (W : World) (v : Value), (Instr.typeAssert (.iface 83 v) 34 59 true).run Tryz.prog W = .ok (.tuple #[(.agg #[.int .i64 0, .int .i64 0]), .bool false]) W := fun W v => by kernel_rfl
  have a2 : ∀ (W : World) (v : Value), (Instr.typeAssert (.iface 83 v) 34 61 true).run Tryz.prog W = .ok (.tuple #[(.agg #[.int .i64 0, .int .i64 0]), .bool false]) W := fun W v => by kernel_rfl
  have a3 : ∀ (W : World) (v : Value), (Instr.typeAssert (.iface 83 v) 34 63 true).run Tryz.prog W = .ok (.tuple #[(.agg #[.int .i64 0, .slice none 0 0, .slice none 0 0, .slice none 0 0]), .bool false]) W := fun W v => by kernel_rfl
  have a4 : ∀ (W : World) (v : Value), (Instr.typeAssert (.iface 83 v) 34 65 true).run Tryz.prog W = .ok (.tuple #[(.agg #[.int .i64 0]), .bool false]) W := fun W v => by kernel_rfl
  have a5 : ∀ (W : World) (v : Value), (Instr.typeAssert (.iface 83 v) 34 67 true).run Tryz.prog W = .ok (.tuple #[(.agg #[.int .i64 0, .int .i64 0, .int .i64 0, .slice none 0 0]), .bool false]) W := fun W v => by kernel_rfl
  have a6 : ∀ (W : World) (v : Value), (Instr.typeAssert (.iface 83 v) 34 69 true).run Tryz.prog W = .ok (.tuple #[(.agg #[.int .i64 0, .int .i64 0, .int .i64 0, .int .i64 0, .int .i64 0, .int .i64 0, .slice none 0 0]), .bool false]) W := fun W v => by kernel_rfl
  have a7 : ∀ (W : World) (v : Value), (Instr.typeAssert (.iface 83 v) 34 51 true).run Tryz.prog W = .ok (.tuple #[(.agg #[.int .i64 0, .int .i64 0, .int .i64 0]), .bool false]) W := fun W v => by kernel_rfl
  have a8 : ∀ (W : World) (v : Value), (Instr.typeAssert (.iface 83 v) 34 71 true).run Tryz.prog W = .ok (.tuple #[(.agg #[.int .i64 0, .int .i64 0, .int .i64 0, .int .i64 0]), .bool false]) W := fun W v => by kernel_rfl
  have a9 : ∀ (W : World) (v : Value), (Instr.typeAssert (.iface 83 v) 34 73 true).run Tryz.prog W = .ok (.tuple #[(.agg #[.int .i64 0, .int .i64 0, .int .i64 0, .int .i64 0]), .bool false]) W := fun W v => by kernel_rfl
  have a10 : ∀ (W : World) (v : Value), (Instr.typeAssert (.iface 83 v) 34 75 true).run Tryz.prog W = .ok (.tuple #[(.agg #[.int .i64 0, .string ByteArray.empty, .int .i64 0, .int .i64 0, .int .i64 0, .slice none 0 0]), .bool false]) W := fun W v => by kernel_rfl
  have a11 : ∀ (W : World) (v : Value), (Instr.typeAssert (.iface 83 v) 34 77 true).run Tryz.prog W = .ok (.tuple #[(.agg #[.int .i64 0, .string ByteArray.empty, .int .i64 0]), .bool false]) W := fun W v => by kernel_rfl
  have a12 : ∀ (W : World) (v : Value), (Instr.typeAssert (.iface 83 v) 34 81 true).run Tryz.prog W = .ok (.tuple #[(.agg #[.int .i64 0, .int .i64 0, .int .i64 0, .int .i64 0, .int .i64 0, .int .i64 0]), .bool false]) W := fun W v => by kernel_rfl
  have a13 : ∀ (W : World) (v : Value), (Instr.typeAssert (.iface 83 v) 34 83 true).run Tryz.prog W = .ok (.tuple #[v, .bool true]) W := fun W v => by kernel_rfl
  have HG0 := Lib.hid (heap_alloc_new w (.cells #[.int .i64 0, .slice none 0 0, .slice none 0 0, .slice none 0 0, .slice none 0 0, .slice none 0 0, .slice none 0 0, .slice none 0 0, .string ⟨#[]⟩, .int .i64 0, .int .i64 0, .int .i64 0, .slice none 0 0, .string ⟨#[]⟩] 37))
  have HB0 := Lib.hid ((Below.refl w.heap.size w).alloc (Nat.le_refl _) (.cells #[.int .i64 0, .slice none 0 0, .slice none 0 0, .slice none 0 0, .slice none 0 0, .slice none 0 0, .slice none 0 0, .slice none 0 0, .string ⟨#[]⟩, .int .i64 0, .int .i64 0, .int .i64 0, .slice none 0 0, .string ⟨#[]⟩] 37))
  clear hc
  go_enter Tryz.func7, Tryz.ntmps7
  go_wp2_with fail
  refine (HC.out _).mono ?_
  rintro r w1 ⟨rfl, hb1⟩
  have HB1 := Lib.hid (bstep HB0.out hb1)
  have hg1 := (hb1.block w.heap.size (by simp only [World.size_alloc]; omega)).trans HG0.out
  have HG1 := Lib.hid hg1
  have hlt1 : w.heap.size < w1.heap.size := (Array.getElem?_eq_some_iff.1 hg1).1
  have z0 : w1.cell? ⟨w.heap.size, 0, none⟩ = some (.int .i64 0) := by rw [Lib.cell_of_heap hg1]; rfl
  have k0 : w1.frozen? ⟨w.heap.size, 0, none⟩ = false := Lib.frozen_of_heap hg1 0
  have z1 : w1.cell? ⟨w.heap.size, 1, none⟩ = some (.slice none 0 0) := by rw [Lib.cell_of_heap hg1]; rfl
  have k1 : w1.frozen? ⟨w.heap.size, 1, none⟩ = false := Lib.frozen_of_heap hg1 1
  have z2 : w1.cell? ⟨w.heap.size, 2, none⟩ = some (.slice none 0 0) := by rw [Lib.cell_of_heap hg1]; rfl
  have k2 : w1.frozen? ⟨w.heap.size, 2, none⟩ = false := Lib.frozen_of_heap hg1 2
  have z3 : w1.cell? ⟨w.heap.size, 3, none⟩ = some (.slice none 0 0) := by rw [Lib.cell_of_heap hg1]; rfl
  have k3 : w1.frozen? ⟨w.heap.size, 3, none⟩ = false := Lib.frozen_of_heap hg1 3
  have z4 : w1.cell? ⟨w.heap.size, 4, none⟩ = some (.slice none 0 0) := by rw [Lib.cell_of_heap hg1]; rfl
  have k4 : w1.frozen? ⟨w.heap.size, 4, none⟩ = false := Lib.frozen_of_heap hg1 4
  have z5 : w1.cell? ⟨w.heap.size, 5, none⟩ = some (.slice none 0 0) := by rw [Lib.cell_of_heap hg1]; rfl
  have k5 : w1.frozen? ⟨w.heap.size, 5, none⟩ = false := Lib.frozen_of_heap hg1 5
  have z6 : w1.cell? ⟨w.heap.size, 6, none⟩ = some (.slice none 0 0) := by rw [Lib.cell_of_heap hg1]; rfl
  have k6 : w1.frozen? ⟨w.heap.size, 6, none⟩ = false := Lib.frozen_of_heap hg1 6
  have z7 : w1.cell? ⟨w.heap.size, 7, none⟩ = some (.slice none 0 0) := by rw [Lib.cell_of_heap hg1]; rfl
  have k7 : w1.frozen? ⟨w.heap.size, 7, none⟩ = false := Lib.frozen_of_heap hg1 7
  have z8 : w1.cell? ⟨w.heap.size, 8, none⟩ = some (.string ⟨#[]⟩) := by rw [Lib.cell_of_heap hg1]; rfl
  have k8 : w1.frozen? ⟨w.heap.size, 8, none⟩ = false := Lib.frozen_of_heap hg1 8
  have z9 : w1.cell? ⟨w.heap.size, 9, none⟩ = some (.int .i64 0) := by rw [Lib.cell_of_heap hg1]; rfl
  have k9 : w1.frozen? ⟨w.heap.size, 9, none⟩ = false := Lib.frozen_of_heap hg1 9
  have z10 : w1.cell? ⟨w.heap.size, 10, none⟩ = some (.int .i64 0) := by rw [Lib.cell_of_heap hg1]; rfl
  have k10 : w1.frozen? ⟨w.heap.size, 10, none⟩ = false := Lib.frozen_of_heap hg1 10
  have z11 : w1.cell? ⟨w.heap.size, 11, none⟩ = some (.int .i64 0) := by rw [Lib.cell_of_heap hg1]; rfl
  have k11 : w1.frozen? ⟨w.heap.size, 11, none⟩ = false := Lib.frozen_of_heap hg1 11
  have z12 : w1.cell? ⟨w.heap.size, 12, none⟩ = some (.slice none 0 0) := by rw [Lib.cell_of_heap hg1]; rfl
  have k12 : w1.frozen? ⟨w.heap.size, 12, none⟩ = false := Lib.frozen_of_heap hg1 12
  have z13 : w1.cell? ⟨w.heap.size, 13, none⟩ = some (.string ⟨#[]⟩) := by rw [Lib.cell_of_heap hg1]; rfl
  have k13 : w1.frozen? ⟨w.heap.size, 13, none⟩ = false := Lib.frozen_of_heap hg1 13
  have n1 : w.heap.size < w1.heap.size + 1 := by omega
  have n2 : w.heap.size < w1.heap.size + 1 + 1 := by omega
  clear hb1 hg1
  go_wp2_with fail
  (try simp only [Exit.inBlock, Exit.then])
  refine bodyPost_ret (ret_cell1 (t := 37) (fr := (0, 0)) rfl _ _ w.heap.size #[.int .i64 14, .slice (some ⟨w1.heap.size + 1 + 1, 0, none⟩) 3 3, .slice none 0 0, .slice none 0 0, .slice none 0 0, .slice none 0 0, .slice none 0 0, .slice p1 l.length q1, .string ⟨#[]⟩, .int .i64 0, .int .i64 0, .int .i64 0, .slice none 0 0, .string ⟨#[]⟩] _ (by rfl) ?hg Tryz.underlying37 rfl fsize) rfl ?_
  case hg =>
    rw [heap_alloc_old _ _ (by simp only [World.size_alloc, World.size_setCell]; omega), heap_alloc_old _ _ (by simp only [World.size_alloc, World.size_setCell]; omega), heap_alloc_old _ _ (by simp only [World.size_alloc, World.size_setCell]; omega)]
    exact blk_set14 HG1.out (.int .i64 14) (.slice (some ⟨w1.heap.size + 1 + 1, 0, none⟩) 3 3) (.slice none 0 0) (.slice none 0 0) (.slice none 0 0) (.slice none 0 0) (.slice none 0 0) (.slice p1 l.length q1) (.string ⟨#[]⟩) (.int .i64 0) (.int .i64 0) (.int .i64 0) (.slice none 0 0) (.string ⟨#[]⟩)
  have HBW := (((below_set14 HB1.out (Nat.le_refl _) (.int .i64 14) (.slice (some ⟨w1.heap.size + 1 + 1, 0, none⟩) 3 3) (.slice none 0 0) (.slice none 0 0) (.slice none 0 0) (.slice none 0 0) (.slice none 0 0) (.slice p1 l.length q1) (.string ⟨#[]⟩) (.int .i64 0) (.int .i64 0) (.int .i64 0) (.slice none 0 0) (.string ⟨#[]⟩)).alloc (by simp only [World.size_setCell]; omega) (.cells #[.int .i64 14, .slice (some ⟨w1.heap.size + 1 + 1, 0, none⟩) 3 3, .slice none 0 0, .slice none 0 0, .slice none 0 0, .slice none 0 0, .slice none 0 0, .slice p1 l.length q1, .string ⟨#[]⟩, .int .i64 0, .int .i64 0, .int .i64 0, .slice none 0 0, .string ⟨#[]⟩] 37)).alloc (by simp only [World.size_alloc, World.size_setCell]; omega) (.cells #[.int .i64 a, .int .i64 b, .int .i64 c, .slice p1 l.length q1] 83)).alloc (by simp only [World.size_alloc, World.size_setCell]; omega) (.cells #[.int .i64 a, .int .i64 b, .int .i64 c] 3)
  exact ⟨_, rfl, ⟨_, _, _, _, _, _, _, _, rfl, row_block [a, b, c] _ _ _ (by unfold maxLen; simp only [List.length_cons, List.length_nil]; omega) _ (by simp only [World.size_alloc, World.size_setCell]), row_nil _ _, row_nil _ _, row_nil _ _, row_nil _ _, entries_nil _ _, ((I1.out.keep HBW hB).up (Nat.le_trans hB HBW.size)), events_nil _ _⟩, HBW⟩

theorem flat_any (B : Nat) (v : Value) (m : Msg) (w : World) (h : IsMsg B w v m) (hB : B ≤ w.heap.size) : Calls Tryz.prog 7 #[v] w fun r w' => GotFlat (flatM m) w r w' := by
  cases m
  case beat => exact flat_beat B v _ _ _ w h hB
  case join => exact flat_join B v _ _ w h hB
  case lease => exact flat_lease B v _ _ w h hB
  case view => exact flat_view B v _ _ _ _ w h hB
  case whr => exact flat_whr B v _ w h hB
  case hav => exact flat_hav B v _ _ _ _ w h hB
  case logs => exact flat_logs B v _ _ _ _ _ _ _ w h hB
  case ack => exact flat_ack B v _ _ _ w h hB
  case ask => exact flat_ask B v _ _ _ _ w h hB
  case told => exact flat_told B v _ _ _ _ w h hB
  case app => exact flat_app B v _ _ w h hB
  case red => exact flat_red B v _ _ _ w h hB
  case rep => exact flat_rep B v _ _ _ _ _ _ w h hB
  case res => exact flat_res B v _ _ _ _ w h hB
end Go.Proofs.YtflojipkgaocnaaGreatDoor
namespace Go.Proofs.YtflojipkgaocnaaGreatDoor
open Go.RowKit
set_option linter.unusedSimpArgs false
set_option linter.unusedVariables false

def LensF (f : FW) : Prop := f.chain.length ≤ 6 ∧ f.since.length ≤ 6 ∧ f.boot.length ≤ 6 ∧ f.marks.length ≤ 30 ∧ f.entries.length ≤ 8 ∧ f.events.length ≤ 16
instance (f : FW) : Decidable (LensF f) := by unfold LensF; infer_instance
def lastF (f : FW) : Bool := if f.kind = 12 then nameB f.stream else (decide (f.kind ≠ 11) || decide (fitsB f.b = 0))
def rightF (f : FW) : Bool := decide (LensF f) && (f.nums.all numM && (f.chain.all numM && (f.since.all numM && (f.boot.all numM && (f.marks.all okM2 && (f.entries.all rightR && (f.events.all rightE && lastF f)))))))
theorem rf_len {f : FW} (h : ¬ LensF f) : rightF f = false := by rw [rightF, decide_eq_false h, Bool.false_and]
theorem rf_nums {f : FW} {x : Int} (hx : x ∈ f.nums) (h : numM x = false) : rightF f = false := by rw [rightF, List.all_eq_false.2 ⟨x, hx, by rw [h]; decide⟩]; simp
theorem rf_chain {f : FW} {x : Int} (hx : x ∈ f.chain) (h : numM x = false) : rightF f = false := by rw [rightF, List.all_eq_false.2 ⟨x, hx, by rw [h]; decide⟩]; simp
theorem rf_since {f : FW} {x : Int} (hx : x ∈ f.since) (h : numM x = false) : rightF f = false := by rw [rightF, List.all_eq_false.2 ⟨x, hx, by rw [h]; decide⟩]; simp
theorem rf_boot {f : FW} {x : Int} (hx : x ∈ f.boot) (h : numM x = false) : rightF f = false := by rw [rightF, List.all_eq_false.2 ⟨x, hx, by rw [h]; decide⟩]; simp
theorem rf_marks {f : FW} {x : Int × Int} (hx : x ∈ f.marks) (h : okM2 x = false) : rightF f = false := by rw [rightF, List.all_eq_false.2 ⟨x, hx, by rw [h]; decide⟩]; simp
theorem rf_entries {f : FW} {x : EN} (hx : x ∈ f.entries) (h : rightR x = false) : rightF f = false := by rw [rightF, List.all_eq_false.2 ⟨x, hx, by rw [h]; decide⟩]; simp
theorem rf_events {f : FW} {x : EV} (hx : x ∈ f.events) (h : rightE x = false) : rightF f = false := by rw [rightF, List.all_eq_false.2 ⟨x, hx, by rw [h]; decide⟩]; simp
theorem rf_yes {f : FW} (h : LensF f) (h1 : f.nums.all numM = true) (h2 : f.chain.all numM = true) (h3 : f.since.all numM = true) (h4 : f.boot.all numM = true) (h5 : f.marks.all okM2 = true) (h6 : f.entries.all rightR = true) (h7 : f.events.all rightE = true) : rightF f = lastF f := by
  rw [rightF, decide_eq_true h, h1, h2, h3, h4, h5, h6, h7]
  simp
theorem right_flat (m : Msg) : rightF (flatM m) = rightM m := by
  rw [Bool.eq_iff_iff]
  cases m <;> simp [rightF, LensF, lastF, flatM, zeroF, rightM, Msg.nums, Msg.restOk, and_assoc]
  case view => exact ⟨fun ⟨h1, h2, h3, h4, h5, h6, h7⟩ => ⟨h4, h1, h5, h2, h6, h3, h7⟩, fun ⟨h4, h1, h5, h2, h6, h3, h7⟩ => ⟨h1, h2, h3, h4, h5, h6, h7⟩⟩
  case hav => exact ⟨fun ⟨h1, h2, h3, h4, h5⟩ => ⟨h2, h3, h4, h1, h5⟩, fun ⟨h2, h3, h4, h1, h5⟩ => ⟨h1, h2, h3, h4, h5⟩⟩
  case logs => exact ⟨fun ⟨h1, h2, h3, h4, h5, h6, h7, h8⟩ => ⟨h2, h3, h4, h5, h6, h7, h1, h8⟩, fun ⟨h2, h3, h4, h5, h6, h7, h1, h8⟩ => ⟨h1, h2, h3, h4, h5, h6, h7, h8⟩⟩
  case app => exact fun _ => ⟨fun h => of_decide_eq_true h, fun h => decide_eq_true h⟩
  case red => intro _; exact and_comm
  case res => exact ⟨fun ⟨h1, h2, h3, h4, h5⟩ => ⟨h2, h3, h4, h1, h5⟩, fun ⟨h2, h3, h4, h1, h5⟩ => ⟨h1, h2, h3, h4, h5⟩⟩

def shapeB : Nat → ByteArray
  | 1 => ⟨#[110, 110, 110]⟩
  | 2 => ⟨#[110, 110]⟩
  | 3 => ⟨#[110, 110]⟩
  | 4 => ⟨#[110, 99, 100, 111]⟩
  | 5 => ⟨#[110]⟩
  | 6 => ⟨#[110, 110, 110, 109]⟩
  | 7 => ⟨#[110, 110, 110, 110, 110, 110, 101]⟩
  | 8 => ⟨#[110, 110, 110]⟩
  | 9 => ⟨#[110, 110, 110, 110]⟩
  | 10 => ⟨#[110, 110, 110, 110]⟩
  | 11 => ⟨#[110, 98]⟩
  | 12 => ⟨#[110, 115, 110]⟩
  | 13 => ⟨#[110, 110, 110, 110, 110, 110]⟩
  | 14 => ⟨#[110, 110, 110, 118]⟩
  | _ => ⟨#[]⟩

theorem refNum_any (n : Int) (b : Bool) (hb : numM n = b) (w : World) :
    Calls Tryz.prog 16 #[.int .i64 n] w fun r w' => r = .returned (.bool b) ∧ w = w' := by
  have Hb := Lib.hid hb
  clear hb
  by_cases h1 : 0 ≤ n
  · go_enter Tryz.func16, Tryz.ntmps16
    go_wp2_with fail
    go_ret
    refine ⟨ret_bool ?_, rfl⟩
    rw [← Hb.out, numM, decide_eq_true h1, Bool.true_and]
  · go_enter Tryz.func16, Tryz.ntmps16
    go_wp2_with fail
    go_ret
    refine ⟨ret_bool ?_, rfl⟩
    rw [← Hb.out, numM, decide_eq_false (show ¬ 0 ≤ n by omega), Bool.false_and]
set_option maxRecDepth 100000 in
set_option maxHeartbeats 6400000 in
theorem refShape_any (k : Nat) (hk : 1 ≤ k ∧ k ≤ 14) (w : World) :
    Calls Tryz.prog 15 #[.int .i64 (k : Int)] w fun r w' => r = .returned (.string (shapeB k)) ∧ Below w.heap.size w w' := by
  have h : k = 1 ∨ k = 2 ∨ k = 3 ∨ k = 4 ∨ k = 5 ∨ k = 6 ∨ k = 7 ∨ k = 8 ∨ k = 9 ∨ k = 10 ∨ k = 11 ∨ k = 12 ∨ k = 13 ∨ k = 14 := by omega
  clear hk
  rcases h with rfl | rfl | rfl | rfl | rfl | rfl | rfl | rfl | rfl | rfl | rfl | rfl | rfl | rfl
  all_goals
    go_enter Tryz.func15, Tryz.ntmps15
    go_wp2_with fail
    go_ret
    exact ⟨rfl, (Below.refl _ _).alloc (Nat.le_refl _) _⟩
theorem shape_ne (k : Nat) (hk : 1 ≤ k ∧ k ≤ 14) : (shapeB k).toList.isEmpty = false := by
  have h : k = 1 ∨ k = 2 ∨ k = 3 ∨ k = 4 ∨ k = 5 ∨ k = 6 ∨ k = 7 ∨ k = 8 ∨ k = 9 ∨ k = 10 ∨ k = 11 ∨ k = 12 ∨ k = 13 ∨ k = 14 := by omega
  rcases h with rfl | rfl | rfl | rfl | rfl | rfl | rfl | rfl | rfl | rfl | rfl | rfl | rfl | rfl <;> (rw [Bool.eq_false_iff]; intro h2; rw [List.isEmpty_iff, ByteArray.toList_eq] at h2; exact absurd h2 (by simp [shapeB]))

set_option maxRecDepth 100000 in
set_option maxHeartbeats 12800000 in
theorem refRight7_lit (B : Nat) (kn : Int) (nu ch si bo : List Int) (mk : List (Int × Int)) (en : List EN) (ev : List EV) (b : BW) (st : ByteArray) (na ca sa oa ma ea va la : Option Addr) (nc cc sc oc mc ec vc lc : Nat) (w : World) (hN : IsNums B w (.slice na nu.length nc) nu) (hC : IsNums B w (.slice ca ch.length cc) ch) (hS : IsNums B w (.slice sa si.length sc) si) (hO : IsNums B w (.slice oa bo.length oc) bo) (hM : IsMarks B w (.slice ma mk.length mc) mk) (hE : IsEntries B w (.slice ea en.length ec) en) (hV : IsEvents B w (.slice va ev.length vc) ev) (hL : IsEvents B w (.slice la b.events.length lc) b.events) (hB : B ≤ w.heap.size) (q : Bool) (hq : rightF ⟨kn, nu, ch, si, bo, mk, en, ev, b, st⟩ = q) (hkn : 1 ≤ kn ∧ kn ≤ 14) (hbe : ∀ x ∈ en, BigB x.b) (hbv : ∀ x ∈ ev, BigE x) (hbb : BigB b) (hst : st.size ≤ 100000) :
    Calls Tryz.prog 9 #[.agg #[.int .i64 kn, .slice na nu.length nc, .slice ca ch.length cc, .slice sa si.length sc, .slice oa bo.length oc, .slice ma mk.length mc, .slice ea en.length ec, .slice va ev.length vc, .string b.stream, .int .i64 b.expect, .int .i64 b.session, .int .i64 b.seq, .slice la b.events.length lc, .string st]] w fun r w' => r = .returned (.bool q) ∧ Below w.heap.size w w' := by
  have HN := Lib.hid hN
  have HC := Lib.hid hC
  have HS := Lib.hid hS
  have HO := Lib.hid hO
  have HM := Lib.hid hM
  have HE := Lib.hid hE
  have HV := Lib.hid hV
  have HL := Lib.hid hL
  have mN : nu.length ≤ 9223372036854775807 := hN.le
  have mC : ch.length ≤ 9223372036854775807 := hC.le
  have mS : si.length ≤ 9223372036854775807 := hS.le
  have mO : bo.length ≤ 9223372036854775807 := hO.le
  have mM : mk.length ≤ 9223372036854775807 := hM.le
  have mE : en.length ≤ 9223372036854775807 := hE.le
  have mV : ev.length ≤ 9223372036854775807 := hV.le
  have mL : b.events.length ≤ 9223372036854775807 := hL.le
  have HB := Lib.hid hB
  have HQ := Lib.hid hq
  have HBE := Lib.hid hbe
  have HBV := Lib.hid hbv
  have HBB := Lib.hid hbb
  have CNM := Lib.hid (fun X : World => refName_any st (by omega) (nameB st) rfl X)
  have HBX := Lib.hid (bx_new (w := w) (.cells #[.int .i64 kn, .slice na nu.length nc, .slice ca ch.length cc, .slice sa si.length sc, .slice oa bo.length oc, .slice ma mk.length mc, .slice ea en.length ec, .slice va ev.length vc, .string b.stream, .int .i64 b.expect, .int .i64 b.session, .int .i64 b.seq, .slice la b.events.length lc, .string st] 37))
  obtain ⟨kk, hkk⟩ : ∃ n : Nat, kn = (n : Int) := ⟨kn.toNat, by omega⟩
  have CSH := Lib.hid (fun X : World => (show Calls Tryz.prog 15 #[.int .i64 kn] X fun r w' => r = .returned (.string (shapeB kk)) ∧ Below X.heap.size X w' from by rw [hkk]; exact refShape_any kk (by omega) X))
  have gsh := shape_ne kk (by omega)
  generalize shapeB kk = sh at CSH gsh
  clear hN hC hS hO hM hE hV hL hB hq hbe hbv hbb hst hkk
  go_enter Tryz.func9, Tryz.ntmps9
  go_wp2_with fail
  refine (CSH.out _).mono ?_
  rintro r w1 ⟨rfl, hb1⟩
  replace HBX := Lib.hid (bx_more HBX.out hb1)
  clear hb1
  have y2 := box_range HBX.out 2 _ rfl
  have y3 := box_range HBX.out 3 _ rfl
  have y4 := box_range HBX.out 4 _ rfl
  have y5 := box_range HBX.out 5 _ rfl
  have y6 := box_range HBX.out 6 _ rfl
  have y7 := box_range HBX.out 7 _ rfl
  simp only [Nat.zero_add] at y2 y3 y4 y5 y6 y7
  by_cases l1 : 6 < ch.length
  · have n1 : (6 : Int) < (ch.length : Int) := by omega
    obtain rfl : false = q := by rw [← HQ.out]; exact (rf_len (fun h => absurd (show ch.length ≤ 6 from h.1) (by omega))).symm
    go_wp2_with fail
    go_ret
    exact ⟨rfl, bx_below HBX.out⟩
  · have n1 : ¬ (6 : Int) < (ch.length : Int) := by omega
    by_cases l2 : 6 < si.length
    · have n2 : (6 : Int) < (si.length : Int) := by omega
      obtain rfl : false = q := by rw [← HQ.out]; exact (rf_len (fun h => absurd (show si.length ≤ 6 from h.2.1) (by omega))).symm
      go_wp2_with fail
      go_ret
      exact ⟨rfl, bx_below HBX.out⟩
    · have n2 : ¬ (6 : Int) < (si.length : Int) := by omega
      by_cases l3 : 6 < bo.length
      · have n3 : (6 : Int) < (bo.length : Int) := by omega
        obtain rfl : false = q := by rw [← HQ.out]; exact (rf_len (fun h => absurd (show bo.length ≤ 6 from h.2.2.1) (by omega))).symm
        go_wp2_with fail
        go_ret
        exact ⟨rfl, bx_below HBX.out⟩
      · have n3 : ¬ (6 : Int) < (bo.length : Int) := by omega
        by_cases l4 : 30 < mk.length
        · have n4 : (30 : Int) < (mk.length : Int) := by omega
          obtain rfl : false = q := by rw [← HQ.out]; exact (rf_len (fun h => absurd (show mk.length ≤ 30 from h.2.2.2.1) (by omega))).symm
          go_wp2_with fail
          go_ret
          exact ⟨rfl, bx_below HBX.out⟩
        · have n4 : ¬ (30 : Int) < (mk.length : Int) := by omega
          by_cases l5 : 8 < en.length
          · have n5 : (8 : Int) < (en.length : Int) := by omega
            obtain rfl : false = q := by rw [← HQ.out]; exact (rf_len (fun h => absurd (show en.length ≤ 8 from h.2.2.2.2.1) (by omega))).symm
            go_wp2_with fail
            go_ret
            exact ⟨rfl, bx_below HBX.out⟩
          · have n5 : ¬ (8 : Int) < (en.length : Int) := by omega
            by_cases l6 : 16 < ev.length
            · have n6 : (16 : Int) < (ev.length : Int) := by omega
              obtain rfl : false = q := by rw [← HQ.out]; exact (rf_len (fun h => absurd (show ev.length ≤ 16 from h.2.2.2.2.2) (by omega))).symm
              go_wp2_with fail
              go_ret
              exact ⟨rfl, bx_below HBX.out⟩
            · have n6 : ¬ (16 : Int) < (ev.length : Int) := by omega
              have HLEN := Lib.hid (show LensF ⟨kn, nu, ch, si, bo, mk, en, ev, b, st⟩ from ⟨show ch.length ≤ 6 by omega, show si.length ≤ 6 by omega, show bo.length ≤ 6 by omega, show mk.length ≤ 30 by omega, show en.length ≤ 8 by omega, show ev.length ≤ 16 by omega⟩)
              go_wp2_with fail
              clear y2 y3 y4 y5 y6 y7 n1 n2 n3 n4 n5 n6
              go_loopw [4] (fun t4 wr => ∃ k : Nat, k ≤ nu.length ∧ t4 = .int .i64 k ∧ (∀ i (hi : i < nu.length), i < k → numM nu[i] = true) ∧ Below (w.heap.size + 1) (w.alloc (.cells #[.int .i64 kn, .slice na nu.length nc, .slice ca ch.length cc, .slice sa si.length sc, .slice oa bo.length oc, .slice ma mk.length mc, .slice ea en.length ec, .slice va ev.length vc, .string b.stream, .int .i64 b.expect, .int .i64 b.session, .int .i64 b.seq, .slice la b.events.length lc, .string st] 37)) wr) (fun t4 _ => nu.length - (intOf t4).toNat)
              case atStart => exact ⟨0, Nat.zero_le _, rfl, fun i _ h => absurd h (by omega), HBX.out⟩
              case round =>
                obtain ⟨k, hk, rfl, hno, hbl⟩ := hrel
                have HNO := Lib.hid hno
                have HBX := Lib.hid hbl
                have y := box_range hbl 1 _ rfl
                simp only [Nat.zero_add] at y
                clear hno hbl
                by_cases hlt : k < nu.length
                · obtain ⟨bb, oo, qq, he, _, _, hc1⟩ := (HN.out.keep (bx_below HBX.out) HB.out).at1 k hlt
                  obtain ⟨e1, -, e3⟩ : na = some ⟨bb, oo, none⟩ ∧ nu.length = nu.length ∧ nc = qq := by injection he with e1 e2 e3; exact ⟨e1, e2, e3⟩
                  rw [e1, e3] at y
                  clear he e1 e3
                  obtain ⟨x, hx⟩ : ∃ x, nu[k] = x := ⟨_, rfl⟩
                  rw [hx] at hc1
                  obtain ⟨bq, hbq⟩ : ∃ q, numM x = q := ⟨_, rfl⟩
                  have CN := Lib.hid (refNum_any x bq hbq)
                  have HXX := Lib.hid hx
                  have HBQ := Lib.hid hbq
                  have i1 : (0 : Int) ≤ (k : Int) := by omega
                  have i2 : (k : Int) < (nu.length : Int) := by omega
                  clear hx hbq
                  cases bq with
                  | false =>
                    obtain rfl : false = q := by rw [← HQ.out]; exact (rf_nums (List.getElem_mem hlt) (by rw [HXX.out]; exact HBQ.out)).symm
                    go_wp2_with fail
                    refine (CN.out _).mono ?_
                    rintro r w2 ⟨rfl, rfl⟩
                    go_wp2_with fail
                    go_ret
                    exact ⟨rfl, bx_below HBX.out⟩
                  | true =>
                    go_wp2_with fail
                    refine (CN.out _).mono ?_
                    rintro r w2 ⟨rfl, rfl⟩
                    go_wp2_with fail
                    go_roundw
                    case rel =>
                      refine ⟨k + 1, by omega, by go_num, fun i hi hik => ?_, HBX.out⟩
                      by_cases e : i = k
                      · subst e
                        rw [HXX.out]
                        exact HBQ.out
                      · exact HNO.out i hi (by omega)
                    case measure => simp [intOf]; omega
                · have g2 : ¬ ((k : Int) < (nu.length : Int)) := by omega
                  have HA0 := Lib.hid (show nu.all numM = true from List.all_eq_true.2 (fun x hx => by obtain ⟨i, hi, rfl⟩ := List.getElem_of_mem hx; exact HNO.out i hi (by omega)))
                  go_wp2_with fail
                  clear g2 y
                  go_loopw [5] (fun t5 wr => ∃ k : Nat, k ≤ ch.length ∧ t5 = .int .i64 k ∧ (∀ i (hi : i < ch.length), i < k → numM ch[i] = true) ∧ Below (w.heap.size + 1) (w.alloc (.cells #[.int .i64 kn, .slice na nu.length nc, .slice ca ch.length cc, .slice sa si.length sc, .slice oa bo.length oc, .slice ma mk.length mc, .slice ea en.length ec, .slice va ev.length vc, .string b.stream, .int .i64 b.expect, .int .i64 b.session, .int .i64 b.seq, .slice la b.events.length lc, .string st] 37)) wr) (fun t5 _ => ch.length - (intOf t5).toNat)
                  case atStart => exact ⟨0, Nat.zero_le _, rfl, fun i _ h => absurd h (by omega), HBX.out⟩
                  case round =>
                    obtain ⟨k, hk, rfl, hno, hbl⟩ := hrel
                    have HNO := Lib.hid hno
                    have HBX := Lib.hid hbl
                    have y := box_range hbl 2 _ rfl
                    simp only [Nat.zero_add] at y
                    clear hno hbl
                    by_cases hlt : k < ch.length
                    · obtain ⟨bb, oo, qq, he, _, _, hc1⟩ := (HC.out.keep (bx_below HBX.out) HB.out).at1 k hlt
                      obtain ⟨e1, -, e3⟩ : ca = some ⟨bb, oo, none⟩ ∧ ch.length = ch.length ∧ cc = qq := by injection he with e1 e2 e3; exact ⟨e1, e2, e3⟩
                      rw [e1, e3] at y
                      clear he e1 e3
                      obtain ⟨x, hx⟩ : ∃ x, ch[k] = x := ⟨_, rfl⟩
                      rw [hx] at hc1
                      obtain ⟨bq, hbq⟩ : ∃ q, numM x = q := ⟨_, rfl⟩
                      have CN := Lib.hid (refNum_any x bq hbq)
                      have HXX := Lib.hid hx
                      have HBQ := Lib.hid hbq
                      have i1 : (0 : Int) ≤ (k : Int) := by omega
                      have i2 : (k : Int) < (ch.length : Int) := by omega
                      clear hx hbq
                      cases bq with
                      | false =>
                        obtain rfl : false = q := by rw [← HQ.out]; exact (rf_chain (List.getElem_mem hlt) (by rw [HXX.out]; exact HBQ.out)).symm
                        go_wp2_with fail
                        refine (CN.out _).mono ?_
                        rintro r w2 ⟨rfl, rfl⟩
                        go_wp2_with fail
                        go_ret
                        exact ⟨rfl, bx_below HBX.out⟩
                      | true =>
                        go_wp2_with fail
                        refine (CN.out _).mono ?_
                        rintro r w2 ⟨rfl, rfl⟩
                        go_wp2_with fail
                        go_roundw
                        case rel =>
                          refine ⟨k + 1, by omega, by go_num, fun i hi hik => ?_, HBX.out⟩
                          by_cases e : i = k
                          · subst e
                            rw [HXX.out]
                            exact HBQ.out
                          · exact HNO.out i hi (by omega)
                        case measure => simp [intOf]; omega
                    · have g2 : ¬ ((k : Int) < (ch.length : Int)) := by omega
                      have HA1 := Lib.hid (show ch.all numM = true from List.all_eq_true.2 (fun x hx => by obtain ⟨i, hi, rfl⟩ := List.getElem_of_mem hx; exact HNO.out i hi (by omega)))
                      go_wp2_with fail
                      clear g2 y
                      go_loopw [6] (fun t6 wr => ∃ k : Nat, k ≤ si.length ∧ t6 = .int .i64 k ∧ (∀ i (hi : i < si.length), i < k → numM si[i] = true) ∧ Below (w.heap.size + 1) (w.alloc (.cells #[.int .i64 kn, .slice na nu.length nc, .slice ca ch.length cc, .slice sa si.length sc, .slice oa bo.length oc, .slice ma mk.length mc, .slice ea en.length ec, .slice va ev.length vc, .string b.stream, .int .i64 b.expect, .int .i64 b.session, .int .i64 b.seq, .slice la b.events.length lc, .string st] 37)) wr) (fun t6 _ => si.length - (intOf t6).toNat)
                      case atStart => exact ⟨0, Nat.zero_le _, rfl, fun i _ h => absurd h (by omega), HBX.out⟩
                      case round =>
                        obtain ⟨k, hk, rfl, hno, hbl⟩ := hrel
                        have HNO := Lib.hid hno
                        have HBX := Lib.hid hbl
                        have y := box_range hbl 3 _ rfl
                        simp only [Nat.zero_add] at y
                        clear hno hbl
                        by_cases hlt : k < si.length
                        · obtain ⟨bb, oo, qq, he, _, _, hc1⟩ := (HS.out.keep (bx_below HBX.out) HB.out).at1 k hlt
                          obtain ⟨e1, -, e3⟩ : sa = some ⟨bb, oo, none⟩ ∧ si.length = si.length ∧ sc = qq := by injection he with e1 e2 e3; exact ⟨e1, e2, e3⟩
                          rw [e1, e3] at y
                          clear he e1 e3
                          obtain ⟨x, hx⟩ : ∃ x, si[k] = x := ⟨_, rfl⟩
                          rw [hx] at hc1
                          obtain ⟨bq, hbq⟩ : ∃ q, numM x = q := ⟨_, rfl⟩
                          have CN := Lib.hid (refNum_any x bq hbq)
                          have HXX := Lib.hid hx
                          have HBQ := Lib.hid hbq
                          have i1 : (0 : Int) ≤ (k : Int) := by omega
                          have i2 : (k : Int) < (si.length : Int) := by omega
                          clear hx hbq
                          cases bq with
                          | false =>
                            obtain rfl : false = q := by rw [← HQ.out]; exact (rf_since (List.getElem_mem hlt) (by rw [HXX.out]; exact HBQ.out)).symm
                            go_wp2_with fail
                            refine (CN.out _).mono ?_
                            rintro r w2 ⟨rfl, rfl⟩
                            go_wp2_with fail
                            go_ret
                            exact ⟨rfl, bx_below HBX.out⟩
                          | true =>
                            go_wp2_with fail
                            refine (CN.out _).mono ?_
                            rintro r w2 ⟨rfl, rfl⟩
                            go_wp2_with fail
                            go_roundw
                            case rel =>
                              refine ⟨k + 1, by omega, by go_num, fun i hi hik => ?_, HBX.out⟩
                              by_cases e : i = k
                              · subst e
                                rw [HXX.out]
                                exact HBQ.out
                              · exact HNO.out i hi (by omega)
                            case measure => simp [intOf]; omega
                        · have g2 : ¬ ((k : Int) < (si.length : Int)) := by omega
                          have HA2 := Lib.hid (show si.all numM = true from List.all_eq_true.2 (fun x hx => by obtain ⟨i, hi, rfl⟩ := List.getElem_of_mem hx; exact HNO.out i hi (by omega)))
                          go_wp2_with fail
                          clear g2 y
                          go_loopw [7] (fun t7 wr => ∃ k : Nat, k ≤ bo.length ∧ t7 = .int .i64 k ∧ (∀ i (hi : i < bo.length), i < k → numM bo[i] = true) ∧ Below (w.heap.size + 1) (w.alloc (.cells #[.int .i64 kn, .slice na nu.length nc, .slice ca ch.length cc, .slice sa si.length sc, .slice oa bo.length oc, .slice ma mk.length mc, .slice ea en.length ec, .slice va ev.length vc, .string b.stream, .int .i64 b.expect, .int .i64 b.session, .int .i64 b.seq, .slice la b.events.length lc, .string st] 37)) wr) (fun t7 _ => bo.length - (intOf t7).toNat)
                          case atStart => exact ⟨0, Nat.zero_le _, rfl, fun i _ h => absurd h (by omega), HBX.out⟩
                          case round =>
                            obtain ⟨k, hk, rfl, hno, hbl⟩ := hrel
                            have HNO := Lib.hid hno
                            have HBX := Lib.hid hbl
                            have y := box_range hbl 4 _ rfl
                            simp only [Nat.zero_add] at y
                            clear hno hbl
                            by_cases hlt : k < bo.length
                            · obtain ⟨bb, oo, qq, he, _, _, hc1⟩ := (HO.out.keep (bx_below HBX.out) HB.out).at1 k hlt
                              obtain ⟨e1, -, e3⟩ : oa = some ⟨bb, oo, none⟩ ∧ bo.length = bo.length ∧ oc = qq := by injection he with e1 e2 e3; exact ⟨e1, e2, e3⟩
                              rw [e1, e3] at y
                              clear he e1 e3
                              obtain ⟨x, hx⟩ : ∃ x, bo[k] = x := ⟨_, rfl⟩
                              rw [hx] at hc1
                              obtain ⟨bq, hbq⟩ : ∃ q, numM x = q := ⟨_, rfl⟩
                              have CN := Lib.hid (refNum_any x bq hbq)
                              have HXX := Lib.hid hx
                              have HBQ := Lib.hid hbq
                              have i1 : (0 : Int) ≤ (k : Int) := by omega
                              have i2 : (k : Int) < (bo.length : Int) := by omega
                              clear hx hbq
                              cases bq with
                              | false =>
                                obtain rfl : false = q := by rw [← HQ.out]; exact (rf_boot (List.getElem_mem hlt) (by rw [HXX.out]; exact HBQ.out)).symm
                                go_wp2_with fail
                                refine (CN.out _).mono ?_
                                rintro r w2 ⟨rfl, rfl⟩
                                go_wp2_with fail
                                go_ret
                                exact ⟨rfl, bx_below HBX.out⟩
                              | true =>
                                go_wp2_with fail
                                refine (CN.out _).mono ?_
                                rintro r w2 ⟨rfl, rfl⟩
                                go_wp2_with fail
                                go_roundw
                                case rel =>
                                  refine ⟨k + 1, by omega, by go_num, fun i hi hik => ?_, HBX.out⟩
                                  by_cases e : i = k
                                  · subst e
                                    rw [HXX.out]
                                    exact HBQ.out
                                  · exact HNO.out i hi (by omega)
                                case measure => simp [intOf]; omega
                            · have g2 : ¬ ((k : Int) < (bo.length : Int)) := by omega
                              have HA3 := Lib.hid (show bo.all numM = true from List.all_eq_true.2 (fun x hx => by obtain ⟨i, hi, rfl⟩ := List.getElem_of_mem hx; exact HNO.out i hi (by omega)))
                              go_wp2_with fail
                              clear g2 y
                              go_loopw [8] (fun t8 wr => ∃ k : Nat, k ≤ mk.length ∧ t8 = .int .i64 k ∧ (∀ i (hi : i < mk.length), i < k → okM2 mk[i] = true) ∧ Below (w.heap.size + 1) (w.alloc (.cells #[.int .i64 kn, .slice na nu.length nc, .slice ca ch.length cc, .slice sa si.length sc, .slice oa bo.length oc, .slice ma mk.length mc, .slice ea en.length ec, .slice va ev.length vc, .string b.stream, .int .i64 b.expect, .int .i64 b.session, .int .i64 b.seq, .slice la b.events.length lc, .string st] 37)) wr) (fun t8 _ => mk.length - (intOf t8).toNat)
                              case atStart => exact ⟨0, Nat.zero_le _, rfl, fun i _ h => absurd h (by omega), HBX.out⟩
                              case round =>
                                obtain ⟨k, hk, rfl, hno, hbl⟩ := hrel
                                have HNO := Lib.hid hno
                                have HBX := Lib.hid hbl
                                have y := box_range hbl 5 _ rfl
                                simp only [Nat.zero_add] at y
                                clear hno hbl
                                by_cases hlt : k < mk.length
                                · obtain ⟨bb, oo, qq, he, _, _, hc1, hc2⟩ := (HM.out.keep (bx_below HBX.out) HB.out).at2 k hlt
                                  obtain ⟨e1, -, e3⟩ : ma = some ⟨bb, oo, none⟩ ∧ mk.length = mk.length ∧ mc = qq := by injection he with e1 e2 e3; exact ⟨e1, e2, e3⟩
                                  rw [e1, e3] at y
                                  clear he e1 e3
                                  obtain ⟨x, hx⟩ : ∃ x, mk[k] = x := ⟨_, rfl⟩
                                  rw [hx] at hc1 hc2
                                  obtain ⟨bq, hbq⟩ : ∃ q, numM x.1 = q := ⟨_, rfl⟩
                                  obtain ⟨bp, hbp⟩ : ∃ q, numM x.2 = q := ⟨_, rfl⟩
                                  have CN := Lib.hid (refNum_any x.1 bq hbq)
                                  have CN2 := Lib.hid (refNum_any x.2 bp hbp)
                                  have HXX := Lib.hid hx
                                  have HBQ := Lib.hid (show okM2 x = (bq && bp) from by rw [okM2, hbq, hbp])
                                  have i1 : (0 : Int) ≤ (k : Int) := by omega
                                  have i2 : (k : Int) < (mk.length : Int) := by omega
                                  clear hx hbq hbp
                                  cases bq with
                                  | false =>
                                    obtain rfl : false = q := by rw [← HQ.out]; exact (rf_marks (List.getElem_mem hlt) (by rw [HXX.out]; exact HBQ.out)).symm
                                    go_wp2_with fail
                                    refine (CN.out _).mono ?_
                                    rintro r w2 ⟨rfl, rfl⟩
                                    go_wp2_with fail
                                    go_ret
                                    exact ⟨rfl, bx_below HBX.out⟩
                                  | true =>
                                    go_wp2_with fail
                                    refine (CN.out _).mono ?_
                                    rintro r w2 ⟨rfl, rfl⟩
                                    go_wp2_with fail
                                    refine (CN2.out _).mono ?_
                                    rintro r w3 ⟨rfl, rfl⟩
                                    cases bp with
                                    | false =>
                                      obtain rfl : false = q := by rw [← HQ.out]; exact (rf_marks (List.getElem_mem hlt) (by rw [HXX.out]; exact HBQ.out)).symm
                                      go_wp2_with fail
                                      go_ret
                                      exact ⟨rfl, bx_below HBX.out⟩
                                    | true =>
                                      go_wp2_with fail
                                      go_roundw
                                      case rel =>
                                        refine ⟨k + 1, by omega, by go_num, fun i hi hik => ?_, HBX.out⟩
                                        by_cases e : i = k
                                        · subst e
                                          rw [HXX.out]
                                          exact HBQ.out
                                        · exact HNO.out i hi (by omega)
                                      case measure => simp [intOf]; omega
                                · have g2 : ¬ ((k : Int) < (mk.length : Int)) := by omega
                                  have HA4 := Lib.hid (show mk.all okM2 = true from List.all_eq_true.2 (fun x hx => by obtain ⟨i, hi, rfl⟩ := List.getElem_of_mem hx; exact HNO.out i hi (by omega)))
                                  go_wp2_with fail
                                  clear g2 y
                                  go_loopw [9] (fun t9 wr => ∃ k : Nat, k ≤ en.length ∧ t9 = .int .i64 k ∧ (∀ i (hi : i < en.length), i < k → rightR en[i] = true) ∧ Below (w.heap.size + 1) (w.alloc (.cells #[.int .i64 kn, .slice na nu.length nc, .slice ca ch.length cc, .slice sa si.length sc, .slice oa bo.length oc, .slice ma mk.length mc, .slice ea en.length ec, .slice va ev.length vc, .string b.stream, .int .i64 b.expect, .int .i64 b.session, .int .i64 b.seq, .slice la b.events.length lc, .string st] 37)) wr) (fun t9 _ => en.length - (intOf t9).toNat)
                                  case atStart => exact ⟨0, Nat.zero_le _, rfl, fun i _ h => absurd h (by omega), HBX.out⟩
                                  case round =>
                                    obtain ⟨k, hk, rfl, hno, hbl⟩ := hrel
                                    have HNO := Lib.hid hno
                                    have HBX := Lib.hid hbl
                                    have y := box_range hbl 6 _ rfl
                                    simp only [Nat.zero_add] at y
                                    clear hno hbl
                                    by_cases hlt : k < en.length
                                    · obtain ⟨bb, oo, qq, he, _, _, hc1, hc2, hc3, hc4, hc5, hc6, xa, xc, hc7, hev⟩ := (HE.out.keep (bx_below HBX.out) HB.out).get k hlt
                                      obtain ⟨e1, -, e3⟩ : ea = some ⟨bb, oo, none⟩ ∧ en.length = en.length ∧ ec = qq := by injection he with e1 e2 e3; exact ⟨e1, e2, e3⟩
                                      rw [e1, e3] at y
                                      clear he e1 e3
                                      have hbg := HBE.out en[k] (List.getElem_mem hlt)
                                      obtain ⟨e, hx⟩ : ∃ x, en[k] = x := ⟨_, rfl⟩
                                      rw [hx] at hc1 hc2 hc3 hc4 hc5 hc6 hc7 hev hbg
                                      obtain ⟨bq, hbq⟩ : ∃ q, rightR e = q := ⟨_, rfl⟩
                                      have CN := Lib.hid (refRightR_any wr.heap.size (.agg #[.int .i64 e.pos, .int .i64 e.epoch, .string e.b.stream, .int .i64 e.b.expect, .int .i64 e.b.session, .int .i64 e.b.seq, .slice xa e.b.events.length xc]) e bq hbq wr ⟨_, rfl, hev.up (Nat.le_trans HB.out (bx_below HBX.out).size)⟩ (Nat.le_refl _) hbg)
                                      have HXX := Lib.hid hx
                                      have HBQ := Lib.hid hbq
                                      have i1 : (0 : Int) ≤ (k : Int) := by omega
                                      have i2 : (k : Int) < (en.length : Int) := by omega
                                      clear hx hbq hev hbg
                                      cases bq with
                                      | false =>
                                        obtain rfl : false = q := by rw [← HQ.out]; exact (rf_entries (List.getElem_mem hlt) (by rw [HXX.out]; exact HBQ.out)).symm
                                        go_wp2_with fail
                                        refine CN.out.mono ?_
                                        rintro r w2 ⟨rfl, hb2⟩
                                        go_wp2_with fail
                                        go_ret
                                        exact ⟨rfl, bx_below (bx_more HBX.out hb2)⟩
                                      | true =>
                                        go_wp2_with fail
                                        refine CN.out.mono ?_
                                        rintro r w2 ⟨rfl, hb2⟩
                                        go_wp2_with fail
                                        go_roundw
                                        case rel =>
                                          refine ⟨k + 1, by omega, by go_num, fun i hi hik => ?_, bx_more HBX.out hb2⟩
                                          by_cases e : i = k
                                          · subst e
                                            rw [HXX.out]
                                            exact HBQ.out
                                          · exact HNO.out i hi (by omega)
                                        case measure => simp [intOf]; omega
                                    · have g2 : ¬ ((k : Int) < (en.length : Int)) := by omega
                                      have HA5 := Lib.hid (show en.all rightR = true from List.all_eq_true.2 (fun x hx => by obtain ⟨i, hi, rfl⟩ := List.getElem_of_mem hx; exact HNO.out i hi (by omega)))
                                      go_wp2_with fail
                                      clear g2 y
                                      go_loopw [11] (fun t11 wr => ∃ k : Nat, k ≤ ev.length ∧ t11 = .int .i64 k ∧ (∀ i (hi : i < ev.length), i < k → rightE ev[i] = true) ∧ Below (w.heap.size + 1) (w.alloc (.cells #[.int .i64 kn, .slice na nu.length nc, .slice ca ch.length cc, .slice sa si.length sc, .slice oa bo.length oc, .slice ma mk.length mc, .slice ea en.length ec, .slice va ev.length vc, .string b.stream, .int .i64 b.expect, .int .i64 b.session, .int .i64 b.seq, .slice la b.events.length lc, .string st] 37)) wr) (fun t11 _ => ev.length - (intOf t11).toNat)
                                      case atStart => exact ⟨0, Nat.zero_le _, rfl, fun i _ h => absurd h (by omega), HBX.out⟩
                                      case round =>
                                        obtain ⟨k, hk, rfl, hno, hbl⟩ := hrel
                                        have HNO := Lib.hid hno
                                        have HBX := Lib.hid hbl
                                        have y := box_range hbl 7 _ rfl
                                        simp only [Nat.zero_add] at y
                                        clear hno hbl
                                        by_cases hlt : k < ev.length
                                        · obtain ⟨bb, oo, qq, he, _, _, hc1, hc2⟩ := (HV.out.keep (bx_below HBX.out) HB.out).get k hlt
                                          obtain ⟨e1, -, e3⟩ : va = some ⟨bb, oo, none⟩ ∧ ev.length = ev.length ∧ vc = qq := by injection he with e1 e2 e3; exact ⟨e1, e2, e3⟩
                                          rw [e1, e3] at y
                                          clear he e1 e3
                                          have hbg := HBV.out ev[k] (List.getElem_mem hlt)
                                          obtain ⟨e, hx⟩ : ∃ x, ev[k] = x := ⟨_, rfl⟩
                                          rw [hx] at hc1 hc2 hbg
                                          obtain ⟨bq, hbq⟩ : ∃ q, rightE e = q := ⟨_, rfl⟩
                                          have CN := Lib.hid (refRight_any e hbg bq hbq)
                                          have HXX := Lib.hid hx
                                          have HBQ := Lib.hid hbq
                                          have i1 : (0 : Int) ≤ (k : Int) := by omega
                                          have i2 : (k : Int) < (ev.length : Int) := by omega
                                          clear hx hbq hbg
                                          cases bq with
                                          | false =>
                                            obtain rfl : false = q := by rw [← HQ.out]; exact (rf_events (List.getElem_mem hlt) (by rw [HXX.out]; exact HBQ.out)).symm
                                            go_wp2_with fail
                                            refine (CN.out _).mono ?_
                                            rintro r w2 ⟨rfl, hb2⟩
                                            go_wp2_with fail
                                            go_ret
                                            exact ⟨rfl, bx_below (bx_more HBX.out hb2)⟩
                                          | true =>
                                            go_wp2_with fail
                                            refine (CN.out _).mono ?_
                                            rintro r w2 ⟨rfl, hb2⟩
                                            go_wp2_with fail
                                            go_roundw
                                            case rel =>
                                              refine ⟨k + 1, by omega, by go_num, fun i hi hik => ?_, bx_more HBX.out hb2⟩
                                              by_cases e : i = k
                                              · subst e
                                                rw [HXX.out]
                                                exact HBQ.out
                                              · exact HNO.out i hi (by omega)
                                            case measure => simp [intOf]; omega
                                        · have g2 : ¬ ((k : Int) < (ev.length : Int)) := by omega
                                          have HA6 := Lib.hid (show ev.all rightE = true from List.all_eq_true.2 (fun x hx => by obtain ⟨i, hi, rfl⟩ := List.getElem_of_mem hx; exact HNO.out i hi (by omega)))
                                          have y0 := box_range HBX.out 0 _ rfl
                                          simp only [Nat.zero_add] at y0
                                          have HLA := Lib.hid (rf_yes (f := ⟨kn, nu, ch, si, bo, mk, en, ev, b, st⟩) HLEN.out HA0.out HA1.out HA2.out HA3.out HA4.out HA5.out HA6.out)
                                          clear HA0 HA1 HA2 HA3 HA4 HA5 HA6
                                          by_cases h12 : kn = 12
                                          · subst h12
                                            obtain rfl : nameB st = q := by rw [← HQ.out, HLA.out, lastF, if_pos rfl]
                                            have y13 := box_range HBX.out 13 _ rfl
                                            simp only [Nat.zero_add] at y13
                                            go_wp2_with fail
                                            refine (CNM.out _).mono ?_
                                            rintro r w2 ⟨rfl, hb2⟩
                                            go_wp2_with fail
                                            go_ret
                                            exact ⟨rfl, bx_below (bx_more HBX.out hb2)⟩
                                          · have g12 : (kn == 12) = false := by rw [beq_eq_false_iff_ne]; exact h12
                                            by_cases h11 : kn = 11
                                            · subst h11
                                              have hq2 : decide (fitsB b = 0) = q := by rw [← HQ.out, HLA.out, lastF, if_neg (by show ¬ (11 : Int) = 12; decide)]; simp
                                              have y8 := box_range HBX.out 8 _ rfl
                                              have y9 := box_range HBX.out 9 _ rfl
                                              have y10 := box_range HBX.out 10 _ rfl
                                              have y11 := box_range HBX.out 11 _ rfl
                                              have y12 := box_range HBX.out 12 _ rfl
                                              simp only [Nat.zero_add] at y8 y9 y10 y11 y12
                                              obtain ⟨fc, hfc⟩ : ∃ c, fitsB b = c := ⟨_, rfl⟩
                                              have CF := Lib.hid (refFits_any B (.agg #[.string b.stream, .int .i64 b.expect, .int .i64 b.session, .int .i64 b.seq, .slice la b.events.length lc]) b fc hfc HBB.out _ ⟨_, rfl, HL.out.keep (bx_below HBX.out) HB.out⟩ (Nat.le_trans HB.out (bx_below HBX.out).size))
                                              rw [hfc] at hq2
                                              have HQ2 := Lib.hid hq2
                                              clear hfc hq2
                                              go_wp2_with fail
                                              refine CF.out.mono ?_
                                              rintro r w2 ⟨rfl, hb2⟩
                                              by_cases h0 : fc = 0
                                              · subst h0
                                                obtain rfl : true = q := by rw [← HQ2.out]; rfl
                                                go_wp2_with fail
                                                go_ret
                                                exact ⟨rfl, bx_below (bx_more HBX.out hb2)⟩
                                              · have g0 : ((fc : Int) == 0) = false := by rw [beq_eq_false_iff_ne]; omega
                                                obtain rfl : false = q := by rw [← HQ2.out, decide_eq_false h0]
                                                go_wp2_with fail
                                                go_ret
                                                exact ⟨rfl, bx_below (bx_more HBX.out hb2)⟩
                                            · have g11 : (kn != 11) = true := by rw [bne_iff_ne]; exact h11
                                              obtain rfl : true = q := by rw [← HQ.out, HLA.out, lastF, if_neg h12]; simp [h11]
                                              go_wp2_with fail
                                              go_ret
                                              exact ⟨rfl, bx_below HBX.out⟩
theorem refRight7_any (B : Nat) (v : Value) (f : FW) (q : Bool) (hq : rightF f = q) (w : World) (h : IsFlat B w v f) (hB : B ≤ w.heap.size) (hkn : 1 ≤ f.kind ∧ f.kind ≤ 14) (hbe : ∀ x ∈ f.entries, BigB x.b) (hbv : ∀ x ∈ f.events, BigE x) (hbb : BigB f.b) (hst : f.stream.size ≤ 100000) :
    Calls Tryz.prog 9 #[v] w fun r w' => r = .returned (.bool q) ∧ Below w.heap.size w w' := by
  obtain ⟨nv, cv, sv, bv, mv, ev, vv, lv, rfl, h1, h2, h3, h4, h5, h6, h7, h8⟩ := h
  obtain ⟨a1, c1, rfl⟩ := h1.form
  obtain ⟨a2, c2, rfl⟩ := h2.form
  obtain ⟨a3, c3, rfl⟩ := h3.form
  obtain ⟨a4, c4, rfl⟩ := h4.form
  obtain ⟨a5, c5, rfl⟩ := h5.form
  obtain ⟨a6, c6, rfl⟩ := h6.form
  obtain ⟨a7, c7, rfl⟩ := h7.form
  obtain ⟨a8, c8, rfl⟩ := h8.form
  exact refRight7_lit B _ _ _ _ _ _ _ _ _ _ a1 a2 a3 a4 a5 a6 a7 a8 c1 c2 c3 c4 c5 c6 c7 c8 w h1 h2 h3 h4 h5 h6 h7 h8 hB q hq hkn hbe hbv hbb hst
end Go.Proofs.YtflojipkgaocnaaGreatDoor
