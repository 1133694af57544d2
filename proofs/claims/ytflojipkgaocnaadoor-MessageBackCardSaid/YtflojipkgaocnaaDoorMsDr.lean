/-
  Plain facts of the messages that are drawn. Printed by gen_mslaw2.py of this claim's writer.
-/
import Derived.Test.YtflojipkgaocnaaDoorMsMade
import Derived.Test.YtflojipkgaocnaaDoorMsSmall
import Derived.Test.YtflojipkgaocnaaDoorMsTake
import Derived.Deep.MidRow
namespace Go.Proofs.YtflojipkgaocnaaDoor
open Go.RowKit
set_option linter.unusedVariables false

theorem box_range {w W : World} {cs : List Value} {t : TypeId} (hb : Below (w.heap.size + 1) (w.alloc (.cells cs.toArray t)) W) : W.rangeAt w.heap.size 0 cs := fun j v h => by
  rw [Nat.zero_add]
  exact box19 hb j v (by rw [List.getElem?_toArray]; exact h)
theorem putM_le {m : Msg} (h : rightM m = true) : (putM m).size ≤ 500000 := by
  have hk := right_okM h
  have hr := rest_le (ok_light hk)
  rw [putM, if_pos h, bstr_size, List.length_cons, bodyM, List.length_append]
  have hc := catI_le m.nums
  have hn : m.nums.length ≤ 6 := by cases m <;> simp [Msg.nums]
  have hrest : m.rest.length ≤ 400000 := by
    clear hr hc hn h
    cases m <;> simp only [Msg.rest, List.length_append, List.length_nil] <;> try omega
    case view a c s b =>
      have h1 := putL_le c (Nat.le_trans hk.2.1.1 (by omega))
      have h2 := putL_le s (Nat.le_trans hk.2.2.1.1 (by omega))
      have h3 := putL_le b (Nat.le_trans hk.2.2.2.1 (by omega))
      omega
    case hav a b c l =>
      have h1 := catM_le l
      have h2 := putN_len6 (clampN_le (l.length : Int))
      have h3 := hk.2.2.2.1
      unfold putL
      rw [List.length_append]
      omega
    case logs a b c d e f l =>
      have h1 := catR_le l
      have h2 := putN_len6 (clampN_le (l.length : Int))
      have h3 := hk.2.2.2.2.2.2.1
      unfold putRow
      split
      · exact Nat.zero_le _
      · rw [bstr_list]
        unfold putL
        rw [List.length_append]
        omega
    case app a b =>
      have h1 := putB_le b
      rw [size_listE]
      omega
    case red a s f =>
      have h1 := pT_size s
      have h2 := putI_le f
      have h3 : (putT s.data.toList).length = (pT s).size := by rw [pT, bstr_size]
      have h4 : s.size ≤ _ := hk.2.1
      omega
    case res a b c l =>
      have h1 := catE_le l
      have h2 := putN_len6 (clampN_le (l.length : Int))
      have h3 := hk.2.2.2.1
      unfold putL
      rw [List.length_append]
      omega
  omega
theorem made_cases {d : DW} {m : Msg} (hm : madeD d = some m) : (d.kind = 1 ∧ m = .beat d.n0 d.n1 d.n2) ∨ (d.kind = 2 ∧ m = .join d.n0 d.n1) ∨ (d.kind = 3 ∧ m = .lease d.n0 d.n1) ∨ (d.kind = 4 ∧ m = .view d.n0 d.chain d.since d.boot) ∨ (d.kind = 5 ∧ m = .whr d.n0) ∨ (d.kind = 6 ∧ m = .hav d.n0 d.n1 d.n2 d.marks) ∨ (d.kind = 7 ∧ m = .logs d.n0 d.n1 d.n2 d.n3 d.n4 d.n5 d.entries) ∨ (d.kind = 8 ∧ m = .ack d.n0 d.n1 d.n2) ∨ (d.kind = 9 ∧ m = .ask d.n0 d.n1 d.n2 d.n3) ∨ (d.kind = 10 ∧ m = .told d.n0 d.n1 d.n2 d.n3) ∨ (d.kind = 11 ∧ m = .app d.n0 d.b) ∨ (d.kind = 12 ∧ m = .red d.n0 d.stream d.n1) ∨ (d.kind = 13 ∧ m = .rep d.n0 d.n1 d.n2 d.n3 d.n4 d.n5) ∨ (d.kind = 14 ∧ m = .res d.n0 d.n1 d.n2 d.events) := by
  unfold madeD at hm
  by_cases k1 : d.kind = 1
  · rw [if_pos k1] at hm
    exact .inl ⟨k1, (Option.some.inj hm).symm⟩
  rw [if_neg k1] at hm
  by_cases k2 : d.kind = 2
  · rw [if_pos k2] at hm
    exact .inr (.inl ⟨k2, (Option.some.inj hm).symm⟩)
  rw [if_neg k2] at hm
  by_cases k3 : d.kind = 3
  · rw [if_pos k3] at hm
    exact .inr (.inr (.inl ⟨k3, (Option.some.inj hm).symm⟩))
  rw [if_neg k3] at hm
  by_cases k4 : d.kind = 4
  · rw [if_pos k4] at hm
    exact .inr (.inr (.inr (.inl ⟨k4, (Option.some.inj hm).symm⟩)))
  rw [if_neg k4] at hm
  by_cases k5 : d.kind = 5
  · rw [if_pos k5] at hm
    exact .inr (.inr (.inr (.inr (.inl ⟨k5, (Option.some.inj hm).symm⟩))))
  rw [if_neg k5] at hm
  by_cases k6 : d.kind = 6
  · rw [if_pos k6] at hm
    exact .inr (.inr (.inr (.inr (.inr (.inl ⟨k6, (Option.some.inj hm).symm⟩)))))
  rw [if_neg k6] at hm
  by_cases k7 : d.kind = 7
  · rw [if_pos k7] at hm
    exact .inr (.inr (.inr (.inr (.inr (.inr (.inl ⟨k7, (Option.some.inj hm).symm⟩))))))
  rw [if_neg k7] at hm
  by_cases k8 : d.kind = 8
  · rw [if_pos k8] at hm
    exact .inr (.inr (.inr (.inr (.inr (.inr (.inr (.inl ⟨k8, (Option.some.inj hm).symm⟩)))))))
  rw [if_neg k8] at hm
  by_cases k9 : d.kind = 9
  · rw [if_pos k9] at hm
    exact .inr (.inr (.inr (.inr (.inr (.inr (.inr (.inr (.inl ⟨k9, (Option.some.inj hm).symm⟩))))))))
  rw [if_neg k9] at hm
  by_cases k10 : d.kind = 10
  · rw [if_pos k10] at hm
    exact .inr (.inr (.inr (.inr (.inr (.inr (.inr (.inr (.inr (.inl ⟨k10, (Option.some.inj hm).symm⟩)))))))))
  rw [if_neg k10] at hm
  by_cases k11 : d.kind = 11
  · rw [if_pos k11] at hm
    exact .inr (.inr (.inr (.inr (.inr (.inr (.inr (.inr (.inr (.inr (.inl ⟨k11, (Option.some.inj hm).symm⟩))))))))))
  rw [if_neg k11] at hm
  by_cases k12 : d.kind = 12
  · rw [if_pos k12] at hm
    exact .inr (.inr (.inr (.inr (.inr (.inr (.inr (.inr (.inr (.inr (.inr (.inl ⟨k12, (Option.some.inj hm).symm⟩)))))))))))
  rw [if_neg k12] at hm
  by_cases k13 : d.kind = 13
  · rw [if_pos k13] at hm
    exact .inr (.inr (.inr (.inr (.inr (.inr (.inr (.inr (.inr (.inr (.inr (.inr (.inl ⟨k13, (Option.some.inj hm).symm⟩))))))))))))
  rw [if_neg k13] at hm
  by_cases k14 : d.kind = 14
  · rw [if_pos k14] at hm
    exact .inr (.inr (.inr (.inr (.inr (.inr (.inr (.inr (.inr (.inr (.inr (.inr (.inr (⟨k14, (Option.some.inj hm).symm⟩)))))))))))))
  rw [if_neg k14] at hm
  cases hm
theorem made_light {d : DW} {m : Msg} (h : SmallD d) (hm : madeD d = some m) : LightM m := by
  have h1 := h.c
  have h2 := h.i
  have h3 := h.o
  have h4 := h.m
  have h5 := h.e
  have h6 := h.v
  have h7 := h.s
  rcases made_cases hm with ⟨-, rfl⟩ | ⟨-, rfl⟩ | ⟨-, rfl⟩ | ⟨-, rfl⟩ | ⟨-, rfl⟩ | ⟨-, rfl⟩ | ⟨-, rfl⟩ | ⟨-, rfl⟩ | ⟨-, rfl⟩ | ⟨-, rfl⟩ | ⟨-, rfl⟩ | ⟨-, rfl⟩ | ⟨-, rfl⟩ | ⟨-, rfl⟩ <;> simp only [LightM] <;> omega
theorem made_kind {d : DW} {m : Msg} (hm : madeD d = some m) : (m.kind : Int) = d.kind := by
  rcases made_cases hm with ⟨hk, rfl⟩ | ⟨hk, rfl⟩ | ⟨hk, rfl⟩ | ⟨hk, rfl⟩ | ⟨hk, rfl⟩ | ⟨hk, rfl⟩ | ⟨hk, rfl⟩ | ⟨hk, rfl⟩ | ⟨hk, rfl⟩ | ⟨hk, rfl⟩ | ⟨hk, rfl⟩ | ⟨hk, rfl⟩ | ⟨hk, rfl⟩ | ⟨hk, rfl⟩ <;> exact hk.symm
theorem made_nums {d : DW} {m : Msg} (hm : madeD d = some m) : m.nums.head? = some d.n0 := by
  rcases made_cases hm with ⟨-, rfl⟩ | ⟨-, rfl⟩ | ⟨-, rfl⟩ | ⟨-, rfl⟩ | ⟨-, rfl⟩ | ⟨-, rfl⟩ | ⟨-, rfl⟩ | ⟨-, rfl⟩ | ⟨-, rfl⟩ | ⟨-, rfl⟩ | ⟨-, rfl⟩ | ⟨-, rfl⟩ | ⟨-, rfl⟩ | ⟨-, rfl⟩ <;> rfl
theorem made_epoch {d : DW} {m : Msg} (hm : madeD d = some m) : epochM m = 0 ∨ epochM m = d.n0 ∨ epochM m = d.n1 := by
  unfold epochM
  by_cases h : rightM m = true
  · rw [if_pos h]
    rcases made_cases hm with ⟨-, rfl⟩ | ⟨-, rfl⟩ | ⟨-, rfl⟩ | ⟨-, rfl⟩ | ⟨-, rfl⟩ | ⟨-, rfl⟩ | ⟨-, rfl⟩ | ⟨-, rfl⟩ | ⟨-, rfl⟩ | ⟨-, rfl⟩ | ⟨-, rfl⟩ | ⟨-, rfl⟩ | ⟨-, rfl⟩ | ⟨-, rfl⟩ <;> first | exact .inl rfl | exact .inr (.inl rfl) | exact .inr (.inr rfl)
  · rw [if_neg h]
    exact .inl rfl
theorem not_epoch {m : Msg} (h : rightM m = false) : epochM m = 0 := by
  unfold epochM
  rw [if_neg (by rw [h]; decide)]
theorem iface_neq (T : TypeId) (p : Value) (W : World) : (binOp .neq 34 (.iface T p) .nilIface).run Tryd.prog W = .ok (.bool true) W := by kernel_rfl
theorem iface_eql (T : TypeId) (p : Value) (W : World) : (binOp .eql 34 (.iface T p) .nilIface).run Tryd.prog W = .ok (.bool false) W := by kernel_rfl
theorem nil_eql (W : World) : (binOp .eql 34 .nilIface .nilIface).run Tryd.prog W = .ok (.bool true) W := by kernel_rfl
theorem nil_neq (W : World) : (binOp .neq 34 .nilIface .nilIface).run Tryd.prog W = .ok (.bool false) W := by kernel_rfl
end Go.Proofs.YtflojipkgaocnaaDoor
