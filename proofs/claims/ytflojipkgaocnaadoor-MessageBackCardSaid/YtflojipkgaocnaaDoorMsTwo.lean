/-
  Two boxes, one behind the other; what a wrong first number makes of a message. Printed by gen_mslaw3.py of this claim's writer.
-/
import Derived.Test.YtflojipkgaocnaaDoorMsDr
namespace Go.Proofs.YtflojipkgaocnaaDoor
open Go.RowKit
set_option linter.unusedVariables false

theorem two_size {w X : World} {o o' : Obj} (h : Below (w.heap.size + 2) ((w.alloc o).alloc o') X) : w.heap.size + 2 ≤ X.heap.size := by have := h.size; simpa using this
theorem two_below {w X : World} {o o' : Obj} (h : Below (w.heap.size + 2) ((w.alloc o).alloc o') X) : Below w.heap.size w X := (((Below.refl _ _).alloc (Nat.le_refl _) o).alloc (by rw [World.size_alloc]; omega) o').trans (h.mono (by omega))
theorem two_more {w X X' : World} {o o' : Obj} (h : Below (w.heap.size + 2) ((w.alloc o).alloc o') X) (k : Below X.heap.size X X') : Below (w.heap.size + 2) ((w.alloc o).alloc o') X' := h.trans (k.mono (two_size h))
theorem two_new {w : World} (o o' : Obj) : Below (w.heap.size + 2) ((w.alloc o).alloc o') ((w.alloc o).alloc o') := Below.refl _ _
theorem two_heapA {w X : World} {o o' : Obj} (h : Below (w.heap.size + 2) ((w.alloc o).alloc o') X) : X.heap[w.heap.size]? = some o := by
  have h1 := h.block w.heap.size (by omega)
  have h2 := ((Below.refl (w.alloc o).heap.size (w.alloc o)).alloc (Nat.le_refl _) o').block w.heap.size (by rw [World.size_alloc]; omega)
  rw [h1, h2]
  exact heap_alloc_new w o
theorem two_heapB {w X : World} {o o' : Obj} (h : Below (w.heap.size + 2) ((w.alloc o).alloc o') X) : X.heap[w.heap.size + 1]? = some o' := by
  have h1 := h.block (w.heap.size + 1) (by omega)
  have h3 := heap_alloc_new (w.alloc o) o'
  rw [World.size_alloc] at h3
  rw [h1]
  exact h3
theorem heap_range {X : World} {g : Nat} {cs : List Value} {t : TypeId} {fr : Nat × Nat} (h : X.heap[g]? = some (.cells cs.toArray t fr)) : X.rangeAt g 0 cs := fun j v hv => by
  rw [Nat.zero_add, Lib.cell_of_heap h, List.getElem?_toArray]
  exact hv
/-- What a store into the box leaves. -/
theorem range_set {X : World} {g : Nat} {a b u : Value} {cs : List Value} {t : TypeId} (h : X.heap[g]? = some (.cells (a :: b :: cs).toArray t)) : (X.setCell ⟨g, 1, none⟩ u).rangeAt g 0 (a :: u :: cs) := fun j v hv => by
  rw [Nat.zero_add]
  have hb : X.cell? ⟨g, 1, none⟩ = some b := by rw [Lib.cell_of_heap h]; rfl
  by_cases e : j = 1
  · subst e
    have hv : u = v := by simpa using hv
    subst hv
    exact World.cell?_setCell_same X (a := ⟨g, 1, none⟩) u (by rw [hb])
  · rw [World.cell?_setCell_other _ _ _ _ (by intro e0; injection e0 with e1 e2; exact e (by omega)), Lib.cell_of_heap h, List.getElem?_toArray, ← hv]
    match j, e with
    | 0, _ => rfl
    | 1, e => exact absurd rfl e
    | j + 2, _ => rfl
theorem not_num {m : Msg} {n : Int} (h : m.nums.head? = some n) (hn : n < 0) : rightM m = false := by
  obtain ⟨l, hl⟩ : ∃ l, m.nums = n :: l := by
    cases e : m.nums with
    | nil => rw [e] at h; cases h
    | cons a l => rw [e] at h; exact ⟨l, by rw [List.head?_cons] at h; rw [Option.some.inj h]⟩
  rw [rightM, hl, List.all_cons, numM, decide_eq_false (by omega)]
  rfl
theorem kinds_ne {m m' : Msg} (h : m.kind ≠ m'.kind) (hr : rightM m = true) : ((putM m).toList == (putM m').toList) = false := by
  rw [beq_eq_false_iff_ne, ByteArray.toList_eq, ByteArray.toList_eq, putM_list hr]
  by_cases hr' : rightM m' = true
  · rw [putM_list hr']
    intro e
    injection e with e1 e2
    have h1 := kind_nat m
    have h2 := kind_nat m'
    rw [e1, h2] at h1
    exact h h1.symm
  · rw [putM_not (by cases e : rightM m'; rfl; exact absurd e hr')]
    intro e
    cases e
theorem first_kind {m : Msg} (hr : rightM m = true) : 0 < (putM m).size ∧ ∀ h : 0 < (putM m).size, (((putM m)[0]'h).toNat : Int) = (m.kind : Int) := by
  have h1 := putM_list hr
  have h2 : 0 < (putM m).size := by rw [← size_listE, h1]; simp
  refine ⟨h2, fun h => ?_⟩
  have e1 : (putM m).data.toList[0]? = some (UInt8.ofNat m.kind) := by rw [h1]; rfl
  have e2 : (putM m).data.toList[0]? = some ((putM m)[0]'h) := by
    rw [List.getElem?_eq_getElem (by rw [size_listE]; exact h)]
    rfl
  rw [e2] at e1
  injection e1 with e1
  rw [e1, kind_nat]
/-- The same kind is made of other numbers. -/
theorem made_again {d e : DW} {m : Msg} (hm : madeD d = some m) (h : e.kind = d.kind) : ∃ m', madeD e = some m' := by
  unfold madeD
  rcases made_cases hm with ⟨hk, -⟩ | ⟨hk, -⟩ | ⟨hk, -⟩ | ⟨hk, -⟩ | ⟨hk, -⟩ | ⟨hk, -⟩ | ⟨hk, -⟩ | ⟨hk, -⟩ | ⟨hk, -⟩ | ⟨hk, -⟩ | ⟨hk, -⟩ | ⟨hk, -⟩ | ⟨hk, -⟩ | ⟨hk, -⟩ <;> rw [h, hk]
  · exact ⟨_, rfl⟩
  · exact ⟨_, rfl⟩
  · exact ⟨_, rfl⟩
  · exact ⟨_, rfl⟩
  · exact ⟨_, rfl⟩
  · exact ⟨_, rfl⟩
  · exact ⟨_, rfl⟩
  · exact ⟨_, rfl⟩
  · exact ⟨_, rfl⟩
  · exact ⟨_, rfl⟩
  · exact ⟨_, rfl⟩
  · exact ⟨_, rfl⟩
  · exact ⟨_, rfl⟩
  · exact ⟨_, rfl⟩
end Go.Proofs.YtflojipkgaocnaaDoor
