/-
  The walks of message.others and message.numbers, at every kind. Printed by gen_msnum.py of this claim's writer.
-/
import Derived.Test.YtflojipkgaocnaaGreatDoorMsData
import Derived.WalkKit
namespace Go.Proofs.YtflojipkgaocnaaGreatDoor
open Go.RowKit
set_option linter.unusedSimpArgs false
set_option linter.unusedVariables false

theorem row_block (l : List Int) (W : World) (t : TypeId) (fr : Nat × Nat) (hm : l.length ≤ maxLen) (g : Nat) (hg : W.heap.size = g) : IsNums (W.alloc (.cells (l.map (fun n => Value.int .i64 n)).toArray t fr)).heap.size (W.alloc (.cells (l.map (fun n => Value.int .i64 n)).toArray t fr)) (.slice (some ⟨g, 0, none⟩) l.length l.length) l := by
  subst hg
  refine ⟨_, _, rfl, Nat.le_refl _, hm, fun h => (by cases h), fun hp => ⟨W.heap.size, 0, rfl, by simp, fun i hi j hj => ?_⟩⟩
  obtain rfl : j = 0 := by omega
  rw [Nat.zero_add, Nat.mul_one, Nat.add_zero, Lib.cell_of_heap (heap_alloc_new W _)]
  simp [icell, hi]
/-- The numbers of a message, in a slice of the call's own. -/
def GotNums (l : List Int) (w : World) (e : Ending) (w' : World) : Prop := ∃ v, e = .returned (.tuple #[v, .bool true]) ∧ IsNums w'.heap.size w' v l ∧ Below w.heap.size w w'

set_option maxRecDepth 100000 in
set_option maxHeartbeats 3200000 in
theorem others_ack (B : Nat) (v : Value) (a b c : Int) (w : World) (h : IsMsg B w v (.ack a b c)) :
    Calls Tryz.prog 37 #[v] w fun en w' => GotNums [a, b, c] w en w' := by
  obtain rfl := h
  have a0 : ∀ (W : World) (v : Value), (Instr.typeAssert (.iface 51 v) 34 51 true).run Tryz.prog W = .ok (.tuple #[v, .bool true]) W := fun W v => by kernel_rfl
  go_enter Tryz.func37, Tryz.ntmps37
  go_wp2_with fail
  go_ret2
  exact ⟨_, rfl, row_block [a, b, c] _ _ _ (by unfold maxLen; simp only [List.length_cons, List.length_nil]; omega) _ (by simp only [World.size_alloc]), (by repeat (first | exact Below.refl _ _ | refine Below.alloc ?_ (by (try simp only [World.size_alloc]); omega) _))⟩

set_option maxRecDepth 100000 in
set_option maxHeartbeats 3200000 in
theorem others_ask (B : Nat) (v : Value) (a b c d : Int) (w : World) (h : IsMsg B w v (.ask a b c d)) :
    Calls Tryz.prog 37 #[v] w fun en w' => GotNums [a, b, c, d] w en w' := by
  obtain rfl := h
  have a0 : ∀ (W : World) (v : Value), (Instr.typeAssert (.iface 71 v) 34 51 true).run Tryz.prog W = .ok (.tuple #[(.agg #[.int .i64 0, .int .i64 0, .int .i64 0]), .bool false]) W := fun W v => by kernel_rfl
  have a1 : ∀ (W : World) (v : Value), (Instr.typeAssert (.iface 71 v) 34 71 true).run Tryz.prog W = .ok (.tuple #[v, .bool true]) W := fun W v => by kernel_rfl
  go_enter Tryz.func37, Tryz.ntmps37
  go_wp2_with fail
  go_ret2
  exact ⟨_, rfl, row_block [a, b, c, d] _ _ _ (by unfold maxLen; simp only [List.length_cons, List.length_nil]; omega) _ (by simp only [World.size_alloc]), (by repeat (first | exact Below.refl _ _ | refine Below.alloc ?_ (by (try simp only [World.size_alloc]); omega) _))⟩

set_option maxRecDepth 100000 in
set_option maxHeartbeats 3200000 in
theorem others_told (B : Nat) (v : Value) (a b c d : Int) (w : World) (h : IsMsg B w v (.told a b c d)) :
    Calls Tryz.prog 37 #[v] w fun en w' => GotNums [a, b, c, d] w en w' := by
  obtain rfl := h
  have a0 : ∀ (W : World) (v : Value), (Instr.typeAssert (.iface 73 v) 34 51 true).run Tryz.prog W = .ok (.tuple #[(.agg #[.int .i64 0, .int .i64 0, .int .i64 0]), .bool false]) W := fun W v => by kernel_rfl
  have a1 : ∀ (W : World) (v : Value), (Instr.typeAssert (.iface 73 v) 34 71 true).run Tryz.prog W = .ok (.tuple #[(.agg #[.int .i64 0, .int .i64 0, .int .i64 0, .int .i64 0]), .bool false]) W := fun W v => by kernel_rfl
  have a2 : ∀ (W : World) (v : Value), (Instr.typeAssert (.iface 73 v) 34 73 true).run Tryz.prog W = .ok (.tuple #[v, .bool true]) W := fun W v => by kernel_rfl
  go_enter Tryz.func37, Tryz.ntmps37
  go_wp2_with fail
  go_ret2
  exact ⟨_, rfl, row_block [a, b, c, d] _ _ _ (by unfold maxLen; simp only [List.length_cons, List.length_nil]; omega) _ (by simp only [World.size_alloc]), (by repeat (first | exact Below.refl _ _ | refine Below.alloc ?_ (by (try simp only [World.size_alloc]); omega) _))⟩

set_option maxRecDepth 100000 in
set_option maxHeartbeats 3200000 in
theorem others_app (B : Nat) (v : Value) (a : Int) (b : BW) (w : World) (h : IsMsg B w v (.app a b)) :
    Calls Tryz.prog 37 #[v] w fun en w' => GotNums [a] w en w' := by
  obtain ⟨lv, rfl, i1⟩ := h
  obtain ⟨p1, q1, rfl⟩ := i1.form
  clear i1
  have a0 : ∀ (W : World) (v : Value), (Instr.typeAssert (.iface 75 v) 34 51 true).run Tryz.prog W = .ok (.tuple #[(.agg #[.int .i64 0, .int .i64 0, .int .i64 0]), .bool false]) W := fun W v => by kernel_rfl
  have a1 : ∀ (W : World) (v : Value), (Instr.typeAssert (.iface 75 v) 34 71 true).run Tryz.prog W = .ok (.tuple #[(.agg #[.int .i64 0, .int .i64 0, .int .i64 0, .int .i64 0]), .bool false]) W := fun W v => by kernel_rfl
  have a2 : ∀ (W : World) (v : Value), (Instr.typeAssert (.iface 75 v) 34 73 true).run Tryz.prog W = .ok (.tuple #[(.agg #[.int .i64 0, .int .i64 0, .int .i64 0, .int .i64 0]), .bool false]) W := fun W v => by kernel_rfl
  have a3 : ∀ (W : World) (v : Value), (Instr.typeAssert (.iface 75 v) 34 75 true).run Tryz.prog W = .ok (.tuple #[v, .bool true]) W := fun W v => by kernel_rfl
  go_enter Tryz.func37, Tryz.ntmps37
  go_wp2_with fail
  go_ret2
  exact ⟨_, rfl, row_block [a] _ _ _ (by unfold maxLen; simp only [List.length_cons, List.length_nil]; omega) _ (by simp only [World.size_alloc]), (by repeat (first | exact Below.refl _ _ | refine Below.alloc ?_ (by (try simp only [World.size_alloc]); omega) _))⟩

set_option maxRecDepth 100000 in
set_option maxHeartbeats 3200000 in
theorem others_red (B : Nat) (v : Value) (a : Int) (s : ByteArray) (f : Int) (w : World) (h : IsMsg B w v (.red a s f)) :
    Calls Tryz.prog 37 #[v] w fun en w' => GotNums [a] w en w' := by
  obtain rfl := h
  have a0 : ∀ (W : World) (v : Value), (Instr.typeAssert (.iface 77 v) 34 51 true).run Tryz.prog W = .ok (.tuple #[(.agg #[.int .i64 0, .int .i64 0, .int .i64 0]), .bool false]) W := fun W v => by kernel_rfl
  have a1 : ∀ (W : World) (v : Value), (Instr.typeAssert (.iface 77 v) 34 71 true).run Tryz.prog W = .ok (.tuple #[(.agg #[.int .i64 0, .int .i64 0, .int .i64 0, .int .i64 0]), .bool false]) W := fun W v => by kernel_rfl
  have a2 : ∀ (W : World) (v : Value), (Instr.typeAssert (.iface 77 v) 34 73 true).run Tryz.prog W = .ok (.tuple #[(.agg #[.int .i64 0, .int .i64 0, .int .i64 0, .int .i64 0]), .bool false]) W := fun W v => by kernel_rfl
  have a3 : ∀ (W : World) (v : Value), (Instr.typeAssert (.iface 77 v) 34 75 true).run Tryz.prog W = .ok (.tuple #[(.agg #[.int .i64 0, .string ByteArray.empty, .int .i64 0, .int .i64 0, .int .i64 0, .slice none 0 0]), .bool false]) W := fun W v => by kernel_rfl
  have a4 : ∀ (W : World) (v : Value), (Instr.typeAssert (.iface 77 v) 34 77 true).run Tryz.prog W = .ok (.tuple #[v, .bool true]) W := fun W v => by kernel_rfl
  go_enter Tryz.func37, Tryz.ntmps37
  go_wp2_with fail
  go_ret2
  exact ⟨_, rfl, row_block [a] _ _ _ (by unfold maxLen; simp only [List.length_cons, List.length_nil]; omega) _ (by simp only [World.size_alloc]), (by repeat (first | exact Below.refl _ _ | refine Below.alloc ?_ (by (try simp only [World.size_alloc]); omega) _))⟩

set_option maxRecDepth 100000 in
set_option maxHeartbeats 3200000 in
theorem others_rep (B : Nat) (v : Value) (a b c d e f : Int) (w : World) (h : IsMsg B w v (.rep a b c d e f)) :
    Calls Tryz.prog 37 #[v] w fun en w' => GotNums [a, b, c, d, e, f] w en w' := by
  obtain rfl := h
  have a0 : ∀ (W : World) (v : Value), (Instr.typeAssert (.iface 81 v) 34 51 true).run Tryz.prog W = .ok (.tuple #[(.agg #[.int .i64 0, .int .i64 0, .int .i64 0]), .bool false]) W := fun W v => by kernel_rfl
  have a1 : ∀ (W : World) (v : Value), (Instr.typeAssert (.iface 81 v) 34 71 true).run Tryz.prog W = .ok (.tuple #[(.agg #[.int .i64 0, .int .i64 0, .int .i64 0, .int .i64 0]), .bool false]) W := fun W v => by kernel_rfl
  have a2 : ∀ (W : World) (v : Value), (Instr.typeAssert (.iface 81 v) 34 73 true).run Tryz.prog W = .ok (.tuple #[(.agg #[.int .i64 0, .int .i64 0, .int .i64 0, .int .i64 0]), .bool false]) W := fun W v => by kernel_rfl
  have a3 : ∀ (W : World) (v : Value), (Instr.typeAssert (.iface 81 v) 34 75 true).run Tryz.prog W = .ok (.tuple #[(.agg #[.int .i64 0, .string ByteArray.empty, .int .i64 0, .int .i64 0, .int .i64 0, .slice none 0 0]), .bool false]) W := fun W v => by kernel_rfl
  have a4 : ∀ (W : World) (v : Value), (Instr.typeAssert (.iface 81 v) 34 77 true).run Tryz.prog W = .ok (.tuple #[(.agg #[.int .i64 0, .string ByteArray.empty, .int .i64 0]), .bool false]) W := fun W v => by kernel_rfl
  have a5 : ∀ (W : World) (v : Value), (Instr.typeAssert (.iface 81 v) 34 81 true).run Tryz.prog W = .ok (.tuple #[v, .bool true]) W := fun W v => by kernel_rfl
  go_enter Tryz.func37, Tryz.ntmps37
  go_wp2_with fail
  go_ret2
  exact ⟨_, rfl, row_block [a, b, c, d, e, f] _ _ _ (by unfold maxLen; simp only [List.length_cons, List.length_nil]; omega) _ (by simp only [World.size_alloc]), (by repeat (first | exact Below.refl _ _ | refine Below.alloc ?_ (by (try simp only [World.size_alloc]); omega) _))⟩

set_option maxRecDepth 100000 in
set_option maxHeartbeats 3200000 in
theorem others_res (B : Nat) (v : Value) (a b c : Int) (l : List EV) (w : World) (h : IsMsg B w v (.res a b c l)) :
    Calls Tryz.prog 37 #[v] w fun en w' => GotNums [a, b, c] w en w' := by
  obtain ⟨lv, rfl, i1⟩ := h
  obtain ⟨p1, q1, rfl⟩ := i1.form
  clear i1
  have a0 : ∀ (W : World) (v : Value), (Instr.typeAssert (.iface 83 v) 34 51 true).run Tryz.prog W = .ok (.tuple #[(.agg #[.int .i64 0, .int .i64 0, .int .i64 0]), .bool false]) W := fun W v => by kernel_rfl
  have a1 : ∀ (W : World) (v : Value), (Instr.typeAssert (.iface 83 v) 34 71 true).run Tryz.prog W = .ok (.tuple #[(.agg #[.int .i64 0, .int .i64 0, .int .i64 0, .int .i64 0]), .bool false]) W := fun W v => by kernel_rfl
  have a2 : ∀ (W : World) (v : Value), (Instr.typeAssert (.iface 83 v) 34 73 true).run Tryz.prog W = .ok (.tuple #[(.agg #[.int .i64 0, .int .i64 0, .int .i64 0, .int .i64 0]), .bool false]) W := fun W v => by kernel_rfl
  have a3 : ∀ (W : World) (v : Value), (Instr.typeAssert (.iface 83 v) 34 75 true).run Tryz.prog W = .ok (.tuple #[(.agg #[.int .i64 0, .string ByteArray.empty, .int .i64 0, .int .i64 0, .int .i64 0, .slice none 0 0]), .bool false]) W := fun W v => by kernel_rfl
  have a4 : ∀ (W : World) (v : Value), (Instr.typeAssert (.iface 83 v) 34 77 true).run Tryz.prog W = .ok (.tuple #[(.agg #[.int .i64 0, .string ByteArray.empty, .int .i64 0]), .bool false]) W := fun W v => by kernel_rfl
  have a5 : ∀ (W : World) (v : Value), (Instr.typeAssert (.iface 83 v) 34 81 true).run Tryz.prog W = .ok (.tuple #[(.agg #[.int .i64 0, .int .i64 0, .int .i64 0, .int .i64 0, .int .i64 0, .int .i64 0]), .bool false]) W := fun W v => by kernel_rfl
  have a6 : ∀ (W : World) (v : Value), (Instr.typeAssert (.iface 83 v) 34 83 true).run Tryz.prog W = .ok (.tuple #[v, .bool true]) W := fun W v => by kernel_rfl
  go_enter Tryz.func37, Tryz.ntmps37
  go_wp2_with fail
  go_ret2
  exact ⟨_, rfl, row_block [a, b, c] _ _ _ (by unfold maxLen; simp only [List.length_cons, List.length_nil]; omega) _ (by simp only [World.size_alloc]), (by repeat (first | exact Below.refl _ _ | refine Below.alloc ?_ (by (try simp only [World.size_alloc]); omega) _))⟩

set_option maxRecDepth 100000 in
set_option maxHeartbeats 3200000 in
theorem numbers_beat (B : Nat) (v : Value) (a b c : Int) (w : World) (h : IsMsg B w v (.beat a b c)) :
    Calls Tryz.prog 21 #[v] w fun en w' => GotNums [a, b, c] w en w' := by
  obtain rfl := h
  have a0 : ∀ (W : World) (v : Value), (Instr.typeAssert (.iface 57 v) 34 57 true).run Tryz.prog W = .ok (.tuple #[v, .bool true]) W := fun W v => by kernel_rfl
  go_enter Tryz.func21, Tryz.ntmps21
  go_wp2_with fail
  go_ret2
  exact ⟨_, rfl, row_block [a, b, c] _ _ _ (by unfold maxLen; simp only [List.length_cons, List.length_nil]; omega) _ (by simp only [World.size_alloc]), (by repeat (first | exact Below.refl _ _ | refine Below.alloc ?_ (by (try simp only [World.size_alloc]); omega) _))⟩

set_option maxRecDepth 100000 in
set_option maxHeartbeats 3200000 in
theorem numbers_join (B : Nat) (v : Value) (a b : Int) (w : World) (h : IsMsg B w v (.join a b)) :
    Calls Tryz.prog 21 #[v] w fun en w' => GotNums [a, b] w en w' := by
  obtain rfl := h
  have a0 : ∀ (W : World) (v : Value), (Instr.typeAssert (.iface 59 v) 34 57 true).run Tryz.prog W = .ok (.tuple #[(.agg #[.int .i64 0, .int .i64 0, .int .i64 0]), .bool false]) W := fun W v => by kernel_rfl
  have a1 : ∀ (W : World) (v : Value), (Instr.typeAssert (.iface 59 v) 34 59 true).run Tryz.prog W = .ok (.tuple #[v, .bool true]) W := fun W v => by kernel_rfl
  go_enter Tryz.func21, Tryz.ntmps21
  go_wp2_with fail
  go_ret2
  exact ⟨_, rfl, row_block [a, b] _ _ _ (by unfold maxLen; simp only [List.length_cons, List.length_nil]; omega) _ (by simp only [World.size_alloc]), (by repeat (first | exact Below.refl _ _ | refine Below.alloc ?_ (by (try simp only [World.size_alloc]); omega) _))⟩

set_option maxRecDepth 100000 in
set_option maxHeartbeats 3200000 in
theorem numbers_lease (B : Nat) (v : Value) (a b : Int) (w : World) (h : IsMsg B w v (.lease a b)) :
    Calls Tryz.prog 21 #[v] w fun en w' => GotNums [a, b] w en w' := by
  obtain rfl := h
  have a0 : ∀ (W : World) (v : Value), (Instr.typeAssert (.iface 61 v) 34 57 true).run Tryz.prog W = .ok (.tuple #[(.agg #[.int .i64 0, .int .i64 0, .int .i64 0]), .bool false]) W := fun W v => by kernel_rfl
  have a1 : ∀ (W : World) (v : Value), (Instr.typeAssert (.iface 61 v) 34 59 true).run Tryz.prog W = .ok (.tuple #[(.agg #[.int .i64 0, .int .i64 0]), .bool false]) W := fun W v => by kernel_rfl
  have a2 : ∀ (W : World) (v : Value), (Instr.typeAssert (.iface 61 v) 34 61 true).run Tryz.prog W = .ok (.tuple #[v, .bool true]) W := fun W v => by kernel_rfl
  go_enter Tryz.func21, Tryz.ntmps21
  go_wp2_with fail
  go_ret2
  exact ⟨_, rfl, row_block [a, b] _ _ _ (by unfold maxLen; simp only [List.length_cons, List.length_nil]; omega) _ (by simp only [World.size_alloc]), (by repeat (first | exact Below.refl _ _ | refine Below.alloc ?_ (by (try simp only [World.size_alloc]); omega) _))⟩

set_option maxRecDepth 100000 in
set_option maxHeartbeats 3200000 in
theorem numbers_view (B : Nat) (v : Value) (a : Int) (c s b : List Int) (w : World) (h : IsMsg B w v (.view a c s b)) :
    Calls Tryz.prog 21 #[v] w fun en w' => GotNums [a] w en w' := by
  obtain ⟨cv, sv, bv, rfl, i1, i2, i3⟩ := h
  obtain ⟨p1, q1, rfl⟩ := i1.form
  obtain ⟨p2, q2, rfl⟩ := i2.form
  obtain ⟨p3, q3, rfl⟩ := i3.form
  clear i1 i2 i3
  have a0 : ∀ (W : World) (v : Value), (Instr.typeAssert (.iface 63 v) 34 57 true).run Tryz.prog W = .ok (.tuple #[(.agg #[.int .i64 0, .int .i64 0, .int .i64 0]), .bool false]) W := fun W v => by kernel_rfl
  have a1 : ∀ (W : World) (v : Value), (Instr.typeAssert (.iface 63 v) 34 59 true).run Tryz.prog W = .ok (.tuple #[(.agg #[.int .i64 0, .int .i64 0]), .bool false]) W := fun W v => by kernel_rfl
  have a2 : ∀ (W : World) (v : Value), (Instr.typeAssert (.iface 63 v) 34 61 true).run Tryz.prog W = .ok (.tuple #[(.agg #[.int .i64 0, .int .i64 0]), .bool false]) W := fun W v => by kernel_rfl
  have a3 : ∀ (W : World) (v : Value), (Instr.typeAssert (.iface 63 v) 34 63 true).run Tryz.prog W = .ok (.tuple #[v, .bool true]) W := fun W v => by kernel_rfl
  go_enter Tryz.func21, Tryz.ntmps21
  go_wp2_with fail
  go_ret2
  exact ⟨_, rfl, row_block [a] _ _ _ (by unfold maxLen; simp only [List.length_cons, List.length_nil]; omega) _ (by simp only [World.size_alloc]), (by repeat (first | exact Below.refl _ _ | refine Below.alloc ?_ (by (try simp only [World.size_alloc]); omega) _))⟩

set_option maxRecDepth 100000 in
set_option maxHeartbeats 3200000 in
theorem numbers_whr (B : Nat) (v : Value) (a : Int) (w : World) (h : IsMsg B w v (.whr a)) :
    Calls Tryz.prog 21 #[v] w fun en w' => GotNums [a] w en w' := by
  obtain rfl := h
  have a0 : ∀ (W : World) (v : Value), (Instr.typeAssert (.iface 65 v) 34 57 true).run Tryz.prog W = .ok (.tuple #[(.agg #[.int .i64 0, .int .i64 0, .int .i64 0]), .bool false]) W := fun W v => by kernel_rfl
  have a1 : ∀ (W : World) (v : Value), (Instr.typeAssert (.iface 65 v) 34 59 true).run Tryz.prog W = .ok (.tuple #[(.agg #[.int .i64 0, .int .i64 0]), .bool false]) W := fun W v => by kernel_rfl
  have a2 : ∀ (W : World) (v : Value), (Instr.typeAssert (.iface 65 v) 34 61 true).run Tryz.prog W = .ok (.tuple #[(.agg #[.int .i64 0, .int .i64 0]), .bool false]) W := fun W v => by kernel_rfl
  have a3 : ∀ (W : World) (v : Value), (Instr.typeAssert (.iface 65 v) 34 63 true).run Tryz.prog W = .ok (.tuple #[(.agg #[.int .i64 0, .slice none 0 0, .slice none 0 0, .slice none 0 0]), .bool false]) W := fun W v => by kernel_rfl
  have a4 : ∀ (W : World) (v : Value), (Instr.typeAssert (.iface 65 v) 34 65 true).run Tryz.prog W = .ok (.tuple #[v, .bool true]) W := fun W v => by kernel_rfl
  go_enter Tryz.func21, Tryz.ntmps21
  go_wp2_with fail
  go_ret2
  exact ⟨_, rfl, row_block [a] _ _ _ (by unfold maxLen; simp only [List.length_cons, List.length_nil]; omega) _ (by simp only [World.size_alloc]), (by repeat (first | exact Below.refl _ _ | refine Below.alloc ?_ (by (try simp only [World.size_alloc]); omega) _))⟩

set_option maxRecDepth 100000 in
set_option maxHeartbeats 3200000 in
theorem numbers_hav (B : Nat) (v : Value) (a b c : Int) (l : List (Int × Int)) (w : World) (h : IsMsg B w v (.hav a b c l)) :
    Calls Tryz.prog 21 #[v] w fun en w' => GotNums [a, b, c] w en w' := by
  obtain ⟨lv, rfl, i1⟩ := h
  obtain ⟨p1, q1, rfl⟩ := i1.form
  clear i1
  have a0 : ∀ (W : World) (v : Value), (Instr.typeAssert (.iface 67 v) 34 57 true).run Tryz.prog W = .ok (.tuple #[(.agg #[.int .i64 0, .int .i64 0, .int .i64 0]), .bool false]) W := fun W v => by kernel_rfl
  have a1 : ∀ (W : World) (v : Value), (Instr.typeAssert (.iface 67 v) 34 59 true).run Tryz.prog W = .ok (.tuple #[(.agg #[.int .i64 0, .int .i64 0]), .bool false]) W := fun W v => by kernel_rfl
  have a2 : ∀ (W : World) (v : Value), (Instr.typeAssert (.iface 67 v) 34 61 true).run Tryz.prog W = .ok (.tuple #[(.agg #[.int .i64 0, .int .i64 0]), .bool false]) W := fun W v => by kernel_rfl
  have a3 : ∀ (W : World) (v : Value), (Instr.typeAssert (.iface 67 v) 34 63 true).run Tryz.prog W = .ok (.tuple #[(.agg #[.int .i64 0, .slice none 0 0, .slice none 0 0, .slice none 0 0]), .bool false]) W := fun W v => by kernel_rfl
  have a4 : ∀ (W : World) (v : Value), (Instr.typeAssert (.iface 67 v) 34 65 true).run Tryz.prog W = .ok (.tuple #[(.agg #[.int .i64 0]), .bool false]) W := fun W v => by kernel_rfl
  have a5 : ∀ (W : World) (v : Value), (Instr.typeAssert (.iface 67 v) 34 67 true).run Tryz.prog W = .ok (.tuple #[v, .bool true]) W := fun W v => by kernel_rfl
  go_enter Tryz.func21, Tryz.ntmps21
  go_wp2_with fail
  go_ret2
  exact ⟨_, rfl, row_block [a, b, c] _ _ _ (by unfold maxLen; simp only [List.length_cons, List.length_nil]; omega) _ (by simp only [World.size_alloc]), (by repeat (first | exact Below.refl _ _ | refine Below.alloc ?_ (by (try simp only [World.size_alloc]); omega) _))⟩

set_option maxRecDepth 100000 in
set_option maxHeartbeats 3200000 in
theorem numbers_logs (B : Nat) (v : Value) (a b c d e f : Int) (l : List EN) (w : World) (h : IsMsg B w v (.logs a b c d e f l)) :
    Calls Tryz.prog 21 #[v] w fun en w' => GotNums [a, b, c, d, e, f] w en w' := by
  obtain ⟨lv, rfl, i1⟩ := h
  obtain ⟨p1, q1, rfl⟩ := i1.form
  clear i1
  have a0 : ∀ (W : World) (v : Value), (Instr.typeAssert (.iface 69 v) 34 57 true).run Tryz.prog W = .ok (.tuple #[(.agg #[.int .i64 0, .int .i64 0, .int .i64 0]), .bool false]) W := fun W v => by kernel_rfl
  have a1 : ∀ (W : World) (v : Value), (Instr.typeAssert (.iface 69 v) 34 59 true).run Tryz.prog W = .ok (.tuple #[(.agg #[.int .i64 0, .int .i64 0]), .bool false]) W := fun W v => by kernel_rfl
  have a2 : ∀ (W : World) (v : Value), (Instr.typeAssert (.iface 69 v) 34 61 true).run Tryz.prog W = .ok (.tuple #[(.agg #[.int .i64 0, .int .i64 0]), .bool false]) W := fun W v => by kernel_rfl
  have a3 : ∀ (W : World) (v : Value), (Instr.typeAssert (.iface 69 v) 34 63 true).run Tryz.prog W = .ok (.tuple #[(.agg #[.int .i64 0, .slice none 0 0, .slice none 0 0, .slice none 0 0]), .bool false]) W := fun W v => by kernel_rfl
  have a4 : ∀ (W : World) (v : Value), (Instr.typeAssert (.iface 69 v) 34 65 true).run Tryz.prog W = .ok (.tuple #[(.agg #[.int .i64 0]), .bool false]) W := fun W v => by kernel_rfl
  have a5 : ∀ (W : World) (v : Value), (Instr.typeAssert (.iface 69 v) 34 67 true).run Tryz.prog W = .ok (.tuple #[(.agg #[.int .i64 0, .int .i64 0, .int .i64 0, .slice none 0 0]), .bool false]) W := fun W v => by kernel_rfl
  have a6 : ∀ (W : World) (v : Value), (Instr.typeAssert (.iface 69 v) 34 69 true).run Tryz.prog W = .ok (.tuple #[v, .bool true]) W := fun W v => by kernel_rfl
  go_enter Tryz.func21, Tryz.ntmps21
  go_wp2_with fail
  go_ret2
  exact ⟨_, rfl, row_block [a, b, c, d, e, f] _ _ _ (by unfold maxLen; simp only [List.length_cons, List.length_nil]; omega) _ (by simp only [World.size_alloc]), (by repeat (first | exact Below.refl _ _ | refine Below.alloc ?_ (by (try simp only [World.size_alloc]); omega) _))⟩

set_option maxRecDepth 100000 in
set_option maxHeartbeats 3200000 in
theorem numbers_ack (B : Nat) (v : Value) (a b c : Int) (w : World) (h : IsMsg B w v (.ack a b c)) :
    Calls Tryz.prog 21 #[v] w fun en w' => GotNums [a, b, c] w en w' := by
  have CO := Lib.hid (fun (X : World) (hX : Below w.heap.size w X) (hM : IsMsg X.heap.size X v (.ack a b c)) => others_ack X.heap.size v a b c X hM)
  obtain rfl := h
  have a0 : ∀ (W : World) (v : Value), (Instr.typeAssert (.iface 51 v) 34 57 true).run Tryz.prog W = .ok (.tuple #[(.agg #[.int .i64 0, .int .i64 0, .int .i64 0]), .bool false]) W := fun W v => by kernel_rfl
  have a1 : ∀ (W : World) (v : Value), (Instr.typeAssert (.iface 51 v) 34 59 true).run Tryz.prog W = .ok (.tuple #[(.agg #[.int .i64 0, .int .i64 0]), .bool false]) W := fun W v => by kernel_rfl
  have a2 : ∀ (W : World) (v : Value), (Instr.typeAssert (.iface 51 v) 34 61 true).run Tryz.prog W = .ok (.tuple #[(.agg #[.int .i64 0, .int .i64 0]), .bool false]) W := fun W v => by kernel_rfl
  have a3 : ∀ (W : World) (v : Value), (Instr.typeAssert (.iface 51 v) 34 63 true).run Tryz.prog W = .ok (.tuple #[(.agg #[.int .i64 0, .slice none 0 0, .slice none 0 0, .slice none 0 0]), .bool false]) W := fun W v => by kernel_rfl
  have a4 : ∀ (W : World) (v : Value), (Instr.typeAssert (.iface 51 v) 34 65 true).run Tryz.prog W = .ok (.tuple #[(.agg #[.int .i64 0]), .bool false]) W := fun W v => by kernel_rfl
  have a5 : ∀ (W : World) (v : Value), (Instr.typeAssert (.iface 51 v) 34 67 true).run Tryz.prog W = .ok (.tuple #[(.agg #[.int .i64 0, .int .i64 0, .int .i64 0, .slice none 0 0]), .bool false]) W := fun W v => by kernel_rfl
  have a6 : ∀ (W : World) (v : Value), (Instr.typeAssert (.iface 51 v) 34 69 true).run Tryz.prog W = .ok (.tuple #[(.agg #[.int .i64 0, .int .i64 0, .int .i64 0, .int .i64 0, .int .i64 0, .int .i64 0, .slice none 0 0]), .bool false]) W := fun W v => by kernel_rfl
  go_enter Tryz.func21, Tryz.ntmps21
  go_wp2_with fail
  refine (CO.out _ (by repeat (first | exact Below.refl _ _ | refine Below.alloc ?_ (by (try simp only [World.size_alloc]); omega) _)) rfl).mono ?_
  rintro en w1 ⟨u, rfl, hu, hb1⟩
  have HU := Lib.hid hu
  have HB := Lib.hid hb1
  obtain ⟨au, cu, rfl⟩ := hu.form
  clear hu hb1
  go_wp2_with fail
  go_ret2
  exact ⟨_, rfl, HU.out, Below.trans (by repeat (first | exact Below.refl _ _ | refine Below.alloc ?_ (by (try simp only [World.size_alloc]); omega) _)) (HB.out.mono (by (try simp only [World.size_alloc]); omega))⟩

set_option maxRecDepth 100000 in
set_option maxHeartbeats 3200000 in
theorem numbers_ask (B : Nat) (v : Value) (a b c d : Int) (w : World) (h : IsMsg B w v (.ask a b c d)) :
    Calls Tryz.prog 21 #[v] w fun en w' => GotNums [a, b, c, d] w en w' := by
  have CO := Lib.hid (fun (X : World) (hX : Below w.heap.size w X) (hM : IsMsg X.heap.size X v (.ask a b c d)) => others_ask X.heap.size v a b c d X hM)
  obtain rfl := h
  have a0 : ∀ (W : World) (v : Value), (Instr.typeAssert (.iface 71 v) 34 57 true).run Tryz.prog W = .ok (.tuple #[(.agg #[.int .i64 0, .int .i64 0, .int .i64 0]), .bool false]) W := fun W v => by kernel_rfl
  have a1 : ∀ (W : World) (v : Value), (Instr.typeAssert (.iface 71 v) 34 59 true).run Tryz.prog W = .ok (.tuple #[(.agg #[.int .i64 0, .int .i64 0]), .bool false]) W := fun W v => by kernel_rfl
  have a2 : ∀ (W : World) (v : Value), (Instr.typeAssert (.iface 71 v) 34 61 true).run Tryz.prog W = .ok (.tuple #[(.agg #[.int .i64 0, .int .i64 0]), .bool false]) W := fun W v => by kernel_rfl
  have a3 : ∀ (W : World) (v : Value), (Instr.typeAssert (.iface 71 v) 34 63 true).run Tryz.prog W = .ok (.tuple #[(.agg #[.int .i64 0, .slice none 0 0, .slice none 0 0, .slice none 0 0]), .bool false]) W := fun W v => by kernel_rfl
  have a4 : ∀ (W : World) (v : Value), (Instr.typeAssert (.iface 71 v) 34 65 true).run Tryz.prog W = .ok (.tuple #[(.agg #[.int .i64 0]), .bool false]) W := fun W v => by kernel_rfl
  have a5 : ∀ (W : World) (v : Value), (Instr.typeAssert (.iface 71 v) 34 67 true).run Tryz.prog W = .ok (.tuple #[(.agg #[.int .i64 0, .int .i64 0, .int .i64 0, .slice none 0 0]), .bool false]) W := fun W v => by kernel_rfl
  have a6 : ∀ (W : World) (v : Value), (Instr.typeAssert (.iface 71 v) 34 69 true).run Tryz.prog W = .ok (.tuple #[(.agg #[.int .i64 0, .int .i64 0, .int .i64 0, .int .i64 0, .int .i64 0, .int .i64 0, .slice none 0 0]), .bool false]) W := fun W v => by kernel_rfl
  go_enter Tryz.func21, Tryz.ntmps21
  go_wp2_with fail
  refine (CO.out _ (by repeat (first | exact Below.refl _ _ | refine Below.alloc ?_ (by (try simp only [World.size_alloc]); omega) _)) rfl).mono ?_
  rintro en w1 ⟨u, rfl, hu, hb1⟩
  have HU := Lib.hid hu
  have HB := Lib.hid hb1
  obtain ⟨au, cu, rfl⟩ := hu.form
  clear hu hb1
  go_wp2_with fail
  go_ret2
  exact ⟨_, rfl, HU.out, Below.trans (by repeat (first | exact Below.refl _ _ | refine Below.alloc ?_ (by (try simp only [World.size_alloc]); omega) _)) (HB.out.mono (by (try simp only [World.size_alloc]); omega))⟩

set_option maxRecDepth 100000 in
set_option maxHeartbeats 3200000 in
theorem numbers_told (B : Nat) (v : Value) (a b c d : Int) (w : World) (h : IsMsg B w v (.told a b c d)) :
    Calls Tryz.prog 21 #[v] w fun en w' => GotNums [a, b, c, d] w en w' := by
  have CO := Lib.hid (fun (X : World) (hX : Below w.heap.size w X) (hM : IsMsg X.heap.size X v (.told a b c d)) => others_told X.heap.size v a b c d X hM)
  obtain rfl := h
  have a0 : ∀ (W : World) (v : Value), (Instr.typeAssert (.iface 73 v) 34 57 true).run Tryz.prog W = .ok (.tuple #[(.agg #[.int .i64 0, .int .i64 0, .int .i64 0]), .bool false]) W := fun W v => by kernel_rfl
  have a1 : ∀ (W : World) (v : Value), (Instr.typeAssert (.iface 73 v) 34 59 true).run Tryz.prog W = .ok (.tuple #[(.agg #[.int .i64 0, .int .i64 0]), .bool false]) W := fun W v => by kernel_rfl
  have a2 : ∀ (W : World) (v : Value), (Instr.typeAssert (.iface 73 v) 34 61 true).run Tryz.prog W = .ok (.tuple #[(.agg #[.int .i64 0, .int .i64 0]), .bool false]) W := fun W v => by kernel_rfl
  have a3 : ∀ (W : World) (v : Value), (Instr.typeAssert (.iface 73 v) 34 63 true).run Tryz.prog W = .ok (.tuple #[(.agg #[.int .i64 0, .slice none 0 0, .slice none 0 0, .slice none 0 0]), .bool false]) W := fun W v => by kernel_rfl
  have a4 : ∀ (W : World) (v : Value), (Instr.typeAssert (.iface 73 v) 34 65 true).run Tryz.prog W = .ok (.tuple #[(.agg #[.int .i64 0]), .bool false]) W := fun W v => by kernel_rfl
  have a5 : ∀ (W : World) (v : Value), (Instr.typeAssert (.iface 73 v) 34 67 true).run Tryz.prog W = .ok (.tuple #[(.agg #[.int .i64 0, .int .i64 0, .int .i64 0, .slice none 0 0]), .bool false]) W := fun W v => by kernel_rfl
  have a6 : ∀ (W : World) (v : Value), (Instr.typeAssert (.iface 73 v) 34 69 true).run Tryz.prog W = .ok (.tuple #[(.agg #[.int .i64 0, .int .i64 0, .int .i64 0, .int .i64 0, .int .i64 0, .int .i64 0, .slice none 0 0]), .bool false]) W := fun W v => by kernel_rfl
  go_enter Tryz.func21, Tryz.ntmps21
  go_wp2_with fail
  refine (CO.out _ (by repeat (first | exact Below.refl _ _ | refine Below.alloc ?_ (by (try simp only [World.size_alloc]); omega) _)) rfl).mono ?_
  rintro en w1 ⟨u, rfl, hu, hb1⟩
  have HU := Lib.hid hu
  have HB := Lib.hid hb1
  obtain ⟨au, cu, rfl⟩ := hu.form
  clear hu hb1
  go_wp2_with fail
  go_ret2
  exact ⟨_, rfl, HU.out, Below.trans (by repeat (first | exact Below.refl _ _ | refine Below.alloc ?_ (by (try simp only [World.size_alloc]); omega) _)) (HB.out.mono (by (try simp only [World.size_alloc]); omega))⟩

set_option maxRecDepth 100000 in
set_option maxHeartbeats 3200000 in
theorem numbers_app (B : Nat) (v : Value) (a : Int) (b : BW) (w : World) (h : IsMsg B w v (.app a b)) (hB : B ≤ w.heap.size) :
    Calls Tryz.prog 21 #[v] w fun en w' => GotNums [a] w en w' := by
  have CO := Lib.hid (fun (X : World) (hX : Below w.heap.size w X) (hM : IsMsg X.heap.size X v (.app a b)) => others_app X.heap.size v a b X hM)
  have HM := Lib.hid (fun (X : World) (hX : Below w.heap.size w X) => (h.keep hX hB).up (Nat.le_trans hB hX.size))
  obtain ⟨lv, rfl, i1⟩ := h
  obtain ⟨p1, q1, rfl⟩ := i1.form
  clear i1
  have a0 : ∀ (W : World) (v : Value), (Instr.typeAssert (.iface 75 v) 34 57 true).run Tryz.prog W = .ok (.tuple #[(.agg #[.int .i64 0, .int .i64 0, .int .i64 0]), .bool false]) W := fun W v => by kernel_rfl
  have a1 : ∀ (W : World) (v : Value), (Instr.typeAssert (.iface 75 v) 34 59 true).run Tryz.prog W = .ok (.tuple #[(.agg #[.int .i64 0, .int .i64 0]), .bool false]) W := fun W v => by kernel_rfl
  have a2 : ∀ (W : World) (v : Value), (Instr.typeAssert (.iface 75 v) 34 61 true).run Tryz.prog W = .ok (.tuple #[(.agg #[.int .i64 0, .int .i64 0]), .bool false]) W := fun W v => by kernel_rfl
  have a3 : ∀ (W : World) (v : Value), (Instr.typeAssert (.iface 75 v) 34 63 true).run Tryz.prog W = .ok (.tuple #[(.agg #[.int .i64 0, .slice none 0 0, .slice none 0 0, .slice none 0 0]), .bool false]) W := fun W v => by kernel_rfl
  have a4 : ∀ (W : World) (v : Value), (Instr.typeAssert (.iface 75 v) 34 65 true).run Tryz.prog W = .ok (.tuple #[(.agg #[.int .i64 0]), .bool false]) W := fun W v => by kernel_rfl
  have a5 : ∀ (W : World) (v : Value), (Instr.typeAssert (.iface 75 v) 34 67 true).run Tryz.prog W = .ok (.tuple #[(.agg #[.int .i64 0, .int .i64 0, .int .i64 0, .slice none 0 0]), .bool false]) W := fun W v => by kernel_rfl
  have a6 : ∀ (W : World) (v : Value), (Instr.typeAssert (.iface 75 v) 34 69 true).run Tryz.prog W = .ok (.tuple #[(.agg #[.int .i64 0, .int .i64 0, .int .i64 0, .int .i64 0, .int .i64 0, .int .i64 0, .slice none 0 0]), .bool false]) W := fun W v => by kernel_rfl
  go_enter Tryz.func21, Tryz.ntmps21
  go_wp2_with fail
  refine (CO.out _ (by repeat (first | exact Below.refl _ _ | refine Below.alloc ?_ (by (try simp only [World.size_alloc]); omega) _)) (HM.out _ (by repeat (first | exact Below.refl _ _ | refine Below.alloc ?_ (by (try simp only [World.size_alloc]); omega) _)))).mono ?_
  rintro en w1 ⟨u, rfl, hu, hb1⟩
  have HU := Lib.hid hu
  have HB := Lib.hid hb1
  obtain ⟨au, cu, rfl⟩ := hu.form
  clear hu hb1
  go_wp2_with fail
  go_ret2
  exact ⟨_, rfl, HU.out, Below.trans (by repeat (first | exact Below.refl _ _ | refine Below.alloc ?_ (by (try simp only [World.size_alloc]); omega) _)) (HB.out.mono (by (try simp only [World.size_alloc]); omega))⟩

set_option maxRecDepth 100000 in
set_option maxHeartbeats 3200000 in
theorem numbers_red (B : Nat) (v : Value) (a : Int) (s : ByteArray) (f : Int) (w : World) (h : IsMsg B w v (.red a s f)) :
    Calls Tryz.prog 21 #[v] w fun en w' => GotNums [a] w en w' := by
  have CO := Lib.hid (fun (X : World) (hX : Below w.heap.size w X) (hM : IsMsg X.heap.size X v (.red a s f)) => others_red X.heap.size v a s f X hM)
  obtain rfl := h
  have a0 : ∀ (W : World) (v : Value), (Instr.typeAssert (.iface 77 v) 34 57 true).run Tryz.prog W = .ok (.tuple #[(.agg #[.int .i64 0, .int .i64 0, .int .i64 0]), .bool false]) W := fun W v => by kernel_rfl
  have a1 : ∀ (W : World) (v : Value), (Instr.typeAssert (.iface 77 v) 34 59 true).run Tryz.prog W = .ok (.tuple #[(.agg #[.int .i64 0, .int .i64 0]), .bool false]) W := fun W v => by kernel_rfl
  have a2 : ∀ (W : World) (v : Value), (Instr.typeAssert (.iface 77 v) 34 61 true).run Tryz.prog W = .ok (.tuple #[(.agg #[.int .i64 0, .int .i64 0]), .bool false]) W := fun W v => by kernel_rfl
  have a3 : ∀ (W : World) (v : Value), (Instr.typeAssert (.iface 77 v) 34 63 true).run Tryz.prog W = .ok (.tuple #[(.agg #[.int .i64 0, .slice none 0 0, .slice none 0 0, .slice none 0 0]), .bool false]) W := fun W v => by kernel_rfl
  have a4 : ∀ (W : World) (v : Value), (Instr.typeAssert (.iface 77 v) 34 65 true).run Tryz.prog W = .ok (.tuple #[(.agg #[.int .i64 0]), .bool false]) W := fun W v => by kernel_rfl
  have a5 : ∀ (W : World) (v : Value), (Instr.typeAssert (.iface 77 v) 34 67 true).run Tryz.prog W = .ok (.tuple #[(.agg #[.int .i64 0, .int .i64 0, .int .i64 0, .slice none 0 0]), .bool false]) W := fun W v => by kernel_rfl
  have a6 : ∀ (W : World) (v : Value), (Instr.typeAssert (.iface 77 v) 34 69 true).run Tryz.prog W = .ok (.tuple #[(.agg #[.int .i64 0, .int .i64 0, .int .i64 0, .int .i64 0, .int .i64 0, .int .i64 0, .slice none 0 0]), .bool false]) W := fun W v => by kernel_rfl
  go_enter Tryz.func21, Tryz.ntmps21
  go_wp2_with fail
  refine (CO.out _ (by repeat (first | exact Below.refl _ _ | refine Below.alloc ?_ (by (try simp only [World.size_alloc]); omega) _)) rfl).mono ?_
  rintro en w1 ⟨u, rfl, hu, hb1⟩
  have HU := Lib.hid hu
  have HB := Lib.hid hb1
  obtain ⟨au, cu, rfl⟩ := hu.form
  clear hu hb1
  go_wp2_with fail
  go_ret2
  exact ⟨_, rfl, HU.out, Below.trans (by repeat (first | exact Below.refl _ _ | refine Below.alloc ?_ (by (try simp only [World.size_alloc]); omega) _)) (HB.out.mono (by (try simp only [World.size_alloc]); omega))⟩

set_option maxRecDepth 100000 in
set_option maxHeartbeats 3200000 in
theorem numbers_rep (B : Nat) (v : Value) (a b c d e f : Int) (w : World) (h : IsMsg B w v (.rep a b c d e f)) :
    Calls Tryz.prog 21 #[v] w fun en w' => GotNums [a, b, c, d, e, f] w en w' := by
  have CO := Lib.hid (fun (X : World) (hX : Below w.heap.size w X) (hM : IsMsg X.heap.size X v (.rep a b c d e f)) => others_rep X.heap.size v a b c d e f X hM)
  obtain rfl := h
  have a0 : ∀ (W : World) (v : Value), (Instr.typeAssert (.iface 81 v) 34 57 true).run Tryz.prog W = .ok (.tuple #[(.agg #[.int .i64 0, .int .i64 0, .int .i64 0]), .bool false]) W := fun W v => by kernel_rfl
  have a1 : ∀ (W : World) (v : Value), (Instr.typeAssert (.iface 81 v) 34 59 true).run Tryz.prog W = .ok (.tuple #[(.agg #[.int .i64 0, .int .i64 0]), .bool false]) W := fun W v => by kernel_rfl
  have a2 : ∀ (W : World) (v : Value), (Instr.typeAssert (.iface 81 v) 34 61 true).run Tryz.prog W = .ok (.tuple #[(.agg #[.int .i64 0, .int .i64 0]), .bool false]) W := fun W v => by kernel_rfl
  have a3 : ∀ (W : World) (v : Value), (Instr.typeAssert (.iface 81 v) 34 63 true).run Tryz.prog W = .ok (.tuple #[(.agg #[.int .i64 0, .slice none 0 0, .slice none 0 0, .slice none 0 0]), .bool false]) W := fun W v => by kernel_rfl
  have a4 : ∀ (W : World) (v : Value), (Instr.typeAssert (.iface 81 v) 34 65 true).run Tryz.prog W = .ok (.tuple #[(.agg #[.int .i64 0]), .bool false]) W := fun W v => by kernel_rfl
  have a5 : ∀ (W : World) (v : Value), (Instr.typeAssert (.iface 81 v) 34 67 true).run Tryz.prog W = .ok (.tuple #[(.agg #[.int .i64 0, .int .i64 0, .int .i64 0, .slice none 0 0]), .bool false]) W := fun W v => by kernel_rfl
  have a6 : ∀ (W : World) (v : Value), (Instr.typeAssert (.iface 81 v) 34 69 true).run Tryz.prog W = .ok (.tuple #[(.agg #[.int .i64 0, .int .i64 0, .int .i64 0, .int .i64 0, .int .i64 0, .int .i64 0, .slice none 0 0]), .bool false]) W := fun W v => by kernel_rfl
  go_enter Tryz.func21, Tryz.ntmps21
  go_wp2_with fail
  refine (CO.out _ (by repeat (first | exact Below.refl _ _ | refine Below.alloc ?_ (by (try simp only [World.size_alloc]); omega) _)) rfl).mono ?_
  rintro en w1 ⟨u, rfl, hu, hb1⟩
  have HU := Lib.hid hu
  have HB := Lib.hid hb1
  obtain ⟨au, cu, rfl⟩ := hu.form
  clear hu hb1
  go_wp2_with fail
  go_ret2
  exact ⟨_, rfl, HU.out, Below.trans (by repeat (first | exact Below.refl _ _ | refine Below.alloc ?_ (by (try simp only [World.size_alloc]); omega) _)) (HB.out.mono (by (try simp only [World.size_alloc]); omega))⟩

set_option maxRecDepth 100000 in
set_option maxHeartbeats 3200000 in
theorem numbers_res (B : Nat) (v : Value) (a b c : Int) (l : List EV) (w : World) (h : IsMsg B w v (.res a b c l)) (hB : B ≤ w.heap.size) :
    Calls Tryz.prog 21 #[v] w fun en w' => GotNums [a, b, c] w en w' := by
  have CO := Lib.hid (fun (X : World) (hX : Below w.heap.size w X) (hM : IsMsg X.heap.size X v (.res a b c l)) => others_res X.heap.size v a b c l X hM)
  have HM := Lib.hid (fun (X : World) (hX : Below w.heap.size w X) => (h.keep hX hB).up (Nat.le_trans hB hX.size))
  obtain ⟨lv, rfl, i1⟩ := h
  obtain ⟨p1, q1, rfl⟩ := i1.form
  clear i1
  have a0 : ∀ (W : World) (v : Value), (Instr.typeAssert (.iface 83 v) 34 57 true).run Tryz.prog W = .ok (.tuple #[(.agg #[.int .i64 0, .int .i64 0, .int .i64 0]), .bool false]) W := fun W v => by kernel_rfl
  have a1 : ∀ (W : World) (v : Value), (Instr.typeAssert (.iface 83 v) 34 59 true).run Tryz.prog W = .ok (.tuple #[(.agg #[.int .i64 0, .int .i64 0]), .bool false]) W := fun W v => by kernel_rfl
  have a2 : ∀ (W : World) (v : Value), (Instr.typeAssert (.iface 83 v) 34 61 true).run Tryz.prog W = .ok (.tuple #[(.agg #[.int .i64 0, .int .i64 0]), .bool false]) W := fun W v => by kernel_rfl
  have a3 : ∀ (W : World) (v : Value), (Instr.typeAssert (.iface 83 v) 34 63 true).run Tryz.prog W = .ok (.tuple #[(.agg #[.int .i64 0, .slice none 0 0, .slice none 0 0, .slice none 0 0]), .bool false]) W := fun W v => by kernel_rfl
  have a4 : ∀ (W : World) (v : Value), (Instr.typeAssert (.iface 83 v) 34 65 true).run Tryz.prog W = .ok (.tuple #[(.agg #[.int .i64 0]), .bool false]) W := fun W v => by kernel_rfl
  have a5 : ∀ (W : World) (v : Value), (Instr.typeAssert (.iface 83 v) 34 67 true).run Tryz.prog W = .ok (.tuple #[(.agg #[.int .i64 0, .int .i64 0, .int .i64 0, .slice none 0 0]), .bool false]) W := fun W v => by kernel_rfl
  have a6 : ∀ (W : World) (v : Value), (Instr.typeAssert (.iface 83 v) 34 69 true).run Tryz.prog W = .ok (.tuple #[(.agg #[.int .i64 0, .int .i64 0, .int .i64 0, .int .i64 0, .int .i64 0, .int .i64 0, .slice none 0 0]), .bool false]) W := fun W v => by kernel_rfl
  go_enter Tryz.func21, Tryz.ntmps21
  go_wp2_with fail
  refine (CO.out _ (by repeat (first | exact Below.refl _ _ | refine Below.alloc ?_ (by (try simp only [World.size_alloc]); omega) _)) (HM.out _ (by repeat (first | exact Below.refl _ _ | refine Below.alloc ?_ (by (try simp only [World.size_alloc]); omega) _)))).mono ?_
  rintro en w1 ⟨u, rfl, hu, hb1⟩
  have HU := Lib.hid hu
  have HB := Lib.hid hb1
  obtain ⟨au, cu, rfl⟩ := hu.form
  clear hu hb1
  go_wp2_with fail
  go_ret2
  exact ⟨_, rfl, HU.out, Below.trans (by repeat (first | exact Below.refl _ _ | refine Below.alloc ?_ (by (try simp only [World.size_alloc]); omega) _)) (HB.out.mono (by (try simp only [World.size_alloc]); omega))⟩

set_option maxRecDepth 100000 in
set_option maxHeartbeats 3200000 in
theorem others_nil (w : World) : Calls Tryz.prog 37 #[.nilIface] w fun e w' => e = .returned (.tuple #[.slice none 0 0, .bool false]) ∧ Below w.heap.size w w' := by
  have a0 : ∀ (W : World), (Instr.typeAssert (.nilIface) 34 51 true).run Tryz.prog W = .ok (.tuple #[(.agg #[.int .i64 0, .int .i64 0, .int .i64 0]), .bool false]) W := fun W => by kernel_rfl
  have a1 : ∀ (W : World), (Instr.typeAssert (.nilIface) 34 71 true).run Tryz.prog W = .ok (.tuple #[(.agg #[.int .i64 0, .int .i64 0, .int .i64 0, .int .i64 0]), .bool false]) W := fun W => by kernel_rfl
  have a2 : ∀ (W : World), (Instr.typeAssert (.nilIface) 34 73 true).run Tryz.prog W = .ok (.tuple #[(.agg #[.int .i64 0, .int .i64 0, .int .i64 0, .int .i64 0]), .bool false]) W := fun W => by kernel_rfl
  have a3 : ∀ (W : World), (Instr.typeAssert (.nilIface) 34 75 true).run Tryz.prog W = .ok (.tuple #[(.agg #[.int .i64 0, .string ByteArray.empty, .int .i64 0, .int .i64 0, .int .i64 0, .slice none 0 0]), .bool false]) W := fun W => by kernel_rfl
  have a4 : ∀ (W : World), (Instr.typeAssert (.nilIface) 34 77 true).run Tryz.prog W = .ok (.tuple #[(.agg #[.int .i64 0, .string ByteArray.empty, .int .i64 0]), .bool false]) W := fun W => by kernel_rfl
  have a5 : ∀ (W : World), (Instr.typeAssert (.nilIface) 34 81 true).run Tryz.prog W = .ok (.tuple #[(.agg #[.int .i64 0, .int .i64 0, .int .i64 0, .int .i64 0, .int .i64 0, .int .i64 0]), .bool false]) W := fun W => by kernel_rfl
  have a6 : ∀ (W : World), (Instr.typeAssert (.nilIface) 34 83 true).run Tryz.prog W = .ok (.tuple #[(.agg #[.int .i64 0, .int .i64 0, .int .i64 0, .slice none 0 0]), .bool false]) W := fun W => by kernel_rfl
  go_enter Tryz.func37, Tryz.ntmps37
  go_wp2_with fail
  go_ret2
  exact ⟨rfl, (by repeat (first | exact Below.refl _ _ | refine Below.alloc ?_ (by (try simp only [World.size_alloc]); omega) _))⟩

set_option maxRecDepth 100000 in
set_option maxHeartbeats 3200000 in
theorem numbers_nil (w : World) : Calls Tryz.prog 21 #[.nilIface] w fun e w' => e = .returned (.tuple #[.slice none 0 0, .bool false]) ∧ Below w.heap.size w w' := by
  have CO := Lib.hid (fun (X : World) => others_nil X)
  have a0 : ∀ (W : World), (Instr.typeAssert (.nilIface) 34 57 true).run Tryz.prog W = .ok (.tuple #[(.agg #[.int .i64 0, .int .i64 0, .int .i64 0]), .bool false]) W := fun W => by kernel_rfl
  have a1 : ∀ (W : World), (Instr.typeAssert (.nilIface) 34 59 true).run Tryz.prog W = .ok (.tuple #[(.agg #[.int .i64 0, .int .i64 0]), .bool false]) W := fun W => by kernel_rfl
  have a2 : ∀ (W : World), (Instr.typeAssert (.nilIface) 34 61 true).run Tryz.prog W = .ok (.tuple #[(.agg #[.int .i64 0, .int .i64 0]), .bool false]) W := fun W => by kernel_rfl
  have a3 : ∀ (W : World), (Instr.typeAssert (.nilIface) 34 63 true).run Tryz.prog W = .ok (.tuple #[(.agg #[.int .i64 0, .slice none 0 0, .slice none 0 0, .slice none 0 0]), .bool false]) W := fun W => by kernel_rfl
  have a4 : ∀ (W : World), (Instr.typeAssert (.nilIface) 34 65 true).run Tryz.prog W = .ok (.tuple #[(.agg #[.int .i64 0]), .bool false]) W := fun W => by kernel_rfl
  have a5 : ∀ (W : World), (Instr.typeAssert (.nilIface) 34 67 true).run Tryz.prog W = .ok (.tuple #[(.agg #[.int .i64 0, .int .i64 0, .int .i64 0, .slice none 0 0]), .bool false]) W := fun W => by kernel_rfl
  have a6 : ∀ (W : World), (Instr.typeAssert (.nilIface) 34 69 true).run Tryz.prog W = .ok (.tuple #[(.agg #[.int .i64 0, .int .i64 0, .int .i64 0, .int .i64 0, .int .i64 0, .int .i64 0, .slice none 0 0]), .bool false]) W := fun W => by kernel_rfl
  go_enter Tryz.func21, Tryz.ntmps21
  go_wp2_with fail
  refine (CO.out _).mono ?_
  rintro e w1 ⟨rfl, hb1⟩
  have HB := Lib.hid hb1
  clear hb1
  go_wp2_with fail
  go_ret2
  exact ⟨rfl, Below.trans (by repeat (first | exact Below.refl _ _ | refine Below.alloc ?_ (by (try simp only [World.size_alloc]); omega) _)) (HB.out.mono (by (try simp only [World.size_alloc]); omega))⟩

theorem numbers_any (B : Nat) (v : Value) (m : Msg) (w : World) (h : IsMsg B w v m) (hB : B ≤ w.heap.size) : Calls Tryz.prog 21 #[v] w fun e w' => GotNums m.nums w e w' := by
  cases m
  case beat => exact numbers_beat B v _ _ _ w h
  case join => exact numbers_join B v _ _ w h
  case lease => exact numbers_lease B v _ _ w h
  case view => exact numbers_view B v _ _ _ _ w h
  case whr => exact numbers_whr B v _ w h
  case hav => exact numbers_hav B v _ _ _ _ w h
  case logs => exact numbers_logs B v _ _ _ _ _ _ _ w h
  case ack => exact numbers_ack B v _ _ _ w h
  case ask => exact numbers_ask B v _ _ _ _ w h
  case told => exact numbers_told B v _ _ _ _ w h
  case app => exact numbers_app B v _ _ w h hB
  case red => exact numbers_red B v _ _ _ w h
  case rep => exact numbers_rep B v _ _ _ _ _ _ w h
  case res => exact numbers_res B v _ _ _ _ w h hB
end Go.Proofs.YtflojipkgaocnaaGreatDoor
