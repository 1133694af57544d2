/-
  The walks of event.reader's methods: name, number, signed, note. Printed by gen_evread.py of this claim's writer.
-/
import Derived.Test.YtflojipkgaocnaaGreatDoorEvTake2
import Derived.Test.YtflojipkgaocnaaGreatDoorEvPut
import Derived.Maps.Range
namespace Go.Proofs.YtflojipkgaocnaaGreatDoor
open Go.RowKit

/-- A reader, in block rb: what is left, the first error. -/
def RdAt (rb : Nat) (l : List UInt8) (e : Nat) (w : World) : Prop := w.heap[rb]? = some (.cells #[.string (bstr l), .int .i64 e] 172)
theorem RdAt.lt {rb : Nat} {l : List UInt8} {e : Nat} {w : World} (h : RdAt rb l e w) : rb < w.heap.size := (Array.getElem?_eq_some_iff.1 h).1
theorem RdAt.cells {rb : Nat} {l : List UInt8} {e : Nat} {w : World} (h : RdAt rb l e w) : w.cell? ⟨rb, 0, none⟩ = some (.string (bstr l)) ∧ w.cell? ⟨rb, 1, none⟩ = some (.int .i64 e) ∧ w.frozen? ⟨rb, 0, none⟩ = false ∧ w.frozen? ⟨rb, 1, none⟩ = false :=
  ⟨by rw [Lib.cell_of_heap h]; rfl, by rw [Lib.cell_of_heap h]; rfl, Lib.frozen_of_heap h 0, Lib.frozen_of_heap h 1⟩
theorem RdAt.keep {rb : Nat} {l : List UInt8} {e : Nat} {w w' : World} (h : RdAt rb l e w) (hb : Below w.heap.size w w') : RdAt rb l e w' := (hb.block rb h.lt).trans h
theorem RdAt.set {rb : Nat} {l l' : List UInt8} {e e' : Nat} {w : World} (h : RdAt rb l e w) : RdAt rb l' e' ((w.setCell ⟨rb, 0, none⟩ (.string (bstr l'))).setCell ⟨rb, 1, none⟩ (.int .i64 e')) := by
  unfold RdAt at h ⊢
  simp [World.setCell, Array.getElem?_modify, h]
theorem RdAt.set1 {rb : Nat} {l : List UInt8} {e e' : Nat} {w : World} (h : RdAt rb l e w) : RdAt rb l e' (w.setCell ⟨rb, 1, none⟩ (.int .i64 e')) := by
  unfold RdAt at h ⊢
  simp [World.setCell, Array.getElem?_modify, h]

theorem gb_of {w w' : World} (h : Below w.heap.size w w') (row : Option Nat) : w.grownBy w' row := ⟨h.os, h.tape, h.output, h.size, fun k hk _ => h.block k hk⟩
theorem gb_set (w : World) (b o : Nat) (v : Value) : w.grownBy (w.setCell ⟨b, o, none⟩ v) (some b) :=
  ⟨rfl, rfl, rfl, by rw [World.size_setCell]; exact Nat.le_refl _, fun k _ hne => by
    simp only [World.setCell]
    rw [Array.getElem?_modify, if_neg (fun e => hne (by rw [e]))]⟩
/-- Of what lies ahead of the reader nothing is turned. -/
theorem gb_below {w w' : World} {rb B : Nat} (h : w.grownBy w' (some rb)) (hB : B ≤ rb) (hs : rb < w.heap.size) : Below B w w' := ⟨h.os, h.tape, h.output, h.size, fun k hk => h.block k (by omega) (by intro e; injection e with e; omega)⟩
theorem gb_cell {w w' : World} {rb b o : Nat} {v : Value} (h : w.grownBy w' (some rb)) (hc : w.cell? ⟨b, o, none⟩ = some v) (hne : b ≠ rb) : w'.cell? ⟨b, o, none⟩ = some v := h.cell hc (by intro e; injection e with e; exact hne e)
theorem gb_heap {w w' : World} {rb b : Nat} {o : Obj} (h : w.grownBy w' (some rb)) (hc : w.heap[b]? = some o) (hne : b ≠ rb) : w'.heap[b]? = some o :=
  (h.block b (Array.getElem?_eq_some_iff.1 hc).1 (by intro e; injection e with e; exact hne e)).trans hc

def rdName (l : List UInt8) (e : Nat) : List UInt8 × List UInt8 × Nat := if e ≠ 0 then ([], l, e) else takeT l 200
def rdNum (l : List UInt8) (e : Nat) : Nat × List UInt8 × Nat := if e ≠ 0 then (0, l, e) else takeN l
def rdSign (l : List UInt8) (e : Nat) : Int × List UInt8 × Nat := if e ≠ 0 then (0, l, e) else (zag (takeN l).1, (takeN l).2.1, (takeN l).2.2)
def rdNote (e x : Nat) : Nat := if e ≠ 0 then e else x

set_option maxRecDepth 100000 in
set_option maxHeartbeats 1600000 in
theorem rdName_any (rb : Nat) (l : List UInt8) (e : Nat) (t : List UInt8) (l' : List UInt8) (e' : Nat) (h : rdName l e = (t, l', e')) (hl : l.length ≤ maxLen) (w : World) (hw : RdAt rb l e w) :
    Calls Tryz.prog 86 #[.pointer (some ⟨rb, 0, none⟩)] w fun r w' => r = .returned (.string (bstr t)) ∧ RdAt rb l' e' w' ∧ w.grownBy w' (some rb) := by
  have HW := Lib.hid hw
  obtain ⟨y0, y1, f0, f1⟩ := hw.cells
  unfold rdName at h
  by_cases h0 : e = 0
  · subst h0
    rw [if_neg (by simp)] at h
    have C := Lib.hid (takeText_lit (bstr l) 200 t l' e' h (by rw [bstr_size]; exact hl))
    clear hw h
    go_enter Tryz.func86, Tryz.ntmps86
    go_wp2_with fail
    refine (C.out _).mono ?_
    rintro r w1 ⟨rfl, hb1⟩
    have hw1 := HW.out.keep hb1
    have HW1 := Lib.hid hw1
    clear y0 y1 f0 f1
    obtain ⟨y0, y1, f0, f1⟩ := hw1.cells
    clear hw1
    go_wp2_with fail
    go_ret
    exact ⟨rfl, HW1.out.set, ((gb_of hb1 _).trans (gb_set _ _ _ _)).trans (gb_set _ _ _ _)⟩
  · rw [if_pos h0] at h
    have g0 : ((e : Int) != 0) = true := by simp; omega
    obtain ⟨rfl, rfl, rfl⟩ : [] = t ∧ l = l' ∧ e = e' := by simpa using h
    clear hw h
    go_enter Tryz.func86, Tryz.ntmps86
    go_wp2_with fail
    go_ret
    exact ⟨rfl, HW.out, World.grownBy.refl _ _⟩

set_option maxRecDepth 100000 in
set_option maxHeartbeats 1600000 in
theorem rdNum_any (rb : Nat) (l : List UInt8) (e : Nat) (t : Nat) (l' : List UInt8) (e' : Nat) (h : rdNum l e = (t, l', e')) (hl : l.length ≤ maxLen) (w : World) (hw : RdAt rb l e w) :
    Calls Tryz.prog 88 #[.pointer (some ⟨rb, 0, none⟩)] w fun r w' => r = .returned (.int .i64 t) ∧ RdAt rb l' e' w' ∧ w.grownBy w' (some rb) := by
  have HW := Lib.hid hw
  obtain ⟨y0, y1, f0, f1⟩ := hw.cells
  unfold rdNum at h
  by_cases h0 : e = 0
  · subst h0
    rw [if_neg (by simp)] at h
    have C := Lib.hid (take_lit (bstr l) t l' e' h (by rw [bstr_size]; exact hl))
    clear hw h
    go_enter Tryz.func88, Tryz.ntmps88
    go_wp2_with fail
    refine (C.out _).mono ?_
    rintro r w1 ⟨rfl, hb1⟩
    have hw1 := HW.out.keep hb1
    have HW1 := Lib.hid hw1
    clear y0 y1 f0 f1
    obtain ⟨y0, y1, f0, f1⟩ := hw1.cells
    clear hw1
    go_wp2_with fail
    go_ret
    exact ⟨rfl, HW1.out.set, ((gb_of hb1 _).trans (gb_set _ _ _ _)).trans (gb_set _ _ _ _)⟩
  · rw [if_pos h0] at h
    have g0 : ((e : Int) != 0) = true := by simp; omega
    obtain ⟨rfl, rfl, rfl⟩ : 0 = t ∧ l = l' ∧ e = e' := by simpa using h
    clear hw h
    go_enter Tryz.func88, Tryz.ntmps88
    go_wp2_with fail
    go_ret
    exact ⟨rfl, HW.out, World.grownBy.refl _ _⟩

set_option maxRecDepth 100000 in
set_option maxHeartbeats 1600000 in
theorem rdSign_any (rb : Nat) (l : List UInt8) (e : Nat) (t : Int) (l' : List UInt8) (e' : Nat) (h : rdSign l e = (t, l', e')) (hl : l.length ≤ maxLen) (w : World) (hw : RdAt rb l e w) :
    Calls Tryz.prog 87 #[.pointer (some ⟨rb, 0, none⟩)] w fun r w' => r = .returned (.int .i64 t) ∧ RdAt rb l' e' w' ∧ w.grownBy w' (some rb) := by
  have HW := Lib.hid hw
  obtain ⟨y0, y1, f0, f1⟩ := hw.cells
  unfold rdSign at h
  by_cases h0 : e = 0
  · subst h0
    rw [if_neg (by simp)] at h
    have C0 := takeInt_lit (bstr l) (takeN l).1 (takeN l).2.1 (takeN l).2.2 rfl (by rw [bstr_size]; exact hl)
    obtain ⟨e1, e2, e3⟩ : zag (takeN l).1 = t ∧ (takeN l).2.1 = l' ∧ (takeN l).2.2 = e' := by simpa using h
    rw [e1, e2, e3] at C0
    have C := Lib.hid C0
    clear C0 e1 e2 e3
    clear hw h
    go_enter Tryz.func87, Tryz.ntmps87
    go_wp2_with fail
    refine (C.out _).mono ?_
    rintro r w1 ⟨rfl, hb1⟩
    have hw1 := HW.out.keep hb1
    have HW1 := Lib.hid hw1
    clear y0 y1 f0 f1
    obtain ⟨y0, y1, f0, f1⟩ := hw1.cells
    clear hw1
    go_wp2_with fail
    go_ret
    exact ⟨rfl, HW1.out.set, ((gb_of hb1 _).trans (gb_set _ _ _ _)).trans (gb_set _ _ _ _)⟩
  · rw [if_pos h0] at h
    have g0 : ((e : Int) != 0) = true := by simp; omega
    obtain ⟨rfl, rfl, rfl⟩ : 0 = t ∧ l = l' ∧ e = e' := by simpa using h
    clear hw h
    go_enter Tryz.func87, Tryz.ntmps87
    go_wp2_with fail
    go_ret
    exact ⟨rfl, HW.out, World.grownBy.refl _ _⟩

set_option maxRecDepth 100000 in
set_option maxHeartbeats 1600000 in
theorem rdNote_any (rb : Nat) (l : List UInt8) (e x e' : Nat) (h : rdNote e x = e') (w : World) (hw : RdAt rb l e w) :
    Calls Tryz.prog 89 #[.pointer (some ⟨rb, 0, none⟩), .int .i64 x] w fun r w' => r = .returned (.tuple #[]) ∧ RdAt rb l e' w' ∧ w.grownBy w' (some rb) := by
  have HW := Lib.hid hw
  obtain ⟨y0, y1, f0, f1⟩ := hw.cells
  unfold rdNote at h
  by_cases h0 : e = 0
  · subst h0
    obtain rfl : x = e' := by simpa using h
    clear hw h
    go_enter Tryz.func89, Tryz.ntmps89
    go_wp2_with fail
    go_end0
    exact ⟨rfl, HW.out.set1, gb_set _ _ _ _⟩
  · rw [if_pos h0] at h
    have g0 : ((e : Int) == 0) = false := by simp; omega
    obtain rfl : e = e' := h
    clear hw
    go_enter Tryz.func89, Tryz.ntmps89
    go_wp2_with fail
    go_end0
    exact ⟨rfl, HW.out, World.grownBy.refl _ _⟩

end Go.Proofs.YtflojipkgaocnaaGreatDoor
