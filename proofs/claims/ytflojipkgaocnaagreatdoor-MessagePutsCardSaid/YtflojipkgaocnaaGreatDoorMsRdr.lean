/-
  The walks of message.reader's number, name and many. Printed by gen_msrdr.py of this claim's writer.
-/
import Derived.Test.YtflojipkgaocnaaGreatDoorMsTakeRow
namespace Go.Proofs.YtflojipkgaocnaaGreatDoor
open Go.RowKit
set_option linter.unusedSimpArgs false
set_option linter.unusedVariables false

/-- A reader, in block rb: what is left, the first error. -/
def RmAt (rb : Nat) (l : List UInt8) (e : Nat) (w : World) : Prop := w.heap[rb]? = some (.cells #[.string (bstr l), .int .i64 e] 113)
theorem RmAt.lt {rb : Nat} {l : List UInt8} {e : Nat} {w : World} (h : RmAt rb l e w) : rb < w.heap.size := (Array.getElem?_eq_some_iff.1 h).1
theorem RmAt.cells {rb : Nat} {l : List UInt8} {e : Nat} {w : World} (h : RmAt rb l e w) : w.cell? ⟨rb, 0, none⟩ = some (.string (bstr l)) ∧ w.cell? ⟨rb, 1, none⟩ = some (.int .i64 e) ∧ w.frozen? ⟨rb, 0, none⟩ = false ∧ w.frozen? ⟨rb, 1, none⟩ = false :=
  ⟨by rw [Lib.cell_of_heap h]; rfl, by rw [Lib.cell_of_heap h]; rfl, Lib.frozen_of_heap h 0, Lib.frozen_of_heap h 1⟩
theorem RmAt.keep {rb : Nat} {l : List UInt8} {e : Nat} {w w' : World} (h : RmAt rb l e w) (hb : Below w.heap.size w w') : RmAt rb l e w' := (hb.block rb h.lt).trans h
theorem RmAt.set {rb : Nat} {l l' : List UInt8} {e e' : Nat} {w : World} (h : RmAt rb l e w) : RmAt rb l' e' ((w.setCell ⟨rb, 0, none⟩ (.string (bstr l'))).setCell ⟨rb, 1, none⟩ (.int .i64 e')) := by
  unfold RmAt at h ⊢
  simp [World.setCell, Array.getElem?_modify, h]
theorem RmAt.set1 {rb : Nat} {l : List UInt8} {e e' : Nat} {w : World} (h : RmAt rb l e w) : RmAt rb l e' (w.setCell ⟨rb, 1, none⟩ (.int .i64 e')) := by
  unfold RmAt at h ⊢
  simp [World.setCell, Array.getElem?_modify, h]
/-- A row that lies behind the reader. -/
theorem own_rb {W W' : World} {base rb : Nat} {e : TypeId} {s n : Nat} {v : Value} {xs : List Value} (h : W.ownsRow base e s v n xs) (hb : rb < base) (k : W.grownBy W' (some rb)) : W'.ownsRow base e s v n xs := by
  refine h.kept k ?_
  rcases h.2 with ⟨rfl, _⟩ | ⟨g, cap, cur, rfl, hg, _⟩
  · exact .inl rfl
  · refine .inr fun e => ?_
    simp only [Value.ownBlock, Option.some.injEq] at e
    omega
theorem gb_row {a W W' : World} {rb base : Nat} {e : TypeId} {s n : Nat} {v : Value} {xs : List Value} (h : a.grownBy W (some rb)) (hown : W.ownsRow base e s v n xs) (hb : a.heap.size ≤ base) (k : W.grownBy W' v.ownBlock) : a.grownBy W' (some rb) :=
  h.andThen k (fun j hj => .inl (Nat.le_trans hb (hown.lt j hj).1))
theorem RmAt.row {rb : Nat} {l : List UInt8} {e : Nat} {W W' : World} (h : RmAt rb l e W) {base : Nat} {t : TypeId} {s n : Nat} {v : Value} {xs : List Value} (hown : W.ownsRow base t s v n xs) (hb : rb < base) (k : W.grownBy W' v.ownBlock) : RmAt rb l e W' :=
  (k.block rb h.lt (fun e0 => by have := (hown.lt _ e0.symm).1; omega)).trans h
theorem gb_bel {a W W' : World} {rb : Nat} (h : a.grownBy W (some rb)) (hb : Below W.heap.size W W') : a.grownBy W' (some rb) := h.trans (gb_of hb _)

set_option maxRecDepth 100000 in
set_option maxHeartbeats 1600000 in
theorem rmName_any (rb : Nat) (l : List UInt8) (e : Nat) (t : List UInt8) (l' : List UInt8) (e' : Nat) (h : rdName l e = (t, l', e')) (hl : l.length ≤ maxLen) (w : World) (hw : RmAt rb l e w) :
    Calls Tryz.prog 60 #[.pointer (some ⟨rb, 0, none⟩)] w fun r w' => r = .returned (.string (bstr t)) ∧ RmAt rb l' e' w' ∧ w.grownBy w' (some rb) := by
  have HW := Lib.hid hw
  obtain ⟨y0, y1, f0, f1⟩ := hw.cells
  unfold rdName at h
  by_cases h0 : e = 0
  · subst h0
    rw [if_neg (by simp)] at h
    have C := Lib.hid (takeText_lit (bstr l) 200 t l' e' h (by rw [bstr_size]; exact hl))
    clear hw h
    go_enter Tryz.func60, Tryz.ntmps60
    go_wp2_with fail
    refine (C.out _).mono ?_
    rintro r w1 ⟨rfl, hb1⟩
    have hw1 := HW.out.keep hb1
    have HW1 := Lib.hid hw1
    clear y0 y1 f0 f1
    obtain ⟨y0, y1, f0, f1⟩ := hw1.cells
    clear hw1
    go_wp2_with fail
    go_ret
    exact ⟨rfl, HW1.out.set, ((gb_of hb1 _).trans (gb_set _ _ _ _)).trans (gb_set _ _ _ _)⟩
  · rw [if_pos h0] at h
    have g0 : ((e : Int) != 0) = true := by simp; omega
    obtain ⟨rfl, rfl, rfl⟩ : [] = t ∧ l = l' ∧ e = e' := by simpa using h
    clear hw h
    go_enter Tryz.func60, Tryz.ntmps60
    go_wp2_with fail
    go_ret
    exact ⟨rfl, HW.out, World.grownBy.refl _ _⟩

set_option maxRecDepth 100000 in
set_option maxHeartbeats 1600000 in
theorem rmNum_any (rb : Nat) (l : List UInt8) (e : Nat) (t : Nat) (l' : List UInt8) (e' : Nat) (h : rdNum l e = (t, l', e')) (hl : l.length ≤ maxLen) (w : World) (hw : RmAt rb l e w) :
    Calls Tryz.prog 55 #[.pointer (some ⟨rb, 0, none⟩)] w fun r w' => r = .returned (.int .i64 t) ∧ RmAt rb l' e' w' ∧ w.grownBy w' (some rb) := by
  have HW := Lib.hid hw
  obtain ⟨y0, y1, f0, f1⟩ := hw.cells
  unfold rdNum at h
  by_cases h0 : e = 0
  · subst h0
    rw [if_neg (by simp)] at h
    have C := Lib.hid (take_lit (bstr l) t l' e' h (by rw [bstr_size]; exact hl))
    clear hw h
    go_enter Tryz.func55, Tryz.ntmps55
    go_wp2_with fail
    refine (C.out _).mono ?_
    rintro r w1 ⟨rfl, hb1⟩
    have hw1 := HW.out.keep hb1
    have HW1 := Lib.hid hw1
    clear y0 y1 f0 f1
    obtain ⟨y0, y1, f0, f1⟩ := hw1.cells
    clear hw1
    go_wp2_with fail
    go_ret
    exact ⟨rfl, HW1.out.set, ((gb_of hb1 _).trans (gb_set _ _ _ _)).trans (gb_set _ _ _ _)⟩
  · rw [if_pos h0] at h
    have g0 : ((e : Int) != 0) = true := by simp; omega
    obtain ⟨rfl, rfl, rfl⟩ : 0 = t ∧ l = l' ∧ e = e' := by simpa using h
    clear hw h
    go_enter Tryz.func55, Tryz.ntmps55
    go_wp2_with fail
    go_ret
    exact ⟨rfl, HW.out, World.grownBy.refl _ _⟩

set_option maxRecDepth 100000 in
set_option maxHeartbeats 1600000 in
theorem rmMany_any (rb most : Nat) (l : List UInt8) (e : Nat) (n : Nat) (l' : List UInt8) (e' : Nat) (h : rdMany most l e = (n, l', e')) (hl : l.length ≤ maxLen) (w : World) (hw : RmAt rb l e w) :
    Calls Tryz.prog 76 #[.pointer (some ⟨rb, 0, none⟩), .int .i64 most] w fun r w' => r = .returned (.int .i64 n) ∧ RmAt rb l' e' w' ∧ w.grownBy w' (some rb) := by
  have HW := Lib.hid hw
  obtain ⟨n1, l1, e1, h1⟩ : ∃ a b c, rdNum l e = (a, b, c) := ⟨_, _, _, rfl⟩
  have CN := Lib.hid (rmNum_any rb l e n1 l1 e1 h1 hl)
  unfold rdMany at h
  rw [h1] at h
  simp only at h
  clear hw h1 hl
  by_cases h0 : e1 = 0
  · subst h0
    rw [if_neg (by simp)] at h
    by_cases hm : most < n1
    · rw [if_pos hm] at h
      simp only [Prod.mk.injEq] at h
      obtain ⟨rfl, rfl, rfl⟩ := h
      have gm : decide (most < n1) = true := decide_eq_true hm
      clear hm
      go_enter Tryz.func76, Tryz.ntmps76
      go_wp2_with fail
      refine (CN.out _ HW.out).mono ?_
      rintro r w1 ⟨rfl, hw1, g1⟩
      have HW1 := Lib.hid hw1
      have G1 := Lib.hid g1
      obtain ⟨y0, y1, f0, f1⟩ := hw1.cells
      clear hw1 g1
      go_wp2_with fail
      go_ret
      exact ⟨rfl, HW1.out.set1, G1.out.trans (gb_set _ _ _ _)⟩
    · rw [if_neg hm] at h
      simp only [Prod.mk.injEq] at h
      obtain ⟨rfl, rfl, rfl⟩ := h
      have gm : decide (most < n1) = false := decide_eq_false hm
      clear hm
      go_enter Tryz.func76, Tryz.ntmps76
      go_wp2_with fail
      refine (CN.out _ HW.out).mono ?_
      rintro r w1 ⟨rfl, hw1, g1⟩
      have HW1 := Lib.hid hw1
      have G1 := Lib.hid g1
      obtain ⟨y0, y1, f0, f1⟩ := hw1.cells
      clear hw1 g1
      go_wp2_with fail
      go_ret
      exact ⟨rfl, HW1.out, G1.out⟩
  · rw [if_pos h0] at h
    simp only [Prod.mk.injEq] at h
    obtain ⟨rfl, rfl, rfl⟩ := h
    have g0 : ((e1 : Int) == 0) = false := by simp; omega
    have g0' : ((e1 : Int) != 0) = true := by simp; omega
    clear h0
    go_enter Tryz.func76, Tryz.ntmps76
    go_wp2_with fail
    refine (CN.out _ HW.out).mono ?_
    rintro r w1 ⟨rfl, hw1, g1⟩
    have HW1 := Lib.hid hw1
    have G1 := Lib.hid g1
    obtain ⟨y0, y1, f0, f1⟩ := hw1.cells
    clear hw1 g1
    go_wp2_with fail
    go_ret
    exact ⟨rfl, HW1.out, G1.out⟩
end Go.Proofs.YtflojipkgaocnaaGreatDoor
