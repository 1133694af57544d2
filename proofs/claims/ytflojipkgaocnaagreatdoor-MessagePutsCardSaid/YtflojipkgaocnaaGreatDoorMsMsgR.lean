/-
  The walk of (*message.reader).message, at each kind. Printed by gen_msmsgr.py of this claim's writer.
-/
import Derived.Test.YtflojipkgaocnaaGreatDoorMsRdr3
namespace Go.Proofs.YtflojipkgaocnaaGreatDoor
open Go.RowKit
set_option linter.unusedSimpArgs false
set_option linter.unusedVariables false

/-- A message that was read. -/
def GotMsg (rb : Nat) (m : Msg) (l' : List UInt8) (e' : Nat) (w : World) (r : Ending) (w' : World) : Prop := ∃ v, r = .returned v ∧ IsMsg w'.heap.size w' v m ∧ RmAt rb l' e' w' ∧ w.grownBy w' (some rb)
theorem rdTimes_le {α : Type} {rd : List UInt8 → Nat → α × List UInt8 × Nat} (h : ∀ l e, (rd l e).2.1.length ≤ l.length) : ∀ (k : Nat) (l : List UInt8) (e : Nat), (rdTimes rd k l e).2.1.length ≤ l.length
  | 0, _, _ => Nat.le_refl _
  | k + 1, l, e => Nat.le_trans (rdTimes_le h k _ _) (h l e)
theorem rdMany_le (most : Nat) (l : List UInt8) (e : Nat) : (rdMany most l e).2.1.length ≤ l.length := by
  have h := rdNum_le l e
  unfold rdMany
  split
  · exact h
  · split
    · exact h
    · exact h
theorem rdChain_le (l : List UInt8) (e : Nat) : (rdChain l e).2.1.length ≤ l.length := Nat.le_trans (rdTimes_le rdI_le _ _ _) (rdMany_le _ _ _)

set_option maxRecDepth 100000 in
set_option maxHeartbeats 3200000 in
theorem rm_beat (rb : Nat) (l : List UInt8) (e : Nat) (m : Msg) (l' : List UInt8) (e' : Nat) (h : rdMsg 1 l e = (m, l', e')) (hl : l.length ≤ maxLen) (w : World) (hw : RmAt rb l e w) (hT : Tabs w) (hrb : 2 ≤ rb) :
    Calls Tryz.prog 35 #[.pointer (some ⟨rb, 0, none⟩), .int .i64 1] w fun r w' => GotMsg rb m l' e' w r w' := by
  obtain ⟨x1, l1, e1, h1⟩ : ∃ a b c, rdNum l e = (a, b, c) := ⟨_, _, _, rfl⟩
  have hl1 : l1.length ≤ maxLen := by have := rdNum_le l e; rw [h1] at this; exact Nat.le_trans this hl
  obtain ⟨x2, l2, e2, h2⟩ : ∃ a b c, rdNum l1 e1 = (a, b, c) := ⟨_, _, _, rfl⟩
  have hl2 : l2.length ≤ maxLen := by have := rdNum_le l1 e1; rw [h2] at this; exact Nat.le_trans this hl1
  obtain ⟨x3, l3, e3, h3⟩ : ∃ a b c, rdNum l2 e2 = (a, b, c) := ⟨_, _, _, rfl⟩
  have hm : rdMsg 1 l e = (.beat (x1 : Int) (x2 : Int) (x3 : Int), l3, e3) := by simp only [rdMsg, rdMap, rdSeq, rdI, rdT, h1, h2, h3]
  rw [hm] at h
  simp only [Prod.mk.injEq] at h
  obtain ⟨rfl, rfl, rfl⟩ := h
  have C1 := Lib.hid (rmNum_any rb l e x1 l1 e1 h1 hl)
  have C2 := Lib.hid (rmNum_any rb l1 e1 x2 l2 e2 h2 hl1)
  have C3 := Lib.hid (rmNum_any rb l2 e2 x3 l3 e3 h3 hl2)
  have HW := Lib.hid hw
  have HT := Lib.hid hT
  have hlt := hw.lt
  clear hw hT hm hl h1 h2 h3 hl1 hl2
  go_enter Tryz.func35, Tryz.ntmps35
  go_wp2_with fail
  refine (C1.out _ HW.out).mono ?_
  rintro r w1 ⟨rfl, hw1, g1⟩
  have HW1 := Lib.hid hw1
  have HG1 := Lib.hid (g1)
  clear hw1 g1
  go_wp2_with fail
  refine (C2.out _ HW1.out).mono ?_
  rintro r w2 ⟨rfl, hw2, g2⟩
  have HW2 := Lib.hid hw2
  have HG2 := Lib.hid (HG1.out.trans g2)
  clear hw2 g2
  go_wp2_with fail
  refine (C3.out _ HW2.out).mono ?_
  rintro r w3 ⟨rfl, hw3, g3⟩
  have HW3 := Lib.hid hw3
  have HG3 := Lib.hid (HG2.out.trans g3)
  clear hw3 g3
  go_wp2_with fail
  go_ret
  exact ⟨_, rfl, rfl, HW3.out, HG3.out⟩

set_option maxRecDepth 100000 in
set_option maxHeartbeats 3200000 in
theorem rm_join (rb : Nat) (l : List UInt8) (e : Nat) (m : Msg) (l' : List UInt8) (e' : Nat) (h : rdMsg 2 l e = (m, l', e')) (hl : l.length ≤ maxLen) (w : World) (hw : RmAt rb l e w) (hT : Tabs w) (hrb : 2 ≤ rb) :
    Calls Tryz.prog 35 #[.pointer (some ⟨rb, 0, none⟩), .int .i64 2] w fun r w' => GotMsg rb m l' e' w r w' := by
  obtain ⟨x1, l1, e1, h1⟩ : ∃ a b c, rdNum l e = (a, b, c) := ⟨_, _, _, rfl⟩
  have hl1 : l1.length ≤ maxLen := by have := rdNum_le l e; rw [h1] at this; exact Nat.le_trans this hl
  obtain ⟨x2, l2, e2, h2⟩ : ∃ a b c, rdNum l1 e1 = (a, b, c) := ⟨_, _, _, rfl⟩
  have hm : rdMsg 2 l e = (.join (x1 : Int) (x2 : Int), l2, e2) := by simp only [rdMsg, rdMap, rdSeq, rdI, rdT, h1, h2]
  rw [hm] at h
  simp only [Prod.mk.injEq] at h
  obtain ⟨rfl, rfl, rfl⟩ := h
  have C1 := Lib.hid (rmNum_any rb l e x1 l1 e1 h1 hl)
  have C2 := Lib.hid (rmNum_any rb l1 e1 x2 l2 e2 h2 hl1)
  have HW := Lib.hid hw
  have HT := Lib.hid hT
  have hlt := hw.lt
  clear hw hT hm hl h1 h2 hl1
  go_enter Tryz.func35, Tryz.ntmps35
  go_wp2_with fail
  refine (C1.out _ HW.out).mono ?_
  rintro r w1 ⟨rfl, hw1, g1⟩
  have HW1 := Lib.hid hw1
  have HG1 := Lib.hid (g1)
  clear hw1 g1
  go_wp2_with fail
  refine (C2.out _ HW1.out).mono ?_
  rintro r w2 ⟨rfl, hw2, g2⟩
  have HW2 := Lib.hid hw2
  have HG2 := Lib.hid (HG1.out.trans g2)
  clear hw2 g2
  go_wp2_with fail
  go_ret
  exact ⟨_, rfl, rfl, HW2.out, HG2.out⟩

set_option maxRecDepth 100000 in
set_option maxHeartbeats 3200000 in
theorem rm_lease (rb : Nat) (l : List UInt8) (e : Nat) (m : Msg) (l' : List UInt8) (e' : Nat) (h : rdMsg 3 l e = (m, l', e')) (hl : l.length ≤ maxLen) (w : World) (hw : RmAt rb l e w) (hT : Tabs w) (hrb : 2 ≤ rb) :
    Calls Tryz.prog 35 #[.pointer (some ⟨rb, 0, none⟩), .int .i64 3] w fun r w' => GotMsg rb m l' e' w r w' := by
  obtain ⟨x1, l1, e1, h1⟩ : ∃ a b c, rdNum l e = (a, b, c) := ⟨_, _, _, rfl⟩
  have hl1 : l1.length ≤ maxLen := by have := rdNum_le l e; rw [h1] at this; exact Nat.le_trans this hl
  obtain ⟨x2, l2, e2, h2⟩ : ∃ a b c, rdNum l1 e1 = (a, b, c) := ⟨_, _, _, rfl⟩
  have hm : rdMsg 3 l e = (.lease (x1 : Int) (x2 : Int), l2, e2) := by simp only [rdMsg, rdMap, rdSeq, rdI, rdT, h1, h2]
  rw [hm] at h
  simp only [Prod.mk.injEq] at h
  obtain ⟨rfl, rfl, rfl⟩ := h
  have C1 := Lib.hid (rmNum_any rb l e x1 l1 e1 h1 hl)
  have C2 := Lib.hid (rmNum_any rb l1 e1 x2 l2 e2 h2 hl1)
  have HW := Lib.hid hw
  have HT := Lib.hid hT
  have hlt := hw.lt
  clear hw hT hm hl h1 h2 hl1
  go_enter Tryz.func35, Tryz.ntmps35
  go_wp2_with fail
  refine (C1.out _ HW.out).mono ?_
  rintro r w1 ⟨rfl, hw1, g1⟩
  have HW1 := Lib.hid hw1
  have HG1 := Lib.hid (g1)
  clear hw1 g1
  go_wp2_with fail
  refine (C2.out _ HW1.out).mono ?_
  rintro r w2 ⟨rfl, hw2, g2⟩
  have HW2 := Lib.hid hw2
  have HG2 := Lib.hid (HG1.out.trans g2)
  clear hw2 g2
  go_wp2_with fail
  go_ret
  exact ⟨_, rfl, rfl, HW2.out, HG2.out⟩

set_option maxRecDepth 100000 in
set_option maxHeartbeats 3200000 in
theorem rm_view (rb : Nat) (l : List UInt8) (e : Nat) (m : Msg) (l' : List UInt8) (e' : Nat) (h : rdMsg 4 l e = (m, l', e')) (hl : l.length ≤ maxLen) (w : World) (hw : RmAt rb l e w) (hT : Tabs w) (hrb : 2 ≤ rb) :
    Calls Tryz.prog 35 #[.pointer (some ⟨rb, 0, none⟩), .int .i64 4] w fun r w' => GotMsg rb m l' e' w r w' := by
  obtain ⟨x1, l1, e1, h1⟩ : ∃ a b c, rdNum l e = (a, b, c) := ⟨_, _, _, rfl⟩
  have hl1 : l1.length ≤ maxLen := by have := rdNum_le l e; rw [h1] at this; exact Nat.le_trans this hl
  obtain ⟨x2, l2, e2, h2⟩ : ∃ a b c, rdChain l1 e1 = (a, b, c) := ⟨_, _, _, rfl⟩
  have hl2 : l2.length ≤ maxLen := by have := rdChain_le l1 e1; rw [h2] at this; exact Nat.le_trans this hl1
  obtain ⟨x3, l3, e3, h3⟩ : ∃ a b c, rdChain l2 e2 = (a, b, c) := ⟨_, _, _, rfl⟩
  have hl3 : l3.length ≤ maxLen := by have := rdChain_le l2 e2; rw [h3] at this; exact Nat.le_trans this hl2
  obtain ⟨x4, l4, e4, h4⟩ : ∃ a b c, rdChain l3 e3 = (a, b, c) := ⟨_, _, _, rfl⟩
  have hm : rdMsg 4 l e = (.view (x1 : Int) x2 x3 x4, l4, e4) := by simp only [rdMsg, rdMap, rdSeq, rdI, rdT, h1, h2, h3, h4]
  rw [hm] at h
  simp only [Prod.mk.injEq] at h
  obtain ⟨rfl, rfl, rfl⟩ := h
  have C1 := Lib.hid (rmNum_any rb l e x1 l1 e1 h1 hl)
  have C2 := Lib.hid (rmChain_any rb l1 e1 x2 l2 e2 h2 hl1)
  have C3 := Lib.hid (rmChain_any rb l2 e2 x3 l3 e3 h3 hl2)
  have C4 := Lib.hid (rmChain_any rb l3 e3 x4 l4 e4 h4 hl3)
  have HW := Lib.hid hw
  have HT := Lib.hid hT
  have hlt := hw.lt
  clear hw hT hm hl h1 h2 h3 h4 hl1 hl2 hl3
  go_enter Tryz.func35, Tryz.ntmps35
  go_wp2_with fail
  refine (C1.out _ HW.out).mono ?_
  rintro r w1 ⟨rfl, hw1, g1⟩
  have HW1 := Lib.hid hw1
  have HG1 := Lib.hid (g1)
  clear hw1 g1
  go_wp2_with fail
  refine (C2.out _ HW1.out).mono ?_
  rintro r w2 ⟨v2, rfl, ho2, hw2, g2⟩
  obtain ⟨a2, c2, rfl⟩ := own_form ho2
  have HO2 := Lib.hid ho2
  have HW2 := Lib.hid hw2
  have HG2 := Lib.hid (HG1.out.trans g2)
  have HL2 := Lib.hid (show rb < w1.heap.size from HW1.out.lt)
  clear hw2 g2 ho2
  go_wp2_with fail
  refine (C3.out _ HW2.out).mono ?_
  rintro r w3 ⟨v3, rfl, ho3, hw3, g3⟩
  obtain ⟨a3, c3, rfl⟩ := own_form ho3
  have HO3 := Lib.hid ho3
  have HO2b := Lib.hid (own_rb HO2.out (HL2.out) g3)
  have HW3 := Lib.hid hw3
  have HG3 := Lib.hid (HG2.out.trans g3)
  have HL3 := Lib.hid (show rb < w2.heap.size from HW2.out.lt)
  clear hw3 g3 ho3
  go_wp2_with fail
  refine (C4.out _ HW3.out).mono ?_
  rintro r w4 ⟨v4, rfl, ho4, hw4, g4⟩
  obtain ⟨a4, c4, rfl⟩ := own_form ho4
  have HO4 := Lib.hid ho4
  have HO2bb := Lib.hid (own_rb HO2b.out (HL2.out) g4)
  have HO3b := Lib.hid (own_rb HO3.out (HL3.out) g4)
  have HW4 := Lib.hid hw4
  have HG4 := Lib.hid (HG3.out.trans g4)
  have HL4 := Lib.hid (show rb < w3.heap.size from HW3.out.lt)
  clear hw4 g4 ho4
  go_wp2_with fail
  go_ret
  exact ⟨_, rfl, ⟨_, _, _, rfl, row_own icell_len HO2bb.out, row_own icell_len HO3b.out, row_own icell_len HO4.out⟩, HW4.out, HG4.out⟩

set_option maxRecDepth 100000 in
set_option maxHeartbeats 3200000 in
theorem rm_whr (rb : Nat) (l : List UInt8) (e : Nat) (m : Msg) (l' : List UInt8) (e' : Nat) (h : rdMsg 5 l e = (m, l', e')) (hl : l.length ≤ maxLen) (w : World) (hw : RmAt rb l e w) (hT : Tabs w) (hrb : 2 ≤ rb) :
    Calls Tryz.prog 35 #[.pointer (some ⟨rb, 0, none⟩), .int .i64 5] w fun r w' => GotMsg rb m l' e' w r w' := by
  obtain ⟨x1, l1, e1, h1⟩ : ∃ a b c, rdNum l e = (a, b, c) := ⟨_, _, _, rfl⟩
  have hm : rdMsg 5 l e = (.whr (x1 : Int), l1, e1) := by simp only [rdMsg, rdMap, rdSeq, rdI, rdT, h1]
  rw [hm] at h
  simp only [Prod.mk.injEq] at h
  obtain ⟨rfl, rfl, rfl⟩ := h
  have C1 := Lib.hid (rmNum_any rb l e x1 l1 e1 h1 hl)
  have HW := Lib.hid hw
  have HT := Lib.hid hT
  have hlt := hw.lt
  clear hw hT hm hl h1 
  go_enter Tryz.func35, Tryz.ntmps35
  go_wp2_with fail
  refine (C1.out _ HW.out).mono ?_
  rintro r w1 ⟨rfl, hw1, g1⟩
  have HW1 := Lib.hid hw1
  have HG1 := Lib.hid (g1)
  clear hw1 g1
  go_wp2_with fail
  go_ret
  exact ⟨_, rfl, rfl, HW1.out, HG1.out⟩

set_option maxRecDepth 100000 in
set_option maxHeartbeats 3200000 in
theorem rm_hav (rb : Nat) (l : List UInt8) (e : Nat) (m : Msg) (l' : List UInt8) (e' : Nat) (h : rdMsg 6 l e = (m, l', e')) (hl : l.length ≤ maxLen) (w : World) (hw : RmAt rb l e w) (hT : Tabs w) (hrb : 2 ≤ rb) :
    Calls Tryz.prog 35 #[.pointer (some ⟨rb, 0, none⟩), .int .i64 6] w fun r w' => GotMsg rb m l' e' w r w' := by
  obtain ⟨x1, l1, e1, h1⟩ : ∃ a b c, rdNum l e = (a, b, c) := ⟨_, _, _, rfl⟩
  have hl1 : l1.length ≤ maxLen := by have := rdNum_le l e; rw [h1] at this; exact Nat.le_trans this hl
  obtain ⟨x2, l2, e2, h2⟩ : ∃ a b c, rdNum l1 e1 = (a, b, c) := ⟨_, _, _, rfl⟩
  have hl2 : l2.length ≤ maxLen := by have := rdNum_le l1 e1; rw [h2] at this; exact Nat.le_trans this hl1
  obtain ⟨x3, l3, e3, h3⟩ : ∃ a b c, rdNum l2 e2 = (a, b, c) := ⟨_, _, _, rfl⟩
  have hl3 : l3.length ≤ maxLen := by have := rdNum_le l2 e2; rw [h3] at this; exact Nat.le_trans this hl2
  obtain ⟨x4, l4, e4, h4⟩ : ∃ a b c, rdMarks l3 e3 = (a, b, c) := ⟨_, _, _, rfl⟩
  have hm : rdMsg 6 l e = (.hav (x1 : Int) (x2 : Int) (x3 : Int) x4, l4, e4) := by simp only [rdMsg, rdMap, rdSeq, rdI, rdT, h1, h2, h3, h4]
  rw [hm] at h
  simp only [Prod.mk.injEq] at h
  obtain ⟨rfl, rfl, rfl⟩ := h
  have C1 := Lib.hid (rmNum_any rb l e x1 l1 e1 h1 hl)
  have C2 := Lib.hid (rmNum_any rb l1 e1 x2 l2 e2 h2 hl1)
  have C3 := Lib.hid (rmNum_any rb l2 e2 x3 l3 e3 h3 hl2)
  have C4 := Lib.hid (rmMarks_any rb l3 e3 x4 l4 e4 h4 hl3)
  have HW := Lib.hid hw
  have HT := Lib.hid hT
  have hlt := hw.lt
  clear hw hT hm hl h1 h2 h3 h4 hl1 hl2 hl3
  go_enter Tryz.func35, Tryz.ntmps35
  go_wp2_with fail
  refine (C1.out _ HW.out).mono ?_
  rintro r w1 ⟨rfl, hw1, g1⟩
  have HW1 := Lib.hid hw1
  have HG1 := Lib.hid (g1)
  clear hw1 g1
  go_wp2_with fail
  refine (C2.out _ HW1.out).mono ?_
  rintro r w2 ⟨rfl, hw2, g2⟩
  have HW2 := Lib.hid hw2
  have HG2 := Lib.hid (HG1.out.trans g2)
  clear hw2 g2
  go_wp2_with fail
  refine (C3.out _ HW2.out).mono ?_
  rintro r w3 ⟨rfl, hw3, g3⟩
  have HW3 := Lib.hid hw3
  have HG3 := Lib.hid (HG2.out.trans g3)
  clear hw3 g3
  go_wp2_with fail
  refine (C4.out _ HW3.out).mono ?_
  rintro r w4 ⟨v4, rfl, ho4, hw4, g4⟩
  obtain ⟨a4, c4, rfl⟩ := own_form ho4
  have HO4 := Lib.hid ho4
  have HW4 := Lib.hid hw4
  have HG4 := Lib.hid (HG3.out.trans g4)
  clear hw4 g4 ho4
  go_wp2_with fail
  go_ret
  exact ⟨_, rfl, ⟨_, rfl, row_own mcell_len HO4.out⟩, HW4.out, HG4.out⟩

set_option maxRecDepth 100000 in
set_option maxHeartbeats 3200000 in
theorem rm_logs (rb : Nat) (l : List UInt8) (e : Nat) (m : Msg) (l' : List UInt8) (e' : Nat) (h : rdMsg 7 l e = (m, l', e')) (hl : l.length ≤ maxLen) (w : World) (hw : RmAt rb l e w) (hT : Tabs w) (hrb : 2 ≤ rb) :
    Calls Tryz.prog 35 #[.pointer (some ⟨rb, 0, none⟩), .int .i64 7] w fun r w' => GotMsg rb m l' e' w r w' := by
  obtain ⟨x1, l1, e1, h1⟩ : ∃ a b c, rdNum l e = (a, b, c) := ⟨_, _, _, rfl⟩
  have hl1 : l1.length ≤ maxLen := by have := rdNum_le l e; rw [h1] at this; exact Nat.le_trans this hl
  obtain ⟨x2, l2, e2, h2⟩ : ∃ a b c, rdNum l1 e1 = (a, b, c) := ⟨_, _, _, rfl⟩
  have hl2 : l2.length ≤ maxLen := by have := rdNum_le l1 e1; rw [h2] at this; exact Nat.le_trans this hl1
  obtain ⟨x3, l3, e3, h3⟩ : ∃ a b c, rdNum l2 e2 = (a, b, c) := ⟨_, _, _, rfl⟩
  have hl3 : l3.length ≤ maxLen := by have := rdNum_le l2 e2; rw [h3] at this; exact Nat.le_trans this hl2
  obtain ⟨x4, l4, e4, h4⟩ : ∃ a b c, rdNum l3 e3 = (a, b, c) := ⟨_, _, _, rfl⟩
  have hl4 : l4.length ≤ maxLen := by have := rdNum_le l3 e3; rw [h4] at this; exact Nat.le_trans this hl3
  obtain ⟨x5, l5, e5, h5⟩ : ∃ a b c, rdNum l4 e4 = (a, b, c) := ⟨_, _, _, rfl⟩
  have hl5 : l5.length ≤ maxLen := by have := rdNum_le l4 e4; rw [h5] at this; exact Nat.le_trans this hl4
  obtain ⟨x6, l6, e6, h6⟩ : ∃ a b c, rdNum l5 e5 = (a, b, c) := ⟨_, _, _, rfl⟩
  have hl6 : l6.length ≤ maxLen := by have := rdNum_le l5 e5; rw [h6] at this; exact Nat.le_trans this hl5
  obtain ⟨x7, l7, e7, h7⟩ : ∃ a b c, rdRow l6 e6 = (a, b, c) := ⟨_, _, _, rfl⟩
  have hm : rdMsg 7 l e = (.logs (x1 : Int) (x2 : Int) (x3 : Int) (x4 : Int) (x5 : Int) (x6 : Int) x7, l7, e7) := by simp only [rdMsg, rdMap, rdSeq, rdI, rdT, h1, h2, h3, h4, h5, h6, h7]
  rw [hm] at h
  simp only [Prod.mk.injEq] at h
  obtain ⟨rfl, rfl, rfl⟩ := h
  have C1 := Lib.hid (rmNum_any rb l e x1 l1 e1 h1 hl)
  have C2 := Lib.hid (rmNum_any rb l1 e1 x2 l2 e2 h2 hl1)
  have C3 := Lib.hid (rmNum_any rb l2 e2 x3 l3 e3 h3 hl2)
  have C4 := Lib.hid (rmNum_any rb l3 e3 x4 l4 e4 h4 hl3)
  have C5 := Lib.hid (rmNum_any rb l4 e4 x5 l5 e5 h5 hl4)
  have C6 := Lib.hid (rmNum_any rb l5 e5 x6 l6 e6 h6 hl5)
  have C7 := Lib.hid (fun (X : World) (hX : RmAt rb l6 e6 X) (hTX : Tabs X) => rmEntries_any rb l6 e6 x7 l7 e7 h7 hl6 X hX hTX)
  have HW := Lib.hid hw
  have HT := Lib.hid hT
  have hlt := hw.lt
  clear hw hT hm hl h1 h2 h3 h4 h5 h6 h7 hl1 hl2 hl3 hl4 hl5 hl6
  go_enter Tryz.func35, Tryz.ntmps35
  go_wp2_with fail
  refine (C1.out _ HW.out).mono ?_
  rintro r w1 ⟨rfl, hw1, g1⟩
  have HW1 := Lib.hid hw1
  have HG1 := Lib.hid (g1)
  clear hw1 g1
  go_wp2_with fail
  refine (C2.out _ HW1.out).mono ?_
  rintro r w2 ⟨rfl, hw2, g2⟩
  have HW2 := Lib.hid hw2
  have HG2 := Lib.hid (HG1.out.trans g2)
  clear hw2 g2
  go_wp2_with fail
  refine (C3.out _ HW2.out).mono ?_
  rintro r w3 ⟨rfl, hw3, g3⟩
  have HW3 := Lib.hid hw3
  have HG3 := Lib.hid (HG2.out.trans g3)
  clear hw3 g3
  go_wp2_with fail
  refine (C4.out _ HW3.out).mono ?_
  rintro r w4 ⟨rfl, hw4, g4⟩
  have HW4 := Lib.hid hw4
  have HG4 := Lib.hid (HG3.out.trans g4)
  clear hw4 g4
  go_wp2_with fail
  refine (C5.out _ HW4.out).mono ?_
  rintro r w5 ⟨rfl, hw5, g5⟩
  have HW5 := Lib.hid hw5
  have HG5 := Lib.hid (HG4.out.trans g5)
  clear hw5 g5
  go_wp2_with fail
  refine (C6.out _ HW5.out).mono ?_
  rintro r w6 ⟨rfl, hw6, g6⟩
  have HW6 := Lib.hid hw6
  have HG6 := Lib.hid (HG5.out.trans g6)
  clear hw6 g6
  go_wp2_with fail
  refine (C7.out _ HW6.out (tabs_gb HT.out HG6.out hrb)).mono ?_
  rintro r w7 ⟨v7, P, rfl, hP, ho7, hev, hw7, g7⟩
  obtain ⟨a7, c7, rfl⟩ := own_form ho7
  have HO7 := Lib.hid ho7
  have HEV := Lib.hid hev
  have HP := Lib.hid hP
  have HW7 := Lib.hid hw7
  have HG7 := Lib.hid (HG6.out.trans g7)
  clear hw7 g7 ho7 hev hP
  go_wp2_with fail
  go_ret
  exact ⟨_, rfl, ⟨_, rfl, P, HP.out, row_own ecell_len HO7.out, fun p hp => events_own (HEV.out p hp) (own_len (HEV.out p hp))⟩, HW7.out, HG7.out⟩

set_option maxRecDepth 100000 in
set_option maxHeartbeats 3200000 in
theorem rm_ack (rb : Nat) (l : List UInt8) (e : Nat) (m : Msg) (l' : List UInt8) (e' : Nat) (h : rdMsg 8 l e = (m, l', e')) (hl : l.length ≤ maxLen) (w : World) (hw : RmAt rb l e w) (hT : Tabs w) (hrb : 2 ≤ rb) :
    Calls Tryz.prog 35 #[.pointer (some ⟨rb, 0, none⟩), .int .i64 8] w fun r w' => GotMsg rb m l' e' w r w' := by
  obtain ⟨x1, l1, e1, h1⟩ : ∃ a b c, rdNum l e = (a, b, c) := ⟨_, _, _, rfl⟩
  have hl1 : l1.length ≤ maxLen := by have := rdNum_le l e; rw [h1] at this; exact Nat.le_trans this hl
  obtain ⟨x2, l2, e2, h2⟩ : ∃ a b c, rdNum l1 e1 = (a, b, c) := ⟨_, _, _, rfl⟩
  have hl2 : l2.length ≤ maxLen := by have := rdNum_le l1 e1; rw [h2] at this; exact Nat.le_trans this hl1
  obtain ⟨x3, l3, e3, h3⟩ : ∃ a b c, rdNum l2 e2 = (a, b, c) := ⟨_, _, _, rfl⟩
  have hm : rdMsg 8 l e = (.ack (x1 : Int) (x2 : Int) (x3 : Int), l3, e3) := by simp only [rdMsg, rdMap, rdSeq, rdI, rdT, h1, h2, h3]
  rw [hm] at h
  simp only [Prod.mk.injEq] at h
  obtain ⟨rfl, rfl, rfl⟩ := h
  have C1 := Lib.hid (rmNum_any rb l e x1 l1 e1 h1 hl)
  have C2 := Lib.hid (rmNum_any rb l1 e1 x2 l2 e2 h2 hl1)
  have C3 := Lib.hid (rmNum_any rb l2 e2 x3 l3 e3 h3 hl2)
  have HW := Lib.hid hw
  have HT := Lib.hid hT
  have hlt := hw.lt
  clear hw hT hm hl h1 h2 h3 hl1 hl2
  go_enter Tryz.func35, Tryz.ntmps35
  go_wp2_with fail
  refine (C1.out _ HW.out).mono ?_
  rintro r w1 ⟨rfl, hw1, g1⟩
  have HW1 := Lib.hid hw1
  have HG1 := Lib.hid (g1)
  clear hw1 g1
  go_wp2_with fail
  refine (C2.out _ HW1.out).mono ?_
  rintro r w2 ⟨rfl, hw2, g2⟩
  have HW2 := Lib.hid hw2
  have HG2 := Lib.hid (HG1.out.trans g2)
  clear hw2 g2
  go_wp2_with fail
  refine (C3.out _ HW2.out).mono ?_
  rintro r w3 ⟨rfl, hw3, g3⟩
  have HW3 := Lib.hid hw3
  have HG3 := Lib.hid (HG2.out.trans g3)
  clear hw3 g3
  go_wp2_with fail
  go_ret
  exact ⟨_, rfl, rfl, HW3.out, HG3.out⟩

set_option maxRecDepth 100000 in
set_option maxHeartbeats 3200000 in
theorem rm_ask (rb : Nat) (l : List UInt8) (e : Nat) (m : Msg) (l' : List UInt8) (e' : Nat) (h : rdMsg 9 l e = (m, l', e')) (hl : l.length ≤ maxLen) (w : World) (hw : RmAt rb l e w) (hT : Tabs w) (hrb : 2 ≤ rb) :
    Calls Tryz.prog 35 #[.pointer (some ⟨rb, 0, none⟩), .int .i64 9] w fun r w' => GotMsg rb m l' e' w r w' := by
  obtain ⟨x1, l1, e1, h1⟩ : ∃ a b c, rdNum l e = (a, b, c) := ⟨_, _, _, rfl⟩
  have hl1 : l1.length ≤ maxLen := by have := rdNum_le l e; rw [h1] at this; exact Nat.le_trans this hl
  obtain ⟨x2, l2, e2, h2⟩ : ∃ a b c, rdNum l1 e1 = (a, b, c) := ⟨_, _, _, rfl⟩
  have hl2 : l2.length ≤ maxLen := by have := rdNum_le l1 e1; rw [h2] at this; exact Nat.le_trans this hl1
  obtain ⟨x3, l3, e3, h3⟩ : ∃ a b c, rdNum l2 e2 = (a, b, c) := ⟨_, _, _, rfl⟩
  have hl3 : l3.length ≤ maxLen := by have := rdNum_le l2 e2; rw [h3] at this; exact Nat.le_trans this hl2
  obtain ⟨x4, l4, e4, h4⟩ : ∃ a b c, rdNum l3 e3 = (a, b, c) := ⟨_, _, _, rfl⟩
  have hm : rdMsg 9 l e = (.ask (x1 : Int) (x2 : Int) (x3 : Int) (x4 : Int), l4, e4) := by simp only [rdMsg, rdMap, rdSeq, rdI, rdT, h1, h2, h3, h4]
  rw [hm] at h
  simp only [Prod.mk.injEq] at h
  obtain ⟨rfl, rfl, rfl⟩ := h
  have C1 := Lib.hid (rmNum_any rb l e x1 l1 e1 h1 hl)
  have C2 := Lib.hid (rmNum_any rb l1 e1 x2 l2 e2 h2 hl1)
  have C3 := Lib.hid (rmNum_any rb l2 e2 x3 l3 e3 h3 hl2)
  have C4 := Lib.hid (rmNum_any rb l3 e3 x4 l4 e4 h4 hl3)
  have HW := Lib.hid hw
  have HT := Lib.hid hT
  have hlt := hw.lt
  clear hw hT hm hl h1 h2 h3 h4 hl1 hl2 hl3
  go_enter Tryz.func35, Tryz.ntmps35
  go_wp2_with fail
  refine (C1.out _ HW.out).mono ?_
  rintro r w1 ⟨rfl, hw1, g1⟩
  have HW1 := Lib.hid hw1
  have HG1 := Lib.hid (g1)
  clear hw1 g1
  go_wp2_with fail
  refine (C2.out _ HW1.out).mono ?_
  rintro r w2 ⟨rfl, hw2, g2⟩
  have HW2 := Lib.hid hw2
  have HG2 := Lib.hid (HG1.out.trans g2)
  clear hw2 g2
  go_wp2_with fail
  refine (C3.out _ HW2.out).mono ?_
  rintro r w3 ⟨rfl, hw3, g3⟩
  have HW3 := Lib.hid hw3
  have HG3 := Lib.hid (HG2.out.trans g3)
  clear hw3 g3
  go_wp2_with fail
  refine (C4.out _ HW3.out).mono ?_
  rintro r w4 ⟨rfl, hw4, g4⟩
  have HW4 := Lib.hid hw4
  have HG4 := Lib.hid (HG3.out.trans g4)
  clear hw4 g4
  go_wp2_with fail
  go_ret
  exact ⟨_, rfl, rfl, HW4.out, HG4.out⟩

set_option maxRecDepth 100000 in
set_option maxHeartbeats 3200000 in
theorem rm_told (rb : Nat) (l : List UInt8) (e : Nat) (m : Msg) (l' : List UInt8) (e' : Nat) (h : rdMsg 10 l e = (m, l', e')) (hl : l.length ≤ maxLen) (w : World) (hw : RmAt rb l e w) (hT : Tabs w) (hrb : 2 ≤ rb) :
    Calls Tryz.prog 35 #[.pointer (some ⟨rb, 0, none⟩), .int .i64 10] w fun r w' => GotMsg rb m l' e' w r w' := by
  obtain ⟨x1, l1, e1, h1⟩ : ∃ a b c, rdNum l e = (a, b, c) := ⟨_, _, _, rfl⟩
  have hl1 : l1.length ≤ maxLen := by have := rdNum_le l e; rw [h1] at this; exact Nat.le_trans this hl
  obtain ⟨x2, l2, e2, h2⟩ : ∃ a b c, rdNum l1 e1 = (a, b, c) := ⟨_, _, _, rfl⟩
  have hl2 : l2.length ≤ maxLen := by have := rdNum_le l1 e1; rw [h2] at this; exact Nat.le_trans this hl1
  obtain ⟨x3, l3, e3, h3⟩ : ∃ a b c, rdNum l2 e2 = (a, b, c) := ⟨_, _, _, rfl⟩
  have hl3 : l3.length ≤ maxLen := by have := rdNum_le l2 e2; rw [h3] at this; exact Nat.le_trans this hl2
  obtain ⟨x4, l4, e4, h4⟩ : ∃ a b c, rdNum l3 e3 = (a, b, c) := ⟨_, _, _, rfl⟩
  have hm : rdMsg 10 l e = (.told (x1 : Int) (x2 : Int) (x3 : Int) (x4 : Int), l4, e4) := by simp only [rdMsg, rdMap, rdSeq, rdI, rdT, h1, h2, h3, h4]
  rw [hm] at h
  simp only [Prod.mk.injEq] at h
  obtain ⟨rfl, rfl, rfl⟩ := h
  have C1 := Lib.hid (rmNum_any rb l e x1 l1 e1 h1 hl)
  have C2 := Lib.hid (rmNum_any rb l1 e1 x2 l2 e2 h2 hl1)
  have C3 := Lib.hid (rmNum_any rb l2 e2 x3 l3 e3 h3 hl2)
  have C4 := Lib.hid (rmNum_any rb l3 e3 x4 l4 e4 h4 hl3)
  have HW := Lib.hid hw
  have HT := Lib.hid hT
  have hlt := hw.lt
  clear hw hT hm hl h1 h2 h3 h4 hl1 hl2 hl3
  go_enter Tryz.func35, Tryz.ntmps35
  go_wp2_with fail
  refine (C1.out _ HW.out).mono ?_
  rintro r w1 ⟨rfl, hw1, g1⟩
  have HW1 := Lib.hid hw1
  have HG1 := Lib.hid (g1)
  clear hw1 g1
  go_wp2_with fail
  refine (C2.out _ HW1.out).mono ?_
  rintro r w2 ⟨rfl, hw2, g2⟩
  have HW2 := Lib.hid hw2
  have HG2 := Lib.hid (HG1.out.trans g2)
  clear hw2 g2
  go_wp2_with fail
  refine (C3.out _ HW2.out).mono ?_
  rintro r w3 ⟨rfl, hw3, g3⟩
  have HW3 := Lib.hid hw3
  have HG3 := Lib.hid (HG2.out.trans g3)
  clear hw3 g3
  go_wp2_with fail
  refine (C4.out _ HW3.out).mono ?_
  rintro r w4 ⟨rfl, hw4, g4⟩
  have HW4 := Lib.hid hw4
  have HG4 := Lib.hid (HG3.out.trans g4)
  clear hw4 g4
  go_wp2_with fail
  go_ret
  exact ⟨_, rfl, rfl, HW4.out, HG4.out⟩

set_option maxRecDepth 100000 in
set_option maxHeartbeats 3200000 in
theorem rm_app (rb : Nat) (l : List UInt8) (e : Nat) (m : Msg) (l' : List UInt8) (e' : Nat) (h : rdMsg 11 l e = (m, l', e')) (hl : l.length ≤ maxLen) (w : World) (hw : RmAt rb l e w) (hT : Tabs w) (hrb : 2 ≤ rb) :
    Calls Tryz.prog 35 #[.pointer (some ⟨rb, 0, none⟩), .int .i64 11] w fun r w' => GotMsg rb m l' e' w r w' := by
  obtain ⟨x1, l1, e1, h1⟩ : ∃ a b c, rdNum l e = (a, b, c) := ⟨_, _, _, rfl⟩
  have hl1 : l1.length ≤ maxLen := by have := rdNum_le l e; rw [h1] at this; exact Nat.le_trans this hl
  obtain ⟨x2, l2, e2, h2⟩ : ∃ a b c, rdBatch l1 e1 = (a, b, c) := ⟨_, _, _, rfl⟩
  have hm : rdMsg 11 l e = (.app (x1 : Int) x2, l2, e2) := by simp only [rdMsg, rdMap, rdSeq, rdI, rdT, h1, h2]
  rw [hm] at h
  simp only [Prod.mk.injEq] at h
  obtain ⟨rfl, rfl, rfl⟩ := h
  have C1 := Lib.hid (rmNum_any rb l e x1 l1 e1 h1 hl)
  have C2 := Lib.hid (fun (X : World) (hX : RmAt rb l1 e1 X) (hTX : Tabs X) => rmBatch_any rb l1 e1 x2 l2 e2 h2 hl1 X hX hTX)
  have HW := Lib.hid hw
  have HT := Lib.hid hT
  have hlt := hw.lt
  clear hw hT hm hl h1 h2 hl1
  go_enter Tryz.func35, Tryz.ntmps35
  go_wp2_with fail
  refine (C1.out _ HW.out).mono ?_
  rintro r w1 ⟨rfl, hw1, g1⟩
  have HW1 := Lib.hid hw1
  have HG1 := Lib.hid (g1)
  clear hw1 g1
  go_wp2_with fail
  refine (C2.out _ HW1.out (tabs_gb HT.out HG1.out hrb)).mono ?_
  rintro r w2 ⟨a2, c2, rfl, ho2, hw2, g2⟩
  have HO2 := Lib.hid ho2
  have HW2 := Lib.hid hw2
  have HG2 := Lib.hid (HG1.out.trans g2)
  clear hw2 g2 ho2
  go_wp2_with fail
  go_ret
  exact ⟨_, rfl, ⟨_, rfl, events_own HO2.out (own_len HO2.out)⟩, HW2.out, HG2.out⟩

set_option maxRecDepth 100000 in
set_option maxHeartbeats 3200000 in
theorem rm_red (rb : Nat) (l : List UInt8) (e : Nat) (m : Msg) (l' : List UInt8) (e' : Nat) (h : rdMsg 12 l e = (m, l', e')) (hl : l.length ≤ maxLen) (w : World) (hw : RmAt rb l e w) (hT : Tabs w) (hrb : 2 ≤ rb) :
    Calls Tryz.prog 35 #[.pointer (some ⟨rb, 0, none⟩), .int .i64 12] w fun r w' => GotMsg rb m l' e' w r w' := by
  obtain ⟨x1, l1, e1, h1⟩ : ∃ a b c, rdNum l e = (a, b, c) := ⟨_, _, _, rfl⟩
  have hl1 : l1.length ≤ maxLen := by have := rdNum_le l e; rw [h1] at this; exact Nat.le_trans this hl
  obtain ⟨x2, l2, e2, h2⟩ : ∃ a b c, rdName l1 e1 = (a, b, c) := ⟨_, _, _, rfl⟩
  have hl2 : l2.length ≤ maxLen := by have := rdName_le l1 e1; rw [h2] at this; exact Nat.le_trans this hl1
  obtain ⟨x3, l3, e3, h3⟩ : ∃ a b c, rdNum l2 e2 = (a, b, c) := ⟨_, _, _, rfl⟩
  have hm : rdMsg 12 l e = (.red (x1 : Int) (bstr x2) (x3 : Int), l3, e3) := by simp only [rdMsg, rdMap, rdSeq, rdI, rdT, h1, h2, h3]
  rw [hm] at h
  simp only [Prod.mk.injEq] at h
  obtain ⟨rfl, rfl, rfl⟩ := h
  have C1 := Lib.hid (rmNum_any rb l e x1 l1 e1 h1 hl)
  have C2 := Lib.hid (rmName_any rb l1 e1 x2 l2 e2 h2 hl1)
  have C3 := Lib.hid (rmNum_any rb l2 e2 x3 l3 e3 h3 hl2)
  have HW := Lib.hid hw
  have HT := Lib.hid hT
  have hlt := hw.lt
  clear hw hT hm hl h1 h2 h3 hl1 hl2
  go_enter Tryz.func35, Tryz.ntmps35
  go_wp2_with fail
  refine (C1.out _ HW.out).mono ?_
  rintro r w1 ⟨rfl, hw1, g1⟩
  have HW1 := Lib.hid hw1
  have HG1 := Lib.hid (g1)
  clear hw1 g1
  go_wp2_with fail
  refine (C2.out _ HW1.out).mono ?_
  rintro r w2 ⟨rfl, hw2, g2⟩
  have HW2 := Lib.hid hw2
  have HG2 := Lib.hid (HG1.out.trans g2)
  clear hw2 g2
  go_wp2_with fail
  refine (C3.out _ HW2.out).mono ?_
  rintro r w3 ⟨rfl, hw3, g3⟩
  have HW3 := Lib.hid hw3
  have HG3 := Lib.hid (HG2.out.trans g3)
  clear hw3 g3
  go_wp2_with fail
  go_ret
  exact ⟨_, rfl, rfl, HW3.out, HG3.out⟩

set_option maxRecDepth 100000 in
set_option maxHeartbeats 3200000 in
theorem rm_rep (rb : Nat) (l : List UInt8) (e : Nat) (m : Msg) (l' : List UInt8) (e' : Nat) (h : rdMsg 13 l e = (m, l', e')) (hl : l.length ≤ maxLen) (w : World) (hw : RmAt rb l e w) (hT : Tabs w) (hrb : 2 ≤ rb) :
    Calls Tryz.prog 35 #[.pointer (some ⟨rb, 0, none⟩), .int .i64 13] w fun r w' => GotMsg rb m l' e' w r w' := by
  obtain ⟨x1, l1, e1, h1⟩ : ∃ a b c, rdNum l e = (a, b, c) := ⟨_, _, _, rfl⟩
  have hl1 : l1.length ≤ maxLen := by have := rdNum_le l e; rw [h1] at this; exact Nat.le_trans this hl
  obtain ⟨x2, l2, e2, h2⟩ : ∃ a b c, rdNum l1 e1 = (a, b, c) := ⟨_, _, _, rfl⟩
  have hl2 : l2.length ≤ maxLen := by have := rdNum_le l1 e1; rw [h2] at this; exact Nat.le_trans this hl1
  obtain ⟨x3, l3, e3, h3⟩ : ∃ a b c, rdNum l2 e2 = (a, b, c) := ⟨_, _, _, rfl⟩
  have hl3 : l3.length ≤ maxLen := by have := rdNum_le l2 e2; rw [h3] at this; exact Nat.le_trans this hl2
  obtain ⟨x4, l4, e4, h4⟩ : ∃ a b c, rdNum l3 e3 = (a, b, c) := ⟨_, _, _, rfl⟩
  have hl4 : l4.length ≤ maxLen := by have := rdNum_le l3 e3; rw [h4] at this; exact Nat.le_trans this hl3
  obtain ⟨x5, l5, e5, h5⟩ : ∃ a b c, rdNum l4 e4 = (a, b, c) := ⟨_, _, _, rfl⟩
  have hl5 : l5.length ≤ maxLen := by have := rdNum_le l4 e4; rw [h5] at this; exact Nat.le_trans this hl4
  obtain ⟨x6, l6, e6, h6⟩ : ∃ a b c, rdNum l5 e5 = (a, b, c) := ⟨_, _, _, rfl⟩
  have hm : rdMsg 13 l e = (.rep (x1 : Int) (x2 : Int) (x3 : Int) (x4 : Int) (x5 : Int) (x6 : Int), l6, e6) := by simp only [rdMsg, rdMap, rdSeq, rdI, rdT, h1, h2, h3, h4, h5, h6]
  rw [hm] at h
  simp only [Prod.mk.injEq] at h
  obtain ⟨rfl, rfl, rfl⟩ := h
  have C1 := Lib.hid (rmNum_any rb l e x1 l1 e1 h1 hl)
  have C2 := Lib.hid (rmNum_any rb l1 e1 x2 l2 e2 h2 hl1)
  have C3 := Lib.hid (rmNum_any rb l2 e2 x3 l3 e3 h3 hl2)
  have C4 := Lib.hid (rmNum_any rb l3 e3 x4 l4 e4 h4 hl3)
  have C5 := Lib.hid (rmNum_any rb l4 e4 x5 l5 e5 h5 hl4)
  have C6 := Lib.hid (rmNum_any rb l5 e5 x6 l6 e6 h6 hl5)
  have HW := Lib.hid hw
  have HT := Lib.hid hT
  have hlt := hw.lt
  clear hw hT hm hl h1 h2 h3 h4 h5 h6 hl1 hl2 hl3 hl4 hl5
  go_enter Tryz.func35, Tryz.ntmps35
  go_wp2_with fail
  refine (C1.out _ HW.out).mono ?_
  rintro r w1 ⟨rfl, hw1, g1⟩
  have HW1 := Lib.hid hw1
  have HG1 := Lib.hid (g1)
  clear hw1 g1
  go_wp2_with fail
  refine (C2.out _ HW1.out).mono ?_
  rintro r w2 ⟨rfl, hw2, g2⟩
  have HW2 := Lib.hid hw2
  have HG2 := Lib.hid (HG1.out.trans g2)
  clear hw2 g2
  go_wp2_with fail
  refine (C3.out _ HW2.out).mono ?_
  rintro r w3 ⟨rfl, hw3, g3⟩
  have HW3 := Lib.hid hw3
  have HG3 := Lib.hid (HG2.out.trans g3)
  clear hw3 g3
  go_wp2_with fail
  refine (C4.out _ HW3.out).mono ?_
  rintro r w4 ⟨rfl, hw4, g4⟩
  have HW4 := Lib.hid hw4
  have HG4 := Lib.hid (HG3.out.trans g4)
  clear hw4 g4
  go_wp2_with fail
  refine (C5.out _ HW4.out).mono ?_
  rintro r w5 ⟨rfl, hw5, g5⟩
  have HW5 := Lib.hid hw5
  have HG5 := Lib.hid (HG4.out.trans g5)
  clear hw5 g5
  go_wp2_with fail
  refine (C6.out _ HW5.out).mono ?_
  rintro r w6 ⟨rfl, hw6, g6⟩
  have HW6 := Lib.hid hw6
  have HG6 := Lib.hid (HG5.out.trans g6)
  clear hw6 g6
  go_wp2_with fail
  go_ret
  exact ⟨_, rfl, rfl, HW6.out, HG6.out⟩

set_option maxRecDepth 100000 in
set_option maxHeartbeats 3200000 in
theorem rm_res (rb : Nat) (l : List UInt8) (e : Nat) (m : Msg) (l' : List UInt8) (e' : Nat) (h : rdMsg 14 l e = (m, l', e')) (hl : l.length ≤ maxLen) (w : World) (hw : RmAt rb l e w) (hT : Tabs w) (hrb : 2 ≤ rb) :
    Calls Tryz.prog 35 #[.pointer (some ⟨rb, 0, none⟩), .int .i64 14] w fun r w' => GotMsg rb m l' e' w r w' := by
  obtain ⟨x1, l1, e1, h1⟩ : ∃ a b c, rdNum l e = (a, b, c) := ⟨_, _, _, rfl⟩
  have hl1 : l1.length ≤ maxLen := by have := rdNum_le l e; rw [h1] at this; exact Nat.le_trans this hl
  obtain ⟨x2, l2, e2, h2⟩ : ∃ a b c, rdNum l1 e1 = (a, b, c) := ⟨_, _, _, rfl⟩
  have hl2 : l2.length ≤ maxLen := by have := rdNum_le l1 e1; rw [h2] at this; exact Nat.le_trans this hl1
  obtain ⟨x3, l3, e3, h3⟩ : ∃ a b c, rdNum l2 e2 = (a, b, c) := ⟨_, _, _, rfl⟩
  have hl3 : l3.length ≤ maxLen := by have := rdNum_le l2 e2; rw [h3] at this; exact Nat.le_trans this hl2
  obtain ⟨x4, l4, e4, h4⟩ : ∃ a b c, rdEvs l3 e3 = (a, b, c) := ⟨_, _, _, rfl⟩
  have hm : rdMsg 14 l e = (.res (x1 : Int) (x2 : Int) (x3 : Int) x4, l4, e4) := by simp only [rdMsg, rdMap, rdSeq, rdI, rdT, h1, h2, h3, h4]
  rw [hm] at h
  simp only [Prod.mk.injEq] at h
  obtain ⟨rfl, rfl, rfl⟩ := h
  have C1 := Lib.hid (rmNum_any rb l e x1 l1 e1 h1 hl)
  have C2 := Lib.hid (rmNum_any rb l1 e1 x2 l2 e2 h2 hl1)
  have C3 := Lib.hid (rmNum_any rb l2 e2 x3 l3 e3 h3 hl2)
  have C4 := Lib.hid (fun (X : World) (hX : RmAt rb l3 e3 X) (hTX : Tabs X) => rmEvents_any rb l3 e3 x4 l4 e4 h4 hl3 X hX hTX hrb)
  have HW := Lib.hid hw
  have HT := Lib.hid hT
  have hlt := hw.lt
  clear hw hT hm hl h1 h2 h3 h4 hl1 hl2 hl3
  go_enter Tryz.func35, Tryz.ntmps35
  go_wp2_with fail
  refine (C1.out _ HW.out).mono ?_
  rintro r w1 ⟨rfl, hw1, g1⟩
  have HW1 := Lib.hid hw1
  have HG1 := Lib.hid (g1)
  clear hw1 g1
  go_wp2_with fail
  refine (C2.out _ HW1.out).mono ?_
  rintro r w2 ⟨rfl, hw2, g2⟩
  have HW2 := Lib.hid hw2
  have HG2 := Lib.hid (HG1.out.trans g2)
  clear hw2 g2
  go_wp2_with fail
  refine (C3.out _ HW2.out).mono ?_
  rintro r w3 ⟨rfl, hw3, g3⟩
  have HW3 := Lib.hid hw3
  have HG3 := Lib.hid (HG2.out.trans g3)
  clear hw3 g3
  go_wp2_with fail
  refine (C4.out _ HW3.out (tabs_gb HT.out HG3.out hrb)).mono ?_
  rintro r w4 ⟨v4, rfl, ho4, hw4, g4⟩
  obtain ⟨a4, c4, rfl⟩ := own_form ho4
  have HO4 := Lib.hid ho4
  have HW4 := Lib.hid hw4
  have HG4 := Lib.hid (HG3.out.trans g4)
  clear hw4 g4 ho4
  go_wp2_with fail
  go_ret
  exact ⟨_, rfl, ⟨_, rfl, events_own HO4.out (own_len HO4.out)⟩, HW4.out, HG4.out⟩

theorem rmMsg_any (rb k : Nat) (h1 : 1 ≤ k) (h2 : k ≤ 14) (l : List UInt8) (e : Nat) (m : Msg) (l' : List UInt8) (e' : Nat) (h : rdMsg k l e = (m, l', e')) (hl : l.length ≤ maxLen) (w : World) (hw : RmAt rb l e w) (hT : Tabs w) (hrb : 2 ≤ rb) :
    Calls Tryz.prog 35 #[.pointer (some ⟨rb, 0, none⟩), .int .i64 k] w fun r w' => GotMsg rb m l' e' w r w' := by
  have hk : k = 1 ∨ k = 2 ∨ k = 3 ∨ k = 4 ∨ k = 5 ∨ k = 6 ∨ k = 7 ∨ k = 8 ∨ k = 9 ∨ k = 10 ∨ k = 11 ∨ k = 12 ∨ k = 13 ∨ k = 14 := by omega
  rcases hk with rfl | rfl | rfl | rfl | rfl | rfl | rfl | rfl | rfl | rfl | rfl | rfl | rfl | rfl
  · exact rm_beat rb l e m l' e' h hl w hw hT hrb
  · exact rm_join rb l e m l' e' h hl w hw hT hrb
  · exact rm_lease rb l e m l' e' h hl w hw hT hrb
  · exact rm_view rb l e m l' e' h hl w hw hT hrb
  · exact rm_whr rb l e m l' e' h hl w hw hT hrb
  · exact rm_hav rb l e m l' e' h hl w hw hT hrb
  · exact rm_logs rb l e m l' e' h hl w hw hT hrb
  · exact rm_ack rb l e m l' e' h hl w hw hT hrb
  · exact rm_ask rb l e m l' e' h hl w hw hT hrb
  · exact rm_told rb l e m l' e' h hl w hw hT hrb
  · exact rm_app rb l e m l' e' h hl w hw hT hrb
  · exact rm_red rb l e m l' e' h hl w hw hT hrb
  · exact rm_rep rb l e m l' e' h hl w hw hT hrb
  · exact rm_res rb l e m l' e' h hl w hw hT hrb
end Go.Proofs.YtflojipkgaocnaaGreatDoor
