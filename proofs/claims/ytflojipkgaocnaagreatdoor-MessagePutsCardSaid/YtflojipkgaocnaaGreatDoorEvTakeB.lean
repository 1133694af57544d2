/-
  The walk of event.TakeBatch. Printed by gen_evtakeb.py of this claim's writer.
-/
import Derived.Test.YtflojipkgaocnaaGreatDoorEvTakeE
import Derived.Test.YtflojipkgaocnaaGreatDoorEvApp
import Derived.Deep.DeepCutAuto
namespace Go.Proofs.YtflojipkgaocnaaGreatDoor
open Go.RowKit

/-! ### plainly -/
def rdEvents : Nat → List UInt8 → Nat → List EV × List UInt8 × Nat
  | 0, l, e => ([], l, e)
  | k + 1, l, e => if e ≠ 0 then ([], l, e) else ((rdEvent l e).1 :: (rdEvents k (rdEvent l e).2.1 (rdEvent l e).2.2).1, (rdEvents k (rdEvent l e).2.1 (rdEvent l e).2.2).2)
theorem rdEvents_err {k : Nat} {l : List UInt8} {e : Nat} (h : e ≠ 0) : rdEvents k l e = ([], l, e) := by
  cases k with
  | zero => rfl
  | succ k => rw [rdEvents, if_pos h]
theorem rdEvents_le : ∀ (k : Nat) (l : List UInt8) (e : Nat), (rdEvents k l e).2.1.length ≤ l.length
  | 0, _, _ => Nat.le_refl _
  | k + 1, l, e => by
    rw [rdEvents]
    split
    · exact Nat.le_refl _
    · exact Nat.le_trans (rdEvents_le k _ _) (rdEvent_le _ _)
theorem rdEvents_len : ∀ (k : Nat) (l : List UInt8) (e : Nat), (rdEvents k l e).1.length ≤ k
  | 0, _, _ => by simp [rdEvents]
  | k + 1, l, e => by
    rw [rdEvents]
    split
    · simp
    · have := rdEvents_len k (rdEvent l e).2.1 (rdEvent l e).2.2
      simp only [List.length_cons]
      omega
def zeroB : BW := ⟨⟨#[]⟩, 0, 0, 0, []⟩
/-- What is read of a batch, right or not, and the error. -/
def rawB (l : List UInt8) : BW × List UInt8 × Nat :=
  let a := rdName l 0
  let s := rdSign a.2.1 a.2.2
  let n := rdNum s.2.1 s.2.2
  let m := rdNum n.2.1 n.2.2
  let c := rdNum m.2.1 m.2.2
  let r := rdEvents c.1 c.2.1 (if 8 < c.1 then rdNote c.2.2 4 else c.2.2)
  (⟨bstr a.1, s.1, n.1, m.1, r.1⟩, r.2.1, r.2.2)
def takeB (l : List UInt8) : BW × List UInt8 × Nat :=
  if (if fitsB (rawB l).1 = 0 then (rawB l).2.2 else rdNote (rawB l).2.2 2) ≠ 0 then (zeroB, [], if fitsB (rawB l).1 = 0 then (rawB l).2.2 else rdNote (rawB l).2.2 2) else ((rawB l).1, (rawB l).2.1, 0)

theorem drew_heap (X : World) : X.drew.heap = X.heap := rfl
theorem own_drew {base : Nat} {e : TypeId} {size : Nat} {v : Value} {n : Nat} {xs : List Value} {w : World} (h : w.ownsRow base e size v n xs) : w.drew.ownsRow base e size v n xs := h
theorem blk_set5 {w : World} {g : Nat} {a0 a1 a2 a3 a4 : Value} {t : TypeId} {fr : Nat × Nat} (h : w.heap[g]? = some (.cells #[a0, a1, a2, a3, a4] t fr)) (v0 v1 v2 v3 v4 : Value) :
    (((((w.setCell ⟨g, 0, none⟩ v0).setCell ⟨g, 1, none⟩ v1).setCell ⟨g, 2, none⟩ v2).setCell ⟨g, 3, none⟩ v3).setCell ⟨g, 4, none⟩ v4).drew.heap[g]? = some (.cells #[v0, v1, v2, v3, v4] t fr) := by
  have h1 := blk_set (blk_set (blk_set (blk_set (blk_set h 0 v0) 1 v1) 2 v2) 3 v3) 4 v4
  simp only [List.setIfInBounds_toArray, List.set_cons_zero, List.set_cons_succ] at h1
  rw [drew_heap]
  exact h1
theorem bsize : (Tryz.prog.info? 28).map (·.size) = some 5 := by kernel_rfl

theorem own_setE {base : Nat} {e : TypeId} {size : Nat} {v : Value} {n : Nat} {xs : List Value} {w : World} (h : w.ownsRow base e size v n xs) (g o : Nat) (hb : g < base) (x : Value) : (w.setCell ⟨g, o, none⟩ x).ownsRow base e size v n xs := by
  refine h.kept (gb_set w g o x) ?_
  rcases h.2 with ⟨rfl, _⟩ | ⟨b, cap, cur, rfl, h1, _⟩
  · exact .inl rfl
  · refine .inr ?_
    simp only [Value.ownBlock, ne_eq, Option.some.injEq]
    omega

/-- What is held while a batch is read. -/
structure TB (w : World) (g : Nat) (s : ByteArray) (x y z : Int) (l : List UInt8) (e : Nat) (evs : List EV) (r : Value) (W : World) : Prop where
  below : Below w.heap.size w W
  res : W.heap[w.heap.size]? = some (.cells #[.string ⟨#[]⟩, .int .i64 0, .int .i64 0, .int .i64 0, .slice none 0 0] 28)
  rd : RdAt (w.heap.size + 1) l e W
  box : W.heap[g]? = some (.cells #[.string s, .int .i64 x, .int .i64 y, .int .i64 z, r] 28)
  own : W.ownsRow (g + 1) 55 2 r evs.length (ecells evs)
section
variable {w W W' : World} {g : Nat} {s : ByteArray} {x y z : Int} {l l' : List UInt8} {e e' : Nat} {evs : List EV} {r r' : Value}
theorem TB.keep (h : TB w g s x y z l e evs r W) (k : Below W.heap.size W W') : TB w g s x y z l e evs r W' where
  below := h.below.trans (k.mono h.below.size)
  res := (k.block _ (Array.getElem?_eq_some_iff.1 h.res).1).trans h.res
  rd := h.rd.keep k
  box := (k.block _ (Array.getElem?_eq_some_iff.1 h.box).1).trans h.box
  own := own_below k h.own
theorem TB.read (h : TB w g s x y z l e evs r W) (hg : w.heap.size + 1 < g) (k : W.grownBy W' (some (w.heap.size + 1))) (hr : RdAt (w.heap.size + 1) l' e' W') : TB w g s x y z l' e' evs r W' where
  below := h.below.trans (gb_below k (by omega) h.rd.lt)
  res := gb_heap k h.res (by omega)
  rd := hr
  box := gb_heap k h.box (by omega)
  own := h.own.kept k (by
    rcases h.own.2 with ⟨rfl, _⟩ | ⟨b, cap, cur, rfl, h1, _⟩
    · exact .inl rfl
    · refine .inr ?_
      simp only [Value.ownBlock, ne_eq, Option.some.injEq]
      omega)
theorem TB.grow (h : TB w g s x y z l e evs r W) (hg : w.heap.size + 1 < g) (k : W.grownBy W' r.ownBlock) {y1 : EV} {gg cap : Nat} (hown : W'.ownsRow (g + 1) 55 2 (.slice (some ⟨gg, 0, none⟩) (evs.length + 1) cap) (evs.length + 1) (ecells evs ++ [.string y1.kind, .string y1.data])) :
    TB w g s x y z l e (evs ++ [y1]) (.slice (some ⟨gg, 0, none⟩) (evs.length + 1) cap) (W'.setCell ⟨g, 4, none⟩ (.slice (some ⟨gg, 0, none⟩) (evs.length + 1) cap)) where
  below := (h.below.grown k (Nat.le_of_lt (Array.getElem?_eq_some_iff.1 h.res).1) (fun j hj => by have := (h.own.lt j hj).1; omega)).setCell (p := ⟨g, 4, none⟩) (by simp only; omega) _
  res := gb_heap (gb_set _ _ _ _) ((k.block _ (Array.getElem?_eq_some_iff.1 h.res).1 (fun e0 => by have := (h.own.lt _ e0.symm).1; omega)).trans h.res) (by omega)
  rd := gb_heap (gb_set _ _ _ _) ((k.block _ h.rd.lt (fun e0 => by have := (h.own.lt _ e0.symm).1; omega)).trans h.rd) (by omega)
  box := by
    have h1 := blk_set ((k.block _ (Array.getElem?_eq_some_iff.1 h.box).1 (fun e0 => by have := (h.own.lt _ e0.symm).1; omega)).trans h.box) 4 (.slice (some ⟨gg, 0, none⟩) (evs.length + 1) cap)
    exact h1
  own := by
    have h1 := own_setE hown g 4 (by omega) (.slice (some ⟨gg, 0, none⟩) (evs.length + 1) cap)
    rw [ecells_append, ecells_one, List.length_append]
    exact h1
end
theorem cellsB {w : World} {g : Nat} {a0 a1 a2 a3 a4 : Value} {t : TypeId} {fr : Nat × Nat} (h : w.heap[g]? = some (.cells #[a0, a1, a2, a3, a4] t fr)) :
    w.cell? ⟨g, 0, none⟩ = some a0 ∧ w.cell? ⟨g, 1, none⟩ = some a1 ∧ w.cell? ⟨g, 2, none⟩ = some a2 ∧ w.cell? ⟨g, 3, none⟩ = some a3 ∧ w.cell? ⟨g, 4, none⟩ = some a4 :=
  ⟨by rw [Lib.cell_of_heap h]; rfl, by rw [Lib.cell_of_heap h]; rfl, by rw [Lib.cell_of_heap h]; rfl, by rw [Lib.cell_of_heap h]; rfl, by rw [Lib.cell_of_heap h]; rfl⟩
theorem frozB {w : World} {g : Nat} {a0 a1 a2 a3 a4 : Value} {t : TypeId} (h : w.heap[g]? = some (.cells #[a0, a1, a2, a3, a4] t)) :
    w.frozen? ⟨g, 0, none⟩ = false ∧ w.frozen? ⟨g, 1, none⟩ = false ∧ w.frozen? ⟨g, 2, none⟩ = false ∧ w.frozen? ⟨g, 3, none⟩ = false ∧ w.frozen? ⟨g, 4, none⟩ = false :=
  ⟨Lib.frozen_of_heap h 0, Lib.frozen_of_heap h 1, Lib.frozen_of_heap h 2, Lib.frozen_of_heap h 3, Lib.frozen_of_heap h 4⟩

set_option maxRecDepth 100000 in
set_option maxHeartbeats 6400000 in
theorem takeB_any (l : List UInt8) (v : BW) (l' : List UInt8) (e' : Nat) (h : takeB l = (v, l', e')) (hl : l.length ≤ maxLen) (w : World) (hT : Tabs w) :
    Calls Tryz.prog 78 #[.string (bstr l)] w fun r w' => ∃ lv, r = .returned (.tuple #[.agg #[.string v.stream, .int .i64 v.expect, .int .i64 v.session, .int .i64 v.seq, lv], .string (bstr l'), .int .i64 e']) ∧ IsEvents w'.heap.size w' lv v.events ∧ Below w.heap.size w w' := by
  obtain ⟨⟨t1, l1, e1⟩, h1⟩ : ∃ x, rdName l 0 = x := ⟨_, rfl⟩
  obtain ⟨⟨x, l2, e2⟩, h2⟩ : ∃ x, rdSign l1 e1 = x := ⟨_, rfl⟩
  obtain ⟨⟨y, l3, e3⟩, h3⟩ : ∃ x, rdNum l2 e2 = x := ⟨_, rfl⟩
  obtain ⟨⟨z, l4, e4⟩, h4⟩ : ∃ x, rdNum l3 e3 = x := ⟨_, rfl⟩
  obtain ⟨⟨many, l5, e5⟩, h5⟩ : ∃ x, rdNum l4 e4 = x := ⟨_, rfl⟩
  obtain ⟨e6, h6⟩ : ∃ e6, (if 8 < many then rdNote e5 4 else e5) = e6 := ⟨_, rfl⟩
  obtain ⟨⟨evs, l7, e7⟩, h7⟩ : ∃ x, rdEvents many l5 e6 = x := ⟨_, rfl⟩
  have hraw : rawB l = (⟨bstr t1, x, y, z, evs⟩, l7, e7) := by
    simp only [rawB, h1, h2, h3, h4, h5, h6, h7]
  obtain ⟨c, hc⟩ : ∃ c, fitsB ⟨bstr t1, x, y, z, evs⟩ = c := ⟨_, rfl⟩
  unfold takeB at h
  rw [hraw] at h
  simp only at h
  rw [hc] at h
  have n1 : l1.length ≤ maxLen := by have := rdName_le l 0; rw [h1] at this; exact Nat.le_trans this hl
  have n2 : l2.length ≤ maxLen := by have := rdSign_le l1 e1; rw [h2] at this; exact Nat.le_trans this n1
  have n3 : l3.length ≤ maxLen := by have := rdNum_le l2 e2; rw [h3] at this; exact Nat.le_trans this n2
  have n4 : l4.length ≤ maxLen := by have := rdNum_le l3 e3; rw [h4] at this; exact Nat.le_trans this n3
  have n5 : l5.length ≤ maxLen := by have := rdNum_le l4 e4; rw [h5] at this; exact Nat.le_trans this n4
  have hmany : many ≤ maxNum := by
    have : (rdNum l4 e4).1 ≤ maxNum := by
      unfold rdNum
      split
      · exact Nat.zero_le _
      · exact takeN_le _
    rw [h5] at this
    exact this
  have h8 : e6 = 0 → many ≤ 8 := by
    intro h0
    rw [← h6] at h0
    by_cases hm : 8 < many
    · rw [if_pos hm] at h0
      unfold rdNote at h0
      split at h0 <;> omega
    · omega
  unfold maxNum at hmany
  have hr0 : RdAt (w.heap.size + 1) l 0 ((w.alloc (.cells #[.string ⟨#[]⟩, .int .i64 0, .int .i64 0, .int .i64 0, .slice none 0 0] 28)).alloc (.cells #[.string (bstr l), .int .i64 0] 172)) := heap_alloc2_new w _ _
  have hb0 : Below w.heap.size w ((w.alloc (.cells #[.string ⟨#[]⟩, .int .i64 0, .int .i64 0, .int .i64 0, .slice none 0 0] 28)).alloc (.cells #[.string (bstr l), .int .i64 0] 172)) := ((Below.refl _ _).alloc (Nat.le_refl _) _).alloc (by rw [World.size_alloc]; omega) _
  have hg0 : ((w.alloc (.cells #[.string ⟨#[]⟩, .int .i64 0, .int .i64 0, .int .i64 0, .slice none 0 0] 28)).alloc (.cells #[.string (bstr l), .int .i64 0] 172)).heap[w.heap.size]? = some (.cells #[.string ⟨#[]⟩, .int .i64 0, .int .i64 0, .int .i64 0, .slice none 0 0] 28) := by
    rw [heap_alloc_old _ _ (show w.heap.size < _ by rw [World.size_alloc]; omega)]
    exact heap_alloc_new w _
  have C1 := Lib.hid (rdName_any (w.heap.size + 1) l 0 t1 l1 e1 h1 hl)
  have C2 := Lib.hid (rdSign_any (w.heap.size + 1) l1 e1 x l2 e2 h2 n1)
  have C3 := Lib.hid (rdNum_any (w.heap.size + 1) l2 e2 y l3 e3 h3 n2)
  have C4 := Lib.hid (rdNum_any (w.heap.size + 1) l3 e3 z l4 e4 h4 n3)
  have C5 := Lib.hid (rdNum_any (w.heap.size + 1) l4 e4 many l5 e5 h5 n4)
  have CE := Lib.hid (fun (li : List UInt8) (hli : li.length ≤ maxLen) => rdEvent_any (w.heap.size + 1) li 0 (rdEvent li 0).1 (rdEvent li 0).2.1 (rdEvent li 0).2.2 rfl hli)
  have HW0 := Lib.hid hr0
  have HB0 := Lib.hid hb0
  have HG0 := Lib.hid hg0
  have H6 := Lib.hid h6
  have H7 := Lib.hid h7
  have H8 := Lib.hid h8
  have HC := Lib.hid hc
  have HT := Lib.hid hT
  have HH := Lib.hid h
  have hz0 := hr0.lt
  have N5 := Lib.hid n5
  obtain ⟨i0, hi0, hzz0, hzz1, hzz2⟩ := info_parts Tryz.evinfo
  clear h1 h2 h3 h4 h5 h6 h7 h8 hraw hc h n1 n2 n3 n4 n5 hr0 hb0 hg0 hT
  go_enter Tryz.func78, Tryz.ntmps78
  go_wp2_with fail
  refine (C1.out _ HW0.out).mono ?_
  rintro r w1 ⟨rfl, hw1, g1⟩
  have HW1 := Lib.hid hw1
  have hg1 := gb_heap g1 HG0.out (by omega)
  have HG1 := Lib.hid hg1
  have hb1 := HB0.out.trans (gb_below g1 (Nat.le_succ _) HW0.out.lt)
  have HB1 := Lib.hid hb1
  have hz1 := hw1.lt
  clear hw1 hg1 hb1 g1
  go_wp2_with fail
  refine (C2.out _ HW1.out).mono ?_
  rintro r w2 ⟨rfl, hw2, g2⟩
  have HW2 := Lib.hid hw2
  have hg2 := gb_heap g2 HG1.out (by omega)
  have HG2 := Lib.hid hg2
  have hb2 := HB1.out.trans (gb_below g2 (Nat.le_succ _) HW1.out.lt)
  have HB2 := Lib.hid hb2
  have hz2 := hw2.lt
  clear hw2 hg2 hb2 g2
  go_wp2_with fail
  refine (C3.out _ HW2.out).mono ?_
  rintro r w3 ⟨rfl, hw3, g3⟩
  have HW3 := Lib.hid hw3
  have hg3 := gb_heap g3 HG2.out (by omega)
  have HG3 := Lib.hid hg3
  have hb3 := HB2.out.trans (gb_below g3 (Nat.le_succ _) HW2.out.lt)
  have HB3 := Lib.hid hb3
  have hz3 := hw3.lt
  clear hw3 hg3 hb3 g3
  go_wp2_with fail
  refine (C4.out _ HW3.out).mono ?_
  rintro r w4 ⟨rfl, hw4, g4⟩
  have HW4 := Lib.hid hw4
  have hg4 := gb_heap g4 HG3.out (by omega)
  have HG4 := Lib.hid hg4
  have hb4 := HB3.out.trans (gb_below g4 (Nat.le_succ _) HW3.out.lt)
  have HB4 := Lib.hid hb4
  have hz4 := hw4.lt
  clear hw4 hg4 hb4 g4
  go_wp2_with fail
  have hg : w.heap.size + 1 < w4.heap.size := hz4
  have htb : TB w w4.heap.size (bstr t1) x y z l4 e4 [] (.slice none 0 0) (w4.alloc (.cells #[.string (bstr t1), .int .i64 x, .int .i64 y, .int .i64 z, .slice none 0 0] 28)) :=
    ⟨HB4.out.alloc (by omega) _, (heap_alloc_old _ _ (show w.heap.size < _ by omega)).trans HG4.out, HW4.out.keep ((Below.refl _ _).alloc (Nat.le_refl _) _), heap_alloc_new _ _, World.ownsRow_nil _ _ _ _⟩
  have HTB := Lib.hid htb
  have hg2 := hg
  generalize w4.heap.size = g at hg hg2 HTB ⊢
  clear htb
  refine (C5.out _ HTB.out.rd).mono ?_
  rintro r w5 ⟨rfl, hw5, g5⟩
  have htb := HTB.out.read hg g5 hw5
  have HT5 := Lib.hid htb
  clear htb hw5 g5
  go_upto_if 25 with fail
  go_cut [] (fun wx => TB w g (bstr t1) x y z l5 e6 [] (.slice none 0 0) wx)
  case first => as_aux_lemma =>
    by_cases hm : 8 < many
    · have g8 : (8 : Int) < (many : Int) := by omega
      have hn : rdNote e5 4 = e6 := by rw [← H6.out, if_pos hm]
      have CN := Lib.hid (rdNote_any (w.heap.size + 1) l5 e5 4 e6 hn)
      clear hn
      go_wp2_with fail
      refine (CN.out _ HT5.out.rd).mono ?_
      rintro r w6 ⟨rfl, hw6, g6⟩
      have HT6 := Lib.hid (HT5.out.read hg g6 hw6)
      clear hw6 g6
      go_wp2
      go_meet
      case rel => exact HT6.out
    · have g8 : ¬ (8 : Int) < (many : Int) := by omega
      obtain rfl : e5 = e6 := by rw [← H6.out, if_neg hm]
      go_wp2
      go_meet
      case rel => exact HT5.out
  case rest =>
    have HT6 := Lib.hid hcut
    clear hcut
    go_wp2_with fail
    go_loopw [8, 9] (fun t8 _ wr => ∃ (k : Nat) (es : List EV) (li : List UInt8) (ei : Nat) (rv : Value), k ≤ many ∧ t8 = .int .i64 k ∧ es.length = k ∧ li.length ≤ maxLen ∧ evs = es ++ (rdEvents (many - k) li ei).1 ∧ (l7, e7) = (rdEvents (many - k) li ei).2 ∧ (k < many → ei = 0 → many ≤ 8) ∧ TB w g (bstr t1) x y z li ei es rv wr) (fun t8 _ _ => many - (intOf t8).toNat)
    case atStart => exact ⟨0, [], l5, e6, _, Nat.zero_le _, rfl, rfl, N5.out, by rw [Nat.sub_zero, H7.out]; rfl, by rw [Nat.sub_zero, H7.out], fun _ h => H8.out h, HT6.out⟩
    case round =>
      obtain ⟨k, es, li, ei, rv, hk, rfl, hel, hli, hev, hle, h88, htb⟩ := hrel
      have HTk := Lib.hid htb
      have HEV := Lib.hid hev
      have HLE := Lib.hid hle
      have HEL := Lib.hid hel
      obtain ⟨y0, y1, _, _⟩ := htb.rd.cells
      obtain ⟨c0, c1, c2, c3, c4⟩ := cellsB htb.box
      have hlg : g < wr.heap.size := (Array.getElem?_eq_some_iff.1 htb.box).1
      clear htb hev hle hel
      by_cases hlt : k < many
      · have j1 : (k : Int) < (many : Int) := by omega
        by_cases h0 : ei = 0
        · subst h0
          have hm8 := h88 hlt rfl
          have hke : es.length ≤ 8 := by have := HEL.out; omega
          have hne : g ≠ wr.heap.size := by omega
          go_wp2_with fail
          refine (CE.out li hli _ HTk.out.rd).mono ?_
          rintro r w7 ⟨rfl, hw7, g7⟩
          have ht7 := HTk.out.read hg g7 hw7
          have HT7 := Lib.hid ht7
          clear y0 y1 c0 c1 c2 c3 c4 hlg hw7 g7 hne
          obtain ⟨y0, y1, _, _⟩ := ht7.rd.cells
          obtain ⟨c0, c1, c2, c3, c4⟩ := cellsB ht7.box
          have hlg : g < w7.heap.size := (Array.getElem?_eq_some_iff.1 ht7.box).1
          have hne : g ≠ w7.heap.size := by omega
          have hne2 : w7.heap.size ≠ g := by omega
          have hne3 : g ≠ w7.heap.size + 1 := by omega
          clear ht7
          obtain ⟨ve, hve⟩ : ∃ ve, rdEvent li 0 = ve := ⟨_, rfl⟩
          rw [hve] at HT7 y0 y1
          rw [hve]
          have HVE := Lib.hid hve
          clear hve
          obtain ⟨v1, l8, e8⟩ := ve
          simp only at HT7 y0 y1 ⊢
          have ht7b := HT7.out.keep (((Below.refl _ _).alloc (Nat.le_refl _) (.cells #[.string v1.kind, .string v1.data] 55)).alloc (by rw [World.size_alloc]; omega) (.cells #[.string v1.kind, .string v1.data] 55))
          have HT7b := Lib.hid ht7b
          clear ht7b
          go_wp2_with (at_builtin; refine wpList_append_lies _ rfl _ _ 26 rfl (g + 1) 55 i0 _ 2 32 Tryz.underlying26 hi0 hzz0 hzz1 hzz2 rfl (by omega) _ _ _ rfl HT7b.out.own ⟨w7.heap.size + 1, 0, none⟩ 1 1 [.string v1.kind, .string v1.data] rfl rfl (World.news_of_block (heap_alloc2_new w7 _ _)) (by simp [Value.oneCell']) (by omega) (by unfold maxLen; omega) (by omega) (by simp only [World.size_alloc]; omega) _ rfl ?_; intro gg cap2 w8 hown8 hgrow hat hlt8; have hbx := (hgrow.block g (Array.getElem?_eq_some_iff.1 HT7b.out.box).1 (fun e0 => by have := (HT7b.out.own.lt _ e0.symm).1; omega)).trans HT7b.out.box; have c48 : w8.cell? ⟨g, 4, none⟩ = some rv := (by rw [Lib.cell_of_heap hbx]; rfl); have f48 : w8.frozen? ⟨g, 4, none⟩ = false := Lib.frozen_of_heap hbx 4; have HTG := Lib.hid (HT7b.out.grow hg hgrow hown8); clear hbx hown8 hgrow hat)
          go_roundw
          case rel =>
            have hsp : many - k = (many - (k + 1)) + 1 := by omega
            have h9 := HEV.out
            have h10 := HLE.out
            rw [hsp, rdEvents, if_neg (by simp), HVE.out] at h9 h10
            refine ⟨k + 1, es ++ [v1], l8, e8, _, by omega, by go_num, by rw [List.length_append, HEL.out]; rfl, ?_, ?_, h10, fun _ _ => hm8, HTG.out⟩
            · have := rdEvent_le li 0
              rw [HVE.out] at this
              exact Nat.le_trans this hli
            · rw [List.append_assoc]
              exact h9
          case measure => simp [intOf]; omega
        · have g0 : ((ei : Int) == 0) = false := by simp; omega
          have hx : rdEvents (many - k) li ei = ([], li, ei) := rdEvents_err h0
          have hHE := HEV.out
          have hHL := HLE.out
          rw [hx] at hHE hHL
          simp only [List.append_nil, Prod.mk.injEq] at hHE hHL
          obtain ⟨rfl, rfl⟩ := hHL
          subst hHE
          clear hx HEV HLE h88
          have CF := Lib.hid (fun (X : World) (hX : Below wr.heap.size wr X) => fits_any wr.heap.size (.agg #[.string (bstr t1), .int .i64 x, .int .i64 y, .int .i64 z, rv]) ⟨bstr t1, x, y, z, evs⟩ c HC.out X ⟨rv, rfl, (events_own HTk.out.own (by rw [HEL.out]; unfold maxLen; omega)).keep hX (Nat.le_refl _)⟩ hX.size (tabs_below HT.out (HTk.out.below.trans (hX.mono HTk.out.below.size))))
          go_wp2_with fail
          refine (CF.out _ (Below.refl _ _)).mono ?_
          rintro r w9 ⟨rfl, hb9⟩
          have HT9 := Lib.hid (HTk.out.keep hb9)
          clear hb9
          go_upto_if 50 with fail
          go_cut [] (fun wx => TB w g (bstr t1) x y z l7 (if c = 0 then e7 else rdNote e7 2) evs rv wx)
          case first => as_aux_lemma =>
            by_cases hc0 : c = 0
            · subst hc0
              go_wp2
              go_meet
              case rel => exact HT9.out
            · have gc : ((c : Int) != 0) = true := by simp; omega
              have CN := Lib.hid (rdNote_any (w.heap.size + 1) l7 e7 2 (rdNote e7 2) rfl)
              have HC0 := Lib.hid hc0
              clear hc0
              go_wp2_with fail
              refine (CN.out _ HT9.out.rd).mono ?_
              rintro r w10 ⟨rfl, hw10, g10⟩
              have HT10 := Lib.hid (HT9.out.read hg g10 hw10)
              clear hw10 g10
              go_wp2
              go_meet
              case rel => rw [if_neg HC0.out]; exact HT10.out
          case rest =>
            have HT11 := Lib.hid hcut
            clear hcut y0 y1 c0 c1 c2 c3 c4
            obtain ⟨e9, he9⟩ : ∃ e9, (if c = 0 then e7 else rdNote e7 2) = e9 := ⟨_, rfl⟩
            have hh := HH.out
            rw [he9] at HT11 hh
            clear he9
            obtain ⟨y0, y1, f0, f1⟩ := HT11.out.rd.cells
            obtain ⟨c0, c1, c2, c3, c4⟩ := cellsB HT11.out.box
            obtain ⟨z0, z1, z2, z3, z4⟩ := cellsB HT11.out.res
            obtain ⟨k0, k1, k2, k3, k4⟩ := frozB HT11.out.res
            by_cases h0 : e9 = 0
            · subst h0
              rw [if_neg (by simp)] at hh
              simp only [Prod.mk.injEq] at hh
              obtain ⟨rfl, rfl, rfl⟩ := hh
              obtain ⟨ra, rc, rfl⟩ := (events_own HT11.out.own (by rw [HEL.out]; unfold maxLen; omega)).form
              go_wp2_with fail
              go_region
              go_wp2_with fail
              all_goals (try simp only [Exit.inBlock, Exit.then])
              all_goals
                have hgf := blk_set5 HT11.out.res (.string (bstr t1)) (.int .i64 x) (.int .i64 y) (.int .i64 z) (.slice ra evs.length rc)
                refine bodyPost_ret (ret_cellg rfl _ _ w.heap.size #[.string (bstr t1), .int .i64 x, .int .i64 y, .int .i64 z, .slice ra evs.length rc] _ _ (by rfl) hgf Tryz.underlying28 rfl bsize) rfl ?_
                exact ⟨_, rfl, events_own (own_drew (own_setE (own_setE (own_setE (own_setE (own_setE HT11.out.own w.heap.size 0 (by omega) _) w.heap.size 1 (by omega) _) w.heap.size 2 (by omega) _) w.heap.size 3 (by omega) _) w.heap.size 4 (by omega) _)) (by rw [HEL.out]; unfold maxLen; omega), ((((((HT11.out.below).setCell (p := ⟨w.heap.size, 0, none⟩) (Nat.le_refl _) _).setCell (p := ⟨w.heap.size, 1, none⟩) (Nat.le_refl _) _).setCell (p := ⟨w.heap.size, 2, none⟩) (Nat.le_refl _) _).setCell (p := ⟨w.heap.size, 3, none⟩) (Nat.le_refl _) _).setCell (p := ⟨w.heap.size, 4, none⟩) (Nat.le_refl _) _).drew⟩
            · rw [if_pos h0] at hh
              simp only [Prod.mk.injEq] at hh
              obtain ⟨rfl, rfl, rfl⟩ := hh
              have g9 : ((e9 : Int) != 0) = true := by simp; omega
              go_wp2_with fail
              go_region
              go_wp2_with fail
              all_goals (try simp only [Exit.inBlock, Exit.then])
              all_goals
                have hgf := blk_set5 HT11.out.res (.string ⟨#[]⟩) (.int .i64 0) (.int .i64 0) (.int .i64 0) (.slice none 0 0)
                refine bodyPost_ret (ret_cellg rfl _ _ w.heap.size #[.string ⟨#[]⟩, .int .i64 0, .int .i64 0, .int .i64 0, .slice none 0 0] _ _ (by rfl) hgf Tryz.underlying28 rfl bsize) rfl ?_
                exact ⟨.slice none 0 0, rfl, events_nil _ _, ((((((HT11.out.below).setCell (p := ⟨w.heap.size, 0, none⟩) (Nat.le_refl _) _).setCell (p := ⟨w.heap.size, 1, none⟩) (Nat.le_refl _) _).setCell (p := ⟨w.heap.size, 2, none⟩) (Nat.le_refl _) _).setCell (p := ⟨w.heap.size, 3, none⟩) (Nat.le_refl _) _).setCell (p := ⟨w.heap.size, 4, none⟩) (Nat.le_refl _) _).drew⟩
      · have j1 : ¬ (k : Int) < (many : Int) := by omega
        have hx : rdEvents (many - k) li ei = ([], li, ei) := by rw [show many - k = 0 by omega]; rfl
        have hHE := HEV.out
        have hHL := HLE.out
        rw [hx] at hHE hHL
        simp only [List.append_nil, Prod.mk.injEq] at hHE hHL
        obtain ⟨rfl, rfl⟩ := hHL
        subst hHE
        clear hx HEV HLE h88
        have CF := Lib.hid (fun (X : World) (hX : Below wr.heap.size wr X) => fits_any wr.heap.size (.agg #[.string (bstr t1), .int .i64 x, .int .i64 y, .int .i64 z, rv]) ⟨bstr t1, x, y, z, evs⟩ c HC.out X ⟨rv, rfl, (events_own HTk.out.own (by rw [HEL.out]; unfold maxLen; omega)).keep hX (Nat.le_refl _)⟩ hX.size (tabs_below HT.out (HTk.out.below.trans (hX.mono HTk.out.below.size))))
        go_wp2_with fail
        refine (CF.out _ (Below.refl _ _)).mono ?_
        rintro r w9 ⟨rfl, hb9⟩
        have HT9 := Lib.hid (HTk.out.keep hb9)
        clear hb9
        go_upto_if 50 with fail
        go_cut [] (fun wx => TB w g (bstr t1) x y z l7 (if c = 0 then e7 else rdNote e7 2) evs rv wx)
        case first => as_aux_lemma =>
          by_cases hc0 : c = 0
          · subst hc0
            go_wp2
            go_meet
            case rel => exact HT9.out
          · have gc : ((c : Int) != 0) = true := by simp; omega
            have CN := Lib.hid (rdNote_any (w.heap.size + 1) l7 e7 2 (rdNote e7 2) rfl)
            have HC0 := Lib.hid hc0
            clear hc0
            go_wp2_with fail
            refine (CN.out _ HT9.out.rd).mono ?_
            rintro r w10 ⟨rfl, hw10, g10⟩
            have HT10 := Lib.hid (HT9.out.read hg g10 hw10)
            clear hw10 g10
            go_wp2
            go_meet
            case rel => rw [if_neg HC0.out]; exact HT10.out
        case rest =>
          have HT11 := Lib.hid hcut
          clear hcut y0 y1 c0 c1 c2 c3 c4
          obtain ⟨e9, he9⟩ : ∃ e9, (if c = 0 then e7 else rdNote e7 2) = e9 := ⟨_, rfl⟩
          have hh := HH.out
          rw [he9] at HT11 hh
          clear he9
          obtain ⟨y0, y1, f0, f1⟩ := HT11.out.rd.cells
          obtain ⟨c0, c1, c2, c3, c4⟩ := cellsB HT11.out.box
          obtain ⟨z0, z1, z2, z3, z4⟩ := cellsB HT11.out.res
          obtain ⟨k0, k1, k2, k3, k4⟩ := frozB HT11.out.res
          by_cases h0 : e9 = 0
          · subst h0
            rw [if_neg (by simp)] at hh
            simp only [Prod.mk.injEq] at hh
            obtain ⟨rfl, rfl, rfl⟩ := hh
            obtain ⟨ra, rc, rfl⟩ := (events_own HT11.out.own (by rw [HEL.out]; unfold maxLen; omega)).form
            go_wp2_with fail
            go_region
            go_wp2_with fail
            all_goals (try simp only [Exit.inBlock, Exit.then])
            all_goals
              have hgf := blk_set5 HT11.out.res (.string (bstr t1)) (.int .i64 x) (.int .i64 y) (.int .i64 z) (.slice ra evs.length rc)
              refine bodyPost_ret (ret_cellg rfl _ _ w.heap.size #[.string (bstr t1), .int .i64 x, .int .i64 y, .int .i64 z, .slice ra evs.length rc] _ _ (by rfl) hgf Tryz.underlying28 rfl bsize) rfl ?_
              exact ⟨_, rfl, events_own (own_drew (own_setE (own_setE (own_setE (own_setE (own_setE HT11.out.own w.heap.size 0 (by omega) _) w.heap.size 1 (by omega) _) w.heap.size 2 (by omega) _) w.heap.size 3 (by omega) _) w.heap.size 4 (by omega) _)) (by rw [HEL.out]; unfold maxLen; omega), ((((((HT11.out.below).setCell (p := ⟨w.heap.size, 0, none⟩) (Nat.le_refl _) _).setCell (p := ⟨w.heap.size, 1, none⟩) (Nat.le_refl _) _).setCell (p := ⟨w.heap.size, 2, none⟩) (Nat.le_refl _) _).setCell (p := ⟨w.heap.size, 3, none⟩) (Nat.le_refl _) _).setCell (p := ⟨w.heap.size, 4, none⟩) (Nat.le_refl _) _).drew⟩
          · rw [if_pos h0] at hh
            simp only [Prod.mk.injEq] at hh
            obtain ⟨rfl, rfl, rfl⟩ := hh
            have g9 : ((e9 : Int) != 0) = true := by simp; omega
            go_wp2_with fail
            go_region
            go_wp2_with fail
            all_goals (try simp only [Exit.inBlock, Exit.then])
            all_goals
              have hgf := blk_set5 HT11.out.res (.string ⟨#[]⟩) (.int .i64 0) (.int .i64 0) (.int .i64 0) (.slice none 0 0)
              refine bodyPost_ret (ret_cellg rfl _ _ w.heap.size #[.string ⟨#[]⟩, .int .i64 0, .int .i64 0, .int .i64 0, .slice none 0 0] _ _ (by rfl) hgf Tryz.underlying28 rfl bsize) rfl ?_
              exact ⟨.slice none 0 0, rfl, events_nil _ _, ((((((HT11.out.below).setCell (p := ⟨w.heap.size, 0, none⟩) (Nat.le_refl _) _).setCell (p := ⟨w.heap.size, 1, none⟩) (Nat.le_refl _) _).setCell (p := ⟨w.heap.size, 2, none⟩) (Nat.le_refl _) _).setCell (p := ⟨w.heap.size, 3, none⟩) (Nat.le_refl _) _).setCell (p := ⟨w.heap.size, 4, none⟩) (Nat.le_refl _) _).drew⟩
end Go.Proofs.YtflojipkgaocnaaGreatDoor
