/-
  The walks of event.reader's event and of event.Take. Printed by gen_evtakee.py of this claim's writer.
-/
import Derived.Test.YtflojipkgaocnaaGreatDoorEvRead
import Derived.RegionTactic
import Derived.Laws.ResultCell
namespace Go.Proofs.YtflojipkgaocnaaGreatDoor
open Go.RowKit

theorem blk_set {w : World} {g : Nat} {cs : Array Value} {t : TypeId} {fr : Nat × Nat} (h : w.heap[g]? = some (.cells cs t fr)) (o : Nat) (x : Value) : (w.setCell ⟨g, o, none⟩ x).heap[g]? = some (.cells (cs.setIfInBounds o x) t fr) := by
  simp [World.setCell, Array.getElem?_modify, h]
/-- What comes back, where the one result is a cell of two that has just been stored. -/
theorem ret_row2 {P : Program} {fn : Func} {p : Tmp} {ty t : TypeId} (h : fn.results = #[.cell p ty]) (tmps : Array Value) (w : World) (g : Nat) (z0 z1 v0 v1 : Value) (fr : Nat × Nat) (d : TypeDesc)
    (hp : tmps.getD p undef = .pointer (some ⟨g, 0, none⟩)) (hg : w.heap[g]? = some (.cells #[z0, z1] t fr))
    (hu : P.underlying ty = some d) (hd : (match d with | .struct _ | .array _ _ => true | _ => false) = true) (hi : (P.info? ty).map (·.size) = some 2) :
    (results fn tmps).run P ((w.setCell ⟨g, 0, none⟩ v0).setCell ⟨g, 1, none⟩ v1) = .ok (.agg #[v0, v1]) ((w.setCell ⟨g, 0, none⟩ v0).setCell ⟨g, 1, none⟩ v1) := by
  have hb := blk_set (blk_set hg 0 v0) 1 v1
  exact results_cell_row (P := P) h tmps _ g t _ fr d hp hb hu hd (by rw [hi]; simp)
theorem results_cell_tmp2 {fn : Func} {p u x : Tmp} {ty : TypeId} (h : fn.results = #[.cell p ty, .tmp u, .tmp x]) (tmps : Array Value) (P : Program) (w : World) :
    (results fn tmps).run P w =
      ((asAddr (tmps.getD p undef)).run P w).andThen fun a w₁ => ((loadVar ty a).run P w₁).andThen fun v w₂ => .ok (.tuple #[v, tmps.getD u undef, tmps.getD x undef]) w₂ := by
  simp only [results, h]
  simp [Sem.run_bind, Result.andThen]
theorem ret_cellg {P : Program} {fn : Func} {p u x : Tmp} {ty t : TypeId} (h : fn.results = #[.cell p ty, .tmp u, .tmp x]) (tmps : Array Value) (w : World) (g : Nat) (cs : Array Value) (fr : Nat × Nat) (d : TypeDesc)
    (hp : tmps.getD p undef = .pointer (some ⟨g, 0, none⟩)) (hg : w.heap[g]? = some (.cells cs t fr))
    (hu : P.underlying ty = some d) (hd : (match d with | .struct _ | .array _ _ => true | _ => false) = true) (hi : (P.info? ty).map (·.size) = some cs.size) :
    (results fn tmps).run P w = .ok (.tuple #[.agg cs, tmps.getD u undef, tmps.getD x undef]) w := by
  rw [results_cell_tmp2 h, hp]
  simp only [asAddr, Sem.run_pure, Result.andThen_ok]
  rw [run_loadVar_row _ g t ty _ fr d hg hu hd hi]
  simp

theorem evsize : (Tryz.prog.info? 55).map (·.size) = some 2 := by kernel_rfl

def rdEvent (l : List UInt8) (e : Nat) : EV × List UInt8 × Nat :=
  (⟨bstr (rdName l e).1, bstr (rdName (rdName l e).2.1 (rdName l e).2.2).1⟩, (rdName (rdName l e).2.1 (rdName l e).2.2).2.1, (rdName (rdName l e).2.1 (rdName l e).2.2).2.2)
theorem rdName_le (l : List UInt8) (e : Nat) : (rdName l e).2.1.length ≤ l.length := by
  unfold rdName
  split
  · exact Nat.le_refl _
  · have h := takeN_rest_le l
    unfold takeT
    split
    · simp
    · split
      · simp
      · split
        · simp
        · simp only [List.length_drop]
          omega
theorem rdNum_le (l : List UInt8) (e : Nat) : (rdNum l e).2.1.length ≤ l.length := by
  unfold rdNum
  split
  · exact Nat.le_refl _
  · exact takeN_rest_le l
theorem rdSign_le (l : List UInt8) (e : Nat) : (rdSign l e).2.1.length ≤ l.length := by
  unfold rdSign
  split
  · exact Nat.le_refl _
  · exact takeN_rest_le l
theorem rdEvent_le (l : List UInt8) (e : Nat) : (rdEvent l e).2.1.length ≤ l.length := Nat.le_trans (rdName_le _ _) (rdName_le _ _)

/-- What was there ahead of w0 stands, but for the reader. -/
theorem gb_step {a w w' : World} {rb : Nat} (h : a.grownBy w (some rb)) (k : w.grownBy w' (some rb)) : a.grownBy w' (some rb) := h.trans k
theorem gb_new {a w : World} {rb b : Nat} (h : a.grownBy w (some rb)) (hb : a.heap.size ≤ b) (o : Nat) (v : Value) : a.grownBy (w.setCell ⟨b, o, none⟩ v) (some rb) :=
  h.andThen (gb_set w b o v) (fun j hj => by injection hj with hj; subst hj; exact .inl hb)
theorem gb_alloc {a w : World} {rb : Nat} (h : a.grownBy w (some rb)) (o : Obj) : a.grownBy (w.alloc o) (some rb) := h.trans (gb_of ((Below.refl _ _).alloc (Nat.le_refl _) o) _)

set_option maxRecDepth 100000 in
set_option maxHeartbeats 1600000 in
theorem rdEvent_any (rb : Nat) (l : List UInt8) (e : Nat) (v : EV) (l' : List UInt8) (e' : Nat) (h : rdEvent l e = (v, l', e')) (hl : l.length ≤ maxLen) (w : World) (hw : RdAt rb l e w) :
    Calls Tryz.prog 90 #[.pointer (some ⟨rb, 0, none⟩)] w fun r w' => r = .returned (.agg #[.string v.kind, .string v.data]) ∧ RdAt rb l' e' w' ∧ w.grownBy w' (some rb) := by
  obtain ⟨⟨t1, l1, e1⟩, h1⟩ : ∃ x, rdName l e = x := ⟨_, rfl⟩
  obtain ⟨⟨t2, l2, e2⟩, h2⟩ : ∃ x, rdName l1 e1 = x := ⟨_, rfl⟩
  have hl1 : l1.length ≤ maxLen := by have := rdName_le l e; rw [h1] at this; exact Nat.le_trans this hl
  unfold rdEvent at h
  rw [h1] at h
  simp only at h
  rw [h2] at h
  simp only [Prod.mk.injEq] at h
  obtain ⟨rfl, rfl, rfl⟩ := h
  have hlt := hw.lt
  have C1 := Lib.hid (rdName_any rb l e t1 l1 e1 h1 hl)
  have C2 := Lib.hid (rdName_any rb l1 e1 t2 l2 e2 h2 hl1)
  have HW := Lib.hid (hw.keep ((Below.refl _ _).alloc (Nat.le_refl _) (.cells #[.string ByteArray.empty, .string ByteArray.empty] 55)))
  clear hw h1 h2 hl hl1
  go_enter Tryz.func90, Tryz.ntmps90
  go_wp2_with fail
  refine (C1.out _ HW.out).mono ?_
  rintro r w1 ⟨rfl, hw1, g1⟩
  have HW1 := Lib.hid hw1
  clear hw1
  go_wp2_with fail
  refine (C2.out _ HW1.out).mono ?_
  rintro r w2 ⟨rfl, hw2, g2⟩
  have HW2 := Lib.hid hw2
  clear hw2
  have gg := gb_heap g2 (gb_heap g1 (heap_alloc_new w (.cells #[.string ByteArray.empty, .string ByteArray.empty] 55)) (by omega)) (by omega)
  have c0 : w2.cell? ⟨w.heap.size, 0, none⟩ = some (.string ByteArray.empty) := by rw [Lib.cell_of_heap gg]; rfl
  have c1 : w2.cell? ⟨w.heap.size, 1, none⟩ = some (.string ByteArray.empty) := by rw [Lib.cell_of_heap gg]; rfl
  have f0 : w2.frozen? ⟨w.heap.size, 0, none⟩ = false := Lib.frozen_of_heap gg 0
  have f1 : w2.frozen? ⟨w.heap.size, 1, none⟩ = false := Lib.frozen_of_heap gg 1
  have GG := Lib.hid gg
  have GW : w.grownBy w2 (some rb) := gb_step (gb_alloc (World.grownBy.refl _ _) _) (g1.trans g2)
  clear gg
  go_wp2_with fail
  (try simp only [Exit.inBlock, Exit.then])
  refine bodyPost_ret (ret_row2 rfl _ _ _ _ _ _ _ _ _ (by rfl) GG.out Tryz.underlying55 rfl evsize) rfl ?_
  refine ⟨rfl, ?_, gb_new (gb_new GW (Nat.le_refl _) _ _) (Nat.le_refl _) _ _⟩
  exact gb_heap (gb_set _ _ _ _) (gb_heap (gb_set _ _ _ _) HW2.out (by omega)) (by omega)

/-- Take. -/
def takeE (l : List UInt8) : EV × List UInt8 × Nat :=
  if (if rightE (rdEvent l 0).1 = true then (rdEvent l 0).2.2 else rdNote (rdEvent l 0).2.2 2) ≠ 0 then (⟨⟨#[]⟩, ⟨#[]⟩⟩, [], if rightE (rdEvent l 0).1 = true then (rdEvent l 0).2.2 else rdNote (rdEvent l 0).2.2 2) else (rdEvent l 0).1 |> fun v => (v, (rdEvent l 0).2.1, 0)

set_option maxRecDepth 100000 in
set_option maxHeartbeats 3200000 in
theorem takeE_any (l : List UInt8) (v : EV) (l' : List UInt8) (e' : Nat) (h : takeE l = (v, l', e')) (hl : l.length ≤ maxLen) (w : World) (hT : Tabs w) :
    Calls Tryz.prog 80 #[.string (bstr l)] w fun r w' => r = .returned (.tuple #[.agg #[.string v.kind, .string v.data], .string (bstr l'), .int .i64 e']) ∧ Below w.heap.size w w' := by
  obtain ⟨⟨x, l1, e1⟩, h1⟩ : ∃ x, rdEvent l 0 = x := ⟨_, rfl⟩
  obtain ⟨q, hq⟩ : ∃ q, rightE x = q := ⟨_, rfl⟩
  unfold takeE at h
  rw [h1] at h
  simp only at h
  rw [hq] at h
  have hr0 : RdAt (w.heap.size + 1) l 0 ((w.alloc (.cells #[.string ByteArray.empty, .string ByteArray.empty] 55)).alloc (.cells #[.string (bstr l), .int .i64 0] 172)) := heap_alloc2_new w _ _
  have hb0 : Below w.heap.size w ((w.alloc (.cells #[.string ByteArray.empty, .string ByteArray.empty] 55)).alloc (.cells #[.string (bstr l), .int .i64 0] 172)) := ((Below.refl _ _).alloc (Nat.le_refl _) _).alloc (by rw [World.size_alloc]; omega) _
  have hg0 : ((w.alloc (.cells #[.string ByteArray.empty, .string ByteArray.empty] 55)).alloc (.cells #[.string (bstr l), .int .i64 0] 172)).heap[w.heap.size]? = some (.cells #[.string ByteArray.empty, .string ByteArray.empty] 55) := by
    rw [heap_alloc_old _ _ (show w.heap.size < _ by rw [World.size_alloc]; omega)]
    exact heap_alloc_new w _
  have C1 := Lib.hid (rdEvent_any (w.heap.size + 1) l 0 x l1 e1 h1 hl)
  have CR := Lib.hid (fun (X : World) (hX : Below w.heap.size w X) => right_any x q hq X (tabs_below hT hX))
  have HR0 := Lib.hid hr0
  have HB0 := Lib.hid hb0
  have HG0 := Lib.hid hg0
  have hz := hr0.lt
  clear h1 hq hr0 hb0 hg0 hT
  cases q with
  | false =>
    obtain ⟨e2, h2⟩ : ∃ e2, rdNote e1 2 = e2 := ⟨_, rfl⟩
    have hne : e2 ≠ 0 := by rw [← h2]; unfold rdNote; split <;> omega
    simp only [Bool.false_eq_true, if_false] at h
    rw [h2, if_pos hne] at h
    simp only [Prod.mk.injEq] at h
    obtain ⟨rfl, rfl, rfl⟩ := h
    have C2 := Lib.hid (rdNote_any (w.heap.size + 1) l1 e1 2 e2 h2)
    have g2 : ((e2 : Int) != 0) = true := by simp; omega
    clear h2
    go_enter Tryz.func80, Tryz.ntmps80
    go_wp2_with fail
    refine (C1.out _ HR0.out).mono ?_
    rintro r w1 ⟨rfl, hw1, g1⟩
    have HW1 := Lib.hid hw1
    have hb1 : Below w.heap.size w w1 := HB0.out.trans (gb_below g1 (by omega) hz)
    have hg1 := gb_heap g1 HG0.out (by omega)
    have HG1 := Lib.hid hg1
    have hlt1 := hw1.lt
    clear hw1 hg1 g1
    go_wp2_with fail
    refine (CR.out _ (hb1.alloc (by omega) _)).mono ?_
    rintro r w2 ⟨rfl, hb2⟩
    have hw2 := (HW1.out.keep ((Below.refl _ _).alloc (Nat.le_refl _) (.cells #[.string x.kind, .string x.data] 55))).keep hb2
    have hg2 := (hb2.block w.heap.size (by rw [World.size_alloc]; omega)).trans ((heap_alloc_old w1 (.cells #[.string x.kind, .string x.data] 55) (show w.heap.size < w1.heap.size by omega)).trans HG1.out)
    have hbb2 : Below w.heap.size w w2 := (hb1.alloc (by omega) _).trans (hb2.mono (by rw [World.size_alloc]; omega))
    have HW2 := Lib.hid hw2
    have HG2 := Lib.hid hg2
    clear hw2 hg2 hb2
    go_wp2_with fail
    refine (C2.out _ HW2.out).mono ?_
    rintro r w3 ⟨rfl, hw3, g3⟩
    have hbb3 : Below w.heap.size w w3 := hbb2.trans (gb_below g3 (by omega) HW2.out.lt)
    have hg3 := gb_heap g3 HG2.out (by omega)
    have HG3 := Lib.hid hg3
    obtain ⟨y0, y1, f0, f1⟩ := hw3.cells
    have c0 : w3.cell? ⟨w.heap.size, 0, none⟩ = some (.string ByteArray.empty) := by rw [Lib.cell_of_heap hg3]; rfl
    have c1 : w3.cell? ⟨w.heap.size, 1, none⟩ = some (.string ByteArray.empty) := by rw [Lib.cell_of_heap hg3]; rfl
    have k0 : w3.frozen? ⟨w.heap.size, 0, none⟩ = false := Lib.frozen_of_heap hg3 0
    have k1 : w3.frozen? ⟨w.heap.size, 1, none⟩ = false := Lib.frozen_of_heap hg3 1
    clear hg3 hw3 g3
    go_wp2_with fail
    go_region
    go_wp2_with fail
    all_goals (try simp only [Exit.inBlock, Exit.then])
    all_goals
      have hgf := blk_set (blk_set HG3.out 0 (.string ⟨#[]⟩)) 1 (.string ⟨#[]⟩)
      refine bodyPost_ret (ret_cellg rfl _ _ w.heap.size #[(.string ⟨#[]⟩), (.string ⟨#[]⟩)] _ _ (by rfl) hgf Tryz.underlying55 rfl evsize) rfl ?_
      exact ⟨rfl, ((hbb3.setCell (p := ⟨w.heap.size, 0, none⟩) (Nat.le_refl _) _).setCell (p := ⟨w.heap.size, 1, none⟩) (Nat.le_refl _) _).drew⟩
  | true =>
    simp only [if_true] at h
    by_cases h0 : e1 = 0
    · subst h0
      rw [if_neg (by simp)] at h
      simp only [Prod.mk.injEq] at h
      obtain ⟨rfl, rfl, rfl⟩ := h
      go_enter Tryz.func80, Tryz.ntmps80
      go_wp2_with fail
      refine (C1.out _ HR0.out).mono ?_
      rintro r w1 ⟨rfl, hw1, g1⟩
      have HW1 := Lib.hid hw1
      have hb1 : Below w.heap.size w w1 := HB0.out.trans (gb_below g1 (by omega) hz)
      have hg1 := gb_heap g1 HG0.out (by omega)
      have HG1 := Lib.hid hg1
      have hlt1 := hw1.lt
      clear hw1 hg1 g1
      go_wp2_with fail
      refine (CR.out _ (hb1.alloc (by omega) _)).mono ?_
      rintro r w2 ⟨rfl, hb2⟩
      have hw2 := (HW1.out.keep ((Below.refl _ _).alloc (Nat.le_refl _) (.cells #[.string x.kind, .string x.data] 55))).keep hb2
      have hg2 := (hb2.block w.heap.size (by rw [World.size_alloc]; omega)).trans ((heap_alloc_old w1 (.cells #[.string x.kind, .string x.data] 55) (show w.heap.size < w1.heap.size by omega)).trans HG1.out)
      have hbb2 : Below w.heap.size w w2 := (hb1.alloc (by omega) _).trans (hb2.mono (by rw [World.size_alloc]; omega))
      have HW2 := Lib.hid hw2
      have HG2 := Lib.hid hg2
      clear hw2 hg2
      have u0 := (hb2.cell (p := ⟨w1.heap.size, 0, none⟩) (by simp)).trans (show _ = some (.string x.kind) by simp)
      have u1 := (hb2.cell (p := ⟨w1.heap.size, 1, none⟩) (by simp)).trans (show _ = some (.string x.data) by simp)
      clear hb2
      have hw3 := HW2.out
      have hbb3 := hbb2
      have hg3 := HG2.out
      have HG3 := Lib.hid hg3
      obtain ⟨y0, y1, f0, f1⟩ := hw3.cells
      have c0 : w2.cell? ⟨w.heap.size, 0, none⟩ = some (.string ByteArray.empty) := by rw [Lib.cell_of_heap hg3]; rfl
      have c1 : w2.cell? ⟨w.heap.size, 1, none⟩ = some (.string ByteArray.empty) := by rw [Lib.cell_of_heap hg3]; rfl
      have k0 : w2.frozen? ⟨w.heap.size, 0, none⟩ = false := Lib.frozen_of_heap hg3 0
      have k1 : w2.frozen? ⟨w.heap.size, 1, none⟩ = false := Lib.frozen_of_heap hg3 1
      clear hg3 hw3
      go_wp2_with fail
      go_region
      go_wp2_with fail
      all_goals (try simp only [Exit.inBlock, Exit.then])
      all_goals
        have hgf := blk_set (blk_set HG3.out 0 (.string x.kind)) 1 (.string x.data)
        refine bodyPost_ret (ret_cellg rfl _ _ w.heap.size #[.string x.kind, .string x.data] _ _ (by rfl) hgf Tryz.underlying55 rfl evsize) rfl ?_
        exact ⟨rfl, ((hbb3.setCell (p := ⟨w.heap.size, 0, none⟩) (Nat.le_refl _) _).setCell (p := ⟨w.heap.size, 1, none⟩) (Nat.le_refl _) _).drew⟩
    · rw [if_pos h0] at h
      simp only [Prod.mk.injEq] at h
      obtain ⟨rfl, rfl, rfl⟩ := h
      have g2 : ((e1 : Int) != 0) = true := by simp; omega
      go_enter Tryz.func80, Tryz.ntmps80
      go_wp2_with fail
      refine (C1.out _ HR0.out).mono ?_
      rintro r w1 ⟨rfl, hw1, g1⟩
      have HW1 := Lib.hid hw1
      have hb1 : Below w.heap.size w w1 := HB0.out.trans (gb_below g1 (by omega) hz)
      have hg1 := gb_heap g1 HG0.out (by omega)
      have HG1 := Lib.hid hg1
      have hlt1 := hw1.lt
      clear hw1 hg1 g1
      go_wp2_with fail
      refine (CR.out _ (hb1.alloc (by omega) _)).mono ?_
      rintro r w2 ⟨rfl, hb2⟩
      have hw2 := (HW1.out.keep ((Below.refl _ _).alloc (Nat.le_refl _) (.cells #[.string x.kind, .string x.data] 55))).keep hb2
      have hg2 := (hb2.block w.heap.size (by rw [World.size_alloc]; omega)).trans ((heap_alloc_old w1 (.cells #[.string x.kind, .string x.data] 55) (show w.heap.size < w1.heap.size by omega)).trans HG1.out)
      have hbb2 : Below w.heap.size w w2 := (hb1.alloc (by omega) _).trans (hb2.mono (by rw [World.size_alloc]; omega))
      have HW2 := Lib.hid hw2
      have HG2 := Lib.hid hg2
      clear hw2 hg2
      clear hb2
      have hw3 := HW2.out
      have hbb3 := hbb2
      have hg3 := HG2.out
      have HG3 := Lib.hid hg3
      obtain ⟨y0, y1, f0, f1⟩ := hw3.cells
      have c0 : w2.cell? ⟨w.heap.size, 0, none⟩ = some (.string ByteArray.empty) := by rw [Lib.cell_of_heap hg3]; rfl
      have c1 : w2.cell? ⟨w.heap.size, 1, none⟩ = some (.string ByteArray.empty) := by rw [Lib.cell_of_heap hg3]; rfl
      have k0 : w2.frozen? ⟨w.heap.size, 0, none⟩ = false := Lib.frozen_of_heap hg3 0
      have k1 : w2.frozen? ⟨w.heap.size, 1, none⟩ = false := Lib.frozen_of_heap hg3 1
      clear hg3 hw3
      go_wp2_with fail
      go_region
      go_wp2_with fail
      all_goals (try simp only [Exit.inBlock, Exit.then])
      all_goals
        have hgf := blk_set (blk_set HG3.out 0 (.string ⟨#[]⟩)) 1 (.string ⟨#[]⟩)
        refine bodyPost_ret (ret_cellg rfl _ _ w.heap.size #[(.string ⟨#[]⟩), (.string ⟨#[]⟩)] _ _ (by rfl) hgf Tryz.underlying55 rfl evsize) rfl ?_
        exact ⟨rfl, ((hbb3.setCell (p := ⟨w.heap.size, 0, none⟩) (Nat.le_refl _) _).setCell (p := ⟨w.heap.size, 1, none⟩) (Nat.le_refl _) _).drew⟩
end Go.Proofs.YtflojipkgaocnaaGreatDoor
