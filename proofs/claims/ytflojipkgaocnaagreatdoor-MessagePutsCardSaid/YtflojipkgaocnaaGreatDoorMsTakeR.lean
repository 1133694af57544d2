/-
  The walks of record.Take and record.TakeRow. Printed by gen_mstaker.py of this claim's writer.
-/
import Derived.Test.YtflojipkgaocnaaGreatDoorMsTakeB
import Derived.Test.YtflojipkgaocnaaGreatDoorMsRec
import Derived.Deep.AppendLies
namespace Go.Proofs.YtflojipkgaocnaaGreatDoor
open Go.RowKit
set_option linter.unusedSimpArgs false
set_option linter.unusedVariables false

theorem ensize : (Tryz.prog.info? 53).map (·.size) = some 7 := by kernel_rfl
theorem Tryz.eninfo : (Tryz.prog.info? 53).map (fun i => (i.zero, i.size, i.bytes)) = some (some (.agg #[.int .i64 0, .int .i64 0, .string ByteArray.empty, .int .i64 0, .int .i64 0, .int .i64 0, .slice none 0 0]), 7, 80) := by kernel_rfl
theorem blk_set7 {w : World} {g : Nat} {a0 a1 a2 a3 a4 a5 a6 : Value} {t : TypeId} {fr : Nat × Nat} (h : w.heap[g]? = some (.cells #[a0, a1, a2, a3, a4, a5, a6] t fr)) (v0 v1 v2 v3 v4 v5 v6 : Value) :
    (((((((w.setCell ⟨g, 0, none⟩ v0).setCell ⟨g, 1, none⟩ v1).setCell ⟨g, 2, none⟩ v2).setCell ⟨g, 3, none⟩ v3).setCell ⟨g, 4, none⟩ v4).setCell ⟨g, 5, none⟩ v5).setCell ⟨g, 6, none⟩ v6).heap[g]? = some (.cells #[v0, v1, v2, v3, v4, v5, v6] t fr) := by
  have h1 := blk_set (blk_set (blk_set (blk_set (blk_set (blk_set (blk_set h 0 v0) 1 v1) 2 v2) 3 v3) 4 v4) 5 v5) 6 v6
  simp only [List.setIfInBounds_toArray, List.set_cons_zero, List.set_cons_succ] at h1
  exact h1
theorem below_set7 {w W : World} {B g : Nat} (h : Below B w W) (hg : B ≤ g) (v0 v1 v2 v3 v4 v5 v6 : Value) :
    Below B w (((((((W.setCell ⟨g, 0, none⟩ v0).setCell ⟨g, 1, none⟩ v1).setCell ⟨g, 2, none⟩ v2).setCell ⟨g, 3, none⟩ v3).setCell ⟨g, 4, none⟩ v4).setCell ⟨g, 5, none⟩ v5).setCell ⟨g, 6, none⟩ v6) :=
  ((((((h.setCell (p := ⟨g, 0, none⟩) hg _).setCell (p := ⟨g, 1, none⟩) hg _).setCell (p := ⟨g, 2, none⟩) hg _).setCell (p := ⟨g, 3, none⟩) hg _).setCell (p := ⟨g, 4, none⟩) hg _).setCell (p := ⟨g, 5, none⟩) hg _).setCell (p := ⟨g, 6, none⟩) hg _
theorem own_set7 {w : World} {base g : Nat} {e : TypeId} {size n : Nat} {v : Value} {xs : List Value} (h : w.ownsRow base e size v n xs) (hg : g < base) (v0 v1 v2 v3 v4 v5 v6 : Value) :
    (((((((w.setCell ⟨g, 0, none⟩ v0).setCell ⟨g, 1, none⟩ v1).setCell ⟨g, 2, none⟩ v2).setCell ⟨g, 3, none⟩ v3).setCell ⟨g, 4, none⟩ v4).setCell ⟨g, 5, none⟩ v5).setCell ⟨g, 6, none⟩ v6).ownsRow base e size v n xs :=
  own_setE (own_setE (own_setE (own_setE (own_setE (own_setE (own_setE h g 0 hg _) g 1 hg _) g 2 hg _) g 3 hg _) g 4 hg _) g 5 hg _) g 6 hg _
theorem own_len {w : World} {base : Nat} {e : TypeId} {v : Value} {n : Nat} {xs : List Value} {sz : Nat} (h : w.ownsRow base e sz v n xs) : n ≤ maxLen := by
  rcases h.2 with ⟨rfl, h0⟩ | ⟨g, cap, cur, rfl, _, _, h1, h2, _⟩
  · rw [h0]; exact Nat.zero_le _
  · exact Nat.le_trans h1 h2
theorem own_form {w : World} {base : Nat} {e : TypeId} {size n : Nat} {v : Value} {xs : List Value} (h : w.ownsRow base e size v n xs) : ∃ a c, v = .slice a n c := by
  rcases h.2 with ⟨rfl, h0⟩ | ⟨g, cap, cur, rfl, _⟩
  · exact ⟨none, 0, by rw [h0]⟩
  · exact ⟨_, cap, rfl⟩
theorem rdB_own (l : List UInt8) (v : BW) (l' : List UInt8) (e' : Nat) (h : takeB l = (v, l', e')) (hl : l.length ≤ maxLen) (w : World) (hT : Tabs w) :
    Calls Tryz.prog 78 #[.string (bstr l)] w fun r w' => ∃ a c, r = .returned (.tuple #[.agg #[.string v.stream, .int .i64 v.expect, .int .i64 v.session, .int .i64 v.seq, .slice a v.events.length c], .string (bstr l'), .int .i64 e']) ∧ w'.ownsRow w.heap.size 55 2 (.slice a v.events.length c) v.events.length (ecells v.events) ∧ Below w.heap.size w w' := by
  refine (takeB_own l v l' e' h hl w hT).mono ?_
  rintro r w' ⟨lv, rfl, h1, h2⟩
  obtain ⟨a, c, rfl⟩ := own_form h1
  exact ⟨a, c, rfl, h1, h2⟩
theorem rawR_err1 {l : List UInt8} {n1 e1 : Nat} {l1 : List UInt8} (h1 : takeN l = (n1, l1, e1)) (h0 : e1 ≠ 0) : takeR l = (zeroEN, [], e1) := by
  have a1 : rdNum l 0 = (n1, l1, e1) := by rw [rdNum, if_neg (by simp)]; exact h1
  have a2 : rdNum l1 e1 = (0, l1, e1) := by rw [rdNum, if_pos h0]
  have a3 : (rawR l).2.2 = e1 := by simp only [rawR, a1, a2, rdIf, if_pos h0]
  unfold takeR
  rw [a3, if_pos h0]
theorem rawR_err2 {l : List UInt8} {n1 : Nat} {l1 : List UInt8} {n2 e2 : Nat} {l2 : List UInt8} (h1 : takeN l = (n1, l1, 0)) (h2 : takeN l1 = (n2, l2, e2)) (h0 : e2 ≠ 0) : takeR l = (zeroEN, [], e2) := by
  have a1 : rdNum l 0 = (n1, l1, 0) := by rw [rdNum, if_neg (by simp)]; exact h1
  have a2 : rdNum l1 0 = (n2, l2, e2) := by rw [rdNum, if_neg (by simp)]; exact h2
  have a3 : (rawR l).2.2 = e2 := by simp only [rawR, a1, a2, rdIf, if_pos h0]
  unfold takeR
  rw [a3, if_pos h0]
theorem rawR_three {l : List UInt8} {n1 : Nat} {l1 : List UInt8} {n2 : Nat} {l2 : List UInt8} {b : BW} {l3 : List UInt8} {e3 : Nat} (h1 : takeN l = (n1, l1, 0)) (h2 : takeN l1 = (n2, l2, 0)) (h3 : takeB l2 = (b, l3, e3)) :
    takeR l = if e3 ≠ 0 then (zeroEN, [], e3) else if rightR ⟨n1, n2, b⟩ = false then (zeroEN, [], 2) else (⟨n1, n2, b⟩, l3, e3) := by
  have a1 : rdNum l 0 = (n1, l1, 0) := by rw [rdNum, if_neg (by simp)]; exact h1
  have a2 : rdNum l1 0 = (n2, l2, 0) := by rw [rdNum, if_neg (by simp)]; exact h2
  have a3 : rawR l = (⟨n1, n2, b⟩, l3, e3) := by simp only [rawR, a1, a2, rdIf, if_neg (show ¬ (0 : Nat) ≠ 0 by simp), h3]
  unfold takeR
  rw [a3]

/-- An entry that was read, its events in a row of the call's own. -/
def GotEntry (v : EN) (l' : List UInt8) (e' : Nat) (w : World) (r : Ending) (w' : World) : Prop :=
  ∃ lv, r = .returned (.tuple #[.agg #[.int .i64 v.pos, .int .i64 v.epoch, .string v.b.stream, .int .i64 v.b.expect, .int .i64 v.b.session, .int .i64 v.b.seq, lv], .string (bstr l'), .int .i64 e']) ∧ w'.ownsRow w.heap.size 55 2 lv v.b.events.length (ecells v.b.events) ∧ Below w.heap.size w w'

set_option maxRecDepth 100000 in
set_option maxHeartbeats 6400000 in
theorem takeR_any (l : List UInt8) (v : EN) (l' : List UInt8) (e' : Nat) (h : takeR l = (v, l', e')) (hl : l.length ≤ maxLen) (w : World) (hT : Tabs w) :
    Calls Tryz.prog 85 #[.string (bstr l)] w fun r w' => GotEntry v l' e' w r w' := by
  have HT := Lib.hid hT
  have HG0 := Lib.hid (show ((w.alloc (.cells #[.int .i64 0, .int .i64 0, .string ⟨#[]⟩, .int .i64 0, .int .i64 0, .int .i64 0, .slice none 0 0] 53)).alloc (.cells #[.int .i64 0, .int .i64 0, .string ⟨#[]⟩, .int .i64 0, .int .i64 0, .int .i64 0, .slice none 0 0] 53)).heap[w.heap.size]? = some (.cells #[.int .i64 0, .int .i64 0, .string ⟨#[]⟩, .int .i64 0, .int .i64 0, .int .i64 0, .slice none 0 0] 53) from by
    rw [heap_alloc_old _ _ (show w.heap.size < _ by rw [World.size_alloc]; omega)]
    exact heap_alloc_new w _)
  have HG1 := Lib.hid (heap_alloc2_new w (.cells #[.int .i64 0, .int .i64 0, .string ⟨#[]⟩, .int .i64 0, .int .i64 0, .int .i64 0, .slice none 0 0] 53) (.cells #[.int .i64 0, .int .i64 0, .string ⟨#[]⟩, .int .i64 0, .int .i64 0, .int .i64 0, .slice none 0 0] 53))
  have HB0 := Lib.hid (((Below.refl w.heap.size w).alloc (Nat.le_refl _) (.cells #[.int .i64 0, .int .i64 0, .string ⟨#[]⟩, .int .i64 0, .int .i64 0, .int .i64 0, .slice none 0 0] 53)).alloc (by rw [World.size_alloc]; omega) (.cells #[.int .i64 0, .int .i64 0, .string ⟨#[]⟩, .int .i64 0, .int .i64 0, .int .i64 0, .slice none 0 0] 53))
  obtain ⟨n1, l1, e1, h1⟩ : ∃ a b c, takeN l = (a, b, c) := ⟨_, _, _, rfl⟩
  have hl1 : l1.length ≤ maxLen := by have := takeN_rest_le l; rw [h1] at this; exact Nat.le_trans this hl
  have C1 := Lib.hid (take_lit (bstr l) n1 l1 e1 h1 (by rw [bstr_size]; exact hl))
  clear hT
  by_cases h10 : e1 = 0
  · subst h10
    obtain ⟨n2, l2, e2, h2⟩ : ∃ a b c, takeN l1 = (a, b, c) := ⟨_, _, _, rfl⟩
    have hl2 : l2.length ≤ maxLen := by have := takeN_rest_le l1; rw [h2] at this; exact Nat.le_trans this hl1
    have C2 := Lib.hid (take_lit (bstr l1) n2 l2 e2 h2 (by rw [bstr_size]; exact hl1))
    by_cases h20 : e2 = 0
    · subst h20
      obtain ⟨b, l3, e3, h3⟩ : ∃ a b c, takeB l2 = (a, b, c) := ⟨_, _, _, rfl⟩
      have C3 := Lib.hid (fun (X : World) (hX : Below w.heap.size w X) => rdB_own l2 b l3 e3 h3 hl2 X (tabs_below HT.out hX))
      rw [rawR_three h1 h2 h3] at h
      clear h1 h2 h3 hl hl1 hl2
      obtain ⟨S0, X0, Y0, Z0, evs⟩ := b
      simp only at C3
      by_cases h30 : e3 = 0
      · subst h30
        rw [if_neg (by simp)] at h
        obtain ⟨q, hq⟩ : ∃ q, rightR ⟨n1, n2, ⟨S0, X0, Y0, Z0, evs⟩⟩ = q := ⟨_, rfl⟩
        rw [hq] at h
        have CR := Lib.hid (fun (X : World) (u : Value) (hu : IsEntry X.heap.size X u ⟨n1, n2, ⟨S0, X0, Y0, Z0, evs⟩⟩) (hX : Below w.heap.size w X) => rightR_any X.heap.size u _ q hq X hu (Nat.le_refl _) (tabs_below HT.out hX))
        clear hq
        cases q with
        | false =>
          rw [if_pos rfl] at h
          simp only [Prod.mk.injEq] at h
          obtain ⟨rfl, rfl, rfl⟩ := h
          go_enter Tryz.func85, Tryz.ntmps85
          go_wp2_with fail
          refine (C1.out _).mono ?_
          rintro r w1 ⟨rfl, hb1⟩
          have he1 := (hb1.block (w.heap.size + 1) (by simp only [World.size_alloc]; omega)).trans HG1.out
          have hr1 := (hb1.block w.heap.size (by simp only [World.size_alloc]; omega)).trans HG0.out
          have f0 : w1.frozen? ⟨w.heap.size + 1, 0, none⟩ = false := Lib.frozen_of_heap he1 0
          have c0 : w1.cell? ⟨w.heap.size + 1, 0, none⟩ = some (.int .i64 0) := by rw [Lib.cell_of_heap he1]; rfl
          have HE2 := Lib.hid (blk_set he1 0 (.int .i64 (n1 : Int)))
          have HR2 := Lib.hid (gb_heap (gb_set w1 (w.heap.size + 1) 0 (.int .i64 (n1 : Int))) hr1 (by omega))
          have HB2 := Lib.hid ((bstep HB0.out hb1).setCell (p := ⟨w.heap.size + 1, 0, none⟩) (show w.heap.size ≤ w.heap.size + 1 by omega) (.int .i64 (n1 : Int)))
          clear he1 hr1 hb1
          go_wp2_with fail
          generalize w1.setCell ⟨w.heap.size + 1, 0, none⟩ (.int .i64 (n1 : Int)) = w2 at *
          clear f0 c0
          refine (C2.out _).mono ?_
          rintro r w1' ⟨rfl, hb2⟩
          have he2 := (hb2.block (w.heap.size + 1) (Array.getElem?_eq_some_iff.1 HE2.out).1).trans HE2.out
          have hr2 := (hb2.block w.heap.size (Array.getElem?_eq_some_iff.1 HR2.out).1).trans HR2.out
          have f1 : w1'.frozen? ⟨w.heap.size + 1, 1, none⟩ = false := Lib.frozen_of_heap he2 1
          have c1 : w1'.cell? ⟨w.heap.size + 1, 1, none⟩ = some (.int .i64 0) := by rw [Lib.cell_of_heap he2]; rfl
          have HE3 := Lib.hid (blk_set he2 1 (.int .i64 (n2 : Int)))
          have HR3 := Lib.hid (gb_heap (gb_set w1' (w.heap.size + 1) 1 (.int .i64 (n2 : Int))) hr2 (by omega))
          have HB3 := Lib.hid ((bstep HB2.out hb2).setCell (p := ⟨w.heap.size + 1, 1, none⟩) (show w.heap.size ≤ w.heap.size + 1 by omega) (.int .i64 (n2 : Int)))
          clear he2 hr2 hb2
          go_wp2_with fail
          generalize w1'.setCell ⟨w.heap.size + 1, 1, none⟩ (.int .i64 (n2 : Int)) = w3 at *
          clear f1 c1
          refine (C3.out _ HB3.out).mono ?_
          rintro r w4 ⟨ra, rc, rfl, hown, hb3⟩
          have he3 := (hb3.block (w.heap.size + 1) (Array.getElem?_eq_some_iff.1 HE3.out).1).trans HE3.out
          have hr3 := (hb3.block w.heap.size (Array.getElem?_eq_some_iff.1 HR3.out).1).trans HR3.out
          have f2 : w4.frozen? ⟨w.heap.size + 1, 2, none⟩ = false := Lib.frozen_of_heap he3 2
          have f3 : w4.frozen? ⟨w.heap.size + 1, 3, none⟩ = false := Lib.frozen_of_heap he3 3
          have f4 : w4.frozen? ⟨w.heap.size + 1, 4, none⟩ = false := Lib.frozen_of_heap he3 4
          have f5 : w4.frozen? ⟨w.heap.size + 1, 5, none⟩ = false := Lib.frozen_of_heap he3 5
          have f6 : w4.frozen? ⟨w.heap.size + 1, 6, none⟩ = false := Lib.frozen_of_heap he3 6
          have c2 : w4.cell? ⟨w.heap.size + 1, 2, none⟩ = some (.string ⟨#[]⟩) := by rw [Lib.cell_of_heap he3]; rfl
          have c3 : w4.cell? ⟨w.heap.size + 1, 3, none⟩ = some (.int .i64 0) := by rw [Lib.cell_of_heap he3]; rfl
          have c4 : w4.cell? ⟨w.heap.size + 1, 4, none⟩ = some (.int .i64 0) := by rw [Lib.cell_of_heap he3]; rfl
          have c5 : w4.cell? ⟨w.heap.size + 1, 5, none⟩ = some (.int .i64 0) := by rw [Lib.cell_of_heap he3]; rfl
          have c6 : w4.cell? ⟨w.heap.size + 1, 6, none⟩ = some (.slice none 0 0) := by rw [Lib.cell_of_heap he3]; rfl
          have HE4 := Lib.hid (blk_set (blk_set (blk_set (blk_set (blk_set he3 2 (.string S0)) 3 (.int .i64 X0)) 4 (.int .i64 Y0)) 5 (.int .i64 Z0)) 6 (.slice ra evs.length rc))
          have HR4 := Lib.hid (gb_heap (gb_set _ (w.heap.size + 1) 6 (.slice ra evs.length rc)) (gb_heap (gb_set _ (w.heap.size + 1) 5 (.int .i64 Z0)) (gb_heap (gb_set _ (w.heap.size + 1) 4 (.int .i64 Y0)) (gb_heap (gb_set _ (w.heap.size + 1) 3 (.int .i64 X0)) (gb_heap (gb_set _ (w.heap.size + 1) 2 (.string S0)) hr3 (by omega)) (by omega)) (by omega)) (by omega)) (by omega))
          have HB4 := Lib.hid ((((((bstep HB3.out hb3).setCell (p := ⟨w.heap.size + 1, 2, none⟩) (show w.heap.size ≤ w.heap.size + 1 by omega) (.string S0)).setCell (p := ⟨w.heap.size + 1, 3, none⟩) (show w.heap.size ≤ w.heap.size + 1 by omega) (.int .i64 X0)).setCell (p := ⟨w.heap.size + 1, 4, none⟩) (show w.heap.size ≤ w.heap.size + 1 by omega) (.int .i64 Y0)).setCell (p := ⟨w.heap.size + 1, 5, none⟩) (show w.heap.size ≤ w.heap.size + 1 by omega) (.int .i64 Z0)).setCell (p := ⟨w.heap.size + 1, 6, none⟩) (show w.heap.size ≤ w.heap.size + 1 by omega) (.slice ra evs.length rc))
          have hz3 : w.heap.size + 1 < w3.heap.size := (Array.getElem?_eq_some_iff.1 HE3.out).1
          have OW4 := Lib.hid (own_setE (own_setE (own_setE (own_setE (own_setE (own_less (show w.heap.size + 2 ≤ w3.heap.size by omega) hown) (w.heap.size + 1) 2 (by omega) (.string S0)) (w.heap.size + 1) 3 (by omega) (.int .i64 X0)) (w.heap.size + 1) 4 (by omega) (.int .i64 Y0)) (w.heap.size + 1) 5 (by omega) (.int .i64 Z0)) (w.heap.size + 1) 6 (by omega) (.slice ra evs.length rc))
          simp only [List.setIfInBounds_toArray, List.set_cons_zero, List.set_cons_succ] at HE4
          clear he3 hr3 hb3 hown
          have y0 : (((((w4.setCell ⟨w.heap.size + 1, 2, none⟩ (.string S0)).setCell ⟨w.heap.size + 1, 3, none⟩ (.int .i64 X0)).setCell ⟨w.heap.size + 1, 4, none⟩ (.int .i64 Y0)).setCell ⟨w.heap.size + 1, 5, none⟩ (.int .i64 Z0)).setCell ⟨w.heap.size + 1, 6, none⟩ (.slice ra evs.length rc)).cell? ⟨w.heap.size + 1, 0, none⟩ = some (.int .i64 (n1 : Int)) := by rw [Lib.cell_of_heap HE4.out]; rfl
          have y1 : (((((w4.setCell ⟨w.heap.size + 1, 2, none⟩ (.string S0)).setCell ⟨w.heap.size + 1, 3, none⟩ (.int .i64 X0)).setCell ⟨w.heap.size + 1, 4, none⟩ (.int .i64 Y0)).setCell ⟨w.heap.size + 1, 5, none⟩ (.int .i64 Z0)).setCell ⟨w.heap.size + 1, 6, none⟩ (.slice ra evs.length rc)).cell? ⟨w.heap.size + 1, 1, none⟩ = some (.int .i64 (n2 : Int)) := by rw [Lib.cell_of_heap HE4.out]; rfl
          have y2 : (((((w4.setCell ⟨w.heap.size + 1, 2, none⟩ (.string S0)).setCell ⟨w.heap.size + 1, 3, none⟩ (.int .i64 X0)).setCell ⟨w.heap.size + 1, 4, none⟩ (.int .i64 Y0)).setCell ⟨w.heap.size + 1, 5, none⟩ (.int .i64 Z0)).setCell ⟨w.heap.size + 1, 6, none⟩ (.slice ra evs.length rc)).cell? ⟨w.heap.size + 1, 2, none⟩ = some (.string S0) := by rw [Lib.cell_of_heap HE4.out]; rfl
          have y3 : (((((w4.setCell ⟨w.heap.size + 1, 2, none⟩ (.string S0)).setCell ⟨w.heap.size + 1, 3, none⟩ (.int .i64 X0)).setCell ⟨w.heap.size + 1, 4, none⟩ (.int .i64 Y0)).setCell ⟨w.heap.size + 1, 5, none⟩ (.int .i64 Z0)).setCell ⟨w.heap.size + 1, 6, none⟩ (.slice ra evs.length rc)).cell? ⟨w.heap.size + 1, 3, none⟩ = some (.int .i64 X0) := by rw [Lib.cell_of_heap HE4.out]; rfl
          have y4 : (((((w4.setCell ⟨w.heap.size + 1, 2, none⟩ (.string S0)).setCell ⟨w.heap.size + 1, 3, none⟩ (.int .i64 X0)).setCell ⟨w.heap.size + 1, 4, none⟩ (.int .i64 Y0)).setCell ⟨w.heap.size + 1, 5, none⟩ (.int .i64 Z0)).setCell ⟨w.heap.size + 1, 6, none⟩ (.slice ra evs.length rc)).cell? ⟨w.heap.size + 1, 4, none⟩ = some (.int .i64 Y0) := by rw [Lib.cell_of_heap HE4.out]; rfl
          have y5 : (((((w4.setCell ⟨w.heap.size + 1, 2, none⟩ (.string S0)).setCell ⟨w.heap.size + 1, 3, none⟩ (.int .i64 X0)).setCell ⟨w.heap.size + 1, 4, none⟩ (.int .i64 Y0)).setCell ⟨w.heap.size + 1, 5, none⟩ (.int .i64 Z0)).setCell ⟨w.heap.size + 1, 6, none⟩ (.slice ra evs.length rc)).cell? ⟨w.heap.size + 1, 5, none⟩ = some (.int .i64 Z0) := by rw [Lib.cell_of_heap HE4.out]; rfl
          have y6 : (((((w4.setCell ⟨w.heap.size + 1, 2, none⟩ (.string S0)).setCell ⟨w.heap.size + 1, 3, none⟩ (.int .i64 X0)).setCell ⟨w.heap.size + 1, 4, none⟩ (.int .i64 Y0)).setCell ⟨w.heap.size + 1, 5, none⟩ (.int .i64 Z0)).setCell ⟨w.heap.size + 1, 6, none⟩ (.slice ra evs.length rc)).cell? ⟨w.heap.size + 1, 6, none⟩ = some (.slice ra evs.length rc) := by rw [Lib.cell_of_heap HE4.out]; rfl
          go_wp2_with fail
          generalize (((((w4.setCell ⟨w.heap.size + 1, 2, none⟩ (.string S0)).setCell ⟨w.heap.size + 1, 3, none⟩ (.int .i64 X0)).setCell ⟨w.heap.size + 1, 4, none⟩ (.int .i64 Y0)).setCell ⟨w.heap.size + 1, 5, none⟩ (.int .i64 Z0)).setCell ⟨w.heap.size + 1, 6, none⟩ (.slice ra evs.length rc)) = w5 at *
          refine (CR.out _ _ ⟨_, rfl, events_own OW4.out (own_len OW4.out)⟩ HB4.out).mono ?_
          rintro r w6 ⟨rfl, hb6⟩
          have HE5 := Lib.hid ((hb6.block _ (Array.getElem?_eq_some_iff.1 HE4.out).1).trans HE4.out)
          have HR5 := Lib.hid ((hb6.block _ (Array.getElem?_eq_some_iff.1 HR4.out).1).trans HR4.out)
          have HB5 := Lib.hid (bstep HB4.out hb6)
          have OW5 := Lib.hid (own_below hb6 OW4.out)
          clear hb6 y0 y1 y2 y3 y4 y5 y6 c2 c3 c4 c5 c6 f2 f3 f4 f5 f6
          have y0 : w6.cell? ⟨w.heap.size + 1, 0, none⟩ = some (.int .i64 (n1 : Int)) := by rw [Lib.cell_of_heap HE5.out]; rfl
          have y1 : w6.cell? ⟨w.heap.size + 1, 1, none⟩ = some (.int .i64 (n2 : Int)) := by rw [Lib.cell_of_heap HE5.out]; rfl
          have y2 : w6.cell? ⟨w.heap.size + 1, 2, none⟩ = some (.string S0) := by rw [Lib.cell_of_heap HE5.out]; rfl
          have y3 : w6.cell? ⟨w.heap.size + 1, 3, none⟩ = some (.int .i64 X0) := by rw [Lib.cell_of_heap HE5.out]; rfl
          have y4 : w6.cell? ⟨w.heap.size + 1, 4, none⟩ = some (.int .i64 Y0) := by rw [Lib.cell_of_heap HE5.out]; rfl
          have y5 : w6.cell? ⟨w.heap.size + 1, 5, none⟩ = some (.int .i64 Z0) := by rw [Lib.cell_of_heap HE5.out]; rfl
          have y6 : w6.cell? ⟨w.heap.size + 1, 6, none⟩ = some (.slice ra evs.length rc) := by rw [Lib.cell_of_heap HE5.out]; rfl
          have r0 : w6.frozen? ⟨w.heap.size, 0, none⟩ = false := Lib.frozen_of_heap HR5.out 0
          have r1 : w6.frozen? ⟨w.heap.size, 1, none⟩ = false := Lib.frozen_of_heap HR5.out 1
          have r2 : w6.frozen? ⟨w.heap.size, 2, none⟩ = false := Lib.frozen_of_heap HR5.out 2
          have r3 : w6.frozen? ⟨w.heap.size, 3, none⟩ = false := Lib.frozen_of_heap HR5.out 3
          have r4 : w6.frozen? ⟨w.heap.size, 4, none⟩ = false := Lib.frozen_of_heap HR5.out 4
          have r5 : w6.frozen? ⟨w.heap.size, 5, none⟩ = false := Lib.frozen_of_heap HR5.out 5
          have r6 : w6.frozen? ⟨w.heap.size, 6, none⟩ = false := Lib.frozen_of_heap HR5.out 6
          have s0 : w6.cell? ⟨w.heap.size, 0, none⟩ = some (.int .i64 0) := by rw [Lib.cell_of_heap HR5.out]; rfl
          have s1 : w6.cell? ⟨w.heap.size, 1, none⟩ = some (.int .i64 0) := by rw [Lib.cell_of_heap HR5.out]; rfl
          have s2 : w6.cell? ⟨w.heap.size, 2, none⟩ = some (.string ⟨#[]⟩) := by rw [Lib.cell_of_heap HR5.out]; rfl
          have s3 : w6.cell? ⟨w.heap.size, 3, none⟩ = some (.int .i64 0) := by rw [Lib.cell_of_heap HR5.out]; rfl
          have s4 : w6.cell? ⟨w.heap.size, 4, none⟩ = some (.int .i64 0) := by rw [Lib.cell_of_heap HR5.out]; rfl
          have s5 : w6.cell? ⟨w.heap.size, 5, none⟩ = some (.int .i64 0) := by rw [Lib.cell_of_heap HR5.out]; rfl
          have s6 : w6.cell? ⟨w.heap.size, 6, none⟩ = some (.slice none 0 0) := by rw [Lib.cell_of_heap HR5.out]; rfl
          go_wp2_with fail
          (try simp only [Exit.inBlock, Exit.then])
          have hgf := blk_set7 HR5.out (.int .i64 0) (.int .i64 0) (.string ⟨#[]⟩) (.int .i64 0) (.int .i64 0) (.int .i64 0) (.slice none 0 0)
          refine bodyPost_ret (ret_cellg rfl _ _ w.heap.size #[.int .i64 0, .int .i64 0, .string ⟨#[]⟩, .int .i64 0, .int .i64 0, .int .i64 0, .slice none 0 0] _ _ (by rfl) hgf Tryz.underlying53 rfl ensize) rfl ?_
          exact ⟨.slice none 0 0, rfl, World.ownsRow_nil _ _ _ _, below_set7 HB5.out (Nat.le_refl _) _ _ _ _ _ _ _⟩
        | true =>
          rw [if_neg (by decide)] at h
          simp only [Prod.mk.injEq] at h
          obtain ⟨rfl, rfl, rfl⟩ := h
          go_enter Tryz.func85, Tryz.ntmps85
          go_wp2_with fail
          refine (C1.out _).mono ?_
          rintro r w1 ⟨rfl, hb1⟩
          have he1 := (hb1.block (w.heap.size + 1) (by simp only [World.size_alloc]; omega)).trans HG1.out
          have hr1 := (hb1.block w.heap.size (by simp only [World.size_alloc]; omega)).trans HG0.out
          have f0 : w1.frozen? ⟨w.heap.size + 1, 0, none⟩ = false := Lib.frozen_of_heap he1 0
          have c0 : w1.cell? ⟨w.heap.size + 1, 0, none⟩ = some (.int .i64 0) := by rw [Lib.cell_of_heap he1]; rfl
          have HE2 := Lib.hid (blk_set he1 0 (.int .i64 (n1 : Int)))
          have HR2 := Lib.hid (gb_heap (gb_set w1 (w.heap.size + 1) 0 (.int .i64 (n1 : Int))) hr1 (by omega))
          have HB2 := Lib.hid ((bstep HB0.out hb1).setCell (p := ⟨w.heap.size + 1, 0, none⟩) (show w.heap.size ≤ w.heap.size + 1 by omega) (.int .i64 (n1 : Int)))
          clear he1 hr1 hb1
          go_wp2_with fail
          generalize w1.setCell ⟨w.heap.size + 1, 0, none⟩ (.int .i64 (n1 : Int)) = w2 at *
          clear f0 c0
          refine (C2.out _).mono ?_
          rintro r w1' ⟨rfl, hb2⟩
          have he2 := (hb2.block (w.heap.size + 1) (Array.getElem?_eq_some_iff.1 HE2.out).1).trans HE2.out
          have hr2 := (hb2.block w.heap.size (Array.getElem?_eq_some_iff.1 HR2.out).1).trans HR2.out
          have f1 : w1'.frozen? ⟨w.heap.size + 1, 1, none⟩ = false := Lib.frozen_of_heap he2 1
          have c1 : w1'.cell? ⟨w.heap.size + 1, 1, none⟩ = some (.int .i64 0) := by rw [Lib.cell_of_heap he2]; rfl
          have HE3 := Lib.hid (blk_set he2 1 (.int .i64 (n2 : Int)))
          have HR3 := Lib.hid (gb_heap (gb_set w1' (w.heap.size + 1) 1 (.int .i64 (n2 : Int))) hr2 (by omega))
          have HB3 := Lib.hid ((bstep HB2.out hb2).setCell (p := ⟨w.heap.size + 1, 1, none⟩) (show w.heap.size ≤ w.heap.size + 1 by omega) (.int .i64 (n2 : Int)))
          clear he2 hr2 hb2
          go_wp2_with fail
          generalize w1'.setCell ⟨w.heap.size + 1, 1, none⟩ (.int .i64 (n2 : Int)) = w3 at *
          clear f1 c1
          refine (C3.out _ HB3.out).mono ?_
          rintro r w4 ⟨ra, rc, rfl, hown, hb3⟩
          have he3 := (hb3.block (w.heap.size + 1) (Array.getElem?_eq_some_iff.1 HE3.out).1).trans HE3.out
          have hr3 := (hb3.block w.heap.size (Array.getElem?_eq_some_iff.1 HR3.out).1).trans HR3.out
          have f2 : w4.frozen? ⟨w.heap.size + 1, 2, none⟩ = false := Lib.frozen_of_heap he3 2
          have f3 : w4.frozen? ⟨w.heap.size + 1, 3, none⟩ = false := Lib.frozen_of_heap he3 3
          have f4 : w4.frozen? ⟨w.heap.size + 1, 4, none⟩ = false := Lib.frozen_of_heap he3 4
          have f5 : w4.frozen? ⟨w.heap.size + 1, 5, none⟩ = false := Lib.frozen_of_heap he3 5
          have f6 : w4.frozen? ⟨w.heap.size + 1, 6, none⟩ = false := Lib.frozen_of_heap he3 6
          have c2 : w4.cell? ⟨w.heap.size + 1, 2, none⟩ = some (.string ⟨#[]⟩) := by rw [Lib.cell_of_heap he3]; rfl
          have c3 : w4.cell? ⟨w.heap.size + 1, 3, none⟩ = some (.int .i64 0) := by rw [Lib.cell_of_heap he3]; rfl
          have c4 : w4.cell? ⟨w.heap.size + 1, 4, none⟩ = some (.int .i64 0) := by rw [Lib.cell_of_heap he3]; rfl
          have c5 : w4.cell? ⟨w.heap.size + 1, 5, none⟩ = some (.int .i64 0) := by rw [Lib.cell_of_heap he3]; rfl
          have c6 : w4.cell? ⟨w.heap.size + 1, 6, none⟩ = some (.slice none 0 0) := by rw [Lib.cell_of_heap he3]; rfl
          have HE4 := Lib.hid (blk_set (blk_set (blk_set (blk_set (blk_set he3 2 (.string S0)) 3 (.int .i64 X0)) 4 (.int .i64 Y0)) 5 (.int .i64 Z0)) 6 (.slice ra evs.length rc))
          have HR4 := Lib.hid (gb_heap (gb_set _ (w.heap.size + 1) 6 (.slice ra evs.length rc)) (gb_heap (gb_set _ (w.heap.size + 1) 5 (.int .i64 Z0)) (gb_heap (gb_set _ (w.heap.size + 1) 4 (.int .i64 Y0)) (gb_heap (gb_set _ (w.heap.size + 1) 3 (.int .i64 X0)) (gb_heap (gb_set _ (w.heap.size + 1) 2 (.string S0)) hr3 (by omega)) (by omega)) (by omega)) (by omega)) (by omega))
          have HB4 := Lib.hid ((((((bstep HB3.out hb3).setCell (p := ⟨w.heap.size + 1, 2, none⟩) (show w.heap.size ≤ w.heap.size + 1 by omega) (.string S0)).setCell (p := ⟨w.heap.size + 1, 3, none⟩) (show w.heap.size ≤ w.heap.size + 1 by omega) (.int .i64 X0)).setCell (p := ⟨w.heap.size + 1, 4, none⟩) (show w.heap.size ≤ w.heap.size + 1 by omega) (.int .i64 Y0)).setCell (p := ⟨w.heap.size + 1, 5, none⟩) (show w.heap.size ≤ w.heap.size + 1 by omega) (.int .i64 Z0)).setCell (p := ⟨w.heap.size + 1, 6, none⟩) (show w.heap.size ≤ w.heap.size + 1 by omega) (.slice ra evs.length rc))
          have hz3 : w.heap.size + 1 < w3.heap.size := (Array.getElem?_eq_some_iff.1 HE3.out).1
          have OW4 := Lib.hid (own_setE (own_setE (own_setE (own_setE (own_setE (own_less (show w.heap.size + 2 ≤ w3.heap.size by omega) hown) (w.heap.size + 1) 2 (by omega) (.string S0)) (w.heap.size + 1) 3 (by omega) (.int .i64 X0)) (w.heap.size + 1) 4 (by omega) (.int .i64 Y0)) (w.heap.size + 1) 5 (by omega) (.int .i64 Z0)) (w.heap.size + 1) 6 (by omega) (.slice ra evs.length rc))
          simp only [List.setIfInBounds_toArray, List.set_cons_zero, List.set_cons_succ] at HE4
          clear he3 hr3 hb3 hown
          have y0 : (((((w4.setCell ⟨w.heap.size + 1, 2, none⟩ (.string S0)).setCell ⟨w.heap.size + 1, 3, none⟩ (.int .i64 X0)).setCell ⟨w.heap.size + 1, 4, none⟩ (.int .i64 Y0)).setCell ⟨w.heap.size + 1, 5, none⟩ (.int .i64 Z0)).setCell ⟨w.heap.size + 1, 6, none⟩ (.slice ra evs.length rc)).cell? ⟨w.heap.size + 1, 0, none⟩ = some (.int .i64 (n1 : Int)) := by rw [Lib.cell_of_heap HE4.out]; rfl
          have y1 : (((((w4.setCell ⟨w.heap.size + 1, 2, none⟩ (.string S0)).setCell ⟨w.heap.size + 1, 3, none⟩ (.int .i64 X0)).setCell ⟨w.heap.size + 1, 4, none⟩ (.int .i64 Y0)).setCell ⟨w.heap.size + 1, 5, none⟩ (.int .i64 Z0)).setCell ⟨w.heap.size + 1, 6, none⟩ (.slice ra evs.length rc)).cell? ⟨w.heap.size + 1, 1, none⟩ = some (.int .i64 (n2 : Int)) := by rw [Lib.cell_of_heap HE4.out]; rfl
          have y2 : (((((w4.setCell ⟨w.heap.size + 1, 2, none⟩ (.string S0)).setCell ⟨w.heap.size + 1, 3, none⟩ (.int .i64 X0)).setCell ⟨w.heap.size + 1, 4, none⟩ (.int .i64 Y0)).setCell ⟨w.heap.size + 1, 5, none⟩ (.int .i64 Z0)).setCell ⟨w.heap.size + 1, 6, none⟩ (.slice ra evs.length rc)).cell? ⟨w.heap.size + 1, 2, none⟩ = some (.string S0) := by rw [Lib.cell_of_heap HE4.out]; rfl
          have y3 : (((((w4.setCell ⟨w.heap.size + 1, 2, none⟩ (.string S0)).setCell ⟨w.heap.size + 1, 3, none⟩ (.int .i64 X0)).setCell ⟨w.heap.size + 1, 4, none⟩ (.int .i64 Y0)).setCell ⟨w.heap.size + 1, 5, none⟩ (.int .i64 Z0)).setCell ⟨w.heap.size + 1, 6, none⟩ (.slice ra evs.length rc)).cell? ⟨w.heap.size + 1, 3, none⟩ = some (.int .i64 X0) := by rw [Lib.cell_of_heap HE4.out]; rfl
          have y4 : (((((w4.setCell ⟨w.heap.size + 1, 2, none⟩ (.string S0)).setCell ⟨w.heap.size + 1, 3, none⟩ (.int .i64 X0)).setCell ⟨w.heap.size + 1, 4, none⟩ (.int .i64 Y0)).setCell ⟨w.heap.size + 1, 5, none⟩ (.int .i64 Z0)).setCell ⟨w.heap.size + 1, 6, none⟩ (.slice ra evs.length rc)).cell? ⟨w.heap.size + 1, 4, none⟩ = some (.int .i64 Y0) := by rw [Lib.cell_of_heap HE4.out]; rfl
          have y5 : (((((w4.setCell ⟨w.heap.size + 1, 2, none⟩ (.string S0)).setCell ⟨w.heap.size + 1, 3, none⟩ (.int .i64 X0)).setCell ⟨w.heap.size + 1, 4, none⟩ (.int .i64 Y0)).setCell ⟨w.heap.size + 1, 5, none⟩ (.int .i64 Z0)).setCell ⟨w.heap.size + 1, 6, none⟩ (.slice ra evs.length rc)).cell? ⟨w.heap.size + 1, 5, none⟩ = some (.int .i64 Z0) := by rw [Lib.cell_of_heap HE4.out]; rfl
          have y6 : (((((w4.setCell ⟨w.heap.size + 1, 2, none⟩ (.string S0)).setCell ⟨w.heap.size + 1, 3, none⟩ (.int .i64 X0)).setCell ⟨w.heap.size + 1, 4, none⟩ (.int .i64 Y0)).setCell ⟨w.heap.size + 1, 5, none⟩ (.int .i64 Z0)).setCell ⟨w.heap.size + 1, 6, none⟩ (.slice ra evs.length rc)).cell? ⟨w.heap.size + 1, 6, none⟩ = some (.slice ra evs.length rc) := by rw [Lib.cell_of_heap HE4.out]; rfl
          go_wp2_with fail
          generalize (((((w4.setCell ⟨w.heap.size + 1, 2, none⟩ (.string S0)).setCell ⟨w.heap.size + 1, 3, none⟩ (.int .i64 X0)).setCell ⟨w.heap.size + 1, 4, none⟩ (.int .i64 Y0)).setCell ⟨w.heap.size + 1, 5, none⟩ (.int .i64 Z0)).setCell ⟨w.heap.size + 1, 6, none⟩ (.slice ra evs.length rc)) = w5 at *
          refine (CR.out _ _ ⟨_, rfl, events_own OW4.out (own_len OW4.out)⟩ HB4.out).mono ?_
          rintro r w6 ⟨rfl, hb6⟩
          have HE5 := Lib.hid ((hb6.block _ (Array.getElem?_eq_some_iff.1 HE4.out).1).trans HE4.out)
          have HR5 := Lib.hid ((hb6.block _ (Array.getElem?_eq_some_iff.1 HR4.out).1).trans HR4.out)
          have HB5 := Lib.hid (bstep HB4.out hb6)
          have OW5 := Lib.hid (own_below hb6 OW4.out)
          clear hb6 y0 y1 y2 y3 y4 y5 y6 c2 c3 c4 c5 c6 f2 f3 f4 f5 f6
          have y0 : w6.cell? ⟨w.heap.size + 1, 0, none⟩ = some (.int .i64 (n1 : Int)) := by rw [Lib.cell_of_heap HE5.out]; rfl
          have y1 : w6.cell? ⟨w.heap.size + 1, 1, none⟩ = some (.int .i64 (n2 : Int)) := by rw [Lib.cell_of_heap HE5.out]; rfl
          have y2 : w6.cell? ⟨w.heap.size + 1, 2, none⟩ = some (.string S0) := by rw [Lib.cell_of_heap HE5.out]; rfl
          have y3 : w6.cell? ⟨w.heap.size + 1, 3, none⟩ = some (.int .i64 X0) := by rw [Lib.cell_of_heap HE5.out]; rfl
          have y4 : w6.cell? ⟨w.heap.size + 1, 4, none⟩ = some (.int .i64 Y0) := by rw [Lib.cell_of_heap HE5.out]; rfl
          have y5 : w6.cell? ⟨w.heap.size + 1, 5, none⟩ = some (.int .i64 Z0) := by rw [Lib.cell_of_heap HE5.out]; rfl
          have y6 : w6.cell? ⟨w.heap.size + 1, 6, none⟩ = some (.slice ra evs.length rc) := by rw [Lib.cell_of_heap HE5.out]; rfl
          have r0 : w6.frozen? ⟨w.heap.size, 0, none⟩ = false := Lib.frozen_of_heap HR5.out 0
          have r1 : w6.frozen? ⟨w.heap.size, 1, none⟩ = false := Lib.frozen_of_heap HR5.out 1
          have r2 : w6.frozen? ⟨w.heap.size, 2, none⟩ = false := Lib.frozen_of_heap HR5.out 2
          have r3 : w6.frozen? ⟨w.heap.size, 3, none⟩ = false := Lib.frozen_of_heap HR5.out 3
          have r4 : w6.frozen? ⟨w.heap.size, 4, none⟩ = false := Lib.frozen_of_heap HR5.out 4
          have r5 : w6.frozen? ⟨w.heap.size, 5, none⟩ = false := Lib.frozen_of_heap HR5.out 5
          have r6 : w6.frozen? ⟨w.heap.size, 6, none⟩ = false := Lib.frozen_of_heap HR5.out 6
          have s0 : w6.cell? ⟨w.heap.size, 0, none⟩ = some (.int .i64 0) := by rw [Lib.cell_of_heap HR5.out]; rfl
          have s1 : w6.cell? ⟨w.heap.size, 1, none⟩ = some (.int .i64 0) := by rw [Lib.cell_of_heap HR5.out]; rfl
          have s2 : w6.cell? ⟨w.heap.size, 2, none⟩ = some (.string ⟨#[]⟩) := by rw [Lib.cell_of_heap HR5.out]; rfl
          have s3 : w6.cell? ⟨w.heap.size, 3, none⟩ = some (.int .i64 0) := by rw [Lib.cell_of_heap HR5.out]; rfl
          have s4 : w6.cell? ⟨w.heap.size, 4, none⟩ = some (.int .i64 0) := by rw [Lib.cell_of_heap HR5.out]; rfl
          have s5 : w6.cell? ⟨w.heap.size, 5, none⟩ = some (.int .i64 0) := by rw [Lib.cell_of_heap HR5.out]; rfl
          have s6 : w6.cell? ⟨w.heap.size, 6, none⟩ = some (.slice none 0 0) := by rw [Lib.cell_of_heap HR5.out]; rfl
          go_wp2_with fail
          (try simp only [Exit.inBlock, Exit.then])
          have hgf := blk_set7 HR5.out (.int .i64 (n1 : Int)) (.int .i64 (n2 : Int)) (.string S0) (.int .i64 X0) (.int .i64 Y0) (.int .i64 Z0) (.slice ra evs.length rc)
          refine bodyPost_ret (ret_cellg rfl _ _ w.heap.size #[.int .i64 (n1 : Int), .int .i64 (n2 : Int), .string S0, .int .i64 X0, .int .i64 Y0, .int .i64 Z0, .slice ra evs.length rc] _ _ (by rfl) hgf Tryz.underlying53 rfl ensize) rfl ?_
          exact ⟨_, rfl, own_less (show w.heap.size ≤ w.heap.size + 2 by omega) (own_set7 OW5.out (by omega) _ _ _ _ _ _ _), below_set7 HB5.out (Nat.le_refl _) _ _ _ _ _ _ _⟩
      · rw [if_pos h30] at h
        simp only [Prod.mk.injEq] at h
        obtain ⟨rfl, rfl, rfl⟩ := h
        have g3 : ((e3 : Int) != 0) = true := by simp; omega
        go_enter Tryz.func85, Tryz.ntmps85
        go_wp2_with fail
        refine (C1.out _).mono ?_
        rintro r w1 ⟨rfl, hb1⟩
        have he1 := (hb1.block (w.heap.size + 1) (by simp only [World.size_alloc]; omega)).trans HG1.out
        have hr1 := (hb1.block w.heap.size (by simp only [World.size_alloc]; omega)).trans HG0.out
        have f0 : w1.frozen? ⟨w.heap.size + 1, 0, none⟩ = false := Lib.frozen_of_heap he1 0
        have c0 : w1.cell? ⟨w.heap.size + 1, 0, none⟩ = some (.int .i64 0) := by rw [Lib.cell_of_heap he1]; rfl
        have HE2 := Lib.hid (blk_set he1 0 (.int .i64 (n1 : Int)))
        have HR2 := Lib.hid (gb_heap (gb_set w1 (w.heap.size + 1) 0 (.int .i64 (n1 : Int))) hr1 (by omega))
        have HB2 := Lib.hid ((bstep HB0.out hb1).setCell (p := ⟨w.heap.size + 1, 0, none⟩) (show w.heap.size ≤ w.heap.size + 1 by omega) (.int .i64 (n1 : Int)))
        clear he1 hr1 hb1
        go_wp2_with fail
        generalize w1.setCell ⟨w.heap.size + 1, 0, none⟩ (.int .i64 (n1 : Int)) = w2 at *
        clear f0 c0
        refine (C2.out _).mono ?_
        rintro r w1' ⟨rfl, hb2⟩
        have he2 := (hb2.block (w.heap.size + 1) (Array.getElem?_eq_some_iff.1 HE2.out).1).trans HE2.out
        have hr2 := (hb2.block w.heap.size (Array.getElem?_eq_some_iff.1 HR2.out).1).trans HR2.out
        have f1 : w1'.frozen? ⟨w.heap.size + 1, 1, none⟩ = false := Lib.frozen_of_heap he2 1
        have c1 : w1'.cell? ⟨w.heap.size + 1, 1, none⟩ = some (.int .i64 0) := by rw [Lib.cell_of_heap he2]; rfl
        have HE3 := Lib.hid (blk_set he2 1 (.int .i64 (n2 : Int)))
        have HR3 := Lib.hid (gb_heap (gb_set w1' (w.heap.size + 1) 1 (.int .i64 (n2 : Int))) hr2 (by omega))
        have HB3 := Lib.hid ((bstep HB2.out hb2).setCell (p := ⟨w.heap.size + 1, 1, none⟩) (show w.heap.size ≤ w.heap.size + 1 by omega) (.int .i64 (n2 : Int)))
        clear he2 hr2 hb2
        go_wp2_with fail
        generalize w1'.setCell ⟨w.heap.size + 1, 1, none⟩ (.int .i64 (n2 : Int)) = w3 at *
        clear f1 c1
        refine (C3.out _ HB3.out).mono ?_
        rintro r w4 ⟨ra, rc, rfl, hown, hb3⟩
        have he3 := (hb3.block (w.heap.size + 1) (Array.getElem?_eq_some_iff.1 HE3.out).1).trans HE3.out
        have hr3 := (hb3.block w.heap.size (Array.getElem?_eq_some_iff.1 HR3.out).1).trans HR3.out
        have f2 : w4.frozen? ⟨w.heap.size + 1, 2, none⟩ = false := Lib.frozen_of_heap he3 2
        have f3 : w4.frozen? ⟨w.heap.size + 1, 3, none⟩ = false := Lib.frozen_of_heap he3 3
        have f4 : w4.frozen? ⟨w.heap.size + 1, 4, none⟩ = false := Lib.frozen_of_heap he3 4
        have f5 : w4.frozen? ⟨w.heap.size + 1, 5, none⟩ = false := Lib.frozen_of_heap he3 5
        have f6 : w4.frozen? ⟨w.heap.size + 1, 6, none⟩ = false := Lib.frozen_of_heap he3 6
        have c2 : w4.cell? ⟨w.heap.size + 1, 2, none⟩ = some (.string ⟨#[]⟩) := by rw [Lib.cell_of_heap he3]; rfl
        have c3 : w4.cell? ⟨w.heap.size + 1, 3, none⟩ = some (.int .i64 0) := by rw [Lib.cell_of_heap he3]; rfl
        have c4 : w4.cell? ⟨w.heap.size + 1, 4, none⟩ = some (.int .i64 0) := by rw [Lib.cell_of_heap he3]; rfl
        have c5 : w4.cell? ⟨w.heap.size + 1, 5, none⟩ = some (.int .i64 0) := by rw [Lib.cell_of_heap he3]; rfl
        have c6 : w4.cell? ⟨w.heap.size + 1, 6, none⟩ = some (.slice none 0 0) := by rw [Lib.cell_of_heap he3]; rfl
        have HE4 := Lib.hid (blk_set (blk_set (blk_set (blk_set (blk_set he3 2 (.string S0)) 3 (.int .i64 X0)) 4 (.int .i64 Y0)) 5 (.int .i64 Z0)) 6 (.slice ra evs.length rc))
        have HR4 := Lib.hid (gb_heap (gb_set _ (w.heap.size + 1) 6 (.slice ra evs.length rc)) (gb_heap (gb_set _ (w.heap.size + 1) 5 (.int .i64 Z0)) (gb_heap (gb_set _ (w.heap.size + 1) 4 (.int .i64 Y0)) (gb_heap (gb_set _ (w.heap.size + 1) 3 (.int .i64 X0)) (gb_heap (gb_set _ (w.heap.size + 1) 2 (.string S0)) hr3 (by omega)) (by omega)) (by omega)) (by omega)) (by omega))
        have HB4 := Lib.hid ((((((bstep HB3.out hb3).setCell (p := ⟨w.heap.size + 1, 2, none⟩) (show w.heap.size ≤ w.heap.size + 1 by omega) (.string S0)).setCell (p := ⟨w.heap.size + 1, 3, none⟩) (show w.heap.size ≤ w.heap.size + 1 by omega) (.int .i64 X0)).setCell (p := ⟨w.heap.size + 1, 4, none⟩) (show w.heap.size ≤ w.heap.size + 1 by omega) (.int .i64 Y0)).setCell (p := ⟨w.heap.size + 1, 5, none⟩) (show w.heap.size ≤ w.heap.size + 1 by omega) (.int .i64 Z0)).setCell (p := ⟨w.heap.size + 1, 6, none⟩) (show w.heap.size ≤ w.heap.size + 1 by omega) (.slice ra evs.length rc))
        have hz3 : w.heap.size + 1 < w3.heap.size := (Array.getElem?_eq_some_iff.1 HE3.out).1
        have OW4 := Lib.hid (own_setE (own_setE (own_setE (own_setE (own_setE (own_less (show w.heap.size + 2 ≤ w3.heap.size by omega) hown) (w.heap.size + 1) 2 (by omega) (.string S0)) (w.heap.size + 1) 3 (by omega) (.int .i64 X0)) (w.heap.size + 1) 4 (by omega) (.int .i64 Y0)) (w.heap.size + 1) 5 (by omega) (.int .i64 Z0)) (w.heap.size + 1) 6 (by omega) (.slice ra evs.length rc))
        simp only [List.setIfInBounds_toArray, List.set_cons_zero, List.set_cons_succ] at HE4
        clear he3 hr3 hb3 hown
        have r0 : (((((w4.setCell ⟨w.heap.size + 1, 2, none⟩ (.string S0)).setCell ⟨w.heap.size + 1, 3, none⟩ (.int .i64 X0)).setCell ⟨w.heap.size + 1, 4, none⟩ (.int .i64 Y0)).setCell ⟨w.heap.size + 1, 5, none⟩ (.int .i64 Z0)).setCell ⟨w.heap.size + 1, 6, none⟩ (.slice ra evs.length rc)).frozen? ⟨w.heap.size, 0, none⟩ = false := Lib.frozen_of_heap HR4.out 0
        have r1 : (((((w4.setCell ⟨w.heap.size + 1, 2, none⟩ (.string S0)).setCell ⟨w.heap.size + 1, 3, none⟩ (.int .i64 X0)).setCell ⟨w.heap.size + 1, 4, none⟩ (.int .i64 Y0)).setCell ⟨w.heap.size + 1, 5, none⟩ (.int .i64 Z0)).setCell ⟨w.heap.size + 1, 6, none⟩ (.slice ra evs.length rc)).frozen? ⟨w.heap.size, 1, none⟩ = false := Lib.frozen_of_heap HR4.out 1
        have r2 : (((((w4.setCell ⟨w.heap.size + 1, 2, none⟩ (.string S0)).setCell ⟨w.heap.size + 1, 3, none⟩ (.int .i64 X0)).setCell ⟨w.heap.size + 1, 4, none⟩ (.int .i64 Y0)).setCell ⟨w.heap.size + 1, 5, none⟩ (.int .i64 Z0)).setCell ⟨w.heap.size + 1, 6, none⟩ (.slice ra evs.length rc)).frozen? ⟨w.heap.size, 2, none⟩ = false := Lib.frozen_of_heap HR4.out 2
        have r3 : (((((w4.setCell ⟨w.heap.size + 1, 2, none⟩ (.string S0)).setCell ⟨w.heap.size + 1, 3, none⟩ (.int .i64 X0)).setCell ⟨w.heap.size + 1, 4, none⟩ (.int .i64 Y0)).setCell ⟨w.heap.size + 1, 5, none⟩ (.int .i64 Z0)).setCell ⟨w.heap.size + 1, 6, none⟩ (.slice ra evs.length rc)).frozen? ⟨w.heap.size, 3, none⟩ = false := Lib.frozen_of_heap HR4.out 3
        have r4 : (((((w4.setCell ⟨w.heap.size + 1, 2, none⟩ (.string S0)).setCell ⟨w.heap.size + 1, 3, none⟩ (.int .i64 X0)).setCell ⟨w.heap.size + 1, 4, none⟩ (.int .i64 Y0)).setCell ⟨w.heap.size + 1, 5, none⟩ (.int .i64 Z0)).setCell ⟨w.heap.size + 1, 6, none⟩ (.slice ra evs.length rc)).frozen? ⟨w.heap.size, 4, none⟩ = false := Lib.frozen_of_heap HR4.out 4
        have r5 : (((((w4.setCell ⟨w.heap.size + 1, 2, none⟩ (.string S0)).setCell ⟨w.heap.size + 1, 3, none⟩ (.int .i64 X0)).setCell ⟨w.heap.size + 1, 4, none⟩ (.int .i64 Y0)).setCell ⟨w.heap.size + 1, 5, none⟩ (.int .i64 Z0)).setCell ⟨w.heap.size + 1, 6, none⟩ (.slice ra evs.length rc)).frozen? ⟨w.heap.size, 5, none⟩ = false := Lib.frozen_of_heap HR4.out 5
        have r6 : (((((w4.setCell ⟨w.heap.size + 1, 2, none⟩ (.string S0)).setCell ⟨w.heap.size + 1, 3, none⟩ (.int .i64 X0)).setCell ⟨w.heap.size + 1, 4, none⟩ (.int .i64 Y0)).setCell ⟨w.heap.size + 1, 5, none⟩ (.int .i64 Z0)).setCell ⟨w.heap.size + 1, 6, none⟩ (.slice ra evs.length rc)).frozen? ⟨w.heap.size, 6, none⟩ = false := Lib.frozen_of_heap HR4.out 6
        have s0 : (((((w4.setCell ⟨w.heap.size + 1, 2, none⟩ (.string S0)).setCell ⟨w.heap.size + 1, 3, none⟩ (.int .i64 X0)).setCell ⟨w.heap.size + 1, 4, none⟩ (.int .i64 Y0)).setCell ⟨w.heap.size + 1, 5, none⟩ (.int .i64 Z0)).setCell ⟨w.heap.size + 1, 6, none⟩ (.slice ra evs.length rc)).cell? ⟨w.heap.size, 0, none⟩ = some (.int .i64 0) := by rw [Lib.cell_of_heap HR4.out]; rfl
        have s1 : (((((w4.setCell ⟨w.heap.size + 1, 2, none⟩ (.string S0)).setCell ⟨w.heap.size + 1, 3, none⟩ (.int .i64 X0)).setCell ⟨w.heap.size + 1, 4, none⟩ (.int .i64 Y0)).setCell ⟨w.heap.size + 1, 5, none⟩ (.int .i64 Z0)).setCell ⟨w.heap.size + 1, 6, none⟩ (.slice ra evs.length rc)).cell? ⟨w.heap.size, 1, none⟩ = some (.int .i64 0) := by rw [Lib.cell_of_heap HR4.out]; rfl
        have s2 : (((((w4.setCell ⟨w.heap.size + 1, 2, none⟩ (.string S0)).setCell ⟨w.heap.size + 1, 3, none⟩ (.int .i64 X0)).setCell ⟨w.heap.size + 1, 4, none⟩ (.int .i64 Y0)).setCell ⟨w.heap.size + 1, 5, none⟩ (.int .i64 Z0)).setCell ⟨w.heap.size + 1, 6, none⟩ (.slice ra evs.length rc)).cell? ⟨w.heap.size, 2, none⟩ = some (.string ⟨#[]⟩) := by rw [Lib.cell_of_heap HR4.out]; rfl
        have s3 : (((((w4.setCell ⟨w.heap.size + 1, 2, none⟩ (.string S0)).setCell ⟨w.heap.size + 1, 3, none⟩ (.int .i64 X0)).setCell ⟨w.heap.size + 1, 4, none⟩ (.int .i64 Y0)).setCell ⟨w.heap.size + 1, 5, none⟩ (.int .i64 Z0)).setCell ⟨w.heap.size + 1, 6, none⟩ (.slice ra evs.length rc)).cell? ⟨w.heap.size, 3, none⟩ = some (.int .i64 0) := by rw [Lib.cell_of_heap HR4.out]; rfl
        have s4 : (((((w4.setCell ⟨w.heap.size + 1, 2, none⟩ (.string S0)).setCell ⟨w.heap.size + 1, 3, none⟩ (.int .i64 X0)).setCell ⟨w.heap.size + 1, 4, none⟩ (.int .i64 Y0)).setCell ⟨w.heap.size + 1, 5, none⟩ (.int .i64 Z0)).setCell ⟨w.heap.size + 1, 6, none⟩ (.slice ra evs.length rc)).cell? ⟨w.heap.size, 4, none⟩ = some (.int .i64 0) := by rw [Lib.cell_of_heap HR4.out]; rfl
        have s5 : (((((w4.setCell ⟨w.heap.size + 1, 2, none⟩ (.string S0)).setCell ⟨w.heap.size + 1, 3, none⟩ (.int .i64 X0)).setCell ⟨w.heap.size + 1, 4, none⟩ (.int .i64 Y0)).setCell ⟨w.heap.size + 1, 5, none⟩ (.int .i64 Z0)).setCell ⟨w.heap.size + 1, 6, none⟩ (.slice ra evs.length rc)).cell? ⟨w.heap.size, 5, none⟩ = some (.int .i64 0) := by rw [Lib.cell_of_heap HR4.out]; rfl
        have s6 : (((((w4.setCell ⟨w.heap.size + 1, 2, none⟩ (.string S0)).setCell ⟨w.heap.size + 1, 3, none⟩ (.int .i64 X0)).setCell ⟨w.heap.size + 1, 4, none⟩ (.int .i64 Y0)).setCell ⟨w.heap.size + 1, 5, none⟩ (.int .i64 Z0)).setCell ⟨w.heap.size + 1, 6, none⟩ (.slice ra evs.length rc)).cell? ⟨w.heap.size, 6, none⟩ = some (.slice none 0 0) := by rw [Lib.cell_of_heap HR4.out]; rfl
        go_wp2_with fail
        (try simp only [Exit.inBlock, Exit.then])
        have hgf := blk_set7 HR4.out (.int .i64 0) (.int .i64 0) (.string ⟨#[]⟩) (.int .i64 0) (.int .i64 0) (.int .i64 0) (.slice none 0 0)
        refine bodyPost_ret (ret_cellg rfl _ _ w.heap.size #[.int .i64 0, .int .i64 0, .string ⟨#[]⟩, .int .i64 0, .int .i64 0, .int .i64 0, .slice none 0 0] _ _ (by rfl) hgf Tryz.underlying53 rfl ensize) rfl ?_
        exact ⟨.slice none 0 0, rfl, World.ownsRow_nil _ _ _ _, below_set7 HB4.out (Nat.le_refl _) _ _ _ _ _ _ _⟩
    · rw [rawR_err2 h1 h2 h20] at h
      simp only [Prod.mk.injEq] at h
      obtain ⟨rfl, rfl, rfl⟩ := h
      have g2 : ((e2 : Int) == 0) = false := by simp; omega
      have g2' : ((e2 : Int) != 0) = true := by simp; omega
      clear h1 h2 hl hl1 hl2
      go_enter Tryz.func85, Tryz.ntmps85
      go_wp2_with fail
      refine (C1.out _).mono ?_
      rintro r w1 ⟨rfl, hb1⟩
      have he1 := (hb1.block (w.heap.size + 1) (by simp only [World.size_alloc]; omega)).trans HG1.out
      have hr1 := (hb1.block w.heap.size (by simp only [World.size_alloc]; omega)).trans HG0.out
      have f0 : w1.frozen? ⟨w.heap.size + 1, 0, none⟩ = false := Lib.frozen_of_heap he1 0
      have c0 : w1.cell? ⟨w.heap.size + 1, 0, none⟩ = some (.int .i64 0) := by rw [Lib.cell_of_heap he1]; rfl
      have HE2 := Lib.hid (blk_set he1 0 (.int .i64 (n1 : Int)))
      have HR2 := Lib.hid (gb_heap (gb_set w1 (w.heap.size + 1) 0 (.int .i64 (n1 : Int))) hr1 (by omega))
      have HB2 := Lib.hid ((bstep HB0.out hb1).setCell (p := ⟨w.heap.size + 1, 0, none⟩) (show w.heap.size ≤ w.heap.size + 1 by omega) (.int .i64 (n1 : Int)))
      clear he1 hr1 hb1
      go_wp2_with fail
      generalize w1.setCell ⟨w.heap.size + 1, 0, none⟩ (.int .i64 (n1 : Int)) = w2 at *
      clear f0 c0
      refine (C2.out _).mono ?_
      rintro r w1' ⟨rfl, hb2⟩
      have he2 := (hb2.block (w.heap.size + 1) (Array.getElem?_eq_some_iff.1 HE2.out).1).trans HE2.out
      have hr2 := (hb2.block w.heap.size (Array.getElem?_eq_some_iff.1 HR2.out).1).trans HR2.out
      have f1 : w1'.frozen? ⟨w.heap.size + 1, 1, none⟩ = false := Lib.frozen_of_heap he2 1
      have c1 : w1'.cell? ⟨w.heap.size + 1, 1, none⟩ = some (.int .i64 0) := by rw [Lib.cell_of_heap he2]; rfl
      have HE3 := Lib.hid (blk_set he2 1 (.int .i64 (n2 : Int)))
      have HR3 := Lib.hid (gb_heap (gb_set w1' (w.heap.size + 1) 1 (.int .i64 (n2 : Int))) hr2 (by omega))
      have HB3 := Lib.hid ((bstep HB2.out hb2).setCell (p := ⟨w.heap.size + 1, 1, none⟩) (show w.heap.size ≤ w.heap.size + 1 by omega) (.int .i64 (n2 : Int)))
      clear he2 hr2 hb2
      have r0 : (w1'.setCell ⟨w.heap.size + 1, 1, none⟩ (.int .i64 (n2 : Int))).frozen? ⟨w.heap.size, 0, none⟩ = false := Lib.frozen_of_heap HR3.out 0
      have r1 : (w1'.setCell ⟨w.heap.size + 1, 1, none⟩ (.int .i64 (n2 : Int))).frozen? ⟨w.heap.size, 1, none⟩ = false := Lib.frozen_of_heap HR3.out 1
      have r2 : (w1'.setCell ⟨w.heap.size + 1, 1, none⟩ (.int .i64 (n2 : Int))).frozen? ⟨w.heap.size, 2, none⟩ = false := Lib.frozen_of_heap HR3.out 2
      have r3 : (w1'.setCell ⟨w.heap.size + 1, 1, none⟩ (.int .i64 (n2 : Int))).frozen? ⟨w.heap.size, 3, none⟩ = false := Lib.frozen_of_heap HR3.out 3
      have r4 : (w1'.setCell ⟨w.heap.size + 1, 1, none⟩ (.int .i64 (n2 : Int))).frozen? ⟨w.heap.size, 4, none⟩ = false := Lib.frozen_of_heap HR3.out 4
      have r5 : (w1'.setCell ⟨w.heap.size + 1, 1, none⟩ (.int .i64 (n2 : Int))).frozen? ⟨w.heap.size, 5, none⟩ = false := Lib.frozen_of_heap HR3.out 5
      have r6 : (w1'.setCell ⟨w.heap.size + 1, 1, none⟩ (.int .i64 (n2 : Int))).frozen? ⟨w.heap.size, 6, none⟩ = false := Lib.frozen_of_heap HR3.out 6
      have s0 : (w1'.setCell ⟨w.heap.size + 1, 1, none⟩ (.int .i64 (n2 : Int))).cell? ⟨w.heap.size, 0, none⟩ = some (.int .i64 0) := by rw [Lib.cell_of_heap HR3.out]; rfl
      have s1 : (w1'.setCell ⟨w.heap.size + 1, 1, none⟩ (.int .i64 (n2 : Int))).cell? ⟨w.heap.size, 1, none⟩ = some (.int .i64 0) := by rw [Lib.cell_of_heap HR3.out]; rfl
      have s2 : (w1'.setCell ⟨w.heap.size + 1, 1, none⟩ (.int .i64 (n2 : Int))).cell? ⟨w.heap.size, 2, none⟩ = some (.string ⟨#[]⟩) := by rw [Lib.cell_of_heap HR3.out]; rfl
      have s3 : (w1'.setCell ⟨w.heap.size + 1, 1, none⟩ (.int .i64 (n2 : Int))).cell? ⟨w.heap.size, 3, none⟩ = some (.int .i64 0) := by rw [Lib.cell_of_heap HR3.out]; rfl
      have s4 : (w1'.setCell ⟨w.heap.size + 1, 1, none⟩ (.int .i64 (n2 : Int))).cell? ⟨w.heap.size, 4, none⟩ = some (.int .i64 0) := by rw [Lib.cell_of_heap HR3.out]; rfl
      have s5 : (w1'.setCell ⟨w.heap.size + 1, 1, none⟩ (.int .i64 (n2 : Int))).cell? ⟨w.heap.size, 5, none⟩ = some (.int .i64 0) := by rw [Lib.cell_of_heap HR3.out]; rfl
      have s6 : (w1'.setCell ⟨w.heap.size + 1, 1, none⟩ (.int .i64 (n2 : Int))).cell? ⟨w.heap.size, 6, none⟩ = some (.slice none 0 0) := by rw [Lib.cell_of_heap HR3.out]; rfl
      go_wp2_with fail
      (try simp only [Exit.inBlock, Exit.then])
      have hgf := blk_set7 HR3.out (.int .i64 0) (.int .i64 0) (.string ⟨#[]⟩) (.int .i64 0) (.int .i64 0) (.int .i64 0) (.slice none 0 0)
      refine bodyPost_ret (ret_cellg rfl _ _ w.heap.size #[.int .i64 0, .int .i64 0, .string ⟨#[]⟩, .int .i64 0, .int .i64 0, .int .i64 0, .slice none 0 0] _ _ (by rfl) hgf Tryz.underlying53 rfl ensize) rfl ?_
      exact ⟨.slice none 0 0, rfl, World.ownsRow_nil _ _ _ _, below_set7 HB3.out (Nat.le_refl _) _ _ _ _ _ _ _⟩
  · rw [rawR_err1 h1 h10] at h
    simp only [Prod.mk.injEq] at h
    obtain ⟨rfl, rfl, rfl⟩ := h
    have g1 : ((e1 : Int) == 0) = false := by simp; omega
    have g1' : ((e1 : Int) != 0) = true := by simp; omega
    clear h1 hl hl1
    go_enter Tryz.func85, Tryz.ntmps85
    go_wp2_with fail
    refine (C1.out _).mono ?_
    rintro r w1 ⟨rfl, hb1⟩
    have he1 := (hb1.block (w.heap.size + 1) (by simp only [World.size_alloc]; omega)).trans HG1.out
    have hr1 := (hb1.block w.heap.size (by simp only [World.size_alloc]; omega)).trans HG0.out
    have f0 : w1.frozen? ⟨w.heap.size + 1, 0, none⟩ = false := Lib.frozen_of_heap he1 0
    have c0 : w1.cell? ⟨w.heap.size + 1, 0, none⟩ = some (.int .i64 0) := by rw [Lib.cell_of_heap he1]; rfl
    have HE2 := Lib.hid (blk_set he1 0 (.int .i64 (n1 : Int)))
    have HR2 := Lib.hid (gb_heap (gb_set w1 (w.heap.size + 1) 0 (.int .i64 (n1 : Int))) hr1 (by omega))
    have HB2 := Lib.hid ((bstep HB0.out hb1).setCell (p := ⟨w.heap.size + 1, 0, none⟩) (show w.heap.size ≤ w.heap.size + 1 by omega) (.int .i64 (n1 : Int)))
    clear he1 hr1 hb1
    have r0 : (w1.setCell ⟨w.heap.size + 1, 0, none⟩ (.int .i64 (n1 : Int))).frozen? ⟨w.heap.size, 0, none⟩ = false := Lib.frozen_of_heap HR2.out 0
    have r1 : (w1.setCell ⟨w.heap.size + 1, 0, none⟩ (.int .i64 (n1 : Int))).frozen? ⟨w.heap.size, 1, none⟩ = false := Lib.frozen_of_heap HR2.out 1
    have r2 : (w1.setCell ⟨w.heap.size + 1, 0, none⟩ (.int .i64 (n1 : Int))).frozen? ⟨w.heap.size, 2, none⟩ = false := Lib.frozen_of_heap HR2.out 2
    have r3 : (w1.setCell ⟨w.heap.size + 1, 0, none⟩ (.int .i64 (n1 : Int))).frozen? ⟨w.heap.size, 3, none⟩ = false := Lib.frozen_of_heap HR2.out 3
    have r4 : (w1.setCell ⟨w.heap.size + 1, 0, none⟩ (.int .i64 (n1 : Int))).frozen? ⟨w.heap.size, 4, none⟩ = false := Lib.frozen_of_heap HR2.out 4
    have r5 : (w1.setCell ⟨w.heap.size + 1, 0, none⟩ (.int .i64 (n1 : Int))).frozen? ⟨w.heap.size, 5, none⟩ = false := Lib.frozen_of_heap HR2.out 5
    have r6 : (w1.setCell ⟨w.heap.size + 1, 0, none⟩ (.int .i64 (n1 : Int))).frozen? ⟨w.heap.size, 6, none⟩ = false := Lib.frozen_of_heap HR2.out 6
    have s0 : (w1.setCell ⟨w.heap.size + 1, 0, none⟩ (.int .i64 (n1 : Int))).cell? ⟨w.heap.size, 0, none⟩ = some (.int .i64 0) := by rw [Lib.cell_of_heap HR2.out]; rfl
    have s1 : (w1.setCell ⟨w.heap.size + 1, 0, none⟩ (.int .i64 (n1 : Int))).cell? ⟨w.heap.size, 1, none⟩ = some (.int .i64 0) := by rw [Lib.cell_of_heap HR2.out]; rfl
    have s2 : (w1.setCell ⟨w.heap.size + 1, 0, none⟩ (.int .i64 (n1 : Int))).cell? ⟨w.heap.size, 2, none⟩ = some (.string ⟨#[]⟩) := by rw [Lib.cell_of_heap HR2.out]; rfl
    have s3 : (w1.setCell ⟨w.heap.size + 1, 0, none⟩ (.int .i64 (n1 : Int))).cell? ⟨w.heap.size, 3, none⟩ = some (.int .i64 0) := by rw [Lib.cell_of_heap HR2.out]; rfl
    have s4 : (w1.setCell ⟨w.heap.size + 1, 0, none⟩ (.int .i64 (n1 : Int))).cell? ⟨w.heap.size, 4, none⟩ = some (.int .i64 0) := by rw [Lib.cell_of_heap HR2.out]; rfl
    have s5 : (w1.setCell ⟨w.heap.size + 1, 0, none⟩ (.int .i64 (n1 : Int))).cell? ⟨w.heap.size, 5, none⟩ = some (.int .i64 0) := by rw [Lib.cell_of_heap HR2.out]; rfl
    have s6 : (w1.setCell ⟨w.heap.size + 1, 0, none⟩ (.int .i64 (n1 : Int))).cell? ⟨w.heap.size, 6, none⟩ = some (.slice none 0 0) := by rw [Lib.cell_of_heap HR2.out]; rfl
    go_wp2_with fail
    (try simp only [Exit.inBlock, Exit.then])
    have hgf := blk_set7 HR2.out (.int .i64 0) (.int .i64 0) (.string ⟨#[]⟩) (.int .i64 0) (.int .i64 0) (.int .i64 0) (.slice none 0 0)
    refine bodyPost_ret (ret_cellg rfl _ _ w.heap.size #[.int .i64 0, .int .i64 0, .string ⟨#[]⟩, .int .i64 0, .int .i64 0, .int .i64 0, .slice none 0 0] _ _ (by rfl) hgf Tryz.underlying53 rfl ensize) rfl ?_
    exact ⟨.slice none 0 0, rfl, World.ownsRow_nil _ _ _ _, below_set7 HB2.out (Nat.le_refl _) _ _ _ _ _ _ _⟩
end Go.Proofs.YtflojipkgaocnaaGreatDoor
