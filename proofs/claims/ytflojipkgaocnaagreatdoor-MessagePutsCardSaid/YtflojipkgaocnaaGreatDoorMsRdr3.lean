/-
  The walks of message.reader's events, entries and batch. Printed by gen_msrdr.py of this claim's writer.
-/
import Derived.Test.YtflojipkgaocnaaGreatDoorMsRdr2
namespace Go.Proofs.YtflojipkgaocnaaGreatDoor
open Go.RowKit
set_option linter.unusedSimpArgs false
set_option linter.unusedVariables false

def vcell (e : EV) : List Value := [.string e.kind, .string e.data]
abbrev goE : Nat → List UInt8 → Nat → List EV × List UInt8 × Nat := rdBreak (rdIf zeroE takeE)
theorem tabs_gb {w W : World} {rb : Nat} (h : Tabs w) (k : w.grownBy W (some rb)) (hrb : 2 ≤ rb) : Tabs W := by
  refine ⟨fun c hc => gb_cell k (h.1 c hc) (by omega), fun i hi => ⟨gb_cell k (h.2 i hi).1 (by omega), gb_cell k (h.2 i hi).2 (by omega)⟩⟩
theorem takeE_le (l : List UInt8) : (takeE l).2.1.length ≤ l.length := by
  by_cases h : (takeE l).2.2 = 0
  · have hb := (event_cod.back l 0 (by rw [rdIf, if_neg (by simp)]; exact h)).2.1
    rw [rdIf, if_neg (by simp)] at hb
    have := congrArg List.length hb
    rw [List.length_append] at this
    omega
  · obtain ⟨v, r, e, hv⟩ : ∃ a b c, takeE l = (a, b, c) := ⟨_, _, _, rfl⟩
    rw [hv] at h ⊢
    rw [(takeE_bad hv h).2]
    simp

set_option maxRecDepth 100000 in
set_option maxHeartbeats 6400000 in
theorem rmEvents_any (rb : Nat) (l : List UInt8) (e : Nat) (v : List EV) (l' : List UInt8) (e' : Nat) (h : rdEvs l e = (v, l', e')) (hl : l.length ≤ maxLen) (w : World) (hw : RmAt rb l e w) (hT : Tabs w) (hrb : 2 ≤ rb) :
    Calls Tryz.prog 61 #[.pointer (some ⟨rb, 0, none⟩)] w fun r w' => GotList 55 2 vcell rb v l' e' w r w' := by
  obtain ⟨cnt, l1, e1, h1⟩ : ∃ a b c, rdMany 16 l e = (a, b, c) := ⟨_, _, _, rfl⟩
  have CM := Lib.hid (rmMany_any rb 16 l e cnt l1 e1 h1 hl)
  have hcnt : cnt ≤ 16 := by
    unfold rdMany at h1
    split at h1
    · simp only [Prod.mk.injEq] at h1; omega
    · split at h1
      · simp only [Prod.mk.injEq] at h1; omega
      · rename_i q
        rw [h1] at q
        exact Nat.le_of_not_lt q
  have hl1 : l1.length ≤ maxLen := by
    have h2 : l1 = (rdNum l e).2.1 := by
      unfold rdMany at h1
      split at h1
      · simp only [Prod.mk.injEq] at h1; rw [h1.2]
      · split at h1
        · simp only [Prod.mk.injEq] at h1; exact h1.2.1.symm
        · rw [h1]
    rw [h2]
    exact Nat.le_trans (rdNum_le _ _) hl
  unfold rdEvs rdList at h
  rw [h1] at h
  simp only at h
  have HH := Lib.hid h
  have HW := Lib.hid hw
  have HL1 := Lib.hid hl1
  have hlt := hw.lt
  have HT := Lib.hid hT
  have CE := Lib.hid (fun (li : List UInt8) (hli : li.length ≤ maxLen) (X : World) (hX : w.grownBy X (some rb)) => takeE_any li (takeE li).1 (takeE li).2.1 (takeE li).2.2 rfl hli X (tabs_gb HT.out hX hrb))
  obtain ⟨i0, hi0, hzz0, hzz1, hzz2⟩ := info_parts Tryz.evinfo
  clear h h1 hl hw hl1 hT
  go_enter Tryz.func61, Tryz.ntmps61
  go_wp2_with fail
  refine (CM.out _ HW.out).mono ?_
  rintro r w1 ⟨rfl, hw1, g1⟩
  have HW1 := Lib.hid hw1
  have G1 := Lib.hid g1
  clear hw1 g1
  go_wp2_with fail
  go_loopw [3, 4, 5, 6, 9] (fun t3 _ _ _ t9 wr => ListRel 55 2 vcell goE rb cnt (v, l', e') w t3 t9 wr) (fun _ _ _ _ t9 _ => cnt - (intOf t9).toNat)
  case atStart => exact ⟨[], l1, e1, rfl, Nat.zero_le _, HL1.out, by rw [← HH.out]; simp, World.ownsRow_nil _ _ _ _, HW1.out, G1.out⟩
  case round =>
    obtain ⟨ds, li, ei, rfl, hdl, hli, hG, hown, hrm, hgb⟩ := hrel
    have HG := Lib.hid hG
    have HLI := Lib.hid hli
    have HOW := Lib.hid hown
    have HRM := Lib.hid hrm
    have HGB := Lib.hid hgb
    obtain ⟨ra, rc, rfl⟩ := own_form hown
    obtain ⟨y0, y1, f0, f1⟩ := hrm.cells
    clear hG hli hown hrm hgb
    by_cases hlt2 : ds.length < cnt
    · have i2 : (ds.length : Int) < (cnt : Int) := by omega
      by_cases h0 : ei = 0
      · subst h0
        go_wp2_with fail
        refine (CE.out li HLI.out _ HGB.out).mono ?_
        rintro r w2 ⟨rfl, hb2⟩
        obtain ⟨y, l2, e2, h2⟩ : ∃ a b c, takeE li = (a, b, c) := ⟨_, _, _, rfl⟩
        have hle : l2.length ≤ maxLen := by have := takeE_le li; rw [h2] at this; exact Nat.le_trans this HLI.out
        have hnx : goE (cnt - ds.length) li 0 = (y :: (goE (cnt - (ds.length + 1)) l2 e2).1, (goE (cnt - (ds.length + 1)) l2 e2).2) := by
          rw [show cnt - ds.length = (cnt - (ds.length + 1)) + 1 by omega]
          show rdBreak _ (_ + 1) li 0 = _
          rw [rdBreak, if_neg (by simp), rdIf, if_neg (by simp), h2]
        simp only [h2]
        have HNX := Lib.hid hnx
        have HLE := Lib.hid hle
        have hr2 := HRM.out.keep hb2
        have hgS := (gb_set w2 rb 0 (.string (bstr l2))).trans (gb_set _ rb 1 (.int .i64 (e2 : Int)))
        have hrS := hr2.set (l' := l2) (e' := e2)
        have hsS : ((w2.setCell ⟨rb, 0, none⟩ (.string (bstr l2))).setCell ⟨rb, 1, none⟩ (.int .i64 (e2 : Int))).heap.size = w2.heap.size := by rw [World.size_setCell, World.size_setCell]
        have hoS := own_rb (own_below hb2 HOW.out) hlt hgS
        have hgbS := (gb_bel HGB.out hb2).trans hgS
        have hsz : w.heap.size ≤ w2.heap.size := Nat.le_trans HGB.out.size hb2.size
        have hrl : rb < w2.heap.size := hr2.lt
        obtain ⟨WS, hWS⟩ : ∃ WS, (w2.setCell ⟨rb, 0, none⟩ (.string (bstr l2))).setCell ⟨rb, 1, none⟩ (.int .i64 (e2 : Int)) = WS := ⟨_, rfl⟩
        rw [hWS] at hrS hsS hoS hgbS
        have hC : Below WS.heap.size WS ((WS.alloc (.cells #[.string y.kind, .string y.data] 55)).alloc (.cells #[.string y.kind, .string y.data] 55)) := ((Below.refl _ _).alloc (Nat.le_refl _) _).alloc (by rw [World.size_alloc]; omega) _
        have hr8 := hrS.keep hC
        have ho8 := own_below hC hoS
        have hg8 := gb_bel hgbS hC
        have hgb0 := heap_alloc2_new WS (.cells #[.string y.kind, .string y.data] 55) (.cells #[.string y.kind, .string y.data] 55)
        rw [hsS] at hgb0
        rw [← hWS] at hr8 ho8 hg8 hgb0
        have HR8a := Lib.hid hr8
        have HOW8a := Lib.hid ho8
        have HG8a := Lib.hid hg8
        have GB0 := Lib.hid hgb0
        clear hb2 h2 hnx hle y0 y1 f0 f1 hgS hrS hsS hoS hgbS hWS hC hr8 ho8 hg8 hgb0
        obtain ⟨y0, y1, f0, f1⟩ := hr2.cells
        have ne1 : w2.heap.size ≠ rb := by omega
        have ne2 : rb ≠ w2.heap.size := by omega
        clear hr2
        go_wp2_with (at_builtin; refine wpList_append_lies _ rfl _ _ 26 rfl w.heap.size 55 i0 _ 2 32 Tryz.underlying26 hi0 hzz0 hzz1 hzz2 rfl (by omega) _ _ _ rfl HOW8a.out ⟨w2.heap.size + 1, 0, none⟩ 1 1 [.string y.kind, .string y.data] rfl rfl (World.news_of_block GB0.out) (by simp [Value.oneCell']) (by omega) (by unfold maxLen; omega) (by omega) (by simp only [World.size_alloc, World.size_setCell]; omega) _ rfl ?_; intro gg cap2 w8 hown8 hgrow hat hlt8; have HOW8 := Lib.hid hown8; have HR8 := Lib.hid (HR8a.out.row HOW8a.out hlt hgrow); have HG8 := Lib.hid (gb_row HG8a.out HOW8a.out (Nat.le_refl _) hgrow); clear hown8 hgrow hat)
        go_roundw
        case rel =>
          refine ⟨ds ++ [y], l2, e2, by rw [List.length_append]; go_num, by rw [List.length_append, List.length_singleton]; omega, HLE.out, ?_, ?_, HR8.out, HG8.out⟩
          · rw [HG.out, HNX.out, List.length_append, List.length_singleton]
            simp
          · rw [List.length_append, List.length_singleton, List.flatMap_append]
            exact HOW8.out
        case measure => simp [intOf]; omega
      · have g0 : ((ei : Int) != 0) = true := by simp; omega
        have hx : goE (cnt - ds.length) li ei = ([], li, ei) := rdBreak_err h0
        have hG := HG.out
        rw [hx, List.append_nil] at hG
        simp only [Prod.mk.injEq] at hG
        obtain ⟨rfl, rfl, rfl⟩ := hG
        clear hx
        go_wp2_with fail
        go_ret
        exact ⟨_, rfl, HOW.out, HRM.out, HGB.out⟩
    · have i2 : ¬ (ds.length : Int) < (cnt : Int) := by omega
      have hx : goE (cnt - ds.length) li ei = ([], li, ei) := by rw [show cnt - ds.length = 0 by omega]; rfl
      have hG := HG.out
      rw [hx, List.append_nil] at hG
      simp only [Prod.mk.injEq] at hG
      obtain ⟨rfl, rfl, rfl⟩ := hG
      clear hx
      go_wp2_with fail
      go_ret
      exact ⟨_, rfl, HOW.out, HRM.out, HGB.out⟩

/-- Entries that were read, in rows of the call's own. -/
def GotEntries (rb : Nat) (v : List EN) (l' : List UInt8) (e' : Nat) (w : World) (r : Ending) (w' : World) : Prop :=
  ∃ (lv : Value) (P : List (EN × Value)), r = .returned lv ∧ P.map (·.1) = v ∧ w'.ownsRow w.heap.size 53 7 lv P.length (P.flatMap ecell) ∧ EvOwn w.heap.size w' P ∧ RmAt rb l' e' w' ∧ w.grownBy w' (some rb)

set_option maxRecDepth 100000 in
set_option maxHeartbeats 1600000 in
theorem rmEntries_any (rb : Nat) (l : List UInt8) (e : Nat) (v : List EN) (l' : List UInt8) (e' : Nat) (h : rdRow l e = (v, l', e')) (hl : l.length ≤ maxLen) (w : World) (hw : RmAt rb l e w) (hT : Tabs w) :
    Calls Tryz.prog 58 #[.pointer (some ⟨rb, 0, none⟩)] w fun r w' => GotEntries rb v l' e' w r w' := by
  have HW := Lib.hid hw
  have hlt := hw.lt
  obtain ⟨y0, y1, f0, f1⟩ := hw.cells
  unfold rdRow rdIf at h
  by_cases h0 : e = 0
  · subst h0
    rw [if_neg (by simp)] at h
    have C := Lib.hid (takeRow_any l 8 (by omega) v l' e' h hl w hT)
    clear hw h hT
    go_enter Tryz.func58, Tryz.ntmps58
    go_wp2_with fail
    refine C.out.mono ?_
    rintro r w1 ⟨lv, P, rfl, hP, hown, hev, hb1⟩
    obtain ⟨la, lc, rfl⟩ := own_form hown
    have hw1 := HW.out.keep hb1
    have HW1 := Lib.hid hw1
    have HOW := Lib.hid hown
    have HEV := Lib.hid hev
    have HB1 := Lib.hid hb1
    have HP := Lib.hid hP
    clear y0 y1 f0 f1 hown hev hb1 hP
    obtain ⟨y0, y1, f0, f1⟩ := hw1.cells
    clear hw1
    go_wp2_with fail
    go_ret
    have hgS := (gb_set w1 rb 0 (.string (bstr l'))).trans (gb_set _ rb 1 (.int .i64 (e' : Int)))
    exact ⟨_, P, rfl, HP.out, own_rb HOW.out hlt hgS, fun p hp => own_rb (HEV.out p hp) hlt hgS, HW1.out.set, (gb_of HB1.out _).trans hgS⟩
  · rw [if_pos h0] at h
    have g0 : ((e : Int) != 0) = true := by simp; omega
    obtain ⟨rfl, rfl, rfl⟩ : [] = v ∧ l = l' ∧ e = e' := by simpa using h
    clear hw h hT
    go_enter Tryz.func58, Tryz.ntmps58
    go_wp2_with fail
    go_ret
    exact ⟨_, [], rfl, rfl, World.ownsRow_nil _ _ _ _, fun p hp => absurd hp (by simp), HW.out, World.grownBy.refl _ _⟩

/-- A batch that was read, its events in a row of the call's own. -/
def GotBatch (rb : Nat) (v : BW) (l' : List UInt8) (e' : Nat) (w : World) (r : Ending) (w' : World) : Prop :=
  ∃ a c, r = .returned (.agg #[.string v.stream, .int .i64 v.expect, .int .i64 v.session, .int .i64 v.seq, .slice a v.events.length c]) ∧ w'.ownsRow w.heap.size 55 2 (.slice a v.events.length c) v.events.length (ecells v.events) ∧ RmAt rb l' e' w' ∧ w.grownBy w' (some rb)
theorem ret_row5 {P : Program} {fn : Func} {p : Tmp} {ty t : TypeId} (h : fn.results = #[.cell p ty]) (tmps : Array Value) (w : World) (g : Nat) (a0 a1 a2 a3 a4 : Value) (fr : Nat × Nat) (d : TypeDesc)
    (hp : tmps.getD p undef = .pointer (some ⟨g, 0, none⟩)) (hg : w.heap[g]? = some (.cells #[a0, a1, a2, a3, a4] t fr))
    (hu : P.underlying ty = some d) (hd : (match d with | .struct _ | .array _ _ => true | _ => false) = true) (hi : (P.info? ty).map (·.size) = some 5) :
    (results fn tmps).run P w = .ok (.agg #[a0, a1, a2, a3, a4]) w :=
  results_cell_row (P := P) h tmps _ g t _ fr d hp hg hu hd (by rw [hi]; simp)
theorem blk_set5' {w : World} {g : Nat} {a0 a1 a2 a3 a4 : Value} {t : TypeId} {fr : Nat × Nat} (h : w.heap[g]? = some (.cells #[a0, a1, a2, a3, a4] t fr)) (v0 v1 v2 v3 v4 : Value) :
    (((((w.setCell ⟨g, 0, none⟩ v0).setCell ⟨g, 1, none⟩ v1).setCell ⟨g, 2, none⟩ v2).setCell ⟨g, 3, none⟩ v3).setCell ⟨g, 4, none⟩ v4).heap[g]? = some (.cells #[v0, v1, v2, v3, v4] t fr) := by
  have h1 := blk_set (blk_set (blk_set (blk_set (blk_set h 0 v0) 1 v1) 2 v2) 3 v3) 4 v4
  simp only [List.setIfInBounds_toArray, List.set_cons_zero, List.set_cons_succ] at h1
  exact h1
theorem gb_set5 {a W : World} {rb g : Nat} (h : a.grownBy W (some rb)) (hg : a.heap.size ≤ g) (v0 v1 v2 v3 v4 : Value) :
    a.grownBy (((((W.setCell ⟨g, 0, none⟩ v0).setCell ⟨g, 1, none⟩ v1).setCell ⟨g, 2, none⟩ v2).setCell ⟨g, 3, none⟩ v3).setCell ⟨g, 4, none⟩ v4) (some rb) :=
  gb_new (gb_new (gb_new (gb_new (gb_new h hg 0 v0) hg 1 v1) hg 2 v2) hg 3 v3) hg 4 v4
theorem rm_set5 {rb : Nat} {l : List UInt8} {e : Nat} {w : World} {g : Nat} (h : RmAt rb l e w) (hg : g ≠ rb) (v0 v1 v2 v3 v4 : Value) : RmAt rb l e (((((w.setCell ⟨g, 0, none⟩ v0).setCell ⟨g, 1, none⟩ v1).setCell ⟨g, 2, none⟩ v2).setCell ⟨g, 3, none⟩ v3).setCell ⟨g, 4, none⟩ v4) :=
  gb_heap (gb_set _ g 4 v4) (gb_heap (gb_set _ g 3 v3) (gb_heap (gb_set _ g 2 v2) (gb_heap (gb_set _ g 1 v1) (gb_heap (gb_set _ g 0 v0) h (by omega)) (by omega)) (by omega)) (by omega)) (by omega)

set_option maxRecDepth 100000 in
set_option maxHeartbeats 3200000 in
theorem rmBatch_any (rb : Nat) (l : List UInt8) (e : Nat) (v : BW) (l' : List UInt8) (e' : Nat) (h : rdBatch l e = (v, l', e')) (hl : l.length ≤ maxLen) (w : World) (hw : RmAt rb l e w) (hT : Tabs w) :
    Calls Tryz.prog 59 #[.pointer (some ⟨rb, 0, none⟩)] w fun r w' => GotBatch rb v l' e' w r w' := by
  have hlt := hw.lt
  have hb0 : Below w.heap.size w (w.alloc (.cells #[.string ⟨#[]⟩, .int .i64 0, .int .i64 0, .int .i64 0, .slice none 0 0] 28)) := (Below.refl _ _).alloc (Nat.le_refl _) _
  have hwA := hw.keep hb0
  have HWA := Lib.hid hwA
  have HG0 := Lib.hid (heap_alloc_new w (.cells #[.string ⟨#[]⟩, .int .i64 0, .int .i64 0, .int .i64 0, .slice none 0 0] 28))
  have HB0 := Lib.hid hb0
  have HT := Lib.hid hT
  obtain ⟨y0, y1, f0, f1⟩ := hwA.cells
  have hn1 : w.heap.size ≠ rb := by omega
  have hn2 : rb ≠ w.heap.size := by omega
  unfold rdBatch rdIf at h
  by_cases h0 : e = 0
  · subst h0
    rw [if_neg (by simp)] at h
    have C := Lib.hid (rdB_own l v l' e' h hl _ (tabs_below HT.out HB0.out))
    obtain ⟨S0, X0, Y0, Z0, evs⟩ := v
    clear hw h hT hwA hb0
    go_enter Tryz.func59, Tryz.ntmps59
    go_wp2_with fail
    refine C.out.mono ?_
    rintro r w1 ⟨la, lc, rfl, hown, hb1⟩
    have HO1 := Lib.hid (own_less (show w.heap.size + 1 ≤ (w.alloc (.cells #[.string ⟨#[]⟩, .int .i64 0, .int .i64 0, .int .i64 0, .slice none 0 0] 28)).heap.size by rw [World.size_alloc]; omega) hown)
    have HB1 := Lib.hid (bstep HB0.out hb1)
    have HW1 := Lib.hid (HWA.out.keep hb1)
    have HG1 := Lib.hid ((hb1.block w.heap.size (by rw [World.size_alloc]; omega)).trans HG0.out)
    have hlt1 : w.heap.size < w1.heap.size := (Array.getElem?_eq_some_iff.1 HG1.out).1
    have hA : Below w1.heap.size w1 (w1.alloc (.cells #[.string S0, .int .i64 X0, .int .i64 Y0, .int .i64 Z0, .slice la evs.length lc] 28)) := (Below.refl _ _).alloc (Nat.le_refl _) _
    have hw2 := HW1.out.keep hA
    have HW2 := Lib.hid hw2
    have HG2 := Lib.hid ((hA.block w.heap.size hlt1).trans HG1.out)
    have HX2 := Lib.hid (heap_alloc_new w1 (.cells #[.string S0, .int .i64 X0, .int .i64 Y0, .int .i64 Z0, .slice la evs.length lc] 28))
    have HB2 := Lib.hid (bstep HB1.out hA)
    have HO2 := Lib.hid (own_below hA HO1.out)
    clear y0 y1 f0 f1 hown hb1 hA hw2
    obtain ⟨y0, y1, f0, f1⟩ := HW1.out.cells
    obtain ⟨z0, z1, z2, z3, z4⟩ := cellsB HG1.out
    obtain ⟨k0, k1, k2, k3, k4⟩ := frozB HG1.out
    have hn3 : w.heap.size ≠ w1.heap.size := by omega
    have hn4 : rb ≠ w1.heap.size := by omega
    have hn5 : w1.heap.size ≠ rb := by omega
    have hn6 : w1.heap.size ≠ w.heap.size := by omega
    have hrl : rb < w1.heap.size := HW1.out.lt
    go_wp2_with fail
    (try simp only [Exit.inBlock, Exit.then])
    have hgS := (gb_set w1 rb 0 (.string (bstr l'))).trans (gb_set _ rb 1 (.int .i64 (e' : Int)))
    have hgr := gb_heap hgS HG1.out hn1
    have hg5 := blk_set5' hgr (.string S0) (.int .i64 X0) (.int .i64 Y0) (.int .i64 Z0) (.slice la evs.length lc)
    have ho5 := own_setE (own_setE (own_setE (own_setE (own_setE (own_rb HO1.out (by omega) hgS) w.heap.size 0 (by omega) (.string S0)) w.heap.size 1 (by omega) (.int .i64 X0)) w.heap.size 2 (by omega) (.int .i64 Y0)) w.heap.size 3 (by omega) (.int .i64 Z0)) w.heap.size 4 (by omega) (.slice la evs.length lc)
    have hr5 := rm_set5 (HW1.out.set (l' := l') (e' := e')) hn1 (.string S0) (.int .i64 X0) (.int .i64 Y0) (.int .i64 Z0) (.slice la evs.length lc)
    have hb5 := gb_set5 ((gb_of HB1.out (some rb)).trans hgS) (Nat.le_refl _) (.string S0) (.int .i64 X0) (.int .i64 Y0) (.int .i64 Z0) (.slice la evs.length lc)
    have hgf := (heap_alloc_old _ (.cells #[.string S0, .int .i64 X0, .int .i64 Y0, .int .i64 Z0, .slice la evs.length lc] 28) (Array.getElem?_eq_some_iff.1 hg5).1).trans hg5
    refine bodyPost_ret (ret_row5 rfl _ _ w.heap.size _ _ _ _ _ _ _ (by rfl) hgf Tryz.underlying28 rfl bsize) rfl ?_
    exact ⟨la, lc, rfl, own_less (show w.heap.size ≤ w.heap.size + 1 by omega) (own_below ((Below.refl _ _).alloc (Nat.le_refl _) _) ho5), hr5.keep ((Below.refl _ _).alloc (Nat.le_refl _) _), gb_bel hb5 ((Below.refl _ _).alloc (Nat.le_refl _) _)⟩
  · rw [if_pos h0] at h
    have g0 : ((e : Int) != 0) = true := by simp; omega
    simp only [Prod.mk.injEq] at h
    obtain ⟨rfl, rfl, rfl⟩ := h
    clear hw hT hwA hb0
    go_enter Tryz.func59, Tryz.ntmps59
    go_wp2_with fail
    (try simp only [Exit.inBlock, Exit.then])
    refine bodyPost_ret (ret_row5 rfl _ _ w.heap.size _ _ _ _ _ _ _ (by rfl) HG0.out Tryz.underlying28 rfl bsize) rfl ?_
    exact ⟨none, 0, rfl, World.ownsRow_nil _ _ _ _, HWA.out, gb_of HB0.out _⟩
end Go.Proofs.YtflojipkgaocnaaGreatDoor
