/-
  The walks of bucketlineref12's Clear and Due.
-/
import Derived.Test.YtpadbkplknnopaaTmRef1
namespace Go.Proofs.Ytpadbkplknnopaa
set_option linter.unusedSimpArgs false
set_option linter.unusedVariables false
open Go.RowKit

theorem own_blk {w w' : World} {b : Nat} {e : TypeId} {sz : Nat} {v : Value} {n : Nat} {xs : List Value} (h : w.ownsRow b e sz v n xs) (hk : ∀ g, v.ownBlock = some g → w'.heap[g]? = w.heap[g]?) : w'.ownsRow b e sz v n xs :=
  ⟨h.1, h.2.imp id (fun ⟨g, cap, cur, e, hb, hg, r⟩ => ⟨g, cap, cur, e, hb, (hk g (by rw [e]; rfl)).trans hg, r⟩)⟩

set_option maxRecDepth 100000 in
set_option maxHeartbeats 1600000 in
theorem rclear_any (B : Nat) (v : Value) (l : List TM) (n : ByteArray) (hl64 : l.length ≤ 900) (w : World) (h : IsTms B w v l) (hB : B ≤ w.heap.size) :
    Calls Try.prog 17 #[v, .string n] w fun r w' => ∃ ra rc, r = .returned (.agg #[.slice ra (clearR n l).length rc]) ∧ OwnR w' w.heap.size (.slice ra (clearR n l).length rc) (clearR n l) ∧ Below w.heap.size w w' := by
  obtain ⟨i0, hi0, hzz0, hzz1, hzz2⟩ := info_parts Try.rinfo
  obtain ⟨lv, rfl, h⟩ := h
  have HL := Lib.hid h
  obtain ⟨a, cap, rfl⟩ := h.form
  have HB := Lib.hid hB
  clear h hB
  go_enter Try.func17, Try.ntmps17
  go_wp2_with fail
  go_loopw [6] (fun t6 wr => ∃ (k : Nat) (na : Option Addr) (nc : Nat) (cur : List TM) (m : Nat), k ≤ l.length ∧ t6 = .int .i64 k ∧ clearR n (l.take k) = cur ∧ cur.length = m ∧ OwnR wr (w.heap.size + 3) (.slice na m nc) cur ∧ wr.heap[w.heap.size]? = some (.cells #[.slice a l.length cap] 34) ∧ wr.heap[w.heap.size + 1]? = some (.cells #[.slice none 0 0] 34) ∧ wr.heap[w.heap.size + 2]? = some (.cells #[.slice na m nc] 34) ∧ Below w.heap.size w wr) (fun t6 _ => l.length - (intOf t6).toNat)
  case atStart =>
    refine ⟨0, none, 0, [], 0, Nat.zero_le _, rfl, rfl, rfl, ownr_nil _ _, ?_⟩
    refine ⟨?_, ?_, ?_, (((Below.refl _ _).alloc (Nat.le_refl _) _).alloc (by rw [World.size_alloc]; omega) _).alloc (by rw [World.size_alloc, World.size_alloc]; omega) _⟩
    · rw [heap_alloc_old _ _ (by rw [World.size_alloc, World.size_alloc]; omega), heap_alloc_old _ _ (by rw [World.size_alloc]; omega)]
      exact heap_alloc_new w _
    · rw [heap_alloc_old _ _ (by rw [World.size_alloc, World.size_alloc]; omega)]
      exact heap_alloc2_new w _ _
    · have h5 := heap_alloc_new ((w.alloc (.cells #[.slice a l.length cap] 34)).alloc (.cells #[.slice none 0 0] 34)) (.cells #[.slice none 0 0] 34)
      rwa [World.size_alloc, World.size_alloc] at h5
  case round =>
    obtain ⟨k, na, nc, cur, m, hk, rfl, hcur, hm, hown, hg0, hg1, hg2, hbl⟩ := hrel
    have hz2 : w.heap.size + 2 < wr.heap.size := (Array.getElem?_eq_some_iff.1 hg2).1
    have y0 : wr.cell? ⟨w.heap.size, 0, none⟩ = some (.slice a l.length cap) := by rw [Lib.cell_of_heap hg0]; rfl
    have hml : m ≤ 900 := by rw [← hm, ← hcur]; exact Nat.le_trans (List.length_filter_le _ _) (by rw [List.length_take]; omega)
    have HOWN := Lib.hid hown
    have HBL := Lib.hid hbl
    have G0 := Lib.hid hg0
    have G1 := Lib.hid hg1
    have GD := Lib.hid hg2
    have HLEN := Lib.hid hm
    have HCUR := Lib.hid hcur
    clear hown hbl hg0 hg1 hg2 hm hcur
    by_cases hlt : k < l.length
    · have hstep : clearR n (l.take (k + 1)) = if decide (l[k].name ≠ n) = true then cur ++ [l[k]] else cur := by
        rw [List.take_succ_eq_append_getElem hlt, clearR, List.filter_append]
        rw [← HCUR.out]
        by_cases hd : decide (l[k].name ≠ n) = true
        · rw [if_pos hd, List.filter_cons, if_pos hd]; rfl
        · rw [if_neg hd, List.filter_cons, if_neg hd]; exact List.append_nil _
      obtain ⟨b, off, q1, he, hbB, _, hc1, hd1⟩ := (HL.out.keep HBL.out HB.out).get k hlt
      obtain ⟨rfl, -, rfl⟩ : a = some ⟨b, off, none⟩ ∧ l.length = l.length ∧ cap = q1 := by injection he with e1 e2 e3; exact ⟨e1, e2, e3⟩
      clear he
      obtain ⟨y, hy⟩ : ∃ y, l[k] = y := ⟨_, rfl⟩
      rw [hy] at hc1 hd1
      have Hy := Lib.hid hy
      have i1 : (0 : Int) ≤ (k : Int) := by omega
      have i2 : (k : Int) < (l.length : Int) := by omega
      clear hy
      have hBH := HB.out
      have hst2 : clearR n (l.take (k + 1)) = if decide (y.name ≠ n) = true then cur ++ [y] else cur := by rw [← Hy.out]; exact hstep
      clear hstep
      by_cases hyn : (y.name.toList == n.toList) = true
      · rw [if_neg (by simp [bytes_eq hyn])] at hst2
        have HST := Lib.hid hst2
        clear hst2 hBH
        go_wp2_with fail
        go_roundw
        case rel => exact ⟨k + 1, na, nc, cur, m, by omega, by go_num, HST.out, HLEN.out, HOWN.out, G0.out, G1.out, GD.out, HBL.out⟩
        case measure => simp [intOf]; omega
      · have hyf : (y.name.toList == n.toList) = false := by simpa using hyn
        have hne : y.name ≠ n := fun e => hyn (by rw [e]; simp)
        rw [if_pos (by simpa using hne)] at hst2
        clear hne
        have HST := Lib.hid hst2
        have MKS := Lib.hid (fun (X : World) (hX : Below (w.heap.size + 2) wr X) => (show (fun X => X.cell? ⟨w.heap.size, 0, none⟩ = some (.slice (some ⟨b, off, none⟩) l.length cap) ∧ X.cell? ⟨b, off + k * 2, none⟩ = some (.string y.name) ∧ X.cell? ⟨b, off + k * 2 + 1, none⟩ = some (.int .i64 y.at_)) X from ⟨(hX.cell (p := ⟨w.heap.size, 0, none⟩) (by simp only; omega)).trans y0, (hX.cell (p := ⟨b, off + k * 2, none⟩) (by simp only; omega)).trans hc1, (hX.cell (p := ⟨b, off + k * 2 + 1, none⟩) (by simp only; omega)).trans hd1⟩))
        clear hst2 hBH hyn
        go_wp2_with fail
        have ydd : wr.cell? ⟨w.heap.size + 2, 0, none⟩ = some (.slice na m nc) := by rw [Lib.cell_of_heap GD.out]; rfl
        refine region_begin (S := fun X => X.cell? ⟨w.heap.size, 0, none⟩ = some (.slice (some ⟨b, off, none⟩) l.length cap) ∧ X.cell? ⟨b, off + k * 2, none⟩ = some (.string y.name) ∧ X.cell? ⟨b, off + k * 2 + 1, none⟩ = some (.int .i64 y.at_)) 11 rfl (by kernel_rfl) (MKS.out _ (Below.refl _ _).drew) (fun hH0 => ?_)
        refine wpAnyH_take (i := 0) (oi := ?op0C) (v := ?vp0C) ?hip0C (by kernel_rfl) (by kernel_rfl) (by kernel_rfl) ?hQp0C ?hyp0C hH0 ?_
        case hip0C => simp only [List.getElem?_toArray, List.getElem?_cons_zero]; rfl
        case hQp0C => exact fun _ _ _ h => h
        case hyp0C => refine Or.inl ⟨by rfl, ?_⟩; intro W hSw; (try dsimp only at hSw); go_simp; try with_reducible rfl
        simp only [Act.put, List.setIfInBounds_toArray, List.set_cons_zero]
        refine wpAnyH_take (i := 2) (oi := ?op2C) (v := ?vp2C) ?hip2C (by kernel_rfl) (by kernel_rfl) (by kernel_rfl) ?hQp2C ?hyp2C hH0 ?_
        case hip2C => simp only [List.getElem?_toArray, List.getElem?_cons_zero, List.getElem?_cons_succ]; rfl
        case hQp2C => exact fun _ _ _ h => h
        case hyp2C => refine Or.inl ⟨by rfl, ?_⟩; intro W hSw; (try dsimp only at hSw); go_simp; try with_reducible rfl
        simp only [Act.put, List.setIfInBounds_toArray, List.set_cons_zero, List.set_cons_succ]
        refine wpAnyH_take (i := 3) (oi := ?op3C) (v := ?vp3C) ?hip3C (by kernel_rfl) (by kernel_rfl) (by kernel_rfl) ?hQp3C ?hyp3C hH0 ?_
        case hip3C => simp only [List.getElem?_toArray, List.getElem?_cons_zero, List.getElem?_cons_succ]; rfl
        case hQp3C => exact fun _ _ _ h => h
        case hyp3C => refine Or.inl ⟨by rfl, ?_⟩; intro W hSw; (try dsimp only at hSw); go_simp; try with_reducible rfl
        simp only [Act.put, List.setIfInBounds_toArray, List.set_cons_zero, List.set_cons_succ]
        refine wpAnyH_take (i := 4) (oi := ?op4C) (v := ?vp4C) ?hip4C (by kernel_rfl) (by kernel_rfl) (by kernel_rfl) ?hQp4C ?hyp4C hH0 ?_
        case hip4C => simp only [List.getElem?_toArray, List.getElem?_cons_zero, List.getElem?_cons_succ]; rfl
        case hQp4C => exact fun _ _ _ h => h
        case hyp4C => refine Or.inl ⟨by rfl, ?_⟩; intro W hSw; (try dsimp only at hSw); go_simp; try with_reducible rfl
        simp only [Act.put, List.setIfInBounds_toArray, List.set_cons_zero, List.set_cons_succ]
        refine wpAnyH_take (i := 5) (oi := ?op5C) (v := ?vp5C) ?hip5C (by kernel_rfl) (by kernel_rfl) (by kernel_rfl) ?hQp5C ?hyp5C hH0 ?_
        case hip5C => simp only [List.getElem?_toArray, List.getElem?_cons_zero, List.getElem?_cons_succ]; rfl
        case hQp5C => exact fun _ _ _ h => h
        case hyp5C => refine Or.inl ⟨by rfl, ?_⟩; intro W hSw; (try dsimp only at hSw); go_simp; try with_reducible rfl
        simp only [Act.put, List.setIfInBounds_toArray, List.set_cons_zero, List.set_cons_succ]
        refine wpAnyH_take (i := 6) (oi := ?op6C) (v := ?vp6C) ?hip6C (by kernel_rfl) (by kernel_rfl) (by kernel_rfl) ?hQp6C ?hyp6C hH0 ?_
        case hip6C => simp only [List.getElem?_toArray, List.getElem?_cons_zero, List.getElem?_cons_succ]; rfl
        case hQp6C => exact fun _ _ _ h => h
        case hyp6C => refine Or.inl ⟨by rfl, ?_⟩; intro W hSw; (try dsimp only at hSw); go_simp; try with_reducible rfl
        simp only [Act.put, List.setIfInBounds_toArray, List.set_cons_zero, List.set_cons_succ]
        clear hH0
        have hwd : Below wr.heap.size wr wr.drew := (Below.refl _ _).drew
        have hy2 : wr.drew.cell? ⟨w.heap.size + 2, 0, none⟩ = some (.slice na m nc) := ydd
        have hsw : wr.drew.heap.size = wr.heap.size := rfl
        have HSW := Lib.hid hsw
        generalize wr.drew = w0 at *
        clear ydd
        have hw1 : Below wr.heap.size wr (w0.alloc (.cells #[.string y.name, .int .i64 y.at_] 65)) := hwd.alloc (by omega) _
        have hx1 : (w0.alloc (.cells #[.string y.name, .int .i64 y.at_] 65)).heap[w0.heap.size]? = some (.cells #[.string y.name, .int .i64 y.at_] 65) := heap_alloc_new _ _
        have hy3 : (w0.alloc (.cells #[.string y.name, .int .i64 y.at_] 65)).cell? ⟨w.heap.size + 2, 0, none⟩ = some (.slice na m nc) := (((Below.refl w0.heap.size w0).alloc (Nat.le_refl _) (.cells #[.string y.name, .int .i64 y.at_] 65)).cell (p := ⟨w.heap.size + 2, 0, none⟩) (by simp only; omega)).trans hy2
        have hs1 : (w0.alloc (.cells #[.string y.name, .int .i64 y.at_] 65)).heap.size = w0.heap.size + 1 := by rw [World.size_alloc]
        have HX1 := Lib.hid hx1
        have HW1 := Lib.hid hw1
        have HWD := Lib.hid hwd
        have HS1 := Lib.hid hs1
        have HO1 := Lib.hid (show (w0.alloc (.cells #[.string y.name, .int .i64 y.at_] 65)).ownsRow (w.heap.size + 3) 65 2 (.slice na m nc) m (tcells cur) by
          have h1 := HOWN.out.keep hw1
          unfold OwnR at h1
          rw [HLEN.out] at h1
          exact h1)
        clear hx1 hw1 hwd hs1 hsw
        refine wpAnyH_ready (rs := [1, 7]) (by kernel_rfl) (by simp) ?_
        refine AllReadyH.cons (o := ?otwCa) ?hotwCa (fun K' hK => ?_) (AllReadyH.cons (o := ?otwCb) ?hotwCb (fun K' hK => ?_) AllReadyH.nil)
        case hotwCa => simp only [List.getElem?_toArray, List.getElem?_cons_zero, List.getElem?_cons_succ]; rfl
        case hotwCb => simp only [List.getElem?_toArray, List.getElem?_cons_zero, List.getElem?_cons_succ]; rfl
        · go_simp
          refine hK.out _ _ (MKS.out _ (HWD.out.mono (by omega))) (fun hHa => ?_)
          clear hK K'
          (try simp only [Act.put, List.setIfInBounds_toArray, List.set_cons_zero, List.set_cons_succ])
          clear hHa
          refine wpAnyH_ready (rs := [7]) (by kernel_rfl) (by simp) ?_
          refine AllReadyH.cons (o := ?obsaC) ?hobsaC (fun K' hK => ?_) AllReadyH.nil
          case hobsaC => simp only [List.getElem?_toArray, List.getElem?_cons_zero, List.getElem?_cons_succ]; rfl
          go_simp
          refine hK.out _ _ (MKS.out _ (HW1.out.mono (by omega))) (fun hHb => ?_)
          clear hK K'
          (try simp only [Act.put, List.setIfInBounds_toArray, List.set_cons_zero, List.set_cons_succ])
          clear hHb
          generalize w0.alloc (.cells #[.string y.name, .int .i64 y.at_] 65) = w1 at *
          refine wpAnyH_ready (rs := [8]) (by kernel_rfl) (by simp) ?_
          refine AllReadyH.cons (o := ?oapaC) ?hoapaC (fun K' hK => ?_) AllReadyH.nil
          case hoapaC => simp only [List.getElem?_toArray, List.getElem?_cons_zero, List.getElem?_cons_succ]; rfl
          refine step_append_lies _ (by rfl) _ _ _ (by rfl) (w.heap.size + 3) 65 i0 _ 2 24 Try.underlying32 hi0 hzz0 hzz1 hzz2 rfl (by omega) _ _ _ (by rfl) HO1.out ⟨w0.heap.size, 0, none⟩ 1 1 [.string y.name, .int .i64 y.at_] (by rfl) (by rfl) (World.news_of_block HX1.out) (by simp [Value.oneCell']) (by omega) (by unfold maxLen; omega) (by omega) (by have := HS1.out; have := HSW.out; omega) _ rfl ?_
          intro gg cap2 w8 hown8 hgrow hat hlt8
          have hsz1 : wr.heap.size < w1.heap.size := by have := HS1.out; have := HSW.out; omega
          have hob : ∀ q, (Value.slice na m nc).ownBlock = some q → w.heap.size + 3 ≤ q := fun q hq => (World.ownsRow.lt HO1.out q hq).1
          have hg82 := (hgrow.block (w.heap.size + 2) (by omega) (fun e => by have := hob _ e.symm; omega)).trans ((HW1.out.block (w.heap.size + 2) (by omega)).trans GD.out)
          have hb8 : Below (w.heap.size + 2) wr w8 := (HW1.out.mono (by omega)).trans ⟨hgrow.os, hgrow.tape, hgrow.output, hgrow.size, fun q hq => hgrow.block q (by omega) (fun e => by have := hob q e.symm; omega)⟩
          have c8 : w8.cell? ⟨w.heap.size + 2, 0, none⟩ = some (.slice na m nc) := by rw [Lib.cell_of_heap hg82]; rfl
          have f8 : w8.frozen? ⟨w.heap.size + 2, 0, none⟩ = false := Lib.frozen_of_heap hg82 0
          have HAT := Lib.hid (show (Value.slice na m nc).ownBlock = some gg ∨ wr.heap.size ≤ gg from hat.imp id (fun e => by omega))
          have HG8 := Lib.hid (fun (q : Nat) (hq : q < wr.heap.size) (hne : some q ≠ (Value.slice na m nc).ownBlock) => (show w8.heap[q]? = wr.heap[q]? from (hgrow.block q (by omega) hne).trans (HW1.out.block q hq)))
          have HGG := Lib.hid (show w.heap.size + 3 ≤ gg from (World.ownsRow.lt hown8 gg rfl).1)
          have HGZ := Lib.hid (show gg < w8.heap.size from hlt8)
          have HB8 := Lib.hid hb8
          have H82 := Lib.hid hg82
          have HO8 := Lib.hid hown8
          clear hg82 hb8 hown8 hgrow hat hob hsz1 hlt8
          refine hK.out _ _ (MKS.out _ HB8.out) (fun hH8 => ?_)
          clear hK K'
          (try simp only [Act.put, List.setIfInBounds_toArray, List.set_cons_zero, List.set_cons_succ])
          refine wpAnyH_take (i := 9) (oi := ?ofaaC) (v := ?vfaaC) ?hifaaC (by kernel_rfl) (by kernel_rfl) (by kernel_rfl) ?hQfaaC ?hyfaaC hH8 ?_
          case hifaaC => simp only [List.getElem?_toArray, List.getElem?_cons_zero, List.getElem?_cons_succ]; rfl
          case hQfaaC => exact fun _ _ _ h => h
          case hyfaaC => refine Or.inl ⟨by rfl, ?_⟩; intro W hSw; (try dsimp only at hSw); go_simp; try with_reducible rfl
          simp only [Act.put, List.setIfInBounds_toArray, List.set_cons_zero, List.set_cons_succ]
          refine wpAnyH_ready (rs := [10]) (by kernel_rfl) (by simp) ?_
          refine AllReadyH.cons (o := ?ostaC) ?hostaC (fun K' hK => ?_) AllReadyH.nil
          case hostaC => simp only [List.getElem?_toArray, List.getElem?_cons_zero, List.getElem?_cons_succ]; rfl
          go_simp
          have HBS := Lib.hid (show Below (w.heap.size + 2) wr (w8.setCell ⟨w.heap.size + 2, 0, none⟩ (.slice (some ⟨gg, 0, none⟩) (m + 1) cap2)) from HB8.out.setCell (p := ⟨w.heap.size + 2, 0, none⟩) (by simp only; omega) _)
          refine hK.out _ _ (MKS.out _ HBS.out) (fun hH9 => ?_)
          clear hK K'
          (try simp only [Act.put, List.setIfInBounds_toArray, List.set_cons_zero, List.set_cons_succ])
          clear hH9 hH8
          refine wpAnyH_done (by kernel_rfl) ?_ _
          have H9 := Lib.hid (blk_set H82.out 0 (.slice (some ⟨gg, 0, none⟩) (m + 1) cap2))
          have HO9 := Lib.hid (show OwnR (w8.setCell ⟨w.heap.size + 2, 0, none⟩ (.slice (some ⟨gg, 0, none⟩) (m + 1) cap2)) (w.heap.size + 3) (.slice (some ⟨gg, 0, none⟩) (m + 1) cap2) (cur ++ [y]) by
            refine OwnR.set ?_ (by omega)
            unfold OwnR
            rw [tcells_append, List.length_append, HLEN.out]
            exact HO8.out)
          have HGR := Lib.hid (fun (q : Nat) (hq : q < wr.heap.size) (hqd : q ≠ w.heap.size + 2) (hne : some q ≠ (Value.slice na m nc).ownBlock) => (show (w8.setCell ⟨w.heap.size + 2, 0, none⟩ (.slice (some ⟨gg, 0, none⟩) (m + 1) cap2)).heap[q]? = wr.heap[q]? from by
            simp only [World.setCell]
            rw [Array.getElem?_modify, if_neg (fun e => hqd e.symm)]
            exact HG8.out q hq hne))
          clear c8 f8
          generalize w8.setCell ⟨w.heap.size + 2, 0, none⟩ (.slice (some ⟨gg, 0, none⟩) (m + 1) cap2) = w9 at *
          go_wp2_with fail
          go_roundw
          case rel => exact ⟨k + 1, _, _, cur ++ [y], m + 1, by omega, by go_num, HST.out, by rw [List.length_append, HLEN.out]; rfl, HO9.out, (HBS.out.block w.heap.size (by omega)).trans G0.out, (HBS.out.block (w.heap.size + 1) (by omega)).trans G1.out, H9.out, HBL.out.trans (HBS.out.mono (by omega))⟩
          case measure => simp [intOf]; omega
        · go_simp
          refine hK.out _ _ (MKS.out _ (HW1.out.mono (by omega))) (fun hHa => ?_)
          clear hK K'
          (try simp only [Act.put, List.setIfInBounds_toArray, List.set_cons_zero, List.set_cons_succ])
          clear hHa
          refine wpAnyH_ready (rs := [1]) (by kernel_rfl) (by simp) ?_
          refine AllReadyH.cons (o := ?ol1bC) ?hol1bC (fun K' hK => ?_) AllReadyH.nil
          case hol1bC => simp only [List.getElem?_toArray, List.getElem?_cons_zero, List.getElem?_cons_succ]; rfl
          go_simp
          refine hK.out _ _ (MKS.out _ (HW1.out.mono (by omega))) (fun hHb => ?_)
          clear hK K'
          (try simp only [Act.put, List.setIfInBounds_toArray, List.set_cons_zero, List.set_cons_succ])
          clear hHb
          generalize w0.alloc (.cells #[.string y.name, .int .i64 y.at_] 65) = w1 at *
          refine wpAnyH_ready (rs := [8]) (by kernel_rfl) (by simp) ?_
          refine AllReadyH.cons (o := ?oapbC) ?hoapbC (fun K' hK => ?_) AllReadyH.nil
          case hoapbC => simp only [List.getElem?_toArray, List.getElem?_cons_zero, List.getElem?_cons_succ]; rfl
          refine step_append_lies _ (by rfl) _ _ _ (by rfl) (w.heap.size + 3) 65 i0 _ 2 24 Try.underlying32 hi0 hzz0 hzz1 hzz2 rfl (by omega) _ _ _ (by rfl) HO1.out ⟨w0.heap.size, 0, none⟩ 1 1 [.string y.name, .int .i64 y.at_] (by rfl) (by rfl) (World.news_of_block HX1.out) (by simp [Value.oneCell']) (by omega) (by unfold maxLen; omega) (by omega) (by have := HS1.out; have := HSW.out; omega) _ rfl ?_
          intro gg cap2 w8 hown8 hgrow hat hlt8
          have hsz1 : wr.heap.size < w1.heap.size := by have := HS1.out; have := HSW.out; omega
          have hob : ∀ q, (Value.slice na m nc).ownBlock = some q → w.heap.size + 3 ≤ q := fun q hq => (World.ownsRow.lt HO1.out q hq).1
          have hg82 := (hgrow.block (w.heap.size + 2) (by omega) (fun e => by have := hob _ e.symm; omega)).trans ((HW1.out.block (w.heap.size + 2) (by omega)).trans GD.out)
          have hb8 : Below (w.heap.size + 2) wr w8 := (HW1.out.mono (by omega)).trans ⟨hgrow.os, hgrow.tape, hgrow.output, hgrow.size, fun q hq => hgrow.block q (by omega) (fun e => by have := hob q e.symm; omega)⟩
          have c8 : w8.cell? ⟨w.heap.size + 2, 0, none⟩ = some (.slice na m nc) := by rw [Lib.cell_of_heap hg82]; rfl
          have f8 : w8.frozen? ⟨w.heap.size + 2, 0, none⟩ = false := Lib.frozen_of_heap hg82 0
          have HAT := Lib.hid (show (Value.slice na m nc).ownBlock = some gg ∨ wr.heap.size ≤ gg from hat.imp id (fun e => by omega))
          have HG8 := Lib.hid (fun (q : Nat) (hq : q < wr.heap.size) (hne : some q ≠ (Value.slice na m nc).ownBlock) => (show w8.heap[q]? = wr.heap[q]? from (hgrow.block q (by omega) hne).trans (HW1.out.block q hq)))
          have HGG := Lib.hid (show w.heap.size + 3 ≤ gg from (World.ownsRow.lt hown8 gg rfl).1)
          have HGZ := Lib.hid (show gg < w8.heap.size from hlt8)
          have HB8 := Lib.hid hb8
          have H82 := Lib.hid hg82
          have HO8 := Lib.hid hown8
          clear hg82 hb8 hown8 hgrow hat hob hsz1 hlt8
          refine hK.out _ _ (MKS.out _ HB8.out) (fun hH8 => ?_)
          clear hK K'
          (try simp only [Act.put, List.setIfInBounds_toArray, List.set_cons_zero, List.set_cons_succ])
          refine wpAnyH_take (i := 9) (oi := ?ofabC) (v := ?vfabC) ?hifabC (by kernel_rfl) (by kernel_rfl) (by kernel_rfl) ?hQfabC ?hyfabC hH8 ?_
          case hifabC => simp only [List.getElem?_toArray, List.getElem?_cons_zero, List.getElem?_cons_succ]; rfl
          case hQfabC => exact fun _ _ _ h => h
          case hyfabC => refine Or.inl ⟨by rfl, ?_⟩; intro W hSw; (try dsimp only at hSw); go_simp; try with_reducible rfl
          simp only [Act.put, List.setIfInBounds_toArray, List.set_cons_zero, List.set_cons_succ]
          refine wpAnyH_ready (rs := [10]) (by kernel_rfl) (by simp) ?_
          refine AllReadyH.cons (o := ?ostbC) ?hostbC (fun K' hK => ?_) AllReadyH.nil
          case hostbC => simp only [List.getElem?_toArray, List.getElem?_cons_zero, List.getElem?_cons_succ]; rfl
          go_simp
          have HBS := Lib.hid (show Below (w.heap.size + 2) wr (w8.setCell ⟨w.heap.size + 2, 0, none⟩ (.slice (some ⟨gg, 0, none⟩) (m + 1) cap2)) from HB8.out.setCell (p := ⟨w.heap.size + 2, 0, none⟩) (by simp only; omega) _)
          refine hK.out _ _ (MKS.out _ HBS.out) (fun hH9 => ?_)
          clear hK K'
          (try simp only [Act.put, List.setIfInBounds_toArray, List.set_cons_zero, List.set_cons_succ])
          clear hH9 hH8
          refine wpAnyH_done (by kernel_rfl) ?_ _
          have H9 := Lib.hid (blk_set H82.out 0 (.slice (some ⟨gg, 0, none⟩) (m + 1) cap2))
          have HO9 := Lib.hid (show OwnR (w8.setCell ⟨w.heap.size + 2, 0, none⟩ (.slice (some ⟨gg, 0, none⟩) (m + 1) cap2)) (w.heap.size + 3) (.slice (some ⟨gg, 0, none⟩) (m + 1) cap2) (cur ++ [y]) by
            refine OwnR.set ?_ (by omega)
            unfold OwnR
            rw [tcells_append, List.length_append, HLEN.out]
            exact HO8.out)
          have HGR := Lib.hid (fun (q : Nat) (hq : q < wr.heap.size) (hqd : q ≠ w.heap.size + 2) (hne : some q ≠ (Value.slice na m nc).ownBlock) => (show (w8.setCell ⟨w.heap.size + 2, 0, none⟩ (.slice (some ⟨gg, 0, none⟩) (m + 1) cap2)).heap[q]? = wr.heap[q]? from by
            simp only [World.setCell]
            rw [Array.getElem?_modify, if_neg (fun e => hqd e.symm)]
            exact HG8.out q hq hne))
          clear c8 f8
          generalize w8.setCell ⟨w.heap.size + 2, 0, none⟩ (.slice (some ⟨gg, 0, none⟩) (m + 1) cap2) = w9 at *
          go_wp2_with fail
          go_roundw
          case rel => exact ⟨k + 1, _, _, cur ++ [y], m + 1, by omega, by go_num, HST.out, by rw [List.length_append, HLEN.out]; rfl, HO9.out, (HBS.out.block w.heap.size (by omega)).trans G0.out, (HBS.out.block (w.heap.size + 1) (by omega)).trans G1.out, H9.out, HBL.out.trans (HBS.out.mono (by omega))⟩
          case measure => simp [intOf]; omega
    · have g : ¬ ((k : Int) < (l.length : Int)) := by omega
      have hkl : k = l.length := by omega
      have HKL := Lib.hid hkl
      have c1 : wr.cell? ⟨w.heap.size + 1, 0, none⟩ = some (.slice none 0 0) := by rw [Lib.cell_of_heap G1.out]; rfl
      have f1 : wr.frozen? ⟨w.heap.size + 1, 0, none⟩ = false := Lib.frozen_of_heap G1.out 0
      have yd : wr.cell? ⟨w.heap.size + 2, 0, none⟩ = some (.slice na m nc) := by rw [Lib.cell_of_heap GD.out]; rfl
      clear hkl
      go_wp2_with fail
      (try simp only [Exit.inBlock, Exit.then])
      refine bodyPost_ret (ret_row1 rfl _ _ _ _ _ _ _ (by rfl) G1.out Try.underlying34 rfl rsize) rfl ?_
      have ho := HOWN.out
      have hcur := HCUR.out
      rw [HKL.out, List.take_length] at hcur
      rw [hcur, HLEN.out]
      exact ⟨na, nc, rfl, (ho.set (by omega)).less (by omega), HBL.out.setCell (p := ⟨w.heap.size + 1, 0, none⟩) (by simp only; omega) _⟩

set_option maxRecDepth 100000 in
set_option maxHeartbeats 1600000 in
theorem rdue_any (B : Nat) (v : Value) (l : List TM) (now : Int) (hl64 : l.length ≤ 900) (w : World) (h : IsTms B w v l) (hB : B ≤ w.heap.size) :
    Calls Try.prog 18 #[v, .int .i64 now] w fun r w' => ∃ ra rc sa sc, r = .returned (.tuple #[.agg #[.slice ra (restR now l).length rc], .slice sa (dueR now l).length sc]) ∧ OwnR w' w.heap.size (.slice ra (restR now l).length rc) (restR now l) ∧
      OwnS w' w.heap.size (.slice sa (dueR now l).length sc) ((dueR now l).map (·.name)) ∧ Below w.heap.size w w' := by
  obtain ⟨j0, hj0, hjz0, hjz1, hjz2⟩ := info_parts Try.sinfo
  obtain ⟨i0, hi0, hzz0, hzz1, hzz2⟩ := info_parts Try.rinfo
  obtain ⟨lv, rfl, h⟩ := h
  have HL := Lib.hid h
  obtain ⟨a, cap, rfl⟩ := h.form
  have HB := Lib.hid hB
  clear h hB
  go_enter Try.func18, Try.ntmps18
  go_wp2_with fail
  go_loopw [7, 8] (fun t7 t8 wr => ∃ (k : Nat) (na : Option Addr) (nc : Nat) (cur : List TM) (m : Nat) (sa : Option Addr) (sc : Nat) (N : List ByteArray) (sn : Nat), k ≤ l.length ∧ t8 = .int .i64 k ∧ t7 = .slice sa sn sc ∧ restR now (l.take k) = cur ∧ cur.length = m ∧ (dueR now (l.take k)).map (·.name) = N ∧ N.length = sn ∧ OwnR wr (w.heap.size + 3) (.slice na m nc) cur ∧ OwnS wr (w.heap.size + 3) (.slice sa sn sc) N ∧ (∀ q, (Value.slice sa sn sc).ownBlock = some q → (Value.slice na m nc).ownBlock ≠ some q) ∧ wr.heap[w.heap.size]? = some (.cells #[.slice a l.length cap] 34) ∧ wr.heap[w.heap.size + 1]? = some (.cells #[.slice none 0 0] 34) ∧ wr.heap[w.heap.size + 2]? = some (.cells #[.slice na m nc] 34) ∧ Below w.heap.size w wr) (fun _ t8 _ => l.length - (intOf t8).toNat)
  case atStart =>
    refine ⟨0, none, 0, [], 0, none, 0, [], 0, Nat.zero_le _, rfl, rfl, rfl, rfl, rfl, rfl, ownr_nil _ _, owns_nil _ _, (fun q h => absurd h (by simp [Value.ownBlock])), ?_⟩
    refine ⟨?_, ?_, ?_, (((Below.refl _ _).alloc (Nat.le_refl _) _).alloc (by rw [World.size_alloc]; omega) _).alloc (by rw [World.size_alloc, World.size_alloc]; omega) _⟩
    · rw [heap_alloc_old _ _ (by rw [World.size_alloc, World.size_alloc]; omega), heap_alloc_old _ _ (by rw [World.size_alloc]; omega)]
      exact heap_alloc_new w _
    · rw [heap_alloc_old _ _ (by rw [World.size_alloc, World.size_alloc]; omega)]
      exact heap_alloc2_new w _ _
    · have h5 := heap_alloc_new ((w.alloc (.cells #[.slice a l.length cap] 34)).alloc (.cells #[.slice none 0 0] 34)) (.cells #[.slice none 0 0] 34)
      rwa [World.size_alloc, World.size_alloc] at h5
  case round =>
    obtain ⟨k, na, nc, cur, m, sa, sc, N, sn, hk, rfl, rfl, hcur, hm, hN, hsn, hown, hos, hdj, hg0, hg1, hg2, hbl⟩ := hrel
    have hz2 : w.heap.size + 2 < wr.heap.size := (Array.getElem?_eq_some_iff.1 hg2).1
    have y0 : wr.cell? ⟨w.heap.size, 0, none⟩ = some (.slice a l.length cap) := by rw [Lib.cell_of_heap hg0]; rfl
    have hml : m ≤ 900 := by rw [← hm, ← hcur]; exact Nat.le_trans (List.length_filter_le _ _) (by rw [List.length_take]; omega)
    have hsl : sn ≤ 900 := by rw [← hsn, ← hN, List.length_map]; exact Nat.le_trans (List.length_filter_le _ _) (by rw [List.length_take]; omega)
    have HOWN := Lib.hid hown
    have HOS := Lib.hid hos
    have HDJ := Lib.hid hdj
    have HBL := Lib.hid hbl
    have G0 := Lib.hid hg0
    have G1 := Lib.hid hg1
    have GD := Lib.hid hg2
    have HLEN := Lib.hid hm
    have HSN := Lib.hid hsn
    have HCUR := Lib.hid hcur
    have HN := Lib.hid hN
    clear hown hbl hg0 hg1 hg2 hm hcur hos hdj hN hsn
    by_cases hlt : k < l.length
    · have hstep : restR now (l.take (k + 1)) = if l[k].at_ ≤ now then cur else cur ++ [l[k]] := by
        rw [List.take_succ_eq_append_getElem hlt, restR, List.filter_append]
        rw [← HCUR.out]
        by_cases hd : l[k].at_ ≤ now
        · rw [if_pos hd, List.filter_cons, if_neg (by simpa using hd)]; exact List.append_nil _
        · rw [if_neg hd, List.filter_cons, if_pos (by simpa using hd)]; rfl
      have hstep2 : (dueR now (l.take (k + 1))).map (·.name) = if l[k].at_ ≤ now then N ++ [l[k].name] else N := by
        rw [List.take_succ_eq_append_getElem hlt, dueR, List.filter_append, List.map_append]
        rw [← HN.out]
        by_cases hd : l[k].at_ ≤ now
        · rw [if_pos hd, List.filter_cons, if_pos (by simpa using hd)]; rfl
        · rw [if_neg hd, List.filter_cons, if_neg (by simpa using hd)]; exact List.append_nil _
      obtain ⟨b, off, q1, he, hbB, _, hc1, hd1⟩ := (HL.out.keep HBL.out HB.out).get k hlt
      obtain ⟨rfl, -, rfl⟩ : a = some ⟨b, off, none⟩ ∧ l.length = l.length ∧ cap = q1 := by injection he with e1 e2 e3; exact ⟨e1, e2, e3⟩
      clear he
      obtain ⟨y, hy⟩ : ∃ y, l[k] = y := ⟨_, rfl⟩
      rw [hy] at hc1 hd1
      have Hy := Lib.hid hy
      have i1 : (0 : Int) ≤ (k : Int) := by omega
      have i2 : (k : Int) < (l.length : Int) := by omega
      clear hy
      have hBH := HB.out
      rw [Hy.out] at hstep hstep2
      by_cases hyn : y.at_ ≤ now
      · rw [if_pos hyn] at hstep hstep2
        have HST := Lib.hid hstep
        have HST2 := Lib.hid hstep2
        have hk1 := (Below.refl wr.heap.size wr).alloc (Nat.le_refl _) (.cells #[.string y.name] 9)
        have HO2 := Lib.hid (show (wr.alloc (.cells #[.string y.name] 9)).ownsRow (w.heap.size + 3) 9 1 (.slice sa sn sc) sn (scells N) by
          have h1 := HOS.out.keep hk1
          unfold OwnS at h1
          rw [HSN.out] at h1
          exact h1)
        have HK1 := Lib.hid hk1
        have HA := Lib.hid (heap_alloc_new wr (.cells #[.string y.name] 9))
        have HSZ := Lib.hid (World.size_alloc wr (.cells #[.string y.name] 9))
        have hbl2 : b < wr.heap.size := by omega
        have hbn2 : b ≠ wr.heap.size := by omega
        clear hstep hstep2 hBH hk1
        go_wp2_with (at_builtin; refine wpList_append_lies _ rfl _ _ 41 rfl (w.heap.size + 3) 9 j0 _ 1 16 Try.underlying41 hj0 hjz0 hjz1 hjz2 rfl (by omega) _ _ _ rfl HO2.out ⟨wr.heap.size, 0, none⟩ 1 1 [.string y.name] rfl rfl (World.news_of_block HA.out) (by simp [Value.oneCell']) (by omega) (by unfold maxLen; omega) (by omega) (by have := HSZ.out; omega) _ rfl ?_; intro gg cap2 w8 hown8 hgrow hat hlt8)
        go_roundw
        case rel =>
          have hlo : ∀ q, (Value.slice sa sn sc).ownBlock = some q → w.heap.size + 3 ≤ q := fun q hq => (World.ownsRow.lt HO2.out q hq).1
          have hb8 : ∀ q, q < w.heap.size + 3 → w8.heap[q]? = wr.heap[q]? := fun q hq => (hgrow.block q (by have := HSZ.out; omega) (fun e => by have := hlo q e.symm; omega)).trans (HK1.out.block q (by omega))
          have hbb : Below w.heap.size wr w8 := (HK1.out.mono (by omega)).trans ⟨hgrow.os, hgrow.tape, hgrow.output, hgrow.size, fun q hq => hgrow.block q (by have := HSZ.out; omega) (fun e => by have := hlo q e.symm; omega)⟩
          refine ⟨k + 1, na, nc, cur, m, _, _, N ++ [y.name], sn + 1, by omega, by go_num, rfl, HST.out, HLEN.out, HST2.out, by rw [List.length_append, HSN.out]; rfl, ?_, ?_, ?_, (hb8 _ (by omega)).trans G0.out, (hb8 _ (by omega)).trans G1.out, (hb8 _ (by omega)).trans GD.out, HBL.out.trans hbb⟩
          · refine own_blk HOWN.out (fun g hg => ?_)
            have h1 := World.ownsRow.lt HOWN.out g hg
            exact (hgrow.block g (by have := HSZ.out; omega) (fun e => HDJ.out g e.symm hg)).trans (HK1.out.block g h1.2)
          · unfold OwnS
            rw [scells_append, List.length_append, HSN.out]
            exact hown8
          · intro q hq e
            simp only [Value.ownBlock, Option.some.injEq] at hq
            subst hq
            have h1 := World.ownsRow.lt HOWN.out _ e
            rcases hat with h2 | h2
            · exact HDJ.out _ h2 e
            · have := HSZ.out
              omega
        case measure => simp [intOf]; omega
      · rw [if_neg hyn] at hstep hstep2
        have HST := Lib.hid hstep
        have HST2 := Lib.hid hstep2
        have MKS := Lib.hid (fun (X : World) (hX : Below (w.heap.size + 2) wr X) => (show (fun X => X.cell? ⟨w.heap.size, 0, none⟩ = some (.slice (some ⟨b, off, none⟩) l.length cap) ∧ X.cell? ⟨b, off + k * 2, none⟩ = some (.string y.name) ∧ X.cell? ⟨b, off + k * 2 + 1, none⟩ = some (.int .i64 y.at_)) X from ⟨(hX.cell (p := ⟨w.heap.size, 0, none⟩) (by simp only; omega)).trans y0, (hX.cell (p := ⟨b, off + k * 2, none⟩) (by simp only; omega)).trans hc1, (hX.cell (p := ⟨b, off + k * 2 + 1, none⟩) (by simp only; omega)).trans hd1⟩))
        clear hstep hstep2 hBH
        go_wp2_with fail
        have ydd : wr.cell? ⟨w.heap.size + 2, 0, none⟩ = some (.slice na m nc) := by rw [Lib.cell_of_heap GD.out]; rfl
        refine region_begin (S := fun X => X.cell? ⟨w.heap.size, 0, none⟩ = some (.slice (some ⟨b, off, none⟩) l.length cap) ∧ X.cell? ⟨b, off + k * 2, none⟩ = some (.string y.name) ∧ X.cell? ⟨b, off + k * 2 + 1, none⟩ = some (.int .i64 y.at_)) 11 rfl (by kernel_rfl) (MKS.out _ (Below.refl _ _).drew) (fun hH0 => ?_)
        refine wpAnyH_take (i := 0) (oi := ?op0D) (v := ?vp0D) ?hip0D (by kernel_rfl) (by kernel_rfl) (by kernel_rfl) ?hQp0D ?hyp0D hH0 ?_
        case hip0D => simp only [List.getElem?_toArray, List.getElem?_cons_zero]; rfl
        case hQp0D => exact fun _ _ _ h => h
        case hyp0D => refine Or.inl ⟨by rfl, ?_⟩; intro W hSw; (try dsimp only at hSw); go_simp; try with_reducible rfl
        simp only [Act.put, List.setIfInBounds_toArray, List.set_cons_zero]
        refine wpAnyH_take (i := 2) (oi := ?op2D) (v := ?vp2D) ?hip2D (by kernel_rfl) (by kernel_rfl) (by kernel_rfl) ?hQp2D ?hyp2D hH0 ?_
        case hip2D => simp only [List.getElem?_toArray, List.getElem?_cons_zero, List.getElem?_cons_succ]; rfl
        case hQp2D => exact fun _ _ _ h => h
        case hyp2D => refine Or.inl ⟨by rfl, ?_⟩; intro W hSw; (try dsimp only at hSw); go_simp; try with_reducible rfl
        simp only [Act.put, List.setIfInBounds_toArray, List.set_cons_zero, List.set_cons_succ]
        refine wpAnyH_take (i := 3) (oi := ?op3D) (v := ?vp3D) ?hip3D (by kernel_rfl) (by kernel_rfl) (by kernel_rfl) ?hQp3D ?hyp3D hH0 ?_
        case hip3D => simp only [List.getElem?_toArray, List.getElem?_cons_zero, List.getElem?_cons_succ]; rfl
        case hQp3D => exact fun _ _ _ h => h
        case hyp3D => refine Or.inl ⟨by rfl, ?_⟩; intro W hSw; (try dsimp only at hSw); go_simp; try with_reducible rfl
        simp only [Act.put, List.setIfInBounds_toArray, List.set_cons_zero, List.set_cons_succ]
        refine wpAnyH_take (i := 4) (oi := ?op4D) (v := ?vp4D) ?hip4D (by kernel_rfl) (by kernel_rfl) (by kernel_rfl) ?hQp4D ?hyp4D hH0 ?_
        case hip4D => simp only [List.getElem?_toArray, List.getElem?_cons_zero, List.getElem?_cons_succ]; rfl
        case hQp4D => exact fun _ _ _ h => h
        case hyp4D => refine Or.inl ⟨by rfl, ?_⟩; intro W hSw; (try dsimp only at hSw); go_simp; try with_reducible rfl
        simp only [Act.put, List.setIfInBounds_toArray, List.set_cons_zero, List.set_cons_succ]
        refine wpAnyH_take (i := 5) (oi := ?op5D) (v := ?vp5D) ?hip5D (by kernel_rfl) (by kernel_rfl) (by kernel_rfl) ?hQp5D ?hyp5D hH0 ?_
        case hip5D => simp only [List.getElem?_toArray, List.getElem?_cons_zero, List.getElem?_cons_succ]; rfl
        case hQp5D => exact fun _ _ _ h => h
        case hyp5D => refine Or.inl ⟨by rfl, ?_⟩; intro W hSw; (try dsimp only at hSw); go_simp; try with_reducible rfl
        simp only [Act.put, List.setIfInBounds_toArray, List.set_cons_zero, List.set_cons_succ]
        refine wpAnyH_take (i := 6) (oi := ?op6D) (v := ?vp6D) ?hip6D (by kernel_rfl) (by kernel_rfl) (by kernel_rfl) ?hQp6D ?hyp6D hH0 ?_
        case hip6D => simp only [List.getElem?_toArray, List.getElem?_cons_zero, List.getElem?_cons_succ]; rfl
        case hQp6D => exact fun _ _ _ h => h
        case hyp6D => refine Or.inl ⟨by rfl, ?_⟩; intro W hSw; (try dsimp only at hSw); go_simp; try with_reducible rfl
        simp only [Act.put, List.setIfInBounds_toArray, List.set_cons_zero, List.set_cons_succ]
        clear hH0
        have hwd : Below wr.heap.size wr wr.drew := (Below.refl _ _).drew
        have hy2 : wr.drew.cell? ⟨w.heap.size + 2, 0, none⟩ = some (.slice na m nc) := ydd
        have hsw : wr.drew.heap.size = wr.heap.size := rfl
        have HSW := Lib.hid hsw
        generalize wr.drew = w0 at *
        clear ydd
        have hw1 : Below wr.heap.size wr (w0.alloc (.cells #[.string y.name, .int .i64 y.at_] 65)) := hwd.alloc (by omega) _
        have hx1 : (w0.alloc (.cells #[.string y.name, .int .i64 y.at_] 65)).heap[w0.heap.size]? = some (.cells #[.string y.name, .int .i64 y.at_] 65) := heap_alloc_new _ _
        have hy3 : (w0.alloc (.cells #[.string y.name, .int .i64 y.at_] 65)).cell? ⟨w.heap.size + 2, 0, none⟩ = some (.slice na m nc) := (((Below.refl w0.heap.size w0).alloc (Nat.le_refl _) (.cells #[.string y.name, .int .i64 y.at_] 65)).cell (p := ⟨w.heap.size + 2, 0, none⟩) (by simp only; omega)).trans hy2
        have hs1 : (w0.alloc (.cells #[.string y.name, .int .i64 y.at_] 65)).heap.size = w0.heap.size + 1 := by rw [World.size_alloc]
        have HX1 := Lib.hid hx1
        have HW1 := Lib.hid hw1
        have HWD := Lib.hid hwd
        have HS1 := Lib.hid hs1
        have HO1 := Lib.hid (show (w0.alloc (.cells #[.string y.name, .int .i64 y.at_] 65)).ownsRow (w.heap.size + 3) 65 2 (.slice na m nc) m (tcells cur) by
          have h1 := HOWN.out.keep hw1
          unfold OwnR at h1
          rw [HLEN.out] at h1
          exact h1)
        clear hx1 hw1 hwd hs1 hsw
        refine wpAnyH_ready (rs := [1, 7]) (by kernel_rfl) (by simp) ?_
        refine AllReadyH.cons (o := ?otwDa) ?hotwDa (fun K' hK => ?_) (AllReadyH.cons (o := ?otwDb) ?hotwDb (fun K' hK => ?_) AllReadyH.nil)
        case hotwDa => simp only [List.getElem?_toArray, List.getElem?_cons_zero, List.getElem?_cons_succ]; rfl
        case hotwDb => simp only [List.getElem?_toArray, List.getElem?_cons_zero, List.getElem?_cons_succ]; rfl
        · go_simp
          refine hK.out _ _ (MKS.out _ (HWD.out.mono (by omega))) (fun hHa => ?_)
          clear hK K'
          (try simp only [Act.put, List.setIfInBounds_toArray, List.set_cons_zero, List.set_cons_succ])
          clear hHa
          refine wpAnyH_ready (rs := [7]) (by kernel_rfl) (by simp) ?_
          refine AllReadyH.cons (o := ?obsaD) ?hobsaD (fun K' hK => ?_) AllReadyH.nil
          case hobsaD => simp only [List.getElem?_toArray, List.getElem?_cons_zero, List.getElem?_cons_succ]; rfl
          go_simp
          refine hK.out _ _ (MKS.out _ (HW1.out.mono (by omega))) (fun hHb => ?_)
          clear hK K'
          (try simp only [Act.put, List.setIfInBounds_toArray, List.set_cons_zero, List.set_cons_succ])
          clear hHb
          generalize w0.alloc (.cells #[.string y.name, .int .i64 y.at_] 65) = w1 at *
          refine wpAnyH_ready (rs := [8]) (by kernel_rfl) (by simp) ?_
          refine AllReadyH.cons (o := ?oapaD) ?hoapaD (fun K' hK => ?_) AllReadyH.nil
          case hoapaD => simp only [List.getElem?_toArray, List.getElem?_cons_zero, List.getElem?_cons_succ]; rfl
          refine step_append_lies _ (by rfl) _ _ _ (by rfl) (w.heap.size + 3) 65 i0 _ 2 24 Try.underlying32 hi0 hzz0 hzz1 hzz2 rfl (by omega) _ _ _ (by rfl) HO1.out ⟨w0.heap.size, 0, none⟩ 1 1 [.string y.name, .int .i64 y.at_] (by rfl) (by rfl) (World.news_of_block HX1.out) (by simp [Value.oneCell']) (by omega) (by unfold maxLen; omega) (by omega) (by have := HS1.out; have := HSW.out; omega) _ rfl ?_
          intro gg cap2 w8 hown8 hgrow hat hlt8
          have hsz1 : wr.heap.size < w1.heap.size := by have := HS1.out; have := HSW.out; omega
          have hob : ∀ q, (Value.slice na m nc).ownBlock = some q → w.heap.size + 3 ≤ q := fun q hq => (World.ownsRow.lt HO1.out q hq).1
          have hg82 := (hgrow.block (w.heap.size + 2) (by omega) (fun e => by have := hob _ e.symm; omega)).trans ((HW1.out.block (w.heap.size + 2) (by omega)).trans GD.out)
          have hb8 : Below (w.heap.size + 2) wr w8 := (HW1.out.mono (by omega)).trans ⟨hgrow.os, hgrow.tape, hgrow.output, hgrow.size, fun q hq => hgrow.block q (by omega) (fun e => by have := hob q e.symm; omega)⟩
          have c8 : w8.cell? ⟨w.heap.size + 2, 0, none⟩ = some (.slice na m nc) := by rw [Lib.cell_of_heap hg82]; rfl
          have f8 : w8.frozen? ⟨w.heap.size + 2, 0, none⟩ = false := Lib.frozen_of_heap hg82 0
          have HAT := Lib.hid (show (Value.slice na m nc).ownBlock = some gg ∨ wr.heap.size ≤ gg from hat.imp id (fun e => by omega))
          have HG8 := Lib.hid (fun (q : Nat) (hq : q < wr.heap.size) (hne : some q ≠ (Value.slice na m nc).ownBlock) => (show w8.heap[q]? = wr.heap[q]? from (hgrow.block q (by omega) hne).trans (HW1.out.block q hq)))
          have HGG := Lib.hid (show w.heap.size + 3 ≤ gg from (World.ownsRow.lt hown8 gg rfl).1)
          have HGZ := Lib.hid (show gg < w8.heap.size from hlt8)
          have HB8 := Lib.hid hb8
          have H82 := Lib.hid hg82
          have HO8 := Lib.hid hown8
          clear hg82 hb8 hown8 hgrow hat hob hsz1 hlt8
          refine hK.out _ _ (MKS.out _ HB8.out) (fun hH8 => ?_)
          clear hK K'
          (try simp only [Act.put, List.setIfInBounds_toArray, List.set_cons_zero, List.set_cons_succ])
          refine wpAnyH_take (i := 9) (oi := ?ofaaD) (v := ?vfaaD) ?hifaaD (by kernel_rfl) (by kernel_rfl) (by kernel_rfl) ?hQfaaD ?hyfaaD hH8 ?_
          case hifaaD => simp only [List.getElem?_toArray, List.getElem?_cons_zero, List.getElem?_cons_succ]; rfl
          case hQfaaD => exact fun _ _ _ h => h
          case hyfaaD => refine Or.inl ⟨by rfl, ?_⟩; intro W hSw; (try dsimp only at hSw); go_simp; try with_reducible rfl
          simp only [Act.put, List.setIfInBounds_toArray, List.set_cons_zero, List.set_cons_succ]
          refine wpAnyH_ready (rs := [10]) (by kernel_rfl) (by simp) ?_
          refine AllReadyH.cons (o := ?ostaD) ?hostaD (fun K' hK => ?_) AllReadyH.nil
          case hostaD => simp only [List.getElem?_toArray, List.getElem?_cons_zero, List.getElem?_cons_succ]; rfl
          go_simp
          have HBS := Lib.hid (show Below (w.heap.size + 2) wr (w8.setCell ⟨w.heap.size + 2, 0, none⟩ (.slice (some ⟨gg, 0, none⟩) (m + 1) cap2)) from HB8.out.setCell (p := ⟨w.heap.size + 2, 0, none⟩) (by simp only; omega) _)
          refine hK.out _ _ (MKS.out _ HBS.out) (fun hH9 => ?_)
          clear hK K'
          (try simp only [Act.put, List.setIfInBounds_toArray, List.set_cons_zero, List.set_cons_succ])
          clear hH9 hH8
          refine wpAnyH_done (by kernel_rfl) ?_ _
          have H9 := Lib.hid (blk_set H82.out 0 (.slice (some ⟨gg, 0, none⟩) (m + 1) cap2))
          have HO9 := Lib.hid (show OwnR (w8.setCell ⟨w.heap.size + 2, 0, none⟩ (.slice (some ⟨gg, 0, none⟩) (m + 1) cap2)) (w.heap.size + 3) (.slice (some ⟨gg, 0, none⟩) (m + 1) cap2) (cur ++ [y]) by
            refine OwnR.set ?_ (by omega)
            unfold OwnR
            rw [tcells_append, List.length_append, HLEN.out]
            exact HO8.out)
          have HGR := Lib.hid (fun (q : Nat) (hq : q < wr.heap.size) (hqd : q ≠ w.heap.size + 2) (hne : some q ≠ (Value.slice na m nc).ownBlock) => (show (w8.setCell ⟨w.heap.size + 2, 0, none⟩ (.slice (some ⟨gg, 0, none⟩) (m + 1) cap2)).heap[q]? = wr.heap[q]? from by
            simp only [World.setCell]
            rw [Array.getElem?_modify, if_neg (fun e => hqd e.symm)]
            exact HG8.out q hq hne))
          clear c8 f8
          generalize w8.setCell ⟨w.heap.size + 2, 0, none⟩ (.slice (some ⟨gg, 0, none⟩) (m + 1) cap2) = w9 at *
          go_wp2_with fail
          go_roundw
          case rel =>
            refine ⟨k + 1, _, _, cur ++ [y], m + 1, sa, sc, N, sn, by omega, by go_num, rfl, HST.out, by rw [List.length_append, HLEN.out]; rfl, HST2.out, HSN.out, HO9.out, ?_, ?_, (HBS.out.block w.heap.size (by omega)).trans G0.out, (HBS.out.block (w.heap.size + 1) (by omega)).trans G1.out, H9.out, HBL.out.trans (HBS.out.mono (by omega))⟩
            · refine own_blk HOS.out (fun g hg => ?_)
              have h1 := World.ownsRow.lt HOS.out g hg
              exact HGR.out g h1.2 (by omega) (fun e => HDJ.out g hg e.symm)
            · intro q hq e
              simp only [Value.ownBlock, Option.some.injEq] at e
              have h1 := World.ownsRow.lt HOS.out q hq
              rcases HAT.out with h2 | h2
              · exact HDJ.out q hq (by rw [h2, e])
              · omega
          case measure => simp [intOf]; omega
        · go_simp
          refine hK.out _ _ (MKS.out _ (HW1.out.mono (by omega))) (fun hHa => ?_)
          clear hK K'
          (try simp only [Act.put, List.setIfInBounds_toArray, List.set_cons_zero, List.set_cons_succ])
          clear hHa
          refine wpAnyH_ready (rs := [1]) (by kernel_rfl) (by simp) ?_
          refine AllReadyH.cons (o := ?ol1bD) ?hol1bD (fun K' hK => ?_) AllReadyH.nil
          case hol1bD => simp only [List.getElem?_toArray, List.getElem?_cons_zero, List.getElem?_cons_succ]; rfl
          go_simp
          refine hK.out _ _ (MKS.out _ (HW1.out.mono (by omega))) (fun hHb => ?_)
          clear hK K'
          (try simp only [Act.put, List.setIfInBounds_toArray, List.set_cons_zero, List.set_cons_succ])
          clear hHb
          generalize w0.alloc (.cells #[.string y.name, .int .i64 y.at_] 65) = w1 at *
          refine wpAnyH_ready (rs := [8]) (by kernel_rfl) (by simp) ?_
          refine AllReadyH.cons (o := ?oapbD) ?hoapbD (fun K' hK => ?_) AllReadyH.nil
          case hoapbD => simp only [List.getElem?_toArray, List.getElem?_cons_zero, List.getElem?_cons_succ]; rfl
          refine step_append_lies _ (by rfl) _ _ _ (by rfl) (w.heap.size + 3) 65 i0 _ 2 24 Try.underlying32 hi0 hzz0 hzz1 hzz2 rfl (by omega) _ _ _ (by rfl) HO1.out ⟨w0.heap.size, 0, none⟩ 1 1 [.string y.name, .int .i64 y.at_] (by rfl) (by rfl) (World.news_of_block HX1.out) (by simp [Value.oneCell']) (by omega) (by unfold maxLen; omega) (by omega) (by have := HS1.out; have := HSW.out; omega) _ rfl ?_
          intro gg cap2 w8 hown8 hgrow hat hlt8
          have hsz1 : wr.heap.size < w1.heap.size := by have := HS1.out; have := HSW.out; omega
          have hob : ∀ q, (Value.slice na m nc).ownBlock = some q → w.heap.size + 3 ≤ q := fun q hq => (World.ownsRow.lt HO1.out q hq).1
          have hg82 := (hgrow.block (w.heap.size + 2) (by omega) (fun e => by have := hob _ e.symm; omega)).trans ((HW1.out.block (w.heap.size + 2) (by omega)).trans GD.out)
          have hb8 : Below (w.heap.size + 2) wr w8 := (HW1.out.mono (by omega)).trans ⟨hgrow.os, hgrow.tape, hgrow.output, hgrow.size, fun q hq => hgrow.block q (by omega) (fun e => by have := hob q e.symm; omega)⟩
          have c8 : w8.cell? ⟨w.heap.size + 2, 0, none⟩ = some (.slice na m nc) := by rw [Lib.cell_of_heap hg82]; rfl
          have f8 : w8.frozen? ⟨w.heap.size + 2, 0, none⟩ = false := Lib.frozen_of_heap hg82 0
          have HAT := Lib.hid (show (Value.slice na m nc).ownBlock = some gg ∨ wr.heap.size ≤ gg from hat.imp id (fun e => by omega))
          have HG8 := Lib.hid (fun (q : Nat) (hq : q < wr.heap.size) (hne : some q ≠ (Value.slice na m nc).ownBlock) => (show w8.heap[q]? = wr.heap[q]? from (hgrow.block q (by omega) hne).trans (HW1.out.block q hq)))
          have HGG := Lib.hid (show w.heap.size + 3 ≤ gg from (World.ownsRow.lt hown8 gg rfl).1)
          have HGZ := Lib.hid (show gg < w8.heap.size from hlt8)
          have HB8 := Lib.hid hb8
          have H82 := Lib.hid hg82
          have HO8 := Lib.hid hown8
          clear hg82 hb8 hown8 hgrow hat hob hsz1 hlt8
          refine hK.out _ _ (MKS.out _ HB8.out) (fun hH8 => ?_)
          clear hK K'
          (try simp only [Act.put, List.setIfInBounds_toArray, List.set_cons_zero, List.set_cons_succ])
          refine wpAnyH_take (i := 9) (oi := ?ofabD) (v := ?vfabD) ?hifabD (by kernel_rfl) (by kernel_rfl) (by kernel_rfl) ?hQfabD ?hyfabD hH8 ?_
          case hifabD => simp only [List.getElem?_toArray, List.getElem?_cons_zero, List.getElem?_cons_succ]; rfl
          case hQfabD => exact fun _ _ _ h => h
          case hyfabD => refine Or.inl ⟨by rfl, ?_⟩; intro W hSw; (try dsimp only at hSw); go_simp; try with_reducible rfl
          simp only [Act.put, List.setIfInBounds_toArray, List.set_cons_zero, List.set_cons_succ]
          refine wpAnyH_ready (rs := [10]) (by kernel_rfl) (by simp) ?_
          refine AllReadyH.cons (o := ?ostbD) ?hostbD (fun K' hK => ?_) AllReadyH.nil
          case hostbD => simp only [List.getElem?_toArray, List.getElem?_cons_zero, List.getElem?_cons_succ]; rfl
          go_simp
          have HBS := Lib.hid (show Below (w.heap.size + 2) wr (w8.setCell ⟨w.heap.size + 2, 0, none⟩ (.slice (some ⟨gg, 0, none⟩) (m + 1) cap2)) from HB8.out.setCell (p := ⟨w.heap.size + 2, 0, none⟩) (by simp only; omega) _)
          refine hK.out _ _ (MKS.out _ HBS.out) (fun hH9 => ?_)
          clear hK K'
          (try simp only [Act.put, List.setIfInBounds_toArray, List.set_cons_zero, List.set_cons_succ])
          clear hH9 hH8
          refine wpAnyH_done (by kernel_rfl) ?_ _
          have H9 := Lib.hid (blk_set H82.out 0 (.slice (some ⟨gg, 0, none⟩) (m + 1) cap2))
          have HO9 := Lib.hid (show OwnR (w8.setCell ⟨w.heap.size + 2, 0, none⟩ (.slice (some ⟨gg, 0, none⟩) (m + 1) cap2)) (w.heap.size + 3) (.slice (some ⟨gg, 0, none⟩) (m + 1) cap2) (cur ++ [y]) by
            refine OwnR.set ?_ (by omega)
            unfold OwnR
            rw [tcells_append, List.length_append, HLEN.out]
            exact HO8.out)
          have HGR := Lib.hid (fun (q : Nat) (hq : q < wr.heap.size) (hqd : q ≠ w.heap.size + 2) (hne : some q ≠ (Value.slice na m nc).ownBlock) => (show (w8.setCell ⟨w.heap.size + 2, 0, none⟩ (.slice (some ⟨gg, 0, none⟩) (m + 1) cap2)).heap[q]? = wr.heap[q]? from by
            simp only [World.setCell]
            rw [Array.getElem?_modify, if_neg (fun e => hqd e.symm)]
            exact HG8.out q hq hne))
          clear c8 f8
          generalize w8.setCell ⟨w.heap.size + 2, 0, none⟩ (.slice (some ⟨gg, 0, none⟩) (m + 1) cap2) = w9 at *
          go_wp2_with fail
          go_roundw
          case rel =>
            refine ⟨k + 1, _, _, cur ++ [y], m + 1, sa, sc, N, sn, by omega, by go_num, rfl, HST.out, by rw [List.length_append, HLEN.out]; rfl, HST2.out, HSN.out, HO9.out, ?_, ?_, (HBS.out.block w.heap.size (by omega)).trans G0.out, (HBS.out.block (w.heap.size + 1) (by omega)).trans G1.out, H9.out, HBL.out.trans (HBS.out.mono (by omega))⟩
            · refine own_blk HOS.out (fun g hg => ?_)
              have h1 := World.ownsRow.lt HOS.out g hg
              exact HGR.out g h1.2 (by omega) (fun e => HDJ.out g hg e.symm)
            · intro q hq e
              simp only [Value.ownBlock, Option.some.injEq] at e
              have h1 := World.ownsRow.lt HOS.out q hq
              rcases HAT.out with h2 | h2
              · exact HDJ.out q hq (by rw [h2, e])
              · omega
          case measure => simp [intOf]; omega
    · have g : ¬ ((k : Int) < (l.length : Int)) := by omega
      have hkl : k = l.length := by omega
      have HKL := Lib.hid hkl
      have c1 : wr.cell? ⟨w.heap.size + 1, 0, none⟩ = some (.slice none 0 0) := by rw [Lib.cell_of_heap G1.out]; rfl
      have f1 : wr.frozen? ⟨w.heap.size + 1, 0, none⟩ = false := Lib.frozen_of_heap G1.out 0
      have yd : wr.cell? ⟨w.heap.size + 2, 0, none⟩ = some (.slice na m nc) := by rw [Lib.cell_of_heap GD.out]; rfl
      clear hkl
      go_wp2_with fail
      (try simp only [Exit.inBlock, Exit.then])
      refine bodyPost_ret (ret_row1t rfl _ _ _ _ _ _ _ (by rfl) G1.out Try.underlying34 rfl rsize) rfl ?_
      have ho := HOWN.out
      have hcur := HCUR.out
      have hN := HN.out
      have hsn := HSN.out
      rw [HKL.out, List.take_length] at hcur hN
      rw [← hN, List.length_map] at hsn
      rw [hN, hcur, HLEN.out, hsn]
      exact ⟨na, nc, sa, sc, rfl, (ho.set (by omega)).less (by omega), (HOS.out.set (by omega)).less (by omega), HBL.out.setCell (p := ⟨w.heap.size + 1, 0, none⟩) (by simp only; omega) _⟩
end Go.Proofs.Ytpadbkplknnopaa
