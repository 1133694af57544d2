/-
  The walks of bucketlineref18.Place, Node, Ahead, Behind, Since and Boot. Printed by gen_vwref2.py of this claim's writer.
-/
import Derived.Test.YtigojackdkaanaaVwRef
namespace Go.Proofs.Ytigojackdkaanaa
open Go.RowKit

noncomputable def nodeV (V : VW) (i : Int) : Int := if rightB V = true ∧ 0 ≤ i ∧ i < V.chain.length then V.chain.getD i.toNat 0 else 0

set_option maxHeartbeats 1600000 in
theorem refPlace_any (B : Nat) (v : Value) (V : VW) (x r : Int) (hr : placeV V x = r) (w : World) (h : IsView B w v V) (hB : B ≤ w.heap.size) (hsm : SmallV V) :
    Calls Try.prog 31 #[v, .int .i64 x] w fun e w' => e = .returned (.int .i64 r) ∧ Below w.heap.size w w' := by
  have hv := Lib.hid h
  obtain ⟨he, c, s, bt, rfl, h1, h2, h3⟩ := h
  have H1 := Lib.hid h1
  have H2 := Lib.hid h2
  have H3 := Lib.hid h3
  obtain ⟨a1, k1, rfl⟩ := h1.form
  obtain ⟨a2, k2, rfl⟩ := h2.form
  obtain ⟨a3, k3, rfl⟩ := h3.form
  have hb0 : Below w.heap.size w (w.alloc (.cells #[.int .i64 V.epoch, .slice a1 V.chain.length k1, .slice a2 V.since.length k2, .slice a3 V.boot.length k3] 41)) := (Below.refl _ w).alloc (Nat.le_refl _) _
  have hV1 := view_alloc hv.out hB (.cells #[.int .i64 V.epoch, .slice a1 V.chain.length k1, .slice a2 V.since.length k2, .slice a3 V.boot.length k3] 41)
  have hB1 := le_alloc hB (.cells #[.int .i64 V.epoch, .slice a1 V.chain.length k1, .slice a2 V.since.length k2, .slice a3 V.boot.length k3] 41)
  have hs1 := hsm.1
  cases hb : rightB V with
  | false =>
    have C1 := Lib.hid (refRight_any B _ V _ hV1 hB1 hsm false hb.symm)
    obtain rfl : r = -1 := by rw [← hr, placeV, if_neg (by rw [hb]; decide)]
    clear hb hr
    go_enter Try.func31, Try.ntmps31
    go_wp2_with fail
    refine C1.out.mono ?_
    rintro e w1 ⟨rfl, hb1⟩
    have hbb := bstep hb0 hb1
    have bx1 : Below (w.heap.size + 1) _ w1 := hb1.mono (by simp)
    obtain ⟨y0, y1, y2, y3⟩ := box4 bx1
    go_wp2_with fail
    go_loopw [4, 6] (fun _ _ wr => Below w.heap.size w wr) (fun _ _ _ => 0)
    case atStart => exact hbb
    case round =>
      go_wp2_with fail
      go_ret
      exact ⟨rfl, hrel⟩
  | true =>
    have C1 := Lib.hid (refRight_any B _ V _ hV1 hB1 hsm true hb.symm)
    have hr' : idxI V.chain x = r := by rw [← hr, placeV, if_pos hb]
    have HR := Lib.hid hr'
    clear hb hr hr'
    go_enter Try.func31, Try.ntmps31
    go_wp2_with fail
    refine C1.out.mono ?_
    rintro e w1 ⟨rfl, hb1⟩
    have hbb := bstep hb0 hb1
    have bx1 : Below (w.heap.size + 1) _ w1 := hb1.mono (by simp)
    obtain ⟨y0, y1, y2, y3⟩ := box4 bx1
    clear y0 y1 y2 y3
    go_wp2_with fail
    go_loopw [4, 6] (fun _ t6 wr => ∃ k : Nat, k ≤ V.chain.length ∧ t6 = .int .i64 k ∧ (∀ i, (hi : i < V.chain.length) → i < k → V.chain[i] ≠ x) ∧ Below (w.heap.size + 1) (w.alloc (.cells #[.int .i64 V.epoch, .slice a1 V.chain.length k1, .slice a2 V.since.length k2, .slice a3 V.boot.length k3] 41)) wr) (fun _ i _ => V.chain.length - (intOf i).toNat)
    case atStart => exact ⟨0, Nat.zero_le _, rfl, fun i _ h => absurd h (by omega), bx1⟩
    case round =>
      obtain ⟨k, hk, rfl, hno, bx⟩ := hrel
      have Hno := Lib.hid hno
      clear hno
      obtain ⟨y0, y1, y2, y3⟩ := box4 bx
      have bw := below_one' bx
      by_cases hlt : k < V.chain.length
      · obtain ⟨b1, o1, k', he1, hlt1, _, hcell⟩ := (H1.out.keep bw hB).get k hlt
        obtain ⟨rfl, -, rfl⟩ : a1 = some ⟨b1, o1, none⟩ ∧ V.chain.length = V.chain.length ∧ k1 = k' := by injection he1 with e1 e2 e3; exact ⟨e1, e2, e3⟩
        clear he1
        obtain ⟨y, hy⟩ : ∃ y, V.chain[k] = y := ⟨_, rfl⟩
        rw [hy] at hcell
        have Hy := Lib.hid hy
        clear hy
        have i1 : (0 : Int) ≤ (k : Int) := by omega
        have i2 : (k : Int) < (V.chain.length : Int) := by omega
        by_cases hxy : y = x
        · have g : (y == x) = true := by rw [beq_iff_eq]; exact hxy
          have Hxy := Lib.hid hxy
          clear hxy
          go_wp2_with fail
          go_ret
          refine ⟨ret_int ?_, bw⟩
          have e : V.chain[k] = x := Hy.out.trans Hxy.out
          rw [← HR.out, idxI, if_pos (e ▸ List.getElem_mem hlt), idxOf_eq V.chain x k hlt e Hno.out]
        · have g : (y == x) = false := by rw [beq_eq_false_iff_ne]; exact hxy
          have Hxy := Lib.hid hxy
          clear hxy
          go_wp2_with fail
          go_roundw
          case rel =>
            refine ⟨k + 1, by omega, by go_num, fun i hi hik => ?_, bx⟩
            by_cases e : i = k
            · subst e; rw [Hy.out]; exact Hxy.out
            · exact Hno.out i hi (by omega)
          case measure => simp [intOf]; omega
      · have g : ¬ ((k : Int) < (V.chain.length : Int)) := by omega
        go_wp2_with fail
        go_ret
        refine ⟨ret_int ?_, bw⟩
        rw [← HR.out, idxI, if_neg]
        intro hx
        obtain ⟨i, hi, e⟩ := List.getElem_of_mem hx
        exact Hno.out i hi (by omega) e

set_option maxHeartbeats 1600000 in
theorem refNode_any (B : Nat) (v : Value) (V : VW) (i r : Int) (hr : nodeV V i = r) (w : World) (h : IsView B w v V) (hB : B ≤ w.heap.size) (hsm : SmallV V) :
    Calls Try.prog 30 #[v, .int .i64 i] w fun e w' => e = .returned (.int .i64 r) ∧ Below w.heap.size w w' := by
  have hv := Lib.hid h
  obtain ⟨he, c, s, bt, rfl, h1, h2, h3⟩ := h
  have H1 := Lib.hid h1
  have H2 := Lib.hid h2
  have H3 := Lib.hid h3
  obtain ⟨a1, k1, rfl⟩ := h1.form
  obtain ⟨a2, k2, rfl⟩ := h2.form
  obtain ⟨a3, k3, rfl⟩ := h3.form
  have hb0 : Below w.heap.size w (w.alloc (.cells #[.int .i64 V.epoch, .slice a1 V.chain.length k1, .slice a2 V.since.length k2, .slice a3 V.boot.length k3] 41)) := (Below.refl _ w).alloc (Nat.le_refl _) _
  have hV1 := view_alloc hv.out hB (.cells #[.int .i64 V.epoch, .slice a1 V.chain.length k1, .slice a2 V.since.length k2, .slice a3 V.boot.length k3] 41)
  have hB1 := le_alloc hB (.cells #[.int .i64 V.epoch, .slice a1 V.chain.length k1, .slice a2 V.since.length k2, .slice a3 V.boot.length k3] 41)
  have hs1 := hsm.1
  cases hb : rightB V with
  | false =>
    have C1 := Lib.hid (refRight_any B _ V _ hV1 hB1 hsm false hb.symm)
    obtain rfl : r = 0 := by rw [← hr, nodeV, if_neg (by rw [hb]; simp)]
    clear hb hr
    go_enter Try.func30, Try.ntmps30
    go_wp2_with fail
    refine C1.out.mono ?_
    rintro e w1 ⟨rfl, hb1⟩
    have hbb := bstep hb0 hb1
    have bx1 : Below (w.heap.size + 1) _ w1 := hb1.mono (by simp)
    obtain ⟨y0, y1, y2, y3⟩ := box4 bx1
    go_wp2_with fail
    go_ret
    exact ⟨rfl, hbb⟩
  | true =>
    have C1 := Lib.hid (refRight_any B _ V _ hV1 hB1 hsm true hb.symm)
    by_cases hin : 0 ≤ i ∧ i < V.chain.length
    · obtain ⟨h01, h02⟩ := hin
      obtain ⟨k, rfl⟩ := Int.eq_ofNat_of_zero_le h01
      have hj : k < V.chain.length := by omega
      have hr' := Lib.hid (show V.chain[k] = r by rw [← getD_lt hj, ← hr, nodeV, if_pos ⟨hb, h01, h02⟩, Int.toNat_natCast])
      have g1 : ¬ ((k : Int) < 0) := by omega
      have g2 : ¬ ((V.chain.length : Int) ≤ (k : Int)) := by omega
      clear hb hr
      go_enter Try.func30, Try.ntmps30
      go_wp2_with fail
      refine C1.out.mono ?_
      rintro e w1 ⟨rfl, hb1⟩
      have hbb := bstep hb0 hb1
      have bx1 : Below (w.heap.size + 1) _ w1 := hb1.mono (by simp)
      obtain ⟨y0, y1, y2, y3⟩ := box4 bx1
      obtain ⟨b1, o1, k', he1, hlt1, _, hcell⟩ := (H1.out.keep hbb hB).get (k) hj
      obtain ⟨rfl, -, rfl⟩ : a1 = some ⟨b1, o1, none⟩ ∧ V.chain.length = V.chain.length ∧ k1 = k' := by injection he1 with e1 e2 e3; exact ⟨e1, e2, e3⟩
      clear he1
      rw [hr'.out] at hcell
      go_wp2_with fail
      go_ret
      exact ⟨rfl, hbb⟩
    · obtain rfl : r = 0 := by rw [← hr, nodeV, if_neg (fun h => hin h.2)]
      clear hb hr
      by_cases hneg : i < 0
      · go_enter Try.func30, Try.ntmps30
        go_wp2_with fail
        refine C1.out.mono ?_
        rintro e w1 ⟨rfl, hb1⟩
        have hbb := bstep hb0 hb1
        have bx1 : Below (w.heap.size + 1) _ w1 := hb1.mono (by simp)
        obtain ⟨y0, y1, y2, y3⟩ := box4 bx1
        go_wp2_with fail
        go_ret
        exact ⟨rfl, hbb⟩
      · have g2 : (V.chain.length : Int) ≤ i := by omega
        go_enter Try.func30, Try.ntmps30
        go_wp2_with fail
        refine C1.out.mono ?_
        rintro e w1 ⟨rfl, hb1⟩
        have hbb := bstep hb0 hb1
        have bx1 : Below (w.heap.size + 1) _ w1 := hb1.mono (by simp)
        obtain ⟨y0, y1, y2, y3⟩ := box4 bx1
        go_wp2_with fail
        go_ret
        exact ⟨rfl, hbb⟩

set_option maxHeartbeats 1600000 in
theorem refAhead_any (B : Nat) (v : Value) (V : VW) (x r : Int) (hr : aheadV V x = r) (w : World) (h : IsView B w v V) (hB : B ≤ w.heap.size) (hsm : SmallV V) :
    Calls Try.prog 32 #[v, .int .i64 x] w fun e w' => e = .returned (.int .i64 r) ∧ Below w.heap.size w w' := by
  have hv := Lib.hid h
  obtain ⟨he, c, s, bt, rfl, h1, h2, h3⟩ := h
  have H1 := Lib.hid h1
  have H2 := Lib.hid h2
  have H3 := Lib.hid h3
  obtain ⟨a1, k1, rfl⟩ := h1.form
  obtain ⟨a2, k2, rfl⟩ := h2.form
  obtain ⟨a3, k3, rfl⟩ := h3.form
  have hb0 : Below w.heap.size w (w.alloc (.cells #[.int .i64 V.epoch, .slice a1 V.chain.length k1, .slice a2 V.since.length k2, .slice a3 V.boot.length k3] 41)) := (Below.refl _ w).alloc (Nat.le_refl _) _
  have hV1 := view_alloc hv.out hB (.cells #[.int .i64 V.epoch, .slice a1 V.chain.length k1, .slice a2 V.since.length k2, .slice a3 V.boot.length k3] 41)
  have hB1 := le_alloc hB (.cells #[.int .i64 V.epoch, .slice a1 V.chain.length k1, .slice a2 V.since.length k2, .slice a3 V.boot.length k3] 41)
  have hs1 := hsm.1
  rcases placeV_spec V x with ⟨p1, _⟩ | ⟨hR, i, hi, p1, _⟩
  · have C1 := Lib.hid (refPlace_any B _ V x (-1) p1 _ hV1 hB1 hsm)
    obtain rfl : r = 0 := by rw [← hr, aheadV, if_neg (by omega)]
    clear p1 hr
    go_enter Try.func32, Try.ntmps32
    go_wp2_with fail
    refine C1.out.mono ?_
    rintro e w1 ⟨rfl, hb1⟩
    have hbb := bstep hb0 hb1
    have bx1 : Below (w.heap.size + 1) _ w1 := hb1.mono (by simp)
    obtain ⟨y0, y1, y2, y3⟩ := box4 bx1
    go_wp2_with fail
    go_ret
    exact ⟨rfl, hbb⟩
  · have C1 := Lib.hid (refPlace_any B _ V x i p1 _ hV1 hB1 hsm)
    have hr' : nodeV V ((i : Int) - 1) = r := by
      rw [← hr, aheadV, p1, nodeV]
      by_cases h0 : i = 0
      · rw [if_neg (by omega), if_neg (by omega)]
      · rw [if_pos ⟨rightB_of hR, by omega, by omega⟩, if_pos (by omega), atI, if_neg (by omega)]
    have C2 := Lib.hid (fun w1 (hb1 : Below w.heap.size w w1) => refNode_any B _ V ((i : Int) - 1) r hr' w1 (hv.out.keep hb1 hB) (Nat.le_trans hB hb1.size) hsm)
    have g1 : ¬ ((i : Int) < 0) := by omega
    clear p1 hr hr' hR
    go_enter Try.func32, Try.ntmps32
    go_wp2_with fail
    refine C1.out.mono ?_
    rintro e w1 ⟨rfl, hb1⟩
    have hbb := bstep hb0 hb1
    have bx1 : Below (w.heap.size + 1) _ w1 := hb1.mono (by simp)
    obtain ⟨y0, y1, y2, y3⟩ := box4 bx1
    go_wp2_with fail
    refine (C2.out w1 hbb).mono ?_
    rintro e w2 ⟨rfl, hb2⟩
    go_wp2_with fail
    go_ret
    exact ⟨rfl, bstep hbb hb2⟩

set_option maxHeartbeats 1600000 in
theorem refBehind_any (B : Nat) (v : Value) (V : VW) (x r : Int) (hr : behindV V x = r) (w : World) (h : IsView B w v V) (hB : B ≤ w.heap.size) (hsm : SmallV V) :
    Calls Try.prog 33 #[v, .int .i64 x] w fun e w' => e = .returned (.int .i64 r) ∧ Below w.heap.size w w' := by
  have hv := Lib.hid h
  obtain ⟨he, c, s, bt, rfl, h1, h2, h3⟩ := h
  have H1 := Lib.hid h1
  have H2 := Lib.hid h2
  have H3 := Lib.hid h3
  obtain ⟨a1, k1, rfl⟩ := h1.form
  obtain ⟨a2, k2, rfl⟩ := h2.form
  obtain ⟨a3, k3, rfl⟩ := h3.form
  have hb0 : Below w.heap.size w (w.alloc (.cells #[.int .i64 V.epoch, .slice a1 V.chain.length k1, .slice a2 V.since.length k2, .slice a3 V.boot.length k3] 41)) := (Below.refl _ w).alloc (Nat.le_refl _) _
  have hV1 := view_alloc hv.out hB (.cells #[.int .i64 V.epoch, .slice a1 V.chain.length k1, .slice a2 V.since.length k2, .slice a3 V.boot.length k3] 41)
  have hB1 := le_alloc hB (.cells #[.int .i64 V.epoch, .slice a1 V.chain.length k1, .slice a2 V.since.length k2, .slice a3 V.boot.length k3] 41)
  have hs1 := hsm.1
  rcases placeV_spec V x with ⟨p1, _⟩ | ⟨hR, i, hi, p1, _⟩
  · have C1 := Lib.hid (refPlace_any B _ V x (-1) p1 _ hV1 hB1 hsm)
    obtain rfl : r = 0 := by rw [← hr, behindV, if_neg (by omega)]
    clear p1 hr
    go_enter Try.func33, Try.ntmps33
    go_wp2_with fail
    refine C1.out.mono ?_
    rintro e w1 ⟨rfl, hb1⟩
    have hbb := bstep hb0 hb1
    have bx1 : Below (w.heap.size + 1) _ w1 := hb1.mono (by simp)
    obtain ⟨y0, y1, y2, y3⟩ := box4 bx1
    go_wp2_with fail
    go_ret
    exact ⟨rfl, hbb⟩
  · have C1 := Lib.hid (refPlace_any B _ V x i p1 _ hV1 hB1 hsm)
    have hr' : nodeV V ((i : Int) + 1) = r := by
      rw [← hr, behindV, p1, nodeV]
      have e : (if (0 : Int) ≤ (i : Int) then atI V.chain ((i : Int) + 1) else 0) = V.chain.getD ((i : Int) + 1).toNat 0 := by rw [if_pos (by omega), atI, if_neg (by omega)]
      rw [e]
      by_cases h0 : i + 1 < V.chain.length
      · rw [if_pos ⟨rightB_of hR, by omega, by omega⟩]
      · rw [if_neg (by omega)]
        have : ((i : Int) + 1).toNat = i + 1 := by omega
        rw [this]
        simp [List.getElem?_eq_none (show V.chain.length ≤ i + 1 by omega)]
    have C2 := Lib.hid (fun w1 (hb1 : Below w.heap.size w w1) => refNode_any B _ V ((i : Int) + 1) r hr' w1 (hv.out.keep hb1 hB) (Nat.le_trans hB hb1.size) hsm)
    have g1 : ¬ ((i : Int) < 0) := by omega
    clear p1 hr hr' hR
    go_enter Try.func33, Try.ntmps33
    go_wp2_with fail
    refine C1.out.mono ?_
    rintro e w1 ⟨rfl, hb1⟩
    have hbb := bstep hb0 hb1
    have bx1 : Below (w.heap.size + 1) _ w1 := hb1.mono (by simp)
    obtain ⟨y0, y1, y2, y3⟩ := box4 bx1
    go_wp2_with fail
    refine (C2.out w1 hbb).mono ?_
    rintro e w2 ⟨rfl, hb2⟩
    go_wp2_with fail
    go_ret
    exact ⟨rfl, bstep hbb hb2⟩

set_option maxHeartbeats 1600000 in
theorem refSince_any (B : Nat) (v : Value) (V : VW) (x r : Int) (hr : sinceV V x = r) (w : World) (h : IsView B w v V) (hB : B ≤ w.heap.size) (hsm : SmallV V) :
    Calls Try.prog 34 #[v, .int .i64 x] w fun e w' => e = .returned (.int .i64 r) ∧ Below w.heap.size w w' := by
  have hv := Lib.hid h
  obtain ⟨he, c, s, bt, rfl, h1, h2, h3⟩ := h
  have H1 := Lib.hid h1
  have H2 := Lib.hid h2
  have H3 := Lib.hid h3
  obtain ⟨a1, k1, rfl⟩ := h1.form
  obtain ⟨a2, k2, rfl⟩ := h2.form
  obtain ⟨a3, k3, rfl⟩ := h3.form
  have hb0 : Below w.heap.size w (w.alloc (.cells #[.int .i64 V.epoch, .slice a1 V.chain.length k1, .slice a2 V.since.length k2, .slice a3 V.boot.length k3] 41)) := (Below.refl _ w).alloc (Nat.le_refl _) _
  have hV1 := view_alloc hv.out hB (.cells #[.int .i64 V.epoch, .slice a1 V.chain.length k1, .slice a2 V.since.length k2, .slice a3 V.boot.length k3] 41)
  have hB1 := le_alloc hB (.cells #[.int .i64 V.epoch, .slice a1 V.chain.length k1, .slice a2 V.since.length k2, .slice a3 V.boot.length k3] 41)
  have hs1 := hsm.1
  rcases placeV_spec V x with ⟨p1, _⟩ | ⟨hR, i, hi, p1, _⟩
  · have C1 := Lib.hid (refPlace_any B _ V x (-1) p1 _ hV1 hB1 hsm)
    obtain rfl : r = 0 := by rw [← hr, sinceV, if_neg (by omega)]
    clear p1 hr
    go_enter Try.func34, Try.ntmps34
    go_wp2_with fail
    refine C1.out.mono ?_
    rintro e w1 ⟨rfl, hb1⟩
    have hbb := bstep hb0 hb1
    have bx1 : Below (w.heap.size + 1) _ w1 := hb1.mono (by simp)
    obtain ⟨y0, y1, y2, y3⟩ := box4 bx1
    go_wp2_with fail
    go_ret
    exact ⟨rfl, hbb⟩
  · have C1 := Lib.hid (refPlace_any B _ V x i p1 _ hV1 hB1 hsm)
    have hj : i < V.since.length := by have := hR.s; have := hR.b; omega
    have hr' := Lib.hid (show V.since[i] = r by rw [← getD_lt hj, ← hr, sinceV, if_pos (by omega), p1, atI, if_neg (by omega), Int.toNat_natCast])
    clear p1 hr hR
    have g1 : ¬ ((i : Int) < 0) := by omega
    have g0 : (0 : Int) ≤ (i : Int) := by omega
    have g2 : (i : Int) < (V.since.length : Int) := by omega
    go_enter Try.func34, Try.ntmps34
    go_wp2_with fail
    refine C1.out.mono ?_
    rintro e w1 ⟨rfl, hb1⟩
    have hbb := bstep hb0 hb1
    have bx1 : Below (w.heap.size + 1) _ w1 := hb1.mono (by simp)
    obtain ⟨y0, y1, y2, y3⟩ := box4 bx1
    obtain ⟨b1, o1, k', he1, hlt1, _, hcell⟩ := (H2.out.keep hbb hB).get (i) hj
    obtain ⟨rfl, -, rfl⟩ : a2 = some ⟨b1, o1, none⟩ ∧ V.since.length = V.since.length ∧ k2 = k' := by injection he1 with e1 e2 e3; exact ⟨e1, e2, e3⟩
    clear he1
    rw [hr'.out] at hcell
    go_wp2_with fail
    go_ret
    exact ⟨rfl, hbb⟩

set_option maxHeartbeats 1600000 in
theorem refBoot_any (B : Nat) (v : Value) (V : VW) (x r : Int) (hr : bootV V x = r) (w : World) (h : IsView B w v V) (hB : B ≤ w.heap.size) (hsm : SmallV V) :
    Calls Try.prog 35 #[v, .int .i64 x] w fun e w' => e = .returned (.int .i64 r) ∧ Below w.heap.size w w' := by
  have hv := Lib.hid h
  obtain ⟨he, c, s, bt, rfl, h1, h2, h3⟩ := h
  have H1 := Lib.hid h1
  have H2 := Lib.hid h2
  have H3 := Lib.hid h3
  obtain ⟨a1, k1, rfl⟩ := h1.form
  obtain ⟨a2, k2, rfl⟩ := h2.form
  obtain ⟨a3, k3, rfl⟩ := h3.form
  have hb0 : Below w.heap.size w (w.alloc (.cells #[.int .i64 V.epoch, .slice a1 V.chain.length k1, .slice a2 V.since.length k2, .slice a3 V.boot.length k3] 41)) := (Below.refl _ w).alloc (Nat.le_refl _) _
  have hV1 := view_alloc hv.out hB (.cells #[.int .i64 V.epoch, .slice a1 V.chain.length k1, .slice a2 V.since.length k2, .slice a3 V.boot.length k3] 41)
  have hB1 := le_alloc hB (.cells #[.int .i64 V.epoch, .slice a1 V.chain.length k1, .slice a2 V.since.length k2, .slice a3 V.boot.length k3] 41)
  have hs1 := hsm.1
  rcases placeV_spec V x with ⟨p1, _⟩ | ⟨hR, i, hi, p1, _⟩
  · have C1 := Lib.hid (refPlace_any B _ V x (-1) p1 _ hV1 hB1 hsm)
    obtain rfl : r = 0 := by rw [← hr, bootV, if_neg (by omega)]
    clear p1 hr
    go_enter Try.func35, Try.ntmps35
    go_wp2_with fail
    refine C1.out.mono ?_
    rintro e w1 ⟨rfl, hb1⟩
    have hbb := bstep hb0 hb1
    have bx1 : Below (w.heap.size + 1) _ w1 := hb1.mono (by simp)
    obtain ⟨y0, y1, y2, y3⟩ := box4 bx1
    go_wp2_with fail
    go_ret
    exact ⟨rfl, hbb⟩
  · have C1 := Lib.hid (refPlace_any B _ V x i p1 _ hV1 hB1 hsm)
    have hj : i < V.boot.length := by have := hR.s; have := hR.b; omega
    have hr' := Lib.hid (show V.boot[i] = r by rw [← getD_lt hj, ← hr, bootV, if_pos (by omega), p1, atI, if_neg (by omega), Int.toNat_natCast])
    clear p1 hr hR
    have g1 : ¬ ((i : Int) < 0) := by omega
    have g0 : (0 : Int) ≤ (i : Int) := by omega
    have g2 : (i : Int) < (V.boot.length : Int) := by omega
    go_enter Try.func35, Try.ntmps35
    go_wp2_with fail
    refine C1.out.mono ?_
    rintro e w1 ⟨rfl, hb1⟩
    have hbb := bstep hb0 hb1
    have bx1 : Below (w.heap.size + 1) _ w1 := hb1.mono (by simp)
    obtain ⟨y0, y1, y2, y3⟩ := box4 bx1
    obtain ⟨b1, o1, k', he1, hlt1, _, hcell⟩ := (H3.out.keep hbb hB).get (i) hj
    obtain ⟨rfl, -, rfl⟩ : a3 = some ⟨b1, o1, none⟩ ∧ V.boot.length = V.boot.length ∧ k3 = k' := by injection he1 with e1 e2 e3; exact ⟨e1, e2, e3⟩
    clear he1
    rw [hr'.out] at hcell
    go_wp2_with fail
    go_ret
    exact ⟨rfl, hbb⟩
end Go.Proofs.Ytigojackdkaanaa
