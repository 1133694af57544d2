/-
  The walks of view.Place, Head, Tail, Since, Boot, Ahead and Behind. Printed by gen_vwat.py of this claim's writer.
-/
import Derived.Test.YtigojackdkaanaaVwPlain3
namespace Go.Proofs.Ytigojackdkaanaa
open Go.RowKit

theorem view_alloc {B : Nat} {w : World} {v : Value} {V : VW} (h : IsView B w v V) (hB : B ≤ w.heap.size) (c : Obj) : IsView B (w.alloc c) v V :=
  h.keep ((Below.refl _ w).alloc (Nat.le_refl _) c) hB
theorem le_alloc {B : Nat} {w : World} (hB : B ≤ w.heap.size) (c : Obj) : B ≤ (w.alloc c).heap.size := by rw [World.size_alloc]; omega

set_option maxHeartbeats 800000 in
theorem place_any (B : Nat) (v : Value) (V : VW) (x r : Int) (hr : placeV V x = r) (w : World) (h : IsView B w v V) (hB : B ≤ w.heap.size) (hsm : SmallV V) :
    Calls Try.prog 14 #[v, .int .i64 x] w fun e w' => e = .returned (.int .i64 r) ∧ Below w.heap.size w w' := by
  have hv := Lib.hid h
  obtain ⟨he, c, s, bt, rfl, h1, h2, h3⟩ := h
  have H1 := Lib.hid h1
  have H2 := Lib.hid h2
  have H3 := Lib.hid h3
  obtain ⟨a1, k1, rfl⟩ := h1.form
  obtain ⟨a2, k2, rfl⟩ := h2.form
  obtain ⟨a3, k3, rfl⟩ := h3.form
  have hb0 : Below w.heap.size w (w.alloc (.cells #[.int .i64 V.epoch, .slice a1 V.chain.length k1, .slice a2 V.since.length k2, .slice a3 V.boot.length k3] 24)) := (Below.refl _ w).alloc (Nat.le_refl _) _
  have hV1 := view_alloc hv.out hB (.cells #[.int .i64 V.epoch, .slice a1 V.chain.length k1, .slice a2 V.since.length k2, .slice a3 V.boot.length k3] 24)
  have hB1 := le_alloc hB (.cells #[.int .i64 V.epoch, .slice a1 V.chain.length k1, .slice a2 V.since.length k2, .slice a3 V.boot.length k3] 24)
  have hs1 := hsm.1
  cases hb : rightB V with
  | false =>
    have C1 := Lib.hid (right_any B _ V _ hV1 hB1 hsm false hb.symm)
    obtain rfl : r = -1 := by rw [← hr, placeV, if_neg (by rw [hb]; decide)]
    clear hb hr
    go_enter Try.func14, Try.ntmps14
    go_wp2_with fail
    refine C1.out.mono ?_
    rintro e w1 ⟨rfl, hb1⟩
    have hbb := bstep hb0 hb1
    go_wp2_with fail
    go_ret
    exact ⟨rfl, hbb⟩
  | true =>
    have C1 := Lib.hid (right_any B _ V _ hV1 hB1 hsm true hb.symm)
    have C2 := Lib.hid (fun w1 (hb1 : Below w.heap.size w w1) => index_any B _ V.chain x w1 (H1.out.keep hb1 hB) (by omega))
    rw [show idxI V.chain x = r by rw [← hr, placeV, if_pos hb]] at C2
    clear hb hr
    go_enter Try.func14, Try.ntmps14
    go_wp2_with fail
    refine C1.out.mono ?_
    rintro e w1 ⟨rfl, hb1⟩
    have hbb := bstep hb0 hb1
    have y1 : w1.cell? ⟨w.heap.size, 1, none⟩ = some (.slice a1 V.chain.length k1) := (hb1.cell (p := ⟨w.heap.size, 1, none⟩) (by simp)).trans (by simp)
    go_wp2_with fail
    refine (C2.out w1 hbb).mono ?_
    rintro e w2 ⟨rfl, rfl⟩
    go_wp2_with fail
    go_ret
    exact ⟨rfl, hbb⟩

set_option maxHeartbeats 800000 in
theorem head_any (B : Nat) (v : Value) (V : VW) (r : Int) (hr : headV V = r) (w : World) (h : IsView B w v V) (hB : B ≤ w.heap.size) (hsm : SmallV V) :
    Calls Try.prog 20 #[v] w fun e w' => e = .returned (.int .i64 r) ∧ Below w.heap.size w w' := by
  have hv := Lib.hid h
  obtain ⟨he, c, s, bt, rfl, h1, h2, h3⟩ := h
  have H1 := Lib.hid h1
  have H2 := Lib.hid h2
  have H3 := Lib.hid h3
  obtain ⟨a1, k1, rfl⟩ := h1.form
  obtain ⟨a2, k2, rfl⟩ := h2.form
  obtain ⟨a3, k3, rfl⟩ := h3.form
  have hb0 : Below w.heap.size w (w.alloc (.cells #[.int .i64 V.epoch, .slice a1 V.chain.length k1, .slice a2 V.since.length k2, .slice a3 V.boot.length k3] 24)) := (Below.refl _ w).alloc (Nat.le_refl _) _
  have hV1 := view_alloc hv.out hB (.cells #[.int .i64 V.epoch, .slice a1 V.chain.length k1, .slice a2 V.since.length k2, .slice a3 V.boot.length k3] 24)
  have hB1 := le_alloc hB (.cells #[.int .i64 V.epoch, .slice a1 V.chain.length k1, .slice a2 V.since.length k2, .slice a3 V.boot.length k3] 24)
  have hs1 := hsm.1
  cases hb : rightB V with
  | false =>
    have C1 := Lib.hid (right_any B _ V _ hV1 hB1 hsm false hb.symm)
    obtain rfl : r = 0 := by rw [← hr, headV, if_neg (by rw [hb]; decide)]
    clear hb hr
    go_enter Try.func20, Try.ntmps20
    go_wp2_with fail
    refine C1.out.mono ?_
    rintro e w1 ⟨rfl, hb1⟩
    have hbb := bstep hb0 hb1
    go_wp2_with fail
    go_ret
    exact ⟨rfl, hbb⟩
  | true =>
    have C1 := Lib.hid (right_any B _ V _ hV1 hB1 hsm true hb.symm)
    have hpos : 0 < V.chain.length := ((rightB_iff V).1 hb).n1
    have hr' := Lib.hid (show V.chain[0]'(by omega) = r by rw [← getD_lt (by omega), ← hr, headV, if_pos hb])
    clear hb hr
    go_enter Try.func20, Try.ntmps20
    go_wp2_with fail
    refine C1.out.mono ?_
    rintro e w1 ⟨rfl, hb1⟩
    have hbb := bstep hb0 hb1
    have y1 : w1.cell? ⟨w.heap.size, 1, none⟩ = some (.slice a1 V.chain.length k1) := (hb1.cell (p := ⟨w.heap.size, 1, none⟩) (by simp)).trans (by simp)
    obtain ⟨b1, o1, k', he1, hlt1, _, hcell⟩ := (H1.out.keep hbb hB).get (0) (by omega)
    obtain ⟨rfl, -, rfl⟩ : a1 = some ⟨b1, o1, none⟩ ∧ V.chain.length = V.chain.length ∧ k1 = k' := by injection he1 with e1 e2 e3; exact ⟨e1, e2, e3⟩
    clear he1
    rw [hr'.out, Nat.add_zero] at hcell
    have i2 : (0 : Int) < (V.chain.length : Int) := by omega
    go_wp2_with fail
    go_ret
    exact ⟨rfl, hbb⟩

set_option maxHeartbeats 800000 in
theorem tail_any (B : Nat) (v : Value) (V : VW) (r : Int) (hr : tailV V = r) (w : World) (h : IsView B w v V) (hB : B ≤ w.heap.size) (hsm : SmallV V) :
    Calls Try.prog 17 #[v] w fun e w' => e = .returned (.int .i64 r) ∧ Below w.heap.size w w' := by
  have hv := Lib.hid h
  obtain ⟨he, c, s, bt, rfl, h1, h2, h3⟩ := h
  have H1 := Lib.hid h1
  have H2 := Lib.hid h2
  have H3 := Lib.hid h3
  obtain ⟨a1, k1, rfl⟩ := h1.form
  obtain ⟨a2, k2, rfl⟩ := h2.form
  obtain ⟨a3, k3, rfl⟩ := h3.form
  have hb0 : Below w.heap.size w (w.alloc (.cells #[.int .i64 V.epoch, .slice a1 V.chain.length k1, .slice a2 V.since.length k2, .slice a3 V.boot.length k3] 24)) := (Below.refl _ w).alloc (Nat.le_refl _) _
  have hV1 := view_alloc hv.out hB (.cells #[.int .i64 V.epoch, .slice a1 V.chain.length k1, .slice a2 V.since.length k2, .slice a3 V.boot.length k3] 24)
  have hB1 := le_alloc hB (.cells #[.int .i64 V.epoch, .slice a1 V.chain.length k1, .slice a2 V.since.length k2, .slice a3 V.boot.length k3] 24)
  have hs1 := hsm.1
  cases hb : rightB V with
  | false =>
    have C1 := Lib.hid (right_any B _ V _ hV1 hB1 hsm false hb.symm)
    obtain rfl : r = 0 := by rw [← hr, tailV, if_neg (by rw [hb]; decide)]
    clear hb hr
    go_enter Try.func17, Try.ntmps17
    go_wp2_with fail
    refine C1.out.mono ?_
    rintro e w1 ⟨rfl, hb1⟩
    have hbb := bstep hb0 hb1
    go_wp2_with fail
    go_ret
    exact ⟨rfl, hbb⟩
  | true =>
    have C1 := Lib.hid (right_any B _ V _ hV1 hB1 hsm true hb.symm)
    have hpos : 0 < V.chain.length := ((rightB_iff V).1 hb).n1
    have hr' := Lib.hid (show V.chain[V.chain.length - 1]'(by omega) = r by rw [← getD_lt (by omega), ← hr, tailV, if_pos hb])
    clear hb hr
    go_enter Try.func17, Try.ntmps17
    go_wp2_with fail
    refine C1.out.mono ?_
    rintro e w1 ⟨rfl, hb1⟩
    have hbb := bstep hb0 hb1
    have y1 : w1.cell? ⟨w.heap.size, 1, none⟩ = some (.slice a1 V.chain.length k1) := (hb1.cell (p := ⟨w.heap.size, 1, none⟩) (by simp)).trans (by simp)
    obtain ⟨b1, o1, k', he1, hlt1, _, hcell⟩ := (H1.out.keep hbb hB).get (V.chain.length - 1) (by omega)
    obtain ⟨rfl, -, rfl⟩ : a1 = some ⟨b1, o1, none⟩ ∧ V.chain.length = V.chain.length ∧ k1 = k' := by injection he1 with e1 e2 e3; exact ⟨e1, e2, e3⟩
    clear he1
    rw [hr'.out] at hcell
    obtain ⟨m, hm⟩ : ∃ m, V.chain.length = m + 1 := ⟨V.chain.length - 1, by omega⟩
    have e1 : (V.chain.length : Int) - 1 = (m : Int) := by omega
    have e2 : V.chain.length - 1 = m := by omega
    rw [e2] at hcell
    have i1 : (0 : Int) ≤ (m : Int) := by omega
    have i2 : (m : Int) < (V.chain.length : Int) := by omega
    clear hm e2
    go_wp2_with fail
    go_ret
    exact ⟨rfl, hbb⟩

set_option maxHeartbeats 800000 in
theorem since_any (B : Nat) (v : Value) (V : VW) (x r : Int) (hr : sinceV V x = r) (w : World) (h : IsView B w v V) (hB : B ≤ w.heap.size) (hsm : SmallV V) :
    Calls Try.prog 24 #[v, .int .i64 x] w fun e w' => e = .returned (.int .i64 r) ∧ Below w.heap.size w w' := by
  have hv := Lib.hid h
  obtain ⟨he, c, s, bt, rfl, h1, h2, h3⟩ := h
  have H1 := Lib.hid h1
  have H2 := Lib.hid h2
  have H3 := Lib.hid h3
  obtain ⟨a1, k1, rfl⟩ := h1.form
  obtain ⟨a2, k2, rfl⟩ := h2.form
  obtain ⟨a3, k3, rfl⟩ := h3.form
  have hb0 : Below w.heap.size w (w.alloc (.cells #[.int .i64 V.epoch, .slice a1 V.chain.length k1, .slice a2 V.since.length k2, .slice a3 V.boot.length k3] 24)) := (Below.refl _ w).alloc (Nat.le_refl _) _
  have hV1 := view_alloc hv.out hB (.cells #[.int .i64 V.epoch, .slice a1 V.chain.length k1, .slice a2 V.since.length k2, .slice a3 V.boot.length k3] 24)
  have hB1 := le_alloc hB (.cells #[.int .i64 V.epoch, .slice a1 V.chain.length k1, .slice a2 V.since.length k2, .slice a3 V.boot.length k3] 24)
  have hs1 := hsm.1
  rcases placeV_spec V x with ⟨p1, _⟩ | ⟨hR, i, hi, p1, _⟩
  · have C1 := Lib.hid (place_any B _ V x (-1) p1 _ hV1 hB1 hsm)
    obtain rfl : r = 0 := by rw [← hr, sinceV, if_neg (by omega)]
    clear p1 hr
    go_enter Try.func24, Try.ntmps24
    go_wp2_with fail
    refine C1.out.mono ?_
    rintro e w1 ⟨rfl, hb1⟩
    have hbb := bstep hb0 hb1
    go_wp2_with fail
    go_ret
    exact ⟨rfl, hbb⟩
  · have C1 := Lib.hid (place_any B _ V x i p1 _ hV1 hB1 hsm)
    have hj : i < V.since.length := by have := hR.s; have := hR.b; omega
    have hr' := Lib.hid (show V.since[i] = r by rw [← getD_lt hj, ← hr, sinceV, if_pos (by omega), p1, atI, if_neg (by omega), Int.toNat_natCast])
    clear p1 hr hR
    have g1 : (0 : Int) ≤ (i : Int) := by omega
    have g2 : (i : Int) < (V.since.length : Int) := by omega
    go_enter Try.func24, Try.ntmps24
    go_wp2_with fail
    refine C1.out.mono ?_
    rintro e w1 ⟨rfl, hb1⟩
    have hbb := bstep hb0 hb1
    have y2 : w1.cell? ⟨w.heap.size, 2, none⟩ = some (.slice a2 V.since.length k2) := (hb1.cell (p := ⟨w.heap.size, 2, none⟩) (by simp)).trans (by simp)
    obtain ⟨b1, o1, k', he1, hlt1, _, hcell⟩ := (H2.out.keep hbb hB).get (i) hj
    obtain ⟨rfl, -, rfl⟩ : a2 = some ⟨b1, o1, none⟩ ∧ V.since.length = V.since.length ∧ k2 = k' := by injection he1 with e1 e2 e3; exact ⟨e1, e2, e3⟩
    clear he1
    rw [hr'.out] at hcell
    go_wp2_with fail
    go_ret
    exact ⟨rfl, hbb⟩

set_option maxHeartbeats 800000 in
theorem boot_any (B : Nat) (v : Value) (V : VW) (x r : Int) (hr : bootV V x = r) (w : World) (h : IsView B w v V) (hB : B ≤ w.heap.size) (hsm : SmallV V) :
    Calls Try.prog 18 #[v, .int .i64 x] w fun e w' => e = .returned (.int .i64 r) ∧ Below w.heap.size w w' := by
  have hv := Lib.hid h
  obtain ⟨he, c, s, bt, rfl, h1, h2, h3⟩ := h
  have H1 := Lib.hid h1
  have H2 := Lib.hid h2
  have H3 := Lib.hid h3
  obtain ⟨a1, k1, rfl⟩ := h1.form
  obtain ⟨a2, k2, rfl⟩ := h2.form
  obtain ⟨a3, k3, rfl⟩ := h3.form
  have hb0 : Below w.heap.size w (w.alloc (.cells #[.int .i64 V.epoch, .slice a1 V.chain.length k1, .slice a2 V.since.length k2, .slice a3 V.boot.length k3] 24)) := (Below.refl _ w).alloc (Nat.le_refl _) _
  have hV1 := view_alloc hv.out hB (.cells #[.int .i64 V.epoch, .slice a1 V.chain.length k1, .slice a2 V.since.length k2, .slice a3 V.boot.length k3] 24)
  have hB1 := le_alloc hB (.cells #[.int .i64 V.epoch, .slice a1 V.chain.length k1, .slice a2 V.since.length k2, .slice a3 V.boot.length k3] 24)
  have hs1 := hsm.1
  rcases placeV_spec V x with ⟨p1, _⟩ | ⟨hR, i, hi, p1, _⟩
  · have C1 := Lib.hid (place_any B _ V x (-1) p1 _ hV1 hB1 hsm)
    obtain rfl : r = 0 := by rw [← hr, bootV, if_neg (by omega)]
    clear p1 hr
    go_enter Try.func18, Try.ntmps18
    go_wp2_with fail
    refine C1.out.mono ?_
    rintro e w1 ⟨rfl, hb1⟩
    have hbb := bstep hb0 hb1
    go_wp2_with fail
    go_ret
    exact ⟨rfl, hbb⟩
  · have C1 := Lib.hid (place_any B _ V x i p1 _ hV1 hB1 hsm)
    have hj : i < V.boot.length := by have := hR.s; have := hR.b; omega
    have hr' := Lib.hid (show V.boot[i] = r by rw [← getD_lt hj, ← hr, bootV, if_pos (by omega), p1, atI, if_neg (by omega), Int.toNat_natCast])
    clear p1 hr hR
    have g1 : (0 : Int) ≤ (i : Int) := by omega
    have g2 : (i : Int) < (V.boot.length : Int) := by omega
    go_enter Try.func18, Try.ntmps18
    go_wp2_with fail
    refine C1.out.mono ?_
    rintro e w1 ⟨rfl, hb1⟩
    have hbb := bstep hb0 hb1
    have y3 : w1.cell? ⟨w.heap.size, 3, none⟩ = some (.slice a3 V.boot.length k3) := (hb1.cell (p := ⟨w.heap.size, 3, none⟩) (by simp)).trans (by simp)
    obtain ⟨b1, o1, k', he1, hlt1, _, hcell⟩ := (H3.out.keep hbb hB).get (i) hj
    obtain ⟨rfl, -, rfl⟩ : a3 = some ⟨b1, o1, none⟩ ∧ V.boot.length = V.boot.length ∧ k3 = k' := by injection he1 with e1 e2 e3; exact ⟨e1, e2, e3⟩
    clear he1
    rw [hr'.out] at hcell
    go_wp2_with fail
    go_ret
    exact ⟨rfl, hbb⟩

set_option maxHeartbeats 800000 in
theorem ahead_any (B : Nat) (v : Value) (V : VW) (x r : Int) (hr : aheadV V x = r) (w : World) (h : IsView B w v V) (hB : B ≤ w.heap.size) (hsm : SmallV V) :
    Calls Try.prog 22 #[v, .int .i64 x] w fun e w' => e = .returned (.int .i64 r) ∧ Below w.heap.size w w' := by
  have hv := Lib.hid h
  obtain ⟨he, c, s, bt, rfl, h1, h2, h3⟩ := h
  have H1 := Lib.hid h1
  have H2 := Lib.hid h2
  have H3 := Lib.hid h3
  obtain ⟨a1, k1, rfl⟩ := h1.form
  obtain ⟨a2, k2, rfl⟩ := h2.form
  obtain ⟨a3, k3, rfl⟩ := h3.form
  have hb0 : Below w.heap.size w (w.alloc (.cells #[.int .i64 V.epoch, .slice a1 V.chain.length k1, .slice a2 V.since.length k2, .slice a3 V.boot.length k3] 24)) := (Below.refl _ w).alloc (Nat.le_refl _) _
  have hV1 := view_alloc hv.out hB (.cells #[.int .i64 V.epoch, .slice a1 V.chain.length k1, .slice a2 V.since.length k2, .slice a3 V.boot.length k3] 24)
  have hB1 := le_alloc hB (.cells #[.int .i64 V.epoch, .slice a1 V.chain.length k1, .slice a2 V.since.length k2, .slice a3 V.boot.length k3] 24)
  have hs1 := hsm.1
  rcases placeV_spec V x with ⟨p1, _⟩ | ⟨hR, i, hi, p1, _⟩
  · have C1 := Lib.hid (place_any B _ V x (-1) p1 _ hV1 hB1 hsm)
    obtain rfl : r = 0 := by rw [← hr, aheadV, if_neg (by omega)]
    clear p1 hr
    go_enter Try.func22, Try.ntmps22
    go_wp2_with fail
    refine C1.out.mono ?_
    rintro e w1 ⟨rfl, hb1⟩
    have hbb := bstep hb0 hb1
    go_wp2_with fail
    go_ret
    exact ⟨rfl, hbb⟩
  · cases i with
    | zero =>
      have C1 := Lib.hid (place_any B _ V x 0 p1 _ hV1 hB1 hsm)
      obtain rfl : r = 0 := by rw [← hr, aheadV, if_neg (by omega)]
      clear p1 hr
      go_enter Try.func22, Try.ntmps22
      go_wp2_with fail
      refine C1.out.mono ?_
      rintro e w1 ⟨rfl, hb1⟩
      have hbb := bstep hb0 hb1
      go_wp2_with fail
      go_ret
      exact ⟨rfl, hbb⟩
    | succ m =>
      have C1 := Lib.hid (place_any B _ V x _ p1 _ hV1 hB1 hsm)
      have hj : m < V.chain.length := by omega
      have hr' := Lib.hid (show V.chain[m] = r by rw [← getD_lt hj, ← hr, aheadV, if_pos (by omega), p1, atI, if_neg (by omega), show (((m + 1 : Nat) : Int) - 1).toNat = m by omega])
      clear p1 hr hR
      have g1 : (0 : Int) < ((m + 1 : Nat) : Int) := by omega
      have g3 : ((m + 1 : Nat) : Int) - 1 = (m : Int) := by omega
      have i1 : (0 : Int) ≤ (m : Int) := by omega
      have g2 : (m : Int) < (V.chain.length : Int) := by omega
      generalize ((m + 1 : Nat) : Int) = m1 at C1 g1 g3
      go_enter Try.func22, Try.ntmps22
      go_wp2_with fail
      refine C1.out.mono ?_
      rintro e w1 ⟨rfl, hb1⟩
      have hbb := bstep hb0 hb1
      have y1 : w1.cell? ⟨w.heap.size, 1, none⟩ = some (.slice a1 V.chain.length k1) := (hb1.cell (p := ⟨w.heap.size, 1, none⟩) (by simp)).trans (by simp)
      obtain ⟨b1, o1, k', he1, hlt1, _, hcell⟩ := (H1.out.keep hbb hB).get (m) hj
      obtain ⟨rfl, -, rfl⟩ : a1 = some ⟨b1, o1, none⟩ ∧ V.chain.length = V.chain.length ∧ k1 = k' := by injection he1 with e1 e2 e3; exact ⟨e1, e2, e3⟩
      clear he1
      rw [hr'.out] at hcell
      go_wp2_with fail
      go_ret
      exact ⟨rfl, hbb⟩

set_option maxHeartbeats 800000 in
theorem behind_any (B : Nat) (v : Value) (V : VW) (x r : Int) (hr : behindV V x = r) (w : World) (h : IsView B w v V) (hB : B ≤ w.heap.size) (hsm : SmallV V) :
    Calls Try.prog 21 #[v, .int .i64 x] w fun e w' => e = .returned (.int .i64 r) ∧ Below w.heap.size w w' := by
  have hv := Lib.hid h
  obtain ⟨he, c, s, bt, rfl, h1, h2, h3⟩ := h
  have H1 := Lib.hid h1
  have H2 := Lib.hid h2
  have H3 := Lib.hid h3
  obtain ⟨a1, k1, rfl⟩ := h1.form
  obtain ⟨a2, k2, rfl⟩ := h2.form
  obtain ⟨a3, k3, rfl⟩ := h3.form
  have hb0 : Below w.heap.size w (w.alloc (.cells #[.int .i64 V.epoch, .slice a1 V.chain.length k1, .slice a2 V.since.length k2, .slice a3 V.boot.length k3] 24)) := (Below.refl _ w).alloc (Nat.le_refl _) _
  have hV1 := view_alloc hv.out hB (.cells #[.int .i64 V.epoch, .slice a1 V.chain.length k1, .slice a2 V.since.length k2, .slice a3 V.boot.length k3] 24)
  have hB1 := le_alloc hB (.cells #[.int .i64 V.epoch, .slice a1 V.chain.length k1, .slice a2 V.since.length k2, .slice a3 V.boot.length k3] 24)
  have hs1 := hsm.1
  rcases placeV_spec V x with ⟨p1, _⟩ | ⟨hR, i, hi, p1, _⟩
  · have C1 := Lib.hid (place_any B _ V x (-1) p1 _ hV1 hB1 hsm)
    obtain rfl : r = 0 := by rw [← hr, behindV, if_neg (by omega)]
    clear p1 hr
    go_enter Try.func21, Try.ntmps21
    go_wp2_with fail
    refine C1.out.mono ?_
    rintro e w1 ⟨rfl, hb1⟩
    have hbb := bstep hb0 hb1
    go_wp2_with fail
    go_ret
    exact ⟨rfl, hbb⟩
  · have C1 := Lib.hid (place_any B _ V x i p1 _ hV1 hB1 hsm)
    have hr' : atI V.chain ((i : Int) + 1) = r := by rw [← hr, behindV, if_pos (by omega), p1]
    have C2 := Lib.hid (fun w1 (hb1 : Below w.heap.size w w1) => at_any B _ V.chain ((i : Int) + 1) r hr' w1 (H1.out.keep hb1 hB))
    clear p1 hr hR hr'
    have g1 : (0 : Int) ≤ (i : Int) := by omega
    go_enter Try.func21, Try.ntmps21
    go_wp2_with fail
    refine C1.out.mono ?_
    rintro e w1 ⟨rfl, hb1⟩
    have hbb := bstep hb0 hb1
    have y1 : w1.cell? ⟨w.heap.size, 1, none⟩ = some (.slice a1 V.chain.length k1) := (hb1.cell (p := ⟨w.heap.size, 1, none⟩) (by simp)).trans (by simp)
    go_wp2_with fail
    refine (C2.out w1 hbb).mono ?_
    rintro e w2 ⟨rfl, hb2⟩
    go_wp2_with fail
    go_ret
    exact ⟨rfl, bstep hbb hb2⟩
end Go.Proofs.Ytigojackdkaanaa
