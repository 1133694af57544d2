/-
  The walk of bucketlinelaw5.EventPuts. Printed by gen_evlaw6.py of this claim's writer.
-/
import Derived.Test.YtcgolhaiciffeaaDoorEvSame
import Derived.Test.YtcgolhaiciffeaaDoorEvRef5
namespace Go.Proofs.YtcgolhaiciffeaaDoor
open Go.RowKit

theorem box25 {w X : World} {a0 a1 a2 a3 a4 c0 c1 : Value} {t t' : TypeId} (hb : Below (w.heap.size + 2) ((w.alloc (.cells #[c0, c1] t')).alloc (.cells #[a0, a1, a2, a3, a4] t)) X) :
    (X.cell? ⟨w.heap.size + 1, 0, none⟩ = some a0 ∧ X.cell? ⟨w.heap.size + 1, 1, none⟩ = some a1 ∧ X.cell? ⟨w.heap.size + 1, 2, none⟩ = some a2 ∧ X.cell? ⟨w.heap.size + 1, 3, none⟩ = some a3 ∧ X.cell? ⟨w.heap.size + 1, 4, none⟩ = some a4) ∧
    X.cell? ⟨w.heap.size, 0, none⟩ = some c0 ∧ X.cell? ⟨w.heap.size, 1, none⟩ = some c1 :=
  ⟨⟨(hb.cell (p := ⟨w.heap.size + 1, 0, none⟩) (by simp)).trans (by simp), (hb.cell (p := ⟨w.heap.size + 1, 1, none⟩) (by simp)).trans (by simp), (hb.cell (p := ⟨w.heap.size + 1, 2, none⟩) (by simp)).trans (by simp),
    (hb.cell (p := ⟨w.heap.size + 1, 3, none⟩) (by simp)).trans (by simp), (hb.cell (p := ⟨w.heap.size + 1, 4, none⟩) (by simp)).trans (by simp)⟩,
    (hb.cell (p := ⟨w.heap.size, 0, none⟩) (by simp)).trans (by simp), (hb.cell (p := ⟨w.heap.size, 1, none⟩) (by simp)).trans (by simp)⟩
theorem bz_alloc {w X : World} {o o' : Obj} (h : Below (w.heap.size + 2) ((w.alloc o).alloc o') X) (o2 : Obj) : Below (w.heap.size + 2) ((w.alloc o).alloc o') (X.alloc o2) := h.alloc (bz_size h) o2

theorem puts_mk {W X : World} {c0 c1 a0 a1 a2 a3 a4 : Value} {t1 t2 : TypeId} (h : Below (W.heap.size + 2) ((W.alloc (.cells #[c0, c1] t1)).alloc (.cells #[a0, a1, a2, a3, a4] t2)) X) : X.cell? ⟨W.heap.size, 0, none⟩ = some (c0) ∧ X.cell? ⟨W.heap.size, 1, none⟩ = some (c1) ∧ X.cell? ⟨W.heap.size + 1, 0, none⟩ = some (a0) ∧ X.cell? ⟨W.heap.size + 1, 1, none⟩ = some (a1) ∧ X.cell? ⟨W.heap.size + 1, 2, none⟩ = some (a2) ∧ X.cell? ⟨W.heap.size + 1, 3, none⟩ = some (a3) ∧ X.cell? ⟨W.heap.size + 1, 4, none⟩ = some (a4) ∧ Below (W.heap.size + 2) ((W.alloc (.cells #[c0, c1] t1)).alloc (.cells #[a0, a1, a2, a3, a4] t2)) X := by
  obtain ⟨⟨y0, y1, y2, y3, y4⟩, x0, x1⟩ := box25 h
  exact ⟨x0, x1, y0, y1, y2, y3, y4, h⟩
theorem puts_low {W X : World} {c0 c1 a0 a1 a2 a3 a4 : Value} {t1 t2 : TypeId} (h : X.cell? ⟨W.heap.size, 0, none⟩ = some (c0) ∧ X.cell? ⟨W.heap.size, 1, none⟩ = some (c1) ∧ X.cell? ⟨W.heap.size + 1, 0, none⟩ = some (a0) ∧ X.cell? ⟨W.heap.size + 1, 1, none⟩ = some (a1) ∧ X.cell? ⟨W.heap.size + 1, 2, none⟩ = some (a2) ∧ X.cell? ⟨W.heap.size + 1, 3, none⟩ = some (a3) ∧ X.cell? ⟨W.heap.size + 1, 4, none⟩ = some (a4) ∧ Below (W.heap.size + 2) ((W.alloc (.cells #[c0, c1] t1)).alloc (.cells #[a0, a1, a2, a3, a4] t2)) X) : Below (W.heap.size + 2) ((W.alloc (.cells #[c0, c1] t1)).alloc (.cells #[a0, a1, a2, a3, a4] t2)) X := h.2.2.2.2.2.2.2
theorem puts_below {W X : World} {c0 c1 a0 a1 a2 a3 a4 : Value} {t1 t2 : TypeId} (h : X.cell? ⟨W.heap.size, 0, none⟩ = some (c0) ∧ X.cell? ⟨W.heap.size, 1, none⟩ = some (c1) ∧ X.cell? ⟨W.heap.size + 1, 0, none⟩ = some (a0) ∧ X.cell? ⟨W.heap.size + 1, 1, none⟩ = some (a1) ∧ X.cell? ⟨W.heap.size + 1, 2, none⟩ = some (a2) ∧ X.cell? ⟨W.heap.size + 1, 3, none⟩ = some (a3) ∧ X.cell? ⟨W.heap.size + 1, 4, none⟩ = some (a4) ∧ Below (W.heap.size + 2) ((W.alloc (.cells #[c0, c1] t1)).alloc (.cells #[a0, a1, a2, a3, a4] t2)) X) : Below W.heap.size W X := bz_below (puts_low h)
theorem puts_keep {W X X' : World} {c0 c1 a0 a1 a2 a3 a4 : Value} {t1 t2 : TypeId} (h : X.cell? ⟨W.heap.size, 0, none⟩ = some (c0) ∧ X.cell? ⟨W.heap.size, 1, none⟩ = some (c1) ∧ X.cell? ⟨W.heap.size + 1, 0, none⟩ = some (a0) ∧ X.cell? ⟨W.heap.size + 1, 1, none⟩ = some (a1) ∧ X.cell? ⟨W.heap.size + 1, 2, none⟩ = some (a2) ∧ X.cell? ⟨W.heap.size + 1, 3, none⟩ = some (a3) ∧ X.cell? ⟨W.heap.size + 1, 4, none⟩ = some (a4) ∧ Below (W.heap.size + 2) ((W.alloc (.cells #[c0, c1] t1)).alloc (.cells #[a0, a1, a2, a3, a4] t2)) X) (k : Below X.heap.size X X') : X'.cell? ⟨W.heap.size, 0, none⟩ = some (c0) ∧ X'.cell? ⟨W.heap.size, 1, none⟩ = some (c1) ∧ X'.cell? ⟨W.heap.size + 1, 0, none⟩ = some (a0) ∧ X'.cell? ⟨W.heap.size + 1, 1, none⟩ = some (a1) ∧ X'.cell? ⟨W.heap.size + 1, 2, none⟩ = some (a2) ∧ X'.cell? ⟨W.heap.size + 1, 3, none⟩ = some (a3) ∧ X'.cell? ⟨W.heap.size + 1, 4, none⟩ = some (a4) ∧ Below (W.heap.size + 2) ((W.alloc (.cells #[c0, c1] t1)).alloc (.cells #[a0, a1, a2, a3, a4] t2)) X' := puts_mk (bz_more (puts_low h) k)

set_option maxRecDepth 100000 in
set_option maxHeartbeats 3200000 in
theorem walkEventPuts (B : Nat) (v : Value) (b : BW) (e : EV) (W : World) (h : IsBatch B W v b) (hB : B ≤ W.heap.size) (hT : Tabs W) :
    Calls Tryd.prog 4 #[.agg #[.string e.kind, .string e.data], v] W fun r w' => r = .returned (.bool true) ∧ Below W.heap.size W w' := by
  have HV := Lib.hid h
  obtain ⟨lv, rfl, hl⟩ := h
  obtain ⟨a, cap, rfl⟩ := hl.form
  have bz0 : Below (W.heap.size + 2) ((W.alloc (.cells #[.string e.kind, .string e.data] 26)).alloc (.cells #[.string b.stream, .int .i64 b.expect, .int .i64 b.session, .int .i64 b.seq, .slice a b.events.length cap] 24)) ((W.alloc (.cells #[.string e.kind, .string e.data] 26)).alloc (.cells #[.string b.stream, .int .i64 b.expect, .int .i64 b.session, .int .i64 b.seq, .slice a b.events.length cap] 24)) := Below.refl _ _
  have BZ0 := Lib.hid bz0
  have HT := Lib.hid hT
  obtain ⟨q, hq⟩ := lightQ b
  have CL := Lib.hid (fun (X : World) (hX : Below W.heap.size W X) => light_any B _ b q hq X (HV.out.keep hX hB) (Nat.le_trans hB hX.size))
  clear hl bz0 hT
  cases q with
  | false =>
    clear hq
    go_enter Tryd.func4, Tryd.ntmps4
    go_wp2_with fail
    refine (shown_any _ (tabs_below HT.out (bz_below BZ0.out))).mono ?_
    rintro r w1 ⟨rfl, hb1⟩
    have bz1 := bz_more BZ0.out hb1
    obtain ⟨⟨y0, y1, y2, y3, y4⟩, x0, x1⟩ := box25 bz1
    go_wp2_with fail
    refine (CL.out _ (bz_below bz1)).mono ?_
    rintro r w2 ⟨rfl, hb2⟩
    have bz2 := bz_more bz1 hb2
    clear y0 y1 y2 y3 y4 x0 x1
    obtain ⟨⟨y0, y1, y2, y3, y4⟩, x0, x1⟩ := box25 bz2
    go_wp2_with fail
    go_ret
    exact ⟨rfl, bz_below bz2⟩
  | true =>
    have hLB := hq.1 rfl
    clear hq
    by_cases h1 : 300 < e.kind.size
    · have g1 : (300 : Int) < (e.kind.size : Int) := by omega
      clear hLB
      go_enter Tryd.func4, Tryd.ntmps4
      go_wp2_with fail
      refine (shown_any _ (tabs_below HT.out (bz_below BZ0.out))).mono ?_
      rintro r w1 ⟨rfl, hb1⟩
      have bz1 := bz_more BZ0.out hb1
      obtain ⟨⟨y0, y1, y2, y3, y4⟩, x0, x1⟩ := box25 bz1
      go_wp2_with fail
      refine (CL.out _ (bz_below bz1)).mono ?_
      rintro r w2 ⟨rfl, hb2⟩
      have bz2 := bz_more bz1 hb2
      clear y0 y1 y2 y3 y4 x0 x1
      obtain ⟨⟨y0, y1, y2, y3, y4⟩, x0, x1⟩ := box25 bz2
      go_wp2_with fail
      go_ret
      exact ⟨rfl, bz_below bz2⟩
    · have g1 : ¬ (300 : Int) < (e.kind.size : Int) := by omega
      by_cases h2 : 500 < e.data.size
      · have g2 : (500 : Int) < (e.data.size : Int) := by omega
        clear hLB
        go_enter Tryd.func4, Tryd.ntmps4
        go_wp2_with fail
        refine (shown_any _ (tabs_below HT.out (bz_below BZ0.out))).mono ?_
        rintro r w1 ⟨rfl, hb1⟩
        have bz1 := bz_more BZ0.out hb1
        obtain ⟨⟨y0, y1, y2, y3, y4⟩, x0, x1⟩ := box25 bz1
        go_wp2_with fail
        refine (CL.out _ (bz_below bz1)).mono ?_
        rintro r w2 ⟨rfl, hb2⟩
        have bz2 := bz_more bz1 hb2
        clear y0 y1 y2 y3 y4 x0 x1
        obtain ⟨⟨y0, y1, y2, y3, y4⟩, x0, x1⟩ := box25 bz2
        go_wp2_with fail
        go_ret
        exact ⟨rfl, bz_below bz2⟩
      · have g2 : ¬ (500 : Int) < (e.data.size : Int) := by omega
        have hLE : LightE e := ⟨by omega, by omega⟩
        obtain ⟨c, hc⟩ : ∃ c, fitsB b = c := ⟨_, rfl⟩
        obtain ⟨pb, hpb⟩ : ∃ c, putB b = c := ⟨_, rfl⟩
        obtain ⟨q, hq⟩ : ∃ c, rightE e = c := ⟨_, rfl⟩
        obtain ⟨pe, hpe⟩ : ∃ c, putE e = c := ⟨_, rfl⟩
        have CF := Lib.hid (fun (X : World) (hX : Below W.heap.size W X) => fits_any B _ b c hc X (HV.out.keep hX hB) (Nat.le_trans hB hX.size) (tabs_below HT.out hX))
        have CF2 := Lib.hid (fun (X : World) (hX : Below W.heap.size W X) => refFits_any B _ b c hc hLB X (HV.out.keep hX hB) (Nat.le_trans hB hX.size))
        have CPB := Lib.hid (fun (X : World) (hX : Below W.heap.size W X) => putB_any B _ b pb hpb X (HV.out.keep hX hB) (Nat.le_trans hB hX.size) (tabs_below HT.out hX) hLB)
        have CPB2 := Lib.hid (fun (X : World) (hX : Below W.heap.size W X) => refPutB_any B _ b pb hpb X (HV.out.keep hX hB) (Nat.le_trans hB hX.size) hLB)
        have CR := Lib.hid (fun (X : World) (hX : Below W.heap.size W X) => right_any e q hq X (tabs_below HT.out hX))
        have CR2 := Lib.hid (fun (X : World) (_ : Below W.heap.size W X) => refRight_any e hLE q hq X)
        have CPE := Lib.hid (fun (X : World) (hX : Below W.heap.size W X) => putE_any e hLE pe hpe X (tabs_below HT.out hX))
        have CPE2 := Lib.hid (fun (X : World) (_ : Below W.heap.size W X) => refPutE_any e hLE pe hpe X)
        clear hLB hLE hpb hpe hc hq h1 h2
        go_enter Tryd.func4, Tryd.ntmps4
        go_wp2_with fail
        refine (shown_any _ (tabs_below HT.out (bz_below BZ0.out))).mono ?_
        rintro r w1 ⟨rfl, hb1⟩
        have bz1 := bz_more BZ0.out hb1
        obtain ⟨⟨y0, y1, y2, y3, y4⟩, x0, x1⟩ := box25 bz1
        go_wp2_with fail
        refine (CL.out _ (bz_below bz1)).mono ?_
        rintro r w2 ⟨rfl, hb2⟩
        have bz2 := bz_more bz1 hb2
        clear y0 y1 y2 y3 y4 x0 x1
        obtain ⟨⟨y0, y1, y2, y3, y4⟩, x0, x1⟩ := box25 bz2
        go_wp2_with fail
        have hh := puts_mk bz2.drew
        clear y0 y1 y2 y3 y4 x0 x1
        go_region_held3 (fun X => X.cell? ⟨W.heap.size, 0, none⟩ = some (.string e.kind) ∧ X.cell? ⟨W.heap.size, 1, none⟩ = some (.string e.data) ∧ X.cell? ⟨W.heap.size + 1, 0, none⟩ = some (.string b.stream) ∧ X.cell? ⟨W.heap.size + 1, 1, none⟩ = some (.int .i64 b.expect) ∧ X.cell? ⟨W.heap.size + 1, 2, none⟩ = some (.int .i64 b.session) ∧ X.cell? ⟨W.heap.size + 1, 3, none⟩ = some (.int .i64 b.seq) ∧ X.cell? ⟨W.heap.size + 1, 4, none⟩ = some (.slice a b.events.length cap) ∧ Below (W.heap.size + 2) ((W.alloc (.cells #[.string e.kind, .string e.data] 26)).alloc (.cells #[.string b.stream, .int .i64 b.expect, .int .i64 b.session, .int .i64 b.seq, .slice a b.events.length cap] 24)) X) (first | exact hh | exact puts_keep (by assumption) (by assumption))
          (first
              | ((with_reducible refine (CR.out _ ?_).mono ?_); exact puts_below (by assumption); rintro r w4 ⟨rfl, hb4⟩)
              | ((with_reducible refine (CR2.out _ ?_).mono ?_); exact puts_below (by assumption); rintro r w4 ⟨rfl, hb4⟩)
              | ((with_reducible refine (CPE.out _ ?_).mono ?_); exact puts_below (by assumption); rintro r w4 ⟨rfl, hb4⟩)
              | ((with_reducible refine (CPE2.out _ ?_).mono ?_); exact puts_below (by assumption); rintro r w4 ⟨rfl, hb4⟩)
              | ((with_reducible refine (CF.out _ ?_).mono ?_); exact puts_below (by assumption); rintro r w4 ⟨rfl, hb4⟩)
              | ((with_reducible refine (CF2.out _ ?_).mono ?_); exact puts_below (by assumption); rintro r w4 ⟨rfl, hb4⟩)
              | ((with_reducible refine (CPB.out _ ?_).mono ?_); exact puts_below (by assumption); rintro r w4 ⟨rfl, hb4⟩)
              | ((with_reducible refine (CPB2.out _ ?_).mono ?_); exact puts_below (by assumption); rintro r w4 ⟨rfl, hb4⟩))
        go_wp2_with fail
        all_goals go_ret
        all_goals exact ⟨rfl, puts_below (by assumption)⟩
end Go.Proofs.YtcgolhaiciffeaaDoor
