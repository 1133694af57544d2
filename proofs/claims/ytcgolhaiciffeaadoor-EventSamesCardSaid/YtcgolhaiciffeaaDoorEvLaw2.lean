/-
  The walk of bucketlinelaw5.EventSames. Printed by gen_evlaw2.py of this claim's writer.
-/
import Derived.Test.YtcgolhaiciffeaaDoorEvSame
import Derived.Test.YtcgolhaiciffeaaDoorEvInj
import Derived.Test.YtcgolhaiciffeaaDoorRegInv
import Derived.Deep.DeepCutAuto
namespace Go.Proofs.YtcgolhaiciffeaaDoor
open Go.RowKit

theorem sames_mk {W X : World} {p0 p1 p2 p3 p4 q0 q1 q2 q3 q4 : Value} {t1 t2 : TypeId} (h : Below (W.heap.size + 2) ((W.alloc (.cells #[p0, p1, p2, p3, p4] t1)).alloc (.cells #[q0, q1, q2, q3, q4] t2)) X) : X.cell? ⟨W.heap.size, 0, none⟩ = some (p0) ∧ X.cell? ⟨W.heap.size, 1, none⟩ = some (p1) ∧ X.cell? ⟨W.heap.size, 2, none⟩ = some (p2) ∧ X.cell? ⟨W.heap.size, 3, none⟩ = some (p3) ∧ X.cell? ⟨W.heap.size, 4, none⟩ = some (p4) ∧ X.cell? ⟨W.heap.size + 1, 0, none⟩ = some (q0) ∧ X.cell? ⟨W.heap.size + 1, 1, none⟩ = some (q1) ∧ X.cell? ⟨W.heap.size + 1, 2, none⟩ = some (q2) ∧ X.cell? ⟨W.heap.size + 1, 3, none⟩ = some (q3) ∧ X.cell? ⟨W.heap.size + 1, 4, none⟩ = some (q4) ∧ Below (W.heap.size + 2) ((W.alloc (.cells #[p0, p1, p2, p3, p4] t1)).alloc (.cells #[q0, q1, q2, q3, q4] t2)) X := by
  obtain ⟨⟨y0, y1, y2, y3, y4⟩, x0, x1, x2, x3, x4⟩ := box55 h
  exact ⟨y0, y1, y2, y3, y4, x0, x1, x2, x3, x4, h⟩
theorem sames_low {W X : World} {p0 p1 p2 p3 p4 q0 q1 q2 q3 q4 : Value} {t1 t2 : TypeId} (h : X.cell? ⟨W.heap.size, 0, none⟩ = some (p0) ∧ X.cell? ⟨W.heap.size, 1, none⟩ = some (p1) ∧ X.cell? ⟨W.heap.size, 2, none⟩ = some (p2) ∧ X.cell? ⟨W.heap.size, 3, none⟩ = some (p3) ∧ X.cell? ⟨W.heap.size, 4, none⟩ = some (p4) ∧ X.cell? ⟨W.heap.size + 1, 0, none⟩ = some (q0) ∧ X.cell? ⟨W.heap.size + 1, 1, none⟩ = some (q1) ∧ X.cell? ⟨W.heap.size + 1, 2, none⟩ = some (q2) ∧ X.cell? ⟨W.heap.size + 1, 3, none⟩ = some (q3) ∧ X.cell? ⟨W.heap.size + 1, 4, none⟩ = some (q4) ∧ Below (W.heap.size + 2) ((W.alloc (.cells #[p0, p1, p2, p3, p4] t1)).alloc (.cells #[q0, q1, q2, q3, q4] t2)) X) : Below (W.heap.size + 2) ((W.alloc (.cells #[p0, p1, p2, p3, p4] t1)).alloc (.cells #[q0, q1, q2, q3, q4] t2)) X := h.2.2.2.2.2.2.2.2.2.2
theorem sames_below {W X : World} {p0 p1 p2 p3 p4 q0 q1 q2 q3 q4 : Value} {t1 t2 : TypeId} (h : X.cell? ⟨W.heap.size, 0, none⟩ = some (p0) ∧ X.cell? ⟨W.heap.size, 1, none⟩ = some (p1) ∧ X.cell? ⟨W.heap.size, 2, none⟩ = some (p2) ∧ X.cell? ⟨W.heap.size, 3, none⟩ = some (p3) ∧ X.cell? ⟨W.heap.size, 4, none⟩ = some (p4) ∧ X.cell? ⟨W.heap.size + 1, 0, none⟩ = some (q0) ∧ X.cell? ⟨W.heap.size + 1, 1, none⟩ = some (q1) ∧ X.cell? ⟨W.heap.size + 1, 2, none⟩ = some (q2) ∧ X.cell? ⟨W.heap.size + 1, 3, none⟩ = some (q3) ∧ X.cell? ⟨W.heap.size + 1, 4, none⟩ = some (q4) ∧ Below (W.heap.size + 2) ((W.alloc (.cells #[p0, p1, p2, p3, p4] t1)).alloc (.cells #[q0, q1, q2, q3, q4] t2)) X) : Below W.heap.size W X := bz_below (sames_low h)
theorem sames_keep {W X X' : World} {p0 p1 p2 p3 p4 q0 q1 q2 q3 q4 : Value} {t1 t2 : TypeId} (h : X.cell? ⟨W.heap.size, 0, none⟩ = some (p0) ∧ X.cell? ⟨W.heap.size, 1, none⟩ = some (p1) ∧ X.cell? ⟨W.heap.size, 2, none⟩ = some (p2) ∧ X.cell? ⟨W.heap.size, 3, none⟩ = some (p3) ∧ X.cell? ⟨W.heap.size, 4, none⟩ = some (p4) ∧ X.cell? ⟨W.heap.size + 1, 0, none⟩ = some (q0) ∧ X.cell? ⟨W.heap.size + 1, 1, none⟩ = some (q1) ∧ X.cell? ⟨W.heap.size + 1, 2, none⟩ = some (q2) ∧ X.cell? ⟨W.heap.size + 1, 3, none⟩ = some (q3) ∧ X.cell? ⟨W.heap.size + 1, 4, none⟩ = some (q4) ∧ Below (W.heap.size + 2) ((W.alloc (.cells #[p0, p1, p2, p3, p4] t1)).alloc (.cells #[q0, q1, q2, q3, q4] t2)) X) (k : Below X.heap.size X X') : X'.cell? ⟨W.heap.size, 0, none⟩ = some (p0) ∧ X'.cell? ⟨W.heap.size, 1, none⟩ = some (p1) ∧ X'.cell? ⟨W.heap.size, 2, none⟩ = some (p2) ∧ X'.cell? ⟨W.heap.size, 3, none⟩ = some (p3) ∧ X'.cell? ⟨W.heap.size, 4, none⟩ = some (p4) ∧ X'.cell? ⟨W.heap.size + 1, 0, none⟩ = some (q0) ∧ X'.cell? ⟨W.heap.size + 1, 1, none⟩ = some (q1) ∧ X'.cell? ⟨W.heap.size + 1, 2, none⟩ = some (q2) ∧ X'.cell? ⟨W.heap.size + 1, 3, none⟩ = some (q3) ∧ X'.cell? ⟨W.heap.size + 1, 4, none⟩ = some (q4) ∧ Below (W.heap.size + 2) ((W.alloc (.cells #[p0, p1, p2, p3, p4] t1)).alloc (.cells #[q0, q1, q2, q3, q4] t2)) X' := sames_mk (bz_more (sames_low h) k)

set_option maxRecDepth 100000 in
set_option maxHeartbeats 6400000 in
theorem walkEventSames (B : Nat) (v u : Value) (a b : BW) (W : World) (ha : IsBatch B W v a) (hb : IsBatch B W u b) (hB : B ≤ W.heap.size) (hT : Tabs W) :
    Calls Tryd.prog 5 #[v, u] W fun r w' => r = .returned (.bool true) ∧ Below W.heap.size W w' := by
  have HA := Lib.hid ha
  have HB := Lib.hid hb
  obtain ⟨lv, rfl, hl1⟩ := ha
  obtain ⟨lu, rfl, hl2⟩ := hb
  obtain ⟨a1, c1, rfl⟩ := hl1.form
  obtain ⟨a2, c2, rfl⟩ := hl2.form
  have bz0 : Below (W.heap.size + 2) ((W.alloc (.cells #[.string a.stream, .int .i64 a.expect, .int .i64 a.session, .int .i64 a.seq, .slice a1 a.events.length c1] 24)).alloc (.cells #[.string b.stream, .int .i64 b.expect, .int .i64 b.session, .int .i64 b.seq, .slice a2 b.events.length c2] 24)) ((W.alloc (.cells #[.string a.stream, .int .i64 a.expect, .int .i64 a.session, .int .i64 a.seq, .slice a1 a.events.length c1] 24)).alloc (.cells #[.string b.stream, .int .i64 b.expect, .int .i64 b.session, .int .i64 b.seq, .slice a2 b.events.length c2] 24)) := Below.refl _ _
  have BZ0 := Lib.hid bz0
  have HT := Lib.hid hT
  obtain ⟨qa, hqa⟩ := lightQ a
  obtain ⟨qb, hqb⟩ := lightQ b
  obtain ⟨q, hq⟩ := eqQ (p := a = b)
  obtain ⟨ca, hca⟩ : ∃ c, fitsB a = c := ⟨_, rfl⟩
  obtain ⟨cb, hcb⟩ : ∃ c, fitsB b = c := ⟨_, rfl⟩
  obtain ⟨pa, hpa⟩ : ∃ c, putB a = c := ⟨_, rfl⟩
  obtain ⟨pb, hpb⟩ : ∃ c, putB b = c := ⟨_, rfl⟩
  have CLa := Lib.hid (fun (X : World) (hX : Below W.heap.size W X) => light_any B _ a qa hqa X (HA.out.keep hX hB) (Nat.le_trans hB hX.size))
  have CLb := Lib.hid (fun (X : World) (hX : Below W.heap.size W X) => light_any B _ b qb hqb X (HB.out.keep hX hB) (Nat.le_trans hB hX.size))
  have CFa := Lib.hid (fun (X : World) (hX : Below W.heap.size W X) => fits_any B _ a ca hca X (HA.out.keep hX hB) (Nat.le_trans hB hX.size) (tabs_below HT.out hX))
  have CFb := Lib.hid (fun (X : World) (hX : Below W.heap.size W X) => fits_any B _ b cb hcb X (HB.out.keep hX hB) (Nat.le_trans hB hX.size) (tabs_below HT.out hX))
  have C3 := Lib.hid (fun (X : World) (hX : Below W.heap.size W X) => same_any B _ _ a a true ⟨fun _ => rfl, fun _ => rfl⟩ X (HA.out.keep hX hB) (HA.out.keep hX hB) (Nat.le_trans hB hX.size))
  have HFa := Lib.hid hca
  have HFb := Lib.hid hcb
  have HQa := Lib.hid hqa
  have HQb := Lib.hid hqb
  clear hl1 hl2 bz0 hT hqa hqb hca hcb
  cases qa with
  | false =>
    clear hpa hpb hq
    go_enter Tryd.func5, Tryd.ntmps5
    go_wp2_with fail
    refine (shown_any _ (tabs_below HT.out (bz_below BZ0.out))).mono ?_
    rintro r w1 ⟨rfl, hb1⟩
    have bz1 := bz_more BZ0.out hb1
    obtain ⟨⟨y0, y1, y2, y3, y4⟩, x0, x1, x2, x3, x4⟩ := box55 bz1
    go_wp2_with fail
    refine (CLa.out _ (bz_below bz1)).mono ?_
    rintro r w2 ⟨rfl, hb2⟩
    have bz2 := bz_more bz1 hb2
    clear y0 y1 y2 y3 y4 x0 x1 x2 x3 x4
    obtain ⟨⟨y0, y1, y2, y3, y4⟩, x0, x1, x2, x3, x4⟩ := box55 bz2
    go_wp2_with fail
    refine (CLb.out _ (bz_below bz2)).mono ?_
    rintro r w3 ⟨rfl, hb3⟩
    have bz3 := bz_more bz2 hb3
    clear y0 y1 y2 y3 y4 x0 x1 x2 x3 x4
    obtain ⟨⟨y0, y1, y2, y3, y4⟩, x0, x1, x2, x3, x4⟩ := box55 bz3
    go_wp2_with fail
    go_ret
    exact ⟨rfl, bz_below bz3⟩
  | true =>
    cases qb with
    | false =>
      clear hpa hpb hq
      go_enter Tryd.func5, Tryd.ntmps5
      go_wp2_with fail
      refine (shown_any _ (tabs_below HT.out (bz_below BZ0.out))).mono ?_
      rintro r w1 ⟨rfl, hb1⟩
      have bz1 := bz_more BZ0.out hb1
      obtain ⟨⟨y0, y1, y2, y3, y4⟩, x0, x1, x2, x3, x4⟩ := box55 bz1
      go_wp2_with fail
      refine (CLa.out _ (bz_below bz1)).mono ?_
      rintro r w2 ⟨rfl, hb2⟩
      have bz2 := bz_more bz1 hb2
      clear y0 y1 y2 y3 y4 x0 x1 x2 x3 x4
      obtain ⟨⟨y0, y1, y2, y3, y4⟩, x0, x1, x2, x3, x4⟩ := box55 bz2
      go_wp2_with fail
      refine (CLb.out _ (bz_below bz2)).mono ?_
      rintro r w3 ⟨rfl, hb3⟩
      have bz3 := bz_more bz2 hb3
      clear y0 y1 y2 y3 y4 x0 x1 x2 x3 x4
      obtain ⟨⟨y0, y1, y2, y3, y4⟩, x0, x1, x2, x3, x4⟩ := box55 bz3
      go_wp2_with fail
      go_ret
      exact ⟨rfl, bz_below bz3⟩
    | true =>
      cases q with
      | false =>
        have LA := Lib.hid (HQa.out.1 rfl)
        have LB := Lib.hid (HQb.out.1 rfl)
        have C1 := Lib.hid (fun (X : World) (hX : Below W.heap.size W X) => same_any B _ _ a b false hq X (HA.out.keep hX hB) (HB.out.keep hX hB) (Nat.le_trans hB hX.size))
        have C2 := Lib.hid (fun (X : World) (hX : Below W.heap.size W X) => sameBatch_any B _ _ a b false hq X (HA.out.keep hX hB) (HB.out.keep hX hB) (Nat.le_trans hB hX.size))
        have HQ := Lib.hid (show ¬ a = b from fun e => Bool.noConfusion (hq.2 e))
        have HPa := Lib.hid hpa
        have HPb := Lib.hid hpb
        clear hq hpa hpb
        go_enter Tryd.func5, Tryd.ntmps5
        go_wp2_with fail
        refine (shown_any _ (tabs_below HT.out (bz_below BZ0.out))).mono ?_
        rintro r w1 ⟨rfl, hb1⟩
        have bz1 := bz_more BZ0.out hb1
        obtain ⟨⟨y0, y1, y2, y3, y4⟩, x0, x1, x2, x3, x4⟩ := box55 bz1
        go_wp2_with fail
        refine (CLa.out _ (bz_below bz1)).mono ?_
        rintro r w2 ⟨rfl, hb2⟩
        have bz2 := bz_more bz1 hb2
        clear y0 y1 y2 y3 y4 x0 x1 x2 x3 x4
        obtain ⟨⟨y0, y1, y2, y3, y4⟩, x0, x1, x2, x3, x4⟩ := box55 bz2
        go_wp2_with fail
        refine (CLb.out _ (bz_below bz2)).mono ?_
        rintro r w3 ⟨rfl, hb3⟩
        have bz3 := bz_more bz2 hb3
        clear y0 y1 y2 y3 y4 x0 x1 x2 x3 x4
        obtain ⟨⟨y0, y1, y2, y3, y4⟩, x0, x1, x2, x3, x4⟩ := box55 bz3
        go_wp2_with fail
        have hh := sames_mk bz3.drew
        clear y0 y1 y2 y3 y4 x0 x1 x2 x3 x4
        go_upto_region 6 with fail
        go_cut [36] (fun t36 wx => t36 = .bool false ∧ Below (W.heap.size + 2) ((W.alloc (.cells #[.string a.stream, .int .i64 a.expect, .int .i64 a.session, .int .i64 a.seq, .slice a1 a.events.length c1] 24)).alloc (.cells #[.string b.stream, .int .i64 b.expect, .int .i64 b.session, .int .i64 b.seq, .slice a2 b.events.length c2] 24)) wx)
        case first => as_aux_lemma =>
          go_region_held3 (fun X => X.cell? ⟨W.heap.size, 0, none⟩ = some (.string a.stream) ∧ X.cell? ⟨W.heap.size, 1, none⟩ = some (.int .i64 a.expect) ∧ X.cell? ⟨W.heap.size, 2, none⟩ = some (.int .i64 a.session) ∧ X.cell? ⟨W.heap.size, 3, none⟩ = some (.int .i64 a.seq) ∧ X.cell? ⟨W.heap.size, 4, none⟩ = some (.slice a1 a.events.length c1) ∧ X.cell? ⟨W.heap.size + 1, 0, none⟩ = some (.string b.stream) ∧ X.cell? ⟨W.heap.size + 1, 1, none⟩ = some (.int .i64 b.expect) ∧ X.cell? ⟨W.heap.size + 1, 2, none⟩ = some (.int .i64 b.session) ∧ X.cell? ⟨W.heap.size + 1, 3, none⟩ = some (.int .i64 b.seq) ∧ X.cell? ⟨W.heap.size + 1, 4, none⟩ = some (.slice a2 b.events.length c2) ∧ Below (W.heap.size + 2) ((W.alloc (.cells #[.string a.stream, .int .i64 a.expect, .int .i64 a.session, .int .i64 a.seq, .slice a1 a.events.length c1] 24)).alloc (.cells #[.string b.stream, .int .i64 b.expect, .int .i64 b.session, .int .i64 b.seq, .slice a2 b.events.length c2] 24)) X) (first | exact hh | exact sames_keep (by assumption) (by assumption))
          (first
            | ((with_reducible refine (C1.out _ ?_).mono ?_); exact sames_below (by assumption); rintro r w4 ⟨rfl, hb4⟩)
            | ((with_reducible refine (C2.out _ ?_).mono ?_); exact sames_below (by assumption); rintro r w4 ⟨rfl, hb4⟩)
            | ((with_reducible refine (C3.out _ ?_).mono ?_); exact sames_below (by assumption); rintro r w4 ⟨rfl, hb4⟩))
          go_wp2
          all_goals go_meet
          all_goals case rel => exact ⟨rfl, sames_low (by assumption)⟩
        case rest =>
          obtain ⟨rfl, bzc⟩ := hcut
          have hh2 := sames_mk bzc.drew
          obtain ⟨⟨y0, y1, y2, y3, y4⟩, x0, x1, x2, x3, x4⟩ := box55 bzc
          go_wp2_with fail
          by_cases h1 : ca = 0
          · by_cases h2 : cb = 0
            · subst h1
              subst h2
              have CPa := Lib.hid (fun (X : World) (hX : Below W.heap.size W X) => putB_any B _ a pa HPa.out X (HA.out.keep hX hB) (Nat.le_trans hB hX.size) (tabs_below HT.out hX) LA.out)
              have CPb := Lib.hid (fun (X : World) (hX : Below W.heap.size W X) => putB_any B _ b pb HPb.out X (HB.out.keep hX hB) (Nat.le_trans hB hX.size) (tabs_below HT.out hX) LB.out)
              have hpe : (pa.toList == pb.toList) = false := by
                rw [beq_eq_false_iff_ne]
                intro e
                have e2 : pa = pb := bytes_eq (beq_iff_eq.2 e)
                exact HQ.out (putB_inj LA.out LB.out HFa.out HFb.out (by rw [HPa.out, HPb.out, e2]))
              go_region_held3 (fun X => X.cell? ⟨W.heap.size, 0, none⟩ = some (.string a.stream) ∧ X.cell? ⟨W.heap.size, 1, none⟩ = some (.int .i64 a.expect) ∧ X.cell? ⟨W.heap.size, 2, none⟩ = some (.int .i64 a.session) ∧ X.cell? ⟨W.heap.size, 3, none⟩ = some (.int .i64 a.seq) ∧ X.cell? ⟨W.heap.size, 4, none⟩ = some (.slice a1 a.events.length c1) ∧ X.cell? ⟨W.heap.size + 1, 0, none⟩ = some (.string b.stream) ∧ X.cell? ⟨W.heap.size + 1, 1, none⟩ = some (.int .i64 b.expect) ∧ X.cell? ⟨W.heap.size + 1, 2, none⟩ = some (.int .i64 b.session) ∧ X.cell? ⟨W.heap.size + 1, 3, none⟩ = some (.int .i64 b.seq) ∧ X.cell? ⟨W.heap.size + 1, 4, none⟩ = some (.slice a2 b.events.length c2) ∧ Below (W.heap.size + 2) ((W.alloc (.cells #[.string a.stream, .int .i64 a.expect, .int .i64 a.session, .int .i64 a.seq, .slice a1 a.events.length c1] 24)).alloc (.cells #[.string b.stream, .int .i64 b.expect, .int .i64 b.session, .int .i64 b.seq, .slice a2 b.events.length c2] 24)) X) (first | exact hh2 | exact sames_keep (by assumption) (by assumption))
              (first
                  | ((with_reducible refine (CFa.out _ ?_).mono ?_); exact sames_below (by assumption); rintro r w4 ⟨rfl, hb4⟩)
                  | ((with_reducible refine (CFb.out _ ?_).mono ?_); exact sames_below (by assumption); rintro r w4 ⟨rfl, hb4⟩)
                  | ((with_reducible refine (C1.out _ ?_).mono ?_); exact sames_below (by assumption); rintro r w4 ⟨rfl, hb4⟩)
                  | ((with_reducible refine (CPa.out _ ?_).mono ?_); exact sames_below (by assumption); rintro r w4 ⟨rfl, hb4⟩)
                  | ((with_reducible refine (CPb.out _ ?_).mono ?_); exact sames_below (by assumption); rintro r w4 ⟨rfl, hb4⟩))
              go_wp2_with fail
              all_goals go_ret
              all_goals exact ⟨rfl, sames_below (by assumption)⟩
            · subst h1
              have g2 : ((cb : Int) != 0) = true := by simp; omega
              refine region_begin (S := fun X => X.cell? ⟨W.heap.size, 0, none⟩ = some (.string a.stream) ∧ X.cell? ⟨W.heap.size, 1, none⟩ = some (.int .i64 a.expect) ∧ X.cell? ⟨W.heap.size, 2, none⟩ = some (.int .i64 a.session) ∧ X.cell? ⟨W.heap.size, 3, none⟩ = some (.int .i64 a.seq) ∧ X.cell? ⟨W.heap.size, 4, none⟩ = some (.slice a1 a.events.length c1) ∧ X.cell? ⟨W.heap.size + 1, 0, none⟩ = some (.string b.stream) ∧ X.cell? ⟨W.heap.size + 1, 1, none⟩ = some (.int .i64 b.expect) ∧ X.cell? ⟨W.heap.size + 1, 2, none⟩ = some (.int .i64 b.session) ∧ X.cell? ⟨W.heap.size + 1, 3, none⟩ = some (.int .i64 b.seq) ∧ X.cell? ⟨W.heap.size + 1, 4, none⟩ = some (.slice a2 b.events.length c2) ∧ Below (W.heap.size + 2) ((W.alloc (.cells #[.string a.stream, .int .i64 a.expect, .int .i64 a.session, .int .i64 a.seq, .slice a1 a.events.length c1] 24)).alloc (.cells #[.string b.stream, .int .i64 b.expect, .int .i64 b.session, .int .i64 b.seq, .slice a2 b.events.length c2] 24)) X) 20 rfl (by kernel_rfl) hh2 (fun hH0 => ?_)
              refine wpAnyH_take (i := 0) (oi := ?obf0) (v := ?vbf0) ?hibf0 (by kernel_rfl) (by kernel_rfl) (by kernel_rfl) ?hQbf0 ?hybf0 hH0 ?_
              case hibf0 => simp only [List.getElem?_toArray, List.getElem?_cons_zero]; rfl
              case hQbf0 => exact fun _ _ _ h => h
              case hybf0 => refine Or.inl ⟨by rfl, ?_⟩; intro W hSw; (try dsimp only at hSw); go_simp; try with_reducible rfl
              simp only [Act.put, List.setIfInBounds_toArray, List.set_cons_zero, List.set_cons_succ]
              refine wpAnyH_ready (rs := [1]) (by kernel_rfl) (by simp) ?_
              refine AllReadyH.cons (o := ?obf1) ?hobf1 (fun K' hK => ?_) AllReadyH.nil
              case hobf1 => simp only [List.getElem?_toArray, List.getElem?_cons_zero, List.getElem?_cons_succ]; rfl
              go_simp
              refine (CFa.out _ (sames_below hH0)).mono ?_
              rintro r w5 ⟨rfl, hbr⟩
              have hS5 := sames_keep hH0 hbr
              clear hbr
              refine hK.out _ _ hS5 (fun hS5' => ?_)
              clear hK K'
              (try simp only [Act.put, List.setIfInBounds_toArray, List.set_cons_zero, List.set_cons_succ])
              refine wpAnyH_take (i := 2) (oi := ?obf2) (v := ?vbf2) ?hibf2 (by kernel_rfl) (by kernel_rfl) (by kernel_rfl) ?hQbf2 ?hybf2 hS5 ?_
              case hibf2 => simp only [List.getElem?_toArray, List.getElem?_cons_zero, List.getElem?_cons_succ]; rfl
              case hQbf2 => exact fun _ _ _ h => h
              case hybf2 => refine Or.inl ⟨by rfl, ?_⟩; intro W hSw; (try dsimp only at hSw); go_simp; try with_reducible rfl
              simp only [Act.put, List.setIfInBounds_toArray, List.set_cons_zero, List.set_cons_succ]
              refine wpAnyH_take (i := 3) (oi := ?obf3) (v := ?vbf3) ?hibf3 (by kernel_rfl) (by kernel_rfl) (by kernel_rfl) ?hQbf3 ?hybf3 hS5 ?_
              case hibf3 => simp only [List.getElem?_toArray, List.getElem?_cons_zero, List.getElem?_cons_succ]; rfl
              case hQbf3 => exact fun _ _ _ h => h
              case hybf3 => refine Or.inl ⟨by rfl, ?_⟩; intro W hSw; (try dsimp only at hSw); go_simp; try with_reducible rfl
              simp only [Act.put, List.setIfInBounds_toArray, List.set_cons_zero, List.set_cons_succ]
              refine wpAnyH_take (i := 4) (oi := ?obf4) (v := ?vbf4) ?hibf4 (by kernel_rfl) (by kernel_rfl) (by kernel_rfl) ?hQbf4 ?hybf4 hS5 ?_
              case hibf4 => simp only [List.getElem?_toArray, List.getElem?_cons_zero, List.getElem?_cons_succ]; rfl
              case hQbf4 => exact fun _ _ _ h => h
              case hybf4 => refine Or.inl ⟨by rfl, ?_⟩; intro W hSw; (try dsimp only at hSw); go_simp; try with_reducible rfl
              simp only [Act.put, List.setIfInBounds_toArray, List.set_cons_zero, List.set_cons_succ]
              refine wpAnyH_ready (rs := [5]) (by kernel_rfl) (by simp) ?_
              refine AllReadyH.cons (o := ?obf5) ?hobf5 (fun K' hK => ?_) AllReadyH.nil
              case hobf5 => simp only [List.getElem?_toArray, List.getElem?_cons_zero, List.getElem?_cons_succ]; rfl
              go_simp
              refine (CFb.out _ (sames_below hS5)).mono ?_
              rintro r w6 ⟨rfl, hbr⟩
              have hS6 := sames_keep hS5 hbr
              clear hbr
              refine hK.out _ _ hS6 (fun hS6' => ?_)
              clear hK K'
              (try simp only [Act.put, List.setIfInBounds_toArray, List.set_cons_zero, List.set_cons_succ])
              refine wpAnyH_take (i := 6) (oi := ?obf6) (v := ?vbf6) ?hibf6 (by kernel_rfl) (by kernel_rfl) (by kernel_rfl) ?hQbf6 ?hybf6 hS6 ?_
              case hibf6 => simp only [List.getElem?_toArray, List.getElem?_cons_zero, List.getElem?_cons_succ]; rfl
              case hQbf6 => exact fun _ _ _ h => h
              case hybf6 => refine Or.inl ⟨by rfl, ?_⟩; intro W hSw; (try dsimp only at hSw); go_simp; try with_reducible rfl
              simp only [Act.put, List.setIfInBounds_toArray, List.set_cons_zero, List.set_cons_succ]
              refine wpAnyH_take (i := 7) (oi := ?obf7) (v := ?vbf7) ?hibf7 (by kernel_rfl) (by kernel_rfl) (by kernel_rfl) ?hQbf7 ?hybf7 hS6 ?_
              case hibf7 => simp only [List.getElem?_toArray, List.getElem?_cons_zero, List.getElem?_cons_succ]; rfl
              case hQbf7 => exact fun _ _ _ h => h
              case hybf7 => refine Or.inl ⟨by rfl, ?_⟩; intro W hSw; (try dsimp only at hSw); go_simp; try with_reducible rfl
              simp only [Act.put, List.setIfInBounds_toArray, List.set_cons_zero, List.set_cons_succ]
              refine wpAnyH_take (i := 8) (oi := ?obf8) (v := ?vbf8) ?hibf8 (by kernel_rfl) (by kernel_rfl) (by kernel_rfl) ?hQbf8 ?hybf8 hS6 ?_
              case hibf8 => simp only [List.getElem?_toArray, List.getElem?_cons_zero, List.getElem?_cons_succ]; rfl
              case hQbf8 => exact fun _ _ _ h => h
              case hybf8 => refine Or.inl ⟨by rfl, ?_⟩; intro W hSw; (try dsimp only at hSw); go_simp; try with_reducible rfl
              simp only [Act.put, List.setIfInBounds_toArray, List.set_cons_zero, List.set_cons_succ]
              refine wpAnyH_take (i := 9) (oi := ?obf9) (v := undef) ?hibf9 (by kernel_rfl) (by kernel_rfl) (by kernel_rfl) ?hQbf9 ?hybf9 hS6 ?_
              case hibf9 => simp only [List.getElem?_toArray, List.getElem?_cons_zero, List.getElem?_cons_succ]; rfl
              case hQbf9 => exact fun _ _ _ h => h
              case hybf9 => exact Or.inr ⟨by rfl, rfl⟩
              simp only [Act.put, List.setIfInBounds_toArray, List.set_cons_zero, List.set_cons_succ]
              refine wpAnyH_take (i := 10) (oi := ?obf10) (v := undef) ?hibf10 (by kernel_rfl) (by kernel_rfl) (by kernel_rfl) ?hQbf10 ?hybf10 hS6 ?_
              case hibf10 => simp only [List.getElem?_toArray, List.getElem?_cons_zero, List.getElem?_cons_succ]; rfl
              case hQbf10 => exact fun _ _ _ h => h
              case hybf10 => exact Or.inr ⟨by rfl, rfl⟩
              simp only [Act.put, List.setIfInBounds_toArray, List.set_cons_zero, List.set_cons_succ]
              refine wpAnyH_take (i := 11) (oi := ?obf11) (v := undef) ?hibf11 (by kernel_rfl) (by kernel_rfl) (by kernel_rfl) ?hQbf11 ?hybf11 hS6 ?_
              case hibf11 => simp only [List.getElem?_toArray, List.getElem?_cons_zero, List.getElem?_cons_succ]; rfl
              case hQbf11 => exact fun _ _ _ h => h
              case hybf11 => exact Or.inr ⟨by rfl, rfl⟩
              simp only [Act.put, List.setIfInBounds_toArray, List.set_cons_zero, List.set_cons_succ]
              refine wpAnyH_take (i := 12) (oi := ?obf12) (v := undef) ?hibf12 (by kernel_rfl) (by kernel_rfl) (by kernel_rfl) ?hQbf12 ?hybf12 hS6 ?_
              case hibf12 => simp only [List.getElem?_toArray, List.getElem?_cons_zero, List.getElem?_cons_succ]; rfl
              case hQbf12 => exact fun _ _ _ h => h
              case hybf12 => exact Or.inr ⟨by rfl, rfl⟩
              simp only [Act.put, List.setIfInBounds_toArray, List.set_cons_zero, List.set_cons_succ]
              refine wpAnyH_take (i := 13) (oi := ?obf13) (v := undef) ?hibf13 (by kernel_rfl) (by kernel_rfl) (by kernel_rfl) ?hQbf13 ?hybf13 hS6 ?_
              case hibf13 => simp only [List.getElem?_toArray, List.getElem?_cons_zero, List.getElem?_cons_succ]; rfl
              case hQbf13 => exact fun _ _ _ h => h
              case hybf13 => exact Or.inr ⟨by rfl, rfl⟩
              simp only [Act.put, List.setIfInBounds_toArray, List.set_cons_zero, List.set_cons_succ]
              refine wpAnyH_take (i := 14) (oi := ?obf14) (v := undef) ?hibf14 (by kernel_rfl) (by kernel_rfl) (by kernel_rfl) ?hQbf14 ?hybf14 hS6 ?_
              case hibf14 => simp only [List.getElem?_toArray, List.getElem?_cons_zero, List.getElem?_cons_succ]; rfl
              case hQbf14 => exact fun _ _ _ h => h
              case hybf14 => exact Or.inr ⟨by rfl, rfl⟩
              simp only [Act.put, List.setIfInBounds_toArray, List.set_cons_zero, List.set_cons_succ]
              refine wpAnyH_take (i := 15) (oi := ?obf15) (v := undef) ?hibf15 (by kernel_rfl) (by kernel_rfl) (by kernel_rfl) ?hQbf15 ?hybf15 hS6 ?_
              case hibf15 => simp only [List.getElem?_toArray, List.getElem?_cons_zero, List.getElem?_cons_succ]; rfl
              case hQbf15 => exact fun _ _ _ h => h
              case hybf15 => exact Or.inr ⟨by rfl, rfl⟩
              simp only [Act.put, List.setIfInBounds_toArray, List.set_cons_zero, List.set_cons_succ]
              refine wpAnyH_take (i := 16) (oi := ?obf16) (v := undef) ?hibf16 (by kernel_rfl) (by kernel_rfl) (by kernel_rfl) ?hQbf16 ?hybf16 hS6 ?_
              case hibf16 => simp only [List.getElem?_toArray, List.getElem?_cons_zero, List.getElem?_cons_succ]; rfl
              case hQbf16 => exact fun _ _ _ h => h
              case hybf16 => exact Or.inr ⟨by rfl, rfl⟩
              simp only [Act.put, List.setIfInBounds_toArray, List.set_cons_zero, List.set_cons_succ]
              refine wpAnyH_take (i := 17) (oi := ?obf17) (v := undef) ?hibf17 (by kernel_rfl) (by kernel_rfl) (by kernel_rfl) ?hQbf17 ?hybf17 hS6 ?_
              case hibf17 => simp only [List.getElem?_toArray, List.getElem?_cons_zero, List.getElem?_cons_succ]; rfl
              case hQbf17 => exact fun _ _ _ h => h
              case hybf17 => exact Or.inr ⟨by rfl, rfl⟩
              simp only [Act.put, List.setIfInBounds_toArray, List.set_cons_zero, List.set_cons_succ]
              refine wpAnyH_take (i := 18) (oi := ?obf18) (v := ?vbf18) ?hibf18 (by kernel_rfl) (by kernel_rfl) (by kernel_rfl) ?hQbf18 ?hybf18 hS6 ?_
              case hibf18 => simp only [List.getElem?_toArray, List.getElem?_cons_zero, List.getElem?_cons_succ]; rfl
              case hQbf18 => exact fun _ _ _ h => h
              case hybf18 => refine Or.inl ⟨by rfl, ?_⟩; intro W hSw; (try dsimp only at hSw); go_simp; try with_reducible rfl
              simp only [Act.put, List.setIfInBounds_toArray, List.set_cons_zero, List.set_cons_succ]
              refine wpAnyH_take (i := 19) (oi := ?obf19) (v := ?vbf19) ?hibf19 (by kernel_rfl) (by kernel_rfl) (by kernel_rfl) ?hQbf19 ?hybf19 hS6 ?_
              case hibf19 => simp only [List.getElem?_toArray, List.getElem?_cons_zero, List.getElem?_cons_succ]; rfl
              case hQbf19 => exact fun _ _ _ h => h
              case hybf19 => refine Or.inl ⟨by rfl, ?_⟩; intro W hSw; (try dsimp only at hSw); go_simp; try with_reducible rfl
              simp only [Act.put, List.setIfInBounds_toArray, List.set_cons_zero, List.set_cons_succ]
              refine wpAnyH_done (by kernel_rfl) ?_ _
              go_wp2_with fail
              go_ret
              exact ⟨rfl, bz_below (sames_low hS6)⟩
          · have g1 : ((ca : Int) != 0) = true := by simp; omega
            refine region_begin (S := fun X => X.cell? ⟨W.heap.size, 0, none⟩ = some (.string a.stream) ∧ X.cell? ⟨W.heap.size, 1, none⟩ = some (.int .i64 a.expect) ∧ X.cell? ⟨W.heap.size, 2, none⟩ = some (.int .i64 a.session) ∧ X.cell? ⟨W.heap.size, 3, none⟩ = some (.int .i64 a.seq) ∧ X.cell? ⟨W.heap.size, 4, none⟩ = some (.slice a1 a.events.length c1) ∧ X.cell? ⟨W.heap.size + 1, 0, none⟩ = some (.string b.stream) ∧ X.cell? ⟨W.heap.size + 1, 1, none⟩ = some (.int .i64 b.expect) ∧ X.cell? ⟨W.heap.size + 1, 2, none⟩ = some (.int .i64 b.session) ∧ X.cell? ⟨W.heap.size + 1, 3, none⟩ = some (.int .i64 b.seq) ∧ X.cell? ⟨W.heap.size + 1, 4, none⟩ = some (.slice a2 b.events.length c2) ∧ Below (W.heap.size + 2) ((W.alloc (.cells #[.string a.stream, .int .i64 a.expect, .int .i64 a.session, .int .i64 a.seq, .slice a1 a.events.length c1] 24)).alloc (.cells #[.string b.stream, .int .i64 b.expect, .int .i64 b.session, .int .i64 b.seq, .slice a2 b.events.length c2] 24)) X) 20 rfl (by kernel_rfl) hh2 (fun hH0 => ?_)
            refine wpAnyH_take (i := 0) (oi := ?oaf0) (v := ?vaf0) ?hiaf0 (by kernel_rfl) (by kernel_rfl) (by kernel_rfl) ?hQaf0 ?hyaf0 hH0 ?_
            case hiaf0 => simp only [List.getElem?_toArray, List.getElem?_cons_zero]; rfl
            case hQaf0 => exact fun _ _ _ h => h
            case hyaf0 => refine Or.inl ⟨by rfl, ?_⟩; intro W hSw; (try dsimp only at hSw); go_simp; try with_reducible rfl
            simp only [Act.put, List.setIfInBounds_toArray, List.set_cons_zero, List.set_cons_succ]
            refine wpAnyH_ready (rs := [1]) (by kernel_rfl) (by simp) ?_
            refine AllReadyH.cons (o := ?oaf1) ?hoaf1 (fun K' hK => ?_) AllReadyH.nil
            case hoaf1 => simp only [List.getElem?_toArray, List.getElem?_cons_zero, List.getElem?_cons_succ]; rfl
            go_simp
            refine (CFa.out _ (sames_below hH0)).mono ?_
            rintro r w5 ⟨rfl, hbr⟩
            have hS5 := sames_keep hH0 hbr
            clear hbr
            refine hK.out _ _ hS5 (fun hS5' => ?_)
            clear hK K'
            (try simp only [Act.put, List.setIfInBounds_toArray, List.set_cons_zero, List.set_cons_succ])
            refine wpAnyH_take (i := 2) (oi := ?oaf2) (v := ?vaf2) ?hiaf2 (by kernel_rfl) (by kernel_rfl) (by kernel_rfl) ?hQaf2 ?hyaf2 hS5 ?_
            case hiaf2 => simp only [List.getElem?_toArray, List.getElem?_cons_zero, List.getElem?_cons_succ]; rfl
            case hQaf2 => exact fun _ _ _ h => h
            case hyaf2 => refine Or.inl ⟨by rfl, ?_⟩; intro W hSw; (try dsimp only at hSw); go_simp; try with_reducible rfl
            simp only [Act.put, List.setIfInBounds_toArray, List.set_cons_zero, List.set_cons_succ]
            refine wpAnyH_take (i := 3) (oi := ?oaf3) (v := ?vaf3) ?hiaf3 (by kernel_rfl) (by kernel_rfl) (by kernel_rfl) ?hQaf3 ?hyaf3 hS5 ?_
            case hiaf3 => simp only [List.getElem?_toArray, List.getElem?_cons_zero, List.getElem?_cons_succ]; rfl
            case hQaf3 => exact fun _ _ _ h => h
            case hyaf3 => refine Or.inl ⟨by rfl, ?_⟩; intro W hSw; (try dsimp only at hSw); go_simp; try with_reducible rfl
            simp only [Act.put, List.setIfInBounds_toArray, List.set_cons_zero, List.set_cons_succ]
            refine wpAnyH_take (i := 4) (oi := ?oaf4) (v := undef) ?hiaf4 (by kernel_rfl) (by kernel_rfl) (by kernel_rfl) ?hQaf4 ?hyaf4 hS5 ?_
            case hiaf4 => simp only [List.getElem?_toArray, List.getElem?_cons_zero, List.getElem?_cons_succ]; rfl
            case hQaf4 => exact fun _ _ _ h => h
            case hyaf4 => exact Or.inr ⟨by rfl, rfl⟩
            simp only [Act.put, List.setIfInBounds_toArray, List.set_cons_zero, List.set_cons_succ]
            refine wpAnyH_take (i := 5) (oi := ?oaf5) (v := undef) ?hiaf5 (by kernel_rfl) (by kernel_rfl) (by kernel_rfl) ?hQaf5 ?hyaf5 hS5 ?_
            case hiaf5 => simp only [List.getElem?_toArray, List.getElem?_cons_zero, List.getElem?_cons_succ]; rfl
            case hQaf5 => exact fun _ _ _ h => h
            case hyaf5 => exact Or.inr ⟨by rfl, rfl⟩
            simp only [Act.put, List.setIfInBounds_toArray, List.set_cons_zero, List.set_cons_succ]
            refine wpAnyH_take (i := 6) (oi := ?oaf6) (v := undef) ?hiaf6 (by kernel_rfl) (by kernel_rfl) (by kernel_rfl) ?hQaf6 ?hyaf6 hS5 ?_
            case hiaf6 => simp only [List.getElem?_toArray, List.getElem?_cons_zero, List.getElem?_cons_succ]; rfl
            case hQaf6 => exact fun _ _ _ h => h
            case hyaf6 => exact Or.inr ⟨by rfl, rfl⟩
            simp only [Act.put, List.setIfInBounds_toArray, List.set_cons_zero, List.set_cons_succ]
            refine wpAnyH_take (i := 7) (oi := ?oaf7) (v := ?vaf7) ?hiaf7 (by kernel_rfl) (by kernel_rfl) (by kernel_rfl) ?hQaf7 ?hyaf7 hS5 ?_
            case hiaf7 => simp only [List.getElem?_toArray, List.getElem?_cons_zero, List.getElem?_cons_succ]; rfl
            case hQaf7 => exact fun _ _ _ h => h
            case hyaf7 => refine Or.inl ⟨by rfl, ?_⟩; intro W hSw; (try dsimp only at hSw); go_simp; try with_reducible rfl
            simp only [Act.put, List.setIfInBounds_toArray, List.set_cons_zero, List.set_cons_succ]
            refine wpAnyH_take (i := 8) (oi := ?oaf8) (v := ?vaf8) ?hiaf8 (by kernel_rfl) (by kernel_rfl) (by kernel_rfl) ?hQaf8 ?hyaf8 hS5 ?_
            case hiaf8 => simp only [List.getElem?_toArray, List.getElem?_cons_zero, List.getElem?_cons_succ]; rfl
            case hQaf8 => exact fun _ _ _ h => h
            case hyaf8 => refine Or.inl ⟨by rfl, ?_⟩; intro W hSw; (try dsimp only at hSw); go_simp; try with_reducible rfl
            simp only [Act.put, List.setIfInBounds_toArray, List.set_cons_zero, List.set_cons_succ]
            refine wpAnyH_take (i := 9) (oi := ?oaf9) (v := undef) ?hiaf9 (by kernel_rfl) (by kernel_rfl) (by kernel_rfl) ?hQaf9 ?hyaf9 hS5 ?_
            case hiaf9 => simp only [List.getElem?_toArray, List.getElem?_cons_zero, List.getElem?_cons_succ]; rfl
            case hQaf9 => exact fun _ _ _ h => h
            case hyaf9 => exact Or.inr ⟨by rfl, rfl⟩
            simp only [Act.put, List.setIfInBounds_toArray, List.set_cons_zero, List.set_cons_succ]
            refine wpAnyH_take (i := 10) (oi := ?oaf10) (v := undef) ?hiaf10 (by kernel_rfl) (by kernel_rfl) (by kernel_rfl) ?hQaf10 ?hyaf10 hS5 ?_
            case hiaf10 => simp only [List.getElem?_toArray, List.getElem?_cons_zero, List.getElem?_cons_succ]; rfl
            case hQaf10 => exact fun _ _ _ h => h
            case hyaf10 => exact Or.inr ⟨by rfl, rfl⟩
            simp only [Act.put, List.setIfInBounds_toArray, List.set_cons_zero, List.set_cons_succ]
            refine wpAnyH_take (i := 11) (oi := ?oaf11) (v := undef) ?hiaf11 (by kernel_rfl) (by kernel_rfl) (by kernel_rfl) ?hQaf11 ?hyaf11 hS5 ?_
            case hiaf11 => simp only [List.getElem?_toArray, List.getElem?_cons_zero, List.getElem?_cons_succ]; rfl
            case hQaf11 => exact fun _ _ _ h => h
            case hyaf11 => exact Or.inr ⟨by rfl, rfl⟩
            simp only [Act.put, List.setIfInBounds_toArray, List.set_cons_zero, List.set_cons_succ]
            refine wpAnyH_take (i := 12) (oi := ?oaf12) (v := undef) ?hiaf12 (by kernel_rfl) (by kernel_rfl) (by kernel_rfl) ?hQaf12 ?hyaf12 hS5 ?_
            case hiaf12 => simp only [List.getElem?_toArray, List.getElem?_cons_zero, List.getElem?_cons_succ]; rfl
            case hQaf12 => exact fun _ _ _ h => h
            case hyaf12 => exact Or.inr ⟨by rfl, rfl⟩
            simp only [Act.put, List.setIfInBounds_toArray, List.set_cons_zero, List.set_cons_succ]
            refine wpAnyH_take (i := 13) (oi := ?oaf13) (v := undef) ?hiaf13 (by kernel_rfl) (by kernel_rfl) (by kernel_rfl) ?hQaf13 ?hyaf13 hS5 ?_
            case hiaf13 => simp only [List.getElem?_toArray, List.getElem?_cons_zero, List.getElem?_cons_succ]; rfl
            case hQaf13 => exact fun _ _ _ h => h
            case hyaf13 => exact Or.inr ⟨by rfl, rfl⟩
            simp only [Act.put, List.setIfInBounds_toArray, List.set_cons_zero, List.set_cons_succ]
            refine wpAnyH_take (i := 14) (oi := ?oaf14) (v := undef) ?hiaf14 (by kernel_rfl) (by kernel_rfl) (by kernel_rfl) ?hQaf14 ?hyaf14 hS5 ?_
            case hiaf14 => simp only [List.getElem?_toArray, List.getElem?_cons_zero, List.getElem?_cons_succ]; rfl
            case hQaf14 => exact fun _ _ _ h => h
            case hyaf14 => exact Or.inr ⟨by rfl, rfl⟩
            simp only [Act.put, List.setIfInBounds_toArray, List.set_cons_zero, List.set_cons_succ]
            refine wpAnyH_take (i := 15) (oi := ?oaf15) (v := undef) ?hiaf15 (by kernel_rfl) (by kernel_rfl) (by kernel_rfl) ?hQaf15 ?hyaf15 hS5 ?_
            case hiaf15 => simp only [List.getElem?_toArray, List.getElem?_cons_zero, List.getElem?_cons_succ]; rfl
            case hQaf15 => exact fun _ _ _ h => h
            case hyaf15 => exact Or.inr ⟨by rfl, rfl⟩
            simp only [Act.put, List.setIfInBounds_toArray, List.set_cons_zero, List.set_cons_succ]
            refine wpAnyH_take (i := 16) (oi := ?oaf16) (v := undef) ?hiaf16 (by kernel_rfl) (by kernel_rfl) (by kernel_rfl) ?hQaf16 ?hyaf16 hS5 ?_
            case hiaf16 => simp only [List.getElem?_toArray, List.getElem?_cons_zero, List.getElem?_cons_succ]; rfl
            case hQaf16 => exact fun _ _ _ h => h
            case hyaf16 => exact Or.inr ⟨by rfl, rfl⟩
            simp only [Act.put, List.setIfInBounds_toArray, List.set_cons_zero, List.set_cons_succ]
            refine wpAnyH_take (i := 17) (oi := ?oaf17) (v := undef) ?hiaf17 (by kernel_rfl) (by kernel_rfl) (by kernel_rfl) ?hQaf17 ?hyaf17 hS5 ?_
            case hiaf17 => simp only [List.getElem?_toArray, List.getElem?_cons_zero, List.getElem?_cons_succ]; rfl
            case hQaf17 => exact fun _ _ _ h => h
            case hyaf17 => exact Or.inr ⟨by rfl, rfl⟩
            simp only [Act.put, List.setIfInBounds_toArray, List.set_cons_zero, List.set_cons_succ]
            refine wpAnyH_take (i := 18) (oi := ?oaf18) (v := ?vaf18) ?hiaf18 (by kernel_rfl) (by kernel_rfl) (by kernel_rfl) ?hQaf18 ?hyaf18 hS5 ?_
            case hiaf18 => simp only [List.getElem?_toArray, List.getElem?_cons_zero, List.getElem?_cons_succ]; rfl
            case hQaf18 => exact fun _ _ _ h => h
            case hyaf18 => refine Or.inl ⟨by rfl, ?_⟩; intro W hSw; (try dsimp only at hSw); go_simp; try with_reducible rfl
            simp only [Act.put, List.setIfInBounds_toArray, List.set_cons_zero, List.set_cons_succ]
            refine wpAnyH_take (i := 19) (oi := ?oaf19) (v := ?vaf19) ?hiaf19 (by kernel_rfl) (by kernel_rfl) (by kernel_rfl) ?hQaf19 ?hyaf19 hS5 ?_
            case hiaf19 => simp only [List.getElem?_toArray, List.getElem?_cons_zero, List.getElem?_cons_succ]; rfl
            case hQaf19 => exact fun _ _ _ h => h
            case hyaf19 => refine Or.inl ⟨by rfl, ?_⟩; intro W hSw; (try dsimp only at hSw); go_simp; try with_reducible rfl
            simp only [Act.put, List.setIfInBounds_toArray, List.set_cons_zero, List.set_cons_succ]
            refine wpAnyH_done (by kernel_rfl) ?_ _
            go_wp2_with fail
            go_ret
            exact ⟨rfl, bz_below (sames_low hS5)⟩
      | true =>
        have LA := Lib.hid (HQa.out.1 rfl)
        have LB := Lib.hid (HQb.out.1 rfl)
        have C1 := Lib.hid (fun (X : World) (hX : Below W.heap.size W X) => same_any B _ _ a b true hq X (HA.out.keep hX hB) (HB.out.keep hX hB) (Nat.le_trans hB hX.size))
        have C2 := Lib.hid (fun (X : World) (hX : Below W.heap.size W X) => sameBatch_any B _ _ a b true hq X (HA.out.keep hX hB) (HB.out.keep hX hB) (Nat.le_trans hB hX.size))
        have HQ := Lib.hid (hq.1 rfl)
        have HPa := Lib.hid hpa
        have HPb := Lib.hid hpb
        clear hq hpa hpb
        go_enter Tryd.func5, Tryd.ntmps5
        go_wp2_with fail
        refine (shown_any _ (tabs_below HT.out (bz_below BZ0.out))).mono ?_
        rintro r w1 ⟨rfl, hb1⟩
        have bz1 := bz_more BZ0.out hb1
        obtain ⟨⟨y0, y1, y2, y3, y4⟩, x0, x1, x2, x3, x4⟩ := box55 bz1
        go_wp2_with fail
        refine (CLa.out _ (bz_below bz1)).mono ?_
        rintro r w2 ⟨rfl, hb2⟩
        have bz2 := bz_more bz1 hb2
        clear y0 y1 y2 y3 y4 x0 x1 x2 x3 x4
        obtain ⟨⟨y0, y1, y2, y3, y4⟩, x0, x1, x2, x3, x4⟩ := box55 bz2
        go_wp2_with fail
        refine (CLb.out _ (bz_below bz2)).mono ?_
        rintro r w3 ⟨rfl, hb3⟩
        have bz3 := bz_more bz2 hb3
        clear y0 y1 y2 y3 y4 x0 x1 x2 x3 x4
        obtain ⟨⟨y0, y1, y2, y3, y4⟩, x0, x1, x2, x3, x4⟩ := box55 bz3
        go_wp2_with fail
        have hh := sames_mk bz3.drew
        clear y0 y1 y2 y3 y4 x0 x1 x2 x3 x4
        go_upto_region 6 with fail
        go_cut [36] (fun t36 wx => t36 = .bool false ∧ Below (W.heap.size + 2) ((W.alloc (.cells #[.string a.stream, .int .i64 a.expect, .int .i64 a.session, .int .i64 a.seq, .slice a1 a.events.length c1] 24)).alloc (.cells #[.string b.stream, .int .i64 b.expect, .int .i64 b.session, .int .i64 b.seq, .slice a2 b.events.length c2] 24)) wx)
        case first => as_aux_lemma =>
          go_region_held3 (fun X => X.cell? ⟨W.heap.size, 0, none⟩ = some (.string a.stream) ∧ X.cell? ⟨W.heap.size, 1, none⟩ = some (.int .i64 a.expect) ∧ X.cell? ⟨W.heap.size, 2, none⟩ = some (.int .i64 a.session) ∧ X.cell? ⟨W.heap.size, 3, none⟩ = some (.int .i64 a.seq) ∧ X.cell? ⟨W.heap.size, 4, none⟩ = some (.slice a1 a.events.length c1) ∧ X.cell? ⟨W.heap.size + 1, 0, none⟩ = some (.string b.stream) ∧ X.cell? ⟨W.heap.size + 1, 1, none⟩ = some (.int .i64 b.expect) ∧ X.cell? ⟨W.heap.size + 1, 2, none⟩ = some (.int .i64 b.session) ∧ X.cell? ⟨W.heap.size + 1, 3, none⟩ = some (.int .i64 b.seq) ∧ X.cell? ⟨W.heap.size + 1, 4, none⟩ = some (.slice a2 b.events.length c2) ∧ Below (W.heap.size + 2) ((W.alloc (.cells #[.string a.stream, .int .i64 a.expect, .int .i64 a.session, .int .i64 a.seq, .slice a1 a.events.length c1] 24)).alloc (.cells #[.string b.stream, .int .i64 b.expect, .int .i64 b.session, .int .i64 b.seq, .slice a2 b.events.length c2] 24)) X) (first | exact hh | exact sames_keep (by assumption) (by assumption))
          (first
            | ((with_reducible refine (C1.out _ ?_).mono ?_); exact sames_below (by assumption); rintro r w4 ⟨rfl, hb4⟩)
            | ((with_reducible refine (C2.out _ ?_).mono ?_); exact sames_below (by assumption); rintro r w4 ⟨rfl, hb4⟩)
            | ((with_reducible refine (C3.out _ ?_).mono ?_); exact sames_below (by assumption); rintro r w4 ⟨rfl, hb4⟩))
          go_wp2
          all_goals go_meet
          all_goals case rel => exact ⟨rfl, sames_low (by assumption)⟩
        case rest =>
          obtain ⟨rfl, bzc⟩ := hcut
          have hh2 := sames_mk bzc.drew
          obtain ⟨⟨y0, y1, y2, y3, y4⟩, x0, x1, x2, x3, x4⟩ := box55 bzc
          go_wp2_with fail
          by_cases h1 : ca = 0
          · by_cases h2 : cb = 0
            · subst h1
              subst h2
              have CPa := Lib.hid (fun (X : World) (hX : Below W.heap.size W X) => putB_any B _ a pa HPa.out X (HA.out.keep hX hB) (Nat.le_trans hB hX.size) (tabs_below HT.out hX) LA.out)
              have CPb := Lib.hid (fun (X : World) (hX : Below W.heap.size W X) => putB_any B _ b pb HPb.out X (HB.out.keep hX hB) (Nat.le_trans hB hX.size) (tabs_below HT.out hX) LB.out)
              have hpe : (pa.toList == pb.toList) = true := by
                rw [← HPa.out, ← HPb.out, HQ.out]
                simp
              go_region_held3 (fun X => X.cell? ⟨W.heap.size, 0, none⟩ = some (.string a.stream) ∧ X.cell? ⟨W.heap.size, 1, none⟩ = some (.int .i64 a.expect) ∧ X.cell? ⟨W.heap.size, 2, none⟩ = some (.int .i64 a.session) ∧ X.cell? ⟨W.heap.size, 3, none⟩ = some (.int .i64 a.seq) ∧ X.cell? ⟨W.heap.size, 4, none⟩ = some (.slice a1 a.events.length c1) ∧ X.cell? ⟨W.heap.size + 1, 0, none⟩ = some (.string b.stream) ∧ X.cell? ⟨W.heap.size + 1, 1, none⟩ = some (.int .i64 b.expect) ∧ X.cell? ⟨W.heap.size + 1, 2, none⟩ = some (.int .i64 b.session) ∧ X.cell? ⟨W.heap.size + 1, 3, none⟩ = some (.int .i64 b.seq) ∧ X.cell? ⟨W.heap.size + 1, 4, none⟩ = some (.slice a2 b.events.length c2) ∧ Below (W.heap.size + 2) ((W.alloc (.cells #[.string a.stream, .int .i64 a.expect, .int .i64 a.session, .int .i64 a.seq, .slice a1 a.events.length c1] 24)).alloc (.cells #[.string b.stream, .int .i64 b.expect, .int .i64 b.session, .int .i64 b.seq, .slice a2 b.events.length c2] 24)) X) (first | exact hh2 | exact sames_keep (by assumption) (by assumption))
              (first
                  | ((with_reducible refine (CFa.out _ ?_).mono ?_); exact sames_below (by assumption); rintro r w4 ⟨rfl, hb4⟩)
                  | ((with_reducible refine (CFb.out _ ?_).mono ?_); exact sames_below (by assumption); rintro r w4 ⟨rfl, hb4⟩)
                  | ((with_reducible refine (C1.out _ ?_).mono ?_); exact sames_below (by assumption); rintro r w4 ⟨rfl, hb4⟩)
                  | ((with_reducible refine (CPa.out _ ?_).mono ?_); exact sames_below (by assumption); rintro r w4 ⟨rfl, hb4⟩)
                  | ((with_reducible refine (CPb.out _ ?_).mono ?_); exact sames_below (by assumption); rintro r w4 ⟨rfl, hb4⟩))
              go_wp2_with fail
              all_goals go_ret
              all_goals exact ⟨rfl, sames_below (by assumption)⟩
            · subst h1
              have g2 : ((cb : Int) != 0) = true := by simp; omega
              refine region_begin (S := fun X => X.cell? ⟨W.heap.size, 0, none⟩ = some (.string a.stream) ∧ X.cell? ⟨W.heap.size, 1, none⟩ = some (.int .i64 a.expect) ∧ X.cell? ⟨W.heap.size, 2, none⟩ = some (.int .i64 a.session) ∧ X.cell? ⟨W.heap.size, 3, none⟩ = some (.int .i64 a.seq) ∧ X.cell? ⟨W.heap.size, 4, none⟩ = some (.slice a1 a.events.length c1) ∧ X.cell? ⟨W.heap.size + 1, 0, none⟩ = some (.string b.stream) ∧ X.cell? ⟨W.heap.size + 1, 1, none⟩ = some (.int .i64 b.expect) ∧ X.cell? ⟨W.heap.size + 1, 2, none⟩ = some (.int .i64 b.session) ∧ X.cell? ⟨W.heap.size + 1, 3, none⟩ = some (.int .i64 b.seq) ∧ X.cell? ⟨W.heap.size + 1, 4, none⟩ = some (.slice a2 b.events.length c2) ∧ Below (W.heap.size + 2) ((W.alloc (.cells #[.string a.stream, .int .i64 a.expect, .int .i64 a.session, .int .i64 a.seq, .slice a1 a.events.length c1] 24)).alloc (.cells #[.string b.stream, .int .i64 b.expect, .int .i64 b.session, .int .i64 b.seq, .slice a2 b.events.length c2] 24)) X) 20 rfl (by kernel_rfl) hh2 (fun hH0 => ?_)
              refine wpAnyH_take (i := 0) (oi := ?obt0) (v := ?vbt0) ?hibt0 (by kernel_rfl) (by kernel_rfl) (by kernel_rfl) ?hQbt0 ?hybt0 hH0 ?_
              case hibt0 => simp only [List.getElem?_toArray, List.getElem?_cons_zero]; rfl
              case hQbt0 => exact fun _ _ _ h => h
              case hybt0 => refine Or.inl ⟨by rfl, ?_⟩; intro W hSw; (try dsimp only at hSw); go_simp; try with_reducible rfl
              simp only [Act.put, List.setIfInBounds_toArray, List.set_cons_zero, List.set_cons_succ]
              refine wpAnyH_ready (rs := [1]) (by kernel_rfl) (by simp) ?_
              refine AllReadyH.cons (o := ?obt1) ?hobt1 (fun K' hK => ?_) AllReadyH.nil
              case hobt1 => simp only [List.getElem?_toArray, List.getElem?_cons_zero, List.getElem?_cons_succ]; rfl
              go_simp
              refine (CFa.out _ (sames_below hH0)).mono ?_
              rintro r w5 ⟨rfl, hbr⟩
              have hS5 := sames_keep hH0 hbr
              clear hbr
              refine hK.out _ _ hS5 (fun hS5' => ?_)
              clear hK K'
              (try simp only [Act.put, List.setIfInBounds_toArray, List.set_cons_zero, List.set_cons_succ])
              refine wpAnyH_take (i := 2) (oi := ?obt2) (v := ?vbt2) ?hibt2 (by kernel_rfl) (by kernel_rfl) (by kernel_rfl) ?hQbt2 ?hybt2 hS5 ?_
              case hibt2 => simp only [List.getElem?_toArray, List.getElem?_cons_zero, List.getElem?_cons_succ]; rfl
              case hQbt2 => exact fun _ _ _ h => h
              case hybt2 => refine Or.inl ⟨by rfl, ?_⟩; intro W hSw; (try dsimp only at hSw); go_simp; try with_reducible rfl
              simp only [Act.put, List.setIfInBounds_toArray, List.set_cons_zero, List.set_cons_succ]
              refine wpAnyH_take (i := 3) (oi := ?obt3) (v := ?vbt3) ?hibt3 (by kernel_rfl) (by kernel_rfl) (by kernel_rfl) ?hQbt3 ?hybt3 hS5 ?_
              case hibt3 => simp only [List.getElem?_toArray, List.getElem?_cons_zero, List.getElem?_cons_succ]; rfl
              case hQbt3 => exact fun _ _ _ h => h
              case hybt3 => refine Or.inl ⟨by rfl, ?_⟩; intro W hSw; (try dsimp only at hSw); go_simp; try with_reducible rfl
              simp only [Act.put, List.setIfInBounds_toArray, List.set_cons_zero, List.set_cons_succ]
              refine wpAnyH_take (i := 4) (oi := ?obt4) (v := ?vbt4) ?hibt4 (by kernel_rfl) (by kernel_rfl) (by kernel_rfl) ?hQbt4 ?hybt4 hS5 ?_
              case hibt4 => simp only [List.getElem?_toArray, List.getElem?_cons_zero, List.getElem?_cons_succ]; rfl
              case hQbt4 => exact fun _ _ _ h => h
              case hybt4 => refine Or.inl ⟨by rfl, ?_⟩; intro W hSw; (try dsimp only at hSw); go_simp; try with_reducible rfl
              simp only [Act.put, List.setIfInBounds_toArray, List.set_cons_zero, List.set_cons_succ]
              refine wpAnyH_ready (rs := [5]) (by kernel_rfl) (by simp) ?_
              refine AllReadyH.cons (o := ?obt5) ?hobt5 (fun K' hK => ?_) AllReadyH.nil
              case hobt5 => simp only [List.getElem?_toArray, List.getElem?_cons_zero, List.getElem?_cons_succ]; rfl
              go_simp
              refine (CFb.out _ (sames_below hS5)).mono ?_
              rintro r w6 ⟨rfl, hbr⟩
              have hS6 := sames_keep hS5 hbr
              clear hbr
              refine hK.out _ _ hS6 (fun hS6' => ?_)
              clear hK K'
              (try simp only [Act.put, List.setIfInBounds_toArray, List.set_cons_zero, List.set_cons_succ])
              refine wpAnyH_take (i := 6) (oi := ?obt6) (v := ?vbt6) ?hibt6 (by kernel_rfl) (by kernel_rfl) (by kernel_rfl) ?hQbt6 ?hybt6 hS6 ?_
              case hibt6 => simp only [List.getElem?_toArray, List.getElem?_cons_zero, List.getElem?_cons_succ]; rfl
              case hQbt6 => exact fun _ _ _ h => h
              case hybt6 => refine Or.inl ⟨by rfl, ?_⟩; intro W hSw; (try dsimp only at hSw); go_simp; try with_reducible rfl
              simp only [Act.put, List.setIfInBounds_toArray, List.set_cons_zero, List.set_cons_succ]
              refine wpAnyH_take (i := 7) (oi := ?obt7) (v := ?vbt7) ?hibt7 (by kernel_rfl) (by kernel_rfl) (by kernel_rfl) ?hQbt7 ?hybt7 hS6 ?_
              case hibt7 => simp only [List.getElem?_toArray, List.getElem?_cons_zero, List.getElem?_cons_succ]; rfl
              case hQbt7 => exact fun _ _ _ h => h
              case hybt7 => refine Or.inl ⟨by rfl, ?_⟩; intro W hSw; (try dsimp only at hSw); go_simp; try with_reducible rfl
              simp only [Act.put, List.setIfInBounds_toArray, List.set_cons_zero, List.set_cons_succ]
              refine wpAnyH_take (i := 8) (oi := ?obt8) (v := ?vbt8) ?hibt8 (by kernel_rfl) (by kernel_rfl) (by kernel_rfl) ?hQbt8 ?hybt8 hS6 ?_
              case hibt8 => simp only [List.getElem?_toArray, List.getElem?_cons_zero, List.getElem?_cons_succ]; rfl
              case hQbt8 => exact fun _ _ _ h => h
              case hybt8 => refine Or.inl ⟨by rfl, ?_⟩; intro W hSw; (try dsimp only at hSw); go_simp; try with_reducible rfl
              simp only [Act.put, List.setIfInBounds_toArray, List.set_cons_zero, List.set_cons_succ]
              refine wpAnyH_take (i := 9) (oi := ?obt9) (v := undef) ?hibt9 (by kernel_rfl) (by kernel_rfl) (by kernel_rfl) ?hQbt9 ?hybt9 hS6 ?_
              case hibt9 => simp only [List.getElem?_toArray, List.getElem?_cons_zero, List.getElem?_cons_succ]; rfl
              case hQbt9 => exact fun _ _ _ h => h
              case hybt9 => exact Or.inr ⟨by rfl, rfl⟩
              simp only [Act.put, List.setIfInBounds_toArray, List.set_cons_zero, List.set_cons_succ]
              refine wpAnyH_take (i := 10) (oi := ?obt10) (v := undef) ?hibt10 (by kernel_rfl) (by kernel_rfl) (by kernel_rfl) ?hQbt10 ?hybt10 hS6 ?_
              case hibt10 => simp only [List.getElem?_toArray, List.getElem?_cons_zero, List.getElem?_cons_succ]; rfl
              case hQbt10 => exact fun _ _ _ h => h
              case hybt10 => exact Or.inr ⟨by rfl, rfl⟩
              simp only [Act.put, List.setIfInBounds_toArray, List.set_cons_zero, List.set_cons_succ]
              refine wpAnyH_take (i := 11) (oi := ?obt11) (v := undef) ?hibt11 (by kernel_rfl) (by kernel_rfl) (by kernel_rfl) ?hQbt11 ?hybt11 hS6 ?_
              case hibt11 => simp only [List.getElem?_toArray, List.getElem?_cons_zero, List.getElem?_cons_succ]; rfl
              case hQbt11 => exact fun _ _ _ h => h
              case hybt11 => exact Or.inr ⟨by rfl, rfl⟩
              simp only [Act.put, List.setIfInBounds_toArray, List.set_cons_zero, List.set_cons_succ]
              refine wpAnyH_take (i := 12) (oi := ?obt12) (v := undef) ?hibt12 (by kernel_rfl) (by kernel_rfl) (by kernel_rfl) ?hQbt12 ?hybt12 hS6 ?_
              case hibt12 => simp only [List.getElem?_toArray, List.getElem?_cons_zero, List.getElem?_cons_succ]; rfl
              case hQbt12 => exact fun _ _ _ h => h
              case hybt12 => exact Or.inr ⟨by rfl, rfl⟩
              simp only [Act.put, List.setIfInBounds_toArray, List.set_cons_zero, List.set_cons_succ]
              refine wpAnyH_take (i := 13) (oi := ?obt13) (v := undef) ?hibt13 (by kernel_rfl) (by kernel_rfl) (by kernel_rfl) ?hQbt13 ?hybt13 hS6 ?_
              case hibt13 => simp only [List.getElem?_toArray, List.getElem?_cons_zero, List.getElem?_cons_succ]; rfl
              case hQbt13 => exact fun _ _ _ h => h
              case hybt13 => exact Or.inr ⟨by rfl, rfl⟩
              simp only [Act.put, List.setIfInBounds_toArray, List.set_cons_zero, List.set_cons_succ]
              refine wpAnyH_take (i := 14) (oi := ?obt14) (v := undef) ?hibt14 (by kernel_rfl) (by kernel_rfl) (by kernel_rfl) ?hQbt14 ?hybt14 hS6 ?_
              case hibt14 => simp only [List.getElem?_toArray, List.getElem?_cons_zero, List.getElem?_cons_succ]; rfl
              case hQbt14 => exact fun _ _ _ h => h
              case hybt14 => exact Or.inr ⟨by rfl, rfl⟩
              simp only [Act.put, List.setIfInBounds_toArray, List.set_cons_zero, List.set_cons_succ]
              refine wpAnyH_take (i := 15) (oi := ?obt15) (v := undef) ?hibt15 (by kernel_rfl) (by kernel_rfl) (by kernel_rfl) ?hQbt15 ?hybt15 hS6 ?_
              case hibt15 => simp only [List.getElem?_toArray, List.getElem?_cons_zero, List.getElem?_cons_succ]; rfl
              case hQbt15 => exact fun _ _ _ h => h
              case hybt15 => exact Or.inr ⟨by rfl, rfl⟩
              simp only [Act.put, List.setIfInBounds_toArray, List.set_cons_zero, List.set_cons_succ]
              refine wpAnyH_take (i := 16) (oi := ?obt16) (v := undef) ?hibt16 (by kernel_rfl) (by kernel_rfl) (by kernel_rfl) ?hQbt16 ?hybt16 hS6 ?_
              case hibt16 => simp only [List.getElem?_toArray, List.getElem?_cons_zero, List.getElem?_cons_succ]; rfl
              case hQbt16 => exact fun _ _ _ h => h
              case hybt16 => exact Or.inr ⟨by rfl, rfl⟩
              simp only [Act.put, List.setIfInBounds_toArray, List.set_cons_zero, List.set_cons_succ]
              refine wpAnyH_take (i := 17) (oi := ?obt17) (v := undef) ?hibt17 (by kernel_rfl) (by kernel_rfl) (by kernel_rfl) ?hQbt17 ?hybt17 hS6 ?_
              case hibt17 => simp only [List.getElem?_toArray, List.getElem?_cons_zero, List.getElem?_cons_succ]; rfl
              case hQbt17 => exact fun _ _ _ h => h
              case hybt17 => exact Or.inr ⟨by rfl, rfl⟩
              simp only [Act.put, List.setIfInBounds_toArray, List.set_cons_zero, List.set_cons_succ]
              refine wpAnyH_take (i := 18) (oi := ?obt18) (v := ?vbt18) ?hibt18 (by kernel_rfl) (by kernel_rfl) (by kernel_rfl) ?hQbt18 ?hybt18 hS6 ?_
              case hibt18 => simp only [List.getElem?_toArray, List.getElem?_cons_zero, List.getElem?_cons_succ]; rfl
              case hQbt18 => exact fun _ _ _ h => h
              case hybt18 => refine Or.inl ⟨by rfl, ?_⟩; intro W hSw; (try dsimp only at hSw); go_simp; try with_reducible rfl
              simp only [Act.put, List.setIfInBounds_toArray, List.set_cons_zero, List.set_cons_succ]
              refine wpAnyH_take (i := 19) (oi := ?obt19) (v := ?vbt19) ?hibt19 (by kernel_rfl) (by kernel_rfl) (by kernel_rfl) ?hQbt19 ?hybt19 hS6 ?_
              case hibt19 => simp only [List.getElem?_toArray, List.getElem?_cons_zero, List.getElem?_cons_succ]; rfl
              case hQbt19 => exact fun _ _ _ h => h
              case hybt19 => refine Or.inl ⟨by rfl, ?_⟩; intro W hSw; (try dsimp only at hSw); go_simp; try with_reducible rfl
              simp only [Act.put, List.setIfInBounds_toArray, List.set_cons_zero, List.set_cons_succ]
              refine wpAnyH_done (by kernel_rfl) ?_ _
              go_wp2_with fail
              go_ret
              exact ⟨rfl, bz_below (sames_low hS6)⟩
          · have g1 : ((ca : Int) != 0) = true := by simp; omega
            refine region_begin (S := fun X => X.cell? ⟨W.heap.size, 0, none⟩ = some (.string a.stream) ∧ X.cell? ⟨W.heap.size, 1, none⟩ = some (.int .i64 a.expect) ∧ X.cell? ⟨W.heap.size, 2, none⟩ = some (.int .i64 a.session) ∧ X.cell? ⟨W.heap.size, 3, none⟩ = some (.int .i64 a.seq) ∧ X.cell? ⟨W.heap.size, 4, none⟩ = some (.slice a1 a.events.length c1) ∧ X.cell? ⟨W.heap.size + 1, 0, none⟩ = some (.string b.stream) ∧ X.cell? ⟨W.heap.size + 1, 1, none⟩ = some (.int .i64 b.expect) ∧ X.cell? ⟨W.heap.size + 1, 2, none⟩ = some (.int .i64 b.session) ∧ X.cell? ⟨W.heap.size + 1, 3, none⟩ = some (.int .i64 b.seq) ∧ X.cell? ⟨W.heap.size + 1, 4, none⟩ = some (.slice a2 b.events.length c2) ∧ Below (W.heap.size + 2) ((W.alloc (.cells #[.string a.stream, .int .i64 a.expect, .int .i64 a.session, .int .i64 a.seq, .slice a1 a.events.length c1] 24)).alloc (.cells #[.string b.stream, .int .i64 b.expect, .int .i64 b.session, .int .i64 b.seq, .slice a2 b.events.length c2] 24)) X) 20 rfl (by kernel_rfl) hh2 (fun hH0 => ?_)
            refine wpAnyH_take (i := 0) (oi := ?oat0) (v := ?vat0) ?hiat0 (by kernel_rfl) (by kernel_rfl) (by kernel_rfl) ?hQat0 ?hyat0 hH0 ?_
            case hiat0 => simp only [List.getElem?_toArray, List.getElem?_cons_zero]; rfl
            case hQat0 => exact fun _ _ _ h => h
            case hyat0 => refine Or.inl ⟨by rfl, ?_⟩; intro W hSw; (try dsimp only at hSw); go_simp; try with_reducible rfl
            simp only [Act.put, List.setIfInBounds_toArray, List.set_cons_zero, List.set_cons_succ]
            refine wpAnyH_ready (rs := [1]) (by kernel_rfl) (by simp) ?_
            refine AllReadyH.cons (o := ?oat1) ?hoat1 (fun K' hK => ?_) AllReadyH.nil
            case hoat1 => simp only [List.getElem?_toArray, List.getElem?_cons_zero, List.getElem?_cons_succ]; rfl
            go_simp
            refine (CFa.out _ (sames_below hH0)).mono ?_
            rintro r w5 ⟨rfl, hbr⟩
            have hS5 := sames_keep hH0 hbr
            clear hbr
            refine hK.out _ _ hS5 (fun hS5' => ?_)
            clear hK K'
            (try simp only [Act.put, List.setIfInBounds_toArray, List.set_cons_zero, List.set_cons_succ])
            refine wpAnyH_take (i := 2) (oi := ?oat2) (v := ?vat2) ?hiat2 (by kernel_rfl) (by kernel_rfl) (by kernel_rfl) ?hQat2 ?hyat2 hS5 ?_
            case hiat2 => simp only [List.getElem?_toArray, List.getElem?_cons_zero, List.getElem?_cons_succ]; rfl
            case hQat2 => exact fun _ _ _ h => h
            case hyat2 => refine Or.inl ⟨by rfl, ?_⟩; intro W hSw; (try dsimp only at hSw); go_simp; try with_reducible rfl
            simp only [Act.put, List.setIfInBounds_toArray, List.set_cons_zero, List.set_cons_succ]
            refine wpAnyH_take (i := 3) (oi := ?oat3) (v := ?vat3) ?hiat3 (by kernel_rfl) (by kernel_rfl) (by kernel_rfl) ?hQat3 ?hyat3 hS5 ?_
            case hiat3 => simp only [List.getElem?_toArray, List.getElem?_cons_zero, List.getElem?_cons_succ]; rfl
            case hQat3 => exact fun _ _ _ h => h
            case hyat3 => refine Or.inl ⟨by rfl, ?_⟩; intro W hSw; (try dsimp only at hSw); go_simp; try with_reducible rfl
            simp only [Act.put, List.setIfInBounds_toArray, List.set_cons_zero, List.set_cons_succ]
            refine wpAnyH_take (i := 4) (oi := ?oat4) (v := undef) ?hiat4 (by kernel_rfl) (by kernel_rfl) (by kernel_rfl) ?hQat4 ?hyat4 hS5 ?_
            case hiat4 => simp only [List.getElem?_toArray, List.getElem?_cons_zero, List.getElem?_cons_succ]; rfl
            case hQat4 => exact fun _ _ _ h => h
            case hyat4 => exact Or.inr ⟨by rfl, rfl⟩
            simp only [Act.put, List.setIfInBounds_toArray, List.set_cons_zero, List.set_cons_succ]
            refine wpAnyH_take (i := 5) (oi := ?oat5) (v := undef) ?hiat5 (by kernel_rfl) (by kernel_rfl) (by kernel_rfl) ?hQat5 ?hyat5 hS5 ?_
            case hiat5 => simp only [List.getElem?_toArray, List.getElem?_cons_zero, List.getElem?_cons_succ]; rfl
            case hQat5 => exact fun _ _ _ h => h
            case hyat5 => exact Or.inr ⟨by rfl, rfl⟩
            simp only [Act.put, List.setIfInBounds_toArray, List.set_cons_zero, List.set_cons_succ]
            refine wpAnyH_take (i := 6) (oi := ?oat6) (v := undef) ?hiat6 (by kernel_rfl) (by kernel_rfl) (by kernel_rfl) ?hQat6 ?hyat6 hS5 ?_
            case hiat6 => simp only [List.getElem?_toArray, List.getElem?_cons_zero, List.getElem?_cons_succ]; rfl
            case hQat6 => exact fun _ _ _ h => h
            case hyat6 => exact Or.inr ⟨by rfl, rfl⟩
            simp only [Act.put, List.setIfInBounds_toArray, List.set_cons_zero, List.set_cons_succ]
            refine wpAnyH_take (i := 7) (oi := ?oat7) (v := ?vat7) ?hiat7 (by kernel_rfl) (by kernel_rfl) (by kernel_rfl) ?hQat7 ?hyat7 hS5 ?_
            case hiat7 => simp only [List.getElem?_toArray, List.getElem?_cons_zero, List.getElem?_cons_succ]; rfl
            case hQat7 => exact fun _ _ _ h => h
            case hyat7 => refine Or.inl ⟨by rfl, ?_⟩; intro W hSw; (try dsimp only at hSw); go_simp; try with_reducible rfl
            simp only [Act.put, List.setIfInBounds_toArray, List.set_cons_zero, List.set_cons_succ]
            refine wpAnyH_take (i := 8) (oi := ?oat8) (v := ?vat8) ?hiat8 (by kernel_rfl) (by kernel_rfl) (by kernel_rfl) ?hQat8 ?hyat8 hS5 ?_
            case hiat8 => simp only [List.getElem?_toArray, List.getElem?_cons_zero, List.getElem?_cons_succ]; rfl
            case hQat8 => exact fun _ _ _ h => h
            case hyat8 => refine Or.inl ⟨by rfl, ?_⟩; intro W hSw; (try dsimp only at hSw); go_simp; try with_reducible rfl
            simp only [Act.put, List.setIfInBounds_toArray, List.set_cons_zero, List.set_cons_succ]
            refine wpAnyH_take (i := 9) (oi := ?oat9) (v := undef) ?hiat9 (by kernel_rfl) (by kernel_rfl) (by kernel_rfl) ?hQat9 ?hyat9 hS5 ?_
            case hiat9 => simp only [List.getElem?_toArray, List.getElem?_cons_zero, List.getElem?_cons_succ]; rfl
            case hQat9 => exact fun _ _ _ h => h
            case hyat9 => exact Or.inr ⟨by rfl, rfl⟩
            simp only [Act.put, List.setIfInBounds_toArray, List.set_cons_zero, List.set_cons_succ]
            refine wpAnyH_take (i := 10) (oi := ?oat10) (v := undef) ?hiat10 (by kernel_rfl) (by kernel_rfl) (by kernel_rfl) ?hQat10 ?hyat10 hS5 ?_
            case hiat10 => simp only [List.getElem?_toArray, List.getElem?_cons_zero, List.getElem?_cons_succ]; rfl
            case hQat10 => exact fun _ _ _ h => h
            case hyat10 => exact Or.inr ⟨by rfl, rfl⟩
            simp only [Act.put, List.setIfInBounds_toArray, List.set_cons_zero, List.set_cons_succ]
            refine wpAnyH_take (i := 11) (oi := ?oat11) (v := undef) ?hiat11 (by kernel_rfl) (by kernel_rfl) (by kernel_rfl) ?hQat11 ?hyat11 hS5 ?_
            case hiat11 => simp only [List.getElem?_toArray, List.getElem?_cons_zero, List.getElem?_cons_succ]; rfl
            case hQat11 => exact fun _ _ _ h => h
            case hyat11 => exact Or.inr ⟨by rfl, rfl⟩
            simp only [Act.put, List.setIfInBounds_toArray, List.set_cons_zero, List.set_cons_succ]
            refine wpAnyH_take (i := 12) (oi := ?oat12) (v := undef) ?hiat12 (by kernel_rfl) (by kernel_rfl) (by kernel_rfl) ?hQat12 ?hyat12 hS5 ?_
            case hiat12 => simp only [List.getElem?_toArray, List.getElem?_cons_zero, List.getElem?_cons_succ]; rfl
            case hQat12 => exact fun _ _ _ h => h
            case hyat12 => exact Or.inr ⟨by rfl, rfl⟩
            simp only [Act.put, List.setIfInBounds_toArray, List.set_cons_zero, List.set_cons_succ]
            refine wpAnyH_take (i := 13) (oi := ?oat13) (v := undef) ?hiat13 (by kernel_rfl) (by kernel_rfl) (by kernel_rfl) ?hQat13 ?hyat13 hS5 ?_
            case hiat13 => simp only [List.getElem?_toArray, List.getElem?_cons_zero, List.getElem?_cons_succ]; rfl
            case hQat13 => exact fun _ _ _ h => h
            case hyat13 => exact Or.inr ⟨by rfl, rfl⟩
            simp only [Act.put, List.setIfInBounds_toArray, List.set_cons_zero, List.set_cons_succ]
            refine wpAnyH_take (i := 14) (oi := ?oat14) (v := undef) ?hiat14 (by kernel_rfl) (by kernel_rfl) (by kernel_rfl) ?hQat14 ?hyat14 hS5 ?_
            case hiat14 => simp only [List.getElem?_toArray, List.getElem?_cons_zero, List.getElem?_cons_succ]; rfl
            case hQat14 => exact fun _ _ _ h => h
            case hyat14 => exact Or.inr ⟨by rfl, rfl⟩
            simp only [Act.put, List.setIfInBounds_toArray, List.set_cons_zero, List.set_cons_succ]
            refine wpAnyH_take (i := 15) (oi := ?oat15) (v := undef) ?hiat15 (by kernel_rfl) (by kernel_rfl) (by kernel_rfl) ?hQat15 ?hyat15 hS5 ?_
            case hiat15 => simp only [List.getElem?_toArray, List.getElem?_cons_zero, List.getElem?_cons_succ]; rfl
            case hQat15 => exact fun _ _ _ h => h
            case hyat15 => exact Or.inr ⟨by rfl, rfl⟩
            simp only [Act.put, List.setIfInBounds_toArray, List.set_cons_zero, List.set_cons_succ]
            refine wpAnyH_take (i := 16) (oi := ?oat16) (v := undef) ?hiat16 (by kernel_rfl) (by kernel_rfl) (by kernel_rfl) ?hQat16 ?hyat16 hS5 ?_
            case hiat16 => simp only [List.getElem?_toArray, List.getElem?_cons_zero, List.getElem?_cons_succ]; rfl
            case hQat16 => exact fun _ _ _ h => h
            case hyat16 => exact Or.inr ⟨by rfl, rfl⟩
            simp only [Act.put, List.setIfInBounds_toArray, List.set_cons_zero, List.set_cons_succ]
            refine wpAnyH_take (i := 17) (oi := ?oat17) (v := undef) ?hiat17 (by kernel_rfl) (by kernel_rfl) (by kernel_rfl) ?hQat17 ?hyat17 hS5 ?_
            case hiat17 => simp only [List.getElem?_toArray, List.getElem?_cons_zero, List.getElem?_cons_succ]; rfl
            case hQat17 => exact fun _ _ _ h => h
            case hyat17 => exact Or.inr ⟨by rfl, rfl⟩
            simp only [Act.put, List.setIfInBounds_toArray, List.set_cons_zero, List.set_cons_succ]
            refine wpAnyH_take (i := 18) (oi := ?oat18) (v := ?vat18) ?hiat18 (by kernel_rfl) (by kernel_rfl) (by kernel_rfl) ?hQat18 ?hyat18 hS5 ?_
            case hiat18 => simp only [List.getElem?_toArray, List.getElem?_cons_zero, List.getElem?_cons_succ]; rfl
            case hQat18 => exact fun _ _ _ h => h
            case hyat18 => refine Or.inl ⟨by rfl, ?_⟩; intro W hSw; (try dsimp only at hSw); go_simp; try with_reducible rfl
            simp only [Act.put, List.setIfInBounds_toArray, List.set_cons_zero, List.set_cons_succ]
            refine wpAnyH_take (i := 19) (oi := ?oat19) (v := ?vat19) ?hiat19 (by kernel_rfl) (by kernel_rfl) (by kernel_rfl) ?hQat19 ?hyat19 hS5 ?_
            case hiat19 => simp only [List.getElem?_toArray, List.getElem?_cons_zero, List.getElem?_cons_succ]; rfl
            case hQat19 => exact fun _ _ _ h => h
            case hyat19 => refine Or.inl ⟨by rfl, ?_⟩; intro W hSw; (try dsimp only at hSw); go_simp; try with_reducible rfl
            simp only [Act.put, List.setIfInBounds_toArray, List.set_cons_zero, List.set_cons_succ]
            refine wpAnyH_done (by kernel_rfl) ?_ _
            go_wp2_with fail
            go_ret
            exact ⟨rfl, bz_below (sames_low hS5)⟩
end Go.Proofs.YtcgolhaiciffeaaDoor
