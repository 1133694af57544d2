/-
  The walk of view.With. Printed by gen_vwwith.py of this claim's writer.
-/
import Derived.Test.YtigojackdkaanaaVwLane
import Derived.IntWalk
namespace Go.Proofs.Ytigojackdkaanaa
open Go.RowKit

set_option maxRecDepth 100000 in
set_option maxHeartbeats 3200000 in
theorem with_fresh (B : Nat) (v : Value) (V : VW) (x b : Int) (A : VW) (c : Nat) (hA : withV V x b = (A, c)) (w : World) (h : IsView B w v V) (hB : B ≤ w.heap.size) (hsm : SmallV V) (hx64 : I64 x) (hb64 : I64 b) :
    Calls Try.prog 16 #[v, .int .i64 x, .int .i64 b] w fun e w' => ∃ va, e = .returned (.tuple #[va, .int .i64 c]) ∧ IsView w'.heap.size w' va A ∧ Below w.heap.size w w' ∧ FreshV w.heap.size va := by
  have hv := Lib.hid h
  obtain ⟨he, cc, s, bt, rfl, h1, h2, h3⟩ := h
  have H1 := Lib.hid h1
  have H2 := Lib.hid h2
  have H3 := Lib.hid h3
  obtain ⟨a1, k1, rfl⟩ := h1.form
  obtain ⟨a2, k2, rfl⟩ := h2.form
  obtain ⟨a3, k3, rfl⟩ := h3.form
  have hs1 := hsm.1
  have hC1 := fun (p : Int) (hp : placeV V x = p) (w1 : World) (hb1 : Below w.heap.size w w1) => place_any B _ V x p hp w1 (hv.out.keep hb1 hB) (Nat.le_trans hB hb1.size) hsm
  have C2 := Lib.hid (fun (b' : Bool) (hb : b' = rightB V) (w1 : World) (hb1 : Below w.heap.size w w1) => right_any B _ V w1 (hv.out.keep hb1 hB) (Nat.le_trans hB hb1.size) hsm b' hb)
  clear h1 h2 h3
  by_cases c1 : rightB V = false ∨ x < 1 ∨ 100 < x ∨ b < 0 ∨ 274877906944 < b
  · obtain ⟨rfl, rfl⟩ : zeroV = A ∧ 1 = c := by
      rw [withV, if_pos c1] at hA
      injection hA with e1 e2
      exact ⟨e1, e2⟩
    clear hA hC1
    cases hr : rightB V with
    | false =>
      have C2' := Lib.hid (C2.out false hr.symm)
      clear c1 hr C2
      go_enter Try.func16, Try.ntmps16
      go_wp2_with fail
      refine (C2'.out _ ?_).mono ?_
      · exact below_two _ _
      rintro e w1 ⟨rfl, hb1⟩
      have hb12 : Below (w.heap.size + 2) _ w1 := hb1.mono (by simp)
      obtain ⟨y0, y1, y2, y3⟩ := box_cells hb12
      obtain ⟨z0, z1, z2, z3⟩ := res_cells hb12
      have f0 := res_frozen hb12 0
      have f1 := res_frozen hb12 1
      have f2 := res_frozen hb12 2
      have f3 := res_frozen hb12 3
      go_wp2_with fail
      all_goals
        (try simp only [Exit.inBlock, Exit.then])
        first
          | (exfalso; omega)
          | (refine bodyPost_ret (ret_cell4 rfl _ _ _ _ _ _ _ _ _ _ _ _ _ (by rfl) (res_block hb12) Try.underlying24 rfl vinfo) rfl ?_
             refine ⟨_, rfl, view_nil _ _, below_set4 (below_two' hb12) _ (by omega) _ _ _ _, freshV_nil _⟩)
    | true =>
      have C2' := Lib.hid (C2.out true hr.symm)
      rw [hr] at c1
      have c1' : x < 1 ∨ 100 < x ∨ b < 0 ∨ 274877906944 < b := by rcases c1 with h | h; cases h; exact h
      clear c1 hr C2
      by_cases d1 : x < 1
      · go_enter Try.func16, Try.ntmps16
        go_wp2_with fail
        refine (C2'.out _ ?_).mono ?_
        · exact below_two _ _
        rintro e w1 ⟨rfl, hb1⟩
        have hb12 : Below (w.heap.size + 2) _ w1 := hb1.mono (by simp)
        obtain ⟨y0, y1, y2, y3⟩ := box_cells hb12
        obtain ⟨z0, z1, z2, z3⟩ := res_cells hb12
        have f0 := res_frozen hb12 0
        have f1 := res_frozen hb12 1
        have f2 := res_frozen hb12 2
        have f3 := res_frozen hb12 3
        go_wp2_with fail
        all_goals
          (try simp only [Exit.inBlock, Exit.then])
          first
            | (exfalso; omega)
            | (refine bodyPost_ret (ret_cell4 rfl _ _ _ _ _ _ _ _ _ _ _ _ _ (by rfl) (res_block hb12) Try.underlying24 rfl vinfo) rfl ?_
               refine ⟨_, rfl, view_nil _ _, below_set4 (below_two' hb12) _ (by omega) _ _ _ _, freshV_nil _⟩)
      · by_cases d2 : 100 < x
        · go_enter Try.func16, Try.ntmps16
          go_wp2_with fail
          refine (C2'.out _ ?_).mono ?_
          · exact below_two _ _
          rintro e w1 ⟨rfl, hb1⟩
          have hb12 : Below (w.heap.size + 2) _ w1 := hb1.mono (by simp)
          obtain ⟨y0, y1, y2, y3⟩ := box_cells hb12
          obtain ⟨z0, z1, z2, z3⟩ := res_cells hb12
          have f0 := res_frozen hb12 0
          have f1 := res_frozen hb12 1
          have f2 := res_frozen hb12 2
          have f3 := res_frozen hb12 3
          go_wp2_with fail
          all_goals
            (try simp only [Exit.inBlock, Exit.then])
            first
              | (exfalso; omega)
              | (refine bodyPost_ret (ret_cell4 rfl _ _ _ _ _ _ _ _ _ _ _ _ _ (by rfl) (res_block hb12) Try.underlying24 rfl vinfo) rfl ?_
                 refine ⟨_, rfl, view_nil _ _, below_set4 (below_two' hb12) _ (by omega) _ _ _ _, freshV_nil _⟩)
        · by_cases d3 : b < 0
          · go_enter Try.func16, Try.ntmps16
            go_wp2_with fail
            refine (C2'.out _ ?_).mono ?_
            · exact below_two _ _
            rintro e w1 ⟨rfl, hb1⟩
            have hb12 : Below (w.heap.size + 2) _ w1 := hb1.mono (by simp)
            obtain ⟨y0, y1, y2, y3⟩ := box_cells hb12
            obtain ⟨z0, z1, z2, z3⟩ := res_cells hb12
            have f0 := res_frozen hb12 0
            have f1 := res_frozen hb12 1
            have f2 := res_frozen hb12 2
            have f3 := res_frozen hb12 3
            go_wp2_with fail
            all_goals
              (try simp only [Exit.inBlock, Exit.then])
              first
                | (exfalso; omega)
                | (refine bodyPost_ret (ret_cell4 rfl _ _ _ _ _ _ _ _ _ _ _ _ _ (by rfl) (res_block hb12) Try.underlying24 rfl vinfo) rfl ?_
                   refine ⟨_, rfl, view_nil _ _, below_set4 (below_two' hb12) _ (by omega) _ _ _ _, freshV_nil _⟩)
          · have d4 : 274877906944 < b := by omega
            clear c1'
            go_enter Try.func16, Try.ntmps16
            go_wp2_with fail
            refine (C2'.out _ ?_).mono ?_
            · exact below_two _ _
            rintro e w1 ⟨rfl, hb1⟩
            have hb12 : Below (w.heap.size + 2) _ w1 := hb1.mono (by simp)
            obtain ⟨y0, y1, y2, y3⟩ := box_cells hb12
            obtain ⟨z0, z1, z2, z3⟩ := res_cells hb12
            have f0 := res_frozen hb12 0
            have f1 := res_frozen hb12 1
            have f2 := res_frozen hb12 2
            have f3 := res_frozen hb12 3
            go_wp2_with fail
            all_goals
              (try simp only [Exit.inBlock, Exit.then])
              first
                | (exfalso; omega)
                | (refine bodyPost_ret (ret_cell4 rfl _ _ _ _ _ _ _ _ _ _ _ _ _ (by rfl) (res_block hb12) Try.underlying24 rfl vinfo) rfl ?_
                   refine ⟨_, rfl, view_nil _ _, below_set4 (below_two' hb12) _ (by omega) _ _ _ _, freshV_nil _⟩)
  · have hr : rightB V = true := by
      cases hr : rightB V with
      | true => rfl
      | false => exact absurd (.inl hr) c1
    have hR := (rightB_iff V).1 hr
    have d1 : ¬ x < 1 := fun h => c1 (.inr (.inl h))
    have d2 : ¬ 100 < x := fun h => c1 (.inr (.inr (.inl h)))
    have d3 : ¬ b < 0 := fun h => c1 (.inr (.inr (.inr (.inl h))))
    have d4 : ¬ 274877906944 < b := fun h => c1 (.inr (.inr (.inr (.inr h))))
    have C2' := Lib.hid (C2.out true hr.symm)
    rw [withV, if_neg c1] at hA
    clear c1 C2 hr
    rcases placeV_spec V x with ⟨hp, hno⟩ | ⟨_, i, hi, hp, _⟩
    · have C1 := Lib.hid (hC1 _ hp)
      have hno' := Lib.hid (hno hR)
      rw [if_neg (by omega)] at hA
      clear hC1 hp hno
      by_cases hn6 : V.chain.length = 6 ∨ V.epoch = 274877906944
      · obtain ⟨rfl, rfl⟩ : zeroV = A ∧ 4 = c := by
          rw [if_pos hn6] at hA
          injection hA with e1 e2
          exact ⟨e1, e2⟩
        clear hA
        by_cases hn7 : V.chain.length = 6
        · have g2 : ((V.chain.length : Int) == 6) = true := by rw [hn7]; rfl
          clear hn6 hn7
          go_enter Try.func16, Try.ntmps16
          go_wp2_with fail
          refine (C2'.out _ ?_).mono ?_
          · exact below_two _ _
          rintro e w1 ⟨rfl, hb1⟩
          have hb12 : Below (w.heap.size + 2) _ w1 := hb1.mono (by simp)
          obtain ⟨y0, y1, y2, y3⟩ := box_cells hb12
          obtain ⟨z0, z1, z2, z3⟩ := res_cells hb12
          have f0 := res_frozen hb12 0
          have f1 := res_frozen hb12 1
          have f2 := res_frozen hb12 2
          have f3 := res_frozen hb12 3
          go_wp2_with fail
          refine (C1.out _ (below_two' hb12)).mono ?_
          rintro e w2 ⟨rfl, hb2⟩
          replace hb12 := below_more hb12 (size_two hb12) hb2
          obtain ⟨y0, y1, y2, y3⟩ := box_cells hb12
          obtain ⟨z0, z1, z2, z3⟩ := res_cells hb12
          have f0 := res_frozen hb12 0
          have f1 := res_frozen hb12 1
          have f2 := res_frozen hb12 2
          have f3 := res_frozen hb12 3
          go_wp2_with fail
          all_goals
            (try simp only [Exit.inBlock, Exit.then])
            first
              | (exfalso; omega)
              | (refine bodyPost_ret (ret_cell4 rfl _ _ _ _ _ _ _ _ _ _ _ _ _ (by rfl) (res_block hb12) Try.underlying24 rfl vinfo) rfl ?_
                 refine ⟨_, rfl, view_nil _ _, below_set4 (below_two' hb12) _ (by omega) _ _ _ _, freshV_nil _⟩)
        · have g2 : ((V.chain.length : Int) == 6) = false := by rw [beq_eq_false_iff_ne]; omega
          have g3 : (V.epoch == 274877906944) = true := by rw [beq_iff_eq]; omega
          clear hn6
          go_enter Try.func16, Try.ntmps16
          go_wp2_with fail
          refine (C2'.out _ ?_).mono ?_
          · exact below_two _ _
          rintro e w1 ⟨rfl, hb1⟩
          have hb12 : Below (w.heap.size + 2) _ w1 := hb1.mono (by simp)
          obtain ⟨y0, y1, y2, y3⟩ := box_cells hb12
          obtain ⟨z0, z1, z2, z3⟩ := res_cells hb12
          have f0 := res_frozen hb12 0
          have f1 := res_frozen hb12 1
          have f2 := res_frozen hb12 2
          have f3 := res_frozen hb12 3
          go_wp2_with fail
          refine (C1.out _ (below_two' hb12)).mono ?_
          rintro e w2 ⟨rfl, hb2⟩
          replace hb12 := below_more hb12 (size_two hb12) hb2
          obtain ⟨y0, y1, y2, y3⟩ := box_cells hb12
          obtain ⟨z0, z1, z2, z3⟩ := res_cells hb12
          have f0 := res_frozen hb12 0
          have f1 := res_frozen hb12 1
          have f2 := res_frozen hb12 2
          have f3 := res_frozen hb12 3
          go_wp2_with fail
          all_goals
            (try simp only [Exit.inBlock, Exit.then])
            first
              | (exfalso; omega)
              | (refine bodyPost_ret (ret_cell4 rfl _ _ _ _ _ _ _ _ _ _ _ _ _ (by rfl) (res_block hb12) Try.underlying24 rfl vinfo) rfl ?_
                 refine ⟨_, rfl, view_nil _ _, below_set4 (below_two' hb12) _ (by omega) _ _ _ _, freshV_nil _⟩)
      · have g2 : ((V.chain.length : Int) == 6) = false := by rw [beq_eq_false_iff_ne]; omega
        have g3 : (V.epoch == 274877906944) = false := by rw [beq_eq_false_iff_ne]; omega
        have g4 : 1 ≤ V.epoch := hR.e1
        have g5 : V.epoch ≤ 274877906944 := hR.e2
        have gw : IntKind.i64.wrap (V.epoch + 1) = V.epoch + 1 := IntWalk.i64_in _ (by omega)
        obtain ⟨rfl, rfl⟩ : ⟨V.epoch + 1, V.chain ++ [x], V.since ++ [V.epoch + 1], V.boot ++ [b]⟩ = A ∧ 0 = c := by
          rw [if_neg hn6] at hA
          injection hA with e1 e2
          exact ⟨e1, e2⟩
        clear hA
        obtain ⟨i0, hi0, hz0, hz1, hz2⟩ := info_parts iinfo
        have C3 := Lib.hid (fun (w1 : World) (hb1 : Below w.heap.size w w1) => clone_any B _ V.chain w1 (H1.out.keep hb1 hB) (Nat.le_trans hB hb1.size) (by omega))
        have C4 := Lib.hid (fun (w1 : World) (hb1 : Below w.heap.size w w1) => clone_any B _ V.since w1 (H2.out.keep hb1 hB) (Nat.le_trans hB hb1.size) (by have := hR.s; omega))
        have C5 := Lib.hid (fun (w1 : World) (hb1 : Below w.heap.size w w1) => clone_any B _ V.boot w1 (H3.out.keep hb1 hB) (Nat.le_trans hB hb1.size) (by have := hR.b; omega))
        go_enter Try.func16, Try.ntmps16
        go_wp2_with fail
        refine (C2'.out _ ?_).mono ?_
        · exact below_two _ _
        rintro e w1 ⟨rfl, hb1⟩
        have hb12 : Below (w.heap.size + 2) _ w1 := hb1.mono (by simp)
        obtain ⟨y0, y1, y2, y3⟩ := box_cells hb12
        obtain ⟨z0, z1, z2, z3⟩ := res_cells hb12
        have f0 := res_frozen hb12 0
        have f1 := res_frozen hb12 1
        have f2 := res_frozen hb12 2
        have f3 := res_frozen hb12 3
        go_wp2_with fail
        refine (C1.out _ (below_two' hb12)).mono ?_
        rintro e w2 ⟨rfl, hb2⟩
        replace hb12 := below_more hb12 (size_two hb12) hb2
        obtain ⟨y0, y1, y2, y3⟩ := box_cells hb12
        obtain ⟨z0, z1, z2, z3⟩ := res_cells hb12
        have f0 := res_frozen hb12 0
        have f1 := res_frozen hb12 1
        have f2 := res_frozen hb12 2
        have f3 := res_frozen hb12 3
        go_wp2_with fail
        have hh := held_of hb12.drew
        clear f0 f1 f2 f3 z0 z1 z2 z3
        refine region_begin (S := fun W => W.cell? ⟨w.heap.size, 0, none⟩ = some (.int .i64 V.epoch) ∧ W.cell? ⟨w.heap.size, 1, none⟩ = some (.slice a1 V.chain.length k1) ∧ W.cell? ⟨w.heap.size, 2, none⟩ = some (.slice a2 V.since.length k2) ∧ W.cell? ⟨w.heap.size, 3, none⟩ = some (.slice a3 V.boot.length k3) ∧ W.cell? ⟨w.heap.size + 1, 0, none⟩ = some (cellOr W ⟨w.heap.size + 1, 0, none⟩) ∧ W.cell? ⟨w.heap.size + 1, 1, none⟩ = some (cellOr W ⟨w.heap.size + 1, 1, none⟩) ∧ W.cell? ⟨w.heap.size + 1, 2, none⟩ = some (cellOr W ⟨w.heap.size + 1, 2, none⟩) ∧ W.cell? ⟨w.heap.size + 1, 3, none⟩ = some (cellOr W ⟨w.heap.size + 1, 3, none⟩) ∧ W.frozen? ⟨w.heap.size + 1, 0, none⟩ = false ∧ W.frozen? ⟨w.heap.size + 1, 1, none⟩ = false ∧ W.frozen? ⟨w.heap.size + 1, 2, none⟩ = false ∧ W.frozen? ⟨w.heap.size + 1, 3, none⟩ = false ∧ w.heap.size + 2 ≤ W.heap.size ∧ Below (w.heap.size + 1) (w.alloc (.cells #[.int .i64 V.epoch, .slice a1 V.chain.length k1, .slice a2 V.since.length k2, .slice a3 V.boot.length k3] 24)) W) 26 rfl (by kernel_rfl) hh (fun hHeld => ?_)
        refine wpAnyH_take (i := 0) (oi := ?o0) (v := ?v0) ?hi0 (by kernel_rfl) (by kernel_rfl) (by kernel_rfl) ?hQ0 ?hy0 hHeld ?rest0
        case hi0 => simp only [List.getElem?_toArray, List.getElem?_cons_zero]; rfl
        case hQ0 => exact fun _ _ _ h => h
        case hy0 => refine Or.inl ⟨by rfl, ?_⟩; intro W hSw; (try dsimp only at hSw); go_simp; try with_reducible rfl
        simp only [Act.put, List.setIfInBounds_toArray, List.set_cons_zero, List.set_cons_succ]
        refine wpAnyH_take (i := 1) (oi := ?o1) (v := ?v1) ?hi1 (by kernel_rfl) (by kernel_rfl) (by kernel_rfl) ?hQ1 ?hy1 hHeld ?rest1
        case hi1 => simp only [List.getElem?_toArray, List.getElem?_cons_zero, List.getElem?_cons_succ]; rfl
        case hQ1 => exact fun _ _ _ h => h
        case hy1 => refine Or.inl ⟨by rfl, ?_⟩; intro W hSw; (try dsimp only at hSw); go_simp; try with_reducible rfl
        simp only [Act.put, List.setIfInBounds_toArray, List.set_cons_zero, List.set_cons_succ]
        refine wpAnyH_take (i := 2) (oi := ?o2) (v := ?v2) ?hi2 (by kernel_rfl) (by kernel_rfl) (by kernel_rfl) ?hQ2 ?hy2 hHeld ?rest2
        case hi2 => simp only [List.getElem?_toArray, List.getElem?_cons_zero, List.getElem?_cons_succ]; rfl
        case hQ2 => exact fun _ _ _ h => h
        case hy2 => refine Or.inl ⟨by rfl, ?_⟩; intro W hSw; (try dsimp only at hSw); go_simp; try with_reducible rfl
        simp only [Act.put, List.setIfInBounds_toArray, List.set_cons_zero, List.set_cons_succ]
        refine wpAnyH_take (i := 3) (oi := ?o3) (v := ?v3) ?hi3 (by kernel_rfl) (by kernel_rfl) (by kernel_rfl) ?hQ3 ?hy3 hHeld ?rest3
        case hi3 => simp only [List.getElem?_toArray, List.getElem?_cons_zero, List.getElem?_cons_succ]; rfl
        case hQ3 => exact fun _ _ _ h => h
        case hy3 => refine Or.inl ⟨by rfl, ?_⟩; intro W hSw; (try dsimp only at hSw); go_simp; try with_reducible rfl
        simp only [Act.put, List.setIfInBounds_toArray, List.set_cons_zero, List.set_cons_succ]
        refine wpAnyH_take (i := 4) (oi := ?o4) (v := ?v4) ?hi4 (by kernel_rfl) (by kernel_rfl) (by kernel_rfl) ?hQ4 ?hy4 hHeld ?rest4
        case hi4 => simp only [List.getElem?_toArray, List.getElem?_cons_zero, List.getElem?_cons_succ]; rfl
        case hQ4 => exact fun _ _ _ h => h
        case hy4 => refine Or.inl ⟨by rfl, ?_⟩; intro W hSw; (try dsimp only at hSw); go_simp; try with_reducible rfl
        simp only [Act.put, List.setIfInBounds_toArray, List.set_cons_zero, List.set_cons_succ]
        refine wpAnyH_take (i := 6) (oi := ?o6) (v := ?v6) ?hi6 (by kernel_rfl) (by kernel_rfl) (by kernel_rfl) ?hQ6 ?hy6 hHeld ?rest6
        case hi6 => simp only [List.getElem?_toArray, List.getElem?_cons_zero, List.getElem?_cons_succ]; rfl
        case hQ6 => exact fun _ _ _ h => h
        case hy6 => refine Or.inl ⟨by rfl, ?_⟩; intro W hSw; (try dsimp only at hSw); go_simp; try with_reducible rfl
        simp only [Act.put, List.setIfInBounds_toArray, List.set_cons_zero, List.set_cons_succ]
        refine wpAnyH_take (i := 9) (oi := ?o9) (v := ?v9) ?hi9 (by kernel_rfl) (by kernel_rfl) (by kernel_rfl) ?hQ9 ?hy9 hHeld ?rest9
        case hi9 => simp only [List.getElem?_toArray, List.getElem?_cons_zero, List.getElem?_cons_succ]; rfl
        case hQ9 => exact fun _ _ _ h => h
        case hy9 => refine Or.inl ⟨by rfl, ?_⟩; intro W hSw; (try dsimp only at hSw); go_simp; try with_reducible rfl
        simp only [Act.put, List.setIfInBounds_toArray, List.set_cons_zero, List.set_cons_succ]
        refine wpAnyH_take (i := 10) (oi := ?o10) (v := ?v10) ?hi10 (by kernel_rfl) (by kernel_rfl) (by kernel_rfl) ?hQ10 ?hy10 hHeld ?rest10
        case hi10 => simp only [List.getElem?_toArray, List.getElem?_cons_zero, List.getElem?_cons_succ]; rfl
        case hQ10 => exact fun _ _ _ h => h
        case hy10 => refine Or.inl ⟨by rfl, ?_⟩; intro W hSw; (try dsimp only at hSw); go_simp; try with_reducible rfl
        simp only [Act.put, List.setIfInBounds_toArray, List.set_cons_zero, List.set_cons_succ]
        refine wpAnyH_take (i := 12) (oi := ?o12) (v := ?v12) ?hi12 (by kernel_rfl) (by kernel_rfl) (by kernel_rfl) ?hQ12 ?hy12 hHeld ?rest12
        case hi12 => simp only [List.getElem?_toArray, List.getElem?_cons_zero, List.getElem?_cons_succ]; rfl
        case hQ12 => exact fun _ _ _ h => h
        case hy12 => refine Or.inl ⟨by rfl, ?_⟩; intro W hSw; (try dsimp only at hSw); go_simp; try with_reducible rfl
        simp only [Act.put, List.setIfInBounds_toArray, List.set_cons_zero, List.set_cons_succ]
        refine wpAnyH_take (i := 13) (oi := ?o13) (v := ?v13) ?hi13 (by kernel_rfl) (by kernel_rfl) (by kernel_rfl) ?hQ13 ?hy13 hHeld ?rest13
        case hi13 => simp only [List.getElem?_toArray, List.getElem?_cons_zero, List.getElem?_cons_succ]; rfl
        case hQ13 => exact fun _ _ _ h => h
        case hy13 => refine Or.inl ⟨by rfl, ?_⟩; intro W hSw; (try dsimp only at hSw); go_simp; try with_reducible rfl
        simp only [Act.put, List.setIfInBounds_toArray, List.set_cons_zero, List.set_cons_succ]
        refine wpAnyH_take (i := 14) (oi := ?o14) (v := ?v14) ?hi14 (by kernel_rfl) (by kernel_rfl) (by kernel_rfl) ?hQ14 ?hy14 hHeld ?rest14
        case hi14 => simp only [List.getElem?_toArray, List.getElem?_cons_zero, List.getElem?_cons_succ]; rfl
        case hQ14 => exact fun _ _ _ h => h
        case hy14 => refine Or.inl ⟨by rfl, ?_⟩; intro W hSw; (try dsimp only at hSw); go_simp; try with_reducible rfl
        simp only [Act.put, List.setIfInBounds_toArray, List.set_cons_zero, List.set_cons_succ]
        refine wpAnyH_take (i := 17) (oi := ?o17) (v := ?v17) ?hi17 (by kernel_rfl) (by kernel_rfl) (by kernel_rfl) ?hQ17 ?hy17 hHeld ?rest17
        case hi17 => simp only [List.getElem?_toArray, List.getElem?_cons_zero, List.getElem?_cons_succ]; rfl
        case hQ17 => exact fun _ _ _ h => h
        case hy17 => refine Or.inl ⟨by rfl, ?_⟩; intro W hSw; (try dsimp only at hSw); go_simp; try with_reducible rfl
        simp only [Act.put, List.setIfInBounds_toArray, List.set_cons_zero, List.set_cons_succ]
        refine wpAnyH_take (i := 18) (oi := ?o18) (v := ?v18) ?hi18 (by kernel_rfl) (by kernel_rfl) (by kernel_rfl) ?hQ18 ?hy18 hHeld ?rest18
        case hi18 => simp only [List.getElem?_toArray, List.getElem?_cons_zero, List.getElem?_cons_succ]; rfl
        case hQ18 => exact fun _ _ _ h => h
        case hy18 => refine Or.inl ⟨by rfl, ?_⟩; intro W hSw; (try dsimp only at hSw); go_simp; try with_reducible rfl
        simp only [Act.put, List.setIfInBounds_toArray, List.set_cons_zero, List.set_cons_succ]
        refine wpAnyH_take (i := 20) (oi := ?o20) (v := ?v20) ?hi20 (by kernel_rfl) (by kernel_rfl) (by kernel_rfl) ?hQ20 ?hy20 hHeld ?rest20
        case hi20 => simp only [List.getElem?_toArray, List.getElem?_cons_zero, List.getElem?_cons_succ]; rfl
        case hQ20 => exact fun _ _ _ h => h
        case hy20 => refine Or.inl ⟨by rfl, ?_⟩; intro W hSw; (try dsimp only at hSw); go_simp; try with_reducible rfl
        simp only [Act.put, List.setIfInBounds_toArray, List.set_cons_zero, List.set_cons_succ]
        have hB00 : w.heap.size + 2 ≤ w2.drew.heap.size := size_two hb12.drew
        obtain ⟨B0, hB0⟩ : ∃ n, w2.drew.heap.size = n := ⟨_, rfl⟩
        rw [hB0] at hB00
        have hl1 : V.chain.length ≤ 6 := hR.n2
        have hl2 : V.since.length ≤ 6 := by have := hR.s; omega
        have hl3 : V.boot.length ≤ 6 := by have := hR.b; omega
        refine wpAnyH_inv (fun listed a W => ∃ (p : Nat) (q1 q2 q3 : Bool) (pv x51 x53 x54 x57 x61 x62 x65 x67 x68 : Value), listed = #[true, true, true, true, true, decide (1 ≤ p), true, q1, decide (2 ≤ p), true, true, decide (3 ≤ p), true, true, true, q2, decide (4 ≤ p), true, true, decide (5 ≤ p), true, q3, decide (6 ≤ p), false, false, false] ∧ a = { tmps := #[Value.agg #[.int .i64 V.epoch, .slice a1 V.chain.length k1, .slice a2 V.since.length k2, .slice a3 V.boot.length k3], Value.int .i64 x, Value.int .i64 b, Value.pointer (some ⟨w.heap.size, 0, none⟩), undef, undef, Value.pointer (some ⟨w.heap.size + 1, 0, none⟩), Value.int .i64 0, Value.bool (decide (x < 1) || decide (100 < x) || decide (b < 0) || decide (274877906944 < b)), Value.agg #[.int .i64 V.epoch, .slice a1 V.chain.length k1, .slice a2 V.since.length k2, .slice a3 V.boot.length k3], Value.bool true, Value.bool false, Value.bool false, Value.int .i64 x, Value.bool (decide (x < 1)), Value.bool (decide (x < 1)), Value.bool (decide (x < 1)), Value.int .i64 x, Value.bool (decide (100 < x)), Value.bool (decide (x < 1) || decide (100 < x)), Value.bool (decide (x < 1) || decide (100 < x)), Value.int .i64 b, Value.bool (decide (b < 0)), Value.bool (decide (x < 1) || decide (100 < x) || decide (b < 0)), Value.bool (decide (x < 1) || decide (100 < x) || decide (b < 0)), Value.int .i64 b, Value.bool (decide (274877906944 < b)), Value.bool (decide (x < 1) || decide (100 < x) || decide (b < 0) || decide (274877906944 < b)), undef, Value.bool false, Value.agg #[.int .i64 V.epoch, .slice a1 V.chain.length k1, .slice a2 V.since.length k2, .slice a3 V.boot.length k3], Value.int .i64 x, Value.int .i64 (-1), Value.bool false, undef, Value.bool false, Value.pointer (some ⟨w.heap.size, 1, none⟩), Value.slice a1 V.chain.length k1, Value.int .i64 (V.chain.length : Int), Value.bool false, Value.bool false, Value.pointer (some ⟨w.heap.size, 0, none⟩), Value.int .i64 V.epoch, Value.bool false, Value.bool false, undef, Value.pointer (some ⟨w.heap.size, 0, none⟩), Value.int .i64 V.epoch, Value.int .i64 (V.epoch + 1), Value.pointer (some ⟨w.heap.size, 1, none⟩), Value.slice a1 V.chain.length k1, x51, Value.int .i64 x, x53, x54, Value.pointer (some ⟨w.heap.size, 2, none⟩), Value.slice a2 V.since.length k2, x57, Value.pointer (some ⟨w.heap.size, 0, none⟩), Value.int .i64 V.epoch, Value.int .i64 (V.epoch + 1), x61, x62, Value.pointer (some ⟨w.heap.size, 3, none⟩), Value.slice a3 V.boot.length k3, x65, Value.int .i64 b, x67, x68, undef], defers := [] } ∧ (fun W => W.cell? ⟨w.heap.size, 0, none⟩ = some (.int .i64 V.epoch) ∧ W.cell? ⟨w.heap.size, 1, none⟩ = some (.slice a1 V.chain.length k1) ∧ W.cell? ⟨w.heap.size, 2, none⟩ = some (.slice a2 V.since.length k2) ∧ W.cell? ⟨w.heap.size, 3, none⟩ = some (.slice a3 V.boot.length k3) ∧ W.cell? ⟨w.heap.size + 1, 0, none⟩ = some (cellOr W ⟨w.heap.size + 1, 0, none⟩) ∧ W.cell? ⟨w.heap.size + 1, 1, none⟩ = some (cellOr W ⟨w.heap.size + 1, 1, none⟩) ∧ W.cell? ⟨w.heap.size + 1, 2, none⟩ = some (cellOr W ⟨w.heap.size + 1, 2, none⟩) ∧ W.cell? ⟨w.heap.size + 1, 3, none⟩ = some (cellOr W ⟨w.heap.size + 1, 3, none⟩) ∧ W.frozen? ⟨w.heap.size + 1, 0, none⟩ = false ∧ W.frozen? ⟨w.heap.size + 1, 1, none⟩ = false ∧ W.frozen? ⟨w.heap.size + 1, 2, none⟩ = false ∧ W.frozen? ⟨w.heap.size + 1, 3, none⟩ = false ∧ w.heap.size + 2 ≤ W.heap.size ∧ Below (w.heap.size + 1) (w.alloc (.cells #[.int .i64 V.epoch, .slice a1 V.chain.length k1, .slice a2 V.since.length k2, .slice a3 V.boot.length k3] 24)) W) W ∧ B0 ≤ W.heap.size ∧ Below B0 w2.drew W ∧ (∀ j, pv.ownBlock = some j → B0 ≤ j ∧ j < W.heap.size) ∧ (2 ≤ p → q1 = true) ∧ (4 ≤ p → q2 = true) ∧ (6 ≤ p → q3 = true) ∧ (p = 1 → x51 = pv ∧ (W.ownsRow B0 3 1 pv V.chain.length (icells V.chain))) ∧ (p = 3 → x57 = pv ∧ (W.ownsRow B0 3 1 pv V.since.length (icells V.since))) ∧ (p = 5 → x65 = pv ∧ (W.ownsRow B0 3 1 pv V.boot.length (icells V.boot))) ∧ Lane W B0 3 pv V.chain x q1 (decide (2 ≤ p)) x53 x54 ∧ Lane W B0 3 pv V.since (V.epoch + 1) q2 (decide (4 ≤ p)) x61 x62 ∧ Lane W B0 3 pv V.boot b q3 (decide (6 ≤ p)) x67 x68 ∧ p ≤ 6) ?_ _ _ _ _ ?_ (by kernel_rfl) (by simp)
        · intro listed a W hJ
          obtain ⟨p, q1, q2, q3, pv, x51, x53, x54, x57, x61, x62, x65, x67, x68, rfl, rfl, hS, hB, hbe, hpv, e1, e2, e3, o1, o2, o3, La1, La2, La3, hp6⟩ := hJ
          by_cases hex : p = 6
          · right
            obtain rfl : p = 6 := hex
            obtain rfl : q1 = true := e1 (by omega)
            obtain rfl : q2 = true := e2 (by omega)
            obtain rfl : q3 = true := e3 (by omega)
            obtain ⟨⟨r1, m1, rfl⟩, ow1, _⟩ := La1.done rfl
            obtain ⟨⟨r2, m2, rfl⟩, ow2, _⟩ := La2.done rfl
            obtain ⟨⟨r3, m3, rfl⟩, ow3, _⟩ := La3.done rfl
            clear La1 La2 La3 o1 o2 o3 e1 e2 e3
            intro m hm
            obtain ⟨m', rfl⟩ : ∃ m', m = m' + 3 := ⟨m - 3, by simp at hm; omega⟩
            clear hm
            refine wpAnyH_take (i := 23) (oi := ?o23) (v := ?v23) ?hi23 (by kernel_rfl) (by kernel_rfl) (by kernel_rfl) ?hQ23 ?hy23 hS ?rest23
            case hi23 => simp only [List.getElem?_toArray, List.getElem?_cons_zero, List.getElem?_cons_succ]; rfl
            case hQ23 => exact fun _ _ _ h => h
            case hy23 => refine Or.inl ⟨by rfl, ?_⟩; intro W hSw; (try dsimp only at hSw); go_simp; try with_reducible rfl
            simp only [Act.put, List.setIfInBounds_toArray, List.set_cons_zero, List.set_cons_succ]
            refine wpAnyH_ready (rs := [24]) (by kernel_rfl) (by simp) ?_
            refine AllReadyH.cons (o := ?oo24) ?ho24 (fun K' hK => ?_) AllReadyH.nil
            case ho24 => simp only [List.getElem?_toArray, List.getElem?_cons_zero, List.getElem?_cons_succ]; rfl
            go_simp
            refine hK.out _ _ (held_set hS) (fun hS2 => ?_)
            clear hK
            refine wpAnyH_take (i := 25) (oi := ?o25) (v := ?v25) ?hi25 (by kernel_rfl) (by kernel_rfl) (by kernel_rfl) ?hQ25 ?hy25 hS2 ?rest25
            case hi25 => simp only [List.getElem?_toArray, List.getElem?_cons_zero, List.getElem?_cons_succ]; rfl
            case hQ25 => exact fun _ _ _ h => h
            case hy25 => refine Or.inl ⟨by rfl, ?_⟩; intro W hSw; (try dsimp only at hSw); go_simp; try with_reducible rfl
            simp only [Act.put, List.setIfInBounds_toArray, List.set_cons_zero, List.set_cons_succ]
            refine wpAnyH_done (by kernel_rfl) ?_ _
            go_wp2_with fail
            (try simp only [Exit.inBlock, Exit.then])
            have hfin := hb12.drew.trans (hbe.mono hB00)
            refine bodyPost_ret (ret_cell4 rfl _ _ _ _ _ _ _ _ _ _ _ _ _ (by rfl) (res_block hfin) Try.underlying24 rfl vinfo) rfl ?_
            refine ⟨_, rfl, ⟨⟨by simp only; omega, by simp only; omega⟩, _, _, _, rfl, ?_, ?_, ?_⟩, below_set4 (below_two' hfin) _ (by omega) _ _ _ _, ⟨_, _, _, _, rfl, (fun j hj => by have := (ow1.lt j hj).1; omega), (fun j hj => by have := (ow2.lt j hj).1; omega), (fun j hj => by have := (ow3.lt j hj).1; omega)⟩⟩
            · have k := own_ints (own_set4 ow1 (w.heap.size + 1) (by omega) (.int .i64 (V.epoch + 1)) (.slice r1 (V.chain.length + 1) m1) (.slice r2 (V.since.length + 1) m2) (.slice r3 (V.boot.length + 1) m3)) (fun n hn => by
                rcases List.mem_append.1 hn with hn | hn
                · exact H1.out.at_.2.2.2.2.1 n hn
                · rw [List.mem_singleton] at hn; subst hn; exact hx64)
              exact k
            · have k := own_ints (own_set4 ow2 (w.heap.size + 1) (by omega) (.int .i64 (V.epoch + 1)) (.slice r1 (V.chain.length + 1) m1) (.slice r2 (V.since.length + 1) m2) (.slice r3 (V.boot.length + 1) m3)) (fun n hn => by
                rcases List.mem_append.1 hn with hn | hn
                · exact H2.out.at_.2.2.2.2.1 n hn
                · rw [List.mem_singleton] at hn; subst hn; constructor <;> omega)
              exact k
            · have k := own_ints (own_set4 ow3 (w.heap.size + 1) (by omega) (.int .i64 (V.epoch + 1)) (.slice r1 (V.chain.length + 1) m1) (.slice r2 (V.since.length + 1) m2) (.slice r3 (V.boot.length + 1) m3)) (fun n hn => by
                rcases List.mem_append.1 hn with hn | hn
                · exact H3.out.at_.2.2.2.2.1 n hn
                · rw [List.mem_singleton] at hn; subst hn; exact hb64)
              exact k
          · left
            refine ⟨?_, fun i hi => ?_⟩
            · rcases (by omega : p = 0 ∨ p = 1 ∨ p = 2 ∨ p = 3 ∨ p = 4 ∨ p = 5) with rfl | rfl | rfl | rfl | rfl | rfl
              all_goals (cases q1 <;> cases q2 <;> cases q3 <;> decide +kernel)
            · obtain ⟨h0, o, ho, hall⟩ := mem_ready.1 hi
              have hlt : i < 26 := by
                rcases Nat.lt_or_ge i 26 with h | h
                · exact h
                · rw [Array.getElem?_eq_none (by simpa using h)] at ho; cases ho
              rcases (by omega : i = 0 ∨ i = 1 ∨ i = 2 ∨ i = 3 ∨ i = 4 ∨ i = 5 ∨ i = 6 ∨ i = 7 ∨ i = 8 ∨ i = 9 ∨ i = 10 ∨ i = 11 ∨ i = 12 ∨ i = 13 ∨ i = 14 ∨ i = 15 ∨ i = 16 ∨ i = 17 ∨ i = 18 ∨ i = 19 ∨ i = 20 ∨ i = 21 ∨ i = 22 ∨ i = 23 ∨ i = 24 ∨ i = 25) with rfl | rfl | rfl | rfl | rfl | rfl | rfl | rfl | rfl | rfl | rfl | rfl | rfl | rfl | rfl | rfl | rfl | rfl | rfl | rfl | rfl | rfl | rfl | rfl | rfl | rfl
              · cases h0
              · cases h0
              · cases h0
              · cases h0
              · cases h0
              · have hp0 : p = 0 := by
                  have h1 : decide (1 ≤ p) = false := h0
                  simp only [decide_eq_false_iff_not] at h1
                  omega
                subst hp0
                refine wpOp_step (o := ?oo5) ?ho5 (fun K' hK => ?_)
                case ho5 => simp only [List.getElem?_toArray, List.getElem?_cons_zero, List.getElem?_cons_succ]; rfl
                have HK := Lib.hid hK
                clear hK
                go_simp
                refine (C3.out W (held_below hS)).mono ?_
                rintro e W' ⟨v', rfl, ow, hbW⟩
                have hS' := held_keep hS hbW
                refine HK.out _ _ ⟨hS', 1, q1, q2, q3, v', v', x53, x54, x57, x61, x62, x65, x67, x68, rfl, rfl, hS', Nat.le_trans hB hbW.size, below_more hbe hB hbW, fun j hj => ⟨Nat.le_trans hB (ow.lt j hj).1, (ow.lt j hj).2⟩, ?_, ?_, ?_, fun _ => ⟨rfl, own_base hB ow⟩, fun h => absurd h (by omega), fun h => absurd h (by omega), La1.below hbW (fun j hj => (ow.lt j hj).1), La2.below hbW (fun j hj => (ow.lt j hj).1), La3.below hbW (fun j hj => (ow.lt j hj).1), by omega⟩
                · first | exact fun _ => rfl | exact e1 | exact fun _ => e1 (by omega) | exact fun h => absurd h (by omega)
                · first | exact fun _ => rfl | exact e2 | exact fun _ => e2 (by omega) | exact fun h => absurd h (by omega)
                · first | exact fun _ => rfl | exact e3 | exact fun _ => e3 (by omega) | exact fun h => absurd h (by omega)
              · cases h0
              · have hq : q1 = false := h0
                have hna1 : q1 = false → decide (2 ≤ p) = false := fun h => by
                  rw [decide_eq_false_iff_not]
                  intro h2
                  rw [e1 h2] at h
                  cases h
                refine wpOp_step (o := ?oo7) ?ho7 (fun K' hK => ?_)
                case ho7 => simp only [List.getElem?_toArray, List.getElem?_cons_zero, List.getElem?_cons_succ]; rfl
                have HK := Lib.hid hK
                clear hK
                go_simp
                have hbW : Below W.heap.size W (W.alloc (.cells #[.int .i64 x] 3)) := (Below.refl _ _).alloc (Nat.le_refl _) _
                have hS' := held_keep hS hbW
                refine HK.out _ _ ⟨hS', p, true, q2, q3, pv, x51, (.slice (some ⟨W.heap.size, 0, none⟩) 1 1), x54, x57, x61, x62, x65, x67, x68, rfl, rfl, hS', Nat.le_trans hB hbW.size, below_more hbe hB hbW, fun j hj => ⟨(hpv j hj).1, Nat.lt_of_lt_of_le (hpv j hj).2 hbW.size⟩, ?_, ?_, ?_, fun h => ⟨(o1 h).1, own_below hbW (o1 h).2⟩, fun h => ⟨(o2 h).1, own_below hbW (o2 h).2⟩, fun h => ⟨(o3 h).1, own_below hbW (o3 h).2⟩, Lane.mk' (fun j hj => (hpv j hj).2) _ hna1 hq, La2.alloc _, La3.alloc _, by omega⟩
                · first | exact fun _ => rfl | exact e1 | exact fun _ => e1 (by omega) | exact fun h => absurd h (by omega)
                · first | exact fun _ => rfl | exact e2 | exact fun _ => e2 (by omega) | exact fun h => absurd h (by omega)
                · first | exact fun _ => rfl | exact e3 | exact fun _ => e3 (by omega) | exact fun h => absurd h (by omega)
              · simp only [List.getElem?_toArray, List.getElem?_cons_succ, List.getElem?_cons_zero, Option.some.injEq] at ho
                subst ho
                have hp0 : p = 1 := by
                  have h1 : decide (2 ≤ p) = false := h0
                  have h2 : decide (1 ≤ p) = true := hall ⟨5, .chain⟩ (by simp) rfl
                  simp only [decide_eq_false_iff_not, decide_eq_true_eq] at h1 h2
                  omega
                subst hp0
                have hq : q1 = true := hall ⟨7, .data⟩ (by simp) rfl
                subst hq
                obtain ⟨rfl, ow⟩ := o1 rfl
                obtain ⟨g, rfl, hg1, hg2, hg3⟩ := La1.lit rfl rfl
                refine wpOp_step (o := ?oo8) ?ho8 (fun K' hK => ?_)
                case ho8 => simp only [List.getElem?_toArray, List.getElem?_cons_zero, List.getElem?_cons_succ]; rfl
                have HK := Lib.hid hK
                clear hK
                refine step_append_lies W (by rfl) _ _ _ (by rfl) B0 3 i0 _ 1 8 Try.underlying22 hi0 hz0 hz1 hz2 rfl (by omega) x51 V.chain.length _ (by rfl) ow ⟨g, 0, none⟩ 1 1 [.int .i64 x] (by rfl) (by rfl) (news_one hg2) (by simp [Value.oneCell']) (by omega) (by unfold maxLen; omega) (by omega) hB _ rfl ?_
                intro gg cap W' hown hgrow hat hlt2
                rw [← icells_snoc] at hown
                have hS' := held_grow hS hgrow (fun j hj => by have := (hpv j hj).1; omega)
                refine HK.out _ _ ⟨hS', 2, true, q2, q3, .slice none 0 0, x51, (.slice (some ⟨g, 0, none⟩) 1 1), (.slice (some ⟨gg, 0, none⟩) (V.chain.length + 1) cap), x57, x61, x62, x65, x67, x68, rfl, rfl, hS', Nat.le_trans hB hgrow.size, hbe.grown hgrow hB (fun j hj => (hpv j hj).1), fun j hj => by simp [Value.ownBlock] at hj, ?_, ?_, ?_, fun h => absurd h (by omega), fun h => absurd h (by omega), fun h => absurd h (by omega), Lane.app hown, La2.grow hgrow, La3.grow hgrow, by omega⟩
                · first | exact fun _ => rfl | exact e1 | exact fun _ => e1 (by omega) | exact fun h => absurd h (by omega)
                · first | exact fun _ => rfl | exact e2 | exact fun _ => e2 (by omega) | exact fun h => absurd h (by omega)
                · first | exact fun _ => rfl | exact e3 | exact fun _ => e3 (by omega) | exact fun h => absurd h (by omega)
              · cases h0
              · cases h0
              · simp only [List.getElem?_toArray, List.getElem?_cons_succ, List.getElem?_cons_zero, Option.some.injEq] at ho
                subst ho
                have hp0 : p = 2 := by
                  have h1 : decide (3 ≤ p) = false := h0
                  have h2 : decide (2 ≤ p) = true := hall ⟨8, .chain⟩ (by simp) rfl
                  simp only [decide_eq_false_iff_not, decide_eq_true_eq] at h1 h2
                  omega
                subst hp0
                refine wpOp_step (o := ?oo11) ?ho11 (fun K' hK => ?_)
                case ho11 => simp only [List.getElem?_toArray, List.getElem?_cons_zero, List.getElem?_cons_succ]; rfl
                have HK := Lib.hid hK
                clear hK
                go_simp
                refine (C4.out W (held_below hS)).mono ?_
                rintro e W' ⟨v', rfl, ow, hbW⟩
                have hS' := held_keep hS hbW
                refine HK.out _ _ ⟨hS', 3, q1, q2, q3, v', x51, x53, x54, v', x61, x62, x65, x67, x68, rfl, rfl, hS', Nat.le_trans hB hbW.size, below_more hbe hB hbW, fun j hj => ⟨Nat.le_trans hB (ow.lt j hj).1, (ow.lt j hj).2⟩, ?_, ?_, ?_, fun h => absurd h (by omega), fun _ => ⟨rfl, own_base hB ow⟩, fun h => absurd h (by omega), La1.below hbW (fun j hj => (ow.lt j hj).1), La2.below hbW (fun j hj => (ow.lt j hj).1), La3.below hbW (fun j hj => (ow.lt j hj).1), by omega⟩
                · first | exact fun _ => rfl | exact e1 | exact fun _ => e1 (by omega) | exact fun h => absurd h (by omega)
                · first | exact fun _ => rfl | exact e2 | exact fun _ => e2 (by omega) | exact fun h => absurd h (by omega)
                · first | exact fun _ => rfl | exact e3 | exact fun _ => e3 (by omega) | exact fun h => absurd h (by omega)
              · cases h0
              · cases h0
              · cases h0
              · have hq : q2 = false := h0
                have hna2 : q2 = false → decide (4 ≤ p) = false := fun h => by
                  rw [decide_eq_false_iff_not]
                  intro h2
                  rw [e2 h2] at h
                  cases h
                refine wpOp_step (o := ?oo15) ?ho15 (fun K' hK => ?_)
                case ho15 => simp only [List.getElem?_toArray, List.getElem?_cons_zero, List.getElem?_cons_succ]; rfl
                have HK := Lib.hid hK
                clear hK
                go_simp
                have hbW : Below W.heap.size W (W.alloc (.cells #[.int .i64 (V.epoch + 1)] 3)) := (Below.refl _ _).alloc (Nat.le_refl _) _
                have hS' := held_keep hS hbW
                refine HK.out _ _ ⟨hS', p, q1, true, q3, pv, x51, x53, x54, x57, (.slice (some ⟨W.heap.size, 0, none⟩) 1 1), x62, x65, x67, x68, rfl, rfl, hS', Nat.le_trans hB hbW.size, below_more hbe hB hbW, fun j hj => ⟨(hpv j hj).1, Nat.lt_of_lt_of_le (hpv j hj).2 hbW.size⟩, ?_, ?_, ?_, fun h => ⟨(o1 h).1, own_below hbW (o1 h).2⟩, fun h => ⟨(o2 h).1, own_below hbW (o2 h).2⟩, fun h => ⟨(o3 h).1, own_below hbW (o3 h).2⟩, La1.alloc _, Lane.mk' (fun j hj => (hpv j hj).2) _ hna2 hq, La3.alloc _, by omega⟩
                · first | exact fun _ => rfl | exact e1 | exact fun _ => e1 (by omega) | exact fun h => absurd h (by omega)
                · first | exact fun _ => rfl | exact e2 | exact fun _ => e2 (by omega) | exact fun h => absurd h (by omega)
                · first | exact fun _ => rfl | exact e3 | exact fun _ => e3 (by omega) | exact fun h => absurd h (by omega)
              · simp only [List.getElem?_toArray, List.getElem?_cons_succ, List.getElem?_cons_zero, Option.some.injEq] at ho
                subst ho
                have hp0 : p = 3 := by
                  have h1 : decide (4 ≤ p) = false := h0
                  have h2 : decide (3 ≤ p) = true := hall ⟨11, .chain⟩ (by simp) rfl
                  simp only [decide_eq_false_iff_not, decide_eq_true_eq] at h1 h2
                  omega
                subst hp0
                have hq : q2 = true := hall ⟨15, .data⟩ (by simp) rfl
                subst hq
                obtain ⟨rfl, ow⟩ := o2 rfl
                obtain ⟨g, rfl, hg1, hg2, hg3⟩ := La2.lit rfl rfl
                refine wpOp_step (o := ?oo16) ?ho16 (fun K' hK => ?_)
                case ho16 => simp only [List.getElem?_toArray, List.getElem?_cons_zero, List.getElem?_cons_succ]; rfl
                have HK := Lib.hid hK
                clear hK
                refine step_append_lies W (by rfl) _ _ _ (by rfl) B0 3 i0 _ 1 8 Try.underlying22 hi0 hz0 hz1 hz2 rfl (by omega) x57 V.since.length _ (by rfl) ow ⟨g, 0, none⟩ 1 1 [.int .i64 (V.epoch + 1)] (by rfl) (by rfl) (news_one hg2) (by simp [Value.oneCell']) (by omega) (by unfold maxLen; omega) (by omega) hB _ rfl ?_
                intro gg cap W' hown hgrow hat hlt2
                rw [← icells_snoc] at hown
                have hS' := held_grow hS hgrow (fun j hj => by have := (hpv j hj).1; omega)
                refine HK.out _ _ ⟨hS', 4, q1, true, q3, .slice none 0 0, x51, x53, x54, x57, (.slice (some ⟨g, 0, none⟩) 1 1), (.slice (some ⟨gg, 0, none⟩) (V.since.length + 1) cap), x65, x67, x68, rfl, rfl, hS', Nat.le_trans hB hgrow.size, hbe.grown hgrow hB (fun j hj => (hpv j hj).1), fun j hj => by simp [Value.ownBlock] at hj, ?_, ?_, ?_, fun h => absurd h (by omega), fun h => absurd h (by omega), fun h => absurd h (by omega), La1.grow hgrow, Lane.app hown, La3.grow hgrow, by omega⟩
                · first | exact fun _ => rfl | exact e1 | exact fun _ => e1 (by omega) | exact fun h => absurd h (by omega)
                · first | exact fun _ => rfl | exact e2 | exact fun _ => e2 (by omega) | exact fun h => absurd h (by omega)
                · first | exact fun _ => rfl | exact e3 | exact fun _ => e3 (by omega) | exact fun h => absurd h (by omega)
              · cases h0
              · cases h0
              · simp only [List.getElem?_toArray, List.getElem?_cons_succ, List.getElem?_cons_zero, Option.some.injEq] at ho
                subst ho
                have hp0 : p = 4 := by
                  have h1 : decide (5 ≤ p) = false := h0
                  have h2 : decide (4 ≤ p) = true := hall ⟨16, .chain⟩ (by simp) rfl
                  simp only [decide_eq_false_iff_not, decide_eq_true_eq] at h1 h2
                  omega
                subst hp0
                refine wpOp_step (o := ?oo19) ?ho19 (fun K' hK => ?_)
                case ho19 => simp only [List.getElem?_toArray, List.getElem?_cons_zero, List.getElem?_cons_succ]; rfl
                have HK := Lib.hid hK
                clear hK
                go_simp
                refine (C5.out W (held_below hS)).mono ?_
                rintro e W' ⟨v', rfl, ow, hbW⟩
                have hS' := held_keep hS hbW
                refine HK.out _ _ ⟨hS', 5, q1, q2, q3, v', x51, x53, x54, x57, x61, x62, v', x67, x68, rfl, rfl, hS', Nat.le_trans hB hbW.size, below_more hbe hB hbW, fun j hj => ⟨Nat.le_trans hB (ow.lt j hj).1, (ow.lt j hj).2⟩, ?_, ?_, ?_, fun h => absurd h (by omega), fun h => absurd h (by omega), fun _ => ⟨rfl, own_base hB ow⟩, La1.below hbW (fun j hj => (ow.lt j hj).1), La2.below hbW (fun j hj => (ow.lt j hj).1), La3.below hbW (fun j hj => (ow.lt j hj).1), by omega⟩
                · first | exact fun _ => rfl | exact e1 | exact fun _ => e1 (by omega) | exact fun h => absurd h (by omega)
                · first | exact fun _ => rfl | exact e2 | exact fun _ => e2 (by omega) | exact fun h => absurd h (by omega)
                · first | exact fun _ => rfl | exact e3 | exact fun _ => e3 (by omega) | exact fun h => absurd h (by omega)
              · cases h0
              · have hq : q3 = false := h0
                have hna3 : q3 = false → decide (6 ≤ p) = false := fun h => by
                  rw [decide_eq_false_iff_not]
                  intro h2
                  rw [e3 h2] at h
                  cases h
                refine wpOp_step (o := ?oo21) ?ho21 (fun K' hK => ?_)
                case ho21 => simp only [List.getElem?_toArray, List.getElem?_cons_zero, List.getElem?_cons_succ]; rfl
                have HK := Lib.hid hK
                clear hK
                go_simp
                have hbW : Below W.heap.size W (W.alloc (.cells #[.int .i64 b] 3)) := (Below.refl _ _).alloc (Nat.le_refl _) _
                have hS' := held_keep hS hbW
                refine HK.out _ _ ⟨hS', p, q1, q2, true, pv, x51, x53, x54, x57, x61, x62, x65, (.slice (some ⟨W.heap.size, 0, none⟩) 1 1), x68, rfl, rfl, hS', Nat.le_trans hB hbW.size, below_more hbe hB hbW, fun j hj => ⟨(hpv j hj).1, Nat.lt_of_lt_of_le (hpv j hj).2 hbW.size⟩, ?_, ?_, ?_, fun h => ⟨(o1 h).1, own_below hbW (o1 h).2⟩, fun h => ⟨(o2 h).1, own_below hbW (o2 h).2⟩, fun h => ⟨(o3 h).1, own_below hbW (o3 h).2⟩, La1.alloc _, La2.alloc _, Lane.mk' (fun j hj => (hpv j hj).2) _ hna3 hq, by omega⟩
                · first | exact fun _ => rfl | exact e1 | exact fun _ => e1 (by omega) | exact fun h => absurd h (by omega)
                · first | exact fun _ => rfl | exact e2 | exact fun _ => e2 (by omega) | exact fun h => absurd h (by omega)
                · first | exact fun _ => rfl | exact e3 | exact fun _ => e3 (by omega) | exact fun h => absurd h (by omega)
              · simp only [List.getElem?_toArray, List.getElem?_cons_succ, List.getElem?_cons_zero, Option.some.injEq] at ho
                subst ho
                have hp0 : p = 5 := by
                  have h1 : decide (6 ≤ p) = false := h0
                  have h2 : decide (5 ≤ p) = true := hall ⟨19, .chain⟩ (by simp) rfl
                  simp only [decide_eq_false_iff_not, decide_eq_true_eq] at h1 h2
                  omega
                subst hp0
                have hq : q3 = true := hall ⟨21, .data⟩ (by simp) rfl
                subst hq
                obtain ⟨rfl, ow⟩ := o3 rfl
                obtain ⟨g, rfl, hg1, hg2, hg3⟩ := La3.lit rfl rfl
                refine wpOp_step (o := ?oo22) ?ho22 (fun K' hK => ?_)
                case ho22 => simp only [List.getElem?_toArray, List.getElem?_cons_zero, List.getElem?_cons_succ]; rfl
                have HK := Lib.hid hK
                clear hK
                refine step_append_lies W (by rfl) _ _ _ (by rfl) B0 3 i0 _ 1 8 Try.underlying22 hi0 hz0 hz1 hz2 rfl (by omega) x65 V.boot.length _ (by rfl) ow ⟨g, 0, none⟩ 1 1 [.int .i64 b] (by rfl) (by rfl) (news_one hg2) (by simp [Value.oneCell']) (by omega) (by unfold maxLen; omega) (by omega) hB _ rfl ?_
                intro gg cap W' hown hgrow hat hlt2
                rw [← icells_snoc] at hown
                have hS' := held_grow hS hgrow (fun j hj => by have := (hpv j hj).1; omega)
                refine HK.out _ _ ⟨hS', 6, q1, q2, true, .slice none 0 0, x51, x53, x54, x57, x61, x62, x65, (.slice (some ⟨g, 0, none⟩) 1 1), (.slice (some ⟨gg, 0, none⟩) (V.boot.length + 1) cap), rfl, rfl, hS', Nat.le_trans hB hgrow.size, hbe.grown hgrow hB (fun j hj => (hpv j hj).1), fun j hj => by simp [Value.ownBlock] at hj, ?_, ?_, ?_, fun h => absurd h (by omega), fun h => absurd h (by omega), fun h => absurd h (by omega), La1.grow hgrow, La2.grow hgrow, Lane.app hown, by omega⟩
                · first | exact fun _ => rfl | exact e1 | exact fun _ => e1 (by omega) | exact fun h => absurd h (by omega)
                · first | exact fun _ => rfl | exact e2 | exact fun _ => e2 (by omega) | exact fun h => absurd h (by omega)
                · first | exact fun _ => rfl | exact e3 | exact fun _ => e3 (by omega) | exact fun h => absurd h (by omega)
              · simp only [List.getElem?_toArray, List.getElem?_cons_succ, List.getElem?_cons_zero, Option.some.injEq] at ho
                subst ho
                have h2 : decide (6 ≤ p) = true := hall ⟨22, .data⟩ (by simp) rfl
                rw [decide_eq_true_eq] at h2
                omega
              · simp only [List.getElem?_toArray, List.getElem?_cons_succ, List.getElem?_cons_zero, Option.some.injEq] at ho
                subst ho
                have h2 : decide (6 ≤ p) = true := hall ⟨22, .chain⟩ (by simp) rfl
                rw [decide_eq_true_eq] at h2
                omega
              · simp only [List.getElem?_toArray, List.getElem?_cons_succ, List.getElem?_cons_zero, Option.some.injEq] at ho
                subst ho
                have h2 : decide (6 ≤ p) = true := hall ⟨22, .phase⟩ (by simp) rfl
                rw [decide_eq_true_eq] at h2
                omega
        · refine ⟨0, false, false, false, .slice none 0 0, undef, undef, undef, undef, undef, undef, undef, undef, undef, rfl, rfl, hHeld, by rw [hB0]; exact Nat.le_refl _, Below.refl _ _, fun j hj => by simp [Value.ownBlock] at hj, fun h => absurd h (by omega), fun h => absurd h (by omega), fun h => absurd h (by omega), fun h => absurd h (by omega), fun h => absurd h (by omega), fun h => absurd h (by omega), ⟨(fun h => by cases h), (fun _ h => by cases h)⟩, ⟨(fun h => by cases h), (fun _ h => by cases h)⟩, ⟨(fun h => by cases h), (fun _ h => by cases h)⟩, by omega⟩
    · have C1 := Lib.hid (hC1 _ hp)
      rw [if_pos (by omega)] at hA
      obtain ⟨rfl, rfl⟩ : zeroV = A ∧ 7 = c := by
        injection hA with e1 e2
        exact ⟨e1, e2⟩
      have g1 : (0 : Int) ≤ (i : Int) := by omega
      clear hC1 hp hA
      go_enter Try.func16, Try.ntmps16
      go_wp2_with fail
      refine (C2'.out _ ?_).mono ?_
      · exact below_two _ _
      rintro e w1 ⟨rfl, hb1⟩
      have hb12 : Below (w.heap.size + 2) _ w1 := hb1.mono (by simp)
      obtain ⟨y0, y1, y2, y3⟩ := box_cells hb12
      obtain ⟨z0, z1, z2, z3⟩ := res_cells hb12
      have f0 := res_frozen hb12 0
      have f1 := res_frozen hb12 1
      have f2 := res_frozen hb12 2
      have f3 := res_frozen hb12 3
      go_wp2_with fail
      refine (C1.out _ (below_two' hb12)).mono ?_
      rintro e w2 ⟨rfl, hb2⟩
      replace hb12 := below_more hb12 (size_two hb12) hb2
      obtain ⟨y0, y1, y2, y3⟩ := box_cells hb12
      obtain ⟨z0, z1, z2, z3⟩ := res_cells hb12
      have f0 := res_frozen hb12 0
      have f1 := res_frozen hb12 1
      have f2 := res_frozen hb12 2
      have f3 := res_frozen hb12 3
      go_wp2_with fail
      all_goals
        (try simp only [Exit.inBlock, Exit.then])
        first
          | (exfalso; omega)
          | (refine bodyPost_ret (ret_cell4 rfl _ _ _ _ _ _ _ _ _ _ _ _ _ (by rfl) (res_block hb12) Try.underlying24 rfl vinfo) rfl ?_
             refine ⟨_, rfl, view_nil _ _, below_set4 (below_two' hb12) _ (by omega) _ _ _ _, freshV_nil _⟩)

theorem with_any (B : Nat) (v : Value) (V : VW) (x b : Int) (A : VW) (c : Nat) (hA : withV V x b = (A, c)) (w : World) (h : IsView B w v V) (hB : B ≤ w.heap.size) (hsm : SmallV V) (hx64 : I64 x) (hb64 : I64 b) :
    Calls Try.prog 16 #[v, .int .i64 x, .int .i64 b] w fun e w' => ∃ va, e = .returned (.tuple #[va, .int .i64 c]) ∧ IsView w'.heap.size w' va A ∧ Below w.heap.size w w' :=
  (with_fresh B v V x b A c hA w h hB hsm hx64 hb64).mono fun _ _ ⟨va, h1, h2, h3, _⟩ => ⟨va, h1, h2, h3⟩
end Go.Proofs.Ytigojackdkaanaa
