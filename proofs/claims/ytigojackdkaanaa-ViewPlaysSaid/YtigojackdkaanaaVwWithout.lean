/-
  The walk of view.Without. Printed by gen_vwwithout.py of this claim's writer.
-/
import Derived.Test.YtigojackdkaanaaVwBox
import Derived.IntWalk
namespace Go.Proofs.Ytigojackdkaanaa
open Go.RowKit

set_option maxRecDepth 100000 in
set_option maxHeartbeats 3200000 in
theorem without_fresh (B : Nat) (v : Value) (V : VW) (x : Int) (A : VW) (c : Nat) (hA : withoutV V x = (A, c)) (w : World) (h : IsView B w v V) (hB : B ≤ w.heap.size) (hsm : SmallV V) :
    Calls Try.prog 15 #[v, .int .i64 x] w fun e w' => ∃ va, e = .returned (.tuple #[va, .int .i64 c]) ∧ IsView w'.heap.size w' va A ∧ Below w.heap.size w w' ∧ FreshV w.heap.size va := by
  have hv := Lib.hid h
  obtain ⟨he, cc, s, bt, rfl, h1, h2, h3⟩ := h
  have H1 := Lib.hid h1
  have H2 := Lib.hid h2
  have H3 := Lib.hid h3
  obtain ⟨a1, k1, rfl⟩ := h1.form
  obtain ⟨a2, k2, rfl⟩ := h2.form
  obtain ⟨a3, k3, rfl⟩ := h3.form
  have hs1 := hsm.1
  have hC1 := fun (p : Int) (hp : placeV V x = p) (w1 : World) (hb1 : Below w.heap.size w w1) => place_any B _ V x p hp w1 (hv.out.keep hb1 hB) (Nat.le_trans hB hb1.size) hsm
  have C2 := Lib.hid (fun (b : Bool) (hb : b = rightB V) (w1 : World) (hb1 : Below w.heap.size w w1) => right_any B _ V w1 (hv.out.keep hb1 hB) (Nat.le_trans hB hb1.size) hsm b hb)
  clear h1 h2 h3
  cases hr : rightB V with
  | false =>
    have hp : placeV V x = -1 := by rw [placeV, if_neg (by rw [hr]; decide)]
    have C1 := Lib.hid (hC1 _ hp)
    have C2' := Lib.hid (C2.out false hr.symm)
    obtain ⟨rfl, rfl⟩ : zeroV = A ∧ 1 = c := by
      rw [withoutV, if_pos hr] at hA
      injection hA with e1 e2
      exact ⟨e1, e2⟩
    clear hC1 hp hr hA C2
    go_enter Try.func15, Try.ntmps15
    go_wp2_with fail
    refine (C1.out _ ?_).mono ?_
    · exact below_two _ _
    rintro e w1 ⟨rfl, hb1⟩
    obtain ⟨y0, y1, y2, y3⟩ := box_cells (hb1.mono (by simp))
    have hbb := bstep (below_two _ _) hb1
    have hz := size_two (hb1.mono (by simp))
    go_wp2_with fail
    refine (C2'.out _ hbb).mono ?_
    rintro e w2 ⟨rfl, hb2⟩
    have hb12 : Below (w.heap.size + 2) _ w2 := (hb1.mono (by simp)).trans (hb2.mono (by simpa using hz))
    obtain ⟨y0, y1, y2, y3⟩ := box_cells hb12
    obtain ⟨z0, z1, z2, z3⟩ := res_cells hb12
    have f0 := res_frozen hb12 0
    have f1 := res_frozen hb12 1
    have f2 := res_frozen hb12 2
    have f3 := res_frozen hb12 3
    go_wp2_with fail
    (try simp only [Exit.inBlock, Exit.then])
    refine bodyPost_ret (ret_cell4 rfl _ _ _ _ _ _ _ _ _ _ _ _ _ (by rfl) (res_block hb12) Try.underlying24 rfl vinfo) rfl ?_
    refine ⟨_, rfl, view_nil _ _, below_set4 (bstep hbb hb2) _ (by omega) _ _ _ _, freshV_nil _⟩
  | true =>
    rcases placeV_spec V x with ⟨hp, _⟩ | ⟨hR, i, hi, hp, _⟩
    · have C1 := Lib.hid (hC1 _ hp)
      have C2' := Lib.hid (C2.out true hr.symm)
      obtain ⟨rfl, rfl⟩ : zeroV = A ∧ 6 = c := by
        rw [withoutV, if_neg (by rw [hr]; decide), if_pos (by omega)] at hA
        injection hA with e1 e2
        exact ⟨e1, e2⟩
      clear hC1 hp hr hA C2
      go_enter Try.func15, Try.ntmps15
      go_wp2_with fail
      refine (C1.out _ ?_).mono ?_
      · exact below_two _ _
      rintro e w1 ⟨rfl, hb1⟩
      obtain ⟨y0, y1, y2, y3⟩ := box_cells (hb1.mono (by simp))
      have hbb := bstep (below_two _ _) hb1
      have hz := size_two (hb1.mono (by simp))
      go_wp2_with fail
      refine (C2'.out _ hbb).mono ?_
      rintro e w2 ⟨rfl, hb2⟩
      have hb12 : Below (w.heap.size + 2) _ w2 := (hb1.mono (by simp)).trans (hb2.mono (by simpa using hz))
      obtain ⟨y0, y1, y2, y3⟩ := box_cells hb12
      obtain ⟨z0, z1, z2, z3⟩ := res_cells hb12
      have f0 := res_frozen hb12 0
      have f1 := res_frozen hb12 1
      have f2 := res_frozen hb12 2
      have f3 := res_frozen hb12 3
      go_wp2_with fail
      (try simp only [Exit.inBlock, Exit.then])
      refine bodyPost_ret (ret_cell4 rfl _ _ _ _ _ _ _ _ _ _ _ _ _ (by rfl) (res_block hb12) Try.underlying24 rfl vinfo) rfl ?_
      refine ⟨_, rfl, view_nil _ _, below_set4 (bstep hbb hb2) _ (by omega) _ _ _ _, freshV_nil _⟩
    · have g1 : ¬ ((i : Int) < 0) := by omega
      have Hi := Lib.hid hi
      by_cases hn1 : V.chain.length = 1
      · have g2 : ((V.chain.length : Int) == 1) = true := by rw [hn1]; rfl
        have C1 := Lib.hid (hC1 _ hp)
        have C2' := Lib.hid (C2.out true hr.symm)
        obtain ⟨rfl, rfl⟩ : zeroV = A ∧ 9 = c := by
          rw [withoutV, if_neg (by rw [hr]; decide), if_neg (by omega), if_pos hn1] at hA
          injection hA with e1 e2
          exact ⟨e1, e2⟩
        clear hn1
        clear hC1 hp hr hA C2
        go_enter Try.func15, Try.ntmps15
        go_wp2_with fail
        refine (C1.out _ ?_).mono ?_
        · exact below_two _ _
        rintro e w1 ⟨rfl, hb1⟩
        obtain ⟨y0, y1, y2, y3⟩ := box_cells (hb1.mono (by simp))
        have hbb := bstep (below_two _ _) hb1
        have hz := size_two (hb1.mono (by simp))
        go_wp2_with fail
        refine (C2'.out _ hbb).mono ?_
        rintro e w2 ⟨rfl, hb2⟩
        have hb12 : Below (w.heap.size + 2) _ w2 := (hb1.mono (by simp)).trans (hb2.mono (by simpa using hz))
        obtain ⟨y0, y1, y2, y3⟩ := box_cells hb12
        obtain ⟨z0, z1, z2, z3⟩ := res_cells hb12
        have f0 := res_frozen hb12 0
        have f1 := res_frozen hb12 1
        have f2 := res_frozen hb12 2
        have f3 := res_frozen hb12 3
        go_wp2_with fail
        (try simp only [Exit.inBlock, Exit.then])
        refine bodyPost_ret (ret_cell4 rfl _ _ _ _ _ _ _ _ _ _ _ _ _ (by rfl) (res_block hb12) Try.underlying24 rfl vinfo) rfl ?_
        refine ⟨_, rfl, view_nil _ _, below_set4 (bstep hbb hb2) _ (by omega) _ _ _ _, freshV_nil _⟩
      · have g2 : ((V.chain.length : Int) == 1) = false := by rw [beq_eq_false_iff_ne]; omega
        by_cases he1 : V.epoch = 274877906944
        · have g3 : (V.epoch == 274877906944) = true := by rw [he1]; rfl
          have C1 := Lib.hid (hC1 _ hp)
          have C2' := Lib.hid (C2.out true hr.symm)
          obtain ⟨rfl, rfl⟩ : zeroV = A ∧ 4 = c := by
            rw [withoutV, if_neg (by rw [hr]; decide), if_neg (by omega), if_neg hn1, if_pos he1] at hA
            injection hA with e1 e2
            exact ⟨e1, e2⟩
          clear he1
          clear hC1 hp hr hA C2
          go_enter Try.func15, Try.ntmps15
          go_wp2_with fail
          refine (C1.out _ ?_).mono ?_
          · exact below_two _ _
          rintro e w1 ⟨rfl, hb1⟩
          obtain ⟨y0, y1, y2, y3⟩ := box_cells (hb1.mono (by simp))
          have hbb := bstep (below_two _ _) hb1
          have hz := size_two (hb1.mono (by simp))
          go_wp2_with fail
          refine (C2'.out _ hbb).mono ?_
          rintro e w2 ⟨rfl, hb2⟩
          have hb12 : Below (w.heap.size + 2) _ w2 := (hb1.mono (by simp)).trans (hb2.mono (by simpa using hz))
          obtain ⟨y0, y1, y2, y3⟩ := box_cells hb12
          obtain ⟨z0, z1, z2, z3⟩ := res_cells hb12
          have f0 := res_frozen hb12 0
          have f1 := res_frozen hb12 1
          have f2 := res_frozen hb12 2
          have f3 := res_frozen hb12 3
          go_wp2_with fail
          (try simp only [Exit.inBlock, Exit.then])
          refine bodyPost_ret (ret_cell4 rfl _ _ _ _ _ _ _ _ _ _ _ _ _ (by rfl) (res_block hb12) Try.underlying24 rfl vinfo) rfl ?_
          refine ⟨_, rfl, view_nil _ _, below_set4 (bstep hbb hb2) _ (by omega) _ _ _ _, freshV_nil _⟩
        · have g3 : (V.epoch == 274877906944) = false := by rw [beq_eq_false_iff_ne]; omega
          obtain ⟨rfl, rfl⟩ : ⟨V.epoch + 1, V.chain.eraseIdx i, V.since.eraseIdx i, V.boot.eraseIdx i⟩ = A ∧ 0 = c := by
            rw [withoutV_ok hR hp hn1 he1] at hA
            injection hA with e1 e2
            exact ⟨e1, e2⟩
          have C1 := Lib.hid (hC1 _ hp)
          have C2' := Lib.hid (C2.out true hr.symm)
          have C3 := Lib.hid (fun (w1 : World) (hb1 : Below w.heap.size w w1) => cut_any B _ V.chain i w1 (H1.out.keep hb1 hB) (Nat.le_trans hB hb1.size) hi (by omega))
          have C4 := Lib.hid (fun (w1 : World) (hb1 : Below w.heap.size w w1) => cut_any B _ V.since i w1 (H2.out.keep hb1 hB) (Nat.le_trans hB hb1.size) (by have := hR.s; omega) (by have := hR.s; omega))
          have C5 := Lib.hid (fun (w1 : World) (hb1 : Below w.heap.size w w1) => cut_any B _ V.boot i w1 (H3.out.keep hb1 hB) (Nat.le_trans hB hb1.size) (by have := hR.b; omega) (by have := hR.b; omega))
          have g4 : 1 ≤ V.epoch := hR.e1
          have g5 : V.epoch ≤ 274877906944 := hR.e2
          have HR := Lib.hid hR
          clear hC1 hp hr hA C2 hR
          go_enter Try.func15, Try.ntmps15
          go_wp2_with fail
          refine (C1.out _ ?_).mono ?_
          · exact below_two _ _
          rintro e w1 ⟨rfl, hb1⟩
          obtain ⟨y0, y1, y2, y3⟩ := box_cells (hb1.mono (by simp))
          have hbb := bstep (below_two _ _) hb1
          have hz := size_two (hb1.mono (by simp))
          go_wp2_with fail
          refine (C2'.out _ hbb).mono ?_
          rintro e w2 ⟨rfl, hb2⟩
          have hb12 : Below (w.heap.size + 2) _ w2 := (hb1.mono (by simp)).trans (hb2.mono (by simpa using hz))
          obtain ⟨y0, y1, y2, y3⟩ := box_cells hb12
          obtain ⟨z0, z1, z2, z3⟩ := res_cells hb12
          have f0 := res_frozen hb12 0
          have f1 := res_frozen hb12 1
          have f2 := res_frozen hb12 2
          have f3 := res_frozen hb12 3
          go_wp2_with fail
          have hh := held_of hb12.drew
          have gw : IntKind.i64.wrap (V.epoch + 1) = V.epoch + 1 := IntWalk.i64_in _ (by omega)
          clear f0 f1 f2 f3 z0 z1 z2 z3
          go_region_held3 (fun W => W.cell? ⟨w.heap.size, 0, none⟩ = some (.int .i64 V.epoch) ∧ W.cell? ⟨w.heap.size, 1, none⟩ = some (.slice a1 V.chain.length k1) ∧ W.cell? ⟨w.heap.size, 2, none⟩ = some (.slice a2 V.since.length k2) ∧ W.cell? ⟨w.heap.size, 3, none⟩ = some (.slice a3 V.boot.length k3) ∧ W.cell? ⟨w.heap.size + 1, 0, none⟩ = some (cellOr W ⟨w.heap.size + 1, 0, none⟩) ∧ W.cell? ⟨w.heap.size + 1, 1, none⟩ = some (cellOr W ⟨w.heap.size + 1, 1, none⟩) ∧ W.cell? ⟨w.heap.size + 1, 2, none⟩ = some (cellOr W ⟨w.heap.size + 1, 2, none⟩) ∧ W.cell? ⟨w.heap.size + 1, 3, none⟩ = some (cellOr W ⟨w.heap.size + 1, 3, none⟩) ∧ W.frozen? ⟨w.heap.size + 1, 0, none⟩ = false ∧ W.frozen? ⟨w.heap.size + 1, 1, none⟩ = false ∧ W.frozen? ⟨w.heap.size + 1, 2, none⟩ = false ∧ W.frozen? ⟨w.heap.size + 1, 3, none⟩ = false ∧ w.heap.size + 2 ≤ W.heap.size ∧ Below (w.heap.size + 1) (w.alloc (.cells #[.int .i64 V.epoch, .slice a1 V.chain.length k1, .slice a2 V.since.length k2, .slice a3 V.boot.length k3] 24)) W)
            (first | exact hh | exact held_keep (by assumption) (by assumption) | exact held_set (by assumption))
            (first
              | ((with_reducible refine (C3.out _ ?_).mono ?_); exact held_below (by assumption); rintro e w3 ⟨v3, rfl, o3, hb3⟩; obtain ⟨q3, m3, rfl⟩ := own_form o3)
              | ((with_reducible refine (C4.out _ ?_).mono ?_); exact held_below (by assumption); rintro e w4 ⟨v4, rfl, o4, hb4⟩; obtain ⟨q4, m4, rfl⟩ := own_form o4)
              | ((with_reducible refine (C5.out _ ?_).mono ?_); exact held_below (by assumption); rintro e w5 ⟨v5, rfl, o5, hb5⟩; obtain ⟨q5, m5, rfl⟩ := own_form o5))
          go_wp2_with fail
          (try simp only [Exit.inBlock, Exit.then])
          have hz2 := size_two hb12
          have hz3 := hb3.size
          have hz4 := hb4.size
          rw [World.size_drew] at hz3
          have hfin := below_more (below_more (below_more hb12.drew (by rw [World.size_drew]; omega) hb3) (by omega) hb4) (by omega) hb5
          refine bodyPost_ret (ret_cell4 rfl _ _ _ _ _ _ _ _ _ _ _ _ _ (by rfl) (res_block hfin) Try.underlying24 rfl vinfo) rfl ?_
          refine ⟨_, rfl, ⟨⟨by simp only; omega, by simp only; omega⟩, _, _, _, rfl, ?_, ?_, ?_⟩, below_set4 (below_two' hfin) _ (by omega) _ _ _ _, ⟨_, _, _, _, rfl, (fun j hj => by have := (o3.lt j hj).1; rw [World.size_drew] at this; omega), (fun j hj => by have := (o4.lt j hj).1; omega), (fun j hj => by have := (o5.lt j hj).1; omega)⟩⟩
          · exact own_ints (own_set4 (own_below hb5 (own_below hb4 o3)) _ (by rw [World.size_drew]; omega) _ _ _ _) (fun n hn => H1.out.at_.2.2.2.2.1 n (List.mem_of_mem_eraseIdx hn))
          · exact own_ints (own_set4 (own_below hb5 o4) _ (by omega) _ _ _ _) (fun n hn => H2.out.at_.2.2.2.2.1 n (List.mem_of_mem_eraseIdx hn))
          · exact own_ints (own_set4 o5 _ (by omega) _ _ _ _) (fun n hn => H3.out.at_.2.2.2.2.1 n (List.mem_of_mem_eraseIdx hn))

theorem without_any (B : Nat) (v : Value) (V : VW) (x : Int) (A : VW) (c : Nat) (hA : withoutV V x = (A, c)) (w : World) (h : IsView B w v V) (hB : B ≤ w.heap.size) (hsm : SmallV V) :
    Calls Try.prog 15 #[v, .int .i64 x] w fun e w' => ∃ va, e = .returned (.tuple #[va, .int .i64 c]) ∧ IsView w'.heap.size w' va A ∧ Below w.heap.size w w' :=
  (without_fresh B v V x A c hA w h hB hsm).mono fun _ _ ⟨va, h1, h2, h3, _⟩ => ⟨va, h1, h2, h3⟩
end Go.Proofs.Ytigojackdkaanaa
