/-
  The walk of bucketlinelaw18.ViewBack. Printed by gen_vwlaw1.py of this claim's writer.
-/
import Derived.Test.YtigojackdkaanaaVwShown
import Derived.BigQuiet
import Derived.IntWalk
namespace Go.Proofs.Ytigojackdkaanaa
open Go.RowKit

theorem wf64 {a : Int} (h : (Lit.int .i64 a).wf = true) : I64 a := by
  simpa [I64, Lit.wf, IntKind.min, IntKind.max, IntKind.signed, IntKind.bits] using h

set_option maxRecDepth 100000 in
set_option maxHeartbeats 6400000 in
theorem walkViewBack (v : Value) (x : Int) (wx : (Lit.int .i64 x).wf = true) (W : World) (h : ∃ V, IsView W.heap.size W v V) :
    Calls Try.prog 3 #[v, .int .i64 x] W fun e W' => e = .returned (.bool true) ∧ Below W.heap.size W W' := by
  obtain ⟨V, hv⟩ := h
  have hx64 := wf64 wx
  have HV := Lib.hid hv
  have C1 := Lib.hid shown_any
  have C2' := Lib.hid (fun (b : Bool) (hb : b = decide (SmallV V)) (w1 : World) (hb1 : Below W.heap.size W w1) => smallV_any W.heap.size v V b hb w1 (hv.keep hb1 (Nat.le_refl _)))
  obtain ⟨he64, cc, s, bt, rfl, h1, h2, h3⟩ := hv
  have H1 := Lib.hid h1
  have H2 := Lib.hid h2
  have H3 := Lib.hid h3
  obtain ⟨a1, k1, rfl⟩ := h1.form
  obtain ⟨a2, k2, rfl⟩ := h2.form
  obtain ⟨a3, k3, rfl⟩ := h3.form
  clear h1 h2 h3 wx
  by_cases hs : SmallV V
  · have C2 := Lib.hid (C2'.out true (decide_eq_true hs).symm)
    have C3' := Lib.hid (fun (p : Int) (hp : placeV V x = p) (w1 : World) (hb1 : Below W.heap.size W w1) => place_any W.heap.size _ V x p hp w1 (HV.out.keep hb1 (Nat.le_refl _)) hb1.size hs)
    rcases placeV_spec V x with ⟨hp, _⟩ | ⟨hR, i, hi, hp, hxi⟩
    · have C3 := Lib.hid (C3'.out _ hp)
      clear hp
      go_enter Try.func3, Try.ntmps3
      go_wp2_with fail
      refine (C1.out _).mono ?_
      rintro e w1 ⟨rfl, hb1⟩
      have bx1 : Below (W.heap.size + 1) _ w1 := hb1.mono (by simp)
      obtain ⟨y0, y1, y2, y3⟩ := box4 bx1
      have hz1 : W.heap.size + 1 ≤ w1.heap.size := by have := bx1.size; simpa using this
      go_wp2_with fail
      refine (C2.out _ (below_one' bx1)).mono ?_
      rintro e w2 ⟨rfl, hb2⟩
      have bx2 := below_more bx1 hz1 hb2
      obtain ⟨y0, y1, y2, y3⟩ := box4 bx2
      have hz2 : W.heap.size + 1 ≤ w2.heap.size := Nat.le_trans hz1 hb2.size
      go_wp2_with fail
      refine (C3.out _ (below_one' bx2)).mono ?_
      rintro e w3 ⟨rfl, hb3⟩
      have bx3 := below_more bx2 hz2 hb3
      obtain ⟨y0, y1, y2, y3⟩ := box4 bx3
      have hz3 : W.heap.size + 1 ≤ w3.heap.size := Nat.le_trans hz2 hb3.size
      go_wp2_with fail
      go_ret
      exact ⟨rfl, below_one' bx3⟩
    · have C3 := Lib.hid (C3'.out _ hp)
      have g1 : ¬ ((i : Int) < 0) := by omega
      by_cases hn : (V.chain.length : Int) < 2
      · clear hp hR hxi
        go_enter Try.func3, Try.ntmps3
        go_wp2_with fail
        refine (C1.out _).mono ?_
        rintro e w1 ⟨rfl, hb1⟩
        have bx1 : Below (W.heap.size + 1) _ w1 := hb1.mono (by simp)
        obtain ⟨y0, y1, y2, y3⟩ := box4 bx1
        have hz1 : W.heap.size + 1 ≤ w1.heap.size := by have := bx1.size; simpa using this
        go_wp2_with fail
        refine (C2.out _ (below_one' bx1)).mono ?_
        rintro e w2 ⟨rfl, hb2⟩
        have bx2 := below_more bx1 hz1 hb2
        obtain ⟨y0, y1, y2, y3⟩ := box4 bx2
        have hz2 : W.heap.size + 1 ≤ w2.heap.size := Nat.le_trans hz1 hb2.size
        go_wp2_with fail
        refine (C3.out _ (below_one' bx2)).mono ?_
        rintro e w3 ⟨rfl, hb3⟩
        have bx3 := below_more bx2 hz2 hb3
        obtain ⟨y0, y1, y2, y3⟩ := box4 bx3
        have hz3 : W.heap.size + 1 ≤ w3.heap.size := Nat.le_trans hz2 hb3.size
        go_wp2_with fail
        go_ret
        exact ⟨rfl, below_one' bx3⟩
      · by_cases he : 274877906942 < V.epoch
        · clear hp hR hxi
          go_enter Try.func3, Try.ntmps3
          go_wp2_with fail
          refine (C1.out _).mono ?_
          rintro e w1 ⟨rfl, hb1⟩
          have bx1 : Below (W.heap.size + 1) _ w1 := hb1.mono (by simp)
          obtain ⟨y0, y1, y2, y3⟩ := box4 bx1
          have hz1 : W.heap.size + 1 ≤ w1.heap.size := by have := bx1.size; simpa using this
          go_wp2_with fail
          refine (C2.out _ (below_one' bx1)).mono ?_
          rintro e w2 ⟨rfl, hb2⟩
          have bx2 := below_more bx1 hz1 hb2
          obtain ⟨y0, y1, y2, y3⟩ := box4 bx2
          have hz2 : W.heap.size + 1 ≤ w2.heap.size := Nat.le_trans hz1 hb2.size
          go_wp2_with fail
          refine (C3.out _ (below_one' bx2)).mono ?_
          rintro e w3 ⟨rfl, hb3⟩
          have bx3 := below_more bx2 hz2 hb3
          obtain ⟨y0, y1, y2, y3⟩ := box4 bx3
          have hz3 : W.heap.size + 1 ≤ w3.heap.size := Nat.le_trans hz2 hb3.size
          go_wp2_with fail
          go_ret
          exact ⟨rfl, below_one' bx3⟩
        · obtain ⟨i', hi', hp', hxi', A, Bv, eA, eB, ee, et, eb, ec, es, ebt, el, sA, sB⟩ := back_plain (V := V) (x := x) (by omega) (by omega) (by omega)
          obtain rfl : i = i' := by omega
          have L := hR.list
          have hi2 : i < V.since.length := by rw [L.s]; exact hi
          have hi3 : i < V.boot.length := by rw [L.b]; exact hi
          have hls : V.since.length = V.chain.length := L.s
          have hlb : V.boot.length = V.chain.length := L.b
          have hn6 := L.n2
          have he1 := L.e1
          have EB1 := Lib.hid ec
          have EB2 := Lib.hid es
          have EB3 := Lib.hid ebt
          have EE := Lib.hid ee
          have ET := Lib.hid et
          have EBo := Lib.hid eb
          have ELS := Lib.hid hls
          have ELB := Lib.hid hlb
          have EL := Lib.hid el
          have HR := Lib.hid hR
          have Hxi := Lib.hid hxi
          have LB2 := Lib.hid (show Bv.since.length = V.since.length by rw [es, List.length_append, List.length_eraseIdx, if_pos hi2, List.length_singleton]; omega)
          have LB3 := Lib.hid (show Bv.boot.length = V.boot.length by rw [ebt, List.length_append, List.length_eraseIdx, if_pos hi3, List.length_singleton]; omega)
          have g5 : ((Bv.chain.length : Int) != (V.chain.length : Int)) = false := by rw [bne_eq_false_iff_eq]; omega
          have g6 : (Bv.epoch != IntKind.i64.wrap (V.epoch + 2)) = false := by rw [bne_eq_false_iff_eq, IntWalk.i64_in _ (by omega)]; exact ee
          have g6' : (Bv.epoch != V.epoch + 2) = false := by rw [bne_eq_false_iff_eq]; exact ee
          clear hp hp' hR hxi hxi' hi' ec es ebt ee et eb hls hlb el L
          go_enter Try.func3, Try.ntmps3
          go_wp2_with fail
          refine (C1.out _).mono ?_
          rintro e w1 ⟨rfl, hb1⟩
          have bx1 : Below (W.heap.size + 1) _ w1 := hb1.mono (by simp)
          obtain ⟨y0, y1, y2, y3⟩ := box4 bx1
          have hz1 : W.heap.size + 1 ≤ w1.heap.size := by have := bx1.size; simpa using this
          go_wp2_with fail
          refine (C2.out _ (below_one' bx1)).mono ?_
          rintro e w2 ⟨rfl, hb2⟩
          have bx2 := below_more bx1 hz1 hb2
          obtain ⟨y0, y1, y2, y3⟩ := box4 bx2
          have hz2 : W.heap.size + 1 ≤ w2.heap.size := Nat.le_trans hz1 hb2.size
          go_wp2_with fail
          refine (C3.out _ (below_one' bx2)).mono ?_
          rintro e w3 ⟨rfl, hb3⟩
          have bx3 := below_more bx2 hz2 hb3
          obtain ⟨y0, y1, y2, y3⟩ := box4 bx3
          have hz3 : W.heap.size + 1 ≤ w3.heap.size := Nat.le_trans hz2 hb3.size
          go_wp2_with fail
          refine (without_any W.heap.size _ V x A 0 eA _ (HV.out.keep (below_one' bx3) (Nat.le_refl _)) (below_one' bx3).size hs).mono ?_
          rintro e w4 ⟨va, rfl, hva, hb4⟩
          have bx4 := below_more bx3 hz3 hb4
          have hz4 : W.heap.size + 1 ≤ w4.heap.size := Nat.le_trans hz3 hb4.size
          obtain ⟨q1, r1, q2, r2, q3, r3, rfl⟩ := hva.form
          have HVA := Lib.hid hva
          clear hva
          go_wp2_with fail
          refine (with_any w4.heap.size _ A x 7 Bv 0 eB _ (view_alloc HVA.out (Nat.le_refl _) _) (le_alloc (Nat.le_refl _) _) sA hx64 (by constructor <;> decide)).mono ?_
          rintro e w5 ⟨vb, rfl, hvb, hb5⟩
          have bx5 := below_more (bx4.alloc hz4 _) (by rw [World.size_alloc]; omega) hb5
          have hz5 : W.heap.size + 1 ≤ w5.heap.size := by have := bx5.size; simpa using this
          obtain ⟨hbe64, vc, vs, vbt, rfl, g1', g2', g3'⟩ := (⟨hvb.1, hvb.2⟩ : IsView w5.heap.size w5 vb Bv)
          have HVB := Lib.hid hvb
          have G1 := Lib.hid g1'
          have G2 := Lib.hid g2'
          have G3 := Lib.hid g3'
          obtain ⟨c1, m1, rfl⟩ := g1'.form
          obtain ⟨c2, m2, rfl⟩ := g2'.form
          obtain ⟨c3, m3, rfl⟩ := g3'.form
          clear g1' g2' g3' hvb
          have bw := Below.refl (w5.heap.size + 1) (w5.alloc (.cells #[.int .i64 Bv.epoch, .slice c1 Bv.chain.length m1, .slice c2 Bv.since.length m2, .slice c3 Bv.boot.length m3] 24))
          have bx5' := bx5.alloc hz5 (.cells #[.int .i64 Bv.epoch, .slice c1 Bv.chain.length m1, .slice c2 Bv.since.length m2, .slice c3 Bv.boot.length m3] 24)
          obtain ⟨y0, y1, y2, y3⟩ := box4 bx5'
          have hvb5 := Lib.hid (view_alloc HVB.out (Nat.le_refl _) (.cells #[.int .i64 Bv.epoch, .slice c1 Bv.chain.length m1, .slice c2 Bv.since.length m2, .slice c3 Bv.boot.length m3] 24))
          go_wp2_with fail
          refine (tail_any w5.heap.size _ Bv x ET.out _ hvb5.out (by simp) sB).mono ?_
          rintro e w6 ⟨rfl, hb6⟩
          have bw6 : Below (w5.heap.size + 1) _ w6 := hb6.mono (by simp)
          obtain ⟨z0, z1, z2, z3⟩ := box4 bw6
          have bx6 := below_more bx5' (by simp; omega) hb6
          obtain ⟨y0, y1, y2, y3⟩ := box4 bx6
          have hz6 : w5.heap.size + 1 ≤ w6.heap.size := by have := bw6.size; simpa using this
          go_wp2_with fail
          refine (boot_any w5.heap.size _ Bv x 7 EBo.out _ (HVB.out.keep (below_one' bw6) (Nat.le_refl _)) (by omega) sB).mono ?_
          rintro e w7 ⟨rfl, hb7⟩
          have bw7 := below_more bw6 hz6 hb7
          obtain ⟨z0, z1, z2, z3⟩ := box4 bw7
          have bx7 := below_more bx6 (by omega) hb7
          obtain ⟨y0, y1, y2, y3⟩ := box4 bx7
          go_wp2_with fail
          go_loopw [4, 11, 12] (fun _ t11 t12 wr => ∃ j : Nat, j ≤ V.chain.length ∧ t12 = .int .i64 j ∧ t11 = .int .i64 ((if j ≤ i then j else j - 1 : Nat) : Int) ∧ ∃ n, wr = w7.drewN n) (fun _ _ t12 _ => V.chain.length - (intOf t12).toNat)
          case atStart => exact ⟨0, Nat.zero_le _, rfl, by simp, 0, rfl⟩
          case round =>
            obtain ⟨j, hj, rfl, rfl, nd, rfl⟩ := hrel
            obtain ⟨kk, hkk0⟩ : ∃ kk, (if j ≤ i then j else j - 1) = kk := ⟨_, rfl⟩
            rw [hkk0]
            have i0 : (0 : Int) ≤ (j : Int) := by omega
            have i1 : (0 : Int) ≤ (kk : Int) := by omega
            by_cases hlt : j < V.chain.length
            · have hlt2 : j < V.since.length := by have := ELS.out; omega
              have hlt3 : j < V.boot.length := by have := ELB.out; omega
              have bwr := below_one' bx7
              have bwr5 := below_one' bw7
              obtain ⟨b1, o1, k1', he1, _, _, hc1⟩ := (H1.out.keep bwr (Nat.le_refl _)).get j hlt
              obtain ⟨rfl, -, rfl⟩ : a1 = some ⟨b1, o1, none⟩ ∧ V.chain.length = V.chain.length ∧ k1 = k1' := by injection he1 with e1 e2 e3; exact ⟨e1, e2, e3⟩
              clear he1
              obtain ⟨b2, o2, k2', he1, _, _, hc2⟩ := (H2.out.keep bwr (Nat.le_refl _)).get j hlt2
              obtain ⟨rfl, -, rfl⟩ : a2 = some ⟨b2, o2, none⟩ ∧ V.since.length = V.since.length ∧ k2 = k2' := by injection he1 with e1 e2 e3; exact ⟨e1, e2, e3⟩
              clear he1
              obtain ⟨b3, o3, k3', he1, _, _, hc3⟩ := (H3.out.keep bwr (Nat.le_refl _)).get j hlt3
              obtain ⟨rfl, -, rfl⟩ : a3 = some ⟨b3, o3, none⟩ ∧ V.boot.length = V.boot.length ∧ k3 = k3' := by injection he1 with e1 e2 e3; exact ⟨e1, e2, e3⟩
              clear he1
              by_cases hji : j = i
              · subst hji
                rw [Hxi.out] at hc1
                have iv1 : (j : Int) < (V.chain.length : Int) := by omega
                have HK0 := Lib.hid hkk0
                clear hkk0
                go_wp2_with fail
                go_roundw
                case rel =>
                  refine ⟨j + 1, by omega, by go_num, ?_, _, rfl⟩
                  have := HK0.out
                  rw [if_pos (Nat.le_refl _)] at this
                  rw [if_neg (by omega)]
                  subst this
                  simp
                case measure => simp [intOf]; omega
              · have hkk1 : kk < Bv.chain.length := by rw [EL.out, ← hkk0]; split <;> omega
                have hkk2 : kk < Bv.since.length := by rw [LB2.out, ← hkk0]; split <;> omega
                have hkk3 : kk < Bv.boot.length := by rw [LB3.out, ← hkk0]; split <;> omega
                have gx : (V.chain[j] == x) = false := by
                  rw [beq_eq_false_iff_ne]
                  intro e
                  have nd := HR.out.list.nd
                  rw [List.nodup_iff_pairwise_ne, List.pairwise_iff_getElem] at nd
                  rcases Nat.lt_or_ge j i with h | h
                  · exact nd j i hlt hi h (e.trans Hxi.out.symm)
                  · exact nd i j hi hlt (by omega) (Hxi.out.trans e.symm)
                have hkk00 : (if j < i then j else j - 1) = kk := by rw [← hkk0]; split <;> split <;> omega
                have HK0 := Lib.hid hkk0
                replace hkk0 := Lib.hid hkk00
                clear hkk00
                obtain ⟨d1, p1, m1', he1, _, _, hd1⟩ := (G1.out.keep bwr5 (Nat.le_refl _)).get kk hkk1
                obtain ⟨rfl, -, rfl⟩ : c1 = some ⟨d1, p1, none⟩ ∧ Bv.chain.length = Bv.chain.length ∧ m1 = m1' := by injection he1 with e1 e2 e3; exact ⟨e1, e2, e3⟩
                clear he1
                have ev1 : Bv.chain[kk] = V.chain[j] := by
                  have := erase_get V.chain i j x hlt hi hji
                  rw [← EB1.out, hkk0.out, getD_lt hkk1] at this
                  exact this
                rw [ev1] at hd1
                obtain ⟨x1, hx1⟩ : ∃ x, V.chain[j] = x := ⟨_, rfl⟩
                rw [hx1] at hc1 hd1 gx
                clear ev1 hx1
                have ig1 : (kk : Int) < (Bv.chain.length : Int) := by omega
                have iv1 : (j : Int) < (V.chain.length : Int) := by omega
                obtain ⟨d2, p2, m2', he1, _, _, hd2⟩ := (G2.out.keep bwr5 (Nat.le_refl _)).get kk hkk2
                obtain ⟨rfl, -, rfl⟩ : c2 = some ⟨d2, p2, none⟩ ∧ Bv.since.length = Bv.since.length ∧ m2 = m2' := by injection he1 with e1 e2 e3; exact ⟨e1, e2, e3⟩
                clear he1
                have ev2 : Bv.since[kk] = V.since[j] := by
                  have := erase_get V.since i j (V.epoch + 2) hlt2 hi2 hji
                  rw [← EB2.out, hkk0.out, getD_lt hkk2] at this
                  exact this
                rw [ev2] at hd2
                obtain ⟨x2, hx2⟩ : ∃ x, V.since[j] = x := ⟨_, rfl⟩
                rw [hx2] at hc2 hd2
                clear ev2 hx2
                have ig2 : (kk : Int) < (Bv.since.length : Int) := by omega
                have iv2 : (j : Int) < (V.since.length : Int) := by omega
                obtain ⟨d3, p3, m3', he1, _, _, hd3⟩ := (G3.out.keep bwr5 (Nat.le_refl _)).get kk hkk3
                obtain ⟨rfl, -, rfl⟩ : c3 = some ⟨d3, p3, none⟩ ∧ Bv.boot.length = Bv.boot.length ∧ m3 = m3' := by injection he1 with e1 e2 e3; exact ⟨e1, e2, e3⟩
                clear he1
                have ev3 : Bv.boot[kk] = V.boot[j] := by
                  have := erase_get V.boot i j 7 hlt3 hi3 hji
                  rw [← EB3.out, hkk0.out, getD_lt hkk3] at this
                  exact this
                rw [ev3] at hd3
                obtain ⟨x3, hx3⟩ : ∃ x, V.boot[j] = x := ⟨_, rfl⟩
                rw [hx3] at hc3 hd3
                clear ev3 hx3
                have ig3 : (kk : Int) < (Bv.boot.length : Int) := by omega
                have iv3 : (j : Int) < (V.boot.length : Int) := by omega
                go_wp2_with fail
                go_quiet (fail)
                go_wp2_with fail
                go_roundw
                case rel =>
                  refine ⟨j + 1, by omega, by go_num, ?_, _, rfl⟩
                  have := HK0.out
                  have e : (if j + 1 ≤ i then j + 1 else j + 1 - 1) = kk + 1 := by
                    rw [← this]
                    split <;> split <;> omega
                  rw [e]
                  have hkb : kk ≤ 6 := by have := EL.out; omega
                  clear e this
                  have hw : wrap64 ((kk : Int) + 1) = (kk : Int) + 1 := by unfold wrap64; omega
                  simp [hw]
                case measure => simp [intOf]; omega
            · have g : ¬ ((j : Int) < (V.chain.length : Int)) := by omega
              clear hkk0
              go_wp2_with fail
              go_ret
              exact ⟨rfl, below_drewN (below_one' bx7) _⟩
  · have C2 := Lib.hid (C2'.out false (decide_eq_false hs).symm)
    go_enter Try.func3, Try.ntmps3
    go_wp2_with fail
    refine (C1.out _).mono ?_
    rintro e w1 ⟨rfl, hb1⟩
    have bx1 : Below (W.heap.size + 1) _ w1 := hb1.mono (by simp)
    obtain ⟨y0, y1, y2, y3⟩ := box4 bx1
    have hz1 : W.heap.size + 1 ≤ w1.heap.size := by have := bx1.size; simpa using this
    go_wp2_with fail
    refine (C2.out _ (below_one' bx1)).mono ?_
    rintro e w2 ⟨rfl, hb2⟩
    have bx2 := below_more bx1 hz1 hb2
    obtain ⟨y0, y1, y2, y3⟩ := box4 bx2
    have hz2 : W.heap.size + 1 ≤ w2.heap.size := Nat.le_trans hz1 hb2.size
    go_wp2_with fail
    go_ret
    exact ⟨rfl, below_one' bx2⟩
end Go.Proofs.Ytigojackdkaanaa
