/-
  The walks of bucketlinelaw18.as, bucketlineref18.Same and bucketlinelaw18.same. Printed by gen_vwsame.py of this claim's writer.
-/
import Derived.Test.YtigojackdkaanaaVwBox
import Derived.BigQuiet
namespace Go.Proofs.Ytigojackdkaanaa
open Go.RowKit

def sameV (V U : VW) : Bool := decide (V.epoch = U.epoch ∧ V.chain = U.chain ∧ V.since = U.since ∧ V.boot = U.boot)
theorem sameV_no {V U : VW} (h : ¬ (V.epoch = U.epoch ∧ V.chain = U.chain ∧ V.since = U.since ∧ V.boot = U.boot)) : sameV V U = false := decide_eq_false h
theorem sameV_yes {V U : VW} (e0 : V.epoch = U.epoch) (e1 : V.chain = U.chain) (e2 : V.since = U.since) (e3 : V.boot = U.boot) : sameV V U = true := decide_eq_true ⟨e0, e1, e2, e3⟩
theorem sameV_self (V : VW) : sameV V V = true := sameV_yes rfl rfl rfl rfl

theorem rinfo : (Try.prog.info? 41).map (·.size) = some 4 := by kernel_rfl

/-- What comes back, where the one result is a cell of four that has just been stored. -/
theorem ret_row4 {P : Program} {fn : Func} {p : Tmp} {ty t : TypeId} (h : fn.results = #[.cell p ty]) (tmps : Array Value) (w : World) (g : Nat) (z0 z1 z2 z3 v0 v1 v2 v3 : Value) (fr : Nat × Nat) (d : TypeDesc)
    (hp : tmps.getD p undef = .pointer (some ⟨g, 0, none⟩)) (hg : w.heap[g]? = some (.cells #[z0, z1, z2, z3] t fr))
    (hu : P.underlying ty = some d) (hd : (match d with | .struct _ | .array _ _ => true | _ => false) = true) (hi : (P.info? ty).map (·.size) = some 4) :
    (results fn tmps).run P ((((w.setCell ⟨g, 0, none⟩ v0).setCell ⟨g, 1, none⟩ v1).setCell ⟨g, 2, none⟩ v2).setCell ⟨g, 3, none⟩ v3) =
      .ok (.agg #[v0, v1, v2, v3]) ((((w.setCell ⟨g, 0, none⟩ v0).setCell ⟨g, 1, none⟩ v1).setCell ⟨g, 2, none⟩ v2).setCell ⟨g, 3, none⟩ v3) := by
  have hb := block_set (block_set (block_set (block_set hg 0 v0) 1 v1) 2 v2) 3 v3
  exact results_cell_row (P := P) h tmps _ g t _ fr d hp hb hu hd (by rw [hi]; simp)

set_option maxHeartbeats 800000 in
theorem as_any (B : Nat) (v : Value) (V : VW) (w : World) (h : IsView B w v V) :
    Calls Try.prog 28 #[v] w fun e w' => e = .returned v ∧ Below w.heap.size w w' := by
  obtain ⟨he, cc, s, bt, rfl, h1, h2, h3⟩ := h
  obtain ⟨a1, k1, rfl⟩ := h1.form
  obtain ⟨a2, k2, rfl⟩ := h2.form
  obtain ⟨a3, k3, rfl⟩ := h3.form
  go_enter Try.func28, Try.ntmps28
  go_wp2_with fail
  (try simp only [Exit.inBlock, Exit.then])
  refine bodyPost_ret (results_cell_row rfl _ _ (w.heap.size + 1) _ _ _ _ (by rfl) (heap_alloc2_new w _ _) Try.underlying41 rfl rinfo) rfl ?_
  exact ⟨rfl, below_two _ _⟩

set_option maxRecDepth 100000 in
set_option maxHeartbeats 3200000 in
theorem refSame_any (B B2 : Nat) (v u : Value) (V U : VW) (w : World) (h : IsView B w v V) (h2 : IsView B2 w u U) (hB : B ≤ w.heap.size) (hB2 : B2 ≤ w.heap.size) (hsm : SmallV V) (b : Bool) (hb : b = sameV V U) :
    Calls Try.prog 64 #[v, u] w fun e w' => e = .returned (.bool b) ∧ Below w.heap.size w w' := by
  obtain ⟨he, cc, s, bt, rfl, h1, h2', h3⟩ := h
  have H1 := Lib.hid h1
  have H2 := Lib.hid h2'
  have H3 := Lib.hid h3
  obtain ⟨a1, k1, rfl⟩ := h1.form
  obtain ⟨a2, k2, rfl⟩ := h2'.form
  obtain ⟨a3, k3, rfl⟩ := h3.form
  obtain ⟨he2, cc, s, bt, rfl, g1, g2, g3⟩ := h2
  have G1 := Lib.hid g1
  have G2 := Lib.hid g2
  have G3 := Lib.hid g3
  obtain ⟨b1, m1, rfl⟩ := g1.form
  obtain ⟨b2, m2, rfl⟩ := g2.form
  obtain ⟨b3, m3, rfl⟩ := g3.form
  obtain ⟨s1, s2, s3⟩ := hsm
  have Hb := Lib.hid hb
  clear hb h1 h2' h3 g1 g2 g3
  by_cases hpre : V.epoch = U.epoch ∧ V.chain.length = U.chain.length ∧ V.since.length = U.since.length ∧ V.boot.length = U.boot.length
  · obtain ⟨p0, p1, p2, p3⟩ := hpre
    have q0 : (V.epoch != U.epoch) = false := by rw [bne_eq_false_iff_eq]; exact p0
    have q1 : ((V.chain.length : Int) != (U.chain.length : Int)) = false := by rw [bne_eq_false_iff_eq]; omega
    have q2 : ((V.since.length : Int) != (U.since.length : Int)) = false := by rw [bne_eq_false_iff_eq]; omega
    have q3 : ((V.boot.length : Int) != (U.boot.length : Int)) = false := by rw [bne_eq_false_iff_eq]; omega
    have E0 := Lib.hid p0
    have L1 := Lib.hid p1
    have L2 := Lib.hid p2
    have L3 := Lib.hid p3
    clear p0 p1 p2 p3
    go_enter Try.func64, Try.ntmps64
    go_wp2_with fail
    go_loopw [4, 5] (fun _ t5 wr => ∃ k : Nat, k ≤ V.chain.length ∧ t5 = .int .i64 k ∧ V.chain.take k = U.chain.take k ∧
      Below (w.heap.size + 2) ((w.alloc (.cells #[.int .i64 V.epoch, .slice a1 V.chain.length k1, .slice a2 V.since.length k2, .slice a3 V.boot.length k3] 41)).alloc (.cells #[.int .i64 U.epoch, .slice b1 U.chain.length m1, .slice b2 U.since.length m2, .slice b3 U.boot.length m3] 41)) wr) (fun _ i _ => V.chain.length - (intOf i).toNat)
    case atStart => exact ⟨0, Nat.zero_le _, rfl, rfl, Below.refl _ _⟩
    case round =>
      obtain ⟨k, hk, rfl, hok, hb0⟩ := hrel
      have Hok := Lib.hid hok
      clear hok
      obtain ⟨y0, y1, y2, y3⟩ := box_cells hb0
      obtain ⟨z0, z1, z2, z3⟩ := res_cells hb0
      have hbw := below_two' hb0
      by_cases hlt : k < V.chain.length
      · have hlt2 : k < U.chain.length := by have := L1.out; omega
        obtain ⟨c1, off, cap', he, _, _, hcell⟩ := (H1.out.keep hbw hB).get k hlt
        obtain ⟨rfl, -, rfl⟩ : a1 = some ⟨c1, off, none⟩ ∧ V.chain.length = V.chain.length ∧ k1 = cap' := by injection he with e1 e2 e3; exact ⟨e1, e2, e3⟩
        clear he
        obtain ⟨c2, off2, cap2', he, _, _, hcell2⟩ := (G1.out.keep hbw hB2).get k hlt2
        obtain ⟨rfl, -, rfl⟩ : b1 = some ⟨c2, off2, none⟩ ∧ U.chain.length = U.chain.length ∧ m1 = cap2' := by injection he with e1 e2 e3; exact ⟨e1, e2, e3⟩
        clear he
        obtain ⟨x, hx⟩ : ∃ x, V.chain[k] = x := ⟨_, rfl⟩
        obtain ⟨y, hy⟩ : ∃ y, U.chain[k] = y := ⟨_, rfl⟩
        rw [hx] at hcell
        rw [hy] at hcell2
        have i1 : (0 : Int) ≤ (k : Int) := by omega
        have i2 : (k : Int) < (V.chain.length : Int) := by omega
        have i3 : (k : Int) < (U.chain.length : Int) := by omega
        have Hx := Lib.hid hx
        have Hy := Lib.hid hy
        clear hx hy
        by_cases hxy : x = y
        · subst hxy
          go_wp2_with fail
          go_quiet (fail)
          go_wp2_with fail
          go_roundw
          case rel =>
            refine ⟨k + 1, by omega, by go_num, ?_, below_drewN hb0 _⟩
            rw [List.take_succ_eq_append_getElem hlt, List.take_succ_eq_append_getElem hlt2, Hok.out, Hx.out, Hy.out]
          case measure => simp [intOf]; omega
        · have g : (x != y) = true := by rw [bne_iff_ne]; exact hxy
          go_wp2_with fail
          go_quiet (fail)
          go_wp2_with fail
          go_ret
          refine ⟨ret_bool ?_, below_drewN hbw _⟩
          rw [Hb.out]
          refine (sameV_no fun h => ?_).symm
          exact hxy (Hx.out.symm.trans ((by simp only [h.2.1] : V.chain[k] = U.chain[k]).trans Hy.out))
      · have g : ¬ ((k : Int) < (V.chain.length : Int)) := by omega
        have D1 := Lib.hid (show V.chain = U.chain by
          have hkl : k = V.chain.length := by omega
          have h1 := Hok.out
          rw [hkl, List.take_length, L1.out, List.take_length] at h1
          exact h1)
        clear Hok
        go_wp2_with fail
        go_loopw [4, 6] (fun _ t6 wr => ∃ k : Nat, k ≤ V.since.length ∧ t6 = .int .i64 k ∧ V.since.take k = U.since.take k ∧
          Below (w.heap.size + 2) ((w.alloc (.cells #[.int .i64 V.epoch, .slice a1 V.chain.length k1, .slice a2 V.since.length k2, .slice a3 V.boot.length k3] 41)).alloc (.cells #[.int .i64 U.epoch, .slice b1 U.chain.length m1, .slice b2 U.since.length m2, .slice b3 U.boot.length m3] 41)) wr) (fun _ i _ => V.since.length - (intOf i).toNat)
        case atStart => exact ⟨0, Nat.zero_le _, rfl, rfl, hb0⟩
        case round =>
          obtain ⟨k, hk, rfl, hok, hb0⟩ := hrel
          have Hok := Lib.hid hok
          clear hok
          obtain ⟨y0, y1, y2, y3⟩ := box_cells hb0
          obtain ⟨z0, z1, z2, z3⟩ := res_cells hb0
          have hbw := below_two' hb0
          by_cases hlt : k < V.since.length
          · have hlt2 : k < U.since.length := by have := L2.out; omega
            obtain ⟨c1, off, cap', he, _, _, hcell⟩ := (H2.out.keep hbw hB).get k hlt
            obtain ⟨rfl, -, rfl⟩ : a2 = some ⟨c1, off, none⟩ ∧ V.since.length = V.since.length ∧ k2 = cap' := by injection he with e1 e2 e3; exact ⟨e1, e2, e3⟩
            clear he
            obtain ⟨c2, off2, cap2', he, _, _, hcell2⟩ := (G2.out.keep hbw hB2).get k hlt2
            obtain ⟨rfl, -, rfl⟩ : b2 = some ⟨c2, off2, none⟩ ∧ U.since.length = U.since.length ∧ m2 = cap2' := by injection he with e1 e2 e3; exact ⟨e1, e2, e3⟩
            clear he
            obtain ⟨x, hx⟩ : ∃ x, V.since[k] = x := ⟨_, rfl⟩
            obtain ⟨y, hy⟩ : ∃ y, U.since[k] = y := ⟨_, rfl⟩
            rw [hx] at hcell
            rw [hy] at hcell2
            have i1 : (0 : Int) ≤ (k : Int) := by omega
            have i2 : (k : Int) < (V.since.length : Int) := by omega
            have i3 : (k : Int) < (U.since.length : Int) := by omega
            have Hx := Lib.hid hx
            have Hy := Lib.hid hy
            clear hx hy
            by_cases hxy : x = y
            · subst hxy
              go_wp2_with fail
              go_quiet (fail)
              go_wp2_with fail
              go_roundw
              case rel =>
                refine ⟨k + 1, by omega, by go_num, ?_, below_drewN hb0 _⟩
                rw [List.take_succ_eq_append_getElem hlt, List.take_succ_eq_append_getElem hlt2, Hok.out, Hx.out, Hy.out]
              case measure => simp [intOf]; omega
            · have g : (x != y) = true := by rw [bne_iff_ne]; exact hxy
              go_wp2_with fail
              go_quiet (fail)
              go_wp2_with fail
              go_ret
              refine ⟨ret_bool ?_, below_drewN hbw _⟩
              rw [Hb.out]
              refine (sameV_no fun h => ?_).symm
              exact hxy (Hx.out.symm.trans ((by simp only [h.2.2.1] : V.since[k] = U.since[k]).trans Hy.out))
          · have g : ¬ ((k : Int) < (V.since.length : Int)) := by omega
            have D2 := Lib.hid (show V.since = U.since by
              have hkl : k = V.since.length := by omega
              have h1 := Hok.out
              rw [hkl, List.take_length, L2.out, List.take_length] at h1
              exact h1)
            clear Hok
            go_wp2_with fail
            go_loopw [4, 7] (fun _ t7 wr => ∃ k : Nat, k ≤ V.boot.length ∧ t7 = .int .i64 k ∧ V.boot.take k = U.boot.take k ∧
              Below (w.heap.size + 2) ((w.alloc (.cells #[.int .i64 V.epoch, .slice a1 V.chain.length k1, .slice a2 V.since.length k2, .slice a3 V.boot.length k3] 41)).alloc (.cells #[.int .i64 U.epoch, .slice b1 U.chain.length m1, .slice b2 U.since.length m2, .slice b3 U.boot.length m3] 41)) wr) (fun _ i _ => V.boot.length - (intOf i).toNat)
            case atStart => exact ⟨0, Nat.zero_le _, rfl, rfl, hb0⟩
            case round =>
              obtain ⟨k, hk, rfl, hok, hb0⟩ := hrel
              have Hok := Lib.hid hok
              clear hok
              obtain ⟨y0, y1, y2, y3⟩ := box_cells hb0
              obtain ⟨z0, z1, z2, z3⟩ := res_cells hb0
              have hbw := below_two' hb0
              by_cases hlt : k < V.boot.length
              · have hlt2 : k < U.boot.length := by have := L3.out; omega
                obtain ⟨c1, off, cap', he, _, _, hcell⟩ := (H3.out.keep hbw hB).get k hlt
                obtain ⟨rfl, -, rfl⟩ : a3 = some ⟨c1, off, none⟩ ∧ V.boot.length = V.boot.length ∧ k3 = cap' := by injection he with e1 e2 e3; exact ⟨e1, e2, e3⟩
                clear he
                obtain ⟨c2, off2, cap2', he, _, _, hcell2⟩ := (G3.out.keep hbw hB2).get k hlt2
                obtain ⟨rfl, -, rfl⟩ : b3 = some ⟨c2, off2, none⟩ ∧ U.boot.length = U.boot.length ∧ m3 = cap2' := by injection he with e1 e2 e3; exact ⟨e1, e2, e3⟩
                clear he
                obtain ⟨x, hx⟩ : ∃ x, V.boot[k] = x := ⟨_, rfl⟩
                obtain ⟨y, hy⟩ : ∃ y, U.boot[k] = y := ⟨_, rfl⟩
                rw [hx] at hcell
                rw [hy] at hcell2
                have i1 : (0 : Int) ≤ (k : Int) := by omega
                have i2 : (k : Int) < (V.boot.length : Int) := by omega
                have i3 : (k : Int) < (U.boot.length : Int) := by omega
                have Hx := Lib.hid hx
                have Hy := Lib.hid hy
                clear hx hy
                by_cases hxy : x = y
                · subst hxy
                  go_wp2_with fail
                  go_quiet (fail)
                  go_wp2_with fail
                  go_roundw
                  case rel =>
                    refine ⟨k + 1, by omega, by go_num, ?_, below_drewN hb0 _⟩
                    rw [List.take_succ_eq_append_getElem hlt, List.take_succ_eq_append_getElem hlt2, Hok.out, Hx.out, Hy.out]
                  case measure => simp [intOf]; omega
                · have g : (x != y) = true := by rw [bne_iff_ne]; exact hxy
                  go_wp2_with fail
                  go_quiet (fail)
                  go_wp2_with fail
                  go_ret
                  refine ⟨ret_bool ?_, below_drewN hbw _⟩
                  rw [Hb.out]
                  refine (sameV_no fun h => ?_).symm
                  exact hxy (Hx.out.symm.trans ((by simp only [h.2.2.2] : V.boot[k] = U.boot[k]).trans Hy.out))
              · have g : ¬ ((k : Int) < (V.boot.length : Int)) := by omega
                have D3 := Lib.hid (show V.boot = U.boot by
                  have hkl : k = V.boot.length := by omega
                  have h1 := Hok.out
                  rw [hkl, List.take_length, L3.out, List.take_length] at h1
                  exact h1)
                clear Hok
                go_wp2_with fail
                go_ret
                refine ⟨ret_bool ?_, hbw⟩
                rw [Hb.out]
                exact (sameV_yes E0.out D1.out D2.out D3.out).symm
  · have hn : b = false := by
      rw [Hb.out]
      exact sameV_no fun h => hpre ⟨h.1, by rw [h.2.1], by rw [h.2.2.1], by rw [h.2.2.2]⟩
    subst hn
    go_enter Try.func64, Try.ntmps64
    go_wp2_with fail
    all_goals first
      | (go_ret; exact ⟨rfl, below_two _ _⟩)
      | (exfalso; simp only [bne_eq_false_iff_eq] at *; omega)

set_option maxHeartbeats 800000 in
theorem same_any (B B2 : Nat) (v u : Value) (V U : VW) (w : World) (h : IsView B w v V) (h2 : IsView B2 w u U) (hB : B ≤ w.heap.size) (hB2 : B2 ≤ w.heap.size) (hsm : SmallV V) (b : Bool) (hb : b = sameV V U) :
    Calls Try.prog 38 #[v, u] w fun e w' => e = .returned (.bool b) ∧ Below w.heap.size w w' := by
  have C1 := Lib.hid (fun (w1 : World) (hb1 : Below w.heap.size w w1) => as_any B v V w1 (h.keep hb1 hB))
  have C2 := Lib.hid (fun (w1 : World) (hb1 : Below w.heap.size w w1) => refSame_any B B2 v u V U w1 (h.keep hb1 hB) (h2.keep hb1 hB2) (Nat.le_trans hB hb1.size) (Nat.le_trans hB2 hb1.size) hsm b hb)
  obtain ⟨he, cc, s, bt, rfl, h1, h2', h3⟩ := h
  obtain ⟨a1, k1, rfl⟩ := h1.form
  obtain ⟨a2, k2, rfl⟩ := h2'.form
  obtain ⟨a3, k3, rfl⟩ := h3.form
  obtain ⟨he2, cc, s, bt, rfl, g1, g2, g3⟩ := h2
  obtain ⟨b1, m1, rfl⟩ := g1.form
  obtain ⟨b2, m2, rfl⟩ := g2.form
  obtain ⟨b3, m3, rfl⟩ := g3.form
  clear hb h1 h2' h3 g1 g2 g3
  have hb0 := Below.refl (w.heap.size + 2) ((w.alloc (.cells #[.int .i64 V.epoch, .slice a1 V.chain.length k1, .slice a2 V.since.length k2, .slice a3 V.boot.length k3] 24)).alloc (.cells #[.int .i64 U.epoch, .slice b1 U.chain.length m1, .slice b2 U.since.length m2, .slice b3 U.boot.length m3] 41))
  go_enter Try.func38, Try.ntmps38
  go_wp2_with fail
  obtain ⟨y0, y1, y2, y3⟩ := box_cells hb0.drew
  obtain ⟨z0, z1, z2, z3⟩ := res_cells hb0.drew
  have hh : (((w.alloc (.cells #[.int .i64 V.epoch, .slice a1 V.chain.length k1, .slice a2 V.since.length k2, .slice a3 V.boot.length k3] 24)).alloc (.cells #[.int .i64 U.epoch, .slice b1 U.chain.length m1, .slice b2 U.since.length m2, .slice b3 U.boot.length m3] 41)).drew).cell? ⟨w.heap.size, 0, none⟩ = some (.int .i64 V.epoch) ∧ (((w.alloc (.cells #[.int .i64 V.epoch, .slice a1 V.chain.length k1, .slice a2 V.since.length k2, .slice a3 V.boot.length k3] 24)).alloc (.cells #[.int .i64 U.epoch, .slice b1 U.chain.length m1, .slice b2 U.since.length m2, .slice b3 U.boot.length m3] 41)).drew).cell? ⟨w.heap.size, 1, none⟩ = some (.slice a1 V.chain.length k1) ∧ (((w.alloc (.cells #[.int .i64 V.epoch, .slice a1 V.chain.length k1, .slice a2 V.since.length k2, .slice a3 V.boot.length k3] 24)).alloc (.cells #[.int .i64 U.epoch, .slice b1 U.chain.length m1, .slice b2 U.since.length m2, .slice b3 U.boot.length m3] 41)).drew).cell? ⟨w.heap.size, 2, none⟩ = some (.slice a2 V.since.length k2) ∧ (((w.alloc (.cells #[.int .i64 V.epoch, .slice a1 V.chain.length k1, .slice a2 V.since.length k2, .slice a3 V.boot.length k3] 24)).alloc (.cells #[.int .i64 U.epoch, .slice b1 U.chain.length m1, .slice b2 U.since.length m2, .slice b3 U.boot.length m3] 41)).drew).cell? ⟨w.heap.size, 3, none⟩ = some (.slice a3 V.boot.length k3) ∧ (((w.alloc (.cells #[.int .i64 V.epoch, .slice a1 V.chain.length k1, .slice a2 V.since.length k2, .slice a3 V.boot.length k3] 24)).alloc (.cells #[.int .i64 U.epoch, .slice b1 U.chain.length m1, .slice b2 U.since.length m2, .slice b3 U.boot.length m3] 41)).drew).cell? ⟨w.heap.size + 1, 0, none⟩ = some (.int .i64 U.epoch) ∧ (((w.alloc (.cells #[.int .i64 V.epoch, .slice a1 V.chain.length k1, .slice a2 V.since.length k2, .slice a3 V.boot.length k3] 24)).alloc (.cells #[.int .i64 U.epoch, .slice b1 U.chain.length m1, .slice b2 U.since.length m2, .slice b3 U.boot.length m3] 41)).drew).cell? ⟨w.heap.size + 1, 1, none⟩ = some (.slice b1 U.chain.length m1) ∧ (((w.alloc (.cells #[.int .i64 V.epoch, .slice a1 V.chain.length k1, .slice a2 V.since.length k2, .slice a3 V.boot.length k3] 24)).alloc (.cells #[.int .i64 U.epoch, .slice b1 U.chain.length m1, .slice b2 U.since.length m2, .slice b3 U.boot.length m3] 41)).drew).cell? ⟨w.heap.size + 1, 2, none⟩ = some (.slice b2 U.since.length m2) ∧ (((w.alloc (.cells #[.int .i64 V.epoch, .slice a1 V.chain.length k1, .slice a2 V.since.length k2, .slice a3 V.boot.length k3] 24)).alloc (.cells #[.int .i64 U.epoch, .slice b1 U.chain.length m1, .slice b2 U.since.length m2, .slice b3 U.boot.length m3] 41)).drew).cell? ⟨w.heap.size + 1, 3, none⟩ = some (.slice b3 U.boot.length m3) ∧ w.heap.size + 2 ≤ (((w.alloc (.cells #[.int .i64 V.epoch, .slice a1 V.chain.length k1, .slice a2 V.since.length k2, .slice a3 V.boot.length k3] 24)).alloc (.cells #[.int .i64 U.epoch, .slice b1 U.chain.length m1, .slice b2 U.since.length m2, .slice b3 U.boot.length m3] 41)).drew).heap.size ∧ Below (w.heap.size + 2) ((w.alloc (.cells #[.int .i64 V.epoch, .slice a1 V.chain.length k1, .slice a2 V.since.length k2, .slice a3 V.boot.length k3] 24)).alloc (.cells #[.int .i64 U.epoch, .slice b1 U.chain.length m1, .slice b2 U.since.length m2, .slice b3 U.boot.length m3] 41)) (((w.alloc (.cells #[.int .i64 V.epoch, .slice a1 V.chain.length k1, .slice a2 V.since.length k2, .slice a3 V.boot.length k3] 24)).alloc (.cells #[.int .i64 U.epoch, .slice b1 U.chain.length m1, .slice b2 U.since.length m2, .slice b3 U.boot.length m3] 41)).drew) := ⟨y0, y1, y2, y3, z0, z1, z2, z3, size_two hb0.drew, hb0.drew⟩
  have keep : ∀ W W' : World, (W.cell? ⟨w.heap.size, 0, none⟩ = some (.int .i64 V.epoch) ∧ W.cell? ⟨w.heap.size, 1, none⟩ = some (.slice a1 V.chain.length k1) ∧ W.cell? ⟨w.heap.size, 2, none⟩ = some (.slice a2 V.since.length k2) ∧ W.cell? ⟨w.heap.size, 3, none⟩ = some (.slice a3 V.boot.length k3) ∧ W.cell? ⟨w.heap.size + 1, 0, none⟩ = some (.int .i64 U.epoch) ∧ W.cell? ⟨w.heap.size + 1, 1, none⟩ = some (.slice b1 U.chain.length m1) ∧ W.cell? ⟨w.heap.size + 1, 2, none⟩ = some (.slice b2 U.since.length m2) ∧ W.cell? ⟨w.heap.size + 1, 3, none⟩ = some (.slice b3 U.boot.length m3) ∧ w.heap.size + 2 ≤ W.heap.size ∧ Below (w.heap.size + 2) ((w.alloc (.cells #[.int .i64 V.epoch, .slice a1 V.chain.length k1, .slice a2 V.since.length k2, .slice a3 V.boot.length k3] 24)).alloc (.cells #[.int .i64 U.epoch, .slice b1 U.chain.length m1, .slice b2 U.since.length m2, .slice b3 U.boot.length m3] 41)) W) → Below W.heap.size W W' → W'.cell? ⟨w.heap.size, 0, none⟩ = some (.int .i64 V.epoch) ∧ W'.cell? ⟨w.heap.size, 1, none⟩ = some (.slice a1 V.chain.length k1) ∧ W'.cell? ⟨w.heap.size, 2, none⟩ = some (.slice a2 V.since.length k2) ∧ W'.cell? ⟨w.heap.size, 3, none⟩ = some (.slice a3 V.boot.length k3) ∧ W'.cell? ⟨w.heap.size + 1, 0, none⟩ = some (.int .i64 U.epoch) ∧ W'.cell? ⟨w.heap.size + 1, 1, none⟩ = some (.slice b1 U.chain.length m1) ∧ W'.cell? ⟨w.heap.size + 1, 2, none⟩ = some (.slice b2 U.since.length m2) ∧ W'.cell? ⟨w.heap.size + 1, 3, none⟩ = some (.slice b3 U.boot.length m3) ∧ w.heap.size + 2 ≤ W'.heap.size ∧ Below (w.heap.size + 2) ((w.alloc (.cells #[.int .i64 V.epoch, .slice a1 V.chain.length k1, .slice a2 V.since.length k2, .slice a3 V.boot.length k3] 24)).alloc (.cells #[.int .i64 U.epoch, .slice b1 U.chain.length m1, .slice b2 U.since.length m2, .slice b3 U.boot.length m3] 41)) W' := by
    rintro W W' ⟨_, _, _, _, _, _, _, _, hz, hk⟩ k
    have hk' := below_more hk hz k
    obtain ⟨u0, u1, u2, u3⟩ := box_cells hk'
    obtain ⟨t0, t1, t2, t3⟩ := res_cells hk'
    exact ⟨u0, u1, u2, u3, t0, t1, t2, t3, size_two hk', hk'⟩
  have low : ∀ W : World, (W.cell? ⟨w.heap.size, 0, none⟩ = some (.int .i64 V.epoch) ∧ W.cell? ⟨w.heap.size, 1, none⟩ = some (.slice a1 V.chain.length k1) ∧ W.cell? ⟨w.heap.size, 2, none⟩ = some (.slice a2 V.since.length k2) ∧ W.cell? ⟨w.heap.size, 3, none⟩ = some (.slice a3 V.boot.length k3) ∧ W.cell? ⟨w.heap.size + 1, 0, none⟩ = some (.int .i64 U.epoch) ∧ W.cell? ⟨w.heap.size + 1, 1, none⟩ = some (.slice b1 U.chain.length m1) ∧ W.cell? ⟨w.heap.size + 1, 2, none⟩ = some (.slice b2 U.since.length m2) ∧ W.cell? ⟨w.heap.size + 1, 3, none⟩ = some (.slice b3 U.boot.length m3) ∧ w.heap.size + 2 ≤ W.heap.size ∧ Below (w.heap.size + 2) ((w.alloc (.cells #[.int .i64 V.epoch, .slice a1 V.chain.length k1, .slice a2 V.since.length k2, .slice a3 V.boot.length k3] 24)).alloc (.cells #[.int .i64 U.epoch, .slice b1 U.chain.length m1, .slice b2 U.since.length m2, .slice b3 U.boot.length m3] 41)) W) → Below w.heap.size w W := fun W h => below_two' h.2.2.2.2.2.2.2.2.2
  clear y0 y1 y2 y3 z0 z1 z2 z3
  go_region_held3 (fun W => W.cell? ⟨w.heap.size, 0, none⟩ = some (.int .i64 V.epoch) ∧ W.cell? ⟨w.heap.size, 1, none⟩ = some (.slice a1 V.chain.length k1) ∧ W.cell? ⟨w.heap.size, 2, none⟩ = some (.slice a2 V.since.length k2) ∧ W.cell? ⟨w.heap.size, 3, none⟩ = some (.slice a3 V.boot.length k3) ∧ W.cell? ⟨w.heap.size + 1, 0, none⟩ = some (.int .i64 U.epoch) ∧ W.cell? ⟨w.heap.size + 1, 1, none⟩ = some (.slice b1 U.chain.length m1) ∧ W.cell? ⟨w.heap.size + 1, 2, none⟩ = some (.slice b2 U.since.length m2) ∧ W.cell? ⟨w.heap.size + 1, 3, none⟩ = some (.slice b3 U.boot.length m3) ∧ w.heap.size + 2 ≤ W.heap.size ∧ Below (w.heap.size + 2) ((w.alloc (.cells #[.int .i64 V.epoch, .slice a1 V.chain.length k1, .slice a2 V.since.length k2, .slice a3 V.boot.length k3] 24)).alloc (.cells #[.int .i64 U.epoch, .slice b1 U.chain.length m1, .slice b2 U.since.length m2, .slice b3 U.boot.length m3] 41)) W) (first | exact hh | exact keep _ _ (by assumption) (by assumption))
    (first
      | ((with_reducible refine (C1.out _ ?_).mono ?_); exact low _ (by assumption); rintro e w1 ⟨rfl, hb1⟩)
      | ((with_reducible refine (C2.out _ ?_).mono ?_); exact low _ (by assumption); rintro e w2 ⟨rfl, hb2⟩))
  go_wp2_with fail
  go_ret
  exact ⟨rfl, low _ (by assumption)⟩
end Go.Proofs.Ytigojackdkaanaa
