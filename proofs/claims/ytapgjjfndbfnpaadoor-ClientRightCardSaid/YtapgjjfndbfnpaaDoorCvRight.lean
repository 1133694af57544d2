/-
  The walk of view.Right and of small.
-/
import Derived.Test.YtapgjjfndbfnpaaDoorCvPlain
namespace Go.Proofs.YtapgjjfndbfnpaaDoor.Vw
open Go.RowKit

def SmallV (V : VW) : Prop := V.chain.length ≤ 20 ∧ V.since.length ≤ 20 ∧ V.boot.length ≤ 20
instance (V : VW) : Decidable (SmallV V) := inferInstanceAs (Decidable (_ ∧ _ ∧ _))

theorem okAt_step (V : VW) (k : Nat) (ci si bi : Int) (hk : k < V.chain.length) (hs : V.since.length = V.chain.length) (hb : V.boot.length = V.chain.length)
    (h1 : V.chain[k] = ci) (h2 : V.since[k] = si) (h3 : V.boot[k] = bi) :
    OkAt V k ↔ (1 ≤ ci ∧ ci ≤ 100 ∧ ci ∉ V.chain.take k ∧ prevI V.since k ≤ si ∧ 1 ≤ si ∧ si ≤ V.epoch ∧ 0 ≤ bi ∧ bi ≤ 274877906944) := by
  have e1 : V.chain.getD k 0 = ci := by rw [List.getD_eq_getElem?_getD, List.getElem?_eq_getElem hk]; exact h1
  have e2 : V.since.getD k 0 = si := by rw [List.getD_eq_getElem?_getD, List.getElem?_eq_getElem (by omega)]; exact h2
  have e3 : V.boot.getD k 0 = bi := by rw [List.getD_eq_getElem?_getD, List.getElem?_eq_getElem (by omega)]; exact h3
  unfold OkAt
  rw [e1, e2, e3]

set_option maxRecDepth 100000 in
set_option maxHeartbeats 3200000 in
theorem right_any (B : Nat) (v : Value) (V : VW) (w : World) (h : IsView B w v V) (hB : B ≤ w.heap.size) (hsm : SmallV V) (b : Bool) (hb : b = rightB V) :
    Calls Tryd.prog 37 #[v] w fun e w' => e = .returned (.bool b) ∧ Below w.heap.size w w' := by
  obtain ⟨he, c, s, bt, rfl, h1, h2, h3⟩ := h
  have H1 := Lib.hid h1
  have H2 := Lib.hid h2
  have H3 := Lib.hid h3
  obtain ⟨a1, k1, rfl⟩ := h1.form
  obtain ⟨a2, k2, rfl⟩ := h2.form
  obtain ⟨a3, k3, rfl⟩ := h3.form
  obtain ⟨l1, l2, l3⟩ := hsm
  have Hb := Lib.hid hb
  clear hb
  by_cases hpre : 1 ≤ V.epoch ∧ V.epoch ≤ 274877906944 ∧ 1 ≤ V.chain.length ∧ V.chain.length ≤ 6 ∧ V.since.length = V.chain.length ∧ V.boot.length = V.chain.length
  · obtain ⟨p1, p2, p3, p4, p5, p6⟩ := hpre
    have g5 : ((V.since.length : Int) != (V.chain.length : Int)) = false := by rw [bne_eq_false_iff_eq]; omega
    have g6 : ((V.boot.length : Int) != (V.chain.length : Int)) = false := by rw [bne_eq_false_iff_eq]; omega
    have P5 := Lib.hid p5
    have P6 := Lib.hid p6
    clear p5 p6
    go_enter Tryd.func37, Tryd.ntmps37
    go_wp2_with fail
    go_loopw [4, 5, 6, 43] (fun _ _ _ t43 wr => ∃ k : Nat, k ≤ V.chain.length ∧ t43 = .int .i64 k ∧ (∀ i, i < k → OkAt V i) ∧
      Below (w.heap.size + 1) (w.alloc (.cells #[.int .i64 V.epoch, .slice a1 V.chain.length k1, .slice a2 V.since.length k2, .slice a3 V.boot.length k3] 82)) wr) (fun _ _ _ i _ => V.chain.length - (intOf i).toNat)
    case atStart => exact ⟨0, Nat.zero_le _, rfl, fun i h => absurd h (by omega), Below.refl _ _⟩
    case round =>
      obtain ⟨k, hk, rfl, hok, hb0⟩ := hrel
      have Hok := Lib.hid hok
      clear hok
      have hbw : Below w.heap.size w wr := ((Below.refl _ w).alloc (Nat.le_refl _) _).trans (hb0.mono (Nat.le_succ _))
      have hsz : w.heap.size < wr.heap.size := by have := hb0.size; rw [World.size_alloc] at this; omega
      by_cases hlt : k < V.chain.length
      · have y0 : wr.cell? ⟨w.heap.size, 0, none⟩ = some (.int .i64 V.epoch) := (hb0.cell (p := ⟨w.heap.size, 0, none⟩) (Nat.lt_succ_self _)).trans (by simp)
        have y1 : wr.cell? ⟨w.heap.size, 1, none⟩ = some (.slice a1 V.chain.length k1) := (hb0.cell (p := ⟨w.heap.size, 1, none⟩) (Nat.lt_succ_self _)).trans (by simp)
        have y2 : wr.cell? ⟨w.heap.size, 2, none⟩ = some (.slice a2 V.since.length k2) := (hb0.cell (p := ⟨w.heap.size, 2, none⟩) (Nat.lt_succ_self _)).trans (by simp)
        have y3 : wr.cell? ⟨w.heap.size, 3, none⟩ = some (.slice a3 V.boot.length k3) := (hb0.cell (p := ⟨w.heap.size, 3, none⟩) (Nat.lt_succ_self _)).trans (by simp)
        have I1 := Lib.hid (H1.out.keep hbw hB)
        have I2 := Lib.hid (H2.out.keep hbw hB)
        have I3 := Lib.hid (H3.out.keep hbw hB)
        obtain ⟨b1, o1, k1', he1, _, hcap1, hcell1⟩ := I1.out.get k hlt
        obtain ⟨rfl, -, rfl⟩ : a1 = some ⟨b1, o1, none⟩ ∧ V.chain.length = V.chain.length ∧ k1 = k1' := by injection he1 with e1 e2 e3; exact ⟨e1, e2, e3⟩
        obtain ⟨b2, o2, k2', he2, _, _, hcell2⟩ := I2.out.get k (by have := P5.out; omega)
        obtain ⟨rfl, -, rfl⟩ : a2 = some ⟨b2, o2, none⟩ ∧ V.since.length = V.since.length ∧ k2 = k2' := by injection he2 with e1 e2 e3; exact ⟨e1, e2, e3⟩
        obtain ⟨b3, o3, k3', he3, _, _, hcell3⟩ := I3.out.get k (by have := P6.out; omega)
        obtain ⟨rfl, -, rfl⟩ : a3 = some ⟨b3, o3, none⟩ ∧ V.boot.length = V.boot.length ∧ k3 = k3' := by injection he3 with e1 e2 e3; exact ⟨e1, e2, e3⟩
        clear he1 he2 he3
        obtain ⟨ci, hci⟩ : ∃ x, V.chain[k] = x := ⟨_, rfl⟩
        obtain ⟨si, hsi⟩ : ∃ x, V.since[k]'(by have := P5.out; omega) = x := ⟨_, rfl⟩
        obtain ⟨bi, hbi⟩ : ∃ x, V.boot[k]'(by have := P6.out; omega) = x := ⟨_, rfl⟩
        have Hstep := Lib.hid (okAt_step V k ci si bi hlt P5.out P6.out hci hsi hbi)
        rw [hci] at hcell1
        rw [hsi] at hcell2
        rw [hbi] at hcell3
        have i1 : (0 : Int) ≤ (k : Int) := by omega
        have i2 : (k : Int) < (V.chain.length : Int) := by omega
        have i3 : (k : Int) < (V.since.length : Int) := by have := P5.out; omega
        have i4 : (k : Int) < (V.boot.length : Int) := by have := P6.out; omega
        have i5 : (k : Int) ≤ (k1 : Int) := by omega
        clear hci hsi hbi
        by_cases q1 : 1 ≤ ci ∧ ci ≤ 100
        · obtain ⟨q1, q2⟩ := q1
          by_cases q3 : ci ∈ V.chain.take k
          · have C1 := Lib.hid (contains_any B _ _ ci wr (I1.out.cut k (by omega)) (by rw [List.length_take]; omega) true (by simp [q3]))
            have Q3 := Lib.hid q3
            clear q3
            go_wp2_with fail
            refine C1.out.mono ?_
            rintro e w2 ⟨rfl, rfl⟩
            go_wp2_with fail
            all_goals
              go_ret
              refine ⟨ret_bool ?_, hbw⟩
              rw [Hb.out]
              exact (rightB_no fun h => (Hstep.out.1 (h.ok k hlt)).2.2.1 Q3.out).symm
          · have C1 := Lib.hid (contains_any B _ _ ci wr (I1.out.cut k (by omega)) (by rw [List.length_take]; omega) false (by simp [q3]))
            have Q3 := Lib.hid q3
            clear q3
            obtain ⟨pr, hpr⟩ : ∃ x, prevI V.since k = x := ⟨_, rfl⟩
            have C2 := Lib.hid (at_any B _ V.since ((k : Int) - 1) pr hpr wr I2.out)
            rw [hpr] at Hstep
            clear hpr
            go_wp2_with fail
            refine C1.out.mono ?_
            rintro e w2 ⟨rfl, rfl⟩
            go_wp2_with fail
            refine C2.out.mono ?_
            rintro e w3 ⟨rfl, hb3⟩
            have z0 : w3.cell? ⟨w.heap.size, 0, none⟩ = some (.int .i64 V.epoch) := (hb3.cell (p := ⟨w.heap.size, 0, none⟩) hsz).trans y0
            have z3 : w3.cell? ⟨w.heap.size, 3, none⟩ = some (.slice (some ⟨b3, o3, none⟩) V.boot.length k3) := (hb3.cell (p := ⟨w.heap.size, 3, none⟩) hsz).trans y3
            have z4 : w3.cell? ⟨b3, o3 + k, none⟩ = some (.int .i64 bi) := (hb3.cell (p := ⟨b3, o3 + k, none⟩) (World.block_lt_of_cell? _ _ hcell3)).trans hcell3
            go_wp2_with fail
            all_goals first
              | (go_ret
                 refine ⟨ret_bool ?_, bstep hbw hb3⟩
                 rw [Hb.out]
                 exact (rightB_no fun h => by have := Hstep.out.1 (h.ok k hlt); omega).symm)
              | (go_roundw
                 case rel =>
                   refine ⟨k + 1, by omega, by go_num, fun i hi => ?_, hb0.trans (hb3.mono (by omega))⟩
                   rcases Nat.lt_or_ge i k with h | h
                   · exact Hok.out i h
                   · obtain rfl : i = k := by omega
                     exact Hstep.out.2 ⟨by omega, by omega, Q3.out, by omega, by omega, by omega, by omega, by omega⟩
                 case measure => simp [intOf]; omega)
        · go_wp2_with fail
          all_goals first
            | (go_ret
               refine ⟨ret_bool ?_, hbw⟩
               rw [Hb.out]
               exact (rightB_no fun h => by have := Hstep.out.1 (h.ok k hlt); omega).symm)
            | (exfalso; omega)
      · have g : ¬ ((k : Int) < (V.chain.length : Int)) := by omega
        go_wp2_with fail
        go_ret
        refine ⟨ret_bool ?_, hbw⟩
        rw [Hb.out]
        exact (rightB_of ⟨p1, p2, p3, p4, P5.out, P6.out, fun i hi => Hok.out i (by omega)⟩).symm
  · have hn : b = false := by rw [Hb.out]; exact rightB_no (fun h => hpre ⟨h.e1, h.e2, h.n1, h.n2, h.s, h.b⟩)
    subst hn
    go_enter Tryd.func37, Tryd.ntmps37
    go_wp2_with fail
    all_goals first
      | (go_ret; exact ⟨rfl, (Below.refl _ _).alloc (Nat.le_refl _) _⟩)
      | (exfalso; simp only [bne_eq_false_iff_eq] at *; omega)
end Go.Proofs.YtapgjjfndbfnpaaDoor.Vw
