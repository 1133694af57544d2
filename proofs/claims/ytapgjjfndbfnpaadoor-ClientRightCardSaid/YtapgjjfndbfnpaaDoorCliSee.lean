/-
  The walks of (*client.Client).see and Tick.
-/
import Derived.Test.YtapgjjfndbfnpaaDoorCliApp
namespace Go.Proofs.YtapgjjfndbfnpaaDoor
open Go.RowKit
set_option linter.unusedSimpArgs false
set_option linter.unusedVariables false

def ClR.seen (R : ClR) (V : Vw.VW) (cv sv bv : Value) : ClR := { R with s := { R.s with v := V }, cv := cv, sv := sv, bv := bv }
theorem ClM.seen {X : Nat → Prop} {lo c : Nat} {w : World} {R : ClR} (h : ClM X lo w c R) (V : Vw.VW) (cv sv bv : Value) (hep : Vw.I64 V.epoch) (hsm : Vw.SmallV V)
    (h1 : InA (fun k => R.mut c k ∨ X k) w cv V.chain) (h2 : InA (fun k => R.mut c k ∨ X k) w sv V.since) (h3 : InA (fun k => R.mut c k ∨ X k) w bv V.boot) :
    ClM X lo ((((w.setCell ⟨c, 6, none⟩ (.int .i64 V.epoch)).setCell ⟨c, 7, none⟩ cv).setCell ⟨c, 8, none⟩ sv).setCell ⟨c, 9, none⟩ bv) c (R.seen V cv sv bv) ∧
    Step c R (R.seen V cv sv bv) w ((((w.setCell ⟨c, 6, none⟩ (.int .i64 V.epoch)).setCell ⟨c, 7, none⟩ cv).setCell ⟨c, 8, none⟩ sv).setCell ⟨c, 9, none⟩ bv) := by
  have st : Step c R (R.seen V cv sv bv) w ((((w.setCell ⟨c, 6, none⟩ (.int .i64 V.epoch)).setCell ⟨c, 7, none⟩ cv).setCell ⟨c, 8, none⟩ sv).setCell ⟨c, 9, none⟩ bv) :=
    ⟨((((Kept.refl _ w).store ⟨c, 6, none⟩ (.inl (.inl rfl)) _).store ⟨c, 7, none⟩ (.inl (.inl rfl)) _).store ⟨c, 8, none⟩ (.inl (.inl rfl)) _).store ⟨c, 9, none⟩ (.inl (.inl rfl)) _, fun _ _ h => h⟩
  refine ⟨⟨h.hlo, ?_, Vw.own_set_ne (Vw.own_set_ne (Vw.own_set_ne (Vw.own_set_ne h.own c 6 h.ne _) c 7 h.ne _) c 8 h.ne _) c 9 h.ne _, h.ops, h.ne, h.bevK st, h.evvK st, hep, hsm, h.wh, ina_k h1 st, ina_k h2 st, ina_k h3 st, h.xltK st, h.xneK st⟩, st⟩
  exact block_set2 (block_set2 (block_set2 (block_set2 h.blk 6 _) 7 _) 8 _) 9 _
/-- What is new is in nobody's block. -/
theorem ina_new {X : Nat → Prop} {lo c B : Nat} {w0 w : World} {R : ClR} (h : ClM X lo w0 c R) {v : Value} {l : List Int} (hi : Vw.IsInts w.heap.size w v l) (hf : ∀ j, v.ownBlock = some j → B ≤ j) (hB : w0.heap.size ≤ B) : InA (fun k => R.mut c k ∨ X k) w v l :=
  ⟨hi, fun _ k hk hu => by
    have := hf k hk
    rcases hu with hu | hu
    · have := (h.mutlo k hu).2; omega
    · have := h.xlt k hu; omega⟩

set_option maxRecDepth 100000 in
set_option maxHeartbeats 1600000 in
theorem see_no (X : Nat → Prop) (lo c : Nat) (R : ClR) (w : World) (h : ClM X lo w c R) (v : Value) (V : Vw.VW) (hv : Vw.IsView w.heap.size w v V) (hsm : Vw.SmallV V) (now : Int) (hr : Vw.rightB V = false) :
    Calls Tryd.prog 35 #[.pointer (some ⟨c, 0, none⟩), v, .int .i64 now] w fun e w' => ∃ v, e = .returned v ∧ Does X lo c R w R.s [] v w' := by
  have HH := Lib.hid h
  have HV := Lib.hid hv
  obtain ⟨hep, cv, sv, bv, rfl, i1, i2, i3⟩ := hv
  obtain ⟨b1, l1, rfl⟩ := i1.form
  obtain ⟨b2, l2, rfl⟩ := i2.form
  obtain ⟨b3, l3, rfl⟩ := i3.form
  have CO := Lib.hid (fun (X' : World) (hb : Below w.heap.size w X') => Vw.of_false w.heap.size _ V X' (HV.out.keep hb (Nat.le_refl _)) hb.size hsm hr)
  have HA := Lib.hid ((Below.refl w.heap.size w).alloc (Nat.le_refl _) (.cells #[.int .i64 V.epoch, .slice b1 V.chain.length l1, .slice b2 V.since.length l2, .slice b3 V.boot.length l3] 27))
  clear h hep i1 i2 i3 hr
  go_enter Tryd.func35, Tryd.ntmps35
  go_wp2_with fail
  refine (CO.out _ HA.out).mono ?_
  rintro e w1 ⟨vw, rfl, hvw, hb1, -⟩
  obtain ⟨-, cv2, sv2, bv2, rfl, j1, j2, j3⟩ := hvw
  obtain ⟨a1, k1, rfl⟩ := j1.form
  obtain ⟨a2, k2, rfl⟩ := j2.form
  obtain ⟨a3, k3, rfl⟩ := j3.form
  clear j1 j2 j3
  have HB1 := Lib.hid (HA.out.trans (hb1.mono HA.out.size))
  clear hb1
  go_wp2_with fail
  go_quiet (fail)
  go_wp2_with fail
  go_ret
  exact ⟨_, rfl, does_none HH.out (below_drewN (HB1.out.alloc HB1.out.size _) _)⟩

set_option maxRecDepth 100000 in
set_option maxHeartbeats 1600000 in
theorem see_old (X : Nat → Prop) (lo c : Nat) (R : ClR) (w : World) (h : ClM X lo w c R) (hm : R.rs.length ≤ 100000) (v : Value) (V : Vw.VW) (hv : Vw.IsView w.heap.size w v V) (hsm : Vw.SmallV V) (now : Int) (hr : Vw.rightB V = true) (hle : V.epoch ≤ R.s.v.epoch) :
    Calls Tryd.prog 35 #[.pointer (some ⟨c, 0, none⟩), v, .int .i64 now] w fun e w' => ∃ v, e = .returned v ∧ Does X lo c R w R.s [] v w' := by
  have HH := Lib.hid h
  have HV := Lib.hid hv
  obtain ⟨hep, cv, sv, bv, rfl, i1, i2, i3⟩ := hv
  obtain ⟨b1, l1, rfl⟩ := i1.form
  obtain ⟨b2, l2, rfl⟩ := i2.form
  obtain ⟨b3, l3, rfl⟩ := i3.form
  have CO := Lib.hid (fun (X' : World) (hb : Below w.heap.size w X') => Vw.of_true w.heap.size _ V X' (HV.out.keep hb (Nat.le_refl _)) hb.size hsm hr)
  have HA := Lib.hid ((Below.refl w.heap.size w).alloc (Nat.le_refl _) (.cells #[.int .i64 V.epoch, .slice b1 V.chain.length l1, .slice b2 V.since.length l2, .slice b3 V.boot.length l3] 27))
  have HC := Lib.hid h.clt
  clear h i1 i2 i3 hr
  go_enter Tryd.func35, Tryd.ntmps35
  go_wp2_with fail
  refine (CO.out _ HA.out).mono ?_
  rintro e w1 ⟨vw, rfl, hvw, hb1, hfr⟩
  obtain ⟨-, cv2, sv2, bv2, rfl, j1, j2, j3⟩ := hvw
  obtain ⟨a1, k1, rfl⟩ := j1.form
  obtain ⟨a2, k2, rfl⟩ := j2.form
  obtain ⟨a3, k3, rfl⟩ := j3.form
  obtain ⟨_, _, _, _, e1, f1, f2, f3⟩ := hfr
  obtain ⟨rfl, rfl, rfl, rfl⟩ : _ = _ ∧ _ = _ ∧ _ = _ ∧ _ = _ := by
    injection e1 with e1
    injection e1 with e1
    injection e1 with g0 e1
    injection e1 with g1 e1
    injection e1 with g2 e1
    injection e1 with g3 e1
    exact ⟨g0, g1, g2, g3⟩
  have HB1 := Lib.hid (HA.out.trans (hb1.mono HA.out.size))
  have hAs : w.heap.size ≤ (w.alloc (.cells #[.int .i64 V.epoch, .slice b1 V.chain.length l1, .slice b2 V.since.length l2, .slice b3 V.boot.length l3] 27)).heap.size := HA.out.size
  have J1 := Lib.hid (ina_new HH.out j1 f1 hAs)
  have J2 := Lib.hid (ina_new HH.out j2 f2 hAs)
  have J3 := Lib.hid (ina_new HH.out j3 f3 hAs)
  have c6 := (HH.out.keep HB1.out).c6
  have x1 : c < w1.heap.size := Nat.lt_of_lt_of_le HC.out HB1.out.size
  have x2 : c ≠ w1.heap.size := by omega
  clear hb1 e1 f1 f2 f3 j1 j2 j3 hAs
  go_wp2_with fail
  go_quiet (fail)
  go_wp2_with fail
  go_ret
  exact ⟨_, rfl, does_none HH.out (below_drewN (HB1.out.alloc HB1.out.size _) _)⟩

set_option maxRecDepth 100000 in
set_option maxHeartbeats 1600000 in
theorem see_idle (X : Nat → Prop) (lo c : Nat) (R : ClR) (w : World) (h : ClM X lo w c R) (hm : R.rs.length ≤ 100000) (v : Value) (V : Vw.VW) (hv : Vw.IsView w.heap.size w v V) (hsm : Vw.SmallV V) (now : Int) (hr : Vw.rightB V = true) (hlt : R.s.v.epoch < V.epoch) (hp : R.s.pending = false) :
    Calls Tryd.prog 35 #[.pointer (some ⟨c, 0, none⟩), v, .int .i64 now] w fun e w' => ∃ v, e = .returned v ∧ Does X lo c R w { R.s with v := V } [] v w' := by
  have HH := Lib.hid h
  have HV := Lib.hid hv
  obtain ⟨hep, cv, sv, bv, rfl, i1, i2, i3⟩ := hv
  obtain ⟨b1, l1, rfl⟩ := i1.form
  obtain ⟨b2, l2, rfl⟩ := i2.form
  obtain ⟨b3, l3, rfl⟩ := i3.form
  have CO := Lib.hid (fun (X' : World) (hb : Below w.heap.size w X') => Vw.of_true w.heap.size _ V X' (HV.out.keep hb (Nat.le_refl _)) hb.size hsm hr)
  have HA := Lib.hid ((Below.refl w.heap.size w).alloc (Nat.le_refl _) (.cells #[.int .i64 V.epoch, .slice b1 V.chain.length l1, .slice b2 V.since.length l2, .slice b3 V.boot.length l3] 27))
  have HC := Lib.hid h.clt
  have HP := Lib.hid hp
  have hnle : ¬ V.epoch ≤ R.s.v.epoch := by omega
  clear h i1 i2 i3 hr hp
  go_enter Tryd.func35, Tryd.ntmps35
  go_wp2_with fail
  refine (CO.out _ HA.out).mono ?_
  rintro e w1 ⟨vw, rfl, hvw, hb1, hfr⟩
  obtain ⟨-, cv2, sv2, bv2, rfl, j1, j2, j3⟩ := hvw
  obtain ⟨a1, k1, rfl⟩ := j1.form
  obtain ⟨a2, k2, rfl⟩ := j2.form
  obtain ⟨a3, k3, rfl⟩ := j3.form
  obtain ⟨_, _, _, _, e1, f1, f2, f3⟩ := hfr
  obtain ⟨rfl, rfl, rfl, rfl⟩ : _ = _ ∧ _ = _ ∧ _ = _ ∧ _ = _ := by
    injection e1 with e1
    injection e1 with e1
    injection e1 with g0 e1
    injection e1 with g1 e1
    injection e1 with g2 e1
    injection e1 with g3 e1
    exact ⟨g0, g1, g2, g3⟩
  have HB1 := Lib.hid (HA.out.trans (hb1.mono HA.out.size))
  have hAs : w.heap.size ≤ (w.alloc (.cells #[.int .i64 V.epoch, .slice b1 V.chain.length l1, .slice b2 V.since.length l2, .slice b3 V.boot.length l3] 27)).heap.size := HA.out.size
  have J1 := Lib.hid (ina_new HH.out j1 f1 hAs)
  have J2 := Lib.hid (ina_new HH.out j2 f2 hAs)
  have J3 := Lib.hid (ina_new HH.out j3 f3 hAs)
  have c6 := (HH.out.keep HB1.out).c6
  have x1 : c < w1.heap.size := Nat.lt_of_lt_of_le HC.out HB1.out.size
  have x2 : c ≠ w1.heap.size := by omega
  clear hb1 e1 f1 f2 f3 j1 j2 j3 hAs
  go_wp2_with fail
  go_quiet (fail)
  have hA2 := (Below.refl w1.heap.size w1).alloc (Nat.le_refl _) (.cells #[.int .i64 V.epoch, .slice a1 V.chain.length k1, .slice a2 V.since.length k2, .slice a3 V.boot.length k3] 82)
  have hA3 : Below w1.heap.size w1 ((w1.alloc (.cells #[.int .i64 V.epoch, .slice a1 V.chain.length k1, .slice a2 V.since.length k2, .slice a3 V.boot.length k3] 82)).drewN nq) := below_drewN hA2 nq
  have hbz := HB1.out.trans (hA3.mono HB1.out.size)
  have hmz := HH.out.keep hbz
  have hgz : ((w1.alloc (.cells #[.int .i64 V.epoch, .slice a1 V.chain.length k1, .slice a2 V.since.length k2, .slice a3 V.boot.length k3] 82)).drewN nq).heap[w1.heap.size]? = some (.cells #[.int .i64 V.epoch, .slice a1 V.chain.length k1, .slice a2 V.since.length k2, .slice a3 V.boot.length k3] 82) := heap_alloc_new w1 (.cells #[.int .i64 V.epoch, .slice a1 V.chain.length k1, .slice a2 V.since.length k2, .slice a3 V.boot.length k3] 82)
  have j1 : InA (fun k => R.mut c k ∨ X k) ((w1.alloc (.cells #[.int .i64 V.epoch, .slice a1 V.chain.length k1, .slice a2 V.since.length k2, .slice a3 V.boot.length k3] 82)).drewN nq) (.slice a1 V.chain.length k1) V.chain := J1.out.keep (T := fun _ => False) (kept_below hA3) (fun _ _ h => h.elim) (fun _ _ h => h)
  have j2 : InA (fun k => R.mut c k ∨ X k) ((w1.alloc (.cells #[.int .i64 V.epoch, .slice a1 V.chain.length k1, .slice a2 V.since.length k2, .slice a3 V.boot.length k3] 82)).drewN nq) (.slice a2 V.since.length k2) V.since := J2.out.keep (T := fun _ => False) (kept_below hA3) (fun _ _ h => h.elim) (fun _ _ h => h)
  have j3 : InA (fun k => R.mut c k ∨ X k) ((w1.alloc (.cells #[.int .i64 V.epoch, .slice a1 V.chain.length k1, .slice a2 V.since.length k2, .slice a3 V.boot.length k3] 82)).drewN nq) (.slice a3 V.boot.length k3) V.boot := J3.out.keep (T := fun _ => False) (kept_below hA3) (fun _ _ h => h.elim) (fun _ _ h => h)
  generalize (w1.alloc (.cells #[.int .i64 V.epoch, .slice a1 V.chain.length k1, .slice a2 V.since.length k2, .slice a3 V.boot.length k3] 82)).drewN nq = wz at *
  have hsn := hmz.seen V (.slice a1 V.chain.length k1) (.slice a2 V.since.length k2) (.slice a3 V.boot.length k3) hep hsm j1 j2 j3
  have y0 : wz.cell? ⟨w1.heap.size, 0, none⟩ = some (.int .i64 V.epoch) := by rw [Lib.cell_of_heap hgz]; rfl
  have y1 : wz.cell? ⟨w1.heap.size, 1, none⟩ = some (.slice a1 V.chain.length k1) := by rw [Lib.cell_of_heap hgz]; rfl
  have y2 : wz.cell? ⟨w1.heap.size, 2, none⟩ = some (.slice a2 V.since.length k2) := by rw [Lib.cell_of_heap hgz]; rfl
  have y3 : wz.cell? ⟨w1.heap.size, 3, none⟩ = some (.slice a3 V.boot.length k3) := by rw [Lib.cell_of_heap hgz]; rfl
  have d3 := hmz.c3
  have d6 := hmz.c6
  have d7 := hmz.c7
  have d8 := hmz.c8
  have d9 := hmz.c9
  have g6 := hmz.fr 6
  have g7 := hmz.fr 7
  have g8 := hmz.fr 8
  have g9 := hmz.fr 9
  have HST := Lib.hid ((step_below (c := c) hbz (rfl : R.ov = R.ov)).trans hsn.2)
  have HMN := Lib.hid hsn.1
  clear hA2 hA3 hbz hmz hgz j1 j2 j3 hsn c6
  rw [HP.out] at d3
  go_wp2_with fail
  go_ret
  exact ⟨_, rfl, _, [], rfl, HMN.out, HST.out, .inl ⟨rfl, rfl⟩, rfl, fun o ho => absurd ho (by simp)⟩

set_option maxRecDepth 100000 in
set_option maxHeartbeats 1600000 in
theorem see_ask (X : Nat → Prop) (lo c : Nat) (R : ClR) (w : World) (h : ClM X lo w c R) (hm : R.rs.length ≤ 100000) (v : Value) (V : Vw.VW) (hv : Vw.IsView w.heap.size w v V) (hsm : Vw.SmallV V) (now : Int) (hr : Vw.rightB V = true) (hlt : R.s.v.epoch < V.epoch) (hp : R.s.pending = true) (hn : R.s.ops ≠ []) :
    Calls Tryd.prog 35 #[.pointer (some ⟨c, 0, none⟩), v, .int .i64 now] w fun e w' => ∃ v, e = .returned v ∧ Does X lo c R w { R.s with v := V, asked := now } [askW { R.s with v := V }] v w' := by
  have HH := Lib.hid h
  have HV := Lib.hid hv
  obtain ⟨hep, cv, sv, bv, rfl, i1, i2, i3⟩ := hv
  obtain ⟨b1, l1, rfl⟩ := i1.form
  obtain ⟨b2, l2, rfl⟩ := i2.form
  obtain ⟨b3, l3, rfl⟩ := i3.form
  have CO := Lib.hid (fun (X' : World) (hb : Below w.heap.size w X') => Vw.of_true w.heap.size _ V X' (HV.out.keep hb (Nat.le_refl _)) hb.size hsm hr)
  have HA := Lib.hid ((Below.refl w.heap.size w).alloc (Nat.le_refl _) (.cells #[.int .i64 V.epoch, .slice b1 V.chain.length l1, .slice b2 V.since.length l2, .slice b3 V.boot.length l3] 27))
  have HC := Lib.hid h.clt
  have HP := Lib.hid hp
  have HN := Lib.hid hn
  have hnle : ¬ V.epoch ≤ R.s.v.epoch := by omega
  clear h i1 i2 i3 hr hp hn
  go_enter Tryd.func35, Tryd.ntmps35
  go_wp2_with fail
  refine (CO.out _ HA.out).mono ?_
  rintro e w1 ⟨vw, rfl, hvw, hb1, hfr⟩
  obtain ⟨-, cv2, sv2, bv2, rfl, j1, j2, j3⟩ := hvw
  obtain ⟨a1, k1, rfl⟩ := j1.form
  obtain ⟨a2, k2, rfl⟩ := j2.form
  obtain ⟨a3, k3, rfl⟩ := j3.form
  obtain ⟨_, _, _, _, e1, f1, f2, f3⟩ := hfr
  obtain ⟨rfl, rfl, rfl, rfl⟩ : _ = _ ∧ _ = _ ∧ _ = _ ∧ _ = _ := by
    injection e1 with e1
    injection e1 with e1
    injection e1 with g0 e1
    injection e1 with g1 e1
    injection e1 with g2 e1
    injection e1 with g3 e1
    exact ⟨g0, g1, g2, g3⟩
  have HB1 := Lib.hid (HA.out.trans (hb1.mono HA.out.size))
  have hAs : w.heap.size ≤ (w.alloc (.cells #[.int .i64 V.epoch, .slice b1 V.chain.length l1, .slice b2 V.since.length l2, .slice b3 V.boot.length l3] 27)).heap.size := HA.out.size
  have J1 := Lib.hid (ina_new HH.out j1 f1 hAs)
  have J2 := Lib.hid (ina_new HH.out j2 f2 hAs)
  have J3 := Lib.hid (ina_new HH.out j3 f3 hAs)
  have c6 := (HH.out.keep HB1.out).c6
  have x1 : c < w1.heap.size := Nat.lt_of_lt_of_le HC.out HB1.out.size
  have x2 : c ≠ w1.heap.size := by omega
  clear hb1 e1 f1 f2 f3 j1 j2 j3 hAs
  go_wp2_with fail
  go_quiet (fail)
  have hA2 := (Below.refl w1.heap.size w1).alloc (Nat.le_refl _) (.cells #[.int .i64 V.epoch, .slice a1 V.chain.length k1, .slice a2 V.since.length k2, .slice a3 V.boot.length k3] 82)
  have hA3 : Below w1.heap.size w1 ((w1.alloc (.cells #[.int .i64 V.epoch, .slice a1 V.chain.length k1, .slice a2 V.since.length k2, .slice a3 V.boot.length k3] 82)).drewN nq) := below_drewN hA2 nq
  have hbz := HB1.out.trans (hA3.mono HB1.out.size)
  have hmz := HH.out.keep hbz
  have hgz : ((w1.alloc (.cells #[.int .i64 V.epoch, .slice a1 V.chain.length k1, .slice a2 V.since.length k2, .slice a3 V.boot.length k3] 82)).drewN nq).heap[w1.heap.size]? = some (.cells #[.int .i64 V.epoch, .slice a1 V.chain.length k1, .slice a2 V.since.length k2, .slice a3 V.boot.length k3] 82) := heap_alloc_new w1 (.cells #[.int .i64 V.epoch, .slice a1 V.chain.length k1, .slice a2 V.since.length k2, .slice a3 V.boot.length k3] 82)
  have j1 : InA (fun k => R.mut c k ∨ X k) ((w1.alloc (.cells #[.int .i64 V.epoch, .slice a1 V.chain.length k1, .slice a2 V.since.length k2, .slice a3 V.boot.length k3] 82)).drewN nq) (.slice a1 V.chain.length k1) V.chain := J1.out.keep (T := fun _ => False) (kept_below hA3) (fun _ _ h => h.elim) (fun _ _ h => h)
  have j2 : InA (fun k => R.mut c k ∨ X k) ((w1.alloc (.cells #[.int .i64 V.epoch, .slice a1 V.chain.length k1, .slice a2 V.since.length k2, .slice a3 V.boot.length k3] 82)).drewN nq) (.slice a2 V.since.length k2) V.since := J2.out.keep (T := fun _ => False) (kept_below hA3) (fun _ _ h => h.elim) (fun _ _ h => h)
  have j3 : InA (fun k => R.mut c k ∨ X k) ((w1.alloc (.cells #[.int .i64 V.epoch, .slice a1 V.chain.length k1, .slice a2 V.since.length k2, .slice a3 V.boot.length k3] 82)).drewN nq) (.slice a3 V.boot.length k3) V.boot := J3.out.keep (T := fun _ => False) (kept_below hA3) (fun _ _ h => h.elim) (fun _ _ h => h)
  generalize (w1.alloc (.cells #[.int .i64 V.epoch, .slice a1 V.chain.length k1, .slice a2 V.since.length k2, .slice a3 V.boot.length k3] 82)).drewN nq = wz at *
  have hsn := hmz.seen V (.slice a1 V.chain.length k1) (.slice a2 V.since.length k2) (.slice a3 V.boot.length k3) hep hsm j1 j2 j3
  have y0 : wz.cell? ⟨w1.heap.size, 0, none⟩ = some (.int .i64 V.epoch) := by rw [Lib.cell_of_heap hgz]; rfl
  have y1 : wz.cell? ⟨w1.heap.size, 1, none⟩ = some (.slice a1 V.chain.length k1) := by rw [Lib.cell_of_heap hgz]; rfl
  have y2 : wz.cell? ⟨w1.heap.size, 2, none⟩ = some (.slice a2 V.since.length k2) := by rw [Lib.cell_of_heap hgz]; rfl
  have y3 : wz.cell? ⟨w1.heap.size, 3, none⟩ = some (.slice a3 V.boot.length k3) := by rw [Lib.cell_of_heap hgz]; rfl
  have d3 := hmz.c3
  have d6 := hmz.c6
  have d7 := hmz.c7
  have d8 := hmz.c8
  have d9 := hmz.c9
  have g6 := hmz.fr 6
  have g7 := hmz.fr 7
  have g8 := hmz.fr 8
  have g9 := hmz.fr 9
  have HST := Lib.hid ((step_below (c := c) hbz (rfl : R.ov = R.ov)).trans hsn.2)
  have HMN := Lib.hid hsn.1
  clear hA2 hA3 hbz hmz hgz j1 j2 j3 hsn c6
  rw [HP.out] at d3
  obtain ⟨l, r, hlr⟩ := HH.out.split HN.out
  have hl5 : l.length ≤ 1000000 := by
    have e5 : R.rs.length = l.length + 1 := by rw [hlr]; simp
    omega
  have CA := Lib.hid (ask_any X lo c _ _ HMN.out l r hlr hl5 now _ rfl)
  have HLR := Lib.hid hlr
  clear hlr hl5
  go_wp2_with fail
  refine CA.out.mono ?_
  rintro e z ⟨rfl, hm3, hs3⟩
  have HM3 := Lib.hid hm3
  have HS3 := Lib.hid (HST.out.trans hs3)
  clear hm3 hs3
  obtain ⟨o, ho⟩ : ∃ o, askO (R.seen V (.slice a1 V.chain.length k1) (.slice a2 V.since.length k2) (.slice a3 V.boot.length k3)) r = o := ⟨_, rfl⟩
  rw [ho]
  have HO := Lib.hid ho
  clear ho
  simp only [OutR.val]
  go_wp2_with fail
  go_ret
  have hb := (Below.refl z.heap.size z).alloc (Nat.le_refl _) (.cells #[.int .i64 o.dst, o.m.val] 50)
  have hrs : ((R.seen V (.slice a1 V.chain.length k1) (.slice a2 V.since.length k2) (.slice a3 V.boot.length k3)).ask now).rs = l ++ [r] := HLR.out
  have h4 := askO_plain HM3.out hrs
  have h5 := askO_ok HM3.out hrs
  have e6 : askO ((R.seen V (.slice a1 V.chain.length k1) (.slice a2 V.since.length k2) (.slice a3 V.boot.length k3)).ask now) r = o := HO.out
  rw [e6] at h4 h5
  refine ⟨_, rfl, _, [o], rfl, HM3.out.keep hb, HS3.out.trans (step_below hb rfl), .inr ⟨z.heap.size, rfl, HS3.out.kept.size, heap_alloc_new _ _⟩, ?_, fun x hx => ?_⟩
  · rw [List.map_singleton, h4]
    rfl
  · obtain rfl := List.mem_singleton.1 hx
    exact OutR.ok_keep h5 hb

theorem see_any (X : Nat → Prop) (lo c : Nat) (R : ClR) (w : World) (h : ClM X lo w c R) (hm : R.rs.length ≤ 100000) (v : Value) (V : Vw.VW) (hv : Vw.IsView w.heap.size w v V) (hsm : Vw.SmallV V) (now : Int) (hn : R.s.pending = true → R.s.ops ≠ [])
    (s' : ClW) (outs : List OutW) (hs : seeS R.s V now = (s', outs)) :
    Calls Tryd.prog 35 #[.pointer (some ⟨c, 0, none⟩), v, .int .i64 now] w fun e w' => ∃ v, e = .returned v ∧ Does X lo c R w s' outs v w' := by
  obtain rfl : (seeS R.s V now).1 = s' := congrArg (·.1) hs
  obtain rfl : (seeS R.s V now).2 = outs := congrArg (·.2) hs
  unfold seeS
  cases hr : Vw.rightB V with
  | false =>
    rw [if_pos (.inl rfl)]
    exact see_no X lo c R w h v V hv hsm now hr
  | true =>
    by_cases hle : V.epoch ≤ R.s.v.epoch
    · rw [if_pos (.inr hle)]
      exact see_old X lo c R w h hm v V hv hsm now hr hle
    · rw [if_neg (by rintro (e | e); cases e; exact hle e)]
      cases hp : R.s.pending with
      | false =>
        rw [if_pos rfl]
        have := see_idle X lo c R w h hm v V hv hsm now hr (by omega) hp
        rw [← hp]
        exact this
      | true =>
        rw [if_neg (by decide)]
        have := see_ask X lo c R w h hm v V hv hsm now hr (by omega) hp (hn hp)
        rw [← hp]
        exact this
end Go.Proofs.YtapgjjfndbfnpaaDoor
