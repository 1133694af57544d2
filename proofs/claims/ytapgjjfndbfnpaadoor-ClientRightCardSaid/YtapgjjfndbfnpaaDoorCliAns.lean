/-
  The walk of (*client.Client).answered; a store into the last op.
-/
import Derived.Test.YtapgjjfndbfnpaaDoorCliApp
namespace Go.Proofs.YtapgjjfndbfnpaaDoor
open Go.RowKit
set_option linter.unusedSimpArgs false
set_option linter.unusedVariables false

def ClR.setLast (R : ClR) (l : List OpR) (r : OpR) : ClR := { R with s := { R.s with ops := l.map (·.o) ++ [r.o] }, rs := l ++ [r] }
theorem ClM.setOp {X : Nat → Prop} {lo c : Nat} {w : World} {R : ClR} (h : ClM X lo w c R) {l : List OpR} {r : OpR} (hr : R.rs = l ++ [r]) (g : Nat) (hg : R.ov.ownBlock = some g) (j : Nat) (x : Value) (hj : j < 17) (r' : OpR) (hc : r'.cells = r.cells.set j x)
    (hbev : EvA (fun k => R.mut c k ∨ X k) w r'.bev r'.o.b.events) (hevv : EvA (fun k => R.mut c k ∨ X k) w r'.evv r'.o.events) :
    ClM X lo (w.setCell ⟨g, l.length * 17 + j, none⟩ x) c (R.setLast l r') ∧ Step c R (R.setLast l r') w (w.setCell ⟨g, l.length * 17 + j, none⟩ x) := by
  have st : Step c R (R.setLast l r') w (w.setCell ⟨g, l.length * 17 + j, none⟩ x) :=
    ⟨(Kept.refl _ w).store ⟨g, l.length * 17 + j, none⟩ (.inl (.inr hg)) x, fun _ _ h => h⟩
  obtain ⟨g', cap, cur, hv, h1, h2, h3, h4, h5, h6, h7⟩ := h.row (by rw [hr]; simp)
  obtain rfl : g' = g := by rw [hv] at hg; exact Option.some.inj hg
  have hn : R.rs.length = l.length + 1 := by rw [hr]; simp
  have hblk : (w.setCell ⟨g', l.length * 17 + j, none⟩ x).heap[c]? = some (.cells R.cells 94) := by
    rw [Below.heap_setCell w ⟨g', l.length * 17 + j, none⟩ x c (fun e => h2 e.symm)]
    exact h.blk
  refine ⟨⟨h.hlo, hblk, ⟨ocells_len _, .inr ⟨g', cap, cur.setIfInBounds (l.length * 17 + j) x, ?_, h1, block_set2 h3 _ _, ?_, h5, ?_, ?_⟩⟩, ?_, h.ne, ?_, ?_, h.ep, h.sm, h.wh, ina_k h.cv st, ina_k h.sv st, ina_k h.bv st, h.xltK st, h.xneK st⟩, st⟩
  · show R.ov = _
    rw [hv, hn]
    simp [ClR.setLast]
  · simp only [ClR.setLast, List.length_append, List.length_cons, List.length_nil]
    omega
  · rw [Array.size_setIfInBounds, h6]
  · have e1 : (l ++ [r']).length * 17 = R.rs.length * 17 := by rw [hn]; simp
    rw [show (R.setLast l r').rs = l ++ [r'] from rfl, e1, Array.toList_setIfInBounds, List.take_set, h7, hr, ocells_append, ocells_one, List.set_append_right _ _ (by rw [ocells_len]; omega), ocells_len, Nat.add_sub_cancel_left, ← hc, ocells_append, ocells_one]
  · simp [ClR.setLast]
  · intro y hy
    rcases List.mem_append.1 (show y ∈ l ++ [r'] from hy) with hy | hy
    · exact h.bevK st y (by rw [hr]; exact List.mem_append_left _ hy)
    · obtain rfl := List.mem_singleton.1 hy
      exact eva_k hbev st
  · intro y hy
    rcases List.mem_append.1 (show y ∈ l ++ [r'] from hy) with hy | hy
    · exact h.evvK st y (by rw [hr]; exact List.mem_append_left _ hy)
    · obtain rfl := List.mem_singleton.1 hy
      exact eva_k hevv st
def OpR.ended (r : OpR) (now : Int) : OpR := { r with o := { r.o with end_ := now } }
def ClR.idle (R : ClR) : ClR := { R with s := { R.s with pending := false } }

set_option maxRecDepth 100000 in
set_option maxHeartbeats 1600000 in
/-- It is of none. -/
theorem answered_none (X : Nat → Prop) (lo c : Nat) (R : ClR) (w : World) (h : ClM X lo w c R) (hm : R.rs.length ≤ 100000) (kind id err now : Int) (hn : R.s.pending = true → R.s.ops ≠ [])
    (hq : R.s.pending = false ∨ (lastS R.s).kind ≠ kind ∨ (lastS R.s).id ≠ id) :
    Calls Tryd.prog 36 #[.pointer (some ⟨c, 0, none⟩), .int .i64 kind, .int .i64 id, .int .i64 err, .int .i64 now] w fun e w' => e = .returned (.tuple #[.pointer none, .slice none 0 0]) ∧ Below w.heap.size w w' := by
  have c3 := h.c3
  cases hp : R.s.pending with
  | false =>
    rw [hp] at c3
    clear hp hq hn h
    go_enter Tryd.func36, Tryd.ntmps36
    go_wp2_with fail
    go_ret2
    exact ⟨rfl, Below.refl _ _⟩
  | true =>
    rw [hp] at c3
    obtain ⟨l, r, hlr⟩ := h.split (hn hp)
    rw [h.lastS hlr, hp] at hq
    have hl5 : l.length ≤ 1000000 := by
      have e5 : R.rs.length = l.length + 1 := by rw [hlr]; simp
      omega
    obtain ⟨g, cap, hov, hgl, hgc, hgs, hcell, -⟩ := h.last hlr
    have CL := Lib.hid (fun (X' : World) (h' : ClM X lo X' c R) => last_any X lo c R X' h' g cap l.length hov hl5)
    have HK := Lib.hid (fun (X' : World) (hb : Below w.heap.size w X') => (show X'.cell? ⟨g, l.length * 17, none⟩ = some (.int .i64 r.o.kind) from (hb.cell (p := ⟨g, l.length * 17 + 0, none⟩) hgs).trans (hcell 0 (by omega))))
    have HI := Lib.hid (fun (X' : World) (hb : Below w.heap.size w X') => (show X'.cell? ⟨g, l.length * 17 + 1, none⟩ = some (.int .i64 r.o.id) from (hb.cell (p := ⟨g, l.length * 17 + 1, none⟩) hgs).trans (hcell 1 (by omega))))
    have HH := Lib.hid h
    by_cases hk : r.o.kind = kind
    · have hi : r.o.id ≠ id := by rcases hq with e | e | e; cases e; exact absurd hk e; exact e
      have g1 : (r.o.kind != kind) = false := by rw [bne_eq_false_iff_eq]; exact hk
      have g2 : (r.o.id != id) = true := by rw [bne_iff_ne]; exact hi
      clear hq hn hp h hlr hov hcell hk hi
      go_enter Tryd.func36, Tryd.ntmps36
      go_wp2_with fail
      refine (CL.out _ HH.out).mono ?_
      rintro e w1 ⟨rfl, d, rfl⟩
      have hb1 := below_drewN' w d
      have k0 := HK.out _ hb1
      have HM1 := Lib.hid (HH.out.keep hb1)
      have HB1 := Lib.hid hb1
      clear hb1
      generalize w.drewN d = w1 at *
      go_wp2_with fail
      refine (CL.out _ HM1.out).mono ?_
      rintro e w2 ⟨rfl, d2, rfl⟩
      have hb2 := HB1.out.trans ((below_drewN' w1 d2).mono HB1.out.size)
      have k1 := HI.out _ hb2
      have HB2 := Lib.hid hb2
      clear hb2 k0
      generalize w1.drewN d2 = w2 at *
      go_wp2_with fail
      go_ret2
      exact ⟨rfl, HB2.out⟩
    · have g1 : (r.o.kind != kind) = true := by rw [bne_iff_ne]; exact hk
      clear hq hn hp h hlr hov hcell hk
      go_enter Tryd.func36, Tryd.ntmps36
      go_wp2_with fail
      refine (CL.out _ HH.out).mono ?_
      rintro e w1 ⟨rfl, d, rfl⟩
      have hb1 := below_drewN' w d
      have k0 := HK.out _ hb1
      have HB1 := Lib.hid hb1
      clear hb1
      generalize w.drewN d = w1 at *
      go_wp2_with fail
      go_ret2
      exact ⟨rfl, HB1.out⟩

set_option maxRecDepth 100000 in
set_option maxHeartbeats 1600000 in
/-- It is an error. -/
theorem answered_err (X : Nat → Prop) (lo c : Nat) (R : ClR) (w : World) (h : ClM X lo w c R) (hm : R.rs.length ≤ 100000) (kind id err now : Int) (hp : R.s.pending = true) (l : List OpR) (r : OpR) (hlr : R.rs = l ++ [r])
    (hk : r.o.kind = kind) (hi : r.o.id = id) (he : err ≠ 0) :
    Calls Tryd.prog 36 #[.pointer (some ⟨c, 0, none⟩), .int .i64 kind, .int .i64 id, .int .i64 err, .int .i64 now] w fun e w' => ∃ v, e = .returned (.tuple #[.pointer none, v]) ∧
      Does X lo c R w { R.s with which := IntKind.i64.wrap (R.s.which + 1) } [whereW R.s] v w' := by
  have c3 := h.c3
  rw [hp] at c3
  have hl5 : l.length ≤ 1000000 := by
    have e5 : R.rs.length = l.length + 1 := by rw [hlr]; simp
    omega
  obtain ⟨g, cap, hov, hgl, hgc, hgs, hcell, -⟩ := h.last hlr
  have CL := Lib.hid (fun (X' : World) (h' : ClM X lo X' c R) => last_any X lo c R X' h' g cap l.length hov hl5)
  have HK := Lib.hid (fun (X' : World) (hb : Below w.heap.size w X') => (show X'.cell? ⟨g, l.length * 17, none⟩ = some (.int .i64 r.o.kind) from (hb.cell (p := ⟨g, l.length * 17 + 0, none⟩) hgs).trans (hcell 0 (by omega))))
  have HI := Lib.hid (fun (X' : World) (hb : Below w.heap.size w X') => (show X'.cell? ⟨g, l.length * 17 + 1, none⟩ = some (.int .i64 r.o.id) from (hb.cell (p := ⟨g, l.length * 17 + 1, none⟩) hgs).trans (hcell 1 (by omega))))
  have HH := Lib.hid h
  have HLR := Lib.hid hlr
  have g1 : (r.o.kind != kind) = false := by rw [bne_eq_false_iff_eq]; exact hk
  have g2 : (r.o.id != id) = false := by rw [bne_eq_false_iff_eq]; exact hi
  have g3 : (err != 0) = true := by rw [bne_iff_ne]; exact he
  obtain ⟨wv, hwv⟩ : ∃ x, IntKind.i64.wrap (R.s.which + 1) = x := ⟨_, rfl⟩
  have hw64 : Vw.I64 wv := by rw [← hwv, IntKind.wrap_i64]; unfold Vw.I64; omega
  have HW64 := Lib.hid hw64
  have HWV := Lib.hid hwv
  rw [hwv]
  clear hp h hlr hov hcell hk hi he hw64 hwv
  go_enter Tryd.func36, Tryd.ntmps36
  go_wp2_with fail
  refine (CL.out _ HH.out).mono ?_
  rintro e w1 ⟨rfl, d, rfl⟩
  have hb1 := below_drewN' w d
  have k0 := HK.out _ hb1
  have HM1 := Lib.hid (HH.out.keep hb1)
  have HB1 := Lib.hid hb1
  clear hb1
  generalize w.drewN d = w1 at *
  go_wp2_with fail
  refine (CL.out _ HM1.out).mono ?_
  rintro e w2 ⟨rfl, d2, rfl⟩
  have hb2 := HB1.out.trans ((below_drewN' w1 d2).mono HB1.out.size)
  have k1 := HI.out _ hb2
  have HM2 := Lib.hid (HH.out.keep hb2)
  have HB2 := Lib.hid hb2
  clear hb2 k0
  generalize w1.drewN d2 = w2 at *
  have c4 := HM2.out.c4
  have f4 := HM2.out.fr 4
  have ewv := HWV.out
  have hm3 : ClM X lo (w2.setCell ⟨c, 4, none⟩ (.int .i64 wv)) c { R with s := { R.s with which := wv } } := HM2.out.put 4 (.int .i64 wv) { R.s with which := wv } rfl rfl HW64.out rfl
  have cw := where_any X lo c _ _ hm3 l r HLR.out hl5
  simp only [OutR.val, MsgR.val] at cw
  have CW := Lib.hid cw
  have HM3 := Lib.hid hm3
  have HS3 := Lib.hid ((step_below (c := c) HB2.out (rfl : R.ov = R.ov)).trans (ClM.putStep c R w2 4 (.int .i64 wv) { R.s with which := wv }))
  clear cw hm3
  go_wp2_with fail
  refine CW.out.mono ?_
  rintro e z ⟨rfl, hb4⟩
  have HM4 := Lib.hid (HM3.out.keep hb4)
  have HS4 := Lib.hid (HS3.out.trans (step_below (R' := { R with s := { R.s with which := wv } }) hb4 rfl))
  clear hb4 k1 c4 f4 ewv
  go_wp2_with fail
  go_ret2
  have hb := (Below.refl z.heap.size z).alloc (Nat.le_refl _) (.cells #[.int .i64 0, MsgR.val (.whr r.o.id)] 50)
  refine ⟨_, rfl, _, [⟨0, .whr r.o.id⟩], rfl, HM4.out.keep hb, HS4.out.trans (step_below hb rfl), .inr ⟨z.heap.size, rfl, HS4.out.kept.size, heap_alloc_new _ _⟩, ?_, fun x hx => ?_⟩
  · rw [List.map_singleton]
    simp only [OutR.plain, MsgR.plain, whereW, HH.out.lastS HLR.out]
  · obtain rfl := List.mem_singleton.1 hx
    trivial

set_option maxRecDepth 100000 in
set_option maxHeartbeats 1600000 in
/-- It is the last word. -/
theorem answered_ok (X : Nat → Prop) (lo c : Nat) (R : ClR) (w : World) (h : ClM X lo w c R) (hm : R.rs.length ≤ 100000) (kind id now : Int) (hp : R.s.pending = true) (l : List OpR) (r : OpR) (hlr : R.rs = l ++ [r])
    (hk : r.o.kind = kind) (hi : r.o.id = id) (g : Nat) (hg : R.ov.ownBlock = some g) :
    Calls Tryd.prog 36 #[.pointer (some ⟨c, 0, none⟩), .int .i64 kind, .int .i64 id, .int .i64 0, .int .i64 now] w fun e w' => e = .returned (.tuple #[.pointer (some ⟨g, l.length * 17, none⟩), .slice none 0 0]) ∧
      ClM X lo w' c ((R.idle).setLast l (r.ended now)) ∧ Step c R ((R.idle).setLast l (r.ended now)) w w' := by
  have c3 := h.c3
  rw [hp] at c3
  have hl5 : l.length ≤ 1000000 := by
    have e5 : R.rs.length = l.length + 1 := by rw [hlr]; simp
    omega
  obtain ⟨g', cap, hov, hgl, hgc, hgs, hcell, -⟩ := h.last hlr
  obtain rfl : g' = g := by rw [hov] at hg; exact Option.some.inj hg
  have CL := Lib.hid (fun (X' : World) (R' : ClR) (he : R'.ov = R.ov) (h' : ClM X lo X' c R') => last_any X lo c R' X' h' g' cap l.length (he.trans hov) hl5)
  have HK := Lib.hid (fun (X' : World) (hb : Below w.heap.size w X') => (show X'.cell? ⟨g', l.length * 17, none⟩ = some (.int .i64 r.o.kind) from (hb.cell (p := ⟨g', l.length * 17 + 0, none⟩) hgs).trans (hcell 0 (by omega))))
  have HI := Lib.hid (fun (X' : World) (hb : Below w.heap.size w X') => (show X'.cell? ⟨g', l.length * 17 + 1, none⟩ = some (.int .i64 r.o.id) from (hb.cell (p := ⟨g', l.length * 17 + 1, none⟩) hgs).trans (hcell 1 (by omega))))
  have HH := Lib.hid h
  have HLR := Lib.hid hlr
  have HG := Lib.hid hg
  have g1 : (r.o.kind != kind) = false := by rw [bne_eq_false_iff_eq]; exact hk
  have g2 : (r.o.id != id) = false := by rw [bne_eq_false_iff_eq]; exact hi
  clear hp h hlr hov hcell hk hi hg
  go_enter Tryd.func36, Tryd.ntmps36
  go_wp2_with fail
  refine (CL.out _ R rfl HH.out).mono ?_
  rintro e w1 ⟨rfl, d, rfl⟩
  have hb1 := below_drewN' w d
  have k0 := HK.out _ hb1
  have HM1 := Lib.hid (HH.out.keep hb1)
  have HB1 := Lib.hid hb1
  clear hb1
  generalize w.drewN d = w1 at *
  go_wp2_with fail
  refine (CL.out _ R rfl HM1.out).mono ?_
  rintro e w2 ⟨rfl, d2, rfl⟩
  have hb2 := HB1.out.trans ((below_drewN' w1 d2).mono HB1.out.size)
  have k1 := HI.out _ hb2
  have HM2 := Lib.hid (HH.out.keep hb2)
  have HB2 := Lib.hid hb2
  clear hb2 k0
  generalize w1.drewN d2 = w2 at *
  have c3' := HM2.out.c3
  have f3 := HM2.out.fr 3
  have HM3 := Lib.hid (show ClM X lo (w2.setCell ⟨c, 3, none⟩ (.bool false)) c R.idle from HM2.out.put 3 (.bool false) { R.s with pending := false } rfl rfl HM2.out.wh rfl)
  have HS3 := Lib.hid (show Step c R R.idle w (w2.setCell ⟨c, 3, none⟩ (.bool false)) from (step_below (c := c) HB2.out (rfl : R.ov = R.ov)).trans (ClM.putStep c R w2 3 (.bool false) { R.s with pending := false }))
  go_wp2_with fail
  refine (CL.out _ R.idle rfl HM3.out).mono ?_
  rintro e w4 ⟨rfl, d4, rfl⟩
  have HM4 := Lib.hid (HM3.out.keep (below_drewN' _ d4))
  have HS4 := Lib.hid (HS3.out.trans (step_below (R' := R.idle) (below_drewN' _ d4) rfl))
  clear k1 c3' f3
  generalize (w2.setCell ⟨c, 3, none⟩ (.bool false)).drewN d4 = w4 at *
  have hso := HM4.out.setOp HLR.out g' HG.out 3 (.int .i64 now) (by omega) (r.ended now) rfl (HM4.out.bev r (by rw [show R.idle.rs = l ++ [r] from HLR.out]; simp)) (HM4.out.evv r (by rw [show R.idle.rs = l ++ [r] from HLR.out]; simp))
  obtain ⟨g2', cap2, hov2, -, -, -, hcell2, hfr2⟩ := HM4.out.last HLR.out
  obtain rfl : g2' = g' := by
    have := HG.out
    rw [show R.ov = _ from hov2] at this
    exact Option.some.inj this
  have k3 : w4.cell? ⟨g2', l.length * 17 + 3, none⟩ = some (.int .i64 r.o.end_) := hcell2 3 (by omega)
  have fk := hfr2 (l.length * 17 + 3)
  have HM5 := Lib.hid hso.1
  have HS5 := Lib.hid (HS4.out.trans hso.2)
  clear hso hov2 hcell2 hfr2
  go_wp2_with fail
  refine (CL.out _ (R.idle.setLast l (r.ended now)) rfl HM5.out).mono ?_
  rintro e w6 ⟨rfl, d6, rfl⟩
  go_wp2_with fail
  go_ret2
  exact ⟨rfl, HM5.out.keep (below_drewN' _ d6), HS5.out.trans (step_below (below_drewN' _ d6) rfl)⟩
end Go.Proofs.YtapgjjfndbfnpaaDoor
