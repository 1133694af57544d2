/-
  The walk of (*client.Client).ask. Printed by gen_cliask.py of this claim's writer.
-/
import Derived.Test.YtapgjjfndbfnpaaDoorCliWalk1
import Derived.Test.YtapgjjfndbfnpaaDoorRegInv
import Derived.Deep.RegionHeld3
import Derived.BigRegion
namespace Go.Proofs.YtapgjjfndbfnpaaDoor
open Go.RowKit
set_option linter.unusedSimpArgs false
set_option linter.unusedVariables false

def pickT (c : Int) (n : Nat) : Nat := (if c < 0 then -(c + 1) else c).toNat % n
def ClR.ask (R : ClR) (now : Int) : ClR := { R with s := { R.s with asked := now } }
/-- What is asked of somebody. -/
noncomputable def askO (R : ClR) (r : OpR) : OutR :=
  if Vw.rightB R.s.v = false then ⟨0, .whr r.o.id⟩
  else if r.o.kind = 1 then ⟨R.s.v.chain.getD 0 0, .app r.o.id r.o.b r.bev⟩
  else ⟨R.s.v.chain.getD (pickT R.s.which R.s.v.chain.length) 0, .red r.o.id r.o.stream r.o.from_⟩
/-- Behind the store of what is handed back. -/
theorem ask_fin {X : Nat → Prop} {lo c p : Nat} {wa z : World} {R : ClR} (h : ClM X lo wa c R) (hp : wa.heap.size = p) (hb : Below p wa z) (a b : Value) :
    ClM X lo ((z.setCell ⟨p, 0, none⟩ a).setCell ⟨p, 1, none⟩ b) c R ∧ Step c R R wa ((z.setCell ⟨p, 0, none⟩ a).setCell ⟨p, 1, none⟩ b) := by
  subst hp
  have hb2 := (hb.setCell (p := ⟨wa.heap.size, 0, none⟩) (Nat.le_refl _) a).setCell (p := ⟨wa.heap.size, 1, none⟩) (Nat.le_refl _) b
  exact ⟨h.keep hb2, step_below hb2 rfl⟩

set_option maxRecDepth 100000 in
set_option maxHeartbeats 1600000 in
theorem ask_where (X : Nat → Prop) (lo c : Nat) (R : ClR) (w : World) (h : ClM X lo w c R) (l : List OpR) (r : OpR) (hr : R.rs = l ++ [r]) (hm : l.length ≤ 1000000) (now : Int) (hv : Vw.rightB R.s.v = false) :
    Calls Tryd.prog 38 #[.pointer (some ⟨c, 0, none⟩), .int .i64 now] w fun e w' => e = .returned (OutR.val ⟨0, .whr r.o.id⟩) ∧ ClM X lo w' c (R.ask now) ∧ Step c R (R.ask now) w w' := by
  obtain ⟨g, cap, hov, hgl, hgc, hgs, hcell, -⟩ := h.last hr
  have hM0 : ClM X lo (w.setCell ⟨c, 5, none⟩ (.int .i64 now)) c (R.ask now) := h.put 5 (.int .i64 now) { R.s with asked := now } rfl rfl h.wh rfl
  have hz : (w.setCell ⟨c, 5, none⟩ (.int .i64 now)).heap.size = w.heap.size := World.size_setCell _ _ _
  have hA : Below w.heap.size (w.setCell ⟨c, 5, none⟩ (.int .i64 now)) ((w.setCell ⟨c, 5, none⟩ (.int .i64 now)).alloc (.cells #[.int .i64 0, .nilIface] 50)) := (Below.refl _ _).alloc (Nat.le_of_eq hz.symm) _
  have hM1 : ClM X lo ((w.setCell ⟨c, 5, none⟩ (.int .i64 now)).alloc (.cells #[.int .i64 0, .nilIface] 50)) c (R.ask now) := hM0.keep (by rw [hz]; exact hA)
  have hG1 : ((w.setCell ⟨c, 5, none⟩ (.int .i64 now)).alloc (.cells #[.int .i64 0, .nilIface] 50)).heap[w.heap.size]? = some (.cells #[.int .i64 0, .nilIface] 50) := by
    have := heap_alloc_new (w.setCell ⟨c, 5, none⟩ (.int .i64 now)) (.cells #[.int .i64 0, .nilIface] 50)
    rw [hz] at this
    exact this
  have hS0 : Step c R (R.ask now) w (w.setCell ⟨c, 5, none⟩ (.int .i64 now)) := ClM.putStep c R w 5 _ _
  have HZ := Lib.hid hz
  have HM0 := Lib.hid hM0
  have HM := Lib.hid hM1
  have HS0 := Lib.hid hS0
  have HB := Lib.hid hA
  have G1 := Lib.hid hG1
  have f5 := h.fr 5
  have c5 := h.c5
  have hc := h.clt
  have x1 : c ≠ w.heap.size := by omega
  have CL := Lib.hid (fun (X' : World) (h' : ClM X lo X' c (R.ask now)) => last_any X lo c (R.ask now) X' h' g cap l.length hov hm)
  have CR := Lib.hid (fun (X' : World) (h' : ClM X lo X' c (R.ask now)) => Vw.right_any X'.heap.size _ R.s.v X' h'.view (Nat.le_refl _) h'.sm false hv.symm)
  have CW := Lib.hid (fun (X' : World) (h' : ClM X lo X' c (R.ask now)) => where_any X lo c (R.ask now) X' h' l r hr hm)
  clear hv
  clear hov hcell hA hM0 hM1 hS0 hG1 hz h
  go_enter Tryd.func38, Tryd.ntmps38
  go_wp2_with fail
  generalize w.setCell ⟨c, 5, none⟩ (.int .i64 now) = wa at *
  generalize wa.alloc (.cells #[.int .i64 0, .nilIface] 50) = z1 at *
  clear f5 c5
  refine (CL.out _ HM.out).mono ?_
  rintro e z2 ⟨rfl, d, rfl⟩
  have HM2 := Lib.hid (HM.out.keep (below_drewN' z1 d))
  have HB2 := Lib.hid (HB.out.trans ((below_drewN' z1 d).mono (by have := HB.out.size; rw [HZ.out] at this; exact this)))
  have G2 := Lib.hid (((below_drewN' z1 d).block _ (Array.getElem?_eq_some_iff.1 G1.out).1).trans G1.out)
  generalize z1.drewN d = z2 at *
  have c6 := HM2.out.c6
  have c7 := HM2.out.c7
  have c8 := HM2.out.c8
  have c9 := HM2.out.c9
  go_wp2_with fail
  refine (CR.out _ HM2.out).mono ?_
  rintro e z3 ⟨rfl, hb3⟩
  have HM3 := Lib.hid (HM2.out.keep hb3)
  have HB3 := Lib.hid (HB2.out.trans (hb3.mono (by have := HB2.out.size; rw [HZ.out] at this; exact this)))
  have G3 := Lib.hid ((hb3.block _ (Array.getElem?_eq_some_iff.1 G2.out).1).trans G2.out)
  clear hb3 c6 c7 c8 c9
  go_wp2_with fail
  refine (CW.out _ HM3.out).mono ?_
  rintro e z4 ⟨rfl, hb4⟩
  have HM4 := Lib.hid (HM3.out.keep hb4)
  have HB4 := Lib.hid (HB3.out.trans (hb4.mono (by have := HB3.out.size; rw [HZ.out] at this; exact this)))
  have G4 := Lib.hid ((hb4.block _ (Array.getElem?_eq_some_iff.1 G3.out).1).trans G3.out)
  clear hb4
  have y0 : z4.cell? ⟨w.heap.size, 0, none⟩ = some (.int .i64 0) := by rw [Lib.cell_of_heap G4.out]; rfl
  have y1 : z4.cell? ⟨w.heap.size, 1, none⟩ = some .nilIface := by rw [Lib.cell_of_heap G4.out]; rfl
  have fy0 : z4.frozen? ⟨w.heap.size, 0, none⟩ = false := Lib.frozen_of_heap G4.out 0
  have fy1 : z4.frozen? ⟨w.heap.size, 1, none⟩ = false := Lib.frozen_of_heap G4.out 1
  simp only [OutR.val, MsgR.val]
  go_wp2_with fail
  refine bodyPost_ret (ret_row2 rfl _ _ _ _ _ _ _ _ _ (by rfl) G4.out Tryd.underlying50 rfl osize) rfl ?_
  have hfin := ask_fin HM0.out HZ.out HB4.out
  exact ⟨rfl, (hfin _ _).1, HS0.out.trans (hfin _ _).2⟩

set_option maxRecDepth 100000 in
set_option maxHeartbeats 1600000 in
theorem ask_app (X : Nat → Prop) (lo c : Nat) (R : ClR) (w : World) (h : ClM X lo w c R) (l : List OpR) (r : OpR) (hr : R.rs = l ++ [r]) (hm : l.length ≤ 1000000) (now : Int) (hv : Vw.rightB R.s.v = true) (hk : r.o.kind = 1) (hd : Int) (hhd : R.s.v.chain.getD 0 0 = hd) :
    Calls Tryd.prog 38 #[.pointer (some ⟨c, 0, none⟩), .int .i64 now] w fun e w' => e = .returned (OutR.val ⟨hd, .app r.o.id r.o.b r.bev⟩) ∧ ClM X lo w' c (R.ask now) ∧ Step c R (R.ask now) w w' := by
  obtain ⟨g, cap, hov, hgl, hgc, hgs, hcell, -⟩ := h.last hr
  have HLC := Lib.hid (fun (X' : World) (h' : ClM X lo X' c (R.ask now)) => (show ∀ j, j < 17 → X'.cell? ⟨g, l.length * 17 + j, none⟩ = r.cells[j]? from by
    obtain ⟨g', cap', hov', -, -, -, hcell', -⟩ := h'.last hr
    have e1 : R.ov = .slice (some ⟨g', 0, none⟩) (l.length + 1) cap' := hov'
    rw [hov] at e1
    injection e1 with e2 _ _
    injection e2 with e2
    injection e2 with e2 _ _
    subst e2
    exact hcell'))
  have hM0 : ClM X lo (w.setCell ⟨c, 5, none⟩ (.int .i64 now)) c (R.ask now) := h.put 5 (.int .i64 now) { R.s with asked := now } rfl rfl h.wh rfl
  have hz : (w.setCell ⟨c, 5, none⟩ (.int .i64 now)).heap.size = w.heap.size := World.size_setCell _ _ _
  have hA : Below w.heap.size (w.setCell ⟨c, 5, none⟩ (.int .i64 now)) ((w.setCell ⟨c, 5, none⟩ (.int .i64 now)).alloc (.cells #[.int .i64 0, .nilIface] 50)) := (Below.refl _ _).alloc (Nat.le_of_eq hz.symm) _
  have hM1 : ClM X lo ((w.setCell ⟨c, 5, none⟩ (.int .i64 now)).alloc (.cells #[.int .i64 0, .nilIface] 50)) c (R.ask now) := hM0.keep (by rw [hz]; exact hA)
  have hG1 : ((w.setCell ⟨c, 5, none⟩ (.int .i64 now)).alloc (.cells #[.int .i64 0, .nilIface] 50)).heap[w.heap.size]? = some (.cells #[.int .i64 0, .nilIface] 50) := by
    have := heap_alloc_new (w.setCell ⟨c, 5, none⟩ (.int .i64 now)) (.cells #[.int .i64 0, .nilIface] 50)
    rw [hz] at this
    exact this
  have hS0 : Step c R (R.ask now) w (w.setCell ⟨c, 5, none⟩ (.int .i64 now)) := ClM.putStep c R w 5 _ _
  have HZ := Lib.hid hz
  have HM0 := Lib.hid hM0
  have HM := Lib.hid hM1
  have HS0 := Lib.hid hS0
  have HB := Lib.hid hA
  have G1 := Lib.hid hG1
  have f5 := h.fr 5
  have c5 := h.c5
  have hc := h.clt
  have x1 : c ≠ w.heap.size := by omega
  have CL := Lib.hid (fun (X' : World) (h' : ClM X lo X' c (R.ask now)) => last_any X lo c (R.ask now) X' h' g cap l.length hov hm)
  have CR := Lib.hid (fun (X' : World) (h' : ClM X lo X' c (R.ask now)) => Vw.right_any X'.heap.size _ R.s.v X' h'.view (Nat.le_refl _) h'.sm true hv.symm)
  have CH := Lib.hid (fun (X' : World) (h' : ClM X lo X' c (R.ask now)) => Vw.head_any X'.heap.size _ R.s.v hd (by rw [Vw.headV, if_pos hv, hhd]) X' h'.view (Nat.le_refl _) h'.sm)
  have hk1 : (r.o.kind == 1) = true := by rw [hk]; rfl
  have HK := Lib.hid hk
  clear hv hk hhd
  clear hov hcell hA hM0 hM1 hS0 hG1 hz h
  go_enter Tryd.func38, Tryd.ntmps38
  go_wp2_with fail
  generalize w.setCell ⟨c, 5, none⟩ (.int .i64 now) = wa at *
  generalize wa.alloc (.cells #[.int .i64 0, .nilIface] 50) = z1 at *
  clear f5 c5
  refine (CL.out _ HM.out).mono ?_
  rintro e z2 ⟨rfl, d, rfl⟩
  have HM2 := Lib.hid (HM.out.keep (below_drewN' z1 d))
  have HB2 := Lib.hid (HB.out.trans ((below_drewN' z1 d).mono (by have := HB.out.size; rw [HZ.out] at this; exact this)))
  have G2 := Lib.hid (((below_drewN' z1 d).block _ (Array.getElem?_eq_some_iff.1 G1.out).1).trans G1.out)
  generalize z1.drewN d = z2 at *
  have c6 := HM2.out.c6
  have c7 := HM2.out.c7
  have c8 := HM2.out.c8
  have c9 := HM2.out.c9
  go_wp2_with fail
  refine (CR.out _ HM2.out).mono ?_
  rintro e z3 ⟨rfl, hb3⟩
  have HM3 := Lib.hid (HM2.out.keep hb3)
  have HB3 := Lib.hid (HB2.out.trans (hb3.mono (by have := HB2.out.size; rw [HZ.out] at this; exact this)))
  have G3 := Lib.hid ((hb3.block _ (Array.getElem?_eq_some_iff.1 G2.out).1).trans G2.out)
  clear hb3 c6 c7 c8 c9
  have MKS := Lib.hid (fun (X' : World) (hb : Below w.heap.size wa X') => (show X'.cell? ⟨c, 6, none⟩ = some (.int .i64 R.s.v.epoch) ∧ X'.cell? ⟨c, 7, none⟩ = some (R.cv) ∧ X'.cell? ⟨c, 8, none⟩ = some (R.sv) ∧ X'.cell? ⟨c, 9, none⟩ = some (R.bv) ∧ X'.cell? ⟨g, l.length * 17 + 1, none⟩ = some (.int .i64 r.o.id) ∧ X'.cell? ⟨g, l.length * 17 + 4, none⟩ = some (.string r.o.b.stream) ∧ X'.cell? ⟨g, l.length * 17 + 5, none⟩ = some (.int .i64 r.o.b.expect) ∧ X'.cell? ⟨g, l.length * 17 + 6, none⟩ = some (.int .i64 r.o.b.session) ∧ X'.cell? ⟨g, l.length * 17 + 7, none⟩ = some (.int .i64 r.o.b.seq) ∧ X'.cell? ⟨g, l.length * 17 + 8, none⟩ = some (r.bev) ∧ Below w.heap.size wa X' from by
    have h1 := HM0.out.keep (hb.mono (Nat.le_of_eq HZ.out))
    have h2 := HLC.out X' h1
    exact ⟨h1.c6, h1.c7, h1.c8, h1.c9, h2 1 (by omega), h2 4 (by omega), h2 5 (by omega), h2 6 (by omega), h2 7 (by omega), h2 8 (by omega), hb⟩))
  have k0 : z3.cell? ⟨g, l.length * 17, none⟩ = some (.int .i64 r.o.kind) := HLC.out z3 HM3.out 0 (by omega)
  rw [HK.out] at k0
  go_wp2_with fail
  clear k0
  refine region_begin (S := fun X' => X'.cell? ⟨c, 6, none⟩ = some (.int .i64 R.s.v.epoch) ∧ X'.cell? ⟨c, 7, none⟩ = some (R.cv) ∧ X'.cell? ⟨c, 8, none⟩ = some (R.sv) ∧ X'.cell? ⟨c, 9, none⟩ = some (R.bv) ∧ X'.cell? ⟨g, l.length * 17 + 1, none⟩ = some (.int .i64 r.o.id) ∧ X'.cell? ⟨g, l.length * 17 + 4, none⟩ = some (.string r.o.b.stream) ∧ X'.cell? ⟨g, l.length * 17 + 5, none⟩ = some (.int .i64 r.o.b.expect) ∧ X'.cell? ⟨g, l.length * 17 + 6, none⟩ = some (.int .i64 r.o.b.session) ∧ X'.cell? ⟨g, l.length * 17 + 7, none⟩ = some (.int .i64 r.o.b.seq) ∧ X'.cell? ⟨g, l.length * 17 + 8, none⟩ = some (r.bev) ∧ Below w.heap.size wa X') 17 rfl (by kernel_rfl) (MKS.out _ HB3.out.drew) (fun hH0 => ?_)
  refine wpAnyH_take (i := 0) (oi := ?oa0) (v := ?va0) ?hia0 (by kernel_rfl) (by kernel_rfl) (by kernel_rfl) ?hQa0 ?hya0 hH0 ?_
  case hia0 => simp only [List.getElem?_toArray, List.getElem?_cons_zero]; rfl
  case hQa0 => exact fun _ _ _ h => h
  case hya0 => refine Or.inl ⟨by rfl, ?_⟩; intro W hSw; (try dsimp only at hSw); go_simp; try with_reducible rfl
  simp only [Act.put, List.setIfInBounds_toArray, List.set_cons_zero, List.set_cons_succ]
  refine wpAnyH_take (i := 1) (oi := ?oa1) (v := ?va1) ?hia1 (by kernel_rfl) (by kernel_rfl) (by kernel_rfl) ?hQa1 ?hya1 hH0 ?_
  case hia1 => simp only [List.getElem?_toArray, List.getElem?_cons_zero, List.getElem?_cons_succ]; rfl
  case hQa1 => exact fun _ _ _ h => h
  case hya1 => refine Or.inl ⟨by rfl, ?_⟩; intro W hSw; (try dsimp only at hSw); go_simp; try with_reducible rfl
  simp only [Act.put, List.setIfInBounds_toArray, List.set_cons_zero, List.set_cons_succ]
  refine wpAnyH_take (i := 2) (oi := ?oa2) (v := ?va2) ?hia2 (by kernel_rfl) (by kernel_rfl) (by kernel_rfl) ?hQa2 ?hya2 hH0 ?_
  case hia2 => simp only [List.getElem?_toArray, List.getElem?_cons_zero, List.getElem?_cons_succ]; rfl
  case hQa2 => exact fun _ _ _ h => h
  case hya2 => refine Or.inl ⟨by rfl, ?_⟩; intro W hSw; (try dsimp only at hSw); go_simp; try with_reducible rfl
  simp only [Act.put, List.setIfInBounds_toArray, List.set_cons_zero, List.set_cons_succ]
  refine wpAnyH_take (i := 3) (oi := ?oa3) (v := ?va3) ?hia3 (by kernel_rfl) (by kernel_rfl) (by kernel_rfl) ?hQa3 ?hya3 hH0 ?_
  case hia3 => simp only [List.getElem?_toArray, List.getElem?_cons_zero, List.getElem?_cons_succ]; rfl
  case hQa3 => exact fun _ _ _ h => h
  case hya3 => refine Or.inl ⟨by rfl, ?_⟩; intro W hSw; (try dsimp only at hSw); go_simp; try with_reducible rfl
  simp only [Act.put, List.setIfInBounds_toArray, List.set_cons_zero, List.set_cons_succ]
  refine wpAnyH_take (i := 5) (oi := ?oa5) (v := ?va5) ?hia5 (by kernel_rfl) (by kernel_rfl) (by kernel_rfl) ?hQa5 ?hya5 hH0 ?_
  case hia5 => simp only [List.getElem?_toArray, List.getElem?_cons_zero, List.getElem?_cons_succ]; rfl
  case hQa5 => exact fun _ _ _ h => h
  case hya5 => refine Or.inl ⟨by rfl, ?_⟩; intro W hSw; (try dsimp only at hSw); go_simp; try with_reducible rfl
  simp only [Act.put, List.setIfInBounds_toArray, List.set_cons_zero, List.set_cons_succ]
  refine wpAnyH_take (i := 6) (oi := ?oa6) (v := ?va6) ?hia6 (by kernel_rfl) (by kernel_rfl) (by kernel_rfl) ?hQa6 ?hya6 hH0 ?_
  case hia6 => simp only [List.getElem?_toArray, List.getElem?_cons_zero, List.getElem?_cons_succ]; rfl
  case hQa6 => exact fun _ _ _ h => h
  case hya6 => refine Or.inl ⟨by rfl, ?_⟩; intro W hSw; (try dsimp only at hSw); go_simp; try with_reducible rfl
  simp only [Act.put, List.setIfInBounds_toArray, List.set_cons_zero, List.set_cons_succ]
  refine wpAnyH_take (i := 7) (oi := ?oa7) (v := ?va7) ?hia7 (by kernel_rfl) (by kernel_rfl) (by kernel_rfl) ?hQa7 ?hya7 hH0 ?_
  case hia7 => simp only [List.getElem?_toArray, List.getElem?_cons_zero, List.getElem?_cons_succ]; rfl
  case hQa7 => exact fun _ _ _ h => h
  case hya7 => refine Or.inl ⟨by rfl, ?_⟩; intro W hSw; (try dsimp only at hSw); go_simp; try with_reducible rfl
  simp only [Act.put, List.setIfInBounds_toArray, List.set_cons_zero, List.set_cons_succ]
  refine wpAnyH_take (i := 8) (oi := ?oa8) (v := ?va8) ?hia8 (by kernel_rfl) (by kernel_rfl) (by kernel_rfl) ?hQa8 ?hya8 hH0 ?_
  case hia8 => simp only [List.getElem?_toArray, List.getElem?_cons_zero, List.getElem?_cons_succ]; rfl
  case hQa8 => exact fun _ _ _ h => h
  case hya8 => refine Or.inl ⟨by rfl, ?_⟩; intro W hSw; (try dsimp only at hSw); go_simp; try with_reducible rfl
  simp only [Act.put, List.setIfInBounds_toArray, List.set_cons_zero, List.set_cons_succ]
  refine wpAnyH_take (i := 9) (oi := ?oa9) (v := ?va9) ?hia9 (by kernel_rfl) (by kernel_rfl) (by kernel_rfl) ?hQa9 ?hya9 hH0 ?_
  case hia9 => simp only [List.getElem?_toArray, List.getElem?_cons_zero, List.getElem?_cons_succ]; rfl
  case hQa9 => exact fun _ _ _ h => h
  case hya9 => refine Or.inl ⟨by rfl, ?_⟩; intro W hSw; (try dsimp only at hSw); go_simp; try with_reducible rfl
  simp only [Act.put, List.setIfInBounds_toArray, List.set_cons_zero, List.set_cons_succ]
  refine wpAnyH_take (i := 10) (oi := ?oa10) (v := ?va10) ?hia10 (by kernel_rfl) (by kernel_rfl) (by kernel_rfl) ?hQa10 ?hya10 hH0 ?_
  case hia10 => simp only [List.getElem?_toArray, List.getElem?_cons_zero, List.getElem?_cons_succ]; rfl
  case hQa10 => exact fun _ _ _ h => h
  case hya10 => refine Or.inl ⟨by rfl, ?_⟩; intro W hSw; (try dsimp only at hSw); go_simp; try with_reducible rfl
  simp only [Act.put, List.setIfInBounds_toArray, List.set_cons_zero, List.set_cons_succ]
  refine wpAnyH_take (i := 11) (oi := ?oa11) (v := ?va11) ?hia11 (by kernel_rfl) (by kernel_rfl) (by kernel_rfl) ?hQa11 ?hya11 hH0 ?_
  case hia11 => simp only [List.getElem?_toArray, List.getElem?_cons_zero, List.getElem?_cons_succ]; rfl
  case hQa11 => exact fun _ _ _ h => h
  case hya11 => refine Or.inl ⟨by rfl, ?_⟩; intro W hSw; (try dsimp only at hSw); go_simp; try with_reducible rfl
  simp only [Act.put, List.setIfInBounds_toArray, List.set_cons_zero, List.set_cons_succ]
  refine wpAnyH_take (i := 12) (oi := ?oa12) (v := ?va12) ?hia12 (by kernel_rfl) (by kernel_rfl) (by kernel_rfl) ?hQa12 ?hya12 hH0 ?_
  case hia12 => simp only [List.getElem?_toArray, List.getElem?_cons_zero, List.getElem?_cons_succ]; rfl
  case hQa12 => exact fun _ _ _ h => h
  case hya12 => refine Or.inl ⟨by rfl, ?_⟩; intro W hSw; (try dsimp only at hSw); go_simp; try with_reducible rfl
  simp only [Act.put, List.setIfInBounds_toArray, List.set_cons_zero, List.set_cons_succ]
  refine wpAnyH_take (i := 13) (oi := ?oa13) (v := ?va13) ?hia13 (by kernel_rfl) (by kernel_rfl) (by kernel_rfl) ?hQa13 ?hya13 hH0 ?_
  case hia13 => simp only [List.getElem?_toArray, List.getElem?_cons_zero, List.getElem?_cons_succ]; rfl
  case hQa13 => exact fun _ _ _ h => h
  case hya13 => refine Or.inl ⟨by rfl, ?_⟩; intro W hSw; (try dsimp only at hSw); go_simp; try with_reducible rfl
  simp only [Act.put, List.setIfInBounds_toArray, List.set_cons_zero, List.set_cons_succ]
  refine wpAnyH_take (i := 14) (oi := ?oa14) (v := ?va14) ?hia14 (by kernel_rfl) (by kernel_rfl) (by kernel_rfl) ?hQa14 ?hya14 hH0 ?_
  case hia14 => simp only [List.getElem?_toArray, List.getElem?_cons_zero, List.getElem?_cons_succ]; rfl
  case hQa14 => exact fun _ _ _ h => h
  case hya14 => refine Or.inl ⟨by rfl, ?_⟩; intro W hSw; (try dsimp only at hSw); go_simp; try with_reducible rfl
  simp only [Act.put, List.setIfInBounds_toArray, List.set_cons_zero, List.set_cons_succ]
  clear hH0
  have hbd3 := (Below.refl z3.heap.size z3).drew
  have HM3d := Lib.hid (HM3.out.keep hbd3)
  have HB3d := Lib.hid (HB3.out.trans (hbd3.mono (by have := HB3.out.size; rw [HZ.out] at this; exact this)))
  have G3d := Lib.hid ((hbd3.block _ (Array.getElem?_eq_some_iff.1 G3.out).1).trans G3.out)
  clear hbd3
  generalize z3.drew = z3d at *
  refine wpAnyH_ready (rs := [4]) (by kernel_rfl) (by simp) ?_
  refine AllReadyH.cons (o := ?oa4) ?hoa4 (fun K' hK => ?_) AllReadyH.nil
  case hoa4 => simp only [List.getElem?_toArray, List.getElem?_cons_zero, List.getElem?_cons_succ]; rfl
  go_simp
  refine (CH.out _ HM3d.out).mono ?_
  rintro e z4 ⟨rfl, hb4⟩
  have HM4 := Lib.hid (HM3d.out.keep hb4)
  have HB4 := Lib.hid (HB3d.out.trans (hb4.mono (by have := HB3d.out.size; rw [HZ.out] at this; exact this)))
  have G4 := Lib.hid ((hb4.block _ (Array.getElem?_eq_some_iff.1 G3d.out).1).trans G3d.out)
  clear hb4
  refine hK.out _ _ (MKS.out _ HB4.out) (fun hH4 => ?_)
  clear hK K'
  (try simp only [Act.put, List.setIfInBounds_toArray, List.set_cons_zero, List.set_cons_succ])
  refine wpAnyH_take (i := 15) (oi := ?oa15) (v := ?va15) ?hia15 (by kernel_rfl) (by kernel_rfl) (by kernel_rfl) ?hQa15 ?hya15 hH4 ?_
  case hia15 => simp only [List.getElem?_toArray, List.getElem?_cons_zero, List.getElem?_cons_succ]; rfl
  case hQa15 => exact fun _ _ _ h => h
  case hya15 => refine Or.inl ⟨by rfl, ?_⟩; intro W hSw; (try dsimp only at hSw); go_simp; try with_reducible rfl
  simp only [Act.put, List.setIfInBounds_toArray, List.set_cons_zero, List.set_cons_succ]
  clear hH4
  have y0 : z4.cell? ⟨w.heap.size, 0, none⟩ = some (.int .i64 0) := by rw [Lib.cell_of_heap G4.out]; rfl
  have y1 : z4.cell? ⟨w.heap.size, 1, none⟩ = some .nilIface := by rw [Lib.cell_of_heap G4.out]; rfl
  have fy0 : z4.frozen? ⟨w.heap.size, 0, none⟩ = false := Lib.frozen_of_heap G4.out 0
  have fy1 : z4.frozen? ⟨w.heap.size, 1, none⟩ = false := Lib.frozen_of_heap G4.out 1
  refine wpAnyH_ready (rs := [16]) (by kernel_rfl) (by simp) ?_
  refine AllReadyH.cons (o := ?oa16) ?hoa16 (fun K' hK => ?_) AllReadyH.nil
  case hoa16 => simp only [List.getElem?_toArray, List.getElem?_cons_zero, List.getElem?_cons_succ]; rfl
  go_simp
  refine hK.out _ _ (MKS.out _ ((HB4.out.setCell (p := ⟨w.heap.size, 0, none⟩) (Nat.le_refl _) _).setCell (p := ⟨w.heap.size, 1, none⟩) (Nat.le_refl _) _)) (fun hH5 => ?_)
  clear hK K'
  (try simp only [Act.put, List.setIfInBounds_toArray, List.set_cons_zero, List.set_cons_succ])
  clear hH5
  refine wpAnyH_done (by kernel_rfl) ?_ _
  go_wp2_with fail
  refine bodyPost_ret (ret_row2 rfl _ _ _ _ _ _ _ _ _ (by rfl) G4.out Tryd.underlying50 rfl osize) rfl ?_
  have hfin := ask_fin HM0.out HZ.out HB4.out
  exact ⟨rfl, (hfin _ _).1, HS0.out.trans (hfin _ _).2⟩

set_option maxRecDepth 100000 in
set_option maxHeartbeats 1600000 in
theorem ask_red_neg (X : Nat → Prop) (lo c : Nat) (R : ClR) (w : World) (h : ClM X lo w c R) (l : List OpR) (r : OpR) (hr : R.rs = l ++ [r]) (hm : l.length ≤ 1000000) (now : Int) (hv : Vw.rightB R.s.v = true) (hk : r.o.kind ≠ 1) (nd : Int) (hnd : R.s.v.chain.getD (pickT R.s.which R.s.v.chain.length) 0 = nd) (hneg : R.s.which < 0) :
    Calls Tryd.prog 38 #[.pointer (some ⟨c, 0, none⟩), .int .i64 now] w fun e w' => e = .returned (OutR.val ⟨nd, .red r.o.id r.o.stream r.o.from_⟩) ∧ ClM X lo w' c (R.ask now) ∧ Step c R (R.ask now) w w' := by
  obtain ⟨g, cap, hov, hgl, hgc, hgs, hcell, -⟩ := h.last hr
  have HLC := Lib.hid (fun (X' : World) (h' : ClM X lo X' c (R.ask now)) => (show ∀ j, j < 17 → X'.cell? ⟨g, l.length * 17 + j, none⟩ = r.cells[j]? from by
    obtain ⟨g', cap', hov', -, -, -, hcell', -⟩ := h'.last hr
    have e1 : R.ov = .slice (some ⟨g', 0, none⟩) (l.length + 1) cap' := hov'
    rw [hov] at e1
    injection e1 with e2 _ _
    injection e2 with e2
    injection e2 with e2 _ _
    subst e2
    exact hcell'))
  have hRV := (Vw.rightB_iff R.s.v).1 hv
  have hn1 := hRV.n1
  have hn2 := hRV.n2
  have hin : InA (fun k => R.mut c k ∨ X k) w R.cv R.s.v.chain := h.cv
  obtain ⟨ca, ck, hcv⟩ := h.cv.1.form
  obtain ⟨n, hn⟩ : ∃ n, R.s.v.chain.length = n := ⟨_, rfl⟩
  have hq1 : pickT R.s.which n < n := Nat.mod_lt _ (by omega)
  obtain ⟨q, hq⟩ : ∃ q, pickT R.s.which n = q := ⟨_, rfl⟩
  rw [hq] at hq1
  obtain ⟨cb, co, ck', hcv2, hcb, -, -⟩ := h.cv.1.get q (by omega)
  obtain ⟨rfl, -, rfl⟩ : ca = some ⟨cb, co, none⟩ ∧ R.s.v.chain.length = R.s.v.chain.length ∧ ck = ck' := by rw [hcv] at hcv2; injection hcv2 with e1 e2 e3; exact ⟨e1, e2, e3⟩
  have hndq : R.s.v.chain[q]? = some nd := by
    rw [← hnd, hn, hq, List.getD_eq_getElem?_getD, List.getElem?_eq_getElem (by omega)]
    rfl
  have HCC := Lib.hid (fun (X' : World) (h' : ClM X lo X' c (R.ask now)) => (show X'.cell? ⟨cb, co + q, none⟩ = some (.int .i64 nd) from by
    obtain ⟨b', o', k', e1, -, -, e4⟩ := h'.cv.1.get q (by rw [← hn] at hq1; exact hq1)
    have e1 : R.cv = .slice (some ⟨b', o', none⟩) R.s.v.chain.length k' := e1
    rw [hcv] at e1
    injection e1 with e1 _ _
    injection e1 with e1
    injection e1 with e1 e2 _
    subst e1 e2
    rw [e4]
    have e5 : (R.ask now).s.v.chain[q]? = some nd := hndq
    rw [List.getElem?_eq_getElem (by rw [← hn] at hq1; exact hq1)] at e5
    rw [Option.some.inj e5]))
  rw [hn] at hcv
  have HCV := Lib.hid hcv
  have hw64 := h.wh
  have hM0 : ClM X lo (w.setCell ⟨c, 5, none⟩ (.int .i64 now)) c (R.ask now) := h.put 5 (.int .i64 now) { R.s with asked := now } rfl rfl h.wh rfl
  have hz : (w.setCell ⟨c, 5, none⟩ (.int .i64 now)).heap.size = w.heap.size := World.size_setCell _ _ _
  have hA : Below w.heap.size (w.setCell ⟨c, 5, none⟩ (.int .i64 now)) ((w.setCell ⟨c, 5, none⟩ (.int .i64 now)).alloc (.cells #[.int .i64 0, .nilIface] 50)) := (Below.refl _ _).alloc (Nat.le_of_eq hz.symm) _
  have hM1 : ClM X lo ((w.setCell ⟨c, 5, none⟩ (.int .i64 now)).alloc (.cells #[.int .i64 0, .nilIface] 50)) c (R.ask now) := hM0.keep (by rw [hz]; exact hA)
  have hG1 : ((w.setCell ⟨c, 5, none⟩ (.int .i64 now)).alloc (.cells #[.int .i64 0, .nilIface] 50)).heap[w.heap.size]? = some (.cells #[.int .i64 0, .nilIface] 50) := by
    have := heap_alloc_new (w.setCell ⟨c, 5, none⟩ (.int .i64 now)) (.cells #[.int .i64 0, .nilIface] 50)
    rw [hz] at this
    exact this
  have hS0 : Step c R (R.ask now) w (w.setCell ⟨c, 5, none⟩ (.int .i64 now)) := ClM.putStep c R w 5 _ _
  have HZ := Lib.hid hz
  have HM0 := Lib.hid hM0
  have HM := Lib.hid hM1
  have HS0 := Lib.hid hS0
  have HB := Lib.hid hA
  have G1 := Lib.hid hG1
  have f5 := h.fr 5
  have c5 := h.c5
  have hc := h.clt
  have x1 : c ≠ w.heap.size := by omega
  have CL := Lib.hid (fun (X' : World) (h' : ClM X lo X' c (R.ask now)) => last_any X lo c (R.ask now) X' h' g cap l.length hov hm)
  have CR := Lib.hid (fun (X' : World) (h' : ClM X lo X' c (R.ask now)) => Vw.right_any X'.heap.size _ R.s.v X' h'.view (Nat.le_refl _) h'.sm true hv.symm)
  have hk1 : (r.o.kind == 1) = false := by rw [beq_eq_false_iff_ne]; exact hk
  obtain ⟨k, hkw⟩ : ∃ k, R.s.which = k := ⟨_, rfl⟩
  obtain ⟨hw1, hw2⟩ := hw64
  rw [hkw] at hq hneg hw1 hw2
  have e1 : IntKind.i64.wrap (k + 1) = k + 1 := by rw [IntKind.wrap_i64]; omega
  have e2 : IntKind.i64.wrap (-(k + 1)) = -(k + 1) := by rw [IntKind.wrap_i64]; omega
  obtain ⟨m, hm1⟩ : ∃ m : Nat, -(k + 1) = (m : Int) := ⟨(-(k + 1)).toNat, by omega⟩
  have hmq : q = m % n := by rw [← hq, pickT, if_pos hneg, hm1, Int.toNat_natCast]
  rw [hm1] at e2
  have hlt : (q : Int) < (n : Int) := by omega
  have hge : (0 : Int) ≤ (q : Int) := by omega
  have hn0 : ¬ (n : Int) = 0 := by omega
  have hn0' : ¬ n = 0 := by omega
  have e3 : (m : Int).tmod (n : Int) = (q : Int) := by rw [Int.tmod_eq_emod_of_nonneg (by omega), hmq]; rfl
  have e4 : IntKind.i64.wrap (q : Int) = (q : Int) := by rw [IntKind.wrap_i64]; omega
  have HKW := Lib.hid hkw
  clear hq hn hmq hkw
  clear hv hk hnd hndq hcv2 hin hRV hcv
  clear hov hcell hA hM0 hM1 hS0 hG1 hz h
  go_enter Tryd.func38, Tryd.ntmps38
  go_wp2_with fail
  generalize w.setCell ⟨c, 5, none⟩ (.int .i64 now) = wa at *
  generalize wa.alloc (.cells #[.int .i64 0, .nilIface] 50) = z1 at *
  clear f5 c5
  refine (CL.out _ HM.out).mono ?_
  rintro e z2 ⟨rfl, d, rfl⟩
  have HM2 := Lib.hid (HM.out.keep (below_drewN' z1 d))
  have HB2 := Lib.hid (HB.out.trans ((below_drewN' z1 d).mono (by have := HB.out.size; rw [HZ.out] at this; exact this)))
  have G2 := Lib.hid (((below_drewN' z1 d).block _ (Array.getElem?_eq_some_iff.1 G1.out).1).trans G1.out)
  generalize z1.drewN d = z2 at *
  have c6 := HM2.out.c6
  have c7 := HM2.out.c7
  have c8 := HM2.out.c8
  have c9 := HM2.out.c9
  go_wp2_with fail
  refine (CR.out _ HM2.out).mono ?_
  rintro e z3 ⟨rfl, hb3⟩
  have HM3 := Lib.hid (HM2.out.keep hb3)
  have HB3 := Lib.hid (HB2.out.trans (hb3.mono (by have := HB2.out.size; rw [HZ.out] at this; exact this)))
  have G3 := Lib.hid ((hb3.block _ (Array.getElem?_eq_some_iff.1 G2.out).1).trans G2.out)
  clear hb3 c6 c7 c8 c9
  have MKS := Lib.hid (fun (X' : World) (hb : Below w.heap.size wa X') => (show X'.cell? ⟨c, 7, none⟩ = some (.slice (some ⟨cb, co, none⟩) n ck) ∧ X'.cell? ⟨g, l.length * 17 + 1, none⟩ = some (.int .i64 r.o.id) ∧ X'.cell? ⟨g, l.length * 17 + 13, none⟩ = some (.string r.o.stream) ∧ X'.cell? ⟨g, l.length * 17 + 14, none⟩ = some (.int .i64 r.o.from_) ∧ X'.cell? ⟨cb, co + q, none⟩ = some (.int .i64 nd) ∧ Below w.heap.size wa X' from by
    have h1 := HM0.out.keep (hb.mono (Nat.le_of_eq HZ.out))
    have h2 := HLC.out X' h1
    exact ⟨by rw [← HCV.out]; exact h1.c7, h2 1 (by omega), h2 13 (by omega), h2 14 (by omega), HCC.out _ h1, hb⟩))
  have k0 : z3.cell? ⟨g, l.length * 17, none⟩ = some (.int .i64 r.o.kind) := HLC.out z3 HM3.out 0 (by omega)
  have k4 : z3.cell? ⟨c, 4, none⟩ = some (.int .i64 k) := by rw [← HKW.out]; exact HM3.out.c4
  go_wp2_with fail
  clear k0 k4
  refine region_begin (S := fun X' => X'.cell? ⟨c, 7, none⟩ = some (.slice (some ⟨cb, co, none⟩) n ck) ∧ X'.cell? ⟨g, l.length * 17 + 1, none⟩ = some (.int .i64 r.o.id) ∧ X'.cell? ⟨g, l.length * 17 + 13, none⟩ = some (.string r.o.stream) ∧ X'.cell? ⟨g, l.length * 17 + 14, none⟩ = some (.int .i64 r.o.from_) ∧ X'.cell? ⟨cb, co + q, none⟩ = some (.int .i64 nd) ∧ Below w.heap.size wa X') 31 rfl (by kernel_rfl) (MKS.out _ HB3.out.drew) (fun hH0 => ?_)
  refine wpAnyH_take (i := 0) (oi := ?oa0) (v := ?va0) ?hia0 (by kernel_rfl) (by kernel_rfl) (by kernel_rfl) ?hQa0 ?hya0 hH0 ?_
  case hia0 => simp only [List.getElem?_toArray, List.getElem?_cons_zero]; rfl
  case hQa0 => exact fun _ _ _ h => h
  case hya0 => refine Or.inl ⟨by rfl, ?_⟩; intro W hSw; (try dsimp only at hSw); go_simp; try with_reducible rfl
  simp only [Act.put, List.setIfInBounds_toArray, List.set_cons_zero, List.set_cons_succ]
  refine wpAnyH_take (i := 1) (oi := ?oa1) (v := ?va1) ?hia1 (by kernel_rfl) (by kernel_rfl) (by kernel_rfl) ?hQa1 ?hya1 hH0 ?_
  case hia1 => simp only [List.getElem?_toArray, List.getElem?_cons_zero, List.getElem?_cons_succ]; rfl
  case hQa1 => exact fun _ _ _ h => h
  case hya1 => refine Or.inl ⟨by rfl, ?_⟩; intro W hSw; (try dsimp only at hSw); go_simp; try with_reducible rfl
  simp only [Act.put, List.setIfInBounds_toArray, List.set_cons_zero, List.set_cons_succ]
  refine wpAnyH_take (i := 2) (oi := ?oa2) (v := ?va2) ?hia2 (by kernel_rfl) (by kernel_rfl) (by kernel_rfl) ?hQa2 ?hya2 hH0 ?_
  case hia2 => simp only [List.getElem?_toArray, List.getElem?_cons_zero, List.getElem?_cons_succ]; rfl
  case hQa2 => exact fun _ _ _ h => h
  case hya2 => refine Or.inl ⟨by rfl, ?_⟩; intro W hSw; (try dsimp only at hSw); go_simp; try with_reducible rfl
  simp only [Act.put, List.setIfInBounds_toArray, List.set_cons_zero, List.set_cons_succ]
  refine wpAnyH_take (i := 3) (oi := ?oa3) (v := ?va3) ?hia3 (by kernel_rfl) (by kernel_rfl) (by kernel_rfl) ?hQa3 ?hya3 hH0 ?_
  case hia3 => simp only [List.getElem?_toArray, List.getElem?_cons_zero, List.getElem?_cons_succ]; rfl
  case hQa3 => exact fun _ _ _ h => h
  case hya3 => refine Or.inl ⟨by rfl, ?_⟩; intro W hSw; (try dsimp only at hSw); go_simp; try with_reducible rfl
  simp only [Act.put, List.setIfInBounds_toArray, List.set_cons_zero, List.set_cons_succ]
  refine wpAnyH_take (i := 4) (oi := ?oa4) (v := ?va4) ?hia4 (by kernel_rfl) (by kernel_rfl) (by kernel_rfl) ?hQa4 ?hya4 hH0 ?_
  case hia4 => simp only [List.getElem?_toArray, List.getElem?_cons_zero, List.getElem?_cons_succ]; rfl
  case hQa4 => exact fun _ _ _ h => h
  case hya4 => refine Or.inl ⟨by rfl, ?_⟩; intro W hSw; (try dsimp only at hSw); go_simp; try with_reducible rfl
  simp only [Act.put, List.setIfInBounds_toArray, List.set_cons_zero, List.set_cons_succ]
  refine wpAnyH_take (i := 5) (oi := ?oa5) (v := ?va5) ?hia5 (by kernel_rfl) (by kernel_rfl) (by kernel_rfl) ?hQa5 ?hya5 hH0 ?_
  case hia5 => simp only [List.getElem?_toArray, List.getElem?_cons_zero, List.getElem?_cons_succ]; rfl
  case hQa5 => exact fun _ _ _ h => h
  case hya5 => refine Or.inl ⟨by rfl, ?_⟩; intro W hSw; (try dsimp only at hSw); go_simp; try with_reducible rfl
  simp only [Act.put, List.setIfInBounds_toArray, List.set_cons_zero, List.set_cons_succ]
  refine wpAnyH_take (i := 6) (oi := ?oa6) (v := ?va6) ?hia6 (by kernel_rfl) (by kernel_rfl) (by kernel_rfl) ?hQa6 ?hya6 hH0 ?_
  case hia6 => simp only [List.getElem?_toArray, List.getElem?_cons_zero, List.getElem?_cons_succ]; rfl
  case hQa6 => exact fun _ _ _ h => h
  case hya6 => refine Or.inl ⟨by rfl, ?_⟩; intro W hSw; (try dsimp only at hSw); go_simp; try with_reducible rfl
  simp only [Act.put, List.setIfInBounds_toArray, List.set_cons_zero, List.set_cons_succ]
  refine wpAnyH_take (i := 7) (oi := ?oa7) (v := ?va7) ?hia7 (by kernel_rfl) (by kernel_rfl) (by kernel_rfl) ?hQa7 ?hya7 hH0 ?_
  case hia7 => simp only [List.getElem?_toArray, List.getElem?_cons_zero, List.getElem?_cons_succ]; rfl
  case hQa7 => exact fun _ _ _ h => h
  case hya7 => refine Or.inl ⟨by rfl, ?_⟩; intro W hSw; (try dsimp only at hSw); go_simp; try with_reducible rfl
  simp only [Act.put, List.setIfInBounds_toArray, List.set_cons_zero, List.set_cons_succ]
  refine wpAnyH_take (i := 8) (oi := ?oa8) (v := ?va8) ?hia8 (by kernel_rfl) (by kernel_rfl) (by kernel_rfl) ?hQa8 ?hya8 hH0 ?_
  case hia8 => simp only [List.getElem?_toArray, List.getElem?_cons_zero, List.getElem?_cons_succ]; rfl
  case hQa8 => exact fun _ _ _ h => h
  case hya8 => refine Or.inl ⟨by rfl, ?_⟩; intro W hSw; (try dsimp only at hSw); go_simp; try with_reducible rfl
  simp only [Act.put, List.setIfInBounds_toArray, List.set_cons_zero, List.set_cons_succ]
  refine wpAnyH_take (i := 9) (oi := ?oa9) (v := ?va9) ?hia9 (by kernel_rfl) (by kernel_rfl) (by kernel_rfl) ?hQa9 ?hya9 hH0 ?_
  case hia9 => simp only [List.getElem?_toArray, List.getElem?_cons_zero, List.getElem?_cons_succ]; rfl
  case hQa9 => exact fun _ _ _ h => h
  case hya9 => refine Or.inl ⟨by rfl, ?_⟩; intro W hSw; (try dsimp only at hSw); go_simp; try with_reducible rfl
  simp only [Act.put, List.setIfInBounds_toArray, List.set_cons_zero, List.set_cons_succ]
  refine wpAnyH_take (i := 10) (oi := ?oa10) (v := ?va10) ?hia10 (by kernel_rfl) (by kernel_rfl) (by kernel_rfl) ?hQa10 ?hya10 hH0 ?_
  case hia10 => simp only [List.getElem?_toArray, List.getElem?_cons_zero, List.getElem?_cons_succ]; rfl
  case hQa10 => exact fun _ _ _ h => h
  case hya10 => refine Or.inl ⟨by rfl, ?_⟩; intro W hSw; (try dsimp only at hSw); go_simp; try with_reducible rfl
  simp only [Act.put, List.setIfInBounds_toArray, List.set_cons_zero, List.set_cons_succ]
  refine wpAnyH_take (i := 11) (oi := ?oa11) (v := ?va11) ?hia11 (by kernel_rfl) (by kernel_rfl) (by kernel_rfl) ?hQa11 ?hya11 hH0 ?_
  case hia11 => simp only [List.getElem?_toArray, List.getElem?_cons_zero, List.getElem?_cons_succ]; rfl
  case hQa11 => exact fun _ _ _ h => h
  case hya11 => refine Or.inl ⟨by rfl, ?_⟩; intro W hSw; (try dsimp only at hSw); go_simp; try with_reducible rfl
  simp only [Act.put, List.setIfInBounds_toArray, List.set_cons_zero, List.set_cons_succ]
  refine wpAnyH_take (i := 12) (oi := ?oa12) (v := ?va12) ?hia12 (by kernel_rfl) (by kernel_rfl) (by kernel_rfl) ?hQa12 ?hya12 hH0 ?_
  case hia12 => simp only [List.getElem?_toArray, List.getElem?_cons_zero, List.getElem?_cons_succ]; rfl
  case hQa12 => exact fun _ _ _ h => h
  case hya12 => refine Or.inl ⟨by rfl, ?_⟩; intro W hSw; (try dsimp only at hSw); go_simp; try with_reducible rfl
  simp only [Act.put, List.setIfInBounds_toArray, List.set_cons_zero, List.set_cons_succ]
  refine wpAnyH_take (i := 13) (oi := ?oa13) (v := ?va13) ?hia13 (by kernel_rfl) (by kernel_rfl) (by kernel_rfl) ?hQa13 ?hya13 hH0 ?_
  case hia13 => simp only [List.getElem?_toArray, List.getElem?_cons_zero, List.getElem?_cons_succ]; rfl
  case hQa13 => exact fun _ _ _ h => h
  case hya13 => refine Or.inl ⟨by rfl, ?_⟩; intro W hSw; (try dsimp only at hSw); go_simp; try with_reducible rfl
  simp only [Act.put, List.setIfInBounds_toArray, List.set_cons_zero, List.set_cons_succ]
  refine wpAnyH_take (i := 14) (oi := ?oa14) (v := ?va14) ?hia14 (by kernel_rfl) (by kernel_rfl) (by kernel_rfl) ?hQa14 ?hya14 hH0 ?_
  case hia14 => simp only [List.getElem?_toArray, List.getElem?_cons_zero, List.getElem?_cons_succ]; rfl
  case hQa14 => exact fun _ _ _ h => h
  case hya14 => refine Or.inl ⟨by rfl, ?_⟩; intro W hSw; (try dsimp only at hSw); go_simp; try with_reducible rfl
  simp only [Act.put, List.setIfInBounds_toArray, List.set_cons_zero, List.set_cons_succ]
  refine wpAnyH_take (i := 15) (oi := ?oa15) (v := ?va15) ?hia15 (by kernel_rfl) (by kernel_rfl) (by kernel_rfl) ?hQa15 ?hya15 hH0 ?_
  case hia15 => simp only [List.getElem?_toArray, List.getElem?_cons_zero, List.getElem?_cons_succ]; rfl
  case hQa15 => exact fun _ _ _ h => h
  case hya15 => refine Or.inl ⟨by rfl, ?_⟩; intro W hSw; (try dsimp only at hSw); go_simp; try with_reducible rfl
  simp only [Act.put, List.setIfInBounds_toArray, List.set_cons_zero, List.set_cons_succ]
  refine wpAnyH_take (i := 16) (oi := ?oa16) (v := ?va16) ?hia16 (by kernel_rfl) (by kernel_rfl) (by kernel_rfl) ?hQa16 ?hya16 hH0 ?_
  case hia16 => simp only [List.getElem?_toArray, List.getElem?_cons_zero, List.getElem?_cons_succ]; rfl
  case hQa16 => exact fun _ _ _ h => h
  case hya16 => refine Or.inl ⟨by rfl, ?_⟩; intro W hSw; (try dsimp only at hSw); go_simp; try with_reducible rfl
  simp only [Act.put, List.setIfInBounds_toArray, List.set_cons_zero, List.set_cons_succ]
  refine wpAnyH_take (i := 17) (oi := ?oa17) (v := ?va17) ?hia17 (by kernel_rfl) (by kernel_rfl) (by kernel_rfl) ?hQa17 ?hya17 hH0 ?_
  case hia17 => simp only [List.getElem?_toArray, List.getElem?_cons_zero, List.getElem?_cons_succ]; rfl
  case hQa17 => exact fun _ _ _ h => h
  case hya17 => refine Or.inl ⟨by rfl, ?_⟩; intro W hSw; (try dsimp only at hSw); go_simp; try with_reducible rfl
  simp only [Act.put, List.setIfInBounds_toArray, List.set_cons_zero, List.set_cons_succ]
  refine wpAnyH_take (i := 18) (oi := ?oa18) (v := ?va18) ?hia18 (by kernel_rfl) (by kernel_rfl) (by kernel_rfl) ?hQa18 ?hya18 hH0 ?_
  case hia18 => simp only [List.getElem?_toArray, List.getElem?_cons_zero, List.getElem?_cons_succ]; rfl
  case hQa18 => exact fun _ _ _ h => h
  case hya18 => refine Or.inl ⟨by rfl, ?_⟩; intro W hSw; (try dsimp only at hSw); go_simp; try with_reducible rfl
  simp only [Act.put, List.setIfInBounds_toArray, List.set_cons_zero, List.set_cons_succ]
  refine wpAnyH_take (i := 19) (oi := ?oa19) (v := ?va19) ?hia19 (by kernel_rfl) (by kernel_rfl) (by kernel_rfl) ?hQa19 ?hya19 hH0 ?_
  case hia19 => simp only [List.getElem?_toArray, List.getElem?_cons_zero, List.getElem?_cons_succ]; rfl
  case hQa19 => exact fun _ _ _ h => h
  case hya19 => refine Or.inl ⟨by rfl, ?_⟩; intro W hSw; (try dsimp only at hSw); go_simp; try with_reducible rfl
  simp only [Act.put, List.setIfInBounds_toArray, List.set_cons_zero, List.set_cons_succ]
  refine wpAnyH_take (i := 20) (oi := ?oa20) (v := ?va20) ?hia20 (by kernel_rfl) (by kernel_rfl) (by kernel_rfl) ?hQa20 ?hya20 hH0 ?_
  case hia20 => simp only [List.getElem?_toArray, List.getElem?_cons_zero, List.getElem?_cons_succ]; rfl
  case hQa20 => exact fun _ _ _ h => h
  case hya20 => refine Or.inl ⟨by rfl, ?_⟩; intro W hSw; (try dsimp only at hSw); go_simp; try with_reducible rfl
  simp only [Act.put, List.setIfInBounds_toArray, List.set_cons_zero, List.set_cons_succ]
  refine wpAnyH_take (i := 21) (oi := ?oa21) (v := ?va21) ?hia21 (by kernel_rfl) (by kernel_rfl) (by kernel_rfl) ?hQa21 ?hya21 hH0 ?_
  case hia21 => simp only [List.getElem?_toArray, List.getElem?_cons_zero, List.getElem?_cons_succ]; rfl
  case hQa21 => exact fun _ _ _ h => h
  case hya21 => refine Or.inl ⟨by rfl, ?_⟩; intro W hSw; (try dsimp only at hSw); go_simp; try with_reducible rfl
  simp only [Act.put, List.setIfInBounds_toArray, List.set_cons_zero, List.set_cons_succ]
  refine wpAnyH_take (i := 22) (oi := ?oa22) (v := ?va22) ?hia22 (by kernel_rfl) (by kernel_rfl) (by kernel_rfl) ?hQa22 ?hya22 hH0 ?_
  case hia22 => simp only [List.getElem?_toArray, List.getElem?_cons_zero, List.getElem?_cons_succ]; rfl
  case hQa22 => exact fun _ _ _ h => h
  case hya22 => refine Or.inl ⟨by rfl, ?_⟩; intro W hSw; (try dsimp only at hSw); go_simp; try with_reducible rfl
  simp only [Act.put, List.setIfInBounds_toArray, List.set_cons_zero, List.set_cons_succ]
  refine wpAnyH_take (i := 23) (oi := ?oa23) (v := ?va23) ?hia23 (by kernel_rfl) (by kernel_rfl) (by kernel_rfl) ?hQa23 ?hya23 hH0 ?_
  case hia23 => simp only [List.getElem?_toArray, List.getElem?_cons_zero, List.getElem?_cons_succ]; rfl
  case hQa23 => exact fun _ _ _ h => h
  case hya23 => refine Or.inl ⟨by rfl, ?_⟩; intro W hSw; (try dsimp only at hSw); go_simp; try with_reducible rfl
  simp only [Act.put, List.setIfInBounds_toArray, List.set_cons_zero, List.set_cons_succ]
  refine wpAnyH_take (i := 24) (oi := ?oa24) (v := ?va24) ?hia24 (by kernel_rfl) (by kernel_rfl) (by kernel_rfl) ?hQa24 ?hya24 hH0 ?_
  case hia24 => simp only [List.getElem?_toArray, List.getElem?_cons_zero, List.getElem?_cons_succ]; rfl
  case hQa24 => exact fun _ _ _ h => h
  case hya24 => refine Or.inl ⟨by rfl, ?_⟩; intro W hSw; (try dsimp only at hSw); go_simp; try with_reducible rfl
  simp only [Act.put, List.setIfInBounds_toArray, List.set_cons_zero, List.set_cons_succ]
  refine wpAnyH_take (i := 25) (oi := ?oa25) (v := ?va25) ?hia25 (by kernel_rfl) (by kernel_rfl) (by kernel_rfl) ?hQa25 ?hya25 hH0 ?_
  case hia25 => simp only [List.getElem?_toArray, List.getElem?_cons_zero, List.getElem?_cons_succ]; rfl
  case hQa25 => exact fun _ _ _ h => h
  case hya25 => refine Or.inl ⟨by rfl, ?_⟩; intro W hSw; (try dsimp only at hSw); go_simp; try with_reducible rfl
  simp only [Act.put, List.setIfInBounds_toArray, List.set_cons_zero, List.set_cons_succ]
  refine wpAnyH_take (i := 26) (oi := ?oa26) (v := ?va26) ?hia26 (by kernel_rfl) (by kernel_rfl) (by kernel_rfl) ?hQa26 ?hya26 hH0 ?_
  case hia26 => simp only [List.getElem?_toArray, List.getElem?_cons_zero, List.getElem?_cons_succ]; rfl
  case hQa26 => exact fun _ _ _ h => h
  case hya26 => refine Or.inl ⟨by rfl, ?_⟩; intro W hSw; (try dsimp only at hSw); go_simp; try with_reducible rfl
  simp only [Act.put, List.setIfInBounds_toArray, List.set_cons_zero, List.set_cons_succ]
  refine wpAnyH_take (i := 27) (oi := ?oa27) (v := ?va27) ?hia27 (by kernel_rfl) (by kernel_rfl) (by kernel_rfl) ?hQa27 ?hya27 hH0 ?_
  case hia27 => simp only [List.getElem?_toArray, List.getElem?_cons_zero, List.getElem?_cons_succ]; rfl
  case hQa27 => exact fun _ _ _ h => h
  case hya27 => refine Or.inl ⟨by rfl, ?_⟩; intro W hSw; (try dsimp only at hSw); go_simp; try with_reducible rfl
  simp only [Act.put, List.setIfInBounds_toArray, List.set_cons_zero, List.set_cons_succ]
  refine wpAnyH_take (i := 28) (oi := ?oa28) (v := ?va28) ?hia28 (by kernel_rfl) (by kernel_rfl) (by kernel_rfl) ?hQa28 ?hya28 hH0 ?_
  case hia28 => simp only [List.getElem?_toArray, List.getElem?_cons_zero, List.getElem?_cons_succ]; rfl
  case hQa28 => exact fun _ _ _ h => h
  case hya28 => refine Or.inl ⟨by rfl, ?_⟩; intro W hSw; (try dsimp only at hSw); go_simp; try with_reducible rfl
  simp only [Act.put, List.setIfInBounds_toArray, List.set_cons_zero, List.set_cons_succ]
  refine wpAnyH_take (i := 29) (oi := ?oa29) (v := ?va29) ?hia29 (by kernel_rfl) (by kernel_rfl) (by kernel_rfl) ?hQa29 ?hya29 hH0 ?_
  case hia29 => simp only [List.getElem?_toArray, List.getElem?_cons_zero, List.getElem?_cons_succ]; rfl
  case hQa29 => exact fun _ _ _ h => h
  case hya29 => refine Or.inl ⟨by rfl, ?_⟩; intro W hSw; (try dsimp only at hSw); go_simp; try with_reducible rfl
  simp only [Act.put, List.setIfInBounds_toArray, List.set_cons_zero, List.set_cons_succ]
  clear hH0
  have hbd3 := (Below.refl z3.heap.size z3).drew
  have HM4 := Lib.hid (HM3.out.keep hbd3)
  have HB4 := Lib.hid (HB3.out.trans (hbd3.mono (by have := HB3.out.size; rw [HZ.out] at this; exact this)))
  have G4 := Lib.hid ((hbd3.block _ (Array.getElem?_eq_some_iff.1 G3.out).1).trans G3.out)
  clear hbd3
  generalize z3.drew = z4 at *
  have y0 : z4.cell? ⟨w.heap.size, 0, none⟩ = some (.int .i64 0) := by rw [Lib.cell_of_heap G4.out]; rfl
  have y1 : z4.cell? ⟨w.heap.size, 1, none⟩ = some .nilIface := by rw [Lib.cell_of_heap G4.out]; rfl
  have fy0 : z4.frozen? ⟨w.heap.size, 0, none⟩ = false := Lib.frozen_of_heap G4.out 0
  have fy1 : z4.frozen? ⟨w.heap.size, 1, none⟩ = false := Lib.frozen_of_heap G4.out 1
  refine wpAnyH_ready (rs := [30]) (by kernel_rfl) (by simp) ?_
  refine AllReadyH.cons (o := ?oa30) ?hoa30 (fun K' hK => ?_) AllReadyH.nil
  case hoa30 => simp only [List.getElem?_toArray, List.getElem?_cons_zero, List.getElem?_cons_succ]; rfl
  go_simp
  refine hK.out _ _ (MKS.out _ ((HB4.out.setCell (p := ⟨w.heap.size, 0, none⟩) (Nat.le_refl _) _).setCell (p := ⟨w.heap.size, 1, none⟩) (Nat.le_refl _) _)) (fun hH5 => ?_)
  clear hK K'
  (try simp only [Act.put, List.setIfInBounds_toArray, List.set_cons_zero, List.set_cons_succ])
  clear hH5
  refine wpAnyH_done (by kernel_rfl) ?_ _
  go_wp2_with fail
  refine bodyPost_ret (ret_row2 rfl _ _ _ _ _ _ _ _ _ (by rfl) G4.out Tryd.underlying50 rfl osize) rfl ?_
  have hfin := ask_fin HM0.out HZ.out HB4.out
  exact ⟨rfl, (hfin _ _).1, HS0.out.trans (hfin _ _).2⟩

set_option maxRecDepth 100000 in
set_option maxHeartbeats 1600000 in
theorem ask_red_pos (X : Nat → Prop) (lo c : Nat) (R : ClR) (w : World) (h : ClM X lo w c R) (l : List OpR) (r : OpR) (hr : R.rs = l ++ [r]) (hm : l.length ≤ 1000000) (now : Int) (hv : Vw.rightB R.s.v = true) (hk : r.o.kind ≠ 1) (nd : Int) (hnd : R.s.v.chain.getD (pickT R.s.which R.s.v.chain.length) 0 = nd) (hneg : ¬ R.s.which < 0) :
    Calls Tryd.prog 38 #[.pointer (some ⟨c, 0, none⟩), .int .i64 now] w fun e w' => e = .returned (OutR.val ⟨nd, .red r.o.id r.o.stream r.o.from_⟩) ∧ ClM X lo w' c (R.ask now) ∧ Step c R (R.ask now) w w' := by
  obtain ⟨g, cap, hov, hgl, hgc, hgs, hcell, -⟩ := h.last hr
  have HLC := Lib.hid (fun (X' : World) (h' : ClM X lo X' c (R.ask now)) => (show ∀ j, j < 17 → X'.cell? ⟨g, l.length * 17 + j, none⟩ = r.cells[j]? from by
    obtain ⟨g', cap', hov', -, -, -, hcell', -⟩ := h'.last hr
    have e1 : R.ov = .slice (some ⟨g', 0, none⟩) (l.length + 1) cap' := hov'
    rw [hov] at e1
    injection e1 with e2 _ _
    injection e2 with e2
    injection e2 with e2 _ _
    subst e2
    exact hcell'))
  have hRV := (Vw.rightB_iff R.s.v).1 hv
  have hn1 := hRV.n1
  have hn2 := hRV.n2
  have hin : InA (fun k => R.mut c k ∨ X k) w R.cv R.s.v.chain := h.cv
  obtain ⟨ca, ck, hcv⟩ := h.cv.1.form
  obtain ⟨n, hn⟩ : ∃ n, R.s.v.chain.length = n := ⟨_, rfl⟩
  have hq1 : pickT R.s.which n < n := Nat.mod_lt _ (by omega)
  obtain ⟨q, hq⟩ : ∃ q, pickT R.s.which n = q := ⟨_, rfl⟩
  rw [hq] at hq1
  obtain ⟨cb, co, ck', hcv2, hcb, -, -⟩ := h.cv.1.get q (by omega)
  obtain ⟨rfl, -, rfl⟩ : ca = some ⟨cb, co, none⟩ ∧ R.s.v.chain.length = R.s.v.chain.length ∧ ck = ck' := by rw [hcv] at hcv2; injection hcv2 with e1 e2 e3; exact ⟨e1, e2, e3⟩
  have hndq : R.s.v.chain[q]? = some nd := by
    rw [← hnd, hn, hq, List.getD_eq_getElem?_getD, List.getElem?_eq_getElem (by omega)]
    rfl
  have HCC := Lib.hid (fun (X' : World) (h' : ClM X lo X' c (R.ask now)) => (show X'.cell? ⟨cb, co + q, none⟩ = some (.int .i64 nd) from by
    obtain ⟨b', o', k', e1, -, -, e4⟩ := h'.cv.1.get q (by rw [← hn] at hq1; exact hq1)
    have e1 : R.cv = .slice (some ⟨b', o', none⟩) R.s.v.chain.length k' := e1
    rw [hcv] at e1
    injection e1 with e1 _ _
    injection e1 with e1
    injection e1 with e1 e2 _
    subst e1 e2
    rw [e4]
    have e5 : (R.ask now).s.v.chain[q]? = some nd := hndq
    rw [List.getElem?_eq_getElem (by rw [← hn] at hq1; exact hq1)] at e5
    rw [Option.some.inj e5]))
  rw [hn] at hcv
  have HCV := Lib.hid hcv
  have hw64 := h.wh
  have hM0 : ClM X lo (w.setCell ⟨c, 5, none⟩ (.int .i64 now)) c (R.ask now) := h.put 5 (.int .i64 now) { R.s with asked := now } rfl rfl h.wh rfl
  have hz : (w.setCell ⟨c, 5, none⟩ (.int .i64 now)).heap.size = w.heap.size := World.size_setCell _ _ _
  have hA : Below w.heap.size (w.setCell ⟨c, 5, none⟩ (.int .i64 now)) ((w.setCell ⟨c, 5, none⟩ (.int .i64 now)).alloc (.cells #[.int .i64 0, .nilIface] 50)) := (Below.refl _ _).alloc (Nat.le_of_eq hz.symm) _
  have hM1 : ClM X lo ((w.setCell ⟨c, 5, none⟩ (.int .i64 now)).alloc (.cells #[.int .i64 0, .nilIface] 50)) c (R.ask now) := hM0.keep (by rw [hz]; exact hA)
  have hG1 : ((w.setCell ⟨c, 5, none⟩ (.int .i64 now)).alloc (.cells #[.int .i64 0, .nilIface] 50)).heap[w.heap.size]? = some (.cells #[.int .i64 0, .nilIface] 50) := by
    have := heap_alloc_new (w.setCell ⟨c, 5, none⟩ (.int .i64 now)) (.cells #[.int .i64 0, .nilIface] 50)
    rw [hz] at this
    exact this
  have hS0 : Step c R (R.ask now) w (w.setCell ⟨c, 5, none⟩ (.int .i64 now)) := ClM.putStep c R w 5 _ _
  have HZ := Lib.hid hz
  have HM0 := Lib.hid hM0
  have HM := Lib.hid hM1
  have HS0 := Lib.hid hS0
  have HB := Lib.hid hA
  have G1 := Lib.hid hG1
  have f5 := h.fr 5
  have c5 := h.c5
  have hc := h.clt
  have x1 : c ≠ w.heap.size := by omega
  have CL := Lib.hid (fun (X' : World) (h' : ClM X lo X' c (R.ask now)) => last_any X lo c (R.ask now) X' h' g cap l.length hov hm)
  have CR := Lib.hid (fun (X' : World) (h' : ClM X lo X' c (R.ask now)) => Vw.right_any X'.heap.size _ R.s.v X' h'.view (Nat.le_refl _) h'.sm true hv.symm)
  have hk1 : (r.o.kind == 1) = false := by rw [beq_eq_false_iff_ne]; exact hk
  obtain ⟨hw1, hw2⟩ := hw64
  obtain ⟨m, hm1⟩ : ∃ m : Nat, R.s.which = (m : Int) := ⟨(R.s.which).toNat, by omega⟩
  have hmq : q = m % n := by rw [← hq, pickT, if_neg hneg, hm1, Int.toNat_natCast]
  rw [hm1] at hw1 hw2
  have hm0 : ¬ (m : Int) < 0 := by omega
  have hlt : (q : Int) < (n : Int) := by omega
  have hge : (0 : Int) ≤ (q : Int) := by omega
  have hn0 : ¬ (n : Int) = 0 := by omega
  have hn0' : ¬ n = 0 := by omega
  have e3 : (m : Int).tmod (n : Int) = (q : Int) := by rw [Int.tmod_eq_emod_of_nonneg (by omega), hmq]; rfl
  have e4 : IntKind.i64.wrap (q : Int) = (q : Int) := by rw [IntKind.wrap_i64]; omega
  have HKW := Lib.hid hm1
  clear hq hn hmq hm1 hneg
  clear hv hk hnd hndq hcv2 hin hRV hcv
  clear hov hcell hA hM0 hM1 hS0 hG1 hz h
  go_enter Tryd.func38, Tryd.ntmps38
  go_wp2_with fail
  generalize w.setCell ⟨c, 5, none⟩ (.int .i64 now) = wa at *
  generalize wa.alloc (.cells #[.int .i64 0, .nilIface] 50) = z1 at *
  clear f5 c5
  refine (CL.out _ HM.out).mono ?_
  rintro e z2 ⟨rfl, d, rfl⟩
  have HM2 := Lib.hid (HM.out.keep (below_drewN' z1 d))
  have HB2 := Lib.hid (HB.out.trans ((below_drewN' z1 d).mono (by have := HB.out.size; rw [HZ.out] at this; exact this)))
  have G2 := Lib.hid (((below_drewN' z1 d).block _ (Array.getElem?_eq_some_iff.1 G1.out).1).trans G1.out)
  generalize z1.drewN d = z2 at *
  have c6 := HM2.out.c6
  have c7 := HM2.out.c7
  have c8 := HM2.out.c8
  have c9 := HM2.out.c9
  go_wp2_with fail
  refine (CR.out _ HM2.out).mono ?_
  rintro e z3 ⟨rfl, hb3⟩
  have HM3 := Lib.hid (HM2.out.keep hb3)
  have HB3 := Lib.hid (HB2.out.trans (hb3.mono (by have := HB2.out.size; rw [HZ.out] at this; exact this)))
  have G3 := Lib.hid ((hb3.block _ (Array.getElem?_eq_some_iff.1 G2.out).1).trans G2.out)
  clear hb3 c6 c7 c8 c9
  have MKS := Lib.hid (fun (X' : World) (hb : Below w.heap.size wa X') => (show X'.cell? ⟨c, 7, none⟩ = some (.slice (some ⟨cb, co, none⟩) n ck) ∧ X'.cell? ⟨g, l.length * 17 + 1, none⟩ = some (.int .i64 r.o.id) ∧ X'.cell? ⟨g, l.length * 17 + 13, none⟩ = some (.string r.o.stream) ∧ X'.cell? ⟨g, l.length * 17 + 14, none⟩ = some (.int .i64 r.o.from_) ∧ X'.cell? ⟨cb, co + q, none⟩ = some (.int .i64 nd) ∧ Below w.heap.size wa X' from by
    have h1 := HM0.out.keep (hb.mono (Nat.le_of_eq HZ.out))
    have h2 := HLC.out X' h1
    exact ⟨by rw [← HCV.out]; exact h1.c7, h2 1 (by omega), h2 13 (by omega), h2 14 (by omega), HCC.out _ h1, hb⟩))
  have k0 : z3.cell? ⟨g, l.length * 17, none⟩ = some (.int .i64 r.o.kind) := HLC.out z3 HM3.out 0 (by omega)
  have k4 : z3.cell? ⟨c, 4, none⟩ = some (.int .i64 (m : Int)) := by rw [← HKW.out]; exact HM3.out.c4
  go_wp2_with fail
  clear k0 k4
  refine region_begin (S := fun X' => X'.cell? ⟨c, 7, none⟩ = some (.slice (some ⟨cb, co, none⟩) n ck) ∧ X'.cell? ⟨g, l.length * 17 + 1, none⟩ = some (.int .i64 r.o.id) ∧ X'.cell? ⟨g, l.length * 17 + 13, none⟩ = some (.string r.o.stream) ∧ X'.cell? ⟨g, l.length * 17 + 14, none⟩ = some (.int .i64 r.o.from_) ∧ X'.cell? ⟨cb, co + q, none⟩ = some (.int .i64 nd) ∧ Below w.heap.size wa X') 31 rfl (by kernel_rfl) (MKS.out _ HB3.out.drew) (fun hH0 => ?_)
  refine wpAnyH_take (i := 0) (oi := ?oa0) (v := ?va0) ?hia0 (by kernel_rfl) (by kernel_rfl) (by kernel_rfl) ?hQa0 ?hya0 hH0 ?_
  case hia0 => simp only [List.getElem?_toArray, List.getElem?_cons_zero]; rfl
  case hQa0 => exact fun _ _ _ h => h
  case hya0 => refine Or.inl ⟨by rfl, ?_⟩; intro W hSw; (try dsimp only at hSw); go_simp; try with_reducible rfl
  simp only [Act.put, List.setIfInBounds_toArray, List.set_cons_zero, List.set_cons_succ]
  refine wpAnyH_take (i := 1) (oi := ?oa1) (v := ?va1) ?hia1 (by kernel_rfl) (by kernel_rfl) (by kernel_rfl) ?hQa1 ?hya1 hH0 ?_
  case hia1 => simp only [List.getElem?_toArray, List.getElem?_cons_zero, List.getElem?_cons_succ]; rfl
  case hQa1 => exact fun _ _ _ h => h
  case hya1 => refine Or.inl ⟨by rfl, ?_⟩; intro W hSw; (try dsimp only at hSw); go_simp; try with_reducible rfl
  simp only [Act.put, List.setIfInBounds_toArray, List.set_cons_zero, List.set_cons_succ]
  refine wpAnyH_take (i := 2) (oi := ?oa2) (v := ?va2) ?hia2 (by kernel_rfl) (by kernel_rfl) (by kernel_rfl) ?hQa2 ?hya2 hH0 ?_
  case hia2 => simp only [List.getElem?_toArray, List.getElem?_cons_zero, List.getElem?_cons_succ]; rfl
  case hQa2 => exact fun _ _ _ h => h
  case hya2 => refine Or.inl ⟨by rfl, ?_⟩; intro W hSw; (try dsimp only at hSw); go_simp; try with_reducible rfl
  simp only [Act.put, List.setIfInBounds_toArray, List.set_cons_zero, List.set_cons_succ]
  refine wpAnyH_take (i := 3) (oi := ?oa3) (v := ?va3) ?hia3 (by kernel_rfl) (by kernel_rfl) (by kernel_rfl) ?hQa3 ?hya3 hH0 ?_
  case hia3 => simp only [List.getElem?_toArray, List.getElem?_cons_zero, List.getElem?_cons_succ]; rfl
  case hQa3 => exact fun _ _ _ h => h
  case hya3 => refine Or.inl ⟨by rfl, ?_⟩; intro W hSw; (try dsimp only at hSw); go_simp; try with_reducible rfl
  simp only [Act.put, List.setIfInBounds_toArray, List.set_cons_zero, List.set_cons_succ]
  refine wpAnyH_take (i := 4) (oi := ?oa4) (v := ?va4) ?hia4 (by kernel_rfl) (by kernel_rfl) (by kernel_rfl) ?hQa4 ?hya4 hH0 ?_
  case hia4 => simp only [List.getElem?_toArray, List.getElem?_cons_zero, List.getElem?_cons_succ]; rfl
  case hQa4 => exact fun _ _ _ h => h
  case hya4 => refine Or.inl ⟨by rfl, ?_⟩; intro W hSw; (try dsimp only at hSw); go_simp; try with_reducible rfl
  simp only [Act.put, List.setIfInBounds_toArray, List.set_cons_zero, List.set_cons_succ]
  refine wpAnyH_take (i := 5) (oi := ?oa5) (v := ?va5) ?hia5 (by kernel_rfl) (by kernel_rfl) (by kernel_rfl) ?hQa5 ?hya5 hH0 ?_
  case hia5 => simp only [List.getElem?_toArray, List.getElem?_cons_zero, List.getElem?_cons_succ]; rfl
  case hQa5 => exact fun _ _ _ h => h
  case hya5 => refine Or.inl ⟨by rfl, ?_⟩; intro W hSw; (try dsimp only at hSw); go_simp; try with_reducible rfl
  simp only [Act.put, List.setIfInBounds_toArray, List.set_cons_zero, List.set_cons_succ]
  refine wpAnyH_take (i := 6) (oi := ?oa6) (v := ?va6) ?hia6 (by kernel_rfl) (by kernel_rfl) (by kernel_rfl) ?hQa6 ?hya6 hH0 ?_
  case hia6 => simp only [List.getElem?_toArray, List.getElem?_cons_zero, List.getElem?_cons_succ]; rfl
  case hQa6 => exact fun _ _ _ h => h
  case hya6 => refine Or.inl ⟨by rfl, ?_⟩; intro W hSw; (try dsimp only at hSw); go_simp; try with_reducible rfl
  simp only [Act.put, List.setIfInBounds_toArray, List.set_cons_zero, List.set_cons_succ]
  refine wpAnyH_take (i := 7) (oi := ?oa7) (v := ?va7) ?hia7 (by kernel_rfl) (by kernel_rfl) (by kernel_rfl) ?hQa7 ?hya7 hH0 ?_
  case hia7 => simp only [List.getElem?_toArray, List.getElem?_cons_zero, List.getElem?_cons_succ]; rfl
  case hQa7 => exact fun _ _ _ h => h
  case hya7 => refine Or.inl ⟨by rfl, ?_⟩; intro W hSw; (try dsimp only at hSw); go_simp; try with_reducible rfl
  simp only [Act.put, List.setIfInBounds_toArray, List.set_cons_zero, List.set_cons_succ]
  refine wpAnyH_take (i := 8) (oi := ?oa8) (v := ?va8) ?hia8 (by kernel_rfl) (by kernel_rfl) (by kernel_rfl) ?hQa8 ?hya8 hH0 ?_
  case hia8 => simp only [List.getElem?_toArray, List.getElem?_cons_zero, List.getElem?_cons_succ]; rfl
  case hQa8 => exact fun _ _ _ h => h
  case hya8 => refine Or.inl ⟨by rfl, ?_⟩; intro W hSw; (try dsimp only at hSw); go_simp; try with_reducible rfl
  simp only [Act.put, List.setIfInBounds_toArray, List.set_cons_zero, List.set_cons_succ]
  refine wpAnyH_take (i := 9) (oi := ?oa9) (v := ?va9) ?hia9 (by kernel_rfl) (by kernel_rfl) (by kernel_rfl) ?hQa9 ?hya9 hH0 ?_
  case hia9 => simp only [List.getElem?_toArray, List.getElem?_cons_zero, List.getElem?_cons_succ]; rfl
  case hQa9 => exact fun _ _ _ h => h
  case hya9 => refine Or.inl ⟨by rfl, ?_⟩; intro W hSw; (try dsimp only at hSw); go_simp; try with_reducible rfl
  simp only [Act.put, List.setIfInBounds_toArray, List.set_cons_zero, List.set_cons_succ]
  refine wpAnyH_take (i := 10) (oi := ?oa10) (v := ?va10) ?hia10 (by kernel_rfl) (by kernel_rfl) (by kernel_rfl) ?hQa10 ?hya10 hH0 ?_
  case hia10 => simp only [List.getElem?_toArray, List.getElem?_cons_zero, List.getElem?_cons_succ]; rfl
  case hQa10 => exact fun _ _ _ h => h
  case hya10 => refine Or.inl ⟨by rfl, ?_⟩; intro W hSw; (try dsimp only at hSw); go_simp; try with_reducible rfl
  simp only [Act.put, List.setIfInBounds_toArray, List.set_cons_zero, List.set_cons_succ]
  refine wpAnyH_take (i := 11) (oi := ?oa11) (v := ?va11) ?hia11 (by kernel_rfl) (by kernel_rfl) (by kernel_rfl) ?hQa11 ?hya11 hH0 ?_
  case hia11 => simp only [List.getElem?_toArray, List.getElem?_cons_zero, List.getElem?_cons_succ]; rfl
  case hQa11 => exact fun _ _ _ h => h
  case hya11 => refine Or.inl ⟨by rfl, ?_⟩; intro W hSw; (try dsimp only at hSw); go_simp; try with_reducible rfl
  simp only [Act.put, List.setIfInBounds_toArray, List.set_cons_zero, List.set_cons_succ]
  refine wpAnyH_take (i := 12) (oi := ?oa12) (v := ?va12) ?hia12 (by kernel_rfl) (by kernel_rfl) (by kernel_rfl) ?hQa12 ?hya12 hH0 ?_
  case hia12 => simp only [List.getElem?_toArray, List.getElem?_cons_zero, List.getElem?_cons_succ]; rfl
  case hQa12 => exact fun _ _ _ h => h
  case hya12 => refine Or.inl ⟨by rfl, ?_⟩; intro W hSw; (try dsimp only at hSw); go_simp; try with_reducible rfl
  simp only [Act.put, List.setIfInBounds_toArray, List.set_cons_zero, List.set_cons_succ]
  refine wpAnyH_take (i := 13) (oi := ?oa13) (v := ?va13) ?hia13 (by kernel_rfl) (by kernel_rfl) (by kernel_rfl) ?hQa13 ?hya13 hH0 ?_
  case hia13 => simp only [List.getElem?_toArray, List.getElem?_cons_zero, List.getElem?_cons_succ]; rfl
  case hQa13 => exact fun _ _ _ h => h
  case hya13 => refine Or.inl ⟨by rfl, ?_⟩; intro W hSw; (try dsimp only at hSw); go_simp; try with_reducible rfl
  simp only [Act.put, List.setIfInBounds_toArray, List.set_cons_zero, List.set_cons_succ]
  refine wpAnyH_take (i := 14) (oi := ?oa14) (v := ?va14) ?hia14 (by kernel_rfl) (by kernel_rfl) (by kernel_rfl) ?hQa14 ?hya14 hH0 ?_
  case hia14 => simp only [List.getElem?_toArray, List.getElem?_cons_zero, List.getElem?_cons_succ]; rfl
  case hQa14 => exact fun _ _ _ h => h
  case hya14 => refine Or.inl ⟨by rfl, ?_⟩; intro W hSw; (try dsimp only at hSw); go_simp; try with_reducible rfl
  simp only [Act.put, List.setIfInBounds_toArray, List.set_cons_zero, List.set_cons_succ]
  refine wpAnyH_take (i := 15) (oi := ?oa15) (v := ?va15) ?hia15 (by kernel_rfl) (by kernel_rfl) (by kernel_rfl) ?hQa15 ?hya15 hH0 ?_
  case hia15 => simp only [List.getElem?_toArray, List.getElem?_cons_zero, List.getElem?_cons_succ]; rfl
  case hQa15 => exact fun _ _ _ h => h
  case hya15 => refine Or.inl ⟨by rfl, ?_⟩; intro W hSw; (try dsimp only at hSw); go_simp; try with_reducible rfl
  simp only [Act.put, List.setIfInBounds_toArray, List.set_cons_zero, List.set_cons_succ]
  refine wpAnyH_take (i := 16) (oi := ?oa16) (v := ?va16) ?hia16 (by kernel_rfl) (by kernel_rfl) (by kernel_rfl) ?hQa16 ?hya16 hH0 ?_
  case hia16 => simp only [List.getElem?_toArray, List.getElem?_cons_zero, List.getElem?_cons_succ]; rfl
  case hQa16 => exact fun _ _ _ h => h
  case hya16 => refine Or.inl ⟨by rfl, ?_⟩; intro W hSw; (try dsimp only at hSw); go_simp; try with_reducible rfl
  simp only [Act.put, List.setIfInBounds_toArray, List.set_cons_zero, List.set_cons_succ]
  refine wpAnyH_take (i := 17) (oi := ?oa17) (v := ?va17) ?hia17 (by kernel_rfl) (by kernel_rfl) (by kernel_rfl) ?hQa17 ?hya17 hH0 ?_
  case hia17 => simp only [List.getElem?_toArray, List.getElem?_cons_zero, List.getElem?_cons_succ]; rfl
  case hQa17 => exact fun _ _ _ h => h
  case hya17 => refine Or.inl ⟨by rfl, ?_⟩; intro W hSw; (try dsimp only at hSw); go_simp; try with_reducible rfl
  simp only [Act.put, List.setIfInBounds_toArray, List.set_cons_zero, List.set_cons_succ]
  refine wpAnyH_take (i := 18) (oi := ?oa18) (v := ?va18) ?hia18 (by kernel_rfl) (by kernel_rfl) (by kernel_rfl) ?hQa18 ?hya18 hH0 ?_
  case hia18 => simp only [List.getElem?_toArray, List.getElem?_cons_zero, List.getElem?_cons_succ]; rfl
  case hQa18 => exact fun _ _ _ h => h
  case hya18 => refine Or.inl ⟨by rfl, ?_⟩; intro W hSw; (try dsimp only at hSw); go_simp; try with_reducible rfl
  simp only [Act.put, List.setIfInBounds_toArray, List.set_cons_zero, List.set_cons_succ]
  refine wpAnyH_take (i := 19) (oi := ?oa19) (v := ?va19) ?hia19 (by kernel_rfl) (by kernel_rfl) (by kernel_rfl) ?hQa19 ?hya19 hH0 ?_
  case hia19 => simp only [List.getElem?_toArray, List.getElem?_cons_zero, List.getElem?_cons_succ]; rfl
  case hQa19 => exact fun _ _ _ h => h
  case hya19 => refine Or.inl ⟨by rfl, ?_⟩; intro W hSw; (try dsimp only at hSw); go_simp; try with_reducible rfl
  simp only [Act.put, List.setIfInBounds_toArray, List.set_cons_zero, List.set_cons_succ]
  refine wpAnyH_take (i := 20) (oi := ?oa20) (v := ?va20) ?hia20 (by kernel_rfl) (by kernel_rfl) (by kernel_rfl) ?hQa20 ?hya20 hH0 ?_
  case hia20 => simp only [List.getElem?_toArray, List.getElem?_cons_zero, List.getElem?_cons_succ]; rfl
  case hQa20 => exact fun _ _ _ h => h
  case hya20 => refine Or.inl ⟨by rfl, ?_⟩; intro W hSw; (try dsimp only at hSw); go_simp; try with_reducible rfl
  simp only [Act.put, List.setIfInBounds_toArray, List.set_cons_zero, List.set_cons_succ]
  refine wpAnyH_take (i := 21) (oi := ?oa21) (v := ?va21) ?hia21 (by kernel_rfl) (by kernel_rfl) (by kernel_rfl) ?hQa21 ?hya21 hH0 ?_
  case hia21 => simp only [List.getElem?_toArray, List.getElem?_cons_zero, List.getElem?_cons_succ]; rfl
  case hQa21 => exact fun _ _ _ h => h
  case hya21 => refine Or.inl ⟨by rfl, ?_⟩; intro W hSw; (try dsimp only at hSw); go_simp; try with_reducible rfl
  simp only [Act.put, List.setIfInBounds_toArray, List.set_cons_zero, List.set_cons_succ]
  refine wpAnyH_take (i := 22) (oi := ?oa22) (v := ?va22) ?hia22 (by kernel_rfl) (by kernel_rfl) (by kernel_rfl) ?hQa22 ?hya22 hH0 ?_
  case hia22 => simp only [List.getElem?_toArray, List.getElem?_cons_zero, List.getElem?_cons_succ]; rfl
  case hQa22 => exact fun _ _ _ h => h
  case hya22 => refine Or.inl ⟨by rfl, ?_⟩; intro W hSw; (try dsimp only at hSw); go_simp; try with_reducible rfl
  simp only [Act.put, List.setIfInBounds_toArray, List.set_cons_zero, List.set_cons_succ]
  refine wpAnyH_take (i := 23) (oi := ?oa23) (v := ?va23) ?hia23 (by kernel_rfl) (by kernel_rfl) (by kernel_rfl) ?hQa23 ?hya23 hH0 ?_
  case hia23 => simp only [List.getElem?_toArray, List.getElem?_cons_zero, List.getElem?_cons_succ]; rfl
  case hQa23 => exact fun _ _ _ h => h
  case hya23 => refine Or.inl ⟨by rfl, ?_⟩; intro W hSw; (try dsimp only at hSw); go_simp; try with_reducible rfl
  simp only [Act.put, List.setIfInBounds_toArray, List.set_cons_zero, List.set_cons_succ]
  refine wpAnyH_take (i := 24) (oi := ?oa24) (v := ?va24) ?hia24 (by kernel_rfl) (by kernel_rfl) (by kernel_rfl) ?hQa24 ?hya24 hH0 ?_
  case hia24 => simp only [List.getElem?_toArray, List.getElem?_cons_zero, List.getElem?_cons_succ]; rfl
  case hQa24 => exact fun _ _ _ h => h
  case hya24 => refine Or.inl ⟨by rfl, ?_⟩; intro W hSw; (try dsimp only at hSw); go_simp; try with_reducible rfl
  simp only [Act.put, List.setIfInBounds_toArray, List.set_cons_zero, List.set_cons_succ]
  refine wpAnyH_take (i := 25) (oi := ?oa25) (v := ?va25) ?hia25 (by kernel_rfl) (by kernel_rfl) (by kernel_rfl) ?hQa25 ?hya25 hH0 ?_
  case hia25 => simp only [List.getElem?_toArray, List.getElem?_cons_zero, List.getElem?_cons_succ]; rfl
  case hQa25 => exact fun _ _ _ h => h
  case hya25 => refine Or.inl ⟨by rfl, ?_⟩; intro W hSw; (try dsimp only at hSw); go_simp; try with_reducible rfl
  simp only [Act.put, List.setIfInBounds_toArray, List.set_cons_zero, List.set_cons_succ]
  refine wpAnyH_take (i := 26) (oi := ?oa26) (v := ?va26) ?hia26 (by kernel_rfl) (by kernel_rfl) (by kernel_rfl) ?hQa26 ?hya26 hH0 ?_
  case hia26 => simp only [List.getElem?_toArray, List.getElem?_cons_zero, List.getElem?_cons_succ]; rfl
  case hQa26 => exact fun _ _ _ h => h
  case hya26 => refine Or.inl ⟨by rfl, ?_⟩; intro W hSw; (try dsimp only at hSw); go_simp; try with_reducible rfl
  simp only [Act.put, List.setIfInBounds_toArray, List.set_cons_zero, List.set_cons_succ]
  refine wpAnyH_take (i := 27) (oi := ?oa27) (v := ?va27) ?hia27 (by kernel_rfl) (by kernel_rfl) (by kernel_rfl) ?hQa27 ?hya27 hH0 ?_
  case hia27 => simp only [List.getElem?_toArray, List.getElem?_cons_zero, List.getElem?_cons_succ]; rfl
  case hQa27 => exact fun _ _ _ h => h
  case hya27 => refine Or.inl ⟨by rfl, ?_⟩; intro W hSw; (try dsimp only at hSw); go_simp; try with_reducible rfl
  simp only [Act.put, List.setIfInBounds_toArray, List.set_cons_zero, List.set_cons_succ]
  refine wpAnyH_take (i := 28) (oi := ?oa28) (v := ?va28) ?hia28 (by kernel_rfl) (by kernel_rfl) (by kernel_rfl) ?hQa28 ?hya28 hH0 ?_
  case hia28 => simp only [List.getElem?_toArray, List.getElem?_cons_zero, List.getElem?_cons_succ]; rfl
  case hQa28 => exact fun _ _ _ h => h
  case hya28 => refine Or.inl ⟨by rfl, ?_⟩; intro W hSw; (try dsimp only at hSw); go_simp; try with_reducible rfl
  simp only [Act.put, List.setIfInBounds_toArray, List.set_cons_zero, List.set_cons_succ]
  refine wpAnyH_take (i := 29) (oi := ?oa29) (v := ?va29) ?hia29 (by kernel_rfl) (by kernel_rfl) (by kernel_rfl) ?hQa29 ?hya29 hH0 ?_
  case hia29 => simp only [List.getElem?_toArray, List.getElem?_cons_zero, List.getElem?_cons_succ]; rfl
  case hQa29 => exact fun _ _ _ h => h
  case hya29 => refine Or.inl ⟨by rfl, ?_⟩; intro W hSw; (try dsimp only at hSw); go_simp; try with_reducible rfl
  simp only [Act.put, List.setIfInBounds_toArray, List.set_cons_zero, List.set_cons_succ]
  clear hH0
  have hbd3 := (Below.refl z3.heap.size z3).drew
  have HM4 := Lib.hid (HM3.out.keep hbd3)
  have HB4 := Lib.hid (HB3.out.trans (hbd3.mono (by have := HB3.out.size; rw [HZ.out] at this; exact this)))
  have G4 := Lib.hid ((hbd3.block _ (Array.getElem?_eq_some_iff.1 G3.out).1).trans G3.out)
  clear hbd3
  generalize z3.drew = z4 at *
  have y0 : z4.cell? ⟨w.heap.size, 0, none⟩ = some (.int .i64 0) := by rw [Lib.cell_of_heap G4.out]; rfl
  have y1 : z4.cell? ⟨w.heap.size, 1, none⟩ = some .nilIface := by rw [Lib.cell_of_heap G4.out]; rfl
  have fy0 : z4.frozen? ⟨w.heap.size, 0, none⟩ = false := Lib.frozen_of_heap G4.out 0
  have fy1 : z4.frozen? ⟨w.heap.size, 1, none⟩ = false := Lib.frozen_of_heap G4.out 1
  refine wpAnyH_ready (rs := [30]) (by kernel_rfl) (by simp) ?_
  refine AllReadyH.cons (o := ?oa30) ?hoa30 (fun K' hK => ?_) AllReadyH.nil
  case hoa30 => simp only [List.getElem?_toArray, List.getElem?_cons_zero, List.getElem?_cons_succ]; rfl
  go_simp
  refine hK.out _ _ (MKS.out _ ((HB4.out.setCell (p := ⟨w.heap.size, 0, none⟩) (Nat.le_refl _) _).setCell (p := ⟨w.heap.size, 1, none⟩) (Nat.le_refl _) _)) (fun hH5 => ?_)
  clear hK K'
  (try simp only [Act.put, List.setIfInBounds_toArray, List.set_cons_zero, List.set_cons_succ])
  clear hH5
  refine wpAnyH_done (by kernel_rfl) ?_ _
  go_wp2_with fail
  refine bodyPost_ret (ret_row2 rfl _ _ _ _ _ _ _ _ _ (by rfl) G4.out Tryd.underlying50 rfl osize) rfl ?_
  have hfin := ask_fin HM0.out HZ.out HB4.out
  exact ⟨rfl, (hfin _ _).1, HS0.out.trans (hfin _ _).2⟩

theorem ask_any (X : Nat → Prop) (lo c : Nat) (R : ClR) (w : World) (h : ClM X lo w c R) (l : List OpR) (r : OpR) (hr : R.rs = l ++ [r]) (hm : l.length ≤ 1000000) (now : Int) (o : OutR) (ho : askO R r = o) :
    Calls Tryd.prog 38 #[.pointer (some ⟨c, 0, none⟩), .int .i64 now] w fun e w' => e = .returned o.val ∧ ClM X lo w' c (R.ask now) ∧ Step c R (R.ask now) w w' := by
  subst ho
  unfold askO
  cases hv : Vw.rightB R.s.v with
  | false =>
    rw [if_pos rfl]
    exact ask_where X lo c R w h l r hr hm now hv
  | true =>
    rw [if_neg (by decide)]
    by_cases hk : r.o.kind = 1
    · rw [if_pos hk]
      exact ask_app X lo c R w h l r hr hm now hv hk _ rfl
    · rw [if_neg hk]
      by_cases hneg : R.s.which < 0
      · exact ask_red_neg X lo c R w h l r hr hm now hv hk _ rfl hneg
      · exact ask_red_pos X lo c R w h l r hr hm now hv hk _ rfl hneg
end Go.Proofs.YtapgjjfndbfnpaaDoor
