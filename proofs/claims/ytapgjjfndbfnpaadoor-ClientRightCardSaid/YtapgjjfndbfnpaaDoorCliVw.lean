/-
  The walk of (*client.Client).View. Printed by gen_clivw.py of this claim's writer.
-/
import Derived.Test.YtapgjjfndbfnpaaDoorCliAsk
import Derived.Test.YtapgjjfndbfnpaaDoorCliClone
namespace Go.Proofs.YtapgjjfndbfnpaaDoor
open Go.RowKit
set_option linter.unusedSimpArgs false
set_option linter.unusedVariables false

theorem row_form4 {w : World} {base n sz : Nat} {e : TypeId} {v : Value} {xs : List Value} (h : w.ownsRow base e sz v n xs) : ∃ a cap, v = .slice a n cap := by
  rcases h.2 with ⟨e1, e2⟩ | ⟨g, cap, cur, e1, _⟩
  · exact ⟨none, 0, by rw [e1, e2]⟩
  · exact ⟨_, cap, e1⟩
theorem vsize4 : (Tryd.prog.info? 82).map (·.size) = some 4 := by kernel_rfl
set_option maxRecDepth 100000 in
set_option maxHeartbeats 1600000 in
theorem view_any (X : Nat → Prop) (lo c : Nat) (R : ClR) (w : World) (h : ClM X lo w c R) :
    Calls Tryd.prog 27 #[.pointer (some ⟨c, 0, none⟩)] w fun e w' => ∃ a b n k d m j, e = .returned (.agg #[.int .i64 R.s.v.epoch, a, .slice b n k, .slice d m j]) ∧ Vw.IsInts w'.heap.size w' a R.s.v.chain ∧ Below w.heap.size w w' := by
  obtain ⟨a1, k1, hv1⟩ := h.cv.1.form
  obtain ⟨a2, k2, hv2⟩ := h.sv.1.form
  obtain ⟨a3, k3, hv3⟩ := h.bv.1.form
  obtain ⟨s1, s2, s3⟩ := h.sm
  have MKS := Lib.hid (fun (X' : World) (hb : Below w.heap.size w X') => (show X'.cell? ⟨c, 6, none⟩ = some (.int .i64 R.s.v.epoch) ∧ X'.cell? ⟨c, 7, none⟩ = some (.slice a1 R.s.v.chain.length k1) ∧ X'.cell? ⟨c, 8, none⟩ = some (.slice a2 R.s.v.since.length k2) ∧ X'.cell? ⟨c, 9, none⟩ = some (.slice a3 R.s.v.boot.length k3) ∧ Below w.heap.size w X' from ⟨(h.keep hb).c6, by rw [← hv1]; exact (h.keep hb).c7, by rw [← hv2]; exact (h.keep hb).c8, by rw [← hv3]; exact (h.keep hb).c9, hb⟩))
  have C1 := Lib.hid (fun (X' : World) (hb : Below w.heap.size w X') => Vw.clone_any w.heap.size (.slice a1 R.s.v.chain.length k1) R.s.v.chain X' (by rw [← hv1]; exact h.cv.1.keep hb (Nat.le_refl _)) hb.size (by omega))
  have C2 := Lib.hid (fun (X' : World) (hb : Below w.heap.size w X') => Vw.clone_any w.heap.size (.slice a2 R.s.v.since.length k2) R.s.v.since X' (by rw [← hv2]; exact h.sv.1.keep hb (Nat.le_refl _)) hb.size (by omega))
  have C3 := Lib.hid (fun (X' : World) (hb : Below w.heap.size w X') => Vw.clone_any w.heap.size (.slice a3 R.s.v.boot.length k3) R.s.v.boot X' (by rw [← hv3]; exact h.bv.1.keep hb (Nat.le_refl _)) hb.size (by omega))
  have hA := (Below.refl w.heap.size w).alloc (Nat.le_refl _) (.cells #[.int .i64 0, .slice none 0 0, .slice none 0 0, .slice none 0 0] 82)
  have HB0 := Lib.hid hA.drew
  have G0 := Lib.hid (show (w.alloc (.cells #[.int .i64 0, .slice none 0 0, .slice none 0 0, .slice none 0 0] 82)).drew.heap[w.heap.size]? = some (.cells #[.int .i64 0, .slice none 0 0, .slice none 0 0, .slice none 0 0] 82) from heap_alloc_new w (.cells #[.int .i64 0, .slice none 0 0, .slice none 0 0, .slice none 0 0] 82))
  have H64 := Lib.hid (show ∀ n ∈ R.s.v.chain, Vw.I64 n from by obtain ⟨_, _, _, _, _, _, h5, _⟩ := h.cv.1; exact h5)
  clear h hv1 hv2 hv3 hA s1 s2 s3
  go_enter Tryd.func27, Tryd.ntmps27
  go_wp2_with fail
  refine region_begin (S := fun X' => X'.cell? ⟨c, 6, none⟩ = some (.int .i64 R.s.v.epoch) ∧ X'.cell? ⟨c, 7, none⟩ = some (.slice a1 R.s.v.chain.length k1) ∧ X'.cell? ⟨c, 8, none⟩ = some (.slice a2 R.s.v.since.length k2) ∧ X'.cell? ⟨c, 9, none⟩ = some (.slice a3 R.s.v.boot.length k3) ∧ Below w.heap.size w X') 25 rfl (by kernel_rfl) (MKS.out _ HB0.out) (fun hH0 => ?_)
  refine wpAnyH_take (i := 0) (oi := ?oa0) (v := ?va0) ?hia0 (by kernel_rfl) (by kernel_rfl) (by kernel_rfl) ?hQa0 ?hya0 hH0 ?_
  case hia0 => simp only [List.getElem?_toArray, List.getElem?_cons_zero]; rfl
  case hQa0 => exact fun _ _ _ h => h
  case hya0 => refine Or.inl ⟨by rfl, ?_⟩; intro W hSw; (try dsimp only at hSw); go_simp; try with_reducible rfl
  simp only [Act.put, List.setIfInBounds_toArray, List.set_cons_zero, List.set_cons_succ]
  refine wpAnyH_take (i := 1) (oi := ?oa1) (v := ?va1) ?hia1 (by kernel_rfl) (by kernel_rfl) (by kernel_rfl) ?hQa1 ?hya1 hH0 ?_
  case hia1 => simp only [List.getElem?_toArray, List.getElem?_cons_zero, List.getElem?_cons_succ]; rfl
  case hQa1 => exact fun _ _ _ h => h
  case hya1 => refine Or.inl ⟨by rfl, ?_⟩; intro W hSw; (try dsimp only at hSw); go_simp; try with_reducible rfl
  simp only [Act.put, List.setIfInBounds_toArray, List.set_cons_zero, List.set_cons_succ]
  refine wpAnyH_take (i := 2) (oi := ?oa2) (v := ?va2) ?hia2 (by kernel_rfl) (by kernel_rfl) (by kernel_rfl) ?hQa2 ?hya2 hH0 ?_
  case hia2 => simp only [List.getElem?_toArray, List.getElem?_cons_zero, List.getElem?_cons_succ]; rfl
  case hQa2 => exact fun _ _ _ h => h
  case hya2 => refine Or.inl ⟨by rfl, ?_⟩; intro W hSw; (try dsimp only at hSw); go_simp; try with_reducible rfl
  simp only [Act.put, List.setIfInBounds_toArray, List.set_cons_zero, List.set_cons_succ]
  refine wpAnyH_take (i := 3) (oi := ?oa3) (v := ?va3) ?hia3 (by kernel_rfl) (by kernel_rfl) (by kernel_rfl) ?hQa3 ?hya3 hH0 ?_
  case hia3 => simp only [List.getElem?_toArray, List.getElem?_cons_zero, List.getElem?_cons_succ]; rfl
  case hQa3 => exact fun _ _ _ h => h
  case hya3 => refine Or.inl ⟨by rfl, ?_⟩; intro W hSw; (try dsimp only at hSw); go_simp; try with_reducible rfl
  simp only [Act.put, List.setIfInBounds_toArray, List.set_cons_zero, List.set_cons_succ]
  refine wpAnyH_take (i := 4) (oi := ?oa4) (v := ?va4) ?hia4 (by kernel_rfl) (by kernel_rfl) (by kernel_rfl) ?hQa4 ?hya4 hH0 ?_
  case hia4 => simp only [List.getElem?_toArray, List.getElem?_cons_zero, List.getElem?_cons_succ]; rfl
  case hQa4 => exact fun _ _ _ h => h
  case hya4 => refine Or.inl ⟨by rfl, ?_⟩; intro W hSw; (try dsimp only at hSw); go_simp; try with_reducible rfl
  simp only [Act.put, List.setIfInBounds_toArray, List.set_cons_zero, List.set_cons_succ]
  refine wpAnyH_take (i := 5) (oi := ?oa5) (v := ?va5) ?hia5 (by kernel_rfl) (by kernel_rfl) (by kernel_rfl) ?hQa5 ?hya5 hH0 ?_
  case hia5 => simp only [List.getElem?_toArray, List.getElem?_cons_zero, List.getElem?_cons_succ]; rfl
  case hQa5 => exact fun _ _ _ h => h
  case hya5 => refine Or.inl ⟨by rfl, ?_⟩; intro W hSw; (try dsimp only at hSw); go_simp; try with_reducible rfl
  simp only [Act.put, List.setIfInBounds_toArray, List.set_cons_zero, List.set_cons_succ]
  refine wpAnyH_take (i := 6) (oi := ?oa6) (v := ?va6) ?hia6 (by kernel_rfl) (by kernel_rfl) (by kernel_rfl) ?hQa6 ?hya6 hH0 ?_
  case hia6 => simp only [List.getElem?_toArray, List.getElem?_cons_zero, List.getElem?_cons_succ]; rfl
  case hQa6 => exact fun _ _ _ h => h
  case hya6 => refine Or.inl ⟨by rfl, ?_⟩; intro W hSw; (try dsimp only at hSw); go_simp; try with_reducible rfl
  simp only [Act.put, List.setIfInBounds_toArray, List.set_cons_zero, List.set_cons_succ]
  refine wpAnyH_take (i := 7) (oi := ?oa7) (v := ?va7) ?hia7 (by kernel_rfl) (by kernel_rfl) (by kernel_rfl) ?hQa7 ?hya7 hH0 ?_
  case hia7 => simp only [List.getElem?_toArray, List.getElem?_cons_zero, List.getElem?_cons_succ]; rfl
  case hQa7 => exact fun _ _ _ h => h
  case hya7 => refine Or.inl ⟨by rfl, ?_⟩; intro W hSw; (try dsimp only at hSw); go_simp; try with_reducible rfl
  simp only [Act.put, List.setIfInBounds_toArray, List.set_cons_zero, List.set_cons_succ]
  refine wpAnyH_take (i := 8) (oi := ?oa8) (v := ?va8) ?hia8 (by kernel_rfl) (by kernel_rfl) (by kernel_rfl) ?hQa8 ?hya8 hH0 ?_
  case hia8 => simp only [List.getElem?_toArray, List.getElem?_cons_zero, List.getElem?_cons_succ]; rfl
  case hQa8 => exact fun _ _ _ h => h
  case hya8 => refine Or.inl ⟨by rfl, ?_⟩; intro W hSw; (try dsimp only at hSw); go_simp; try with_reducible rfl
  simp only [Act.put, List.setIfInBounds_toArray, List.set_cons_zero, List.set_cons_succ]
  refine wpAnyH_take (i := 9) (oi := ?oa9) (v := ?va9) ?hia9 (by kernel_rfl) (by kernel_rfl) (by kernel_rfl) ?hQa9 ?hya9 hH0 ?_
  case hia9 => simp only [List.getElem?_toArray, List.getElem?_cons_zero, List.getElem?_cons_succ]; rfl
  case hQa9 => exact fun _ _ _ h => h
  case hya9 => refine Or.inl ⟨by rfl, ?_⟩; intro W hSw; (try dsimp only at hSw); go_simp; try with_reducible rfl
  simp only [Act.put, List.setIfInBounds_toArray, List.set_cons_zero, List.set_cons_succ]
  refine wpAnyH_take (i := 11) (oi := ?oa11) (v := ?va11) ?hia11 (by kernel_rfl) (by kernel_rfl) (by kernel_rfl) ?hQa11 ?hya11 hH0 ?_
  case hia11 => simp only [List.getElem?_toArray, List.getElem?_cons_zero, List.getElem?_cons_succ]; rfl
  case hQa11 => exact fun _ _ _ h => h
  case hya11 => refine Or.inl ⟨by rfl, ?_⟩; intro W hSw; (try dsimp only at hSw); go_simp; try with_reducible rfl
  simp only [Act.put, List.setIfInBounds_toArray, List.set_cons_zero, List.set_cons_succ]
  refine wpAnyH_take (i := 12) (oi := ?oa12) (v := ?va12) ?hia12 (by kernel_rfl) (by kernel_rfl) (by kernel_rfl) ?hQa12 ?hya12 hH0 ?_
  case hia12 => simp only [List.getElem?_toArray, List.getElem?_cons_zero, List.getElem?_cons_succ]; rfl
  case hQa12 => exact fun _ _ _ h => h
  case hya12 => refine Or.inl ⟨by rfl, ?_⟩; intro W hSw; (try dsimp only at hSw); go_simp; try with_reducible rfl
  simp only [Act.put, List.setIfInBounds_toArray, List.set_cons_zero, List.set_cons_succ]
  refine wpAnyH_take (i := 13) (oi := ?oa13) (v := ?va13) ?hia13 (by kernel_rfl) (by kernel_rfl) (by kernel_rfl) ?hQa13 ?hya13 hH0 ?_
  case hia13 => simp only [List.getElem?_toArray, List.getElem?_cons_zero, List.getElem?_cons_succ]; rfl
  case hQa13 => exact fun _ _ _ h => h
  case hya13 => refine Or.inl ⟨by rfl, ?_⟩; intro W hSw; (try dsimp only at hSw); go_simp; try with_reducible rfl
  simp only [Act.put, List.setIfInBounds_toArray, List.set_cons_zero, List.set_cons_succ]
  refine wpAnyH_take (i := 14) (oi := ?oa14) (v := ?va14) ?hia14 (by kernel_rfl) (by kernel_rfl) (by kernel_rfl) ?hQa14 ?hya14 hH0 ?_
  case hia14 => simp only [List.getElem?_toArray, List.getElem?_cons_zero, List.getElem?_cons_succ]; rfl
  case hQa14 => exact fun _ _ _ h => h
  case hya14 => refine Or.inl ⟨by rfl, ?_⟩; intro W hSw; (try dsimp only at hSw); go_simp; try with_reducible rfl
  simp only [Act.put, List.setIfInBounds_toArray, List.set_cons_zero, List.set_cons_succ]
  refine wpAnyH_take (i := 15) (oi := ?oa15) (v := ?va15) ?hia15 (by kernel_rfl) (by kernel_rfl) (by kernel_rfl) ?hQa15 ?hya15 hH0 ?_
  case hia15 => simp only [List.getElem?_toArray, List.getElem?_cons_zero, List.getElem?_cons_succ]; rfl
  case hQa15 => exact fun _ _ _ h => h
  case hya15 => refine Or.inl ⟨by rfl, ?_⟩; intro W hSw; (try dsimp only at hSw); go_simp; try with_reducible rfl
  simp only [Act.put, List.setIfInBounds_toArray, List.set_cons_zero, List.set_cons_succ]
  refine wpAnyH_take (i := 17) (oi := ?oa17) (v := ?va17) ?hia17 (by kernel_rfl) (by kernel_rfl) (by kernel_rfl) ?hQa17 ?hya17 hH0 ?_
  case hia17 => simp only [List.getElem?_toArray, List.getElem?_cons_zero, List.getElem?_cons_succ]; rfl
  case hQa17 => exact fun _ _ _ h => h
  case hya17 => refine Or.inl ⟨by rfl, ?_⟩; intro W hSw; (try dsimp only at hSw); go_simp; try with_reducible rfl
  simp only [Act.put, List.setIfInBounds_toArray, List.set_cons_zero, List.set_cons_succ]
  refine wpAnyH_take (i := 18) (oi := ?oa18) (v := ?va18) ?hia18 (by kernel_rfl) (by kernel_rfl) (by kernel_rfl) ?hQa18 ?hya18 hH0 ?_
  case hia18 => simp only [List.getElem?_toArray, List.getElem?_cons_zero, List.getElem?_cons_succ]; rfl
  case hQa18 => exact fun _ _ _ h => h
  case hya18 => refine Or.inl ⟨by rfl, ?_⟩; intro W hSw; (try dsimp only at hSw); go_simp; try with_reducible rfl
  simp only [Act.put, List.setIfInBounds_toArray, List.set_cons_zero, List.set_cons_succ]
  refine wpAnyH_take (i := 19) (oi := ?oa19) (v := ?va19) ?hia19 (by kernel_rfl) (by kernel_rfl) (by kernel_rfl) ?hQa19 ?hya19 hH0 ?_
  case hia19 => simp only [List.getElem?_toArray, List.getElem?_cons_zero, List.getElem?_cons_succ]; rfl
  case hQa19 => exact fun _ _ _ h => h
  case hya19 => refine Or.inl ⟨by rfl, ?_⟩; intro W hSw; (try dsimp only at hSw); go_simp; try with_reducible rfl
  simp only [Act.put, List.setIfInBounds_toArray, List.set_cons_zero, List.set_cons_succ]
  refine wpAnyH_take (i := 20) (oi := ?oa20) (v := ?va20) ?hia20 (by kernel_rfl) (by kernel_rfl) (by kernel_rfl) ?hQa20 ?hya20 hH0 ?_
  case hia20 => simp only [List.getElem?_toArray, List.getElem?_cons_zero, List.getElem?_cons_succ]; rfl
  case hQa20 => exact fun _ _ _ h => h
  case hya20 => refine Or.inl ⟨by rfl, ?_⟩; intro W hSw; (try dsimp only at hSw); go_simp; try with_reducible rfl
  simp only [Act.put, List.setIfInBounds_toArray, List.set_cons_zero, List.set_cons_succ]
  refine wpAnyH_take (i := 21) (oi := ?oa21) (v := ?va21) ?hia21 (by kernel_rfl) (by kernel_rfl) (by kernel_rfl) ?hQa21 ?hya21 hH0 ?_
  case hia21 => simp only [List.getElem?_toArray, List.getElem?_cons_zero, List.getElem?_cons_succ]; rfl
  case hQa21 => exact fun _ _ _ h => h
  case hya21 => refine Or.inl ⟨by rfl, ?_⟩; intro W hSw; (try dsimp only at hSw); go_simp; try with_reducible rfl
  simp only [Act.put, List.setIfInBounds_toArray, List.set_cons_zero, List.set_cons_succ]
  clear hH0
  generalize (w.alloc (.cells #[.int .i64 0, .slice none 0 0, .slice none 0 0, .slice none 0 0] 82)).drew = w0 at *
  refine wpAnyH_ready (rs := [10]) (by kernel_rfl) (by simp) ?_
  refine AllReadyH.cons (o := ?oc10) ?hoc10 (fun K' hK => ?_) AllReadyH.nil
  case hoc10 => simp only [List.getElem?_toArray, List.getElem?_cons_zero, List.getElem?_cons_succ]; rfl
  go_simp
  refine (C1.out _ HB0.out).mono ?_
  rintro e w1 ⟨v1, rfl, how, hb1⟩
  have HI1 := Lib.hid (Vw.own_ints how H64.out)
  have HF1 := Lib.hid (own_fresh how)
  have HZ1 := Lib.hid (Array.getElem?_eq_some_iff.1 G0.out).1
  obtain ⟨b1, l1, rfl⟩ := row_form4 how
  clear how
  have HB1 := Lib.hid (HB0.out.trans (hb1.mono HB0.out.size))
  have G1 := Lib.hid ((hb1.block _ (Array.getElem?_eq_some_iff.1 G0.out).1).trans G0.out)
  clear hb1
  refine hK.out _ _ (MKS.out _ HB1.out) (fun hH1 => ?_)
  clear hK K'
  (try simp only [Act.put, List.setIfInBounds_toArray, List.set_cons_zero, List.set_cons_succ])
  clear hH1
  refine wpAnyH_ready (rs := [16]) (by kernel_rfl) (by simp) ?_
  refine AllReadyH.cons (o := ?oc16) ?hoc16 (fun K' hK => ?_) AllReadyH.nil
  case hoc16 => simp only [List.getElem?_toArray, List.getElem?_cons_zero, List.getElem?_cons_succ]; rfl
  go_simp
  refine (C2.out _ HB1.out).mono ?_
  rintro e w2 ⟨v2, rfl, how, hb2⟩
  replace HI1 := Lib.hid (HI1.out.keep hb2 (Nat.le_refl _))
  have HS2 := Lib.hid hb2.size
  obtain ⟨b2, l2, rfl⟩ := row_form4 how
  clear how
  have HB2 := Lib.hid (HB1.out.trans (hb2.mono HB1.out.size))
  have G2 := Lib.hid ((hb2.block _ (Array.getElem?_eq_some_iff.1 G1.out).1).trans G1.out)
  clear hb2
  refine hK.out _ _ (MKS.out _ HB2.out) (fun hH2 => ?_)
  clear hK K'
  (try simp only [Act.put, List.setIfInBounds_toArray, List.set_cons_zero, List.set_cons_succ])
  clear hH2
  refine wpAnyH_ready (rs := [22]) (by kernel_rfl) (by simp) ?_
  refine AllReadyH.cons (o := ?oc22) ?hoc22 (fun K' hK => ?_) AllReadyH.nil
  case hoc22 => simp only [List.getElem?_toArray, List.getElem?_cons_zero, List.getElem?_cons_succ]; rfl
  go_simp
  refine (C3.out _ HB2.out).mono ?_
  rintro e w3 ⟨v3, rfl, how, hb3⟩
  replace HI1 := Lib.hid ((HI1.out.keep hb3 HS2.out).up (Nat.le_trans HS2.out hb3.size))
  obtain ⟨b3, l3, rfl⟩ := row_form4 how
  clear how
  have HB3 := Lib.hid (HB2.out.trans (hb3.mono HB2.out.size))
  have G3 := Lib.hid ((hb3.block _ (Array.getElem?_eq_some_iff.1 G2.out).1).trans G2.out)
  clear hb3
  refine hK.out _ _ (MKS.out _ HB3.out) (fun hH3 => ?_)
  clear hK K'
  (try simp only [Act.put, List.setIfInBounds_toArray, List.set_cons_zero, List.set_cons_succ])
  refine wpAnyH_take (i := 23) (oi := ?ob23) (v := ?vb23) ?hib23 (by kernel_rfl) (by kernel_rfl) (by kernel_rfl) ?hQb23 ?hyb23 hH3 ?_
  case hib23 => simp only [List.getElem?_toArray, List.getElem?_cons_zero, List.getElem?_cons_succ]; rfl
  case hQb23 => exact fun _ _ _ h => h
  case hyb23 => refine Or.inl ⟨by rfl, ?_⟩; intro W hSw; (try dsimp only at hSw); go_simp; try with_reducible rfl
  simp only [Act.put, List.setIfInBounds_toArray, List.set_cons_zero, List.set_cons_succ]
  clear hH3
  have y0 : w3.cell? ⟨w.heap.size, 0, none⟩ = some (.int .i64 0) := by rw [Lib.cell_of_heap G3.out]; rfl
  have y1 : w3.cell? ⟨w.heap.size, 1, none⟩ = some (.slice none 0 0) := by rw [Lib.cell_of_heap G3.out]; rfl
  have y2 : w3.cell? ⟨w.heap.size, 2, none⟩ = some (.slice none 0 0) := by rw [Lib.cell_of_heap G3.out]; rfl
  have y3 : w3.cell? ⟨w.heap.size, 3, none⟩ = some (.slice none 0 0) := by rw [Lib.cell_of_heap G3.out]; rfl
  have f0 : w3.frozen? ⟨w.heap.size, 0, none⟩ = false := Lib.frozen_of_heap G3.out 0
  have f1 : w3.frozen? ⟨w.heap.size, 1, none⟩ = false := Lib.frozen_of_heap G3.out 1
  have f2 : w3.frozen? ⟨w.heap.size, 2, none⟩ = false := Lib.frozen_of_heap G3.out 2
  have f3 : w3.frozen? ⟨w.heap.size, 3, none⟩ = false := Lib.frozen_of_heap G3.out 3
  refine wpAnyH_ready (rs := [24]) (by kernel_rfl) (by simp) ?_
  refine AllReadyH.cons (o := ?os24) ?hos24 (fun K' hK => ?_) AllReadyH.nil
  case hos24 => simp only [List.getElem?_toArray, List.getElem?_cons_zero, List.getElem?_cons_succ]; rfl
  go_simp
  have hbz := (((HB3.out.setCell (p := ⟨w.heap.size, 0, none⟩) (Nat.le_refl _) (.int .i64 R.s.v.epoch)).setCell (p := ⟨w.heap.size, 1, none⟩) (Nat.le_refl _) (.slice b1 R.s.v.chain.length l1)).setCell (p := ⟨w.heap.size, 2, none⟩) (Nat.le_refl _) (.slice b2 R.s.v.since.length l2)).setCell (p := ⟨w.heap.size, 3, none⟩) (Nat.le_refl _) (.slice b3 R.s.v.boot.length l3)
  have HBZ := Lib.hid hbz
  clear hbz
  refine hK.out _ _ (MKS.out _ HBZ.out) (fun hH4 => ?_)
  clear hK K'
  (try simp only [Act.put, List.setIfInBounds_toArray, List.set_cons_zero, List.set_cons_succ])
  clear hH4
  refine wpAnyH_done (by kernel_rfl) ?_ _
  go_wp2_with fail
  refine bodyPost_ret (Vw.ret_row4 rfl _ _ _ _ _ _ _ _ _ _ _ _ _ (by rfl) G3.out Tryd.underlying82 rfl vsize4) rfl ?_
  have hne : ∀ j, (Value.slice b1 R.s.v.chain.length l1).ownBlock = some j → j ≠ w.heap.size := fun j hj e => by
    have h1 := HF1.out j hj
    have h2 := HZ1.out
    omega
  exact ⟨_, _, _, _, _, _, _, rfl, (Vw.ints_set (Vw.ints_set (Vw.ints_set (Vw.ints_set HI1.out _ 0 hne _) _ 1 hne _) _ 2 hne _) _ 3 hne _).up (by simp only [World.size_setCell]; exact Nat.le_refl _), HBZ.out⟩
end Go.Proofs.YtapgjjfndbfnpaaDoor
