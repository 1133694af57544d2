/-
  The walk of message.parts at a Read. Printed by gen_msred.py of this claim's writer.
-/
import Derived.Test.YtflojipkgaocnaaGreatDoorMsPut
import Derived.Test.YtflojipkgaocnaaGreatDoorRegInv
namespace Go.Proofs.YtflojipkgaocnaaGreatDoor
open Go.RowKit
set_option linter.unusedSimpArgs false
set_option linter.unusedVariables false

theorem box3 {w W : World} {a0 a1 a2 : Value} {t : TypeId} (hb : Below (w.heap.size + 1) (w.alloc (.cells #[a0, a1, a2] t)) W) : W.cell? ⟨w.heap.size, 0, none⟩ = some a0 ∧ W.cell? ⟨w.heap.size, 1, none⟩ = some a1 ∧ W.cell? ⟨w.heap.size, 2, none⟩ = some a2 :=
  ⟨(hb.cell (p := ⟨w.heap.size, 0, none⟩) (by simp)).trans (by simp), (hb.cell (p := ⟨w.heap.size, 1, none⟩) (by simp)).trans (by simp), (hb.cell (p := ⟨w.heap.size, 2, none⟩) (by simp)).trans (by simp)⟩

set_option maxRecDepth 100000 in
set_option maxHeartbeats 6400000 in
theorem parts_red (B : Nat) (v : Value) (a : Int) (s : ByteArray) (f : Int) (w : World) (h : IsMsg B w v (.red a s f)) (hT : Tabs w) (hs : s.size ≤ 1000000) :
    Calls Tryz.prog 25 #[v] w fun e w' => GotRest (.red a s f) w e w' := by
  have HK : HasKind v 12 := hasKind h
  obtain rfl := h
  have HT := Lib.hid hT
  obtain ⟨T, p, F, hv, hm, hcf, hc⟩ := HK
  injection hv with hv1 hv2
  subst hv1 hv2
  have HC := Lib.hid hc
  have z1 := pT_size s
  have z2 := pN_size f
  have C1 := Lib.hid (pT_any s (by omega))
  have C2 := Lib.hid (pN_any f)
  obtain ⟨q, hq⟩ : ∃ q, nameB s = q := ⟨_, rfl⟩
  have C3 := Lib.hid (fun (X : World) (hX : Tabs X) => name_any s q hq X hX)
  obtain ⟨q2, hq2⟩ : ∃ q, numM f = q := ⟨_, rfl⟩
  have C4 := Lib.hid (numM_any f q2 hq2)
  have hrest : bstr (Msg.red a s f).rest = pT s ++ pN f := by
    apply ext_listE
    rw [list_addE]
    rfl
  have hok : (Msg.red a s f).restOk = (q && q2) := by rw [← hq, ← hq2]; rfl
  have HR := Lib.hid hrest
  have HOK := Lib.hid hok
  have ta : ∀ (W : World) (v : Value), (Instr.typeAssert (.iface 77 v) 34 77 false).run Tryz.prog W = .ok v W := fun W v => by kernel_rfl
  have HB0 := Lib.hid ((Below.refl w.heap.size w).alloc (Nat.le_refl _) (.cells #[.pointer none, .slice none 0 0] 100))
  generalize pT s = P1 at z1 C1 HR
  generalize pN f = P2 at z2 C2 HR
  have a1 : ∀ W : World, (Op.stringOp .add P1 P2).run Tryz.prog W = .ok (.string (P1 ++ P2)) W := fun W => run_string_add_sum (P := Tryz.prog) (w := W) _ _ (by omega)
  clear hT hc hrest hok hq hq2 hs
  cases q with
  | false =>
    go_enter Tryz.func25, Tryz.ntmps25
    go_wp2_with fail
    refine (HC.out _).mono ?_
    rintro e w1 ⟨rfl, hb1⟩
    have HB := Lib.hid (bstep HB0.out hb1)
    clear hb1
    have MKS := Lib.hid (fun (X' : World) (hk : Below (w1.heap.size + 1) (w1.alloc (.cells #[.int .i64 a, .string s, .int .i64 f] 77)) X') => (show X'.cell? ⟨w1.heap.size, 1, none⟩ = some (.string s) ∧ X'.cell? ⟨w1.heap.size, 2, none⟩ = some (.int .i64 f) ∧ Below (w1.heap.size + 1) (w1.alloc (.cells #[.int .i64 a, .string s, .int .i64 f] 77)) X' from ⟨(box3 hk).2.1, (box3 hk).2.2, hk⟩))
    go_wp2_with fail
    refine region_begin (S := fun X' => X'.cell? ⟨w1.heap.size, 1, none⟩ = some (.string s) ∧ X'.cell? ⟨w1.heap.size, 2, none⟩ = some (.int .i64 f) ∧ Below (w1.heap.size + 1) (w1.alloc (.cells #[.int .i64 a, .string s, .int .i64 f] 77)) X') 17 rfl (by kernel_rfl) (MKS.out _ (bx_new (w := w1) (.cells #[.int .i64 a, .string s, .int .i64 f] 77)).drew) (fun hH0 => ?_)
    refine wpAnyH_take (i := 0) (oi := ?on0) (v := ?vn0) ?hin0 (by kernel_rfl) (by kernel_rfl) (by kernel_rfl) ?hQn0 ?hyn0 hH0 ?_
    case hin0 => simp only [List.getElem?_toArray, List.getElem?_cons_zero]; rfl
    case hQn0 => exact fun _ _ _ h => h
    case hyn0 => refine Or.inl ⟨by rfl, ?_⟩; intro W hSw; (try dsimp only at hSw); go_simp; try with_reducible rfl
    simp only [Act.put, List.setIfInBounds_toArray, List.set_cons_zero, List.set_cons_succ]
    refine wpAnyH_take (i := 1) (oi := ?on1) (v := ?vn1) ?hin1 (by kernel_rfl) (by kernel_rfl) (by kernel_rfl) ?hQn1 ?hyn1 hH0 ?_
    case hin1 => simp only [List.getElem?_toArray, List.getElem?_cons_zero, List.getElem?_cons_succ]; rfl
    case hQn1 => exact fun _ _ _ h => h
    case hyn1 => refine Or.inl ⟨by rfl, ?_⟩; intro W hSw; (try dsimp only at hSw); go_simp; try with_reducible rfl
    simp only [Act.put, List.setIfInBounds_toArray, List.set_cons_zero, List.set_cons_succ]
    refine wpAnyH_take (i := 3) (oi := ?on3) (v := ?vn3) ?hin3 (by kernel_rfl) (by kernel_rfl) (by kernel_rfl) ?hQn3 ?hyn3 hH0 ?_
    case hin3 => simp only [List.getElem?_toArray, List.getElem?_cons_zero, List.getElem?_cons_succ]; rfl
    case hQn3 => exact fun _ _ _ h => h
    case hyn3 => refine Or.inl ⟨by rfl, ?_⟩; intro W hSw; (try dsimp only at hSw); go_simp; try with_reducible rfl
    simp only [Act.put, List.setIfInBounds_toArray, List.set_cons_zero, List.set_cons_succ]
    refine wpAnyH_take (i := 4) (oi := ?on4) (v := ?vn4) ?hin4 (by kernel_rfl) (by kernel_rfl) (by kernel_rfl) ?hQn4 ?hyn4 hH0 ?_
    case hin4 => simp only [List.getElem?_toArray, List.getElem?_cons_zero, List.getElem?_cons_succ]; rfl
    case hQn4 => exact fun _ _ _ h => h
    case hyn4 => refine Or.inl ⟨by rfl, ?_⟩; intro W hSw; (try dsimp only at hSw); go_simp; try with_reducible rfl
    simp only [Act.put, List.setIfInBounds_toArray, List.set_cons_zero, List.set_cons_succ]
    refine wpAnyH_take (i := 7) (oi := ?on7) (v := ?vn7) ?hin7 (by kernel_rfl) (by kernel_rfl) (by kernel_rfl) ?hQn7 ?hyn7 hH0 ?_
    case hin7 => simp only [List.getElem?_toArray, List.getElem?_cons_zero, List.getElem?_cons_succ]; rfl
    case hQn7 => exact fun _ _ _ h => h
    case hyn7 => refine Or.inl ⟨by rfl, ?_⟩; intro W hSw; (try dsimp only at hSw); go_simp; try with_reducible rfl
    simp only [Act.put, List.setIfInBounds_toArray, List.set_cons_zero, List.set_cons_succ]
    refine wpAnyH_take (i := 8) (oi := ?on8) (v := ?vn8) ?hin8 (by kernel_rfl) (by kernel_rfl) (by kernel_rfl) ?hQn8 ?hyn8 hH0 ?_
    case hin8 => simp only [List.getElem?_toArray, List.getElem?_cons_zero, List.getElem?_cons_succ]; rfl
    case hQn8 => exact fun _ _ _ h => h
    case hyn8 => refine Or.inl ⟨by rfl, ?_⟩; intro W hSw; (try dsimp only at hSw); go_simp; try with_reducible rfl
    simp only [Act.put, List.setIfInBounds_toArray, List.set_cons_zero, List.set_cons_succ]
    clear hH0
    have B1 := Lib.hid (bx_new (w := w1) (.cells #[.int .i64 a, .string s, .int .i64 f] 77)).drew
    refine wpAnyH_ready (rs := [2]) (by kernel_rfl) (by simp) ?_
    refine AllReadyH.cons (o := ?on2) ?hon2 (fun K' hK => ?_) AllReadyH.nil
    case hon2 => simp only [List.getElem?_toArray, List.getElem?_cons_zero, List.getElem?_cons_succ]; rfl
    go_simp
    refine (C1.out _).mono ?_
    rintro r w2 ⟨rfl, hb2⟩
    have B2 := Lib.hid (bx_more B1.out hb2)
    clear hb2
    refine hK.out _ _ (MKS.out _ B2.out) (fun hH1 => ?_)
    clear hK K'
    (try simp only [Act.put, List.setIfInBounds_toArray, List.set_cons_zero, List.set_cons_succ])
    clear hH1
    refine wpAnyH_ready (rs := [5]) (by kernel_rfl) (by simp) ?_
    refine AllReadyH.cons (o := ?on5) ?hon5 (fun K' hK => ?_) AllReadyH.nil
    case hon5 => simp only [List.getElem?_toArray, List.getElem?_cons_zero, List.getElem?_cons_succ]; rfl
    go_simp
    refine (C2.out _).mono ?_
    rintro r w3 ⟨rfl, hb3⟩
    have B3 := Lib.hid (bx_more B2.out hb3)
    clear hb3
    refine hK.out _ _ (MKS.out _ B3.out) (fun hH2 => ?_)
    clear hK K'
    (try simp only [Act.put, List.setIfInBounds_toArray, List.set_cons_zero, List.set_cons_succ])
    refine wpAnyH_take (i := 6) (oi := ?on6) (v := ?vn6) ?hin6 (by kernel_rfl) (by kernel_rfl) (by kernel_rfl) ?hQn6 ?hyn6 hH2 ?_
    case hin6 => simp only [List.getElem?_toArray, List.getElem?_cons_zero, List.getElem?_cons_succ]; rfl
    case hQn6 => exact fun _ _ _ h => h
    case hyn6 => refine Or.inl ⟨by rfl, ?_⟩; intro W hSw; (try dsimp only at hSw); go_simp; try with_reducible rfl
    simp only [Act.put, List.setIfInBounds_toArray, List.set_cons_zero, List.set_cons_succ]
    clear hH2
    refine wpAnyH_ready (rs := [9]) (by kernel_rfl) (by simp) ?_
    refine AllReadyH.cons (o := ?on9) ?hon9 (fun K' hK => ?_) AllReadyH.nil
    case hon9 => simp only [List.getElem?_toArray, List.getElem?_cons_zero, List.getElem?_cons_succ]; rfl
    go_simp
    refine (C3.out _ (tabs_below HT.out (bstep HB.out (bx_below B3.out)))).mono ?_
    rintro r w4 ⟨rfl, hb4⟩
    have B4 := Lib.hid (bx_more B3.out hb4)
    clear hb4
    refine hK.out _ _ (MKS.out _ B4.out) (fun hH3 => ?_)
    clear hK K'
    (try simp only [Act.put, List.setIfInBounds_toArray, List.set_cons_zero, List.set_cons_succ])
    refine wpAnyH_take (i := 10) (oi := ?on10) (v := ?vn10) ?hin10 (by kernel_rfl) (by kernel_rfl) (by kernel_rfl) ?hQn10 ?hyn10 hH3 ?_
    case hin10 => simp only [List.getElem?_toArray, List.getElem?_cons_zero, List.getElem?_cons_succ]; rfl
    case hQn10 => exact fun _ _ _ h => h
    case hyn10 => refine Or.inl ⟨by rfl, ?_⟩; intro W hSw; (try dsimp only at hSw); go_simp; try with_reducible rfl
    simp only [Act.put, List.setIfInBounds_toArray, List.set_cons_zero, List.set_cons_succ]
    refine wpAnyH_take (i := 11) (oi := ?on11) (v := undef) ?hin11 (by kernel_rfl) (by kernel_rfl) (by kernel_rfl) ?hQn11 ?hyn11 hH3 ?_
    case hin11 => simp only [List.getElem?_toArray, List.getElem?_cons_zero, List.getElem?_cons_succ]; rfl
    case hQn11 => exact fun _ _ _ h => h
    case hyn11 => exact Or.inr ⟨by rfl, rfl⟩
    simp only [Act.put, List.setIfInBounds_toArray, List.set_cons_zero, List.set_cons_succ]
    refine wpAnyH_take (i := 12) (oi := ?on12) (v := undef) ?hin12 (by kernel_rfl) (by kernel_rfl) (by kernel_rfl) ?hQn12 ?hyn12 hH3 ?_
    case hin12 => simp only [List.getElem?_toArray, List.getElem?_cons_zero, List.getElem?_cons_succ]; rfl
    case hQn12 => exact fun _ _ _ h => h
    case hyn12 => exact Or.inr ⟨by rfl, rfl⟩
    simp only [Act.put, List.setIfInBounds_toArray, List.set_cons_zero, List.set_cons_succ]
    refine wpAnyH_take (i := 13) (oi := ?on13) (v := undef) ?hin13 (by kernel_rfl) (by kernel_rfl) (by kernel_rfl) ?hQn13 ?hyn13 hH3 ?_
    case hin13 => simp only [List.getElem?_toArray, List.getElem?_cons_zero, List.getElem?_cons_succ]; rfl
    case hQn13 => exact fun _ _ _ h => h
    case hyn13 => exact Or.inr ⟨by rfl, rfl⟩
    simp only [Act.put, List.setIfInBounds_toArray, List.set_cons_zero, List.set_cons_succ]
    refine wpAnyH_take (i := 14) (oi := ?on14) (v := ?vn14) ?hin14 (by kernel_rfl) (by kernel_rfl) (by kernel_rfl) ?hQn14 ?hyn14 hH3 ?_
    case hin14 => simp only [List.getElem?_toArray, List.getElem?_cons_zero, List.getElem?_cons_succ]; rfl
    case hQn14 => exact fun _ _ _ h => h
    case hyn14 => refine Or.inl ⟨by rfl, ?_⟩; intro W hSw; (try dsimp only at hSw); go_simp; try with_reducible rfl
    simp only [Act.put, List.setIfInBounds_toArray, List.set_cons_zero, List.set_cons_succ]
    clear hH3
    refine wpAnyH_ready (rs := [15]) (by kernel_rfl) (by simp) ?_
    refine AllReadyH.cons (o := ?on15) ?hon15 (fun K' hK => ?_) AllReadyH.nil
    case hon15 => simp only [List.getElem?_toArray, List.getElem?_cons_zero, List.getElem?_cons_succ]; rfl
    go_simp
    refine hK.out _ _ (MKS.out _ B4.out) (fun hH4 => ?_)
    clear hK K'
    (try simp only [Act.put, List.setIfInBounds_toArray, List.set_cons_zero, List.set_cons_succ])
    clear hH4
    refine wpAnyH_ready (rs := [16]) (by kernel_rfl) (by simp) ?_
    refine AllReadyH.cons (o := ?on16) ?hon16 (fun K' hK => ?_) AllReadyH.nil
    case hon16 => simp only [List.getElem?_toArray, List.getElem?_cons_zero, List.getElem?_cons_succ]; rfl
    go_simp
    refine hK.out _ _ (MKS.out _ B4.out) (fun hH5 => ?_)
    clear hK K'
    (try simp only [Act.put, List.setIfInBounds_toArray, List.set_cons_zero, List.set_cons_succ])
    clear hH5
    refine wpAnyH_done (by kernel_rfl) ?_ _
    go_wp2_with fail
    go_ret2
    exact ⟨by rw [HR.out, HOK.out]; rfl, bstep HB.out (bx_below B4.out)⟩
  | true =>
    go_enter Tryz.func25, Tryz.ntmps25
    go_wp2_with fail
    refine (HC.out _).mono ?_
    rintro e w1 ⟨rfl, hb1⟩
    have HB := Lib.hid (bstep HB0.out hb1)
    clear hb1
    have MKS := Lib.hid (fun (X' : World) (hk : Below (w1.heap.size + 1) (w1.alloc (.cells #[.int .i64 a, .string s, .int .i64 f] 77)) X') => (show X'.cell? ⟨w1.heap.size, 1, none⟩ = some (.string s) ∧ X'.cell? ⟨w1.heap.size, 2, none⟩ = some (.int .i64 f) ∧ Below (w1.heap.size + 1) (w1.alloc (.cells #[.int .i64 a, .string s, .int .i64 f] 77)) X' from ⟨(box3 hk).2.1, (box3 hk).2.2, hk⟩))
    go_wp2_with fail
    refine region_begin (S := fun X' => X'.cell? ⟨w1.heap.size, 1, none⟩ = some (.string s) ∧ X'.cell? ⟨w1.heap.size, 2, none⟩ = some (.int .i64 f) ∧ Below (w1.heap.size + 1) (w1.alloc (.cells #[.int .i64 a, .string s, .int .i64 f] 77)) X') 17 rfl (by kernel_rfl) (MKS.out _ (bx_new (w := w1) (.cells #[.int .i64 a, .string s, .int .i64 f] 77)).drew) (fun hH0 => ?_)
    refine wpAnyH_take (i := 0) (oi := ?oy0) (v := ?vy0) ?hiy0 (by kernel_rfl) (by kernel_rfl) (by kernel_rfl) ?hQy0 ?hyy0 hH0 ?_
    case hiy0 => simp only [List.getElem?_toArray, List.getElem?_cons_zero]; rfl
    case hQy0 => exact fun _ _ _ h => h
    case hyy0 => refine Or.inl ⟨by rfl, ?_⟩; intro W hSw; (try dsimp only at hSw); go_simp; try with_reducible rfl
    simp only [Act.put, List.setIfInBounds_toArray, List.set_cons_zero, List.set_cons_succ]
    refine wpAnyH_take (i := 1) (oi := ?oy1) (v := ?vy1) ?hiy1 (by kernel_rfl) (by kernel_rfl) (by kernel_rfl) ?hQy1 ?hyy1 hH0 ?_
    case hiy1 => simp only [List.getElem?_toArray, List.getElem?_cons_zero, List.getElem?_cons_succ]; rfl
    case hQy1 => exact fun _ _ _ h => h
    case hyy1 => refine Or.inl ⟨by rfl, ?_⟩; intro W hSw; (try dsimp only at hSw); go_simp; try with_reducible rfl
    simp only [Act.put, List.setIfInBounds_toArray, List.set_cons_zero, List.set_cons_succ]
    refine wpAnyH_take (i := 3) (oi := ?oy3) (v := ?vy3) ?hiy3 (by kernel_rfl) (by kernel_rfl) (by kernel_rfl) ?hQy3 ?hyy3 hH0 ?_
    case hiy3 => simp only [List.getElem?_toArray, List.getElem?_cons_zero, List.getElem?_cons_succ]; rfl
    case hQy3 => exact fun _ _ _ h => h
    case hyy3 => refine Or.inl ⟨by rfl, ?_⟩; intro W hSw; (try dsimp only at hSw); go_simp; try with_reducible rfl
    simp only [Act.put, List.setIfInBounds_toArray, List.set_cons_zero, List.set_cons_succ]
    refine wpAnyH_take (i := 4) (oi := ?oy4) (v := ?vy4) ?hiy4 (by kernel_rfl) (by kernel_rfl) (by kernel_rfl) ?hQy4 ?hyy4 hH0 ?_
    case hiy4 => simp only [List.getElem?_toArray, List.getElem?_cons_zero, List.getElem?_cons_succ]; rfl
    case hQy4 => exact fun _ _ _ h => h
    case hyy4 => refine Or.inl ⟨by rfl, ?_⟩; intro W hSw; (try dsimp only at hSw); go_simp; try with_reducible rfl
    simp only [Act.put, List.setIfInBounds_toArray, List.set_cons_zero, List.set_cons_succ]
    refine wpAnyH_take (i := 7) (oi := ?oy7) (v := ?vy7) ?hiy7 (by kernel_rfl) (by kernel_rfl) (by kernel_rfl) ?hQy7 ?hyy7 hH0 ?_
    case hiy7 => simp only [List.getElem?_toArray, List.getElem?_cons_zero, List.getElem?_cons_succ]; rfl
    case hQy7 => exact fun _ _ _ h => h
    case hyy7 => refine Or.inl ⟨by rfl, ?_⟩; intro W hSw; (try dsimp only at hSw); go_simp; try with_reducible rfl
    simp only [Act.put, List.setIfInBounds_toArray, List.set_cons_zero, List.set_cons_succ]
    refine wpAnyH_take (i := 8) (oi := ?oy8) (v := ?vy8) ?hiy8 (by kernel_rfl) (by kernel_rfl) (by kernel_rfl) ?hQy8 ?hyy8 hH0 ?_
    case hiy8 => simp only [List.getElem?_toArray, List.getElem?_cons_zero, List.getElem?_cons_succ]; rfl
    case hQy8 => exact fun _ _ _ h => h
    case hyy8 => refine Or.inl ⟨by rfl, ?_⟩; intro W hSw; (try dsimp only at hSw); go_simp; try with_reducible rfl
    simp only [Act.put, List.setIfInBounds_toArray, List.set_cons_zero, List.set_cons_succ]
    clear hH0
    have B1 := Lib.hid (bx_new (w := w1) (.cells #[.int .i64 a, .string s, .int .i64 f] 77)).drew
    refine wpAnyH_ready (rs := [2]) (by kernel_rfl) (by simp) ?_
    refine AllReadyH.cons (o := ?oy2) ?hoy2 (fun K' hK => ?_) AllReadyH.nil
    case hoy2 => simp only [List.getElem?_toArray, List.getElem?_cons_zero, List.getElem?_cons_succ]; rfl
    go_simp
    refine (C1.out _).mono ?_
    rintro r w2 ⟨rfl, hb2⟩
    have B2 := Lib.hid (bx_more B1.out hb2)
    clear hb2
    refine hK.out _ _ (MKS.out _ B2.out) (fun hH1 => ?_)
    clear hK K'
    (try simp only [Act.put, List.setIfInBounds_toArray, List.set_cons_zero, List.set_cons_succ])
    clear hH1
    refine wpAnyH_ready (rs := [5]) (by kernel_rfl) (by simp) ?_
    refine AllReadyH.cons (o := ?oy5) ?hoy5 (fun K' hK => ?_) AllReadyH.nil
    case hoy5 => simp only [List.getElem?_toArray, List.getElem?_cons_zero, List.getElem?_cons_succ]; rfl
    go_simp
    refine (C2.out _).mono ?_
    rintro r w3 ⟨rfl, hb3⟩
    have B3 := Lib.hid (bx_more B2.out hb3)
    clear hb3
    refine hK.out _ _ (MKS.out _ B3.out) (fun hH2 => ?_)
    clear hK K'
    (try simp only [Act.put, List.setIfInBounds_toArray, List.set_cons_zero, List.set_cons_succ])
    refine wpAnyH_take (i := 6) (oi := ?oy6) (v := ?vy6) ?hiy6 (by kernel_rfl) (by kernel_rfl) (by kernel_rfl) ?hQy6 ?hyy6 hH2 ?_
    case hiy6 => simp only [List.getElem?_toArray, List.getElem?_cons_zero, List.getElem?_cons_succ]; rfl
    case hQy6 => exact fun _ _ _ h => h
    case hyy6 => refine Or.inl ⟨by rfl, ?_⟩; intro W hSw; (try dsimp only at hSw); go_simp; try with_reducible rfl
    simp only [Act.put, List.setIfInBounds_toArray, List.set_cons_zero, List.set_cons_succ]
    clear hH2
    refine wpAnyH_ready (rs := [9]) (by kernel_rfl) (by simp) ?_
    refine AllReadyH.cons (o := ?oy9) ?hoy9 (fun K' hK => ?_) AllReadyH.nil
    case hoy9 => simp only [List.getElem?_toArray, List.getElem?_cons_zero, List.getElem?_cons_succ]; rfl
    go_simp
    refine (C3.out _ (tabs_below HT.out (bstep HB.out (bx_below B3.out)))).mono ?_
    rintro r w4 ⟨rfl, hb4⟩
    have B4 := Lib.hid (bx_more B3.out hb4)
    clear hb4
    refine hK.out _ _ (MKS.out _ B4.out) (fun hH3 => ?_)
    clear hK K'
    (try simp only [Act.put, List.setIfInBounds_toArray, List.set_cons_zero, List.set_cons_succ])
    refine wpAnyH_take (i := 10) (oi := ?oy10) (v := ?vy10) ?hiy10 (by kernel_rfl) (by kernel_rfl) (by kernel_rfl) ?hQy10 ?hyy10 hH3 ?_
    case hiy10 => simp only [List.getElem?_toArray, List.getElem?_cons_zero, List.getElem?_cons_succ]; rfl
    case hQy10 => exact fun _ _ _ h => h
    case hyy10 => refine Or.inl ⟨by rfl, ?_⟩; intro W hSw; (try dsimp only at hSw); go_simp; try with_reducible rfl
    simp only [Act.put, List.setIfInBounds_toArray, List.set_cons_zero, List.set_cons_succ]
    refine wpAnyH_take (i := 11) (oi := ?oy11) (v := ?vy11) ?hiy11 (by kernel_rfl) (by kernel_rfl) (by kernel_rfl) ?hQy11 ?hyy11 hH3 ?_
    case hiy11 => simp only [List.getElem?_toArray, List.getElem?_cons_zero, List.getElem?_cons_succ]; rfl
    case hQy11 => exact fun _ _ _ h => h
    case hyy11 => refine Or.inl ⟨by rfl, ?_⟩; intro W hSw; (try dsimp only at hSw); go_simp; try with_reducible rfl
    simp only [Act.put, List.setIfInBounds_toArray, List.set_cons_zero, List.set_cons_succ]
    refine wpAnyH_take (i := 12) (oi := ?oy12) (v := ?vy12) ?hiy12 (by kernel_rfl) (by kernel_rfl) (by kernel_rfl) ?hQy12 ?hyy12 hH3 ?_
    case hiy12 => simp only [List.getElem?_toArray, List.getElem?_cons_zero, List.getElem?_cons_succ]; rfl
    case hQy12 => exact fun _ _ _ h => h
    case hyy12 => refine Or.inl ⟨by rfl, ?_⟩; intro W hSw; (try dsimp only at hSw); go_simp; try with_reducible rfl
    simp only [Act.put, List.setIfInBounds_toArray, List.set_cons_zero, List.set_cons_succ]
    clear hH3
    refine wpAnyH_ready (rs := [13]) (by kernel_rfl) (by simp) ?_
    refine AllReadyH.cons (o := ?oy13) ?hoy13 (fun K' hK => ?_) AllReadyH.nil
    case hoy13 => simp only [List.getElem?_toArray, List.getElem?_cons_zero, List.getElem?_cons_succ]; rfl
    go_simp
    refine (C4.out _).mono ?_
    rintro r w5 ⟨rfl, rfl⟩
    refine hK.out _ _ (MKS.out _ B4.out) (fun hH3 => ?_)
    clear hK K'
    (try simp only [Act.put, List.setIfInBounds_toArray, List.set_cons_zero, List.set_cons_succ])
    refine wpAnyH_take (i := 14) (oi := ?oy14) (v := ?vy14) ?hiy14 (by kernel_rfl) (by kernel_rfl) (by kernel_rfl) ?hQy14 ?hyy14 hH3 ?_
    case hiy14 => simp only [List.getElem?_toArray, List.getElem?_cons_zero, List.getElem?_cons_succ]; rfl
    case hQy14 => exact fun _ _ _ h => h
    case hyy14 => refine Or.inl ⟨by rfl, ?_⟩; intro W hSw; (try dsimp only at hSw); go_simp; try with_reducible rfl
    simp only [Act.put, List.setIfInBounds_toArray, List.set_cons_zero, List.set_cons_succ]
    clear hH3
    refine wpAnyH_ready (rs := [15]) (by kernel_rfl) (by simp) ?_
    refine AllReadyH.cons (o := ?oy15) ?hoy15 (fun K' hK => ?_) AllReadyH.nil
    case hoy15 => simp only [List.getElem?_toArray, List.getElem?_cons_zero, List.getElem?_cons_succ]; rfl
    go_simp
    refine hK.out _ _ (MKS.out _ B4.out) (fun hH4 => ?_)
    clear hK K'
    (try simp only [Act.put, List.setIfInBounds_toArray, List.set_cons_zero, List.set_cons_succ])
    clear hH4
    refine wpAnyH_ready (rs := [16]) (by kernel_rfl) (by simp) ?_
    refine AllReadyH.cons (o := ?oy16) ?hoy16 (fun K' hK => ?_) AllReadyH.nil
    case hoy16 => simp only [List.getElem?_toArray, List.getElem?_cons_zero, List.getElem?_cons_succ]; rfl
    go_simp
    refine hK.out _ _ (MKS.out _ B4.out) (fun hH5 => ?_)
    clear hK K'
    (try simp only [Act.put, List.setIfInBounds_toArray, List.set_cons_zero, List.set_cons_succ])
    clear hH5
    refine wpAnyH_done (by kernel_rfl) ?_ _
    go_wp2_with fail
    go_ret2
    exact ⟨by rw [HR.out, HOK.out]; rfl, bstep HB.out (bx_below B4.out)⟩
end Go.Proofs.YtflojipkgaocnaaGreatDoor
