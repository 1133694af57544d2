/-
  The walk of (*client.Client).Append. Printed by gen_cliapp.py of this claim's writer.
-/
import Derived.Test.YtapgjjfndbfnpaaDoorCliPlain
namespace Go.Proofs.YtapgjjfndbfnpaaDoor
open Go.RowKit
set_option linter.unusedSimpArgs false
set_option linter.unusedVariables false

theorem own_lt {base : Nat} {e : TypeId} {size : Nat} {v : Value} {n : Nat} {xs : List Value} {w : World} (h : w.ownsRow base e size v n xs) : ∀ k, v.ownBlock = some k → base ≤ k ∧ k < w.heap.size := by
  intro k hk
  rcases h.2 with ⟨rfl, _⟩ | ⟨g, cap, cur, rfl, hb, hg, _⟩
  · exact absurd hk (by simp [Value.ownBlock])
  · have e2 : g = k := Option.some.inj hk
    subst e2
    exact ⟨hb, (Array.getElem?_eq_some_iff.1 hg).1⟩
theorem block_set5 {w : World} {g : Nat} {z0 z1 z2 z3 z4 v0 v1 v2 v3 v4 : Value} {t : TypeId} (h : w.heap[g]? = some (.cells #[z0, z1, z2, z3, z4] t)) :
    (((((w.setCell ⟨g, 0, none⟩ v0).setCell ⟨g, 1, none⟩ v1).setCell ⟨g, 2, none⟩ v2).setCell ⟨g, 3, none⟩ v3).setCell ⟨g, 4, none⟩ v4).heap[g]? = some (.cells #[v0, v1, v2, v3, v4] t) :=
  block_set2 (block_set2 (block_set2 (block_set2 (block_set2 h 0 v0) 1 v1) 2 v2) 3 v3) 4 v4
theorem own_set5 {base : Nat} {e : TypeId} {size : Nat} {v : Value} {n : Nat} {xs : List Value} {w : World} (h : w.ownsRow base e size v n xs) (g : Nat) (hb : v.ownBlock ≠ some g) (v0 v1 v2 v3 v4 : Value) :
    (((((w.setCell ⟨g, 0, none⟩ v0).setCell ⟨g, 1, none⟩ v1).setCell ⟨g, 2, none⟩ v2).setCell ⟨g, 3, none⟩ v3).setCell ⟨g, 4, none⟩ v4).ownsRow base e size v n xs :=
  Vw.own_set_ne (Vw.own_set_ne (Vw.own_set_ne (Vw.own_set_ne (Vw.own_set_ne h g 0 hb v0) g 1 hb v1) g 2 hb v2) g 3 hb v3) g 4 hb v4
theorem below_set5 {B : Nat} {a w : World} (h : Below B a w) (g : Nat) (hg : B ≤ g) (v0 v1 v2 v3 v4 : Value) :
    Below B a (((((w.setCell ⟨g, 0, none⟩ v0).setCell ⟨g, 1, none⟩ v1).setCell ⟨g, 2, none⟩ v2).setCell ⟨g, 3, none⟩ v3).setCell ⟨g, 4, none⟩ v4) :=
  ((((h.setCell (p := ⟨g, 0, none⟩) hg v0).setCell (p := ⟨g, 1, none⟩) hg v1).setCell (p := ⟨g, 2, none⟩) hg v2).setCell (p := ⟨g, 3, none⟩) hg v3).setCell (p := ⟨g, 4, none⟩) hg v4

set_option maxRecDepth 100000 in
set_option maxHeartbeats 1600000 in
theorem append_any (X : Nat → Prop) (lo c : Nat) (R : ClR) (w : World) (h : ClM X lo w c R) (hm : R.rs.length ≤ 100000) (hT : Tabs w) (stream : ByteArray) (expect : Int) (evv : Value) (events : List EV) (he : IsEvents w.heap.size w evv events) (hel : events.length ≤ 1000) (now : Int)
    (s' : ClW) (outs : List OutW) (err : Nat) (hs : appendS R.s stream expect events now = (s', outs, err)) :
    Calls Tryd.prog 10 #[.pointer (some ⟨c, 0, none⟩), .string stream, .int .i64 expect, evv, .int .i64 now] w fun e w' => ∃ v, e = .returned (.tuple #[v, .int .i64 err]) ∧ Does X lo c R w s' outs v w' := by
  obtain ⟨ea, ek, rfl⟩ := he.form
  obtain ⟨oa, ok, hov⟩ := h.form
  obtain ⟨q, hq⟩ : ∃ q, busyB R.s = q := ⟨_, rfl⟩
  have CB := Lib.hid (busy_any X lo c R w h q hq)
  have HH := Lib.hid h
  cases q with
  | true =>
    obtain ⟨rfl, rfl, rfl⟩ : R.s = s' ∧ [] = outs ∧ 9 = err := by
      rw [appendS, if_pos hq] at hs
      exact ⟨congrArg (·.1) hs, congrArg (·.2.1) hs, congrArg (·.2.2) hs⟩
    clear hs hq h he hov
    go_enter Tryd.func10, Tryd.ntmps10
    go_wp2_with fail
    refine CB.out.mono ?_
    rintro e w1 ⟨rfl, rfl⟩
    go_wp2_with fail
    go_ret2
    exact ⟨_, rfl, does_none HH.out (Below.refl _ _)⟩
  | false =>
    obtain ⟨b, hb⟩ : ∃ b, batchS R.s stream expect events = b := ⟨_, rfl⟩
    have hlen : R.rs.length = R.s.ops.length := h.len
    have hbe : b = ⟨stream, expect, R.s.session, (R.rs.length : Int) + 1, events⟩ := by rw [← hb, batchS, hlen]
    obtain ⟨fc, hfc⟩ : ∃ f, fitsB b = f := ⟨_, rfl⟩
    rw [appendS, if_neg (by rw [hq]; decide), hb, hfc] at hs
    have HS := Lib.hid hs
    have HBE := Lib.hid hbe
    have HFC := Lib.hid hfc
    have HE := Lib.hid he
    have HT := Lib.hid hT
    have HOV := Lib.hid hov
    have HC := Lib.hid h.clt
    have CC := Lib.hid (fun (X' : World) (hb' : Below w.heap.size w X') => cloneE_any w.heap.size _ events X' (he.keep hb' (Nat.le_refl _)) hel)
    have MKS := Lib.hid (fun (X' : World) (hb' : Below w.heap.size w X') => (show X'.cell? ⟨c, 0, none⟩ = some (.int .i64 R.s.session) ∧ X'.cell? ⟨c, 2, none⟩ = some (.slice oa R.rs.length ok) ∧ Below w.heap.size w X' from ⟨(h.keep hb').c0, by rw [← hov]; exact (h.keep hb').c2, hb'⟩))
    have i1 : (0 : Int) ≤ (R.rs.length : Int) := by omega
    have i2 : (R.rs.length : Int) ≤ 100000 := by omega
    clear hs hq hb hbe hlen hfc he hT hov h
    go_enter Tryd.func10, Tryd.ntmps10
    go_wp2_with fail
    refine CB.out.mono ?_
    rintro e w1 ⟨rfl, rfl⟩
    go_upto_region 3 with fail
    go_cut [12] (fun s12 wx => ∃ q ba bk, s12 = .pointer (some ⟨q, 0, none⟩) ∧ w.heap.size ≤ q ∧ wx.heap[q]? = some (.cells #[.string stream, .int .i64 expect, .int .i64 R.s.session, .int .i64 ((R.rs.length : Int) + 1), .slice ba events.length bk] 24) ∧
      wx.ownsRow w.heap.size 88 2 (.slice ba events.length bk) events.length (ecells events) ∧ Below w.heap.size w wx)
    case first =>
      have ew : IntKind.i64.wrap ((R.rs.length : Int) + 1) = (R.rs.length : Int) + 1 := by rw [IntKind.wrap_i64]; omega
      refine region_begin (S := fun X' => X'.cell? ⟨c, 0, none⟩ = some (.int .i64 R.s.session) ∧ X'.cell? ⟨c, 2, none⟩ = some (.slice oa R.rs.length ok) ∧ Below w.heap.size w X') 17 rfl (by kernel_rfl) (MKS.out _ (Below.refl w.heap.size w).drew) (fun hH0 => ?_)
      refine wpAnyH_take (i := 0) (oi := ?op0) (v := ?vp0) ?hip0 (by kernel_rfl) (by kernel_rfl) (by kernel_rfl) ?hQp0 ?hyp0 hH0 ?_
      case hip0 => simp only [List.getElem?_toArray, List.getElem?_cons_zero]; rfl
      case hQp0 => exact fun _ _ _ h => h
      case hyp0 => refine Or.inl ⟨by rfl, ?_⟩; intro W hSw; (try dsimp only at hSw); go_simp; try with_reducible rfl
      simp only [Act.put, List.setIfInBounds_toArray, List.set_cons_zero, List.set_cons_succ]
      refine wpAnyH_take (i := 1) (oi := ?op1) (v := ?vp1) ?hip1 (by kernel_rfl) (by kernel_rfl) (by kernel_rfl) ?hQp1 ?hyp1 hH0 ?_
      case hip1 => simp only [List.getElem?_toArray, List.getElem?_cons_zero, List.getElem?_cons_succ]; rfl
      case hQp1 => exact fun _ _ _ h => h
      case hyp1 => refine Or.inl ⟨by rfl, ?_⟩; intro W hSw; (try dsimp only at hSw); go_simp; try with_reducible rfl
      simp only [Act.put, List.setIfInBounds_toArray, List.set_cons_zero, List.set_cons_succ]
      refine wpAnyH_take (i := 2) (oi := ?op2) (v := ?vp2) ?hip2 (by kernel_rfl) (by kernel_rfl) (by kernel_rfl) ?hQp2 ?hyp2 hH0 ?_
      case hip2 => simp only [List.getElem?_toArray, List.getElem?_cons_zero, List.getElem?_cons_succ]; rfl
      case hQp2 => exact fun _ _ _ h => h
      case hyp2 => refine Or.inl ⟨by rfl, ?_⟩; intro W hSw; (try dsimp only at hSw); go_simp; try with_reducible rfl
      simp only [Act.put, List.setIfInBounds_toArray, List.set_cons_zero, List.set_cons_succ]
      refine wpAnyH_take (i := 3) (oi := ?op3) (v := ?vp3) ?hip3 (by kernel_rfl) (by kernel_rfl) (by kernel_rfl) ?hQp3 ?hyp3 hH0 ?_
      case hip3 => simp only [List.getElem?_toArray, List.getElem?_cons_zero, List.getElem?_cons_succ]; rfl
      case hQp3 => exact fun _ _ _ h => h
      case hyp3 => refine Or.inl ⟨by rfl, ?_⟩; intro W hSw; (try dsimp only at hSw); go_simp; try with_reducible rfl
      simp only [Act.put, List.setIfInBounds_toArray, List.set_cons_zero, List.set_cons_succ]
      refine wpAnyH_take (i := 4) (oi := ?op4) (v := ?vp4) ?hip4 (by kernel_rfl) (by kernel_rfl) (by kernel_rfl) ?hQp4 ?hyp4 hH0 ?_
      case hip4 => simp only [List.getElem?_toArray, List.getElem?_cons_zero, List.getElem?_cons_succ]; rfl
      case hQp4 => exact fun _ _ _ h => h
      case hyp4 => refine Or.inl ⟨by rfl, ?_⟩; intro W hSw; (try dsimp only at hSw); go_simp; try with_reducible rfl
      simp only [Act.put, List.setIfInBounds_toArray, List.set_cons_zero, List.set_cons_succ]
      refine wpAnyH_take (i := 5) (oi := ?op5) (v := ?vp5) ?hip5 (by kernel_rfl) (by kernel_rfl) (by kernel_rfl) ?hQp5 ?hyp5 hH0 ?_
      case hip5 => simp only [List.getElem?_toArray, List.getElem?_cons_zero, List.getElem?_cons_succ]; rfl
      case hQp5 => exact fun _ _ _ h => h
      case hyp5 => refine Or.inl ⟨by rfl, ?_⟩; intro W hSw; (try dsimp only at hSw); go_simp; try with_reducible rfl
      simp only [Act.put, List.setIfInBounds_toArray, List.set_cons_zero, List.set_cons_succ]
      refine wpAnyH_take (i := 6) (oi := ?op6) (v := ?vp6) ?hip6 (by kernel_rfl) (by kernel_rfl) (by kernel_rfl) ?hQp6 ?hyp6 hH0 ?_
      case hip6 => simp only [List.getElem?_toArray, List.getElem?_cons_zero, List.getElem?_cons_succ]; rfl
      case hQp6 => exact fun _ _ _ h => h
      case hyp6 => refine Or.inl ⟨by rfl, ?_⟩; intro W hSw; (try dsimp only at hSw); go_simp; try with_reducible rfl
      simp only [Act.put, List.setIfInBounds_toArray, List.set_cons_zero, List.set_cons_succ]
      refine wpAnyH_take (i := 7) (oi := ?op7) (v := ?vp7) ?hip7 (by kernel_rfl) (by kernel_rfl) (by kernel_rfl) ?hQp7 ?hyp7 hH0 ?_
      case hip7 => simp only [List.getElem?_toArray, List.getElem?_cons_zero, List.getElem?_cons_succ]; rfl
      case hQp7 => exact fun _ _ _ h => h
      case hyp7 => refine Or.inl ⟨by rfl, ?_⟩; intro W hSw; (try dsimp only at hSw); go_simp; try with_reducible rfl
      simp only [Act.put, List.setIfInBounds_toArray, List.set_cons_zero, List.set_cons_succ]
      refine wpAnyH_take (i := 8) (oi := ?op8) (v := ?vp8) ?hip8 (by kernel_rfl) (by kernel_rfl) (by kernel_rfl) ?hQp8 ?hyp8 hH0 ?_
      case hip8 => simp only [List.getElem?_toArray, List.getElem?_cons_zero, List.getElem?_cons_succ]; rfl
      case hQp8 => exact fun _ _ _ h => h
      case hyp8 => refine Or.inl ⟨by rfl, ?_⟩; intro W hSw; (try dsimp only at hSw); go_simp; try with_reducible rfl
      simp only [Act.put, List.setIfInBounds_toArray, List.set_cons_zero, List.set_cons_succ]
      refine wpAnyH_take (i := 9) (oi := ?op9) (v := ?vp9) ?hip9 (by kernel_rfl) (by kernel_rfl) (by kernel_rfl) ?hQp9 ?hyp9 hH0 ?_
      case hip9 => simp only [List.getElem?_toArray, List.getElem?_cons_zero, List.getElem?_cons_succ]; rfl
      case hQp9 => exact fun _ _ _ h => h
      case hyp9 => refine Or.inl ⟨by rfl, ?_⟩; intro W hSw; (try dsimp only at hSw); go_simp; try with_reducible rfl
      simp only [Act.put, List.setIfInBounds_toArray, List.set_cons_zero, List.set_cons_succ]
      refine wpAnyH_take (i := 10) (oi := ?op10) (v := ?vp10) ?hip10 (by kernel_rfl) (by kernel_rfl) (by kernel_rfl) ?hQp10 ?hyp10 hH0 ?_
      case hip10 => simp only [List.getElem?_toArray, List.getElem?_cons_zero, List.getElem?_cons_succ]; rfl
      case hQp10 => exact fun _ _ _ h => h
      case hyp10 => refine Or.inl ⟨by rfl, ?_⟩; intro W hSw; (try dsimp only at hSw); go_simp; try with_reducible rfl
      simp only [Act.put, List.setIfInBounds_toArray, List.set_cons_zero, List.set_cons_succ]
      refine wpAnyH_take (i := 11) (oi := ?op11) (v := ?vp11) ?hip11 (by kernel_rfl) (by kernel_rfl) (by kernel_rfl) ?hQp11 ?hyp11 hH0 ?_
      case hip11 => simp only [List.getElem?_toArray, List.getElem?_cons_zero, List.getElem?_cons_succ]; rfl
      case hQp11 => exact fun _ _ _ h => h
      case hyp11 => refine Or.inl ⟨by rfl, ?_⟩; intro W hSw; (try dsimp only at hSw); go_simp; try with_reducible rfl
      simp only [Act.put, List.setIfInBounds_toArray, List.set_cons_zero, List.set_cons_succ]
      refine wpAnyH_take (i := 12) (oi := ?op12) (v := ?vp12) ?hip12 (by kernel_rfl) (by kernel_rfl) (by kernel_rfl) ?hQp12 ?hyp12 hH0 ?_
      case hip12 => simp only [List.getElem?_toArray, List.getElem?_cons_zero, List.getElem?_cons_succ]; rfl
      case hQp12 => exact fun _ _ _ h => h
      case hyp12 => refine Or.inl ⟨by rfl, ?_⟩; intro W hSw; (try dsimp only at hSw); go_simp; try with_reducible rfl
      simp only [Act.put, List.setIfInBounds_toArray, List.set_cons_zero, List.set_cons_succ]
      clear hH0 ew
      have HBd := Lib.hid (Below.refl w.heap.size w).drew
      have hzd : w.heap.size ≤ w.drew.heap.size := HBd.out.size
      generalize w.drew = wd at *
      refine wpAnyH_ready (rs := [13, 15]) (by kernel_rfl) (by simp) ?_
      refine AllReadyH.cons (o := ?oqa) ?hoqa (fun K' hK => ?_) (AllReadyH.cons (o := ?oqb) ?hoqb (fun K' hK => ?_) AllReadyH.nil)
      case hoqa => simp only [List.getElem?_toArray, List.getElem?_cons_zero, List.getElem?_cons_succ]; rfl
      case hoqb => simp only [List.getElem?_toArray, List.getElem?_cons_zero, List.getElem?_cons_succ]; rfl
      · go_simp
        refine (CC.out _ HBd.out).mono ?_
        rintro e w2 ⟨ev, rfl, how, hb2⟩
        obtain ⟨ba, bk, rfl⟩ : ∃ ba bk, ev = .slice ba events.length bk := by
          rcases how.2 with ⟨rfl, h0⟩ | ⟨g, cap, cur, rfl, _⟩
          · exact ⟨none, 0, by rw [h0]⟩
          · exact ⟨_, cap, rfl⟩
        have HB2 := Lib.hid (HBd.out.trans (hb2.mono hzd))
        have HOW2 := Lib.hid how
        have hz2 : w.heap.size ≤ w2.heap.size := HB2.out.size
        clear how hb2
        refine hK.out _ _ (MKS.out _ HB2.out) (fun hH1 => ?_)
        clear hK K'
        (try simp only [Act.put, List.setIfInBounds_toArray, List.set_cons_zero, List.set_cons_succ])
        refine wpAnyH_take (i := 14) (oi := ?ox14) (v := ?vx14) ?hix14 (by kernel_rfl) (by kernel_rfl) (by kernel_rfl) ?hQx14 ?hyx14 hH1 ?_
        case hix14 => simp only [List.getElem?_toArray, List.getElem?_cons_zero, List.getElem?_cons_succ]; rfl
        case hQx14 => exact fun _ _ _ h => h
        case hyx14 => refine Or.inl ⟨by rfl, ?_⟩; intro W hSw; (try dsimp only at hSw); go_simp; try with_reducible rfl
        simp only [Act.put, List.setIfInBounds_toArray, List.set_cons_zero, List.set_cons_succ]
        clear hH1
        refine wpAnyH_ready (rs := [15]) (by kernel_rfl) (by simp) ?_
        refine AllReadyH.cons (o := ?ow15) ?how15 (fun K' hK => ?_) AllReadyH.nil
        case how15 => simp only [List.getElem?_toArray, List.getElem?_cons_zero, List.getElem?_cons_succ]; rfl
        go_simp
        have GQ := Lib.hid (heap_alloc_new w2 (.cells #[.string ⟨#[]⟩, .int .i64 0, .int .i64 0, .int .i64 0, .slice none 0 0] 24))
        have hba := (Below.refl w2.heap.size w2).alloc (Nat.le_refl _) (.cells #[.string ⟨#[]⟩, .int .i64 0, .int .i64 0, .int .i64 0, .slice none 0 0] 24)
        have HBZ := Lib.hid (HB2.out.trans (hba.mono hz2))
        have HOW := Lib.hid (own_less hzd (own_below hba HOW2.out))
        have HNE := Lib.hid (show (Value.slice ba events.length bk).ownBlock ≠ some w2.heap.size from fun e => by have := (own_lt HOW2.out _ e).2; omega)
        clear hba
        generalize w2.alloc (.cells #[.string ⟨#[]⟩, .int .i64 0, .int .i64 0, .int .i64 0, .slice none 0 0] 24) = wz at *
        generalize hqq : w2.heap.size = q at *
        have hql := hz2
        clear hqq
        refine hK.out _ _ (MKS.out _ HBZ.out) (fun hH2 => ?_)
        clear hK K'
        (try simp only [Act.put, List.setIfInBounds_toArray, List.set_cons_zero, List.set_cons_succ])
        clear hH2
        have GQ' := GQ.out
        have y0 : wz.cell? ⟨q, 0, none⟩ = some (.string ⟨#[]⟩) := by rw [Lib.cell_of_heap GQ']; rfl
        have y1 : wz.cell? ⟨q, 1, none⟩ = some (.int .i64 0) := by rw [Lib.cell_of_heap GQ']; rfl
        have y2 : wz.cell? ⟨q, 2, none⟩ = some (.int .i64 0) := by rw [Lib.cell_of_heap GQ']; rfl
        have y3 : wz.cell? ⟨q, 3, none⟩ = some (.int .i64 0) := by rw [Lib.cell_of_heap GQ']; rfl
        have y4 : wz.cell? ⟨q, 4, none⟩ = some (.slice none 0 0) := by rw [Lib.cell_of_heap GQ']; rfl
        have fy0 : wz.frozen? ⟨q, 0, none⟩ = false := Lib.frozen_of_heap GQ' 0
        have fy1 : wz.frozen? ⟨q, 1, none⟩ = false := Lib.frozen_of_heap GQ' 1
        have fy2 : wz.frozen? ⟨q, 2, none⟩ = false := Lib.frozen_of_heap GQ' 2
        have fy3 : wz.frozen? ⟨q, 3, none⟩ = false := Lib.frozen_of_heap GQ' 3
        have fy4 : wz.frozen? ⟨q, 4, none⟩ = false := Lib.frozen_of_heap GQ' 4
        clear GQ'
        refine wpAnyH_ready (rs := [16]) (by kernel_rfl) (by simp) ?_
        refine AllReadyH.cons (o := ?ox16) ?hox16 (fun K' hK => ?_) AllReadyH.nil
        case hox16 => simp only [List.getElem?_toArray, List.getElem?_cons_zero, List.getElem?_cons_succ]; rfl
        go_simp
        have hbz := below_set5 HBZ.out q hql (.string stream) (.int .i64 expect) (.int .i64 R.s.session) (.int .i64 ((R.rs.length : Int) + 1)) (.slice ba events.length bk)
        refine hK.out _ _ (MKS.out _ hbz) (fun hH3 => ?_)
        clear hK K'
        (try simp only [Act.put, List.setIfInBounds_toArray, List.set_cons_zero, List.set_cons_succ])
        clear hH3
        refine wpAnyH_done (by kernel_rfl) ?_ _
        go_wp2
        go_meet
        case rel => exact ⟨q, ba, bk, rfl, hql, block_set5 GQ.out, own_set5 HOW.out q HNE.out _ _ _ _ _, hbz⟩
      · go_simp
        have GQ0 := Lib.hid (heap_alloc_new wd (.cells #[.string ⟨#[]⟩, .int .i64 0, .int .i64 0, .int .i64 0, .slice none 0 0] 24))
        have hba := (Below.refl wd.heap.size wd).alloc (Nat.le_refl _) (.cells #[.string ⟨#[]⟩, .int .i64 0, .int .i64 0, .int .i64 0, .slice none 0 0] 24)
        have HB1 := Lib.hid (HBd.out.trans (hba.mono hzd))
        have hq1 : wd.heap.size < (wd.alloc (.cells #[.string ⟨#[]⟩, .int .i64 0, .int .i64 0, .int .i64 0, .slice none 0 0] 24)).heap.size := (Array.getElem?_eq_some_iff.1 GQ0.out).1
        clear hba
        generalize wd.alloc (.cells #[.string ⟨#[]⟩, .int .i64 0, .int .i64 0, .int .i64 0, .slice none 0 0] 24) = w1 at *
        generalize hqq : wd.heap.size = q at *
        have hql := hzd
        clear hqq
        refine hK.out _ _ (MKS.out _ HB1.out) (fun hH1 => ?_)
        clear hK K'
        (try simp only [Act.put, List.setIfInBounds_toArray, List.set_cons_zero, List.set_cons_succ])
        clear hH1
        refine wpAnyH_ready (rs := [13]) (by kernel_rfl) (by simp) ?_
        refine AllReadyH.cons (o := ?ow13) ?how13 (fun K' hK => ?_) AllReadyH.nil
        case how13 => simp only [List.getElem?_toArray, List.getElem?_cons_zero, List.getElem?_cons_succ]; rfl
        go_simp
        refine (CC.out _ HB1.out).mono ?_
        rintro e wz ⟨ev, rfl, how, hb2⟩
        obtain ⟨ba, bk, rfl⟩ : ∃ ba bk, ev = .slice ba events.length bk := by
          rcases how.2 with ⟨rfl, h0⟩ | ⟨g, cap, cur, rfl, _⟩
          · exact ⟨none, 0, by rw [h0]⟩
          · exact ⟨_, cap, rfl⟩
        have HBZ := Lib.hid (HB1.out.trans (hb2.mono (by omega)))
        have GQ := Lib.hid ((hb2.block _ hq1).trans GQ0.out)
        have HOW := Lib.hid (own_less (show w.heap.size ≤ w1.heap.size by omega) how)
        have HNE := Lib.hid (show (Value.slice ba events.length bk).ownBlock ≠ some q from fun e => by have := (own_lt how _ e).1; omega)
        clear how hb2
        refine hK.out _ _ (MKS.out _ HBZ.out) (fun hH2 => ?_)
        clear hK K'
        (try simp only [Act.put, List.setIfInBounds_toArray, List.set_cons_zero, List.set_cons_succ])
        refine wpAnyH_take (i := 14) (oi := ?oy14) (v := ?vy14) ?hiy14 (by kernel_rfl) (by kernel_rfl) (by kernel_rfl) ?hQy14 ?hyy14 hH2 ?_
        case hiy14 => simp only [List.getElem?_toArray, List.getElem?_cons_zero, List.getElem?_cons_succ]; rfl
        case hQy14 => exact fun _ _ _ h => h
        case hyy14 => refine Or.inl ⟨by rfl, ?_⟩; intro W hSw; (try dsimp only at hSw); go_simp; try with_reducible rfl
        simp only [Act.put, List.setIfInBounds_toArray, List.set_cons_zero, List.set_cons_succ]
        clear hH2
        have GQ' := GQ.out
        have y0 : wz.cell? ⟨q, 0, none⟩ = some (.string ⟨#[]⟩) := by rw [Lib.cell_of_heap GQ']; rfl
        have y1 : wz.cell? ⟨q, 1, none⟩ = some (.int .i64 0) := by rw [Lib.cell_of_heap GQ']; rfl
        have y2 : wz.cell? ⟨q, 2, none⟩ = some (.int .i64 0) := by rw [Lib.cell_of_heap GQ']; rfl
        have y3 : wz.cell? ⟨q, 3, none⟩ = some (.int .i64 0) := by rw [Lib.cell_of_heap GQ']; rfl
        have y4 : wz.cell? ⟨q, 4, none⟩ = some (.slice none 0 0) := by rw [Lib.cell_of_heap GQ']; rfl
        have fy0 : wz.frozen? ⟨q, 0, none⟩ = false := Lib.frozen_of_heap GQ' 0
        have fy1 : wz.frozen? ⟨q, 1, none⟩ = false := Lib.frozen_of_heap GQ' 1
        have fy2 : wz.frozen? ⟨q, 2, none⟩ = false := Lib.frozen_of_heap GQ' 2
        have fy3 : wz.frozen? ⟨q, 3, none⟩ = false := Lib.frozen_of_heap GQ' 3
        have fy4 : wz.frozen? ⟨q, 4, none⟩ = false := Lib.frozen_of_heap GQ' 4
        clear GQ'
        refine wpAnyH_ready (rs := [16]) (by kernel_rfl) (by simp) ?_
        refine AllReadyH.cons (o := ?oy16) ?hoy16 (fun K' hK => ?_) AllReadyH.nil
        case hoy16 => simp only [List.getElem?_toArray, List.getElem?_cons_zero, List.getElem?_cons_succ]; rfl
        go_simp
        have hbz := below_set5 HBZ.out q hql (.string stream) (.int .i64 expect) (.int .i64 R.s.session) (.int .i64 ((R.rs.length : Int) + 1)) (.slice ba events.length bk)
        refine hK.out _ _ (MKS.out _ hbz) (fun hH3 => ?_)
        clear hK K'
        (try simp only [Act.put, List.setIfInBounds_toArray, List.set_cons_zero, List.set_cons_succ])
        clear hH3
        refine wpAnyH_done (by kernel_rfl) ?_ _
        go_wp2
        go_meet
        case rel => exact ⟨q, ba, bk, rfl, hql, block_set5 GQ.out, own_set5 HOW.out q HNE.out _ _ _ _ _, hbz⟩
    case rest =>
      obtain ⟨q, ba, bk, rfl, hql, hgq, how, hbx⟩ := hcut
      have hev : IsEvents wc.heap.size wc (.slice ba events.length bk) events := events_own how (by unfold maxLen; omega)
      have hib : IsBatch wc.heap.size wc (.agg #[.string stream, .int .i64 expect, .int .i64 R.s.session, .int .i64 ((R.rs.length : Int) + 1), .slice ba events.length bk]) b := by rw [HBE.out]; exact ⟨_, rfl, hev⟩
      have y0 : wc.cell? ⟨q, 0, none⟩ = some (.string stream) := by rw [Lib.cell_of_heap hgq]; rfl
      have y1 : wc.cell? ⟨q, 1, none⟩ = some (.int .i64 expect) := by rw [Lib.cell_of_heap hgq]; rfl
      have y2 : wc.cell? ⟨q, 2, none⟩ = some (.int .i64 R.s.session) := by rw [Lib.cell_of_heap hgq]; rfl
      have y3 : wc.cell? ⟨q, 3, none⟩ = some (.int .i64 ((R.rs.length : Int) + 1)) := by rw [Lib.cell_of_heap hgq]; rfl
      have y4 : wc.cell? ⟨q, 4, none⟩ = some (.slice ba events.length bk) := by rw [Lib.cell_of_heap hgq]; rfl
      have hTc := tabs_below HT.out hbx
      have CF := Lib.hid (fits_any wc.heap.size _ b fc HFC.out wc hib (Nat.le_refl _) hTc)
      have HGQ := Lib.hid hgq
      have HOW := Lib.hid how
      have HBX := Lib.hid hbx
      clear hev hib hgq how hbx hTc
      by_cases hf0 : fc = 0
      · subst hf0
        obtain ⟨rfl, rfl, rfl⟩ : beginS R.s { zeroOp with kind := 1, b := b } now = s' ∧ [askW (beginS R.s { zeroOp with kind := 1, b := b } now)] = outs ∧ 0 = err := by
          have h1 := HS.out
          rw [if_neg (by simp)] at h1
          exact ⟨congrArg (·.1) h1, congrArg (·.2.1) h1, congrArg (·.2.2) h1⟩
        go_wp2_with fail
        refine CF.out.mono ?_
        rintro e w2 ⟨rfl, hb2⟩
        have hqc : q < wc.heap.size := (Array.getElem?_eq_some_iff.1 HGQ.out).1
        have hgq2 := (hb2.block q hqc).trans HGQ.out
        have y0 : w2.cell? ⟨q, 0, none⟩ = some (.string stream) := by rw [Lib.cell_of_heap hgq2]; rfl
        have y1 : w2.cell? ⟨q, 1, none⟩ = some (.int .i64 expect) := by rw [Lib.cell_of_heap hgq2]; rfl
        have y2 : w2.cell? ⟨q, 2, none⟩ = some (.int .i64 R.s.session) := by rw [Lib.cell_of_heap hgq2]; rfl
        have y3 : w2.cell? ⟨q, 3, none⟩ = some (.int .i64 ((R.rs.length : Int) + 1)) := by rw [Lib.cell_of_heap hgq2]; rfl
        have y4 : w2.cell? ⟨q, 4, none⟩ = some (.slice ba events.length bk) := by rw [Lib.cell_of_heap hgq2]; rfl
        have HB2 := Lib.hid (HBX.out.trans (hb2.mono HBX.out.size))
        have hm2 := HH.out.keep HB2.out
        have how2 := own_below hb2 HOW.out
        have hev2 : EvA (fun k => R.mut c k ∨ X k) w2 (.slice ba events.length bk) events :=
          ⟨events_own how2 (by unfold maxLen; omega), fun _ k hk hu => by
            have h1 := (own_lt how2 k hk).1
            rcases hu with hu | hu
            · have := (HH.out.mutlo k hu).2; omega
            · have := HH.out.xlt k hu; omega⟩
        have CBG := Lib.hid (begin_any X lo c R w2 hm2 hm ⟨{ zeroOp with kind := 1, b := b }, .slice ba events.length bk, .slice none 0 0⟩ now (by rw [HBE.out]; exact hev2) (eva_nil _ _) _ rfl)
        clear hgq2 hm2 how2 hev2 hb2
        have hbs : b.stream = stream := by rw [HBE.out]
        have hbx : b.expect = expect := by rw [HBE.out]
        have hbn : b.session = R.s.session := by rw [HBE.out]
        have hbq : b.seq = (R.rs.length : Int) + 1 := by rw [HBE.out]
        simp only [zeroOp, zeroOut, hbs, hbx, hbn, hbq] at CBG
        clear hbs hbx hbn hbq
        go_wp2_with fail
        refine CBG.out.mono ?_
        rintro e w3 ⟨v, ov, rfl, hm3, hs3, ho3⟩
        have HM3 := Lib.hid hm3
        have HS3 := Lib.hid hs3
        have HO3 := Lib.hid ho3
        clear hm3 hs3 ho3
        go_wp2_with fail
        go_ret2
        exact ⟨v, rfl, does_begin (step_below HB2.out rfl) HM3.out HS3.out HO3.out _ (by simp only [OpR.begun, HH.out.len, zeroOp, zeroOut])⟩
      · obtain ⟨rfl, rfl, rfl⟩ : R.s = s' ∧ [] = outs ∧ fc = err := by
          have h1 := HS.out
          rw [if_pos hf0] at h1
          exact ⟨congrArg (·.1) h1, congrArg (·.2.1) h1, congrArg (·.2.2) h1⟩
        have g1 : ((fc : Int) != 0) = true := by rw [bne_iff_ne]; omega
        clear hf0
        go_wp2_with fail
        refine CF.out.mono ?_
        rintro e w2 ⟨rfl, hb2⟩
        go_wp2_with fail
        go_ret2
        exact ⟨_, rfl, does_none HH.out (HBX.out.trans (hb2.mono HBX.out.size))⟩
end Go.Proofs.YtapgjjfndbfnpaaDoor
