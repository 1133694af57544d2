/-
  The walk of bucketlinelaw12.TimerOnce.
-/
import Derived.Test.YtpadbkplknnopaaTmOpen
import Derived.Test.YtpadbkplknnopaaTmOnce
import Derived.Test.YtpadbkplknnopaaRegInv
namespace Go.Proofs.Ytpadbkplknnopaa
set_option linter.unusedSimpArgs false
set_option linter.unusedVariables false
open Go.RowKit

theorem own_set_ne {w : World} {b g o : Nat} {v x : Value} {l : List TM} (h : OwnT w b v l) (hne : v.ownBlock ≠ some g) : OwnT (w.setCell ⟨g, o, none⟩ x) b v l := by
  refine World.ownsRow.kept h (row := some g) ⟨rfl, rfl, rfl, by rw [World.size_setCell]; exact Nat.le_refl _, fun k _ hne => ?_⟩ (.inr hne)
  simp only [World.setCell]
  rw [Array.getElem?_modify, if_neg (fun e => hne (by rw [e]))]
set_option maxRecDepth 100000 in
set_option maxHeartbeats 6400000 in
theorem walkTimerOnce (v0 : Value) (n : ByteArray) (hn : n.size ≤ maxLen) (a : Int) (wa : (Lit.int .i64 a).wf = true) (b0 : Int) (wb : (Lit.int .i64 b0).wf = true) (w : World) (hv : ∃ l, IsActs w.heap.size w v0 l) :
    Calls Try.prog 6 #[v0, .string n, .int .i64 a, .int .i64 b0] w fun e w' => e = .returned (.bool true) ∧ Below w.heap.size w w' := by
  obtain ⟨l, hl⟩ := hv
  have HL := Lib.hid hl
  obtain ⟨la, lc, rfl⟩ := hl.form
  have HSH := Lib.hid (shown_any w)
  clear wa wb
  go_enter Try.func6, Try.ntmps6
  go_wp2_with fail
  refine HSH.out.mono ?_
  rintro e wa ⟨rfl, hba⟩
  have hzA := hba.size
  have HBA := Lib.hid hba
  have CM := Lib.hid (small_any w.heap.size _ l wa (hl.keep hba (Nat.le_refl _)))
  clear hl hba
  go_wp2_with fail
  refine CM.out.mono ?_
  rintro e w1 ⟨h, rfl⟩
  rcases h with rfl | ⟨rfl, hsm, _⟩
  · go_wp2_with fail
    go_ret
    exact ⟨rfl, HBA.out⟩
  · by_cases hgn : (100 : Int) < (n.size : Int)
    · go_wp2_with fail
      go_ret
      exact ⟨rfl, HBA.out⟩
    clear hn
    go_wp2_with fail
    have hst : (w1.alloc (.cells #[.slice none 0 0] 26)).heap[w1.heap.size]? = some (.cells #[.slice none 0 0] 26) := heap_alloc_new w1 _
    have hsb : Below w1.heap.size w1 (w1.alloc (.cells #[.slice none 0 0] 26)) := (Below.refl _ _).alloc (Nat.le_refl _) _
    generalize hp0 : w1.heap.size = p0 at *
    have HP0 := Lib.hid hp0
    have HST := Lib.hid hst
    have HSB := Lib.hid hsb
    clear hp0 hst hsb
    go_loopw [12] (fun t12 wr => ∃ (k : Nat) (L : List TM) (ta : Option Addr) (tc : Nat), k ≤ l.length ∧ t12 = .int .i64 k ∧ RightT L ∧ L.length ≤ 64 ∧ OwnT wr (p0 + 1) (.slice ta L.length tc) L ∧ wr.heap[p0]? = some (.cells #[.slice ta L.length tc] 26) ∧ Below p0 w1 wr) (fun t12 _ => l.length - (intOf t12).toNat)
    case atStart => exact ⟨0, [], none, 0, Nat.zero_le _, rfl, right_nil, by simp, ownt_nil _ _, HST.out, HSB.out⟩
    case round =>
      obtain ⟨k, L, ta, tc, hk, rfl, hR, hL, hown, hg0, hbl⟩ := hrel
      have hz0 : p0 < wr.heap.size := (Array.getElem?_eq_some_iff.1 hg0).1
      have y0 : wr.cell? ⟨p0, 0, none⟩ = some (.slice ta L.length tc) := by rw [Lib.cell_of_heap hg0]; rfl
      have HOWN := Lib.hid hown
      have HBL := Lib.hid hbl
      have G0 := Lib.hid hg0
      clear hown hbl hg0
      by_cases hlt : k < l.length
      · obtain ⟨b, off, q1, he, hbB, _, hc2, hc3⟩ := ((HL.out.keep HBA.out (Nat.le_refl _)).keep HBL.out (by omega)).get k hlt
        obtain ⟨rfl, -, rfl⟩ : la = some ⟨b, off, none⟩ ∧ l.length = l.length ∧ lc = q1 := by injection he with e1 e2 e3; exact ⟨e1, e2, e3⟩
        clear he
        obtain ⟨y, hy⟩ : ∃ y, l[k] = y := ⟨_, rfl⟩
        rw [hy] at hc2 hc3
        have i1 : (0 : Int) ≤ (k : Int) := by omega
        have i2 : (k : Int) < (l.length : Int) := by omega
        have MKS := Lib.hid (fun (X : World) (hX : Below (p0 + 1) wr X) => (show (fun X => X.cell? ⟨p0, 0, none⟩ = some (.slice ta L.length tc) ∧ X.cell? ⟨b, off + k * 3 + 1, none⟩ = some (.int .i64 y.at_) ∧ X.cell? ⟨b, off + k * 3 + 2, none⟩ = some (.string y.name)) X from ⟨(hX.cell (p := ⟨p0, 0, none⟩) (by simp only; omega)).trans y0, (hX.cell (p := ⟨b, off + k * 3 + 1, none⟩) (by simp only; omega)).trans hc2, (hX.cell (p := ⟨b, off + k * 3 + 2, none⟩) (by simp only; omega)).trans hc3⟩))
        have HZW : p0 + 1 ≤ wr.heap.size := hz0
        clear hy
        obtain ⟨L1, hL1e⟩ : ∃ L1, setOf y.name y.at_ L = L1 := ⟨_, rfl⟩
        have hR1 : RightT L1 := by rw [← hL1e]; exact setOf_right hR
        have hL1 : L1.length ≤ 64 := by rw [← hL1e]; exact setOf_len hL
        by_cases hf : fullT y.name L = true
        · have CS := Lib.hid (fun (X : World) (b : Nat) (v : Value) (h : OwnT X b v L) => (by have h2 := set_any y.name y.at_ hR hL h; rw [hL1e, setErr, if_pos hf] at h2; exact h2))
          clear hL1e hf
          go_wp2_with fail
          refine region_begin (S := fun X => X.cell? ⟨p0, 0, none⟩ = some (.slice ta L.length tc) ∧ X.cell? ⟨b, off + k * 3 + 1, none⟩ = some (.int .i64 y.at_) ∧ X.cell? ⟨b, off + k * 3 + 2, none⟩ = some (.string y.name)) 18 rfl (by kernel_rfl) (MKS.out _ (Below.refl _ _).drew) (fun hH0 => ?_)
          refine wpAnyH_take (i := 0) (oi := ?os0F) (v := ?vs0F) ?his0F (by kernel_rfl) (by kernel_rfl) (by kernel_rfl) ?hQs0F ?hys0F hH0 ?_
          case his0F => simp only [List.getElem?_toArray, List.getElem?_cons_zero]; rfl
          case hQs0F => exact fun _ _ _ h => h
          case hys0F => refine Or.inl ⟨by rfl, ?_⟩; intro W hSw; (try dsimp only at hSw); go_simp; try with_reducible rfl
          simp only [Act.put, List.setIfInBounds_toArray, List.set_cons_zero]
          refine wpAnyH_take (i := 1) (oi := ?os1F) (v := ?vs1F) ?his1F (by kernel_rfl) (by kernel_rfl) (by kernel_rfl) ?hQs1F ?hys1F hH0 ?_
          case his1F => simp only [List.getElem?_toArray, List.getElem?_cons_zero, List.getElem?_cons_succ]; rfl
          case hQs1F => exact fun _ _ _ h => h
          case hys1F => refine Or.inl ⟨by rfl, ?_⟩; intro W hSw; (try dsimp only at hSw); go_simp; try with_reducible rfl
          simp only [Act.put, List.setIfInBounds_toArray, List.set_cons_zero, List.set_cons_succ]
          refine wpAnyH_take (i := 2) (oi := ?os2F) (v := ?vs2F) ?his2F (by kernel_rfl) (by kernel_rfl) (by kernel_rfl) ?hQs2F ?hys2F hH0 ?_
          case his2F => simp only [List.getElem?_toArray, List.getElem?_cons_zero, List.getElem?_cons_succ]; rfl
          case hQs2F => exact fun _ _ _ h => h
          case hys2F => refine Or.inl ⟨by rfl, ?_⟩; intro W hSw; (try dsimp only at hSw); go_simp; try with_reducible rfl
          simp only [Act.put, List.setIfInBounds_toArray, List.set_cons_zero, List.set_cons_succ]
          refine wpAnyH_take (i := 3) (oi := ?os3F) (v := ?vs3F) ?his3F (by kernel_rfl) (by kernel_rfl) (by kernel_rfl) ?hQs3F ?hys3F hH0 ?_
          case his3F => simp only [List.getElem?_toArray, List.getElem?_cons_zero, List.getElem?_cons_succ]; rfl
          case hQs3F => exact fun _ _ _ h => h
          case hys3F => refine Or.inl ⟨by rfl, ?_⟩; intro W hSw; (try dsimp only at hSw); go_simp; try with_reducible rfl
          simp only [Act.put, List.setIfInBounds_toArray, List.set_cons_zero, List.set_cons_succ]
          refine wpAnyH_take (i := 4) (oi := ?os4F) (v := ?vs4F) ?his4F (by kernel_rfl) (by kernel_rfl) (by kernel_rfl) ?hQs4F ?hys4F hH0 ?_
          case his4F => simp only [List.getElem?_toArray, List.getElem?_cons_zero, List.getElem?_cons_succ]; rfl
          case hQs4F => exact fun _ _ _ h => h
          case hys4F => refine Or.inl ⟨by rfl, ?_⟩; intro W hSw; (try dsimp only at hSw); go_simp; try with_reducible rfl
          simp only [Act.put, List.setIfInBounds_toArray, List.set_cons_zero, List.set_cons_succ]
          refine wpAnyH_take (i := 5) (oi := ?os5F) (v := ?vs5F) ?his5F (by kernel_rfl) (by kernel_rfl) (by kernel_rfl) ?hQs5F ?hys5F hH0 ?_
          case his5F => simp only [List.getElem?_toArray, List.getElem?_cons_zero, List.getElem?_cons_succ]; rfl
          case hQs5F => exact fun _ _ _ h => h
          case hys5F => refine Or.inl ⟨by rfl, ?_⟩; intro W hSw; (try dsimp only at hSw); go_simp; try with_reducible rfl
          simp only [Act.put, List.setIfInBounds_toArray, List.set_cons_zero, List.set_cons_succ]
          refine wpAnyH_take (i := 6) (oi := ?os6F) (v := ?vs6F) ?his6F (by kernel_rfl) (by kernel_rfl) (by kernel_rfl) ?hQs6F ?hys6F hH0 ?_
          case his6F => simp only [List.getElem?_toArray, List.getElem?_cons_zero, List.getElem?_cons_succ]; rfl
          case hQs6F => exact fun _ _ _ h => h
          case hys6F => refine Or.inl ⟨by rfl, ?_⟩; intro W hSw; (try dsimp only at hSw); go_simp; try with_reducible rfl
          simp only [Act.put, List.setIfInBounds_toArray, List.set_cons_zero, List.set_cons_succ]
          refine wpAnyH_take (i := 7) (oi := ?os7F) (v := ?vs7F) ?his7F (by kernel_rfl) (by kernel_rfl) (by kernel_rfl) ?hQs7F ?hys7F hH0 ?_
          case his7F => simp only [List.getElem?_toArray, List.getElem?_cons_zero, List.getElem?_cons_succ]; rfl
          case hQs7F => exact fun _ _ _ h => h
          case hys7F => refine Or.inl ⟨by rfl, ?_⟩; intro W hSw; (try dsimp only at hSw); go_simp; try with_reducible rfl
          simp only [Act.put, List.setIfInBounds_toArray, List.set_cons_zero, List.set_cons_succ]
          refine wpAnyH_take (i := 8) (oi := ?os8F) (v := ?vs8F) ?his8F (by kernel_rfl) (by kernel_rfl) (by kernel_rfl) ?hQs8F ?hys8F hH0 ?_
          case his8F => simp only [List.getElem?_toArray, List.getElem?_cons_zero, List.getElem?_cons_succ]; rfl
          case hQs8F => exact fun _ _ _ h => h
          case hys8F => refine Or.inl ⟨by rfl, ?_⟩; intro W hSw; (try dsimp only at hSw); go_simp; try with_reducible rfl
          simp only [Act.put, List.setIfInBounds_toArray, List.set_cons_zero, List.set_cons_succ]
          refine wpAnyH_take (i := 9) (oi := ?os9F) (v := ?vs9F) ?his9F (by kernel_rfl) (by kernel_rfl) (by kernel_rfl) ?hQs9F ?hys9F hH0 ?_
          case his9F => simp only [List.getElem?_toArray, List.getElem?_cons_zero, List.getElem?_cons_succ]; rfl
          case hQs9F => exact fun _ _ _ h => h
          case hys9F => refine Or.inl ⟨by rfl, ?_⟩; intro W hSw; (try dsimp only at hSw); go_simp; try with_reducible rfl
          simp only [Act.put, List.setIfInBounds_toArray, List.set_cons_zero, List.set_cons_succ]
          refine wpAnyH_take (i := 10) (oi := ?os10F) (v := ?vs10F) ?his10F (by kernel_rfl) (by kernel_rfl) (by kernel_rfl) ?hQs10F ?hys10F hH0 ?_
          case his10F => simp only [List.getElem?_toArray, List.getElem?_cons_zero, List.getElem?_cons_succ]; rfl
          case hQs10F => exact fun _ _ _ h => h
          case hys10F => refine Or.inl ⟨by rfl, ?_⟩; intro W hSw; (try dsimp only at hSw); go_simp; try with_reducible rfl
          simp only [Act.put, List.setIfInBounds_toArray, List.set_cons_zero, List.set_cons_succ]
          clear hH0
          have hwd : Below wr.heap.size wr wr.drew := (Below.refl _ _).drew
          have hsw : wr.drew.heap.size = wr.heap.size := rfl
          have HWD := Lib.hid hwd
          have HSW := Lib.hid hsw
          generalize wr.drew = w0 at *
          have HO0 := Lib.hid (OwnT.keep HOWN.out HWD.out)
          clear hwd hsw
          refine wpAnyH_ready (rs := [11, 15]) (by kernel_rfl) (by simp) ?_
          refine AllReadyH.cons (o := ?otwFa) ?hotwFa (fun K' hK => ?_) (AllReadyH.cons (o := ?otwFb) ?hotwFb (fun K' hK => ?_) AllReadyH.nil)
          case hotwFa => simp only [List.getElem?_toArray, List.getElem?_cons_zero, List.getElem?_cons_succ]; rfl
          case hotwFb => simp only [List.getElem?_toArray, List.getElem?_cons_zero, List.getElem?_cons_succ]; rfl
          · go_simp
            refine (CS.out w0 _ _ HO0.out).mono ?_
            rintro e w1 ⟨a1, c1, rfl, ho1, hb1⟩
            have hbw1 : Below wr.heap.size wr w1 := HWD.out.trans (hb1.mono (by have := HSW.out; omega))
            have hz1 : wr.heap.size ≤ w1.heap.size := hbw1.size
            have HBW1 := Lib.hid hbw1
            have HO1 := Lib.hid ho1
            clear ho1 hb1 hbw1
            refine hK.out _ _ (MKS.out _ (HBW1.out.mono (by omega))) (fun hHa => ?_)
            clear hK K'
            (try simp only [Act.put, List.setIfInBounds_toArray, List.set_cons_zero, List.set_cons_succ])
            refine wpAnyH_take (i := 12) (oi := ?oc12Fa) (v := ?vc12Fa) ?hic12Fa (by kernel_rfl) (by kernel_rfl) (by kernel_rfl) ?hQc12Fa ?hyc12Fa hHa ?_
            case hic12Fa => simp only [List.getElem?_toArray, List.getElem?_cons_zero, List.getElem?_cons_succ]; rfl
            case hQc12Fa => exact fun _ _ _ h => h
            case hyc12Fa => refine Or.inl ⟨by rfl, ?_⟩; intro W hSw; (try dsimp only at hSw); go_simp; try with_reducible rfl
            simp only [Act.put, List.setIfInBounds_toArray, List.set_cons_zero, List.set_cons_succ]
            refine wpAnyH_take (i := 13) (oi := ?oc13Fa) (v := ?vc13Fa) ?hic13Fa (by kernel_rfl) (by kernel_rfl) (by kernel_rfl) ?hQc13Fa ?hyc13Fa hHa ?_
            case hic13Fa => simp only [List.getElem?_toArray, List.getElem?_cons_zero, List.getElem?_cons_succ]; rfl
            case hQc13Fa => exact fun _ _ _ h => h
            case hyc13Fa => refine Or.inl ⟨by rfl, ?_⟩; intro W hSw; (try dsimp only at hSw); go_simp; try with_reducible rfl
            simp only [Act.put, List.setIfInBounds_toArray, List.set_cons_zero, List.set_cons_succ]
            refine wpAnyH_take (i := 14) (oi := ?oc14Fa) (v := ?vc14Fa) ?hic14Fa (by kernel_rfl) (by kernel_rfl) (by kernel_rfl) ?hQc14Fa ?hyc14Fa hHa ?_
            case hic14Fa => simp only [List.getElem?_toArray, List.getElem?_cons_zero, List.getElem?_cons_succ]; rfl
            case hQc14Fa => exact fun _ _ _ h => h
            case hyc14Fa => refine Or.inl ⟨by rfl, ?_⟩; intro W hSw; (try dsimp only at hSw); go_simp; try with_reducible rfl
            simp only [Act.put, List.setIfInBounds_toArray, List.set_cons_zero, List.set_cons_succ]
            clear hHa
            refine wpAnyH_ready (rs := [15]) (by kernel_rfl) (by simp) ?_
            refine AllReadyH.cons (o := ?oalFa) ?hoalFa (fun K' hK => ?_) AllReadyH.nil
            case hoalFa => simp only [List.getElem?_toArray, List.getElem?_cons_zero, List.getElem?_cons_succ]; rfl
            go_simp
            have hx1 : (w1.alloc (.cells #[.slice none 0 0] 26)).heap[w1.heap.size]? = some (.cells #[.slice none 0 0] 26) := heap_alloc_new _ _
            have HBR := Lib.hid (HBW1.out.alloc hz1 (.cells #[.slice none 0 0] 26))
            have HBX := Lib.hid ((HBW1.out.alloc hz1 (.cells #[.slice none 0 0] 26)).mono (show p0 + 1 ≤ wr.heap.size by omega))
            have HOX := Lib.hid (show OwnT (w1.alloc (.cells #[.slice none 0 0] 26)) w0.heap.size (.slice a1 L1.length c1) L1 from OwnT.keep HO1.out ((Below.refl w1.heap.size w1).alloc (Nat.le_refl _) _))
            have HNB := Lib.hid (show (Value.slice a1 L1.length c1).ownBlock ≠ some w1.heap.size from fun e => by have := (World.ownsRow.lt HO1.out _ e).2; omega)
            obtain ⟨ug, hug⟩ : ∃ ug, ug = w1.heap.size := ⟨_, rfl⟩
            rw [← hug] at hx1 HNB ⊢
            have hup : p0 < ug := by omega
            have huw : wr.heap.size ≤ ug := by omega
            clear hug
            refine hK.out _ _ (MKS.out _ HBX.out) (fun hHb => ?_)
            clear hK K'
            (try simp only [Act.put, List.setIfInBounds_toArray, List.set_cons_zero, List.set_cons_succ])
            clear hHb
            generalize w1.alloc (.cells #[.slice none 0 0] 26) = wx at *
            have HGX := Lib.hid hx1
            have cx : wx.cell? ⟨ug, 0, none⟩ = some (.slice none 0 0) := by rw [Lib.cell_of_heap hx1]; rfl
            have fx : wx.frozen? ⟨ug, 0, none⟩ = false := Lib.frozen_of_heap hx1 0
            clear hx1
            refine wpAnyH_ready (rs := [16]) (by kernel_rfl) (by simp) ?_
            refine AllReadyH.cons (o := ?ostFa) ?hostFa (fun K' hK => ?_) AllReadyH.nil
            case hostFa => simp only [List.getElem?_toArray, List.getElem?_cons_zero, List.getElem?_cons_succ]; rfl
            go_simp
            refine hK.out _ _ (MKS.out _ (HBX.out.setCell (p := ⟨ug, 0, none⟩) (by simp only; omega) (.slice a1 L1.length c1))) (fun hHs => ?_)
            clear hK K'
            (try simp only [Act.put, List.setIfInBounds_toArray, List.set_cons_zero, List.set_cons_succ])
            refine wpAnyH_take (i := 17) (oi := ?oasFa) (v := ?vasFa) ?hiasFa (by kernel_rfl) (by kernel_rfl) (by kernel_rfl) ?hQasFa ?hyasFa hHs ?_
            case hiasFa => simp only [List.getElem?_toArray, List.getElem?_cons_zero, List.getElem?_cons_succ]; rfl
            case hQasFa => exact fun _ _ _ h => h
            case hyasFa => refine Or.inl ⟨by rfl, ?_⟩; intro W hSw; (try dsimp only at hSw); go_simp; try with_reducible rfl
            simp only [Act.put, List.setIfInBounds_toArray, List.set_cons_zero, List.set_cons_succ]
            clear hHs
            refine wpAnyH_done (by kernel_rfl) ?_ _
            have HO9 := Lib.hid (show OwnT (wx.setCell ⟨ug, 0, none⟩ (.slice a1 L1.length c1)) (p0 + 1) (.slice a1 L1.length c1) L1 from (own_set_ne HOX.out HNB.out).less (by have := HSW.out; omega))
            have hg9 := blk_set HGX.out 0 (.slice a1 L1.length c1)
            have HB9 := Lib.hid (HBX.out.setCell (p := ⟨ug, 0, none⟩) (by simp only; omega) (.slice a1 L1.length c1))
            have hz9 : p0 + 1 ≤ (wx.setCell ⟨ug, 0, none⟩ (.slice a1 L1.length c1)).heap.size := by rw [World.size_setCell]; have := HBX.out.size; omega
            have HBW9 := Lib.hid (HBR.out.setCell (p := ⟨ug, 0, none⟩) (by simp only; omega) (.slice a1 L1.length c1))
            generalize wx.setCell ⟨ug, 0, none⟩ (.slice a1 L1.length c1) = w9 at *
            have HG9 := Lib.hid hg9
            have g0 := (HB9.out.block p0 (by omega)).trans G0.out
            have G9 := Lib.hid g0
            have y9 : w9.cell? ⟨p0, 0, none⟩ = some (.slice ta L.length tc) := by rw [Lib.cell_of_heap g0]; rfl
            have f9 : w9.frozen? ⟨p0, 0, none⟩ = false := Lib.frozen_of_heap g0 0
            have u9 : w9.cell? ⟨ug, 0, none⟩ = some (.slice a1 L1.length c1) := by rw [Lib.cell_of_heap hg9]; rfl
            clear hg9 g0 cx fx
            go_wp2_with fail
            go_roundw
            case rel => exact ⟨k + 1, L, ta, tc, by omega, by go_num, hR, hL, OwnT.keep HOWN.out HBW9.out, G9.out, HBL.out.trans (HB9.out.mono (by omega))⟩
            case measure => simp [intOf]; omega
          · go_simp
            have hx1 : (w0.alloc (.cells #[.slice none 0 0] 26)).heap[w0.heap.size]? = some (.cells #[.slice none 0 0] 26) := heap_alloc_new _ _
            have hz0 : wr.heap.size ≤ w0.heap.size := by have := HSW.out; omega
            have HBR0 := Lib.hid (HWD.out.alloc hz0 (.cells #[.slice none 0 0] 26))
            have HOX0 := Lib.hid (OwnT.keep HO0.out ((Below.refl w0.heap.size w0).alloc (Nat.le_refl _) (.cells #[.slice none 0 0] 26)))
            have hsz0 : (w0.alloc (.cells #[.slice none 0 0] 26)).heap.size = w0.heap.size + 1 := by rw [World.size_alloc]
            obtain ⟨ug, hug⟩ : ∃ ug, ug = w0.heap.size := ⟨_, rfl⟩
            rw [← hug] at hx1 hsz0 ⊢
            have hup : p0 < ug := by omega
            have huw : wr.heap.size ≤ ug := by omega
            clear hug
            refine hK.out _ _ (MKS.out _ (HBR0.out.mono (by omega))) (fun hHa => ?_)
            clear hK K'
            (try simp only [Act.put, List.setIfInBounds_toArray, List.set_cons_zero, List.set_cons_succ])
            clear hHa
            generalize w0.alloc (.cells #[.slice none 0 0] 26) = w1 at *
            have hugl : ug < w1.heap.size := by omega
            have HGX0 := Lib.hid hx1
            clear hx1 hsz0
            refine wpAnyH_ready (rs := [11]) (by kernel_rfl) (by simp) ?_
            refine AllReadyH.cons (o := ?ocaFb) ?hocaFb (fun K' hK => ?_) AllReadyH.nil
            case hocaFb => simp only [List.getElem?_toArray, List.getElem?_cons_zero, List.getElem?_cons_succ]; rfl
            go_simp
            refine (CS.out w1 _ _ HOX0.out).mono ?_
            rintro e wx ⟨a1, c1, rfl, ho1, hb1⟩
            have HBR := Lib.hid (HBR0.out.trans (hb1.mono (by omega)))
            have HBX := Lib.hid ((HBR0.out.trans (hb1.mono (show wr.heap.size ≤ w1.heap.size by omega))).mono (show p0 + 1 ≤ wr.heap.size by omega))
            have hx1 := (hb1.block ug hugl).trans HGX0.out
            have HOX := Lib.hid (show OwnT wx w1.heap.size (.slice a1 L1.length c1) L1 from ho1)
            have HGX := Lib.hid hx1
            have cx : wx.cell? ⟨ug, 0, none⟩ = some (.slice none 0 0) := by rw [Lib.cell_of_heap hx1]; rfl
            have fx : wx.frozen? ⟨ug, 0, none⟩ = false := Lib.frozen_of_heap hx1 0
            clear ho1 hb1 hx1
            refine hK.out _ _ (MKS.out _ HBX.out) (fun hHb => ?_)
            clear hK K'
            (try simp only [Act.put, List.setIfInBounds_toArray, List.set_cons_zero, List.set_cons_succ])
            refine wpAnyH_take (i := 12) (oi := ?oc12Fb) (v := ?vc12Fb) ?hic12Fb (by kernel_rfl) (by kernel_rfl) (by kernel_rfl) ?hQc12Fb ?hyc12Fb hHb ?_
            case hic12Fb => simp only [List.getElem?_toArray, List.getElem?_cons_zero, List.getElem?_cons_succ]; rfl
            case hQc12Fb => exact fun _ _ _ h => h
            case hyc12Fb => refine Or.inl ⟨by rfl, ?_⟩; intro W hSw; (try dsimp only at hSw); go_simp; try with_reducible rfl
            simp only [Act.put, List.setIfInBounds_toArray, List.set_cons_zero, List.set_cons_succ]
            refine wpAnyH_take (i := 13) (oi := ?oc13Fb) (v := ?vc13Fb) ?hic13Fb (by kernel_rfl) (by kernel_rfl) (by kernel_rfl) ?hQc13Fb ?hyc13Fb hHb ?_
            case hic13Fb => simp only [List.getElem?_toArray, List.getElem?_cons_zero, List.getElem?_cons_succ]; rfl
            case hQc13Fb => exact fun _ _ _ h => h
            case hyc13Fb => refine Or.inl ⟨by rfl, ?_⟩; intro W hSw; (try dsimp only at hSw); go_simp; try with_reducible rfl
            simp only [Act.put, List.setIfInBounds_toArray, List.set_cons_zero, List.set_cons_succ]
            refine wpAnyH_take (i := 14) (oi := ?oc14Fb) (v := ?vc14Fb) ?hic14Fb (by kernel_rfl) (by kernel_rfl) (by kernel_rfl) ?hQc14Fb ?hyc14Fb hHb ?_
            case hic14Fb => simp only [List.getElem?_toArray, List.getElem?_cons_zero, List.getElem?_cons_succ]; rfl
            case hQc14Fb => exact fun _ _ _ h => h
            case hyc14Fb => refine Or.inl ⟨by rfl, ?_⟩; intro W hSw; (try dsimp only at hSw); go_simp; try with_reducible rfl
            simp only [Act.put, List.setIfInBounds_toArray, List.set_cons_zero, List.set_cons_succ]
            clear hHb
            refine wpAnyH_ready (rs := [16]) (by kernel_rfl) (by simp) ?_
            refine AllReadyH.cons (o := ?ostFb) ?hostFb (fun K' hK => ?_) AllReadyH.nil
            case hostFb => simp only [List.getElem?_toArray, List.getElem?_cons_zero, List.getElem?_cons_succ]; rfl
            go_simp
            refine hK.out _ _ (MKS.out _ (HBX.out.setCell (p := ⟨ug, 0, none⟩) (by simp only; omega) (.slice a1 L1.length c1))) (fun hHs => ?_)
            clear hK K'
            (try simp only [Act.put, List.setIfInBounds_toArray, List.set_cons_zero, List.set_cons_succ])
            refine wpAnyH_take (i := 17) (oi := ?oasFb) (v := ?vasFb) ?hiasFb (by kernel_rfl) (by kernel_rfl) (by kernel_rfl) ?hQasFb ?hyasFb hHs ?_
            case hiasFb => simp only [List.getElem?_toArray, List.getElem?_cons_zero, List.getElem?_cons_succ]; rfl
            case hQasFb => exact fun _ _ _ h => h
            case hyasFb => refine Or.inl ⟨by rfl, ?_⟩; intro W hSw; (try dsimp only at hSw); go_simp; try with_reducible rfl
            simp only [Act.put, List.setIfInBounds_toArray, List.set_cons_zero, List.set_cons_succ]
            clear hHs
            refine wpAnyH_done (by kernel_rfl) ?_ _
            have HO9 := Lib.hid (show OwnT (wx.setCell ⟨ug, 0, none⟩ (.slice a1 L1.length c1)) (p0 + 1) (.slice a1 L1.length c1) L1 from (OwnT.set HOX.out (by omega)).less (by omega))
            have hg9 := blk_set HGX.out 0 (.slice a1 L1.length c1)
            have HB9 := Lib.hid (HBX.out.setCell (p := ⟨ug, 0, none⟩) (by simp only; omega) (.slice a1 L1.length c1))
            have hz9 : p0 + 1 ≤ (wx.setCell ⟨ug, 0, none⟩ (.slice a1 L1.length c1)).heap.size := by rw [World.size_setCell]; have := HBX.out.size; omega
            have HBW9 := Lib.hid (HBR.out.setCell (p := ⟨ug, 0, none⟩) (by simp only; omega) (.slice a1 L1.length c1))
            generalize wx.setCell ⟨ug, 0, none⟩ (.slice a1 L1.length c1) = w9 at *
            have HG9 := Lib.hid hg9
            have g0 := (HB9.out.block p0 (by omega)).trans G0.out
            have G9 := Lib.hid g0
            have y9 : w9.cell? ⟨p0, 0, none⟩ = some (.slice ta L.length tc) := by rw [Lib.cell_of_heap g0]; rfl
            have f9 : w9.frozen? ⟨p0, 0, none⟩ = false := Lib.frozen_of_heap g0 0
            have u9 : w9.cell? ⟨ug, 0, none⟩ = some (.slice a1 L1.length c1) := by rw [Lib.cell_of_heap hg9]; rfl
            clear hg9 g0 cx fx
            go_wp2_with fail
            go_roundw
            case rel => exact ⟨k + 1, L, ta, tc, by omega, by go_num, hR, hL, OwnT.keep HOWN.out HBW9.out, G9.out, HBL.out.trans (HB9.out.mono (by omega))⟩
            case measure => simp [intOf]; omega
        · have CS := Lib.hid (fun (X : World) (b : Nat) (v : Value) (h : OwnT X b v L) => (by have h2 := set_any y.name y.at_ hR hL h; rw [hL1e, setErr, if_neg hf] at h2; exact h2))
          clear hL1e hf
          go_wp2_with fail
          refine region_begin (S := fun X => X.cell? ⟨p0, 0, none⟩ = some (.slice ta L.length tc) ∧ X.cell? ⟨b, off + k * 3 + 1, none⟩ = some (.int .i64 y.at_) ∧ X.cell? ⟨b, off + k * 3 + 2, none⟩ = some (.string y.name)) 18 rfl (by kernel_rfl) (MKS.out _ (Below.refl _ _).drew) (fun hH0 => ?_)
          refine wpAnyH_take (i := 0) (oi := ?os0G) (v := ?vs0G) ?his0G (by kernel_rfl) (by kernel_rfl) (by kernel_rfl) ?hQs0G ?hys0G hH0 ?_
          case his0G => simp only [List.getElem?_toArray, List.getElem?_cons_zero]; rfl
          case hQs0G => exact fun _ _ _ h => h
          case hys0G => refine Or.inl ⟨by rfl, ?_⟩; intro W hSw; (try dsimp only at hSw); go_simp; try with_reducible rfl
          simp only [Act.put, List.setIfInBounds_toArray, List.set_cons_zero]
          refine wpAnyH_take (i := 1) (oi := ?os1G) (v := ?vs1G) ?his1G (by kernel_rfl) (by kernel_rfl) (by kernel_rfl) ?hQs1G ?hys1G hH0 ?_
          case his1G => simp only [List.getElem?_toArray, List.getElem?_cons_zero, List.getElem?_cons_succ]; rfl
          case hQs1G => exact fun _ _ _ h => h
          case hys1G => refine Or.inl ⟨by rfl, ?_⟩; intro W hSw; (try dsimp only at hSw); go_simp; try with_reducible rfl
          simp only [Act.put, List.setIfInBounds_toArray, List.set_cons_zero, List.set_cons_succ]
          refine wpAnyH_take (i := 2) (oi := ?os2G) (v := ?vs2G) ?his2G (by kernel_rfl) (by kernel_rfl) (by kernel_rfl) ?hQs2G ?hys2G hH0 ?_
          case his2G => simp only [List.getElem?_toArray, List.getElem?_cons_zero, List.getElem?_cons_succ]; rfl
          case hQs2G => exact fun _ _ _ h => h
          case hys2G => refine Or.inl ⟨by rfl, ?_⟩; intro W hSw; (try dsimp only at hSw); go_simp; try with_reducible rfl
          simp only [Act.put, List.setIfInBounds_toArray, List.set_cons_zero, List.set_cons_succ]
          refine wpAnyH_take (i := 3) (oi := ?os3G) (v := ?vs3G) ?his3G (by kernel_rfl) (by kernel_rfl) (by kernel_rfl) ?hQs3G ?hys3G hH0 ?_
          case his3G => simp only [List.getElem?_toArray, List.getElem?_cons_zero, List.getElem?_cons_succ]; rfl
          case hQs3G => exact fun _ _ _ h => h
          case hys3G => refine Or.inl ⟨by rfl, ?_⟩; intro W hSw; (try dsimp only at hSw); go_simp; try with_reducible rfl
          simp only [Act.put, List.setIfInBounds_toArray, List.set_cons_zero, List.set_cons_succ]
          refine wpAnyH_take (i := 4) (oi := ?os4G) (v := ?vs4G) ?his4G (by kernel_rfl) (by kernel_rfl) (by kernel_rfl) ?hQs4G ?hys4G hH0 ?_
          case his4G => simp only [List.getElem?_toArray, List.getElem?_cons_zero, List.getElem?_cons_succ]; rfl
          case hQs4G => exact fun _ _ _ h => h
          case hys4G => refine Or.inl ⟨by rfl, ?_⟩; intro W hSw; (try dsimp only at hSw); go_simp; try with_reducible rfl
          simp only [Act.put, List.setIfInBounds_toArray, List.set_cons_zero, List.set_cons_succ]
          refine wpAnyH_take (i := 5) (oi := ?os5G) (v := ?vs5G) ?his5G (by kernel_rfl) (by kernel_rfl) (by kernel_rfl) ?hQs5G ?hys5G hH0 ?_
          case his5G => simp only [List.getElem?_toArray, List.getElem?_cons_zero, List.getElem?_cons_succ]; rfl
          case hQs5G => exact fun _ _ _ h => h
          case hys5G => refine Or.inl ⟨by rfl, ?_⟩; intro W hSw; (try dsimp only at hSw); go_simp; try with_reducible rfl
          simp only [Act.put, List.setIfInBounds_toArray, List.set_cons_zero, List.set_cons_succ]
          refine wpAnyH_take (i := 6) (oi := ?os6G) (v := ?vs6G) ?his6G (by kernel_rfl) (by kernel_rfl) (by kernel_rfl) ?hQs6G ?hys6G hH0 ?_
          case his6G => simp only [List.getElem?_toArray, List.getElem?_cons_zero, List.getElem?_cons_succ]; rfl
          case hQs6G => exact fun _ _ _ h => h
          case hys6G => refine Or.inl ⟨by rfl, ?_⟩; intro W hSw; (try dsimp only at hSw); go_simp; try with_reducible rfl
          simp only [Act.put, List.setIfInBounds_toArray, List.set_cons_zero, List.set_cons_succ]
          refine wpAnyH_take (i := 7) (oi := ?os7G) (v := ?vs7G) ?his7G (by kernel_rfl) (by kernel_rfl) (by kernel_rfl) ?hQs7G ?hys7G hH0 ?_
          case his7G => simp only [List.getElem?_toArray, List.getElem?_cons_zero, List.getElem?_cons_succ]; rfl
          case hQs7G => exact fun _ _ _ h => h
          case hys7G => refine Or.inl ⟨by rfl, ?_⟩; intro W hSw; (try dsimp only at hSw); go_simp; try with_reducible rfl
          simp only [Act.put, List.setIfInBounds_toArray, List.set_cons_zero, List.set_cons_succ]
          refine wpAnyH_take (i := 8) (oi := ?os8G) (v := ?vs8G) ?his8G (by kernel_rfl) (by kernel_rfl) (by kernel_rfl) ?hQs8G ?hys8G hH0 ?_
          case his8G => simp only [List.getElem?_toArray, List.getElem?_cons_zero, List.getElem?_cons_succ]; rfl
          case hQs8G => exact fun _ _ _ h => h
          case hys8G => refine Or.inl ⟨by rfl, ?_⟩; intro W hSw; (try dsimp only at hSw); go_simp; try with_reducible rfl
          simp only [Act.put, List.setIfInBounds_toArray, List.set_cons_zero, List.set_cons_succ]
          refine wpAnyH_take (i := 9) (oi := ?os9G) (v := ?vs9G) ?his9G (by kernel_rfl) (by kernel_rfl) (by kernel_rfl) ?hQs9G ?hys9G hH0 ?_
          case his9G => simp only [List.getElem?_toArray, List.getElem?_cons_zero, List.getElem?_cons_succ]; rfl
          case hQs9G => exact fun _ _ _ h => h
          case hys9G => refine Or.inl ⟨by rfl, ?_⟩; intro W hSw; (try dsimp only at hSw); go_simp; try with_reducible rfl
          simp only [Act.put, List.setIfInBounds_toArray, List.set_cons_zero, List.set_cons_succ]
          refine wpAnyH_take (i := 10) (oi := ?os10G) (v := ?vs10G) ?his10G (by kernel_rfl) (by kernel_rfl) (by kernel_rfl) ?hQs10G ?hys10G hH0 ?_
          case his10G => simp only [List.getElem?_toArray, List.getElem?_cons_zero, List.getElem?_cons_succ]; rfl
          case hQs10G => exact fun _ _ _ h => h
          case hys10G => refine Or.inl ⟨by rfl, ?_⟩; intro W hSw; (try dsimp only at hSw); go_simp; try with_reducible rfl
          simp only [Act.put, List.setIfInBounds_toArray, List.set_cons_zero, List.set_cons_succ]
          clear hH0
          have hwd : Below wr.heap.size wr wr.drew := (Below.refl _ _).drew
          have hsw : wr.drew.heap.size = wr.heap.size := rfl
          have HWD := Lib.hid hwd
          have HSW := Lib.hid hsw
          generalize wr.drew = w0 at *
          have HO0 := Lib.hid (OwnT.keep HOWN.out HWD.out)
          clear hwd hsw
          refine wpAnyH_ready (rs := [11, 15]) (by kernel_rfl) (by simp) ?_
          refine AllReadyH.cons (o := ?otwGa) ?hotwGa (fun K' hK => ?_) (AllReadyH.cons (o := ?otwGb) ?hotwGb (fun K' hK => ?_) AllReadyH.nil)
          case hotwGa => simp only [List.getElem?_toArray, List.getElem?_cons_zero, List.getElem?_cons_succ]; rfl
          case hotwGb => simp only [List.getElem?_toArray, List.getElem?_cons_zero, List.getElem?_cons_succ]; rfl
          · go_simp
            refine (CS.out w0 _ _ HO0.out).mono ?_
            rintro e w1 ⟨a1, c1, rfl, ho1, hb1⟩
            have hbw1 : Below wr.heap.size wr w1 := HWD.out.trans (hb1.mono (by have := HSW.out; omega))
            have hz1 : wr.heap.size ≤ w1.heap.size := hbw1.size
            have HBW1 := Lib.hid hbw1
            have HO1 := Lib.hid ho1
            clear ho1 hb1 hbw1
            refine hK.out _ _ (MKS.out _ (HBW1.out.mono (by omega))) (fun hHa => ?_)
            clear hK K'
            (try simp only [Act.put, List.setIfInBounds_toArray, List.set_cons_zero, List.set_cons_succ])
            refine wpAnyH_take (i := 12) (oi := ?oc12Ga) (v := ?vc12Ga) ?hic12Ga (by kernel_rfl) (by kernel_rfl) (by kernel_rfl) ?hQc12Ga ?hyc12Ga hHa ?_
            case hic12Ga => simp only [List.getElem?_toArray, List.getElem?_cons_zero, List.getElem?_cons_succ]; rfl
            case hQc12Ga => exact fun _ _ _ h => h
            case hyc12Ga => refine Or.inl ⟨by rfl, ?_⟩; intro W hSw; (try dsimp only at hSw); go_simp; try with_reducible rfl
            simp only [Act.put, List.setIfInBounds_toArray, List.set_cons_zero, List.set_cons_succ]
            refine wpAnyH_take (i := 13) (oi := ?oc13Ga) (v := ?vc13Ga) ?hic13Ga (by kernel_rfl) (by kernel_rfl) (by kernel_rfl) ?hQc13Ga ?hyc13Ga hHa ?_
            case hic13Ga => simp only [List.getElem?_toArray, List.getElem?_cons_zero, List.getElem?_cons_succ]; rfl
            case hQc13Ga => exact fun _ _ _ h => h
            case hyc13Ga => refine Or.inl ⟨by rfl, ?_⟩; intro W hSw; (try dsimp only at hSw); go_simp; try with_reducible rfl
            simp only [Act.put, List.setIfInBounds_toArray, List.set_cons_zero, List.set_cons_succ]
            refine wpAnyH_take (i := 14) (oi := ?oc14Ga) (v := ?vc14Ga) ?hic14Ga (by kernel_rfl) (by kernel_rfl) (by kernel_rfl) ?hQc14Ga ?hyc14Ga hHa ?_
            case hic14Ga => simp only [List.getElem?_toArray, List.getElem?_cons_zero, List.getElem?_cons_succ]; rfl
            case hQc14Ga => exact fun _ _ _ h => h
            case hyc14Ga => refine Or.inl ⟨by rfl, ?_⟩; intro W hSw; (try dsimp only at hSw); go_simp; try with_reducible rfl
            simp only [Act.put, List.setIfInBounds_toArray, List.set_cons_zero, List.set_cons_succ]
            clear hHa
            refine wpAnyH_ready (rs := [15]) (by kernel_rfl) (by simp) ?_
            refine AllReadyH.cons (o := ?oalGa) ?hoalGa (fun K' hK => ?_) AllReadyH.nil
            case hoalGa => simp only [List.getElem?_toArray, List.getElem?_cons_zero, List.getElem?_cons_succ]; rfl
            go_simp
            have hx1 : (w1.alloc (.cells #[.slice none 0 0] 26)).heap[w1.heap.size]? = some (.cells #[.slice none 0 0] 26) := heap_alloc_new _ _
            have HBR := Lib.hid (HBW1.out.alloc hz1 (.cells #[.slice none 0 0] 26))
            have HBX := Lib.hid ((HBW1.out.alloc hz1 (.cells #[.slice none 0 0] 26)).mono (show p0 + 1 ≤ wr.heap.size by omega))
            have HOX := Lib.hid (show OwnT (w1.alloc (.cells #[.slice none 0 0] 26)) w0.heap.size (.slice a1 L1.length c1) L1 from OwnT.keep HO1.out ((Below.refl w1.heap.size w1).alloc (Nat.le_refl _) _))
            have HNB := Lib.hid (show (Value.slice a1 L1.length c1).ownBlock ≠ some w1.heap.size from fun e => by have := (World.ownsRow.lt HO1.out _ e).2; omega)
            obtain ⟨ug, hug⟩ : ∃ ug, ug = w1.heap.size := ⟨_, rfl⟩
            rw [← hug] at hx1 HNB ⊢
            have hup : p0 < ug := by omega
            have huw : wr.heap.size ≤ ug := by omega
            clear hug
            refine hK.out _ _ (MKS.out _ HBX.out) (fun hHb => ?_)
            clear hK K'
            (try simp only [Act.put, List.setIfInBounds_toArray, List.set_cons_zero, List.set_cons_succ])
            clear hHb
            generalize w1.alloc (.cells #[.slice none 0 0] 26) = wx at *
            have HGX := Lib.hid hx1
            have cx : wx.cell? ⟨ug, 0, none⟩ = some (.slice none 0 0) := by rw [Lib.cell_of_heap hx1]; rfl
            have fx : wx.frozen? ⟨ug, 0, none⟩ = false := Lib.frozen_of_heap hx1 0
            clear hx1
            refine wpAnyH_ready (rs := [16]) (by kernel_rfl) (by simp) ?_
            refine AllReadyH.cons (o := ?ostGa) ?hostGa (fun K' hK => ?_) AllReadyH.nil
            case hostGa => simp only [List.getElem?_toArray, List.getElem?_cons_zero, List.getElem?_cons_succ]; rfl
            go_simp
            refine hK.out _ _ (MKS.out _ (HBX.out.setCell (p := ⟨ug, 0, none⟩) (by simp only; omega) (.slice a1 L1.length c1))) (fun hHs => ?_)
            clear hK K'
            (try simp only [Act.put, List.setIfInBounds_toArray, List.set_cons_zero, List.set_cons_succ])
            refine wpAnyH_take (i := 17) (oi := ?oasGa) (v := ?vasGa) ?hiasGa (by kernel_rfl) (by kernel_rfl) (by kernel_rfl) ?hQasGa ?hyasGa hHs ?_
            case hiasGa => simp only [List.getElem?_toArray, List.getElem?_cons_zero, List.getElem?_cons_succ]; rfl
            case hQasGa => exact fun _ _ _ h => h
            case hyasGa => refine Or.inl ⟨by rfl, ?_⟩; intro W hSw; (try dsimp only at hSw); go_simp; try with_reducible rfl
            simp only [Act.put, List.setIfInBounds_toArray, List.set_cons_zero, List.set_cons_succ]
            clear hHs
            refine wpAnyH_done (by kernel_rfl) ?_ _
            have HO9 := Lib.hid (show OwnT (wx.setCell ⟨ug, 0, none⟩ (.slice a1 L1.length c1)) (p0 + 1) (.slice a1 L1.length c1) L1 from (own_set_ne HOX.out HNB.out).less (by have := HSW.out; omega))
            have hg9 := blk_set HGX.out 0 (.slice a1 L1.length c1)
            have HB9 := Lib.hid (HBX.out.setCell (p := ⟨ug, 0, none⟩) (by simp only; omega) (.slice a1 L1.length c1))
            have hz9 : p0 + 1 ≤ (wx.setCell ⟨ug, 0, none⟩ (.slice a1 L1.length c1)).heap.size := by rw [World.size_setCell]; have := HBX.out.size; omega
            generalize wx.setCell ⟨ug, 0, none⟩ (.slice a1 L1.length c1) = w9 at *
            have HG9 := Lib.hid hg9
            have g0 := (HB9.out.block p0 (by omega)).trans G0.out
            have G9 := Lib.hid g0
            have y9 : w9.cell? ⟨p0, 0, none⟩ = some (.slice ta L.length tc) := by rw [Lib.cell_of_heap g0]; rfl
            have f9 : w9.frozen? ⟨p0, 0, none⟩ = false := Lib.frozen_of_heap g0 0
            have u9 : w9.cell? ⟨ug, 0, none⟩ = some (.slice a1 L1.length c1) := by rw [Lib.cell_of_heap hg9]; rfl
            clear hg9 g0 cx fx
            go_wp2_with fail
            go_roundw
            case rel =>
              have hb10 := HB9.out
              refine ⟨k + 1, L1, a1, c1, by omega, by go_num, hR1, hL1, OwnT.set HO9.out (by omega), blk_set G9.out 0 _, HBL.out.trans ⟨hb10.os, hb10.tape, hb10.output, by rw [World.size_setCell]; exact hb10.size, fun q hq => ?_⟩⟩
              have h1 := hb10.block q (by omega)
              rw [← h1]
              simp only [World.setCell]
              rw [Array.getElem?_modify, if_neg (by omega)]
            case measure => simp [intOf]; omega
          · go_simp
            have hx1 : (w0.alloc (.cells #[.slice none 0 0] 26)).heap[w0.heap.size]? = some (.cells #[.slice none 0 0] 26) := heap_alloc_new _ _
            have hz0 : wr.heap.size ≤ w0.heap.size := by have := HSW.out; omega
            have HBR0 := Lib.hid (HWD.out.alloc hz0 (.cells #[.slice none 0 0] 26))
            have HOX0 := Lib.hid (OwnT.keep HO0.out ((Below.refl w0.heap.size w0).alloc (Nat.le_refl _) (.cells #[.slice none 0 0] 26)))
            have hsz0 : (w0.alloc (.cells #[.slice none 0 0] 26)).heap.size = w0.heap.size + 1 := by rw [World.size_alloc]
            obtain ⟨ug, hug⟩ : ∃ ug, ug = w0.heap.size := ⟨_, rfl⟩
            rw [← hug] at hx1 hsz0 ⊢
            have hup : p0 < ug := by omega
            have huw : wr.heap.size ≤ ug := by omega
            clear hug
            refine hK.out _ _ (MKS.out _ (HBR0.out.mono (by omega))) (fun hHa => ?_)
            clear hK K'
            (try simp only [Act.put, List.setIfInBounds_toArray, List.set_cons_zero, List.set_cons_succ])
            clear hHa
            generalize w0.alloc (.cells #[.slice none 0 0] 26) = w1 at *
            have hugl : ug < w1.heap.size := by omega
            have HGX0 := Lib.hid hx1
            clear hx1 hsz0
            refine wpAnyH_ready (rs := [11]) (by kernel_rfl) (by simp) ?_
            refine AllReadyH.cons (o := ?ocaGb) ?hocaGb (fun K' hK => ?_) AllReadyH.nil
            case hocaGb => simp only [List.getElem?_toArray, List.getElem?_cons_zero, List.getElem?_cons_succ]; rfl
            go_simp
            refine (CS.out w1 _ _ HOX0.out).mono ?_
            rintro e wx ⟨a1, c1, rfl, ho1, hb1⟩
            have HBR := Lib.hid (HBR0.out.trans (hb1.mono (by omega)))
            have HBX := Lib.hid ((HBR0.out.trans (hb1.mono (show wr.heap.size ≤ w1.heap.size by omega))).mono (show p0 + 1 ≤ wr.heap.size by omega))
            have hx1 := (hb1.block ug hugl).trans HGX0.out
            have HOX := Lib.hid (show OwnT wx w1.heap.size (.slice a1 L1.length c1) L1 from ho1)
            have HGX := Lib.hid hx1
            have cx : wx.cell? ⟨ug, 0, none⟩ = some (.slice none 0 0) := by rw [Lib.cell_of_heap hx1]; rfl
            have fx : wx.frozen? ⟨ug, 0, none⟩ = false := Lib.frozen_of_heap hx1 0
            clear ho1 hb1 hx1
            refine hK.out _ _ (MKS.out _ HBX.out) (fun hHb => ?_)
            clear hK K'
            (try simp only [Act.put, List.setIfInBounds_toArray, List.set_cons_zero, List.set_cons_succ])
            refine wpAnyH_take (i := 12) (oi := ?oc12Gb) (v := ?vc12Gb) ?hic12Gb (by kernel_rfl) (by kernel_rfl) (by kernel_rfl) ?hQc12Gb ?hyc12Gb hHb ?_
            case hic12Gb => simp only [List.getElem?_toArray, List.getElem?_cons_zero, List.getElem?_cons_succ]; rfl
            case hQc12Gb => exact fun _ _ _ h => h
            case hyc12Gb => refine Or.inl ⟨by rfl, ?_⟩; intro W hSw; (try dsimp only at hSw); go_simp; try with_reducible rfl
            simp only [Act.put, List.setIfInBounds_toArray, List.set_cons_zero, List.set_cons_succ]
            refine wpAnyH_take (i := 13) (oi := ?oc13Gb) (v := ?vc13Gb) ?hic13Gb (by kernel_rfl) (by kernel_rfl) (by kernel_rfl) ?hQc13Gb ?hyc13Gb hHb ?_
            case hic13Gb => simp only [List.getElem?_toArray, List.getElem?_cons_zero, List.getElem?_cons_succ]; rfl
            case hQc13Gb => exact fun _ _ _ h => h
            case hyc13Gb => refine Or.inl ⟨by rfl, ?_⟩; intro W hSw; (try dsimp only at hSw); go_simp; try with_reducible rfl
            simp only [Act.put, List.setIfInBounds_toArray, List.set_cons_zero, List.set_cons_succ]
            refine wpAnyH_take (i := 14) (oi := ?oc14Gb) (v := ?vc14Gb) ?hic14Gb (by kernel_rfl) (by kernel_rfl) (by kernel_rfl) ?hQc14Gb ?hyc14Gb hHb ?_
            case hic14Gb => simp only [List.getElem?_toArray, List.getElem?_cons_zero, List.getElem?_cons_succ]; rfl
            case hQc14Gb => exact fun _ _ _ h => h
            case hyc14Gb => refine Or.inl ⟨by rfl, ?_⟩; intro W hSw; (try dsimp only at hSw); go_simp; try with_reducible rfl
            simp only [Act.put, List.setIfInBounds_toArray, List.set_cons_zero, List.set_cons_succ]
            clear hHb
            refine wpAnyH_ready (rs := [16]) (by kernel_rfl) (by simp) ?_
            refine AllReadyH.cons (o := ?ostGb) ?hostGb (fun K' hK => ?_) AllReadyH.nil
            case hostGb => simp only [List.getElem?_toArray, List.getElem?_cons_zero, List.getElem?_cons_succ]; rfl
            go_simp
            refine hK.out _ _ (MKS.out _ (HBX.out.setCell (p := ⟨ug, 0, none⟩) (by simp only; omega) (.slice a1 L1.length c1))) (fun hHs => ?_)
            clear hK K'
            (try simp only [Act.put, List.setIfInBounds_toArray, List.set_cons_zero, List.set_cons_succ])
            refine wpAnyH_take (i := 17) (oi := ?oasGb) (v := ?vasGb) ?hiasGb (by kernel_rfl) (by kernel_rfl) (by kernel_rfl) ?hQasGb ?hyasGb hHs ?_
            case hiasGb => simp only [List.getElem?_toArray, List.getElem?_cons_zero, List.getElem?_cons_succ]; rfl
            case hQasGb => exact fun _ _ _ h => h
            case hyasGb => refine Or.inl ⟨by rfl, ?_⟩; intro W hSw; (try dsimp only at hSw); go_simp; try with_reducible rfl
            simp only [Act.put, List.setIfInBounds_toArray, List.set_cons_zero, List.set_cons_succ]
            clear hHs
            refine wpAnyH_done (by kernel_rfl) ?_ _
            have HO9 := Lib.hid (show OwnT (wx.setCell ⟨ug, 0, none⟩ (.slice a1 L1.length c1)) (p0 + 1) (.slice a1 L1.length c1) L1 from (OwnT.set HOX.out (by omega)).less (by omega))
            have hg9 := blk_set HGX.out 0 (.slice a1 L1.length c1)
            have HB9 := Lib.hid (HBX.out.setCell (p := ⟨ug, 0, none⟩) (by simp only; omega) (.slice a1 L1.length c1))
            have hz9 : p0 + 1 ≤ (wx.setCell ⟨ug, 0, none⟩ (.slice a1 L1.length c1)).heap.size := by rw [World.size_setCell]; have := HBX.out.size; omega
            generalize wx.setCell ⟨ug, 0, none⟩ (.slice a1 L1.length c1) = w9 at *
            have HG9 := Lib.hid hg9
            have g0 := (HB9.out.block p0 (by omega)).trans G0.out
            have G9 := Lib.hid g0
            have y9 : w9.cell? ⟨p0, 0, none⟩ = some (.slice ta L.length tc) := by rw [Lib.cell_of_heap g0]; rfl
            have f9 : w9.frozen? ⟨p0, 0, none⟩ = false := Lib.frozen_of_heap g0 0
            have u9 : w9.cell? ⟨ug, 0, none⟩ = some (.slice a1 L1.length c1) := by rw [Lib.cell_of_heap hg9]; rfl
            clear hg9 g0 cx fx
            go_wp2_with fail
            go_roundw
            case rel =>
              have hb10 := HB9.out
              refine ⟨k + 1, L1, a1, c1, by omega, by go_num, hR1, hL1, OwnT.set HO9.out (by omega), blk_set G9.out 0 _, HBL.out.trans ⟨hb10.os, hb10.tape, hb10.output, by rw [World.size_setCell]; exact hb10.size, fun q hq => ?_⟩⟩
              have h1 := hb10.block q (by omega)
              rw [← h1]
              simp only [World.setCell]
              rw [Array.getElem?_modify, if_neg (by omega)]
            case measure => simp [intOf]; omega
      · have g : ¬ ((k : Int) < (l.length : Int)) := by omega
        have HBLW := Lib.hid (show Below w1.heap.size w1 wr by rw [HP0.out]; exact HBL.out)
        have HWP := Lib.hid (show w.heap.size ≤ p0 from by have := HP0.out; omega)
        by_cases hf : fullT n L = true
        · have e1 : setOf n a L = [] := by rw [setOf, if_pos hf]
          have S1 := Lib.hid (fun (X : World) (b : Nat) (v : Value) (h : OwnT X b v L) => (by have h2 := set_any n a hR hL h; rw [e1, setErr, if_pos hf] at h2; exact h2))
          have h64 : 64 ≤ L.length := by
            simp only [fullT, Bool.and_eq_true, decide_eq_true_eq] at hf
            exact hf.1
          have g64 : ((L.length : Int) == 64) = true := by
            rw [beq_iff_eq]; omega
          clear e1 hf h64
          go_wp2_with fail
          refine (S1.out _ _ _ HOWN.out).mono ?_
          rintro e w2 ⟨a2, c2, rfl, ho2, hb2⟩
          simp only [List.length_nil, Int.natCast_zero]
          have hk := (Below.refl w2.heap.size w2).alloc (Nat.le_refl _) (.cells #[.slice a2 0 c2] 26)
          have g2 := (hk.block p0 (by have := hb2.size; omega)).trans ((hb2.block p0 hz0).trans G0.out)
          have y2 : (w2.alloc (.cells #[.slice a2 0 c2] 26)).cell? ⟨p0, 0, none⟩ = some (.slice ta L.length tc) := by rw [Lib.cell_of_heap g2]; rfl
          have hp2 : p0 < w2.heap.size := by have := hb2.size; omega
          have hq2 : p0 ≠ w2.heap.size := by omega
          have HB2 := Lib.hid ((bstep HBLW.out hb2).trans (hk.mono (show w1.heap.size ≤ w2.heap.size from Nat.le_trans HBLW.out.size hb2.size)))
          clear ho2 hb2 hk g2 y0
          go_wp2_with fail
          go_ret
          have hzq : w.heap.size ≤ w1.heap.size := by have := HP0.out; omega
          exact ⟨rfl, HBA.out.trans (HB2.out.mono hzq)⟩
        · have hf2 : fullT n L = false := by simpa using hf
          obtain ⟨U, hU⟩ : ∃ U, setR n a L = U := ⟨_, rfl⟩
          have hRU : RightT U := by rw [← hU]; exact set_right hR n a
          have hLU : U.length ≤ 64 := by rw [← hU]; exact set_len64 hL hf2
          obtain ⟨r, hr⟩ : ∃ r, restR b0 U = r := ⟨_, rfl⟩
          obtain ⟨N, hN⟩ : ∃ N, (dueR b0 U).map (·.name) = N := ⟨_, rfl⟩
          obtain ⟨m, hm⟩ : ∃ m, clearR n U = m := ⟨_, rfl⟩
          obtain ⟨r2, hr2⟩ : ∃ r2, restR b0 r = r2 := ⟨_, rfl⟩
          obtain ⟨nx, hnx⟩ : ∃ x, nextT r = x := ⟨_, rfl⟩
          have hlN : (dueR b0 U).length = N.length := by rw [← hN, List.length_map]
          have hLr : r.length ≤ 64 := by rw [← hr]; exact Nat.le_trans (List.length_filter_le _ _) hLU
          have hRr : RightT r := by rw [← hr]; exact due_right hRU b0
          have hLN : N.length ≤ 64 := by rw [← hlN]; exact Nat.le_trans (List.length_filter_le _ _) hLU
          have hLm : m.length ≤ 64 := by rw [← hm]; exact Nat.le_trans (clear_len_le _ _) hLU
          have hsum : r.length + N.length = U.length := by rw [← hr, ← hlN]; exact once_len hRU
          have hnext : ¬ r.length = 0 → b0 < nx := by rw [← hnx, ← hr]; exact once_next
          have hmany : cntT n N = if a ≤ b0 then 1 else 0 := by rw [← hN, ← hU]; exact once_many hR
          have hhas : hasT n r = decide (b0 < a) := by rw [← hr, ← hU]; exact once_there
          have hgone : hasT n m = false := by rw [← hm]; exact once_gone
          have hag : dueR b0 r = [] := by rw [← hr]; exact once_again
          obtain ⟨q, hq⟩ : ∃ q, decide (b0 < a) = q := ⟨_, rfl⟩
          have S1 := Lib.hid (fun (X : World) (b : Nat) (v : Value) (h : OwnT X b v L) => (by have h2 := set_any n a hR hL h; rw [setOf, if_neg hf, hU, setErr, if_neg hf] at h2; exact h2))
          have S2 := Lib.hid (fun (X : World) (b : Nat) (v : Value) (h : OwnT X b v U) => (by have h2 := due_ok b0 hRU hLU h; rw [hN, hr, hlN] at h2; exact h2))
          have S3 := Lib.hid (fun (X : World) (b : Nat) (v : Value) (h : OwnT X b v r) => (by have h2 := at_ok n hLr h; rw [hhas, hq] at h2; exact h2))
          have S4 := Lib.hid (fun (X : World) (b : Nat) (v : Value) (h : OwnT X b v U) => (by have h2 := clear_ok n hRU hLU h; rw [hm] at h2; exact h2))
          have S5 := Lib.hid (fun (X : World) (b : Nat) (v : Value) (h : OwnT X b v m) => (by have h2 := at_ok n hLm h; rw [hgone] at h2; exact h2))
          have S6 := Lib.hid (fun (X : World) (b : Nat) (v : Value) (h : OwnT X b v r) => (by have h2 := due_ok b0 hRr hLr h; rw [hag, hr2] at h2; exact h2))
          have S7 := Lib.hid (fun (X : World) (b : Nat) (v : Value) (h : OwnT X b v r) => (by have h2 := next_ok hLr h; rw [hnx] at h2; exact h2))
          have HQ := Lib.hid hq
          have HM := Lib.hid hmany
          have HNX := Lib.hid hnext
          have HSUM := Lib.hid hsum
          clear hU hr hN hm hr2 hnx hlN hRU hRr hhas hgone hag hq hmany hnext hsum hf hf2 hR
          go_wp2_with fail
          refine (S1.out _ _ _ HOWN.out).mono ?_
          rintro e w2 ⟨a2, c2, rfl, ho2, hb2⟩
          have hk := (Below.refl w2.heap.size w2).alloc (Nat.le_refl _) (.cells #[.slice a2 U.length c2] 26)
          have hB2 := ((bstep HBLW.out hb2).trans (hk.mono (show w1.heap.size ≤ w2.heap.size from Nat.le_trans HBLW.out.size hb2.size)))
          have hU2 := (ho2.keep hk)
          have gu := heap_alloc_new w2 (.cells #[.slice a2 U.length c2] 26)
          have y2 : (w2.alloc (.cells #[.slice a2 U.length c2] 26)).cell? ⟨w2.heap.size, 0, none⟩ = some (.slice a2 U.length c2) := by rw [Lib.cell_of_heap gu]; rfl
          have hs2 : w2.heap.size < (w2.alloc (.cells #[.slice a2 U.length c2] 26)).heap.size := by rw [World.size_alloc]; omega
          clear ho2 hb2 hk y0
          go_wp2_with fail
          generalize w2.alloc (.cells #[.slice a2 U.length c2] 26) = z2 at *
          generalize hpu : w2.heap.size = pu at *
          have HB2 := Lib.hid hB2
          have HU2 := Lib.hid hU2
          have GU := Lib.hid gu
          clear hB2 hU2 gu hpu
          go_wp2_with fail
          refine (S2.out _ _ _ HU2.out).mono ?_
          rintro e w3 ⟨a3, c3, na, nc, rfl, ho3, hn3, hb3⟩
          have hk := (Below.refl w3.heap.size w3).alloc (Nat.le_refl _) (.cells #[.slice a3 r.length c3] 26)
          have hz3 : pu < w3.heap.size := by have := hb3.size; omega
          have hB3 := ((bstep HB2.out hb3).trans (hk.mono (show w1.heap.size ≤ w3.heap.size from Nat.le_trans HB2.out.size hb3.size)))
          have hU3 := (OwnT.keep (OwnT.keep HU2.out hb3) hk)
          have hV3 := (ho3.keep hk)
          have hX3 := (hn3.keep hk).strs
          have gu3 := (hk.block pu hz3).trans ((hb3.block pu hs2).trans GU.out)
          have gv := heap_alloc_new w3 (.cells #[.slice a3 r.length c3] 26)
          have hs3 : (w3.alloc (.cells #[.slice a3 r.length c3] 26)).heap.size = w3.heap.size + 1 := by rw [World.size_alloc]
          clear ho3 hn3 hb3 hk y2
          go_wp2_with fail
          generalize w3.alloc (.cells #[.slice a3 r.length c3] 26) = z3 at *
          generalize hpv : w3.heap.size = pv at *
          have hpvz : pv < z3.heap.size := by omega
          have hpuz : pu < z3.heap.size := by omega
          have HB3 := Lib.hid hB3
          have HU3 := Lib.hid hU3
          have HV3 := Lib.hid hV3
          have HX3 := Lib.hid hX3
          have GU3 := Lib.hid gu3
          have GV := Lib.hid gv
          clear hB3 hU3 hV3 hX3 gu3 gv hpv hs3 hz3 hs2
          go_loop [19, 20] (fun t19 t20 => ∃ k : Nat, k ≤ N.length ∧ t20 = .int .i64 k ∧ t19 = .int .i64 (cntT n (N.take k) : Nat)) (fun _ t20 => N.length - (intOf t20).toNat)
          case atStart => exact ⟨0, Nat.zero_le _, rfl, rfl⟩
          case round =>
            obtain ⟨k, hk, rfl, rfl⟩ := hrel
            by_cases hlt : k < N.length
            · obtain ⟨b1, o1, q1, he, _, hc1⟩ := HX3.out.get k hlt
              obtain ⟨rfl, -, rfl⟩ : na = some ⟨b1, o1, none⟩ ∧ N.length = N.length ∧ nc = q1 := by injection he with e1 e2 e3; exact ⟨e1, e2, e3⟩
              clear he
              have hct := cnt_take (n := n) hlt
              have hle : cntT n (N.take k) ≤ k := Nat.le_trans (List.length_filter_le _ _) (by rw [List.length_take]; omega)
              obtain ⟨y, hy⟩ : ∃ y, N[k] = y := ⟨_, rfl⟩
              rw [hy] at hc1 hct
              have i1 : (0 : Int) ≤ (k : Int) := by omega
              have i2 : (k : Int) < (N.length : Int) := by omega
              obtain ⟨c, hc⟩ : ∃ c, cntT n (N.take k) = c := ⟨_, rfl⟩
              rw [hc] at hct hle ⊢
              clear hy hc
              by_cases hyn : (y.toList == n.toList) = true
              · rw [if_pos hyn] at hct
                have HCT := Lib.hid hct
                clear hct
                go_wp2_with fail
                go_round
                case rel => exact ⟨k + 1, by omega, by go_num, by rw [HCT.out]; go_num⟩
                case measure => simp [intOf]; omega
              · rw [if_neg hyn] at hct
                have HCT := Lib.hid hct
                have hyf : (y.toList == n.toList) = false := by simpa using hyn
                clear hct hyn
                go_wp2_with fail
                go_round
                case rel => exact ⟨k + 1, by omega, by go_num, by rw [HCT.out]⟩
                case measure => simp [intOf]; omega
            · have g2 : ¬ ((k : Int) < (N.length : Int)) := by omega
              obtain rfl : k = N.length := by omega
              rw [List.take_length]
              obtain ⟨c, hc⟩ : ∃ c : Int, ((cntT n N : Nat) : Int) = c := ⟨_, rfl⟩
              have hcc : c = if a ≤ b0 then 1 else 0 := by rw [← hc, HM.out]; split <;> rfl
              have HCC := Lib.hid hcc
              rw [hc]
              have yu : z3.cell? ⟨pu, 0, none⟩ = some (.slice a2 U.length c2) := by rw [Lib.cell_of_heap GU3.out]; rfl
              have yv : z3.cell? ⟨pv, 0, none⟩ = some (.slice a3 r.length c3) := by rw [Lib.cell_of_heap GV.out]; rfl
              clear hc hcc hlt
              go_wp2_with fail
              refine (S3.out _ _ _ HV3.out).mono ?_
              rintro e z4 ⟨x4, rfl, hb4⟩
              have hzq4 := hb4.size
              have HB4 := Lib.hid (bstep HB3.out hb4)
              have HU4 := Lib.hid (HU3.out.keep hb4)
              have HV4 := Lib.hid (HV3.out.keep hb4)
              have GU4 := Lib.hid ((hb4.block pu hpuz).trans GU3.out)
              have GV4 := Lib.hid ((hb4.block pv hpvz).trans GV.out)
              have yu4 : z4.cell? ⟨pu, 0, none⟩ = some (.slice a2 U.length c2) := by rw [Lib.cell_of_heap GU4.out]; rfl
              have yv4 : z4.cell? ⟨pv, 0, none⟩ = some (.slice a3 r.length c3) := by rw [Lib.cell_of_heap GV4.out]; rfl
              have hpu4 : pu < z4.heap.size := by omega
              have hpv4 : pv < z4.heap.size := by omega
              clear hb4 hzq4 yu yv
              go_wp2_with fail
              refine (S4.out _ _ _ HU4.out).mono ?_
              rintro e z5 ⟨a5, c5, rfl, ho5, hb5⟩
              have hzq5 := hb5.size
              have HB5 := Lib.hid (bstep HB4.out hb5)
              have HV5 := Lib.hid (HV4.out.keep hb5)
              have GU5 := Lib.hid ((hb5.block pu hpu4).trans GU4.out)
              have GV5 := Lib.hid ((hb5.block pv hpv4).trans GV4.out)
              have HO5 := Lib.hid ho5
              have hpu5 : pu < z5.heap.size := by omega
              have hpv5 : pv < z5.heap.size := by omega
              clear hb5 hzq5 ho5 yu4 yv4
              go_wp2_with fail
              refine (S5.out _ _ _ HO5.out).mono ?_
              rintro e z6 ⟨x6, rfl, hb6⟩
              have hzq6 := hb6.size
              have HB6 := Lib.hid (bstep HB5.out hb6)
              have HV6 := Lib.hid (HV5.out.keep hb6)
              have GU6 := Lib.hid ((hb6.block pu hpu5).trans GU5.out)
              have GV6 := Lib.hid ((hb6.block pv hpv5).trans GV5.out)
              have yv6 : z6.cell? ⟨pv, 0, none⟩ = some (.slice a3 r.length c3) := by rw [Lib.cell_of_heap GV6.out]; rfl
              have hpu6 : pu < z6.heap.size := by omega
              have hpv6 : pv < z6.heap.size := by omega
              clear hb6 hzq6
              go_wp2_with fail
              refine (S6.out _ _ _ HV6.out).mono ?_
              rintro e z7 ⟨a7, c7, na7, nc7, rfl, ho7, hn7, hb7⟩
              simp only [List.length_nil, Int.natCast_zero]
              have hk := (Below.refl z7.heap.size z7).alloc (Nat.le_refl _) (.cells #[.slice a7 r2.length c7] 26)
              have hzq7 := hb7.size
              have hB7 := ((bstep HB6.out hb7).trans (hk.mono (show w1.heap.size ≤ z7.heap.size from Nat.le_trans HB6.out.size hb7.size)))
              have hV7 := (OwnT.keep (OwnT.keep HV6.out hb7) hk)
              have gu7 := (hk.block pu (by omega)).trans ((hb7.block pu hpu6).trans GU6.out)
              have gv7 := (hk.block pv (by omega)).trans ((hb7.block pv hpv6).trans GV6.out)
              have hs7 : (z7.alloc (.cells #[.slice a7 r2.length c7] 26)).heap.size = z7.heap.size + 1 := by rw [World.size_alloc]
              have yu7 : z7.cell? ⟨pu, 0, none⟩ = some (.slice a2 U.length c2) := by rw [Lib.cell_of_heap ((hb7.block pu hpu6).trans GU6.out)]; rfl
              have yv7 : z7.cell? ⟨pv, 0, none⟩ = some (.slice a3 r.length c3) := by rw [Lib.cell_of_heap ((hb7.block pv hpv6).trans GV6.out)]; rfl
              have yu8 : (z7.alloc (.cells #[.slice a7 r2.length c7] 26)).cell? ⟨pu, 0, none⟩ = some (.slice a2 U.length c2) := by rw [Lib.cell_of_heap gu7]; rfl
              have yv8 : (z7.alloc (.cells #[.slice a7 r2.length c7] 26)).cell? ⟨pv, 0, none⟩ = some (.slice a3 r.length c3) := by rw [Lib.cell_of_heap gv7]; rfl
              have hpu7 : pu < z7.heap.size := by omega
              have hpv7 : pv < z7.heap.size := by omega
              have hnu7 : pu ≠ z7.heap.size := by omega
              have hnv7 : pv ≠ z7.heap.size := by omega
              have HPV8 := Lib.hid (show pv < (z7.alloc (.cells #[.slice a7 r2.length c7] 26)).heap.size by omega)
              have HB8 := Lib.hid hB7
              have HV8 := Lib.hid hV7
              have GV8 := Lib.hid gv7
              have hws : IntKind.i64.wrap ((r.length : Int) + (N.length : Int)) = (U.length : Int) := by have := HSUM.out; rw [IntKind.wrap_i64]; omega
              have HWS := Lib.hid hws
              clear hB7 hV7 gu7 gv7 hs7 hzq7 hws ho7 hn7 hb7 hk yv6 hpu6 hpv6 hpu5 hpv5 hpu4 hpv4
              have hfin : ∀ X, Below w1.heap.size w1 X → Below w.heap.size w X := fun X hX => HBA.out.trans (hX.mono (by have := HP0.out; omega))
              have HFIN := Lib.hid hfin
              clear hfin
              by_cases ha : a ≤ b0
              · have hna : ¬ b0 < a := by omega
                obtain rfl : c = 1 := by rw [HCC.out, if_pos ha]
                obtain rfl : q = false := by rw [← HQ.out]; exact decide_eq_false hna
                have hws := HWS.out
                go_wp2_with fail
                refine (S7.out _ _ _ HV8.out).mono ?_
                rintro e z9 ⟨rfl, hb9⟩
                have HB9 := Lib.hid (bstep HB8.out hb9)
                have yv9 : z9.cell? ⟨pv, 0, none⟩ = some (.slice a3 r.length c3) := by rw [Lib.cell_of_heap ((hb9.block pv HPV8.out).trans GV8.out)]; rfl
                clear hb9
                by_cases hx : b0 < nx
                · go_wp2_with fail
                  go_ret
                  exact ⟨rfl, HFIN.out _ HB9.out⟩
                · have hr0 : ((r.length : Int) == 0) = true := by
                    have h := HNX.out
                    rw [beq_iff_eq]
                    omega
                  go_wp2_with fail
                  go_ret
                  exact ⟨rfl, HFIN.out _ HB9.out⟩
              · have hna : b0 < a := by omega
                obtain rfl : c = 0 := by rw [HCC.out, if_neg ha]
                obtain rfl : q = true := by rw [← HQ.out]; exact decide_eq_true hna
                have hws := HWS.out
                go_wp2_with fail
                refine (S7.out _ _ _ HV8.out).mono ?_
                rintro e z9 ⟨rfl, hb9⟩
                have HB9 := Lib.hid (bstep HB8.out hb9)
                have yv9 : z9.cell? ⟨pv, 0, none⟩ = some (.slice a3 r.length c3) := by rw [Lib.cell_of_heap ((hb9.block pv HPV8.out).trans GV8.out)]; rfl
                clear hb9
                by_cases hx : b0 < nx
                · go_wp2_with fail
                  go_ret
                  exact ⟨rfl, HFIN.out _ HB9.out⟩
                · have hr0 : ((r.length : Int) == 0) = true := by
                    have h := HNX.out
                    rw [beq_iff_eq]
                    omega
                  go_wp2_with fail
                  go_ret
                  exact ⟨rfl, HFIN.out _ HB9.out⟩
end Go.Proofs.Ytpadbkplknnopaa
