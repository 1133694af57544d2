/-
  The walk of bucketlinelaw12.TimerTakes.
-/
import Derived.Test.YtpadbkplknnopaaTmOpen
import Derived.Test.YtpadbkplknnopaaRegInv
namespace Go.Proofs.Ytpadbkplknnopaa
set_option linter.unusedSimpArgs false
set_option linter.unusedVariables false
open Go.RowKit

theorem own_set_ne {w : World} {b g o : Nat} {v x : Value} {l : List TM} (h : OwnT w b v l) (hne : v.ownBlock ≠ some g) : OwnT (w.setCell ⟨g, o, none⟩ x) b v l := by
  refine World.ownsRow.kept h (row := some g) ⟨rfl, rfl, rfl, by rw [World.size_setCell]; exact Nat.le_refl _, fun k _ hne => ?_⟩ (.inr hne)
  simp only [World.setCell]
  rw [Array.getElem?_modify, if_neg (fun e => hne (by rw [e]))]
theorem takes_due (L : List TM) {m M : Int} (h : m ≤ M) (hr : RightT L) : dueR m L ++ dueR M (restR m L) = dueR M L := by
  have h1 : dueR M (dueR m L) = dueR m L := by
    unfold dueR
    rw [List.filter_filter]
    apply List.filter_congr
    intro y _
    by_cases h2 : y.at_ ≤ m
    · have : y.at_ ≤ M := by omega
      simp [h2, this]
    · simp [h2]
  have h2 : dueR M L = dueR M (dueR m L ++ restR m L) := by rw [← due_split hr]
  rw [h2]
  conv => rhs; unfold dueR
  rw [List.filter_append]
  change _ = dueR M (dueR m L) ++ dueR M (restR m L)
  rw [h1]
theorem takes_rest (L : List TM) {m M : Int} (h : m ≤ M) : restR M (restR m L) = restR M L := by
  unfold restR
  rw [List.filter_filter]
  apply List.filter_congr
  intro y _
  by_cases h2 : y.at_ ≤ m
  · have : y.at_ ≤ M := by omega
    simp [h2, this]
  · simp [h2]

set_option maxRecDepth 100000 in
set_option maxHeartbeats 6400000 in
theorem walkTimerTakes (v0 : Value) (a : Int) (wa : (Lit.int .i64 a).wf = true) (b0 : Int) (wb : (Lit.int .i64 b0).wf = true) (w : World) (hv : ∃ l, IsActs w.heap.size w v0 l) :
    Calls Try.prog 4 #[v0, .int .i64 a, .int .i64 b0] w fun e w' => e = .returned (.bool true) ∧ Below w.heap.size w w' := by
  obtain ⟨l, hl⟩ := hv
  have HL := Lib.hid hl
  obtain ⟨la, lc, rfl⟩ := hl.form
  have HSH := Lib.hid (shown_any w)
  clear wa wb
  go_enter Try.func4, Try.ntmps4
  go_wp2_with fail
  refine HSH.out.mono ?_
  rintro e wa ⟨rfl, hba⟩
  have hzA := hba.size
  have HBA := Lib.hid hba
  have CM := Lib.hid (small_any w.heap.size _ l wa (hl.keep hba (Nat.le_refl _)))
  clear hl hba
  go_wp2_with fail
  refine CM.out.mono ?_
  rintro e w1 ⟨h, rfl⟩
  rcases h with rfl | ⟨rfl, hsm, _⟩
  · go_wp2_with fail
    go_ret
    exact ⟨rfl, HBA.out⟩
  · go_wp2_with fail
    have hst : (w1.alloc (.cells #[.slice none 0 0] 26)).heap[w1.heap.size]? = some (.cells #[.slice none 0 0] 26) := heap_alloc_new w1 _
    have hsb : Below w1.heap.size w1 (w1.alloc (.cells #[.slice none 0 0] 26)) := (Below.refl _ _).alloc (Nat.le_refl _) _
    generalize hp0 : w1.heap.size = p0 at *
    have HP0 := Lib.hid hp0
    have HST := Lib.hid hst
    have HSB := Lib.hid hsb
    clear hp0 hst hsb
    go_loopw [10] (fun t10 wr => ∃ (k : Nat) (L : List TM) (ta : Option Addr) (tc : Nat), k ≤ l.length ∧ t10 = .int .i64 k ∧ RightT L ∧ L.length ≤ 64 ∧ OwnT wr (p0 + 1) (.slice ta L.length tc) L ∧ wr.heap[p0]? = some (.cells #[.slice ta L.length tc] 26) ∧ Below p0 w1 wr) (fun t10 _ => l.length - (intOf t10).toNat)
    case atStart => exact ⟨0, [], none, 0, Nat.zero_le _, rfl, right_nil, by simp, ownt_nil _ _, HST.out, HSB.out⟩
    case round =>
      obtain ⟨k, L, ta, tc, hk, rfl, hR, hL, hown, hg0, hbl⟩ := hrel
      have hz0 : p0 < wr.heap.size := (Array.getElem?_eq_some_iff.1 hg0).1
      have y0 : wr.cell? ⟨p0, 0, none⟩ = some (.slice ta L.length tc) := by rw [Lib.cell_of_heap hg0]; rfl
      have HOWN := Lib.hid hown
      have HBL := Lib.hid hbl
      have G0 := Lib.hid hg0
      clear hown hbl hg0
      by_cases hlt : k < l.length
      · obtain ⟨b, off, q1, he, hbB, _, hc2, hc3⟩ := ((HL.out.keep HBA.out (Nat.le_refl _)).keep HBL.out (by omega)).get k hlt
        obtain ⟨rfl, -, rfl⟩ : la = some ⟨b, off, none⟩ ∧ l.length = l.length ∧ lc = q1 := by injection he with e1 e2 e3; exact ⟨e1, e2, e3⟩
        clear he
        obtain ⟨y, hy⟩ : ∃ y, l[k] = y := ⟨_, rfl⟩
        rw [hy] at hc2 hc3
        have i1 : (0 : Int) ≤ (k : Int) := by omega
        have i2 : (k : Int) < (l.length : Int) := by omega
        have MKS := Lib.hid (fun (X : World) (hX : Below (p0 + 1) wr X) => (show (fun X => X.cell? ⟨p0, 0, none⟩ = some (.slice ta L.length tc) ∧ X.cell? ⟨b, off + k * 3 + 1, none⟩ = some (.int .i64 y.at_) ∧ X.cell? ⟨b, off + k * 3 + 2, none⟩ = some (.string y.name)) X from ⟨(hX.cell (p := ⟨p0, 0, none⟩) (by simp only; omega)).trans y0, (hX.cell (p := ⟨b, off + k * 3 + 1, none⟩) (by simp only; omega)).trans hc2, (hX.cell (p := ⟨b, off + k * 3 + 2, none⟩) (by simp only; omega)).trans hc3⟩))
        have HZW : p0 + 1 ≤ wr.heap.size := hz0
        clear hy
        obtain ⟨L1, hL1e⟩ : ∃ L1, setOf y.name y.at_ L = L1 := ⟨_, rfl⟩
        have hR1 : RightT L1 := by rw [← hL1e]; exact setOf_right hR
        have hL1 : L1.length ≤ 64 := by rw [← hL1e]; exact setOf_len hL
        by_cases hf : fullT y.name L = true
        · have CS := Lib.hid (fun (X : World) (b : Nat) (v : Value) (h : OwnT X b v L) => (by have h2 := set_any y.name y.at_ hR hL h; rw [hL1e, setErr, if_pos hf] at h2; exact h2))
          clear hL1e hf
          go_wp2_with fail
          refine region_begin (S := fun X => X.cell? ⟨p0, 0, none⟩ = some (.slice ta L.length tc) ∧ X.cell? ⟨b, off + k * 3 + 1, none⟩ = some (.int .i64 y.at_) ∧ X.cell? ⟨b, off + k * 3 + 2, none⟩ = some (.string y.name)) 18 rfl (by kernel_rfl) (MKS.out _ (Below.refl _ _).drew) (fun hH0 => ?_)
          refine wpAnyH_take (i := 0) (oi := ?os0F) (v := ?vs0F) ?his0F (by kernel_rfl) (by kernel_rfl) (by kernel_rfl) ?hQs0F ?hys0F hH0 ?_
          case his0F => simp only [List.getElem?_toArray, List.getElem?_cons_zero]; rfl
          case hQs0F => exact fun _ _ _ h => h
          case hys0F => refine Or.inl ⟨by rfl, ?_⟩; intro W hSw; (try dsimp only at hSw); go_simp; try with_reducible rfl
          simp only [Act.put, List.setIfInBounds_toArray, List.set_cons_zero]
          refine wpAnyH_take (i := 1) (oi := ?os1F) (v := ?vs1F) ?his1F (by kernel_rfl) (by kernel_rfl) (by kernel_rfl) ?hQs1F ?hys1F hH0 ?_
          case his1F => simp only [List.getElem?_toArray, List.getElem?_cons_zero, List.getElem?_cons_succ]; rfl
          case hQs1F => exact fun _ _ _ h => h
          case hys1F => refine Or.inl ⟨by rfl, ?_⟩; intro W hSw; (try dsimp only at hSw); go_simp; try with_reducible rfl
          simp only [Act.put, List.setIfInBounds_toArray, List.set_cons_zero, List.set_cons_succ]
          refine wpAnyH_take (i := 2) (oi := ?os2F) (v := ?vs2F) ?his2F (by kernel_rfl) (by kernel_rfl) (by kernel_rfl) ?hQs2F ?hys2F hH0 ?_
          case his2F => simp only [List.getElem?_toArray, List.getElem?_cons_zero, List.getElem?_cons_succ]; rfl
          case hQs2F => exact fun _ _ _ h => h
          case hys2F => refine Or.inl ⟨by rfl, ?_⟩; intro W hSw; (try dsimp only at hSw); go_simp; try with_reducible rfl
          simp only [Act.put, List.setIfInBounds_toArray, List.set_cons_zero, List.set_cons_succ]
          refine wpAnyH_take (i := 3) (oi := ?os3F) (v := ?vs3F) ?his3F (by kernel_rfl) (by kernel_rfl) (by kernel_rfl) ?hQs3F ?hys3F hH0 ?_
          case his3F => simp only [List.getElem?_toArray, List.getElem?_cons_zero, List.getElem?_cons_succ]; rfl
          case hQs3F => exact fun _ _ _ h => h
          case hys3F => refine Or.inl ⟨by rfl, ?_⟩; intro W hSw; (try dsimp only at hSw); go_simp; try with_reducible rfl
          simp only [Act.put, List.setIfInBounds_toArray, List.set_cons_zero, List.set_cons_succ]
          refine wpAnyH_take (i := 4) (oi := ?os4F) (v := ?vs4F) ?his4F (by kernel_rfl) (by kernel_rfl) (by kernel_rfl) ?hQs4F ?hys4F hH0 ?_
          case his4F => simp only [List.getElem?_toArray, List.getElem?_cons_zero, List.getElem?_cons_succ]; rfl
          case hQs4F => exact fun _ _ _ h => h
          case hys4F => refine Or.inl ⟨by rfl, ?_⟩; intro W hSw; (try dsimp only at hSw); go_simp; try with_reducible rfl
          simp only [Act.put, List.setIfInBounds_toArray, List.set_cons_zero, List.set_cons_succ]
          refine wpAnyH_take (i := 5) (oi := ?os5F) (v := ?vs5F) ?his5F (by kernel_rfl) (by kernel_rfl) (by kernel_rfl) ?hQs5F ?hys5F hH0 ?_
          case his5F => simp only [List.getElem?_toArray, List.getElem?_cons_zero, List.getElem?_cons_succ]; rfl
          case hQs5F => exact fun _ _ _ h => h
          case hys5F => refine Or.inl ⟨by rfl, ?_⟩; intro W hSw; (try dsimp only at hSw); go_simp; try with_reducible rfl
          simp only [Act.put, List.setIfInBounds_toArray, List.set_cons_zero, List.set_cons_succ]
          refine wpAnyH_take (i := 6) (oi := ?os6F) (v := ?vs6F) ?his6F (by kernel_rfl) (by kernel_rfl) (by kernel_rfl) ?hQs6F ?hys6F hH0 ?_
          case his6F => simp only [List.getElem?_toArray, List.getElem?_cons_zero, List.getElem?_cons_succ]; rfl
          case hQs6F => exact fun _ _ _ h => h
          case hys6F => refine Or.inl ⟨by rfl, ?_⟩; intro W hSw; (try dsimp only at hSw); go_simp; try with_reducible rfl
          simp only [Act.put, List.setIfInBounds_toArray, List.set_cons_zero, List.set_cons_succ]
          refine wpAnyH_take (i := 7) (oi := ?os7F) (v := ?vs7F) ?his7F (by kernel_rfl) (by kernel_rfl) (by kernel_rfl) ?hQs7F ?hys7F hH0 ?_
          case his7F => simp only [List.getElem?_toArray, List.getElem?_cons_zero, List.getElem?_cons_succ]; rfl
          case hQs7F => exact fun _ _ _ h => h
          case hys7F => refine Or.inl ⟨by rfl, ?_⟩; intro W hSw; (try dsimp only at hSw); go_simp; try with_reducible rfl
          simp only [Act.put, List.setIfInBounds_toArray, List.set_cons_zero, List.set_cons_succ]
          refine wpAnyH_take (i := 8) (oi := ?os8F) (v := ?vs8F) ?his8F (by kernel_rfl) (by kernel_rfl) (by kernel_rfl) ?hQs8F ?hys8F hH0 ?_
          case his8F => simp only [List.getElem?_toArray, List.getElem?_cons_zero, List.getElem?_cons_succ]; rfl
          case hQs8F => exact fun _ _ _ h => h
          case hys8F => refine Or.inl ⟨by rfl, ?_⟩; intro W hSw; (try dsimp only at hSw); go_simp; try with_reducible rfl
          simp only [Act.put, List.setIfInBounds_toArray, List.set_cons_zero, List.set_cons_succ]
          refine wpAnyH_take (i := 9) (oi := ?os9F) (v := ?vs9F) ?his9F (by kernel_rfl) (by kernel_rfl) (by kernel_rfl) ?hQs9F ?hys9F hH0 ?_
          case his9F => simp only [List.getElem?_toArray, List.getElem?_cons_zero, List.getElem?_cons_succ]; rfl
          case hQs9F => exact fun _ _ _ h => h
          case hys9F => refine Or.inl ⟨by rfl, ?_⟩; intro W hSw; (try dsimp only at hSw); go_simp; try with_reducible rfl
          simp only [Act.put, List.setIfInBounds_toArray, List.set_cons_zero, List.set_cons_succ]
          refine wpAnyH_take (i := 10) (oi := ?os10F) (v := ?vs10F) ?his10F (by kernel_rfl) (by kernel_rfl) (by kernel_rfl) ?hQs10F ?hys10F hH0 ?_
          case his10F => simp only [List.getElem?_toArray, List.getElem?_cons_zero, List.getElem?_cons_succ]; rfl
          case hQs10F => exact fun _ _ _ h => h
          case hys10F => refine Or.inl ⟨by rfl, ?_⟩; intro W hSw; (try dsimp only at hSw); go_simp; try with_reducible rfl
          simp only [Act.put, List.setIfInBounds_toArray, List.set_cons_zero, List.set_cons_succ]
          clear hH0
          have hwd : Below wr.heap.size wr wr.drew := (Below.refl _ _).drew
          have hsw : wr.drew.heap.size = wr.heap.size := rfl
          have HWD := Lib.hid hwd
          have HSW := Lib.hid hsw
          generalize wr.drew = w0 at *
          have HO0 := Lib.hid (OwnT.keep HOWN.out HWD.out)
          clear hwd hsw
          refine wpAnyH_ready (rs := [11, 15]) (by kernel_rfl) (by simp) ?_
          refine AllReadyH.cons (o := ?otwFa) ?hotwFa (fun K' hK => ?_) (AllReadyH.cons (o := ?otwFb) ?hotwFb (fun K' hK => ?_) AllReadyH.nil)
          case hotwFa => simp only [List.getElem?_toArray, List.getElem?_cons_zero, List.getElem?_cons_succ]; rfl
          case hotwFb => simp only [List.getElem?_toArray, List.getElem?_cons_zero, List.getElem?_cons_succ]; rfl
          · go_simp
            refine (CS.out w0 _ _ HO0.out).mono ?_
            rintro e w1 ⟨a1, c1, rfl, ho1, hb1⟩
            have hbw1 : Below wr.heap.size wr w1 := HWD.out.trans (hb1.mono (by have := HSW.out; omega))
            have hz1 : wr.heap.size ≤ w1.heap.size := hbw1.size
            have HBW1 := Lib.hid hbw1
            have HO1 := Lib.hid ho1
            clear ho1 hb1 hbw1
            refine hK.out _ _ (MKS.out _ (HBW1.out.mono (by omega))) (fun hHa => ?_)
            clear hK K'
            (try simp only [Act.put, List.setIfInBounds_toArray, List.set_cons_zero, List.set_cons_succ])
            refine wpAnyH_take (i := 12) (oi := ?oc12Fa) (v := ?vc12Fa) ?hic12Fa (by kernel_rfl) (by kernel_rfl) (by kernel_rfl) ?hQc12Fa ?hyc12Fa hHa ?_
            case hic12Fa => simp only [List.getElem?_toArray, List.getElem?_cons_zero, List.getElem?_cons_succ]; rfl
            case hQc12Fa => exact fun _ _ _ h => h
            case hyc12Fa => refine Or.inl ⟨by rfl, ?_⟩; intro W hSw; (try dsimp only at hSw); go_simp; try with_reducible rfl
            simp only [Act.put, List.setIfInBounds_toArray, List.set_cons_zero, List.set_cons_succ]
            refine wpAnyH_take (i := 13) (oi := ?oc13Fa) (v := ?vc13Fa) ?hic13Fa (by kernel_rfl) (by kernel_rfl) (by kernel_rfl) ?hQc13Fa ?hyc13Fa hHa ?_
            case hic13Fa => simp only [List.getElem?_toArray, List.getElem?_cons_zero, List.getElem?_cons_succ]; rfl
            case hQc13Fa => exact fun _ _ _ h => h
            case hyc13Fa => refine Or.inl ⟨by rfl, ?_⟩; intro W hSw; (try dsimp only at hSw); go_simp; try with_reducible rfl
            simp only [Act.put, List.setIfInBounds_toArray, List.set_cons_zero, List.set_cons_succ]
            refine wpAnyH_take (i := 14) (oi := ?oc14Fa) (v := ?vc14Fa) ?hic14Fa (by kernel_rfl) (by kernel_rfl) (by kernel_rfl) ?hQc14Fa ?hyc14Fa hHa ?_
            case hic14Fa => simp only [List.getElem?_toArray, List.getElem?_cons_zero, List.getElem?_cons_succ]; rfl
            case hQc14Fa => exact fun _ _ _ h => h
            case hyc14Fa => refine Or.inl ⟨by rfl, ?_⟩; intro W hSw; (try dsimp only at hSw); go_simp; try with_reducible rfl
            simp only [Act.put, List.setIfInBounds_toArray, List.set_cons_zero, List.set_cons_succ]
            clear hHa
            refine wpAnyH_ready (rs := [15]) (by kernel_rfl) (by simp) ?_
            refine AllReadyH.cons (o := ?oalFa) ?hoalFa (fun K' hK => ?_) AllReadyH.nil
            case hoalFa => simp only [List.getElem?_toArray, List.getElem?_cons_zero, List.getElem?_cons_succ]; rfl
            go_simp
            have hx1 : (w1.alloc (.cells #[.slice none 0 0] 26)).heap[w1.heap.size]? = some (.cells #[.slice none 0 0] 26) := heap_alloc_new _ _
            have HBR := Lib.hid (HBW1.out.alloc hz1 (.cells #[.slice none 0 0] 26))
            have HBX := Lib.hid ((HBW1.out.alloc hz1 (.cells #[.slice none 0 0] 26)).mono (show p0 + 1 ≤ wr.heap.size by omega))
            have HOX := Lib.hid (show OwnT (w1.alloc (.cells #[.slice none 0 0] 26)) w0.heap.size (.slice a1 L1.length c1) L1 from OwnT.keep HO1.out ((Below.refl w1.heap.size w1).alloc (Nat.le_refl _) _))
            have HNB := Lib.hid (show (Value.slice a1 L1.length c1).ownBlock ≠ some w1.heap.size from fun e => by have := (World.ownsRow.lt HO1.out _ e).2; omega)
            obtain ⟨ug, hug⟩ : ∃ ug, ug = w1.heap.size := ⟨_, rfl⟩
            rw [← hug] at hx1 HNB ⊢
            have hup : p0 < ug := by omega
            have huw : wr.heap.size ≤ ug := by omega
            clear hug
            refine hK.out _ _ (MKS.out _ HBX.out) (fun hHb => ?_)
            clear hK K'
            (try simp only [Act.put, List.setIfInBounds_toArray, List.set_cons_zero, List.set_cons_succ])
            clear hHb
            generalize w1.alloc (.cells #[.slice none 0 0] 26) = wx at *
            have HGX := Lib.hid hx1
            have cx : wx.cell? ⟨ug, 0, none⟩ = some (.slice none 0 0) := by rw [Lib.cell_of_heap hx1]; rfl
            have fx : wx.frozen? ⟨ug, 0, none⟩ = false := Lib.frozen_of_heap hx1 0
            clear hx1
            refine wpAnyH_ready (rs := [16]) (by kernel_rfl) (by simp) ?_
            refine AllReadyH.cons (o := ?ostFa) ?hostFa (fun K' hK => ?_) AllReadyH.nil
            case hostFa => simp only [List.getElem?_toArray, List.getElem?_cons_zero, List.getElem?_cons_succ]; rfl
            go_simp
            refine hK.out _ _ (MKS.out _ (HBX.out.setCell (p := ⟨ug, 0, none⟩) (by simp only; omega) (.slice a1 L1.length c1))) (fun hHs => ?_)
            clear hK K'
            (try simp only [Act.put, List.setIfInBounds_toArray, List.set_cons_zero, List.set_cons_succ])
            refine wpAnyH_take (i := 17) (oi := ?oasFa) (v := ?vasFa) ?hiasFa (by kernel_rfl) (by kernel_rfl) (by kernel_rfl) ?hQasFa ?hyasFa hHs ?_
            case hiasFa => simp only [List.getElem?_toArray, List.getElem?_cons_zero, List.getElem?_cons_succ]; rfl
            case hQasFa => exact fun _ _ _ h => h
            case hyasFa => refine Or.inl ⟨by rfl, ?_⟩; intro W hSw; (try dsimp only at hSw); go_simp; try with_reducible rfl
            simp only [Act.put, List.setIfInBounds_toArray, List.set_cons_zero, List.set_cons_succ]
            clear hHs
            refine wpAnyH_done (by kernel_rfl) ?_ _
            have HO9 := Lib.hid (show OwnT (wx.setCell ⟨ug, 0, none⟩ (.slice a1 L1.length c1)) (p0 + 1) (.slice a1 L1.length c1) L1 from (own_set_ne HOX.out HNB.out).less (by have := HSW.out; omega))
            have hg9 := blk_set HGX.out 0 (.slice a1 L1.length c1)
            have HB9 := Lib.hid (HBX.out.setCell (p := ⟨ug, 0, none⟩) (by simp only; omega) (.slice a1 L1.length c1))
            have hz9 : p0 + 1 ≤ (wx.setCell ⟨ug, 0, none⟩ (.slice a1 L1.length c1)).heap.size := by rw [World.size_setCell]; have := HBX.out.size; omega
            have HBW9 := Lib.hid (HBR.out.setCell (p := ⟨ug, 0, none⟩) (by simp only; omega) (.slice a1 L1.length c1))
            generalize wx.setCell ⟨ug, 0, none⟩ (.slice a1 L1.length c1) = w9 at *
            have HG9 := Lib.hid hg9
            have g0 := (HB9.out.block p0 (by omega)).trans G0.out
            have G9 := Lib.hid g0
            have y9 : w9.cell? ⟨p0, 0, none⟩ = some (.slice ta L.length tc) := by rw [Lib.cell_of_heap g0]; rfl
            have f9 : w9.frozen? ⟨p0, 0, none⟩ = false := Lib.frozen_of_heap g0 0
            have u9 : w9.cell? ⟨ug, 0, none⟩ = some (.slice a1 L1.length c1) := by rw [Lib.cell_of_heap hg9]; rfl
            clear hg9 g0 cx fx
            go_wp2_with fail
            go_roundw
            case rel => exact ⟨k + 1, L, ta, tc, by omega, by go_num, hR, hL, OwnT.keep HOWN.out HBW9.out, G9.out, HBL.out.trans (HB9.out.mono (by omega))⟩
            case measure => simp [intOf]; omega
          · go_simp
            have hx1 : (w0.alloc (.cells #[.slice none 0 0] 26)).heap[w0.heap.size]? = some (.cells #[.slice none 0 0] 26) := heap_alloc_new _ _
            have hz0 : wr.heap.size ≤ w0.heap.size := by have := HSW.out; omega
            have HBR0 := Lib.hid (HWD.out.alloc hz0 (.cells #[.slice none 0 0] 26))
            have HOX0 := Lib.hid (OwnT.keep HO0.out ((Below.refl w0.heap.size w0).alloc (Nat.le_refl _) (.cells #[.slice none 0 0] 26)))
            have hsz0 : (w0.alloc (.cells #[.slice none 0 0] 26)).heap.size = w0.heap.size + 1 := by rw [World.size_alloc]
            obtain ⟨ug, hug⟩ : ∃ ug, ug = w0.heap.size := ⟨_, rfl⟩
            rw [← hug] at hx1 hsz0 ⊢
            have hup : p0 < ug := by omega
            have huw : wr.heap.size ≤ ug := by omega
            clear hug
            refine hK.out _ _ (MKS.out _ (HBR0.out.mono (by omega))) (fun hHa => ?_)
            clear hK K'
            (try simp only [Act.put, List.setIfInBounds_toArray, List.set_cons_zero, List.set_cons_succ])
            clear hHa
            generalize w0.alloc (.cells #[.slice none 0 0] 26) = w1 at *
            have hugl : ug < w1.heap.size := by omega
            have HGX0 := Lib.hid hx1
            clear hx1 hsz0
            refine wpAnyH_ready (rs := [11]) (by kernel_rfl) (by simp) ?_
            refine AllReadyH.cons (o := ?ocaFb) ?hocaFb (fun K' hK => ?_) AllReadyH.nil
            case hocaFb => simp only [List.getElem?_toArray, List.getElem?_cons_zero, List.getElem?_cons_succ]; rfl
            go_simp
            refine (CS.out w1 _ _ HOX0.out).mono ?_
            rintro e wx ⟨a1, c1, rfl, ho1, hb1⟩
            have HBR := Lib.hid (HBR0.out.trans (hb1.mono (by omega)))
            have HBX := Lib.hid ((HBR0.out.trans (hb1.mono (show wr.heap.size ≤ w1.heap.size by omega))).mono (show p0 + 1 ≤ wr.heap.size by omega))
            have hx1 := (hb1.block ug hugl).trans HGX0.out
            have HOX := Lib.hid (show OwnT wx w1.heap.size (.slice a1 L1.length c1) L1 from ho1)
            have HGX := Lib.hid hx1
            have cx : wx.cell? ⟨ug, 0, none⟩ = some (.slice none 0 0) := by rw [Lib.cell_of_heap hx1]; rfl
            have fx : wx.frozen? ⟨ug, 0, none⟩ = false := Lib.frozen_of_heap hx1 0
            clear ho1 hb1 hx1
            refine hK.out _ _ (MKS.out _ HBX.out) (fun hHb => ?_)
            clear hK K'
            (try simp only [Act.put, List.setIfInBounds_toArray, List.set_cons_zero, List.set_cons_succ])
            refine wpAnyH_take (i := 12) (oi := ?oc12Fb) (v := ?vc12Fb) ?hic12Fb (by kernel_rfl) (by kernel_rfl) (by kernel_rfl) ?hQc12Fb ?hyc12Fb hHb ?_
            case hic12Fb => simp only [List.getElem?_toArray, List.getElem?_cons_zero, List.getElem?_cons_succ]; rfl
            case hQc12Fb => exact fun _ _ _ h => h
            case hyc12Fb => refine Or.inl ⟨by rfl, ?_⟩; intro W hSw; (try dsimp only at hSw); go_simp; try with_reducible rfl
            simp only [Act.put, List.setIfInBounds_toArray, List.set_cons_zero, List.set_cons_succ]
            refine wpAnyH_take (i := 13) (oi := ?oc13Fb) (v := ?vc13Fb) ?hic13Fb (by kernel_rfl) (by kernel_rfl) (by kernel_rfl) ?hQc13Fb ?hyc13Fb hHb ?_
            case hic13Fb => simp only [List.getElem?_toArray, List.getElem?_cons_zero, List.getElem?_cons_succ]; rfl
            case hQc13Fb => exact fun _ _ _ h => h
            case hyc13Fb => refine Or.inl ⟨by rfl, ?_⟩; intro W hSw; (try dsimp only at hSw); go_simp; try with_reducible rfl
            simp only [Act.put, List.setIfInBounds_toArray, List.set_cons_zero, List.set_cons_succ]
            refine wpAnyH_take (i := 14) (oi := ?oc14Fb) (v := ?vc14Fb) ?hic14Fb (by kernel_rfl) (by kernel_rfl) (by kernel_rfl) ?hQc14Fb ?hyc14Fb hHb ?_
            case hic14Fb => simp only [List.getElem?_toArray, List.getElem?_cons_zero, List.getElem?_cons_succ]; rfl
            case hQc14Fb => exact fun _ _ _ h => h
            case hyc14Fb => refine Or.inl ⟨by rfl, ?_⟩; intro W hSw; (try dsimp only at hSw); go_simp; try with_reducible rfl
            simp only [Act.put, List.setIfInBounds_toArray, List.set_cons_zero, List.set_cons_succ]
            clear hHb
            refine wpAnyH_ready (rs := [16]) (by kernel_rfl) (by simp) ?_
            refine AllReadyH.cons (o := ?ostFb) ?hostFb (fun K' hK => ?_) AllReadyH.nil
            case hostFb => simp only [List.getElem?_toArray, List.getElem?_cons_zero, List.getElem?_cons_succ]; rfl
            go_simp
            refine hK.out _ _ (MKS.out _ (HBX.out.setCell (p := ⟨ug, 0, none⟩) (by simp only; omega) (.slice a1 L1.length c1))) (fun hHs => ?_)
            clear hK K'
            (try simp only [Act.put, List.setIfInBounds_toArray, List.set_cons_zero, List.set_cons_succ])
            refine wpAnyH_take (i := 17) (oi := ?oasFb) (v := ?vasFb) ?hiasFb (by kernel_rfl) (by kernel_rfl) (by kernel_rfl) ?hQasFb ?hyasFb hHs ?_
            case hiasFb => simp only [List.getElem?_toArray, List.getElem?_cons_zero, List.getElem?_cons_succ]; rfl
            case hQasFb => exact fun _ _ _ h => h
            case hyasFb => refine Or.inl ⟨by rfl, ?_⟩; intro W hSw; (try dsimp only at hSw); go_simp; try with_reducible rfl
            simp only [Act.put, List.setIfInBounds_toArray, List.set_cons_zero, List.set_cons_succ]
            clear hHs
            refine wpAnyH_done (by kernel_rfl) ?_ _
            have HO9 := Lib.hid (show OwnT (wx.setCell ⟨ug, 0, none⟩ (.slice a1 L1.length c1)) (p0 + 1) (.slice a1 L1.length c1) L1 from (OwnT.set HOX.out (by omega)).less (by omega))
            have hg9 := blk_set HGX.out 0 (.slice a1 L1.length c1)
            have HB9 := Lib.hid (HBX.out.setCell (p := ⟨ug, 0, none⟩) (by simp only; omega) (.slice a1 L1.length c1))
            have hz9 : p0 + 1 ≤ (wx.setCell ⟨ug, 0, none⟩ (.slice a1 L1.length c1)).heap.size := by rw [World.size_setCell]; have := HBX.out.size; omega
            have HBW9 := Lib.hid (HBR.out.setCell (p := ⟨ug, 0, none⟩) (by simp only; omega) (.slice a1 L1.length c1))
            generalize wx.setCell ⟨ug, 0, none⟩ (.slice a1 L1.length c1) = w9 at *
            have HG9 := Lib.hid hg9
            have g0 := (HB9.out.block p0 (by omega)).trans G0.out
            have G9 := Lib.hid g0
            have y9 : w9.cell? ⟨p0, 0, none⟩ = some (.slice ta L.length tc) := by rw [Lib.cell_of_heap g0]; rfl
            have f9 : w9.frozen? ⟨p0, 0, none⟩ = false := Lib.frozen_of_heap g0 0
            have u9 : w9.cell? ⟨ug, 0, none⟩ = some (.slice a1 L1.length c1) := by rw [Lib.cell_of_heap hg9]; rfl
            clear hg9 g0 cx fx
            go_wp2_with fail
            go_roundw
            case rel => exact ⟨k + 1, L, ta, tc, by omega, by go_num, hR, hL, OwnT.keep HOWN.out HBW9.out, G9.out, HBL.out.trans (HB9.out.mono (by omega))⟩
            case measure => simp [intOf]; omega
        · have CS := Lib.hid (fun (X : World) (b : Nat) (v : Value) (h : OwnT X b v L) => (by have h2 := set_any y.name y.at_ hR hL h; rw [hL1e, setErr, if_neg hf] at h2; exact h2))
          clear hL1e hf
          go_wp2_with fail
          refine region_begin (S := fun X => X.cell? ⟨p0, 0, none⟩ = some (.slice ta L.length tc) ∧ X.cell? ⟨b, off + k * 3 + 1, none⟩ = some (.int .i64 y.at_) ∧ X.cell? ⟨b, off + k * 3 + 2, none⟩ = some (.string y.name)) 18 rfl (by kernel_rfl) (MKS.out _ (Below.refl _ _).drew) (fun hH0 => ?_)
          refine wpAnyH_take (i := 0) (oi := ?os0G) (v := ?vs0G) ?his0G (by kernel_rfl) (by kernel_rfl) (by kernel_rfl) ?hQs0G ?hys0G hH0 ?_
          case his0G => simp only [List.getElem?_toArray, List.getElem?_cons_zero]; rfl
          case hQs0G => exact fun _ _ _ h => h
          case hys0G => refine Or.inl ⟨by rfl, ?_⟩; intro W hSw; (try dsimp only at hSw); go_simp; try with_reducible rfl
          simp only [Act.put, List.setIfInBounds_toArray, List.set_cons_zero]
          refine wpAnyH_take (i := 1) (oi := ?os1G) (v := ?vs1G) ?his1G (by kernel_rfl) (by kernel_rfl) (by kernel_rfl) ?hQs1G ?hys1G hH0 ?_
          case his1G => simp only [List.getElem?_toArray, List.getElem?_cons_zero, List.getElem?_cons_succ]; rfl
          case hQs1G => exact fun _ _ _ h => h
          case hys1G => refine Or.inl ⟨by rfl, ?_⟩; intro W hSw; (try dsimp only at hSw); go_simp; try with_reducible rfl
          simp only [Act.put, List.setIfInBounds_toArray, List.set_cons_zero, List.set_cons_succ]
          refine wpAnyH_take (i := 2) (oi := ?os2G) (v := ?vs2G) ?his2G (by kernel_rfl) (by kernel_rfl) (by kernel_rfl) ?hQs2G ?hys2G hH0 ?_
          case his2G => simp only [List.getElem?_toArray, List.getElem?_cons_zero, List.getElem?_cons_succ]; rfl
          case hQs2G => exact fun _ _ _ h => h
          case hys2G => refine Or.inl ⟨by rfl, ?_⟩; intro W hSw; (try dsimp only at hSw); go_simp; try with_reducible rfl
          simp only [Act.put, List.setIfInBounds_toArray, List.set_cons_zero, List.set_cons_succ]
          refine wpAnyH_take (i := 3) (oi := ?os3G) (v := ?vs3G) ?his3G (by kernel_rfl) (by kernel_rfl) (by kernel_rfl) ?hQs3G ?hys3G hH0 ?_
          case his3G => simp only [List.getElem?_toArray, List.getElem?_cons_zero, List.getElem?_cons_succ]; rfl
          case hQs3G => exact fun _ _ _ h => h
          case hys3G => refine Or.inl ⟨by rfl, ?_⟩; intro W hSw; (try dsimp only at hSw); go_simp; try with_reducible rfl
          simp only [Act.put, List.setIfInBounds_toArray, List.set_cons_zero, List.set_cons_succ]
          refine wpAnyH_take (i := 4) (oi := ?os4G) (v := ?vs4G) ?his4G (by kernel_rfl) (by kernel_rfl) (by kernel_rfl) ?hQs4G ?hys4G hH0 ?_
          case his4G => simp only [List.getElem?_toArray, List.getElem?_cons_zero, List.getElem?_cons_succ]; rfl
          case hQs4G => exact fun _ _ _ h => h
          case hys4G => refine Or.inl ⟨by rfl, ?_⟩; intro W hSw; (try dsimp only at hSw); go_simp; try with_reducible rfl
          simp only [Act.put, List.setIfInBounds_toArray, List.set_cons_zero, List.set_cons_succ]
          refine wpAnyH_take (i := 5) (oi := ?os5G) (v := ?vs5G) ?his5G (by kernel_rfl) (by kernel_rfl) (by kernel_rfl) ?hQs5G ?hys5G hH0 ?_
          case his5G => simp only [List.getElem?_toArray, List.getElem?_cons_zero, List.getElem?_cons_succ]; rfl
          case hQs5G => exact fun _ _ _ h => h
          case hys5G => refine Or.inl ⟨by rfl, ?_⟩; intro W hSw; (try dsimp only at hSw); go_simp; try with_reducible rfl
          simp only [Act.put, List.setIfInBounds_toArray, List.set_cons_zero, List.set_cons_succ]
          refine wpAnyH_take (i := 6) (oi := ?os6G) (v := ?vs6G) ?his6G (by kernel_rfl) (by kernel_rfl) (by kernel_rfl) ?hQs6G ?hys6G hH0 ?_
          case his6G => simp only [List.getElem?_toArray, List.getElem?_cons_zero, List.getElem?_cons_succ]; rfl
          case hQs6G => exact fun _ _ _ h => h
          case hys6G => refine Or.inl ⟨by rfl, ?_⟩; intro W hSw; (try dsimp only at hSw); go_simp; try with_reducible rfl
          simp only [Act.put, List.setIfInBounds_toArray, List.set_cons_zero, List.set_cons_succ]
          refine wpAnyH_take (i := 7) (oi := ?os7G) (v := ?vs7G) ?his7G (by kernel_rfl) (by kernel_rfl) (by kernel_rfl) ?hQs7G ?hys7G hH0 ?_
          case his7G => simp only [List.getElem?_toArray, List.getElem?_cons_zero, List.getElem?_cons_succ]; rfl
          case hQs7G => exact fun _ _ _ h => h
          case hys7G => refine Or.inl ⟨by rfl, ?_⟩; intro W hSw; (try dsimp only at hSw); go_simp; try with_reducible rfl
          simp only [Act.put, List.setIfInBounds_toArray, List.set_cons_zero, List.set_cons_succ]
          refine wpAnyH_take (i := 8) (oi := ?os8G) (v := ?vs8G) ?his8G (by kernel_rfl) (by kernel_rfl) (by kernel_rfl) ?hQs8G ?hys8G hH0 ?_
          case his8G => simp only [List.getElem?_toArray, List.getElem?_cons_zero, List.getElem?_cons_succ]; rfl
          case hQs8G => exact fun _ _ _ h => h
          case hys8G => refine Or.inl ⟨by rfl, ?_⟩; intro W hSw; (try dsimp only at hSw); go_simp; try with_reducible rfl
          simp only [Act.put, List.setIfInBounds_toArray, List.set_cons_zero, List.set_cons_succ]
          refine wpAnyH_take (i := 9) (oi := ?os9G) (v := ?vs9G) ?his9G (by kernel_rfl) (by kernel_rfl) (by kernel_rfl) ?hQs9G ?hys9G hH0 ?_
          case his9G => simp only [List.getElem?_toArray, List.getElem?_cons_zero, List.getElem?_cons_succ]; rfl
          case hQs9G => exact fun _ _ _ h => h
          case hys9G => refine Or.inl ⟨by rfl, ?_⟩; intro W hSw; (try dsimp only at hSw); go_simp; try with_reducible rfl
          simp only [Act.put, List.setIfInBounds_toArray, List.set_cons_zero, List.set_cons_succ]
          refine wpAnyH_take (i := 10) (oi := ?os10G) (v := ?vs10G) ?his10G (by kernel_rfl) (by kernel_rfl) (by kernel_rfl) ?hQs10G ?hys10G hH0 ?_
          case his10G => simp only [List.getElem?_toArray, List.getElem?_cons_zero, List.getElem?_cons_succ]; rfl
          case hQs10G => exact fun _ _ _ h => h
          case hys10G => refine Or.inl ⟨by rfl, ?_⟩; intro W hSw; (try dsimp only at hSw); go_simp; try with_reducible rfl
          simp only [Act.put, List.setIfInBounds_toArray, List.set_cons_zero, List.set_cons_succ]
          clear hH0
          have hwd : Below wr.heap.size wr wr.drew := (Below.refl _ _).drew
          have hsw : wr.drew.heap.size = wr.heap.size := rfl
          have HWD := Lib.hid hwd
          have HSW := Lib.hid hsw
          generalize wr.drew = w0 at *
          have HO0 := Lib.hid (OwnT.keep HOWN.out HWD.out)
          clear hwd hsw
          refine wpAnyH_ready (rs := [11, 15]) (by kernel_rfl) (by simp) ?_
          refine AllReadyH.cons (o := ?otwGa) ?hotwGa (fun K' hK => ?_) (AllReadyH.cons (o := ?otwGb) ?hotwGb (fun K' hK => ?_) AllReadyH.nil)
          case hotwGa => simp only [List.getElem?_toArray, List.getElem?_cons_zero, List.getElem?_cons_succ]; rfl
          case hotwGb => simp only [List.getElem?_toArray, List.getElem?_cons_zero, List.getElem?_cons_succ]; rfl
          · go_simp
            refine (CS.out w0 _ _ HO0.out).mono ?_
            rintro e w1 ⟨a1, c1, rfl, ho1, hb1⟩
            have hbw1 : Below wr.heap.size wr w1 := HWD.out.trans (hb1.mono (by have := HSW.out; omega))
            have hz1 : wr.heap.size ≤ w1.heap.size := hbw1.size
            have HBW1 := Lib.hid hbw1
            have HO1 := Lib.hid ho1
            clear ho1 hb1 hbw1
            refine hK.out _ _ (MKS.out _ (HBW1.out.mono (by omega))) (fun hHa => ?_)
            clear hK K'
            (try simp only [Act.put, List.setIfInBounds_toArray, List.set_cons_zero, List.set_cons_succ])
            refine wpAnyH_take (i := 12) (oi := ?oc12Ga) (v := ?vc12Ga) ?hic12Ga (by kernel_rfl) (by kernel_rfl) (by kernel_rfl) ?hQc12Ga ?hyc12Ga hHa ?_
            case hic12Ga => simp only [List.getElem?_toArray, List.getElem?_cons_zero, List.getElem?_cons_succ]; rfl
            case hQc12Ga => exact fun _ _ _ h => h
            case hyc12Ga => refine Or.inl ⟨by rfl, ?_⟩; intro W hSw; (try dsimp only at hSw); go_simp; try with_reducible rfl
            simp only [Act.put, List.setIfInBounds_toArray, List.set_cons_zero, List.set_cons_succ]
            refine wpAnyH_take (i := 13) (oi := ?oc13Ga) (v := ?vc13Ga) ?hic13Ga (by kernel_rfl) (by kernel_rfl) (by kernel_rfl) ?hQc13Ga ?hyc13Ga hHa ?_
            case hic13Ga => simp only [List.getElem?_toArray, List.getElem?_cons_zero, List.getElem?_cons_succ]; rfl
            case hQc13Ga => exact fun _ _ _ h => h
            case hyc13Ga => refine Or.inl ⟨by rfl, ?_⟩; intro W hSw; (try dsimp only at hSw); go_simp; try with_reducible rfl
            simp only [Act.put, List.setIfInBounds_toArray, List.set_cons_zero, List.set_cons_succ]
            refine wpAnyH_take (i := 14) (oi := ?oc14Ga) (v := ?vc14Ga) ?hic14Ga (by kernel_rfl) (by kernel_rfl) (by kernel_rfl) ?hQc14Ga ?hyc14Ga hHa ?_
            case hic14Ga => simp only [List.getElem?_toArray, List.getElem?_cons_zero, List.getElem?_cons_succ]; rfl
            case hQc14Ga => exact fun _ _ _ h => h
            case hyc14Ga => refine Or.inl ⟨by rfl, ?_⟩; intro W hSw; (try dsimp only at hSw); go_simp; try with_reducible rfl
            simp only [Act.put, List.setIfInBounds_toArray, List.set_cons_zero, List.set_cons_succ]
            clear hHa
            refine wpAnyH_ready (rs := [15]) (by kernel_rfl) (by simp) ?_
            refine AllReadyH.cons (o := ?oalGa) ?hoalGa (fun K' hK => ?_) AllReadyH.nil
            case hoalGa => simp only [List.getElem?_toArray, List.getElem?_cons_zero, List.getElem?_cons_succ]; rfl
            go_simp
            have hx1 : (w1.alloc (.cells #[.slice none 0 0] 26)).heap[w1.heap.size]? = some (.cells #[.slice none 0 0] 26) := heap_alloc_new _ _
            have HBR := Lib.hid (HBW1.out.alloc hz1 (.cells #[.slice none 0 0] 26))
            have HBX := Lib.hid ((HBW1.out.alloc hz1 (.cells #[.slice none 0 0] 26)).mono (show p0 + 1 ≤ wr.heap.size by omega))
            have HOX := Lib.hid (show OwnT (w1.alloc (.cells #[.slice none 0 0] 26)) w0.heap.size (.slice a1 L1.length c1) L1 from OwnT.keep HO1.out ((Below.refl w1.heap.size w1).alloc (Nat.le_refl _) _))
            have HNB := Lib.hid (show (Value.slice a1 L1.length c1).ownBlock ≠ some w1.heap.size from fun e => by have := (World.ownsRow.lt HO1.out _ e).2; omega)
            obtain ⟨ug, hug⟩ : ∃ ug, ug = w1.heap.size := ⟨_, rfl⟩
            rw [← hug] at hx1 HNB ⊢
            have hup : p0 < ug := by omega
            have huw : wr.heap.size ≤ ug := by omega
            clear hug
            refine hK.out _ _ (MKS.out _ HBX.out) (fun hHb => ?_)
            clear hK K'
            (try simp only [Act.put, List.setIfInBounds_toArray, List.set_cons_zero, List.set_cons_succ])
            clear hHb
            generalize w1.alloc (.cells #[.slice none 0 0] 26) = wx at *
            have HGX := Lib.hid hx1
            have cx : wx.cell? ⟨ug, 0, none⟩ = some (.slice none 0 0) := by rw [Lib.cell_of_heap hx1]; rfl
            have fx : wx.frozen? ⟨ug, 0, none⟩ = false := Lib.frozen_of_heap hx1 0
            clear hx1
            refine wpAnyH_ready (rs := [16]) (by kernel_rfl) (by simp) ?_
            refine AllReadyH.cons (o := ?ostGa) ?hostGa (fun K' hK => ?_) AllReadyH.nil
            case hostGa => simp only [List.getElem?_toArray, List.getElem?_cons_zero, List.getElem?_cons_succ]; rfl
            go_simp
            refine hK.out _ _ (MKS.out _ (HBX.out.setCell (p := ⟨ug, 0, none⟩) (by simp only; omega) (.slice a1 L1.length c1))) (fun hHs => ?_)
            clear hK K'
            (try simp only [Act.put, List.setIfInBounds_toArray, List.set_cons_zero, List.set_cons_succ])
            refine wpAnyH_take (i := 17) (oi := ?oasGa) (v := ?vasGa) ?hiasGa (by kernel_rfl) (by kernel_rfl) (by kernel_rfl) ?hQasGa ?hyasGa hHs ?_
            case hiasGa => simp only [List.getElem?_toArray, List.getElem?_cons_zero, List.getElem?_cons_succ]; rfl
            case hQasGa => exact fun _ _ _ h => h
            case hyasGa => refine Or.inl ⟨by rfl, ?_⟩; intro W hSw; (try dsimp only at hSw); go_simp; try with_reducible rfl
            simp only [Act.put, List.setIfInBounds_toArray, List.set_cons_zero, List.set_cons_succ]
            clear hHs
            refine wpAnyH_done (by kernel_rfl) ?_ _
            have HO9 := Lib.hid (show OwnT (wx.setCell ⟨ug, 0, none⟩ (.slice a1 L1.length c1)) (p0 + 1) (.slice a1 L1.length c1) L1 from (own_set_ne HOX.out HNB.out).less (by have := HSW.out; omega))
            have hg9 := blk_set HGX.out 0 (.slice a1 L1.length c1)
            have HB9 := Lib.hid (HBX.out.setCell (p := ⟨ug, 0, none⟩) (by simp only; omega) (.slice a1 L1.length c1))
            have hz9 : p0 + 1 ≤ (wx.setCell ⟨ug, 0, none⟩ (.slice a1 L1.length c1)).heap.size := by rw [World.size_setCell]; have := HBX.out.size; omega
            generalize wx.setCell ⟨ug, 0, none⟩ (.slice a1 L1.length c1) = w9 at *
            have HG9 := Lib.hid hg9
            have g0 := (HB9.out.block p0 (by omega)).trans G0.out
            have G9 := Lib.hid g0
            have y9 : w9.cell? ⟨p0, 0, none⟩ = some (.slice ta L.length tc) := by rw [Lib.cell_of_heap g0]; rfl
            have f9 : w9.frozen? ⟨p0, 0, none⟩ = false := Lib.frozen_of_heap g0 0
            have u9 : w9.cell? ⟨ug, 0, none⟩ = some (.slice a1 L1.length c1) := by rw [Lib.cell_of_heap hg9]; rfl
            clear hg9 g0 cx fx
            go_wp2_with fail
            go_roundw
            case rel =>
              have hb10 := HB9.out
              refine ⟨k + 1, L1, a1, c1, by omega, by go_num, hR1, hL1, OwnT.set HO9.out (by omega), blk_set G9.out 0 _, HBL.out.trans ⟨hb10.os, hb10.tape, hb10.output, by rw [World.size_setCell]; exact hb10.size, fun q hq => ?_⟩⟩
              have h1 := hb10.block q (by omega)
              rw [← h1]
              simp only [World.setCell]
              rw [Array.getElem?_modify, if_neg (by omega)]
            case measure => simp [intOf]; omega
          · go_simp
            have hx1 : (w0.alloc (.cells #[.slice none 0 0] 26)).heap[w0.heap.size]? = some (.cells #[.slice none 0 0] 26) := heap_alloc_new _ _
            have hz0 : wr.heap.size ≤ w0.heap.size := by have := HSW.out; omega
            have HBR0 := Lib.hid (HWD.out.alloc hz0 (.cells #[.slice none 0 0] 26))
            have HOX0 := Lib.hid (OwnT.keep HO0.out ((Below.refl w0.heap.size w0).alloc (Nat.le_refl _) (.cells #[.slice none 0 0] 26)))
            have hsz0 : (w0.alloc (.cells #[.slice none 0 0] 26)).heap.size = w0.heap.size + 1 := by rw [World.size_alloc]
            obtain ⟨ug, hug⟩ : ∃ ug, ug = w0.heap.size := ⟨_, rfl⟩
            rw [← hug] at hx1 hsz0 ⊢
            have hup : p0 < ug := by omega
            have huw : wr.heap.size ≤ ug := by omega
            clear hug
            refine hK.out _ _ (MKS.out _ (HBR0.out.mono (by omega))) (fun hHa => ?_)
            clear hK K'
            (try simp only [Act.put, List.setIfInBounds_toArray, List.set_cons_zero, List.set_cons_succ])
            clear hHa
            generalize w0.alloc (.cells #[.slice none 0 0] 26) = w1 at *
            have hugl : ug < w1.heap.size := by omega
            have HGX0 := Lib.hid hx1
            clear hx1 hsz0
            refine wpAnyH_ready (rs := [11]) (by kernel_rfl) (by simp) ?_
            refine AllReadyH.cons (o := ?ocaGb) ?hocaGb (fun K' hK => ?_) AllReadyH.nil
            case hocaGb => simp only [List.getElem?_toArray, List.getElem?_cons_zero, List.getElem?_cons_succ]; rfl
            go_simp
            refine (CS.out w1 _ _ HOX0.out).mono ?_
            rintro e wx ⟨a1, c1, rfl, ho1, hb1⟩
            have HBR := Lib.hid (HBR0.out.trans (hb1.mono (by omega)))
            have HBX := Lib.hid ((HBR0.out.trans (hb1.mono (show wr.heap.size ≤ w1.heap.size by omega))).mono (show p0 + 1 ≤ wr.heap.size by omega))
            have hx1 := (hb1.block ug hugl).trans HGX0.out
            have HOX := Lib.hid (show OwnT wx w1.heap.size (.slice a1 L1.length c1) L1 from ho1)
            have HGX := Lib.hid hx1
            have cx : wx.cell? ⟨ug, 0, none⟩ = some (.slice none 0 0) := by rw [Lib.cell_of_heap hx1]; rfl
            have fx : wx.frozen? ⟨ug, 0, none⟩ = false := Lib.frozen_of_heap hx1 0
            clear ho1 hb1 hx1
            refine hK.out _ _ (MKS.out _ HBX.out) (fun hHb => ?_)
            clear hK K'
            (try simp only [Act.put, List.setIfInBounds_toArray, List.set_cons_zero, List.set_cons_succ])
            refine wpAnyH_take (i := 12) (oi := ?oc12Gb) (v := ?vc12Gb) ?hic12Gb (by kernel_rfl) (by kernel_rfl) (by kernel_rfl) ?hQc12Gb ?hyc12Gb hHb ?_
            case hic12Gb => simp only [List.getElem?_toArray, List.getElem?_cons_zero, List.getElem?_cons_succ]; rfl
            case hQc12Gb => exact fun _ _ _ h => h
            case hyc12Gb => refine Or.inl ⟨by rfl, ?_⟩; intro W hSw; (try dsimp only at hSw); go_simp; try with_reducible rfl
            simp only [Act.put, List.setIfInBounds_toArray, List.set_cons_zero, List.set_cons_succ]
            refine wpAnyH_take (i := 13) (oi := ?oc13Gb) (v := ?vc13Gb) ?hic13Gb (by kernel_rfl) (by kernel_rfl) (by kernel_rfl) ?hQc13Gb ?hyc13Gb hHb ?_
            case hic13Gb => simp only [List.getElem?_toArray, List.getElem?_cons_zero, List.getElem?_cons_succ]; rfl
            case hQc13Gb => exact fun _ _ _ h => h
            case hyc13Gb => refine Or.inl ⟨by rfl, ?_⟩; intro W hSw; (try dsimp only at hSw); go_simp; try with_reducible rfl
            simp only [Act.put, List.setIfInBounds_toArray, List.set_cons_zero, List.set_cons_succ]
            refine wpAnyH_take (i := 14) (oi := ?oc14Gb) (v := ?vc14Gb) ?hic14Gb (by kernel_rfl) (by kernel_rfl) (by kernel_rfl) ?hQc14Gb ?hyc14Gb hHb ?_
            case hic14Gb => simp only [List.getElem?_toArray, List.getElem?_cons_zero, List.getElem?_cons_succ]; rfl
            case hQc14Gb => exact fun _ _ _ h => h
            case hyc14Gb => refine Or.inl ⟨by rfl, ?_⟩; intro W hSw; (try dsimp only at hSw); go_simp; try with_reducible rfl
            simp only [Act.put, List.setIfInBounds_toArray, List.set_cons_zero, List.set_cons_succ]
            clear hHb
            refine wpAnyH_ready (rs := [16]) (by kernel_rfl) (by simp) ?_
            refine AllReadyH.cons (o := ?ostGb) ?hostGb (fun K' hK => ?_) AllReadyH.nil
            case hostGb => simp only [List.getElem?_toArray, List.getElem?_cons_zero, List.getElem?_cons_succ]; rfl
            go_simp
            refine hK.out _ _ (MKS.out _ (HBX.out.setCell (p := ⟨ug, 0, none⟩) (by simp only; omega) (.slice a1 L1.length c1))) (fun hHs => ?_)
            clear hK K'
            (try simp only [Act.put, List.setIfInBounds_toArray, List.set_cons_zero, List.set_cons_succ])
            refine wpAnyH_take (i := 17) (oi := ?oasGb) (v := ?vasGb) ?hiasGb (by kernel_rfl) (by kernel_rfl) (by kernel_rfl) ?hQasGb ?hyasGb hHs ?_
            case hiasGb => simp only [List.getElem?_toArray, List.getElem?_cons_zero, List.getElem?_cons_succ]; rfl
            case hQasGb => exact fun _ _ _ h => h
            case hyasGb => refine Or.inl ⟨by rfl, ?_⟩; intro W hSw; (try dsimp only at hSw); go_simp; try with_reducible rfl
            simp only [Act.put, List.setIfInBounds_toArray, List.set_cons_zero, List.set_cons_succ]
            clear hHs
            refine wpAnyH_done (by kernel_rfl) ?_ _
            have HO9 := Lib.hid (show OwnT (wx.setCell ⟨ug, 0, none⟩ (.slice a1 L1.length c1)) (p0 + 1) (.slice a1 L1.length c1) L1 from (OwnT.set HOX.out (by omega)).less (by omega))
            have hg9 := blk_set HGX.out 0 (.slice a1 L1.length c1)
            have HB9 := Lib.hid (HBX.out.setCell (p := ⟨ug, 0, none⟩) (by simp only; omega) (.slice a1 L1.length c1))
            have hz9 : p0 + 1 ≤ (wx.setCell ⟨ug, 0, none⟩ (.slice a1 L1.length c1)).heap.size := by rw [World.size_setCell]; have := HBX.out.size; omega
            generalize wx.setCell ⟨ug, 0, none⟩ (.slice a1 L1.length c1) = w9 at *
            have HG9 := Lib.hid hg9
            have g0 := (HB9.out.block p0 (by omega)).trans G0.out
            have G9 := Lib.hid g0
            have y9 : w9.cell? ⟨p0, 0, none⟩ = some (.slice ta L.length tc) := by rw [Lib.cell_of_heap g0]; rfl
            have f9 : w9.frozen? ⟨p0, 0, none⟩ = false := Lib.frozen_of_heap g0 0
            have u9 : w9.cell? ⟨ug, 0, none⟩ = some (.slice a1 L1.length c1) := by rw [Lib.cell_of_heap hg9]; rfl
            clear hg9 g0 cx fx
            go_wp2_with fail
            go_roundw
            case rel =>
              have hb10 := HB9.out
              refine ⟨k + 1, L1, a1, c1, by omega, by go_num, hR1, hL1, OwnT.set HO9.out (by omega), blk_set G9.out 0 _, HBL.out.trans ⟨hb10.os, hb10.tape, hb10.output, by rw [World.size_setCell]; exact hb10.size, fun q hq => ?_⟩⟩
              have h1 := hb10.block q (by omega)
              rw [← h1]
              simp only [World.setCell]
              rw [Array.getElem?_modify, if_neg (by omega)]
            case measure => simp [intOf]; omega
      · have g : ¬ ((k : Int) < (l.length : Int)) := by omega
        obtain ⟨m, hm⟩ : ∃ m, min a b0 = m := ⟨_, rfl⟩
        obtain ⟨M, hM⟩ : ∃ M, max a b0 = M := ⟨_, rfl⟩
        have hmM : m ≤ M := by omega
        obtain ⟨d1, hd1⟩ : ∃ d, dueR m L = d := ⟨_, rfl⟩
        obtain ⟨r1, hr1⟩ : ∃ d, restR m L = d := ⟨_, rfl⟩
        obtain ⟨d2, hd2⟩ : ∃ d, dueR M r1 = d := ⟨_, rfl⟩
        obtain ⟨r2, hr2⟩ : ∃ d, restR M r1 = d := ⟨_, rfl⟩
        obtain ⟨d3, hd3⟩ : ∃ d, dueR M L = d := ⟨_, rfl⟩
        obtain ⟨r3, hr3⟩ : ∃ d, restR M L = d := ⟨_, rfl⟩
        have hR1 : RightT r1 := by rw [← hr1]; exact due_right hR m
        have hL1 : r1.length ≤ 64 := by rw [← hr1]; exact Nat.le_trans (List.length_filter_le _ _) hL
        have hL2 : r2.length ≤ 64 := by rw [← hr2]; exact Nat.le_trans (List.length_filter_le _ _) hL1
        have hD1 : d1.length ≤ 64 := by rw [← hd1]; exact Nat.le_trans (List.length_filter_le _ _) hL
        have hD2 : d2.length ≤ 64 := by rw [← hd2]; exact Nat.le_trans (List.length_filter_le _ _) hL1
        have e1 : d1.map (·.name) ++ d2.map (·.name) = d3.map (·.name) := by rw [← List.map_append, ← hd1, ← hd2, ← hr1, takes_due L hmM hR, hd3]
        have e2 : r3 = r2 := by rw [← hr2, ← hr1, takes_rest L hmM, hr3]
        have S1 := Lib.hid (fun (X : World) (b : Nat) (v : Value) (h : OwnT X b v L) => (by have h2 := due_ok (min a b0) hR hL h; rw [hm, hd1, hr1, ← hm] at h2; exact h2))
        have S2 := Lib.hid (fun (X : World) (b : Nat) (v : Value) (h : OwnT X b v r1) => (by have h2 := due_ok (max a b0) hR1 hL1 h; rw [hM, hd2, hr2, ← hM] at h2; exact h2))
        have S3 := Lib.hid (fun (X : World) (b : Nat) (v : Value) (h : OwnT X b v L) => (by have h2 := due_ok (max a b0) hR hL h; rw [hM, hd3, hr3, e2, ← hM] at h2; exact h2))
        have E1 := Lib.hid e1
        have HBLW := Lib.hid (show Below w1.heap.size w1 wr by rw [HP0.out]; exact HBL.out)
        have HWP := Lib.hid (show w.heap.size ≤ p0 from by have := HP0.out; omega)
        clear hm hM hmM hd1 hr1 hd2 hr2 hd3 hr3 hR1 e1 e2 hR
        go_wp2_with fail
        refine (S1.out _ _ _ HOWN.out).mono ?_
        rintro e w2 ⟨a2, c2, na2, nc2, rfl, ho2, hn2, hb2⟩
        have hk := (Below.refl w2.heap.size w2).alloc (Nat.le_refl _) (.cells #[.slice a2 r1.length c2] 26)
        have g2 := (hk.block p0 (by have := hb2.size; omega)).trans ((hb2.block p0 hz0).trans G0.out)
        have y2 : (w2.alloc (.cells #[.slice a2 r1.length c2] 26)).cell? ⟨p0, 0, none⟩ = some (.slice ta L.length tc) := by rw [Lib.cell_of_heap g2]; rfl
        have HB2 := Lib.hid ((bstep HBLW.out hb2).trans (hk.mono (show w1.heap.size ≤ w2.heap.size from Nat.le_trans HBLW.out.size hb2.size)))
        have HT2 := Lib.hid (OwnT.keep (OwnT.keep HOWN.out hb2) hk)
        have HU2 := Lib.hid (ho2.keep hk)
        have HX2 := Lib.hid (hn2.keep hk)
        have G2 := Lib.hid g2
        have hp2 : p0 < (w2.alloc (.cells #[.slice a2 r1.length c2] 26)).heap.size := (Array.getElem?_eq_some_iff.1 g2).1
        have hz2 : p0 < w2.heap.size := by have := hb2.size; omega
        clear ho2 hn2 hb2 hk g2 y0
        go_wp2_with fail
        refine (S2.out _ _ _ HU2.out).mono ?_
        rintro e w3 ⟨a3, c3, na3, nc3, rfl, ho3, hn3, hb3⟩
        have hk := (Below.refl w3.heap.size w3).alloc (Nat.le_refl _) (.cells #[.slice a3 r2.length c3] 26)
        have hz3 : p0 < w3.heap.size := by have := hb3.size; omega
        have g3 := (hk.block p0 hz3).trans ((hb3.block p0 hp2).trans G2.out)
        have y3 : (w3.alloc (.cells #[.slice a3 r2.length c3] 26)).cell? ⟨p0, 0, none⟩ = some (.slice ta L.length tc) := by rw [Lib.cell_of_heap g3]; rfl
        have HB3 := Lib.hid ((bstep HB2.out hb3).trans (hk.mono (show w1.heap.size ≤ w3.heap.size from Nat.le_trans HB2.out.size hb3.size)))
        have HT3 := Lib.hid (OwnT.keep (OwnT.keep HT2.out hb3) hk)
        have HV3 := Lib.hid (ho3.keep hk)
        have HX3 := Lib.hid ((HX2.out.keep hb3).keep hk)
        have HY3 := Lib.hid (hn3.keep hk)
        have GV3 := Lib.hid (heap_alloc_new w3 (.cells #[.slice a3 r2.length c3] 26))
        have hs3 : w3.heap.size < (w3.alloc (.cells #[.slice a3 r2.length c3] 26)).heap.size := by rw [World.size_alloc]; omega
        clear ho3 hn3 hb3 hk g3 y2
        go_wp2_with fail
        refine (S3.out _ _ _ HT3.out).mono ?_
        rintro e w4 ⟨a4, c4, na4, nc4, rfl, ho4, hn4, hb4⟩
        have hk := (Below.refl w4.heap.size w4).alloc (Nat.le_refl _) (.cells #[.slice a4 r2.length c4] 26)
        have hz4 : w3.heap.size < w4.heap.size := by have := hb4.size; omega
        have gv := (hk.block w3.heap.size hz4).trans ((hb4.block w3.heap.size hs3).trans GV3.out)
        have gw := heap_alloc_new w4 (.cells #[.slice a4 r2.length c4] 26)
        have hB4 := ((bstep HB3.out hb4).trans (hk.mono (show w1.heap.size ≤ w4.heap.size from Nat.le_trans HB3.out.size hb4.size)))
        have hV4 := (OwnT.keep (OwnT.keep HV3.out hb4) hk).tq (by omega)
        have hW4 := (ho4.keep hk).tq (by omega)
        have hX4 := ((HX3.out.keep hb4).keep hk).strs
        have hY4 := ((HY3.out.keep hb4).keep hk).strs
        have hZ4 := (hn4.keep hk).strs
        have hsz4 : (w4.alloc (.cells #[.slice a4 r2.length c4] 26)).heap.size = w4.heap.size + 1 := by rw [World.size_alloc]
        clear ho4 hn4 hb4 hk y3 hs3 hz3
        go_wp2_with fail
        generalize w4.alloc (.cells #[.slice a4 r2.length c4] 26) = z0 at *
        have HB4 := Lib.hid hB4
        have HV4 := Lib.hid hV4
        have HW4 := Lib.hid hW4
        have HX4 := Lib.hid hX4
        have HY4 := Lib.hid hY4
        have HZ4 := Lib.hid hZ4
        have GV := Lib.hid gv
        have GW := Lib.hid gw
        have hzv : w3.heap.size < z0.heap.size := by omega
        have hzw : w4.heap.size < z0.heap.size := by omega
        have MKS := Lib.hid (fun (X : World) (hX : Below z0.heap.size z0 X) => (show (fun X => X.cell? ⟨w3.heap.size, 0, none⟩ = some (.slice a3 r2.length c3) ∧ X.cell? ⟨w4.heap.size, 0, none⟩ = some (.slice a4 r2.length c4)) X from ⟨by rw [Lib.cell_of_heap ((hX.block w3.heap.size hzv).trans GV.out)]; rfl, by rw [Lib.cell_of_heap ((hX.block w4.heap.size hzw).trans GW.out)]; rfl⟩))
        clear hB4 hV4 hW4 hX4 hY4 hZ4 gv gw hsz4
        refine region_begin (S := fun X => X.cell? ⟨w3.heap.size, 0, none⟩ = some (.slice a3 r2.length c3) ∧ X.cell? ⟨w4.heap.size, 0, none⟩ = some (.slice a4 r2.length c4)) 15 rfl (by kernel_rfl) (MKS.out _ (Below.refl _ _).drew) (fun hH0 => ?_)
        refine wpAnyH_take (i := 1) (oi := ?or1) (v := ?vr1) ?hir1 (by kernel_rfl) (by kernel_rfl) (by kernel_rfl) ?hQr1 ?hyr1 hH0 ?_
        case hir1 => simp only [List.getElem?_toArray, List.getElem?_cons_zero, List.getElem?_cons_succ]; rfl
        case hQr1 => exact fun _ _ _ h => h
        case hyr1 => refine Or.inl ⟨by rfl, ?_⟩; intro W hSw; (try dsimp only at hSw); go_simp; try with_reducible rfl
        simp only [Act.put, List.setIfInBounds_toArray, List.set_cons_zero, List.set_cons_succ]
        refine wpAnyH_take (i := 3) (oi := ?or3) (v := ?vr3) ?hir3 (by kernel_rfl) (by kernel_rfl) (by kernel_rfl) ?hQr3 ?hyr3 hH0 ?_
        case hir3 => simp only [List.getElem?_toArray, List.getElem?_cons_zero, List.getElem?_cons_succ]; rfl
        case hQr3 => exact fun _ _ _ h => h
        case hyr3 => refine Or.inl ⟨by rfl, ?_⟩; intro W hSw; (try dsimp only at hSw); go_simp; try with_reducible rfl
        simp only [Act.put, List.setIfInBounds_toArray, List.set_cons_zero, List.set_cons_succ]
        refine wpAnyH_take (i := 5) (oi := ?or5) (v := ?vr5) ?hir5 (by kernel_rfl) (by kernel_rfl) (by kernel_rfl) ?hQr5 ?hyr5 hH0 ?_
        case hir5 => simp only [List.getElem?_toArray, List.getElem?_cons_zero, List.getElem?_cons_succ]; rfl
        case hQr5 => exact fun _ _ _ h => h
        case hyr5 => refine Or.inl ⟨by rfl, ?_⟩; intro W hSw; (try dsimp only at hSw); go_simp; try with_reducible rfl
        simp only [Act.put, List.setIfInBounds_toArray, List.set_cons_zero, List.set_cons_succ]
        clear hH0
        have hwd : Below z0.heap.size z0 z0.drew := (Below.refl _ _).drew
        have hsw : z0.drew.heap.size = z0.heap.size := rfl
        have HWD := Lib.hid hwd
        have HSW := Lib.hid hsw
        generalize z0.drew = z1 at *
        clear hwd hsw
        refine wpAnyH_ready (rs := [0]) (by kernel_rfl) (by simp) ?_
        refine AllReadyH.cons (o := ?or0) ?hor0 (fun K' hK => ?_) AllReadyH.nil
        case hor0 => simp only [List.getElem?_toArray, List.getElem?_cons_zero]; rfl
        go_simp
        have hz1 : z0.heap.size ≤ z1.heap.size := by have := HSW.out; omega
        have hx2 : (z1.alloc (.cells #[] 9)).heap[z1.heap.size]? = some (.cells #[] 9) := heap_alloc_new _ _
        have hb2 : Below z0.heap.size z0 (z1.alloc (.cells #[] 9)) := HWD.out.alloc hz1 _
        have hs2 : (z1.alloc (.cells #[] 9)).heap.size = z1.heap.size + 1 := by rw [World.size_alloc]
        obtain ⟨q1, hq1⟩ : ∃ q, q = z1.heap.size := ⟨_, rfl⟩
        rw [← hq1] at hx2 hs2 hz1 ⊢
        clear hq1
        have HX2 := Lib.hid hx2
        have HS2 := Lib.hid hs2
        have HB2z := Lib.hid hb2
        clear hx2 hs2 hb2
        refine hK.out _ _ (MKS.out _ HB2z.out) (fun hHa => ?_)
        clear hK K'
        (try simp only [Act.put, List.setIfInBounds_toArray, List.set_cons_zero, List.set_cons_succ])
        clear hHa
        generalize z1.alloc (.cells #[] 9) = z2 at *
        have HO2 := Lib.hid (show OwnS z2 q1 (.slice (some ⟨q1, 0, none⟩) 0 0) [] from ⟨rfl, .inr ⟨q1, 0, #[], rfl, Nat.le_refl _, HX2.out, Nat.le_refl _, by unfold maxLen; omega, rfl, rfl⟩⟩)
        refine wpAnyH_ready (rs := [2]) (by kernel_rfl) (by simp) ?_
        refine AllReadyH.cons (o := ?or2) ?hor2 (fun K' hK => ?_) AllReadyH.nil
        case hor2 => simp only [List.getElem?_toArray, List.getElem?_cons_zero, List.getElem?_cons_succ]; rfl
        refine step_append_strs (by rfl) _ _ (by rfl) (by rfl) (by rfl) HO2.out (HX4.out.keep HB2z.out (Nat.le_refl _)) (by have := HS2.out; omega) (by simp only [List.length_nil, List.length_map]; omega) ?_
        intro a5 c5 z3 ho5 hg5
        rw [List.nil_append] at ho5 ⊢
        have hb5 : Below z0.heap.size z0 z3 := HB2z.out.trans ⟨hg5.os, hg5.tape, hg5.output, hg5.size, fun q hq => hg5.block q (by have := HS2.out; omega) (fun e => by simp only [Value.ownBlock, Option.some.injEq] at e; omega)⟩
        have HB5 := Lib.hid hb5
        have HO5 := Lib.hid ho5
        have hz5 : q1 ≤ z3.heap.size := by have := hg5.size; have := HS2.out; omega
        clear hb5 ho5 hg5
        refine hK.out _ _ (MKS.out _ HB5.out) (fun hHb => ?_)
        clear hK K'
        (try simp only [Act.put, List.setIfInBounds_toArray, List.set_cons_zero, List.set_cons_succ])
        clear hHb
        refine wpAnyH_ready (rs := [4]) (by kernel_rfl) (by simp) ?_
        refine AllReadyH.cons (o := ?or4) ?hor4 (fun K' hK => ?_) AllReadyH.nil
        case hor4 => simp only [List.getElem?_toArray, List.getElem?_cons_zero, List.getElem?_cons_succ]; rfl
        refine step_append_strs (by rfl) _ _ (by rfl) (by rfl) (by rfl) HO5.out (HY4.out.keep HB5.out (Nat.le_refl _)) hz5 (by simp only [List.length_map]; omega) ?_
        intro a6 c6 z4 ho6 hg6
        rw [E1.out] at ho6 ⊢
        have hb6 : Below z0.heap.size z0 z4 := HB5.out.trans ⟨hg6.os, hg6.tape, hg6.output, hg6.size, fun q hq => hg6.block q (by omega) (fun e => by have := (World.ownsRow.lt HO5.out q e.symm).1; omega)⟩
        have c6x := (sameTexts_any _ _ _ _ (by rw [← E1.out, List.length_append, List.length_map, List.length_map]; omega) _ ho6.strs ((HZ4.out.keep hb6 (Nat.le_refl _)).up hb6.size) (Nat.le_refl _))
        simp only [List.length_map] at c6x
        have C6 := Lib.hid c6x
        clear c6x
        have HB6 := Lib.hid hb6
        clear hb6 ho6 hg6
        refine hK.out _ _ (MKS.out _ HB6.out) (fun hHc => ?_)
        clear hK K'
        (try simp only [Act.put, List.setIfInBounds_toArray, List.set_cons_zero, List.set_cons_succ])
        clear hHc
        refine wpAnyH_ready (rs := [6]) (by kernel_rfl) (by simp) ?_
        refine AllReadyH.cons (o := ?or6) ?hor6 (fun K' hK => ?_) AllReadyH.nil
        case hor6 => simp only [List.getElem?_toArray, List.getElem?_cons_zero, List.getElem?_cons_succ]; rfl
        go_simp
        refine C6.out.mono ?_
        rintro e z5 ⟨rfl, hb7⟩
        have HB7 := Lib.hid (HB6.out.trans (hb7.mono HB6.out.size))
        clear hb7
        refine hK.out _ _ (MKS.out _ HB7.out) (fun hHd => ?_)
        clear hK K'
        (try simp only [Act.put, List.setIfInBounds_toArray, List.set_cons_zero, List.set_cons_succ])
        refine wpAnyH_take (i := 7) (oi := ?or7) (v := ?vr7) ?hir7 (by kernel_rfl) (by kernel_rfl) (by kernel_rfl) ?hQr7 ?hyr7 hHd ?_
        case hir7 => simp only [List.getElem?_toArray, List.getElem?_cons_zero, List.getElem?_cons_succ]; rfl
        case hQr7 => exact fun _ _ _ h => h
        case hyr7 => refine Or.inl ⟨by rfl, ?_⟩; intro W hSw; (try dsimp only at hSw); go_simp; try with_reducible rfl
        simp only [Act.put, List.setIfInBounds_toArray, List.set_cons_zero, List.set_cons_succ]
        refine wpAnyH_take (i := 8) (oi := ?or8) (v := ?vr8) ?hir8 (by kernel_rfl) (by kernel_rfl) (by kernel_rfl) ?hQr8 ?hyr8 hHd ?_
        case hir8 => simp only [List.getElem?_toArray, List.getElem?_cons_zero, List.getElem?_cons_succ]; rfl
        case hQr8 => exact fun _ _ _ h => h
        case hyr8 => refine Or.inl ⟨by rfl, ?_⟩; intro W hSw; (try dsimp only at hSw); go_simp; try with_reducible rfl
        simp only [Act.put, List.setIfInBounds_toArray, List.set_cons_zero, List.set_cons_succ]
        refine wpAnyH_take (i := 10) (oi := ?or10) (v := ?vr10) ?hir10 (by kernel_rfl) (by kernel_rfl) (by kernel_rfl) ?hQr10 ?hyr10 hHd ?_
        case hir10 => simp only [List.getElem?_toArray, List.getElem?_cons_zero, List.getElem?_cons_succ]; rfl
        case hQr10 => exact fun _ _ _ h => h
        case hyr10 => refine Or.inl ⟨by rfl, ?_⟩; intro W hSw; (try dsimp only at hSw); go_simp; try with_reducible rfl
        simp only [Act.put, List.setIfInBounds_toArray, List.set_cons_zero, List.set_cons_succ]
        clear hHd
        refine wpAnyH_ready (rs := [9]) (by kernel_rfl) (by simp) ?_
        refine AllReadyH.cons (o := ?or9) ?hor9 (fun K' hK => ?_) AllReadyH.nil
        case hor9 => simp only [List.getElem?_toArray, List.getElem?_cons_zero, List.getElem?_cons_succ]; rfl
        go_simp
        refine (as_any z0.heap.size _ r2 (by omega) z5 (HV4.out.tms.keep HB7.out (Nat.le_refl _)) HB7.out.size).mono ?_
        rintro e z6 ⟨a7, c7, rfl, ho8, hb8⟩
        have HB8 := Lib.hid (HB7.out.trans (hb8.mono HB7.out.size))
        have HO8 := Lib.hid ho8
        clear hb8 ho8
        refine hK.out _ _ (MKS.out _ HB8.out) (fun hHe => ?_)
        clear hK K'
        (try simp only [Act.put, List.setIfInBounds_toArray, List.set_cons_zero, List.set_cons_succ])
        clear hHe
        refine wpAnyH_ready (rs := [11]) (by kernel_rfl) (by simp) ?_
        refine AllReadyH.cons (o := ?or11) ?hor11 (fun K' hK => ?_) AllReadyH.nil
        case hor11 => simp only [List.getElem?_toArray, List.getElem?_cons_zero, List.getElem?_cons_succ]; rfl
        go_simp
        refine (as_any z0.heap.size _ r2 (by omega) z6 (HW4.out.tms.keep HB8.out (Nat.le_refl _)) HB8.out.size).mono ?_
        rintro e z7 ⟨a8, c8, rfl, ho9, hb9⟩
        have HB9 := Lib.hid (HB8.out.trans (hb9.mono HB8.out.size))
        have HO9 := Lib.hid (OwnR.tq ho9 (by omega))
        have HO8b := Lib.hid (OwnR.tq (OwnR.keep HO8.out hb9) (by omega))
        clear hb9 ho9
        refine hK.out _ _ (MKS.out _ HB9.out) (fun hHf => ?_)
        clear hK K'
        (try simp only [Act.put, List.setIfInBounds_toArray, List.set_cons_zero, List.set_cons_succ])
        clear hHf
        refine wpAnyH_ready (rs := [12]) (by kernel_rfl) (by simp) ?_
        refine AllReadyH.cons (o := ?or12) ?hor12 (fun K' hK => ?_) AllReadyH.nil
        case hor12 => simp only [List.getElem?_toArray, List.getElem?_cons_zero, List.getElem?_cons_succ]; rfl
        go_simp
        refine (same_any z7.heap.size _ _ r2 (by omega) z7 HO8b.out.tms HO9.out.tms (Nat.le_refl _)).mono ?_
        rintro e z8 ⟨rfl, hb10⟩
        have HB10 := Lib.hid (HB9.out.trans (hb10.mono HB9.out.size))
        clear hb10
        refine hK.out _ _ (MKS.out _ HB10.out) (fun hHg => ?_)
        clear hK K'
        (try simp only [Act.put, List.setIfInBounds_toArray, List.set_cons_zero, List.set_cons_succ])
        refine wpAnyH_take (i := 13) (oi := ?or13) (v := ?vr13) ?hir13 (by kernel_rfl) (by kernel_rfl) (by kernel_rfl) ?hQr13 ?hyr13 hHg ?_
        case hir13 => simp only [List.getElem?_toArray, List.getElem?_cons_zero, List.getElem?_cons_succ]; rfl
        case hQr13 => exact fun _ _ _ h => h
        case hyr13 => refine Or.inl ⟨by rfl, ?_⟩; intro W hSw; (try dsimp only at hSw); go_simp; try with_reducible rfl
        simp only [Act.put, List.setIfInBounds_toArray, List.set_cons_zero, List.set_cons_succ]
        refine wpAnyH_take (i := 14) (oi := ?or14) (v := ?vr14) ?hir14 (by kernel_rfl) (by kernel_rfl) (by kernel_rfl) ?hQr14 ?hyr14 hHg ?_
        case hir14 => simp only [List.getElem?_toArray, List.getElem?_cons_zero, List.getElem?_cons_succ]; rfl
        case hQr14 => exact fun _ _ _ h => h
        case hyr14 => refine Or.inl ⟨by rfl, ?_⟩; intro W hSw; (try dsimp only at hSw); go_simp; try with_reducible rfl
        simp only [Act.put, List.setIfInBounds_toArray, List.set_cons_zero, List.set_cons_succ]
        clear hHg
        refine wpAnyH_done (by kernel_rfl) ?_ _
        go_wp2_with fail
        go_ret
        have hzq : w.heap.size ≤ w1.heap.size := by have := HP0.out; omega
        exact ⟨rfl, (HBA.out.trans (HB4.out.mono hzq)).trans (HB10.out.mono (Nat.le_trans hzq HB4.out.size))⟩
end Go.Proofs.Ytpadbkplknnopaa
