/-
  The walk of bucketlinelaw12.TimerPlays.
-/
import Derived.Test.YtpadbkplknnopaaTmPl
import Derived.Test.YtpadbkplknnopaaRegInv
import Derived.Deep.CutBlock
namespace Go.Proofs.Ytpadbkplknnopaa
set_option linter.unusedSimpArgs false
set_option linter.unusedVariables false
open Go.RowKit

set_option maxRecDepth 100000 in
set_option maxHeartbeats 6400000 in
theorem walkTimerPlays (v0 : Value) (w : World) (hv : ∃ l, IsActs w.heap.size w v0 l ∧ ∀ i (h : i < l.length), (Lit.int .i64 l[i].op).wf = true) :
    Calls Try.prog 5 #[v0] w fun e w' => e = .returned (.bool true) ∧ Below w.heap.size w w' := by
  obtain ⟨l, hl, hwf⟩ := hv
  have HL := Lib.hid hl
  have HWF := Lib.hid hwf
  obtain ⟨la, lc, rfl⟩ := hl.form
  have HSH := Lib.hid (shown_any w)
  clear hwf
  go_enter Try.func5, Try.ntmps5
  go_wp2_with fail
  refine HSH.out.mono ?_
  rintro e wa ⟨rfl, hba⟩
  have hzA := hba.size
  have HBA := Lib.hid hba
  have CM := Lib.hid (small_any w.heap.size _ l wa (hl.keep hba (Nat.le_refl _)))
  clear hl hba
  go_wp2_with fail
  refine CM.out.mono ?_
  rintro e w1 ⟨h, rfl⟩
  rcases h with rfl | ⟨rfl, hsm, _⟩
  · go_wp2_with fail
    go_ret
    exact ⟨rfl, HBA.out⟩
  · go_wp2_with fail
    have e1 : (w1.alloc (.cells #[.slice none 0 0] 26)).heap.size = w1.heap.size + 1 := by rw [World.size_alloc]
    have hga := heap_alloc_new w1 (.cells #[.slice none 0 0] 26)
    have hgb := heap_alloc_new (w1.alloc (.cells #[.slice none 0 0] 26)) (.cells #[.slice none 0 0] 34)
    have hb1 : Below w1.heap.size w1 (w1.alloc (.cells #[.slice none 0 0] 26)) := (Below.refl _ _).alloc (Nat.le_refl _) _
    have hb2 : Below (w1.heap.size + 1) (w1.alloc (.cells #[.slice none 0 0] 26)) ((w1.alloc (.cells #[.slice none 0 0] 26)).alloc (.cells #[.slice none 0 0] 34)) := (Below.refl _ _).alloc (by omega) _
    rw [e1] at hgb
    have h0 : TmM w1 w1.heap.size (.slice none 0 0) (.slice none 0 0) [] ((w1.alloc (.cells #[.slice none 0 0] 26)).alloc (.cells #[.slice none 0 0] 34)) := ⟨(hb2.block _ (by omega)).trans hga, hgb, ownt_nil _ _, ownr_nil _ _, hb1.trans (hb2.mono (by omega))⟩
    have H0 := Lib.hid h0
    clear e1 hga hgb hb1 hb2 h0
    generalize (w1.alloc (.cells #[.slice none 0 0] 26)).alloc (.cells #[.slice none 0 0] 34) = ws at *
    generalize hp0 : w1.heap.size = p0 at *
    have HP0 := Lib.hid hp0
    clear hp0
    go_loopw [7] (fun t7 wr => ∃ (k : Nat) (L : List TM) (ta : Option Addr) (tc : Nat) (ma : Option Addr) (mc : Nat), k ≤ l.length ∧ t7 = .int .i64 k ∧ RightT L ∧ L.length ≤ 64 ∧ TmM w1 p0 (.slice ta L.length tc) (.slice ma L.length mc) L wr) (fun t7 _ => l.length - (intOf t7).toNat)
    case atStart => exact ⟨0, [], none, 0, none, 0, Nat.zero_le _, rfl, right_nil, by simp, H0.out⟩
    case round =>
      obtain ⟨k, L, ta, tc, ma, mc, hk, rfl, hR, hL, hm⟩ := hrel
      have HM := Lib.hid hm
      have HR := Lib.hid hR
      have hz0 := hm.size
      clear hm hR
      by_cases hlt : k < l.length
      · obtain ⟨b, off, q1, he, hbB, hc1, hc2, hc3⟩ := ((HL.out.keep HBA.out (Nat.le_refl _)).keep HM.out.bl (by have := HP0.out; omega)).get k hlt
        obtain ⟨rfl, -, rfl⟩ : la = some ⟨b, off, none⟩ ∧ l.length = l.length ∧ lc = q1 := by injection he with e1 e2 e3; exact ⟨e1, e2, e3⟩
        clear he
        have hwy := HWF.out k hlt
        obtain ⟨y, hy⟩ : ∃ y, l[k] = y := ⟨_, rfl⟩
        rw [hy] at hc1 hc2 hc3 hwy
        have hop : -9223372036854775808 ≤ y.op ∧ y.op ≤ 9223372036854775807 := by simpa [Lit.wf, IntKind.min, IntKind.max, IntKind.signed, IntKind.bits] using hwy
        obtain ⟨ci, hci⟩ : ∃ ci : Int, ((pickT y.op 5 : Nat) : Int) = ci := ⟨_, rfl⟩
        have hc5 : ci = 0 ∨ ci = 1 ∨ ci = 2 ∨ ci = 3 ∨ ci = 4 := by
          have : pickT y.op 5 < 5 := Nat.mod_lt _ (by omega)
          omega
        have CP := Lib.hid (fun (X : World) => (show Calls Try.prog 8 #[.int .i64 y.op, .int .i64 5] X fun r w' => r = .returned (.int .i64 ci) ∧ w' = X by have h := pick_any y.op hop 5 (by omega) (by omega) X; rw [hci] at h; exact h))
        have i1 : (0 : Int) ≤ (k : Int) := by omega
        have i2 : (k : Int) < (l.length : Int) := by omega
        have yt : wr.cell? ⟨p0, 0, none⟩ = some (.slice ta L.length tc) := by rw [Lib.cell_of_heap HM.out.ga]; rfl
        have x1 : p0 < wr.heap.size := by omega
        have x2 : p0 ≠ wr.heap.size := by omega
        have ML := Lib.hid (show L.length ≤ 1000 by omega)
        clear hy hci hop hwy
        have hact : Below wr.heap.size wr (wr.alloc (.cells #[.int .i64 y.op, .int .i64 y.at_, .string y.name] 40)) := (Below.refl _ _).alloc (Nat.le_refl _) _
        have HACT := Lib.hid hact
        clear hact
        go_wp2_with fail
        refine (as_any (wr.alloc (.cells #[.int .i64 y.op, .int .i64 y.at_, .string y.name] 40)).heap.size _ L ML.out _ ((HM.out.keep HACT.out).oa.tq ML.out).tms (Nat.le_refl _)).mono ?_
        rintro e zb ⟨wa', wc', rfl, hob, hbb⟩
        have HPS := Lib.hid (Pl.start HM.out rfl rfl hbb hob rfl rfl)
        have hmb := (HM.out.keep HACT.out).keep hbb
        have hzb := hbb.size
        rw [World.size_alloc] at hzb
        have yt2 : zb.cell? ⟨p0, 0, none⟩ = some (.slice ta L.length tc) := by rw [Lib.cell_of_heap hmb.ga]; rfl
        have ym2 : zb.cell? ⟨p0 + 1, 0, none⟩ = some (.slice ma L.length mc) := by rw [Lib.cell_of_heap hmb.gb]; rfl
        have x3 : p0 < zb.heap.size := by omega
        have x4 : p0 ≠ zb.heap.size := by omega
        have x5 : p0 + 1 < zb.heap.size := by omega
        have x6 : p0 + 1 ≠ zb.heap.size := by omega
        have x7 : p0 ≠ zb.heap.size + 1 := by omega
        clear hmb hzb hbb hob yt x1 x2 hc1 hc2 hc3
        go_upto_region 14 with fail
        generalize ((zb.alloc (.cells #[.slice wa' L.length wc'] 34)).alloc (.cells #[.slice ta L.length tc] 26)).alloc (.cells #[.slice ma L.length mc] 34) = z4 at *
        generalize zb.heap.size = s at *
        generalize wr.heap.size = q at *
        have HP := HPS
        clear HPS yt2 ym2 x3 x4 x5 x6 x7 hz0
        have ya0 : z4.cell? ⟨q, 0, none⟩ = some (.int .i64 y.op) := by rw [Lib.cell_of_heap HP.out.g8]; rfl
        go_wp2_with fail
        refine (CP.out _).mono ?_
        rintro e z4 ⟨rfl, rfl⟩
        clear ya0
        go_upto_block 2 with fail
        go_cut [] from 36 (fun wx => ∃ U ua uc vb vc, RightT U ∧ U.length ≤ 64 ∧ Pl w1 p0 q s (.slice ta L.length tc) (.slice ma L.length mc) L y (.slice wa' L.length wc') (.slice ua U.length uc) U (.slice vb U.length vc) U wx)
        case first =>
          rcases hc5 with rfl | rfl | rfl | rfl | rfl
          · as_aux_lemma =>
              obtain ⟨U1, hU1⟩ : ∃ U1, setOf y.name y.at_ L = U1 := ⟨_, rfl⟩
              have hR1 : RightT U1 := by rw [← hU1]; exact setOf_right HR.out
              have hL1 : U1.length ≤ 64 := by rw [← hU1]; exact setOf_len hL
              by_cases hf : fullT y.name L = true
              · have CS := Lib.hid (fun (X : World) (b : Nat) (v : Value) (h : OwnT X b v L) => (by have h2 := set_any y.name y.at_ HR.out hL h; rw [hU1, setErr, if_pos hf] at h2; exact h2))
                have CR := Lib.hid (fun (X : World) (b : Nat) (v : Value) (h : OwnR X b v L) => (by have h2 := rset_any X.heap.size _ L y.name y.at_ HR.out hL X (OwnR.tq h (by omega)).tms (Nat.le_refl _); rw [hU1, setErr, if_pos hf] at h2; exact h2))
                clear hU1 hf
                have yt : z4.cell? ⟨p0, 0, none⟩ = some (.slice ta L.length tc) := by rw [Lib.cell_of_heap HP.out.m.ga]; rfl
                have ya1 : z4.cell? ⟨q, 1, none⟩ = some (.int .i64 y.at_) := by rw [Lib.cell_of_heap HP.out.g8]; rfl
                have ya2 : z4.cell? ⟨q, 2, none⟩ = some (.string y.name) := by rw [Lib.cell_of_heap HP.out.g8]; rfl
                go_wp2_with fail
                refine (CS.out z4 _ _ HP.out.m.oa).mono ?_
                rintro e z5 ⟨a5, c5, rfl, ho5, hb5⟩
                have hsz := HP.out.size
                have hk5 := (Below.refl z5.heap.size z5).alloc (Nat.le_refl _) (.cells #[.slice a5 U1.length c5] 26)
                have HP5 := Lib.hid ((HP.out.keep hb5).keep hk5)
                have HO5 := Lib.hid (OwnT.less (show s + 3 ≤ z4.heap.size from hsz) (OwnT.keep ho5 hk5))
                have G5 := Lib.hid (heap_alloc_new z5 (.cells #[.slice a5 U1.length c5] 26))
                have hq5l : s + 3 ≤ z5.heap.size := by have := hb5.size; omega
                clear ho5 hb5 hk5 hsz yt ya1 ya2
                go_upto_region 19 with fail
                generalize z5.alloc (.cells #[.slice a5 U1.length c5] 26) = z6 at *
                generalize z5.heap.size = q5 at *
                have hq5z : q5 < z6.heap.size := (Array.getElem?_eq_some_iff.1 G5.out).1
                have ym : z6.cell? ⟨p0 + 1, 0, none⟩ = some (.slice ma L.length mc) := by rw [Lib.cell_of_heap HP5.out.m.gb]; rfl
                have ya1 : z6.cell? ⟨q, 1, none⟩ = some (.int .i64 y.at_) := by rw [Lib.cell_of_heap HP5.out.g8]; rfl
                have ya2 : z6.cell? ⟨q, 2, none⟩ = some (.string y.name) := by rw [Lib.cell_of_heap HP5.out.g8]; rfl
                go_wp2_with fail
                refine (CR.out z6 _ _ HP5.out.m.ob).mono ?_
                rintro e z7 ⟨a7, c7, rfl, ho7, hb7⟩
                have hk7 := (Below.refl z7.heap.size z7).alloc (Nat.le_refl _) (.cells #[.slice a7 U1.length c7] 34)
                have hsz := HP5.out.size
                have HP7 := Lib.hid ((HP5.out.keep hb7).keep hk7)
                have HO7 := Lib.hid (OwnR.less (show s + 3 ≤ z6.heap.size from hsz) (OwnR.keep ho7 hk7))
                have HO5b := Lib.hid (OwnT.keep (OwnT.keep HO5.out hb7) hk7)
                have hz7 := hb7.size
                have G5b := Lib.hid ((hk7.block q5 (by omega)).trans ((hb7.block q5 hq5z).trans G5.out))
                have G7 := Lib.hid (heap_alloc_new z7 (.cells #[.slice a7 U1.length c7] 34))
                have hq7l : s + 3 ≤ z7.heap.size := by omega
                clear ho7 hb7 hk7 hsz hz7 ym ya1 ya2
                go_upto_region 20 with fail
                generalize z7.alloc (.cells #[.slice a7 U1.length c7] 34) = z8 at *
                generalize z7.heap.size = q7 at *
                go_wp2_with fail
                go_meet
                case rel => exact ⟨L, ta, tc, ma, mc, HR.out, hL, HP7.out⟩
              · have CS := Lib.hid (fun (X : World) (b : Nat) (v : Value) (h : OwnT X b v L) => (by have h2 := set_any y.name y.at_ HR.out hL h; rw [hU1, setErr, if_neg hf] at h2; exact h2))
                have CR := Lib.hid (fun (X : World) (b : Nat) (v : Value) (h : OwnR X b v L) => (by have h2 := rset_any X.heap.size _ L y.name y.at_ HR.out hL X (OwnR.tq h (by omega)).tms (Nat.le_refl _); rw [hU1, setErr, if_neg hf] at h2; exact h2))
                clear hU1 hf
                have yt : z4.cell? ⟨p0, 0, none⟩ = some (.slice ta L.length tc) := by rw [Lib.cell_of_heap HP.out.m.ga]; rfl
                have ya1 : z4.cell? ⟨q, 1, none⟩ = some (.int .i64 y.at_) := by rw [Lib.cell_of_heap HP.out.g8]; rfl
                have ya2 : z4.cell? ⟨q, 2, none⟩ = some (.string y.name) := by rw [Lib.cell_of_heap HP.out.g8]; rfl
                go_wp2_with fail
                refine (CS.out z4 _ _ HP.out.m.oa).mono ?_
                rintro e z5 ⟨a5, c5, rfl, ho5, hb5⟩
                have hsz := HP.out.size
                have hk5 := (Below.refl z5.heap.size z5).alloc (Nat.le_refl _) (.cells #[.slice a5 U1.length c5] 26)
                have HP5 := Lib.hid ((HP.out.keep hb5).keep hk5)
                have HO5 := Lib.hid (OwnT.less (show s + 3 ≤ z4.heap.size from hsz) (OwnT.keep ho5 hk5))
                have G5 := Lib.hid (heap_alloc_new z5 (.cells #[.slice a5 U1.length c5] 26))
                have hq5l : s + 3 ≤ z5.heap.size := by have := hb5.size; omega
                clear ho5 hb5 hk5 hsz yt ya1 ya2
                go_upto_region 19 with fail
                generalize z5.alloc (.cells #[.slice a5 U1.length c5] 26) = z6 at *
                generalize z5.heap.size = q5 at *
                have hq5z : q5 < z6.heap.size := (Array.getElem?_eq_some_iff.1 G5.out).1
                have ym : z6.cell? ⟨p0 + 1, 0, none⟩ = some (.slice ma L.length mc) := by rw [Lib.cell_of_heap HP5.out.m.gb]; rfl
                have ya1 : z6.cell? ⟨q, 1, none⟩ = some (.int .i64 y.at_) := by rw [Lib.cell_of_heap HP5.out.g8]; rfl
                have ya2 : z6.cell? ⟨q, 2, none⟩ = some (.string y.name) := by rw [Lib.cell_of_heap HP5.out.g8]; rfl
                go_wp2_with fail
                refine (CR.out z6 _ _ HP5.out.m.ob).mono ?_
                rintro e z7 ⟨a7, c7, rfl, ho7, hb7⟩
                have hk7 := (Below.refl z7.heap.size z7).alloc (Nat.le_refl _) (.cells #[.slice a7 U1.length c7] 34)
                have hsz := HP5.out.size
                have HP7 := Lib.hid ((HP5.out.keep hb7).keep hk7)
                have HO7 := Lib.hid (OwnR.less (show s + 3 ≤ z6.heap.size from hsz) (OwnR.keep ho7 hk7))
                have HO5b := Lib.hid (OwnT.keep (OwnT.keep HO5.out hb7) hk7)
                have hz7 := hb7.size
                have G5b := Lib.hid ((hk7.block q5 (by omega)).trans ((hb7.block q5 hq5z).trans G5.out))
                have G7 := Lib.hid (heap_alloc_new z7 (.cells #[.slice a7 U1.length c7] 34))
                have hq7l : s + 3 ≤ z7.heap.size := by omega
                clear ho7 hb7 hk7 hsz hz7 ym ya1 ya2
                go_upto_region 20 with fail
                generalize z7.alloc (.cells #[.slice a7 U1.length c7] 34) = z8 at *
                generalize z7.heap.size = q7 at *
                have y5 : z8.cell? ⟨q5, 0, none⟩ = some (.slice a5 U1.length c5) := by rw [Lib.cell_of_heap G5b.out]; rfl
                have yu : z8.cell? ⟨s + 1, 0, none⟩ = some (.slice ta L.length tc) := by rw [Lib.cell_of_heap HP7.out.g10]; rfl
                have fu : z8.frozen? ⟨s + 1, 0, none⟩ = false := Lib.frozen_of_heap HP7.out.g10 0
                go_upto_region 24 with fail
                have HP9 := Lib.hid (HP7.out.setU HO5b.out)
                have HO7b := Lib.hid (OwnR.set (o := 0) (x := .slice a5 U1.length c5) HO7.out (show s + 1 < s + 3 by omega))
                have G7b := Lib.hid ((set_blk_ne (z := z8) (o := 0) (v := .slice a5 U1.length c5) (show q7 ≠ s + 1 by omega)).trans G7.out)
                clear y5 yu fu
                generalize z8.setCell ⟨s + 1, 0, none⟩ (.slice a5 U1.length c5) = z9 at *
                have y7 : z9.cell? ⟨q7, 0, none⟩ = some (.slice a7 U1.length c7) := by rw [Lib.cell_of_heap G7b.out]; rfl
                have yv : z9.cell? ⟨s + 2, 0, none⟩ = some (.slice ma L.length mc) := by rw [Lib.cell_of_heap HP9.out.g11]; rfl
                have fv : z9.frozen? ⟨s + 2, 0, none⟩ = false := Lib.frozen_of_heap HP9.out.g11 0
                go_wp2_with fail
                go_meet
                case rel => exact ⟨U1, a5, c5, a7, c7, hR1, hL1, HP9.out.setV HO7b.out⟩
          · as_aux_lemma =>
              obtain ⟨U1, hU1⟩ : ∃ U1, setOf y.name y.at_ L = U1 := ⟨_, rfl⟩
              have hR1 : RightT U1 := by rw [← hU1]; exact setOf_right HR.out
              have hL1 : U1.length ≤ 64 := by rw [← hU1]; exact setOf_len hL
              by_cases hf : fullT y.name L = true
              · have CS := Lib.hid (fun (X : World) (b : Nat) (v : Value) (h : OwnT X b v L) => (by have h2 := set_any y.name y.at_ HR.out hL h; rw [hU1, setErr, if_pos hf] at h2; exact h2))
                have CR := Lib.hid (fun (X : World) (b : Nat) (v : Value) (h : OwnR X b v L) => (by have h2 := rset_any X.heap.size _ L y.name y.at_ HR.out hL X (OwnR.tq h (by omega)).tms (Nat.le_refl _); rw [hU1, setErr, if_pos hf] at h2; exact h2))
                clear hU1 hf
                have yt : z4.cell? ⟨p0, 0, none⟩ = some (.slice ta L.length tc) := by rw [Lib.cell_of_heap HP.out.m.ga]; rfl
                have ya1 : z4.cell? ⟨q, 1, none⟩ = some (.int .i64 y.at_) := by rw [Lib.cell_of_heap HP.out.g8]; rfl
                have ya2 : z4.cell? ⟨q, 2, none⟩ = some (.string y.name) := by rw [Lib.cell_of_heap HP.out.g8]; rfl
                go_wp2_with fail
                refine (CS.out z4 _ _ HP.out.m.oa).mono ?_
                rintro e z5 ⟨a5, c5, rfl, ho5, hb5⟩
                have hsz := HP.out.size
                have hk5 := (Below.refl z5.heap.size z5).alloc (Nat.le_refl _) (.cells #[.slice a5 U1.length c5] 26)
                have HP5 := Lib.hid ((HP.out.keep hb5).keep hk5)
                have HO5 := Lib.hid (OwnT.less (show s + 3 ≤ z4.heap.size from hsz) (OwnT.keep ho5 hk5))
                have G5 := Lib.hid (heap_alloc_new z5 (.cells #[.slice a5 U1.length c5] 26))
                have hq5l : s + 3 ≤ z5.heap.size := by have := hb5.size; omega
                clear ho5 hb5 hk5 hsz yt ya1 ya2
                go_upto_region 19 with fail
                generalize z5.alloc (.cells #[.slice a5 U1.length c5] 26) = z6 at *
                generalize z5.heap.size = q5 at *
                have hq5z : q5 < z6.heap.size := (Array.getElem?_eq_some_iff.1 G5.out).1
                have ym : z6.cell? ⟨p0 + 1, 0, none⟩ = some (.slice ma L.length mc) := by rw [Lib.cell_of_heap HP5.out.m.gb]; rfl
                have ya1 : z6.cell? ⟨q, 1, none⟩ = some (.int .i64 y.at_) := by rw [Lib.cell_of_heap HP5.out.g8]; rfl
                have ya2 : z6.cell? ⟨q, 2, none⟩ = some (.string y.name) := by rw [Lib.cell_of_heap HP5.out.g8]; rfl
                go_wp2_with fail
                refine (CR.out z6 _ _ HP5.out.m.ob).mono ?_
                rintro e z7 ⟨a7, c7, rfl, ho7, hb7⟩
                have hk7 := (Below.refl z7.heap.size z7).alloc (Nat.le_refl _) (.cells #[.slice a7 U1.length c7] 34)
                have hsz := HP5.out.size
                have HP7 := Lib.hid ((HP5.out.keep hb7).keep hk7)
                have HO7 := Lib.hid (OwnR.less (show s + 3 ≤ z6.heap.size from hsz) (OwnR.keep ho7 hk7))
                have HO5b := Lib.hid (OwnT.keep (OwnT.keep HO5.out hb7) hk7)
                have hz7 := hb7.size
                have G5b := Lib.hid ((hk7.block q5 (by omega)).trans ((hb7.block q5 hq5z).trans G5.out))
                have G7 := Lib.hid (heap_alloc_new z7 (.cells #[.slice a7 U1.length c7] 34))
                have hq7l : s + 3 ≤ z7.heap.size := by omega
                clear ho7 hb7 hk7 hsz hz7 ym ya1 ya2
                go_upto_region 20 with fail
                generalize z7.alloc (.cells #[.slice a7 U1.length c7] 34) = z8 at *
                generalize z7.heap.size = q7 at *
                go_wp2_with fail
                go_meet
                case rel => exact ⟨L, ta, tc, ma, mc, HR.out, hL, HP7.out⟩
              · have CS := Lib.hid (fun (X : World) (b : Nat) (v : Value) (h : OwnT X b v L) => (by have h2 := set_any y.name y.at_ HR.out hL h; rw [hU1, setErr, if_neg hf] at h2; exact h2))
                have CR := Lib.hid (fun (X : World) (b : Nat) (v : Value) (h : OwnR X b v L) => (by have h2 := rset_any X.heap.size _ L y.name y.at_ HR.out hL X (OwnR.tq h (by omega)).tms (Nat.le_refl _); rw [hU1, setErr, if_neg hf] at h2; exact h2))
                clear hU1 hf
                have yt : z4.cell? ⟨p0, 0, none⟩ = some (.slice ta L.length tc) := by rw [Lib.cell_of_heap HP.out.m.ga]; rfl
                have ya1 : z4.cell? ⟨q, 1, none⟩ = some (.int .i64 y.at_) := by rw [Lib.cell_of_heap HP.out.g8]; rfl
                have ya2 : z4.cell? ⟨q, 2, none⟩ = some (.string y.name) := by rw [Lib.cell_of_heap HP.out.g8]; rfl
                go_wp2_with fail
                refine (CS.out z4 _ _ HP.out.m.oa).mono ?_
                rintro e z5 ⟨a5, c5, rfl, ho5, hb5⟩
                have hsz := HP.out.size
                have hk5 := (Below.refl z5.heap.size z5).alloc (Nat.le_refl _) (.cells #[.slice a5 U1.length c5] 26)
                have HP5 := Lib.hid ((HP.out.keep hb5).keep hk5)
                have HO5 := Lib.hid (OwnT.less (show s + 3 ≤ z4.heap.size from hsz) (OwnT.keep ho5 hk5))
                have G5 := Lib.hid (heap_alloc_new z5 (.cells #[.slice a5 U1.length c5] 26))
                have hq5l : s + 3 ≤ z5.heap.size := by have := hb5.size; omega
                clear ho5 hb5 hk5 hsz yt ya1 ya2
                go_upto_region 19 with fail
                generalize z5.alloc (.cells #[.slice a5 U1.length c5] 26) = z6 at *
                generalize z5.heap.size = q5 at *
                have hq5z : q5 < z6.heap.size := (Array.getElem?_eq_some_iff.1 G5.out).1
                have ym : z6.cell? ⟨p0 + 1, 0, none⟩ = some (.slice ma L.length mc) := by rw [Lib.cell_of_heap HP5.out.m.gb]; rfl
                have ya1 : z6.cell? ⟨q, 1, none⟩ = some (.int .i64 y.at_) := by rw [Lib.cell_of_heap HP5.out.g8]; rfl
                have ya2 : z6.cell? ⟨q, 2, none⟩ = some (.string y.name) := by rw [Lib.cell_of_heap HP5.out.g8]; rfl
                go_wp2_with fail
                refine (CR.out z6 _ _ HP5.out.m.ob).mono ?_
                rintro e z7 ⟨a7, c7, rfl, ho7, hb7⟩
                have hk7 := (Below.refl z7.heap.size z7).alloc (Nat.le_refl _) (.cells #[.slice a7 U1.length c7] 34)
                have hsz := HP5.out.size
                have HP7 := Lib.hid ((HP5.out.keep hb7).keep hk7)
                have HO7 := Lib.hid (OwnR.less (show s + 3 ≤ z6.heap.size from hsz) (OwnR.keep ho7 hk7))
                have HO5b := Lib.hid (OwnT.keep (OwnT.keep HO5.out hb7) hk7)
                have hz7 := hb7.size
                have G5b := Lib.hid ((hk7.block q5 (by omega)).trans ((hb7.block q5 hq5z).trans G5.out))
                have G7 := Lib.hid (heap_alloc_new z7 (.cells #[.slice a7 U1.length c7] 34))
                have hq7l : s + 3 ≤ z7.heap.size := by omega
                clear ho7 hb7 hk7 hsz hz7 ym ya1 ya2
                go_upto_region 20 with fail
                generalize z7.alloc (.cells #[.slice a7 U1.length c7] 34) = z8 at *
                generalize z7.heap.size = q7 at *
                have y5 : z8.cell? ⟨q5, 0, none⟩ = some (.slice a5 U1.length c5) := by rw [Lib.cell_of_heap G5b.out]; rfl
                have yu : z8.cell? ⟨s + 1, 0, none⟩ = some (.slice ta L.length tc) := by rw [Lib.cell_of_heap HP7.out.g10]; rfl
                have fu : z8.frozen? ⟨s + 1, 0, none⟩ = false := Lib.frozen_of_heap HP7.out.g10 0
                go_upto_region 24 with fail
                have HP9 := Lib.hid (HP7.out.setU HO5b.out)
                have HO7b := Lib.hid (OwnR.set (o := 0) (x := .slice a5 U1.length c5) HO7.out (show s + 1 < s + 3 by omega))
                have G7b := Lib.hid ((set_blk_ne (z := z8) (o := 0) (v := .slice a5 U1.length c5) (show q7 ≠ s + 1 by omega)).trans G7.out)
                clear y5 yu fu
                generalize z8.setCell ⟨s + 1, 0, none⟩ (.slice a5 U1.length c5) = z9 at *
                have y7 : z9.cell? ⟨q7, 0, none⟩ = some (.slice a7 U1.length c7) := by rw [Lib.cell_of_heap G7b.out]; rfl
                have yv : z9.cell? ⟨s + 2, 0, none⟩ = some (.slice ma L.length mc) := by rw [Lib.cell_of_heap HP9.out.g11]; rfl
                have fv : z9.frozen? ⟨s + 2, 0, none⟩ = false := Lib.frozen_of_heap HP9.out.g11 0
                go_wp2_with fail
                go_meet
                case rel => exact ⟨U1, a5, c5, a7, c7, hR1, hL1, HP9.out.setV HO7b.out⟩
          · as_aux_lemma =>
              obtain ⟨U1, hU1⟩ : ∃ U1, setOf y.name y.at_ L = U1 := ⟨_, rfl⟩
              have hR1 : RightT U1 := by rw [← hU1]; exact setOf_right HR.out
              have hL1 : U1.length ≤ 64 := by rw [← hU1]; exact setOf_len hL
              by_cases hf : fullT y.name L = true
              · have CS := Lib.hid (fun (X : World) (b : Nat) (v : Value) (h : OwnT X b v L) => (by have h2 := set_any y.name y.at_ HR.out hL h; rw [hU1, setErr, if_pos hf] at h2; exact h2))
                have CR := Lib.hid (fun (X : World) (b : Nat) (v : Value) (h : OwnR X b v L) => (by have h2 := rset_any X.heap.size _ L y.name y.at_ HR.out hL X (OwnR.tq h (by omega)).tms (Nat.le_refl _); rw [hU1, setErr, if_pos hf] at h2; exact h2))
                clear hU1 hf
                have yt : z4.cell? ⟨p0, 0, none⟩ = some (.slice ta L.length tc) := by rw [Lib.cell_of_heap HP.out.m.ga]; rfl
                have ya1 : z4.cell? ⟨q, 1, none⟩ = some (.int .i64 y.at_) := by rw [Lib.cell_of_heap HP.out.g8]; rfl
                have ya2 : z4.cell? ⟨q, 2, none⟩ = some (.string y.name) := by rw [Lib.cell_of_heap HP.out.g8]; rfl
                go_wp2_with fail
                refine (CS.out z4 _ _ HP.out.m.oa).mono ?_
                rintro e z5 ⟨a5, c5, rfl, ho5, hb5⟩
                have hsz := HP.out.size
                have hk5 := (Below.refl z5.heap.size z5).alloc (Nat.le_refl _) (.cells #[.slice a5 U1.length c5] 26)
                have HP5 := Lib.hid ((HP.out.keep hb5).keep hk5)
                have HO5 := Lib.hid (OwnT.less (show s + 3 ≤ z4.heap.size from hsz) (OwnT.keep ho5 hk5))
                have G5 := Lib.hid (heap_alloc_new z5 (.cells #[.slice a5 U1.length c5] 26))
                have hq5l : s + 3 ≤ z5.heap.size := by have := hb5.size; omega
                clear ho5 hb5 hk5 hsz yt ya1 ya2
                go_upto_region 19 with fail
                generalize z5.alloc (.cells #[.slice a5 U1.length c5] 26) = z6 at *
                generalize z5.heap.size = q5 at *
                have hq5z : q5 < z6.heap.size := (Array.getElem?_eq_some_iff.1 G5.out).1
                have ym : z6.cell? ⟨p0 + 1, 0, none⟩ = some (.slice ma L.length mc) := by rw [Lib.cell_of_heap HP5.out.m.gb]; rfl
                have ya1 : z6.cell? ⟨q, 1, none⟩ = some (.int .i64 y.at_) := by rw [Lib.cell_of_heap HP5.out.g8]; rfl
                have ya2 : z6.cell? ⟨q, 2, none⟩ = some (.string y.name) := by rw [Lib.cell_of_heap HP5.out.g8]; rfl
                go_wp2_with fail
                refine (CR.out z6 _ _ HP5.out.m.ob).mono ?_
                rintro e z7 ⟨a7, c7, rfl, ho7, hb7⟩
                have hk7 := (Below.refl z7.heap.size z7).alloc (Nat.le_refl _) (.cells #[.slice a7 U1.length c7] 34)
                have hsz := HP5.out.size
                have HP7 := Lib.hid ((HP5.out.keep hb7).keep hk7)
                have HO7 := Lib.hid (OwnR.less (show s + 3 ≤ z6.heap.size from hsz) (OwnR.keep ho7 hk7))
                have HO5b := Lib.hid (OwnT.keep (OwnT.keep HO5.out hb7) hk7)
                have hz7 := hb7.size
                have G5b := Lib.hid ((hk7.block q5 (by omega)).trans ((hb7.block q5 hq5z).trans G5.out))
                have G7 := Lib.hid (heap_alloc_new z7 (.cells #[.slice a7 U1.length c7] 34))
                have hq7l : s + 3 ≤ z7.heap.size := by omega
                clear ho7 hb7 hk7 hsz hz7 ym ya1 ya2
                go_upto_region 20 with fail
                generalize z7.alloc (.cells #[.slice a7 U1.length c7] 34) = z8 at *
                generalize z7.heap.size = q7 at *
                go_wp2_with fail
                go_meet
                case rel => exact ⟨L, ta, tc, ma, mc, HR.out, hL, HP7.out⟩
              · have CS := Lib.hid (fun (X : World) (b : Nat) (v : Value) (h : OwnT X b v L) => (by have h2 := set_any y.name y.at_ HR.out hL h; rw [hU1, setErr, if_neg hf] at h2; exact h2))
                have CR := Lib.hid (fun (X : World) (b : Nat) (v : Value) (h : OwnR X b v L) => (by have h2 := rset_any X.heap.size _ L y.name y.at_ HR.out hL X (OwnR.tq h (by omega)).tms (Nat.le_refl _); rw [hU1, setErr, if_neg hf] at h2; exact h2))
                clear hU1 hf
                have yt : z4.cell? ⟨p0, 0, none⟩ = some (.slice ta L.length tc) := by rw [Lib.cell_of_heap HP.out.m.ga]; rfl
                have ya1 : z4.cell? ⟨q, 1, none⟩ = some (.int .i64 y.at_) := by rw [Lib.cell_of_heap HP.out.g8]; rfl
                have ya2 : z4.cell? ⟨q, 2, none⟩ = some (.string y.name) := by rw [Lib.cell_of_heap HP.out.g8]; rfl
                go_wp2_with fail
                refine (CS.out z4 _ _ HP.out.m.oa).mono ?_
                rintro e z5 ⟨a5, c5, rfl, ho5, hb5⟩
                have hsz := HP.out.size
                have hk5 := (Below.refl z5.heap.size z5).alloc (Nat.le_refl _) (.cells #[.slice a5 U1.length c5] 26)
                have HP5 := Lib.hid ((HP.out.keep hb5).keep hk5)
                have HO5 := Lib.hid (OwnT.less (show s + 3 ≤ z4.heap.size from hsz) (OwnT.keep ho5 hk5))
                have G5 := Lib.hid (heap_alloc_new z5 (.cells #[.slice a5 U1.length c5] 26))
                have hq5l : s + 3 ≤ z5.heap.size := by have := hb5.size; omega
                clear ho5 hb5 hk5 hsz yt ya1 ya2
                go_upto_region 19 with fail
                generalize z5.alloc (.cells #[.slice a5 U1.length c5] 26) = z6 at *
                generalize z5.heap.size = q5 at *
                have hq5z : q5 < z6.heap.size := (Array.getElem?_eq_some_iff.1 G5.out).1
                have ym : z6.cell? ⟨p0 + 1, 0, none⟩ = some (.slice ma L.length mc) := by rw [Lib.cell_of_heap HP5.out.m.gb]; rfl
                have ya1 : z6.cell? ⟨q, 1, none⟩ = some (.int .i64 y.at_) := by rw [Lib.cell_of_heap HP5.out.g8]; rfl
                have ya2 : z6.cell? ⟨q, 2, none⟩ = some (.string y.name) := by rw [Lib.cell_of_heap HP5.out.g8]; rfl
                go_wp2_with fail
                refine (CR.out z6 _ _ HP5.out.m.ob).mono ?_
                rintro e z7 ⟨a7, c7, rfl, ho7, hb7⟩
                have hk7 := (Below.refl z7.heap.size z7).alloc (Nat.le_refl _) (.cells #[.slice a7 U1.length c7] 34)
                have hsz := HP5.out.size
                have HP7 := Lib.hid ((HP5.out.keep hb7).keep hk7)
                have HO7 := Lib.hid (OwnR.less (show s + 3 ≤ z6.heap.size from hsz) (OwnR.keep ho7 hk7))
                have HO5b := Lib.hid (OwnT.keep (OwnT.keep HO5.out hb7) hk7)
                have hz7 := hb7.size
                have G5b := Lib.hid ((hk7.block q5 (by omega)).trans ((hb7.block q5 hq5z).trans G5.out))
                have G7 := Lib.hid (heap_alloc_new z7 (.cells #[.slice a7 U1.length c7] 34))
                have hq7l : s + 3 ≤ z7.heap.size := by omega
                clear ho7 hb7 hk7 hsz hz7 ym ya1 ya2
                go_upto_region 20 with fail
                generalize z7.alloc (.cells #[.slice a7 U1.length c7] 34) = z8 at *
                generalize z7.heap.size = q7 at *
                have y5 : z8.cell? ⟨q5, 0, none⟩ = some (.slice a5 U1.length c5) := by rw [Lib.cell_of_heap G5b.out]; rfl
                have yu : z8.cell? ⟨s + 1, 0, none⟩ = some (.slice ta L.length tc) := by rw [Lib.cell_of_heap HP7.out.g10]; rfl
                have fu : z8.frozen? ⟨s + 1, 0, none⟩ = false := Lib.frozen_of_heap HP7.out.g10 0
                go_upto_region 24 with fail
                have HP9 := Lib.hid (HP7.out.setU HO5b.out)
                have HO7b := Lib.hid (OwnR.set (o := 0) (x := .slice a5 U1.length c5) HO7.out (show s + 1 < s + 3 by omega))
                have G7b := Lib.hid ((set_blk_ne (z := z8) (o := 0) (v := .slice a5 U1.length c5) (show q7 ≠ s + 1 by omega)).trans G7.out)
                clear y5 yu fu
                generalize z8.setCell ⟨s + 1, 0, none⟩ (.slice a5 U1.length c5) = z9 at *
                have y7 : z9.cell? ⟨q7, 0, none⟩ = some (.slice a7 U1.length c7) := by rw [Lib.cell_of_heap G7b.out]; rfl
                have yv : z9.cell? ⟨s + 2, 0, none⟩ = some (.slice ma L.length mc) := by rw [Lib.cell_of_heap HP9.out.g11]; rfl
                have fv : z9.frozen? ⟨s + 2, 0, none⟩ = false := Lib.frozen_of_heap HP9.out.g11 0
                go_wp2_with fail
                go_meet
                case rel => exact ⟨U1, a5, c5, a7, c7, hR1, hL1, HP9.out.setV HO7b.out⟩
          · as_aux_lemma =>
              obtain ⟨U1, hU1⟩ : ∃ U1, clearR y.name L = U1 := ⟨_, rfl⟩
              have hR1 : RightT U1 := by rw [← hU1]; exact clear_right HR.out _
              have hL1 : U1.length ≤ 64 := by rw [← hU1]; exact Nat.le_trans (clear_len_le _ _) hL
              have CC := Lib.hid (fun (X : World) (b : Nat) (v : Value) (h : OwnT X b v L) => (by have h2 := clear_ok y.name HR.out hL h; rw [hU1] at h2; exact h2))
              have CRC := Lib.hid (fun (X : World) (b : Nat) (v : Value) (h : OwnR X b v L) => (by have h2 := rclear_any X.heap.size _ L y.name (by omega) X (OwnR.tq h (by omega)).tms (Nat.le_refl _); rw [hU1] at h2; exact h2))
              clear hU1
              have yt : z4.cell? ⟨p0, 0, none⟩ = some (.slice ta L.length tc) := by rw [Lib.cell_of_heap HP.out.m.ga]; rfl
              have ya2 : z4.cell? ⟨q, 2, none⟩ = some (.string y.name) := by rw [Lib.cell_of_heap HP.out.g8]; rfl
              go_wp2_with fail
              refine (CC.out z4 _ _ HP.out.m.oa).mono ?_
              rintro e z5 ⟨a5, c5, rfl, ho5, hb5⟩
              have HP5 := Lib.hid (HP.out.keep hb5)
              have HO5 := Lib.hid (OwnT.less (show s + 3 ≤ z4.heap.size from HP.out.size) ho5)
              clear ho5 hb5 yt ya2
              have yu : z5.cell? ⟨s + 1, 0, none⟩ = some (.slice ta L.length tc) := by rw [Lib.cell_of_heap HP5.out.g10]; rfl
              have fu : z5.frozen? ⟨s + 1, 0, none⟩ = false := Lib.frozen_of_heap HP5.out.g10 0
              go_upto_region 27 with fail
              have HP6 := Lib.hid (HP5.out.setU HO5.out)
              clear yu fu
              generalize z5.setCell ⟨s + 1, 0, none⟩ (.slice a5 U1.length c5) = z6 at *
              have ym : z6.cell? ⟨p0 + 1, 0, none⟩ = some (.slice ma L.length mc) := by rw [Lib.cell_of_heap HP6.out.m.gb]; rfl
              have ya2 : z6.cell? ⟨q, 2, none⟩ = some (.string y.name) := by rw [Lib.cell_of_heap HP6.out.g8]; rfl
              go_wp2_with fail
              refine (CRC.out z6 _ _ HP6.out.m.ob).mono ?_
              rintro e z7 ⟨a7, c7, rfl, ho7, hb7⟩
              have HP7 := Lib.hid (HP6.out.keep hb7)
              have HO7 := Lib.hid (OwnR.less (show s + 3 ≤ z6.heap.size from HP6.out.size) ho7)
              clear ho7 hb7 ym ya2
              have yv : z7.cell? ⟨s + 2, 0, none⟩ = some (.slice ma L.length mc) := by rw [Lib.cell_of_heap HP7.out.g11]; rfl
              have fv : z7.frozen? ⟨s + 2, 0, none⟩ = false := Lib.frozen_of_heap HP7.out.g11 0
              go_wp2_with fail
              go_meet
              case rel => exact ⟨U1, a5, c5, a7, c7, hR1, hL1, HP7.out.setV HO7.out⟩
          · as_aux_lemma =>
              obtain ⟨U1, hU1⟩ : ∃ U1, restR y.at_ L = U1 := ⟨_, rfl⟩
              obtain ⟨N, hN⟩ : ∃ N, (dueR y.at_ L).map (·.name) = N := ⟨_, rfl⟩
              have hlN : (dueR y.at_ L).length = N.length := by rw [← hN, List.length_map]
              have hR1 : RightT U1 := by rw [← hU1]; exact due_right HR.out _
              have hL1 : U1.length ≤ 64 := by rw [← hU1]; exact Nat.le_trans (List.length_filter_le _ _) hL
              have hNm : N.length ≤ 9223372036854775807 := by rw [← hlN]; exact Nat.le_trans (List.length_filter_le _ _) (by omega)
              have CD := Lib.hid (fun (X : World) (b : Nat) (v : Value) (h : OwnT X b v L) => (by have h2 := due_ok y.at_ HR.out hL h; rw [hN, hU1, hlN] at h2; exact h2))
              have CRD := Lib.hid (fun (X : World) (b : Nat) (v : Value) (h : OwnR X b v L) => (by have h2 := rdue_any X.heap.size _ L y.at_ (by omega) X (OwnR.tq h (by omega)).tms (Nat.le_refl _); rw [hN, hU1, hlN] at h2; exact h2))
              clear hU1 hN hlN
              have yt : z4.cell? ⟨p0, 0, none⟩ = some (.slice ta L.length tc) := by rw [Lib.cell_of_heap HP.out.m.ga]; rfl
              have ya1 : z4.cell? ⟨q, 1, none⟩ = some (.int .i64 y.at_) := by rw [Lib.cell_of_heap HP.out.g8]; rfl
              go_wp2_with fail
              refine (CD.out z4 _ _ HP.out.m.oa).mono ?_
              rintro e z5 ⟨a5, c5, n5, m5, rfl, ho5, hn5, hb5⟩
              have hsz := HP.out.size
              have hk5 := (Below.refl z5.heap.size z5).alloc (Nat.le_refl _) (.cells #[.slice a5 U1.length c5] 26)
              have HP5 := Lib.hid ((HP.out.keep hb5).keep hk5)
              have HO5 := Lib.hid (OwnT.less (show s + 3 ≤ z4.heap.size from hsz) (OwnT.keep ho5 hk5))
              have HN5 := Lib.hid (OwnS.keep hn5 hk5)
              have G5 := Lib.hid (heap_alloc_new z5 (.cells #[.slice a5 U1.length c5] 26))
              have hq5l : s + 3 ≤ z5.heap.size := by have := hb5.size; omega
              clear ho5 hb5 hk5 hsz hn5 yt ya1
              go_upto_region 30 with fail
              generalize z5.alloc (.cells #[.slice a5 U1.length c5] 26) = z6 at *
              generalize z5.heap.size = q5 at *
              have hq5z : q5 < z6.heap.size := (Array.getElem?_eq_some_iff.1 G5.out).1
              have ym : z6.cell? ⟨p0 + 1, 0, none⟩ = some (.slice ma L.length mc) := by rw [Lib.cell_of_heap HP5.out.m.gb]; rfl
              have ya1 : z6.cell? ⟨q, 1, none⟩ = some (.int .i64 y.at_) := by rw [Lib.cell_of_heap HP5.out.g8]; rfl
              go_wp2_with fail
              refine (CRD.out z6 _ _ HP5.out.m.ob).mono ?_
              rintro e z7 ⟨a7, c7, n7, m7, rfl, ho7, hn7, hb7⟩
              have hk7 := (Below.refl z7.heap.size z7).alloc (Nat.le_refl _) (.cells #[.slice a7 U1.length c7] 34)
              have hsz := HP5.out.size
              have HP7 := Lib.hid ((HP5.out.keep hb7).keep hk7)
              have HO7 := Lib.hid (OwnR.less (show s + 3 ≤ z6.heap.size from hsz) (OwnR.keep ho7 hk7))
              have HO5b := Lib.hid (OwnT.keep (OwnT.keep HO5.out hb7) hk7)
              have HN5b := Lib.hid (OwnS.keep (OwnS.keep HN5.out hb7) hk7)
              have HN7 := Lib.hid (OwnS.keep hn7 hk7)
              have hz7 := hb7.size
              have G5b := Lib.hid ((hk7.block q5 (by omega)).trans ((hb7.block q5 hq5z).trans G5.out))
              have G7 := Lib.hid (heap_alloc_new z7 (.cells #[.slice a7 U1.length c7] 34))
              have hq7l : s + 3 ≤ z7.heap.size := by omega
              clear ho7 hb7 hk7 hsz hz7 hn7 ym ya1
              go_upto_region 31 with fail
              generalize z7.alloc (.cells #[.slice a7 U1.length c7] 34) = z8 at *
              generalize z7.heap.size = q7 at *
              have hq7z : q7 < z8.heap.size := (Array.getElem?_eq_some_iff.1 G7.out).1
              have hq5y : q5 < z8.heap.size := (Array.getElem?_eq_some_iff.1 G5b.out).1
              go_wp2_with fail
              refine (sameTexts_any z8.heap.size _ _ N hNm z8 HN5b.out.strs HN7.out.strs (Nat.le_refl _)).mono ?_
              rintro e z9 ⟨rfl, hb9⟩
              have HP9 := Lib.hid (HP7.out.keep hb9)
              have HO5c := Lib.hid (OwnT.keep HO5b.out hb9)
              have HO7c := Lib.hid (OwnR.keep HO7.out hb9)
              have G5c := Lib.hid ((hb9.block q5 hq5y).trans G5b.out)
              have G7c := Lib.hid ((hb9.block q7 hq7z).trans G7.out)
              clear hb9
              have y5 : z9.cell? ⟨q5, 0, none⟩ = some (.slice a5 U1.length c5) := by rw [Lib.cell_of_heap G5c.out]; rfl
              have yu : z9.cell? ⟨s + 1, 0, none⟩ = some (.slice ta L.length tc) := by rw [Lib.cell_of_heap HP9.out.g10]; rfl
              have fu : z9.frozen? ⟨s + 1, 0, none⟩ = false := Lib.frozen_of_heap HP9.out.g10 0
              go_upto_region 34 with fail
              have HPa := Lib.hid (HP9.out.setU HO5c.out)
              have HO7d := Lib.hid (OwnR.set (o := 0) (x := .slice a5 U1.length c5) HO7c.out (show s + 1 < s + 3 by omega))
              have G7d := Lib.hid ((set_blk_ne (z := z9) (o := 0) (v := .slice a5 U1.length c5) (show q7 ≠ s + 1 by omega)).trans G7c.out)
              clear y5 yu fu
              generalize z9.setCell ⟨s + 1, 0, none⟩ (.slice a5 U1.length c5) = za at *
              have y7 : za.cell? ⟨q7, 0, none⟩ = some (.slice a7 U1.length c7) := by rw [Lib.cell_of_heap G7d.out]; rfl
              have yv : za.cell? ⟨s + 2, 0, none⟩ = some (.slice ma L.length mc) := by rw [Lib.cell_of_heap HPa.out.g11]; rfl
              have fv : za.frozen? ⟨s + 2, 0, none⟩ = false := Lib.frozen_of_heap HPa.out.g11 0
              go_wp2_with fail
              go_meet
              case rel => exact ⟨U1, a5, c5, a7, c7, hR1, hL1, HPa.out.setV HO7d.out⟩
        case rest =>
          as_aux_lemma =>
            obtain ⟨U, ua, uc, vb, vc, hRU, hLU, hp⟩ := hcut
            have HPc := Lib.hid hp
            have HRU := Lib.hid hRU
            obtain ⟨xx, hxx⟩ : ∃ x, (if 0 ≤ placeT y.name U then ((U.getD (placeT y.name U).toNat ⟨⟨#[]⟩, 0⟩).at_, true) else (0, false)) = x := ⟨_, rfl⟩
            obtain ⟨xx, qq⟩ := xx
            obtain ⟨nx, hnx⟩ : ∃ x, nextT U = x := ⟨_, rfl⟩
            have CA := Lib.hid (fun (X : World) (b : Nat) (v : Value) (h : OwnT X b v U) => at_any X.heap.size _ U y.name xx qq hxx X (h.tq (by omega)).tms (Nat.le_refl _))
            have CRA := Lib.hid (fun (X : World) (b : Nat) (v : Value) (h : OwnR X b v U) => rat_any X.heap.size _ U (by omega) y.name xx qq hxx X (OwnR.tq h (by omega)).tms (Nat.le_refl _))
            have CN := Lib.hid (fun (X : World) (b : Nat) (v : Value) (h : OwnT X b v U) => next_any X.heap.size _ U nx hnx X (h.tq (by omega)).tms (Nat.le_refl _))
            have CRN := Lib.hid (fun (X : World) (b : Nat) (v : Value) (h : OwnR X b v U) => rnext_any X.heap.size _ U nx hnx X (OwnR.tq h (by omega)).tms (Nat.le_refl _))
            clear hp hRU hxx hnx
            have yu : wc.cell? ⟨s + 1, 0, none⟩ = some (.slice ua U.length uc) := by rw [Lib.cell_of_heap HPc.out.g10]; rfl
            have ya2 : wc.cell? ⟨q, 2, none⟩ = some (.string y.name) := by rw [Lib.cell_of_heap HPc.out.g8]; rfl
            go_wp2_with fail
            refine (CA.out wc _ _ HPc.out.ou).mono ?_
            rintro e z1 ⟨rfl, hb1⟩
            have HP1 := Lib.hid (HPc.out.keep hb1)
            clear hb1 yu ya2
            have yv : z1.cell? ⟨s + 2, 0, none⟩ = some (.slice vb U.length vc) := by rw [Lib.cell_of_heap HP1.out.g11]; rfl
            have ya2 : z1.cell? ⟨q, 2, none⟩ = some (.string y.name) := by rw [Lib.cell_of_heap HP1.out.g8]; rfl
            go_wp2_with fail
            refine (CRA.out z1 _ _ HP1.out.ov).mono ?_
            rintro e z2 ⟨rfl, hb2⟩
            have HP2 := Lib.hid (HP1.out.keep hb2)
            clear hb2 yv ya2
            have MKS := Lib.hid (fun (X : World) (hX : Pl w1 p0 q s (.slice ta L.length tc) (.slice ma L.length mc) L y (.slice wa' L.length wc') (.slice ua U.length uc) U (.slice vb U.length vc) U X) => (show (fun X => X.cell? ⟨p0, 0, none⟩ = some (.slice ta L.length tc) ∧ X.cell? ⟨s, 0, none⟩ = some (.slice wa' L.length wc') ∧ X.cell? ⟨s + 1, 0, none⟩ = some (.slice ua U.length uc) ∧ X.cell? ⟨s + 2, 0, none⟩ = some (.slice vb U.length vc)) X from ⟨by rw [Lib.cell_of_heap hX.m.ga]; rfl, by rw [Lib.cell_of_heap hX.g9]; rfl, by rw [Lib.cell_of_heap hX.g10]; rfl, by rw [Lib.cell_of_heap hX.g11]; rfl⟩))
            go_wp2_with fail
            refine region_begin (S := fun X => X.cell? ⟨p0, 0, none⟩ = some (.slice ta L.length tc) ∧ X.cell? ⟨s, 0, none⟩ = some (.slice wa' L.length wc') ∧ X.cell? ⟨s + 1, 0, none⟩ = some (.slice ua U.length uc) ∧ X.cell? ⟨s + 2, 0, none⟩ = some (.slice vb U.length vc)) 34 rfl (by kernel_rfl) (MKS.out _ (HP2.out.keep (Below.refl _ _).drew)) (fun hH0 => ?_)
            refine wpAnyH_take (i := 0) (oi := ?oe0) (v := ?ve0) ?hie0 (by kernel_rfl) (by kernel_rfl) (by kernel_rfl) ?hQe0 ?hye0 hH0 ?_
            case hie0 => simp only [List.getElem?_toArray, List.getElem?_cons_zero]; rfl
            case hQe0 => exact fun _ _ _ h => h
            case hye0 => refine Or.inl ⟨by rfl, ?_⟩; intro W hSw; (try dsimp only at hSw); go_simp; try with_reducible rfl
            simp only [Act.put, List.setIfInBounds_toArray, List.set_cons_zero]
            refine wpAnyH_take (i := 2) (oi := ?oe2) (v := ?ve2) ?hie2 (by kernel_rfl) (by kernel_rfl) (by kernel_rfl) ?hQe2 ?hye2 hH0 ?_
            case hie2 => simp only [List.getElem?_toArray, List.getElem?_cons_zero, List.getElem?_cons_succ]; rfl
            case hQe2 => exact fun _ _ _ h => h
            case hye2 => refine Or.inl ⟨by rfl, ?_⟩; intro W hSw; (try dsimp only at hSw); go_simp; try with_reducible rfl
            simp only [Act.put, List.setIfInBounds_toArray, List.set_cons_zero, List.set_cons_succ]
            clear hH0
            have hp3 := HP2.out.keep (Below.refl _ _).drew
            generalize z2.drew = z3 at *
            have HP3 := Lib.hid hp3
            clear hp3
            refine wpAnyH_ready (rs := [1]) (by kernel_rfl) (by simp) ?_
            refine AllReadyH.cons (o := ?oe1) ?hoe1 (fun K' hK => ?_) AllReadyH.nil
            case hoe1 => simp only [List.getElem?_toArray, List.getElem?_cons_zero, List.getElem?_cons_succ]; rfl
            go_simp
            refine (as_any z3.heap.size _ L (by omega) z3 (HP3.out.m.oa.tq (by omega)).tms (Nat.le_refl _)).mono ?_
            rintro e z4 ⟨a4, c4, rfl, ho4, hb⟩
            have HP4 := Lib.hid (HP3.out.keep hb)
            have HO4 := Lib.hid ho4
            clear ho4
            clear hb
            refine hK.out _ _ (MKS.out _ HP4.out) (fun hH4 => ?_)
            clear hK K'
            (try simp only [Act.put, List.setIfInBounds_toArray, List.set_cons_zero, List.set_cons_succ])
            clear hH4
            refine wpAnyH_ready (rs := [3]) (by kernel_rfl) (by simp) ?_
            refine AllReadyH.cons (o := ?oe3) ?hoe3 (fun K' hK => ?_) AllReadyH.nil
            case hoe3 => simp only [List.getElem?_toArray, List.getElem?_cons_zero, List.getElem?_cons_succ]; rfl
            go_simp
            refine (same_any z4.heap.size _ _ L (by omega) z4 (OwnR.tq HO4.out (by omega)).tms (OwnR.tq HP4.out.ow (by omega)).tms (Nat.le_refl _)).mono ?_
            rintro e z5 ⟨rfl, hb⟩
            have HP5 := Lib.hid (HP4.out.keep hb)
            clear hb
            refine hK.out _ _ (MKS.out _ HP5.out) (fun hH5 => ?_)
            clear hK K'
            (try simp only [Act.put, List.setIfInBounds_toArray, List.set_cons_zero, List.set_cons_succ])
            refine wpAnyH_take (i := 4) (oi := ?oe4) (v := ?ve4) ?hie4 (by kernel_rfl) (by kernel_rfl) (by kernel_rfl) ?hQe4 ?hye4 hH5 ?_
            case hie4 => simp only [List.getElem?_toArray, List.getElem?_cons_zero, List.getElem?_cons_succ]; rfl
            case hQe4 => exact fun _ _ _ h => h
            case hye4 => refine Or.inl ⟨by rfl, ?_⟩; intro W hSw; (try dsimp only at hSw); go_simp; try with_reducible rfl
            simp only [Act.put, List.setIfInBounds_toArray, List.set_cons_zero, List.set_cons_succ]
            refine wpAnyH_take (i := 5) (oi := ?oe5) (v := ?ve5) ?hie5 (by kernel_rfl) (by kernel_rfl) (by kernel_rfl) ?hQe5 ?hye5 hH5 ?_
            case hie5 => simp only [List.getElem?_toArray, List.getElem?_cons_zero, List.getElem?_cons_succ]; rfl
            case hQe5 => exact fun _ _ _ h => h
            case hye5 => refine Or.inl ⟨by rfl, ?_⟩; intro W hSw; (try dsimp only at hSw); go_simp; try with_reducible rfl
            simp only [Act.put, List.setIfInBounds_toArray, List.set_cons_zero, List.set_cons_succ]
            refine wpAnyH_take (i := 6) (oi := ?oe6) (v := ?ve6) ?hie6 (by kernel_rfl) (by kernel_rfl) (by kernel_rfl) ?hQe6 ?hye6 hH5 ?_
            case hie6 => simp only [List.getElem?_toArray, List.getElem?_cons_zero, List.getElem?_cons_succ]; rfl
            case hQe6 => exact fun _ _ _ h => h
            case hye6 => refine Or.inl ⟨by rfl, ?_⟩; intro W hSw; (try dsimp only at hSw); go_simp; try with_reducible rfl
            simp only [Act.put, List.setIfInBounds_toArray, List.set_cons_zero, List.set_cons_succ]
            refine wpAnyH_take (i := 8) (oi := ?oe8) (v := ?ve8) ?hie8 (by kernel_rfl) (by kernel_rfl) (by kernel_rfl) ?hQe8 ?hye8 hH5 ?_
            case hie8 => simp only [List.getElem?_toArray, List.getElem?_cons_zero, List.getElem?_cons_succ]; rfl
            case hQe8 => exact fun _ _ _ h => h
            case hye8 => refine Or.inl ⟨by rfl, ?_⟩; intro W hSw; (try dsimp only at hSw); go_simp; try with_reducible rfl
            simp only [Act.put, List.setIfInBounds_toArray, List.set_cons_zero, List.set_cons_succ]
            clear hH5
            refine wpAnyH_ready (rs := [7]) (by kernel_rfl) (by simp) ?_
            refine AllReadyH.cons (o := ?oe7) ?hoe7 (fun K' hK => ?_) AllReadyH.nil
            case hoe7 => simp only [List.getElem?_toArray, List.getElem?_cons_zero, List.getElem?_cons_succ]; rfl
            go_simp
            refine (as_any z5.heap.size _ U (by omega) z5 (HP5.out.ou.tq (by omega)).tms (Nat.le_refl _)).mono ?_
            rintro e z6 ⟨a6, c6, rfl, ho6, hb⟩
            have HP6 := Lib.hid (HP5.out.keep hb)
            have HO6 := Lib.hid ho6
            clear ho6
            clear hb
            refine hK.out _ _ (MKS.out _ HP6.out) (fun hH6 => ?_)
            clear hK K'
            (try simp only [Act.put, List.setIfInBounds_toArray, List.set_cons_zero, List.set_cons_succ])
            clear hH6
            refine wpAnyH_ready (rs := [9]) (by kernel_rfl) (by simp) ?_
            refine AllReadyH.cons (o := ?oe9) ?hoe9 (fun K' hK => ?_) AllReadyH.nil
            case hoe9 => simp only [List.getElem?_toArray, List.getElem?_cons_zero, List.getElem?_cons_succ]; rfl
            go_simp
            refine (same_any z6.heap.size _ _ U (by omega) z6 (OwnR.tq HO6.out (by omega)).tms (OwnR.tq HP6.out.ov (by omega)).tms (Nat.le_refl _)).mono ?_
            rintro e z7 ⟨rfl, hb⟩
            have HP7 := Lib.hid (HP6.out.keep hb)
            clear hb
            refine hK.out _ _ (MKS.out _ HP7.out) (fun hH7 => ?_)
            clear hK K'
            (try simp only [Act.put, List.setIfInBounds_toArray, List.set_cons_zero, List.set_cons_succ])
            refine wpAnyH_take (i := 10) (oi := ?oe10) (v := ?ve10) ?hie10 (by kernel_rfl) (by kernel_rfl) (by kernel_rfl) ?hQe10 ?hye10 hH7 ?_
            case hie10 => simp only [List.getElem?_toArray, List.getElem?_cons_zero, List.getElem?_cons_succ]; rfl
            case hQe10 => exact fun _ _ _ h => h
            case hye10 => refine Or.inl ⟨by rfl, ?_⟩; intro W hSw; (try dsimp only at hSw); go_simp; try with_reducible rfl
            simp only [Act.put, List.setIfInBounds_toArray, List.set_cons_zero, List.set_cons_succ]
            refine wpAnyH_take (i := 11) (oi := ?oe11) (v := ?ve11) ?hie11 (by kernel_rfl) (by kernel_rfl) (by kernel_rfl) ?hQe11 ?hye11 hH7 ?_
            case hie11 => simp only [List.getElem?_toArray, List.getElem?_cons_zero, List.getElem?_cons_succ]; rfl
            case hQe11 => exact fun _ _ _ h => h
            case hye11 => refine Or.inl ⟨by rfl, ?_⟩; intro W hSw; (try dsimp only at hSw); go_simp; try with_reducible rfl
            simp only [Act.put, List.setIfInBounds_toArray, List.set_cons_zero, List.set_cons_succ]
            refine wpAnyH_take (i := 12) (oi := ?oe12) (v := ?ve12) ?hie12 (by kernel_rfl) (by kernel_rfl) (by kernel_rfl) ?hQe12 ?hye12 hH7 ?_
            case hie12 => simp only [List.getElem?_toArray, List.getElem?_cons_zero, List.getElem?_cons_succ]; rfl
            case hQe12 => exact fun _ _ _ h => h
            case hye12 => refine Or.inl ⟨by rfl, ?_⟩; intro W hSw; (try dsimp only at hSw); go_simp; try with_reducible rfl
            simp only [Act.put, List.setIfInBounds_toArray, List.set_cons_zero, List.set_cons_succ]
            refine wpAnyH_take (i := 13) (oi := ?oe13) (v := ?ve13) ?hie13 (by kernel_rfl) (by kernel_rfl) (by kernel_rfl) ?hQe13 ?hye13 hH7 ?_
            case hie13 => simp only [List.getElem?_toArray, List.getElem?_cons_zero, List.getElem?_cons_succ]; rfl
            case hQe13 => exact fun _ _ _ h => h
            case hye13 => refine Or.inl ⟨by rfl, ?_⟩; intro W hSw; (try dsimp only at hSw); go_simp; try with_reducible rfl
            simp only [Act.put, List.setIfInBounds_toArray, List.set_cons_zero, List.set_cons_succ]
            clear hH7
            refine wpAnyH_ready (rs := [14]) (by kernel_rfl) (by simp) ?_
            refine AllReadyH.cons (o := ?oe14) ?hoe14 (fun K' hK => ?_) AllReadyH.nil
            case hoe14 => simp only [List.getElem?_toArray, List.getElem?_cons_zero, List.getElem?_cons_succ]; rfl
            go_simp
            refine (rright_any z7.heap.size _ U hLU HRU.out z7 (OwnR.tq HP7.out.ov (by omega)).tms (Nat.le_refl _)).mono ?_
            rintro e z8 ⟨rfl, hb⟩
            have HP8 := Lib.hid (HP7.out.keep hb)
            clear hb
            refine hK.out _ _ (MKS.out _ HP8.out) (fun hH8 => ?_)
            clear hK K'
            (try simp only [Act.put, List.setIfInBounds_toArray, List.set_cons_zero, List.set_cons_succ])
            refine wpAnyH_take (i := 15) (oi := ?oe15) (v := ?ve15) ?hie15 (by kernel_rfl) (by kernel_rfl) (by kernel_rfl) ?hQe15 ?hye15 hH8 ?_
            case hie15 => simp only [List.getElem?_toArray, List.getElem?_cons_zero, List.getElem?_cons_succ]; rfl
            case hQe15 => exact fun _ _ _ h => h
            case hye15 => refine Or.inl ⟨by rfl, ?_⟩; intro W hSw; (try dsimp only at hSw); go_simp; try with_reducible rfl
            simp only [Act.put, List.setIfInBounds_toArray, List.set_cons_zero, List.set_cons_succ]
            refine wpAnyH_take (i := 16) (oi := ?oe16) (v := ?ve16) ?hie16 (by kernel_rfl) (by kernel_rfl) (by kernel_rfl) ?hQe16 ?hye16 hH8 ?_
            case hie16 => simp only [List.getElem?_toArray, List.getElem?_cons_zero, List.getElem?_cons_succ]; rfl
            case hQe16 => exact fun _ _ _ h => h
            case hye16 => refine Or.inl ⟨by rfl, ?_⟩; intro W hSw; (try dsimp only at hSw); go_simp; try with_reducible rfl
            simp only [Act.put, List.setIfInBounds_toArray, List.set_cons_zero, List.set_cons_succ]
            refine wpAnyH_take (i := 17) (oi := ?oe17) (v := ?ve17) ?hie17 (by kernel_rfl) (by kernel_rfl) (by kernel_rfl) ?hQe17 ?hye17 hH8 ?_
            case hie17 => simp only [List.getElem?_toArray, List.getElem?_cons_zero, List.getElem?_cons_succ]; rfl
            case hQe17 => exact fun _ _ _ h => h
            case hye17 => refine Or.inl ⟨by rfl, ?_⟩; intro W hSw; (try dsimp only at hSw); go_simp; try with_reducible rfl
            simp only [Act.put, List.setIfInBounds_toArray, List.set_cons_zero, List.set_cons_succ]
            refine wpAnyH_take (i := 18) (oi := ?oe18) (v := ?ve18) ?hie18 (by kernel_rfl) (by kernel_rfl) (by kernel_rfl) ?hQe18 ?hye18 hH8 ?_
            case hie18 => simp only [List.getElem?_toArray, List.getElem?_cons_zero, List.getElem?_cons_succ]; rfl
            case hQe18 => exact fun _ _ _ h => h
            case hye18 => refine Or.inl ⟨by rfl, ?_⟩; intro W hSw; (try dsimp only at hSw); go_simp; try with_reducible rfl
            simp only [Act.put, List.setIfInBounds_toArray, List.set_cons_zero, List.set_cons_succ]
            refine wpAnyH_take (i := 19) (oi := ?oe19) (v := ?ve19) ?hie19 (by kernel_rfl) (by kernel_rfl) (by kernel_rfl) ?hQe19 ?hye19 hH8 ?_
            case hie19 => simp only [List.getElem?_toArray, List.getElem?_cons_zero, List.getElem?_cons_succ]; rfl
            case hQe19 => exact fun _ _ _ h => h
            case hye19 => refine Or.inl ⟨by rfl, ?_⟩; intro W hSw; (try dsimp only at hSw); go_simp; try with_reducible rfl
            simp only [Act.put, List.setIfInBounds_toArray, List.set_cons_zero, List.set_cons_succ]
            refine wpAnyH_take (i := 20) (oi := ?oe20) (v := ?ve20) ?hie20 (by kernel_rfl) (by kernel_rfl) (by kernel_rfl) ?hQe20 ?hye20 hH8 ?_
            case hie20 => simp only [List.getElem?_toArray, List.getElem?_cons_zero, List.getElem?_cons_succ]; rfl
            case hQe20 => exact fun _ _ _ h => h
            case hye20 => refine Or.inl ⟨by rfl, ?_⟩; intro W hSw; (try dsimp only at hSw); go_simp; try with_reducible rfl
            simp only [Act.put, List.setIfInBounds_toArray, List.set_cons_zero, List.set_cons_succ]
            refine wpAnyH_take (i := 21) (oi := ?oe21) (v := ?ve21) ?hie21 (by kernel_rfl) (by kernel_rfl) (by kernel_rfl) ?hQe21 ?hye21 hH8 ?_
            case hie21 => simp only [List.getElem?_toArray, List.getElem?_cons_zero, List.getElem?_cons_succ]; rfl
            case hQe21 => exact fun _ _ _ h => h
            case hye21 => refine Or.inl ⟨by rfl, ?_⟩; intro W hSw; (try dsimp only at hSw); go_simp; try with_reducible rfl
            simp only [Act.put, List.setIfInBounds_toArray, List.set_cons_zero, List.set_cons_succ]
            refine wpAnyH_take (i := 22) (oi := ?oe22) (v := ?ve22) ?hie22 (by kernel_rfl) (by kernel_rfl) (by kernel_rfl) ?hQe22 ?hye22 hH8 ?_
            case hie22 => simp only [List.getElem?_toArray, List.getElem?_cons_zero, List.getElem?_cons_succ]; rfl
            case hQe22 => exact fun _ _ _ h => h
            case hye22 => refine Or.inl ⟨by rfl, ?_⟩; intro W hSw; (try dsimp only at hSw); go_simp; try with_reducible rfl
            simp only [Act.put, List.setIfInBounds_toArray, List.set_cons_zero, List.set_cons_succ]
            refine wpAnyH_take (i := 23) (oi := ?oe23) (v := ?ve23) ?hie23 (by kernel_rfl) (by kernel_rfl) (by kernel_rfl) ?hQe23 ?hye23 hH8 ?_
            case hie23 => simp only [List.getElem?_toArray, List.getElem?_cons_zero, List.getElem?_cons_succ]; rfl
            case hQe23 => exact fun _ _ _ h => h
            case hye23 => refine Or.inl ⟨by rfl, ?_⟩; intro W hSw; (try dsimp only at hSw); go_simp; try with_reducible rfl
            simp only [Act.put, List.setIfInBounds_toArray, List.set_cons_zero, List.set_cons_succ]
            refine wpAnyH_take (i := 24) (oi := ?oe24) (v := ?ve24) ?hie24 (by kernel_rfl) (by kernel_rfl) (by kernel_rfl) ?hQe24 ?hye24 hH8 ?_
            case hie24 => simp only [List.getElem?_toArray, List.getElem?_cons_zero, List.getElem?_cons_succ]; rfl
            case hQe24 => exact fun _ _ _ h => h
            case hye24 => refine Or.inl ⟨by rfl, ?_⟩; intro W hSw; (try dsimp only at hSw); go_simp; try with_reducible rfl
            simp only [Act.put, List.setIfInBounds_toArray, List.set_cons_zero, List.set_cons_succ]
            refine wpAnyH_take (i := 25) (oi := ?oe25) (v := ?ve25) ?hie25 (by kernel_rfl) (by kernel_rfl) (by kernel_rfl) ?hQe25 ?hye25 hH8 ?_
            case hie25 => simp only [List.getElem?_toArray, List.getElem?_cons_zero, List.getElem?_cons_succ]; rfl
            case hQe25 => exact fun _ _ _ h => h
            case hye25 => refine Or.inl ⟨by rfl, ?_⟩; intro W hSw; (try dsimp only at hSw); go_simp; try with_reducible rfl
            simp only [Act.put, List.setIfInBounds_toArray, List.set_cons_zero, List.set_cons_succ]
            refine wpAnyH_take (i := 26) (oi := ?oe26) (v := ?ve26) ?hie26 (by kernel_rfl) (by kernel_rfl) (by kernel_rfl) ?hQe26 ?hye26 hH8 ?_
            case hie26 => simp only [List.getElem?_toArray, List.getElem?_cons_zero, List.getElem?_cons_succ]; rfl
            case hQe26 => exact fun _ _ _ h => h
            case hye26 => refine Or.inl ⟨by rfl, ?_⟩; intro W hSw; (try dsimp only at hSw); go_simp; try with_reducible rfl
            simp only [Act.put, List.setIfInBounds_toArray, List.set_cons_zero, List.set_cons_succ]
            refine wpAnyH_take (i := 27) (oi := ?oe27) (v := ?ve27) ?hie27 (by kernel_rfl) (by kernel_rfl) (by kernel_rfl) ?hQe27 ?hye27 hH8 ?_
            case hie27 => simp only [List.getElem?_toArray, List.getElem?_cons_zero, List.getElem?_cons_succ]; rfl
            case hQe27 => exact fun _ _ _ h => h
            case hye27 => refine Or.inl ⟨by rfl, ?_⟩; intro W hSw; (try dsimp only at hSw); go_simp; try with_reducible rfl
            simp only [Act.put, List.setIfInBounds_toArray, List.set_cons_zero, List.set_cons_succ]
            refine wpAnyH_take (i := 28) (oi := ?oe28) (v := ?ve28) ?hie28 (by kernel_rfl) (by kernel_rfl) (by kernel_rfl) ?hQe28 ?hye28 hH8 ?_
            case hie28 => simp only [List.getElem?_toArray, List.getElem?_cons_zero, List.getElem?_cons_succ]; rfl
            case hQe28 => exact fun _ _ _ h => h
            case hye28 => refine Or.inl ⟨by rfl, ?_⟩; intro W hSw; (try dsimp only at hSw); go_simp; try with_reducible rfl
            simp only [Act.put, List.setIfInBounds_toArray, List.set_cons_zero, List.set_cons_succ]
            refine wpAnyH_take (i := 30) (oi := ?oe30) (v := ?ve30) ?hie30 (by kernel_rfl) (by kernel_rfl) (by kernel_rfl) ?hQe30 ?hye30 hH8 ?_
            case hie30 => simp only [List.getElem?_toArray, List.getElem?_cons_zero, List.getElem?_cons_succ]; rfl
            case hQe30 => exact fun _ _ _ h => h
            case hye30 => refine Or.inl ⟨by rfl, ?_⟩; intro W hSw; (try dsimp only at hSw); go_simp; try with_reducible rfl
            simp only [Act.put, List.setIfInBounds_toArray, List.set_cons_zero, List.set_cons_succ]
            clear hH8
            refine wpAnyH_ready (rs := [29]) (by kernel_rfl) (by simp) ?_
            refine AllReadyH.cons (o := ?oe29) ?hoe29 (fun K' hK => ?_) AllReadyH.nil
            case hoe29 => simp only [List.getElem?_toArray, List.getElem?_cons_zero, List.getElem?_cons_succ]; rfl
            go_simp
            refine (CN.out z8 _ _ HP8.out.ou).mono ?_
            rintro e z9 ⟨rfl, hb⟩
            have HP9 := Lib.hid (HP8.out.keep hb)
            clear hb
            refine hK.out _ _ (MKS.out _ HP9.out) (fun hH9 => ?_)
            clear hK K'
            (try simp only [Act.put, List.setIfInBounds_toArray, List.set_cons_zero, List.set_cons_succ])
            clear hH9
            refine wpAnyH_ready (rs := [31]) (by kernel_rfl) (by simp) ?_
            refine AllReadyH.cons (o := ?oe31) ?hoe31 (fun K' hK => ?_) AllReadyH.nil
            case hoe31 => simp only [List.getElem?_toArray, List.getElem?_cons_zero, List.getElem?_cons_succ]; rfl
            go_simp
            refine (CRN.out z9 _ _ HP9.out.ov).mono ?_
            rintro e z10 ⟨rfl, hb⟩
            have HP10 := Lib.hid (HP9.out.keep hb)
            clear hb
            refine hK.out _ _ (MKS.out _ HP10.out) (fun hH10 => ?_)
            clear hK K'
            (try simp only [Act.put, List.setIfInBounds_toArray, List.set_cons_zero, List.set_cons_succ])
            refine wpAnyH_take (i := 32) (oi := ?oe32) (v := ?ve32) ?hie32 (by kernel_rfl) (by kernel_rfl) (by kernel_rfl) ?hQe32 ?hye32 hH10 ?_
            case hie32 => simp only [List.getElem?_toArray, List.getElem?_cons_zero, List.getElem?_cons_succ]; rfl
            case hQe32 => exact fun _ _ _ h => h
            case hye32 => refine Or.inl ⟨by rfl, ?_⟩; intro W hSw; (try dsimp only at hSw); go_simp; try with_reducible rfl
            simp only [Act.put, List.setIfInBounds_toArray, List.set_cons_zero, List.set_cons_succ]
            refine wpAnyH_take (i := 33) (oi := ?oe33) (v := ?ve33) ?hie33 (by kernel_rfl) (by kernel_rfl) (by kernel_rfl) ?hQe33 ?hye33 hH10 ?_
            case hie33 => simp only [List.getElem?_toArray, List.getElem?_cons_zero, List.getElem?_cons_succ]; rfl
            case hQe33 => exact fun _ _ _ h => h
            case hye33 => refine Or.inl ⟨by rfl, ?_⟩; intro W hSw; (try dsimp only at hSw); go_simp; try with_reducible rfl
            simp only [Act.put, List.setIfInBounds_toArray, List.set_cons_zero, List.set_cons_succ]
            clear hH10
            refine wpAnyH_done (by kernel_rfl) ?_ _
            have HFIN2 := Lib.hid (HP10.out.fin rfl)
            have hs10 := HP10.out.size
            have hq10 := HP10.out.hq
            have yt : z10.cell? ⟨p0, 0, none⟩ = some (.slice ta L.length tc) := by rw [Lib.cell_of_heap HP10.out.m.ga]; rfl
            have yu : z10.cell? ⟨s + 1, 0, none⟩ = some (.slice ua U.length uc) := by rw [Lib.cell_of_heap HP10.out.g10]; rfl
            have ft : z10.frozen? ⟨p0, 0, none⟩ = false := Lib.frozen_of_heap HP10.out.m.ga 0
            have fm : z10.frozen? ⟨p0 + 1, 0, none⟩ = false := Lib.frozen_of_heap HP10.out.m.gb 0
            have hmf : (z10.setCell ⟨p0, 0, none⟩ (.slice ua U.length uc)).frozen? ⟨p0 + 1, 0, none⟩ = false := Lib.frozen_of_heap ((set_blk_ne (show p0 + 1 ≠ p0 by omega)).trans HP10.out.m.gb) 0
            have hmc : (z10.setCell ⟨p0, 0, none⟩ (.slice ua U.length uc)).cell? ⟨p0 + 1, 0, none⟩ = some (.slice ma L.length mc) := by rw [Lib.cell_of_heap ((set_blk_ne (show p0 + 1 ≠ p0 by omega)).trans HP10.out.m.gb)]; rfl
            have hvc : (z10.setCell ⟨p0, 0, none⟩ (.slice ua U.length uc)).cell? ⟨s + 2, 0, none⟩ = some (.slice vb U.length vc) := by rw [Lib.cell_of_heap ((set_blk_ne (show s + 2 ≠ p0 by omega)).trans HP10.out.g11)]; rfl
            have HMF := Lib.hid hmf
            have HMC := Lib.hid hmc
            have HVC := Lib.hid hvc
            clear hmf hmc hvc hs10 hq10
            go_upto_region 40 with fail
            generalize z10.setCell ⟨p0, 0, none⟩ (.slice ua U.length uc) = zf at *
            have hmf := HMF.out
            have hmc := HMC.out
            have hvc := HVC.out
            clear yt yu ft fm
            go_wp2_with fail
            go_roundw
            case rel => exact ⟨k + 1, U, ua, uc, vb, vc, by omega, by go_num, HRU.out, hLU, HFIN2.out⟩
            case measure => simp [intOf]; omega
      · have g : ¬ ((k : Int) < (l.length : Int)) := by omega
        go_wp2_with fail
        go_ret
        exact ⟨rfl, HBA.out.trans (HM.out.bl.mono (by have := HP0.out; omega))⟩
end Go.Proofs.Ytpadbkplknnopaa
