/-
  CrPlain, CrApp, CrRead, CrTick, CrAns, in one text.
-/
import Derived.Test.YtapgjjfndbfnpaaDoorCrOne
import Derived.Test.YtapgjjfndbfnpaaDoorEvSizes
import Derived.Test.YtapgjjfndbfnpaaDoorCliSee
import Derived.Test.YtapgjjfndbfnpaaDoorCliTake
import Derived.Test.YtapgjjfndbfnpaaDoorCliOpen
namespace Go.Proofs.YtapgjjfndbfnpaaDoor.Rf
open Go.RowKit
set_option linter.unusedSimpArgs false
set_option linter.unusedVariables false

def mid : MsgW → Int
  | .whr id => id
  | .app id _ => id
  | .red id _ _ => id
def outP (l : List OutW) : List (Int × Int) := l.map fun o => (o.dst, mid o.m)
def RDoes (X : Nat → Prop) (lo c : Nat) (R : ClR) (w : World) (s' : ClW) (l : List OutW) (v : Value) (w' : World) : Prop :=
  ∃ R', R'.s = s' ∧ ClM X lo w' c R' ∧ Step c R R' w w' ∧ ROutsAt w.heap.size w' v (outP l)
theorem routs_less {B B' : Nat} {w : World} {v : Value} {l : List (Int × Int)} (hB : B ≤ B') (h : ROutsAt B' w v l) : ROutsAt B w v l := by
  rcases h with h | ⟨b, h1, h2, h3⟩
  · exact .inl h
  · exact .inr ⟨b, h1, Nat.le_trans hB h2, h3⟩
theorem askO_plain {X : Nat → Prop} {lo c : Nat} {w : World} {R : ClR} (h : ClM X lo w c R) {l : List OpR} {r : OpR} (hr : R.rs = l ++ [r]) : (askO R r).plain = askW R.s := by
  rw [askO, askW, h.lastS hr]
  split
  · rfl
  · split <;> rfl
theorem askW_id (s : ClW) : mid (askW s).m = (lastS s).id := by
  unfold askW
  split
  · rfl
  · split <;> rfl
theorem ask_pair {X : Nat → Prop} {lo c : Nat} {w : World} {R : ClR} (h : ClM X lo w c R) {l : List OpR} {r : OpR} (hr : R.rs = l ++ [r]) : ((askO R r).dst, r.o.id) = ((askW R.s).dst, mid (askW R.s).m) := by
  have h1 := askO_plain h hr
  have h2 := congrArg OutW.dst h1
  rw [askW_id, h.lastS hr]
  exact Prod.ext h2 rfl
theorem rdoes_none {X : Nat → Prop} {lo c : Nat} {w w' : World} {R : ClR} (h : ClM X lo w c R) (hb : Below w.heap.size w w') : RDoes X lo c R w R.s [] (.slice none 0 0) w' :=
  ⟨R, rfl, h.keep hb, step_below hb rfl, .inl ⟨rfl, rfl⟩⟩
theorem rdoes_begin {X : Nat → Prop} {lo c : Nat} {w : World} {R : ClR} {Rw : ClR} {w1 w3 : World} {r1 : OpR} {ov v : Value} {now : Int} (hst : Step c R Rw w w1) (hm : ClM X lo w3 c (((Rw.begun r1 ov).wait true).ask now)) (hs : Step c Rw (((Rw.begun r1 ov).wait true).ask now) w1 w3)
    (ho : ROutsAt w1.heap.size w3 v [((askO ((Rw.begun r1 ov).wait true) r1).dst, r1.o.id)]) (o : OpW) (hr1 : r1.o = { o with id := (Rw.s.ops.length : Int) + 1, start := now, end_ := -1 }) :
    RDoes X lo c R w (beginS Rw.s o now) [askW (beginS Rw.s o now)] v w3 := by
  have hrs : (((Rw.begun r1 ov).wait true).ask now).rs = Rw.rs ++ [r1] := rfl
  have e : (((Rw.begun r1 ov).wait true).ask now).s = beginS Rw.s o now := by
    simp only [ClR.ask, ClR.wait, ClR.begun, beginS, hr1]
  refine ⟨_, e, hm, hst.trans hs, ?_⟩
  have h4 := ask_pair hm hrs
  rw [e] at h4
  have h5 : ((askO ((Rw.begun r1 ov).wait true) r1).dst, r1.o.id) = ((askO (((Rw.begun r1 ov).wait true).ask now) r1).dst, r1.o.id) := rfl
  rw [h5, h4] at ho
  exact routs_less hst.kept.size ho
theorem busy_eq {X : Nat → Prop} {lo c : Nat} {w : World} {R : ClR} (h : ClM X lo w c R) (hm : R.rs.length ≤ 100000) : busyB R.s = R.s.pending := by
  unfold busyB
  rw [← h.len, decide_eq_false (by omega), Bool.or_false]
end Go.Proofs.YtapgjjfndbfnpaaDoor.Rf
namespace Go.Proofs.YtapgjjfndbfnpaaDoor.Rf
open Go.RowKit
set_option linter.unusedSimpArgs false
set_option linter.unusedVariables false

set_option maxRecDepth 100000 in
set_option maxHeartbeats 1600000 in
theorem append_any (X : Nat → Prop) (lo c : Nat) (R : ClR) (w : World) (h : ClM X lo w c R) (hm : R.rs.length ≤ 100000) (stream : ByteArray) (expect : Int) (evv : Value) (events : List EV) (he : EvA (fun k => R.mut c k ∨ X k) w evv events) (hlb : LightB (batchS R.s stream expect events)) (now : Int)
    (s' : ClW) (outs : List OutW) (err : Nat) (hs : appendS R.s stream expect events now = (s', outs, err)) :
    Calls Tryd.prog 20 #[.pointer (some ⟨c, 0, none⟩), .string stream, .int .i64 expect, evv, .int .i64 now] w fun e w' => ∃ v, e = .returned (.tuple #[v, .int .i64 err]) ∧ RDoes X lo c R w s' outs v w' := by
  obtain ⟨ba, bk, rfl⟩ := he.1.form
  obtain ⟨oa, ok, hov⟩ := h.form
  have hq := busy_eq h hm
  have c2 := h.c2
  rw [hov] at c2
  have c3 := h.c3
  have HH := Lib.hid h
  cases hp : R.s.pending with
  | true =>
    rw [hp] at hq c3
    obtain ⟨rfl, rfl, rfl⟩ : R.s = s' ∧ [] = outs ∧ 9 = err := by
      rw [appendS, if_pos hq] at hs
      exact ⟨congrArg (·.1) hs, congrArg (·.2.1) hs, congrArg (·.2.2) hs⟩
    clear hs hq h he hov hp c2 hlb
    go_enter Tryd.func20, Tryd.ntmps20
    go_wp2_with fail
    go_ret2
    exact ⟨_, rfl, rdoes_none HH.out (Below.refl _ _)⟩
  | false =>
    rw [hp] at hq c3
    obtain ⟨b, hb⟩ : ∃ b, batchS R.s stream expect events = b := ⟨_, rfl⟩
    have hlen : R.rs.length = R.s.ops.length := h.len
    have hbe : b = ⟨stream, expect, R.s.session, (R.rs.length : Int) + 1, events⟩ := by rw [← hb, batchS, hlen]
    obtain ⟨fc, hfc⟩ : ∃ f, fitsB b = f := ⟨_, rfl⟩
    rw [appendS, if_neg (by rw [hq]; decide), hb, hfc] at hs
    rw [hb] at hlb
    have HS := Lib.hid hs
    have HBE := Lib.hid hbe
    have HFC := Lib.hid hfc
    have HE := Lib.hid he
    have HLB := Lib.hid hlb
    have MKS := Lib.hid (fun (X' : World) (hb' : Below w.heap.size w X') => (show X'.cell? ⟨c, 0, none⟩ = some (.int .i64 R.s.session) ∧ X'.cell? ⟨c, 2, none⟩ = some (.slice oa R.rs.length ok) ∧ Below w.heap.size w X' from ⟨(h.keep hb').c0, by rw [← hov]; exact (h.keep hb').c2, hb'⟩))
    have i1 : (0 : Int) ≤ (R.rs.length : Int) := by omega
    have i2 : (R.rs.length : Int) ≤ 100000 := by omega
    have g0 : ¬ (137438953472 : Int) ≤ (R.rs.length : Int) := by omega
    have g0d : decide ((137438953472 : Int) ≤ (R.rs.length : Int)) = false := by rw [decide_eq_false_iff_not]; omega
    clear hs hq hb hbe hlen hfc he hov h hp hlb
    go_enter Tryd.func20, Tryd.ntmps20
    go_upto_region 3 with fail
    clear c2 c3 g0 g0d
    go_cut [12] (fun s12 wx => ∃ q, s12 = .pointer (some ⟨q, 0, none⟩) ∧ w.heap.size ≤ q ∧ wx.heap[q]? = some (.cells #[.string stream, .int .i64 expect, .int .i64 R.s.session, .int .i64 ((R.rs.length : Int) + 1), .slice ba events.length bk] 24) ∧ Below w.heap.size w wx)
    case first =>
      have ew : IntKind.i64.wrap ((R.rs.length : Int) + 1) = (R.rs.length : Int) + 1 := by rw [IntKind.wrap_i64]; omega
      refine region_begin (S := fun X' => X'.cell? ⟨c, 0, none⟩ = some (.int .i64 R.s.session) ∧ X'.cell? ⟨c, 2, none⟩ = some (.slice oa R.rs.length ok) ∧ Below w.heap.size w X') 16 rfl (by kernel_rfl) (MKS.out _ (Below.refl w.heap.size w).drew) (fun hH0 => ?_)
      refine wpAnyH_take (i := 0) (oi := ?op0) (v := ?vp0) ?hip0 (by kernel_rfl) (by kernel_rfl) (by kernel_rfl) ?hQp0 ?hyp0 hH0 ?_
      case hip0 => simp only [List.getElem?_toArray, List.getElem?_cons_zero]; rfl
      case hQp0 => exact fun _ _ _ h => h
      case hyp0 => refine Or.inl ⟨by rfl, ?_⟩; intro W hSw; (try dsimp only at hSw); go_simp; try with_reducible rfl
      simp only [Act.put, List.setIfInBounds_toArray, List.set_cons_zero, List.set_cons_succ]
      refine wpAnyH_take (i := 1) (oi := ?op1) (v := ?vp1) ?hip1 (by kernel_rfl) (by kernel_rfl) (by kernel_rfl) ?hQp1 ?hyp1 hH0 ?_
      case hip1 => simp only [List.getElem?_toArray, List.getElem?_cons_zero, List.getElem?_cons_succ]; rfl
      case hQp1 => exact fun _ _ _ h => h
      case hyp1 => refine Or.inl ⟨by rfl, ?_⟩; intro W hSw; (try dsimp only at hSw); go_simp; try with_reducible rfl
      simp only [Act.put, List.setIfInBounds_toArray, List.set_cons_zero, List.set_cons_succ]
      refine wpAnyH_take (i := 2) (oi := ?op2) (v := ?vp2) ?hip2 (by kernel_rfl) (by kernel_rfl) (by kernel_rfl) ?hQp2 ?hyp2 hH0 ?_
      case hip2 => simp only [List.getElem?_toArray, List.getElem?_cons_zero, List.getElem?_cons_succ]; rfl
      case hQp2 => exact fun _ _ _ h => h
      case hyp2 => refine Or.inl ⟨by rfl, ?_⟩; intro W hSw; (try dsimp only at hSw); go_simp; try with_reducible rfl
      simp only [Act.put, List.setIfInBounds_toArray, List.set_cons_zero, List.set_cons_succ]
      refine wpAnyH_take (i := 3) (oi := ?op3) (v := ?vp3) ?hip3 (by kernel_rfl) (by kernel_rfl) (by kernel_rfl) ?hQp3 ?hyp3 hH0 ?_
      case hip3 => simp only [List.getElem?_toArray, List.getElem?_cons_zero, List.getElem?_cons_succ]; rfl
      case hQp3 => exact fun _ _ _ h => h
      case hyp3 => refine Or.inl ⟨by rfl, ?_⟩; intro W hSw; (try dsimp only at hSw); go_simp; try with_reducible rfl
      simp only [Act.put, List.setIfInBounds_toArray, List.set_cons_zero, List.set_cons_succ]
      refine wpAnyH_take (i := 4) (oi := ?op4) (v := ?vp4) ?hip4 (by kernel_rfl) (by kernel_rfl) (by kernel_rfl) ?hQp4 ?hyp4 hH0 ?_
      case hip4 => simp only [List.getElem?_toArray, List.getElem?_cons_zero, List.getElem?_cons_succ]; rfl
      case hQp4 => exact fun _ _ _ h => h
      case hyp4 => refine Or.inl ⟨by rfl, ?_⟩; intro W hSw; (try dsimp only at hSw); go_simp; try with_reducible rfl
      simp only [Act.put, List.setIfInBounds_toArray, List.set_cons_zero, List.set_cons_succ]
      refine wpAnyH_take (i := 5) (oi := ?op5) (v := ?vp5) ?hip5 (by kernel_rfl) (by kernel_rfl) (by kernel_rfl) ?hQp5 ?hyp5 hH0 ?_
      case hip5 => simp only [List.getElem?_toArray, List.getElem?_cons_zero, List.getElem?_cons_succ]; rfl
      case hQp5 => exact fun _ _ _ h => h
      case hyp5 => refine Or.inl ⟨by rfl, ?_⟩; intro W hSw; (try dsimp only at hSw); go_simp; try with_reducible rfl
      simp only [Act.put, List.setIfInBounds_toArray, List.set_cons_zero, List.set_cons_succ]
      refine wpAnyH_take (i := 6) (oi := ?op6) (v := ?vp6) ?hip6 (by kernel_rfl) (by kernel_rfl) (by kernel_rfl) ?hQp6 ?hyp6 hH0 ?_
      case hip6 => simp only [List.getElem?_toArray, List.getElem?_cons_zero, List.getElem?_cons_succ]; rfl
      case hQp6 => exact fun _ _ _ h => h
      case hyp6 => refine Or.inl ⟨by rfl, ?_⟩; intro W hSw; (try dsimp only at hSw); go_simp; try with_reducible rfl
      simp only [Act.put, List.setIfInBounds_toArray, List.set_cons_zero, List.set_cons_succ]
      refine wpAnyH_take (i := 7) (oi := ?op7) (v := ?vp7) ?hip7 (by kernel_rfl) (by kernel_rfl) (by kernel_rfl) ?hQp7 ?hyp7 hH0 ?_
      case hip7 => simp only [List.getElem?_toArray, List.getElem?_cons_zero, List.getElem?_cons_succ]; rfl
      case hQp7 => exact fun _ _ _ h => h
      case hyp7 => refine Or.inl ⟨by rfl, ?_⟩; intro W hSw; (try dsimp only at hSw); go_simp; try with_reducible rfl
      simp only [Act.put, List.setIfInBounds_toArray, List.set_cons_zero, List.set_cons_succ]
      refine wpAnyH_take (i := 8) (oi := ?op8) (v := ?vp8) ?hip8 (by kernel_rfl) (by kernel_rfl) (by kernel_rfl) ?hQp8 ?hyp8 hH0 ?_
      case hip8 => simp only [List.getElem?_toArray, List.getElem?_cons_zero, List.getElem?_cons_succ]; rfl
      case hQp8 => exact fun _ _ _ h => h
      case hyp8 => refine Or.inl ⟨by rfl, ?_⟩; intro W hSw; (try dsimp only at hSw); go_simp; try with_reducible rfl
      simp only [Act.put, List.setIfInBounds_toArray, List.set_cons_zero, List.set_cons_succ]
      refine wpAnyH_take (i := 9) (oi := ?op9) (v := ?vp9) ?hip9 (by kernel_rfl) (by kernel_rfl) (by kernel_rfl) ?hQp9 ?hyp9 hH0 ?_
      case hip9 => simp only [List.getElem?_toArray, List.getElem?_cons_zero, List.getElem?_cons_succ]; rfl
      case hQp9 => exact fun _ _ _ h => h
      case hyp9 => refine Or.inl ⟨by rfl, ?_⟩; intro W hSw; (try dsimp only at hSw); go_simp; try with_reducible rfl
      simp only [Act.put, List.setIfInBounds_toArray, List.set_cons_zero, List.set_cons_succ]
      refine wpAnyH_take (i := 10) (oi := ?op10) (v := ?vp10) ?hip10 (by kernel_rfl) (by kernel_rfl) (by kernel_rfl) ?hQp10 ?hyp10 hH0 ?_
      case hip10 => simp only [List.getElem?_toArray, List.getElem?_cons_zero, List.getElem?_cons_succ]; rfl
      case hQp10 => exact fun _ _ _ h => h
      case hyp10 => refine Or.inl ⟨by rfl, ?_⟩; intro W hSw; (try dsimp only at hSw); go_simp; try with_reducible rfl
      simp only [Act.put, List.setIfInBounds_toArray, List.set_cons_zero, List.set_cons_succ]
      refine wpAnyH_take (i := 11) (oi := ?op11) (v := ?vp11) ?hip11 (by kernel_rfl) (by kernel_rfl) (by kernel_rfl) ?hQp11 ?hyp11 hH0 ?_
      case hip11 => simp only [List.getElem?_toArray, List.getElem?_cons_zero, List.getElem?_cons_succ]; rfl
      case hQp11 => exact fun _ _ _ h => h
      case hyp11 => refine Or.inl ⟨by rfl, ?_⟩; intro W hSw; (try dsimp only at hSw); go_simp; try with_reducible rfl
      simp only [Act.put, List.setIfInBounds_toArray, List.set_cons_zero, List.set_cons_succ]
      refine wpAnyH_take (i := 12) (oi := ?op12) (v := ?vp12) ?hip12 (by kernel_rfl) (by kernel_rfl) (by kernel_rfl) ?hQp12 ?hyp12 hH0 ?_
      case hip12 => simp only [List.getElem?_toArray, List.getElem?_cons_zero, List.getElem?_cons_succ]; rfl
      case hQp12 => exact fun _ _ _ h => h
      case hyp12 => refine Or.inl ⟨by rfl, ?_⟩; intro W hSw; (try dsimp only at hSw); go_simp; try with_reducible rfl
      simp only [Act.put, List.setIfInBounds_toArray, List.set_cons_zero, List.set_cons_succ]
      refine wpAnyH_take (i := 13) (oi := ?op13) (v := ?vp13) ?hip13 (by kernel_rfl) (by kernel_rfl) (by kernel_rfl) ?hQp13 ?hyp13 hH0 ?_
      case hip13 => simp only [List.getElem?_toArray, List.getElem?_cons_zero, List.getElem?_cons_succ]; rfl
      case hQp13 => exact fun _ _ _ h => h
      case hyp13 => refine Or.inl ⟨by rfl, ?_⟩; intro W hSw; (try dsimp only at hSw); go_simp; try with_reducible rfl
      simp only [Act.put, List.setIfInBounds_toArray, List.set_cons_zero, List.set_cons_succ]
      clear hH0 ew
      have HBd := Lib.hid (Below.refl w.heap.size w).drew
      have hzd : w.heap.size ≤ w.drew.heap.size := HBd.out.size
      generalize w.drew = wd at *
      refine wpAnyH_ready (rs := [14]) (by kernel_rfl) (by simp) ?_
      refine AllReadyH.cons (o := ?ox14) ?hox14 (fun K' hK => ?_) AllReadyH.nil
      case hox14 => simp only [List.getElem?_toArray, List.getElem?_cons_zero, List.getElem?_cons_succ]; rfl
      go_simp
      have GQ := Lib.hid (heap_alloc_new wd (.cells #[.string ⟨#[]⟩, .int .i64 0, .int .i64 0, .int .i64 0, .slice none 0 0] 24))
      have hba := (Below.refl wd.heap.size wd).alloc (Nat.le_refl _) (.cells #[.string ⟨#[]⟩, .int .i64 0, .int .i64 0, .int .i64 0, .slice none 0 0] 24)
      have HBZ := Lib.hid (HBd.out.trans (hba.mono hzd))
      clear hba
      generalize wd.alloc (.cells #[.string ⟨#[]⟩, .int .i64 0, .int .i64 0, .int .i64 0, .slice none 0 0] 24) = wz at *
      generalize hqq : wd.heap.size = q at *
      have hql := hzd
      clear hqq
      refine hK.out _ _ (MKS.out _ HBZ.out) (fun hH2 => ?_)
      clear hK K'
      (try simp only [Act.put, List.setIfInBounds_toArray, List.set_cons_zero, List.set_cons_succ])
      clear hH2
      have GQ' := GQ.out
      have y0 : wz.cell? ⟨q, 0, none⟩ = some (.string ⟨#[]⟩) := by rw [Lib.cell_of_heap GQ']; rfl
      have y1 : wz.cell? ⟨q, 1, none⟩ = some (.int .i64 0) := by rw [Lib.cell_of_heap GQ']; rfl
      have y2 : wz.cell? ⟨q, 2, none⟩ = some (.int .i64 0) := by rw [Lib.cell_of_heap GQ']; rfl
      have y3 : wz.cell? ⟨q, 3, none⟩ = some (.int .i64 0) := by rw [Lib.cell_of_heap GQ']; rfl
      have y4 : wz.cell? ⟨q, 4, none⟩ = some (.slice none 0 0) := by rw [Lib.cell_of_heap GQ']; rfl
      have fy0 : wz.frozen? ⟨q, 0, none⟩ = false := Lib.frozen_of_heap GQ' 0
      have fy1 : wz.frozen? ⟨q, 1, none⟩ = false := Lib.frozen_of_heap GQ' 1
      have fy2 : wz.frozen? ⟨q, 2, none⟩ = false := Lib.frozen_of_heap GQ' 2
      have fy3 : wz.frozen? ⟨q, 3, none⟩ = false := Lib.frozen_of_heap GQ' 3
      have fy4 : wz.frozen? ⟨q, 4, none⟩ = false := Lib.frozen_of_heap GQ' 4
      clear GQ'
      refine wpAnyH_ready (rs := [15]) (by kernel_rfl) (by simp) ?_
      refine AllReadyH.cons (o := ?ox15) ?hox15 (fun K' hK => ?_) AllReadyH.nil
      case hox15 => simp only [List.getElem?_toArray, List.getElem?_cons_zero, List.getElem?_cons_succ]; rfl
      go_simp
      have hbz := below_set5 HBZ.out q hql (.string stream) (.int .i64 expect) (.int .i64 R.s.session) (.int .i64 ((R.rs.length : Int) + 1)) (.slice ba events.length bk)
      refine hK.out _ _ (MKS.out _ hbz) (fun hH3 => ?_)
      clear hK K'
      (try simp only [Act.put, List.setIfInBounds_toArray, List.set_cons_zero, List.set_cons_succ])
      clear hH3
      refine wpAnyH_done (by kernel_rfl) ?_ _
      go_wp2
      go_meet
      case rel => exact ⟨q, rfl, hql, block_set5 GQ.out, hbz⟩
    case rest =>
      obtain ⟨q, rfl, hql, hgq, hbx⟩ := hcut
      have hib : IsBatch wc.heap.size wc (.agg #[.string stream, .int .i64 expect, .int .i64 R.s.session, .int .i64 ((R.rs.length : Int) + 1), .slice ba events.length bk]) b := by rw [HBE.out]; exact ⟨_, rfl, (HE.out.1.keep hbx (Nat.le_refl _)).up hbx.size⟩
      have y0 : wc.cell? ⟨q, 0, none⟩ = some (.string stream) := by rw [Lib.cell_of_heap hgq]; rfl
      have y1 : wc.cell? ⟨q, 1, none⟩ = some (.int .i64 expect) := by rw [Lib.cell_of_heap hgq]; rfl
      have y2 : wc.cell? ⟨q, 2, none⟩ = some (.int .i64 R.s.session) := by rw [Lib.cell_of_heap hgq]; rfl
      have y3 : wc.cell? ⟨q, 3, none⟩ = some (.int .i64 ((R.rs.length : Int) + 1)) := by rw [Lib.cell_of_heap hgq]; rfl
      have y4 : wc.cell? ⟨q, 4, none⟩ = some (.slice ba events.length bk) := by rw [Lib.cell_of_heap hgq]; rfl
      have CF := Lib.hid (refFits_any wc.heap.size _ b fc HFC.out HLB.out wc hib (Nat.le_refl _))
      have HGQ := Lib.hid hgq
      have HBX := Lib.hid hbx
      clear hib hgq hbx
      by_cases hf0 : fc = 0
      · subst hf0
        obtain ⟨rfl, rfl, rfl⟩ : beginS R.s { zeroOp with kind := 1, b := b } now = s' ∧ [askW (beginS R.s { zeroOp with kind := 1, b := b } now)] = outs ∧ 0 = err := by
          have h1 := HS.out
          rw [if_neg (by simp)] at h1
          exact ⟨congrArg (·.1) h1, congrArg (·.2.1) h1, congrArg (·.2.2) h1⟩
        go_wp2_with fail
        refine CF.out.mono ?_
        rintro e w2 ⟨rfl, hb2⟩
        have hqc : q < wc.heap.size := (Array.getElem?_eq_some_iff.1 HGQ.out).1
        have hgq2 := (hb2.block q hqc).trans HGQ.out
        have y0 : w2.cell? ⟨q, 0, none⟩ = some (.string stream) := by rw [Lib.cell_of_heap hgq2]; rfl
        have y1 : w2.cell? ⟨q, 1, none⟩ = some (.int .i64 expect) := by rw [Lib.cell_of_heap hgq2]; rfl
        have y2 : w2.cell? ⟨q, 2, none⟩ = some (.int .i64 R.s.session) := by rw [Lib.cell_of_heap hgq2]; rfl
        have y3 : w2.cell? ⟨q, 3, none⟩ = some (.int .i64 ((R.rs.length : Int) + 1)) := by rw [Lib.cell_of_heap hgq2]; rfl
        have y4 : w2.cell? ⟨q, 4, none⟩ = some (.slice ba events.length bk) := by rw [Lib.cell_of_heap hgq2]; rfl
        have HB2 := Lib.hid (HBX.out.trans (hb2.mono HBX.out.size))
        have hm2 := HH.out.keep HB2.out
        have hev2 : EvA (fun k => R.mut c k ∨ X k) w2 (.slice ba events.length bk) events := HE.out.keep (T := fun _ => False) (kept_below HB2.out) (fun _ _ h => h.elim) (fun _ _ h => h)
        have CBG := Lib.hid (begin_any X lo c R w2 hm2 hm ⟨{ zeroOp with kind := 1, b := b }, .slice ba events.length bk, .slice none 0 0⟩ now (by rw [HBE.out]; exact hev2) (eva_nil _ _) _ rfl)
        clear hgq2 hm2 hev2 hb2
        have hbs : b.stream = stream := by rw [HBE.out]
        have hbx : b.expect = expect := by rw [HBE.out]
        have hbn : b.session = R.s.session := by rw [HBE.out]
        have hbq : b.seq = (R.rs.length : Int) + 1 := by rw [HBE.out]
        simp only [zeroOp, zeroOut, hbs, hbx, hbn, hbq] at CBG
        clear hbs hbx hbn hbq
        go_wp2_with fail
        refine CBG.out.mono ?_
        rintro e w3 ⟨v, ov, rfl, hm3, hs3, ho3⟩
        have HM3 := Lib.hid hm3
        have HS3 := Lib.hid hs3
        have HO3 := Lib.hid ho3
        clear hm3 hs3 ho3
        go_wp2_with fail
        go_ret2
        exact ⟨v, rfl, rdoes_begin (step_below HB2.out rfl) HM3.out HS3.out HO3.out _ (by simp only [OpR.begun, HH.out.len, zeroOp, zeroOut])⟩
      · obtain ⟨rfl, rfl, rfl⟩ : R.s = s' ∧ [] = outs ∧ fc = err := by
          have h1 := HS.out
          rw [if_pos hf0] at h1
          exact ⟨congrArg (·.1) h1, congrArg (·.2.1) h1, congrArg (·.2.2) h1⟩
        have g2 : ((fc : Int) != 0) = true := by rw [bne_iff_ne]; omega
        go_wp2_with fail
        refine CF.out.mono ?_
        rintro e w2 ⟨rfl, hb2⟩
        have HB2 := Lib.hid (HBX.out.trans (hb2.mono HBX.out.size))
        clear hb2
        go_wp2_with fail
        go_ret2
        exact ⟨_, rfl, rdoes_none HH.out HB2.out⟩
end Go.Proofs.YtapgjjfndbfnpaaDoor.Rf
namespace Go.Proofs.YtapgjjfndbfnpaaDoor.Rf
open Go.RowKit
set_option linter.unusedSimpArgs false
set_option linter.unusedVariables false

set_option maxRecDepth 100000 in
set_option maxHeartbeats 1600000 in
theorem read_any (X : Nat → Prop) (lo c : Nat) (R : ClR) (w : World) (h : ClM X lo w c R) (hm : R.rs.length ≤ 100000) (stream : ByteArray) (hst : stream.size ≤ 1000) (from_ which now : Int) (hwh : Vw.I64 which)
    (s' : ClW) (outs : List OutW) (err : Nat) (hs : readS R.s stream from_ which now = (s', outs, err)) :
    Calls Tryd.prog 21 #[.pointer (some ⟨c, 0, none⟩), .string stream, .int .i64 from_, .int .i64 which, .int .i64 now] w fun e w' => ∃ v, e = .returned (.tuple #[v, .int .i64 err]) ∧ RDoes X lo c R w s' outs v w' := by
  obtain ⟨oa, ok, hov⟩ := h.form
  have HOV := Lib.hid hov
  have hq := busy_eq h hm
  have HH := Lib.hid h
  obtain ⟨nb, hnb⟩ : ∃ nb, nameB stream = nb := ⟨_, rfl⟩
  have CN := Lib.hid (refName_any stream hst nb hnb w)
  have i1 : (0 : Int) ≤ (R.rs.length : Int) := by omega
  have i2 : (R.rs.length : Int) ≤ 100000 := by omega
  have g0 : ¬ (137438953472 : Int) ≤ (R.rs.length : Int) := by omega
  have g0d : decide ((137438953472 : Int) ≤ (R.rs.length : Int)) = false := by rw [decide_eq_false_iff_not]; omega
  clear h hov
  cases hp : R.s.pending with
  | true =>
    rw [hp] at hq
    obtain ⟨rfl, rfl, rfl⟩ : R.s = s' ∧ [] = outs ∧ 9 = err := by
      rw [readS, if_pos hq] at hs
      exact ⟨congrArg (·.1) hs, congrArg (·.2.1) hs, congrArg (·.2.2) hs⟩
    have HP := Lib.hid hp
    clear hq hp hnb
    clear hs
    go_enter Tryd.func21, Tryd.ntmps21
    go_wp2_with fail
    refine CN.out.mono ?_
    rintro e w2 ⟨rfl, hb2⟩
    have HB2 := Lib.hid hb2
    have c3 := (HH.out.keep hb2).c3
    have c2 := (HH.out.keep hb2).c2
    rw [HP.out] at c3
    rw [HOV.out] at c2
    clear hb2
    go_wp2_with fail
    go_ret2
    exact ⟨_, rfl, rdoes_none HH.out HB2.out⟩
  | false =>
    rw [hp] at hq
    rw [readS, if_neg (by rw [hq]; decide)] at hs
    have HP := Lib.hid hp
    have no : ∀ (hr : readNo stream from_ = true), R.s = s' ∧ [] = outs ∧ 1 = err := fun hr => by
      rw [if_pos hr] at hs
      exact ⟨congrArg (·.1) hs, congrArg (·.2.1) hs, congrArg (·.2.2) hs⟩
    cases nb with
    | false =>
      obtain ⟨rfl, rfl, rfl⟩ := no (by rw [readNo, hnb]; rfl)
      clear hq no hnb hp
      clear hs
      go_enter Tryd.func21, Tryd.ntmps21
      go_wp2_with fail
      refine CN.out.mono ?_
      rintro e w2 ⟨rfl, hb2⟩
      have HB2 := Lib.hid hb2
      have c3 := (HH.out.keep hb2).c3
      have c2 := (HH.out.keep hb2).c2
      rw [HP.out] at c3
      rw [HOV.out] at c2
      clear hb2
      go_wp2_with fail
      go_ret2
      exact ⟨_, rfl, rdoes_none HH.out HB2.out⟩
    | true =>
      by_cases hf : from_ < 0
      · obtain ⟨rfl, rfl, rfl⟩ := no (by rw [readNo, hnb, decide_eq_true hf]; rfl)
        clear hq no hnb hp
        clear hs
        go_enter Tryd.func21, Tryd.ntmps21
        go_wp2_with fail
        refine CN.out.mono ?_
        rintro e w2 ⟨rfl, hb2⟩
        have HB2 := Lib.hid hb2
        have c3 := (HH.out.keep hb2).c3
        have c2 := (HH.out.keep hb2).c2
        rw [HP.out] at c3
        rw [HOV.out] at c2
        clear hb2
        go_wp2_with fail
        go_ret2
        exact ⟨_, rfl, rdoes_none HH.out HB2.out⟩
      · by_cases hl : 137438953472 < from_
        · obtain ⟨rfl, rfl, rfl⟩ := no (by rw [readNo, hnb, decide_eq_true hl, Bool.or_true])
          clear hq no hnb hp
          clear hs
          go_enter Tryd.func21, Tryd.ntmps21
          go_wp2_with fail
          refine CN.out.mono ?_
          rintro e w2 ⟨rfl, hb2⟩
          have HB2 := Lib.hid hb2
          have c3 := (HH.out.keep hb2).c3
          have c2 := (HH.out.keep hb2).c2
          rw [HP.out] at c3
          rw [HOV.out] at c2
          clear hb2
          go_wp2_with fail
          go_ret2
          exact ⟨_, rfl, rdoes_none HH.out HB2.out⟩
        · obtain ⟨rfl, rfl, rfl⟩ : beginS { R.s with which := which } { zeroOp with kind := 2, stream := stream, from_ := from_ } now = s' ∧ [askW (beginS { R.s with which := which } { zeroOp with kind := 2, stream := stream, from_ := from_ } now)] = outs ∧ 0 = err := by
            rw [if_neg (by rw [readNo, hnb, decide_eq_false hf, decide_eq_false hl]; decide)] at hs
            exact ⟨congrArg (·.1) hs, congrArg (·.2.1) hs, congrArg (·.2.2) hs⟩
          clear hs hq no hnb hp
          have hfd : decide (from_ < 0) = false := decide_eq_false hf
          have hld : decide (137438953472 < from_) = false := decide_eq_false hl
          go_enter Tryd.func21, Tryd.ntmps21
          go_wp2_with fail
          refine CN.out.mono ?_
          rintro e w2 ⟨rfl, hb2⟩
          have HB2 := Lib.hid hb2
          have c3 := (HH.out.keep hb2).c3
          have c2 := (HH.out.keep hb2).c2
          rw [HP.out] at c3
          rw [HOV.out] at c2
          clear hb2
          go_upto_region 6 with fail
          clear c2 c3 g0 g0d i1 i2
          have h2 := HH.out.keep HB2.out
          have c4 := h2.c4
          have f4 := h2.fr 4
          have h3 : ClM X lo (w2.setCell ⟨c, 4, none⟩ (.int .i64 which)) c { R with s := { R.s with which := which } } := h2.put 4 (.int .i64 which) { R.s with which := which } rfl rfl hwh rfl
          have HS := Lib.hid ((step_below (c := c) HB2.out (rfl : R.ov = R.ov)).trans (ClM.putStep c R w2 4 (.int .i64 which) { R.s with which := which }))
          have CBG := Lib.hid (begin_any X lo c { R with s := { R.s with which := which } } _ h3 hm ⟨{ zeroOp with kind := 2, stream := stream, from_ := from_ }, .slice none 0 0, .slice none 0 0⟩ now (eva_nil _ _) (eva_nil _ _) _ rfl)
          clear h2 h3
          simp only [zeroOp, zeroOut] at CBG
          go_wp2_with fail
          refine CBG.out.mono ?_
          rintro e w3 ⟨v, ov, rfl, hm3, hs3, ho3⟩
          have HM3 := Lib.hid hm3
          have HS3 := Lib.hid hs3
          have HO3 := Lib.hid ho3
          clear hm3 hs3 ho3
          go_wp2_with fail
          go_ret2
          exact ⟨v, rfl, rdoes_begin HS.out HM3.out HS3.out HO3.out _ (by simp only [OpR.begun, HH.out.len, zeroOp, zeroOut])⟩

set_option maxRecDepth 100000 in
theorem ClM.seen {X : Nat → Prop} {lo c : Nat} {w : World} {R : ClR} (h : ClM X lo w c R) (V : Vw.VW) (cv sv bv : Value) (hep : Vw.I64 V.epoch) (hsm : Vw.SmallV V)
    (h1 : InA (fun k => R.mut c k ∨ X k) w cv V.chain) (h2 : InA (fun k => R.mut c k ∨ X k) w sv V.since) (h3 : InA (fun k => R.mut c k ∨ X k) w bv V.boot) :
    ClM X lo ((((w.setCell ⟨c, 6, none⟩ (.int .i64 V.epoch)).setCell ⟨c, 7, none⟩ cv).setCell ⟨c, 8, none⟩ sv).setCell ⟨c, 9, none⟩ bv) c (R.seen V cv sv bv) ∧
    Step c R (R.seen V cv sv bv) w ((((w.setCell ⟨c, 6, none⟩ (.int .i64 V.epoch)).setCell ⟨c, 7, none⟩ cv).setCell ⟨c, 8, none⟩ sv).setCell ⟨c, 9, none⟩ bv) := by
  have st : Step c R (R.seen V cv sv bv) w ((((w.setCell ⟨c, 6, none⟩ (.int .i64 V.epoch)).setCell ⟨c, 7, none⟩ cv).setCell ⟨c, 8, none⟩ sv).setCell ⟨c, 9, none⟩ bv) :=
    ⟨((((Kept.refl _ w).store ⟨c, 6, none⟩ (.inl (.inl rfl)) _).store ⟨c, 7, none⟩ (.inl (.inl rfl)) _).store ⟨c, 8, none⟩ (.inl (.inl rfl)) _).store ⟨c, 9, none⟩ (.inl (.inl rfl)) _, fun _ _ h => h⟩
  refine ⟨⟨h.hlo, ?_, Vw.own_set_ne (Vw.own_set_ne (Vw.own_set_ne (Vw.own_set_ne h.own c 6 h.ne _) c 7 h.ne _) c 8 h.ne _) c 9 h.ne _, h.ops, h.ne, h.bevK st, h.evvK st, hep, hsm, h.wh, ina_k h1 st, ina_k h2 st, ina_k h3 st, h.xltK st, h.xneK st⟩, st⟩
  exact block_set2 (block_set2 (block_set2 (block_set2 h.blk 6 _) 7 _) 8 _) 9 _

set_option maxRecDepth 100000 in
set_option maxHeartbeats 1600000 in
theorem see_no (X : Nat → Prop) (lo c : Nat) (R : ClR) (w : World) (h : ClM X lo w c R) (hm : R.rs.length ≤ 100000) (V : Vw.VW) (b1 b2 b3 : Option Addr) (l1 l2 l3 : Nat) (hep : Vw.I64 V.epoch)
    (j1 : InA (fun k => R.mut c k ∨ X k) w (.slice b1 V.chain.length l1) V.chain) (j2 : InA (fun k => R.mut c k ∨ X k) w (.slice b2 V.since.length l2) V.since) (j3 : InA (fun k => R.mut c k ∨ X k) w (.slice b3 V.boot.length l3) V.boot) (hsm : Vw.SmallV V) (now : Int) (hr : Vw.rightB V = false) :
    Calls Tryd.prog 22 #[.pointer (some ⟨c, 0, none⟩), .agg #[.int .i64 V.epoch, .slice b1 V.chain.length l1, .slice b2 V.since.length l2, .slice b3 V.boot.length l3], .int .i64 now] w fun e w' => ∃ v, e = .returned v ∧ RDoes X lo c R w R.s [] v w' := by
  have HH := Lib.hid h
  have hA := (Below.refl w.heap.size w).alloc (Nat.le_refl _) (.cells #[.int .i64 V.epoch, .slice b1 V.chain.length l1, .slice b2 V.since.length l2, .slice b3 V.boot.length l3] 68)
  have HA := Lib.hid hA
  have J1 := Lib.hid j1
  have J2 := Lib.hid j2
  have J3 := Lib.hid j3
  have CR := Lib.hid (Vw.refRight_any w.heap.size (.agg #[.int .i64 V.epoch, .slice b1 V.chain.length l1, .slice b2 V.since.length l2, .slice b3 V.boot.length l3]) V (w.alloc (.cells #[.int .i64 V.epoch, .slice b1 V.chain.length l1, .slice b2 V.since.length l2, .slice b3 V.boot.length l3] 68)) ⟨hep, _, _, _, rfl, j1.1.keep hA (Nat.le_refl _), j2.1.keep hA (Nat.le_refl _), j3.1.keep hA (Nat.le_refl _)⟩ hA.size hsm false hr.symm)
  have hc := h.clt
  clear h hA j1 j2 j3 hr
  go_enter Tryd.func22, Tryd.ntmps22
  go_wp2_with fail
  refine CR.out.mono ?_
  rintro e w1 ⟨rfl, hb1⟩
  have HB1 := Lib.hid (HA.out.trans (hb1.mono HA.out.size))
  have G1 := Lib.hid ((hb1.block w.heap.size (by rw [World.size_alloc]; omega)).trans (heap_alloc_new w (.cells #[.int .i64 V.epoch, .slice b1 V.chain.length l1, .slice b2 V.since.length l2, .slice b3 V.boot.length l3] 68)))
  have y0 : w1.cell? ⟨w.heap.size, 0, none⟩ = some (.int .i64 V.epoch) := by rw [Lib.cell_of_heap G1.out]; rfl
  have c6 := (HH.out.keep HB1.out).c6
  clear hb1
  go_wp2_with fail
  go_quiet (fail)
  go_wp2_with fail
  go_ret
  exact ⟨_, rfl, rdoes_none HH.out (below_drewN HB1.out _)⟩

set_option maxRecDepth 100000 in
set_option maxHeartbeats 1600000 in
theorem see_old (X : Nat → Prop) (lo c : Nat) (R : ClR) (w : World) (h : ClM X lo w c R) (hm : R.rs.length ≤ 100000) (V : Vw.VW) (b1 b2 b3 : Option Addr) (l1 l2 l3 : Nat) (hep : Vw.I64 V.epoch)
    (j1 : InA (fun k => R.mut c k ∨ X k) w (.slice b1 V.chain.length l1) V.chain) (j2 : InA (fun k => R.mut c k ∨ X k) w (.slice b2 V.since.length l2) V.since) (j3 : InA (fun k => R.mut c k ∨ X k) w (.slice b3 V.boot.length l3) V.boot) (hsm : Vw.SmallV V) (now : Int) (hr : Vw.rightB V = true) (hle : V.epoch ≤ R.s.v.epoch) :
    Calls Tryd.prog 22 #[.pointer (some ⟨c, 0, none⟩), .agg #[.int .i64 V.epoch, .slice b1 V.chain.length l1, .slice b2 V.since.length l2, .slice b3 V.boot.length l3], .int .i64 now] w fun e w' => ∃ v, e = .returned v ∧ RDoes X lo c R w R.s [] v w' := by
  have HH := Lib.hid h
  have hA := (Below.refl w.heap.size w).alloc (Nat.le_refl _) (.cells #[.int .i64 V.epoch, .slice b1 V.chain.length l1, .slice b2 V.since.length l2, .slice b3 V.boot.length l3] 68)
  have HA := Lib.hid hA
  have J1 := Lib.hid j1
  have J2 := Lib.hid j2
  have J3 := Lib.hid j3
  have CR := Lib.hid (Vw.refRight_any w.heap.size (.agg #[.int .i64 V.epoch, .slice b1 V.chain.length l1, .slice b2 V.since.length l2, .slice b3 V.boot.length l3]) V (w.alloc (.cells #[.int .i64 V.epoch, .slice b1 V.chain.length l1, .slice b2 V.since.length l2, .slice b3 V.boot.length l3] 68)) ⟨hep, _, _, _, rfl, j1.1.keep hA (Nat.le_refl _), j2.1.keep hA (Nat.le_refl _), j3.1.keep hA (Nat.le_refl _)⟩ hA.size hsm true hr.symm)
  have hc := h.clt
  have hled : decide (V.epoch ≤ R.s.v.epoch) = true := decide_eq_true hle
  clear h hA j1 j2 j3 hr
  go_enter Tryd.func22, Tryd.ntmps22
  go_wp2_with fail
  refine CR.out.mono ?_
  rintro e w1 ⟨rfl, hb1⟩
  have HB1 := Lib.hid (HA.out.trans (hb1.mono HA.out.size))
  have G1 := Lib.hid ((hb1.block w.heap.size (by rw [World.size_alloc]; omega)).trans (heap_alloc_new w (.cells #[.int .i64 V.epoch, .slice b1 V.chain.length l1, .slice b2 V.since.length l2, .slice b3 V.boot.length l3] 68)))
  have y0 : w1.cell? ⟨w.heap.size, 0, none⟩ = some (.int .i64 V.epoch) := by rw [Lib.cell_of_heap G1.out]; rfl
  have c6 := (HH.out.keep HB1.out).c6
  clear hb1
  go_wp2_with fail
  go_quiet (fail)
  go_wp2_with fail
  go_ret
  exact ⟨_, rfl, rdoes_none HH.out (below_drewN HB1.out _)⟩

set_option maxRecDepth 100000 in
set_option maxHeartbeats 1600000 in
theorem see_idle (X : Nat → Prop) (lo c : Nat) (R : ClR) (w : World) (h : ClM X lo w c R) (hm : R.rs.length ≤ 100000) (V : Vw.VW) (b1 b2 b3 : Option Addr) (l1 l2 l3 : Nat) (hep : Vw.I64 V.epoch)
    (j1 : InA (fun k => R.mut c k ∨ X k) w (.slice b1 V.chain.length l1) V.chain) (j2 : InA (fun k => R.mut c k ∨ X k) w (.slice b2 V.since.length l2) V.since) (j3 : InA (fun k => R.mut c k ∨ X k) w (.slice b3 V.boot.length l3) V.boot) (hsm : Vw.SmallV V) (now : Int) (hr : Vw.rightB V = true) (hlt : R.s.v.epoch < V.epoch) (hp : R.s.pending = false) :
    Calls Tryd.prog 22 #[.pointer (some ⟨c, 0, none⟩), .agg #[.int .i64 V.epoch, .slice b1 V.chain.length l1, .slice b2 V.since.length l2, .slice b3 V.boot.length l3], .int .i64 now] w fun e w' => ∃ v, e = .returned v ∧ RDoes X lo c R w { R.s with v := V } [] v w' := by
  have HH := Lib.hid h
  have hA := (Below.refl w.heap.size w).alloc (Nat.le_refl _) (.cells #[.int .i64 V.epoch, .slice b1 V.chain.length l1, .slice b2 V.since.length l2, .slice b3 V.boot.length l3] 68)
  have HA := Lib.hid hA
  have J1 := Lib.hid j1
  have J2 := Lib.hid j2
  have J3 := Lib.hid j3
  have CR := Lib.hid (Vw.refRight_any w.heap.size (.agg #[.int .i64 V.epoch, .slice b1 V.chain.length l1, .slice b2 V.since.length l2, .slice b3 V.boot.length l3]) V (w.alloc (.cells #[.int .i64 V.epoch, .slice b1 V.chain.length l1, .slice b2 V.since.length l2, .slice b3 V.boot.length l3] 68)) ⟨hep, _, _, _, rfl, j1.1.keep hA (Nat.le_refl _), j2.1.keep hA (Nat.le_refl _), j3.1.keep hA (Nat.le_refl _)⟩ hA.size hsm true hr.symm)
  have hc := h.clt
  have hnle : ¬ V.epoch ≤ R.s.v.epoch := by omega
  have hnled : decide (V.epoch ≤ R.s.v.epoch) = false := decide_eq_false hnle
  have HP := Lib.hid hp
  clear h hA j1 j2 j3 hr hp
  go_enter Tryd.func22, Tryd.ntmps22
  go_wp2_with fail
  refine CR.out.mono ?_
  rintro e w1 ⟨rfl, hb1⟩
  have HB1 := Lib.hid (HA.out.trans (hb1.mono HA.out.size))
  have G1 := Lib.hid ((hb1.block w.heap.size (by rw [World.size_alloc]; omega)).trans (heap_alloc_new w (.cells #[.int .i64 V.epoch, .slice b1 V.chain.length l1, .slice b2 V.since.length l2, .slice b3 V.boot.length l3] 68)))
  have y0 : w1.cell? ⟨w.heap.size, 0, none⟩ = some (.int .i64 V.epoch) := by rw [Lib.cell_of_heap G1.out]; rfl
  have c6 := (HH.out.keep HB1.out).c6
  clear hb1
  go_wp2_with fail
  go_quiet (fail)
  have hbz := below_drewN HB1.out nq
  have hgz : (w1.drewN nq).heap[w.heap.size]? = _ := G1.out
  have hmz := HH.out.keep hbz
  have k1 := J1.out.keep (T := fun _ => False) (kept_below hbz) (fun _ _ h => h.elim) (fun _ _ h => h)
  have k2 := J2.out.keep (T := fun _ => False) (kept_below hbz) (fun _ _ h => h.elim) (fun _ _ h => h)
  have k3 := J3.out.keep (T := fun _ => False) (kept_below hbz) (fun _ _ h => h.elim) (fun _ _ h => h)
  generalize w1.drewN nq = wz at *
  have hsn := hmz.seen V _ _ _ hep hsm k1 k2 k3
  have y0 : wz.cell? ⟨w.heap.size, 0, none⟩ = some (.int .i64 V.epoch) := by rw [Lib.cell_of_heap hgz]; rfl
  have y1 : wz.cell? ⟨w.heap.size, 1, none⟩ = some (.slice b1 V.chain.length l1) := by rw [Lib.cell_of_heap hgz]; rfl
  have y2 : wz.cell? ⟨w.heap.size, 2, none⟩ = some (.slice b2 V.since.length l2) := by rw [Lib.cell_of_heap hgz]; rfl
  have y3 : wz.cell? ⟨w.heap.size, 3, none⟩ = some (.slice b3 V.boot.length l3) := by rw [Lib.cell_of_heap hgz]; rfl
  have d3 := hmz.c3
  have d6 := hmz.c6
  have d7 := hmz.c7
  have d8 := hmz.c8
  have d9 := hmz.c9
  have g6 := hmz.fr 6
  have g7 := hmz.fr 7
  have g8 := hmz.fr 8
  have g9 := hmz.fr 9
  have HST := Lib.hid ((step_below (c := c) hbz (rfl : R.ov = R.ov)).trans hsn.2)
  have HMN := Lib.hid hsn.1
  have HBZ := Lib.hid hbz
  rw [HP.out] at d3
  clear hbz hmz hgz k1 k2 k3 hsn c6
  go_wp2_with fail
  go_ret
  exact ⟨_, rfl, _, rfl, HMN.out, HST.out, .inl ⟨rfl, rfl⟩⟩

set_option maxRecDepth 100000 in
set_option maxHeartbeats 1600000 in
theorem see_ask (X : Nat → Prop) (lo c : Nat) (R : ClR) (w : World) (h : ClM X lo w c R) (hm : R.rs.length ≤ 100000) (V : Vw.VW) (b1 b2 b3 : Option Addr) (l1 l2 l3 : Nat) (hep : Vw.I64 V.epoch)
    (j1 : InA (fun k => R.mut c k ∨ X k) w (.slice b1 V.chain.length l1) V.chain) (j2 : InA (fun k => R.mut c k ∨ X k) w (.slice b2 V.since.length l2) V.since) (j3 : InA (fun k => R.mut c k ∨ X k) w (.slice b3 V.boot.length l3) V.boot) (hsm : Vw.SmallV V) (now : Int) (hr : Vw.rightB V = true) (hlt : R.s.v.epoch < V.epoch) (hp : R.s.pending = true) (hn : R.s.ops ≠ []) :
    Calls Tryd.prog 22 #[.pointer (some ⟨c, 0, none⟩), .agg #[.int .i64 V.epoch, .slice b1 V.chain.length l1, .slice b2 V.since.length l2, .slice b3 V.boot.length l3], .int .i64 now] w fun e w' => ∃ v, e = .returned v ∧ RDoes X lo c R w { R.s with v := V, asked := now } [askW { R.s with v := V }] v w' := by
  have HH := Lib.hid h
  have hA := (Below.refl w.heap.size w).alloc (Nat.le_refl _) (.cells #[.int .i64 V.epoch, .slice b1 V.chain.length l1, .slice b2 V.since.length l2, .slice b3 V.boot.length l3] 68)
  have HA := Lib.hid hA
  have J1 := Lib.hid j1
  have J2 := Lib.hid j2
  have J3 := Lib.hid j3
  have CR := Lib.hid (Vw.refRight_any w.heap.size (.agg #[.int .i64 V.epoch, .slice b1 V.chain.length l1, .slice b2 V.since.length l2, .slice b3 V.boot.length l3]) V (w.alloc (.cells #[.int .i64 V.epoch, .slice b1 V.chain.length l1, .slice b2 V.since.length l2, .slice b3 V.boot.length l3] 68)) ⟨hep, _, _, _, rfl, j1.1.keep hA (Nat.le_refl _), j2.1.keep hA (Nat.le_refl _), j3.1.keep hA (Nat.le_refl _)⟩ hA.size hsm true hr.symm)
  have hc := h.clt
  have hnle : ¬ V.epoch ≤ R.s.v.epoch := by omega
  have hnled : decide (V.epoch ≤ R.s.v.epoch) = false := decide_eq_false hnle
  have HP := Lib.hid hp
  have HN := Lib.hid hn
  clear h hA j1 j2 j3 hr hp hn
  go_enter Tryd.func22, Tryd.ntmps22
  go_wp2_with fail
  refine CR.out.mono ?_
  rintro e w1 ⟨rfl, hb1⟩
  have HB1 := Lib.hid (HA.out.trans (hb1.mono HA.out.size))
  have G1 := Lib.hid ((hb1.block w.heap.size (by rw [World.size_alloc]; omega)).trans (heap_alloc_new w (.cells #[.int .i64 V.epoch, .slice b1 V.chain.length l1, .slice b2 V.since.length l2, .slice b3 V.boot.length l3] 68)))
  have y0 : w1.cell? ⟨w.heap.size, 0, none⟩ = some (.int .i64 V.epoch) := by rw [Lib.cell_of_heap G1.out]; rfl
  have c6 := (HH.out.keep HB1.out).c6
  clear hb1
  go_wp2_with fail
  go_quiet (fail)
  have hbz := below_drewN HB1.out nq
  have hgz : (w1.drewN nq).heap[w.heap.size]? = _ := G1.out
  have hmz := HH.out.keep hbz
  have k1 := J1.out.keep (T := fun _ => False) (kept_below hbz) (fun _ _ h => h.elim) (fun _ _ h => h)
  have k2 := J2.out.keep (T := fun _ => False) (kept_below hbz) (fun _ _ h => h.elim) (fun _ _ h => h)
  have k3 := J3.out.keep (T := fun _ => False) (kept_below hbz) (fun _ _ h => h.elim) (fun _ _ h => h)
  generalize w1.drewN nq = wz at *
  have hsn := hmz.seen V _ _ _ hep hsm k1 k2 k3
  have y0 : wz.cell? ⟨w.heap.size, 0, none⟩ = some (.int .i64 V.epoch) := by rw [Lib.cell_of_heap hgz]; rfl
  have y1 : wz.cell? ⟨w.heap.size, 1, none⟩ = some (.slice b1 V.chain.length l1) := by rw [Lib.cell_of_heap hgz]; rfl
  have y2 : wz.cell? ⟨w.heap.size, 2, none⟩ = some (.slice b2 V.since.length l2) := by rw [Lib.cell_of_heap hgz]; rfl
  have y3 : wz.cell? ⟨w.heap.size, 3, none⟩ = some (.slice b3 V.boot.length l3) := by rw [Lib.cell_of_heap hgz]; rfl
  have d3 := hmz.c3
  have d6 := hmz.c6
  have d7 := hmz.c7
  have d8 := hmz.c8
  have d9 := hmz.c9
  have g6 := hmz.fr 6
  have g7 := hmz.fr 7
  have g8 := hmz.fr 8
  have g9 := hmz.fr 9
  have HST := Lib.hid ((step_below (c := c) hbz (rfl : R.ov = R.ov)).trans hsn.2)
  have HMN := Lib.hid hsn.1
  have HBZ := Lib.hid hbz
  rw [HP.out] at d3
  obtain ⟨l, r, hlr⟩ := HH.out.split HN.out
  have hl5 : l.length ≤ 1000000 := by
    have e5 : R.rs.length = l.length + 1 := by rw [hlr]; simp
    omega
  have CA := Lib.hid (ask_any X lo c _ _ hsn.1 l r hlr hl5 now _ rfl)
  have HLR := Lib.hid hlr
  clear hbz hmz hgz k1 k2 k3 hsn c6 hlr
  go_wp2_with fail
  refine CA.out.mono ?_
  rintro e z ⟨rfl, hm3, hs3⟩
  have HM3 := Lib.hid hm3
  have HS3 := Lib.hid (HST.out.trans hs3)
  clear hm3 hs3
  obtain ⟨d, hd⟩ : ∃ d, (askO (R.seen V (.slice b1 V.chain.length l1) (.slice b2 V.since.length l2) (.slice b3 V.boot.length l3)) r).dst = d := ⟨_, rfl⟩
  rw [hd]
  have HD := Lib.hid hd
  clear hd
  simp only [outV]
  go_wp2_with fail
  go_ret
  have hb := (Below.refl z.heap.size z).alloc (Nat.le_refl _) (.cells #[.int .i64 d, .int .i64 r.o.id] 113)
  have h4 := ask_pair HM3.out HLR.out
  have h5 : (d, r.o.id) = ((askO ((R.seen V (.slice b1 V.chain.length l1) (.slice b2 V.since.length l2) (.slice b3 V.boot.length l3)).ask now) r).dst, r.o.id) := by rw [← HD.out]; rfl
  rw [h4] at h5
  refine ⟨_, rfl, _, ?_, HM3.out.keep hb, HS3.out.trans (step_below hb rfl), ?_⟩
  · first | rfl | (show ClW.mk _ _ _ _ _ _ _ = ClW.mk _ _ _ _ _ _ _; rw [HP.out])
  · have h6 : outP [askW { R.s with v := V }] = [(d, r.o.id)] := by rw [h5]; rfl
    rw [h6]
    exact .inr ⟨z.heap.size, rfl, HS3.out.kept.size, heap_alloc_new _ _⟩

theorem see_any (X : Nat → Prop) (lo c : Nat) (R : ClR) (w : World) (h : ClM X lo w c R) (hm : R.rs.length ≤ 100000) (V : Vw.VW) (b1 b2 b3 : Option Addr) (l1 l2 l3 : Nat) (hep : Vw.I64 V.epoch)
    (j1 : InA (fun k => R.mut c k ∨ X k) w (.slice b1 V.chain.length l1) V.chain) (j2 : InA (fun k => R.mut c k ∨ X k) w (.slice b2 V.since.length l2) V.since) (j3 : InA (fun k => R.mut c k ∨ X k) w (.slice b3 V.boot.length l3) V.boot) (hsm : Vw.SmallV V) (now : Int) (hn : R.s.pending = true → R.s.ops ≠ [])
    (s' : ClW) (outs : List OutW) (hs : seeS R.s V now = (s', outs)) :
    Calls Tryd.prog 22 #[.pointer (some ⟨c, 0, none⟩), .agg #[.int .i64 V.epoch, .slice b1 V.chain.length l1, .slice b2 V.since.length l2, .slice b3 V.boot.length l3], .int .i64 now] w fun e w' => ∃ v, e = .returned v ∧ RDoes X lo c R w s' outs v w' := by
  obtain rfl : (seeS R.s V now).1 = s' := congrArg (·.1) hs
  obtain rfl : (seeS R.s V now).2 = outs := congrArg (·.2) hs
  clear hs
  unfold seeS
  cases hr : Vw.rightB V with
  | false =>
    rw [if_pos (.inl rfl)]
    exact see_no X lo c R w h hm V b1 b2 b3 l1 l2 l3 hep j1 j2 j3 hsm now hr
  | true =>
    by_cases hle : V.epoch ≤ R.s.v.epoch
    · rw [if_pos (.inr hle)]
      exact see_old X lo c R w h hm V b1 b2 b3 l1 l2 l3 hep j1 j2 j3 hsm now hr hle
    · rw [if_neg (by rintro (e | e); cases e; exact hle e)]
      by_cases hp : R.s.pending = false
      · rw [if_pos hp]
        exact see_idle X lo c R w h hm V b1 b2 b3 l1 l2 l3 hep j1 j2 j3 hsm now hr (by omega) hp
      · rw [if_neg hp]
        have hp2 : R.s.pending = true := by cases e : R.s.pending; exact absurd e hp; rfl
        exact see_ask X lo c R w h hm V b1 b2 b3 l1 l2 l3 hep j1 j2 j3 hsm now hr (by omega) hp2 (hn hp2)
end Go.Proofs.YtapgjjfndbfnpaaDoor.Rf
namespace Go.Proofs.YtapgjjfndbfnpaaDoor.Rf
open Go.RowKit
set_option linter.unusedSimpArgs false
set_option linter.unusedVariables false

set_option maxRecDepth 100000 in
set_option maxHeartbeats 1600000 in
theorem tick_any (X : Nat → Prop) (lo c : Nat) (R : ClR) (w : World) (h : ClM X lo w c R) (hm : R.rs.length ≤ 100000) (now : Int) (hn : R.s.pending = true → R.s.ops ≠ []) (hno : Vw.I64 (now - R.s.asked))
    (s' : ClW) (outs : List OutW) (hs : tickS R.s now = (s', outs)) :
    Calls Tryd.prog 24 #[.pointer (some ⟨c, 0, none⟩), .int .i64 now] w fun e w' => ∃ v, e = .returned v ∧ RDoes X lo c R w s' outs v w' := by
  obtain rfl : (tickS R.s now).1 = s' := congrArg (·.1) hs
  obtain rfl : (tickS R.s now).2 = outs := congrArg (·.2) hs
  clear hs
  unfold tickS
  have HH := Lib.hid h
  have c1 := h.c1
  have c3 := h.c3
  have c5 := h.c5
  have ew : IntKind.i64.wrap (now - R.s.asked) = now - R.s.asked := by obtain ⟨h1, h2⟩ := hno; rw [IntKind.wrap_i64]; omega
  cases hp : R.s.pending with
  | false =>
    rw [if_pos (.inl rfl)]
    rw [hp] at c3
    clear h hn hp hno ew
    go_enter Tryd.func24, Tryd.ntmps24
    go_wp2_with fail
    go_quiet (fail)
    go_wp2_with fail
    go_ret
    exact ⟨_, rfl, rdoes_none HH.out (below_drewN' _ _)⟩
  | true =>
    rw [hp] at c3
    obtain ⟨l, r, hlr⟩ := h.split (hn hp)
    have hl5 : l.length ≤ 1000000 := by
      have e5 : R.rs.length = l.length + 1 := by rw [hlr]; simp
      omega
    by_cases hlt : now - R.s.asked < R.s.wait
    · rw [if_pos (.inr hlt)]
      clear h hn hp hno hlr hl5
      go_enter Tryd.func24, Tryd.ntmps24
      go_wp2_with fail
      go_quiet (fail)
      go_wp2_with fail
      go_ret
      exact ⟨_, rfl, rdoes_none HH.out (below_drewN' _ _)⟩
    · rw [if_neg (by rintro (e | e); cases e; exact hlt e)]
      have HLR := Lib.hid hlr
      have HP := Lib.hid hp
      have hltd : decide (now - R.s.asked < R.s.wait) = false := decide_eq_false hlt
      clear hlr
      cases hr : Vw.rightB R.s.v with
      | false =>
        rw [if_pos rfl]
        clear h hn hp hno
        go_enter Tryd.func24, Tryd.ntmps24
        go_wp2_with fail
        go_quiet (fail)
        have hb0 := below_drewN' w nq
        have HM0 := Lib.hid (HH.out.keep hb0)
        have HB0 := Lib.hid hb0
        have CA := Lib.hid (ask_any X lo c _ _ HM0.out l r HLR.out hl5 now _ rfl)
        clear hb0 c1 c3 c5 ew
        generalize w.drewN nq = w0 at *
        go_wp2_with fail
        refine CA.out.mono ?_
        rintro e z ⟨rfl, hm3, hs3⟩
        obtain ⟨d, hd⟩ : ∃ d, (askO R r).dst = d := ⟨_, rfl⟩
        rw [hd]
        have HD := Lib.hid hd
        have hb := (Below.refl z.heap.size z).alloc (Nat.le_refl _) (.cells #[.int .i64 d, .int .i64 r.o.id] 113)
        have HM3 := Lib.hid (hm3.keep hb)
        have HS3 := Lib.hid (((step_below (c := c) HB0.out (rfl : R.ov = R.ov)).trans hs3).trans (step_below hb rfl))
        have G3 := Lib.hid (heap_alloc_new z (.cells #[.int .i64 d, .int .i64 r.o.id] 113))
        have HZ3 := Lib.hid hs3.kept.size
        have c6 := hm3.c6
        have c7 := hm3.c7
        have c8 := hm3.c8
        have c9 := hm3.c9
        have hcz := hm3.clt
        have hcz2 : c ≠ z.heap.size := by omega
        have CR := Lib.hid (Vw.refRight_any (z.alloc (.cells #[.int .i64 d, .int .i64 r.o.id] 113)).heap.size _ R.s.v _ HM3.out.view (Nat.le_refl _) HM3.out.sm false hr.symm)
        clear hm3 hs3 hd hb hr
        simp only [outV]
        go_wp2_with fail
        refine CR.out.mono ?_
        rintro e w1 ⟨rfl, hb1⟩
        have HM4 := Lib.hid (HM3.out.keep hb1)
        have HS4 := Lib.hid (HS3.out.trans (step_below hb1 rfl))
        have G4 := Lib.hid ((hb1.block z.heap.size (by rw [World.size_alloc]; omega)).trans G3.out)
        have hqz : z.heap.size < w1.heap.size := (Array.getElem?_eq_some_iff.1 G4.out).1
        clear hb1 c6 c7 c8 c9
        have y0 : w1.cell? ⟨z.heap.size, 0, none⟩ = some (.int .i64 d) := by rw [Lib.cell_of_heap G4.out]; rfl
        have y1 : w1.cell? ⟨z.heap.size, 1, none⟩ = some (.int .i64 r.o.id) := by rw [Lib.cell_of_heap G4.out]; rfl
        go_wp2_with fail
        go_ret
        have hb := (Below.refl w1.heap.size w1).alloc (Nat.le_refl _) (.cells #[.int .i64 d, .int .i64 r.o.id] 113)
        have h4 := ask_pair HM4.out HLR.out
        have h5 : (d, r.o.id) = ((askO (R.ask now) r).dst, r.o.id) := by rw [← HD.out]; rfl
        rw [h4] at h5
        refine ⟨_, rfl, _, ?_, HM4.out.keep hb, HS4.out.trans (step_below hb rfl), ?_⟩
        · first | rfl | (show ClW.mk _ _ _ _ _ _ _ = ClW.mk _ _ _ _ _ _ _; rw [HP.out])
        · have h6 : outP [askW R.s] = [(d, r.o.id)] := by rw [h5]; rfl
          rw [h6]
          exact .inr ⟨w1.heap.size, rfl, HS4.out.kept.size, heap_alloc_new _ _⟩
      | true =>
        rw [if_neg (by decide)]
        clear h hn hp hno
        go_enter Tryd.func24, Tryd.ntmps24
        go_wp2_with fail
        go_quiet (fail)
        have hb0 := below_drewN' w nq
        have HM0 := Lib.hid (HH.out.keep hb0)
        have HB0 := Lib.hid hb0
        have CA := Lib.hid (ask_any X lo c _ _ HM0.out l r HLR.out hl5 now _ rfl)
        clear hb0 c1 c3 c5 ew
        generalize w.drewN nq = w0 at *
        go_wp2_with fail
        refine CA.out.mono ?_
        rintro e z ⟨rfl, hm3, hs3⟩
        obtain ⟨d, hd⟩ : ∃ d, (askO R r).dst = d := ⟨_, rfl⟩
        rw [hd]
        have HD := Lib.hid hd
        have hb := (Below.refl z.heap.size z).alloc (Nat.le_refl _) (.cells #[.int .i64 d, .int .i64 r.o.id] 113)
        have HM3 := Lib.hid (hm3.keep hb)
        have HS3 := Lib.hid (((step_below (c := c) HB0.out (rfl : R.ov = R.ov)).trans hs3).trans (step_below hb rfl))
        have G3 := Lib.hid (heap_alloc_new z (.cells #[.int .i64 d, .int .i64 r.o.id] 113))
        have HZ3 := Lib.hid hs3.kept.size
        have c6 := hm3.c6
        have c7 := hm3.c7
        have c8 := hm3.c8
        have c9 := hm3.c9
        have hcz := hm3.clt
        have hcz2 : c ≠ z.heap.size := by omega
        have CR := Lib.hid (Vw.refRight_any (z.alloc (.cells #[.int .i64 d, .int .i64 r.o.id] 113)).heap.size _ R.s.v _ HM3.out.view (Nat.le_refl _) HM3.out.sm true hr.symm)
        clear hm3 hs3 hd hb hr
        simp only [outV]
        go_wp2_with fail
        refine CR.out.mono ?_
        rintro e w1 ⟨rfl, hb1⟩
        have HM4 := Lib.hid (HM3.out.keep hb1)
        have HS4 := Lib.hid (HS3.out.trans (step_below hb1 rfl))
        have G4 := Lib.hid ((hb1.block z.heap.size (by rw [World.size_alloc]; omega)).trans G3.out)
        have hqz : z.heap.size < w1.heap.size := (Array.getElem?_eq_some_iff.1 G4.out).1
        clear hb1 c6 c7 c8 c9
        have y0 : w1.cell? ⟨z.heap.size, 0, none⟩ = some (.int .i64 d) := by rw [Lib.cell_of_heap G4.out]; rfl
        have y1 : w1.cell? ⟨z.heap.size, 1, none⟩ = some (.int .i64 r.o.id) := by rw [Lib.cell_of_heap G4.out]; rfl
        have MKS := Lib.hid (fun (X' : World) (hb : Below w1.heap.size w1 X') => (show X'.cell? ⟨z.heap.size, 0, none⟩ = some (.int .i64 d) ∧ X'.cell? ⟨z.heap.size, 1, none⟩ = some (.int .i64 r.o.id) ∧ Below w1.heap.size w1 X' from ⟨(hb.cell (p := ⟨z.heap.size, 0, none⟩) hqz).trans y0, (hb.cell (p := ⟨z.heap.size, 1, none⟩) hqz).trans y1, hb⟩))
        go_wp2_with fail
        clear y0 y1
        refine region_begin (S := fun X' => X'.cell? ⟨z.heap.size, 0, none⟩ = some (.int .i64 d) ∧ X'.cell? ⟨z.heap.size, 1, none⟩ = some (.int .i64 r.o.id) ∧ Below w1.heap.size w1 X') 5 rfl (by kernel_rfl) (MKS.out _ (Below.refl w1.heap.size w1).drew) (fun hH0 => ?_)
        refine wpAnyH_take (i := 0) (oi := ?ob0) (v := ?vb0) ?hib0 (by kernel_rfl) (by kernel_rfl) (by kernel_rfl) ?hQb0 ?hyb0 hH0 ?_
        case hib0 => simp only [List.getElem?_toArray, List.getElem?_cons_zero]; rfl
        case hQb0 => exact fun _ _ _ h => h
        case hyb0 => refine Or.inl ⟨by rfl, ?_⟩; intro W hSw; (try dsimp only at hSw); go_simp; try with_reducible rfl
        simp only [Act.put, List.setIfInBounds_toArray, List.set_cons_zero, List.set_cons_succ]
        refine wpAnyH_take (i := 2) (oi := ?ob2) (v := ?vb2) ?hib2 (by kernel_rfl) (by kernel_rfl) (by kernel_rfl) ?hQb2 ?hyb2 hH0 ?_
        case hib2 => simp only [List.getElem?_toArray, List.getElem?_cons_zero, List.getElem?_cons_succ]; rfl
        case hQb2 => exact fun _ _ _ h => h
        case hyb2 => refine Or.inl ⟨by rfl, ?_⟩; intro W hSw; (try dsimp only at hSw); go_simp; try with_reducible rfl
        simp only [Act.put, List.setIfInBounds_toArray, List.set_cons_zero, List.set_cons_succ]
        clear hH0
        have hbd := (Below.refl w1.heap.size w1).drew
        have HMd := Lib.hid (HM4.out.keep hbd)
        have HBd := Lib.hid hbd
        have cw := where_any X lo c _ _ HMd.out l r HLR.out hl5
        simp only [outV] at cw
        have CW := Lib.hid cw
        clear hbd cw
        generalize w1.drew = w2 at *
        refine wpAnyH_ready (rs := [1]) (by kernel_rfl) (by simp) ?_
        refine AllReadyH.cons (o := ?ob1) ?hob1 (fun K' hK => ?_) AllReadyH.nil
        case hob1 => simp only [List.getElem?_toArray, List.getElem?_cons_zero, List.getElem?_cons_succ]; rfl
        go_simp
        refine CW.out.mono ?_
        rintro e w3 ⟨rfl, hb3⟩
        have HB3 := Lib.hid (HBd.out.trans (hb3.mono HBd.out.size))
        have HM5 := Lib.hid (HMd.out.keep hb3)
        clear hb3
        refine hK.out _ _ (MKS.out _ HB3.out) (fun hH1 => ?_)
        clear hK K'
        (try simp only [Act.put, List.setIfInBounds_toArray, List.set_cons_zero, List.set_cons_succ])
        clear hH1
        refine wpAnyH_ready (rs := [3]) (by kernel_rfl) (by simp) ?_
        refine AllReadyH.cons (o := ?ob3) ?hob3 (fun K' hK => ?_) AllReadyH.nil
        case hob3 => simp only [List.getElem?_toArray, List.getElem?_cons_zero, List.getElem?_cons_succ]; rfl
        go_simp
        have hb6 := (Below.refl w3.heap.size w3).alloc (Nat.le_refl _) (.cells #[.int .i64 0, .int .i64 r.o.id, .int .i64 d, .int .i64 r.o.id] 113)
        have HB6 := Lib.hid (HB3.out.trans (hb6.mono HB3.out.size))
        have HM6 := Lib.hid (HM5.out.keep hb6)
        have G6 := Lib.hid (heap_alloc_new w3 (.cells #[.int .i64 0, .int .i64 r.o.id, .int .i64 d, .int .i64 r.o.id] 113))
        clear hb6
        refine hK.out _ _ (MKS.out _ HB6.out) (fun hH2 => ?_)
        clear hK K'
        (try simp only [Act.put, List.setIfInBounds_toArray, List.set_cons_zero, List.set_cons_succ])
        refine wpAnyH_take (i := 4) (oi := ?ob4) (v := ?vb4) ?hib4 (by kernel_rfl) (by kernel_rfl) (by kernel_rfl) ?hQb4 ?hyb4 hH2 ?_
        case hib4 => simp only [List.getElem?_toArray, List.getElem?_cons_zero, List.getElem?_cons_succ]; rfl
        case hQb4 => exact fun _ _ _ h => h
        case hyb4 => refine Or.inl ⟨by rfl, ?_⟩; intro W hSw; (try dsimp only at hSw); go_simp; try with_reducible rfl
        simp only [Act.put, List.setIfInBounds_toArray, List.set_cons_zero, List.set_cons_succ]
        clear hH2
        refine wpAnyH_done (by kernel_rfl) ?_ _
        go_wp2_with fail
        go_ret
        have h4 := ask_pair HM6.out HLR.out
        have h5 : (d, r.o.id) = ((askO (R.ask now) r).dst, r.o.id) := by rw [← HD.out]; rfl
        rw [h4] at h5
        refine ⟨_, rfl, _, ?_, HM6.out, HS4.out.trans (step_below HB6.out rfl), ?_⟩
        · first | rfl | (show ClW.mk _ _ _ _ _ _ _ = ClW.mk _ _ _ _ _ _ _; rw [HP.out])
        · have h7 : (lastS R.s).id = r.o.id := by rw [HH.out.lastS HLR.out]
          have h6 : outP [whereW R.s, askW R.s] = [(0, r.o.id), (d, r.o.id)] := by rw [h5, ← h7]; rfl
          rw [h6]
          exact .inr ⟨w3.heap.size, rfl, Nat.le_trans HS4.out.kept.size HB3.out.size, G6.out⟩
end Go.Proofs.YtapgjjfndbfnpaaDoor.Rf
namespace Go.Proofs.YtapgjjfndbfnpaaDoor.Rf
open Go.RowKit
set_option linter.unusedSimpArgs false
set_option linter.unusedVariables false

theorem rows_set {X : Nat → Prop} {lo c : Nat} {w : World} {R : ClR} (h : ClM X lo w c R) {l : List OpR} {r : OpR} (hr : R.rs = l ++ [r]) (r' : OpR) (ov : Value) (f : OpW → OpW) (hf : r'.o = f r.o) :
    ({ rowsR R (l ++ [r']) ov with s := { (rowsR R (l ++ [r']) ov).s with pending := false } } : ClR).s = Proofs.YtapgjjfndbfnpaaDoor.setLast { R.s with pending := false } f := by
  have e1 : R.s.ops = l.map (·.o) ++ [r.o] := by rw [← h.ops, hr]; simp
  have e2 : lastS { R.s with pending := false } = r.o := h.lastS hr
  unfold Proofs.YtapgjjfndbfnpaaDoor.setLast
  rw [e2, ← hf]
  show ClW.mk _ _ _ _ _ _ _ = ClW.mk _ _ _ _ _ _ _
  simp only [e1, List.dropLast_concat, rowsR, List.map_append, List.map_cons, List.map_nil]
set_option maxRecDepth 100000 in
set_option maxHeartbeats 1600000 in
theorem ans_none1 (X : Nat → Prop) (lo c : Nat) (R : ClR) (w : World) (h : ClM X lo w c R) (hm : R.rs.length ≤ 100000) (id err : Int) (out : OutC) (version : Int) (ea : Option Addr) (ek : Nat) (events : List EV) (hev : EvA (fun k => R.mut c k ∨ X k) w (.slice ea events.length ek) events) (now : Int) (hn : R.s.pending = true → R.s.ops ≠ []) (hq : R.s.pending = false ∨ (lastS R.s).kind ≠ 1 ∨ (lastS R.s).id ≠ id) :
    Calls Tryd.prog 23 #[.pointer (some ⟨c, 0, none⟩), .int .i64 1, .int .i64 id, .int .i64 err, .agg #[.int .i64 out.code, .int .i64 out.pos, .int .i64 out.first, .int .i64 out.version], .int .i64 version, .slice ea events.length ek, .int .i64 now] w fun e w' => ∃ v, e = .returned v ∧ RDoes X lo c R w R.s [] v w' := by
  have HH := Lib.hid h
  have hA := (Below.refl w.heap.size w).alloc (Nat.le_refl _) (.cells #[.int .i64 out.code, .int .i64 out.pos, .int .i64 out.first, .int .i64 out.version] 31)
  have HA := Lib.hid hA
  have HM0 := Lib.hid (h.keep hA)
  have hc := h.clt
  have x1 : c ≠ w.heap.size := by omega
  have c3 := h.c3
  cases hp : R.s.pending with
  | false =>
    rw [hp] at c3
    clear h hA hn hq hp hev
    go_enter Tryd.func23, Tryd.ntmps23
    go_wp2_with fail
    go_ret
    exact ⟨_, rfl, rdoes_none HH.out HA.out⟩
  | true =>
    rw [hp] at c3
    obtain ⟨l, r, hlr⟩ := h.split (hn hp)
    have hl5 : l.length ≤ 1000000 := by
      have e5 : R.rs.length = l.length + 1 := by rw [hlr]; simp
      omega
    have hls := h.lastS hlr
    have CL := Lib.hid (fun (X' : World) (h' : ClM X lo X' c R) => last_all X lo c R X' h' l r hlr hl5)
    have hF0 := field_kind
    have hF1 := field_id
    by_cases hk : r.o.kind = 1
    · have hi : r.o.id ≠ id := by
        rcases hq with e | e | e
        · rw [hp] at e; cases e
        · rw [hls] at e; exact absurd hk e
        · rw [hls] at e; exact e
      have g1 : (r.o.kind != 1) = false := by rw [bne_eq_false_iff_eq]; exact hk
      have g2 : (r.o.id != id) = true := by rw [bne_iff_ne]; exact hi
      clear h hA hn hq hp hev hlr hls hk hi
      go_enter Tryd.func23, Tryd.ntmps23
      go_wp2_with fail
      refine (CL.out _ HM0.out).mono ?_
      rintro e w1 ⟨rfl, hb1⟩
      have HB1 := Lib.hid (HA.out.trans (hb1.mono HA.out.size))
      have HM1 := Lib.hid (HM0.out.keep hb1)
      clear hb1
      go_wp2_with fail
      refine (CL.out _ HM1.out).mono ?_
      rintro e w2 ⟨rfl, hb2⟩
      have HB2 := Lib.hid (HB1.out.trans (hb2.mono HB1.out.size))
      clear hb2
      go_wp2_with fail
      go_ret
      exact ⟨_, rfl, rdoes_none HH.out HB2.out⟩
    · have g1 : (r.o.kind != 1) = true := by rw [bne_iff_ne]; exact hk
      clear h hA hn hq hp hev hlr hls hk
      go_enter Tryd.func23, Tryd.ntmps23
      go_wp2_with fail
      refine (CL.out _ HM0.out).mono ?_
      rintro e w1 ⟨rfl, hb1⟩
      have HB1 := Lib.hid (HA.out.trans (hb1.mono HA.out.size))
      clear hb1
      go_wp2_with fail
      go_ret
      exact ⟨_, rfl, rdoes_none HH.out HB1.out⟩

set_option maxRecDepth 100000 in
set_option maxHeartbeats 1600000 in
theorem ans_none2 (X : Nat → Prop) (lo c : Nat) (R : ClR) (w : World) (h : ClM X lo w c R) (hm : R.rs.length ≤ 100000) (id err : Int) (out : OutC) (version : Int) (ea : Option Addr) (ek : Nat) (events : List EV) (hev : EvA (fun k => R.mut c k ∨ X k) w (.slice ea events.length ek) events) (now : Int) (hn : R.s.pending = true → R.s.ops ≠ []) (hq : R.s.pending = false ∨ (lastS R.s).kind ≠ 2 ∨ (lastS R.s).id ≠ id) :
    Calls Tryd.prog 23 #[.pointer (some ⟨c, 0, none⟩), .int .i64 2, .int .i64 id, .int .i64 err, .agg #[.int .i64 out.code, .int .i64 out.pos, .int .i64 out.first, .int .i64 out.version], .int .i64 version, .slice ea events.length ek, .int .i64 now] w fun e w' => ∃ v, e = .returned v ∧ RDoes X lo c R w R.s [] v w' := by
  have HH := Lib.hid h
  have hA := (Below.refl w.heap.size w).alloc (Nat.le_refl _) (.cells #[.int .i64 out.code, .int .i64 out.pos, .int .i64 out.first, .int .i64 out.version] 31)
  have HA := Lib.hid hA
  have HM0 := Lib.hid (h.keep hA)
  have hc := h.clt
  have x1 : c ≠ w.heap.size := by omega
  have c3 := h.c3
  cases hp : R.s.pending with
  | false =>
    rw [hp] at c3
    clear h hA hn hq hp hev
    go_enter Tryd.func23, Tryd.ntmps23
    go_wp2_with fail
    go_ret
    exact ⟨_, rfl, rdoes_none HH.out HA.out⟩
  | true =>
    rw [hp] at c3
    obtain ⟨l, r, hlr⟩ := h.split (hn hp)
    have hl5 : l.length ≤ 1000000 := by
      have e5 : R.rs.length = l.length + 1 := by rw [hlr]; simp
      omega
    have hls := h.lastS hlr
    have CL := Lib.hid (fun (X' : World) (h' : ClM X lo X' c R) => last_all X lo c R X' h' l r hlr hl5)
    have hF0 := field_kind
    have hF1 := field_id
    by_cases hk : r.o.kind = 2
    · have hi : r.o.id ≠ id := by
        rcases hq with e | e | e
        · rw [hp] at e; cases e
        · rw [hls] at e; exact absurd hk e
        · rw [hls] at e; exact e
      have g1 : (r.o.kind != 2) = false := by rw [bne_eq_false_iff_eq]; exact hk
      have g2 : (r.o.id != id) = true := by rw [bne_iff_ne]; exact hi
      clear h hA hn hq hp hev hlr hls hk hi
      go_enter Tryd.func23, Tryd.ntmps23
      go_wp2_with fail
      refine (CL.out _ HM0.out).mono ?_
      rintro e w1 ⟨rfl, hb1⟩
      have HB1 := Lib.hid (HA.out.trans (hb1.mono HA.out.size))
      have HM1 := Lib.hid (HM0.out.keep hb1)
      clear hb1
      go_wp2_with fail
      refine (CL.out _ HM1.out).mono ?_
      rintro e w2 ⟨rfl, hb2⟩
      have HB2 := Lib.hid (HB1.out.trans (hb2.mono HB1.out.size))
      clear hb2
      go_wp2_with fail
      go_ret
      exact ⟨_, rfl, rdoes_none HH.out HB2.out⟩
    · have g1 : (r.o.kind != 2) = true := by rw [bne_iff_ne]; exact hk
      clear h hA hn hq hp hev hlr hls hk
      go_enter Tryd.func23, Tryd.ntmps23
      go_wp2_with fail
      refine (CL.out _ HM0.out).mono ?_
      rintro e w1 ⟨rfl, hb1⟩
      have HB1 := Lib.hid (HA.out.trans (hb1.mono HA.out.size))
      clear hb1
      go_wp2_with fail
      go_ret
      exact ⟨_, rfl, rdoes_none HH.out HB1.out⟩

set_option maxRecDepth 100000 in
set_option maxHeartbeats 1600000 in
theorem ans_err1 (X : Nat → Prop) (lo c : Nat) (R : ClR) (w : World) (h : ClM X lo w c R) (hm : R.rs.length ≤ 100000) (id err : Int) (out : OutC) (version : Int) (ea : Option Addr) (ek : Nat) (events : List EV) (hev : EvA (fun k => R.mut c k ∨ X k) w (.slice ea events.length ek) events) (now : Int) (hp : R.s.pending = true) (l : List OpR) (r : OpR) (hlr : R.rs = l ++ [r]) (hk : r.o.kind = 1) (hi : r.o.id = id) (he : err ≠ 0) :
    Calls Tryd.prog 23 #[.pointer (some ⟨c, 0, none⟩), .int .i64 1, .int .i64 id, .int .i64 err, .agg #[.int .i64 out.code, .int .i64 out.pos, .int .i64 out.first, .int .i64 out.version], .int .i64 version, .slice ea events.length ek, .int .i64 now] w fun e w' => ∃ v, e = .returned v ∧ RDoes X lo c R w { R.s with which := IntKind.i64.wrap (R.s.which + 1) } [whereW R.s] v w' := by
  have HH := Lib.hid h
  have hA := (Below.refl w.heap.size w).alloc (Nat.le_refl _) (.cells #[.int .i64 out.code, .int .i64 out.pos, .int .i64 out.first, .int .i64 out.version] 31)
  have HA := Lib.hid hA
  have HM0 := Lib.hid (h.keep hA)
  have hc := h.clt
  have x1 : c ≠ w.heap.size := by omega
  have c3 := h.c3
  rw [hp] at c3
  have hl5 : l.length ≤ 1000000 := by
    have e5 : R.rs.length = l.length + 1 := by rw [hlr]; simp
    omega
  have CL := Lib.hid (fun (X' : World) (h' : ClM X lo X' c R) => last_all X lo c R X' h' l r hlr hl5)
  have hF0 := field_kind
  have hF1 := field_id
  have g1 : (r.o.kind != 1) = false := by rw [bne_eq_false_iff_eq]; exact hk
  have g2 : (r.o.id != id) = false := by rw [bne_eq_false_iff_eq]; exact hi
  have g3 : (err != 0) = true := by rw [bne_iff_ne]; exact he
  have HLR := Lib.hid hlr
  have HR := Lib.hid (h.lastS hlr)
  obtain ⟨wv, hwv⟩ : ∃ x, IntKind.i64.wrap (R.s.which + 1) = x := ⟨_, rfl⟩
  have hwi : Vw.I64 wv := by rw [← hwv, IntKind.wrap_i64]; unfold Vw.I64; omega
  rw [hwv]
  clear h hA hev hlr hk hi hp he
  go_enter Tryd.func23, Tryd.ntmps23
  go_wp2_with fail
  refine (CL.out _ HM0.out).mono ?_
  rintro e w1 ⟨rfl, hb1⟩
  have HB1 := Lib.hid (HA.out.trans (hb1.mono HA.out.size))
  have HM1 := Lib.hid (HM0.out.keep hb1)
  have G1 := Lib.hid ((hb1.block w.heap.size (by rw [World.size_alloc]; omega)).trans (heap_alloc_new w (.cells #[.int .i64 out.code, .int .i64 out.pos, .int .i64 out.first, .int .i64 out.version] 31)))
  clear hb1
  go_wp2_with fail
  refine (CL.out _ HM1.out).mono ?_
  rintro e w2 ⟨rfl, hb2⟩
  have HB2 := Lib.hid (HB1.out.trans (hb2.mono HB1.out.size))
  have HM2 := Lib.hid (HM1.out.keep hb2)
  have G2 := Lib.hid ((hb2.block w.heap.size (Array.getElem?_eq_some_iff.1 G1.out).1).trans G1.out)
  clear hb2 c3
  have c4 := HM2.out.c4
  have f4 := HM2.out.fr 4
  have hm3 : ClM X lo (w2.setCell ⟨c, 4, none⟩ (.int .i64 wv)) c { R with s := { R.s with which := wv } } := HM2.out.put 4 (.int .i64 wv) { R.s with which := wv } rfl rfl hwi rfl
  have hs3 := (step_below (c := c) HB2.out (rfl : R.ov = R.ov)).trans (ClM.putStep c R w2 4 (.int .i64 wv) { R.s with which := wv })
  have cw := where_any X lo c _ _ hm3 l r HLR.out hl5
  simp only [outV] at cw
  have CW := Lib.hid cw
  have HM3 := Lib.hid hm3
  have HS3 := Lib.hid hs3
  clear hm3 hs3 cw hwi
  go_wp2_with fail
  refine CW.out.mono ?_
  rintro e w4 ⟨rfl, hb4⟩
  have HM4 := Lib.hid (HM3.out.keep hb4)
  have HS4 := Lib.hid (HS3.out.trans (step_below hb4 rfl))
  clear hb4
  go_wp2_with fail
  go_ret
  have hb := (Below.refl w4.heap.size w4).alloc (Nat.le_refl _) (.cells #[.int .i64 0, .int .i64 r.o.id] 113)
  refine ⟨_, rfl, _, rfl, HM4.out.keep hb, HS4.out.trans (step_below hb rfl), ?_⟩
  have h6 : outP [whereW R.s] = [(0, r.o.id)] := by rw [← HR.out]; rfl
  rw [h6]
  exact .inr ⟨w4.heap.size, rfl, HS4.out.kept.size, heap_alloc_new _ _⟩

set_option maxRecDepth 100000 in
set_option maxHeartbeats 1600000 in
theorem ans_err2 (X : Nat → Prop) (lo c : Nat) (R : ClR) (w : World) (h : ClM X lo w c R) (hm : R.rs.length ≤ 100000) (id err : Int) (out : OutC) (version : Int) (ea : Option Addr) (ek : Nat) (events : List EV) (hev : EvA (fun k => R.mut c k ∨ X k) w (.slice ea events.length ek) events) (now : Int) (hp : R.s.pending = true) (l : List OpR) (r : OpR) (hlr : R.rs = l ++ [r]) (hk : r.o.kind = 2) (hi : r.o.id = id) (he : err ≠ 0) :
    Calls Tryd.prog 23 #[.pointer (some ⟨c, 0, none⟩), .int .i64 2, .int .i64 id, .int .i64 err, .agg #[.int .i64 out.code, .int .i64 out.pos, .int .i64 out.first, .int .i64 out.version], .int .i64 version, .slice ea events.length ek, .int .i64 now] w fun e w' => ∃ v, e = .returned v ∧ RDoes X lo c R w { R.s with which := IntKind.i64.wrap (R.s.which + 1) } [whereW R.s] v w' := by
  have HH := Lib.hid h
  have hA := (Below.refl w.heap.size w).alloc (Nat.le_refl _) (.cells #[.int .i64 out.code, .int .i64 out.pos, .int .i64 out.first, .int .i64 out.version] 31)
  have HA := Lib.hid hA
  have HM0 := Lib.hid (h.keep hA)
  have hc := h.clt
  have x1 : c ≠ w.heap.size := by omega
  have c3 := h.c3
  rw [hp] at c3
  have hl5 : l.length ≤ 1000000 := by
    have e5 : R.rs.length = l.length + 1 := by rw [hlr]; simp
    omega
  have CL := Lib.hid (fun (X' : World) (h' : ClM X lo X' c R) => last_all X lo c R X' h' l r hlr hl5)
  have hF0 := field_kind
  have hF1 := field_id
  have g1 : (r.o.kind != 2) = false := by rw [bne_eq_false_iff_eq]; exact hk
  have g2 : (r.o.id != id) = false := by rw [bne_eq_false_iff_eq]; exact hi
  have g3 : (err != 0) = true := by rw [bne_iff_ne]; exact he
  have HLR := Lib.hid hlr
  have HR := Lib.hid (h.lastS hlr)
  obtain ⟨wv, hwv⟩ : ∃ x, IntKind.i64.wrap (R.s.which + 1) = x := ⟨_, rfl⟩
  have hwi : Vw.I64 wv := by rw [← hwv, IntKind.wrap_i64]; unfold Vw.I64; omega
  rw [hwv]
  clear h hA hev hlr hk hi hp he
  go_enter Tryd.func23, Tryd.ntmps23
  go_wp2_with fail
  refine (CL.out _ HM0.out).mono ?_
  rintro e w1 ⟨rfl, hb1⟩
  have HB1 := Lib.hid (HA.out.trans (hb1.mono HA.out.size))
  have HM1 := Lib.hid (HM0.out.keep hb1)
  have G1 := Lib.hid ((hb1.block w.heap.size (by rw [World.size_alloc]; omega)).trans (heap_alloc_new w (.cells #[.int .i64 out.code, .int .i64 out.pos, .int .i64 out.first, .int .i64 out.version] 31)))
  clear hb1
  go_wp2_with fail
  refine (CL.out _ HM1.out).mono ?_
  rintro e w2 ⟨rfl, hb2⟩
  have HB2 := Lib.hid (HB1.out.trans (hb2.mono HB1.out.size))
  have HM2 := Lib.hid (HM1.out.keep hb2)
  have G2 := Lib.hid ((hb2.block w.heap.size (Array.getElem?_eq_some_iff.1 G1.out).1).trans G1.out)
  clear hb2 c3
  have c4 := HM2.out.c4
  have f4 := HM2.out.fr 4
  have hm3 : ClM X lo (w2.setCell ⟨c, 4, none⟩ (.int .i64 wv)) c { R with s := { R.s with which := wv } } := HM2.out.put 4 (.int .i64 wv) { R.s with which := wv } rfl rfl hwi rfl
  have hs3 := (step_below (c := c) HB2.out (rfl : R.ov = R.ov)).trans (ClM.putStep c R w2 4 (.int .i64 wv) { R.s with which := wv })
  have cw := where_any X lo c _ _ hm3 l r HLR.out hl5
  simp only [outV] at cw
  have CW := Lib.hid cw
  have HM3 := Lib.hid hm3
  have HS3 := Lib.hid hs3
  clear hm3 hs3 cw hwi
  go_wp2_with fail
  refine CW.out.mono ?_
  rintro e w4 ⟨rfl, hb4⟩
  have HM4 := Lib.hid (HM3.out.keep hb4)
  have HS4 := Lib.hid (HS3.out.trans (step_below hb4 rfl))
  clear hb4
  go_wp2_with fail
  go_ret
  have hb := (Below.refl w4.heap.size w4).alloc (Nat.le_refl _) (.cells #[.int .i64 0, .int .i64 r.o.id] 113)
  refine ⟨_, rfl, _, rfl, HM4.out.keep hb, HS4.out.trans (step_below hb rfl), ?_⟩
  have h6 : outP [whereW R.s] = [(0, r.o.id)] := by rw [← HR.out]; rfl
  rw [h6]
  exact .inr ⟨w4.heap.size, rfl, HS4.out.kept.size, heap_alloc_new _ _⟩

set_option maxRecDepth 100000 in
set_option maxHeartbeats 1600000 in
theorem ans_ok1 (X : Nat → Prop) (lo c : Nat) (R : ClR) (w : World) (h : ClM X lo w c R) (hm : R.rs.length ≤ 100000) (id err : Int) (out : OutC) (version : Int) (ea : Option Addr) (ek : Nat) (events : List EV) (hev : EvA (fun k => R.mut c k ∨ X k) w (.slice ea events.length ek) events) (now : Int) (hp : R.s.pending = true) (l : List OpR) (r : OpR) (hlr : R.rs = l ++ [r]) (hk : r.o.kind = 1) (hi : r.o.id = id) (he : err = 0) :
    Calls Tryd.prog 23 #[.pointer (some ⟨c, 0, none⟩), .int .i64 1, .int .i64 id, .int .i64 err, .agg #[.int .i64 out.code, .int .i64 out.pos, .int .i64 out.first, .int .i64 out.version], .int .i64 version, .slice ea events.length ek, .int .i64 now] w fun e w' => ∃ v, e = .returned v ∧ RDoes X lo c R w (Proofs.YtapgjjfndbfnpaaDoor.setLast { R.s with pending := false } (fun o => (fun o => { o with out := out }) { o with end_ := now })) [] v w' := by
  have HH := Lib.hid h
  have hA := (Below.refl w.heap.size w).alloc (Nat.le_refl _) (.cells #[.int .i64 out.code, .int .i64 out.pos, .int .i64 out.first, .int .i64 out.version] 31)
  have HA := Lib.hid hA
  have HM0 := Lib.hid (h.keep hA)
  have hc := h.clt
  have x1 : c ≠ w.heap.size := by omega
  have c3 := h.c3
  rw [hp] at c3
  have hl5 : l.length ≤ 1000000 := by
    have e5 : R.rs.length = l.length + 1 := by rw [hlr]; simp
    omega
  have CL := Lib.hid (fun (X' : World) (h' : ClM X lo X' c R) => last_all X lo c R X' h' l r hlr hl5)
  have hF0 := field_kind
  have hF1 := field_id
  have g1 : (r.o.kind != 1) = false := by rw [bne_eq_false_iff_eq]; exact hk
  have g2 : (r.o.id != id) = false := by rw [bne_eq_false_iff_eq]; exact hi
  obtain ⟨i0, hi0, hq0, hq1, hq2⟩ := info_parts Tryd.ropinfo
  have g3 : (err != 0) = false := by rw [bne_eq_false_iff_eq]; exact he
  have HLR := Lib.hid hlr
  have HR := Lib.hid (h.lastS hlr)
  have HEV := Lib.hid hev
  have HP := Lib.hid hp
  have hrm : r ∈ R.rs := by rw [hlr]; simp
  obtain ⟨ba, bk, hbv⟩ := (h.bev r hrm).1.form
  obtain ⟨va, vk, hvv⟩ := (h.evv r hrm).1.form
  have HBV := Lib.hid hbv
  have HVV := Lib.hid hvv
  have HPL := Lib.hid (show (#[.int .i64 r.o.kind, .int .i64 r.o.id, .int .i64 r.o.start, .int .i64 r.o.end_, .string r.o.b.stream, .int .i64 r.o.b.expect, .int .i64 r.o.b.session, .int .i64 r.o.b.seq, r.bev, .int .i64 r.o.out.code, .int .i64 r.o.out.pos, .int .i64 r.o.out.first, .int .i64 r.o.out.version, .string r.o.stream, .int .i64 r.o.from_, .int .i64 r.o.version, r.evv] : Array Value).all (·.oneCell') = true by rw [hbv, hvv]; simp [Value.oneCell'])
  clear h hA hev hlr hk hi hp he hbv hvv hrm
  go_enter Tryd.func23, Tryd.ntmps23
  go_wp2_with fail
  refine (CL.out _ HM0.out).mono ?_
  rintro e w1 ⟨rfl, hb1⟩
  have HB1 := Lib.hid (HA.out.trans (hb1.mono HA.out.size))
  have HM1 := Lib.hid (HM0.out.keep hb1)
  have G1 := Lib.hid ((hb1.block w.heap.size (by rw [World.size_alloc]; omega)).trans (heap_alloc_new w (.cells #[.int .i64 out.code, .int .i64 out.pos, .int .i64 out.first, .int .i64 out.version] 31)))
  clear hb1
  go_wp2_with fail
  refine (CL.out _ HM1.out).mono ?_
  rintro e w2 ⟨rfl, hb2⟩
  have HB2 := Lib.hid (HB1.out.trans (hb2.mono HB1.out.size))
  have HM2 := Lib.hid (HM1.out.keep hb2)
  have G2 := Lib.hid ((hb2.block w.heap.size (Array.getElem?_eq_some_iff.1 G1.out).1).trans G1.out)
  clear hb2 c3
  go_wp2_with fail
  refine (CL.out _ HM2.out).mono ?_
  rintro e w3 ⟨rfl, hb3⟩
  have HB3 := Lib.hid (HB2.out.trans (hb3.mono HB2.out.size))
  have HM3 := Lib.hid (HM2.out.keep hb3)
  have G3 := Lib.hid ((hb3.block w.heap.size (Array.getElem?_eq_some_iff.1 G2.out).1).trans G2.out)
  have hz3 : w.heap.size < w3.heap.size := (Array.getElem?_eq_some_iff.1 G3.out).1
  have y0 : w3.cell? ⟨w.heap.size, 0, none⟩ = some (.int .i64 out.code) := by rw [Lib.cell_of_heap G3.out]; rfl
  have y1 : w3.cell? ⟨w.heap.size, 1, none⟩ = some (.int .i64 out.pos) := by rw [Lib.cell_of_heap G3.out]; rfl
  have y2 : w3.cell? ⟨w.heap.size, 2, none⟩ = some (.int .i64 out.first) := by rw [Lib.cell_of_heap G3.out]; rfl
  have y3 : w3.cell? ⟨w.heap.size, 3, none⟩ = some (.int .i64 out.version) := by rw [Lib.cell_of_heap G3.out]; rfl
  have hz4 : w.heap.size ≠ w3.heap.size := by omega
  clear hb3
  go_upto_region 12 with (refine wpList_store_new rfl 79 _ _ rfl w3 #[.int .i64 0, .int .i64 0, .int .i64 0, .int .i64 0, .string ⟨#[]⟩, .int .i64 0, .int .i64 0, .int .i64 0, .slice none 0 0, .int .i64 0, .int .i64 0, .int .i64 0, .int .i64 0, .string ⟨#[]⟩, .int .i64 0, .int .i64 0, .slice none 0 0] #[.int .i64 r.o.kind, .int .i64 r.o.id, .int .i64 r.o.start, .int .i64 r.o.end_, .string r.o.b.stream, .int .i64 r.o.b.expect, .int .i64 r.o.b.session, .int .i64 r.o.b.seq, r.bev, .int .i64 r.o.out.code, .int .i64 r.o.out.pos, .int .i64 r.o.out.first, .int .i64 r.o.out.version, .string r.o.stream, .int .i64 r.o.from_, .int .i64 r.o.version, r.evv] rfl (by rfl) (by rfl) opsize rfl HPL.out ?_)
  clear y0 y1 y2 y3
  have hA4 := (Below.refl w3.heap.size w3).alloc (Nat.le_refl _) (.cells #[.int .i64 r.o.kind, .int .i64 r.o.id, .int .i64 r.o.start, .int .i64 now, .string r.o.b.stream, .int .i64 r.o.b.expect, .int .i64 r.o.b.session, .int .i64 r.o.b.seq, r.bev, .int .i64 out.code, .int .i64 out.pos, .int .i64 out.first, .int .i64 out.version, .string r.o.stream, .int .i64 r.o.from_, .int .i64 r.o.version, r.evv] 79)
  have G4 := Lib.hid (heap_alloc_new w3 (.cells #[.int .i64 r.o.kind, .int .i64 r.o.id, .int .i64 r.o.start, .int .i64 now, .string r.o.b.stream, .int .i64 r.o.b.expect, .int .i64 r.o.b.session, .int .i64 r.o.b.seq, r.bev, .int .i64 out.code, .int .i64 out.pos, .int .i64 out.first, .int .i64 out.version, .string r.o.stream, .int .i64 r.o.from_, .int .i64 r.o.version, r.evv] 79))
  have HB4 := Lib.hid (HB3.out.trans (hA4.mono HB3.out.size))
  have HM4 := Lib.hid (HM3.out.keep hA4)
  clear hA4
  generalize w3.alloc (.cells #[.int .i64 r.o.kind, .int .i64 r.o.id, .int .i64 r.o.start, .int .i64 now, .string r.o.b.stream, .int .i64 r.o.b.expect, .int .i64 r.o.b.session, .int .i64 r.o.b.seq, r.bev, .int .i64 out.code, .int .i64 out.pos, .int .i64 out.first, .int .i64 out.version, .string r.o.stream, .int .i64 r.o.from_, .int .i64 r.o.version, r.evv] 79) = w4 at *
  have hlen : R.rs.length = l.length + 1 := by rw [HLR.out]; simp
  have hq4 : w3.heap.size < w4.heap.size := (Array.getElem?_eq_some_iff.1 G4.out).1
  go_cut [18] (fun s18 wx => ∃ g7 cap7, s18 = .slice (some ⟨g7, 0, none⟩) l.length cap7 ∧ wx.ownsRow w4.heap.size 79 17 (.slice (some ⟨g7, 0, none⟩) l.length cap7) l.length (ocells l) ∧ Below w4.heap.size w4 wx)
  case first =>
    obtain ⟨g, cap, cur, hv, -, -, hg, r1, r2, r3, r4⟩ := HM4.out.row (by omega)
    rw [hlen] at hv r1 r4
    have hgs := (Array.getElem?_eq_some_iff.1 hg).1
    have c2 := HM4.out.c2
    rw [hv] at c2
    have hc4 : c < w4.heap.size := HM4.out.clt
    have MKS := Lib.hid (fun (X' : World) (hb : Below w4.heap.size w4 X') => (show X'.cell? ⟨c, 2, none⟩ = some (.slice (some ⟨g, 0, none⟩) (l.length + 1) cap) ∧ Below w4.heap.size w4 X' from ⟨(hb.cell (p := ⟨c, 2, none⟩) hc4).trans c2, hb⟩))
    have HN := Lib.hid (fun (X' : World) (hb : Below w4.heap.size w4 X') => (show ∀ j u, (ocells l)[j]? = some u → X'.cell? ((⟨g, 0, none⟩ : Addr).add j) = some u from fun j u hu => by
      have hj : j < l.length * 17 := by
        have := (List.getElem?_eq_some_iff.1 hu).1
        rwa [ocells_len] at this
      have hu2 : (ocells R.rs)[j]? = some u := by rw [HLR.out, ocells_append, List.getElem?_append_left (by rw [ocells_len]; exact hj)]; exact hu
      rw [add_spot2, Nat.zero_add, hb.cell (p := ⟨g, j, none⟩) hgs, Lib.cell_of_heap hg, ← hu2, ← r4, List.getElem?_take_of_lt (by omega), Array.getElem?_toList]))
    have HPL1 := Lib.hid (fun (u : Value) (hu : u ∈ ocells l) => (show u.oneCell' = true from ocells_plain (fun x hx => HH.out.plain x (by rw [HLR.out]; exact List.mem_append_left _ hx)) hu))
    have i1 : (0 : Int) ≤ (l.length : Int) := by omega
    have i2 : (l.length : Int) ≤ 1000000 := by omega
    have i3 : (l.length : Int) ≤ (cap : Int) := by omega
    have ew : IntKind.i64.wrap (l.length : Int) = (l.length : Int) := by rw [IntKind.wrap_i64]; omega
    clear hv hg r1 r2 r3 r4 c2 hc4
    refine region_begin (S := fun X' => X'.cell? ⟨c, 2, none⟩ = some (.slice (some ⟨g, 0, none⟩) (l.length + 1) cap) ∧ Below w4.heap.size w4 X') 14 rfl (by kernel_rfl) (MKS.out _ (Below.refl w4.heap.size w4).drew) (fun hH0 => ?_)
    refine wpAnyH_take (i := 1) (oi := ?ot1) (v := ?vt1) ?hit1 (by kernel_rfl) (by kernel_rfl) (by kernel_rfl) ?hQt1 ?hyt1 hH0 ?_
    case hit1 => simp only [List.getElem?_toArray, List.getElem?_cons_zero, List.getElem?_cons_succ]; rfl
    case hQt1 => exact fun _ _ _ h => h
    case hyt1 => refine Or.inl ⟨by rfl, ?_⟩; intro W hSw; (try dsimp only at hSw); go_simp; try with_reducible rfl
    simp only [Act.put, List.setIfInBounds_toArray, List.set_cons_zero, List.set_cons_succ]
    refine wpAnyH_take (i := 2) (oi := ?ot2) (v := ?vt2) ?hit2 (by kernel_rfl) (by kernel_rfl) (by kernel_rfl) ?hQt2 ?hyt2 hH0 ?_
    case hit2 => simp only [List.getElem?_toArray, List.getElem?_cons_zero, List.getElem?_cons_succ]; rfl
    case hQt2 => exact fun _ _ _ h => h
    case hyt2 => refine Or.inl ⟨by rfl, ?_⟩; intro W hSw; (try dsimp only at hSw); go_simp; try with_reducible rfl
    simp only [Act.put, List.setIfInBounds_toArray, List.set_cons_zero, List.set_cons_succ]
    refine wpAnyH_take (i := 3) (oi := ?ot3) (v := ?vt3) ?hit3 (by kernel_rfl) (by kernel_rfl) (by kernel_rfl) ?hQt3 ?hyt3 hH0 ?_
    case hit3 => simp only [List.getElem?_toArray, List.getElem?_cons_zero, List.getElem?_cons_succ]; rfl
    case hQt3 => exact fun _ _ _ h => h
    case hyt3 => refine Or.inl ⟨by rfl, ?_⟩; intro W hSw; (try dsimp only at hSw); go_simp; try with_reducible rfl
    simp only [Act.put, List.setIfInBounds_toArray, List.set_cons_zero, List.set_cons_succ]
    refine wpAnyH_take (i := 4) (oi := ?ot4) (v := ?vt4) ?hit4 (by kernel_rfl) (by kernel_rfl) (by kernel_rfl) ?hQt4 ?hyt4 hH0 ?_
    case hit4 => simp only [List.getElem?_toArray, List.getElem?_cons_zero, List.getElem?_cons_succ]; rfl
    case hQt4 => exact fun _ _ _ h => h
    case hyt4 => refine Or.inl ⟨by rfl, ?_⟩; intro W hSw; (try dsimp only at hSw); go_simp; try with_reducible rfl
    simp only [Act.put, List.setIfInBounds_toArray, List.set_cons_zero, List.set_cons_succ]
    refine wpAnyH_take (i := 5) (oi := ?ot5) (v := ?vt5) ?hit5 (by kernel_rfl) (by kernel_rfl) (by kernel_rfl) ?hQt5 ?hyt5 hH0 ?_
    case hit5 => simp only [List.getElem?_toArray, List.getElem?_cons_zero, List.getElem?_cons_succ]; rfl
    case hQt5 => exact fun _ _ _ h => h
    case hyt5 => refine Or.inl ⟨by rfl, ?_⟩; intro W hSw; (try dsimp only at hSw); go_simp; try with_reducible rfl
    simp only [Act.put, List.setIfInBounds_toArray, List.set_cons_zero, List.set_cons_succ]
    refine wpAnyH_take (i := 6) (oi := ?ot6) (v := ?vt6) ?hit6 (by kernel_rfl) (by kernel_rfl) (by kernel_rfl) ?hQt6 ?hyt6 hH0 ?_
    case hit6 => simp only [List.getElem?_toArray, List.getElem?_cons_zero, List.getElem?_cons_succ]; rfl
    case hQt6 => exact fun _ _ _ h => h
    case hyt6 => refine Or.inl ⟨by rfl, ?_⟩; intro W hSw; (try dsimp only at hSw); go_simp; try with_reducible rfl
    simp only [Act.put, List.setIfInBounds_toArray, List.set_cons_zero, List.set_cons_succ]
    refine wpAnyH_take (i := 7) (oi := ?ot7) (v := ?vt7) ?hit7 (by kernel_rfl) (by kernel_rfl) (by kernel_rfl) ?hQt7 ?hyt7 hH0 ?_
    case hit7 => simp only [List.getElem?_toArray, List.getElem?_cons_zero, List.getElem?_cons_succ]; rfl
    case hQt7 => exact fun _ _ _ h => h
    case hyt7 => refine Or.inl ⟨by rfl, ?_⟩; intro W hSw; (try dsimp only at hSw); go_simp; try with_reducible rfl
    simp only [Act.put, List.setIfInBounds_toArray, List.set_cons_zero, List.set_cons_succ]
    refine wpAnyH_take (i := 8) (oi := ?ot8) (v := ?vt8) ?hit8 (by kernel_rfl) (by kernel_rfl) (by kernel_rfl) ?hQt8 ?hyt8 hH0 ?_
    case hit8 => simp only [List.getElem?_toArray, List.getElem?_cons_zero, List.getElem?_cons_succ]; rfl
    case hQt8 => exact fun _ _ _ h => h
    case hyt8 => refine Or.inl ⟨by rfl, ?_⟩; intro W hSw; (try dsimp only at hSw); go_simp; try with_reducible rfl
    simp only [Act.put, List.setIfInBounds_toArray, List.set_cons_zero, List.set_cons_succ]
    refine wpAnyH_take (i := 9) (oi := ?ot9) (v := ?vt9) ?hit9 (by kernel_rfl) (by kernel_rfl) (by kernel_rfl) ?hQt9 ?hyt9 hH0 ?_
    case hit9 => simp only [List.getElem?_toArray, List.getElem?_cons_zero, List.getElem?_cons_succ]; rfl
    case hQt9 => exact fun _ _ _ h => h
    case hyt9 => refine Or.inl ⟨by rfl, ?_⟩; intro W hSw; (try dsimp only at hSw); go_simp; try with_reducible rfl
    simp only [Act.put, List.setIfInBounds_toArray, List.set_cons_zero, List.set_cons_succ]
    refine wpAnyH_take (i := 10) (oi := ?ot10) (v := ?vt10) ?hit10 (by kernel_rfl) (by kernel_rfl) (by kernel_rfl) ?hQt10 ?hyt10 hH0 ?_
    case hit10 => simp only [List.getElem?_toArray, List.getElem?_cons_zero, List.getElem?_cons_succ]; rfl
    case hQt10 => exact fun _ _ _ h => h
    case hyt10 => refine Or.inl ⟨by rfl, ?_⟩; intro W hSw; (try dsimp only at hSw); go_simp; try with_reducible rfl
    simp only [Act.put, List.setIfInBounds_toArray, List.set_cons_zero, List.set_cons_succ]
    refine wpAnyH_take (i := 11) (oi := ?ot11) (v := ?vt11) ?hit11 (by kernel_rfl) (by kernel_rfl) (by kernel_rfl) ?hQt11 ?hyt11 hH0 ?_
    case hit11 => simp only [List.getElem?_toArray, List.getElem?_cons_zero, List.getElem?_cons_succ]; rfl
    case hQt11 => exact fun _ _ _ h => h
    case hyt11 => refine Or.inl ⟨by rfl, ?_⟩; intro W hSw; (try dsimp only at hSw); go_simp; try with_reducible rfl
    simp only [Act.put, List.setIfInBounds_toArray, List.set_cons_zero, List.set_cons_succ]
    clear hH0
    have HBd := Lib.hid (Below.refl w4.heap.size w4).drew
    generalize w4.drew = wd at *
    refine wpAnyH_ready (rs := [0]) (by kernel_rfl) (by simp) ?_
    refine AllReadyH.cons (o := ?ou0) ?hou0 (fun K' hK => ?_) AllReadyH.nil
    case hou0 => simp only [List.getElem?_toArray, List.getElem?_cons_zero]; rfl
    go_simp
    have hA5 := (Below.refl wd.heap.size wd).alloc (Nat.le_refl _) (.cells #[] 79)
    have HB5 := Lib.hid (HBd.out.trans (hA5.mono HBd.out.size))
    have HOW0 := Lib.hid (show (wd.alloc (.cells #[] 79)).ownsRow w4.heap.size 79 17 (.slice (some ⟨wd.heap.size, 0, none⟩) 0 0) 0 [] from ⟨rfl, .inr ⟨wd.heap.size, 0, #[], rfl, HBd.out.size, heap_alloc_new _ _, Nat.le_refl _, Nat.zero_le _, rfl, rfl⟩⟩)
    have HBZ := Lib.hid (show w4.heap.size ≤ (wd.alloc (.cells #[] 79)).heap.size from HB5.out.size)
    clear hA5
    refine hK.out _ _ (MKS.out _ HB5.out) (fun hH1 => ?_)
    clear hK K'
    (try simp only [Act.put, List.setIfInBounds_toArray, List.set_cons_zero, List.set_cons_succ])
    clear hH1
    by_cases hn : 0 < l.length
    · refine wpAnyH_ready (rs := [12]) (by kernel_rfl) (by simp) ?_
      refine AllReadyH.cons (o := ?oua) ?houa (fun K' hK => ?_) AllReadyH.nil
      case houa => simp only [List.getElem?_toArray, List.getElem?_cons_zero, List.getElem?_cons_succ]; rfl
      refine step_append_lies _ (by rfl) _ _ _ (by rfl) w4.heap.size 79 i0 _ 17 184 Tryd.underlying67 hi0 hq0 hq1 hq2 rfl (by omega) _ _ _ (by rfl) HOW0.out ⟨g, 0, none⟩ l.length cap (ocells l) (by rfl) (ocells_len l) (HN.out _ HB5.out) HPL1.out hn (by unfold maxLen; omega) (by omega) HBZ.out _ rfl ?_
      intro g7 cap7 w6 hown6 hgrow hat hlt6
      simp only [Nat.zero_add, List.nil_append] at hown6 ⊢
      have HB6 := Lib.hid (HB5.out.grown hgrow HBZ.out (fun k e => by obtain rfl : wd.heap.size = k := Option.some.inj e; exact HBd.out.size))
      have HOW6 := Lib.hid hown6
      clear hown6 hgrow hat hlt6
      refine hK.out _ _ (MKS.out _ HB6.out) (fun hH2 => ?_)
      clear hK K'
      (try simp only [Act.put, List.setIfInBounds_toArray, List.set_cons_zero, List.set_cons_succ])
      refine wpAnyH_take (i := 13) (oi := ?ova) (v := ?vva) ?hiva (by kernel_rfl) (by kernel_rfl) (by kernel_rfl) ?hQva ?hyva hH2 ?_
      case hiva => simp only [List.getElem?_toArray, List.getElem?_cons_zero, List.getElem?_cons_succ]; rfl
      case hQva => exact fun _ _ _ h => h
      case hyva => refine Or.inl ⟨by rfl, ?_⟩; intro W hSw; (try dsimp only at hSw); go_simp; try with_reducible rfl
      simp only [Act.put, List.setIfInBounds_toArray, List.set_cons_zero, List.set_cons_succ]
      clear hH2
      refine wpAnyH_done (by kernel_rfl) ?_ _
      go_wp2
      go_meet
      case rel => exact ⟨_, _, rfl, HOW6.out, HB6.out⟩
    · refine wpAnyH_ready (rs := [12]) (by kernel_rfl) (by simp) ?_
      refine AllReadyH.cons (o := ?oub) ?houb (fun K' hK => ?_) AllReadyH.nil
      case houb => simp only [List.getElem?_toArray, List.getElem?_cons_zero, List.getElem?_cons_succ]; rfl
      have h0 : l.length = 0 := by omega
      have H0 := Lib.hid h0
      rw [h0]
      go_simp
      refine hK.out _ _ (MKS.out _ HB5.out) (fun hH2 => ?_)
      clear hK K'
      (try simp only [Act.put, List.setIfInBounds_toArray, List.set_cons_zero, List.set_cons_succ])
      refine wpAnyH_take (i := 13) (oi := ?ovb) (v := ?vvb) ?hivb (by kernel_rfl) (by kernel_rfl) (by kernel_rfl) ?hQvb ?hyvb hH2 ?_
      case hivb => simp only [List.getElem?_toArray, List.getElem?_cons_zero, List.getElem?_cons_succ]; rfl
      case hQvb => exact fun _ _ _ h => h
      case hyvb => refine Or.inl ⟨by rfl, ?_⟩; intro W hSw; (try dsimp only at hSw); go_simp; try with_reducible rfl
      simp only [Act.put, List.setIfInBounds_toArray, List.set_cons_zero, List.set_cons_succ]
      clear hH2
      refine wpAnyH_done (by kernel_rfl) ?_ _
      go_wp2
      go_meet
      case rel => exact ⟨_, 0, by rw [H0.out], by rw [List.eq_nil_of_length_eq_zero H0.out]; exact HOW0.out, HB5.out⟩
  case rest =>
    obtain ⟨g7, cap7, rfl, hown7, hb7⟩ := hcut
    have hgq := (hb7.block _ hq4).trans G4.out
    have HRG := Lib.hid (show wc.rangeAt w3.heap.size 0 [.int .i64 r.o.kind, .int .i64 r.o.id, .int .i64 r.o.start, .int .i64 now, .string r.o.b.stream, .int .i64 r.o.b.expect, .int .i64 r.o.b.session, .int .i64 r.o.b.seq, r.bev, .int .i64 out.code, .int .i64 out.pos, .int .i64 out.first, .int .i64 out.version, .string r.o.stream, .int .i64 r.o.from_, .int .i64 r.o.version, r.evv] from fun j v hj => by rw [Lib.cell_of_heap hgq, Nat.zero_add, ← hj, ← Array.getElem?_toList])
    have HB7 := Lib.hid (HB4.out.trans (hb7.mono HB4.out.size))
    have hl := (Below.refl wc.heap.size wc).alloc (Nat.le_refl _) (.cells #[.int .i64 r.o.kind, .int .i64 r.o.id, .int .i64 r.o.start, .int .i64 now, .string r.o.b.stream, .int .i64 r.o.b.expect, .int .i64 r.o.b.session, .int .i64 r.o.b.seq, r.bev, .int .i64 out.code, .int .i64 out.pos, .int .i64 out.first, .int .i64 out.version, .string r.o.stream, .int .i64 r.o.from_, .int .i64 r.o.version, r.evv] 79)
    have HIL := Lib.hid (heap_alloc_new wc (.cells #[.int .i64 r.o.kind, .int .i64 r.o.id, .int .i64 r.o.start, .int .i64 now, .string r.o.b.stream, .int .i64 r.o.b.expect, .int .i64 r.o.b.session, .int .i64 r.o.b.seq, r.bev, .int .i64 out.code, .int .i64 out.pos, .int .i64 out.first, .int .i64 out.version, .string r.o.stream, .int .i64 r.o.from_, .int .i64 r.o.version, r.evv] 79))
    have HOWN := Lib.hid (own_below hl hown7)
    have HBL := Lib.hid (HB7.out.trans (hl.mono HB7.out.size))
    have hbz := hb7.size
    have HWZ := Lib.hid (show w4.heap.size ≤ (wc.alloc (.cells #[.int .i64 r.o.kind, .int .i64 r.o.id, .int .i64 r.o.start, .int .i64 now, .string r.o.b.stream, .int .i64 r.o.b.expect, .int .i64 r.o.b.session, .int .i64 r.o.b.seq, r.bev, .int .i64 out.code, .int .i64 out.pos, .int .i64 out.first, .int .i64 out.version, .string r.o.stream, .int .i64 r.o.from_, .int .i64 r.o.version, r.evv] 79)).heap.size by rw [World.size_alloc]; omega)
    have HW4 := Lib.hid HB4.out.size
    obtain ⟨r', hr'⟩ : ∃ r' : OpR, { r with o := { { r.o with end_ := now } with out := out } } = r' := ⟨_, rfl⟩
    have HRC := Lib.hid (show r'.cells = [.int .i64 r.o.kind, .int .i64 r.o.id, .int .i64 r.o.start, .int .i64 now, .string r.o.b.stream, .int .i64 r.o.b.expect, .int .i64 r.o.b.session, .int .i64 r.o.b.seq, r.bev, .int .i64 out.code, .int .i64 out.pos, .int .i64 out.first, .int .i64 out.version, .string r.o.stream, .int .i64 r.o.from_, .int .i64 r.o.version, r.evv] by rw [← hr']; rfl)
    have HRP := Lib.hid hr'
    have HPL2 := Lib.hid (show ∀ u ∈ ([.int .i64 r.o.kind, .int .i64 r.o.id, .int .i64 r.o.start, .int .i64 now, .string r.o.b.stream, .int .i64 r.o.b.expect, .int .i64 r.o.b.session, .int .i64 r.o.b.seq, r.bev, .int .i64 out.code, .int .i64 out.pos, .int .i64 out.first, .int .i64 out.version, .string r.o.stream, .int .i64 r.o.from_, .int .i64 r.o.version, r.evv] : List Value), u.oneCell' = true from fun u hu => by rw [← HRC.out, ← ocells_one] at hu; exact ocells_plain (fun x hx => by obtain rfl := List.mem_singleton.1 hx; rw [← HRP.out]; exact ⟨(HH.out.bev r (by rw [HLR.out]; simp)).plain, (HH.out.evv r (by rw [HLR.out]; simp)).plain⟩) hu)
    clear hown7 hb7 hgq hl hbz hr'
    go_upto_region 14 with (first | (refine wpList_load_mid rfl 79 _ rfl w3.heap.size 0 (by rfl) [.int .i64 r.o.kind, .int .i64 r.o.id, .int .i64 r.o.start, .int .i64 now, .string r.o.b.stream, .int .i64 r.o.b.expect, .int .i64 r.o.b.session, .int .i64 r.o.b.seq, r.bev, .int .i64 out.code, .int .i64 out.pos, .int .i64 out.first, .int .i64 out.version, .string r.o.stream, .int .i64 r.o.from_, .int .i64 r.o.version, r.evv] _ HRG.out Tryd.underlying79 rfl (by exact opsize) ?_) | (at_builtin; refine wpList_append_lies _ rfl _ _ 67 rfl w4.heap.size 79 i0 _ 17 184 Tryd.underlying67 hi0 hq0 hq1 hq2 rfl (by omega) _ _ _ (by rfl) HOWN.out ⟨wc.heap.size, 0, none⟩ 1 1 [.int .i64 r.o.kind, .int .i64 r.o.id, .int .i64 r.o.start, .int .i64 now, .string r.o.b.stream, .int .i64 r.o.b.expect, .int .i64 r.o.b.session, .int .i64 r.o.b.seq, r.bev, .int .i64 out.code, .int .i64 out.pos, .int .i64 out.first, .int .i64 out.version, .string r.o.stream, .int .i64 r.o.from_, .int .i64 r.o.version, r.evv] (by rfl) (by rfl) (World.news_of_block HIL.out) HPL2.out (by omega) (by unfold maxLen; omega) (by omega) HWZ.out _ rfl ?_; intro gg cap2 w7 hown7 hgrow hat hlt7))
    rw [← HRC.out, show ocells l ++ r'.cells = ocells (l ++ [r']) by rw [ocells_append, ocells_one]] at hown7
    have hgw : w4.heap.size ≤ g7 := (own_lt HOWN.out g7 rfl).1
    have hb8 : Below w.heap.size w w7 := HBL.out.grown hgrow (by have := HWZ.out; have := HW4.out; omega) (fun k e => by obtain rfl : g7 = k := Option.some.inj e; have := HW4.out; omega)
    have hmem : ∀ x ∈ l, x ∈ R.rs := fun x hx => by rw [HLR.out]; exact List.mem_append_left _ hx
    have hrm : r ∈ R.rs := by rw [HLR.out]; simp
    obtain ⟨hfm, hfs⟩ := HH.out.fresh (rs := l ++ [r']) hb8 (own_less HW4.out (by rw [List.length_append, List.length_singleton]; exact hown7)) (fun x hx => by
      rcases List.mem_append.1 hx with hx | hx
      · exact HH.out.bev x (hmem x hx)
      · obtain rfl := List.mem_singleton.1 hx; rw [← HRP.out]; exact HH.out.bev r hrm) (fun x hx => by
      rcases List.mem_append.1 hx with hx | hx
      · exact HH.out.evv x (hmem x hx)
      · obtain rfl := List.mem_singleton.1 hx; rw [← HRP.out]; exact HH.out.evv r hrm)
    have hblk3 : w7.heap[c]? = some (.cells R.cells 70) := (hb8.block c hc).trans HH.out.blk
    have hc3 : w7.cell? ⟨c, 2, none⟩ = some R.ov := by rw [Lib.cell_of_heap hblk3]; rfl
    have hf3 : w7.frozen? ⟨c, 2, none⟩ = false := Lib.frozen_of_heap hblk3 2
    have cc3 := hfm.c3
    have ff3 := hfm.fr 3
    have HM8 := Lib.hid (hfm.put 3 (.bool false) { (rowsR R (l ++ [r']) (.slice (some ⟨gg, 0, none⟩) (l.length + 1) cap2)).s with pending := false } rfl rfl hfm.wh rfl)
    have HS8 := Lib.hid (hfs.trans (ClM.putStep c (rowsR R (l ++ [r']) (.slice (some ⟨gg, 0, none⟩) (l.length + 1) cap2)) _ 3 (.bool false) { (rowsR R (l ++ [r']) (.slice (some ⟨gg, 0, none⟩) (l.length + 1) cap2)).s with pending := false }))
    have HEQ := Lib.hid (rows_set HH.out HLR.out r' (.slice (some ⟨gg, 0, none⟩) (l.length + 1) cap2) (fun o => (fun o => { o with out := out }) { o with end_ := now }) (by rw [← HRP.out]))
    clear hown7 hgrow hat hlt7 hgw hb8 hmem hrm hfm hfs hblk3
    go_wp2_with fail
    go_ret
    exact ⟨_, rfl, _, HEQ.out, HM8.out, HS8.out, .inl ⟨rfl, rfl⟩⟩

set_option maxRecDepth 100000 in
set_option maxHeartbeats 1600000 in
theorem ans_ok2 (X : Nat → Prop) (lo c : Nat) (R : ClR) (w : World) (h : ClM X lo w c R) (hm : R.rs.length ≤ 100000) (id err : Int) (out : OutC) (version : Int) (ea : Option Addr) (ek : Nat) (events : List EV) (hev : EvA (fun k => R.mut c k ∨ X k) w (.slice ea events.length ek) events) (now : Int) (hp : R.s.pending = true) (l : List OpR) (r : OpR) (hlr : R.rs = l ++ [r]) (hk : r.o.kind = 2) (hi : r.o.id = id) (he : err = 0) :
    Calls Tryd.prog 23 #[.pointer (some ⟨c, 0, none⟩), .int .i64 2, .int .i64 id, .int .i64 err, .agg #[.int .i64 out.code, .int .i64 out.pos, .int .i64 out.first, .int .i64 out.version], .int .i64 version, .slice ea events.length ek, .int .i64 now] w fun e w' => ∃ v, e = .returned v ∧ RDoes X lo c R w (Proofs.YtapgjjfndbfnpaaDoor.setLast { R.s with pending := false } (fun o => (fun o => { o with version := version, events := events }) { o with end_ := now })) [] v w' := by
  have HH := Lib.hid h
  have hA := (Below.refl w.heap.size w).alloc (Nat.le_refl _) (.cells #[.int .i64 out.code, .int .i64 out.pos, .int .i64 out.first, .int .i64 out.version] 31)
  have HA := Lib.hid hA
  have HM0 := Lib.hid (h.keep hA)
  have hc := h.clt
  have x1 : c ≠ w.heap.size := by omega
  have c3 := h.c3
  rw [hp] at c3
  have hl5 : l.length ≤ 1000000 := by
    have e5 : R.rs.length = l.length + 1 := by rw [hlr]; simp
    omega
  have CL := Lib.hid (fun (X' : World) (h' : ClM X lo X' c R) => last_all X lo c R X' h' l r hlr hl5)
  have hF0 := field_kind
  have hF1 := field_id
  have g1 : (r.o.kind != 2) = false := by rw [bne_eq_false_iff_eq]; exact hk
  have g2 : (r.o.id != id) = false := by rw [bne_eq_false_iff_eq]; exact hi
  obtain ⟨i0, hi0, hq0, hq1, hq2⟩ := info_parts Tryd.ropinfo
  have g3 : (err != 0) = false := by rw [bne_eq_false_iff_eq]; exact he
  have HLR := Lib.hid hlr
  have HR := Lib.hid (h.lastS hlr)
  have HEV := Lib.hid hev
  have HP := Lib.hid hp
  have hrm : r ∈ R.rs := by rw [hlr]; simp
  obtain ⟨ba, bk, hbv⟩ := (h.bev r hrm).1.form
  obtain ⟨va, vk, hvv⟩ := (h.evv r hrm).1.form
  have HBV := Lib.hid hbv
  have HVV := Lib.hid hvv
  have HPL := Lib.hid (show (#[.int .i64 r.o.kind, .int .i64 r.o.id, .int .i64 r.o.start, .int .i64 r.o.end_, .string r.o.b.stream, .int .i64 r.o.b.expect, .int .i64 r.o.b.session, .int .i64 r.o.b.seq, r.bev, .int .i64 r.o.out.code, .int .i64 r.o.out.pos, .int .i64 r.o.out.first, .int .i64 r.o.out.version, .string r.o.stream, .int .i64 r.o.from_, .int .i64 r.o.version, r.evv] : Array Value).all (·.oneCell') = true by rw [hbv, hvv]; simp [Value.oneCell'])
  clear h hA hev hlr hk hi hp he hbv hvv hrm
  go_enter Tryd.func23, Tryd.ntmps23
  go_wp2_with fail
  refine (CL.out _ HM0.out).mono ?_
  rintro e w1 ⟨rfl, hb1⟩
  have HB1 := Lib.hid (HA.out.trans (hb1.mono HA.out.size))
  have HM1 := Lib.hid (HM0.out.keep hb1)
  have G1 := Lib.hid ((hb1.block w.heap.size (by rw [World.size_alloc]; omega)).trans (heap_alloc_new w (.cells #[.int .i64 out.code, .int .i64 out.pos, .int .i64 out.first, .int .i64 out.version] 31)))
  clear hb1
  go_wp2_with fail
  refine (CL.out _ HM1.out).mono ?_
  rintro e w2 ⟨rfl, hb2⟩
  have HB2 := Lib.hid (HB1.out.trans (hb2.mono HB1.out.size))
  have HM2 := Lib.hid (HM1.out.keep hb2)
  have G2 := Lib.hid ((hb2.block w.heap.size (Array.getElem?_eq_some_iff.1 G1.out).1).trans G1.out)
  clear hb2 c3
  go_wp2_with fail
  refine (CL.out _ HM2.out).mono ?_
  rintro e w3 ⟨rfl, hb3⟩
  have HB3 := Lib.hid (HB2.out.trans (hb3.mono HB2.out.size))
  have HM3 := Lib.hid (HM2.out.keep hb3)
  have G3 := Lib.hid ((hb3.block w.heap.size (Array.getElem?_eq_some_iff.1 G2.out).1).trans G2.out)
  have hz3 : w.heap.size < w3.heap.size := (Array.getElem?_eq_some_iff.1 G3.out).1
  have y0 : w3.cell? ⟨w.heap.size, 0, none⟩ = some (.int .i64 out.code) := by rw [Lib.cell_of_heap G3.out]; rfl
  have y1 : w3.cell? ⟨w.heap.size, 1, none⟩ = some (.int .i64 out.pos) := by rw [Lib.cell_of_heap G3.out]; rfl
  have y2 : w3.cell? ⟨w.heap.size, 2, none⟩ = some (.int .i64 out.first) := by rw [Lib.cell_of_heap G3.out]; rfl
  have y3 : w3.cell? ⟨w.heap.size, 3, none⟩ = some (.int .i64 out.version) := by rw [Lib.cell_of_heap G3.out]; rfl
  have hz4 : w.heap.size ≠ w3.heap.size := by omega
  clear hb3
  go_upto_region 12 with (refine wpList_store_new rfl 79 _ _ rfl w3 #[.int .i64 0, .int .i64 0, .int .i64 0, .int .i64 0, .string ⟨#[]⟩, .int .i64 0, .int .i64 0, .int .i64 0, .slice none 0 0, .int .i64 0, .int .i64 0, .int .i64 0, .int .i64 0, .string ⟨#[]⟩, .int .i64 0, .int .i64 0, .slice none 0 0] #[.int .i64 r.o.kind, .int .i64 r.o.id, .int .i64 r.o.start, .int .i64 r.o.end_, .string r.o.b.stream, .int .i64 r.o.b.expect, .int .i64 r.o.b.session, .int .i64 r.o.b.seq, r.bev, .int .i64 r.o.out.code, .int .i64 r.o.out.pos, .int .i64 r.o.out.first, .int .i64 r.o.out.version, .string r.o.stream, .int .i64 r.o.from_, .int .i64 r.o.version, r.evv] rfl (by rfl) (by rfl) opsize rfl HPL.out ?_)
  clear y0 y1 y2 y3
  have hA4 := (Below.refl w3.heap.size w3).alloc (Nat.le_refl _) (.cells #[.int .i64 r.o.kind, .int .i64 r.o.id, .int .i64 r.o.start, .int .i64 now, .string r.o.b.stream, .int .i64 r.o.b.expect, .int .i64 r.o.b.session, .int .i64 r.o.b.seq, r.bev, .int .i64 r.o.out.code, .int .i64 r.o.out.pos, .int .i64 r.o.out.first, .int .i64 r.o.out.version, .string r.o.stream, .int .i64 r.o.from_, .int .i64 version, .slice ea events.length ek] 79)
  have G4 := Lib.hid (heap_alloc_new w3 (.cells #[.int .i64 r.o.kind, .int .i64 r.o.id, .int .i64 r.o.start, .int .i64 now, .string r.o.b.stream, .int .i64 r.o.b.expect, .int .i64 r.o.b.session, .int .i64 r.o.b.seq, r.bev, .int .i64 r.o.out.code, .int .i64 r.o.out.pos, .int .i64 r.o.out.first, .int .i64 r.o.out.version, .string r.o.stream, .int .i64 r.o.from_, .int .i64 version, .slice ea events.length ek] 79))
  have HB4 := Lib.hid (HB3.out.trans (hA4.mono HB3.out.size))
  have HM4 := Lib.hid (HM3.out.keep hA4)
  clear hA4
  generalize w3.alloc (.cells #[.int .i64 r.o.kind, .int .i64 r.o.id, .int .i64 r.o.start, .int .i64 now, .string r.o.b.stream, .int .i64 r.o.b.expect, .int .i64 r.o.b.session, .int .i64 r.o.b.seq, r.bev, .int .i64 r.o.out.code, .int .i64 r.o.out.pos, .int .i64 r.o.out.first, .int .i64 r.o.out.version, .string r.o.stream, .int .i64 r.o.from_, .int .i64 version, .slice ea events.length ek] 79) = w4 at *
  have hlen : R.rs.length = l.length + 1 := by rw [HLR.out]; simp
  have hq4 : w3.heap.size < w4.heap.size := (Array.getElem?_eq_some_iff.1 G4.out).1
  go_cut [18] (fun s18 wx => ∃ g7 cap7, s18 = .slice (some ⟨g7, 0, none⟩) l.length cap7 ∧ wx.ownsRow w4.heap.size 79 17 (.slice (some ⟨g7, 0, none⟩) l.length cap7) l.length (ocells l) ∧ Below w4.heap.size w4 wx)
  case first =>
    obtain ⟨g, cap, cur, hv, -, -, hg, r1, r2, r3, r4⟩ := HM4.out.row (by omega)
    rw [hlen] at hv r1 r4
    have hgs := (Array.getElem?_eq_some_iff.1 hg).1
    have c2 := HM4.out.c2
    rw [hv] at c2
    have hc4 : c < w4.heap.size := HM4.out.clt
    have MKS := Lib.hid (fun (X' : World) (hb : Below w4.heap.size w4 X') => (show X'.cell? ⟨c, 2, none⟩ = some (.slice (some ⟨g, 0, none⟩) (l.length + 1) cap) ∧ Below w4.heap.size w4 X' from ⟨(hb.cell (p := ⟨c, 2, none⟩) hc4).trans c2, hb⟩))
    have HN := Lib.hid (fun (X' : World) (hb : Below w4.heap.size w4 X') => (show ∀ j u, (ocells l)[j]? = some u → X'.cell? ((⟨g, 0, none⟩ : Addr).add j) = some u from fun j u hu => by
      have hj : j < l.length * 17 := by
        have := (List.getElem?_eq_some_iff.1 hu).1
        rwa [ocells_len] at this
      have hu2 : (ocells R.rs)[j]? = some u := by rw [HLR.out, ocells_append, List.getElem?_append_left (by rw [ocells_len]; exact hj)]; exact hu
      rw [add_spot2, Nat.zero_add, hb.cell (p := ⟨g, j, none⟩) hgs, Lib.cell_of_heap hg, ← hu2, ← r4, List.getElem?_take_of_lt (by omega), Array.getElem?_toList]))
    have HPL1 := Lib.hid (fun (u : Value) (hu : u ∈ ocells l) => (show u.oneCell' = true from ocells_plain (fun x hx => HH.out.plain x (by rw [HLR.out]; exact List.mem_append_left _ hx)) hu))
    have i1 : (0 : Int) ≤ (l.length : Int) := by omega
    have i2 : (l.length : Int) ≤ 1000000 := by omega
    have i3 : (l.length : Int) ≤ (cap : Int) := by omega
    have ew : IntKind.i64.wrap (l.length : Int) = (l.length : Int) := by rw [IntKind.wrap_i64]; omega
    clear hv hg r1 r2 r3 r4 c2 hc4
    refine region_begin (S := fun X' => X'.cell? ⟨c, 2, none⟩ = some (.slice (some ⟨g, 0, none⟩) (l.length + 1) cap) ∧ Below w4.heap.size w4 X') 14 rfl (by kernel_rfl) (MKS.out _ (Below.refl w4.heap.size w4).drew) (fun hH0 => ?_)
    refine wpAnyH_take (i := 1) (oi := ?ot1) (v := ?vt1) ?hit1 (by kernel_rfl) (by kernel_rfl) (by kernel_rfl) ?hQt1 ?hyt1 hH0 ?_
    case hit1 => simp only [List.getElem?_toArray, List.getElem?_cons_zero, List.getElem?_cons_succ]; rfl
    case hQt1 => exact fun _ _ _ h => h
    case hyt1 => refine Or.inl ⟨by rfl, ?_⟩; intro W hSw; (try dsimp only at hSw); go_simp; try with_reducible rfl
    simp only [Act.put, List.setIfInBounds_toArray, List.set_cons_zero, List.set_cons_succ]
    refine wpAnyH_take (i := 2) (oi := ?ot2) (v := ?vt2) ?hit2 (by kernel_rfl) (by kernel_rfl) (by kernel_rfl) ?hQt2 ?hyt2 hH0 ?_
    case hit2 => simp only [List.getElem?_toArray, List.getElem?_cons_zero, List.getElem?_cons_succ]; rfl
    case hQt2 => exact fun _ _ _ h => h
    case hyt2 => refine Or.inl ⟨by rfl, ?_⟩; intro W hSw; (try dsimp only at hSw); go_simp; try with_reducible rfl
    simp only [Act.put, List.setIfInBounds_toArray, List.set_cons_zero, List.set_cons_succ]
    refine wpAnyH_take (i := 3) (oi := ?ot3) (v := ?vt3) ?hit3 (by kernel_rfl) (by kernel_rfl) (by kernel_rfl) ?hQt3 ?hyt3 hH0 ?_
    case hit3 => simp only [List.getElem?_toArray, List.getElem?_cons_zero, List.getElem?_cons_succ]; rfl
    case hQt3 => exact fun _ _ _ h => h
    case hyt3 => refine Or.inl ⟨by rfl, ?_⟩; intro W hSw; (try dsimp only at hSw); go_simp; try with_reducible rfl
    simp only [Act.put, List.setIfInBounds_toArray, List.set_cons_zero, List.set_cons_succ]
    refine wpAnyH_take (i := 4) (oi := ?ot4) (v := ?vt4) ?hit4 (by kernel_rfl) (by kernel_rfl) (by kernel_rfl) ?hQt4 ?hyt4 hH0 ?_
    case hit4 => simp only [List.getElem?_toArray, List.getElem?_cons_zero, List.getElem?_cons_succ]; rfl
    case hQt4 => exact fun _ _ _ h => h
    case hyt4 => refine Or.inl ⟨by rfl, ?_⟩; intro W hSw; (try dsimp only at hSw); go_simp; try with_reducible rfl
    simp only [Act.put, List.setIfInBounds_toArray, List.set_cons_zero, List.set_cons_succ]
    refine wpAnyH_take (i := 5) (oi := ?ot5) (v := ?vt5) ?hit5 (by kernel_rfl) (by kernel_rfl) (by kernel_rfl) ?hQt5 ?hyt5 hH0 ?_
    case hit5 => simp only [List.getElem?_toArray, List.getElem?_cons_zero, List.getElem?_cons_succ]; rfl
    case hQt5 => exact fun _ _ _ h => h
    case hyt5 => refine Or.inl ⟨by rfl, ?_⟩; intro W hSw; (try dsimp only at hSw); go_simp; try with_reducible rfl
    simp only [Act.put, List.setIfInBounds_toArray, List.set_cons_zero, List.set_cons_succ]
    refine wpAnyH_take (i := 6) (oi := ?ot6) (v := ?vt6) ?hit6 (by kernel_rfl) (by kernel_rfl) (by kernel_rfl) ?hQt6 ?hyt6 hH0 ?_
    case hit6 => simp only [List.getElem?_toArray, List.getElem?_cons_zero, List.getElem?_cons_succ]; rfl
    case hQt6 => exact fun _ _ _ h => h
    case hyt6 => refine Or.inl ⟨by rfl, ?_⟩; intro W hSw; (try dsimp only at hSw); go_simp; try with_reducible rfl
    simp only [Act.put, List.setIfInBounds_toArray, List.set_cons_zero, List.set_cons_succ]
    refine wpAnyH_take (i := 7) (oi := ?ot7) (v := ?vt7) ?hit7 (by kernel_rfl) (by kernel_rfl) (by kernel_rfl) ?hQt7 ?hyt7 hH0 ?_
    case hit7 => simp only [List.getElem?_toArray, List.getElem?_cons_zero, List.getElem?_cons_succ]; rfl
    case hQt7 => exact fun _ _ _ h => h
    case hyt7 => refine Or.inl ⟨by rfl, ?_⟩; intro W hSw; (try dsimp only at hSw); go_simp; try with_reducible rfl
    simp only [Act.put, List.setIfInBounds_toArray, List.set_cons_zero, List.set_cons_succ]
    refine wpAnyH_take (i := 8) (oi := ?ot8) (v := ?vt8) ?hit8 (by kernel_rfl) (by kernel_rfl) (by kernel_rfl) ?hQt8 ?hyt8 hH0 ?_
    case hit8 => simp only [List.getElem?_toArray, List.getElem?_cons_zero, List.getElem?_cons_succ]; rfl
    case hQt8 => exact fun _ _ _ h => h
    case hyt8 => refine Or.inl ⟨by rfl, ?_⟩; intro W hSw; (try dsimp only at hSw); go_simp; try with_reducible rfl
    simp only [Act.put, List.setIfInBounds_toArray, List.set_cons_zero, List.set_cons_succ]
    refine wpAnyH_take (i := 9) (oi := ?ot9) (v := ?vt9) ?hit9 (by kernel_rfl) (by kernel_rfl) (by kernel_rfl) ?hQt9 ?hyt9 hH0 ?_
    case hit9 => simp only [List.getElem?_toArray, List.getElem?_cons_zero, List.getElem?_cons_succ]; rfl
    case hQt9 => exact fun _ _ _ h => h
    case hyt9 => refine Or.inl ⟨by rfl, ?_⟩; intro W hSw; (try dsimp only at hSw); go_simp; try with_reducible rfl
    simp only [Act.put, List.setIfInBounds_toArray, List.set_cons_zero, List.set_cons_succ]
    refine wpAnyH_take (i := 10) (oi := ?ot10) (v := ?vt10) ?hit10 (by kernel_rfl) (by kernel_rfl) (by kernel_rfl) ?hQt10 ?hyt10 hH0 ?_
    case hit10 => simp only [List.getElem?_toArray, List.getElem?_cons_zero, List.getElem?_cons_succ]; rfl
    case hQt10 => exact fun _ _ _ h => h
    case hyt10 => refine Or.inl ⟨by rfl, ?_⟩; intro W hSw; (try dsimp only at hSw); go_simp; try with_reducible rfl
    simp only [Act.put, List.setIfInBounds_toArray, List.set_cons_zero, List.set_cons_succ]
    refine wpAnyH_take (i := 11) (oi := ?ot11) (v := ?vt11) ?hit11 (by kernel_rfl) (by kernel_rfl) (by kernel_rfl) ?hQt11 ?hyt11 hH0 ?_
    case hit11 => simp only [List.getElem?_toArray, List.getElem?_cons_zero, List.getElem?_cons_succ]; rfl
    case hQt11 => exact fun _ _ _ h => h
    case hyt11 => refine Or.inl ⟨by rfl, ?_⟩; intro W hSw; (try dsimp only at hSw); go_simp; try with_reducible rfl
    simp only [Act.put, List.setIfInBounds_toArray, List.set_cons_zero, List.set_cons_succ]
    clear hH0
    have HBd := Lib.hid (Below.refl w4.heap.size w4).drew
    generalize w4.drew = wd at *
    refine wpAnyH_ready (rs := [0]) (by kernel_rfl) (by simp) ?_
    refine AllReadyH.cons (o := ?ou0) ?hou0 (fun K' hK => ?_) AllReadyH.nil
    case hou0 => simp only [List.getElem?_toArray, List.getElem?_cons_zero]; rfl
    go_simp
    have hA5 := (Below.refl wd.heap.size wd).alloc (Nat.le_refl _) (.cells #[] 79)
    have HB5 := Lib.hid (HBd.out.trans (hA5.mono HBd.out.size))
    have HOW0 := Lib.hid (show (wd.alloc (.cells #[] 79)).ownsRow w4.heap.size 79 17 (.slice (some ⟨wd.heap.size, 0, none⟩) 0 0) 0 [] from ⟨rfl, .inr ⟨wd.heap.size, 0, #[], rfl, HBd.out.size, heap_alloc_new _ _, Nat.le_refl _, Nat.zero_le _, rfl, rfl⟩⟩)
    have HBZ := Lib.hid (show w4.heap.size ≤ (wd.alloc (.cells #[] 79)).heap.size from HB5.out.size)
    clear hA5
    refine hK.out _ _ (MKS.out _ HB5.out) (fun hH1 => ?_)
    clear hK K'
    (try simp only [Act.put, List.setIfInBounds_toArray, List.set_cons_zero, List.set_cons_succ])
    clear hH1
    by_cases hn : 0 < l.length
    · refine wpAnyH_ready (rs := [12]) (by kernel_rfl) (by simp) ?_
      refine AllReadyH.cons (o := ?oua) ?houa (fun K' hK => ?_) AllReadyH.nil
      case houa => simp only [List.getElem?_toArray, List.getElem?_cons_zero, List.getElem?_cons_succ]; rfl
      refine step_append_lies _ (by rfl) _ _ _ (by rfl) w4.heap.size 79 i0 _ 17 184 Tryd.underlying67 hi0 hq0 hq1 hq2 rfl (by omega) _ _ _ (by rfl) HOW0.out ⟨g, 0, none⟩ l.length cap (ocells l) (by rfl) (ocells_len l) (HN.out _ HB5.out) HPL1.out hn (by unfold maxLen; omega) (by omega) HBZ.out _ rfl ?_
      intro g7 cap7 w6 hown6 hgrow hat hlt6
      simp only [Nat.zero_add, List.nil_append] at hown6 ⊢
      have HB6 := Lib.hid (HB5.out.grown hgrow HBZ.out (fun k e => by obtain rfl : wd.heap.size = k := Option.some.inj e; exact HBd.out.size))
      have HOW6 := Lib.hid hown6
      clear hown6 hgrow hat hlt6
      refine hK.out _ _ (MKS.out _ HB6.out) (fun hH2 => ?_)
      clear hK K'
      (try simp only [Act.put, List.setIfInBounds_toArray, List.set_cons_zero, List.set_cons_succ])
      refine wpAnyH_take (i := 13) (oi := ?ova) (v := ?vva) ?hiva (by kernel_rfl) (by kernel_rfl) (by kernel_rfl) ?hQva ?hyva hH2 ?_
      case hiva => simp only [List.getElem?_toArray, List.getElem?_cons_zero, List.getElem?_cons_succ]; rfl
      case hQva => exact fun _ _ _ h => h
      case hyva => refine Or.inl ⟨by rfl, ?_⟩; intro W hSw; (try dsimp only at hSw); go_simp; try with_reducible rfl
      simp only [Act.put, List.setIfInBounds_toArray, List.set_cons_zero, List.set_cons_succ]
      clear hH2
      refine wpAnyH_done (by kernel_rfl) ?_ _
      go_wp2
      go_meet
      case rel => exact ⟨_, _, rfl, HOW6.out, HB6.out⟩
    · refine wpAnyH_ready (rs := [12]) (by kernel_rfl) (by simp) ?_
      refine AllReadyH.cons (o := ?oub) ?houb (fun K' hK => ?_) AllReadyH.nil
      case houb => simp only [List.getElem?_toArray, List.getElem?_cons_zero, List.getElem?_cons_succ]; rfl
      have h0 : l.length = 0 := by omega
      have H0 := Lib.hid h0
      rw [h0]
      go_simp
      refine hK.out _ _ (MKS.out _ HB5.out) (fun hH2 => ?_)
      clear hK K'
      (try simp only [Act.put, List.setIfInBounds_toArray, List.set_cons_zero, List.set_cons_succ])
      refine wpAnyH_take (i := 13) (oi := ?ovb) (v := ?vvb) ?hivb (by kernel_rfl) (by kernel_rfl) (by kernel_rfl) ?hQvb ?hyvb hH2 ?_
      case hivb => simp only [List.getElem?_toArray, List.getElem?_cons_zero, List.getElem?_cons_succ]; rfl
      case hQvb => exact fun _ _ _ h => h
      case hyvb => refine Or.inl ⟨by rfl, ?_⟩; intro W hSw; (try dsimp only at hSw); go_simp; try with_reducible rfl
      simp only [Act.put, List.setIfInBounds_toArray, List.set_cons_zero, List.set_cons_succ]
      clear hH2
      refine wpAnyH_done (by kernel_rfl) ?_ _
      go_wp2
      go_meet
      case rel => exact ⟨_, 0, by rw [H0.out], by rw [List.eq_nil_of_length_eq_zero H0.out]; exact HOW0.out, HB5.out⟩
  case rest =>
    obtain ⟨g7, cap7, rfl, hown7, hb7⟩ := hcut
    have hgq := (hb7.block _ hq4).trans G4.out
    have HRG := Lib.hid (show wc.rangeAt w3.heap.size 0 [.int .i64 r.o.kind, .int .i64 r.o.id, .int .i64 r.o.start, .int .i64 now, .string r.o.b.stream, .int .i64 r.o.b.expect, .int .i64 r.o.b.session, .int .i64 r.o.b.seq, r.bev, .int .i64 r.o.out.code, .int .i64 r.o.out.pos, .int .i64 r.o.out.first, .int .i64 r.o.out.version, .string r.o.stream, .int .i64 r.o.from_, .int .i64 version, .slice ea events.length ek] from fun j v hj => by rw [Lib.cell_of_heap hgq, Nat.zero_add, ← hj, ← Array.getElem?_toList])
    have HB7 := Lib.hid (HB4.out.trans (hb7.mono HB4.out.size))
    have hl := (Below.refl wc.heap.size wc).alloc (Nat.le_refl _) (.cells #[.int .i64 r.o.kind, .int .i64 r.o.id, .int .i64 r.o.start, .int .i64 now, .string r.o.b.stream, .int .i64 r.o.b.expect, .int .i64 r.o.b.session, .int .i64 r.o.b.seq, r.bev, .int .i64 r.o.out.code, .int .i64 r.o.out.pos, .int .i64 r.o.out.first, .int .i64 r.o.out.version, .string r.o.stream, .int .i64 r.o.from_, .int .i64 version, .slice ea events.length ek] 79)
    have HIL := Lib.hid (heap_alloc_new wc (.cells #[.int .i64 r.o.kind, .int .i64 r.o.id, .int .i64 r.o.start, .int .i64 now, .string r.o.b.stream, .int .i64 r.o.b.expect, .int .i64 r.o.b.session, .int .i64 r.o.b.seq, r.bev, .int .i64 r.o.out.code, .int .i64 r.o.out.pos, .int .i64 r.o.out.first, .int .i64 r.o.out.version, .string r.o.stream, .int .i64 r.o.from_, .int .i64 version, .slice ea events.length ek] 79))
    have HOWN := Lib.hid (own_below hl hown7)
    have HBL := Lib.hid (HB7.out.trans (hl.mono HB7.out.size))
    have hbz := hb7.size
    have HWZ := Lib.hid (show w4.heap.size ≤ (wc.alloc (.cells #[.int .i64 r.o.kind, .int .i64 r.o.id, .int .i64 r.o.start, .int .i64 now, .string r.o.b.stream, .int .i64 r.o.b.expect, .int .i64 r.o.b.session, .int .i64 r.o.b.seq, r.bev, .int .i64 r.o.out.code, .int .i64 r.o.out.pos, .int .i64 r.o.out.first, .int .i64 r.o.out.version, .string r.o.stream, .int .i64 r.o.from_, .int .i64 version, .slice ea events.length ek] 79)).heap.size by rw [World.size_alloc]; omega)
    have HW4 := Lib.hid HB4.out.size
    obtain ⟨r', hr'⟩ : ∃ r' : OpR, { r with o := { { r.o with end_ := now } with version := version, events := events }, evv := .slice ea events.length ek } = r' := ⟨_, rfl⟩
    have HRC := Lib.hid (show r'.cells = [.int .i64 r.o.kind, .int .i64 r.o.id, .int .i64 r.o.start, .int .i64 now, .string r.o.b.stream, .int .i64 r.o.b.expect, .int .i64 r.o.b.session, .int .i64 r.o.b.seq, r.bev, .int .i64 r.o.out.code, .int .i64 r.o.out.pos, .int .i64 r.o.out.first, .int .i64 r.o.out.version, .string r.o.stream, .int .i64 r.o.from_, .int .i64 version, .slice ea events.length ek] by rw [← hr']; rfl)
    have HRP := Lib.hid hr'
    have HPL2 := Lib.hid (show ∀ u ∈ ([.int .i64 r.o.kind, .int .i64 r.o.id, .int .i64 r.o.start, .int .i64 now, .string r.o.b.stream, .int .i64 r.o.b.expect, .int .i64 r.o.b.session, .int .i64 r.o.b.seq, r.bev, .int .i64 r.o.out.code, .int .i64 r.o.out.pos, .int .i64 r.o.out.first, .int .i64 r.o.out.version, .string r.o.stream, .int .i64 r.o.from_, .int .i64 version, .slice ea events.length ek] : List Value), u.oneCell' = true from fun u hu => by rw [← HRC.out, ← ocells_one] at hu; exact ocells_plain (fun x hx => by obtain rfl := List.mem_singleton.1 hx; rw [← HRP.out]; exact ⟨(HH.out.bev r (by rw [HLR.out]; simp)).plain, rfl⟩) hu)
    clear hown7 hb7 hgq hl hbz hr'
    go_upto_region 14 with (first | (refine wpList_load_mid rfl 79 _ rfl w3.heap.size 0 (by rfl) [.int .i64 r.o.kind, .int .i64 r.o.id, .int .i64 r.o.start, .int .i64 now, .string r.o.b.stream, .int .i64 r.o.b.expect, .int .i64 r.o.b.session, .int .i64 r.o.b.seq, r.bev, .int .i64 r.o.out.code, .int .i64 r.o.out.pos, .int .i64 r.o.out.first, .int .i64 r.o.out.version, .string r.o.stream, .int .i64 r.o.from_, .int .i64 version, .slice ea events.length ek] _ HRG.out Tryd.underlying79 rfl (by exact opsize) ?_) | (at_builtin; refine wpList_append_lies _ rfl _ _ 67 rfl w4.heap.size 79 i0 _ 17 184 Tryd.underlying67 hi0 hq0 hq1 hq2 rfl (by omega) _ _ _ (by rfl) HOWN.out ⟨wc.heap.size, 0, none⟩ 1 1 [.int .i64 r.o.kind, .int .i64 r.o.id, .int .i64 r.o.start, .int .i64 now, .string r.o.b.stream, .int .i64 r.o.b.expect, .int .i64 r.o.b.session, .int .i64 r.o.b.seq, r.bev, .int .i64 r.o.out.code, .int .i64 r.o.out.pos, .int .i64 r.o.out.first, .int .i64 r.o.out.version, .string r.o.stream, .int .i64 r.o.from_, .int .i64 version, .slice ea events.length ek] (by rfl) (by rfl) (World.news_of_block HIL.out) HPL2.out (by omega) (by unfold maxLen; omega) (by omega) HWZ.out _ rfl ?_; intro gg cap2 w7 hown7 hgrow hat hlt7))
    rw [← HRC.out, show ocells l ++ r'.cells = ocells (l ++ [r']) by rw [ocells_append, ocells_one]] at hown7
    have hgw : w4.heap.size ≤ g7 := (own_lt HOWN.out g7 rfl).1
    have hb8 : Below w.heap.size w w7 := HBL.out.grown hgrow (by have := HWZ.out; have := HW4.out; omega) (fun k e => by obtain rfl : g7 = k := Option.some.inj e; have := HW4.out; omega)
    have hmem : ∀ x ∈ l, x ∈ R.rs := fun x hx => by rw [HLR.out]; exact List.mem_append_left _ hx
    have hrm : r ∈ R.rs := by rw [HLR.out]; simp
    obtain ⟨hfm, hfs⟩ := HH.out.fresh (rs := l ++ [r']) hb8 (own_less HW4.out (by rw [List.length_append, List.length_singleton]; exact hown7)) (fun x hx => by
      rcases List.mem_append.1 hx with hx | hx
      · exact HH.out.bev x (hmem x hx)
      · obtain rfl := List.mem_singleton.1 hx; rw [← HRP.out]; exact HH.out.bev r hrm) (fun x hx => by
      rcases List.mem_append.1 hx with hx | hx
      · exact HH.out.evv x (hmem x hx)
      · obtain rfl := List.mem_singleton.1 hx; rw [← HRP.out]; exact HEV.out)
    have hblk3 : w7.heap[c]? = some (.cells R.cells 70) := (hb8.block c hc).trans HH.out.blk
    have hc3 : w7.cell? ⟨c, 2, none⟩ = some R.ov := by rw [Lib.cell_of_heap hblk3]; rfl
    have hf3 : w7.frozen? ⟨c, 2, none⟩ = false := Lib.frozen_of_heap hblk3 2
    have cc3 := hfm.c3
    have ff3 := hfm.fr 3
    have HM8 := Lib.hid (hfm.put 3 (.bool false) { (rowsR R (l ++ [r']) (.slice (some ⟨gg, 0, none⟩) (l.length + 1) cap2)).s with pending := false } rfl rfl hfm.wh rfl)
    have HS8 := Lib.hid (hfs.trans (ClM.putStep c (rowsR R (l ++ [r']) (.slice (some ⟨gg, 0, none⟩) (l.length + 1) cap2)) _ 3 (.bool false) { (rowsR R (l ++ [r']) (.slice (some ⟨gg, 0, none⟩) (l.length + 1) cap2)).s with pending := false }))
    have HEQ := Lib.hid (rows_set HH.out HLR.out r' (.slice (some ⟨gg, 0, none⟩) (l.length + 1) cap2) (fun o => (fun o => { o with version := version, events := events }) { o with end_ := now }) (by rw [← HRP.out]))
    clear hown7 hgrow hat hlt7 hgw hb8 hmem hrm hfm hfs hblk3
    go_wp2_with fail
    go_ret
    exact ⟨_, rfl, _, HEQ.out, HM8.out, HS8.out, .inl ⟨rfl, rfl⟩⟩

end Go.Proofs.YtapgjjfndbfnpaaDoor.Rf
