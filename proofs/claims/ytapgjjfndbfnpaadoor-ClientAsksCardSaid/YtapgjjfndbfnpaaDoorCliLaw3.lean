/-
  The walk of bucketlinelaw22.ClientAsks. Printed by gen_cliasks.py of this claim's writer.
-/
import Derived.Test.YtapgjjfndbfnpaaDoorCliAsks
import Derived.Test.YtapgjjfndbfnpaaDoorCliSmall2
import Derived.Test.YtapgjjfndbfnpaaDoorCliEvOpen
import Derived.Deep.CutBlock
namespace Go.Proofs.YtapgjjfndbfnpaaDoor
open Go.RowKit Go.ChangeShapes Go.WideShapes Go.ChangeAt
set_option linter.unusedSimpArgs false
set_option linter.unusedVariables false

set_option maxRecDepth 100000 in
theorem open_view {H : Type} {enc : TypeId × Value → H} {w : World} {base : Nat} {v : Value} {d : DataW H} {p : List MemPlace}
    (hv : Value.okWide Tryd.prog w .any base 27 v) (h : DataW.Trod enc Tryd.prog w 0 (fun _ => true) true 27 v d p) : ∃ V, Vw.IsView w.heap.size w v V := by
  obtain ⟨cs, rfl, hsz⟩ := okWide_struct Tryd.underlying27 hv
  obtain ⟨fuel, hf⟩ := h
  obtain ⟨V, cv, sv, bv, hcs, hep, i1, i2, i3⟩ := open_vcells hf
  refine ⟨V, hep, cv, sv, bv, ?_, i1, i2, i3⟩
  have : cs.toList = [.int .i64 V.epoch, cv, sv, bv] := by simpa [Value.cells] using hcs
  cases cs
  simp_all
theorem view_forms {B : Nat} {w : World} {v : Value} {V : Vw.VW} (h : Vw.IsView B w v V) : Vw.I64 V.epoch ∧ ∃ ca ck sa sk oa ok, v = .agg #[.int .i64 V.epoch, .slice ca V.chain.length ck, .slice sa V.since.length sk, .slice oa V.boot.length ok] ∧ Vw.IsInts B w (.slice ca V.chain.length ck) V.chain ∧ Vw.IsInts B w (.slice sa V.since.length sk) V.since ∧ Vw.IsInts B w (.slice oa V.boot.length ok) V.boot := by
  obtain ⟨hep, cv, sv, bv, rfl, i1, i2, i3⟩ := h
  obtain ⟨ca, ck, rfl⟩ := i1.form
  obtain ⟨sa, sk, rfl⟩ := i2.form
  obtain ⟨oa, ok, rfl⟩ := i3.form
  exact ⟨hep, ca, ck, sa, sk, oa, ok, rfl, i1, i2, i3⟩
theorem two_boxes {w X : World} {o o' : Obj} (hb : Below ((w.alloc o).alloc o').heap.size ((w.alloc o).alloc o') X) : X.heap[w.heap.size]? = some o ∧ X.heap[w.heap.size + 1]? = some o' ∧ w.heap.size + 2 ≤ X.heap.size := by
  refine ⟨(hb.block _ (by simp only [World.size_alloc]; omega)).trans ?_, (hb.block _ (by simp only [World.size_alloc]; omega)).trans ?_, by have := hb.size; simp only [World.size_alloc] at this; omega⟩
  · rw [Below.heap_alloc _ _ _ (by simp only [World.size_alloc]; omega)]
    exact heap_alloc_new w o
  · have := heap_alloc_new (w.alloc o) o'
    rwa [World.size_alloc] at this
theorem OutsAt.app {B : Nat} {w : World} {v : Value} {o p : OutR} (h : OutsAt B w v [o, p]) : ∃ b, v = .slice (some ⟨b, 0, none⟩) 2 2 ∧ w.cell? ⟨b, 0, none⟩ = some (.int .i64 o.dst) ∧ w.cell? ⟨b, 2, none⟩ = some (.int .i64 p.dst) ∧ w.cell? ⟨b, 3, none⟩ = some p.m.val := by
  rcases h with ⟨_, h⟩ | ⟨b, h1, _, h3⟩
  · exact absurd h (by simp)
  · exact ⟨b, h1, by rw [Lib.cell_of_heap h3]; rfl, by rw [Lib.cell_of_heap h3]; rfl, by rw [Lib.cell_of_heap h3]; rfl⟩
/-- What is asked of a node. -/
theorem plain_app {outs : List OutR} {p q : OutW} (h : outs.map OutR.plain = [p, q]) (id : Int) (b : BW) (hq : q.m = .app id b) : ∃ o r bev, outs = [o, r] ∧ o.dst = p.dst ∧ r.dst = q.dst ∧ r.m = .app id b bev := by
  match outs, h with
  | [o, r], h =>
    have h2 := (List.cons.inj (List.cons.inj h).2).1
    have hm : r.m.plain = .app id b := by rw [← hq, ← h2]; rfl
    obtain ⟨bev, hb⟩ : ∃ bev, r.m = .app id b bev := by
      cases e : r.m with
      | whr _ => rw [e] at hm; cases hm
      | red _ _ _ => rw [e] at hm; cases hm
      | app i b' bev =>
        rw [e] at hm
        injection hm with h3 h4
        exact ⟨bev, by rw [h3, h4]⟩
    exact ⟨o, r, bev, rfl, congrArg OutW.dst (List.cons.inj h).1, congrArg OutW.dst h2, hb⟩
theorem asksAct {w wx : World} {b : BW} {V : Vw.VW} {ea ca sa oa : Option Addr} {ek ck sk ok g : Nat} (hg : wx.heap[g]? = some (.cells #[.int .i64 0, .int .i64 0, .int .i64 0, .string b.stream, .int .i64 b.expect, .int .i64 b.session, .int .i64 b.seq, .slice ea b.events.length ek, .string ⟨#[]⟩, .int .i64 0, .int .i64 V.epoch, .slice ca V.chain.length ck, .slice sa V.since.length sk, .slice oa V.boot.length ok, .int .i64 0, .int .i64 0, .int .i64 0, .int .i64 0, .slice none 0 0] 33)) (hev : IsEvents wx.heap.size wx (.slice ea b.events.length ek) b.events) (hep : Vw.I64 V.epoch)
    (i1 : Vw.IsInts wx.heap.size wx (.slice ca V.chain.length ck) V.chain) (i2 : Vw.IsInts wx.heap.size wx (.slice sa V.since.length sk) V.since) (i3 : Vw.IsInts wx.heap.size wx (.slice oa V.boot.length ok) V.boot) :
    IsActs wx.heap.size wx (.slice (some ⟨g, 0, none⟩) 1 1) [⟨⟨0, 0, 0, b, ⟨#[]⟩, 0, V, ⟨0, 0, 0, 0⟩, []⟩, .slice ea b.events.length ek, .slice ca V.chain.length ck, .slice sa V.since.length sk, .slice oa V.boot.length ok, .slice none 0 0⟩] := by
  refine ⟨_, 1, rfl, by simp, by unfold maxLen; omega, fun r hr => ?_, fun _ => ⟨g, 0, rfl, (Array.getElem?_eq_some_iff.1 hg).1, fun i hi j hj => ?_⟩⟩
  · obtain rfl := List.mem_singleton.1 hr
    exact ⟨show Vw.I64 (0 : Int) by decide, show Vw.I64 (0 : Int) by decide, show Vw.I64 (0 : Int) by decide, hep, hev, i1, i2, i3, events_nil _ _⟩
  · obtain rfl : i = 0 := by simpa using hi
    rw [Lib.cell_of_heap hg]
    simp only [Nat.zero_mul, Nat.zero_add, List.getElem_cons_zero]
    rw [← Array.getElem?_toList]
    rfl

theorem row_form3 {w : World} {base n sz : Nat} {e : TypeId} {v : Value} {xs : List Value} (h : w.ownsRow base e sz v n xs) : ∃ a cap, v = .slice a n cap := by
  rcases h.2 with ⟨e1, e2⟩ | ⟨g, cap, cur, e1, _⟩
  · exact ⟨none, 0, by rw [e1, e2]⟩
  · exact ⟨_, cap, e1⟩
theorem row_at3 {w : World} {base : Nat} {v : Value} {rs : List OpR} (h : w.ownsRow base 56 17 v rs.length (ocells rs)) (hp : 0 < rs.length) : ∃ g cap, v = .slice (some ⟨g, 0, none⟩) rs.length cap ∧ base ≤ g ∧ g < w.heap.size ∧ ∀ i, (hi : i < rs.length) → ∀ j, j < 17 → w.cell? ⟨g, i * 17 + j, none⟩ = rs[i].cells[j]? := by
  rcases h.2 with ⟨_, e⟩ | ⟨g, cap, cur, e, hb, hg, r1, r2, r3, r4⟩
  · omega
  · exact ⟨g, cap, e, hb, (Array.getElem?_eq_some_iff.1 hg).1, fun i hi j hj => row_cell hg r4 i j hi hj rfl⟩

set_option maxRecDepth 100000 in
set_option maxHeartbeats 32000000 in
theorem walkClientAsks (v0 : Value) (b : BW) (wait : Int) (v2 : Value) (V : Vw.VW) (times : Int) (w : World) (hT : Tabs w) (h0 : IsBatch w.heap.size w v0 b) (hw : Vw.I64 wait) (h2 : Vw.IsView w.heap.size w v2 V) (ht : Vw.I64 times) :
    Calls Tryd.prog 3 #[v0, .int .i64 wait, v2, .int .i64 times] w fun e w' => e = .returned (.bool true) ∧ Below w.heap.size w w' := by
  obtain ⟨lv, rfl, hev⟩ := h0
  obtain ⟨hep, ca, ck, sa, sk, oa, ok, rfl, i1, i2, i3⟩ := view_forms h2
  obtain ⟨ea, ek, rfl⟩ := hev.form
  have hbA := ((Below.refl w.heap.size w).alloc (Nat.le_refl _) (.cells #[.string b.stream, .int .i64 b.expect, .int .i64 b.session, .int .i64 b.seq, .slice ea b.events.length ek] 24)).alloc (by rw [World.size_alloc]; omega) (.cells #[.int .i64 V.epoch, .slice ca V.chain.length ck, .slice sa V.since.length sk, .slice oa V.boot.length ok] 27)
  have HT := Lib.hid (tabs_below hT hbA)
  have HEV := Lib.hid (hev.keep hbA (Nat.le_refl _))
  have I1 := Lib.hid (i1.keep hbA (Nat.le_refl _))
  have I2 := Lib.hid (i2.keep hbA (Nat.le_refl _))
  have I3 := Lib.hid (i3.keep hbA (Nat.le_refl _))
  have HEP := Lib.hid hep
  have HBX := Lib.hid (fun (X : World) (h : Below ((w.alloc (.cells #[.string b.stream, .int .i64 b.expect, .int .i64 b.session, .int .i64 b.seq, .slice ea b.events.length ek] 24)).alloc (.cells #[.int .i64 V.epoch, .slice ca V.chain.length ck, .slice sa V.since.length sk, .slice oa V.boot.length ok] 27)).heap.size ((w.alloc (.cells #[.string b.stream, .int .i64 b.expect, .int .i64 b.session, .int .i64 b.seq, .slice ea b.events.length ek] 24)).alloc (.cells #[.int .i64 V.epoch, .slice ca V.chain.length ck, .slice sa V.since.length sk, .slice oa V.boot.length ok] 27)) X) => two_boxes h)
  have HLO := Lib.hid (show w.heap.size ≤ ((w.alloc (.cells #[.string b.stream, .int .i64 b.expect, .int .i64 b.session, .int .i64 b.seq, .slice ea b.events.length ek] 24)).alloc (.cells #[.int .i64 V.epoch, .slice ca V.chain.length ck, .slice sa V.since.length sk, .slice oa V.boot.length ok] 27)).heap.size by simp only [World.size_alloc]; omega)
  have HBA := Lib.hid hbA
  have HSH := Lib.hid (shown22_any _ HT.out)
  have HWT := Lib.hid hw
  have HTM := Lib.hid ht
  clear hT hw ht h2 hev hep i1 i2 i3 hbA
  go_enter Tryd.func3, Tryd.ntmps3
  go_wp2_with fail
  refine HSH.out.mono ?_
  generalize ((w.alloc (.cells #[.string b.stream, .int .i64 b.expect, .int .i64 b.session, .int .i64 b.seq, .slice ea b.events.length ek] 24)).alloc (.cells #[.int .i64 V.epoch, .slice ca V.chain.length ck, .slice sa V.since.length sk, .slice oa V.boot.length ok] 27)) = wA at *
  rintro e w1 ⟨rfl, hb1⟩
  obtain ⟨hg1, hg2, hz1⟩ := HBX.out w1 hb1
  have HB1 := Lib.hid hb1
  have y0 : w1.cell? ⟨w.heap.size, 0, none⟩ = some (.string b.stream) := by rw [Lib.cell_of_heap hg1]; rfl
  have y1 : w1.cell? ⟨w.heap.size, 1, none⟩ = some (.int .i64 b.expect) := by rw [Lib.cell_of_heap hg1]; rfl
  have y2 : w1.cell? ⟨w.heap.size, 2, none⟩ = some (.int .i64 b.session) := by rw [Lib.cell_of_heap hg1]; rfl
  have y3 : w1.cell? ⟨w.heap.size, 3, none⟩ = some (.int .i64 b.seq) := by rw [Lib.cell_of_heap hg1]; rfl
  have y4 : w1.cell? ⟨w.heap.size, 4, none⟩ = some (.slice ea b.events.length ek) := by rw [Lib.cell_of_heap hg1]; rfl
  have z0 : w1.cell? ⟨w.heap.size + 1, 0, none⟩ = some (.int .i64 V.epoch) := by rw [Lib.cell_of_heap hg2]; rfl
  have z1 : w1.cell? ⟨w.heap.size + 1, 1, none⟩ = some (.slice ca V.chain.length ck) := by rw [Lib.cell_of_heap hg2]; rfl
  have z2 : w1.cell? ⟨w.heap.size + 1, 2, none⟩ = some (.slice sa V.since.length sk) := by rw [Lib.cell_of_heap hg2]; rfl
  have z3 : w1.cell? ⟨w.heap.size + 1, 3, none⟩ = some (.slice oa V.boot.length ok) := by rw [Lib.cell_of_heap hg2]; rfl
  have hA1 := (Below.refl w1.heap.size w1).alloc (Nat.le_refl _) (.cells #[.int .i64 0, .int .i64 0, .int .i64 0, .string b.stream, .int .i64 b.expect, .int .i64 b.session, .int .i64 b.seq, .slice ea b.events.length ek, .string ⟨#[]⟩, .int .i64 0, .int .i64 V.epoch, .slice ca V.chain.length ck, .slice sa V.since.length sk, .slice oa V.boot.length ok, .int .i64 0, .int .i64 0, .int .i64 0, .int .i64 0, .slice none 0 0] 33)
  have hA2 := HB1.out.trans (hA1.mono HB1.out.size)
  have CS := Lib.hid (small22_any _ _ _ _ (asksAct (w := w) (heap_alloc_new w1 (.cells #[.int .i64 0, .int .i64 0, .int .i64 0, .string b.stream, .int .i64 b.expect, .int .i64 b.session, .int .i64 b.seq, .slice ea b.events.length ek, .string ⟨#[]⟩, .int .i64 0, .int .i64 V.epoch, .slice ca V.chain.length ck, .slice sa V.since.length sk, .slice oa V.boot.length ok, .int .i64 0, .int .i64 0, .int .i64 0, .int .i64 0, .slice none 0 0] 33)) ((HEV.out.keep hA2 HLO.out).up (Nat.le_trans HLO.out hA2.size)) HEP.out ((I1.out.keep hA2 HLO.out).up (Nat.le_trans HLO.out hA2.size)) ((I2.out.keep hA2 HLO.out).up (Nat.le_trans HLO.out hA2.size)) ((I3.out.keep hA2 HLO.out).up (Nat.le_trans HLO.out hA2.size))) (Nat.le_refl _))
  have HA2 := Lib.hid hA2
  clear hb1 hg1 hg2 hA1 hA2
  go_wp2_with fail
  refine CS.out.mono ?_
  rintro e w2 ⟨q, rfl, hq, hb2⟩
  have HB2 := Lib.hid (HA2.out.trans (hb2.mono HA2.out.size))
  have HQ := Lib.hid hq
  clear hb2 hq y0 y1 y2 y3 y4 z0 z1 z2 z3
  cases hno : newOk 3 wait with
  | false =>
    have CN := Lib.hid (new_no 3 wait hno w2)
    clear hno
    have HFIN := Lib.hid (HBA.out.trans (HB2.out.mono HLO.out))
    cases q with
    | false =>
      go_wp2_with fail
      refine CN.out.mono ?_
      rintro e w3 ⟨rfl, rfl⟩
      go_wp2_with fail
      go_ret
      exact ⟨rfl, HFIN.out⟩
    | true =>
      go_wp2_with fail
      refine CN.out.mono ?_
      rintro e w3 ⟨rfl, rfl⟩
      go_wp2_with fail
      go_ret
      exact ⟨rfl, HFIN.out⟩
  | true =>
    have CN := Lib.hid (new_ok 3 wait hno w2)
    have hA3 := (Below.refl w2.heap.size w2).alloc (Nat.le_refl _) (.cells (newR 3 wait).cells 94)
    have HB3 := Lib.hid (HB2.out.trans (hA3.mono HB2.out.size))
    have HMN := Lib.hid (newR_is (fun _ => False) wA.heap.size w2 3 wait HB2.out.size (fun k hk => hk.elim))
    have hwt : 1 ≤ wait ∧ wait ≤ 1073741824 := by simp [newOk] at hno; omega
    obtain ⟨hw1, hw2⟩ := hwt
    have g30 : ¬ (1073741824 : Int) < wait := by omega
    clear hno hA3
    cases q with
    | false =>
      go_wp2_with fail
      refine CN.out.mono ?_
      rintro e w3 ⟨rfl, rfl⟩
      go_wp2_with fail
      go_ret
      exact ⟨rfl, HBA.out.trans (HB3.out.mono HLO.out)⟩
    | true =>
      have hsm := (HQ.out (by trivial)).2 0 (by simp)
      have HSB := Lib.hid hsm.b
      have HSV := Lib.hid hsm.v
      clear hsm
      go_wp2_with fail
      refine CN.out.mono ?_
      rintro e w3 ⟨rfl, rfl⟩
      generalize w2.alloc (.cells (newR 3 wait).cells 94) = w3 at *
      generalize hc0 : w2.heap.size = c at *
      clear hc0
      obtain ⟨hg1, hg2, hz3⟩ := HBX.out w3 HB3.out
      have y0 : w3.cell? ⟨w.heap.size, 0, none⟩ = some (.string b.stream) := by rw [Lib.cell_of_heap hg1]; rfl
      have y1 : w3.cell? ⟨w.heap.size, 1, none⟩ = some (.int .i64 b.expect) := by rw [Lib.cell_of_heap hg1]; rfl
      have y4 : w3.cell? ⟨w.heap.size, 4, none⟩ = some (.slice ea b.events.length ek) := by rw [Lib.cell_of_heap hg1]; rfl
      have hev3 := (HEV.out.keep HB3.out HLO.out).up (Nat.le_trans HLO.out HB3.out.size)
      have ht3 := tabs_below HT.out HB3.out
      clear hg1 hg2 hz1 hz3
      by_cases hfit : fitsB (asksB b) = 0
      · have CA := Lib.hid (append_any (fun _ => False) wA.heap.size c (newR 3 wait) w3 HMN.out (show (0 : Nat) ≤ 100000 by decide) ht3 b.stream b.expect _ b.events hev3 (by have := HSB.out; simp at this; omega) 0 _ _ _ (asks_append_ok (wait := wait) hfit))
        clear hfit hev3 ht3
        go_wp2_with fail
        refine CA.out.mono ?_
        rintro e w4 ⟨v, rfl, R1, o1, hs1, hm1, st1, -, -, -⟩
        have HS1 := Lib.hid hs1
        have HM1 := Lib.hid hm1
        have HB4 := Lib.hid (HB3.out.trans (st1.below HMN.out))
        clear hs1 hm1 st1 y0 y1 y4
        obtain ⟨hg1, hg2, hz4⟩ := HBX.out w4 HB4.out
        have z0 : w4.cell? ⟨w.heap.size + 1, 0, none⟩ = some (.int .i64 V.epoch) := by rw [Lib.cell_of_heap hg2]; rfl
        have z1 : w4.cell? ⟨w.heap.size + 1, 1, none⟩ = some (.slice ca V.chain.length ck) := by rw [Lib.cell_of_heap hg2]; rfl
        have z2 : w4.cell? ⟨w.heap.size + 1, 2, none⟩ = some (.slice sa V.since.length sk) := by rw [Lib.cell_of_heap hg2]; rfl
        have z3 : w4.cell? ⟨w.heap.size + 1, 3, none⟩ = some (.slice oa V.boot.length ok) := by rw [Lib.cell_of_heap hg2]; rfl
        have hiv : Vw.IsView w4.heap.size w4 (.agg #[.int .i64 V.epoch, .slice ca V.chain.length ck, .slice sa V.since.length sk, .slice oa V.boot.length ok]) V :=
          ⟨HEP.out, _, _, _, rfl, (I1.out.keep HB4.out HLO.out).up (Nat.le_trans HLO.out HB4.out.size), (I2.out.keep HB4.out HLO.out).up (Nat.le_trans HLO.out HB4.out.size), (I3.out.keep HB4.out HLO.out).up (Nat.le_trans HLO.out HB4.out.size)⟩
        clear hg1 hg2 hz4
        cases hr : Vw.rightB V with
        | false =>
          have CT := Lib.hid (take_see (fun _ => False) wA.heap.size c R1 w4 HM1.out (by rw [HM1.out.len, HS1.out]; exact (show (1 : Nat) ≤ 100000 by decide)) _ V hiv HSV.out 0 (fun _ => by rw [HS1.out]; simp [asks1, beginS]) _ [] (by rw [HS1.out]; exact asks_see_no hr))
          clear hiv hr
          go_wp2_with fail
          refine CT.out.mono ?_
          rintro e w5 ⟨vl, rfl, R2, o2, hs2, hm2, st2, ho2, hp2, -⟩
          obtain rfl := plain_nil hp2
          obtain ⟨la, rfl⟩ := ho2.nil
          have HS2 := Lib.hid (show R2.s = askedAt (asks1 wait b) 0 from hs2)
          have HM2 := Lib.hid hm2
          have HB5 := Lib.hid (HB4.out.trans (st2.below HM1.out))
          clear hs2 hm2 st2 ho2 hp2 z0 z1 z2 z3
          obtain ⟨p, hp⟩ : ∃ p, pickT times 20 = p := ⟨_, rfl⟩
          have hp20 : p < 20 := by rw [← hp]; exact pick_lt times 20 (by omega)
          have CP := Lib.hid (fun X : World => hp ▸ pick_any times HTM.out 20 (by omega) (by omega) X)
          clear hp
          go_wp2_with fail
          go_loopw [16] (fun t16 wr => ∃ (k : Nat) (R : ClR), k ≤ p ∧ t16 = .int .i64 ((k : Int) + 1) ∧ R.s = askedAt (asks1 wait b) ((k : Int) * wait) ∧ ClM (fun _ => False) wA.heap.size wr c R ∧ Below wA.heap.size wA wr) (fun t16 _ => p + 1 - (intOf t16).toNat)
          case atStart => exact ⟨0, R2, Nat.zero_le _, rfl, by rw [HS2.out]; simp, HM2.out, HB5.out⟩
          case round =>
            obtain ⟨k, R, hk, rfl, hs, hm, hbr⟩ := hrel
            have HS := Lib.hid hs
            have HM := Lib.hid hm
            have HBR := Lib.hid hbr
            clear hs hm hbr
            go_wp2_with fail
            refine (CP.out _).mono ?_
            rintro e wr' ⟨rfl, rfl⟩
            have hkw : (k : Int) * wait ≤ 20 * wait := Int.mul_le_mul_of_nonneg_right (by omega) (by omega)
            have hkw0 : 0 ≤ (k : Int) * wait := Int.mul_nonneg (by omega) (by omega)
            obtain ⟨mk, hmk⟩ : ∃ mk, (k : Int) * wait = mk := ⟨_, rfl⟩
            rw [hmk] at hkw hkw0
            have HMK := Lib.hid hmk
            by_cases hlt : k < p
            · have g1 : (k : Int) + 1 ≤ (p : Int) := by omega
              have hsum : ((k : Int) + 1) * wait = mk + wait := by rw [Int.add_mul, Int.one_mul, hmk]
              have e1 : IntKind.i64.wrap (((k : Int) + 1) * wait) = mk + wait := by rw [hsum, IntKind.wrap_i64]; omega
              have e2 : IntKind.i64.wrap (mk + wait - 1) = mk + wait - 1 := by rw [IntKind.wrap_i64]; omega
              have ha : R.s.asked = mk := by rw [HS.out]; exact hmk
              have hwa : R.s.wait = wait := by rw [HS.out]; rfl
              have hpe : R.s.pending = true → R.s.ops ≠ [] := fun _ => by rw [HS.out]; simp [askedAt, asks1, asks2, beginS]
              have hln : R.rs.length ≤ 100000 := by rw [HM.out.len, HS.out]; exact (show (1 : Nat) ≤ 100000 by decide)
              have CT1 := Lib.hid (tick_any (fun _ => False) wA.heap.size c R wr HM.out hln (mk + wait - 1) hpe (by rw [ha]; unfold Vw.I64; omega) R.s [] (tick_early (by rw [ha, hwa]; omega)))
              clear hmk hsum ha hwa hpe hln
              go_wp2_with fail
              refine CT1.out.mono ?_
              rintro e wx ⟨vx, rfl, Rx, ox, hsx, hmx, stx, hox, hpx, -⟩
              obtain rfl := plain_nil hpx
              obtain ⟨xa, rfl⟩ := hox.nil
              have HSX := Lib.hid (hsx.trans HS.out)
              have HMX := Lib.hid hmx
              have HBX' := Lib.hid (HBR.out.trans (stx.below HM.out))
              have hax : Rx.s.asked = mk := by rw [HSX.out]; exact HMK.out
              have hwx : Rx.s.wait = wait := by rw [HSX.out]; rfl
              have hpex : Rx.s.pending = true → Rx.s.ops ≠ [] := fun _ => by rw [HSX.out]; simp [askedAt, asks1, asks2, beginS]
              have hlnx : Rx.rs.length ≤ 100000 := by rw [HMX.out.len, HSX.out]; exact (show (1 : Nat) ≤ 100000 by decide)
              have CT2 := Lib.hid (tick_any (fun _ => False) wA.heap.size c Rx wx hmx hlnx (mk + wait) hpex (by rw [hax]; unfold Vw.I64; omega) (askedAt (asks1 wait b) (mk + wait)) [⟨0, .whr 1⟩] (by rw [HSX.out]; exact asks_tick_no (by rw [HMK.out]; omega)))
              clear hsx hmx stx hox hpx hax hwx hpex hlnx
              go_wp2_with fail
              refine CT2.out.mono ?_
              rintro e wy ⟨vy, rfl, Ry, oy, hsy, hmy, sty, hoy, hpy, hky⟩
              obtain ⟨oa1, rfl, hd⟩ := plain_one hpy
              obtain ⟨g2, rfl, x0⟩ := hoy.one
              rw [hd] at x0
              simp only at x0
              have HMY := Lib.hid hmy
              have HSY := Lib.hid hsy
              have HBY := Lib.hid (HBX'.out.trans (sty.below HMX.out))
              clear hsy hmy sty hoy hpy hky hd
              go_wp2_with fail
              go_roundw
              case rel => exact ⟨k + 1, Ry, by omega, by go_num, by rw [HSY.out]; congr 1; rw [← HMK.out]; push_cast; rw [Int.add_mul, Int.one_mul], HMY.out, HBY.out⟩
              case measure => simp [intOf]; omega
            · have g1 : ¬ (k : Int) + 1 ≤ (p : Int) := by omega
              have CC := Lib.hid (cancel_any (fun _ => False) wA.heap.size c R wr HM.out)
              have ha : R.s.asked = mk := by rw [HS.out]; exact hmk
              clear hmk
              go_wp2_with fail
              refine CC.out.mono ?_
              rintro e wx ⟨rfl, hmx, stx⟩
              have HMX := Lib.hid hmx
              have HBX' := Lib.hid (HBR.out.trans (stx.below HM.out))
              have hcp := pending_any (fun _ => False) wA.heap.size c _ wx hmx
              have CPN := Lib.hid hcp
              have CTK := Lib.hid (tick_any (fun _ => False) wA.heap.size c _ wx hmx (by show R.rs.length ≤ _; rw [HM.out.len, HS.out]; exact (show (1 : Nat) ≤ 100000 by decide)) 1099511627776 (fun e => by cases e) (by show Vw.I64 (1099511627776 - R.s.asked); rw [ha]; unfold Vw.I64; omega) _ [] (asks_cancel _ _ rfl))
              clear hmx stx hcp ha
              go_wp2_with fail
              refine CPN.out.mono ?_
              rintro e wx' ⟨rfl, rfl⟩
              go_wp2_with fail
              refine CTK.out.mono ?_
              rintro e wy ⟨vy, rfl, Ry, oy, hsy, hmy, sty, hoy, hpy, -⟩
              obtain rfl := plain_nil hpy
              obtain ⟨xa, rfl⟩ := hoy.nil
              have hops : Ry.s.ops = (asks1 wait b).ops := by rw [hsy]; show R.s.ops = _; rw [HS.out]; rfl
              have hl1 : Ry.rs.length = 1 := by rw [hmy.len, hops]; rfl
              have hend : ∀ o ∈ Ry.rs, o.o.end_ = -1 := fun o ho => by
                have : o.o ∈ Ry.s.ops := by rw [← hmy.ops]; exact List.mem_map_of_mem ho
                rw [hops] at this
                have h2 := List.mem_singleton.1 (show o.o ∈ [({ zeroOp with kind := 1, b := asksB b, id := 1, start := 0, end_ := -1 } : OpW)] from this)
                rw [h2]
              have h01 : 0 < Ry.rs.length := by omega
              have CO := Lib.hid (ops_any (fun _ => False) wA.heap.size c Ry wy hmy (by omega))
              have HB7 := Lib.hid (HBX'.out.trans (sty.below HMX.out))
              have HL1 := Lib.hid hl1
              have HEND := Lib.hid hend
              clear hsy hmy sty hoy hpy hops hl1 hend
              go_wp2_with fail
              refine CO.out.mono ?_
              rintro e wz ⟨vo, rfl, how, hb8⟩
              obtain ⟨g, cap, rfl, -, -, hcell⟩ := row_at3 how h01
              have y3 : wz.cell? ⟨g, 3, none⟩ = some (.int .i64 (-1)) := by
                have h1 := hcell 0 h01 3 (by omega)
                rw [Nat.zero_mul, Nat.zero_add] at h1
                rw [h1, ← HEND.out _ (List.getElem_mem h01)]
                rfl
              have HB8 := Lib.hid (HB7.out.trans (hb8.mono HB7.out.size))
              rw [HL1.out]
              clear how hb8 hcell h01
              go_wp2_with fail
              go_ret
              exact ⟨rfl, HBA.out.trans (HB8.out.mono HLO.out)⟩
        | true =>
          have CT := Lib.hid (take_see (fun _ => False) wA.heap.size c R1 w4 HM1.out (by rw [HM1.out.len, HS1.out]; exact (show (1 : Nat) ≤ 100000 by decide)) _ V hiv HSV.out 0 (fun _ => by rw [HS1.out]; simp [asks1, beginS]) (asks2 wait b V) [⟨V.chain.getD 0 0, .app 1 (asksB b)⟩] (by rw [HS1.out]; exact asks_see_ok hr))
          have HR := Lib.hid hr
          clear hiv hr
          go_wp2_with fail
          refine CT.out.mono ?_
          rintro e w5 ⟨vl, rfl, R2, o2, hs2, hm2, st2, ho2, hp2, -⟩
          obtain ⟨ob, rfl, -⟩ := plain_one hp2
          obtain ⟨b2, rfl, -⟩ := ho2.one
          have HS2 := Lib.hid (show R2.s = askedAt (asks2 wait b V) 0 from hs2)
          have HM2 := Lib.hid hm2
          have HB5 := Lib.hid (HB4.out.trans (st2.below HM1.out))
          clear hs2 hm2 st2 ho2 hp2 z0 z1 z2 z3
          obtain ⟨p, hp⟩ : ∃ p, pickT times 20 = p := ⟨_, rfl⟩
          have hp20 : p < 20 := by rw [← hp]; exact pick_lt times 20 (by omega)
          have CP := Lib.hid (fun X : World => hp ▸ pick_any times HTM.out 20 (by omega) (by omega) X)
          clear hp
          go_wp2_with fail
          go_loopw [16] (fun t16 wr => ∃ (k : Nat) (R : ClR), k ≤ p ∧ t16 = .int .i64 ((k : Int) + 1) ∧ R.s = askedAt (asks2 wait b V) ((k : Int) * wait) ∧ ClM (fun _ => False) wA.heap.size wr c R ∧ Below wA.heap.size wA wr) (fun t16 _ => p + 1 - (intOf t16).toNat)
          case atStart => exact ⟨0, R2, Nat.zero_le _, rfl, by rw [HS2.out]; simp, HM2.out, HB5.out⟩
          case round =>
            obtain ⟨k, R, hk, rfl, hs, hm, hbr⟩ := hrel
            have HS := Lib.hid hs
            have HM := Lib.hid hm
            have HBR := Lib.hid hbr
            clear hs hm hbr
            go_wp2_with fail
            refine (CP.out _).mono ?_
            rintro e wr' ⟨rfl, rfl⟩
            have hkw : (k : Int) * wait ≤ 20 * wait := Int.mul_le_mul_of_nonneg_right (by omega) (by omega)
            have hkw0 : 0 ≤ (k : Int) * wait := Int.mul_nonneg (by omega) (by omega)
            obtain ⟨mk, hmk⟩ : ∃ mk, (k : Int) * wait = mk := ⟨_, rfl⟩
            rw [hmk] at hkw hkw0
            have HMK := Lib.hid hmk
            by_cases hlt : k < p
            · have g1 : (k : Int) + 1 ≤ (p : Int) := by omega
              have hsum : ((k : Int) + 1) * wait = mk + wait := by rw [Int.add_mul, Int.one_mul, hmk]
              have e1 : IntKind.i64.wrap (((k : Int) + 1) * wait) = mk + wait := by rw [hsum, IntKind.wrap_i64]; omega
              have e2 : IntKind.i64.wrap (mk + wait - 1) = mk + wait - 1 := by rw [IntKind.wrap_i64]; omega
              have ha : R.s.asked = mk := by rw [HS.out]; exact hmk
              have hwa : R.s.wait = wait := by rw [HS.out]; rfl
              have hpe : R.s.pending = true → R.s.ops ≠ [] := fun _ => by rw [HS.out]; simp [askedAt, asks1, asks2, beginS]
              have hln : R.rs.length ≤ 100000 := by rw [HM.out.len, HS.out]; exact (show (1 : Nat) ≤ 100000 by decide)
              have CT1 := Lib.hid (tick_any (fun _ => False) wA.heap.size c R wr HM.out hln (mk + wait - 1) hpe (by rw [ha]; unfold Vw.I64; omega) R.s [] (tick_early (by rw [ha, hwa]; omega)))
              clear hmk hsum ha hwa hpe hln
              go_wp2_with fail
              refine CT1.out.mono ?_
              rintro e wx ⟨vx, rfl, Rx, ox, hsx, hmx, stx, hox, hpx, -⟩
              obtain rfl := plain_nil hpx
              obtain ⟨xa, rfl⟩ := hox.nil
              have HSX := Lib.hid (hsx.trans HS.out)
              have HMX := Lib.hid hmx
              have HBX' := Lib.hid (HBR.out.trans (stx.below HM.out))
              have hax : Rx.s.asked = mk := by rw [HSX.out]; exact HMK.out
              have hwx : Rx.s.wait = wait := by rw [HSX.out]; rfl
              have hpex : Rx.s.pending = true → Rx.s.ops ≠ [] := fun _ => by rw [HSX.out]; simp [askedAt, asks1, asks2, beginS]
              have hlnx : Rx.rs.length ≤ 100000 := by rw [HMX.out.len, HSX.out]; exact (show (1 : Nat) ≤ 100000 by decide)
              have CT2 := Lib.hid (tick_any (fun _ => False) wA.heap.size c Rx wx hmx hlnx (mk + wait) hpex (by rw [hax]; unfold Vw.I64; omega) (askedAt (asks2 wait b V) (mk + wait)) [⟨0, .whr 1⟩, ⟨V.chain.getD 0 0, .app 1 (asksB b)⟩] (by rw [HSX.out]; exact asks_tick_ok HR.out (by rw [HMK.out]; omega)))
              clear hsx hmx stx hox hpx hax hwx hpex hlnx
              go_wp2_with fail
              refine CT2.out.mono ?_
              rintro e wy ⟨vy, rfl, Ry, oy, hsy, hmy, sty, hoy, hpy, hky⟩
              obtain ⟨oc, og, bev, rfl, hd1, hd2, hmg⟩ := plain_app hpy 1 (asksB b) rfl
              obtain ⟨g2, rfl, x0, x2, x3⟩ := hoy.app
              rw [hd1] at x0
              rw [hd2] at x2
              rw [hmg] at x3
              have hevy : EvA (fun k => Ry.mut c k ∨ False) wy bev b.events := by
                have := hky og (by simp)
                unfold OutR.ok at this
                rw [hmg] at this
                exact this
              obtain ⟨va, vk, rfl⟩ := hevy.1.form
              simp only [MsgR.val, asksB] at x3
              simp only at x0 x2
              have HEY := Lib.hid hevy.1
              have HMY := Lib.hid hmy
              have HSY := Lib.hid hsy
              have HBY := Lib.hid (HBX'.out.trans (sty.below HMX.out))
              obtain ⟨hg1, hg2, hzy⟩ := HBX.out wy HBY.out
              obtain ⟨hd0, hhd⟩ : ∃ hd0, V.chain.getD 0 0 = hd0 := ⟨_, rfl⟩
              rw [hhd] at x2
              have hc0 : 0 < V.chain.length := by have := ((Vw.rightB_iff V).1 HR.out).n1; omega
              obtain ⟨cb, co, cc, hcv, -, -, hcl⟩ := ((I1.out.keep HBY.out HLO.out).get 0 hc0)
              obtain ⟨rfl, -, rfl⟩ : ca = some ⟨cb, co, none⟩ ∧ V.chain.length = V.chain.length ∧ ck = cc := by injection hcv with e1 e2 e3; exact ⟨e1, e2, e3⟩
              have x5 : wy.cell? ⟨cb, co, none⟩ = some (.int .i64 hd0) := by
                rw [Nat.add_zero] at hcl
                rw [hcl, ← hhd, List.getD_eq_getElem?_getD, List.getElem?_eq_getElem hc0]
                rfl
              have y4 : wy.cell? ⟨w.heap.size, 4, none⟩ = some (.slice ea b.events.length ek) := by rw [Lib.cell_of_heap hg1]; rfl
              have z1 : wy.cell? ⟨w.heap.size + 1, 1, none⟩ = some (.slice (some ⟨cb, co, none⟩) V.chain.length ck) := by rw [Lib.cell_of_heap hg2]; rfl
              have c0i : (0 : Int) < (V.chain.length : Int) := by omega
              have hA9 := (Below.refl wy.heap.size wy).alloc (Nat.le_refl _) (.cells #[.int .i64 1, .string b.stream, .int .i64 b.expect, .int .i64 3, .int .i64 1, .slice va b.events.length vk] 52)
              have HA9 := Lib.hid hA9
              have CSE := Lib.hid (fun n : Nat => sameE_any wy.heap.size _ _ b.events ((wy.alloc (.cells #[.int .i64 1, .string b.stream, .int .i64 b.expect, .int .i64 3, .int .i64 1, .slice va b.events.length vk] 52)).drewN n) (HEY.out.keep (below_drewN HA9.out n) (Nat.le_refl _)) (((HEV.out.keep HBY.out HLO.out).up (Nat.le_trans HLO.out HBY.out.size)).keep (below_drewN HA9.out n) (Nat.le_refl _)))
              have hta : ∀ (W : World) (v : Value), (Instr.typeAssert (.iface 52 v) 48 52 true).run Tryd.prog W = .ok (.tuple #[v, .bool true]) W := fun W v => by kernel_rfl
              have hlt2 : g2 < wy.heap.size := World.block_lt_of_cell? wy _ x0
              have hlt3 : cb < wy.heap.size := World.block_lt_of_cell? wy _ x5
              have hlt4 : w.heap.size < wy.heap.size := World.block_lt_of_cell? wy _ y4
              have hlt5 : w.heap.size + 1 < wy.heap.size := World.block_lt_of_cell? wy _ z1
              have HX0 := Lib.hid ((HA9.out.cell (p := ⟨g2, 0, none⟩) hlt2).trans x0)
              have HX2 := Lib.hid ((HA9.out.cell (p := ⟨g2, 2, none⟩) hlt2).trans x2)
              have HX5 := Lib.hid ((HA9.out.cell (p := ⟨cb, co, none⟩) hlt3).trans x5)
              have HY4 := Lib.hid ((HA9.out.cell (p := ⟨w.heap.size, 4, none⟩) hlt4).trans y4)
              have HZ1 := Lib.hid ((HA9.out.cell (p := ⟨w.heap.size + 1, 1, none⟩) hlt5).trans z1)
              have HG9 := Lib.hid (heap_alloc_new wy (.cells #[.int .i64 1, .string b.stream, .int .i64 b.expect, .int .i64 3, .int .i64 1, .slice va b.events.length vk] 52))
              clear hsy hmy sty hoy hpy hky hd1 hd2 hmg hevy hg1 hg2 hhd hc0 hcv hcl hA9 x0 x2 x5 y4 z1 hlt2 hlt3 hlt4 hlt5
              go_upto_region 20 with fail
              generalize wy.alloc (.cells #[.int .i64 1, .string b.stream, .int .i64 b.expect, .int .i64 3, .int .i64 1, .slice va b.events.length vk] 52) = wz at *
              clear x3
              generalize hqm : wy.heap.size = qm at *
              have x0 := HX0.out
              have x2 := HX2.out
              have x5 := HX5.out
              have y4 := HY4.out
              have z1 := HZ1.out
              have m0 : wz.cell? ⟨qm, 0, none⟩ = some (.int .i64 1) := by rw [Lib.cell_of_heap HG9.out]; rfl
              have m3 : wz.cell? ⟨qm, 3, none⟩ = some (.int .i64 3) := by rw [Lib.cell_of_heap HG9.out]; rfl
              have m4 : wz.cell? ⟨qm, 4, none⟩ = some (.int .i64 1) := by rw [Lib.cell_of_heap HG9.out]; rfl
              have m5 : wz.cell? ⟨qm, 5, none⟩ = some (.slice va b.events.length vk) := by rw [Lib.cell_of_heap HG9.out]; rfl
              have HQM := Lib.hid hqm
              clear hqm
              go_quiet (refine Calls.quiet_of (CSE.out _))
              go_wp2_with fail
              go_roundw
              case rel => exact ⟨k + 1, Ry, by omega, by go_num, by rw [HSY.out]; congr 1; rw [← HMK.out]; push_cast; rw [Int.add_mul, Int.one_mul], (HMY.out.keep (by rw [HQM.out]; exact HA9.out)).keep (below_drewN' _ _), below_drewN (HBY.out.trans (HA9.out.mono (by rw [← HQM.out]; exact HBY.out.size))) _⟩
              case measure => simp [intOf]; omega
            · have g1 : ¬ (k : Int) + 1 ≤ (p : Int) := by omega
              have CC := Lib.hid (cancel_any (fun _ => False) wA.heap.size c R wr HM.out)
              have ha : R.s.asked = mk := by rw [HS.out]; exact hmk
              clear hmk
              go_wp2_with fail
              refine CC.out.mono ?_
              rintro e wx ⟨rfl, hmx, stx⟩
              have HMX := Lib.hid hmx
              have HBX' := Lib.hid (HBR.out.trans (stx.below HM.out))
              have hcp := pending_any (fun _ => False) wA.heap.size c _ wx hmx
              have CPN := Lib.hid hcp
              have CTK := Lib.hid (tick_any (fun _ => False) wA.heap.size c _ wx hmx (by show R.rs.length ≤ _; rw [HM.out.len, HS.out]; exact (show (1 : Nat) ≤ 100000 by decide)) 1099511627776 (fun e => by cases e) (by show Vw.I64 (1099511627776 - R.s.asked); rw [ha]; unfold Vw.I64; omega) _ [] (asks_cancel _ _ rfl))
              clear hmx stx hcp ha
              go_wp2_with fail
              refine CPN.out.mono ?_
              rintro e wx' ⟨rfl, rfl⟩
              go_wp2_with fail
              refine CTK.out.mono ?_
              rintro e wy ⟨vy, rfl, Ry, oy, hsy, hmy, sty, hoy, hpy, -⟩
              obtain rfl := plain_nil hpy
              obtain ⟨xa, rfl⟩ := hoy.nil
              have hops : Ry.s.ops = (asks2 wait b V).ops := by rw [hsy]; show R.s.ops = _; rw [HS.out]; rfl
              have hl1 : Ry.rs.length = 1 := by rw [hmy.len, hops]; rfl
              have hend : ∀ o ∈ Ry.rs, o.o.end_ = -1 := fun o ho => by
                have : o.o ∈ Ry.s.ops := by rw [← hmy.ops]; exact List.mem_map_of_mem ho
                rw [hops] at this
                have h2 := List.mem_singleton.1 (show o.o ∈ [({ zeroOp with kind := 1, b := asksB b, id := 1, start := 0, end_ := -1 } : OpW)] from this)
                rw [h2]
              have h01 : 0 < Ry.rs.length := by omega
              have CO := Lib.hid (ops_any (fun _ => False) wA.heap.size c Ry wy hmy (by omega))
              have HB7 := Lib.hid (HBX'.out.trans (sty.below HMX.out))
              have HL1 := Lib.hid hl1
              have HEND := Lib.hid hend
              clear hsy hmy sty hoy hpy hops hl1 hend
              go_wp2_with fail
              refine CO.out.mono ?_
              rintro e wz ⟨vo, rfl, how, hb8⟩
              obtain ⟨g, cap, rfl, -, -, hcell⟩ := row_at3 how h01
              have y3 : wz.cell? ⟨g, 3, none⟩ = some (.int .i64 (-1)) := by
                have h1 := hcell 0 h01 3 (by omega)
                rw [Nat.zero_mul, Nat.zero_add] at h1
                rw [h1, ← HEND.out _ (List.getElem_mem h01)]
                rfl
              have HB8 := Lib.hid (HB7.out.trans (hb8.mono HB7.out.size))
              rw [HL1.out]
              clear how hb8 hcell h01
              go_wp2_with fail
              go_ret
              exact ⟨rfl, HBA.out.trans (HB8.out.mono HLO.out)⟩
      · have CA := Lib.hid (append_any (fun _ => False) wA.heap.size c (newR 3 wait) w3 HMN.out (show (0 : Nat) ≤ 100000 by decide) ht3 b.stream b.expect _ b.events hev3 (by have := HSB.out; simp at this; omega) 0 _ _ _ (asks_append_no (wait := wait) hfit))
        obtain ⟨n, hn⟩ : ∃ n, fitsB (asksB b) = n := ⟨_, rfl⟩
        rw [hn] at CA hfit
        have gn : ((n : Int) != 0) = true := by rw [bne_iff_ne]; omega
        clear hfit hev3 ht3 hn
        go_wp2_with fail
        refine CA.out.mono ?_
        rintro e w4 ⟨v, rfl, R1, o1, hs1, hm1, st1, -, -, -⟩
        have hp1 : R1.s.pending = false := by rw [hs1]; rfl
        have hl1 : R1.rs.length = 0 := by rw [hm1.len, hs1]; rfl
        have hcp := pending_any (fun _ => False) wA.heap.size c R1 w4 hm1
        rw [hp1] at hcp
        have hco := ops_any (fun _ => False) wA.heap.size c R1 w4 hm1 (by omega)
        rw [hl1] at hco
        have CP := Lib.hid hcp
        have CO := Lib.hid hco
        have HB4 := Lib.hid (HB3.out.trans (st1.below HMN.out))
        clear hs1 hm1 st1 y0 y1 y4 hp1 hl1 hcp hco
        go_wp2_with fail
        refine CP.out.mono ?_
        rintro e w5 ⟨rfl, rfl⟩
        go_wp2_with fail
        refine CO.out.mono ?_
        rintro e w6 ⟨vo, rfl, how, hb6⟩
        obtain ⟨xa, xk, rfl⟩ := row_form3 how
        have HB6 := Lib.hid (HB4.out.trans (hb6.mono HB4.out.size))
        clear how hb6
        go_wp2_with fail
        go_ret
        exact ⟨rfl, HBA.out.trans (HB6.out.mono HLO.out)⟩
end Go.Proofs.YtapgjjfndbfnpaaDoor
