/-
  The walk of bucketlinelaw22.shown.
-/
import Derived.Test.YtapgjjfndbfnpaaDoorCliTake
import Derived.Test.YtapgjjfndbfnpaaDoorCliTick
import Derived.Test.YtapgjjfndbfnpaaDoorCliSmall
namespace Go.Proofs.YtapgjjfndbfnpaaDoor
open Go.RowKit
set_option linter.unusedSimpArgs false
set_option linter.unusedVariables false

instance (n : Int) : Decidable (Vw.I64 n) := inferInstanceAs (Decidable (_ ∧ _))
theorem ClM.out_ne {X : Nat → Prop} {lo c b : Nat} {w : World} {R : ClR} {cs : Array Value} (h : ClM X lo w c R) (hb : w.heap[b]? = some (.cells cs 50)) : ¬ R.mut c b := by
  rintro (e | e)
  · subst e
    have := h.blk
    rw [hb] at this
    injection this with this
    injection this with _ this
    exact absurd this (by decide)
  · rcases h.own.2 with ⟨e2, _⟩ | ⟨g, cap, cur, e2, _, hg, _⟩
    · rw [e2] at e; exact absurd e (by simp [Value.ownBlock])
    · rw [e2] at e
      have e3 : g = b := Option.some.inj e
      subst e3
      rw [hb] at hg
      injection hg with this
      injection this with _ this
      exact absurd this (by decide)
theorem OutsAt.keep {X : Nat → Prop} {lo c B : Nat} {w w' : World} {R R' : ClR} {v : Value} {outs : List OutR} (h : OutsAt B w v outs) (hm : ClM X lo w c R) (st : Step c R R' w w') : OutsAt B w' v outs := by
  rcases h with h | ⟨b, h1, h2, h3⟩
  · exact .inl h
  · exact .inr ⟨b, h1, h2, (st.kept.block b (Array.getElem?_eq_some_iff.1 h3).1 (hm.out_ne h3)).trans h3⟩
theorem OutsAt.below {B : Nat} {w w' : World} {v : Value} {outs : List OutR} (h : OutsAt B w v outs) (hb : Below w.heap.size w w') : OutsAt B w' v outs := by
  rcases h with h | ⟨b, h1, h2, h3⟩
  · exact .inl h
  · exact .inr ⟨b, h1, h2, (hb.block b (Array.getElem?_eq_some_iff.1 h3).1).trans h3⟩
theorem OutsAt.one {B : Nat} {w : World} {v : Value} {o : OutR} (h : OutsAt B w v [o]) : ∃ b, v = .slice (some ⟨b, 0, none⟩) 1 1 ∧ w.cell? ⟨b, 0, none⟩ = some (.int .i64 o.dst) := by
  rcases h with ⟨_, h⟩ | ⟨b, h1, _, h3⟩
  · exact absurd h (by simp)
  · exact ⟨b, h1, by rw [Lib.cell_of_heap h3]; rfl⟩
theorem OutsAt.two {B : Nat} {w : World} {v : Value} {o p : OutR} (h : OutsAt B w v [o, p]) : ∃ b, v = .slice (some ⟨b, 0, none⟩) 2 2 ∧ w.cell? ⟨b, 0, none⟩ = some (.int .i64 o.dst) ∧ w.cell? ⟨b, 2, none⟩ = some (.int .i64 p.dst) := by
  rcases h with ⟨_, h⟩ | ⟨b, h1, _, h3⟩
  · exact absurd h (by simp)
  · exact ⟨b, h1, by rw [Lib.cell_of_heap h3]; rfl, by rw [Lib.cell_of_heap h3]; rfl⟩
theorem OutsAt.nil {B : Nat} {w : World} {v : Value} (h : OutsAt B w v []) : ∃ a, v = .slice a 0 0 := by
  rcases h with ⟨h, _⟩ | ⟨b, h1, _⟩
  · exact ⟨none, h⟩
  · exact ⟨_, h1⟩
theorem plain_one {outs : List OutR} {p : OutW} (h : outs.map OutR.plain = [p]) : ∃ o, outs = [o] ∧ o.dst = p.dst := by
  match outs, h with
  | [o], h => exact ⟨o, rfl, by have := congrArg OutW.dst (List.cons.inj h).1; exact this⟩
theorem plain_two {outs : List OutR} {p q : OutW} (h : outs.map OutR.plain = [p, q]) : ∃ o r, outs = [o, r] ∧ o.dst = p.dst ∧ r.dst = q.dst := by
  match outs, h with
  | [o, r], h => exact ⟨o, r, rfl, by have := congrArg OutW.dst (List.cons.inj h).1; exact this, by have := congrArg OutW.dst (List.cons.inj (List.cons.inj h).2).1; exact this⟩
theorem plain_nil {outs : List OutR} (h : outs.map OutR.plain = []) : outs = [] := List.map_eq_nil_iff.1 h
theorem ints_lit {w : World} {b : Nat} {n : Int} {t : TypeId} (hb : w.heap[b]? = some (.cells #[.int .i64 n] t)) (hn : Vw.I64 n) : Vw.IsInts w.heap.size w (.slice (some ⟨b, 0, none⟩) 1 1) [n] :=
  ⟨_, 1, rfl, by simp, by unfold maxLen; omega, fun e => (by cases e), by simpa using hn, fun _ => ⟨b, 0, rfl, (Array.getElem?_eq_some_iff.1 hb).1, fun i hi => by
    obtain rfl : i = 0 := by simpa using hi
    rw [Lib.cell_of_heap hb]
    rfl⟩⟩

theorem nameB_s : nameB ⟨#[115]⟩ = true := by decide +kernel
theorem nameB_k : nameB ⟨#[107]⟩ = true := by decide +kernel
def shE : List EV := [⟨⟨#[107]⟩, ⟨#[]⟩⟩]
def shB : BW := ⟨⟨#[115]⟩, -1, 5, 1, shE⟩
theorem shFits : fitsB shB = 0 := by
  unfold fitsB
  rw [if_neg, if_neg, if_neg]
  · simp [shB, shE, rightE, nameB_k]
    decide
  · simp [shB, shE]
  · simp [wrongB, shB, shE, nameB_s, numB]
def shV : Vw.VW := ⟨1, [7], [1], [0]⟩
theorem shRight : Vw.rightB shV = true := by
  apply Vw.rightB_of
  refine ⟨by decide, by decide, by decide, by decide, rfl, rfl, fun i hi => ?_⟩
  obtain rfl : i = 0 := by simp [shV] at hi; exact hi
  unfold Vw.OkAt
  decide
theorem zeroV_not : Vw.rightB Vw.zeroV = false := Vw.rightB_no fun h => by have := h.e1; simp [Vw.zeroV] at this
def sh0 : ClW := (newR 5 10).s
def sh1 : ClW := beginS sh0 { zeroOp with kind := 1, b := shB } 3
def sh2 : ClW := { sh1 with v := shV, asked := 4 }
theorem shAppend : appendS sh0 ⟨#[115]⟩ (-1) shE 3 = (sh1, [⟨0, .whr 1⟩], 0) := by
  have e : batchS sh0 ⟨#[115]⟩ (-1) shE = shB := rfl
  rw [appendS, if_neg (by decide), e, if_neg (by rw [shFits]; decide)]
  have e2 : askW (beginS sh0 { zeroOp with kind := 1, b := shB } 3) = ⟨0, .whr 1⟩ := by
    rw [askW, if_pos (show Vw.rightB (beginS sh0 { zeroOp with kind := 1, b := shB } 3).v = false from zeroV_not)]
    rfl
  rw [e2]
  rfl
theorem shAsk : askW { sh1 with v := shV } = ⟨7, .app 1 shB⟩ := by
  rw [askW, if_neg (by rw [show Vw.rightB ({ sh1 with v := shV } : ClW).v = true from shRight]; decide), if_pos (by rfl)]
  rfl
theorem shSee : seeS sh1 shV 4 = (sh2, [⟨7, .app 1 shB⟩]) := by
  rw [seeS, if_neg (by rintro (e | e); rw [shRight] at e; cases e; exact absurd e (by decide)), if_neg (by decide), shAsk]
  rfl
theorem shTick1 : tickS sh2 13 = (sh2, []) := by
  rw [tickS, if_pos (.inr (by decide))]
theorem shTick2 : tickS sh2 14 = ({ sh2 with asked := 14 }, [⟨0, .whr 1⟩, ⟨7, .app 1 shB⟩]) := by
  rw [tickS, if_neg (by rintro (e | e); cases e; exact absurd e (by decide)), if_neg (by rw [show Vw.rightB sh2.v = true from shRight]; decide)]
  have e2 : askW sh2 = ⟨7, .app 1 shB⟩ := shAsk
  rw [e2]
  rfl

set_option maxRecDepth 100000 in
set_option maxHeartbeats 1600000 in
theorem shown22_any (w : World) (hT : Tabs w) :
    Calls Tryd.prog 7 #[] w fun e w' => e = .returned (.bool true) ∧ Below w.heap.size w w' := by
  have CN := Lib.hid (new_ok 5 10 (by decide) w)
  have HM0 := Lib.hid (newR_is (fun _ => False) w.heap.size w 5 10 (Nat.le_refl _) (fun k hk => hk.elim))
  have hA := (Below.refl w.heap.size w).alloc (Nat.le_refl _) (.cells (newR 5 10).cells 94)
  have HA := Lib.hid hA
  have HT := Lib.hid hT
  clear hA hT
  go_enter Tryd.func7, Tryd.ntmps7
  go_wp2_with fail
  refine CN.out.mono ?_
  rintro e w0 ⟨rfl, rfl⟩
  generalize w.alloc (.cells (newR 5 10).cells 94) = w0 at *
  have hev : (w0.alloc (.cells #[.string ⟨#[107]⟩, .string ⟨#[]⟩] 88)).heap[w0.heap.size]? = some (.cells #[.string ⟨#[107]⟩, .string ⟨#[]⟩] 88) := heap_alloc_new _ _
  have hb1 := (Below.refl w0.heap.size w0).alloc (Nat.le_refl _) (.cells #[.string ⟨#[107]⟩, .string ⟨#[]⟩] 88)
  have hie : IsEvents (w0.alloc (.cells #[.string ⟨#[107]⟩, .string ⟨#[]⟩] 88)).heap.size (w0.alloc (.cells #[.string ⟨#[107]⟩, .string ⟨#[]⟩] 88)) (.slice (some ⟨w0.heap.size, 0, none⟩) 1 1) shE :=
    ⟨_, 1, rfl, by simp [shE], by unfold maxLen; omega, fun e => (by cases e), fun _ => ⟨_, 0, rfl, by rw [World.size_alloc]; omega, fun i hi => by
      obtain rfl : i = 0 := by simpa [shE] using hi
      exact ⟨by rw [Lib.cell_of_heap hev]; rfl, by rw [Lib.cell_of_heap hev]; rfl⟩⟩⟩
  have CA := Lib.hid (append_any (fun _ => False) w.heap.size w.heap.size (newR 5 10) _ (HM0.out.keep hb1) (by decide) (tabs_below HT.out (HA.out.trans (hb1.mono HA.out.size))) ⟨#[115]⟩ (-1) _ shE hie (by decide) 3 _ _ _ shAppend)
  have HB1 := Lib.hid (HA.out.trans (hb1.mono HA.out.size))
  clear hev hb1 hie
  go_wp2_with fail
  refine CA.out.mono ?_
  rintro e w1 ⟨va, rfl, R1, o1, hs1, hm1, st1, ho1, hp1, -⟩
  obtain ⟨oa, rfl, hda⟩ := plain_one hp1
  generalize w0.alloc (.cells #[.string ⟨#[107]⟩, .string ⟨#[]⟩] 88) = w0' at *
  have HS1 := Lib.hid hs1
  have HM1 := Lib.hid hm1
  have HO1 := Lib.hid ho1
  have HD1 := Lib.hid hda
  have hz1 : w.heap.size ≤ w1.heap.size := Nat.le_trans HB1.out.size st1.kept.size
  have HBW1 := Lib.hid (HB1.out.trans (st1.kept.below HB1.out.size (fun k hk => by
    rcases hk with e | e
    · omega
    · exact absurd e (by simp [newR, Value.ownBlock]))))
  clear hs1 hm1 st1 ho1 hp1 hda
  have hb2 := (((Below.refl w1.heap.size w1).alloc (Nat.le_refl _) (.cells #[.int .i64 7] 3)).alloc (by simp only [World.size_alloc]; omega) (.cells #[.int .i64 1] 3)).alloc (by simp only [World.size_alloc]; omega) (.cells #[.int .i64 0] 3)
  have g1 : (((w1.alloc (.cells #[.int .i64 7] 3)).alloc (.cells #[.int .i64 1] 3)).alloc (.cells #[.int .i64 0] 3)).heap[w1.heap.size]? = some (.cells #[.int .i64 7] 3) := by
    rw [Below.heap_alloc _ _ _ (by simp only [World.size_alloc]; omega), Below.heap_alloc _ _ _ (by simp only [World.size_alloc]; omega)]
    exact heap_alloc_new w1 (.cells #[.int .i64 7] 3)
  have g2 : (((w1.alloc (.cells #[.int .i64 7] 3)).alloc (.cells #[.int .i64 1] 3)).alloc (.cells #[.int .i64 0] 3)).heap[w1.heap.size + 1]? = some (.cells #[.int .i64 1] 3) := by
    rw [Below.heap_alloc _ _ _ (by simp only [World.size_alloc]; omega)]
    have := heap_alloc_new (w1.alloc (.cells #[.int .i64 7] 3)) (.cells #[.int .i64 1] 3)
    rwa [World.size_alloc] at this
  have g3 : (((w1.alloc (.cells #[.int .i64 7] 3)).alloc (.cells #[.int .i64 1] 3)).alloc (.cells #[.int .i64 0] 3)).heap[w1.heap.size + 2]? = some (.cells #[.int .i64 0] 3) := by
    have := heap_alloc_new ((w1.alloc (.cells #[.int .i64 7] 3)).alloc (.cells #[.int .i64 1] 3)) (.cells #[.int .i64 0] 3)
    rwa [World.size_alloc, World.size_alloc] at this
  have hiv : Vw.IsView (((w1.alloc (.cells #[.int .i64 7] 3)).alloc (.cells #[.int .i64 1] 3)).alloc (.cells #[.int .i64 0] 3)).heap.size (((w1.alloc (.cells #[.int .i64 7] 3)).alloc (.cells #[.int .i64 1] 3)).alloc (.cells #[.int .i64 0] 3)) (.agg #[.int .i64 1, .slice (some ⟨w1.heap.size, 0, none⟩) 1 1, .slice (some ⟨w1.heap.size + 1, 0, none⟩) 1 1, .slice (some ⟨w1.heap.size + 2, 0, none⟩) 1 1]) shV :=
    ⟨by decide, _, _, _, rfl, ints_lit g1 (by decide), ints_lit g2 (by decide), ints_lit g3 (by decide)⟩
  have hr1 : R1.rs.length ≤ 100000 := by rw [HM1.out.len, HS1.out]; decide
  have CT := Lib.hid (take_see (fun _ => False) w.heap.size w.heap.size R1 _ (HM1.out.keep hb2) hr1 _ shV hiv (by decide) 4 (fun _ => by rw [HS1.out]; decide) sh2 [⟨7, .app 1 shB⟩] (by rw [HS1.out]; exact shSee))
  have HB2 := Lib.hid hb2
  have HO1b := Lib.hid (HO1.out.below hb2)
  have HM1b := Lib.hid (HM1.out.keep hb2)
  clear hb2 g1 g2 g3 hiv hr1
  go_wp2_with fail
  refine CT.out.mono ?_
  rintro e w2 ⟨vb, rfl, R2, o2, hs2, hm2, st2, ho2, hp2, -⟩
  obtain ⟨ob, rfl, hdb⟩ := plain_one hp2
  have HS2 := Lib.hid hs2
  have HM2 := Lib.hid hm2
  have HO2 := Lib.hid ho2
  have HD2 := Lib.hid hdb
  have HO1c := Lib.hid (HO1b.out.keep HM1b.out st2)
  have HBW2 := Lib.hid ((HBW1.out.trans (HB2.out.mono hz1)).trans (st2.below HM1b.out))
  have CK := Lib.hid (tick_any (fun _ => False) w.heap.size w.heap.size R2 _ hm2 (by rw [hm2.len, hs2]; decide) 13 (fun _ => by rw [hs2]; decide) (by rw [hs2]; decide) sh2 [] (by rw [hs2]; exact shTick1))
  clear hs2 hm2 ho2 st2 hp2 hdb
  go_wp2_with fail
  refine CK.out.mono ?_
  rintro e w3 ⟨vd, rfl, R3, o3, hs3, hm3, st3, ho3, hp3, -⟩
  obtain rfl := plain_nil hp3
  have HS3 := Lib.hid hs3
  have HM3 := Lib.hid hm3
  have HO3 := Lib.hid ho3
  have HO1d := Lib.hid (HO1c.out.keep HM2.out st3)
  have HO2d := Lib.hid (HO2.out.keep HM2.out st3)
  have HBW3 := Lib.hid (HBW2.out.trans (st3.below HM2.out))
  have CKK := Lib.hid (tick_any (fun _ => False) w.heap.size w.heap.size R3 _ hm3 (by rw [hm3.len, hs3]; decide) 14 (fun _ => by rw [hs3]; decide) (by rw [hs3]; decide) { sh2 with asked := 14 } [⟨0, .whr 1⟩, ⟨7, .app 1 shB⟩] (by rw [hs3]; exact shTick2))
  clear hs3 hm3 ho3 st3 hp3
  go_wp2_with fail
  refine CKK.out.mono ?_
  rintro e w4 ⟨vg, rfl, R4, o4, hs4, hm4, st4, ho4, hp4, -⟩
  obtain ⟨oc, og, rfl, hdc, hdg⟩ := plain_two hp4
  have ha := HO1d.out.keep HM3.out st4
  have hb := HO2d.out.keep HM3.out st4
  obtain ⟨b1, rfl, e1⟩ := ha.one
  obtain ⟨b2, rfl, e2⟩ := hb.one
  obtain ⟨a3, rfl⟩ := HO3.out.nil
  obtain ⟨b4, rfl, e4, e5⟩ := ho4.two
  rw [HD1.out] at e1
  rw [HD2.out] at e2
  rw [hdc] at e4
  rw [hdg] at e5
  simp only at e1 e2 e4 e5
  have hpe : R4.s.pending = true := by rw [hs4]; rfl
  have hcp := pending_any (fun _ => False) w.heap.size w.heap.size R4 _ hm4
  rw [hpe] at hcp
  have CP := Lib.hid hcp
  have HBW4 := Lib.hid (HBW3.out.trans (st4.below HM3.out))
  clear ha hb ho4 hs4 hm4 st4 hp4 hdc hdg hpe hcp
  go_wp2_with fail
  refine CP.out.mono ?_
  rintro e w5 ⟨rfl, rfl⟩
  go_wp2_with fail
  go_ret
  exact ⟨rfl, HBW4.out⟩
end Go.Proofs.YtapgjjfndbfnpaaDoor
