/-
  The walk of (*client.Client).Read.
-/
import Derived.Test.YtapgjjfndbfnpaaDoorCliApp
namespace Go.Proofs.YtapgjjfndbfnpaaDoor
open Go.RowKit
set_option linter.unusedSimpArgs false
set_option linter.unusedVariables false

set_option maxRecDepth 100000 in
set_option maxHeartbeats 1600000 in
theorem read_any (X : Nat → Prop) (lo c : Nat) (R : ClR) (w : World) (h : ClM X lo w c R) (hm : R.rs.length ≤ 100000) (hT : Tabs w) (stream : ByteArray) (from_ which now : Int) (hwh : Vw.I64 which)
    (s' : ClW) (outs : List OutW) (err : Nat) (hs : readS R.s stream from_ which now = (s', outs, err)) :
    Calls Tryd.prog 18 #[.pointer (some ⟨c, 0, none⟩), .string stream, .int .i64 from_, .int .i64 which, .int .i64 now] w fun e w' => ∃ v, e = .returned (.tuple #[v, .int .i64 err]) ∧ Does X lo c R w s' outs v w' := by
  obtain ⟨q, hq⟩ : ∃ q, busyB R.s = q := ⟨_, rfl⟩
  have CB := Lib.hid (busy_any X lo c R w h q hq)
  have HH := Lib.hid h
  cases q with
  | true =>
    obtain ⟨rfl, rfl, rfl⟩ : R.s = s' ∧ [] = outs ∧ 9 = err := by
      rw [readS, if_pos hq] at hs
      exact ⟨congrArg (·.1) hs, congrArg (·.2.1) hs, congrArg (·.2.2) hs⟩
    clear hs hq h
    go_enter Tryd.func18, Tryd.ntmps18
    go_wp2_with fail
    refine CB.out.mono ?_
    rintro e w1 ⟨rfl, rfl⟩
    go_wp2_with fail
    go_ret2
    exact ⟨_, rfl, does_none HH.out (Below.refl _ _)⟩
  | false =>
    rw [readS, if_neg (by rw [hq]; decide)] at hs
    obtain ⟨nb, hnb⟩ : ∃ nb, nameB stream = nb := ⟨_, rfl⟩
    have CN := Lib.hid (name_any stream nb hnb w hT)
    have no : ∀ (hr : readNo stream from_ = true), R.s = s' ∧ [] = outs ∧ 1 = err := fun hr => by
      rw [if_pos hr] at hs
      exact ⟨congrArg (·.1) hs, congrArg (·.2.1) hs, congrArg (·.2.2) hs⟩
    cases nb with
    | false =>
      obtain ⟨rfl, rfl, rfl⟩ := no (by rw [readNo, hnb]; rfl)
      clear hs hq h no hnb
      go_enter Tryd.func18, Tryd.ntmps18
      go_wp2_with fail
      refine CB.out.mono ?_
      rintro e w1 ⟨rfl, rfl⟩
      go_wp2_with fail
      refine CN.out.mono ?_
      rintro e w2 ⟨rfl, hb2⟩
      go_wp2_with fail
      go_ret2
      exact ⟨_, rfl, does_none HH.out hb2⟩
    | true =>
      by_cases hf : from_ < 0
      · obtain ⟨rfl, rfl, rfl⟩ := no (by rw [readNo, hnb, decide_eq_true hf]; rfl)
        clear hs hq h no hnb
        go_enter Tryd.func18, Tryd.ntmps18
        go_wp2_with fail
        refine CB.out.mono ?_
        rintro e w1 ⟨rfl, rfl⟩
        go_wp2_with fail
        refine CN.out.mono ?_
        rintro e w2 ⟨rfl, hb2⟩
        go_wp2_with fail
        go_ret2
        exact ⟨_, rfl, does_none HH.out hb2⟩
      · by_cases hl : 137438953472 < from_
        · obtain ⟨rfl, rfl, rfl⟩ := no (by rw [readNo, hnb, decide_eq_true hl, Bool.or_true])
          clear hs hq h no hnb
          go_enter Tryd.func18, Tryd.ntmps18
          go_wp2_with fail
          refine CB.out.mono ?_
          rintro e w1 ⟨rfl, rfl⟩
          go_wp2_with fail
          refine CN.out.mono ?_
          rintro e w2 ⟨rfl, hb2⟩
          go_wp2_with fail
          go_ret2
          exact ⟨_, rfl, does_none HH.out hb2⟩
        · obtain ⟨rfl, rfl, rfl⟩ : beginS { R.s with which := which } { zeroOp with kind := 2, stream := stream, from_ := from_ } now = s' ∧ [askW (beginS { R.s with which := which } { zeroOp with kind := 2, stream := stream, from_ := from_ } now)] = outs ∧ 0 = err := by
            rw [if_neg (by rw [readNo, hnb, decide_eq_false hf, decide_eq_false hl]; decide)] at hs
            exact ⟨congrArg (·.1) hs, congrArg (·.2.1) hs, congrArg (·.2.2) hs⟩
          clear hs hq no hnb h
          have i1 : from_ ≤ 137438953472 := by omega
          have i2 : 0 ≤ from_ := by omega
          go_enter Tryd.func18, Tryd.ntmps18
          go_wp2_with fail
          refine CB.out.mono ?_
          rintro e w1 ⟨rfl, rfl⟩
          go_wp2_with fail
          refine CN.out.mono ?_
          rintro e w2 ⟨rfl, hb2⟩
          have h2 := HH.out.keep hb2
          have c4 := h2.c4
          have f4 := h2.fr 4
          have h3 : ClM X lo (w2.setCell ⟨c, 4, none⟩ (.int .i64 which)) c { R with s := { R.s with which := which } } := h2.put 4 (.int .i64 which) { R.s with which := which } rfl rfl hwh rfl
          have HS := Lib.hid ((step_below (c := c) hb2 (rfl : R.ov = R.ov)).trans (ClM.putStep c R w2 4 (.int .i64 which) { R.s with which := which }))
          have CBG := Lib.hid (begin_any X lo c { R with s := { R.s with which := which } } _ h3 hm ⟨{ zeroOp with kind := 2, stream := stream, from_ := from_ }, .slice none 0 0, .slice none 0 0⟩ now (eva_nil _ _) (eva_nil _ _) _ rfl)
          clear h2 h3 hb2
          simp only [zeroOp, zeroOut] at CBG
          go_wp2_with fail
          refine CBG.out.mono ?_
          rintro e w3 ⟨v, ov, rfl, hm3, hs3, ho3⟩
          have HM3 := Lib.hid hm3
          have HS3 := Lib.hid hs3
          have HO3 := Lib.hid ho3
          clear hm3 hs3 ho3
          go_wp2_with fail
          go_ret2
          exact ⟨v, rfl, does_begin HS.out HM3.out HS3.out HO3.out _ (by simp only [OpR.begun, HH.out.len, zeroOp, zeroOut])⟩
end Go.Proofs.YtapgjjfndbfnpaaDoor
