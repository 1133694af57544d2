/-
  The walk of (*client.Client).Tick.
-/
import Derived.Test.YtapgjjfndbfnpaaDoorCliApp
namespace Go.Proofs.YtapgjjfndbfnpaaDoor
open Go.RowKit
set_option linter.unusedSimpArgs false
set_option linter.unusedVariables false

set_option maxRecDepth 100000 in
set_option maxHeartbeats 1600000 in
theorem tick_any (X : Nat → Prop) (lo c : Nat) (R : ClR) (w : World) (h : ClM X lo w c R) (hm : R.rs.length ≤ 100000) (now : Int) (hn : R.s.pending = true → R.s.ops ≠ []) (hno : Vw.I64 (now - R.s.asked))
    (s' : ClW) (outs : List OutW) (hs : tickS R.s now = (s', outs)) :
    Calls Tryd.prog 15 #[.pointer (some ⟨c, 0, none⟩), .int .i64 now] w fun e w' => ∃ v, e = .returned v ∧ Does X lo c R w s' outs v w' := by
  obtain rfl : (tickS R.s now).1 = s' := congrArg (·.1) hs
  obtain rfl : (tickS R.s now).2 = outs := congrArg (·.2) hs
  clear hs
  unfold tickS
  have HH := Lib.hid h
  have c1 := h.c1
  have c3 := h.c3
  have c5 := h.c5
  have ew : IntKind.i64.wrap (now - R.s.asked) = now - R.s.asked := by obtain ⟨h1, h2⟩ := hno; rw [IntKind.wrap_i64]; omega
  cases hp : R.s.pending with
  | false =>
    rw [if_pos (.inl rfl)]
    rw [hp] at c3
    clear h hn hp hno ew
    go_enter Tryd.func15, Tryd.ntmps15
    go_wp2_with fail
    go_quiet (fail)
    go_wp2_with fail
    go_ret
    exact ⟨_, rfl, does_none HH.out (below_drewN' _ _)⟩
  | true =>
    rw [hp] at c3
    obtain ⟨l, r, hlr⟩ := h.split (hn hp)
    have hl5 : l.length ≤ 1000000 := by
      have e5 : R.rs.length = l.length + 1 := by rw [hlr]; simp
      omega
    by_cases hlt : now - R.s.asked < R.s.wait
    · rw [if_pos (.inr hlt)]
      clear h hn hp hno hlr hl5
      go_enter Tryd.func15, Tryd.ntmps15
      go_wp2_with fail
      go_quiet (fail)
      go_wp2_with fail
      go_ret
      exact ⟨_, rfl, does_none HH.out (below_drewN' _ _)⟩
    · rw [if_neg (by rintro (e | e); cases e; exact hlt e)]
      have HP := Lib.hid hp
      have HLR := Lib.hid hlr
      cases hr : Vw.rightB R.s.v with
      | false =>
        rw [if_pos rfl]
        have CR := Lib.hid (fun (X' : World) (h' : ClM X lo X' c R) => Vw.right_any X'.heap.size _ R.s.v X' h'.view (Nat.le_refl _) h'.sm false hr.symm)
        clear h hn hp hno hr
        go_enter Tryd.func15, Tryd.ntmps15
        go_wp2_with fail
        go_quiet (fail)
        have hb0 := below_drewN' w nq
        have HM0 := Lib.hid (HH.out.keep hb0)
        have HB0 := Lib.hid hb0
        clear hb0 c1 c3 c5 ew
        generalize w.drewN nq = w0 at *
        have c6 := HM0.out.c6
        have c7 := HM0.out.c7
        have c8 := HM0.out.c8
        have c9 := HM0.out.c9
        go_wp2_with fail
        refine (CR.out _ HM0.out).mono ?_
        rintro e w1 ⟨rfl, hb1⟩
        have HM1 := Lib.hid (HM0.out.keep hb1)
        have HB1 := Lib.hid (HB0.out.trans (hb1.mono HB0.out.size))
        have CA := Lib.hid (ask_any X lo c _ _ HM1.out l r HLR.out hl5 now _ rfl)
        clear hb1 c6 c7 c8 c9 hlr
        go_wp2_with fail
        refine CA.out.mono ?_
        rintro e z ⟨rfl, hm3, hs3⟩
        have HM3 := Lib.hid hm3
        have HS3 := Lib.hid ((step_below (c := c) HB1.out (rfl : R.ov = R.ov)).trans hs3)
        clear hm3 hs3
        obtain ⟨o, ho⟩ : ∃ o, askO R r = o := ⟨_, rfl⟩
        rw [ho]
        have HO := Lib.hid ho
        clear ho
        simp only [OutR.val]
        go_wp2_with fail
        go_ret
        have hb := (Below.refl z.heap.size z).alloc (Nat.le_refl _) (.cells #[.int .i64 o.dst, o.m.val] 50)
        have h4 := askO_plain HM3.out HLR.out
        have h5 := askO_ok HM3.out HLR.out
        have e6 : askO (R.ask now) r = o := HO.out
        rw [e6] at h4 h5
        refine ⟨_, rfl, _, [o], ?_, HM3.out.keep hb, HS3.out.trans (step_below hb rfl), .inr ⟨z.heap.size, rfl, HS3.out.kept.size, heap_alloc_new _ _⟩, ?_, fun x hx => ?_⟩
        · first | rfl | (show ClW.mk _ _ _ _ _ _ _ = ClW.mk _ _ _ _ _ _ _; rw [HP.out])
        · rw [List.map_singleton, h4]
          rfl
        · obtain rfl := List.mem_singleton.1 hx
          exact OutR.ok_keep h5 hb
      | true =>
        rw [if_neg (by decide)]
        have CR := Lib.hid (fun (X' : World) (h' : ClM X lo X' c R) => Vw.right_any X'.heap.size _ R.s.v X' h'.view (Nat.le_refl _) h'.sm true hr.symm)
        clear h hn hp hno hr
        go_enter Tryd.func15, Tryd.ntmps15
        go_wp2_with fail
        go_quiet (fail)
        have hb0 := below_drewN' w nq
        have HM0 := Lib.hid (HH.out.keep hb0)
        have HB0 := Lib.hid hb0
        clear hb0 c1 c3 c5 ew
        generalize w.drewN nq = w0 at *
        have c6 := HM0.out.c6
        have c7 := HM0.out.c7
        have c8 := HM0.out.c8
        have c9 := HM0.out.c9
        go_wp2_with fail
        refine (CR.out _ HM0.out).mono ?_
        rintro e w1 ⟨rfl, hb1⟩
        have HM1 := Lib.hid (HM0.out.keep hb1)
        have HB1 := Lib.hid (HB0.out.trans (hb1.mono HB0.out.size))
        have cw := where_any X lo c _ _ HM1.out l r HLR.out hl5
        simp only [OutR.val, MsgR.val] at cw
        have CW := Lib.hid cw
        clear cw
        clear hb1 c6 c7 c8 c9 hlr
        go_wp2_with fail
        refine CW.out.mono ?_
        rintro e w2 ⟨rfl, hb2⟩
        have HM2 := Lib.hid (HM1.out.keep hb2)
        have HB2 := Lib.hid (HB1.out.trans (hb2.mono HB1.out.size))
        have CA := Lib.hid (ask_any X lo c _ _ HM2.out l r HLR.out hl5 now _ rfl)
        clear hb2
        go_wp2_with fail
        refine CA.out.mono ?_
        rintro e z ⟨rfl, hm3, hs3⟩
        have HM3 := Lib.hid hm3
        have HS3 := Lib.hid ((step_below (c := c) HB2.out (rfl : R.ov = R.ov)).trans hs3)
        clear hm3 hs3
        obtain ⟨o, ho⟩ : ∃ o, askO R r = o := ⟨_, rfl⟩
        rw [ho]
        have HO := Lib.hid ho
        clear ho
        simp only [OutR.val]
        go_wp2_with fail
        go_ret
        have hb := (Below.refl z.heap.size z).alloc (Nat.le_refl _) (.cells #[.int .i64 0, MsgR.val (.whr r.o.id), .int .i64 o.dst, o.m.val] 50)
        have h4 := askO_plain HM3.out HLR.out
        have h5 := askO_ok HM3.out HLR.out
        have e6 : askO (R.ask now) r = o := HO.out
        rw [e6] at h4 h5
        refine ⟨_, rfl, _, [⟨0, .whr r.o.id⟩, o], ?_, HM3.out.keep hb, HS3.out.trans (step_below hb rfl), .inr ⟨z.heap.size, rfl, HS3.out.kept.size, heap_alloc_new _ _⟩, ?_, fun x hx => ?_⟩
        · first | rfl | (show ClW.mk _ _ _ _ _ _ _ = ClW.mk _ _ _ _ _ _ _; rw [HP.out])
        · rw [List.map_cons, List.map_singleton, h4]
          simp only [OutR.plain, MsgR.plain, whereW, HH.out.lastS HLR.out]
          rfl
        · rcases List.mem_cons.1 hx with rfl | hx
          · trivial
          · obtain rfl := List.mem_singleton.1 hx
            exact OutR.ok_keep h5 hb
end Go.Proofs.YtapgjjfndbfnpaaDoor
