/-
  The walk of message.parts at Result. Printed by gen_mshav.py of this claim's writer.
-/
import Derived.Test.YtflojipkgaocnaaGreatDoorMsHav
import Derived.Test.YtflojipkgaocnaaGreatDoorMsContE
namespace Go.Proofs.YtflojipkgaocnaaGreatDoor
open Go.RowKit
set_option linter.unusedSimpArgs false
set_option linter.unusedVariables false

theorem run_fieldResult (x0 x1 x2 x3 : Value) (W : World) : (Instr.field 83 (.agg #[x0, x1, x2, x3]) 3).run Tryz.prog W = .ok x3 W := by kernel_rfl
theorem rightE_light {e : EV} (h : rightE e = true) : LightE e := by
  obtain ⟨h1, h2⟩ := rightE_size h
  exact ⟨by omega, by omega⟩
theorem putE_le (e : EV) : (putE e).size ≤ 812 := by
  unfold putE
  split
  · rename_i h; exact bytesE_size (rightE_light h)
  · exact Nat.zero_le _
theorem catE_le : ∀ l : List EV, (catL (fun v => (putE v).data.toList) l).length ≤ 812 * l.length
  | [] => by simp [catL]
  | e :: l => by
    have h1 := catE_le l
    have h2 := putE_le e
    have h3 := size_listE (putE e)
    have h4 : ((fun v => (putE v).data.toList) e).length = (putE e).size := h3
    rw [catL_cons, List.length_append, List.length_cons]
    omega
/-- Put, of any event. -/
theorem putE_all (e : EV) (s : ByteArray) (hs : putE e = s) (w : World) (hT : Tabs w) :
    Calls Tryz.prog 46 #[.agg #[.string e.kind, .string e.data]] w fun r w' => r = .returned (.string s) ∧ Below w.heap.size w w' := by
  cases hq : rightE e with
  | true => exact putE_any e (rightE_light hq) s hs w hT
  | false =>
    have hb0 := bx_new (w := w) (.cells #[.string e.kind, .string e.data] 55)
    have C := Lib.hid (right_any e _ hq _ (tabs_below hT (bx_below hb0)))
    obtain rfl : ⟨#[]⟩ = s := by rw [← hs, putE, hq, if_neg (by decide)]
    clear hs hq
    go_enter Tryz.func46, Tryz.ntmps46
    go_wp2_with fail
    refine C.out.mono ?_
    rintro r w1 ⟨rfl, hb1⟩
    go_wp2_with fail
    go_ret
    exact ⟨rfl, bx_below (bx_more hb0 hb1)⟩

set_option maxRecDepth 100000 in
set_option maxHeartbeats 6400000 in
theorem parts_res (B : Nat) (v : Value) (a b c : Int) (l : List EV) (w : World) (h : IsMsg B w v (.res a b c l)) (hB : B ≤ w.heap.size) (hT : Tabs w) (hl : l.length ≤ 1000) :
    Calls Tryz.prog 25 #[v] w fun en w' => GotRest (.res a b c l) w en w' := by
  have HK : HasKind v 14 := hasKind h
  obtain ⟨lv, rfl, he⟩ := h
  have HE := Lib.hid he
  have HT := Lib.hid hT
  obtain ⟨ea, ec, rfl⟩ := he.form
  obtain ⟨T, p, F, hv, hm, hcf, hc⟩ := HK
  injection hv with hv1 hv2
  subst hv1 hv2
  have HC := Lib.hid hc
  have hok : (Msg.res a b c l).restOk = (decide (l.length ≤ 16) && l.all rightE) := rfl
  obtain ⟨q, hq⟩ : ∃ q, l.all rightE = q := ⟨_, rfl⟩
  have hqn : l.any (fun x => !rightE x) = !q := by rw [← hq]; exact any_not _ _
  rw [hq] at hok
  have HOK := Lib.hid hok
  have CON := Lib.hid (fun (X : World) (hX : Below w.heap.size w X) => conE_any B _ l (!q) hqn X (HE.out.keep hX hB) (Nat.le_trans hB hX.size) (tabs_below HT.out hX))
  have ta : ∀ (W : World) (v : Value), (Instr.typeAssert (.iface 83 v) 34 83 false).run Tryz.prog W = .ok v W := fun W v => by kernel_rfl
  have fa := run_fieldResult
  have HB0 := Lib.hid ((Below.refl w.heap.size w).alloc (Nat.le_refl _) (.cells #[.pointer none, .slice none 0 0] 100))
  have CN := Lib.hid (fun X : World => pN_any (l.length : Int) X)
  have zn := pN_size (l.length : Int)
  have CW0 := Lib.hid (fun b X hX hY => writeString_any b b [] (pN (l.length : Int)) X hX (by simp only [List.length_nil]; omega) hY)
  have BN := Lib.hid (builder_new w)
  clear he hT hc hok hq hqn zn
  go_enter Tryz.func25, Tryz.ntmps25
  go_wp2_with fail
  refine (HC.out _).mono ?_
  rintro en w1 ⟨rfl, hb1⟩
  have HA1 := Lib.hid (bstep HB0.out hb1)
  have BN1 := Lib.hid (builder_below hb1 BN.out)
  clear hb1
  go_wp2_with fail
  refine (CN.out _).mono ?_
  rintro en w2 ⟨rfl, hb2⟩
  have HA2 := Lib.hid (bstep HA1.out hb2)
  have BN2 := Lib.hid (builder_below hb2 BN1.out)
  clear hb2
  go_wp2_with fail
  refine (CW0.out _ _ BN2.out HA2.out.size).mono ?_
  rintro en w3 ⟨rfl, bn3, hb3⟩
  have BN3 := Lib.hid bn3
  have HA3 := Lib.hid (HA2.out.trans hb3)
  clear bn3 hb3
  go_wp2_with fail
  have HB := Lib.hid (Below.refl w.heap.size w)
  go_loopw [19, 153] (fun _ t153 wr => ∃ j : Nat, j ≤ l.length ∧ t153 = .int .i64 j ∧ Lib.IsBuilder 100 5 w.heap.size w.heap.size (bcells (putN (clampN l.length) ++ catL (fun v => (putE v).data.toList) (l.take j))) wr ∧ Below w.heap.size w wr) (fun _ t153 _ => l.length - (intOf t153).toNat)
  case atStart => exact ⟨0, Nat.zero_le _, rfl, (by rw [show catL (fun v => (putE v).data.toList) (l.take 0) = [] from rfl, List.append_nil]; exact BN3.out), HA3.out⟩
  case round =>
    obtain ⟨j, hj, rfl, bnj, hbj⟩ := hrel
    have BNJ := Lib.hid bnj
    have HBJ := Lib.hid hbj
    clear bnj hbj
    by_cases hlt : j < l.length
    · obtain ⟨b', off, cap', he, hblk, _, hc1, hc2⟩ := (HE.out.keep HBJ.out hB).get j hlt
      obtain ⟨rfl, -, rfl⟩ : ea = some ⟨b', off, none⟩ ∧ l.length = l.length ∧ ec = cap' := by injection he with e1 e2 e3; exact ⟨e1, e2, e3⟩
      clear he
      have HTK := Lib.hid (catL_take (put := (fun v => (putE v).data.toList)) hlt)
      have zk := catE_le (l.take j)
      rw [List.length_take] at zk
      have z6 := putN_len6 (clampN_le (l.length : Int))
      obtain ⟨y, hy⟩ : ∃ y, l[j] = y := ⟨_, rfl⟩
      rw [hy] at hc1 hc2 HTK
      have i1 : (0 : Int) ≤ (j : Int) := by omega
      have i2 : (j : Int) < (l.length : Int) := by omega
      clear hy
      obtain ⟨Y, hY⟩ : ∃ Y, putE y = Y := ⟨_, rfl⟩
      have zy := putE_le y
      rw [hY] at zy
      simp only [hY] at HTK
      have HBX := Lib.hid ((Below.refl wr.heap.size wr).alloc (Nat.le_refl _) (.cells #[.string y.kind, .string y.data] 55))
      have CP := Lib.hid (fun (X : World) (hX : Below wr.heap.size wr X) => putE_all y Y hY X (tabs_below HT.out (bstep HBJ.out hX)))
      have CWS := Lib.hid (fun X hX hY => writeString_any w.heap.size w.heap.size (putN (clampN l.length) ++ catL (fun v => (putE v).data.toList) (l.take j)) Y X hX (by rw [List.length_append]; omega) hY)
      clear zk z6 zy hY
      go_wp2_with fail
      refine (CP.out _ HBX.out).mono ?_
      rintro r w8 ⟨rfl, hb8⟩
      have HB8 := Lib.hid (bstep HBX.out hb8)
      clear hb8
      go_wp2_with fail
      refine (CWS.out _ (builder_below HB8.out BNJ.out) (bstep HBJ.out HB8.out).size).mono ?_
      rintro r w9 ⟨rfl, bn9, hb9⟩
      have BN9 := Lib.hid bn9
      have HB9 := Lib.hid ((bstep HBJ.out HB8.out).trans hb9)
      clear bn9 hb9
      go_wp2_with fail
      go_roundw
      case rel =>
        refine ⟨j + 1, by omega, by go_num, ?_, HB9.out⟩
        rw [HTK.out, ← List.append_assoc]
        exact BN9.out
      case measure => simp [intOf]; omega

    · have g : ¬ ((j : Int) < (l.length : Int)) := by omega
      have hkl : l.take j = l := List.take_of_length_le (by omega)
      have bnl := BNJ.out
      rw [hkl] at bnl
      have BNL := Lib.hid bnl
      clear hkl bnl
      cases q with
      | true =>
        by_cases h30 : l.length ≤ 16
        · have g30 : (l.length : Int) ≤ 16 := by omega
          have H30 := Lib.hid h30
          clear h30
          go_wp2_with fail
          refine (builder_string _ _ _ _ BNL.out HBJ.out.size).mono ?_
          rintro r w8 ⟨rfl, hb8⟩
          have HB8 := Lib.hid (HBJ.out.trans hb8)
          clear hb8
          go_wp2_with fail
          refine (CON.out _ HB8.out).mono ?_
          rintro r w9 ⟨rfl, hb9⟩
          have HB9 := Lib.hid (bstep HB8.out hb9)
          clear hb9
          go_wp2_with fail
          go_ret2
          refine ⟨?_, HB9.out⟩
          rw [HOK.out, decide_eq_true H30.out]
          rfl
        · have g30 : ¬ (l.length : Int) ≤ 16 := by omega
          have H30 := Lib.hid h30
          clear h30
          go_wp2_with fail
          refine (builder_string _ _ _ _ BNL.out HBJ.out.size).mono ?_
          rintro r w8 ⟨rfl, hb8⟩
          have HB8 := Lib.hid (HBJ.out.trans hb8)
          clear hb8
          go_wp2_with fail
          go_ret2
          refine ⟨?_, HB8.out⟩
          rw [HOK.out, decide_eq_false H30.out, Bool.false_and]
          rfl
      | false =>
        by_cases h30 : l.length ≤ 16
        · have g30 : (l.length : Int) ≤ 16 := by omega
          have H30 := Lib.hid h30
          clear h30
          go_wp2_with fail
          refine (builder_string _ _ _ _ BNL.out HBJ.out.size).mono ?_
          rintro r w8 ⟨rfl, hb8⟩
          have HB8 := Lib.hid (HBJ.out.trans hb8)
          clear hb8
          go_wp2_with fail
          refine (CON.out _ HB8.out).mono ?_
          rintro r w9 ⟨rfl, hb9⟩
          have HB9 := Lib.hid (bstep HB8.out hb9)
          clear hb9
          go_wp2_with fail
          go_ret2
          refine ⟨?_, HB9.out⟩
          rw [HOK.out, Bool.and_false]
          rfl
        · have g30 : ¬ (l.length : Int) ≤ 16 := by omega
          have H30 := Lib.hid h30
          clear h30
          go_wp2_with fail
          refine (builder_string _ _ _ _ BNL.out HBJ.out.size).mono ?_
          rintro r w8 ⟨rfl, hb8⟩
          have HB8 := Lib.hid (HBJ.out.trans hb8)
          clear hb8
          go_wp2_with fail
          go_ret2
          refine ⟨?_, HB8.out⟩
          rw [HOK.out, decide_eq_false H30.out, Bool.false_and]
          rfl

end Go.Proofs.YtflojipkgaocnaaGreatDoor
