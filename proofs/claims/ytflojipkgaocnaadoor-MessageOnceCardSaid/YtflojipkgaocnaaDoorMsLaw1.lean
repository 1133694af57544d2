/-
  The walk of bucketlinelaw7.MessageOnce. Printed by gen_mslaw1.py of this claim's writer.
-/
import Derived.Test.YtflojipkgaocnaaDoorMsShown
import Derived.Deep.RegionHeld3
namespace Go.Proofs.YtflojipkgaocnaaDoor
open Go.RowKit
set_option linter.unusedSimpArgs false
set_option linter.unusedVariables false

theorem iface_neq (T : TypeId) (p : Value) (W : World) : (binOp .neq 34 (.iface T p) .nilIface).run Tryd.prog W = .ok (.bool true) W := by kernel_rfl
theorem iface_eql (T : TypeId) (p : Value) (W : World) : (binOp .eql 34 (.iface T p) .nilIface).run Tryd.prog W = .ok (.bool false) W := by kernel_rfl
theorem nil_eql (W : World) : (binOp .eql 34 .nilIface .nilIface).run Tryd.prog W = .ok (.bool true) W := by kernel_rfl
theorem nil_neq (W : World) : (binOp .neq 34 .nilIface .nilIface).run Tryd.prog W = .ok (.bool false) W := by kernel_rfl

set_option maxRecDepth 100000 in
set_option maxHeartbeats 6400000 in
theorem walkMessageOnce (s : ByteArray) (hs : s.size ≤ maxLen) (W : World) (hT : Tabs W) :
    Calls Tryd.prog 4 #[.string s] W fun r w' => r = .returned (.bool true) ∧ Below W.heap.size W w' := by
  have HT := Lib.hid hT
  have hs' := hs
  unfold maxLen at hs'
  by_cases h6 : 6000 < s.size
  · have g6 : (6000 : Int) < (s.size : Int) := by omega
    clear hT h6
    go_enter Tryd.func4, Tryd.ntmps4
    go_wp2_with fail
    refine (shown_any _ HT.out).mono ?_
    rintro r w1 ⟨rfl, hb1⟩
    go_wp2_with fail
    go_ret
    exact ⟨rfl, hb1⟩
  · have g6 : ¬ (6000 : Int) < (s.size : Int) := by omega
    obtain ⟨x, e, hx⟩ : ∃ a b, takeM s.data.toList = (a, b) := ⟨_, _, rfl⟩
    have CT := Lib.hid (fun (X : World) (hX : Below W.heap.size W X) => (show Calls Tryd.prog 13 #[.string s] X fun r w' => GotTake x e X r w' from takeM_any s.data.toList x e hx (by rw [size_listE]; omega) X (tabs_below HT.out hX)))
    by_cases he : e = 0
    · subst he
      obtain ⟨m, rfl, hr, hput, c, t, hct, hck⟩ := takeM_ok _ hx
      have hsm : putM m = s := ext_listE hput.symm
      have h0 : 0 < s.size := by rw [← size_listE, hct]; simp
      have hidx : ∀ h : 0 < s.size, ((s[0]'h).toNat : Int) = (m.kind : Int) := by
        intro h
        rw [← hck]
        have e1 : s.data.toList[0]? = some c := by rw [hct]; rfl
        have e2 : s.data.toList[0]? = some (s[0]'h) := by
          rw [List.getElem?_eq_getElem (by rw [size_listE]; exact h)]
          rfl
        rw [e2] at e1
        injection e1 with e1
        rw [e1]
      have hL := ok_light (right_okM hr)
      have CR := Lib.hid (fun (X : World) (u : Value) (B : Nat) (hu : IsMsg B X u m) (hB : B ≤ X.heap.size) (hX : Below W.heap.size W X) => rightM_any B u m true hr X hu hB (tabs_below HT.out hX) hL)
      have CP := Lib.hid (fun (X : World) (u : Value) (B : Nat) (hu : IsMsg B X u m) (hB : B ≤ X.heap.size) (hX : Below W.heap.size W X) => putM_any B u m s hsm X hu hB (tabs_below HT.out hX) hL)
      have i0 : (0 : Int) < (s.size : Int) := by omega
      have q1 : (s.toList == s.toList) = true := by simp
      have n1 := iface_neq
      clear hT h6 hx hr hput hct hck hsm hL hs
      go_enter Tryd.func4, Tryd.ntmps4
      go_wp2_with fail
      refine (shown_any _ HT.out).mono ?_
      rintro r w1 ⟨rfl, hb1⟩
      have HB1 := Lib.hid hb1
      clear hb1
      go_wp2_with fail
      refine (CT.out _ HB1.out).mono ?_
      rintro r w2 ⟨v, rfl, -, hm2, hb2⟩
      have hm := hm2 m rfl
      have HM := Lib.hid hm
      obtain ⟨Tv, pv, Fv, rfl, hmt, hcf, hc⟩ := hasKind hm
      have HC := Lib.hid hc
      have HB2 := Lib.hid (bstep HB1.out hb2)
      clear hm hm2 hb2 hc
      have KEEP := Lib.hid (fun (X X' : World) (h : Tabs X ∧ Below w2.heap.size w2 X) (k : Below X.heap.size X X') => (⟨tabs_below h.1 k, bstep h.2 k⟩ : Tabs X' ∧ Below w2.heap.size w2 X'))
      have hh : Tabs w2.drew ∧ Below w2.heap.size w2 w2.drew := ⟨tabs_below (tabs_below HT.out HB2.out) ((Below.refl w2.heap.size w2).drew), (Below.refl _ _).drew⟩
      have eK : IntKind.i64.wrap (m.kind : Int) = (m.kind : Int) := by have := (kind_bd m).2; rw [IntKind.wrap_i64]; omega
      go_wp2_with fail
      go_region_held3 (fun X' => Tabs X' ∧ Below w2.heap.size w2 X') (first | assumption | exact hh | exact KEEP.out _ _ (by assumption) (by assumption))
        (first
          | ((with_reducible refine (CR.out _ _ _ (HM.out.keep hh.2 (Nat.le_refl _)) (hh.2.size) (bstep HB2.out hh.2)).mono ?_); rintro r w3 ⟨rfl, hb3⟩)
          | ((with_reducible refine (CP.out _ _ _ (HM.out.keep (KEEP.out _ _ hh hb3).2 (Nat.le_refl _)) ((KEEP.out _ _ hh hb3).2.size) (bstep HB2.out (KEEP.out _ _ hh hb3).2)).mono ?_); rintro r w4 ⟨rfl, hb4⟩)
          | ((with_reducible refine (HC.out _).mono ?_); rintro r w5 ⟨rfl, hb5⟩))
      all_goals
        have hF := KEEP.out _ _ (KEEP.out _ _ (KEEP.out _ _ hh hb3) hb4) hb5
        go_wp2_with fail
        go_ret
        exact ⟨rfl, bstep HB2.out hF.2⟩
    · have hn := takeM_none _ hx he
      subst hn
      have ge : ((e : Int) != 0) = true := by simp; omega
      have n1 := nil_eql
      clear hT h6 hx he hs
      go_enter Tryd.func4, Tryd.ntmps4
      go_wp2_with fail
      refine (shown_any _ HT.out).mono ?_
      rintro r w1 ⟨rfl, hb1⟩
      have HB1 := Lib.hid hb1
      clear hb1
      go_wp2_with fail
      refine (CT.out _ HB1.out).mono ?_
      rintro r w2 ⟨v, rfl, hn, -, hb2⟩
      obtain rfl := hn rfl
      go_wp2_with fail
      go_ret
      exact ⟨rfl, bstep HB1.out hb2⟩
end Go.Proofs.YtflojipkgaocnaaDoor
