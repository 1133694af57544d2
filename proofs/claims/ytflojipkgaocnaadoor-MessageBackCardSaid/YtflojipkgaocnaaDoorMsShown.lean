/-
  The walk of bucketlinelaw7.shown. Printed by gen_msshown.py of this claim's writer.
-/
import Derived.Test.YtflojipkgaocnaaDoorMsFlat
namespace Go.Proofs.YtflojipkgaocnaaDoor
open Go.RowKit
set_option linter.unusedSimpArgs false
set_option linter.unusedVariables false

theorem shown_take1 : takeM [5, 9] = (some (.whr 9), 0) := by
  have h := takeM_put (m := .whr 9) (by decide)
  have e : (putM (.whr 9)).data.toList = [5, 9] := by
    rw [putM_list (by decide)]
    show UInt8.ofNat 5 :: putN (clampN 9) = _
    rw [show clampN 9 = 9 from by decide, putN_small (by decide)]
    rfl
  rw [e] at h
  exact h
theorem shown_take2 : takeM [5, 9, 0] = (none, 2) := by
  have h := takeM_more (m := .whr 9) (by decide) 0
  have e : (putM (.whr 9)).data.toList = [5, 9] := by
    rw [putM_list (by decide)]
    show UInt8.ofNat 5 :: putN (clampN 9) = _
    rw [show clampN 9 = 9 from by decide, putN_small (by decide)]
    rfl
  rw [e] at h
  exact h
theorem shown_take3 : takeM [99] = (none, 2) := by
  rw [takeM, if_pos (by decide)]
theorem shown_put : putM (.ack 1 2 300) = ⟨#[8, 1, 2, 172, 2]⟩ := by
  apply ext_listE
  rw [putM_list (by decide)]
  show UInt8.ofNat 8 :: (putN (clampN 1) ++ (putN (clampN 2) ++ putN (clampN 300))) = _
  rw [show clampN 1 = 1 from by decide, show clampN 2 = 2 from by decide, show clampN 300 = 300 from by decide, putN_small (show 1 < 128 by decide), putN_small (show 2 < 128 by decide), putN_large (show ¬ 300 < 128 by decide), putN_small (show 300 / 128 < 128 by decide)]
  rfl

set_option maxRecDepth 100000 in
set_option maxHeartbeats 6400000 in
theorem shown_any (w : World) (hT : Tabs w) : Calls Tryd.prog 7 #[] w fun r w' => r = .returned (.bool true) ∧ Below w.heap.size w w' := by
  have HT := Lib.hid hT
  have C1 := Lib.hid (takeM_any [5, 9] _ _ shown_take1 (by simp) w hT)
  have C2 := Lib.hid (fun (X : World) (hX : Below w.heap.size w X) => takeM_any [5, 9, 0] _ _ shown_take2 (by simp) X (tabs_below HT.out hX))
  have C3 := Lib.hid (fun (X : World) (hX : Below w.heap.size w X) => takeM_any [99] _ _ shown_take3 (by simp) X (tabs_below HT.out hX))
  have CP := Lib.hid (fun (X : World) (hX : Below w.heap.size w X) => putM_any X.heap.size (.iface 53 (.agg #[.int .i64 1, .int .i64 2, .int .i64 300])) (.ack 1 2 300) _ shown_put X rfl (Nat.le_refl _) (tabs_below HT.out hX) trivial)
  have q1 : ((⟨#[8, 1, 2, 172, 2]⟩ : ByteArray).toList == (⟨#[8, 1, 2, 172, 2]⟩ : ByteArray).toList) = true := by simp
  clear hT
  go_enter Tryd.func7, Tryd.ntmps7
  go_wp2_with fail
  refine C1.out.mono ?_
  rintro r w1 ⟨v1, rfl, -, hm1, hb1⟩
  have hm := hm1 (.whr 9) rfl
  have HM := Lib.hid hm
  obtain rfl := hm
  have HB1 := Lib.hid hb1
  clear hm1 hb1
  go_wp2_with fail
  refine (C2.out _ HB1.out).mono ?_
  rintro r w2 ⟨v2, rfl, hn2, -, hb2⟩
  obtain rfl := hn2 rfl
  have HB2 := Lib.hid (bstep HB1.out hb2)
  clear hn2 hb2
  go_wp2_with fail
  refine (C3.out _ HB2.out).mono ?_
  rintro r w3 ⟨v3, rfl, hn3, -, hb3⟩
  obtain rfl := hn3 rfl
  have HB3 := Lib.hid (bstep HB2.out hb3)
  clear hn3 hb3
  go_wp2_with fail
  refine (flat_whr w3.heap.size _ 9 w3 rfl (Nat.le_refl _)).mono ?_
  rintro r w4 ⟨v4, rfl, hf, hb4⟩
  have HB4 := Lib.hid (bstep HB3.out hb4)
  obtain ⟨nv, cv, sv, bv, mv, ev, vv, lv, rfl, g1, g2, g3, g4, g5, g6, g7, g8⟩ := hf
  obtain ⟨_, _, rfl⟩ := g1.form
  obtain ⟨_, _, rfl⟩ := g2.form
  obtain ⟨_, _, rfl⟩ := g3.form
  obtain ⟨_, _, rfl⟩ := g4.form
  obtain ⟨_, _, rfl⟩ := g5.form
  obtain ⟨_, _, rfl⟩ := g6.form
  obtain ⟨_, _, rfl⟩ := g7.form
  obtain ⟨_, _, rfl⟩ := g8.form
  clear g1 g2 g3 g4 g5 g6 g7 g8 hb4
  simp only [flatM, zeroF, zeroB]
  have HA := Lib.hid (Below.refl w4.heap.size w4)
  go_wp2_with fail
  refine (CP.out _ (HB4.out.alloc (by have := HB4.out.size; omega) _)).mono ?_
  rintro r w5 ⟨rfl, hb5⟩
  have y0 : w5.cell? ⟨w4.heap.size, 0, none⟩ = some (.int .i64 5) := (hb5.cell (p := ⟨w4.heap.size, 0, none⟩) (by simp only [World.size_alloc]; omega)).trans (by simp)
  have HB5 := Lib.hid (bstep (HB4.out.alloc (by have := HB4.out.size; omega) _) hb5)
  clear hb5
  go_wp2_with fail
  refine (right_nil _).mono ?_
  rintro r w6 ⟨rfl, hb6⟩
  have HB6 := Lib.hid (bstep HB5.out hb6)
  clear hb6
  go_wp2_with fail
  refine (epoch_nil _).mono ?_
  rintro r w7 ⟨rfl, hb7⟩
  go_wp2_with fail
  go_ret
  exact ⟨rfl, bstep HB6.out hb7⟩
end Go.Proofs.YtflojipkgaocnaaDoor
